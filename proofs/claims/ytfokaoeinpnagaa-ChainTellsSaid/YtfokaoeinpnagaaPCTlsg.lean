/- A part of the proof of ChainTells: cut, joined and given short names by a program of this session (wip/tools/pack.py); Lean checks it. No condition. -/
import Derived.Test.YtfokaoeinpnagaaPCTlsf
import Derived.Test.YtfokaoeinpnagaaPCTlsd
set_option linter.unusedSectionVars false
set_option linter.unusedSimpArgs false
set_option linter.unusedVariables false
namespace Go.Proofs.Ytfokaoeinpnagaa.Ev
open Go
section
variable {Γ : Env} {F d:Nat} {q:Bool} {σ:St} {k:PV × St → Prop} {u:Tok k} {x y z:dY}
def Lm (σ:St) (sh:KS):CV → Option (Option (Nat × List (KV × FC)))
 | .one .fu=>some none
 | .one (.mp key)=>(nW σ key).bind fun o=>if o.1 = sh then some (some (key,o.2)) else none
 | _=>none
@[go_sem] theorem YE {sh:KS}:Lm σ sh (.one .fu) = some none:=rfl
section
variable {k : Option (Nat × List (KV × FC)) → Prop} {u:Tok k}
@[go_sem ↓] theorem aez {sh:KS} {key:Nat}:W k u (Lm σ sh (.one (.mp key))) ↔ W (fun o=>o.1 = sh ∧ k (some (key,o.2))) ⟨⟩ (nW σ key):=by
 simp only [Lm,dO,bq,bN,bH]
end
def sw (m:Option (Nat × List (KV × FC))) (a:KV):Option FC:=m.bind fun m=>q9 m.2 a
def cnt (m:Option (Nat × List (KV × FC))):Nat:=match m with
 | none=>0
 | some m=>m.2.length
@[go_sem] theorem YF {a:KV}:sw none a = none:=rfl
@[go_sem] theorem YG {key:Nat} {l:List (KV × FC)} {a:KV}:sw (some (key,l)) a = q9 l a:=rfl
@[go_sem] theorem YH : cnt none = 0:=rfl
@[go_sem] theorem YI {key:Nat} {l:List (KV × FC)}:cnt (some (key,l)) = l.length:=rfl
def lkv (z:FC) (ok:Bool) (r:Option FC):PV:=if ok then .uF [wV (r.getD z),.one (.f (.bool r.isSome))] else .c (wV (r.getD z))
@[go_sem] theorem aeA {z:FC} {r:Option FC}:lkv z true r = .uF [wV (r.getD z),.one (.f (.bool r.isSome))]:=rfl
@[go_sem] theorem aeB {z:FC} {r:Option FC}:lkv z false r = .c (wV (r.getD z)):=rfl
@[go_sem] theorem YJ {x:FV}:wV (.one x) = .one (.f x):=rfl
@[go_sem] theorem YK {xs:List FV}:wV (.agg xs) = .agg (xs.map .f):=rfl
@[go_sem ↓] theorem aeC {sh:KS} {z:FC} {ok:Bool}:W k u (cO Γ q σ d (.look sh z ok x y)) ↔ W (fun v=>W (fun w=>W (fun a=>a.ks = sh ∧ W (fun m=>k (lkv z ok (sw m a),σ)) ⟨⟩ (Lm σ sh v)) ⟨⟩ (keyOf w)) ⟨⟩ (val σ y)) ⟨⟩ (val σ x):=by
 simp only [cO,dO,bq,dw,bX,ne_eq,Decidable.not_not]
 refine cK fun v=>cK fun w=>cK fun a=>and_congr Iff.rfl ?_
 cases v with
 | agg l=>exact bY
 | one p =>
  cases p with
  | fu=>exact lF Iff.rfl
  | mp key =>
   simp only [Lm,nW]
   cases get σ.ob key with
   | none=>exact bY
   | some o =>
    cases o with
    | map sh' ents =>
     simp only [om,Option.bind_some]
     by_cases hs:sh' = sh
     ·rw [if_pos hs,if_pos hs];exact lF (by cases ok <;> exact Iff.rfl)
     ·rw [if_neg hs,if_neg hs];exact bY
    | _=>exact bY
  | _=>exact bY
@[go_sem ↓] theorem aeD : W k u (cO Γ q σ d (.IV x)) ↔ W (fun v=>W (fun n:Nat=>k (.c (.one (.f (.int .i64 (n:Int)))),σ)) ⟨⟩ (Ow σ v)) ⟨⟩ (val σ x):=by
 simp only [cO,dO,bq]
 refine cK fun v=>?_
 cases v with
 | agg l=>exact bY
 | one p =>
  cases p with
  | fu=>exact lF Iff.rfl
  | mp key =>
   simp only [Ow,nW]
   cases get σ.ob key with
   | none=>exact bY
   | some o=>cases o <;> first | exact bY | exact lF Iff.rfl
  | _=>exact bY
def upv (σ:St) (sh:KS) (a:KV) (p:FC × St):CV → Option St
 | .one (.mp key)=>(nW p.2 key).bind fun o=>if o.1 = sh then some (jk p.2 key (.map sh (wh o.2 a p.1))) else none
 | _=>none
@[go_sem ↓] theorem aeE {sh:KS}:W k u (cO Γ q σ d (.wT sh x y z)) ↔ W (fun v=>W (fun w=>W (fun a=>a.ks = sh ∧ W (fun w=>(q && (cells w).any gD) = false ∧ W (fun p=>W (fun s=>k (.c (.one .und),s)) ⟨⟩ (upv σ sh a p v)) ⟨⟩ (Wd σ w)) ⟨⟩ (val σ z)) ⟨⟩ (keyOf w)) ⟨⟩ (val σ y)) ⟨⟩ (val σ x):=by
 simp only [cO,dO,bq,dw,ne_eq,Decidable.not_not,Bool.not_eq_true]
 refine cK fun v=>cK fun w=>cK fun a=>and_congr Iff.rfl (cK fun w=>and_congr Iff.rfl (cK fun p=>?_))
 cases v with
 | agg l=>exact bY
 | one b =>
  cases b with
  | mp key =>
   simp only [upv,nW]
   cases get p.2.ob key with
   | none=>exact bY
   | some o =>
    cases o with
    | map sh' ents =>
     simp only [om,Option.bind_some]
     split
     ·exact lF Iff.rfl
     ·exact bY
    | _=>exact bY
  | _=>exact bY
section
variable {k : St → Prop} {u:Tok k} {sh:KS} {a:KV} {key:Nat}
@[go_sem ↓] theorem afQ {p:FC × St}:W k u (upv σ sh a p (.one (.mp key))) ↔ W (fun o=>o.1 = sh ∧ k (jk p.2 key (.map sh (wh o.2 a p.1)))) ⟨⟩ (nW p.2 key):=by
 simp only [upv,dO,bq,bN,bH]
end
def YL (σ:St) (sh:KS) (a:KV):CV → Option St
 | .one .fu=>some σ
 | .one (.mp key)=>(nW σ key).bind fun o=>if o.1 = sh then some (jk σ key (.map sh (AY o.2 a))) else none
 | _=>none
@[go_sem] theorem abO {sh:KS} {a:KV}:YL σ sh a (.one .fu) = some σ:=rfl
section
variable {k : St → Prop} {u:Tok k} {sh:KS} {a:KV} {key:Nat}
@[go_sem ↓] theorem afR : W k u (YL σ sh a (.one (.mp key))) ↔ W (fun o=>o.1 = sh ∧ k (jk σ key (.map sh (AY o.2 a)))) ⟨⟩ (nW σ key):=by
 simp only [YL,dO,bq,bN,bH]
end
@[go_sem ↓] theorem afS {sh:KS}:W k u (cO Γ q σ d (.del sh x y)) ↔ W (fun v=>W (fun w=>W (fun a=>a.ks = sh ∧ W (fun s=>k (.uF [],s)) ⟨⟩ (YL σ sh a v)) ⟨⟩ (keyOf w)) ⟨⟩ (val σ y)) ⟨⟩ (val σ x):=by
 simp only [cO,dO,bq,dw,ne_eq,Decidable.not_not]
 refine cK fun v=>cK fun w=>cK fun a=>and_congr Iff.rfl ?_
 cases v with
 | agg l=>exact bY
 | one b =>
  cases b with
  | fu=>exact lF Iff.rfl
  | mp key =>
   simp only [YL,nW]
   cases get σ.ob key with
   | none=>exact bY
   | some o =>
    cases o with
    | map sh' ents =>
     simp only [om,Option.bind_some]
     split
     ·exact lF Iff.rfl
     ·exact bY
    | _=>exact bY
  | _=>exact bY
def WA (σ:St):CV → Option (List (List FV))
 | .one .dN=>some []
 | .one (.f (.sl rows))=>some rows
 | .one (.own key _)=>(iE σ key).map (·.2)
 | _=>none
@[go_sem] theorem afT : WA σ (.one .dN) = some []:=rfl
@[go_sem] theorem afU {rows:List (List FV)}:WA σ (.one (.f (.sl rows))) = some rows:=rfl
@[go_sem] theorem afV {key n:Nat}:WA σ (.one (.own key n)) = (iE σ key).map (·.2):=rfl
def WB (q:Bool) (σ:St) (d sz bytes:Nat) (w:CV) (DF:List (List FV)):CV → Option (PV × St)
 | .one .dN=>if q = false ∧ DF.length * bytes ≤ 140737488355328 ∧ DF.all (fun r=>r.length == sz) then (new σ (dD d) (.row sz DF)).map fun s=>(.c (.one (.own (dD d) DF.length)),s) else none
 | .one (.own key n)=>(iE σ key).bind fun o=>if q = false ∧ (o.2.length + DF.length) * bytes ≤ 140737488355328 ∧ o.1 = sz ∧ n = o.2.length ∧ vE key w = false ∧ key % 2 = 0 ∧ DF.all (fun r=>r.length == sz) then
   some (.c (.one (.own key (o.2.length + DF.length))),jk (sub σ key .any) key (.row sz (o.2 ++ DF))) else none
 | _=>none
@[go_sem ↓] theorem afW {e:TypeId} {sz bytes:Nat}:W k u (cO Γ q σ d (.app e sz bytes x y)) ↔ W (fun v=>W (fun w=>W (fun l=>W k ⟨⟩ (WB q σ d sz bytes w l v)) ⟨⟩ (WA σ w)) ⟨⟩ (val σ y)) ⟨⟩ (val σ x):=by
 simp only [cO,dO,bq]
 refine cK fun v=>cK fun w=>?_
 have e:pV σ w = WA σ w:=by
  cases w with
  | agg l=>rfl
  | one p=>cases p with
   | f a=>cases a <;> rfl
   | own key n=>simp only [pV,WA,iE];cases get σ.ob key with | none=>rfl | some o=>cases o <;> rfl
   | _=>rfl
 rw [e]
 refine cK fun l=>?_
 cases v with
 | agg l=>exact bY
 | one p =>
  cases p with
  | dN=>exact Iff.rfl
  | own key n =>
   simp only [WB,iE]
   cases get σ.ob key with
   | none=>exact bY
   | some o=>cases o <;> exact Iff.rfl
  | _=>exact bY
@[go_sem ↓] theorem abP {sz bytes:Nat} {w:CV} {l:List (List FV)}:W k u (WB q σ d sz bytes w l (.one .dN)) ↔ (q = false ∧ l.length * bytes ≤ 140737488355328 ∧ l.all (fun r=>r.length == sz) = true) ∧ W (fun s=>k (.c (.one (.own (dD d) l.length)),s)) ⟨⟩ (new σ (dD d) (.row sz l)):=by
 simp only [WB,dO,bN,bX]
@[go_sem ↓] theorem abQ {sz bytes key n:Nat} {w:CV} {l:List (List FV)}:W k u (WB q σ d sz bytes w l (.one (.own key n))) ↔ W (fun o=>(q = false ∧ (o.2.length + l.length) * bytes ≤ 140737488355328 ∧ o.1 = sz ∧ n = o.2.length ∧ vE key w = false ∧ key % 2 = 0 ∧ l.all (fun r=>r.length == sz) = true) ∧ k (.c (.one (.own key (o.2.length + l.length))),jk (sub σ key .any) key (.row sz (o.2 ++ l)))) ⟨⟩ (iE σ key):=by
 simp only [WB,dO,bq,bN,bH]
def cov (σ:St) (sz:Nat) (i:Int):CV → Option (PV × St)
 | .one (.own key n)=>(iE σ key).bind fun o=>if o.1 = sz ∧ key % 2 = 0 ∧ 0 ≤ i ∧ i ≤ o.2.length then some (.c (.one (.own key i.toNat)),jk (sub σ key .any) key (.row sz (o.2.take i.toNat))) else none
 | _=>none
@[go_sem ↓] theorem aeF {sz:Nat}:W k u (cO Γ q σ d (.ET sz x y)) ↔ q = false ∧ W (fun v=>W (fun j=>W (fun p=>W k ⟨⟩ (cov σ sz p.2 v)) ⟨⟩ (int? j)) ⟨⟩ (val σ y)) ⟨⟩ (val σ x):=by
 simp only [cO,dO,bq,dw,Bool.not_eq_true]
 refine and_congr Iff.rfl (cK fun v=>cK fun j=>cK fun p=>?_)
 cases v with
 | agg l=>exact bY
 | one b =>
  cases b with
  | own key n =>
   simp only [cov,iE]
   cases get σ.ob key with
   | none=>exact bY
   | some o=>cases o <;> exact Iff.rfl
  | _=>exact bY
@[go_sem ↓] theorem afX {sz key n:Nat} {i:Int}:W k u (cov σ sz i (.one (.own key n))) ↔ W (fun o=>(o.1 = sz ∧ key % 2 = 0 ∧ 0 ≤ i ∧ i ≤ (o.2.length:Int)) ∧ k (.c (.one (.own key i.toNat)),jk (sub σ key .any) key (.row sz (o.2.take i.toNat)))) ⟨⟩ (iE σ key):=by
 simp only [cov,dO,bq,bN,bH]
def cvv (σ:St) (sz:Nat) (i:Int):CV → Option PL
 | .one (.own key n)=>(iE σ key).bind fun o=>if o.1 = sz ∧ 0 ≤ i ∧ i ≤ o.2.length then some (.vw key sz o.2.length i.toNat) else none
 | _=>none
@[go_sem ↓] theorem aeG {sz:Nat}:W k u (cO Γ q σ d (.cutV sz x y)) ↔ W (fun v=>W (fun j=>W (fun p=>W (fun l=>k (.c (.one l),σ)) ⟨⟩ (cvv σ sz p.2 v)) ⟨⟩ (int? j)) ⟨⟩ (val σ y)) ⟨⟩ (val σ x):=by
 simp only [cO,dO,bq]
 refine cK fun v=>cK fun j=>cK fun p=>?_
 cases v with
 | agg l=>exact bY
 | one b =>
  cases b with
  | own key n =>
   simp only [cvv,iE]
   cases get σ.ob key with
   | none=>exact bY
   | some o =>
    cases o with
    | row sz' rows=>simp only [Ll,Option.bind_some,bN,bH]
    | _=>exact bY
  | _=>exact bY
section
variable {k : PL → Prop} {u:Tok k}
@[go_sem ↓] theorem afY {sz key n:Nat} {i:Int}:W k u (cvv σ sz i (.one (.own key n))) ↔ W (fun o=>(o.1 = sz ∧ 0 ≤ i ∧ i ≤ (o.2.length:Int)) ∧ k (.vw key sz o.2.length i.toNat)) ⟨⟩ (iE σ key):=by
 simp only [cvv,dO,bq,bN,bH]
end
def vw? : CV → Option (Nat × Nat × Nat × Nat)
 | .one (.vw key z n lo)=>some (key,z,n,lo)
 | _=>none
@[go_sem] theorem aeH {a b c e:Nat}:vw? (.one (.vw a b c e)) = some (a,b,c,e):=rfl
@[go_sem ↓] theorem afZ {sz:Nat} {zs:List FV}:W k u (cO Γ q σ d (.Rl sz zs x)) ↔ W (fun v=>W (fun p=>W (fun o=>(o.1 = sz ∧ p.2.1 = sz ∧ zs.length = sz ∧ p.2.2.1 = o.2.length ∧ p.2.2.2 ≤ p.2.2.1) ∧ k (.uF [],jk σ p.1 (.row sz (o.2.take p.2.2.2 ++ List.replicate (p.2.2.1 - p.2.2.2) zs)))) ⟨⟩ (iE σ p.1)) ⟨⟩ (vw? v)) ⟨⟩ (val σ x):=by
 simp only [cO,dO,bq]
 refine cK fun v=>?_
 cases v with
 | agg l=>exact bY
 | one b =>
  cases b with
  | vw key z n lo =>
   simp only [vw?,bH,iE]
   cases get σ.ob key with
   | none=>exact bY
   | some o =>
    cases o with
    | row sz' rows=>simp only [Ll,bN,bH]
    | _=>exact bY
  | _=>exact bY
def RA (σ:St):CV → Option (List (List FV))
 | .one (.f (.sl rows))=>some rows
 | .one .dN=>some []
 | .one (.own key _)=>(iE σ key).bind fun o=>if o.1 = 1 then some o.2 else none
 | _=>none
@[go_sem] theorem af0 {rows:List (List FV)}:RA σ (.one (.f (.sl rows))) = some rows:=rfl
@[go_sem] theorem af2 : RA σ (.one .dN) = some []:=rfl
@[go_sem] theorem RB : bytesOf [] = some ⟨#[]⟩:=rfl
@[go_sem] theorem Oy {n:Int} {l:List (List FV)}:bytesOf ([.int .u8 n] :: l) = (bytesOf l).map fun s=>⟨#[UInt8.ofNat n.toNat] ++ s.data⟩:=rfl
section
variable {k : List (List FV) → Prop} {u:Tok k}
@[go_sem ↓] theorem af3 {key n:Nat}:W k u (RA σ (.one (.own key n))) ↔ W (fun o=>o.1 = 1 ∧ k o.2) ⟨⟩ (iE σ key):=by
 simp only [RA,dO,bq,bN,bH]
end
@[go_sem ↓] theorem af4 : W k u (cO Γ q σ d (.V8 x)) ↔ W (fun v=>W (fun l=>W (fun s=>k (.c (.one (.f (.str s))),σ)) ⟨⟩ (bytesOf l)) ⟨⟩ (RA σ v)) ⟨⟩ (val σ x):=by
 simp only [cO,dO,bq]
 refine cK fun v=>?_
 cases v with
 | agg l=>exact bY
 | one b =>
  cases b with
  | f a =>
   cases a with
   | sl rows=>simp only [RA,bq,bH,one]
   | _=>exact bY
  | dN=>simp only [RA,bH,bytesOf,one]
  | own key n =>
   simp only [RA,iE]
   cases get σ.ob key with
   | none=>exact bY
   | some o =>
    cases o with
    | row sz' rows=>simp only [Ll,Option.bind_some,bN,bq,bH,one]
    | _=>exact bY
  | _=>exact bY
@[go_sem ↓] theorem af5 {f:FuncId} {xs:List dY}:W k u (cO Γ q σ d (.Tg f xs)) ↔ W (fun l=>W (fun p=>k (.c (.one (.fn f p.1)),p.2)) ⟨⟩ (lN q σ l)) ⟨⟩ (jf σ xs):=by
 simp only [cO,dO,bq,bX]
@[go_sem ↓] theorem aeI {f:FuncId} {xs:List dY}:W k u (cO Γ q σ d (.zl f xs)) ↔ W (fun l=>W (fun fI=>W (fun r=>W (fun p=>W (fun s=>k (.c (.one (.own (dD d) p.2.length)),s)) ⟨⟩ (new σ (dD d) (.row p.1 p.2))) ⟨⟩ (Tk r.1)) ⟨⟩ (Γ f fI)) ⟨⟩ (Km l)) ⟨⟩ (jf σ xs):=by
 simp only [cO,rY,dO,bq,bX]
attribute [go_sem] avT NK avC Km
@[go_sem] theorem YM {sz:Nat} {rows:List (List FV)}:Tk [.one (.own sz rows)] = some (sz,rows):=rfl
@[go_sem ↓] theorem abR {gv:Bool} {f:FuncId} {xs:List dY}:W k u (cO Γ q σ d (.call gv f xs)) ↔ W (fun l=>W k ⟨⟩ (kQ Γ gv q σ d f l)) ⟨⟩ (jf σ xs):=by
 simp only [cO,dO,bq]
def fn? : CV → Option (FuncId × List (List FV))
 | .one (.fn f caps)=>some (f,caps)
 | _=>none
@[go_sem] theorem aeJ {f:FuncId} {caps:List (List FV)}:fn? (.one (.fn f caps)) = some (f,caps):=rfl
@[go_sem ↓] theorem af6 {xs:List dY}:W k u (cO Γ q σ d (.dyn x xs)) ↔ W (fun v=>W (fun p=>W (fun l=>W k ⟨⟩ (kQ Γ false q σ d p.1 (l ++ p.2.map fun c=>.one (.fp c)))) ⟨⟩ (jf σ xs)) ⟨⟩ (fn? v)) ⟨⟩ (val σ x):=by
 simp only [cO,dO,bq]
 refine cK fun v=>?_
 cases v with
 | agg l=>exact bY
 | one b =>
  cases b with
  | fn f caps=>simp only [fn?,bH,bq]
  | _=>exact bY
def Fw (gv:Bool) (args:List CV) (p:List AV × St) (r:List AV × List AV):Option St:=if (!gv && ((r.1.any wm || !p.1.all fF) && args.any (fun x=>(cells x).any gD))) = true then rX p.2 args else some p.2
def Fx (d:Nat) (σ:St) (args:List CV) (p:List AV × St) (r:List AV × List AV) (s:St):Option St:=if p.1.all fF = true then some s else zn σ (args.flatMap cells) (dD d + 10000) s args r.2
@[go_sem ↓] theorem YN {gv:Bool} {f:FuncId} {args:List CV}:W k u (kQ Γ gv q σ d f args) ↔ W (fun p=>W (fun r0=>W (fun r=>((q && !(p.1.all fF && r.1.all fF)) = false ∧ (q && ((r.1.any wm || !p.1.all fF) && args.any (fun x=>(cells x).any gD))) = false) ∧
  W (fun s=>W (fun s=>W (fun v=>k (IZ v.1,v.2)) ⟨⟩ (wY (dD d) 0 [] s r.1)) ⟨⟩ (Fx d σ args p r s)) ⟨⟩ (Fw gv args p r)) ⟨⟩ (some (Tj q r0))) ⟨⟩ (Γ f p.1)) ⟨⟩ (rW gv σ args):=by
 simp only [kQ,dO,bq,dw,bX,bH,Fw,Fx,Bool.not_eq_true,and_assoc]
@[go_sem] theorem aeK {r:List AV × List AV}:Tj false r = r:=rfl
@[go_sem] theorem abS {r:List AV × List AV}:Tj true r = (r.1.map NJ,r.2):=rfl
@[go_sem] theorem abT {sz:Nat} {rows:List (List FV)}:NJ (.one (.own sz rows)) = .one (.f (.sl rows)):=rfl
@[go_sem] theorem af7 {x:FV}:NJ (.one (.f x)) = .one (.f x):=rfl
@[go_sem] theorem abU {xs:List TV}:NJ (.agg xs) = .agg xs:=rfl
@[go_sem] theorem abV {xs:List CL}:NJ (.one (.ptr xs)) = .one (.ptr xs):=rfl
end
section
variable {Γ : Env} {F:Nat} {k:List AV × List AV → Prop} {u:Tok k} {cf:CF} {fI:List AV}
@[go_sem ↓] theorem af8 : W k u (Ke Γ F cf fI) ↔ fI.length = cf.np ∧ W (fun e=>W (fun p=>(∀ id,p.1 ≠ .ext id) ∧ W (fun b=>W (fun l=>W (fun r=>k (r.1,b.1)) ⟨⟩ (mg cf.ro b.2 l)) ⟨⟩ (slots b.2 cf.res)) ⟨⟩ (jS p.2 e.1 fI)) ⟨⟩ (ev Γ F cf.body e.2)) ⟨⟩ (enter cf.bo 0 [] ⟨[],[]⟩ fI):=by
 simp only [Ke,dO,dw,bq,ne_eq,Decidable.not_not]
 refine and_congr Iff.rfl (cK fun e=>cK fun p=>?_)
 obtain ⟨o,s⟩:=p
 cases o with
 | ext id=>simp [jq]
 | _=>simp [bq,bX]
@[go_sem] theorem abW : (∀ id,Out.iZ ≠ .ext id) ↔ True:=by simp
@[go_sem] theorem abX : (∀ id,Out.ret ≠ .ext id) ↔ True:=by simp
@[go_sem] theorem abY {i:Nat}:(∀ id,Out.ext i ≠ .ext id) ↔ False:=by simp
end
end Go.Proofs.Ytfokaoeinpnagaa.Ev
namespace Go.Proofs.Ytfokaoeinpnagaa.Ev
open Go
attribute [go_sem] dD dV vE qO l8 nS EU NH IW sub jk oL gD jR plain fF Rm Kl wm NI IZ Ko Tm Tn Tp Kn Ti rowsOf KV.ks SV.sk
attribute [go_sem] List.any_cons List.any_nil List.all_cons List.all_nil List.map_cons List.map_nil List.length_cons List.length_nil List.append_nil List.nil_append List.cons_append List.flatMap_cons List.flatMap_nil List.take_succ_cons List.take_zero List.take_nil List.drop_succ_cons List.drop_zero List.drop_nil Option.getD_some Option.getD_none List.filter_nil List.filter_cons List.headD_nil List.headD_cons List.tail_cons List.tail_nil
section
variable {σ : St} {α:Type}
section
variable {k : St → Prop} {u:Tok k} {key:Nat} {o:Ob} {pend:List PL}
@[go_sem ↓] theorem af9 : W k u (new σ key o) ↔ (rem σ.ob key).any (fun p=>l8 key p.2) = false ∧ k ⟨σ.tm.filter (fun p=>!qO key p.2),(key,o) :: rem σ.ob key⟩:=by
 simp only [new,V9,dO,bX,dw,bH,Bool.not_eq_true]
@[go_sem ↓] theorem aeL : W k u (newP pend σ key o) ↔ pend.any (dV key) = false ∧ W k ⟨⟩ (new σ key o):=by
 simp only [newP,dO,dw,Bool.not_eq_true]
@[go_sem ↓] theorem aga : W k u (zf σ key) ↔ W (fun p=>k (sub ⟨σ.tm,rem σ.ob key⟩ key (.f (.sl p.2)))) ⟨⟩ (iE σ key):=by
 simp only [zf,iE,dO]
 cases get σ.ob key with
 | none=>exact bY
 | some o=>cases o <;> first | exact bY | exact lF Iff.rfl
@[go_sem ↓] theorem Uz : W k u (wZ σ []) ↔ k σ:=gK
@[go_sem ↓] theorem RD : W k u (rX σ []) ↔ k σ:=gK
@[go_sem ↓] theorem Oz {x:CV} {xs:List CV}:W k u (rX σ (x :: xs)) ↔ W (fun s=>W k ⟨⟩ (rX s xs)) ⟨⟩ (wZ σ (cells x)):=by
 simp only [rX,dO,bq]
def oZ (σ:St):PL → Option St
 | .own key _=>zf σ key
 | _=>some σ
@[go_sem ↓] theorem RF {x:PL} {xs:List PL}:W k u (wZ σ (x :: xs)) ↔ W (fun s=>W k ⟨⟩ (wZ s xs)) ⟨⟩ (oZ σ x):=by
 simp only [dO]
 cases x <;> simp only [wZ,oZ,bq,bH]
@[go_sem ↓] theorem RG {n:Nat}:W k u (oZ σ (.own key n)) ↔ W k ⟨⟩ (zf σ key):=Iff.rfl
@[go_sem] theorem abZ {x:FV}:oZ σ (.f x) = some σ:=rfl
@[go_sem] theorem WC : oZ σ .dN = some σ:=rfl
@[go_sem] theorem WE {n:Nat}:oZ σ (.ptr key n) = some σ:=rfl
@[go_sem] theorem YO : oZ σ (.mp key) = some σ:=rfl
@[go_sem] theorem WG : oZ σ .iw = some σ:=rfl
@[go_sem] theorem UA : oZ σ .fu = some σ:=rfl
@[go_sem] theorem YP {f:FuncId} {c:List (List FV)}:oZ σ (.fn f c) = some σ:=rfl
@[go_sem] theorem YQ {c:List FV}:oZ σ (.fp c) = some σ:=rfl
end
section
variable {k : FV × St → Prop} {u:Tok k} {key n:Nat}
@[go_sem] theorem agb {x:FV}:wU σ (.f x) = some (x,σ):=rfl
@[go_sem] theorem ab0 : wU σ .dN = some (.sl [],σ):=rfl
@[go_sem ↓] theorem WH : W k u (wU σ (.own key n)) ↔ W (fun p=>k (.sl p.2,sub ⟨σ.tm,rem σ.ob key⟩ key (.f (.sl p.2)))) ⟨⟩ (iE σ key):=by
 simp only [wU,zf,iE,dO]
 cases get σ.ob key with
 | none=>exact bY
 | some o=>cases o <;> first | exact bY | (simp only [Option.map_some];exact lF Iff.rfl)
end
section
variable {k : List FV × St → Prop} {u:Tok k}
@[go_sem ↓] theorem UC : W k u (kP σ []) ↔ k ([],σ):=gK
@[go_sem ↓] theorem RH {x:PL} {xs:List PL}:W k u (kP σ (x :: xs)) ↔ W (fun p=>W (fun r=>k (p.1 :: r.1,r.2)) ⟨⟩ (kP p.2 xs)) ⟨⟩ (wU σ x):=by
 simp only [kP,dO,bq,bX]
@[go_sem ↓] theorem agc {key:Nat}:W k u (Wh σ key) ↔ W (fun xs=>W (fun p=>W (fun _=>k (p.1,Tp (Kn key p.1) ⟨p.2.tm,rem p.2.ob key⟩)) ⟨⟩ (get p.2.ob key)) ⟨⟩ (kP σ xs)) ⟨⟩ (oG σ key):=by
 simp only [Wh,oG,dO]
 cases get σ.ob key with
 | none=>exact bY
 | some o =>
  cases o with
  | iy xs =>
   simp only [oc,bH,bq]
   refine cK fun p=>?_
   cases get p.2.ob key with
   | none=>exact bY
   | some o=>exact lF Iff.rfl
  | _=>exact bY
end
section
variable {k : FC × St → Prop} {u:Tok k}
@[go_sem ↓] theorem WI {x:PL}:W k u (Wd σ (.one x)) ↔ W (fun p=>k (.one p.1,p.2)) ⟨⟩ (wU σ x):=by simp only [Wd,dO,bX]
@[go_sem ↓] theorem WJ {xs:List PL}:W k u (Wd σ (.agg xs)) ↔ W (fun p=>k (.agg p.1,p.2)) ⟨⟩ (kP σ xs):=by simp only [Wd,dO,bX]
end
section
variable {k : List (List FV) × St → Prop} {u:Tok k} {q:Bool}
@[go_sem ↓] theorem UD : W k u (lN q σ []) ↔ k ([],σ):=by simp only [lN,dO,bH]
@[go_sem ↓] theorem WK {cs:List FV} {l:List CV}:W k u (lN q σ (.one (.fp cs) :: l)) ↔ W (fun r=>k (cs :: r.1,r.2)) ⟨⟩ (lN q σ l):=by simp only [lN,dO,bX]
@[go_sem ↓] theorem UE {key:Nat} {l:List CV}:W k u (lN q σ (.one (.ptr key 0) :: l)) ↔ q = false ∧ W (fun p=>W (fun r=>k (p.1 :: r.1,r.2)) ⟨⟩ (lN q p.2 l)) ⟨⟩ (Wh σ key):=by
 simp only [lN,dO,dw,bq,bX,Bool.not_eq_true]
end
section
variable {k : List (Nat × Nat × CV) → Prop} {u:Tok k}
@[go_sem ↓] theorem UF : W k u (vals σ []) ↔ k []:=gK
@[go_sem ↓] theorem RI {o n:Nat} {x:dY} {ps:List (Nat × Nat × dY)}:W k u (vals σ ((o,n,x) :: ps)) ↔ W (fun v=>W (fun l=>k ((o,n,v) :: l)) ⟨⟩ (vals σ ps)) ⟨⟩ (val σ x):=by
 simp only [vals,dO,bq,bX]
end
section
variable {k : List CV → Prop} {u:Tok k}
@[go_sem ↓] theorem RJ : W k u (jf σ []) ↔ k []:=gK
@[go_sem ↓] theorem OA {x:dY} {xs:List dY}:W k u (jf σ (x :: xs)) ↔ W (fun v=>W (fun l=>k (v :: l)) ⟨⟩ (jf σ xs)) ⟨⟩ (val σ x):=by
 simp only [jf,dO,bq,bX]
@[go_sem ↓] theorem RL : W k u (slots σ []) ↔ k []:=gK
@[go_sem ↓] theorem OB {x:Rs} {xs:List Rs}:W k u (slots σ (x :: xs)) ↔ W (fun v=>W (fun l=>k (v :: l)) ⟨⟩ (slots σ xs)) ⟨⟩ (slot σ x):=by
 simp only [slots,dO,bq,bX]
end
section
variable {k : CV → Prop} {u:Tok k} {i n:Nat} {agg:Bool}
@[go_sem ↓] theorem YR : W k u (slot σ (.t i)) ↔ W k ⟨⟩ (vl (get σ.tm i)):=by rw [← Yn];exact Iff.rfl
@[go_sem ↓] theorem RN : W k u (slot σ (.cell i n agg)) ↔ W (fun v=>W (fun p=>W (fun xs=>W (fun l=>W k ⟨⟩ (mk agg l)) ⟨⟩ (seg n p.2 xs)) ⟨⟩ (oG σ p.1)) ⟨⟩ (Je v)) ⟨⟩ (vl (get σ.tm i)):=by
 simp only [slot,dO]
 cases get σ.tm i with
 | none=>exact bY
 | some v =>
  cases v with
  | uF l=>exact bY
  | c x =>
   simp only [vl,bH]
   cases x with
   | agg l=>exact bY
   | one p =>
    cases p with
    | ptr key off =>
     simp only [Je,bH,oG]
     cases get σ.ob key with
     | none=>exact bY
     | some o=>cases o <;> first | exact bY | (simp only [oc,bH,bq])
    | _=>exact bY
end
section
variable {k : List PL → Prop} {u:Tok k} {z:List PL}
@[go_sem ↓] theorem UG : W k u (fill z []) ↔ k z:=by simp only [fill,dO,bH]
@[go_sem ↓] theorem RO {off n:Nat} {v:CV} {ps:List (Nat × Nat × CV)}:W k u (fill z ((off,n,v) :: ps)) ↔ ((cells v).length = n ∧ (cells v).any oL = false) ∧ W (fun z=>W k ⟨⟩ (fill z ps)) ⟨⟩ (lay off (cells v) z):=by
 simp only [fill,dO,bN,bq]
end
@[go_sem] theorem YS {kk:IntKind} {n:Int}:vY (.int kk n) = some (.int kk n):=rfl
@[go_sem] theorem WL {b:Bool}:vY (.bool b) = some (.bool b):=rfl
@[go_sem] theorem YT {s:ByteArray}:vY (.str s) = some (.str s):=rfl
section
variable {k : KV → Prop} {u:Tok k}
@[go_sem ↓] theorem WM {x:FV}:W k u (keyOf (.one (.f x))) ↔ W (fun s=>k (.one s)) ⟨⟩ (vY x):=by simp only [keyOf,Gt,Option.bind_some,dO,bX]
@[go_sem ↓] theorem WO {xs:List PL}:W k u (keyOf (.agg xs)) ↔ W (fun l=>W (fun s=>k (.agg s)) ⟨⟩ (rV l)) ⟨⟩ (nT xs):=by simp only [keyOf,dO,bq,bX]
end
section
variable {k : List SV → Prop} {u:Tok k}
@[go_sem ↓] theorem RP : W k u (rV []) ↔ k []:=gK
@[go_sem ↓] theorem OC {x:FV} {xs:List FV}:W k u (rV (x :: xs)) ↔ W (fun s=>W (fun l=>k (s :: l)) ⟨⟩ (rV xs)) ⟨⟩ (vY x):=by simp only [rV,dO,bq,bX]
end
section
variable {k : List FV → Prop} {u:Tok k}
@[go_sem ↓] theorem OD : W k u (nT []) ↔ k []:=gK
@[go_sem ↓] theorem NA {x:FV} {xs:List PL}:W k u (nT (.f x :: xs)) ↔ W (fun l=>k (x :: l)) ⟨⟩ (nT xs):=by simp only [nT,Gt,Option.bind_some,dO,bX]
end
section
variable {k : CL × St → Prop} {u:Tok k} {key n:Nat}
@[go_sem] theorem agd {x:FV}:IX σ (.f x) = some (.f x,σ):=rfl
@[go_sem] theorem ab1 : IX σ .dN = some (.f (.sl []),σ):=rfl
@[go_sem] theorem ab2 : IX σ .iw = some (.iw,σ):=rfl
@[go_sem] theorem YU : IX σ .fu = some (.fu,σ):=rfl
@[go_sem ↓] theorem WQ : W k u (IX σ (.own key n)) ↔ W (fun o=>k (.own o.1 o.2,⟨σ.tm,rem σ.ob key⟩)) ⟨⟩ (iE σ key):=by
 simp only [IX,iE,dO]
 cases get σ.ob key with
 | none=>exact bY
 | some o=>cases o <;> first | exact bY | exact lF Iff.rfl
@[go_sem ↓] theorem YV : W k u (IX σ (.mp key)) ↔ W (fun o=>k (.mp o.1 o.2,⟨σ.tm,rem σ.ob key⟩)) ⟨⟩ (nW σ key):=by
 simp only [IX,nW,dO]
 cases get σ.ob key with
 | none=>exact bY
 | some o=>cases o <;> first | exact bY | exact lF Iff.rfl
end
section
variable {k : List CL × St → Prop} {u:Tok k}
@[go_sem ↓] theorem UH : W k u (zm σ []) ↔ k ([],σ):=gK
@[go_sem ↓] theorem RQ {x:PL} {xs:List PL}:W k u (zm σ (x :: xs)) ↔ W (fun p=>W (fun r=>k (p.1 :: r.1,r.2)) ⟨⟩ (zm p.2 xs)) ⟨⟩ (IX σ x):=by
 simp only [zm,dO,bq,bX]
end
section
variable {k : TV × St → Prop} {u:Tok k} {key n:Nat} {gv:Bool}
@[go_sem] theorem agf {x:FV}:ru gv σ (.f x) = some (.f x,σ):=rfl
@[go_sem] theorem ab3 : ru gv σ .dN = some (.f (.sl []),σ):=rfl
@[go_sem] theorem ab4 : ru gv σ .iw = some (.iw,σ):=rfl
@[go_sem] theorem YW : ru gv σ .fu = some (.fu,σ):=rfl
@[go_sem] theorem aeM {cs:List FV}:ru gv σ (.fp cs) = some (.fp cs,σ):=rfl
@[go_sem] theorem aeN {f:FuncId} {cs:List (List FV)}:ru gv σ (.fn f cs) = some (.fn f cs,σ):=rfl
@[go_sem ↓] theorem WR : W k u (ru false σ (.own key n)) ↔ W (fun o=>k (.f (.sl o.2),σ)) ⟨⟩ (iE σ key):=by
 simp only [ru,iE,dO]
 cases get σ.ob key with
 | none=>exact bY
 | some o=>cases o <;> first | exact bY | exact lF Iff.rfl
@[go_sem ↓] theorem UJ : W k u (ru true σ (.own key n)) ↔ W (fun o=>k (.own o.1 o.2,⟨σ.tm,rem σ.ob key⟩)) ⟨⟩ (iE σ key):=by
 simp only [ru,iE,dO]
 cases get σ.ob key with
 | none=>exact bY
 | some o=>cases o <;> first | exact bY | exact lF Iff.rfl
@[go_sem ↓] theorem YX : W k u (ru gv σ (.mp key)) ↔ W (fun o=>k (.mp o.1 o.2,⟨σ.tm,rem σ.ob key⟩)) ⟨⟩ (nW σ key):=by
 simp only [ru,nW,dO]
 cases get σ.ob key with
 | none=>exact bY
 | some o=>cases o <;> first | exact bY | exact lF Iff.rfl
@[go_sem ↓] theorem WS : W k u (ru gv σ (.ptr key 0)) ↔ W (fun xs=>W (fun p=>k (.ptr p.1,p.2)) ⟨⟩ (zm ⟨σ.tm,rem σ.ob key⟩ xs)) ⟨⟩ (oG σ key):=by
 simp only [ru,oG,dO]
 cases get σ.ob key with
 | none=>exact bY
 | some o=>cases o <;> first | exact bY | (simp only [oc,bH,bX])
end
section
variable {k : List TV × St → Prop} {u:Tok k} {gv:Bool}
@[go_sem ↓] theorem UK : W k u (rz gv σ []) ↔ k ([],σ):=gK
@[go_sem ↓] theorem RS {x:PL} {xs:List PL}:W k u (rz gv σ (x :: xs)) ↔ W (fun p=>W (fun r=>k (p.1 :: r.1,r.2)) ⟨⟩ (rz gv p.2 xs)) ⟨⟩ (ru gv σ x):=by
 simp only [rz,dO,bq,bX]
end
section
variable {k : AV × St → Prop} {u:Tok k} {gv:Bool}
@[go_sem ↓] theorem WT {x:PL}:W k u (J9 gv σ (.one x)) ↔ W (fun p=>k (.one p.1,p.2)) ⟨⟩ (ru gv σ x):=by simp only [J9,dO,bX]
@[go_sem ↓] theorem WU {xs:List PL}:W k u (J9 gv σ (.agg xs)) ↔ W (fun p=>k (.agg p.1,p.2)) ⟨⟩ (rz gv σ xs):=by simp only [J9,dO,bX]
end
section
variable {k : List AV × St → Prop} {u:Tok k} {gv:Bool}
@[go_sem ↓] theorem UL : W k u (rW gv σ []) ↔ k ([],σ):=gK
@[go_sem ↓] theorem RU {x:CV} {xs:List CV}:W k u (rW gv σ (x :: xs)) ↔ W (fun p=>W (fun r=>k (p.1 :: r.1,r.2)) ⟨⟩ (rW gv p.2 xs)) ⟨⟩ (J9 gv σ x):=by
 simp only [rW,dO,bq,bX]
end
section
variable {k : List PL × St → Prop} {u:Tok k} {kf:Nat → Nat} {c base j:Nat} {pend:List PL}
@[go_sem ↓] theorem UM : W k u (qD kf c pend σ []) ↔ k ([],σ):=by simp only [qD,dO,bH]
def OE (kf:Nat → Nat) (c:Nat) (pend:List PL) (σ:St):CL → Option (PL × St)
 | .f x=>some (.f x,σ)
 | .iw=>some (.iw,σ)
 | .fu=>some (.fu,σ)
 | .mp sh ents=>(newP pend σ (kf c) (.map sh ents)).map fun s=>(.mp (kf c),s)
 | .own sz rows=>(newP pend σ (kf c + kf c % 2) (.row sz rows)).map fun s=>(.own (kf c + kf c % 2) rows.length,s)
@[go_sem ↓] theorem RV {x:CL} {xs:List CL}:W k u (qD kf c pend σ (x :: xs)) ↔ W (fun p=>W (fun r=>k (p.1 :: r.1,r.2)) ⟨⟩ (qD kf (c + 1) (p.1 :: pend) p.2 xs)) ⟨⟩ (OE kf c pend σ x):=by
 simp only [dO]
 cases x <;> simp only [qD,OE,bH,bq,bX]
@[go_sem ↓] theorem UN : W k u (wX base j pend σ []) ↔ k ([],σ):=by simp only [wX,dO,bH]
@[go_sem ↓] theorem RX {x:TV} {xs:List TV}:W k u (wX base j pend σ (x :: xs)) ↔ W (fun p=>W (fun r=>k (p.1 :: r.1,r.2)) ⟨⟩ (wX base (j + 1) (p.1 :: pend) p.2 xs)) ⟨⟩ (CO (base + 200 * (j + 1)) pend σ x):=by
 simp only [wX,dO,bq,bX]
end
section
variable {k : PL × St → Prop} {u:Tok k} {kf:Nat → Nat} {c key:Nat} {pend:List PL}
@[go_sem] theorem agh {x:FV}:OE kf c pend σ (.f x) = some (.f x,σ):=rfl
@[go_sem] theorem ab5 : OE kf c pend σ .iw = some (.iw,σ):=rfl
@[go_sem] theorem YZ : OE kf c pend σ .fu = some (.fu,σ):=rfl
@[go_sem ↓] theorem Y0 {sh:KS} {ents:List (KV × FC)}:W k u (OE kf c pend σ (.mp sh ents)) ↔ W (fun s=>k (.mp (kf c),s)) ⟨⟩ (newP pend σ (kf c) (.map sh ents)):=by simp only [OE,dO,bX]
@[go_sem ↓] theorem WV {sz:Nat} {rows:List (List FV)}:W k u (OE kf c pend σ (.own sz rows)) ↔ W (fun s=>k (.own (kf c + kf c % 2) rows.length,s)) ⟨⟩ (newP pend σ (kf c + kf c % 2) (.row sz rows)):=by simp only [OE,dO,bX]
@[go_sem] theorem agi {x:FV}:CO key pend σ (.f x) = some (.f x,σ):=rfl
@[go_sem] theorem ab6 : CO key pend σ .iw = some (.iw,σ):=rfl
@[go_sem] theorem Y1 : CO key pend σ .fu = some (.fu,σ):=rfl
@[go_sem] theorem aeO {cs:List FV}:CO key pend σ (.fp cs) = some (.fp cs,σ):=rfl
@[go_sem] theorem aeP {f:FuncId} {cs:List (List FV)}:CO key pend σ (.fn f cs) = some (.fn f cs,σ):=rfl
@[go_sem] theorem ab7 : CO key pend σ .any = some (.any,σ):=rfl
@[go_sem ↓] theorem Y2 {sh:KS} {ents:List (KV × FC)}:W k u (CO key pend σ (.mp sh ents)) ↔ W (fun s=>k (.mp key,s)) ⟨⟩ (newP pend σ key (.map sh ents)):=by simp only [CO,dO,bX]
@[go_sem ↓] theorem WW {sz:Nat} {rows:List (List FV)}:W k u (CO key pend σ (.own sz rows)) ↔ W (fun s=>k (.own (ow key) rows.length,s)) ⟨⟩ (newP pend σ (ow key) (.row sz rows)):=by simp only [CO,dO,bX]
@[go_sem ↓] theorem WX {cs:List CL}:W k u (CO key pend σ (.ptr cs)) ↔ W (fun p=>p.1.any (dV key) = false ∧ W (fun s=>k (.ptr key 0,s)) ⟨⟩ (newP pend p.2 key (.iy p.1))) ⟨⟩ (qD (NI key) 0 pend σ cs):=by
 simp only [CO,dO,bq,dw,bX,Bool.not_eq_true]
end
section
variable {k : CV × St → Prop} {u:Tok k} {base:Nat} {pend:List PL}
@[go_sem ↓] theorem WY {x:TV}:W k u (Ka base pend σ (.one x)) ↔ W (fun p=>k (.one p.1,p.2)) ⟨⟩ (CO (base + 200) pend σ x):=by simp only [Ka,dO,bX]
@[go_sem ↓] theorem WZ {xs:List TV}:W k u (Ka base pend σ (.agg xs)) ↔ W (fun p=>k (.agg p.1,p.2)) ⟨⟩ (wX base 0 pend σ xs):=by simp only [Ka,dO,bX]
end
section
variable {k : List CV × St → Prop} {u:Tok k} {base i:Nat} {pend:List PL} {bo:List Nat}
@[go_sem] theorem agj : ab bo i = if bo.contains i then dD i + 10001 else dD i + 1:=rfl
@[go_sem] theorem agk {key:Nat}:ow key = if key / 10000 % 2 = 0 then key + key % 2 else key:=rfl
@[go_sem ↓] theorem UO : W k u (wY base i pend σ []) ↔ k ([],σ):=by simp only [wY,dO,bH]
@[go_sem ↓] theorem RY {x:AV} {xs:List AV}:W k u (wY base i pend σ (x :: xs)) ↔ W (fun p=>W (fun r=>k (p.1 :: r.1,r.2)) ⟨⟩ (wY base (i + 1) (cells p.1 ++ pend) p.2 xs)) ⟨⟩ (Ka (base + 2000 * i) pend σ x):=by
 simp only [wY,dO,bq,bX]
@[go_sem ↓] theorem RZ : W k u (enter bo i pend σ []) ↔ k ([],σ):=by simp only [enter,dO,bH]
@[go_sem ↓] theorem OG {x:AV} {xs:List AV}:W k u (enter bo i pend σ (x :: xs)) ↔ W (fun p=>W (fun s=>W (fun r=>k (p.1 :: r.1,r.2)) ⟨⟩ (enter bo (i + 1) (cells p.1 ++ pend) s xs)) ⟨⟩ (some ⟨put p.2.tm i (.c p.1),p.2.ob⟩)) ⟨⟩ (Ka (ab bo i) pend σ x):=by
 simp only [enter,dO,bq,bX,bH]
end
section
variable {k : St → Prop} {u:Tok k} {fE:St} {base:Nat} {pend:List PL}
@[go_sem ↓] theorem UQ : W k u (zn fE pend base σ [] []) ↔ k σ:=by simp only [zn,dO,bH]
@[go_sem ↓] theorem R3 {x:CV} {xs:List CV} {y:AV} {ys:List AV}:W k u (zn fE pend base σ (x :: xs) (y :: ys)) ↔ W (fun s=>W k ⟨⟩ (zn fE pend (base + 1000) s xs ys)) ⟨⟩ (Xv fE pend base σ x y):=by
 simp only [zn,dO,bq]
@[go_sem ↓] theorem W9 {x:PL} {y:TV}:W k u (Xv fE pend base σ (.one x) (.one y)) ↔ W k ⟨⟩ (CP fE pend base σ x y):=Iff.rfl
@[go_sem ↓] theorem Xa {x:List PL} {y:List TV}:W k u (Xv fE pend base σ (.agg x) (.agg y)) ↔ W k ⟨⟩ (AZ fE pend base σ x y):=Iff.rfl
@[go_sem ↓] theorem UR : W k u (AZ fE pend base σ [] []) ↔ k σ:=by simp only [AZ,dO,bH]
@[go_sem ↓] theorem R4 {x:PL} {xs:List PL} {y:TV} {ys:List TV}:W k u (AZ fE pend base σ (x :: xs) (y :: ys)) ↔ W (fun s=>W k ⟨⟩ (AZ fE pend (base + 200) s xs ys)) ⟨⟩ (CP fE pend base σ x y):=by
 simp only [AZ,dO,bq]
@[go_sem ↓] theorem Xb {key off:Nat} {cs:List CL}:W k u (CP fE pend base σ (.ptr key off) (.ptr cs)) ↔ W (fun xs=>W (fun p=>k (jk p.2 key (.iy p.1))) ⟨⟩ (qD (IY base xs) 0 pend σ cs)) ⟨⟩ (oG fE key):=by
 simp only [CP,oG,dO]
 cases get fE.ob key with
 | none=>exact bY
 | some o=>cases o <;> first | exact bY | (simp only [oc,bH,bX])
@[go_sem] theorem aeQ {key:Nat} {sh:KS} {ents:List (KV × FC)}:CP fE pend base σ (.mp key) (.mp sh ents) = some (jk σ key (.map sh ents)):=rfl
@[go_sem] theorem Y3 {key n sz:Nat} {rows:List (List FV)}:CP fE pend base σ (.own key n) (.own sz rows) = some (jk σ key (.row sz rows)):=rfl
@[go_sem] theorem agl {x y:FV}:CP fE pend base σ (.f x) (.f y) = some σ:=rfl
@[go_sem] theorem ab8 {y:FV}:CP fE pend base σ .dN (.f y) = some σ:=rfl
@[go_sem] theorem ab9 : CP fE pend base σ .iw .iw = some σ:=rfl
@[go_sem] theorem Y4 : CP fE pend base σ .fu .fu = some σ:=rfl
@[go_sem] theorem acd {key n:Nat} {y:FV}:CP fE pend base σ (.own key n) (.f y) = some σ:=rfl
@[go_sem] theorem ace {key n:Nat}:CP fE pend base σ (.own key n) .any = some σ:=rfl
@[go_sem] theorem aeR {a b:List FV}:CP fE pend base σ (.fp a) (.fp b) = some σ:=rfl
@[go_sem] theorem aeS {f g:FuncId} {a b:List (List FV)}:CP fE pend base σ (.fn f a) (.fn g b) = some σ:=rfl
end
def Xc (base c:Nat):Option PL → Nat
 | some (.mp k)=>if k % 2 = 0 then k else base + 2 * (c + 1)
 | some (.own k _)=>if k % 2 = 0 then k else base + 2 * (c + 1)
 | _=>base + 2 * (c + 1)
@[go_sem] theorem acf {base c:Nat} {xs:List PL}:IY base xs c = Xc base c (xs[c]?):=by
 unfold IY
 cases xs[c]? with
 | none=>rfl
 | some x=>cases x <;> rfl
@[go_sem] theorem aeT {base c k:Nat}:Xc base c (some (.mp k)) = if k % 2 = 0 then k else base + 2 * (c + 1):=rfl
@[go_sem] theorem acg {base c k n:Nat}:Xc base c (some (.own k n)) = if k % 2 = 0 then k else base + 2 * (c + 1):=rfl
@[go_sem] theorem agm {base c:Nat} {x:FV}:Xc base c (some (.f x)) = base + 2 * (c + 1):=rfl
@[go_sem] theorem ach {base c:Nat}:Xc base c (some .dN) = base + 2 * (c + 1):=rfl
@[go_sem] theorem Y5 {base c:Nat}:Xc base c (some .fu) = base + 2 * (c + 1):=rfl
section
variable {k : TV × St → Prop} {u:Tok k} {key n:Nat}
@[go_sem] theorem aeU {x:FV}:outT σ (.f x) = some (.f x,σ):=rfl
@[go_sem] theorem Y6 : outT σ .dN = some (.f (.sl []),σ):=rfl
@[go_sem] theorem Y7 : outT σ .iw = some (.iw,σ):=rfl
@[go_sem] theorem Xd : outT σ .fu = some (.fu,σ):=rfl
@[go_sem] theorem aci {cs:List FV}:outT σ (.fp cs) = some (.fp cs,σ):=rfl
@[go_sem] theorem acj {f:FuncId} {cs:List (List FV)}:outT σ (.fn f cs) = some (.fn f cs,σ):=rfl
@[go_sem ↓] theorem UU : W k u (outT σ (.own key n)) ↔ W (fun p=>k (.f p.1,p.2)) ⟨⟩ (wU σ (.own key n)):=by simp only [outT,dO,bX]
@[go_sem ↓] theorem Xe : W k u (outT σ (.mp key)) ↔ W (fun o=>k (.mp o.1 o.2,⟨σ.tm,rem σ.ob key⟩)) ⟨⟩ (nW σ key):=by
 simp only [outT,nW,dO]
 cases get σ.ob key with
 | none=>exact bY
 | some o=>cases o <;> first | exact bY | exact lF Iff.rfl
@[go_sem ↓] theorem UW : W k u (outT σ (.ptr key 0)) ↔ W (fun xs=>W (fun p=>k (.ptr p.1,p.2)) ⟨⟩ (zm ⟨σ.tm,rem σ.ob key⟩ xs)) ⟨⟩ (oG σ key):=by
 simp only [outT,oG,dO]
 cases get σ.ob key with
 | none=>exact bY
 | some o=>cases o <;> first | exact bY | (simp only [oc,bH,bX])
@[go_sem ↓] theorem UY {sz:Nat}:W k u (A8 sz σ (.own key n)) ↔ W (fun o=>o.1 = sz ∧ k (.own sz o.2,⟨σ.tm,rem σ.ob key⟩)) ⟨⟩ (iE σ key):=by
 simp only [A8,iE,dO]
 cases get σ.ob key with
 | none=>exact bY
 | some o=>cases o <;> first | exact bY | (simp only [Ll,bH,bN])
@[go_sem ↓] theorem UZ {sz:Nat}:W k u (A8 sz σ .dN) ↔ ¬ sz = 0 ∧ k (.own sz [],σ):=by simp only [A8,dO,dw,bH]
@[go_sem] theorem acn {x:PL} {y:FV}:jN σ x (.f y) = some (.f y,σ):=by cases x <;> first | rfl | (rename_i a b;cases b <;> rfl)
@[go_sem] theorem Xf {x:PL}:jN σ x .iw = some (.iw,σ):=by cases x <;> first | rfl | (rename_i a b;cases b <;> rfl)
@[go_sem] theorem U0 {x:PL}:jN σ x .fu = some (.fu,σ):=by cases x <;> first | rfl | (rename_i a b;cases b <;> rfl)
def bko (σ:St) (key:Nat):Nat → Option (TV × St)
 | 1=>(Ll (get σ.ob key)).map fun p=>(.own p.1 p.2,⟨σ.tm,rem σ.ob key⟩)
 | _=>some (.any,σ)
@[go_sem] theorem agn : bko σ key 0 = some (.any,σ):=rfl
@[go_sem] theorem Y8 : bko σ key 1 = (Ll (get σ.ob key)).map fun p=>(.own p.1 p.2,⟨σ.tm,rem σ.ob key⟩):=rfl
@[go_sem] theorem Xg {n sz:Nat} {rows:List (List FV)}:jN σ (.own key n) (.own sz rows) = bko σ key (key % 2):=by
 simp only [jN]
 rcases Nat.mod_two_eq_zero_or_one key with h | h
 ·rw [h,if_neg (by decide)];rfl
 ·rw [h,if_pos rfl,Y8]
  cases get σ.ob key with
  | none=>rfl
  | some o=>cases o <;> rfl
@[go_sem] theorem Xh {sz:Nat} {rows:List (List FV)}:jN σ .dN (.own sz rows) = some (.any,σ):=rfl
@[go_sem] theorem Xi {x:PL}:jN σ x .any = some (.any,σ):=by cases x <;> first | rfl | (rename_i a b;cases b <;> rfl)
@[go_sem] theorem Y9 {x:PL} {cs:List FV}:jN σ x (.fp cs) = some (.fp cs,σ):=by cases x <;> first | rfl | (rename_i a b;cases b <;> rfl)
@[go_sem] theorem Za {x:PL} {f:FuncId} {cs:List (List FV)}:jN σ x (.fn f cs) = some (.fn f cs,σ):=by cases x <;> first | rfl | (rename_i a b;cases b <;> rfl)
@[go_sem ↓] theorem R5 {cs:List CL}:W k u (jN σ (.ptr key 0) (.ptr cs)) ↔ key % 2 = 1 ∧ W k ⟨⟩ (outT σ (.ptr key 0)):=by simp only [jN,dO,bN]
@[go_sem ↓] theorem U1 {sh:KS} {ents:List (KV × FC)}:W k u (jN σ (.mp key) (.mp sh ents)) ↔ key % 2 = 1 ∧ W k ⟨⟩ (outT σ (.mp key)):=by simp only [jN,dO,bN]
end
section
variable {k : List TV × St → Prop} {u:Tok k}
@[go_sem ↓] theorem R6 : W k u (vF σ []) ↔ k ([],σ):=gK
@[go_sem ↓] theorem OH {x:PL} {xs:List PL}:W k u (vF σ (x :: xs)) ↔ W (fun p=>W (fun r=>k (p.1 :: r.1,r.2)) ⟨⟩ (vF p.2 xs)) ⟨⟩ (outT σ x):=by
 simp only [vF,dO,bq,bX]
@[go_sem ↓] theorem OI : W k u (nU σ [] []) ↔ k ([],σ):=by simp only [nU,dO,bH]
@[go_sem ↓] theorem NC {l:PL} {ls:List PL} {x:TV} {xs:List TV}:W k u (nU σ (l :: ls) (x :: xs)) ↔ W (fun p=>W (fun r=>k (p.1 :: r.1,r.2)) ⟨⟩ (nU p.2 ls xs)) ⟨⟩ (jN σ l x):=by
 simp only [nU,dO,bq,bX]
end
section
variable {k : AV × St → Prop} {u:Tok k}
@[go_sem ↓] theorem Kh {x:PL}:W k u (A9 none σ (.one x)) ↔ W (fun p=>k (.one p.1,p.2)) ⟨⟩ (outT σ x):=by simp only [A9,NQ,dO,bX]
@[go_sem ↓] theorem Ki {xs:List PL}:W k u (A9 none σ (.agg xs)) ↔ W (fun p=>k (.agg p.1,p.2)) ⟨⟩ (vF σ xs):=by simp only [A9,NQ,dO,bX]
@[go_sem ↓] theorem R7 {sz:Nat} {x:PL}:W k u (A9 (some sz) σ (.one x)) ↔ W (fun p=>k (.one p.1,p.2)) ⟨⟩ (A8 sz σ x):=by simp only [A9,dO,bX]
@[go_sem ↓] theorem R8 {l:PL} {x:TV}:W k u (xk σ (.one l) (.one x)) ↔ W (fun p=>k (.one p.1,p.2)) ⟨⟩ (jN σ l x):=by simp only [xk,dO,bX]
@[go_sem ↓] theorem R9 {l:List PL} {x:List TV}:W k u (xk σ (.agg l) (.agg x)) ↔ W (fun p=>k (.agg p.1,p.2)) ⟨⟩ (nU σ l x):=by simp only [xk,dO,bX]
end
section
variable {k : List AV × St → Prop} {u:Tok k}
@[go_sem ↓] theorem Sb {fl:List (Option Nat)}:W k u (mg fl σ []) ↔ k ([],σ):=by simp only [mg,dO,bH]
@[go_sem ↓] theorem OJ {fl:List (Option Nat)} {x:CV} {xs:List CV}:W k u (mg fl σ (x :: xs)) ↔ W (fun p=>W (fun r=>k (p.1 :: r.1,r.2)) ⟨⟩ (mg fl.tail p.2 xs)) ⟨⟩ (A9 (fl.headD none) σ x):=by
 simp only [mg,dO,bq,bX]
@[go_sem ↓] theorem OL : W k u (jS σ [] []) ↔ k ([],σ):=by simp only [jS,dO,bH]
@[go_sem ↓] theorem ND {l:CV} {ls:List CV} {x:AV} {xs:List AV}:W k u (jS σ (l :: ls) (x :: xs)) ↔ W (fun p=>W (fun r=>k (p.1 :: r.1,r.2)) ⟨⟩ (jS p.2 ls xs)) ⟨⟩ (xk σ l x):=by
 simp only [jS,dO,bq,bX]
end
section
variable {k : St → Prop} {u:Tok k} {gv:Bool} {d:Nat} {args:List CV} {p:List AV × St} {r:List AV × List AV} {s:St}
@[go_sem ↓] theorem aeV : W k u (Fw gv args p r) ↔ (if (!gv && ((r.1.any wm || !p.1.all fF) && args.any (fun x=>(cells x).any gD))) = true then W k ⟨⟩ (rX p.2 args) else k p.2):=by
 simp only [Fw,dO]
 split
 ·exact Iff.rfl
 ·exact bH
@[go_sem ↓] theorem aeW : W k u (Fx d σ args p r s) ↔ (if p.1.all fF = true then k s else W k ⟨⟩ (zn σ (args.flatMap cells) (dD d + 10000) s args r.2)):=by
 simp only [Fx,dO]
 split
 ·exact bH
 ·exact Iff.rfl
end
end
section
variable {σ : St} {ks CK:List Nat} {rws:List (Nat × Nat)}
@[go_sem] theorem aeX : res ks CK rws σ = ⟨pick ks (iZ σ rws).tm,pick CK (iZ σ rws).ob⟩:=rfl
@[go_sem] theorem aco : iZ σ [] = σ:=rfl
end
attribute [go_sem] if_true if_false true_and and_true Bool.not_false Bool.not_true Bool.and_false Bool.false_and Bool.and_true Bool.true_and Bool.or_false Bool.false_or Bool.or_true Bool.true_or Bool.false_eq_true not_true_eq_false not_false_eq_true ne_eq forall_const and_self implies_true KV.one.injEq KV.agg.injEq SV.str.injEq SV.int.injEq SV.bool.injEq List.cons.injEq List.getElem?_cons_zero List.getElem?_cons_succ List.getD_cons_zero List.getD_cons_succ List.contains_cons List.contains_nil decide_true decide_false fresh
end Go.Proofs.Ytfokaoeinpnagaa.Ev

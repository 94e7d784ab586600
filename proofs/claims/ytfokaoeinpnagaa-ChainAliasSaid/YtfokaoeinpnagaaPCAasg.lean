/- A part of the proof of ChainAlias: cut, joined and given short names by a program of this session (wip/tools/pack.py); Lean checks it. No condition. -/
import Derived.Test.YtfokaoeinpnagaaPCAasf
import Derived.Test.YtfokaoeinpnagaaPCAasd
set_option linter.unusedSectionVars false
set_option linter.unusedSimpArgs false
set_option linter.unusedVariables false
namespace Go.Proofs.Ytfokaoeinpnagaa.Ev
open Go
section
variable {Γ : Env} {F d:Nat} {q:Bool} {σ:St} {k:PV × St → Prop} {u:Tok k} {x y z:dZ}
def Ma (σ:St) (sh:KS):CV → Option (Option (Nat × List (KV × FC)))
 | .one .fC=>some none
 | .one (.mp key)=>(oH σ key).bind fun o=>if o.1 = sh then some (some (key,o.2)) else none
 | _=>none
@[go_sem] theorem Zv {sh:KS}:Ma σ sh (.one .fC) = some none:=rfl
section
variable {k : Option (Nat × List (KV × FC)) → Prop} {u:Tok k}
@[go_sem ↓] theorem afi {sh:KS} {key:Nat}:W k u (Ma σ sh (.one (.mp key))) ↔ W (fun o=>o.1 = sh ∧ k (some (key,o.2))) ⟨⟩ (oH σ key):=by
 simp only [Ma,dO,bq,bN,bH]
end
def sS (m:Option (Nat × List (KV × FC))) (a:KV):Option FC:=m.bind fun m=>rO m.2 a
def cnt (m:Option (Nat × List (KV × FC))):Nat:=match m with
 | none=>0
 | some m=>m.2.length
@[go_sem] theorem Zw {a:KV}:sS none a = none:=rfl
@[go_sem] theorem Zx {key:Nat} {l:List (KV × FC)} {a:KV}:sS (some (key,l)) a = rO l a:=rfl
@[go_sem] theorem Zy : cnt none = 0:=rfl
@[go_sem] theorem Zz {key:Nat} {l:List (KV × FC)}:cnt (some (key,l)) = l.length:=rfl
def lkv (z:FC) (ok:Bool) (r:Option FC):PV:=if ok then .uQ [xL (r.getD z),.one (.f (.bool r.isSome))] else .c (xL (r.getD z))
@[go_sem] theorem afj {z:FC} {r:Option FC}:lkv z true r = .uQ [xL (r.getD z),.one (.f (.bool r.isSome))]:=rfl
@[go_sem] theorem afk {z:FC} {r:Option FC}:lkv z false r = .c (xL (r.getD z)):=rfl
@[go_sem] theorem ZA {x:FV}:xL (.one x) = .one (.f x):=rfl
@[go_sem] theorem ZB {xs:List FV}:xL (.agg xs) = .agg (xs.map .f):=rfl
@[go_sem ↓] theorem afl {sh:KS} {z:FC} {ok:Bool}:W k u (cO Γ q σ d (.look sh z ok x y)) ↔ W (fun v=>W (fun w=>W (fun a=>a.ks = sh ∧ W (fun m=>k (lkv z ok (sS m a),σ)) ⟨⟩ (Ma σ sh v)) ⟨⟩ (keyOf w)) ⟨⟩ (val σ y)) ⟨⟩ (val σ x):=by
 simp only [cO,dO,bq,dw,bX,ne_eq,Decidable.not_not]
 refine cK fun v=>cK fun w=>cK fun a=>and_congr Iff.rfl ?_
 cases v with
 | agg l=>exact bY
 | one p =>
  cases p with
  | fC=>exact lN Iff.rfl
  | mp key =>
   simp only [Ma,oH]
   cases get σ.ob key with
   | none=>exact bY
   | some o =>
    cases o with
    | map sh' ents =>
     simp only [om,Option.bind_some]
     by_cases hs:sh' = sh
     ·rw [if_pos hs,if_pos hs];exact lN (by cases ok <;> exact Iff.rfl)
     ·rw [if_neg hs,if_neg hs];exact bY
    | _=>exact bY
  | _=>exact bY
@[go_sem ↓] theorem afm : W k u (cO Γ q σ d (.Jr x)) ↔ W (fun v=>W (fun n:Nat=>k (.c (.one (.f (.int .i64 (n:Int)))),σ)) ⟨⟩ (Po σ v)) ⟨⟩ (val σ x):=by
 simp only [cO,dO,bq]
 refine cK fun v=>?_
 cases v with
 | agg l=>exact bY
 | one p =>
  cases p with
  | fC=>exact lN Iff.rfl
  | mp key =>
   simp only [Po,oH]
   cases get σ.ob key with
   | none=>exact bY
   | some o=>cases o <;> first | exact bY | exact lN Iff.rfl
  | _=>exact bY
def upv (σ:St) (sh:KS) (a:KV) (p:FC × St):CV → Option St
 | .one (.mp key)=>(oH p.2 key).bind fun o=>if o.1 = sh then some (jm p.2 key (.map sh (wM o.2 a p.1))) else none
 | _=>none
@[go_sem ↓] theorem afn {sh:KS}:W k u (cO Γ q σ d (.xJ sh x y z)) ↔ W (fun v=>W (fun w=>W (fun a=>a.ks = sh ∧ W (fun w=>(q && (cells w).any gF) = false ∧ W (fun p=>W (fun s=>k (.c (.one .und),s)) ⟨⟩ (upv σ sh a p v)) ⟨⟩ (Xj σ w)) ⟨⟩ (val σ z)) ⟨⟩ (keyOf w)) ⟨⟩ (val σ y)) ⟨⟩ (val σ x):=by
 simp only [cO,dO,bq,dw,ne_eq,Decidable.not_not,Bool.not_eq_true]
 refine cK fun v=>cK fun w=>cK fun a=>and_congr Iff.rfl (cK fun w=>and_congr Iff.rfl (cK fun p=>?_))
 cases v with
 | agg l=>exact bY
 | one b =>
  cases b with
  | mp key =>
   simp only [upv,oH]
   cases get p.2.ob key with
   | none=>exact bY
   | some o =>
    cases o with
    | map sh' ents =>
     simp only [om,Option.bind_some]
     split
     ·exact lN Iff.rfl
     ·exact bY
    | _=>exact bY
  | _=>exact bY
section
variable {k : St → Prop} {u:Tok k} {sh:KS} {a:KV} {key:Nat}
@[go_sem ↓] theorem agE {p:FC × St}:W k u (upv σ sh a p (.one (.mp key))) ↔ W (fun o=>o.1 = sh ∧ k (jm p.2 key (.map sh (wM o.2 a p.1)))) ⟨⟩ (oH p.2 key):=by
 simp only [upv,dO,bq,bN,bH]
end
def ZC (σ:St) (sh:KS) (a:KV):CV → Option St
 | .one .fC=>some σ
 | .one (.mp key)=>(oH σ key).bind fun o=>if o.1 = sh then some (jm σ key (.map sh (Bv o.2 a))) else none
 | _=>none
@[go_sem] theorem acF {sh:KS} {a:KV}:ZC σ sh a (.one .fC) = some σ:=rfl
section
variable {k : St → Prop} {u:Tok k} {sh:KS} {a:KV} {key:Nat}
@[go_sem ↓] theorem agF : W k u (ZC σ sh a (.one (.mp key))) ↔ W (fun o=>o.1 = sh ∧ k (jm σ key (.map sh (Bv o.2 a)))) ⟨⟩ (oH σ key):=by
 simp only [ZC,dO,bq,bN,bH]
end
@[go_sem ↓] theorem agG {sh:KS}:W k u (cO Γ q σ d (.del sh x y)) ↔ W (fun v=>W (fun w=>W (fun a=>a.ks = sh ∧ W (fun s=>k (.uQ [],s)) ⟨⟩ (ZC σ sh a v)) ⟨⟩ (keyOf w)) ⟨⟩ (val σ y)) ⟨⟩ (val σ x):=by
 simp only [cO,dO,bq,dw,ne_eq,Decidable.not_not]
 refine cK fun v=>cK fun w=>cK fun a=>and_congr Iff.rfl ?_
 cases v with
 | agg l=>exact bY
 | one b =>
  cases b with
  | fC=>exact lN Iff.rfl
  | mp key =>
   simp only [ZC,oH]
   cases get σ.ob key with
   | none=>exact bY
   | some o =>
    cases o with
    | map sh' ents =>
     simp only [om,Option.bind_some]
     split
     ·exact lN Iff.rfl
     ·exact bY
    | _=>exact bY
  | _=>exact bY
def XB (σ:St):CV → Option (List (List FV))
 | .one .dN=>some []
 | .one (.f (.sl rows))=>some rows
 | .one (.own key _)=>(iF σ key).map (·.2)
 | _=>none
@[go_sem] theorem agH : XB σ (.one .dN) = some []:=rfl
@[go_sem] theorem agI {rows:List (List FV)}:XB σ (.one (.f (.sl rows))) = some rows:=rfl
@[go_sem] theorem agJ {key n:Nat}:XB σ (.one (.own key n)) = (iF σ key).map (·.2):=rfl
def XC (q:Bool) (σ:St) (d sz bytes:Nat) (w:CV) (Eb:List (List FV)):CV → Option (PV × St)
 | .one .dN=>if q = false ∧ Eb.length * bytes ≤ 140737488355328 ∧ Eb.all (fun r=>r.length == sz) then (new σ (dF d) (.row sz Eb)).map fun s=>(.c (.one (.own (dF d) Eb.length)),s) else none
 | .one (.own key n)=>(iF σ key).bind fun o=>if q = false ∧ (o.2.length + Eb.length) * bytes ≤ 140737488355328 ∧ o.1 = sz ∧ n = o.2.length ∧ vT key w = false ∧ key % 2 = 0 ∧ Eb.all (fun r=>r.length == sz) then
   some (.c (.one (.own key (o.2.length + Eb.length))),jm (sub σ key .any) key (.row sz (o.2 ++ Eb))) else none
 | _=>none
@[go_sem ↓] theorem agK {e:TypeId} {sz bytes:Nat}:W k u (cO Γ q σ d (.app e sz bytes x y)) ↔ W (fun v=>W (fun w=>W (fun l=>W k ⟨⟩ (XC q σ d sz bytes w l v)) ⟨⟩ (XB σ w)) ⟨⟩ (val σ y)) ⟨⟩ (val σ x):=by
 simp only [cO,dO,bq]
 refine cK fun v=>cK fun w=>?_
 have e:qp σ w = XB σ w:=by
  cases w with
  | agg l=>rfl
  | one p=>cases p with
   | f a=>cases a <;> rfl
   | own key n=>simp only [qp,XB,iF];cases get σ.ob key with | none=>rfl | some o=>cases o <;> rfl
   | _=>rfl
 rw [e]
 refine cK fun l=>?_
 cases v with
 | agg l=>exact bY
 | one p =>
  cases p with
  | dN=>exact Iff.rfl
  | own key n =>
   simp only [XC,iF]
   cases get σ.ob key with
   | none=>exact bY
   | some o=>cases o <;> exact Iff.rfl
  | _=>exact bY
@[go_sem ↓] theorem acG {sz bytes:Nat} {w:CV} {l:List (List FV)}:W k u (XC q σ d sz bytes w l (.one .dN)) ↔ (q = false ∧ l.length * bytes ≤ 140737488355328 ∧ l.all (fun r=>r.length == sz) = true) ∧ W (fun s=>k (.c (.one (.own (dF d) l.length)),s)) ⟨⟩ (new σ (dF d) (.row sz l)):=by
 simp only [XC,dO,bN,bX]
@[go_sem ↓] theorem acH {sz bytes key n:Nat} {w:CV} {l:List (List FV)}:W k u (XC q σ d sz bytes w l (.one (.own key n))) ↔ W (fun o=>(q = false ∧ (o.2.length + l.length) * bytes ≤ 140737488355328 ∧ o.1 = sz ∧ n = o.2.length ∧ vT key w = false ∧ key % 2 = 0 ∧ l.all (fun r=>r.length == sz) = true) ∧ k (.c (.one (.own key (o.2.length + l.length))),jm (sub σ key .any) key (.row sz (o.2 ++ l)))) ⟨⟩ (iF σ key):=by
 simp only [XC,dO,bq,bN,bH]
def cov (σ:St) (sz:Nat) (i:Int):CV → Option (PV × St)
 | .one (.own key n)=>(iF σ key).bind fun o=>if o.1 = sz ∧ key % 2 = 0 ∧ 0 ≤ i ∧ i ≤ o.2.length then some (.c (.one (.own key i.toNat)),jm (sub σ key .any) key (.row sz (o.2.take i.toNat))) else none
 | _=>none
@[go_sem ↓] theorem afo {sz:Nat}:W k u (cO Γ q σ d (.FJ sz x y)) ↔ q = false ∧ W (fun v=>W (fun j=>W (fun p=>W k ⟨⟩ (cov σ sz p.2 v)) ⟨⟩ (int? j)) ⟨⟩ (val σ y)) ⟨⟩ (val σ x):=by
 simp only [cO,dO,bq,dw,Bool.not_eq_true]
 refine and_congr Iff.rfl (cK fun v=>cK fun j=>cK fun p=>?_)
 cases v with
 | agg l=>exact bY
 | one b =>
  cases b with
  | own key n =>
   simp only [cov,iF]
   cases get σ.ob key with
   | none=>exact bY
   | some o=>cases o <;> exact Iff.rfl
  | _=>exact bY
@[go_sem ↓] theorem agL {sz key n:Nat} {i:Int}:W k u (cov σ sz i (.one (.own key n))) ↔ W (fun o=>(o.1 = sz ∧ key % 2 = 0 ∧ 0 ≤ i ∧ i ≤ (o.2.length:Int)) ∧ k (.c (.one (.own key i.toNat)),jm (sub σ key .any) key (.row sz (o.2.take i.toNat)))) ⟨⟩ (iF σ key):=by
 simp only [cov,dO,bq,bN,bH]
def cvv (σ:St) (sz:Nat) (i:Int):CV → Option PL
 | .one (.own key n)=>(iF σ key).bind fun o=>if o.1 = sz ∧ 0 ≤ i ∧ i ≤ o.2.length then some (.vw key sz o.2.length i.toNat) else none
 | _=>none
@[go_sem ↓] theorem afp {sz:Nat}:W k u (cO Γ q σ d (.cutV sz x y)) ↔ W (fun v=>W (fun j=>W (fun p=>W (fun l=>k (.c (.one l),σ)) ⟨⟩ (cvv σ sz p.2 v)) ⟨⟩ (int? j)) ⟨⟩ (val σ y)) ⟨⟩ (val σ x):=by
 simp only [cO,dO,bq]
 refine cK fun v=>cK fun j=>cK fun p=>?_
 cases v with
 | agg l=>exact bY
 | one b =>
  cases b with
  | own key n =>
   simp only [cvv,iF]
   cases get σ.ob key with
   | none=>exact bY
   | some o =>
    cases o with
    | row sz' rows=>simp only [L9,Option.bind_some,bN,bH]
    | _=>exact bY
  | _=>exact bY
section
variable {k : PL → Prop} {u:Tok k}
@[go_sem ↓] theorem agM {sz key n:Nat} {i:Int}:W k u (cvv σ sz i (.one (.own key n))) ↔ W (fun o=>(o.1 = sz ∧ 0 ≤ i ∧ i ≤ (o.2.length:Int)) ∧ k (.vw key sz o.2.length i.toNat)) ⟨⟩ (iF σ key):=by
 simp only [cvv,dO,bq,bN,bH]
end
def vw? : CV → Option (Nat × Nat × Nat × Nat)
 | .one (.vw key z n lo)=>some (key,z,n,lo)
 | _=>none
@[go_sem] theorem afq {a b c e:Nat}:vw? (.one (.vw a b c e)) = some (a,b,c,e):=rfl
@[go_sem ↓] theorem agN {sz:Nat} {zs:List FV}:W k u (cO Γ q σ d (.Sn sz zs x)) ↔ W (fun v=>W (fun p=>W (fun o=>(o.1 = sz ∧ p.2.1 = sz ∧ zs.length = sz ∧ p.2.2.1 = o.2.length ∧ p.2.2.2 ≤ p.2.2.1) ∧ k (.uQ [],jm σ p.1 (.row sz (o.2.take p.2.2.2 ++ List.replicate (p.2.2.1 - p.2.2.2) zs)))) ⟨⟩ (iF σ p.1)) ⟨⟩ (vw? v)) ⟨⟩ (val σ x):=by
 simp only [cO,dO,bq]
 refine cK fun v=>?_
 cases v with
 | agg l=>exact bY
 | one b =>
  cases b with
  | vw key z n lo =>
   simp only [vw?,bH,iF]
   cases get σ.ob key with
   | none=>exact bY
   | some o =>
    cases o with
    | row sz' rows=>simp only [L9,bN,bH]
    | _=>exact bY
  | _=>exact bY
def SI (σ:St):CV → Option (List (List FV))
 | .one (.f (.sl rows))=>some rows
 | .one .dN=>some []
 | .one (.own key _)=>(iF σ key).bind fun o=>if o.1 = 1 then some o.2 else none
 | _=>none
@[go_sem] theorem agO {rows:List (List FV)}:SI σ (.one (.f (.sl rows))) = some rows:=rfl
@[go_sem] theorem agP : SI σ (.one .dN) = some []:=rfl
@[go_sem] theorem SL : bytesOf [] = some ⟨#[]⟩:=rfl
@[go_sem] theorem Pq {n:Int} {l:List (List FV)}:bytesOf ([.int .u8 n] :: l) = (bytesOf l).map fun s=>⟨#[UInt8.ofNat n.toNat] ++ s.data⟩:=rfl
section
variable {k : List (List FV) → Prop} {u:Tok k}
@[go_sem ↓] theorem agQ {key n:Nat}:W k u (SI σ (.one (.own key n))) ↔ W (fun o=>o.1 = 1 ∧ k o.2) ⟨⟩ (iF σ key):=by
 simp only [SI,dO,bq,bN,bH]
end
@[go_sem ↓] theorem agR : W k u (cO Γ q σ d (.Xh x)) ↔ W (fun v=>W (fun l=>W (fun s=>k (.c (.one (.f (.str s))),σ)) ⟨⟩ (bytesOf l)) ⟨⟩ (SI σ v)) ⟨⟩ (val σ x):=by
 simp only [cO,dO,bq]
 refine cK fun v=>?_
 cases v with
 | agg l=>exact bY
 | one b =>
  cases b with
  | f a =>
   cases a with
   | sl rows=>simp only [SI,bq,bH,one]
   | _=>exact bY
  | dN=>simp only [SI,bH,bytesOf,one]
  | own key n =>
   simp only [SI,iF]
   cases get σ.ob key with
   | none=>exact bY
   | some o =>
    cases o with
    | row sz' rows=>simp only [L9,Option.bind_some,bN,bq,bH,one]
    | _=>exact bY
  | _=>exact bY
@[go_sem ↓] theorem agS {f:FuncId} {xs:List dZ}:W k u (cO Γ q σ d (.Uo f xs)) ↔ W (fun l=>W (fun p=>k (.c (.one (.fn f p.1)),p.2)) ⟨⟩ (lW q σ l)) ⟨⟩ (jh σ xs):=by
 simp only [cO,dO,bq,bX]
@[go_sem ↓] theorem afr {f:FuncId} {xs:List dZ}:W k u (cO Γ q σ d (.zK f xs)) ↔ W (fun l=>W (fun fK=>W (fun r=>W (fun p=>W (fun s=>k (.c (.one (.own (dF d) p.2.length)),s)) ⟨⟩ (new σ (dF d) (.row p.1 p.2))) ⟨⟩ (Us r.1)) ⟨⟩ (Γ f fK)) ⟨⟩ (KT l)) ⟨⟩ (jh σ xs):=by
 simp only [cO,sM,dO,bq,bX]
attribute [go_sem] avT OH avC KT
@[go_sem] theorem ZE {sz:Nat} {rows:List (List FV)}:Us [.one (.own sz rows)] = some (sz,rows):=rfl
@[go_sem ↓] theorem acI {gv:Bool} {f:FuncId} {xs:List dZ}:W k u (cO Γ q σ d (.call gv f xs)) ↔ W (fun l=>W k ⟨⟩ (kW Γ gv q σ d f l)) ⟨⟩ (jh σ xs):=by
 simp only [cO,dO,bq]
def fn? : CV → Option (FuncId × List (List FV))
 | .one (.fn f caps)=>some (f,caps)
 | _=>none
@[go_sem] theorem afs {f:FuncId} {caps:List (List FV)}:fn? (.one (.fn f caps)) = some (f,caps):=rfl
@[go_sem ↓] theorem agT {xs:List dZ}:W k u (cO Γ q σ d (.dyn x xs)) ↔ W (fun v=>W (fun p=>W (fun l=>W k ⟨⟩ (kW Γ false q σ d p.1 (l ++ p.2.map fun c=>.one (.fp c)))) ⟨⟩ (jh σ xs)) ⟨⟩ (fn? v)) ⟨⟩ (val σ x):=by
 simp only [cO,dO,bq]
 refine cK fun v=>?_
 cases v with
 | agg l=>exact bY
 | one b =>
  cases b with
  | fn f caps=>simp only [fn?,bH,bq]
  | _=>exact bY
def Gc (gv:Bool) (args:List CV) (p:List AV × St) (r:List AV × List AV):Option St:=if (!gv && ((r.1.any wN || !p.1.all fI) && args.any (fun x=>(cells x).any gF))) = true then sK p.2 args else some p.2
def Gd (d:Nat) (σ:St) (args:List CV) (p:List AV × St) (r:List AV × List AV) (s:St):Option St:=if p.1.all fI = true then some s else zM σ (args.flatMap cells) (dF d + 10000) s args r.2
@[go_sem ↓] theorem ZF {gv:Bool} {f:FuncId} {args:List CV}:W k u (kW Γ gv q σ d f args) ↔ W (fun p=>W (fun r0=>W (fun r=>((q && !(p.1.all fI && r.1.all fI)) = false ∧ (q && ((r.1.any wN || !p.1.all fI) && args.any (fun x=>(cells x).any gF))) = false) ∧
  W (fun s=>W (fun s=>W (fun v=>k (Jv v.1,v.2)) ⟨⟩ (xP (dF d) 0 [] s r.1)) ⟨⟩ (Gd d σ args p r s)) ⟨⟩ (Gc gv args p r)) ⟨⟩ (some (Ur q r0))) ⟨⟩ (Γ f p.1)) ⟨⟩ (sJ gv σ args):=by
 simp only [kW,dO,bq,dw,bX,bH,Gc,Gd,Bool.not_eq_true,and_assoc]
@[go_sem] theorem aft {r:List AV × List AV}:Ur false r = r:=rfl
@[go_sem] theorem acJ {r:List AV × List AV}:Ur true r = (r.1.map OG,r.2):=rfl
@[go_sem] theorem acK {sz:Nat} {rows:List (List FV)}:OG (.one (.own sz rows)) = .one (.f (.sl rows)):=rfl
@[go_sem] theorem agU {x:FV}:OG (.one (.f x)) = .one (.f x):=rfl
@[go_sem] theorem acL {xs:List TV}:OG (.agg xs) = .agg xs:=rfl
@[go_sem] theorem acM {xs:List CL}:OG (.one (.ptr xs)) = .one (.ptr xs):=rfl
end
section
variable {Γ : Env} {F:Nat} {k:List AV × List AV → Prop} {u:Tok k} {cf:CF} {fK:List AV}
@[go_sem ↓] theorem agV : W k u (KL Γ F cf fK) ↔ fK.length = cf.np ∧ W (fun e=>W (fun p=>(∀ id,p.1 ≠ .ext id) ∧ W (fun b=>W (fun l=>W (fun r=>k (r.1,b.1)) ⟨⟩ (mF cf.ro b.2 l)) ⟨⟩ (slots b.2 cf.res)) ⟨⟩ (jX p.2 e.1 fK)) ⟨⟩ (ev Γ F cf.body e.2)) ⟨⟩ (enter cf.bo 0 [] ⟨[],[]⟩ fK):=by
 simp only [KL,dO,dw,bq,ne_eq,Decidable.not_not]
 refine and_congr Iff.rfl (cK fun e=>cK fun p=>?_)
 obtain ⟨o,s⟩:=p
 cases o with
 | ext id=>simp [jv]
 | _=>simp [bq,bX]
@[go_sem] theorem acN : (∀ id,Out.jd ≠ .ext id) ↔ True:=by simp
@[go_sem] theorem acO : (∀ id,Out.ret ≠ .ext id) ↔ True:=by simp
@[go_sem] theorem acP {i:Nat}:(∀ id,Out.ext i ≠ .ext id) ↔ False:=by simp
end
end Go.Proofs.Ytfokaoeinpnagaa.Ev
namespace Go.Proofs.Ytfokaoeinpnagaa.Ev
open Go
attribute [go_sem] dF dV vT q8 mD oC FL OD Js sub jm pG gF jc plain fI Sq KR wN OE Jv KW Ut Uu Uv KU Uq rowsOf KV.ks SV.sk
attribute [go_sem] List.any_cons List.any_nil List.all_cons List.all_nil List.map_cons List.map_nil List.length_cons List.length_nil List.append_nil List.nil_append List.cons_append List.flatMap_cons List.flatMap_nil List.take_succ_cons List.take_zero List.take_nil List.drop_succ_cons List.drop_zero List.drop_nil Option.getD_some Option.getD_none List.filter_nil List.filter_cons List.headD_nil List.headD_cons List.tail_cons List.tail_nil
section
variable {σ : St} {α:Type}
section
variable {k : St → Prop} {u:Tok k} {key:Nat} {o:Ob} {pend:List PL}
@[go_sem ↓] theorem agW : W k u (new σ key o) ↔ (rem σ.ob key).any (fun p=>mD key p.2) = false ∧ k ⟨σ.tm.filter (fun p=>!q8 key p.2),(key,o) :: rem σ.ob key⟩:=by
 simp only [new,Xi,dO,bX,dw,bH,Bool.not_eq_true]
@[go_sem ↓] theorem afu : W k u (newP pend σ key o) ↔ pend.any (dV key) = false ∧ W k ⟨⟩ (new σ key o):=by
 simp only [newP,dO,dw,Bool.not_eq_true]
@[go_sem ↓] theorem agX : W k u (zG σ key) ↔ W (fun p=>k (sub ⟨σ.tm,rem σ.ob key⟩ key (.f (.sl p.2)))) ⟨⟩ (iF σ key):=by
 simp only [zG,iF,dO]
 cases get σ.ob key with
 | none=>exact bY
 | some o=>cases o <;> first | exact bY | exact lN Iff.rfl
@[go_sem ↓] theorem Vt : W k u (xQ σ []) ↔ k σ:=gN
@[go_sem ↓] theorem SN : W k u (sK σ []) ↔ k σ:=gN
@[go_sem ↓] theorem Pv {x:CV} {xs:List CV}:W k u (sK σ (x :: xs)) ↔ W (fun s=>W k ⟨⟩ (sK s xs)) ⟨⟩ (xQ σ (cells x)):=by
 simp only [sK,dO,bq]
def pX (σ:St):PL → Option St
 | .own key _=>zG σ key
 | _=>some σ
@[go_sem ↓] theorem SQ {x:PL} {xs:List PL}:W k u (xQ σ (x :: xs)) ↔ W (fun s=>W k ⟨⟩ (xQ s xs)) ⟨⟩ (pX σ x):=by
 simp only [dO]
 cases x <;> simp only [xQ,pX,bq,bH]
@[go_sem ↓] theorem SS {n:Nat}:W k u (pX σ (.own key n)) ↔ W k ⟨⟩ (zG σ key):=Iff.rfl
@[go_sem] theorem acQ {x:FV}:pX σ (.f x) = some σ:=rfl
@[go_sem] theorem XD : pX σ .dN = some σ:=rfl
@[go_sem] theorem XE {n:Nat}:pX σ (.ptr key n) = some σ:=rfl
@[go_sem] theorem ZG : pX σ (.mp key) = some σ:=rfl
@[go_sem] theorem XF : pX σ .iw = some σ:=rfl
@[go_sem] theorem Vu : pX σ .fC = some σ:=rfl
@[go_sem] theorem ZH {f:FuncId} {c:List (List FV)}:pX σ (.fn f c) = some σ:=rfl
@[go_sem] theorem ZI {c:List FV}:pX σ (.fp c) = some σ:=rfl
end
section
variable {k : FV × St → Prop} {u:Tok k} {key n:Nat}
@[go_sem] theorem agY {x:FV}:xK σ (.f x) = some (x,σ):=rfl
@[go_sem] theorem acR : xK σ .dN = some (.sl [],σ):=rfl
@[go_sem ↓] theorem XG : W k u (xK σ (.own key n)) ↔ W (fun p=>k (.sl p.2,sub ⟨σ.tm,rem σ.ob key⟩ key (.f (.sl p.2)))) ⟨⟩ (iF σ key):=by
 simp only [xK,zG,iF,dO]
 cases get σ.ob key with
 | none=>exact bY
 | some o=>cases o <;> first | exact bY | (simp only [Option.map_some];exact lN Iff.rfl)
end
section
variable {k : List FV × St → Prop} {u:Tok k}
@[go_sem ↓] theorem Vv : W k u (kV σ []) ↔ k ([],σ):=gN
@[go_sem ↓] theorem SX {x:PL} {xs:List PL}:W k u (kV σ (x :: xs)) ↔ W (fun p=>W (fun r=>k (p.1 :: r.1,r.2)) ⟨⟩ (kV p.2 xs)) ⟨⟩ (xK σ x):=by
 simp only [kV,dO,bq,bX]
@[go_sem ↓] theorem agZ {key:Nat}:W k u (Xk σ key) ↔ W (fun xs=>W (fun p=>W (fun _=>k (p.1,Uv (KU key p.1) ⟨p.2.tm,rem p.2.ob key⟩)) ⟨⟩ (get p.2.ob key)) ⟨⟩ (kV σ xs)) ⟨⟩ (oZ σ key):=by
 simp only [Xk,oZ,dO]
 cases get σ.ob key with
 | none=>exact bY
 | some o =>
  cases o with
  | iV xs =>
   simp only [oc,bH,bq]
   refine cK fun p=>?_
   cases get p.2.ob key with
   | none=>exact bY
   | some o=>exact lN Iff.rfl
  | _=>exact bY
end
section
variable {k : FC × St → Prop} {u:Tok k}
@[go_sem ↓] theorem XH {x:PL}:W k u (Xj σ (.one x)) ↔ W (fun p=>k (.one p.1,p.2)) ⟨⟩ (xK σ x):=by simp only [Xj,dO,bX]
@[go_sem ↓] theorem XI {xs:List PL}:W k u (Xj σ (.agg xs)) ↔ W (fun p=>k (.agg p.1,p.2)) ⟨⟩ (kV σ xs):=by simp only [Xj,dO,bX]
end
section
variable {k : List (List FV) × St → Prop} {u:Tok k} {q:Bool}
@[go_sem ↓] theorem Vw : W k u (lW q σ []) ↔ k ([],σ):=by simp only [lW,dO,bH]
@[go_sem ↓] theorem XJ {cs:List FV} {l:List CV}:W k u (lW q σ (.one (.fp cs) :: l)) ↔ W (fun r=>k (cs :: r.1,r.2)) ⟨⟩ (lW q σ l):=by simp only [lW,dO,bX]
@[go_sem ↓] theorem Vx {key:Nat} {l:List CV}:W k u (lW q σ (.one (.ptr key 0) :: l)) ↔ q = false ∧ W (fun p=>W (fun r=>k (p.1 :: r.1,r.2)) ⟨⟩ (lW q p.2 l)) ⟨⟩ (Xk σ key):=by
 simp only [lW,dO,dw,bq,bX,Bool.not_eq_true]
end
section
variable {k : List (Nat × Nat × CV) → Prop} {u:Tok k}
@[go_sem ↓] theorem Vy : W k u (vals σ []) ↔ k []:=gN
@[go_sem ↓] theorem SY {o n:Nat} {x:dZ} {ps:List (Nat × Nat × dZ)}:W k u (vals σ ((o,n,x) :: ps)) ↔ W (fun v=>W (fun l=>k ((o,n,v) :: l)) ⟨⟩ (vals σ ps)) ⟨⟩ (val σ x):=by
 simp only [vals,dO,bq,bX]
end
section
variable {k : List CV → Prop} {u:Tok k}
@[go_sem ↓] theorem S9 : W k u (jh σ []) ↔ k []:=gN
@[go_sem ↓] theorem Pw {x:dZ} {xs:List dZ}:W k u (jh σ (x :: xs)) ↔ W (fun v=>W (fun l=>k (v :: l)) ⟨⟩ (jh σ xs)) ⟨⟩ (val σ x):=by
 simp only [jh,dO,bq,bX]
@[go_sem ↓] theorem Ta : W k u (slots σ []) ↔ k []:=gN
@[go_sem ↓] theorem Px {x:Rs} {xs:List Rs}:W k u (slots σ (x :: xs)) ↔ W (fun v=>W (fun l=>k (v :: l)) ⟨⟩ (slots σ xs)) ⟨⟩ (slot σ x):=by
 simp only [slots,dO,bq,bX]
end
section
variable {k : CV → Prop} {u:Tok k} {i n:Nat} {agg:Bool}
@[go_sem ↓] theorem ZJ : W k u (slot σ (.t i)) ↔ W k ⟨⟩ (vl (get σ.tm i)):=by rw [← Ze];exact Iff.rfl
@[go_sem ↓] theorem Tc : W k u (slot σ (.cell i n agg)) ↔ W (fun v=>W (fun p=>W (fun xs=>W (fun l=>W k ⟨⟩ (mk agg l)) ⟨⟩ (seg n p.2 xs)) ⟨⟩ (oZ σ p.1)) ⟨⟩ (JH v)) ⟨⟩ (vl (get σ.tm i)):=by
 simp only [slot,dO]
 cases get σ.tm i with
 | none=>exact bY
 | some v =>
  cases v with
  | uQ l=>exact bY
  | c x =>
   simp only [vl,bH]
   cases x with
   | agg l=>exact bY
   | one p =>
    cases p with
    | ptr key off =>
     simp only [JH,bH,oZ]
     cases get σ.ob key with
     | none=>exact bY
     | some o=>cases o <;> first | exact bY | (simp only [oc,bH,bq])
    | _=>exact bY
end
section
variable {k : List PL → Prop} {u:Tok k} {z:List PL}
@[go_sem ↓] theorem Vz : W k u (fill z []) ↔ k z:=by simp only [fill,dO,bH]
@[go_sem ↓] theorem Td {off n:Nat} {v:CV} {ps:List (Nat × Nat × CV)}:W k u (fill z ((off,n,v) :: ps)) ↔ ((cells v).length = n ∧ (cells v).any pG = false) ∧ W (fun z=>W k ⟨⟩ (fill z ps)) ⟨⟩ (lay off (cells v) z):=by
 simp only [fill,dO,bN,bq]
end
@[go_sem] theorem ZK {kk:IntKind} {n:Int}:wK (.int kk n) = some (.int kk n):=rfl
@[go_sem] theorem XK {b:Bool}:wK (.bool b) = some (.bool b):=rfl
@[go_sem] theorem ZL {s:ByteArray}:wK (.str s) = some (.str s):=rfl
section
variable {k : KV → Prop} {u:Tok k}
@[go_sem ↓] theorem XL {x:FV}:W k u (keyOf (.one (.f x))) ↔ W (fun s=>k (.one s)) ⟨⟩ (wK x):=by simp only [keyOf,G9,Option.bind_some,dO,bX]
@[go_sem ↓] theorem XM {xs:List PL}:W k u (keyOf (.agg xs)) ↔ W (fun l=>W (fun s=>k (.agg s)) ⟨⟩ (sI l)) ⟨⟩ (oD xs):=by simp only [keyOf,dO,bq,bX]
end
section
variable {k : List SV → Prop} {u:Tok k}
@[go_sem ↓] theorem Te : W k u (sI []) ↔ k []:=gN
@[go_sem ↓] theorem Py {x:FV} {xs:List FV}:W k u (sI (x :: xs)) ↔ W (fun s=>W (fun l=>k (s :: l)) ⟨⟩ (sI xs)) ⟨⟩ (wK x):=by simp only [sI,dO,bq,bX]
end
section
variable {k : List FV → Prop} {u:Tok k}
@[go_sem ↓] theorem Pz : W k u (oD []) ↔ k []:=gN
@[go_sem ↓] theorem Oy {x:FV} {xs:List PL}:W k u (oD (.f x :: xs)) ↔ W (fun l=>k (x :: l)) ⟨⟩ (oD xs):=by simp only [oD,G9,Option.bind_some,dO,bX]
end
section
variable {k : CL × St → Prop} {u:Tok k} {key n:Nat}
@[go_sem] theorem ag0 {x:FV}:Jt σ (.f x) = some (.f x,σ):=rfl
@[go_sem] theorem acS : Jt σ .dN = some (.f (.sl []),σ):=rfl
@[go_sem] theorem acT : Jt σ .iw = some (.iw,σ):=rfl
@[go_sem] theorem ZM : Jt σ .fC = some (.fC,σ):=rfl
@[go_sem ↓] theorem XO : W k u (Jt σ (.own key n)) ↔ W (fun o=>k (.own o.1 o.2,⟨σ.tm,rem σ.ob key⟩)) ⟨⟩ (iF σ key):=by
 simp only [Jt,iF,dO]
 cases get σ.ob key with
 | none=>exact bY
 | some o=>cases o <;> first | exact bY | exact lN Iff.rfl
@[go_sem ↓] theorem ZN : W k u (Jt σ (.mp key)) ↔ W (fun o=>k (.mp o.1 o.2,⟨σ.tm,rem σ.ob key⟩)) ⟨⟩ (oH σ key):=by
 simp only [Jt,oH,dO]
 cases get σ.ob key with
 | none=>exact bY
 | some o=>cases o <;> first | exact bY | exact lN Iff.rfl
end
section
variable {k : List CL × St → Prop} {u:Tok k}
@[go_sem ↓] theorem VA : W k u (zL σ []) ↔ k ([],σ):=gN
@[go_sem ↓] theorem Tf {x:PL} {xs:List PL}:W k u (zL σ (x :: xs)) ↔ W (fun p=>W (fun r=>k (p.1 :: r.1,r.2)) ⟨⟩ (zL p.2 xs)) ⟨⟩ (Jt σ x):=by
 simp only [zL,dO,bq,bX]
end
section
variable {k : TV × St → Prop} {u:Tok k} {key n:Nat} {gv:Bool}
@[go_sem] theorem ag1 {x:FV}:rR gv σ (.f x) = some (.f x,σ):=rfl
@[go_sem] theorem acU : rR gv σ .dN = some (.f (.sl []),σ):=rfl
@[go_sem] theorem acV : rR gv σ .iw = some (.iw,σ):=rfl
@[go_sem] theorem ZO : rR gv σ .fC = some (.fC,σ):=rfl
@[go_sem] theorem afv {cs:List FV}:rR gv σ (.fp cs) = some (.fp cs,σ):=rfl
@[go_sem] theorem afw {f:FuncId} {cs:List (List FV)}:rR gv σ (.fn f cs) = some (.fn f cs,σ):=rfl
@[go_sem ↓] theorem XP : W k u (rR false σ (.own key n)) ↔ W (fun o=>k (.f (.sl o.2),σ)) ⟨⟩ (iF σ key):=by
 simp only [rR,iF,dO]
 cases get σ.ob key with
 | none=>exact bY
 | some o=>cases o <;> first | exact bY | exact lN Iff.rfl
@[go_sem ↓] theorem VB : W k u (rR true σ (.own key n)) ↔ W (fun o=>k (.own o.1 o.2,⟨σ.tm,rem σ.ob key⟩)) ⟨⟩ (iF σ key):=by
 simp only [rR,iF,dO]
 cases get σ.ob key with
 | none=>exact bY
 | some o=>cases o <;> first | exact bY | exact lN Iff.rfl
@[go_sem ↓] theorem ZP : W k u (rR gv σ (.mp key)) ↔ W (fun o=>k (.mp o.1 o.2,⟨σ.tm,rem σ.ob key⟩)) ⟨⟩ (oH σ key):=by
 simp only [rR,oH,dO]
 cases get σ.ob key with
 | none=>exact bY
 | some o=>cases o <;> first | exact bY | exact lN Iff.rfl
@[go_sem ↓] theorem XQ : W k u (rR gv σ (.ptr key 0)) ↔ W (fun xs=>W (fun p=>k (.ptr p.1,p.2)) ⟨⟩ (zL ⟨σ.tm,rem σ.ob key⟩ xs)) ⟨⟩ (oZ σ key):=by
 simp only [rR,oZ,dO]
 cases get σ.ob key with
 | none=>exact bY
 | some o=>cases o <;> first | exact bY | (simp only [oc,bH,bX])
end
section
variable {k : List TV × St → Prop} {u:Tok k} {gv:Bool}
@[go_sem ↓] theorem VD : W k u (rT gv σ []) ↔ k ([],σ):=gN
@[go_sem ↓] theorem Tg {x:PL} {xs:List PL}:W k u (rT gv σ (x :: xs)) ↔ W (fun p=>W (fun r=>k (p.1 :: r.1,r.2)) ⟨⟩ (rT gv p.2 xs)) ⟨⟩ (rR gv σ x):=by
 simp only [rT,dO,bq,bX]
end
section
variable {k : AV × St → Prop} {u:Tok k} {gv:Bool}
@[go_sem ↓] theorem XR {x:PL}:W k u (KI gv σ (.one x)) ↔ W (fun p=>k (.one p.1,p.2)) ⟨⟩ (rR gv σ x):=by simp only [KI,dO,bX]
@[go_sem ↓] theorem XT {xs:List PL}:W k u (KI gv σ (.agg xs)) ↔ W (fun p=>k (.agg p.1,p.2)) ⟨⟩ (rT gv σ xs):=by simp only [KI,dO,bX]
end
section
variable {k : List AV × St → Prop} {u:Tok k} {gv:Bool}
@[go_sem ↓] theorem VE : W k u (sJ gv σ []) ↔ k ([],σ):=gN
@[go_sem ↓] theorem Ti {x:CV} {xs:List CV}:W k u (sJ gv σ (x :: xs)) ↔ W (fun p=>W (fun r=>k (p.1 :: r.1,r.2)) ⟨⟩ (sJ gv p.2 xs)) ⟨⟩ (KI gv σ x):=by
 simp only [sJ,dO,bq,bX]
end
section
variable {k : List PL × St → Prop} {u:Tok k} {kf:Nat → Nat} {c base j:Nat} {pend:List PL}
@[go_sem ↓] theorem VF : W k u (qQ kf c pend σ []) ↔ k ([],σ):=by simp only [qQ,dO,bH]
def PD (kf:Nat → Nat) (c:Nat) (pend:List PL) (σ:St):CL → Option (PL × St)
 | .f x=>some (.f x,σ)
 | .iw=>some (.iw,σ)
 | .fC=>some (.fC,σ)
 | .mp sh ents=>(newP pend σ (kf c) (.map sh ents)).map fun s=>(.mp (kf c),s)
 | .own sz rows=>(newP pend σ (kf c + kf c % 2) (.row sz rows)).map fun s=>(.own (kf c + kf c % 2) rows.length,s)
@[go_sem ↓] theorem Tj {x:CL} {xs:List CL}:W k u (qQ kf c pend σ (x :: xs)) ↔ W (fun p=>W (fun r=>k (p.1 :: r.1,r.2)) ⟨⟩ (qQ kf (c + 1) (p.1 :: pend) p.2 xs)) ⟨⟩ (PD kf c pend σ x):=by
 simp only [dO]
 cases x <;> simp only [qQ,PD,bH,bq,bX]
@[go_sem ↓] theorem VG : W k u (xO base j pend σ []) ↔ k ([],σ):=by simp only [xO,dO,bH]
@[go_sem ↓] theorem Tk {x:TV} {xs:List TV}:W k u (xO base j pend σ (x :: xs)) ↔ W (fun p=>W (fun r=>k (p.1 :: r.1,r.2)) ⟨⟩ (xO base (j + 1) (p.1 :: pend) p.2 xs)) ⟨⟩ (Dp (base + 200 * (j + 1)) pend σ x):=by
 simp only [xO,dO,bq,bX]
end
section
variable {k : PL × St → Prop} {u:Tok k} {kf:Nat → Nat} {c key:Nat} {pend:List PL}
@[go_sem] theorem ag2 {x:FV}:PD kf c pend σ (.f x) = some (.f x,σ):=rfl
@[go_sem] theorem acW : PD kf c pend σ .iw = some (.iw,σ):=rfl
@[go_sem] theorem ZR : PD kf c pend σ .fC = some (.fC,σ):=rfl
@[go_sem ↓] theorem ZT {sh:KS} {ents:List (KV × FC)}:W k u (PD kf c pend σ (.mp sh ents)) ↔ W (fun s=>k (.mp (kf c),s)) ⟨⟩ (newP pend σ (kf c) (.map sh ents)):=by simp only [PD,dO,bX]
@[go_sem ↓] theorem XU {sz:Nat} {rows:List (List FV)}:W k u (PD kf c pend σ (.own sz rows)) ↔ W (fun s=>k (.own (kf c + kf c % 2) rows.length,s)) ⟨⟩ (newP pend σ (kf c + kf c % 2) (.row sz rows)):=by simp only [PD,dO,bX]
@[go_sem] theorem ag3 {x:FV}:Dp key pend σ (.f x) = some (.f x,σ):=rfl
@[go_sem] theorem acX : Dp key pend σ .iw = some (.iw,σ):=rfl
@[go_sem] theorem ZU : Dp key pend σ .fC = some (.fC,σ):=rfl
@[go_sem] theorem afx {cs:List FV}:Dp key pend σ (.fp cs) = some (.fp cs,σ):=rfl
@[go_sem] theorem afy {f:FuncId} {cs:List (List FV)}:Dp key pend σ (.fn f cs) = some (.fn f cs,σ):=rfl
@[go_sem] theorem acY : Dp key pend σ .any = some (.any,σ):=rfl
@[go_sem ↓] theorem ZV {sh:KS} {ents:List (KV × FC)}:W k u (Dp key pend σ (.mp sh ents)) ↔ W (fun s=>k (.mp key,s)) ⟨⟩ (newP pend σ key (.map sh ents)):=by simp only [Dp,dO,bX]
@[go_sem ↓] theorem XV {sz:Nat} {rows:List (List FV)}:W k u (Dp key pend σ (.own sz rows)) ↔ W (fun s=>k (.own (ow key) rows.length,s)) ⟨⟩ (newP pend σ (ow key) (.row sz rows)):=by simp only [Dp,dO,bX]
@[go_sem ↓] theorem XW {cs:List CL}:W k u (Dp key pend σ (.ptr cs)) ↔ W (fun p=>p.1.any (dV key) = false ∧ W (fun s=>k (.ptr key 0,s)) ⟨⟩ (newP pend p.2 key (.iV p.1))) ⟨⟩ (qQ (OE key) 0 pend σ cs):=by
 simp only [Dp,dO,bq,dw,bX,Bool.not_eq_true]
end
section
variable {k : CV × St → Prop} {u:Tok k} {base:Nat} {pend:List PL}
@[go_sem ↓] theorem XY {x:TV}:W k u (KJ base pend σ (.one x)) ↔ W (fun p=>k (.one p.1,p.2)) ⟨⟩ (Dp (base + 200) pend σ x):=by simp only [KJ,dO,bX]
@[go_sem ↓] theorem XZ {xs:List TV}:W k u (KJ base pend σ (.agg xs)) ↔ W (fun p=>k (.agg p.1,p.2)) ⟨⟩ (xO base 0 pend σ xs):=by simp only [KJ,dO,bX]
end
section
variable {k : List CV × St → Prop} {u:Tok k} {base i:Nat} {pend:List PL} {bo:List Nat}
@[go_sem] theorem ag4 : ab bo i = if bo.contains i then dF i + 10001 else dF i + 1:=rfl
@[go_sem] theorem ag5 {key:Nat}:ow key = if key / 10000 % 2 = 0 then key + key % 2 else key:=rfl
@[go_sem ↓] theorem VH : W k u (xP base i pend σ []) ↔ k ([],σ):=by simp only [xP,dO,bH]
@[go_sem ↓] theorem Tm {x:AV} {xs:List AV}:W k u (xP base i pend σ (x :: xs)) ↔ W (fun p=>W (fun r=>k (p.1 :: r.1,r.2)) ⟨⟩ (xP base (i + 1) (cells p.1 ++ pend) p.2 xs)) ⟨⟩ (KJ (base + 2000 * i) pend σ x):=by
 simp only [xP,dO,bq,bX]
@[go_sem ↓] theorem Tn : W k u (enter bo i pend σ []) ↔ k ([],σ):=by simp only [enter,dO,bH]
@[go_sem ↓] theorem PE {x:AV} {xs:List AV}:W k u (enter bo i pend σ (x :: xs)) ↔ W (fun p=>W (fun s=>W (fun r=>k (p.1 :: r.1,r.2)) ⟨⟩ (enter bo (i + 1) (cells p.1 ++ pend) s xs)) ⟨⟩ (some ⟨put p.2.tm i (.c p.1),p.2.ob⟩)) ⟨⟩ (KJ (ab bo i) pend σ x):=by
 simp only [enter,dO,bq,bX,bH]
end
section
variable {k : St → Prop} {u:Tok k} {fH:St} {base:Nat} {pend:List PL}
@[go_sem ↓] theorem VI : W k u (zM fH pend base σ [] []) ↔ k σ:=by simp only [zM,dO,bH]
@[go_sem ↓] theorem Tp {x:CV} {xs:List CV} {y:AV} {ys:List AV}:W k u (zM fH pend base σ (x :: xs) (y :: ys)) ↔ W (fun s=>W k ⟨⟩ (zM fH pend (base + 1000) s xs ys)) ⟨⟩ (Yp fH pend base σ x y):=by
 simp only [zM,dO,bq]
@[go_sem ↓] theorem X0 {x:PL} {y:TV}:W k u (Yp fH pend base σ (.one x) (.one y)) ↔ W k ⟨⟩ (Dq fH pend base σ x y):=Iff.rfl
@[go_sem ↓] theorem X3 {x:List PL} {y:List TV}:W k u (Yp fH pend base σ (.agg x) (.agg y)) ↔ W k ⟨⟩ (Bw fH pend base σ x y):=Iff.rfl
@[go_sem ↓] theorem VJ : W k u (Bw fH pend base σ [] []) ↔ k σ:=by simp only [Bw,dO,bH]
@[go_sem ↓] theorem Tq {x:PL} {xs:List PL} {y:TV} {ys:List TV}:W k u (Bw fH pend base σ (x :: xs) (y :: ys)) ↔ W (fun s=>W k ⟨⟩ (Bw fH pend (base + 200) s xs ys)) ⟨⟩ (Dq fH pend base σ x y):=by
 simp only [Bw,dO,bq]
@[go_sem ↓] theorem X4 {key off:Nat} {cs:List CL}:W k u (Dq fH pend base σ (.ptr key off) (.ptr cs)) ↔ W (fun xs=>W (fun p=>k (jm p.2 key (.iV p.1))) ⟨⟩ (qQ (Ju base xs) 0 pend σ cs)) ⟨⟩ (oZ fH key):=by
 simp only [Dq,oZ,dO]
 cases get fH.ob key with
 | none=>exact bY
 | some o=>cases o <;> first | exact bY | (simp only [oc,bH,bX])
@[go_sem] theorem afz {key:Nat} {sh:KS} {ents:List (KV × FC)}:Dq fH pend base σ (.mp key) (.mp sh ents) = some (jm σ key (.map sh ents)):=rfl
@[go_sem] theorem ZW {key n sz:Nat} {rows:List (List FV)}:Dq fH pend base σ (.own key n) (.own sz rows) = some (jm σ key (.row sz rows)):=rfl
@[go_sem] theorem ag6 {x y:FV}:Dq fH pend base σ (.f x) (.f y) = some σ:=rfl
@[go_sem] theorem acZ {y:FV}:Dq fH pend base σ .dN (.f y) = some σ:=rfl
@[go_sem] theorem ac0 : Dq fH pend base σ .iw .iw = some σ:=rfl
@[go_sem] theorem ZX : Dq fH pend base σ .fC .fC = some σ:=rfl
@[go_sem] theorem ac1 {key n:Nat} {y:FV}:Dq fH pend base σ (.own key n) (.f y) = some σ:=rfl
@[go_sem] theorem ac2 {key n:Nat}:Dq fH pend base σ (.own key n) .any = some σ:=rfl
@[go_sem] theorem afA {a b:List FV}:Dq fH pend base σ (.fp a) (.fp b) = some σ:=rfl
@[go_sem] theorem afB {f g:FuncId} {a b:List (List FV)}:Dq fH pend base σ (.fn f a) (.fn g b) = some σ:=rfl
end
def X5 (base c:Nat):Option PL → Nat
 | some (.mp k)=>if k % 2 = 0 then k else base + 2 * (c + 1)
 | some (.own k _)=>if k % 2 = 0 then k else base + 2 * (c + 1)
 | _=>base + 2 * (c + 1)
@[go_sem] theorem ac3 {base c:Nat} {xs:List PL}:Ju base xs c = X5 base c (xs[c]?):=by
 unfold Ju
 cases xs[c]? with
 | none=>rfl
 | some x=>cases x <;> rfl
@[go_sem] theorem afC {base c k:Nat}:X5 base c (some (.mp k)) = if k % 2 = 0 then k else base + 2 * (c + 1):=rfl
@[go_sem] theorem ac4 {base c k n:Nat}:X5 base c (some (.own k n)) = if k % 2 = 0 then k else base + 2 * (c + 1):=rfl
@[go_sem] theorem ag7 {base c:Nat} {x:FV}:X5 base c (some (.f x)) = base + 2 * (c + 1):=rfl
@[go_sem] theorem ac5 {base c:Nat}:X5 base c (some .dN) = base + 2 * (c + 1):=rfl
@[go_sem] theorem ZY {base c:Nat}:X5 base c (some .fC) = base + 2 * (c + 1):=rfl
section
variable {k : TV × St → Prop} {u:Tok k} {key n:Nat}
@[go_sem] theorem afD {x:FV}:outT σ (.f x) = some (.f x,σ):=rfl
@[go_sem] theorem Z0 : outT σ .dN = some (.f (.sl []),σ):=rfl
@[go_sem] theorem Z4 : outT σ .iw = some (.iw,σ):=rfl
@[go_sem] theorem X6 : outT σ .fC = some (.fC,σ):=rfl
@[go_sem] theorem ac6 {cs:List FV}:outT σ (.fp cs) = some (.fp cs,σ):=rfl
@[go_sem] theorem ac7 {f:FuncId} {cs:List (List FV)}:outT σ (.fn f cs) = some (.fn f cs,σ):=rfl
@[go_sem ↓] theorem VK : W k u (outT σ (.own key n)) ↔ W (fun p=>k (.f p.1,p.2)) ⟨⟩ (xK σ (.own key n)):=by simp only [outT,dO,bX]
@[go_sem ↓] theorem X7 : W k u (outT σ (.mp key)) ↔ W (fun o=>k (.mp o.1 o.2,⟨σ.tm,rem σ.ob key⟩)) ⟨⟩ (oH σ key):=by
 simp only [outT,oH,dO]
 cases get σ.ob key with
 | none=>exact bY
 | some o=>cases o <;> first | exact bY | exact lN Iff.rfl
@[go_sem ↓] theorem VL : W k u (outT σ (.ptr key 0)) ↔ W (fun xs=>W (fun p=>k (.ptr p.1,p.2)) ⟨⟩ (zL ⟨σ.tm,rem σ.ob key⟩ xs)) ⟨⟩ (oZ σ key):=by
 simp only [outT,oZ,dO]
 cases get σ.ob key with
 | none=>exact bY
 | some o=>cases o <;> first | exact bY | (simp only [oc,bH,bX])
@[go_sem ↓] theorem VN {sz:Nat}:W k u (Bz sz σ (.own key n)) ↔ W (fun o=>o.1 = sz ∧ k (.own sz o.2,⟨σ.tm,rem σ.ob key⟩)) ⟨⟩ (iF σ key):=by
 simp only [Bz,iF,dO]
 cases get σ.ob key with
 | none=>exact bY
 | some o=>cases o <;> first | exact bY | (simp only [L9,bH,bN])
@[go_sem ↓] theorem VO {sz:Nat}:W k u (Bz sz σ .dN) ↔ ¬ sz = 0 ∧ k (.own sz [],σ):=by simp only [Bz,dO,dw,bH]
@[go_sem] theorem ac8 {x:PL} {y:FV}:jS σ x (.f y) = some (.f y,σ):=by cases x <;> first | rfl | (rename_i a b;cases b <;> rfl)
@[go_sem] theorem X8 {x:PL}:jS σ x .iw = some (.iw,σ):=by cases x <;> first | rfl | (rename_i a b;cases b <;> rfl)
@[go_sem] theorem VP {x:PL}:jS σ x .fC = some (.fC,σ):=by cases x <;> first | rfl | (rename_i a b;cases b <;> rfl)
def bko (σ:St) (key:Nat):Nat → Option (TV × St)
 | 1=>(L9 (get σ.ob key)).map fun p=>(.own p.1 p.2,⟨σ.tm,rem σ.ob key⟩)
 | _=>some (.any,σ)
@[go_sem] theorem ag8 : bko σ key 0 = some (.any,σ):=rfl
@[go_sem] theorem Z5 : bko σ key 1 = (L9 (get σ.ob key)).map fun p=>(.own p.1 p.2,⟨σ.tm,rem σ.ob key⟩):=rfl
@[go_sem] theorem X9 {n sz:Nat} {rows:List (List FV)}:jS σ (.own key n) (.own sz rows) = bko σ key (key % 2):=by
 simp only [jS]
 rcases Nat.mod_two_eq_zero_or_one key with h | h
 ·rw [h,if_neg (by decide)];rfl
 ·rw [h,if_pos rfl,Z5]
  cases get σ.ob key with
  | none=>rfl
  | some o=>cases o <;> rfl
@[go_sem] theorem Ya {sz:Nat} {rows:List (List FV)}:jS σ .dN (.own sz rows) = some (.any,σ):=rfl
@[go_sem] theorem Yb {x:PL}:jS σ x .any = some (.any,σ):=by cases x <;> first | rfl | (rename_i a b;cases b <;> rfl)
@[go_sem] theorem Z6 {x:PL} {cs:List FV}:jS σ x (.fp cs) = some (.fp cs,σ):=by cases x <;> first | rfl | (rename_i a b;cases b <;> rfl)
@[go_sem] theorem Z7 {x:PL} {f:FuncId} {cs:List (List FV)}:jS σ x (.fn f cs) = some (.fn f cs,σ):=by cases x <;> first | rfl | (rename_i a b;cases b <;> rfl)
@[go_sem ↓] theorem Tt {cs:List CL}:W k u (jS σ (.ptr key 0) (.ptr cs)) ↔ key % 2 = 1 ∧ W k ⟨⟩ (outT σ (.ptr key 0)):=by simp only [jS,dO,bN]
@[go_sem ↓] theorem VQ {sh:KS} {ents:List (KV × FC)}:W k u (jS σ (.mp key) (.mp sh ents)) ↔ key % 2 = 1 ∧ W k ⟨⟩ (outT σ (.mp key)):=by simp only [jS,dO,bN]
end
section
variable {k : List TV × St → Prop} {u:Tok k}
@[go_sem ↓] theorem Tv : W k u (vU σ []) ↔ k ([],σ):=gN
@[go_sem ↓] theorem PG {x:PL} {xs:List PL}:W k u (vU σ (x :: xs)) ↔ W (fun p=>W (fun r=>k (p.1 :: r.1,r.2)) ⟨⟩ (vU p.2 xs)) ⟨⟩ (outT σ x):=by
 simp only [vU,dO,bq,bX]
@[go_sem ↓] theorem PI : W k u (oF σ [] []) ↔ k ([],σ):=by simp only [oF,dO,bH]
@[go_sem ↓] theorem Oz {l:PL} {ls:List PL} {x:TV} {xs:List TV}:W k u (oF σ (l :: ls) (x :: xs)) ↔ W (fun p=>W (fun r=>k (p.1 :: r.1,r.2)) ⟨⟩ (oF p.2 ls xs)) ⟨⟩ (jS σ l x):=by
 simp only [oF,dO,bq,bX]
end
section
variable {k : AV × St → Prop} {u:Tok k}
@[go_sem ↓] theorem KN {x:PL}:W k u (BA none σ (.one x)) ↔ W (fun p=>k (.one p.1,p.2)) ⟨⟩ (outT σ x):=by simp only [BA,OL,dO,bX]
@[go_sem ↓] theorem KO {xs:List PL}:W k u (BA none σ (.agg xs)) ↔ W (fun p=>k (.agg p.1,p.2)) ⟨⟩ (vU σ xs):=by simp only [BA,OL,dO,bX]
@[go_sem ↓] theorem Tw {sz:Nat} {x:PL}:W k u (BA (some sz) σ (.one x)) ↔ W (fun p=>k (.one p.1,p.2)) ⟨⟩ (Bz sz σ x):=by simp only [BA,dO,bX]
@[go_sem ↓] theorem Tx {l:PL} {x:TV}:W k u (xS σ (.one l) (.one x)) ↔ W (fun p=>k (.one p.1,p.2)) ⟨⟩ (jS σ l x):=by simp only [xS,dO,bX]
@[go_sem ↓] theorem Tz {l:List PL} {x:List TV}:W k u (xS σ (.agg l) (.agg x)) ↔ W (fun p=>k (.agg p.1,p.2)) ⟨⟩ (oF σ l x):=by simp only [xS,dO,bX]
end
section
variable {k : List AV × St → Prop} {u:Tok k}
@[go_sem ↓] theorem TA {fl:List (Option Nat)}:W k u (mF fl σ []) ↔ k ([],σ):=by simp only [mF,dO,bH]
@[go_sem ↓] theorem PK {fl:List (Option Nat)} {x:CV} {xs:List CV}:W k u (mF fl σ (x :: xs)) ↔ W (fun p=>W (fun r=>k (p.1 :: r.1,r.2)) ⟨⟩ (mF fl.tail p.2 xs)) ⟨⟩ (BA (fl.headD none) σ x):=by
 simp only [mF,dO,bq,bX]
@[go_sem ↓] theorem PN : W k u (jX σ [] []) ↔ k ([],σ):=by simp only [jX,dO,bH]
@[go_sem ↓] theorem OA {l:CV} {ls:List CV} {x:AV} {xs:List AV}:W k u (jX σ (l :: ls) (x :: xs)) ↔ W (fun p=>W (fun r=>k (p.1 :: r.1,r.2)) ⟨⟩ (jX p.2 ls xs)) ⟨⟩ (xS σ l x):=by
 simp only [jX,dO,bq,bX]
end
section
variable {k : St → Prop} {u:Tok k} {gv:Bool} {d:Nat} {args:List CV} {p:List AV × St} {r:List AV × List AV} {s:St}
@[go_sem ↓] theorem afE : W k u (Gc gv args p r) ↔ (if (!gv && ((r.1.any wN || !p.1.all fI) && args.any (fun x=>(cells x).any gF))) = true then W k ⟨⟩ (sK p.2 args) else k p.2):=by
 simp only [Gc,dO]
 split
 ·exact Iff.rfl
 ·exact bH
@[go_sem ↓] theorem afF : W k u (Gd d σ args p r s) ↔ (if p.1.all fI = true then k s else W k ⟨⟩ (zM σ (args.flatMap cells) (dF d + 10000) s args r.2)):=by
 simp only [Gd,dO]
 split
 ·exact bH
 ·exact Iff.rfl
end
end
section
variable {σ : St} {ks Dm:List Nat} {rws:List (Nat × Nat)}
@[go_sem] theorem afG : res ks Dm rws σ = ⟨pick ks (jd σ rws).tm,pick Dm (jd σ rws).ob⟩:=rfl
@[go_sem] theorem ac9 : jd σ [] = σ:=rfl
end
attribute [go_sem] if_true if_false true_and and_true Bool.not_false Bool.not_true Bool.and_false Bool.false_and Bool.and_true Bool.true_and Bool.or_false Bool.false_or Bool.or_true Bool.true_or Bool.false_eq_true not_true_eq_false not_false_eq_true ne_eq forall_const and_self implies_true KV.one.injEq KV.agg.injEq SV.str.injEq SV.int.injEq SV.bool.injEq List.cons.injEq List.getElem?_cons_zero List.getElem?_cons_succ List.getD_cons_zero List.getD_cons_succ List.contains_cons List.contains_nil decide_true decide_false fresh
end Go.Proofs.Ytfokaoeinpnagaa.Ev

/- A part of the proof of ChainLinks: cut, joined and given short names by a program of this session (wip/tools/pack.py); Lean checks it. No condition. -/
import Derived.Test.YtfokaoeinpnagaaPCLksf
import Derived.Test.YtfokaoeinpnagaaPCLksd
set_option linter.unusedSectionVars false
set_option linter.unusedSimpArgs false
set_option linter.unusedVariables false
namespace Go.Proofs.Ytfokaoeinpnagaa.Ev
open Go
section
variable {Γ : Env} {F d:Nat} {q:Bool} {σ:St} {k:PV × St → Prop} {u:Tok k} {x y z:dX}
def Ll (σ:St) (sh:KS):CV → Option (Option (Nat × List (KV × FC)))
 | .one .fA=>some none
 | .one (.mp key)=>(nX σ key).bind fun o=>if o.1 = sh then some (some (key,o.2)) else none
 | _=>none
@[go_sem] theorem YV {sh:KS}:Ll σ sh (.one .fA) = some none:=rfl
section
variable {k : Option (Nat × List (KV × FC)) → Prop} {u:Tok k}
@[go_sem ↓] theorem aeS {sh:KS} {key:Nat}:W k u (Ll σ sh (.one (.mp key))) ↔ W (fun o=>o.1 = sh ∧ k (some (key,o.2))) ⟨⟩ (nX σ key):=by
 simp only [Ll,dN,bq,bN,bH]
end
def su (m:Option (Nat × List (KV × FC))) (a:KV):Option FC:=m.bind fun m=>qZ m.2 a
def cnt (m:Option (Nat × List (KV × FC))):Nat:=match m with
 | none=>0
 | some m=>m.2.length
@[go_sem] theorem YW {a:KV}:su none a = none:=rfl
@[go_sem] theorem YX {key:Nat} {l:List (KV × FC)} {a:KV}:su (some (key,l)) a = qZ l a:=rfl
@[go_sem] theorem YZ : cnt none = 0:=rfl
@[go_sem] theorem Y0 {key:Nat} {l:List (KV × FC)}:cnt (some (key,l)) = l.length:=rfl
def lkv (z:FC) (ok:Bool) (r:Option FC):PV:=if ok then .uD [wV (r.getD z),.one (.f (.bool r.isSome))] else .c (wV (r.getD z))
@[go_sem] theorem aeT {z:FC} {r:Option FC}:lkv z true r = .uD [wV (r.getD z),.one (.f (.bool r.isSome))]:=rfl
@[go_sem] theorem aeU {z:FC} {r:Option FC}:lkv z false r = .c (wV (r.getD z)):=rfl
@[go_sem] theorem Y1 {x:FV}:wV (.one x) = .one (.f x):=rfl
@[go_sem] theorem Y2 {xs:List FV}:wV (.agg xs) = .agg (xs.map .f):=rfl
@[go_sem ↓] theorem aeV {sh:KS} {z:FC} {ok:Bool}:W k u (cO Γ q σ d (.look sh z ok x y)) ↔ W (fun v=>W (fun w=>W (fun a=>a.ks = sh ∧ W (fun m=>k (lkv z ok (su m a),σ)) ⟨⟩ (Ll σ sh v)) ⟨⟩ (keyOf w)) ⟨⟩ (val σ y)) ⟨⟩ (val σ x):=by
 simp only [cO,dN,bq,dw,bX,ne_eq,Decidable.not_not]
 refine cK fun v=>cK fun w=>cK fun a=>and_congr Iff.rfl ?_
 cases v with
 | agg l=>exact bY
 | one p =>
  cases p with
  | fA=>exact lG Iff.rfl
  | mp key =>
   simp only [Ll,nX]
   cases get σ.ob key with
   | none=>exact bY
   | some o =>
    cases o with
    | map sh' ents =>
     simp only [om,Option.bind_some]
     by_cases hs:sh' = sh
     ·rw [if_pos hs,if_pos hs];exact lG (by cases ok <;> exact Iff.rfl)
     ·rw [if_neg hs,if_neg hs];exact bY
    | _=>exact bY
  | _=>exact bY
@[go_sem ↓] theorem aeW : W k u (cO Γ q σ d (.IV x)) ↔ W (fun v=>W (fun n:Nat=>k (.c (.one (.f (.int .i64 (n:Int)))),σ)) ⟨⟩ (OC σ v)) ⟨⟩ (val σ x):=by
 simp only [cO,dN,bq]
 refine cK fun v=>?_
 cases v with
 | agg l=>exact bY
 | one p =>
  cases p with
  | fA=>exact lG Iff.rfl
  | mp key =>
   simp only [OC,nX]
   cases get σ.ob key with
   | none=>exact bY
   | some o=>cases o <;> first | exact bY | exact lG Iff.rfl
  | _=>exact bY
def upv (σ:St) (sh:KS) (a:KV) (p:FC × St):CV → Option St
 | .one (.mp key)=>(nX p.2 key).bind fun o=>if o.1 = sh then some (jh p.2 key (.map sh (vY o.2 a p.1))) else none
 | _=>none
@[go_sem ↓] theorem aeX {sh:KS}:W k u (cO Γ q σ d (.wT sh x y z)) ↔ W (fun v=>W (fun w=>W (fun a=>a.ks = sh ∧ W (fun w=>(q && (cells w).any gD) = false ∧ W (fun p=>W (fun s=>k (.c (.one .und),s)) ⟨⟩ (upv σ sh a p v)) ⟨⟩ (Ww σ w)) ⟨⟩ (val σ z)) ⟨⟩ (keyOf w)) ⟨⟩ (val σ y)) ⟨⟩ (val σ x):=by
 simp only [cO,dN,bq,dw,ne_eq,Decidable.not_not,Bool.not_eq_true]
 refine cK fun v=>cK fun w=>cK fun a=>and_congr Iff.rfl (cK fun w=>and_congr Iff.rfl (cK fun p=>?_))
 cases v with
 | agg l=>exact bY
 | one b =>
  cases b with
  | mp key =>
   simp only [upv,nX]
   cases get p.2.ob key with
   | none=>exact bY
   | some o =>
    cases o with
    | map sh' ents =>
     simp only [om,Option.bind_some]
     split
     ·exact lG Iff.rfl
     ·exact bY
    | _=>exact bY
  | _=>exact bY
section
variable {k : St → Prop} {u:Tok k} {sh:KS} {a:KV} {key:Nat}
@[go_sem ↓] theorem af9 {p:FC × St}:W k u (upv σ sh a p (.one (.mp key))) ↔ W (fun o=>o.1 = sh ∧ k (jh p.2 key (.map sh (vY o.2 a p.1)))) ⟨⟩ (nX p.2 key):=by
 simp only [upv,dN,bq,bN,bH]
end
def Y3 (σ:St) (sh:KS) (a:KV):CV → Option St
 | .one .fA=>some σ
 | .one (.mp key)=>(nX σ key).bind fun o=>if o.1 = sh then some (jh σ key (.map sh (A9 o.2 a))) else none
 | _=>none
@[go_sem] theorem ab6 {sh:KS} {a:KV}:Y3 σ sh a (.one .fA) = some σ:=rfl
section
variable {k : St → Prop} {u:Tok k} {sh:KS} {a:KV} {key:Nat}
@[go_sem ↓] theorem aga : W k u (Y3 σ sh a (.one (.mp key))) ↔ W (fun o=>o.1 = sh ∧ k (jh σ key (.map sh (A9 o.2 a)))) ⟨⟩ (nX σ key):=by
 simp only [Y3,dN,bq,bN,bH]
end
@[go_sem ↓] theorem agb {sh:KS}:W k u (cO Γ q σ d (.del sh x y)) ↔ W (fun v=>W (fun w=>W (fun a=>a.ks = sh ∧ W (fun s=>k (.uD [],s)) ⟨⟩ (Y3 σ sh a v)) ⟨⟩ (keyOf w)) ⟨⟩ (val σ y)) ⟨⟩ (val σ x):=by
 simp only [cO,dN,bq,dw,ne_eq,Decidable.not_not]
 refine cK fun v=>cK fun w=>cK fun a=>and_congr Iff.rfl ?_
 cases v with
 | agg l=>exact bY
 | one b =>
  cases b with
  | fA=>exact lG Iff.rfl
  | mp key =>
   simp only [Y3,nX]
   cases get σ.ob key with
   | none=>exact bY
   | some o =>
    cases o with
    | map sh' ents =>
     simp only [om,Option.bind_some]
     split
     ·exact lG Iff.rfl
     ·exact bY
    | _=>exact bY
  | _=>exact bY
def WR (σ:St):CV → Option (List (List FV))
 | .one .dM=>some []
 | .one (.f (.sl rows))=>some rows
 | .one (.own key _)=>(iC σ key).map (·.2)
 | _=>none
@[go_sem] theorem agc : WR σ (.one .dM) = some []:=rfl
@[go_sem] theorem agd {rows:List (List FV)}:WR σ (.one (.f (.sl rows))) = some rows:=rfl
@[go_sem] theorem agf {key n:Nat}:WR σ (.one (.own key n)) = (iC σ key).map (·.2):=rfl
def WS (q:Bool) (σ:St) (d sz bytes:Nat) (w:CV) (DF:List (List FV)):CV → Option (PV × St)
 | .one .dM=>if q = false ∧ DF.length * bytes ≤ 140737488355328 ∧ DF.all (fun r=>r.length == sz) then (new σ (dD d) (.row sz DF)).map fun s=>(.c (.one (.own (dD d) DF.length)),s) else none
 | .one (.own key n)=>(iC σ key).bind fun o=>if q = false ∧ (o.2.length + DF.length) * bytes ≤ 140737488355328 ∧ o.1 = sz ∧ n = o.2.length ∧ vC key w = false ∧ key % 2 = 0 ∧ DF.all (fun r=>r.length == sz) then
   some (.c (.one (.own key (o.2.length + DF.length))),jh (sub σ key .any) key (.row sz (o.2 ++ DF))) else none
 | _=>none
@[go_sem ↓] theorem agh {e:TypeId} {sz bytes:Nat}:W k u (cO Γ q σ d (.app e sz bytes x y)) ↔ W (fun v=>W (fun w=>W (fun l=>W k ⟨⟩ (WS q σ d sz bytes w l v)) ⟨⟩ (WR σ w)) ⟨⟩ (val σ y)) ⟨⟩ (val σ x):=by
 simp only [cO,dN,bq]
 refine cK fun v=>cK fun w=>?_
 have e:pU σ w = WR σ w:=by
  cases w with
  | agg l=>rfl
  | one p=>cases p with
   | f a=>cases a <;> rfl
   | own key n=>simp only [pU,WR,iC];cases get σ.ob key with | none=>rfl | some o=>cases o <;> rfl
   | _=>rfl
 rw [e]
 refine cK fun l=>?_
 cases v with
 | agg l=>exact bY
 | one p =>
  cases p with
  | dM=>exact Iff.rfl
  | own key n =>
   simp only [WS,iC]
   cases get σ.ob key with
   | none=>exact bY
   | some o=>cases o <;> exact Iff.rfl
  | _=>exact bY
@[go_sem ↓] theorem ab7 {sz bytes:Nat} {w:CV} {l:List (List FV)}:W k u (WS q σ d sz bytes w l (.one .dM)) ↔ (q = false ∧ l.length * bytes ≤ 140737488355328 ∧ l.all (fun r=>r.length == sz) = true) ∧ W (fun s=>k (.c (.one (.own (dD d) l.length)),s)) ⟨⟩ (new σ (dD d) (.row sz l)):=by
 simp only [WS,dN,bN,bX]
@[go_sem ↓] theorem ab8 {sz bytes key n:Nat} {w:CV} {l:List (List FV)}:W k u (WS q σ d sz bytes w l (.one (.own key n))) ↔ W (fun o=>(q = false ∧ (o.2.length + l.length) * bytes ≤ 140737488355328 ∧ o.1 = sz ∧ n = o.2.length ∧ vC key w = false ∧ key % 2 = 0 ∧ l.all (fun r=>r.length == sz) = true) ∧ k (.c (.one (.own key (o.2.length + l.length))),jh (sub σ key .any) key (.row sz (o.2 ++ l)))) ⟨⟩ (iC σ key):=by
 simp only [WS,dN,bq,bN,bH]
def cov (σ:St) (sz:Nat) (i:Int):CV → Option (PV × St)
 | .one (.own key n)=>(iC σ key).bind fun o=>if o.1 = sz ∧ key % 2 = 0 ∧ 0 ≤ i ∧ i ≤ o.2.length then some (.c (.one (.own key i.toNat)),jh (sub σ key .any) key (.row sz (o.2.take i.toNat))) else none
 | _=>none
@[go_sem ↓] theorem aeY {sz:Nat}:W k u (cO Γ q σ d (.EP sz x y)) ↔ q = false ∧ W (fun v=>W (fun j=>W (fun p=>W k ⟨⟩ (cov σ sz p.2 v)) ⟨⟩ (int? j)) ⟨⟩ (val σ y)) ⟨⟩ (val σ x):=by
 simp only [cO,dN,bq,dw,Bool.not_eq_true]
 refine and_congr Iff.rfl (cK fun v=>cK fun j=>cK fun p=>?_)
 cases v with
 | agg l=>exact bY
 | one b =>
  cases b with
  | own key n =>
   simp only [cov,iC]
   cases get σ.ob key with
   | none=>exact bY
   | some o=>cases o <;> exact Iff.rfl
  | _=>exact bY
@[go_sem ↓] theorem agi {sz key n:Nat} {i:Int}:W k u (cov σ sz i (.one (.own key n))) ↔ W (fun o=>(o.1 = sz ∧ key % 2 = 0 ∧ 0 ≤ i ∧ i ≤ (o.2.length:Int)) ∧ k (.c (.one (.own key i.toNat)),jh (sub σ key .any) key (.row sz (o.2.take i.toNat)))) ⟨⟩ (iC σ key):=by
 simp only [cov,dN,bq,bN,bH]
def cvv (σ:St) (sz:Nat) (i:Int):CV → Option PL
 | .one (.own key n)=>(iC σ key).bind fun o=>if o.1 = sz ∧ 0 ≤ i ∧ i ≤ o.2.length then some (.vw key sz o.2.length i.toNat) else none
 | _=>none
@[go_sem ↓] theorem aeZ {sz:Nat}:W k u (cO Γ q σ d (.cutV sz x y)) ↔ W (fun v=>W (fun j=>W (fun p=>W (fun l=>k (.c (.one l),σ)) ⟨⟩ (cvv σ sz p.2 v)) ⟨⟩ (int? j)) ⟨⟩ (val σ y)) ⟨⟩ (val σ x):=by
 simp only [cO,dN,bq]
 refine cK fun v=>cK fun j=>cK fun p=>?_
 cases v with
 | agg l=>exact bY
 | one b =>
  cases b with
  | own key n =>
   simp only [cvv,iC]
   cases get σ.ob key with
   | none=>exact bY
   | some o =>
    cases o with
    | row sz' rows=>simp only [Lj,Option.bind_some,bN,bH]
    | _=>exact bY
  | _=>exact bY
section
variable {k : PL → Prop} {u:Tok k}
@[go_sem ↓] theorem agj {sz key n:Nat} {i:Int}:W k u (cvv σ sz i (.one (.own key n))) ↔ W (fun o=>(o.1 = sz ∧ 0 ≤ i ∧ i ≤ (o.2.length:Int)) ∧ k (.vw key sz o.2.length i.toNat)) ⟨⟩ (iC σ key):=by
 simp only [cvv,dN,bq,bN,bH]
end
def vw? : CV → Option (Nat × Nat × Nat × Nat)
 | .one (.vw key z n lo)=>some (key,z,n,lo)
 | _=>none
@[go_sem] theorem ae0 {a b c e:Nat}:vw? (.one (.vw a b c e)) = some (a,b,c,e):=rfl
@[go_sem ↓] theorem agk {sz:Nat} {zs:List FV}:W k u (cO Γ q σ d (.RA sz zs x)) ↔ W (fun v=>W (fun p=>W (fun o=>(o.1 = sz ∧ p.2.1 = sz ∧ zs.length = sz ∧ p.2.2.1 = o.2.length ∧ p.2.2.2 ≤ p.2.2.1) ∧ k (.uD [],jh σ p.1 (.row sz (o.2.take p.2.2.2 ++ List.replicate (p.2.2.1 - p.2.2.2) zs)))) ⟨⟩ (iC σ p.1)) ⟨⟩ (vw? v)) ⟨⟩ (val σ x):=by
 simp only [cO,dN,bq]
 refine cK fun v=>?_
 cases v with
 | agg l=>exact bY
 | one b =>
  cases b with
  | vw key z n lo =>
   simp only [vw?,bH,iC]
   cases get σ.ob key with
   | none=>exact bY
   | some o =>
    cases o with
    | row sz' rows=>simp only [Lj,bN,bH]
    | _=>exact bY
  | _=>exact bY
def RQ (σ:St):CV → Option (List (List FV))
 | .one (.f (.sl rows))=>some rows
 | .one .dM=>some []
 | .one (.own key _)=>(iC σ key).bind fun o=>if o.1 = 1 then some o.2 else none
 | _=>none
@[go_sem] theorem agl {rows:List (List FV)}:RQ σ (.one (.f (.sl rows))) = some rows:=rfl
@[go_sem] theorem agm : RQ σ (.one .dM) = some []:=rfl
@[go_sem] theorem RS : bytesOf [] = some ⟨#[]⟩:=rfl
@[go_sem] theorem OE {n:Int} {l:List (List FV)}:bytesOf ([.int .u8 n] :: l) = (bytesOf l).map fun s=>⟨#[UInt8.ofNat n.toNat] ++ s.data⟩:=rfl
section
variable {k : List (List FV) → Prop} {u:Tok k}
@[go_sem ↓] theorem agn {key n:Nat}:W k u (RQ σ (.one (.own key n))) ↔ W (fun o=>o.1 = 1 ∧ k o.2) ⟨⟩ (iC σ key):=by
 simp only [RQ,dN,bq,bN,bH]
end
@[go_sem ↓] theorem agp : W k u (cO Γ q σ d (.Wu x)) ↔ W (fun v=>W (fun l=>W (fun s=>k (.c (.one (.f (.str s))),σ)) ⟨⟩ (bytesOf l)) ⟨⟩ (RQ σ v)) ⟨⟩ (val σ x):=by
 simp only [cO,dN,bq]
 refine cK fun v=>?_
 cases v with
 | agg l=>exact bY
 | one b =>
  cases b with
  | f a =>
   cases a with
   | sl rows=>simp only [RQ,bq,bH,one]
   | _=>exact bY
  | dM=>simp only [RQ,bH,bytesOf,one]
  | own key n =>
   simp only [RQ,iC]
   cases get σ.ob key with
   | none=>exact bY
   | some o =>
    cases o with
    | row sz' rows=>simp only [Lj,Option.bind_some,bN,bq,bH,one]
    | _=>exact bY
  | _=>exact bY
@[go_sem ↓] theorem agq {f:FuncId} {xs:List dX}:W k u (cO Γ q σ d (.TB f xs)) ↔ W (fun l=>W (fun p=>k (.c (.one (.fn f p.1)),p.2)) ⟨⟩ (lS q σ l)) ⟨⟩ (jd σ xs):=by
 simp only [cO,dN,bq,bX]
@[go_sem ↓] theorem ae1 {f:FuncId} {xs:List dX}:W k u (cO Γ q σ d (.zn f xs)) ↔ W (fun l=>W (fun fJ=>W (fun r=>W (fun p=>W (fun s=>k (.c (.one (.own (dD d) p.2.length)),s)) ⟨⟩ (new σ (dD d) (.row p.1 p.2))) ⟨⟩ (TG r.1)) ⟨⟩ (Γ f fJ)) ⟨⟩ (Kl l)) ⟨⟩ (jd σ xs):=by
 simp only [cO,rX,dN,bq,bX]
attribute [go_sem] avT NT avC Kl
@[go_sem] theorem Y4 {sz:Nat} {rows:List (List FV)}:TG [.one (.own sz rows)] = some (sz,rows):=rfl
@[go_sem ↓] theorem ab9 {gv:Bool} {f:FuncId} {xs:List dX}:W k u (cO Γ q σ d (.call gv f xs)) ↔ W (fun l=>W k ⟨⟩ (kP Γ gv q σ d f l)) ⟨⟩ (jd σ xs):=by
 simp only [cO,dN,bq]
def fn? : CV → Option (FuncId × List (List FV))
 | .one (.fn f caps)=>some (f,caps)
 | _=>none
@[go_sem] theorem ae2 {f:FuncId} {caps:List (List FV)}:fn? (.one (.fn f caps)) = some (f,caps):=rfl
@[go_sem ↓] theorem agr {xs:List dX}:W k u (cO Γ q σ d (.dyn x xs)) ↔ W (fun v=>W (fun p=>W (fun l=>W k ⟨⟩ (kP Γ false q σ d p.1 (l ++ p.2.map fun c=>.one (.fp c)))) ⟨⟩ (jd σ xs)) ⟨⟩ (fn? v)) ⟨⟩ (val σ x):=by
 simp only [cO,dN,bq]
 refine cK fun v=>?_
 cases v with
 | agg l=>exact bY
 | one b =>
  cases b with
  | fn f caps=>simp only [fn?,bH,bq]
  | _=>exact bY
def Fq (gv:Bool) (args:List CV) (p:List AV × St) (r:List AV × List AV):Option St:=if (!gv && ((r.1.any vZ || !p.1.all fG) && args.any (fun x=>(cells x).any gD))) = true then rW p.2 args else some p.2
def Fu (d:Nat) (σ:St) (args:List CV) (p:List AV × St) (r:List AV × List AV) (s:St):Option St:=if p.1.all fG = true then some s else zq σ (args.flatMap cells) (dD d + 10000) s args r.2
@[go_sem ↓] theorem Y5 {gv:Bool} {f:FuncId} {args:List CV}:W k u (kP Γ gv q σ d f args) ↔ W (fun p=>W (fun r0=>W (fun r=>((q && !(p.1.all fG && r.1.all fG)) = false ∧ (q && ((r.1.any vZ || !p.1.all fG) && args.any (fun x=>(cells x).any gD))) = false) ∧
  W (fun s=>W (fun s=>W (fun v=>k (IZ v.1,v.2)) ⟨⟩ (wY (dD d) 0 [] s r.1)) ⟨⟩ (Fu d σ args p r s)) ⟨⟩ (Fq gv args p r)) ⟨⟩ (some (TF q r0))) ⟨⟩ (Γ f p.1)) ⟨⟩ (rV gv σ args):=by
 simp only [kP,dN,bq,dw,bX,bH,Fq,Fu,Bool.not_eq_true,and_assoc]
@[go_sem] theorem ae3 {r:List AV × List AV}:TF false r = r:=rfl
@[go_sem] theorem acd {r:List AV × List AV}:TF true r = (r.1.map NS,r.2):=rfl
@[go_sem] theorem ace {sz:Nat} {rows:List (List FV)}:NS (.one (.own sz rows)) = .one (.f (.sl rows)):=rfl
@[go_sem] theorem ags {x:FV}:NS (.one (.f x)) = .one (.f x):=rfl
@[go_sem] theorem acf {xs:List TV}:NS (.agg xs) = .agg xs:=rfl
@[go_sem] theorem acg {xs:List CL}:NS (.one (.ptr xs)) = .one (.ptr xs):=rfl
end
section
variable {Γ : Env} {F:Nat} {k:List AV × List AV → Prop} {u:Tok k} {cf:CF} {fJ:List AV}
@[go_sem ↓] theorem agt : W k u (Ka Γ F cf fJ) ↔ fJ.length = cf.np ∧ W (fun e=>W (fun p=>(∀ id,p.1 ≠ .ext id) ∧ W (fun b=>W (fun l=>W (fun r=>k (r.1,b.1)) ⟨⟩ (mh cf.ro b.2 l)) ⟨⟩ (slots b.2 cf.res)) ⟨⟩ (jQ p.2 e.1 fJ)) ⟨⟩ (ev Γ F cf.body e.2)) ⟨⟩ (enter cf.bo 0 [] ⟨[],[]⟩ fJ):=by
 simp only [Ka,dN,dw,bq,ne_eq,Decidable.not_not]
 refine and_congr Iff.rfl (cK fun e=>cK fun p=>?_)
 obtain ⟨o,s⟩:=p
 cases o with
 | ext id=>simp [jm]
 | _=>simp [bq,bX]
@[go_sem] theorem ach : (∀ id,Out.iX ≠ .ext id) ↔ True:=by simp
@[go_sem] theorem aci : (∀ id,Out.ret ≠ .ext id) ↔ True:=by simp
@[go_sem] theorem acj {i:Nat}:(∀ id,Out.ext i ≠ .ext id) ↔ False:=by simp
end
end Go.Proofs.Ytfokaoeinpnagaa.Ev
namespace Go.Proofs.Ytfokaoeinpnagaa.Ev
open Go
attribute [go_sem] dD dU vC qK l9 nS ER NQ IW sub jh oL gD jP plain fG RB Kk vZ NR IZ Kn TH TI TJ Km TD rowsOf KV.ks SV.sk
attribute [go_sem] List.any_cons List.any_nil List.all_cons List.all_nil List.map_cons List.map_nil List.length_cons List.length_nil List.append_nil List.nil_append List.cons_append List.flatMap_cons List.flatMap_nil List.take_succ_cons List.take_zero List.take_nil List.drop_succ_cons List.drop_zero List.drop_nil Option.getD_some Option.getD_none List.filter_nil List.filter_cons List.headD_nil List.headD_cons List.tail_cons List.tail_nil
section
variable {σ : St} {α:Type}
section
variable {k : St → Prop} {u:Tok k} {key:Nat} {o:Ob} {pend:List PL}
@[go_sem ↓] theorem agu : W k u (new σ key o) ↔ (rem σ.ob key).any (fun p=>l9 key p.2) = false ∧ k ⟨σ.tm.filter (fun p=>!qK key p.2),(key,o) :: rem σ.ob key⟩:=by
 simp only [new,Wv,dN,bX,dw,bH,Bool.not_eq_true]
@[go_sem ↓] theorem ae4 : W k u (newP pend σ key o) ↔ pend.any (dU key) = false ∧ W k ⟨⟩ (new σ key o):=by
 simp only [newP,dN,dw,Bool.not_eq_true]
@[go_sem ↓] theorem agv : W k u (zi σ key) ↔ W (fun p=>k (sub ⟨σ.tm,rem σ.ob key⟩ key (.f (.sl p.2)))) ⟨⟩ (iC σ key):=by
 simp only [zi,iC,dN]
 cases get σ.ob key with
 | none=>exact bY
 | some o=>cases o <;> first | exact bY | exact lG Iff.rfl
@[go_sem ↓] theorem UQ : W k u (wZ σ []) ↔ k σ:=gL
@[go_sem ↓] theorem RU : W k u (rW σ []) ↔ k σ:=gL
@[go_sem ↓] theorem OG {x:CV} {xs:List CV}:W k u (rW σ (x :: xs)) ↔ W (fun s=>W k ⟨⟩ (rW s xs)) ⟨⟩ (wZ σ (cells x)):=by
 simp only [rW,dN,bq]
def pq (σ:St):PL → Option St
 | .own key _=>zi σ key
 | _=>some σ
@[go_sem ↓] theorem RV {x:PL} {xs:List PL}:W k u (wZ σ (x :: xs)) ↔ W (fun s=>W k ⟨⟩ (wZ s xs)) ⟨⟩ (pq σ x):=by
 simp only [dN]
 cases x <;> simp only [wZ,pq,bq,bH]
@[go_sem ↓] theorem RX {n:Nat}:W k u (pq σ (.own key n)) ↔ W k ⟨⟩ (zi σ key):=Iff.rfl
@[go_sem] theorem acn {x:FV}:pq σ (.f x) = some σ:=rfl
@[go_sem] theorem WT : pq σ .dM = some σ:=rfl
@[go_sem] theorem WU {n:Nat}:pq σ (.ptr key n) = some σ:=rfl
@[go_sem] theorem Y6 : pq σ (.mp key) = some σ:=rfl
@[go_sem] theorem WV : pq σ .ig = some σ:=rfl
@[go_sem] theorem UR : pq σ .fA = some σ:=rfl
@[go_sem] theorem Y7 {f:FuncId} {c:List (List FV)}:pq σ (.fn f c) = some σ:=rfl
@[go_sem] theorem Y8 {c:List FV}:pq σ (.fp c) = some σ:=rfl
end
section
variable {k : FV × St → Prop} {u:Tok k} {key n:Nat}
@[go_sem] theorem agw {x:FV}:wU σ (.f x) = some (x,σ):=rfl
@[go_sem] theorem aco : wU σ .dM = some (.sl [],σ):=rfl
@[go_sem ↓] theorem WW : W k u (wU σ (.own key n)) ↔ W (fun p=>k (.sl p.2,sub ⟨σ.tm,rem σ.ob key⟩ key (.f (.sl p.2)))) ⟨⟩ (iC σ key):=by
 simp only [wU,zi,iC,dN]
 cases get σ.ob key with
 | none=>exact bY
 | some o=>cases o <;> first | exact bY | (simp only [Option.map_some];exact lG Iff.rfl)
end
section
variable {k : List FV × St → Prop} {u:Tok k}
@[go_sem ↓] theorem UU : W k u (kN σ []) ↔ k ([],σ):=gL
@[go_sem ↓] theorem RY {x:PL} {xs:List PL}:W k u (kN σ (x :: xs)) ↔ W (fun p=>W (fun r=>k (p.1 :: r.1,r.2)) ⟨⟩ (kN p.2 xs)) ⟨⟩ (wU σ x):=by
 simp only [kN,dN,bq,bX]
@[go_sem ↓] theorem agx {key:Nat}:W k u (Wx σ key) ↔ W (fun xs=>W (fun p=>W (fun _=>k (p.1,TJ (Km key p.1) ⟨p.2.tm,rem p.2.ob key⟩)) ⟨⟩ (get p.2.ob key)) ⟨⟩ (kN σ xs)) ⟨⟩ (oG σ key):=by
 simp only [Wx,oG,dN]
 cases get σ.ob key with
 | none=>exact bY
 | some o =>
  cases o with
  | iK xs =>
   simp only [oc,bH,bq]
   refine cK fun p=>?_
   cases get p.2.ob key with
   | none=>exact bY
   | some o=>exact lG Iff.rfl
  | _=>exact bY
end
section
variable {k : FC × St → Prop} {u:Tok k}
@[go_sem ↓] theorem WX {x:PL}:W k u (Ww σ (.one x)) ↔ W (fun p=>k (.one p.1,p.2)) ⟨⟩ (wU σ x):=by simp only [Ww,dN,bX]
@[go_sem ↓] theorem WY {xs:List PL}:W k u (Ww σ (.agg xs)) ↔ W (fun p=>k (.agg p.1,p.2)) ⟨⟩ (kN σ xs):=by simp only [Ww,dN,bX]
end
section
variable {k : List (List FV) × St → Prop} {u:Tok k} {q:Bool}
@[go_sem ↓] theorem UW : W k u (lS q σ []) ↔ k ([],σ):=by simp only [lS,dN,bH]
@[go_sem ↓] theorem WZ {cs:List FV} {l:List CV}:W k u (lS q σ (.one (.fp cs) :: l)) ↔ W (fun r=>k (cs :: r.1,r.2)) ⟨⟩ (lS q σ l):=by simp only [lS,dN,bX]
@[go_sem ↓] theorem UY {key:Nat} {l:List CV}:W k u (lS q σ (.one (.ptr key 0) :: l)) ↔ q = false ∧ W (fun p=>W (fun r=>k (p.1 :: r.1,r.2)) ⟨⟩ (lS q p.2 l)) ⟨⟩ (Wx σ key):=by
 simp only [lS,dN,dw,bq,bX,Bool.not_eq_true]
end
section
variable {k : List (Nat × Nat × CV) → Prop} {u:Tok k}
@[go_sem ↓] theorem UZ : W k u (vals σ []) ↔ k []:=gL
@[go_sem ↓] theorem RZ {o n:Nat} {x:dX} {ps:List (Nat × Nat × dX)}:W k u (vals σ ((o,n,x) :: ps)) ↔ W (fun v=>W (fun l=>k ((o,n,v) :: l)) ⟨⟩ (vals σ ps)) ⟨⟩ (val σ x):=by
 simp only [vals,dN,bq,bX]
end
section
variable {k : List CV → Prop} {u:Tok k}
@[go_sem ↓] theorem R3 : W k u (jd σ []) ↔ k []:=gL
@[go_sem ↓] theorem OH {x:dX} {xs:List dX}:W k u (jd σ (x :: xs)) ↔ W (fun v=>W (fun l=>k (v :: l)) ⟨⟩ (jd σ xs)) ⟨⟩ (val σ x):=by
 simp only [jd,dN,bq,bX]
@[go_sem ↓] theorem R4 : W k u (slots σ []) ↔ k []:=gL
@[go_sem ↓] theorem OI {x:Rs} {xs:List Rs}:W k u (slots σ (x :: xs)) ↔ W (fun v=>W (fun l=>k (v :: l)) ⟨⟩ (slots σ xs)) ⟨⟩ (slot σ x):=by
 simp only [slots,dN,bq,bX]
end
section
variable {k : CV → Prop} {u:Tok k} {i n:Nat} {agg:Bool}
@[go_sem ↓] theorem Y9 : W k u (slot σ (.t i)) ↔ W k ⟨⟩ (vl (get σ.tm i)):=by rw [← YF];exact Iff.rfl
@[go_sem ↓] theorem R5 : W k u (slot σ (.cell i n agg)) ↔ W (fun v=>W (fun p=>W (fun xs=>W (fun l=>W k ⟨⟩ (mk agg l)) ⟨⟩ (seg n p.2 xs)) ⟨⟩ (oG σ p.1)) ⟨⟩ (Je v)) ⟨⟩ (vl (get σ.tm i)):=by
 simp only [slot,dN]
 cases get σ.tm i with
 | none=>exact bY
 | some v =>
  cases v with
  | uD l=>exact bY
  | c x =>
   simp only [vl,bH]
   cases x with
   | agg l=>exact bY
   | one p =>
    cases p with
    | ptr key off =>
     simp only [Je,bH,oG]
     cases get σ.ob key with
     | none=>exact bY
     | some o=>cases o <;> first | exact bY | (simp only [oc,bH,bq])
    | _=>exact bY
end
section
variable {k : List PL → Prop} {u:Tok k} {z:List PL}
@[go_sem ↓] theorem U0 : W k u (fill z []) ↔ k z:=by simp only [fill,dN,bH]
@[go_sem ↓] theorem R6 {off n:Nat} {v:CV} {ps:List (Nat × Nat × CV)}:W k u (fill z ((off,n,v) :: ps)) ↔ ((cells v).length = n ∧ (cells v).any oL = false) ∧ W (fun z=>W k ⟨⟩ (fill z ps)) ⟨⟩ (lay off (cells v) z):=by
 simp only [fill,dN,bN,bq]
end
@[go_sem] theorem Za {kk:IntKind} {n:Int}:vW (.int kk n) = some (.int kk n):=rfl
@[go_sem] theorem W9 {b:Bool}:vW (.bool b) = some (.bool b):=rfl
@[go_sem] theorem Zb {s:ByteArray}:vW (.str s) = some (.str s):=rfl
section
variable {k : KV → Prop} {u:Tok k}
@[go_sem ↓] theorem Xa {x:FV}:W k u (keyOf (.one (.f x))) ↔ W (fun s=>k (.one s)) ⟨⟩ (vW x):=by simp only [keyOf,Gr,Option.bind_some,dN,bX]
@[go_sem ↓] theorem Xb {xs:List PL}:W k u (keyOf (.agg xs)) ↔ W (fun l=>W (fun s=>k (.agg s)) ⟨⟩ (rU l)) ⟨⟩ (nT xs):=by simp only [keyOf,dN,bq,bX]
end
section
variable {k : List SV → Prop} {u:Tok k}
@[go_sem ↓] theorem R7 : W k u (rU []) ↔ k []:=gL
@[go_sem ↓] theorem OJ {x:FV} {xs:List FV}:W k u (rU (x :: xs)) ↔ W (fun s=>W (fun l=>k (s :: l)) ⟨⟩ (rU xs)) ⟨⟩ (vW x):=by simp only [rU,dN,bq,bX]
end
section
variable {k : List FV → Prop} {u:Tok k}
@[go_sem ↓] theorem OL : W k u (nT []) ↔ k []:=gL
@[go_sem ↓] theorem NI {x:FV} {xs:List PL}:W k u (nT (.f x :: xs)) ↔ W (fun l=>k (x :: l)) ⟨⟩ (nT xs):=by simp only [nT,Gr,Option.bind_some,dN,bX]
end
section
variable {k : CL × St → Prop} {u:Tok k} {key n:Nat}
@[go_sem] theorem agy {x:FV}:IX σ (.f x) = some (.f x,σ):=rfl
@[go_sem] theorem acp : IX σ .dM = some (.f (.sl []),σ):=rfl
@[go_sem] theorem acr : IX σ .ig = some (.ig,σ):=rfl
@[go_sem] theorem Zc : IX σ .fA = some (.fA,σ):=rfl
@[go_sem ↓] theorem Xc : W k u (IX σ (.own key n)) ↔ W (fun o=>k (.own o.1 o.2,⟨σ.tm,rem σ.ob key⟩)) ⟨⟩ (iC σ key):=by
 simp only [IX,iC,dN]
 cases get σ.ob key with
 | none=>exact bY
 | some o=>cases o <;> first | exact bY | exact lG Iff.rfl
@[go_sem ↓] theorem Zd : W k u (IX σ (.mp key)) ↔ W (fun o=>k (.mp o.1 o.2,⟨σ.tm,rem σ.ob key⟩)) ⟨⟩ (nX σ key):=by
 simp only [IX,nX,dN]
 cases get σ.ob key with
 | none=>exact bY
 | some o=>cases o <;> first | exact bY | exact lG Iff.rfl
end
section
variable {k : List CL × St → Prop} {u:Tok k}
@[go_sem ↓] theorem U1 : W k u (zo σ []) ↔ k ([],σ):=gL
@[go_sem ↓] theorem R8 {x:PL} {xs:List PL}:W k u (zo σ (x :: xs)) ↔ W (fun p=>W (fun r=>k (p.1 :: r.1,r.2)) ⟨⟩ (zo p.2 xs)) ⟨⟩ (IX σ x):=by
 simp only [zo,dN,bq,bX]
end
section
variable {k : TV × St → Prop} {u:Tok k} {key n:Nat} {gv:Bool}
@[go_sem] theorem agz {x:FV}:q8 gv σ (.f x) = some (.f x,σ):=rfl
@[go_sem] theorem acs : q8 gv σ .dM = some (.f (.sl []),σ):=rfl
@[go_sem] theorem acu : q8 gv σ .ig = some (.ig,σ):=rfl
@[go_sem] theorem Ze : q8 gv σ .fA = some (.fA,σ):=rfl
@[go_sem] theorem ae5 {cs:List FV}:q8 gv σ (.fp cs) = some (.fp cs,σ):=rfl
@[go_sem] theorem ae6 {f:FuncId} {cs:List (List FV)}:q8 gv σ (.fn f cs) = some (.fn f cs,σ):=rfl
@[go_sem ↓] theorem Xd : W k u (q8 false σ (.own key n)) ↔ W (fun o=>k (.f (.sl o.2),σ)) ⟨⟩ (iC σ key):=by
 simp only [q8,iC,dN]
 cases get σ.ob key with
 | none=>exact bY
 | some o=>cases o <;> first | exact bY | exact lG Iff.rfl
@[go_sem ↓] theorem U2 : W k u (q8 true σ (.own key n)) ↔ W (fun o=>k (.own o.1 o.2,⟨σ.tm,rem σ.ob key⟩)) ⟨⟩ (iC σ key):=by
 simp only [q8,iC,dN]
 cases get σ.ob key with
 | none=>exact bY
 | some o=>cases o <;> first | exact bY | exact lG Iff.rfl
@[go_sem ↓] theorem Zf : W k u (q8 gv σ (.mp key)) ↔ W (fun o=>k (.mp o.1 o.2,⟨σ.tm,rem σ.ob key⟩)) ⟨⟩ (nX σ key):=by
 simp only [q8,nX,dN]
 cases get σ.ob key with
 | none=>exact bY
 | some o=>cases o <;> first | exact bY | exact lG Iff.rfl
@[go_sem ↓] theorem Xe : W k u (q8 gv σ (.ptr key 0)) ↔ W (fun xs=>W (fun p=>k (.ptr p.1,p.2)) ⟨⟩ (zo ⟨σ.tm,rem σ.ob key⟩ xs)) ⟨⟩ (oG σ key):=by
 simp only [q8,oG,dN]
 cases get σ.ob key with
 | none=>exact bY
 | some o=>cases o <;> first | exact bY | (simp only [oc,bH,bX])
end
section
variable {k : List TV × St → Prop} {u:Tok k} {gv:Bool}
@[go_sem ↓] theorem U3 : W k u (q9 gv σ []) ↔ k ([],σ):=gL
@[go_sem ↓] theorem R9 {x:PL} {xs:List PL}:W k u (q9 gv σ (x :: xs)) ↔ W (fun p=>W (fun r=>k (p.1 :: r.1,r.2)) ⟨⟩ (q9 gv p.2 xs)) ⟨⟩ (q8 gv σ x):=by
 simp only [q9,dN,bq,bX]
end
section
variable {k : AV × St → Prop} {u:Tok k} {gv:Bool}
@[go_sem ↓] theorem Xf {x:PL}:W k u (J8 gv σ (.one x)) ↔ W (fun p=>k (.one p.1,p.2)) ⟨⟩ (q8 gv σ x):=by simp only [J8,dN,bX]
@[go_sem ↓] theorem Xg {xs:List PL}:W k u (J8 gv σ (.agg xs)) ↔ W (fun p=>k (.agg p.1,p.2)) ⟨⟩ (q9 gv σ xs):=by simp only [J8,dN,bX]
end
section
variable {k : List AV × St → Prop} {u:Tok k} {gv:Bool}
@[go_sem ↓] theorem U4 : W k u (rV gv σ []) ↔ k ([],σ):=gL
@[go_sem ↓] theorem Sb {x:CV} {xs:List CV}:W k u (rV gv σ (x :: xs)) ↔ W (fun p=>W (fun r=>k (p.1 :: r.1,r.2)) ⟨⟩ (rV gv p.2 xs)) ⟨⟩ (J8 gv σ x):=by
 simp only [rV,dN,bq,bX]
end
section
variable {k : List PL × St → Prop} {u:Tok k} {kf:Nat → Nat} {c base j:Nat} {pend:List PL}
@[go_sem ↓] theorem U5 : W k u (qB kf c pend σ []) ↔ k ([],σ):=by simp only [qB,dN,bH]
def OM (kf:Nat → Nat) (c:Nat) (pend:List PL) (σ:St):CL → Option (PL × St)
 | .f x=>some (.f x,σ)
 | .ig=>some (.ig,σ)
 | .fA=>some (.fA,σ)
 | .mp sh ents=>(newP pend σ (kf c) (.map sh ents)).map fun s=>(.mp (kf c),s)
 | .own sz rows=>(newP pend σ (kf c + kf c % 2) (.row sz rows)).map fun s=>(.own (kf c + kf c % 2) rows.length,s)
@[go_sem ↓] theorem Sc {x:CL} {xs:List CL}:W k u (qB kf c pend σ (x :: xs)) ↔ W (fun p=>W (fun r=>k (p.1 :: r.1,r.2)) ⟨⟩ (qB kf (c + 1) (p.1 :: pend) p.2 xs)) ⟨⟩ (OM kf c pend σ x):=by
 simp only [dN]
 cases x <;> simp only [qB,OM,bH,bq,bX]
@[go_sem ↓] theorem U6 : W k u (wX base j pend σ []) ↔ k ([],σ):=by simp only [wX,dN,bH]
@[go_sem ↓] theorem Sd {x:TV} {xs:List TV}:W k u (wX base j pend σ (x :: xs)) ↔ W (fun p=>W (fun r=>k (p.1 :: r.1,r.2)) ⟨⟩ (wX base (j + 1) (p.1 :: pend) p.2 xs)) ⟨⟩ (CP (base + 200 * (j + 1)) pend σ x):=by
 simp only [wX,dN,bq,bX]
end
section
variable {k : PL × St → Prop} {u:Tok k} {kf:Nat → Nat} {c key:Nat} {pend:List PL}
@[go_sem] theorem agA {x:FV}:OM kf c pend σ (.f x) = some (.f x,σ):=rfl
@[go_sem] theorem acv : OM kf c pend σ .ig = some (.ig,σ):=rfl
@[go_sem] theorem Zg : OM kf c pend σ .fA = some (.fA,σ):=rfl
@[go_sem ↓] theorem Zh {sh:KS} {ents:List (KV × FC)}:W k u (OM kf c pend σ (.mp sh ents)) ↔ W (fun s=>k (.mp (kf c),s)) ⟨⟩ (newP pend σ (kf c) (.map sh ents)):=by simp only [OM,dN,bX]
@[go_sem ↓] theorem Xh {sz:Nat} {rows:List (List FV)}:W k u (OM kf c pend σ (.own sz rows)) ↔ W (fun s=>k (.own (kf c + kf c % 2) rows.length,s)) ⟨⟩ (newP pend σ (kf c + kf c % 2) (.row sz rows)):=by simp only [OM,dN,bX]
@[go_sem] theorem agB {x:FV}:CP key pend σ (.f x) = some (.f x,σ):=rfl
@[go_sem] theorem acw : CP key pend σ .ig = some (.ig,σ):=rfl
@[go_sem] theorem Zi : CP key pend σ .fA = some (.fA,σ):=rfl
@[go_sem] theorem ae7 {cs:List FV}:CP key pend σ (.fp cs) = some (.fp cs,σ):=rfl
@[go_sem] theorem ae8 {f:FuncId} {cs:List (List FV)}:CP key pend σ (.fn f cs) = some (.fn f cs,σ):=rfl
@[go_sem] theorem acy : CP key pend σ .any = some (.any,σ):=rfl
@[go_sem ↓] theorem Zj {sh:KS} {ents:List (KV × FC)}:W k u (CP key pend σ (.mp sh ents)) ↔ W (fun s=>k (.mp key,s)) ⟨⟩ (newP pend σ key (.map sh ents)):=by simp only [CP,dN,bX]
@[go_sem ↓] theorem Xi {sz:Nat} {rows:List (List FV)}:W k u (CP key pend σ (.own sz rows)) ↔ W (fun s=>k (.own (ow key) rows.length,s)) ⟨⟩ (newP pend σ (ow key) (.row sz rows)):=by simp only [CP,dN,bX]
@[go_sem ↓] theorem Xj {cs:List CL}:W k u (CP key pend σ (.ptr cs)) ↔ W (fun p=>p.1.any (dU key) = false ∧ W (fun s=>k (.ptr key 0,s)) ⟨⟩ (newP pend p.2 key (.iK p.1))) ⟨⟩ (qB (NR key) 0 pend σ cs):=by
 simp only [CP,dN,bq,dw,bX,Bool.not_eq_true]
end
section
variable {k : CV × St → Prop} {u:Tok k} {base:Nat} {pend:List PL}
@[go_sem ↓] theorem Xk {x:TV}:W k u (J9 base pend σ (.one x)) ↔ W (fun p=>k (.one p.1,p.2)) ⟨⟩ (CP (base + 200) pend σ x):=by simp only [J9,dN,bX]
@[go_sem ↓] theorem Xl {xs:List TV}:W k u (J9 base pend σ (.agg xs)) ↔ W (fun p=>k (.agg p.1,p.2)) ⟨⟩ (wX base 0 pend σ xs):=by simp only [J9,dN,bX]
end
section
variable {k : List CV × St → Prop} {u:Tok k} {base i:Nat} {pend:List PL} {bo:List Nat}
@[go_sem] theorem agC : ab bo i = if bo.contains i then dD i + 10001 else dD i + 1:=rfl
@[go_sem] theorem agD {key:Nat}:ow key = if key / 10000 % 2 = 0 then key + key % 2 else key:=rfl
@[go_sem ↓] theorem U7 : W k u (wY base i pend σ []) ↔ k ([],σ):=by simp only [wY,dN,bH]
@[go_sem ↓] theorem Sg {x:AV} {xs:List AV}:W k u (wY base i pend σ (x :: xs)) ↔ W (fun p=>W (fun r=>k (p.1 :: r.1,r.2)) ⟨⟩ (wY base (i + 1) (cells p.1 ++ pend) p.2 xs)) ⟨⟩ (J9 (base + 2000 * i) pend σ x):=by
 simp only [wY,dN,bq,bX]
@[go_sem ↓] theorem Si : W k u (enter bo i pend σ []) ↔ k ([],σ):=by simp only [enter,dN,bH]
@[go_sem ↓] theorem OO {x:AV} {xs:List AV}:W k u (enter bo i pend σ (x :: xs)) ↔ W (fun p=>W (fun s=>W (fun r=>k (p.1 :: r.1,r.2)) ⟨⟩ (enter bo (i + 1) (cells p.1 ++ pend) s xs)) ⟨⟩ (some ⟨put p.2.tm i (.c p.1),p.2.ob⟩)) ⟨⟩ (J9 (ab bo i) pend σ x):=by
 simp only [enter,dN,bq,bX,bH]
end
section
variable {k : St → Prop} {u:Tok k} {fF:St} {base:Nat} {pend:List PL}
@[go_sem ↓] theorem U8 : W k u (zq fF pend base σ [] []) ↔ k σ:=by simp only [zq,dN,bH]
@[go_sem ↓] theorem Sj {x:CV} {xs:List CV} {y:AV} {ys:List AV}:W k u (zq fF pend base σ (x :: xs) (y :: ys)) ↔ W (fun s=>W k ⟨⟩ (zq fF pend (base + 1000) s xs ys)) ⟨⟩ (XM fF pend base σ x y):=by
 simp only [zq,dN,bq]
@[go_sem ↓] theorem Xm {x:PL} {y:TV}:W k u (XM fF pend base σ (.one x) (.one y)) ↔ W k ⟨⟩ (CQ fF pend base σ x y):=Iff.rfl
@[go_sem ↓] theorem Xn {x:List PL} {y:List TV}:W k u (XM fF pend base σ (.agg x) (.agg y)) ↔ W k ⟨⟩ (Ba fF pend base σ x y):=Iff.rfl
@[go_sem ↓] theorem U9 : W k u (Ba fF pend base σ [] []) ↔ k σ:=by simp only [Ba,dN,bH]
@[go_sem ↓] theorem Sk {x:PL} {xs:List PL} {y:TV} {ys:List TV}:W k u (Ba fF pend base σ (x :: xs) (y :: ys)) ↔ W (fun s=>W k ⟨⟩ (Ba fF pend (base + 200) s xs ys)) ⟨⟩ (CQ fF pend base σ x y):=by
 simp only [Ba,dN,bq]
@[go_sem ↓] theorem Xo {key off:Nat} {cs:List CL}:W k u (CQ fF pend base σ (.ptr key off) (.ptr cs)) ↔ W (fun xs=>W (fun p=>k (jh p.2 key (.iK p.1))) ⟨⟩ (qB (IY base xs) 0 pend σ cs)) ⟨⟩ (oG fF key):=by
 simp only [CQ,oG,dN]
 cases get fF.ob key with
 | none=>exact bY
 | some o=>cases o <;> first | exact bY | (simp only [oc,bH,bX])
@[go_sem] theorem ae9 {key:Nat} {sh:KS} {ents:List (KV × FC)}:CQ fF pend base σ (.mp key) (.mp sh ents) = some (jh σ key (.map sh ents)):=rfl
@[go_sem] theorem Zk {key n sz:Nat} {rows:List (List FV)}:CQ fF pend base σ (.own key n) (.own sz rows) = some (jh σ key (.row sz rows)):=rfl
@[go_sem] theorem agE {x y:FV}:CQ fF pend base σ (.f x) (.f y) = some σ:=rfl
@[go_sem] theorem acz {y:FV}:CQ fF pend base σ .dM (.f y) = some σ:=rfl
@[go_sem] theorem acA : CQ fF pend base σ .ig .ig = some σ:=rfl
@[go_sem] theorem Zl : CQ fF pend base σ .fA .fA = some σ:=rfl
@[go_sem] theorem acB {key n:Nat} {y:FV}:CQ fF pend base σ (.own key n) (.f y) = some σ:=rfl
@[go_sem] theorem acC {key n:Nat}:CQ fF pend base σ (.own key n) .any = some σ:=rfl
@[go_sem] theorem afa {a b:List FV}:CQ fF pend base σ (.fp a) (.fp b) = some σ:=rfl
@[go_sem] theorem afb {f g:FuncId} {a b:List (List FV)}:CQ fF pend base σ (.fn f a) (.fn g b) = some σ:=rfl
end
def Xp (base c:Nat):Option PL → Nat
 | some (.mp k)=>if k % 2 = 0 then k else base + 2 * (c + 1)
 | some (.own k _)=>if k % 2 = 0 then k else base + 2 * (c + 1)
 | _=>base + 2 * (c + 1)
@[go_sem] theorem acD {base c:Nat} {xs:List PL}:IY base xs c = Xp base c (xs[c]?):=by
 unfold IY
 cases xs[c]? with
 | none=>rfl
 | some x=>cases x <;> rfl
@[go_sem] theorem afc {base c k:Nat}:Xp base c (some (.mp k)) = if k % 2 = 0 then k else base + 2 * (c + 1):=rfl
@[go_sem] theorem acE {base c k n:Nat}:Xp base c (some (.own k n)) = if k % 2 = 0 then k else base + 2 * (c + 1):=rfl
@[go_sem] theorem agF {base c:Nat} {x:FV}:Xp base c (some (.f x)) = base + 2 * (c + 1):=rfl
@[go_sem] theorem acF {base c:Nat}:Xp base c (some .dM) = base + 2 * (c + 1):=rfl
@[go_sem] theorem Zm {base c:Nat}:Xp base c (some .fA) = base + 2 * (c + 1):=rfl
section
variable {k : TV × St → Prop} {u:Tok k} {key n:Nat}
@[go_sem] theorem afd {x:FV}:outT σ (.f x) = some (.f x,σ):=rfl
@[go_sem] theorem Zn : outT σ .dM = some (.f (.sl []),σ):=rfl
@[go_sem] theorem Zo : outT σ .ig = some (.ig,σ):=rfl
@[go_sem] theorem Xq : outT σ .fA = some (.fA,σ):=rfl
@[go_sem] theorem acG {cs:List FV}:outT σ (.fp cs) = some (.fp cs,σ):=rfl
@[go_sem] theorem acH {f:FuncId} {cs:List (List FV)}:outT σ (.fn f cs) = some (.fn f cs,σ):=rfl
@[go_sem ↓] theorem Va : W k u (outT σ (.own key n)) ↔ W (fun p=>k (.f p.1,p.2)) ⟨⟩ (wU σ (.own key n)):=by simp only [outT,dN,bX]
@[go_sem ↓] theorem Xr : W k u (outT σ (.mp key)) ↔ W (fun o=>k (.mp o.1 o.2,⟨σ.tm,rem σ.ob key⟩)) ⟨⟩ (nX σ key):=by
 simp only [outT,nX,dN]
 cases get σ.ob key with
 | none=>exact bY
 | some o=>cases o <;> first | exact bY | exact lG Iff.rfl
@[go_sem ↓] theorem Vb : W k u (outT σ (.ptr key 0)) ↔ W (fun xs=>W (fun p=>k (.ptr p.1,p.2)) ⟨⟩ (zo ⟨σ.tm,rem σ.ob key⟩ xs)) ⟨⟩ (oG σ key):=by
 simp only [outT,oG,dN]
 cases get σ.ob key with
 | none=>exact bY
 | some o=>cases o <;> first | exact bY | (simp only [oc,bH,bX])
@[go_sem ↓] theorem Vd {sz:Nat}:W k u (Bb sz σ (.own key n)) ↔ W (fun o=>o.1 = sz ∧ k (.own sz o.2,⟨σ.tm,rem σ.ob key⟩)) ⟨⟩ (iC σ key):=by
 simp only [Bb,iC,dN]
 cases get σ.ob key with
 | none=>exact bY
 | some o=>cases o <;> first | exact bY | (simp only [Lj,bH,bN])
@[go_sem ↓] theorem Ve {sz:Nat}:W k u (Bb sz σ .dM) ↔ ¬ sz = 0 ∧ k (.own sz [],σ):=by simp only [Bb,dN,dw,bH]
@[go_sem] theorem acI {x:PL} {y:FV}:jL σ x (.f y) = some (.f y,σ):=by cases x <;> first | rfl | (rename_i a b;cases b <;> rfl)
@[go_sem] theorem Xt {x:PL}:jL σ x .ig = some (.ig,σ):=by cases x <;> first | rfl | (rename_i a b;cases b <;> rfl)
@[go_sem] theorem Vf {x:PL}:jL σ x .fA = some (.fA,σ):=by cases x <;> first | rfl | (rename_i a b;cases b <;> rfl)
def bko (σ:St) (key:Nat):Nat → Option (TV × St)
 | 1=>(Lj (get σ.ob key)).map fun p=>(.own p.1 p.2,⟨σ.tm,rem σ.ob key⟩)
 | _=>some (.any,σ)
@[go_sem] theorem agG : bko σ key 0 = some (.any,σ):=rfl
@[go_sem] theorem Zp : bko σ key 1 = (Lj (get σ.ob key)).map fun p=>(.own p.1 p.2,⟨σ.tm,rem σ.ob key⟩):=rfl
@[go_sem] theorem Xu {n sz:Nat} {rows:List (List FV)}:jL σ (.own key n) (.own sz rows) = bko σ key (key % 2):=by
 simp only [jL]
 rcases Nat.mod_two_eq_zero_or_one key with h | h
 ·rw [h,if_neg (by decide)];rfl
 ·rw [h,if_pos rfl,Zp]
  cases get σ.ob key with
  | none=>rfl
  | some o=>cases o <;> rfl
@[go_sem] theorem Xv {sz:Nat} {rows:List (List FV)}:jL σ .dM (.own sz rows) = some (.any,σ):=rfl
@[go_sem] theorem Xw {x:PL}:jL σ x .any = some (.any,σ):=by cases x <;> first | rfl | (rename_i a b;cases b <;> rfl)
@[go_sem] theorem Zq {x:PL} {cs:List FV}:jL σ x (.fp cs) = some (.fp cs,σ):=by cases x <;> first | rfl | (rename_i a b;cases b <;> rfl)
@[go_sem] theorem Zr {x:PL} {f:FuncId} {cs:List (List FV)}:jL σ x (.fn f cs) = some (.fn f cs,σ):=by cases x <;> first | rfl | (rename_i a b;cases b <;> rfl)
@[go_sem ↓] theorem Sl {cs:List CL}:W k u (jL σ (.ptr key 0) (.ptr cs)) ↔ key % 2 = 1 ∧ W k ⟨⟩ (outT σ (.ptr key 0)):=by simp only [jL,dN,bN]
@[go_sem ↓] theorem Vg {sh:KS} {ents:List (KV × FC)}:W k u (jL σ (.mp key) (.mp sh ents)) ↔ key % 2 = 1 ∧ W k ⟨⟩ (outT σ (.mp key)):=by simp only [jL,dN,bN]
end
section
variable {k : List TV × St → Prop} {u:Tok k}
@[go_sem ↓] theorem Sm : W k u (vD σ []) ↔ k ([],σ):=gL
@[go_sem ↓] theorem OP {x:PL} {xs:List PL}:W k u (vD σ (x :: xs)) ↔ W (fun p=>W (fun r=>k (p.1 :: r.1,r.2)) ⟨⟩ (vD p.2 xs)) ⟨⟩ (outT σ x):=by
 simp only [vD,dN,bq,bX]
@[go_sem ↓] theorem OQ : W k u (nU σ [] []) ↔ k ([],σ):=by simp only [nU,dN,bH]
@[go_sem ↓] theorem NJ {l:PL} {ls:List PL} {x:TV} {xs:List TV}:W k u (nU σ (l :: ls) (x :: xs)) ↔ W (fun p=>W (fun r=>k (p.1 :: r.1,r.2)) ⟨⟩ (nU p.2 ls xs)) ⟨⟩ (jL σ l x):=by
 simp only [nU,dN,bq,bX]
end
section
variable {k : AV × St → Prop} {u:Tok k}
@[go_sem ↓] theorem Kg {x:PL}:W k u (Bc none σ (.one x)) ↔ W (fun p=>k (.one p.1,p.2)) ⟨⟩ (outT σ x):=by simp only [Bc,NW,dN,bX]
@[go_sem ↓] theorem Kh {xs:List PL}:W k u (Bc none σ (.agg xs)) ↔ W (fun p=>k (.agg p.1,p.2)) ⟨⟩ (vD σ xs):=by simp only [Bc,NW,dN,bX]
@[go_sem ↓] theorem Sn {sz:Nat} {x:PL}:W k u (Bc (some sz) σ (.one x)) ↔ W (fun p=>k (.one p.1,p.2)) ⟨⟩ (Bb sz σ x):=by simp only [Bc,dN,bX]
@[go_sem ↓] theorem Sq {l:PL} {x:TV}:W k u (xk σ (.one l) (.one x)) ↔ W (fun p=>k (.one p.1,p.2)) ⟨⟩ (jL σ l x):=by simp only [xk,dN,bX]
@[go_sem ↓] theorem Sw {l:List PL} {x:List TV}:W k u (xk σ (.agg l) (.agg x)) ↔ W (fun p=>k (.agg p.1,p.2)) ⟨⟩ (nU σ l x):=by simp only [xk,dN,bX]
end
section
variable {k : List AV × St → Prop} {u:Tok k}
@[go_sem ↓] theorem Sy {fl:List (Option Nat)}:W k u (mh fl σ []) ↔ k ([],σ):=by simp only [mh,dN,bH]
@[go_sem ↓] theorem OT {fl:List (Option Nat)} {x:CV} {xs:List CV}:W k u (mh fl σ (x :: xs)) ↔ W (fun p=>W (fun r=>k (p.1 :: r.1,r.2)) ⟨⟩ (mh fl.tail p.2 xs)) ⟨⟩ (Bc (fl.headD none) σ x):=by
 simp only [mh,dN,bq,bX]
@[go_sem ↓] theorem OU : W k u (jQ σ [] []) ↔ k ([],σ):=by simp only [jQ,dN,bH]
@[go_sem ↓] theorem NK {l:CV} {ls:List CV} {x:AV} {xs:List AV}:W k u (jQ σ (l :: ls) (x :: xs)) ↔ W (fun p=>W (fun r=>k (p.1 :: r.1,r.2)) ⟨⟩ (jQ p.2 ls xs)) ⟨⟩ (xk σ l x):=by
 simp only [jQ,dN,bq,bX]
end
section
variable {k : St → Prop} {u:Tok k} {gv:Bool} {d:Nat} {args:List CV} {p:List AV × St} {r:List AV × List AV} {s:St}
@[go_sem ↓] theorem afe : W k u (Fq gv args p r) ↔ (if (!gv && ((r.1.any vZ || !p.1.all fG) && args.any (fun x=>(cells x).any gD))) = true then W k ⟨⟩ (rW p.2 args) else k p.2):=by
 simp only [Fq,dN]
 split
 ·exact Iff.rfl
 ·exact bH
@[go_sem ↓] theorem aff : W k u (Fu d σ args p r s) ↔ (if p.1.all fG = true then k s else W k ⟨⟩ (zq σ (args.flatMap cells) (dD d + 10000) s args r.2)):=by
 simp only [Fu,dN]
 split
 ·exact bH
 ·exact Iff.rfl
end
end
section
variable {σ : St} {ks CO:List Nat} {rws:List (Nat × Nat)}
@[go_sem] theorem afg : res ks CO rws σ = ⟨pick ks (iX σ rws).tm,pick CO (iX σ rws).ob⟩:=rfl
@[go_sem] theorem acJ : iX σ [] = σ:=rfl
end
attribute [go_sem] if_true if_false true_and and_true Bool.not_false Bool.not_true Bool.and_false Bool.false_and Bool.and_true Bool.true_and Bool.or_false Bool.false_or Bool.or_true Bool.true_or Bool.false_eq_true not_true_eq_false not_false_eq_true ne_eq forall_const and_self implies_true KV.one.injEq KV.agg.injEq SV.str.injEq SV.int.injEq SV.bool.injEq List.cons.injEq List.getElem?_cons_zero List.getElem?_cons_succ List.getD_cons_zero List.getD_cons_succ List.contains_cons List.contains_nil decide_true decide_false fresh
end Go.Proofs.Ytfokaoeinpnagaa.Ev

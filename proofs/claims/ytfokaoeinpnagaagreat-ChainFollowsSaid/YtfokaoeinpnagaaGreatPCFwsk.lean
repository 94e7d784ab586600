/- A part of the proof of ChainFollows: cut, joined and given short names by a program of this session (wip/tools/pack.py); Lean checks it. No condition. -/
import Derived.Test.YtfokaoeinpnagaaGreatPCFwsj
import Derived.Test.YtfokaoeinpnagaaGreatPCFwsd
set_option linter.unusedSectionVars false
set_option linter.unusedSimpArgs false
set_option linter.unusedVariables false
set_option maxHeartbeats 16000000
set_option maxRecDepth 100000
namespace Go.Proofs.YtfokaoeinpnagaaGreat.Ev
section
open Go
section
variable {Γ : Env} {F d:Nat} {q:Bool} {σ:St} {k:PV × St → Prop} {u:Tok k} {x y z:eX}
def Oz (σ:St) (sh:KS):CV → Option (Option (Nat × List (KV × FC)))
 | .one .gu=>some none
 | .one (.mp key)=>(ql σ key).bind fun o=>if o.1 = sh then some (some (key,o.2)) else none
 | _=>none
@[go_sem] theorem abE {sh:KS}:Oz σ sh (.one .gu) = some none:=rfl
section
variable {k : Option (Nat × List (KV × FC)) → Prop} {u:Tok k}
@[go_sem ↓] theorem ahP {sh:KS} {key:Nat}:W k u (Oz σ sh (.one (.mp key))) ↔ W (fun o=>o.1 = sh ∧ k (some (key,o.2))) ⟨⟩ (ql σ key):=by
 simp only [Oz,eT,bF,bV,bO]
end
def uT (m:Option (Nat × List (KV × FC))) (a:KV):Option FC:=m.bind fun m=>ug m.2 a
def cnt (m:Option (Nat × List (KV × FC))):Nat:=match m with
 | none=>0
 | some m=>m.2.length
@[go_sem] theorem abF {a:KV}:uT none a = none:=rfl
@[go_sem] theorem abG {key:Nat} {l:List (KV × FC)} {a:KV}:uT (some (key,l)) a = ug l a:=rfl
@[go_sem] theorem abH : cnt none = 0:=rfl
@[go_sem] theorem abI {key:Nat} {l:List (KV × FC)}:cnt (some (key,l)) = l.length:=rfl
def lkv (z:FC) (ok:Bool) (r:Option FC):PV:=if ok then .wK [za (r.getD z),.one (.f (.bool r.isSome))] else .c (za (r.getD z))
@[go_sem] theorem ahQ {z:FC} {r:Option FC}:lkv z true r = .wK [za (r.getD z),.one (.f (.bool r.isSome))]:=rfl
@[go_sem] theorem ahR {z:FC} {r:Option FC}:lkv z false r = .c (za (r.getD z)):=rfl
@[go_sem] theorem abJ {x:FV}:za (.one x) = .one (.f x):=rfl
@[go_sem] theorem abK {xs:List FV}:za (.agg xs) = .agg (xs.map .f):=rfl
@[go_sem ↓] theorem ahS {sh:KS} {z:FC} {ok:Bool}:W k u (dL Γ q σ d (.look sh z ok x y)) ↔ W (fun v=>W (fun w=>W (fun a=>a.ks = sh ∧ W (fun m=>k (lkv z ok (uT m a),σ)) ⟨⟩ (Oz σ sh v)) ⟨⟩ (keyOf w)) ⟨⟩ (val σ y)) ⟨⟩ (val σ x):=by
 simp only [dL,eT,bF,dR,dG,ne_eq,aml]
 refine dN fun v=>dN fun w=>dN fun a=>amW alM ?_
 cases v with
 | agg l=>exact dI
 | one p =>
  cases p with
  | gu=>exact mX alM
  | mp key =>
   simp only [Oz,ql]
   cases get σ.ob key with
   | none=>exact dI
   | some o =>
    cases o with
    | map sh' ents =>
     simp only [om,Option.bind_some]
     by_cases hs:sh' = sh
     ·rw [alx hs,alx hs];exact mX (by cases ok <;> exact alM)
     ·rw [aly hs,aly hs];exact dI
    | _=>exact dI
  | _=>exact dI
@[go_sem ↓] theorem ahT : W k u (dL Γ q σ d (.Li x)) ↔ W (fun v=>W (fun n:Nat=>k (.c (.one (.f (.int .i64 (n:Int)))),σ)) ⟨⟩ (R7 σ v)) ⟨⟩ (val σ x):=by
 simp only [dL,eT,bF]
 refine dN fun v=>?_
 cases v with
 | agg l=>exact dI
 | one p =>
  cases p with
  | gu=>exact mX alM
  | mp key =>
   simp only [R7,ql]
   cases get σ.ob key with
   | none=>exact dI
   | some o=>cases o <;> first | exact dI | exact mX alM
  | _=>exact dI
def upv (σ:St) (sh:KS) (a:KV) (p:FC × St):CV → Option St
 | .one (.mp key)=>(ql p.2 key).bind fun o=>if o.1 = sh then some (jU p.2 key (.map sh (yB o.2 a p.1))) else none
 | _=>none
@[go_sem ↓] theorem ahU {sh:KS}:W k u (dL Γ q σ d (.y8 sh x y z)) ↔ W (fun v=>W (fun w=>W (fun a=>a.ks = sh ∧ W (fun w=>(q && (cells w).any iD) = false ∧ W (fun p=>W (fun s=>k (.c (.one .und),s)) ⟨⟩ (upv σ sh a p v)) ⟨⟩ (ZG σ w)) ⟨⟩ (val σ z)) ⟨⟩ (keyOf w)) ⟨⟩ (val σ y)) ⟨⟩ (val σ x):=by
 simp only [dL,eT,bF,dR,ne_eq,aml,amD]
 refine dN fun v=>dN fun w=>dN fun a=>amW alM (dN fun w=>amW alM (dN fun p=>?_))
 cases v with
 | agg l=>exact dI
 | one b =>
  cases b with
  | mp key =>
   simp only [upv,ql]
   cases get p.2.ob key with
   | none=>exact dI
   | some o =>
    cases o with
    | map sh' ents =>
     simp only [om,Option.bind_some]
     split
     ·exact mX alM
     ·exact dI
    | _=>exact dI
  | _=>exact dI
section
variable {k : St → Prop} {u:Tok k} {sh:KS} {a:KV} {key:Nat}
@[go_sem ↓] theorem ajv {p:FC × St}:W k u (upv σ sh a p (.one (.mp key))) ↔ W (fun o=>o.1 = sh ∧ k (jU p.2 key (.map sh (yB o.2 a p.1)))) ⟨⟩ (ql p.2 key):=by
 simp only [upv,eT,bF,bV,bO]
end
def dlv (σ:St) (sh:KS) (a:KV):CV → Option St
 | .one .gu=>some σ
 | .one (.mp key)=>(ql σ key).bind fun o=>if o.1 = sh then some (jU σ key (.map sh (Dj o.2 a))) else none
 | _=>none
@[go_sem] theorem aeV {sh:KS} {a:KV}:dlv σ sh a (.one .gu) = some σ:=rfl
section
variable {k : St → Prop} {u:Tok k} {sh:KS} {a:KV} {key:Nat}
@[go_sem ↓] theorem ajw : W k u (dlv σ sh a (.one (.mp key))) ↔ W (fun o=>o.1 = sh ∧ k (jU σ key (.map sh (Dj o.2 a)))) ⟨⟩ (ql σ key):=by
 simp only [dlv,eT,bF,bV,bO]
end
@[go_sem ↓] theorem ajx {sh:KS}:W k u (dL Γ q σ d (.del sh x y)) ↔ W (fun v=>W (fun w=>W (fun a=>a.ks = sh ∧ W (fun s=>k (.wK [],s)) ⟨⟩ (dlv σ sh a v)) ⟨⟩ (keyOf w)) ⟨⟩ (val σ y)) ⟨⟩ (val σ x):=by
 simp only [dL,eT,bF,dR,ne_eq,aml]
 refine dN fun v=>dN fun w=>dN fun a=>amW alM ?_
 cases v with
 | agg l=>exact dI
 | one b =>
  cases b with
  | gu=>exact mX alM
  | mp key =>
   simp only [dlv,ql]
   cases get σ.ob key with
   | none=>exact dI
   | some o =>
    cases o with
    | map sh' ents =>
     simp only [om,Option.bind_some]
     split
     ·exact mX alM
     ·exact dI
    | _=>exact dI
  | _=>exact dI
def Z5 (σ:St):CV → Option (List (List FV))
 | .one .dz=>some []
 | .one (.f (.sl rows))=>some rows
 | .one (.own key _)=>(jd σ key).map (·.2)
 | _=>none
@[go_sem] theorem ajy : Z5 σ (.one .dz) = some []:=rfl
@[go_sem] theorem ajz {rows:List (List FV)}:Z5 σ (.one (.f (.sl rows))) = some rows:=rfl
@[go_sem] theorem ajA {key n:Nat}:Z5 σ (.one (.own key n)) = (jd σ key).map (·.2):=rfl
def Z6 (q:Bool) (σ:St) (d sz bytes:Nat) (w:CV) (FQ:List (List FV)):CV → Option (PV × St)
 | .one .dz=>if q = false ∧ FQ.length * bytes ≤ 140737488355328 ∧ FQ.all (fun r=>r.length == sz) then (new σ (dY d) (.row sz FQ)).map fun s=>(.c (.one (.own (dY d) FQ.length)),s) else none
 | .one (.own key n)=>(jd σ key).bind fun o=>if q = false ∧ (o.2.length + FQ.length) * bytes ≤ 140737488355328 ∧ o.1 = sz ∧ n = o.2.length ∧ xK key w = false ∧ key % 2 = 0 ∧ FQ.all (fun r=>r.length == sz) then
   some (.c (.one (.own key (o.2.length + FQ.length))),jU (sub σ key .any) key (.row sz (o.2 ++ FQ))) else none
 | _=>none
@[go_sem ↓] theorem ajB {e:TypeId} {sz bytes:Nat}:W k u (dL Γ q σ d (.app e sz bytes x y)) ↔ W (fun v=>W (fun w=>W (fun l=>W k ⟨⟩ (Z6 q σ d sz bytes w l v)) ⟨⟩ (Z5 σ w)) ⟨⟩ (val σ y)) ⟨⟩ (val σ x):=by
 simp only [dL,eT,bF]
 refine dN fun v=>dN fun w=>?_
 have e:rX σ w = Z5 σ w:=by
  cases w with
  | agg l=>rfl
  | one p=>cases p with
   | f a=>cases a <;> rfl
   | own key n=>simp only [rX,Z5,jd];cases get σ.ob key with | none=>rfl | some o=>cases o <;> rfl
   | _=>rfl
 rw [e]
 refine dN fun l=>?_
 cases v with
 | agg l=>exact dI
 | one p =>
  cases p with
  | dz=>exact alM
  | own key n =>
   simp only [Z6,jd]
   cases get σ.ob key with
   | none=>exact dI
   | some o=>cases o <;> exact alM
  | _=>exact dI
@[go_sem ↓] theorem aeW {sz bytes:Nat} {w:CV} {l:List (List FV)}:W k u (Z6 q σ d sz bytes w l (.one .dz)) ↔ (q = false ∧ l.length * bytes ≤ 140737488355328 ∧ l.all (fun r=>r.length == sz) = true) ∧ W (fun s=>k (.c (.one (.own (dY d) l.length)),s)) ⟨⟩ (new σ (dY d) (.row sz l)):=by
 simp only [Z6,eT,bV,dG]
@[go_sem ↓] theorem aeX {sz bytes key n:Nat} {w:CV} {l:List (List FV)}:W k u (Z6 q σ d sz bytes w l (.one (.own key n))) ↔ W (fun o=>(q = false ∧ (o.2.length + l.length) * bytes ≤ 140737488355328 ∧ o.1 = sz ∧ n = o.2.length ∧ xK key w = false ∧ key % 2 = 0 ∧ l.all (fun r=>r.length == sz) = true) ∧ k (.c (.one (.own key (o.2.length + l.length))),jU (sub σ key .any) key (.row sz (o.2 ++ l)))) ⟨⟩ (jd σ key):=by
 simp only [Z6,eT,bF,bV,bO]
def cov (σ:St) (sz:Nat) (i:Int):CV → Option (PV × St)
 | .one (.own key n)=>(jd σ key).bind fun o=>if o.1 = sz ∧ key % 2 = 0 ∧ 0 ≤ i ∧ i ≤ o.2.length then some (.c (.one (.own key i.toNat)),jU (sub σ key .any) key (.row sz (o.2.take i.toNat))) else none
 | _=>none
@[go_sem ↓] theorem ahV {sz:Nat}:W k u (dL Γ q σ d (.H8 sz x y)) ↔ q = false ∧ W (fun v=>W (fun j=>W (fun p=>W k ⟨⟩ (cov σ sz p.2 v)) ⟨⟩ (int? j)) ⟨⟩ (val σ y)) ⟨⟩ (val σ x):=by
 simp only [dL,eT,bF,dR,amD]
 refine amW alM (dN fun v=>dN fun j=>dN fun p=>?_)
 cases v with
 | agg l=>exact dI
 | one b =>
  cases b with
  | own key n =>
   simp only [cov,jd]
   cases get σ.ob key with
   | none=>exact dI
   | some o=>cases o <;> exact alM
  | _=>exact dI
@[go_sem ↓] theorem ajC {sz key n:Nat} {i:Int}:W k u (cov σ sz i (.one (.own key n))) ↔ W (fun o=>(o.1 = sz ∧ key % 2 = 0 ∧ 0 ≤ i ∧ i ≤ (o.2.length:Int)) ∧ k (.c (.one (.own key i.toNat)),jU (sub σ key .any) key (.row sz (o.2.take i.toNat)))) ⟨⟩ (jd σ key):=by
 simp only [cov,eT,bF,bV,bO]
def cvv (σ:St) (sz:Nat) (i:Int):CV → Option PL
 | .one (.own key n)=>(jd σ key).bind fun o=>if o.1 = sz ∧ 0 ≤ i ∧ i ≤ o.2.length then some (.vw key sz o.2.length i.toNat) else none
 | _=>none
@[go_sem ↓] theorem ahW {sz:Nat}:W k u (dL Γ q σ d (.cutV sz x y)) ↔ W (fun v=>W (fun j=>W (fun p=>W (fun l=>k (.c (.one l),σ)) ⟨⟩ (cvv σ sz p.2 v)) ⟨⟩ (int? j)) ⟨⟩ (val σ y)) ⟨⟩ (val σ x):=by
 simp only [dL,eT,bF]
 refine dN fun v=>dN fun j=>dN fun p=>?_
 cases v with
 | agg l=>exact dI
 | one b =>
  cases b with
  | own key n =>
   simp only [cvv,jd]
   cases get σ.ob key with
   | none=>exact dI
   | some o =>
    cases o with
    | row sz' rows=>simp only [Oy,Option.bind_some,bV,bO]
    | _=>exact dI
  | _=>exact dI
section
variable {k : PL → Prop} {u:Tok k}
@[go_sem ↓] theorem ajD {sz key n:Nat} {i:Int}:W k u (cvv σ sz i (.one (.own key n))) ↔ W (fun o=>(o.1 = sz ∧ 0 ≤ i ∧ i ≤ (o.2.length:Int)) ∧ k (.vw key sz o.2.length i.toNat)) ⟨⟩ (jd σ key):=by
 simp only [cvv,eT,bF,bV,bO]
end
def vw? : CV → Option (Nat × Nat × Nat × Nat)
 | .one (.vw key z n lo)=>some (key,z,n,lo)
 | _=>none
@[go_sem] theorem ahX {a b c e:Nat}:vw? (.one (.vw a b c e)) = some (a,b,c,e):=rfl
@[go_sem ↓] theorem ajE {sz:Nat} {zs:List FV}:W k u (dL Γ q σ d (.Vm sz zs x)) ↔ W (fun v=>W (fun p=>W (fun o=>(o.1 = sz ∧ p.2.1 = sz ∧ zs.length = sz ∧ p.2.2.1 = o.2.length ∧ p.2.2.2 ≤ p.2.2.1) ∧ k (.wK [],jU σ p.1 (.row sz (o.2.take p.2.2.2 ++ List.replicate (p.2.2.1 - p.2.2.2) zs)))) ⟨⟩ (jd σ p.1)) ⟨⟩ (vw? v)) ⟨⟩ (val σ x):=by
 simp only [dL,eT,bF]
 refine dN fun v=>?_
 cases v with
 | agg l=>exact dI
 | one b =>
  cases b with
  | vw key z n lo =>
   simp only [vw?,bO,jd]
   cases get σ.ob key with
   | none=>exact dI
   | some o =>
    cases o with
    | row sz' rows=>simp only [Oy,bV,bO]
    | _=>exact dI
  | _=>exact dI
def Vx (σ:St):CV → Option (List (List FV))
 | .one (.f (.sl rows))=>some rows
 | .one .dz=>some []
 | .one (.own key _)=>(jd σ key).bind fun o=>if o.1 = 1 then some o.2 else none
 | _=>none
@[go_sem] theorem ajF {rows:List (List FV)}:Vx σ (.one (.f (.sl rows))) = some rows:=rfl
@[go_sem] theorem ajG : Vx σ (.one .dz) = some []:=rfl
@[go_sem] theorem Vy : bytesOf [] = some ⟨#[]⟩:=rfl
@[go_sem] theorem R9 {n:Int} {l:List (List FV)}:bytesOf ([.int .u8 n] :: l) = (bytesOf l).map fun s=>⟨#[UInt8.ofNat n.toNat] ++ s.data⟩:=rfl
section
variable {k : List (List FV) → Prop} {u:Tok k}
@[go_sem ↓] theorem ajH {key n:Nat}:W k u (Vx σ (.one (.own key n))) ↔ W (fun o=>o.1 = 1 ∧ k o.2) ⟨⟩ (jd σ key):=by
 simp only [Vx,eT,bF,bV,bO]
end
@[go_sem ↓] theorem ajI : W k u (dL Γ q σ d (.ZE x)) ↔ W (fun v=>W (fun l=>W (fun s=>k (.c (.one (.f (.str s))),σ)) ⟨⟩ (bytesOf l)) ⟨⟩ (Vx σ v)) ⟨⟩ (val σ x):=by
 simp only [dL,eT,bF]
 refine dN fun v=>?_
 cases v with
 | agg l=>exact dI
 | one b =>
  cases b with
  | f a =>
   cases a with
   | sl rows=>simp only [Vx,bF,bO,one]
   | _=>exact dI
  | dz=>simp only [Vx,bO,bytesOf,one]
  | own key n =>
   simp only [Vx,jd]
   cases get σ.ob key with
   | none=>exact dI
   | some o =>
    cases o with
    | row sz' rows=>simp only [Oy,Option.bind_some,bV,bF,bO,one]
    | _=>exact dI
  | _=>exact dI
@[go_sem ↓] theorem ajJ {f:FuncId} {xs:List eX}:W k u (dL Γ q σ d (.WW f xs)) ↔ W (fun l=>W (fun p=>k (.c (.one (.fn f p.1)),p.2)) ⟨⟩ (nE q σ l)) ⟨⟩ (jR σ xs):=by
 simp only [dL,eT,bF,dG]
@[go_sem ↓] theorem ahY {f:FuncId} {xs:List eX}:W k u (dL Γ q σ d (.Bd f xs)) ↔ W (fun l=>W (fun gN=>W (fun r=>W (fun p=>W (fun s=>k (.c (.one (.own (dY d) p.2.length)),s)) ⟨⟩ (new σ (dY d) (.row p.1 p.2))) ⟨⟩ (WZ r.1)) ⟨⟩ (Γ f gN)) ⟨⟩ (Nf l)) ⟨⟩ (jR σ xs):=by
 simp only [dL,uP,eT,bF,dG]
attribute [go_sem] avT Ru avC Nf
@[go_sem] theorem abL {sz:Nat} {rows:List (List FV)}:WZ [.one (.own sz rows)] = some (sz,rows):=rfl
@[go_sem ↓] theorem aeY {gv:Bool} {f:FuncId} {xs:List eX}:W k u (dL Γ q σ d (.call gv f xs)) ↔ W (fun l=>W k ⟨⟩ (l8 Γ gv q σ d f l)) ⟨⟩ (jR σ xs):=by
 simp only [dL,eT,bF]
def fn? : CV → Option (FuncId × List (List FV))
 | .one (.fn f caps)=>some (f,caps)
 | _=>none
@[go_sem] theorem ahZ {f:FuncId} {caps:List (List FV)}:fn? (.one (.fn f caps)) = some (f,caps):=rfl
@[go_sem ↓] theorem ajK {xs:List eX}:W k u (dL Γ q σ d (.dyn x xs)) ↔ W (fun v=>W (fun p=>W (fun l=>W k ⟨⟩ (l8 Γ false q σ d p.1 (l ++ p.2.map fun c=>.one (.fp c)))) ⟨⟩ (jR σ xs)) ⟨⟩ (fn? v)) ⟨⟩ (val σ x):=by
 simp only [dL,eT,bF]
 refine dN fun v=>?_
 cases v with
 | agg l=>exact dI
 | one b =>
  cases b with
  | fn f caps=>simp only [fn?,bO,bF]
  | _=>exact dI
def IB (gv:Bool) (args:List CV) (p:List AV × St) (r:List AV × List AV):Option St:=if (!gv && ((r.1.any yC || !p.1.all gK) && args.any (fun x=>(cells x).any iD))) = true then uO p.2 args else some p.2
def IC (d:Nat) (σ:St) (args:List CV) (p:List AV × St) (r:List AV × List AV) (s:St):Option St:=if p.1.all gK = true then some s else Bg σ (args.flatMap cells) (dY d + 10000) s args r.2
@[go_sem ↓] theorem abM {gv:Bool} {f:FuncId} {args:List CV}:W k u (l8 Γ gv q σ d f args) ↔ W (fun p=>W (fun r0=>W (fun r=>((q && !(p.1.all gK && r.1.all gK)) = false ∧ (q && ((r.1.any yC || !p.1.all gK) && args.any (fun x=>(cells x).any iD))) = false) ∧
  W (fun s=>W (fun s=>W (fun v=>k (Lp v.1,v.2)) ⟨⟩ (zh (dY d) 0 [] s r.1)) ⟨⟩ (IC d σ args p r s)) ⟨⟩ (IB gv args p r)) ⟨⟩ (some (WY q r0))) ⟨⟩ (Γ f p.1)) ⟨⟩ (uN gv σ args):=by
 simp only [l8,eT,bF,dR,dG,bO,IB,IC,amD,and_assoc]
@[go_sem] theorem ah0 {r:List AV × List AV}:WY false r = r:=rfl
@[go_sem] theorem aeZ {r:List AV × List AV}:WY true r = (r.1.map Rt,r.2):=rfl
@[go_sem] theorem ae0 {sz:Nat} {rows:List (List FV)}:Rt (.one (.own sz rows)) = .one (.f (.sl rows)):=rfl
@[go_sem] theorem ajL {x:FV}:Rt (.one (.f x)) = .one (.f x):=rfl
@[go_sem] theorem ae1 {xs:List TV}:Rt (.agg xs) = .agg xs:=rfl
@[go_sem] theorem ae2 {xs:List CL}:Rt (.one (.ptr xs)) = .one (.ptr xs):=rfl
end
section
variable {Γ : Env} {F:Nat} {k:List AV × List AV → Prop} {u:Tok k} {cf:CF} {gN:List AV}
@[go_sem ↓] theorem ajM : W k u (M5 Γ F cf gN) ↔ gN.length = cf.np ∧ W (fun e=>W (fun p=>(∀ id,p.1 ≠ .ext id) ∧ W (fun b=>W (fun l=>W (fun r=>k (r.1,b.1)) ⟨⟩ (nR cf.ro b.2 l)) ⟨⟩ (slots b.2 cf.res)) ⟨⟩ (kW p.2 e.1 gN)) ⟨⟩ (ev Γ F cf.body e.2)) ⟨⟩ (enter cf.bo 0 [] ⟨[],[]⟩ gN):=by
 simp only [M5,eT,dR,bF,ne_eq,aml]
 refine amW alM (dN fun e=>dN fun p=>?_)
 obtain ⟨o,s⟩:=p
 cases o with
 | ext id=>simp [jX]
 | _=>simp [bF,dG]
@[go_sem] theorem ae3 : (∀ id,Out.jP ≠ .ext id) ↔ True:=by simp
@[go_sem] theorem ae4 : (∀ id,Out.ret ≠ .ext id) ↔ True:=by simp
@[go_sem] theorem ae5 {i:Nat}:(∀ id,Out.ext i ≠ .ext id) ↔ False:=by simp
end
end
section
open Go
attribute [go_sem] dY fB xK tN nP qd H9 Rp Lj sub jU qU iD kK plain gK Vn Nc yC Rq Lp Nh W9 Xa Xb Ng WX rowsOf KV.ks SV.sk
attribute [go_sem] List.any_cons List.any_nil List.all_cons List.all_nil List.map_cons List.map_nil List.length_cons List.length_nil List.append_nil List.nil_append List.cons_append List.flatMap_cons List.flatMap_nil List.take_succ_cons List.take_zero List.take_nil List.drop_succ_cons List.drop_zero List.drop_nil Option.getD_some Option.getD_none List.filter_nil List.filter_cons List.headD_nil List.headD_cons List.tail_cons List.tail_nil
section
variable {σ : St} {α:Type}
section
variable {k : St → Prop} {u:Tok k} {key:Nat} {o:Ob} {pend:List PL}
@[go_sem ↓] theorem ajN : W k u (new σ key o) ↔ (rem σ.ob key).any (fun p=>nP key p.2) = false ∧ k ⟨σ.tm.filter (fun p=>!tN key p.2),(key,o) :: rem σ.ob key⟩:=by
 simp only [new,ZF,eT,dG,dR,bO,amD]
@[go_sem ↓] theorem ah1 : W k u (newP pend σ key o) ↔ pend.any (fB key) = false ∧ W k ⟨⟩ (new σ key o):=by
 simp only [newP,eT,dR,amD]
@[go_sem ↓] theorem ajO : W k u (Bb σ key) ↔ W (fun p=>k (sub ⟨σ.tm,rem σ.ob key⟩ key (.f (.sl p.2)))) ⟨⟩ (jd σ key):=by
 simp only [Bb,jd,eT]
 cases get σ.ob key with
 | none=>exact dI
 | some o=>cases o <;> first | exact dI | exact mX alM
@[go_sem ↓] theorem X7 : W k u (zi σ []) ↔ k σ:=iJ
@[go_sem ↓] theorem Vz : W k u (uO σ []) ↔ k σ:=iJ
@[go_sem ↓] theorem Sb {x:CV} {xs:List CV}:W k u (uO σ (x :: xs)) ↔ W (fun s=>W k ⟨⟩ (uO s xs)) ⟨⟩ (zi σ (cells x)):=by
 simp only [uO,eT,bF]
def rC (σ:St):PL → Option St
 | .own key _=>Bb σ key
 | _=>some σ
@[go_sem ↓] theorem VA {x:PL} {xs:List PL}:W k u (zi σ (x :: xs)) ↔ W (fun s=>W k ⟨⟩ (zi s xs)) ⟨⟩ (rC σ x):=by
 simp only [eT]
 cases x <;> simp only [zi,rC,bF,bO]
@[go_sem ↓] theorem VB {n:Nat}:W k u (rC σ (.own key n)) ↔ W k ⟨⟩ (Bb σ key):=alM
@[go_sem] theorem ae6 {x:FV}:rC σ (.f x) = some σ:=rfl
@[go_sem] theorem Z7 : rC σ .dz = some σ:=rfl
@[go_sem] theorem Z8 {n:Nat}:rC σ (.ptr key n) = some σ:=rfl
@[go_sem] theorem abN : rC σ (.mp key) = some σ:=rfl
@[go_sem] theorem Z9 : rC σ .iW = some σ:=rfl
@[go_sem] theorem X8 : rC σ .gu = some σ:=rfl
@[go_sem] theorem abO {f:FuncId} {c:List (List FV)}:rC σ (.fn f c) = some σ:=rfl
@[go_sem] theorem abP {c:List FV}:rC σ (.fp c) = some σ:=rfl
end
section
variable {k : FV × St → Prop} {u:Tok k} {key n:Nat}
@[go_sem] theorem ajP {x:FV}:y9 σ (.f x) = some (x,σ):=rfl
@[go_sem] theorem ae7 : y9 σ .dz = some (.sl [],σ):=rfl
@[go_sem ↓] theorem aac : W k u (y9 σ (.own key n)) ↔ W (fun p=>k (.sl p.2,sub ⟨σ.tm,rem σ.ob key⟩ key (.f (.sl p.2)))) ⟨⟩ (jd σ key):=by
 simp only [y9,Bb,jd,eT]
 cases get σ.ob key with
 | none=>exact dI
 | some o=>cases o <;> first | exact dI | (simp only [Option.map_some];exact mX alM)
end
section
variable {k : List FV × St → Prop} {u:Tok k}
@[go_sem ↓] theorem X9 : W k u (l7 σ []) ↔ k ([],σ):=iJ
@[go_sem ↓] theorem VD {x:PL} {xs:List PL}:W k u (l7 σ (x :: xs)) ↔ W (fun p=>W (fun r=>k (p.1 :: r.1,r.2)) ⟨⟩ (l7 p.2 xs)) ⟨⟩ (y9 σ x):=by
 simp only [l7,eT,bF,dG]
@[go_sem ↓] theorem ajQ {key:Nat}:W k u (ZH σ key) ↔ W (fun xs=>W (fun p=>W (fun _=>k (p.1,Xb (Ng key p.1) ⟨p.2.tm,rem p.2.ob key⟩)) ⟨⟩ (get p.2.ob key)) ⟨⟩ (l7 σ xs)) ⟨⟩ (qL σ key):=by
 simp only [ZH,qL,eT]
 cases get σ.ob key with
 | none=>exact dI
 | some o =>
  cases o with
  | gM xs =>
   simp only [oc,bO,bF]
   refine dN fun p=>?_
   cases get p.2.ob key with
   | none=>exact dI
   | some o=>exact mX alM
  | _=>exact dI
end
section
variable {k : FC × St → Prop} {u:Tok k}
@[go_sem ↓] theorem aad {x:PL}:W k u (ZG σ (.one x)) ↔ W (fun p=>k (.one p.1,p.2)) ⟨⟩ (y9 σ x):=by simp only [ZG,eT,dG]
@[go_sem ↓] theorem aae {xs:List PL}:W k u (ZG σ (.agg xs)) ↔ W (fun p=>k (.agg p.1,p.2)) ⟨⟩ (l7 σ xs):=by simp only [ZG,eT,dG]
end
section
variable {k : List (List FV) × St → Prop} {u:Tok k} {q:Bool}
@[go_sem ↓] theorem Ya : W k u (nE q σ []) ↔ k ([],σ):=by simp only [nE,eT,bO]
@[go_sem ↓] theorem aaf {cs:List FV} {l:List CV}:W k u (nE q σ (.one (.fp cs) :: l)) ↔ W (fun r=>k (cs :: r.1,r.2)) ⟨⟩ (nE q σ l):=by simp only [nE,eT,dG]
@[go_sem ↓] theorem Yb {key:Nat} {l:List CV}:W k u (nE q σ (.one (.ptr key 0) :: l)) ↔ q = false ∧ W (fun p=>W (fun r=>k (p.1 :: r.1,r.2)) ⟨⟩ (nE q p.2 l)) ⟨⟩ (ZH σ key):=by
 simp only [nE,eT,dR,bF,dG,amD]
end
section
variable {k : List (Nat × Nat × CV) → Prop} {u:Tok k}
@[go_sem ↓] theorem Yc : W k u (vals σ []) ↔ k []:=iJ
@[go_sem ↓] theorem VE {o n:Nat} {x:eX} {ps:List (Nat × Nat × eX)}:W k u (vals σ ((o,n,x) :: ps)) ↔ W (fun v=>W (fun l=>k ((o,n,v) :: l)) ⟨⟩ (vals σ ps)) ⟨⟩ (val σ x):=by
 simp only [vals,eT,bF,dG]
end
section
variable {k : List CV → Prop} {u:Tok k}
@[go_sem ↓] theorem VF : W k u (jR σ []) ↔ k []:=iJ
@[go_sem ↓] theorem Sc {x:eX} {xs:List eX}:W k u (jR σ (x :: xs)) ↔ W (fun v=>W (fun l=>k (v :: l)) ⟨⟩ (jR σ xs)) ⟨⟩ (val σ x):=by
 simp only [jR,eT,bF,dG]
@[go_sem ↓] theorem VG : W k u (slots σ []) ↔ k []:=iJ
@[go_sem ↓] theorem Sd {x:Rs} {xs:List Rs}:W k u (slots σ (x :: xs)) ↔ W (fun v=>W (fun l=>k (v :: l)) ⟨⟩ (slots σ xs)) ⟨⟩ (slot σ x):=by
 simp only [slots,eT,bF,dG]
end
section
variable {k : CV → Prop} {u:Tok k} {i n:Nat} {agg:Bool}
@[go_sem ↓] theorem abQ : W k u (slot σ (.t i)) ↔ W k ⟨⟩ (vl (get σ.tm i)):=by rw [← abo];exact alM
@[go_sem ↓] theorem VH : W k u (slot σ (.cell i n agg)) ↔ W (fun v=>W (fun p=>W (fun xs=>W (fun l=>W k ⟨⟩ (mk agg l)) ⟨⟩ (seg n p.2 xs)) ⟨⟩ (qL σ p.1)) ⟨⟩ (LH v)) ⟨⟩ (vl (get σ.tm i)):=by
 simp only [slot,eT]
 cases get σ.tm i with
 | none=>exact dI
 | some v =>
  cases v with
  | wK l=>exact dI
  | c x =>
   simp only [vl,bO]
   cases x with
   | agg l=>exact dI
   | one p =>
    cases p with
    | ptr key off =>
     simp only [LH,bO,qL]
     cases get σ.ob key with
     | none=>exact dI
     | some o=>cases o <;> first | exact dI | (simp only [oc,bO,bF])
    | _=>exact dI
end
section
variable {k : List PL → Prop} {u:Tok k} {z:List PL}
@[go_sem ↓] theorem Yd : W k u (fill z []) ↔ k z:=by simp only [fill,eT,bO]
@[go_sem ↓] theorem VI {off n:Nat} {v:CV} {ps:List (Nat × Nat × CV)}:W k u (fill z ((off,n,v) :: ps)) ↔ ((cells v).length = n ∧ (cells v).any qU = false) ∧ W (fun z=>W k ⟨⟩ (fill z ps)) ⟨⟩ (lay off (cells v) z):=by
 simp only [fill,eT,bV,bF]
end
@[go_sem] theorem abR {kk:IntKind} {n:Int}:yx (.int kk n) = some (.int kk n):=rfl
@[go_sem] theorem aag {b:Bool}:yx (.bool b) = some (.bool b):=rfl
@[go_sem] theorem abS {s:ByteArray}:yx (.str s) = some (.str s):=rfl
section
variable {k : KV → Prop} {u:Tok k}
@[go_sem ↓] theorem aah {x:FV}:W k u (keyOf (.one (.f x))) ↔ W (fun s=>k (.one s)) ⟨⟩ (yx x):=by simp only [keyOf,Jy,Option.bind_some,eT,dG]
@[go_sem ↓] theorem aai {xs:List PL}:W k u (keyOf (.agg xs)) ↔ W (fun l=>W (fun s=>k (.agg s)) ⟨⟩ (uM l)) ⟨⟩ (qg xs):=by simp only [keyOf,eT,bF,dG]
end
section
variable {k : List SV → Prop} {u:Tok k}
@[go_sem ↓] theorem VJ : W k u (uM []) ↔ k []:=iJ
@[go_sem ↓] theorem Sg {x:FV} {xs:List FV}:W k u (uM (x :: xs)) ↔ W (fun s=>W (fun l=>k (s :: l)) ⟨⟩ (uM xs)) ⟨⟩ (yx x):=by simp only [uM,eT,bF,dG]
end
section
variable {k : List FV → Prop} {u:Tok k}
@[go_sem ↓] theorem Si : W k u (qg []) ↔ k []:=iJ
@[go_sem ↓] theorem Rf {x:FV} {xs:List PL}:W k u (qg (.f x :: xs)) ↔ W (fun l=>k (x :: l)) ⟨⟩ (qg xs):=by simp only [qg,Jy,Option.bind_some,eT,dG]
end
section
variable {k : CL × St → Prop} {u:Tok k} {key n:Nat}
@[go_sem] theorem ajR {x:FV}:Ll σ (.f x) = some (.f x,σ):=rfl
@[go_sem] theorem ae8 : Ll σ .dz = some (.f (.sl []),σ):=rfl
@[go_sem] theorem ae9 : Ll σ .iW = some (.iW,σ):=rfl
@[go_sem] theorem abT : Ll σ .gu = some (.gu,σ):=rfl
@[go_sem ↓] theorem aaj : W k u (Ll σ (.own key n)) ↔ W (fun o=>k (.own o.1 o.2,⟨σ.tm,rem σ.ob key⟩)) ⟨⟩ (jd σ key):=by
 simp only [Ll,jd,eT]
 cases get σ.ob key with
 | none=>exact dI
 | some o=>cases o <;> first | exact dI | exact mX alM
@[go_sem ↓] theorem abU : W k u (Ll σ (.mp key)) ↔ W (fun o=>k (.mp o.1 o.2,⟨σ.tm,rem σ.ob key⟩)) ⟨⟩ (ql σ key):=by
 simp only [Ll,ql,eT]
 cases get σ.ob key with
 | none=>exact dI
 | some o=>cases o <;> first | exact dI | exact mX alM
end
section
variable {k : List CL × St → Prop} {u:Tok k}
@[go_sem ↓] theorem Ye : W k u (Bf σ []) ↔ k ([],σ):=iJ
@[go_sem ↓] theorem VK {x:PL} {xs:List PL}:W k u (Bf σ (x :: xs)) ↔ W (fun p=>W (fun r=>k (p.1 :: r.1,r.2)) ⟨⟩ (Bf p.2 xs)) ⟨⟩ (Ll σ x):=by
 simp only [Bf,eT,bF,dG]
end
section
variable {k : TV × St → Prop} {u:Tok k} {key n:Nat} {gv:Bool}
@[go_sem] theorem ajS {x:FV}:uh gv σ (.f x) = some (.f x,σ):=rfl
@[go_sem] theorem afa : uh gv σ .dz = some (.f (.sl []),σ):=rfl
@[go_sem] theorem afb : uh gv σ .iW = some (.iW,σ):=rfl
@[go_sem] theorem abV : uh gv σ .gu = some (.gu,σ):=rfl
@[go_sem] theorem ah2 {cs:List FV}:uh gv σ (.fp cs) = some (.fp cs,σ):=rfl
@[go_sem] theorem ah3 {f:FuncId} {cs:List (List FV)}:uh gv σ (.fn f cs) = some (.fn f cs,σ):=rfl
@[go_sem ↓] theorem aak : W k u (uh false σ (.own key n)) ↔ W (fun o=>k (.f (.sl o.2),σ)) ⟨⟩ (jd σ key):=by
 simp only [uh,jd,eT]
 cases get σ.ob key with
 | none=>exact dI
 | some o=>cases o <;> first | exact dI | exact mX alM
@[go_sem ↓] theorem Yf : W k u (uh true σ (.own key n)) ↔ W (fun o=>k (.own o.1 o.2,⟨σ.tm,rem σ.ob key⟩)) ⟨⟩ (jd σ key):=by
 simp only [uh,jd,eT]
 cases get σ.ob key with
 | none=>exact dI
 | some o=>cases o <;> first | exact dI | exact mX alM
@[go_sem ↓] theorem abW : W k u (uh gv σ (.mp key)) ↔ W (fun o=>k (.mp o.1 o.2,⟨σ.tm,rem σ.ob key⟩)) ⟨⟩ (ql σ key):=by
 simp only [uh,ql,eT]
 cases get σ.ob key with
 | none=>exact dI
 | some o=>cases o <;> first | exact dI | exact mX alM
@[go_sem ↓] theorem aal : W k u (uh gv σ (.ptr key 0)) ↔ W (fun xs=>W (fun p=>k (.ptr p.1,p.2)) ⟨⟩ (Bf ⟨σ.tm,rem σ.ob key⟩ xs)) ⟨⟩ (qL σ key):=by
 simp only [uh,qL,eT]
 cases get σ.ob key with
 | none=>exact dI
 | some o=>cases o <;> first | exact dI | (simp only [oc,bO,dG])
end
section
variable {k : List TV × St → Prop} {u:Tok k} {gv:Bool}
@[go_sem ↓] theorem Yg : W k u (uj gv σ []) ↔ k ([],σ):=iJ
@[go_sem ↓] theorem VL {x:PL} {xs:List PL}:W k u (uj gv σ (x :: xs)) ↔ W (fun p=>W (fun r=>k (p.1 :: r.1,r.2)) ⟨⟩ (uj gv p.2 xs)) ⟨⟩ (uh gv σ x):=by
 simp only [uj,eT,bF,dG]
end
section
variable {k : AV × St → Prop} {u:Tok k} {gv:Bool}
@[go_sem ↓] theorem aam {x:PL}:W k u (M0 gv σ (.one x)) ↔ W (fun p=>k (.one p.1,p.2)) ⟨⟩ (uh gv σ x):=by simp only [M0,eT,dG]
@[go_sem ↓] theorem aan {xs:List PL}:W k u (M0 gv σ (.agg xs)) ↔ W (fun p=>k (.agg p.1,p.2)) ⟨⟩ (uj gv σ xs):=by simp only [M0,eT,dG]
end
section
variable {k : List AV × St → Prop} {u:Tok k} {gv:Bool}
@[go_sem ↓] theorem Yh : W k u (uN gv σ []) ↔ k ([],σ):=iJ
@[go_sem ↓] theorem VN {x:CV} {xs:List CV}:W k u (uN gv σ (x :: xs)) ↔ W (fun p=>W (fun r=>k (p.1 :: r.1,r.2)) ⟨⟩ (uN gv p.2 xs)) ⟨⟩ (M0 gv σ x):=by
 simp only [uN,eT,bF,dG]
end
section
variable {k : List PL × St → Prop} {u:Tok k} {kf:Nat → Nat} {c base j:Nat} {pend:List PL}
@[go_sem ↓] theorem Yi : W k u (sZ kf c pend σ []) ↔ k ([],σ):=by simp only [sZ,eT,bO]
def Sj (kf:Nat → Nat) (c:Nat) (pend:List PL) (σ:St):CL → Option (PL × St)
 | .f x=>some (.f x,σ)
 | .iW=>some (.iW,σ)
 | .gu=>some (.gu,σ)
 | .mp sh ents=>(newP pend σ (kf c) (.map sh ents)).map fun s=>(.mp (kf c),s)
 | .own sz rows=>(newP pend σ (kf c + kf c % 2) (.row sz rows)).map fun s=>(.own (kf c + kf c % 2) rows.length,s)
@[go_sem ↓] theorem VO {x:CL} {xs:List CL}:W k u (sZ kf c pend σ (x :: xs)) ↔ W (fun p=>W (fun r=>k (p.1 :: r.1,r.2)) ⟨⟩ (sZ kf (c + 1) (p.1 :: pend) p.2 xs)) ⟨⟩ (Sj kf c pend σ x):=by
 simp only [eT]
 cases x <;> simp only [sZ,Sj,bO,bF,dG]
@[go_sem ↓] theorem Yj : W k u (zf base j pend σ []) ↔ k ([],σ):=by simp only [zf,eT,bO]
@[go_sem ↓] theorem VP {x:TV} {xs:List TV}:W k u (zf base j pend σ (x :: xs)) ↔ W (fun p=>W (fun r=>k (p.1 :: r.1,r.2)) ⟨⟩ (zf base (j + 1) (p.1 :: pend) p.2 xs)) ⟨⟩ (EN (base + 200 * (j + 1)) pend σ x):=by
 simp only [zf,eT,bF,dG]
end
section
variable {k : PL × St → Prop} {u:Tok k} {kf:Nat → Nat} {c key:Nat} {pend:List PL}
@[go_sem] theorem ajT {x:FV}:Sj kf c pend σ (.f x) = some (.f x,σ):=rfl
@[go_sem] theorem afc : Sj kf c pend σ .iW = some (.iW,σ):=rfl
@[go_sem] theorem abX : Sj kf c pend σ .gu = some (.gu,σ):=rfl
@[go_sem ↓] theorem abY {sh:KS} {ents:List (KV × FC)}:W k u (Sj kf c pend σ (.mp sh ents)) ↔ W (fun s=>k (.mp (kf c),s)) ⟨⟩ (newP pend σ (kf c) (.map sh ents)):=by simp only [Sj,eT,dG]
@[go_sem ↓] theorem aao {sz:Nat} {rows:List (List FV)}:W k u (Sj kf c pend σ (.own sz rows)) ↔ W (fun s=>k (.own (kf c + kf c % 2) rows.length,s)) ⟨⟩ (newP pend σ (kf c + kf c % 2) (.row sz rows)):=by simp only [Sj,eT,dG]
@[go_sem] theorem ajU {x:FV}:EN key pend σ (.f x) = some (.f x,σ):=rfl
@[go_sem] theorem afd : EN key pend σ .iW = some (.iW,σ):=rfl
@[go_sem] theorem abZ : EN key pend σ .gu = some (.gu,σ):=rfl
@[go_sem] theorem ah4 {cs:List FV}:EN key pend σ (.fp cs) = some (.fp cs,σ):=rfl
@[go_sem] theorem ah5 {f:FuncId} {cs:List (List FV)}:EN key pend σ (.fn f cs) = some (.fn f cs,σ):=rfl
@[go_sem] theorem afe : EN key pend σ .any = some (.any,σ):=rfl
@[go_sem ↓] theorem ab0 {sh:KS} {ents:List (KV × FC)}:W k u (EN key pend σ (.mp sh ents)) ↔ W (fun s=>k (.mp key,s)) ⟨⟩ (newP pend σ key (.map sh ents)):=by simp only [EN,eT,dG]
@[go_sem ↓] theorem aap {sz:Nat} {rows:List (List FV)}:W k u (EN key pend σ (.own sz rows)) ↔ W (fun s=>k (.own (ow key) rows.length,s)) ⟨⟩ (newP pend σ (ow key) (.row sz rows)):=by simp only [EN,eT,dG]
@[go_sem ↓] theorem aaq {cs:List CL}:W k u (EN key pend σ (.ptr cs)) ↔ W (fun p=>p.1.any (fB key) = false ∧ W (fun s=>k (.ptr key 0,s)) ⟨⟩ (newP pend p.2 key (.gM p.1))) ⟨⟩ (sZ (Rq key) 0 pend σ cs):=by
 simp only [EN,eT,bF,dR,dG,amD]
end
section
variable {k : CV × St → Prop} {u:Tok k} {base:Nat} {pend:List PL}
@[go_sem ↓] theorem aar {x:TV}:W k u (M4 base pend σ (.one x)) ↔ W (fun p=>k (.one p.1,p.2)) ⟨⟩ (EN (base + 200) pend σ x):=by simp only [M4,eT,dG]
@[go_sem ↓] theorem aas {xs:List TV}:W k u (M4 base pend σ (.agg xs)) ↔ W (fun p=>k (.agg p.1,p.2)) ⟨⟩ (zf base 0 pend σ xs):=by simp only [M4,eT,dG]
end
section
variable {k : List CV × St → Prop} {u:Tok k} {base i:Nat} {pend:List PL} {bo:List Nat}
@[go_sem] theorem ajV : ab bo i = if bo.contains i then dY i + 10001 else dY i + 1:=rfl
@[go_sem] theorem ajW {key:Nat}:ow key = if key / 10000 % 2 = 0 then key + key % 2 else key:=rfl
@[go_sem ↓] theorem Yk : W k u (zh base i pend σ []) ↔ k ([],σ):=by simp only [zh,eT,bO]
@[go_sem ↓] theorem VQ {x:AV} {xs:List AV}:W k u (zh base i pend σ (x :: xs)) ↔ W (fun p=>W (fun r=>k (p.1 :: r.1,r.2)) ⟨⟩ (zh base (i + 1) (cells p.1 ++ pend) p.2 xs)) ⟨⟩ (M4 (base + 2000 * i) pend σ x):=by
 simp only [zh,eT,bF,dG]
@[go_sem ↓] theorem VR : W k u (enter bo i pend σ []) ↔ k ([],σ):=by simp only [enter,eT,bO]
@[go_sem ↓] theorem Sk {x:AV} {xs:List AV}:W k u (enter bo i pend σ (x :: xs)) ↔ W (fun p=>W (fun s=>W (fun r=>k (p.1 :: r.1,r.2)) ⟨⟩ (enter bo (i + 1) (cells p.1 ++ pend) s xs)) ⟨⟩ (some ⟨put p.2.tm i (.c p.1),p.2.ob⟩)) ⟨⟩ (M4 (ab bo i) pend σ x):=by
 simp only [enter,eT,bF,dG,bO]
end
section
variable {k : St → Prop} {u:Tok k} {gJ:St} {base:Nat} {pend:List PL}
@[go_sem ↓] theorem Yl : W k u (Bg gJ pend base σ [] []) ↔ k σ:=by simp only [Bg,eT,bO]
@[go_sem ↓] theorem VT {x:CV} {xs:List CV} {y:AV} {ys:List AV}:W k u (Bg gJ pend base σ (x :: xs) (y :: ys)) ↔ W (fun s=>W k ⟨⟩ (Bg gJ pend (base + 1000) s xs ys)) ⟨⟩ (wbA gJ pend base σ x y):=by
 simp only [Bg,eT,bF]
@[go_sem ↓] theorem aat {x:PL} {y:TV}:W k u (wbA gJ pend base σ (.one x) (.one y)) ↔ W k ⟨⟩ (EO gJ pend base σ x y):=alM
@[go_sem ↓] theorem aau {x:List PL} {y:List TV}:W k u (wbA gJ pend base σ (.agg x) (.agg y)) ↔ W k ⟨⟩ (Dk gJ pend base σ x y):=alM
@[go_sem ↓] theorem Ym : W k u (Dk gJ pend base σ [] []) ↔ k σ:=by simp only [Dk,eT,bO]
@[go_sem ↓] theorem VU {x:PL} {xs:List PL} {y:TV} {ys:List TV}:W k u (Dk gJ pend base σ (x :: xs) (y :: ys)) ↔ W (fun s=>W k ⟨⟩ (Dk gJ pend (base + 200) s xs ys)) ⟨⟩ (EO gJ pend base σ x y):=by
 simp only [Dk,eT,bF]
@[go_sem ↓] theorem aav {key off:Nat} {cs:List CL}:W k u (EO gJ pend base σ (.ptr key off) (.ptr cs)) ↔ W (fun xs=>W (fun p=>k (jU p.2 key (.gM p.1))) ⟨⟩ (sZ (Lm base xs) 0 pend σ cs)) ⟨⟩ (qL gJ key):=by
 simp only [EO,qL,eT]
 cases get gJ.ob key with
 | none=>exact dI
 | some o=>cases o <;> first | exact dI | (simp only [oc,bO,dG])
@[go_sem] theorem ah6 {key:Nat} {sh:KS} {ents:List (KV × FC)}:EO gJ pend base σ (.mp key) (.mp sh ents) = some (jU σ key (.map sh ents)):=rfl
@[go_sem] theorem ab1 {key n sz:Nat} {rows:List (List FV)}:EO gJ pend base σ (.own key n) (.own sz rows) = some (jU σ key (.row sz rows)):=rfl
@[go_sem] theorem ajX {x y:FV}:EO gJ pend base σ (.f x) (.f y) = some σ:=rfl
@[go_sem] theorem aff {y:FV}:EO gJ pend base σ .dz (.f y) = some σ:=rfl
@[go_sem] theorem afg : EO gJ pend base σ .iW .iW = some σ:=rfl
@[go_sem] theorem ab2 : EO gJ pend base σ .gu .gu = some σ:=rfl
@[go_sem] theorem afh {key n:Nat} {y:FV}:EO gJ pend base σ (.own key n) (.f y) = some σ:=rfl
@[go_sem] theorem afi {key n:Nat}:EO gJ pend base σ (.own key n) .any = some σ:=rfl
@[go_sem] theorem ah7 {a b:List FV}:EO gJ pend base σ (.fp a) (.fp b) = some σ:=rfl
@[go_sem] theorem ah8 {f g:FuncId} {a b:List (List FV)}:EO gJ pend base σ (.fn f a) (.fn g b) = some σ:=rfl
end
def kfw (base c:Nat):Option PL → Nat
 | some (.mp k)=>if k % 2 = 0 then k else base + 2 * (c + 1)
 | some (.own k _)=>if k % 2 = 0 then k else base + 2 * (c + 1)
 | _=>base + 2 * (c + 1)
@[go_sem] theorem afj {base c:Nat} {xs:List PL}:Lm base xs c = kfw base c (xs[c]?):=by
 unfold Lm
 cases xs[c]? with
 | none=>rfl
 | some x=>cases x <;> rfl
@[go_sem] theorem ah9 {base c k:Nat}:kfw base c (some (.mp k)) = if k % 2 = 0 then k else base + 2 * (c + 1):=rfl
@[go_sem] theorem afk {base c k n:Nat}:kfw base c (some (.own k n)) = if k % 2 = 0 then k else base + 2 * (c + 1):=rfl
@[go_sem] theorem ajY {base c:Nat} {x:FV}:kfw base c (some (.f x)) = base + 2 * (c + 1):=rfl
@[go_sem] theorem afl {base c:Nat}:kfw base c (some .dz) = base + 2 * (c + 1):=rfl
@[go_sem] theorem ab3 {base c:Nat}:kfw base c (some .gu) = base + 2 * (c + 1):=rfl
section
variable {k : TV × St → Prop} {u:Tok k} {key n:Nat}
@[go_sem] theorem aia {x:FV}:outT σ (.f x) = some (.f x,σ):=rfl
@[go_sem] theorem ab4 : outT σ .dz = some (.f (.sl []),σ):=rfl
@[go_sem] theorem ab5 : outT σ .iW = some (.iW,σ):=rfl
@[go_sem] theorem aaw : outT σ .gu = some (.gu,σ):=rfl
@[go_sem] theorem afm {cs:List FV}:outT σ (.fp cs) = some (.fp cs,σ):=rfl
@[go_sem] theorem afn {f:FuncId} {cs:List (List FV)}:outT σ (.fn f cs) = some (.fn f cs,σ):=rfl
@[go_sem ↓] theorem Yn : W k u (outT σ (.own key n)) ↔ W (fun p=>k (.f p.1,p.2)) ⟨⟩ (y9 σ (.own key n)):=by simp only [outT,eT,dG]
@[go_sem ↓] theorem aax : W k u (outT σ (.mp key)) ↔ W (fun o=>k (.mp o.1 o.2,⟨σ.tm,rem σ.ob key⟩)) ⟨⟩ (ql σ key):=by
 simp only [outT,ql,eT]
 cases get σ.ob key with
 | none=>exact dI
 | some o=>cases o <;> first | exact dI | exact mX alM
@[go_sem ↓] theorem Yo : W k u (outT σ (.ptr key 0)) ↔ W (fun xs=>W (fun p=>k (.ptr p.1,p.2)) ⟨⟩ (Bf ⟨σ.tm,rem σ.ob key⟩ xs)) ⟨⟩ (qL σ key):=by
 simp only [outT,qL,eT]
 cases get σ.ob key with
 | none=>exact dI
 | some o=>cases o <;> first | exact dI | (simp only [oc,bO,dG])
@[go_sem ↓] theorem Yp {sz:Nat}:W k u (Dl sz σ (.own key n)) ↔ W (fun o=>o.1 = sz ∧ k (.own sz o.2,⟨σ.tm,rem σ.ob key⟩)) ⟨⟩ (jd σ key):=by
 simp only [Dl,jd,eT]
 cases get σ.ob key with
 | none=>exact dI
 | some o=>cases o <;> first | exact dI | (simp only [Oy,bO,bV])
@[go_sem ↓] theorem Yq {sz:Nat}:W k u (Dl sz σ .dz) ↔ ¬ sz = 0 ∧ k (.own sz [],σ):=by simp only [Dl,eT,dR,bO]
@[go_sem] theorem afo {x:PL} {y:FV}:kL σ x (.f y) = some (.f y,σ):=by cases x <;> first | rfl | (rename_i a b;cases b <;> rfl)
@[go_sem] theorem aay {x:PL}:kL σ x .iW = some (.iW,σ):=by cases x <;> first | rfl | (rename_i a b;cases b <;> rfl)
@[go_sem] theorem Yr {x:PL}:kL σ x .gu = some (.gu,σ):=by cases x <;> first | rfl | (rename_i a b;cases b <;> rfl)
def bko (σ:St) (key:Nat):Nat → Option (TV × St)
 | 1=>(Oy (get σ.ob key)).map fun p=>(.own p.1 p.2,⟨σ.tm,rem σ.ob key⟩)
 | _=>some (.any,σ)
@[go_sem] theorem ajZ : bko σ key 0 = some (.any,σ):=rfl
@[go_sem] theorem ab6 : bko σ key 1 = (Oy (get σ.ob key)).map fun p=>(.own p.1 p.2,⟨σ.tm,rem σ.ob key⟩):=rfl
@[go_sem] theorem aaz {n sz:Nat} {rows:List (List FV)}:kL σ (.own key n) (.own sz rows) = bko σ key (key % 2):=by
 simp only [kL]
 rcases Nat.mod_two_eq_zero_or_one key with h | h
 ·rw [h,aly (by decide)];rfl
 ·rw [h,alx rfl,ab6]
  cases get σ.ob key with
  | none=>rfl
  | some o=>cases o <;> rfl
@[go_sem] theorem aaA {sz:Nat} {rows:List (List FV)}:kL σ .dz (.own sz rows) = some (.any,σ):=rfl
@[go_sem] theorem aaB {x:PL}:kL σ x .any = some (.any,σ):=by cases x <;> first | rfl | (rename_i a b;cases b <;> rfl)
@[go_sem] theorem ab7 {x:PL} {cs:List FV}:kL σ x (.fp cs) = some (.fp cs,σ):=by cases x <;> first | rfl | (rename_i a b;cases b <;> rfl)
@[go_sem] theorem ab8 {x:PL} {f:FuncId} {cs:List (List FV)}:kL σ x (.fn f cs) = some (.fn f cs,σ):=by cases x <;> first | rfl | (rename_i a b;cases b <;> rfl)
@[go_sem ↓] theorem VW {cs:List CL}:W k u (kL σ (.ptr key 0) (.ptr cs)) ↔ key % 2 = 1 ∧ W k ⟨⟩ (outT σ (.ptr key 0)):=by simp only [kL,eT,bV]
@[go_sem ↓] theorem Yt {sh:KS} {ents:List (KV × FC)}:W k u (kL σ (.mp key) (.mp sh ents)) ↔ key % 2 = 1 ∧ W k ⟨⟩ (outT σ (.mp key)):=by simp only [kL,eT,bV]
end
section
variable {k : List TV × St → Prop} {u:Tok k}
@[go_sem ↓] theorem VX : W k u (xL σ []) ↔ k ([],σ):=iJ
@[go_sem ↓] theorem Sl {x:PL} {xs:List PL}:W k u (xL σ (x :: xs)) ↔ W (fun p=>W (fun r=>k (p.1 :: r.1,r.2)) ⟨⟩ (xL p.2 xs)) ⟨⟩ (outT σ x):=by
 simp only [xL,eT,bF,dG]
@[go_sem ↓] theorem Sm : W k u (qh σ [] []) ↔ k ([],σ):=by simp only [qh,eT,bO]
@[go_sem ↓] theorem Rh {l:PL} {ls:List PL} {x:TV} {xs:List TV}:W k u (qh σ (l :: ls) (x :: xs)) ↔ W (fun p=>W (fun r=>k (p.1 :: r.1,r.2)) ⟨⟩ (qh p.2 ls xs)) ⟨⟩ (kL σ l x):=by
 simp only [qh,eT,bF,dG]
end
section
variable {k : AV × St → Prop} {u:Tok k}
@[go_sem ↓] theorem M7 {x:PL}:W k u (Dm none σ (.one x)) ↔ W (fun p=>k (.one p.1,p.2)) ⟨⟩ (outT σ x):=by simp only [Dm,Rw,eT,dG]
@[go_sem ↓] theorem M8 {xs:List PL}:W k u (Dm none σ (.agg xs)) ↔ W (fun p=>k (.agg p.1,p.2)) ⟨⟩ (xL σ xs):=by simp only [Dm,Rw,eT,dG]
@[go_sem ↓] theorem VY {sz:Nat} {x:PL}:W k u (Dm (some sz) σ (.one x)) ↔ W (fun p=>k (.one p.1,p.2)) ⟨⟩ (Dl sz σ x):=by simp only [Dm,eT,dG]
@[go_sem ↓] theorem VZ {l:PL} {x:TV}:W k u (zk σ (.one l) (.one x)) ↔ W (fun p=>k (.one p.1,p.2)) ⟨⟩ (kL σ l x):=by simp only [zk,eT,dG]
@[go_sem ↓] theorem V3 {l:List PL} {x:List TV}:W k u (zk σ (.agg l) (.agg x)) ↔ W (fun p=>k (.agg p.1,p.2)) ⟨⟩ (qh σ l x):=by simp only [zk,eT,dG]
end
section
variable {k : List AV × St → Prop} {u:Tok k}
@[go_sem ↓] theorem V4 {fl:List (Option Nat)}:W k u (nR fl σ []) ↔ k ([],σ):=by simp only [nR,eT,bO]
@[go_sem ↓] theorem Sn {fl:List (Option Nat)} {x:CV} {xs:List CV}:W k u (nR fl σ (x :: xs)) ↔ W (fun p=>W (fun r=>k (p.1 :: r.1,r.2)) ⟨⟩ (nR fl.tail p.2 xs)) ⟨⟩ (Dm (fl.headD none) σ x):=by
 simp only [nR,eT,bF,dG]
@[go_sem ↓] theorem Sq : W k u (kW σ [] []) ↔ k ([],σ):=by simp only [kW,eT,bO]
@[go_sem ↓] theorem Ri {l:CV} {ls:List CV} {x:AV} {xs:List AV}:W k u (kW σ (l :: ls) (x :: xs)) ↔ W (fun p=>W (fun r=>k (p.1 :: r.1,r.2)) ⟨⟩ (kW p.2 ls xs)) ⟨⟩ (zk σ l x):=by
 simp only [kW,eT,bF,dG]
end
section
variable {k : St → Prop} {u:Tok k} {gv:Bool} {d:Nat} {args:List CV} {p:List AV × St} {r:List AV × List AV} {s:St}
@[go_sem ↓] theorem aib : W k u (IB gv args p r) ↔ (if (!gv && ((r.1.any yC || !p.1.all gK) && args.any (fun x=>(cells x).any iD))) = true then W k ⟨⟩ (uO p.2 args) else k p.2):=by
 simp only [IB,eT]
 split
 ·exact alM
 ·exact bO
@[go_sem ↓] theorem aic : W k u (IC d σ args p r s) ↔ (if p.1.all gK = true then k s else W k ⟨⟩ (Bg σ (args.flatMap cells) (dY d + 10000) s args r.2)):=by
 simp only [IC,eT]
 split
 ·exact bO
 ·exact alM
end
end
section
variable {σ : St} {ks Di:List Nat} {rws:List (Nat × Nat)}
@[go_sem] theorem aie : res ks Di rws σ = ⟨pick ks (jP σ rws).tm,pick Di (jP σ rws).ob⟩:=rfl
@[go_sem] theorem afp : jP σ [] = σ:=rfl
end
attribute [go_sem] if_true if_false true_and and_true Bool.not_false Bool.not_true Bool.and_false Bool.false_and Bool.and_true Bool.true_and Bool.or_false Bool.false_or Bool.or_true Bool.true_or Bool.false_eq_true not_true_eq_false not_false_eq_true ne_eq forall_const and_self implies_true KV.one.injEq KV.agg.injEq SV.str.injEq SV.int.injEq SV.bool.injEq List.cons.injEq List.getElem?_cons_zero List.getElem?_cons_succ List.getD_cons_zero List.getD_cons_succ List.contains_cons List.contains_nil decide_true decide_false fresh
end
end Go.Proofs.YtfokaoeinpnagaaGreat.Ev
namespace Go.Proofs.YtfokaoeinpnagaaGreat.Kc
section
open Go Ev
def av (d:Nat) (i:I):G:=⟨some d,none,i⟩
def dB (i:I):G:=⟨none,none,i⟩
def bE (d s:Nat) (b:Bool) (i:I):G:=⟨some d,some (some s,b),i⟩
def bM (n:Int):eX:=.k (.one (.f (.int .i64 n)))
def aW : PL:=.f (.int .i64 0)
def bZ : PL:=.f (.str ⟨#[]⟩)
def dS (a b s:Nat):Nat × Nat × eX:=⟨a,b,.t s⟩
def eu : eX:=.k (.one (.f (.bool true)))
def dH : eX:=.k (.one (.f (.bool false)))
def aH (d s:Nat):G:=⟨some d,none,.mv (.t s)⟩
def dn (d s:Nat):G:=⟨some d,none,.load 1 false (.t s)⟩
def dh (d n s:Nat):G:=⟨some d,none,.load n true (.t s)⟩
def bU (d f s:Nat):G:=⟨some d,none,.fa f (.t s)⟩
def bn (a:List G) (b:List Nat) (c:CC):CC:=.seq (.reg a b) c
def Rj : CF:=⟨1,[(.t 2)],[],[],(bn [av 2 (.mv (.k (.one .iW)))] [0] (.seq (bn [aH 3 0,av 4 (.cmp .lt (.t 3) (bM 1)),aH 5 4,bE 6 5 false (.mv (.t 0)),bE 7 5 false (.cmp .gt (.t 6) (bM 1000)),av 8 (.pick (.t 5) eu (.t 7))] [0,8] (.cond (.t 8) (bn [av 2 (.mv (.k (.one .iW)))] [2] .ret) .skip)) (bn [aH 9 0,av 10 (.qR (.agg [.str,(.int .i64),(.int .i64)])),av 11 (.build [aW,.gu,.dz,aW] [dS 0 1 9,dS 1 1 10]),av 12 (.box 162 (.t 11)),aH 2 12] [2] .ret)))⟩
def c52 : CF:=⟨1,[(.cell 2 3 true)],[],[],(bn [av 2 (.alloc 33 [aW,.dz,aW])] [0,2] (.seq (bn [aH 3 0,av 4 (.cmp .lt (.t 3) (bM 1)),aH 5 4,bE 6 5 false (.mv (.t 0)),bE 7 5 false (.cmp .gt (.t 6) (bM 1000)),av 8 (.pick (.t 5) eu (.t 7))] [0,2,8] (.cond (.t 8) (bn [av 9 (.build [aW,.dz,aW] []),dB (.store 3 (.t 2) (.t 9))] [2] .ret) .skip)) (bn [aH 10 0,av 11 (.build [aW,.dz,aW] [dS 0 1 10]),dB (.store 3 (.t 2) (.t 11))] [2] .ret)))⟩
def c54 : CF:=⟨4,[(.cell 8 3 true),(.t 9)],[],[],(bn [av 4 (.box 33 (.t 0)),av 6 (.box 42 (.t 2)),av 8 (.alloc 33 [aW,.dz,aW]),av 9 (.mv (bM 0))] [1,3,4,6,8] (.seq (bn [bU 13 0 4,dn 14 13,av 15 (.cmp .eq (.t 14) (bM 0)),aH 16 15,bE 17 16 false (.mv (.t 1)),bE 18 16 false (.call false 91 [(.t 17)]),bE 19 16 false (.no (.t 18)),av 20 (.pick (.t 16) eu (.t 19)),aH 21 20,bE 22 21 false (.load 5 true (.t 6)),bE 23 21 false (.call false 92 [(.t 22)]),bE 24 21 false (.no (.t 23)),av 25 (.pick (.t 21) eu (.t 24)),aH 26 25,bE 27 26 false (.mv (.t 3)),bE 28 26 false (.cmp .lt (.t 27) (bM 1)),av 29 (.pick (.t 26) eu (.t 28)),aH 30 29,bE 31 30 false (.mv (.t 3)),bE 32 30 false (.cmp .gt (.t 31) (bM 5)),av 33 (.pick (.t 30) eu (.t 32))] [1,3,4,6,8,33] (.cond (.t 33) (bn [dh 34 3 4,dB (.store 3 (.t 8) (.t 34)),av 9 (.mv (bM 1))] [8,9] .ret) .skip)) (bn [aH 35 1,bU 36 4 6,dn 37 36,av 38 (.call false 93 [(.t 35),(.t 37)]),aH 10 38] [1,3,4,6,8,10] (.seq (bn [aH 39 1,aH 40 10,av 41 (.call false 94 [(.t 39),(.t 40)]),av 42 (.no (.t 41))] [1,3,4,6,8,10,42] (.cond (.t 42) (bn [dh 43 3 4,dB (.store 3 (.t 8) (.t 43)),av 9 (.mv (bM 14))] [8,9] .ret) .skip)) (bn [dh 44 3 4,bU 45 0 6,dh 46 3 45,av 47 (.call false 95 [(.t 44),(.t 46)]),aH 11 47] [1,3,4,6,8,10,11] (.seq (.seq (.qc [⟨aH 48 11,[]⟩,⟨av 49 (.cmp .ge (.t 48) (bM 0)),[]⟩,⟨aH 50 49,[]⟩,⟨bE 51 50 true (.fa 1 (.t 4)),[]⟩,⟨bE 52 50 true (.load 1 false (.t 51)),[]⟩,⟨bE 53 50 true (.mv (.t 11)),[]⟩,⟨bE 54 50 true (.ia 7 (.t 52) (.t 53)),[]⟩,⟨bE 55 50 true (.fa 6 (.t 54)),[]⟩,⟨bE 56 50 true (.load 1 false (.t 55)),[]⟩,⟨bE 57 50 true (.mv (.t 1)),[]⟩,⟨bE 58 50 true (.fa 1 (.t 4)),[]⟩,⟨bE 59 50 true (.load 1 false (.t 58)),[]⟩,⟨bE 60 50 true (.mv (.t 11)),[]⟩,⟨bE 61 50 true (.ia 7 (.t 59) (.t 60)),[]⟩,⟨bE 62 50 true (.fa 5 (.t 61)),[]⟩,⟨bE 63 50 true (.load 1 false (.t 62)),[]⟩,⟨bE 64 50 true (.call false 94 [(.t 57),(.t 63)]),[]⟩,⟨bE 65 50 true (.mv (.t 3)),[]⟩] [] [] [bE 66 50 true (.call false 96 [(.t 56),(.t 64),(.t 65)]),bE 67 50 true (.no (.t 66)),av 68 (.pick (.t 50) (.t 67) dH)] [3,4,6,8,10,11,68]) (.cond (.t 68) (bn [dh 69 3 4,dB (.store 3 (.t 8) (.t 69)),av 9 (.mv (bM 10))] [8,9] .ret) .skip)) (bn [bU 70 1 4,dn 71 70,aH 72 11,av 73 (.call false 97 [(.t 71),(.t 72)]),aH 12 73] [3,4,6,8,10,12] (bn [aH 74 12,dh 75 5 6,aH 76 10,aH 77 3,av 78 (.build [bZ,aW,aW,.dz,aW,aW,aW] [dS 0 5 75,dS 5 1 76,dS 6 1 77]),av 79 (.tL 135 7 1 [bZ,aW,aW,.dz,aW,aW,aW] [dS 0 7 78]),av 80 (.app 135 7 80 (.t 74) (.t 79)),aH 12 80] [4,8,12] (.seq (bn [aH 81 12,av 82 (.gW (.t 81)),bU 83 0 4,dn 84 83,av 85 (.cmp .gt (.t 82) (.t 84))] [4,8,12,85] (.cond (.t 85) (.reg [aH 86 12,av 87 (.cut 7 (.t 86) (some (bM 1)) none),aH 12 87] [4,8,12]) .skip)) (bn [aH 88 12,bU 89 1 4,dB (.store 1 (.t 89) (.t 88))] [4,8] (bn [bU 90 2 4,dn 91 90,av 92 (.ar .add (.t 91) (bM 1)),bU 93 2 4,dB (.store 1 (.t 93) (.t 92))] [4,8] (bn [dh 94 3 4,dB (.store 3 (.t 8) (.t 94)),av 9 (.mv (bM 0))] [8,9] .ret))))))))))))⟩
def c73 : CF:=⟨3,[(.cell 6 7 true),(.t 7)],[],[],(bn [av 3 (.box 33 (.t 0)),av 5 (.box 24 (.t 2)),av 6 (.alloc 135 [bZ,aW,aW,.dz,aW,aW,aW]),av 7 (.mv dH)] [1,3,5,6] (bn [dh 9 3 3,dh 10 3 5,av 11 (.call false 95 [(.t 9),(.t 10)]),aH 8 11] [1,3,6,8] (.seq (bn [aH 12 8,av 13 (.cmp .lt (.t 12) (bM 0)),aH 14 13,bE 15 14 false (.mv (.t 1)),bE 16 14 false (.fa 1 (.t 3)),bE 17 14 false (.load 1 false (.t 16)),bE 18 14 false (.mv (.t 8)),bE 19 14 false (.mx (.t 18) (bM 0)),bE 20 14 false (.ia 7 (.t 17) (.t 19)),bE 21 14 false (.fa 5 (.t 20)),bE 22 14 false (.load 1 false (.t 21)),bE 23 14 false (.call false 94 [(.t 15),(.t 22)]),bE 24 14 false (.no (.t 23)),av 25 (.pick (.t 14) eu (.t 24))] [3,6,8,25] (.cond (.t 25) (bn [av 26 (.build [bZ,aW,aW,.dz,aW,aW,aW] []),dB (.store 7 (.t 6) (.t 26)),av 7 (.mv dH)] [6,7] .ret) .skip)) (bn [bU 27 1 3,dn 28 27,aH 29 8,av 30 (.ia 7 (.t 28) (.t 29)),dh 31 7 30,dB (.store 7 (.t 6) (.t 31)),av 7 (.mv eu)] [6,7] .ret))))⟩
def Yu : CF:=⟨3,[(.cell 6 7 true),(.t 7)],[],[],(bn [av 5 (.box 24 (.t 2)),av 6 (.alloc 106 [bZ,aW,aW,.dz,aW,aW,aW]),av 7 (.mv dH)] [0,1,5,6] (.seq (bn [aH 10 0,av 11 (.y7 false (.t 10))] [0,1,5,6,11] (.cond (.t 11) (bn [av 12 (.build [bZ,aW,aW,.dz,aW,aW,aW] []),dB (.store 7 (.t 6) (.t 12)),av 7 (.mv dH)] [6,7] .ret) .skip)) (.seq (.qc [⟨aH 14 0,[180000]⟩,⟨av 15 (.nC (.t 14)),[180000]⟩,⟨bU 16 1 15,[180000]⟩,⟨dn 17 16,[180000]⟩,⟨dh 18 3 5,[180000]⟩,⟨⟨(some 19),none,(.look (.agg [.str,(.int .i64),(.int .i64)]) (.agg [(.str ⟨#[]⟩),(.int .i64 0),(.int .i64 0),(.sl []),(.int .i64 0),(.int .i64 0),(.int .i64 0)]) true (.t 17) (.t 18))⟩,[180000]⟩,⟨aH 13 19,[180000]⟩,⟨av 20 (.ext (.t 13) 0),[180000]⟩,⟨av 21 (.ext (.t 13) 1),[180000]⟩,⟨av 8 (.alloc 106 [bZ,aW,aW,.dz,aW,aW,aW]),[]⟩] [8] [dB (.store 7 (.t 8) (.t 20))] [aH 9 21] [1,6,8,9]) (.seq (bn [aH 22 9,av 23 (.no (.t 22)),aH 24 23,bE 25 24 false (.mv (.t 1)),bE 26 24 false (.fa 5 (.t 8)),bE 27 24 false (.load 1 false (.t 26)),bE 28 24 false (.call false 78 [(.t 25),(.t 27)]),bE 29 24 false (.no (.t 28)),av 30 (.pick (.t 24) eu (.t 29))] [6,8,30] (.cond (.t 30) (bn [av 31 (.build [bZ,aW,aW,.dz,aW,aW,aW] []),dB (.store 7 (.t 6) (.t 31)),av 7 (.mv dH)] [6,7] .ret) .skip)) (bn [dh 32 7 8,av 33 (.call false 79 [(.t 32)]),dB (.store 7 (.t 6) (.t 33)),av 7 (.mv eu)] [6,7] .ret)))))⟩
def c18 : CF:=⟨2,[(.t 4)],[],[],(bn [av 4 (.mv dH)] [0,1] (.seq (bn [aH 6 0,av 7 (.gW (.t 6)),aH 8 1,av 9 (.gW (.t 8)),av 10 (.cmp .ne (.t 7) (.t 9))] [0,1,10] (.cond (.t 10) (bn [av 4 (.mv dH)] [4] .ret) .skip)) (.seq (bn [av 5 (.mv (bM 0))] [0,1,5] (.block 0 (.loop [0,1,5] [20202,40202] [] (.seq (bn [aH 11 5,aH 12 0,av 13 (.gW (.t 12)),av 14 (.cmp .lt (.t 11) (.t 13))] [0,1,5,14] (.cond (.t 14) .skip (.exit 0))) (.seq (.block 1 (.seq (.qc [⟨aH 17 0,[]⟩,⟨aH 18 5,[]⟩,⟨av 19 (.ia 3 (.t 17) (.t 18)),[]⟩,⟨dh 20 3 19,[]⟩,⟨aH 21 1,[]⟩,⟨aH 22 5,[]⟩,⟨av 23 (.ia 3 (.t 21) (.t 22)),[]⟩,⟨dh 24 3 23,[]⟩] [] [] [av 25 (.uK (.agg [.str,(.int .i64),(.int .i64)]) true (.t 20) (.t 24))] [0,1,5,25]) (.cond (.t 25) (bn [av 4 (.mv dH)] [4] .ret) .skip))) (.reg [aH 15 5,av 16 (.ar .add (.t 15) (bM 1)),aH 5 16] [0,1,5])))))) (bn [av 4 (.mv eu)] [4] .ret))))⟩
def c107 : CF:=⟨2,[(.t 4)],[],[],(bn [av 2 (.box 42 (.t 0)),av 3 (.box 42 (.t 1)),av 4 (.mv dH)] [2,3] (bn [bU 5 0 2,dh 6 3 5,bU 7 0 3,dh 8 3 7,av 9 (.uK (.agg [.str,(.int .i64),(.int .i64)]) false (.t 6) (.t 8)),aH 10 9,bE 11 10 true (.fa 4 (.t 2)),bE 12 10 true (.load 1 false (.t 11)),bE 13 10 true (.fa 4 (.t 3)),bE 14 10 true (.load 1 false (.t 13)),bE 15 10 true (.cmp .eq (.t 12) (.t 14)),av 16 (.pick (.t 10) (.t 15) dH),aH 17 16,bE 18 17 true (.fa 3 (.t 2)),bE 19 17 true (.load 1 false (.t 18)),bE 20 17 true (.fa 3 (.t 3)),bE 21 17 true (.load 1 false (.t 20)),bE 22 17 true (.call false 38 [(.t 19),(.t 21)]),av 23 (.pick (.t 17) (.t 22) dH),aH 4 23] [4] .ret))⟩
def Rk : CF:=⟨1,[(.t 2)],[],[],(bn [av 1 (.box 42 (.t 0)),av 2 (.mv dH)] [1] (.seq (bn [av 3 (.mv (bM 0))] [1,3] (.block 0 (.loop [1,3] [20802,40000] [] (.seq (bn [aH 4 3,bU 5 3 1,dn 6 5,av 7 (.gW (.t 6)),av 8 (.cmp .lt (.t 4) (.t 7))] [1,3,8] (.cond (.t 8) .skip (.exit 0))) (.seq (.block 1 (bn [bU 11 3 1,dn 12 11,aH 13 3,av 14 (.ia 1 (.t 12) (.t 13)),dn 15 14,av 16 (.yw (.t 15)),av 17 (.cmp .gt (.t 16) (bM 2000)),aH 18 17,bE 19 18 false (.fa 3 (.t 1)),bE 20 18 false (.load 1 false (.t 19)),bE 21 18 false (.gW (.t 20)),bE 22 18 false (.cmp .gt (.t 21) (bM 60)),av 23 (.pick (.t 18) eu (.t 22))] [1,3,23] (.cond (.t 23) (bn [av 2 (.mv dH)] [2] .ret) .skip))) (.reg [aH 9 3,av 10 (.ar .add (.t 9) (bM 1)),aH 3 10] [1,3])))))) (bn [bU 24 0 1,bU 25 0 24,dn 26 25,av 27 (.yw (.t 26)),av 28 (.cmp .le (.t 27) (bM 300)),aH 2 28] [2] .ret)))⟩
def c91 : CF:=⟨1,[(.t 2)],[],[],(bn [av 2 (.mv dH)] [0] (bn [aH 3 0,av 4 (.cmp .ge (.t 3) (bM 0)),aH 5 4,bE 6 5 true (.mv (.t 0)),bE 7 5 true (.cmp .le (.t 6) (bM 1099511627776)),av 8 (.pick (.t 5) (.t 7) dH),aH 2 8] [2] .ret))⟩
def c92 : CF:=⟨1,[(.t 2)],[],[],(bn [av 1 (.box 42 (.t 0)),av 2 (.mv dH)] [1] (.seq (bn [av 3 (.mv (bM 0))] [1,3] (.block 0 (.loop [1,3] [20802,40000] [] (.seq (bn [aH 5 3,bU 6 3 1,dn 7 6,av 8 (.gW (.t 7)),av 9 (.cmp .lt (.t 5) (.t 8))] [1,3,9] (.cond (.t 9) .skip (.exit 0))) (.seq (.block 1 (bn [bU 12 3 1,dn 13 12,aH 14 3,av 15 (.ia 1 (.t 13) (.t 14)),dn 16 15,aH 4 16] [1,3,4] (bn [bU 17 0 1,bU 18 1 17,dn 19 18,aH 20 4,av 21 (.call false 118 [(.t 19),(.t 20)]),av 22 (.no (.t 21)),aH 23 22,bE 24 23 false (.fa 0 (.t 1)),bE 25 23 false (.fa 1 (.t 24)),bE 26 23 false (.load 1 false (.t 25)),bE 27 23 false (.mv (.t 4)),bE 28 23 false (.call false 119 [(.t 26),(.t 27)]),bE 29 23 false (.mv (.t 4)),bE 30 23 false (.uK (.one .str) true (.t 28) (.t 29)),av 31 (.pick (.t 23) eu (.t 30)),aH 32 31,bE 33 32 false (.fa 3 (.t 1)),bE 34 32 false (.load 1 false (.t 33)),bE 35 32 false (.mv (.t 3)),bE 36 32 false (.cut 1 (.t 34) none (some (.t 35))),bE 37 32 false (.mv (.t 4)),bE 38 32 false (.call false 39 [(.t 36),(.t 37)]),av 39 (.pick (.t 32) eu (.t 38))] [1,3,39] (.cond (.t 39) (bn [av 2 (.mv dH)] [2] .ret) .skip)))) (.reg [aH 10 3,av 11 (.ar .add (.t 10) (bM 1)),aH 3 11] [1,3])))))) (bn [bU 40 0 1,dh 41 3 40,av 42 (.call false 99 [(.t 41)]),aH 43 42,bE 44 43 true (.fa 4 (.t 1)),bE 45 43 true (.load 1 false (.t 44)),bE 46 43 true (.cmp .ge (.t 45) (bM 0)),av 47 (.pick (.t 43) (.t 46) dH),aH 48 47,bE 49 48 true (.fa 4 (.t 1)),bE 50 48 true (.load 1 false (.t 49)),bE 51 48 true (.cmp .lt (.t 50) (bM 2147483648)),av 52 (.pick (.t 48) (.t 51) dH),aH 53 52,bE 54 53 true (.fa 3 (.t 1)),bE 55 53 true (.load 1 false (.t 54)),bE 56 53 true (.gW (.t 55)),bE 57 53 true (.cmp .gt (.t 56) (bM 0)),av 58 (.pick (.t 53) (.t 57) dH),aH 2 58] [2] .ret)))⟩
def c93 : CF:=⟨2,[(.t 4)],[],[],(bn [av 4 (.mv (bM 0))] [0,1] (.seq (bn [aH 5 0,av 6 (.call false 91 [(.t 5)]),av 7 (.no (.t 6)),aH 8 7,bE 9 8 false (.mv (.t 1)),bE 10 8 false (.cmp .lt (.t 9) (bM 0)),av 11 (.pick (.t 8) eu (.t 10))] [0,1,11] (.cond (.t 11) (bn [av 4 (.mv (bM (-1)))] [4] .ret) .skip)) (bn [aH 12 0,aH 13 1,av 14 (.mn (.t 13) (bM 604800)),av 15 (.ar .add (.t 12) (.t 14)),aH 4 15] [4] .ret)))⟩
def c94 : CF:=⟨2,[(.t 4)],[],[],(bn [av 4 (.mv dH)] [0,1] (bn [aH 5 0,av 6 (.call false 91 [(.t 5)]),aH 7 6,bE 8 7 true (.mv (.t 1)),bE 9 7 true (.mv (.t 0)),bE 10 7 true (.cmp .gt (.t 8) (.t 9)),av 11 (.pick (.t 7) (.t 10) dH),aH 4 11] [4] .ret))⟩
def c95 : CF:=⟨2,[(.t 4)],[],[],(bn [av 2 (.box 33 (.t 0)),av 3 (.box 24 (.t 1)),av 4 (.mv (bM 0))] [2,3] (.seq (bn [av 5 (.mv (bM 0))] [2,3,5] (.block 0 (.loop [2,3,5] [20402,60000,80000] [] (.seq (bn [aH 6 5,bU 7 1 2,dn 8 7,av 9 (.gW (.t 8)),av 10 (.cmp .lt (.t 6) (.t 9))] [2,3,5,10] (.cond (.t 10) .skip (.exit 0))) (.seq (.block 1 (.seq (.qc [⟨bU 13 1 2,[]⟩,⟨dn 14 13,[]⟩,⟨aH 15 5,[]⟩,⟨av 16 (.ia 7 (.t 14) (.t 15)),[]⟩,⟨bU 17 0 16,[]⟩,⟨bU 18 0 17,[]⟩,⟨dh 19 3 18,[]⟩,⟨dh 20 3 3,[]⟩] [] [] [av 21 (.uK (.agg [.str,(.int .i64),(.int .i64)]) false (.t 19) (.t 20))] [2,3,5,21]) (.cond (.t 21) (bn [aH 22 5,aH 4 22] [4] .ret) .skip))) (.reg [aH 11 5,av 12 (.ar .add (.t 11) (bM 1)),aH 5 12] [2,3,5])))))) (bn [av 4 (.mv (bM (-1)))] [4] .ret)))⟩
def c96 : CF:=⟨3,[(.t 6)],[],[],(bn [av 6 (.mv dH)] [0,1,2] (.seq (bn [aH 7 2,av 8 (.cmp .lt (.t 7) (bM 1)),aH 9 8,bE 10 9 false (.mv (.t 2)),bE 11 9 false (.cmp .gt (.t 10) (bM 5)),av 12 (.pick (.t 9) eu (.t 11))] [0,1,2,12] (.cond (.t 12) (bn [av 6 (.mv dH)] [6] .ret) .skip)) (bn [aH 13 1,av 14 (.no (.t 13)),aH 15 14,bE 16 15 false (.mv (.t 2)),bE 17 15 false (.mv (.t 0)),bE 18 15 false (.cmp .ge (.t 16) (.t 17)),av 19 (.pick (.t 15) eu (.t 18)),aH 6 19] [6] .ret)))⟩
def c97 : CF:=⟨2,[(.t 4)],[some 7],[],(bn [av 4 (.mv (.k (.one .dz)))] [0,1] (bn [av 5 (.mv (.k (.one .dz)))] [0,1,5] (.seq (bn [av 6 (.mv (bM 0))] [0,1,5,6] (.block 0 (.loop [0,1,5,6] [20202,120000] [⟨5,7⟩] (.seq (bn [aH 7 6,aH 8 0,av 9 (.gW (.t 8)),av 10 (.cmp .lt (.t 7) (.t 9))] [0,1,5,6,10] (.cond (.t 10) .skip (.exit 0))) (.seq (.block 1 (bn [aH 13 6,aH 14 1,av 15 (.cmp .ne (.t 13) (.t 14))] [0,1,5,6,15] (.cond (.t 15) (.reg [aH 16 5,aH 17 0,aH 18 6,av 19 (.ia 7 (.t 17) (.t 18)),dh 20 7 19,av 21 (.tL 135 7 1 [bZ,aW,aW,.dz,aW,aW,aW] [dS 0 7 20]),av 22 (.app 135 7 80 (.t 16) (.t 21)),aH 5 22] [0,1,5,6]) .skip))) (.reg [aH 11 6,av 12 (.ar .add (.t 11) (bM 1)),aH 6 12] [0,1,5,6])))))) (bn [aH 23 5,aH 4 23] [4] .ret))))⟩
def c82 : CF:=⟨2,[(.t 4)],[],[],(bn [av 4 (.mv (bM 0))] [0,1] (.seq (bn [aH 5 0,av 6 (.call false 111 [(.t 5),(bM 1099511627776)]),av 7 (.no (.t 6)),aH 8 7,bE 9 8 false (.mv (.t 1)),bE 10 8 false (.cmp .lt (.t 9) (bM 0)),av 11 (.pick (.t 8) eu (.t 10))] [0,1,11] (.cond (.t 11) (bn [av 4 (.mv (bM (-1)))] [4] .ret) .skip)) (bn [aH 12 0,aH 13 1,av 14 (.mn (.t 13) (bM 604800)),av 15 (.ar .add (.t 12) (.t 14)),aH 4 15] [4] .ret)))⟩
def Yv : CF:=⟨3,[(.t 6)],[],[],(bn [av 5 (.box 106 (.t 2)),av 6 (.mv (bM 0))] [0,1,5] (.seq (bn [aH 9 0,av 10 (.y7 false (.t 9)),aH 11 10,bE 12 11 false (.fa 5 (.t 5)),bE 13 11 false (.load 1 false (.t 12)),bE 14 11 false (.cmp .lt (.t 13) (bM 0)),av 15 (.pick (.t 11) eu (.t 14)),aH 16 15,bE 17 16 false (.fa 0 (.t 5)),bE 18 16 false (.load 5 true (.t 17)),bE 19 16 false (.call false 113 [(.t 18)]),bE 20 16 false (.no (.t 19)),av 21 (.pick (.t 16) eu (.t 20)),aH 22 21,bE 23 22 false (.fa 6 (.t 5)),bE 24 22 false (.load 1 false (.t 23)),bE 25 22 false (.cmp .lt (.t 24) (bM 1)),av 26 (.pick (.t 22) eu (.t 25)),aH 27 26,bE 28 27 false (.fa 6 (.t 5)),bE 29 27 false (.load 1 false (.t 28)),bE 30 27 false (.cmp .gt (.t 29) (bM 5)),av 31 (.pick (.t 27) eu (.t 30))] [0,1,5,31] (.cond (.t 31) (bn [av 6 (.mv (bM 1))] [6] .ret) .skip)) (.seq (bn [aH 32 1,bU 33 5 5,dn 34 33,av 35 (.call false 78 [(.t 32),(.t 34)]),av 36 (.no (.t 35))] [0,1,5,36] (.cond (.t 36) (bn [av 6 (.mv (bM 14))] [6] .ret) .skip)) (.seq (.qc [⟨aH 38 0,[160000]⟩,⟨av 39 (.nC (.t 38)),[160000]⟩,⟨bU 40 1 39,[160000]⟩,⟨dn 41 40,[160000]⟩,⟨bU 42 0 5,[160000]⟩,⟨bU 43 0 42,[160000]⟩,⟨dh 44 3 43,[160000]⟩,⟨⟨(some 45),none,(.look (.agg [.str,(.int .i64),(.int .i64)]) (.agg [(.str ⟨#[]⟩),(.int .i64 0),(.int .i64 0),(.sl []),(.int .i64 0),(.int .i64 0),(.int .i64 0)]) true (.t 41) (.t 44))⟩,[160000]⟩,⟨aH 37 45,[160000]⟩,⟨av 46 (.ext (.t 37) 0),[160000]⟩,⟨av 47 (.ext (.t 37) 1),[160000]⟩,⟨av 7 (.alloc 106 [bZ,aW,aW,.dz,aW,aW,aW]),[]⟩] [10] [dB (.store 7 (.t 7) (.t 46))] [aH 8 47] [1,5,7,8]) (.seq (.seq (.qc [⟨aH 48 8,[]⟩,⟨aH 49 48,[]⟩,⟨bE 50 49 true (.fa 6 (.t 7)),[]⟩,⟨bE 51 49 true (.load 1 false (.t 50)),[]⟩,⟨bE 52 49 true (.mv (.t 1)),[]⟩,⟨bE 53 49 true (.fa 5 (.t 7)),[]⟩,⟨bE 54 49 true (.load 1 false (.t 53)),[]⟩,⟨bE 55 49 true (.call false 78 [(.t 52),(.t 54)]),[]⟩,⟨bE 56 49 true (.fa 6 (.t 5)),[]⟩,⟨bE 57 49 true (.load 1 false (.t 56)),[]⟩] [] [] [bE 58 49 true (.call false 114 [(.t 51),(.t 55),(.t 57)]),bE 59 49 true (.no (.t 58)),av 60 (.pick (.t 49) (.t 59) dH)] [60]) (.cond (.t 60) (bn [av 6 (.mv (bM 10))] [6] .ret) .skip)) (bn [av 6 (.mv (bM 0))] [6] .ret))))))⟩
def c79 : CF:=⟨1,[(.cell 2 7 true)],[],[],(bn [av 1 (.box 106 (.t 0)),av 2 (.alloc 106 [bZ,aW,aW,.dz,aW,aW,aW])] [1,2] (bn [bU 3 0 1,bU 4 3 3,dn 5 4,av 6 (.call false 72 [(.t 5)]),bU 7 0 1,bU 8 3 7,dB (.store 1 (.t 8) (.t 6))] [1,2] (bn [dh 9 7 1,dB (.store 7 (.t 2) (.t 9))] [2] .ret)))⟩
def c85 : CF:=⟨2,[(.t 4),(.t 5)],[],[],(bn [av 4 (.mv (.k (.one .dz))),av 5 (.mv (.k (.one .dz)))] [0,1] (bn [aH 7 0,av 8 (.gW (.t 7)),aH 9 1,aH 10 0,av 11 (.gW (.t 10)),av 12 (.mn (.t 9) (.t 11)),av 13 (.mx (.t 12) (bM 0)),av 14 (.ar .sub (.t 8) (.t 13)),aH 6 14] [0,6] (.seq (.qc [⟨aH 15 0,[]⟩,⟨aH 16 6,[]⟩,⟨av 17 (.cut 3 (.t 15) (some (.t 16)) none),[]⟩,⟨av 18 (.call false 115 [(.t 17)]),[]⟩,⟨aH 19 0,[]⟩,⟨aH 20 6,[]⟩,⟨av 21 (.cut 3 (.t 19) none (some (.t 20))),[]⟩] [] [] [av 22 (.call false 115 [(.t 21)]),aH 4 18,aH 5 22] [4,5]) .ret)))⟩
def c86 : CF:=⟨2,[(.t 4)],[],[],(bn [av 3 (.box 24 (.t 1)),av 4 (.mv (.k (.one .dz)))] [0,3] (.seq (.qc [⟨aH 5 0,[160000,200000]⟩,⟨dh 6 3 3,[160000,200000]⟩,⟨av 7 (.Bd 116 [(.t 5),(.t 6)]),[200000]⟩,⟨dh 8 3 3,[160000,200000]⟩,⟨av 9 (.tL 24 3 1 [bZ,aW,aW] [dS 0 3 8]),[160000]⟩] [] [] [av 10 (.app 24 3 32 (.t 7) (.t 9)),aH 4 10] [4]) .ret))⟩
def c78 : CF:=⟨2,[(.t 4)],[],[],(bn [av 4 (.mv dH)] [0,1] (bn [aH 5 0,av 6 (.call false 111 [(.t 5),(bM 1099511627776)]),aH 7 6,bE 8 7 true (.mv (.t 0)),bE 9 7 true (.mv (.t 1)),bE 10 7 true (.cmp .lt (.t 8) (.t 9)),av 11 (.pick (.t 7) (.t 10) dH),aH 4 11] [4] .ret))⟩
def c116 : CF:=⟨2,[(.t 4)],[some 3],[],(bn [av 3 (.box 24 (.t 1)),av 4 (.mv (.k (.one .dz)))] [0,3] (bn [aH 5 0,av 6 (.call false 115 [(.t 5)]),av 7 (.WW 135 [(.t 3)]),av 8 (.call true 134 [(.t 6),(.t 7)]),aH 4 8] [4] .ret))⟩
def FT : CF:=⟨2,[(.t 4)],[],[],(bn [av 4 (.mv dH)] [0,1] (.seq (bn [aH 6 0,av 7 (.gW (.t 6)),aH 8 1,av 9 (.gW (.t 8)),av 10 (.cmp .ne (.t 7) (.t 9))] [0,1,10] (.cond (.t 10) (bn [av 4 (.mv dH)] [4] .ret) .skip)) (.seq (bn [av 5 (.mv (bM 0))] [0,1,5] (.block 0 (.loop [0,1,5] [20202,40202] [] (.seq (bn [aH 11 5,aH 12 0,av 13 (.gW (.t 12)),av 14 (.cmp .lt (.t 11) (.t 13))] [0,1,5,14] (.cond (.t 14) .skip (.exit 0))) (.seq (.block 1 (.seq (.qc [⟨aH 17 0,[]⟩,⟨aH 18 5,[]⟩,⟨av 19 (.ia 1 (.t 17) (.t 18)),[]⟩,⟨dn 20 19,[]⟩,⟨aH 21 1,[]⟩,⟨aH 22 5,[]⟩,⟨av 23 (.ia 1 (.t 21) (.t 22)),[]⟩,⟨dn 24 23,[]⟩] [] [] [av 25 (.uK (.one .str) true (.t 20) (.t 24))] [0,1,5,25]) (.cond (.t 25) (bn [av 4 (.mv dH)] [4] .ret) .skip))) (.reg [aH 15 5,av 16 (.ar .add (.t 15) (bM 1)),aH 5 16] [0,1,5])))))) (bn [av 4 (.mv eu)] [4] .ret))))⟩
def Sw : CF:=⟨1,[(.t 2)],[],[],(bn [av 1 (.box 42 (.t 0)),av 2 (.mv dH)] [1] (bn [bU 6 0 1,dh 7 3 6,av 3 (.alloc 24 [bZ,aW,aW]),dB (.store 3 (.t 3) (.t 7))] [1,3] (.seq (.seq (.qc [⟨bU 8 0 3,[]⟩,⟨dn 9 8,[]⟩,⟨av 10 (.call false 109 [(.t 9)]),[]⟩,⟨av 11 (.no (.t 10)),[]⟩,⟨aH 12 11,[]⟩,⟨bE 13 12 false (.fa 0 (.t 3)),[]⟩,⟨bE 14 12 false (.load 1 false (.t 13)),[]⟩,⟨bE 15 12 false (.call false 68 [(.t 14)]),[]⟩,⟨bE 16 12 false (.fa 0 (.t 3)),[]⟩,⟨bE 17 12 false (.load 1 false (.t 16)),[]⟩] [] [] [bE 18 12 false (.uK (.one .str) true (.t 15) (.t 17)),av 19 (.pick (.t 12) eu (.t 18)),aH 20 19,bE 21 20 false (.fa 1 (.t 3)),bE 22 20 false (.load 1 false (.t 21)),bE 23 20 false (.call false 131 [(.t 22),(bM 65535)]),bE 24 20 false (.no (.t 23)),av 25 (.pick (.t 20) eu (.t 24)),aH 26 25,bE 27 26 false (.fa 2 (.t 3)),bE 28 26 false (.load 1 false (.t 27)),bE 29 26 false (.call false 131 [(.t 28),(bM 65535)]),bE 30 26 false (.no (.t 29)),av 31 (.pick (.t 26) eu (.t 30)),aH 32 31,bE 33 32 false (.fa 4 (.t 1)),bE 34 32 false (.load 1 false (.t 33)),bE 35 32 false (.call false 131 [(.t 34),(bM 2147483647)]),bE 36 32 false (.no (.t 35)),av 37 (.pick (.t 32) eu (.t 36))] [1,3,37]) (.cond (.t 37) (bn [av 2 (.mv dH)] [2] .ret) .skip)) (.seq (bn [bU 38 3 1,dn 39 38,av 40 (.gW (.t 39)),av 41 (.mv (bM 0))] [1,3,39,40,41] (.block 0 (.loop [1,3,39,40,41] [20802,40000,80000] [] (bn [av 42 (.cmp .lt (.t 41) (.t 40))] [1,3,39,40,41,42] (.seq (.cond (.t 42) .skip (.exit 0)) (.seq (.block 1 (bn [aH 43 41,av 44 (.ia 1 (.t 39) (.t 41)),dn 45 44,aH 4 43,aH 5 45] [1,3,4,5,39,40,41] (bn [bU 46 1 3,dn 47 46,aH 48 5,av 49 (.call false 128 [(.t 47),(.t 48)]),av 50 (.no (.t 49)),aH 51 50,bE 52 51 false (.fa 1 (.t 3)),bE 53 51 false (.load 1 false (.t 52)),bE 54 51 false (.mv (.t 5)),bE 55 51 false (.call false 132 [(.t 53),(.t 54)]),bE 56 51 false (.mv (.t 5)),bE 57 51 false (.uK (.one .str) true (.t 55) (.t 56)),av 58 (.pick (.t 51) eu (.t 57)),aH 59 58,bE 60 59 false (.fa 3 (.t 1)),bE 61 59 false (.load 1 false (.t 60)),bE 62 59 false (.mv (.t 4)),bE 63 59 false (.cut 1 (.t 61) none (some (.t 62))),bE 64 59 false (.mv (.t 5)),bE 65 59 false (.call false 133 [(.t 63),(.t 64)]),av 66 (.pick (.t 59) eu (.t 65))] [1,3,39,40,41,66] (.cond (.t 66) (bn [av 2 (.mv dH)] [2] .ret) .skip)))) (.reg [av 67 (.ar .add (.t 41) (bM 1)),aH 41 67] [1,3,39,40,41]))))))) (bn [bU 68 3 1,dn 69 68,av 70 (.gW (.t 69)),av 71 (.cmp .gt (.t 70) (bM 0)),aH 2 71] [2] .ret)))))⟩
def c99 : CF:=⟨1,[(.t 2)],[],[],(bn [av 1 (.box 24 (.t 0)),av 2 (.mv dH)] [1] (.seq (.qc [⟨bU 3 0 1,[]⟩,⟨dn 4 3,[]⟩,⟨av 5 (.call false 42 [(.t 4)]),[]⟩,⟨aH 6 5,[]⟩,⟨bE 7 6 true (.fa 0 (.t 1)),[]⟩,⟨bE 8 6 true (.load 1 false (.t 7)),[]⟩,⟨bE 9 6 true (.call false 41 [(.t 8)]),[]⟩,⟨bE 10 6 true (.fa 0 (.t 1)),[]⟩,⟨bE 11 6 true (.load 1 false (.t 10)),[]⟩] [] [] [bE 12 6 true (.uK (.one .str) false (.t 9) (.t 11)),av 13 (.pick (.t 6) (.t 12) dH),aH 14 13,bE 15 14 true (.fa 1 (.t 1)),bE 16 14 true (.load 1 false (.t 15)),bE 17 14 true (.call false 121 [(.t 16)]),av 18 (.pick (.t 14) (.t 17) dH),aH 19 18,bE 20 19 true (.fa 2 (.t 1)),bE 21 19 true (.load 1 false (.t 20)),bE 22 19 true (.call false 121 [(.t 21)]),av 23 (.pick (.t 19) (.t 22) dH),aH 2 23] [2]) .ret))⟩
def Rm : CF:=⟨2,[(.t 4)],[],[],(bn [av 4 (.mv dH)] [0,1] (.seq (bn [av 5 (.mv (bM 0))] [0,1,5] (.block 0 (.loop [0,1,5] [20202] [] (.seq (bn [aH 6 5,aH 7 0,av 8 (.gW (.t 7)),av 9 (.cmp .lt (.t 6) (.t 8))] [0,1,5,9] (.cond (.t 9) .skip (.exit 0))) (.seq (.block 1 (bn [aH 12 0,aH 13 5,av 14 (.ia 1 (.t 12) (.t 13)),dn 15 14,aH 16 1,av 17 (.uK (.one .str) false (.t 15) (.t 16))] [0,1,5,17] (.cond (.t 17) (bn [av 4 (.mv eu)] [4] .ret) .skip))) (.reg [aH 10 5,av 11 (.ar .add (.t 10) (bM 1)),aH 5 11] [0,1,5])))))) (bn [av 4 (.mv dH)] [4] .ret)))⟩
def Sy : CF:=⟨2,[(.t 4)],[],[],(bn [av 4 (.mv dH)] [0,1] (bn [aH 5 0,av 6 (.cmp .ge (.t 5) (bM 0)),aH 7 6,bE 8 7 true (.mv (.t 0)),bE 9 7 true (.mv (.t 1)),bE 10 7 true (.cmp .le (.t 8) (.t 9)),av 11 (.pick (.t 7) (.t 10) dH),aH 4 11] [4] .ret))⟩
def Sz : CF:=⟨3,[(.t 6)],[],[],(bn [av 6 (.mv dH)] [0,1,2] (bn [aH 7 2,av 8 (.call false 122 [(.t 7),(bM 1)]),aH 9 8,bE 10 9 true (.mv (.t 1)),bE 11 9 true (.no (.t 10)),bE 12 9 true (.mv (.t 11)),bE 13 12 false (.mv (.t 2)),bE 14 12 false (.mv (.t 0)),bE 15 12 false (.cmp .ge (.t 13) (.t 14)),bE 16 9 true (.pick (.t 12) eu (.t 15)),av 17 (.pick (.t 9) (.t 16) dH),aH 6 17] [6] .ret))⟩
def SA : CF:=⟨2,[(.t 4)],[some 3],[],(bn [av 4 (.mv (.k (.one .dz)))] [0,1] (bn [aH 8 0,aH 9 1,av 10 (.call false 149 [(.t 8),(.t 9)]),aH 5 10] [0,1,5] (.seq (bn [aH 11 5,av 12 (.cmp .eq (.t 11) (bM (-1)))] [0,1,5,12] (.cond (.t 12) (bn [aH 13 0,aH 4 13] [4] .ret) .skip)) (.seq (bn [aH 14 5,av 15 (.ar .add (.t 14) (bM 1)),aH 6 15] [0,1,5,6] (.block 0 (.loop [0,1,5,6] [20202] [] (.seq (bn [aH 16 6,aH 17 0,av 18 (.gW (.t 17)),av 19 (.cmp .lt (.t 16) (.t 18))] [0,1,5,6,19] (.cond (.t 19) .skip (.exit 0))) (.seq (.block 1 (bn [aH 22 0,aH 23 6,av 24 (.ia 3 (.t 22) (.t 23)),dh 25 3 24,av 7 (.alloc 24 [bZ,aW,aW]),dB (.store 3 (.t 7) (.t 25))] [0,1,5,6,7] (bn [aH 26 1,dh 27 3 7,av 28 (.dyn (.t 26) [(.t 27)]),av 29 (.no (.t 28))] [0,1,5,6,7,29] (.cond (.t 29) (bn [aH 30 0,aH 31 5,dh 32 3 7,av 33 (.ia 3 (.t 30) (.t 31)),dB (.store 3 (.t 33) (.t 32))] [0,1,5,6] (.reg [aH 34 5,av 35 (.ar .add (.t 34) (bM 1)),aH 5 35] [0,1,5,6])) .skip)))) (.reg [aH 20 6,av 21 (.ar .add (.t 20) (bM 1)),aH 6 21] [0,1,5,6])))))) (bn [aH 36 0,aH 37 5,av 38 (.cutV 3 (.t 36) (.t 37)),⟨none,none,(.Vm 3 [(.str ⟨#[]⟩),(.int .i64 0),(.int .i64 0)] (.t 38))⟩] [0,5] (bn [aH 39 0,aH 40 5,av 41 (.H8 3 (.t 39) (.t 40)),aH 4 41] [4] .ret))))))⟩
def SB : CF:=⟨2,[(.t 3)],[none],[],(bn [av 2 (.box 24 (.t 0)),av 3 (.mv dH)] [1,2] (bn [dh 4 3 2,dh 5 3 1,av 6 (.uK (.agg [.str,(.int .i64),(.int .i64)]) false (.t 4) (.t 5)),aH 3 6] [3] .ret))⟩
def c131 : CF:=⟨2,[(.t 4)],[],[],(bn [av 4 (.mv dH)] [0,1] (bn [aH 5 0,av 6 (.cmp .ge (.t 5) (bM 0)),aH 7 6,bE 8 7 true (.mv (.t 0)),bE 9 7 true (.mv (.t 1)),bE 10 7 true (.cmp .le (.t 8) (.t 9)),av 11 (.pick (.t 7) (.t 10) dH),aH 4 11] [4] .ret))⟩
def SC : CF:=⟨2,[(.t 4)],[],[],(bn [av 4 (.mv dH)] [0,1] (bn [aH 5 0,aH 6 1,av 7 (.call false 148 [(.t 5),(.t 6)]),av 8 (.cmp .ge (.t 7) (bM 0)),aH 4 8] [4] .ret))⟩
def SE : CF:=⟨1,[(.t 2)],[],[],(bn [av 2 (.mv dH)] [0] (bn [aH 3 0,av 4 (.cmp .ge (.t 3) (bM 0)),aH 5 4,bE 6 5 true (.mv (.t 0)),bE 7 5 true (.cmp .le (.t 6) (bM 65535)),av 8 (.pick (.t 5) (.t 7) dH),aH 2 8] [2] .ret))⟩
def SF : CF:=⟨2,[(.t 4)],[],[],(bn [av 4 (.mv dH)] [0,1] (bn [aH 5 0,aH 6 1,av 7 (.cmp .ge (.t 5) (.t 6)),aH 8 7,bE 9 8 true (.mv (.t 0)),bE 10 8 true (.cmp .le (.t 9) (bM 5)),av 11 (.pick (.t 8) (.t 10) dH),aH 4 11] [4] .ret))⟩
def SG : CF:=⟨2,[(.t 4)],[],[],(bn [av 4 (.mv (bM 0))] [0,1] (.seq (bn [aH 6 0,av 7 (.gW (.t 6)),av 8 (.mv (bM 0))] [0,1,7,8] (.block 0 (.loop [0,1,7,8] [20202] [] (bn [av 9 (.cmp .lt (.t 8) (.t 7))] [0,1,7,8,9] (.seq (.cond (.t 9) .skip (.exit 0)) (.seq (.block 1 (bn [aH 10 8,aH 5 10] [0,1,5,7,8] (bn [aH 11 1,aH 12 0,aH 13 5,av 14 (.ia 3 (.t 12) (.t 13)),dh 15 3 14,av 16 (.dyn (.t 11) [(.t 15)])] [0,1,5,7,8,16] (.cond (.t 16) (bn [aH 17 5,aH 4 17] [4] .ret) .skip)))) (.reg [av 18 (.ar .add (.t 8) (bM 1)),aH 8 18] [0,1,7,8]))))))) (bn [av 4 (.mv (bM (-1)))] [4] .ret)))⟩
def c148 : CF:=⟨2,[(.t 4)],[],[],(bn [av 4 (.mv (bM 0))] [0,1] (.seq (bn [aH 6 0,av 7 (.gW (.t 6)),av 8 (.mv (bM 0))] [0,1,7,8] (.block 0 (.loop [0,1,7,8] [20202] [] (bn [av 9 (.cmp .lt (.t 8) (.t 7))] [0,1,7,8,9] (.seq (.cond (.t 9) .skip (.exit 0)) (.seq (.block 1 (bn [aH 10 8,aH 5 10] [0,1,5,7,8] (bn [aH 11 1,aH 12 0,aH 13 5,av 14 (.ia 1 (.t 12) (.t 13)),dn 15 14,av 16 (.uK (.one .str) false (.t 11) (.t 15))] [0,1,5,7,8,16] (.cond (.t 16) (bn [aH 17 5,aH 4 17] [4] .ret) .skip)))) (.reg [av 18 (.ar .add (.t 8) (bM 1)),aH 8 18] [0,1,7,8]))))))) (bn [av 4 (.mv (bM (-1)))] [4] .ret)))⟩
def c49 : CF:=⟨1,[(.t 2)],[],[],(bn [av 2 (.mv (.k (.one .iW)))] [0] (.seq (bn [aH 3 0,av 4 (.cmp .lt (.t 3) (bM 1)),aH 5 4,bE 6 5 false (.mv (.t 0)),bE 7 5 false (.cmp .gt (.t 6) (bM 1000)),av 8 (.pick (.t 5) eu (.t 7))] [0,8] (.cond (.t 8) (bn [av 2 (.mv (.k (.one .iW)))] [2] .ret) .skip)) (bn [aH 9 0,av 10 (.qR (.agg [.str,(.int .i64),(.int .i64)])),av 11 (.build [aW,.gu,.dz,aW] [dS 0 1 9,dS 1 1 10]),av 12 (.box 169 (.t 11)),aH 2 12] [2] .ret)))⟩
def c53 : CF:=⟨1,[(.cell 2 3 true)],[],[],(bn [av 2 (.alloc 36 [aW,.dz,aW])] [0,2] (.seq (bn [aH 3 0,av 4 (.cmp .lt (.t 3) (bM 1)),aH 5 4,bE 6 5 false (.mv (.t 0)),bE 7 5 false (.cmp .gt (.t 6) (bM 1000)),av 8 (.pick (.t 5) eu (.t 7))] [0,2,8] (.cond (.t 8) (bn [av 9 (.build [aW,.dz,aW] []),dB (.store 3 (.t 2) (.t 9))] [2] .ret) .skip)) (bn [aH 10 0,av 11 (.build [aW,.dz,aW] [dS 0 1 10]),dB (.store 3 (.t 2) (.t 11))] [2] .ret)))⟩
def c87 : CF:=⟨1,[(.t 2),(.t 3)],[],[],(bn [av 1 (.box 42 (.t 0)),av 2 (.mv (bM 0)),av 3 (.mv dH)] [1] (.seq (bn [bU 7 0 1,bU 8 1 7,dn 9 8,av 10 (.cmp .ne (.t 9) (bM 6)),aH 11 10,bE 12 11 false (.load 5 true (.t 1)),bE 13 11 false (.call false 113 [(.t 12)]),bE 14 11 false (.no (.t 13)),av 15 (.pick (.t 11) eu (.t 14))] [1,15] (.cond (.t 15) (bn [av 2 (.mv (bM 0)),av 3 (.mv dH)] [2,3] .ret) .skip)) (bn [bU 16 3 1,dn 17 16,av 18 (.ia 1 (.t 17) (bM 0)),dn 19 18,aH 4 19] [1,4] (bn [aH 21 4,aH 22 4,av 23 (.yw (.t 22)),av 24 (.ar .sub (.t 23) (bM 4)),av 25 (.call false 117 [(.t 21),(.t 24),(bM 4)]),aH 20 25,av 26 (.ext (.t 20) 0),av 27 (.ext (.t 20) 1),aH 5 26,aH 6 27] [1,5] (bn [aH 28 5,bU 29 4 1,dn 30 29,av 31 (.mn (.t 28) (.t 30)),aH 2 31,av 3 (.mv eu)] [2,3] .ret)))))⟩
def c98 : CF:=⟨1,[(.t 2),(.t 3)],[],[],(bn [av 1 (.box 42 (.t 0)),av 2 (.mv (bM 0)),av 3 (.mv dH)] [1] (.seq (bn [dh 7 5 1,av 8 (.call false 92 [(.t 7)]),av 9 (.no (.t 8)),aH 10 9,bE 11 10 false (.fa 0 (.t 1)),bE 12 10 false (.fa 1 (.t 11)),bE 13 10 false (.load 1 false (.t 12)),bE 14 10 false (.cmp .ne (.t 13) (bM 6)),av 15 (.pick (.t 10) eu (.t 14))] [1,15] (.cond (.t 15) (bn [av 2 (.mv (bM 0)),av 3 (.mv dH)] [2,3] .ret) .skip)) (bn [bU 16 3 1,dn 17 16,av 18 (.ia 1 (.t 17) (bM 0)),dn 19 18,aH 4 19] [1,4] (bn [aH 21 4,aH 22 4,av 23 (.yw (.t 22)),av 24 (.ar .sub (.t 23) (bM 4)),av 25 (.call false 120 [(.t 21),(.t 24),(bM 4)]),aH 20 25,av 26 (.ext (.t 20) 0),av 27 (.ext (.t 20) 1),aH 5 26,aH 6 27] [1,5] (bn [aH 28 5,bU 29 4 1,dn 30 29,av 31 (.mn (.t 28) (.t 30)),aH 2 31,av 3 (.mv eu)] [2,3] .ret)))))⟩
def c55 : CF:=⟨5,[(.cell 10 3 true),(.t 11)],[],[],(bn [av 5 (.box 36 (.t 0)),av 7 (.box 24 (.t 2)),av 9 (.box 42 (.t 4)),av 10 (.alloc 36 [aW,.dz,aW]),av 11 (.mv (bM 0))] [1,3,5,7,9,10] (bn [dh 17 5 9,av 18 (.call false 98 [(.t 17)]),aH 16 18,av 19 (.ext (.t 16) 0),av 20 (.ext (.t 16) 1),aH 12 19,aH 13 20] [1,3,5,7,9,10,12,13] (.seq (bn [bU 21 0 5,dn 22 21,av 23 (.cmp .eq (.t 22) (bM 0)),aH 24 23,bE 25 24 false (.mv (.t 1)),bE 26 24 false (.call false 91 [(.t 25)]),bE 27 24 false (.no (.t 26)),av 28 (.pick (.t 24) eu (.t 27)),aH 29 28,bE 30 29 false (.mv (.t 13)),bE 31 29 false (.no (.t 30)),av 32 (.pick (.t 29) eu (.t 31)),aH 33 32,bE 34 33 false (.load 3 true (.t 7)),bE 35 33 false (.call false 99 [(.t 34)]),bE 36 33 false (.no (.t 35)),av 37 (.pick (.t 33) eu (.t 36)),aH 38 37,bE 39 38 false (.fa 1 (.t 7)),bE 40 38 false (.load 1 false (.t 39)),bE 41 38 false (.cmp .eq (.t 40) (bM 0)),av 42 (.pick (.t 38) eu (.t 41))] [1,3,5,7,9,10,12,42] (.cond (.t 42) (bn [dh 43 3 5,dB (.store 3 (.t 10) (.t 43)),av 11 (.mv (bM 1))] [10,11] .ret) .skip)) (bn [aH 44 1,aH 45 12,av 46 (.call false 93 [(.t 44),(.t 45)]),aH 14 46] [1,3,5,7,9,10,14] (.seq (bn [aH 47 1,aH 48 14,av 49 (.call false 94 [(.t 47),(.t 48)]),av 50 (.no (.t 49))] [3,5,7,9,10,14,50] (.cond (.t 50) (bn [dh 51 3 5,dB (.store 3 (.t 10) (.t 51)),av 11 (.mv (bM 14))] [10,11] .ret) .skip)) (.seq (bn [aH 52 3] [3,5,7,9,10,14,52] (.cond (.t 52) (.reg [bU 53 1 7,dB (.store 1 (.t 53) (bM 0))] [3,5,7,9,10,14]) .skip)) (bn [bU 54 1 5,dn 55 54,dh 56 3 7,av 57 (.call false 100 [(.t 55),(.t 56)]),aH 15 57] [3,5,7,9,10,14,15] (bn [aH 58 15,dh 59 3 7,aH 60 3,dh 61 5 9,aH 62 14,av 63 (.build [bZ,aW,aW,(.f (.bool false)),bZ,aW,aW,.dz,aW,aW] [dS 0 3 59,dS 3 1 60,dS 4 5 61,dS 9 1 62]),av 64 (.tL 140 10 1 [bZ,aW,aW,(.f (.bool false)),bZ,aW,aW,.dz,aW,aW] [dS 0 10 63]),av 65 (.app 140 10 112 (.t 58) (.t 64)),aH 15 65] [5,10,15] (.seq (bn [aH 66 15,av 67 (.gW (.t 66)),bU 68 0 5,dn 69 68,av 70 (.cmp .gt (.t 67) (.t 69))] [5,10,15,70] (.cond (.t 70) (.reg [aH 71 15,av 72 (.cut 10 (.t 71) (some (bM 1)) none),aH 15 72] [5,10,15]) .skip)) (bn [aH 73 15,bU 74 1 5,dB (.store 1 (.t 74) (.t 73))] [5,10] (bn [bU 75 2 5,dn 76 75,av 77 (.ar .add (.t 76) (bM 1)),bU 78 2 5,dB (.store 1 (.t 78) (.t 77))] [5,10] (bn [dh 79 3 5,dB (.store 3 (.t 10) (.t 79)),av 11 (.mv (bM 0))] [10,11] .ret))))))))))))⟩
def c51 : CF:=⟨5,[(.t 10)],[],[],(bn [av 7 (.box 24 (.t 2)),av 9 (.box 42 (.t 4)),av 10 (.mv (bM 0))] [0,1,3,7,9] (bn [dh 19 5 9,av 20 (.call false 87 [(.t 19)]),aH 18 20,av 21 (.ext (.t 18) 0),av 22 (.ext (.t 18) 1),aH 11 21,aH 12 22] [0,1,3,7,9,11,12] (bn [aH 23 1,aH 24 11,av 25 (.call false 82 [(.t 23),(.t 24)]),aH 13 25] [0,1,3,7,9,12,13] (.seq (.block 0 (bn [aH 27 0,av 28 (.y7 false (.t 27)),aH 29 28,bE 30 29 false (.mv (.t 12)),bE 31 29 false (.no (.t 30)),av 32 (.pick (.t 29) eu (.t 31)),aH 33 32,bE 34 33 false (.mv (.t 13)),bE 35 33 false (.cmp .eq (.t 34) (bM (-1))),av 36 (.pick (.t 33) eu (.t 35)),aH 37 36,bE 38 37 false (.load 3 true (.t 7)),bE 39 37 false (.call false 88 [(.t 38)]),bE 40 37 false (.no (.t 39)),av 41 (.pick (.t 37) eu (.t 40)),aH 26 41] [0,1,3,7,9,13,26] (.cond (.t 26) (bn [av 10 (.mv (bM 1))] [10] .ret) (bn [aH 43 1,aH 44 13,av 45 (.call false 78 [(.t 43),(.t 44)]),av 46 (.no (.t 45)),aH 42 46] [0,3,7,9,13,42] (.cond (.t 42) (bn [av 10 (.mv (bM 14))] [10] .ret) .skip))))) (.seq (bn [aH 47 3] [0,3,7,9,13,47] (.cond (.t 47) (.reg [dh 48 3 7,av 49 (.call false 89 [(.t 48)]),dB (.store 3 (.t 7) (.t 49))] [0,3,7,9,13]) .skip)) (.seq (.qc [⟨aH 50 0,[]⟩,⟨av 51 (.nC (.t 50)),[]⟩,⟨bU 52 1 51,[]⟩,⟨dn 53 52,[]⟩,⟨dh 54 3 7,[]⟩,⟨dh 55 3 7,[]⟩,⟨aH 56 3,[]⟩,⟨dh 57 5 9,[]⟩,⟨aH 58 13,[]⟩,⟨av 59 (.build [bZ,aW,aW,(.f (.bool false)),bZ,aW,aW,.dz,aW,aW] [dS 0 3 55,dS 3 1 56,dS 4 5 57,dS 9 1 58]),[]⟩,⟨av 60 (.call false 90 [(.t 59)]),[]⟩] [] [] [dB (.y8 (.agg [.str,(.int .i64),(.int .i64)]) (.t 53) (.t 54) (.t 60))] [0,7]) (.seq (.qc [⟨aH 62 0,[]⟩,⟨av 63 (.nC (.t 62)),[]⟩,⟨bU 64 2 63,[]⟩,⟨dn 65 64,[]⟩,⟨dh 66 3 7,[]⟩,⟨av 67 (.call false 86 [(.t 65),(.t 66)]),[]⟩,⟨aH 68 0,[]⟩,⟨av 69 (.nC (.t 68)),[]⟩,⟨bU 70 0 69,[]⟩,⟨dn 71 70,[]⟩,⟨av 72 (.call false 85 [(.t 67),(.t 71)]),[]⟩,⟨aH 61 72,[]⟩,⟨av 73 (.ext (.t 61) 0),[]⟩,⟨av 74 (.ext (.t 61) 1),[]⟩,⟨aH 14 73,[]⟩] [] [] [aH 15 74] [0,14,15]) (.seq (bn [aH 75 15,av 76 (.gW (.t 75)),av 77 (.mv (bM 0))] [0,14,75,76,77] (.block 1 (.loop [0,14,75,76,77] [20201,20205,20208,1460200,1462200] [] (bn [av 78 (.cmp .lt (.t 77) (.t 76))] [0,14,75,76,77,78] (.seq (.cond (.t 78) .skip (.exit 1)) (.seq (.block 2 (bn [av 79 (.ia 3 (.t 75) (.t 77)),dh 80 3 79,av 17 (.alloc 24 [bZ,aW,aW]),dB (.store 3 (.t 17) (.t 80))] [0,14,17,75,76,77] (.qc [⟨aH 81 0,[]⟩,⟨av 82 (.nC (.t 81)),[]⟩,⟨bU 83 1 82,[]⟩,⟨dn 84 83,[]⟩,⟨dh 85 3 17,[]⟩] [] [] [dB (.del (.agg [.str,(.int .i64),(.int .i64)]) (.t 84) (.t 85))] [0,14,75,76,77]))) (.reg [av 86 (.ar .add (.t 77) (bM 1)),aH 77 86] [0,14,75,76,77]))))))) (bn [aH 87 0,aH 88 14,av 89 (.nC (.t 87)),bU 90 2 89,dB (.store 1 (.t 90) (.t 88))] [0] (bn [aH 91 0,av 92 (.nC (.t 91)),bU 93 3 92,dn 94 93,av 95 (.ar .add (.t 94) (bM 1)),av 96 (.nC (.t 91)),bU 97 3 96,dB (.store 1 (.t 97) (.t 95))] [] (bn [av 10 (.mv (bM 0))] [10] .ret)))))))))))⟩
def c62 : CF:=⟨3,[(.cell 6 10 true),(.t 7)],[],[],(bn [av 3 (.box 36 (.t 0)),av 5 (.box 24 (.t 2)),av 6 (.alloc 140 [bZ,aW,aW,(.f (.bool false)),bZ,aW,aW,.dz,aW,aW]),av 7 (.mv dH)] [1,3,5,6] (bn [dh 11 3 3,aH 12 1,bU 13 0 5,dn 14 13,bU 15 2 5,dn 16 15,av 17 (.build [bZ,aW,aW] [dS 0 1 14,dS 2 1 16]),av 18 (.call false 106 [(.t 11),(.t 12),(.t 17)]),aH 10 18,av 19 (.ext (.t 10) 0),av 20 (.ext (.t 10) 1),av 8 (.alloc 140 [bZ,aW,aW,(.f (.bool false)),bZ,aW,aW,.dz,aW,aW]),dB (.store 10 (.t 8) (.t 19)),aH 9 20] [1,3,5,6,8,9] (.seq (bn [aH 21 9] [1,3,5,6,8,21] (.cond (.t 21) (bn [dh 22 10 8,dB (.store 10 (.t 6) (.t 22)),av 7 (.mv eu)] [6,7] .ret) .skip)) (bn [dh 23 3 3,aH 24 1,dh 25 3 5,av 26 (.call false 106 [(.t 23),(.t 24),(.t 25)]),av 27 (.ext (.t 26) 0),av 28 (.ext (.t 26) 1),dB (.store 10 (.t 6) (.t 27)),aH 7 28] [6,7] .ret))))⟩
def LJ : CF:=⟨3,[(.cell 6 10 true),(.t 7)],[],[],(bn [av 5 (.box 24 (.t 2)),av 6 (.alloc 178 [bZ,aW,aW,(.f (.bool false)),bZ,aW,aW,.dz,aW,aW]),av 7 (.mv dH)] [0,1,5,6] (.seq (bn [aH 12 0,av 13 (.y7 false (.t 12))] [0,1,5,6,13] (.cond (.t 13) (bn [av 14 (.build [bZ,aW,aW,(.f (.bool false)),bZ,aW,aW,.dz,aW,aW] []),dB (.store 10 (.t 6) (.t 14)),av 7 (.mv dH)] [6,7] .ret) .skip)) (.seq (.seq (.qc [⟨dh 15 3 5,[380000]⟩,⟨av 16 (.call false 89 [(.t 15)]),[380000]⟩,⟨dh 17 3 5,[380000]⟩,⟨av 18 (.tL 24 3 2 [bZ,aW,aW,bZ,aW,aW] [dS 0 3 16,dS 3 3 17]),[]⟩,⟨av 19 (.gW (.t 18)),[]⟩,⟨av 20 (.mv (bM 0)),[380000]⟩] [] [] [] [0,1,6,18,19,20]) (.block 0 (.loop [0,1,6,18,19,20] [20201,20205,20208,140000,380000,841600] [] (bn [av 21 (.cmp .lt (.t 20) (.t 19))] [0,1,6,18,19,20,21] (.seq (.cond (.t 21) .skip (.exit 0)) (.seq (.block 1 (bn [av 22 (.ia 3 (.t 18) (.t 20)),dh 23 3 22,av 9 (.alloc 24 [bZ,aW,aW]),dB (.store 3 (.t 9) (.t 23))] [0,1,6,9,18,19,20] (.seq (.qc [⟨aH 25 0,[220000]⟩,⟨av 26 (.nC (.t 25)),[220000]⟩,⟨bU 27 1 26,[220000]⟩,⟨dn 28 27,[220000]⟩,⟨dh 29 3 9,[220000]⟩,⟨⟨(some 30),none,(.look (.agg [.str,(.int .i64),(.int .i64)]) (.agg [(.str ⟨#[]⟩),(.int .i64 0),(.int .i64 0),(.bool false),(.str ⟨#[]⟩),(.int .i64 0),(.int .i64 0),(.sl []),(.int .i64 0),(.int .i64 0)]) true (.t 28) (.t 29))⟩,[220000]⟩,⟨aH 24 30,[220000]⟩,⟨av 31 (.ext (.t 24) 0),[220000]⟩,⟨av 32 (.ext (.t 24) 1),[220000]⟩,⟨av 10 (.alloc 178 [bZ,aW,aW,(.f (.bool false)),bZ,aW,aW,.dz,aW,aW]),[]⟩] [8] [dB (.store 10 (.t 10) (.t 31))] [aH 11 32] [0,1,6,10,11,18,19,20]) (bn [aH 33 11,aH 34 33,bE 35 34 true (.mv (.t 1)),bE 36 34 true (.fa 9 (.t 10)),bE 37 34 true (.load 1 false (.t 36)),bE 38 34 true (.call false 78 [(.t 35),(.t 37)]),av 39 (.pick (.t 34) (.t 38) dH)] [0,1,6,10,18,19,20,39] (.cond (.t 39) (bn [dh 40 10 10,av 41 (.call false 90 [(.t 40)]),dB (.store 10 (.t 6) (.t 41)),av 7 (.mv eu)] [6,7] .ret) .skip))))) (.reg [av 42 (.ar .add (.t 20) (bM 1)),aH 20 42] [0,1,6,18,19,20]))))))) (bn [av 43 (.build [bZ,aW,aW,(.f (.bool false)),bZ,aW,aW,.dz,aW,aW] []),dB (.store 10 (.t 6) (.t 43)),av 7 (.mv dH)] [6,7] .ret))))⟩
def SH : CF:=⟨2,[(.t 4)],[some 10],[],(bn [av 3 (.box 24 (.t 1)),av 4 (.mv (.k (.one .dz)))] [0,3] (bn [av 5 (.mv (.k (.one .dz)))] [0,3,5] (.seq (bn [av 6 (.mv (bM 0))] [0,3,5,6] (.block 0 (.loop [0,3,5,6] [20202,80000,120000] [⟨5,10⟩] (.seq (bn [aH 7 6,aH 8 0,av 9 (.gW (.t 8)),av 10 (.cmp .lt (.t 7) (.t 9))] [0,3,5,6,10] (.cond (.t 10) .skip (.exit 0))) (.seq (.block 1 (.seq (.qc [⟨aH 13 0,[]⟩,⟨aH 14 6,[]⟩,⟨av 15 (.ia 10 (.t 13) (.t 14)),[]⟩,⟨bU 16 0 15,[]⟩,⟨dh 17 3 16,[]⟩,⟨dh 18 3 3,[]⟩] [] [] [av 19 (.uK (.agg [.str,(.int .i64),(.int .i64)]) true (.t 17) (.t 18))] [0,3,5,6,19]) (.cond (.t 19) (.reg [aH 20 5,aH 21 0,aH 22 6,av 23 (.ia 10 (.t 21) (.t 22)),dh 24 10 23,av 25 (.tL 140 10 1 [bZ,aW,aW,(.f (.bool false)),bZ,aW,aW,.dz,aW,aW] [dS 0 10 24]),av 26 (.app 140 10 112 (.t 20) (.t 25)),aH 5 26] [0,3,5,6]) .skip))) (.reg [aH 11 6,av 12 (.ar .add (.t 11) (bM 1)),aH 6 12] [0,3,5,6])))))) (bn [aH 27 5,aH 4 27] [4] .ret))))⟩
def c88 : CF:=⟨1,[(.t 2)],[],[],(bn [av 1 (.box 24 (.t 0)),av 2 (.mv dH)] [1] (.seq (.qc [⟨bU 3 1 1,[]⟩,⟨dn 4 3,[]⟩,⟨av 5 (.cmp .gt (.t 4) (bM 0)),[]⟩,⟨aH 6 5,[]⟩,⟨bE 7 6 true (.fa 1 (.t 1)),[]⟩,⟨bE 8 6 true (.load 1 false (.t 7)),[]⟩,⟨bE 9 6 true (.cmp .le (.t 8) (bM 65535)),[]⟩,⟨av 10 (.pick (.t 6) (.t 9) dH),[]⟩,⟨aH 11 10,[]⟩,⟨bE 12 11 true (.fa 2 (.t 1)),[]⟩,⟨bE 13 11 true (.load 1 false (.t 12)),[]⟩,⟨bE 14 11 true (.cmp .ge (.t 13) (bM 0)),[]⟩,⟨av 15 (.pick (.t 11) (.t 14) dH),[]⟩,⟨aH 16 15,[]⟩,⟨bE 17 16 true (.fa 2 (.t 1)),[]⟩,⟨bE 18 16 true (.load 1 false (.t 17)),[]⟩,⟨bE 19 16 true (.cmp .le (.t 18) (bM 65535)),[]⟩,⟨av 20 (.pick (.t 16) (.t 19) dH),[]⟩,⟨aH 21 20,[]⟩,⟨bE 22 21 true (.fa 0 (.t 1)),[]⟩,⟨bE 23 21 true (.load 1 false (.t 22)),[]⟩,⟨bE 24 21 true (.call false 109 [(.t 23)]),[]⟩,⟨av 25 (.pick (.t 21) (.t 24) dH),[]⟩,⟨aH 26 25,[]⟩,⟨bE 27 26 true (.fa 0 (.t 1)),[]⟩,⟨bE 28 26 true (.load 1 false (.t 27)),[]⟩,⟨bE 29 26 true (.call false 68 [(.t 28)]),[]⟩,⟨bE 30 26 true (.fa 0 (.t 1)),[]⟩,⟨bE 31 26 true (.load 1 false (.t 30)),[]⟩] [] [] [bE 32 26 true (.uK (.one .str) false (.t 29) (.t 31)),av 33 (.pick (.t 26) (.t 32) dH),aH 2 33] [2]) .ret))⟩
def c89 : CF:=⟨1,[(.cell 2 3 true)],[],[],(bn [av 1 (.box 24 (.t 0)),av 2 (.alloc 24 [bZ,aW,aW])] [1,2] (bn [bU 3 1 1,dB (.store 1 (.t 3) (bM 0))] [1,2] (bn [dh 4 3 1,dB (.store 3 (.t 2) (.t 4))] [2] .ret)))⟩
def c90 : CF:=⟨1,[(.cell 2 10 true)],[],[],(bn [av 1 (.box 178 (.t 0)),av 2 (.alloc 178 [bZ,aW,aW,(.f (.bool false)),bZ,aW,aW,.dz,aW,aW])] [1,2] (bn [bU 3 4 1,bU 4 3 3,dn 5 4,av 6 (.call false 72 [(.t 5)]),bU 7 4 1,bU 8 3 7,dB (.store 1 (.t 8) (.t 6))] [1,2] (bn [dh 9 10 1,dB (.store 10 (.t 2) (.t 9))] [2] .ret)))⟩
def SI : CF:=⟨3,[(.cell 6 10 true),(.t 7)],[],[],(bn [av 3 (.box 36 (.t 0)),av 5 (.box 24 (.t 2)),av 6 (.alloc 140 [bZ,aW,aW,(.f (.bool false)),bZ,aW,aW,.dz,aW,aW]),av 7 (.mv dH)] [1,3,5,6] (.seq (bn [av 8 (.mv (bM 0))] [1,3,5,6,8] (.block 0 (.loop [1,3,5,6,8] [20402,80000,120000,140000] [] (.seq (bn [aH 9 8,bU 10 1 3,dn 11 10,av 12 (.gW (.t 11)),av 13 (.cmp .lt (.t 9) (.t 12))] [1,3,5,6,8,13] (.cond (.t 13) .skip (.exit 0))) (.seq (.block 1 (.seq (.qc [⟨bU 16 1 3,[]⟩,⟨dn 17 16,[]⟩,⟨aH 18 8,[]⟩,⟨av 19 (.ia 10 (.t 17) (.t 18)),[]⟩,⟨bU 20 0 19,[]⟩,⟨dh 21 3 20,[]⟩,⟨dh 22 3 5,[]⟩,⟨av 23 (.uK (.agg [.str,(.int .i64),(.int .i64)]) false (.t 21) (.t 22)),[]⟩,⟨aH 24 23,[]⟩,⟨bE 25 24 true (.mv (.t 1)),[]⟩,⟨bE 26 24 true (.fa 1 (.t 3)),[]⟩,⟨bE 27 24 true (.load 1 false (.t 26)),[]⟩,⟨bE 28 24 true (.mv (.t 8)),[]⟩,⟨bE 29 24 true (.ia 10 (.t 27) (.t 28)),[]⟩,⟨bE 30 24 true (.fa 9 (.t 29)),[]⟩,⟨bE 31 24 true (.load 1 false (.t 30)),[]⟩] [] [] [bE 32 24 true (.call false 94 [(.t 25),(.t 31)]),av 33 (.pick (.t 24) (.t 32) dH)] [1,3,5,6,8,33]) (.cond (.t 33) (bn [bU 34 1 3,dn 35 34,aH 36 8,av 37 (.ia 10 (.t 35) (.t 36)),dh 38 10 37,dB (.store 10 (.t 6) (.t 38)),av 7 (.mv eu)] [6,7] .ret) .skip))) (.reg [aH 14 8,av 15 (.ar .add (.t 14) (bM 1)),aH 8 15] [1,3,5,6,8])))))) (bn [av 39 (.build [bZ,aW,aW,(.f (.bool false)),bZ,aW,aW,.dz,aW,aW] []),dB (.store 10 (.t 6) (.t 39)),av 7 (.mv dH)] [6,7] .ret)))⟩
def c3 : CF:=⟨3,[(.t 6)],[],[],(bn [av 5 (.box 24 (.t 2)),av 6 (.mv dH)] [0,1,5] (.seq (bn [aH 13 0,av 14 (.call false 10 [(.t 13),(bM 40)]),av 15 (.cmp .eq (.t 14) (bM 0)),aH 16 15,bE 17 16 false (.fa 0 (.t 5)),bE 18 16 false (.load 1 false (.t 17)),bE 19 16 false (.yw (.t 18)),bE 20 16 false (.cmp .gt (.t 19) (bM 300)),av 21 (.pick (.t 16) eu (.t 20))] [0,1,5,21] (.cond (.t 21) (bn [av 22 (.call false 11 []),aH 6 22] [6] .ret) .skip)) (bn [aH 24 0,av 25 (.call false 12 [(.t 24)]),aH 23 25,av 26 (.ext (.t 23) 0),av 27 (.ext (.t 23) 1),aH 7 26,aH 8 27] [0,1,5,7,8] (bn [aH 29 0,av 30 (.call false 13 [(.t 29)]),aH 28 30,av 31 (.ext (.t 28) 0),av 32 (.ext (.t 28) 1),av 9 (.alloc 33 [aW,.dz,aW]),av 10 (.alloc 36 [aW,.dz,aW]),dB (.store 3 (.t 9) (.t 31)),dB (.store 3 (.t 10) (.t 32))] [1,5,7,8,9,10] (bn [aH 33 7,aH 34 8,aH 35 1,dh 36 3 5,av 37 (.call false 14 [(.t 33),(.t 34),(.t 35),(.t 36)]),av 11 (.alloc 46 [.dz,aW,bZ,bZ,aW,aW,.dz,aW,aW]),dB (.store 9 (.t 11) (.t 37))] [1,5,9,10,11] (bn [dh 38 3 9,dh 39 3 10,aH 40 1,dh 41 3 5,av 42 (.call false 15 [(.t 38),(.t 39),(.t 40),(.t 41)]),av 12 (.alloc 51 [.dz,aW,bZ,bZ,aW,aW,.dz,aW,aW]),dB (.store 9 (.t 12) (.t 42))] [11,12] (.seq (.qc [⟨dh 43 9 11,[]⟩,⟨av 44 (.call false 17 [(.t 43)]),[]⟩,⟨dh 45 9 12,[]⟩,⟨av 46 (.call false 16 [(.t 44),(.t 45)]),[]⟩,⟨aH 47 46,[]⟩,⟨bE 48 47 true (.load 9 true (.t 11)),[]⟩,⟨bE 49 47 true (.call false 19 [(.t 48)]),[]⟩,⟨bE 50 47 true (.load 9 true (.t 12)),[]⟩,⟨bE 51 47 true (.call false 20 [(.t 50)]),[]⟩,⟨bE 52 47 true (.call false 18 [(.t 49),(.t 51)]),[]⟩,⟨av 53 (.pick (.t 47) (.t 52) dH),[]⟩,⟨aH 54 53,[]⟩,⟨bE 55 54 true (.load 9 true (.t 11)),[]⟩,⟨bE 56 54 true (.call false 21 [(.t 55)]),[]⟩,⟨bE 57 54 true (.load 9 true (.t 12)),[]⟩] [] [] [bE 58 54 true (.call false 22 [(.t 57)]),bE 59 54 true (.cmp .eq (.t 56) (.t 58)),av 60 (.pick (.t 54) (.t 59) dH),aH 61 60,bE 62 61 true (.call false 11 []),av 63 (.pick (.t 61) (.t 62) dH),aH 6 63] [6]) .ret)))))))⟩
def c10 : CF:=⟨2,[(.t 4)],[],[],(bn [av 4 (.mv (bM 0))] [0,1] (.seq (bn [av 5 (.mv (bM 0))] [0,1,5] (.block 0 (.loop [0,1,5] [20202] [] (.seq (bn [aH 6 5,aH 7 0,av 8 (.gW (.t 7)),av 9 (.cmp .lt (.t 6) (.t 8))] [0,1,5,9] (.cond (.t 9) .skip (.exit 0))) (.seq (.block 1 (bn [aH 12 0,aH 13 5,av 14 (.ia 10 (.t 12) (.t 13)),bU 15 1 14,dh 16 5 15,av 17 (.call false 45 [(.t 16)]),av 18 (.no (.t 17)),aH 19 18,bE 20 19 false (.mv (.t 0)),bE 21 19 false (.mv (.t 5)),bE 22 19 false (.ia 10 (.t 20) (.t 21)),bE 23 19 false (.fa 7 (.t 22)),bE 24 19 false (.fa 0 (.t 23)),bE 25 19 false (.load 1 false (.t 24)),bE 26 19 false (.yw (.t 25)),bE 27 19 false (.cmp .gt (.t 26) (bM 300)),av 28 (.pick (.t 19) eu (.t 27))] [0,1,5,28] (.cond (.t 28) (bn [av 4 (.mv (bM 0))] [4] .ret) .skip))) (.reg [aH 10 5,av 11 (.ar .add (.t 10) (bM 1)),aH 5 11] [0,1,5])))))) (.seq (bn [aH 29 0,av 30 (.gW (.t 29)),aH 31 1,av 32 (.cmp .gt (.t 30) (.t 31))] [32] (.cond (.t 32) (bn [av 4 (.mv (bM 0))] [4] .ret) .skip)) (bn [av 4 (.mv (bM 1))] [4] .ret))))⟩
def c12 : CF:=⟨1,[(.t 2),(.t 3)],[],[],(bn [av 2 (.mv (.k (.one .iW))),av 3 (.mv (.k (.one .iW)))] [0] (bn [av 7 (.call false 48 [(bM 50)]),aH 4 7] [0,4] (bn [av 8 (.call false 49 [(bM 50)]),aH 5 8] [0,4,5] (.seq (bn [av 6 (.mv (bM 0))] [0,4,5,6] (.block 0 (.loop [0,4,5,6] [20202,160200,160204,160206,180200,180204,180206] [] (.seq (bn [aH 9 6,aH 10 0,av 11 (.gW (.t 10)),av 12 (.cmp .lt (.t 9) (.t 11))] [0,4,5,6,12] (.cond (.t 12) .skip (.exit 0))) (.seq (.block 1 (bn [aH 15 0,aH 16 6,av 17 (.ia 10 (.t 15) (.t 16)),bU 18 6 17,dn 19 18,av 20 (.cmp .gt (.t 19) (bM 0))] [0,4,5,6,20] (.cond (.t 20) (.qc [⟨aH 21 4,[]⟩,⟨aH 22 0,[]⟩,⟨aH 23 6,[]⟩,⟨av 24 (.ia 10 (.t 22) (.t 23)),[]⟩,⟨bU 25 0 24,[]⟩,⟨dn 26 25,[]⟩,⟨aH 27 0,[]⟩,⟨aH 28 6,[]⟩,⟨av 29 (.ia 10 (.t 27) (.t 28)),[]⟩,⟨bU 30 1 29,[]⟩,⟨dh 31 5 30,[]⟩,⟨aH 32 0,[]⟩,⟨aH 33 6,[]⟩,⟨av 34 (.ia 10 (.t 32) (.t 33)),[]⟩,⟨bU 35 6 34,[]⟩,⟨dn 36 35,[]⟩] [] [] [av 37 (.call false 50 [(.t 21),(.t 26),(.t 31),(.t 36)])] [0,4,5,6]) (.qc [⟨aH 38 5,[]⟩,⟨aH 39 0,[]⟩,⟨aH 40 6,[]⟩,⟨av 41 (.ia 10 (.t 39) (.t 40)),[]⟩,⟨bU 42 0 41,[]⟩,⟨dn 43 42,[]⟩,⟨aH 44 0,[]⟩,⟨aH 45 6,[]⟩,⟨av 46 (.ia 10 (.t 44) (.t 45)),[]⟩,⟨bU 47 7 46,[]⟩,⟨dh 48 3 47,[]⟩,⟨aH 49 0,[]⟩,⟨aH 50 6,[]⟩,⟨av 51 (.ia 10 (.t 49) (.t 50)),[]⟩,⟨bU 52 6 51,[]⟩,⟨dn 53 52,[]⟩,⟨av 54 (.cmp .lt (.t 53) (bM 0)),[]⟩,⟨aH 55 0,[]⟩,⟨aH 56 6,[]⟩,⟨av 57 (.ia 10 (.t 55) (.t 56)),[]⟩,⟨bU 58 1 57,[]⟩,⟨dh 59 5 58,[]⟩] [] [] [av 60 (.call false 51 [(.t 38),(.t 43),(.t 48),(.t 54),(.t 59)])] [0,4,5,6])))) (.reg [aH 13 6,av 14 (.ar .add (.t 13) (bM 1)),aH 6 14] [0,4,5,6])))))) (bn [aH 61 4,aH 62 5,aH 2 61,aH 3 62] [2,3] .ret)))))⟩
def c13 : CF:=⟨1,[(.cell 2 3 true),(.cell 3 3 true)],[],[],(bn [av 2 (.alloc 33 [aW,.dz,aW]),av 3 (.alloc 36 [aW,.dz,aW])] [0,2,3] (bn [av 11 (.call false 52 [(bM 50)]),av 4 (.alloc 33 [aW,.dz,aW]),dB (.store 3 (.t 4) (.t 11))] [0,2,3,4] (bn [av 12 (.call false 53 [(bM 50)]),av 5 (.alloc 36 [aW,.dz,aW]),dB (.store 3 (.t 5) (.t 12))] [0,2,3,4,5] (.seq (bn [av 6 (.mv (bM 0))] [0,2,3,4,5,6] (.block 0 (.loop [0,2,3,4,5,6] [20202,60000,80000,100000,120000,240400,260400,860400,1400400] [] (.seq (bn [aH 13 6,aH 14 0,av 15 (.gW (.t 14)),av 16 (.cmp .lt (.t 13) (.t 15))] [0,2,3,4,5,6,16] (.cond (.t 16) .skip (.exit 0))) (.seq (.block 1 (bn [aH 19 0,aH 20 6,av 21 (.ia 10 (.t 19) (.t 20)),bU 22 6 21,dn 23 22,av 24 (.cmp .gt (.t 23) (bM 0))] [0,2,3,4,5,6,24] (.cond (.t 24) (.seq (.qc [⟨dh 26 3 4,[160000]⟩,⟨aH 27 0,[160000]⟩,⟨aH 28 6,[160000]⟩,⟨av 29 (.ia 10 (.t 27) (.t 28)),[160000]⟩,⟨bU 30 0 29,[160000]⟩,⟨dn 31 30,[160000]⟩,⟨aH 32 0,[160000]⟩,⟨aH 33 6,[160000]⟩,⟨av 34 (.ia 10 (.t 32) (.t 33)),[160000]⟩,⟨bU 35 1 34,[160000]⟩,⟨dh 36 5 35,[160000]⟩,⟨aH 37 0,[160000]⟩,⟨aH 38 6,[160000]⟩,⟨av 39 (.ia 10 (.t 37) (.t 38)),[160000]⟩,⟨bU 40 6 39,[160000]⟩,⟨dn 41 40,[160000]⟩,⟨av 42 (.call false 54 [(.t 26),(.t 31),(.t 36),(.t 41)]),[160000]⟩,⟨aH 25 42,[160000]⟩,⟨av 43 (.ext (.t 25) 0),[160000]⟩,⟨av 44 (.ext (.t 25) 1),[160000]⟩,⟨av 7 (.alloc 33 [aW,.dz,aW]),[]⟩] [19] [dB (.store 3 (.t 7) (.t 43))] [aH 8 44] [0,2,3,4,5,6,7]) (.reg [dh 45 3 7,dB (.store 3 (.t 4) (.t 45))] [0,2,3,4,5,6])) (.seq (.qc [⟨dh 47 3 5,[200000]⟩,⟨aH 48 0,[200000]⟩,⟨aH 49 6,[200000]⟩,⟨av 50 (.ia 10 (.t 48) (.t 49)),[200000]⟩,⟨bU 51 0 50,[200000]⟩,⟨dn 52 51,[200000]⟩,⟨aH 53 0,[200000]⟩,⟨aH 54 6,[200000]⟩,⟨av 55 (.ia 10 (.t 53) (.t 54)),[200000]⟩,⟨bU 56 7 55,[200000]⟩,⟨dh 57 3 56,[200000]⟩,⟨aH 58 0,[200000]⟩,⟨aH 59 6,[200000]⟩,⟨av 60 (.ia 10 (.t 58) (.t 59)),[200000]⟩,⟨bU 61 6 60,[200000]⟩,⟨dn 62 61,[200000]⟩,⟨av 63 (.cmp .lt (.t 62) (bM 0)),[200000]⟩,⟨aH 64 0,[200000]⟩,⟨aH 65 6,[200000]⟩,⟨av 66 (.ia 10 (.t 64) (.t 65)),[200000]⟩,⟨bU 67 1 66,[200000]⟩,⟨dh 68 5 67,[200000]⟩,⟨av 69 (.call false 55 [(.t 47),(.t 52),(.t 57),(.t 63),(.t 68)]),[200000]⟩,⟨aH 46 69,[200000]⟩,⟨av 70 (.ext (.t 46) 0),[200000]⟩,⟨av 71 (.ext (.t 46) 1),[200000]⟩,⟨av 9 (.alloc 36 [aW,.dz,aW]),[]⟩] [25] [dB (.store 3 (.t 9) (.t 70))] [aH 10 71] [0,2,3,4,5,6,9]) (.reg [dh 72 3 9,dB (.store 3 (.t 5) (.t 72))] [0,2,3,4,5,6]))))) (.reg [aH 17 6,av 18 (.ar .add (.t 17) (bM 1)),aH 6 18] [0,2,3,4,5,6])))))) (.seq (.qc [⟨dh 73 3 4,[]⟩,⟨dh 74 3 5,[]⟩] [1] [dB (.store 3 (.t 2) (.t 73)),dB (.store 3 (.t 3) (.t 74))] [] [2,3]) .ret)))))⟩
def c17 : CF:=⟨1,[(.cell 2 9 true)],[],[],(bn [av 1 (.box 46 (.t 0)),av 2 (.alloc 51 [.dz,aW,bZ,bZ,aW,aW,.dz,aW,aW])] [1,2] (bn [bU 5 1 1,dn 6 5,bU 7 2 1,dn 8 7,bU 9 3 1,dh 10 6 9,av 11 (.build [.dz,aW,bZ,bZ,aW,aW,.dz,aW,aW] [dS 1 1 6,dS 2 1 8,dS 3 6 10]),av 3 (.alloc 51 [.dz,aW,bZ,bZ,aW,aW,.dz,aW,aW]),dB (.store 9 (.t 3) (.t 11))] [1,2,3] (.seq (bn [av 4 (.mv (bM 0))] [1,2,3,4] (.block 0 (.loop [1,2,3,4] [20202,21402,40000,60000,80000,560000] [] (.seq (bn [aH 12 4,bU 13 0 1,dn 14 13,av 15 (.gW (.t 14)),av 16 (.cmp .lt (.t 12) (.t 15))] [1,2,3,4,16] (.cond (.t 16) .skip (.exit 0))) (.seq (.block 1 (.qc [⟨bU 19 0 3,[540000]⟩,⟨dn 20 19,[540000]⟩,⟨bU 21 0 1,[540000]⟩,⟨dn 22 21,[540000]⟩,⟨aH 23 4,[540000]⟩,⟨av 24 (.ia 6 (.t 22) (.t 23)),[540000]⟩,⟨dh 25 6 24,[540000]⟩,⟨av 26 (.tL 49 6 1 [bZ,aW,aW,.dz,aW,aW] [dS 0 6 25]),[]⟩] [] [] [av 27 (.app 49 6 72 (.t 20) (.t 26)),bU 28 0 3,dB (.store 1 (.t 28) (.t 27))] [1,2,3,4])) (.reg [aH 17 4,av 18 (.ar .add (.t 17) (bM 1)),aH 4 18] [1,2,3,4])))))) (bn [dh 29 9 3,dB (.store 9 (.t 2) (.t 29))] [2] .ret))))⟩
def c46 : CF:=⟨2,[(.cell 4 5 true)],[],[],(bn [av 4 (.alloc 42 [bZ,aW,aW,.dz,aW])] [0,1,4] (bn [aH 5 0,⟨(some 6),none,(.build [bZ,aW,aW] [dS 0 1 5,⟨1,⟨1,(bM 5)⟩⟩,⟨2,⟨1,(bM 1)⟩⟩])⟩,aH 7 1,av 8 (.tL 9 1 1 [bZ] [dS 0 1 7]),⟨(some 9),none,(.build [bZ,aW,aW,.dz,aW] [dS 0 3 6,dS 3 1 8,⟨4,⟨1,(bM 7)⟩⟩])⟩,dB (.store 5 (.t 4) (.t 9))] [4] .ret))⟩
def c11 : CF:=⟨0,[(.t 0)],[],[],(bn [av 0 (.mv dH)] [] (bn [⟨(some 9),none,(.build [bZ,aW,aW] [⟨0,⟨1,(.k (.one (.f (.str ⟨#[1,98,0]⟩))))⟩⟩,⟨1,⟨1,(bM 1)⟩⟩,⟨2,⟨1,(bM 1)⟩⟩])⟩,⟨(some 10),none,(.tL 9 1 1 [bZ] [⟨0,⟨1,(.k (.one (.f (.str ⟨#[49,49,49,49]⟩))))⟩⟩])⟩,⟨(some 11),none,(.build [bZ,aW,aW,.dz,aW] [dS 0 3 9,dS 3 1 10,⟨4,⟨1,(bM 5)⟩⟩])⟩,av 1 (.alloc 42 [bZ,aW,aW,.dz,aW]),dB (.store 5 (.t 1) (.t 11))] [1] (.seq (.any [⟨(some 13),none,(.call false 46 [(.k (.one (.f (.str ⟨#[1,97,0]⟩)))),(.k (.one (.f (.str ⟨#[1,98,0]⟩))))])⟩,⟨(some 14),none,(.build [aW,bZ,aW,aW,.dz,aW,aW,bZ,aW,aW] [dS 1 5 13,⟨6,⟨1,(bM 5)⟩⟩])⟩,dh 15 5 1,⟨(some 16),none,(.build [aW,bZ,aW,aW,.dz,aW,aW,bZ,aW,aW] [dS 1 5 15,⟨6,⟨1,(bM 3)⟩⟩])⟩,⟨(some 17),none,(.call false 46 [(.k (.one (.f (.str ⟨#[1,99,0]⟩)))),(.k (.one (.f (.str ⟨#[1,100,0]⟩))))])⟩,⟨(some 18),none,(.build [aW,bZ,aW,aW,.dz,aW,aW,bZ,aW,aW] [dS 1 5 17,⟨6,⟨1,(bM 5)⟩⟩])⟩,⟨(some 19),none,(.call false 46 [(.k (.one (.f (.str ⟨#[1,100,0]⟩)))),(.k (.one (.f (.str ⟨#[1,99,0]⟩))))])⟩,⟨(some 20),none,(.build [aW,bZ,aW,aW,.dz,aW,aW,bZ,aW,aW] [dS 1 5 19,⟨6,⟨1,(bM 5)⟩⟩])⟩,⟨(some 21),none,(.call false 46 [(.k (.one (.f (.str ⟨#[1,101,0]⟩)))),(.k (.one (.f (.str ⟨#[1,97,0]⟩))))])⟩,⟨(some 22),none,(.build [aW,bZ,aW,aW,.dz,aW,aW,bZ,aW,aW] [dS 1 5 21,⟨6,⟨1,(bM 2)⟩⟩])⟩,av 23 (.tL 113 10 5 [aW,bZ,aW,aW,.dz,aW,aW,bZ,aW,aW,aW,bZ,aW,aW,.dz,aW,aW,bZ,aW,aW,aW,bZ,aW,aW,.dz,aW,aW,bZ,aW,aW,aW,bZ,aW,aW,.dz,aW,aW,bZ,aW,aW,aW,bZ,aW,aW,.dz,aW,aW,bZ,aW,aW] [dS 0 10 14,dS 10 10 16,dS 20 10 18,dS 30 10 20,dS 40 10 22]),av 24 (.call false 12 [(.t 23)]),aH 12 24,av 25 (.ext (.t 12) 0),av 26 (.ext (.t 12) 1),aH 2 25,aH 3 26] [[0,1,2,3,4,5,6,7,8,9,10,11,12,13,14,15,16],[0,1,4,5,2,3,6,7,8,9,10,11,12,13,14,15,16],[0,1,4,5,6,7,2,3,8,9,10,11,12,13,14,15,16],[0,1,4,5,6,7,8,9,2,3,10,11,12,13,14,15,16],[2,3,0,1,4,5,6,7,8,9,10,11,12,13,14,15,16]] [2,3] [500200,500204,500206,502200,502204,502206]) (bn [aH 27 2,aH 28 3,⟨(some 29),none,(.build [bZ,aW,aW] [⟨0,⟨1,(.k (.one (.f (.str ⟨#[1,97,0]⟩))))⟩⟩,⟨1,⟨1,(bM 1)⟩⟩,⟨2,⟨1,(bM 1)⟩⟩])⟩,av 30 (.call false 14 [(.t 27),(.t 28),(bM 2),(.t 29)]),av 4 (.alloc 46 [.dz,aW,bZ,bZ,aW,aW,.dz,aW,aW]),dB (.store 9 (.t 4) (.t 30))] [2,3,4] (bn [aH 31 2,aH 32 3,⟨(some 33),none,(.build [bZ,aW,aW] [⟨0,⟨1,(.k (.one (.f (.str ⟨#[1,99,0]⟩))))⟩⟩,⟨1,⟨1,(bM 1)⟩⟩,⟨2,⟨1,(bM 1)⟩⟩])⟩,av 34 (.call false 14 [(.t 31),(.t 32),(bM 2),(.t 33)]),av 5 (.alloc 46 [.dz,aW,bZ,bZ,aW,aW,.dz,aW,aW]),dB (.store 9 (.t 5) (.t 34))] [2,3,4,5] (bn [aH 35 2,aH 36 3,⟨(some 37),none,(.build [bZ,aW,aW] [⟨0,⟨1,(.k (.one (.f (.str ⟨#[1,101,0]⟩))))⟩⟩,⟨1,⟨1,(bM 1)⟩⟩,⟨2,⟨1,(bM 1)⟩⟩])⟩,av 38 (.call false 14 [(.t 35),(.t 36),(bM 2),(.t 37)]),av 6 (.alloc 46 [.dz,aW,bZ,bZ,aW,aW,.dz,aW,aW]),dB (.store 9 (.t 6) (.t 38))] [4,5,6] (bn [⟨(some 40),none,(.call false 46 [(.k (.one (.f (.str ⟨#[1,97,0]⟩)))),(.k (.one (.f (.str ⟨#[1,98,0]⟩))))])⟩,av 41 (.call false 47 [(.t 40)]),aH 39 41,av 42 (.ext (.t 39) 0),av 43 (.ext (.t 39) 1),aH 7 42,aH 8 43] [4,5,6,7,8] (bn [bU 44 0 4,dn 45 44,av 46 (.gW (.t 45)),av 47 (.cmp .eq (.t 46) (bM 2)),aH 48 47,bE 49 48 true (.fa 1 (.t 4)),bE 50 48 true (.load 1 false (.t 49)),bE 51 48 true (.cmp .eq (.t 50) (bM 0)),av 52 (.pick (.t 48) (.t 51) dH),aH 53 52,bE 54 53 true (.fa 2 (.t 4)),bE 55 53 true (.load 1 false (.t 54)),⟨(some 56),(some ⟨(some 53),true⟩),(.uK (.one .str) false (.t 55) (.k (.one (.f (.str ⟨#[1,98,0]⟩)))))⟩,av 57 (.pick (.t 53) (.t 56) dH),aH 58 57,bE 59 58 true (.load 9 true (.t 4)),bE 60 58 true (.call false 21 [(.t 59)]),bE 61 58 true (.cmp .eq (.t 60) (bM 3)),av 62 (.pick (.t 58) (.t 61) dH),aH 63 62,bE 64 63 true (.load 9 true (.t 4)),bE 65 63 true (.call false 19 [(.t 64)]),bE 66 63 true (.gW (.t 65)),bE 67 63 true (.cmp .eq (.t 66) (bM 2)),av 68 (.pick (.t 63) (.t 67) dH),aH 69 68,bE 70 69 true (.fa 1 (.t 5)),bE 71 69 true (.load 1 false (.t 70)),bE 72 69 true (.cmp .eq (.t 71) (bM 4)),av 73 (.pick (.t 69) (.t 72) dH),aH 74 73,bE 75 74 true (.fa 0 (.t 5)),bE 76 74 true (.load 1 false (.t 75)),bE 77 74 true (.gW (.t 76)),bE 78 74 true (.cmp .eq (.t 77) (bM 2)),av 79 (.pick (.t 74) (.t 78) dH),aH 80 79,bE 81 80 true (.fa 1 (.t 6)),bE 82 80 true (.load 1 false (.t 81)),bE 83 80 true (.cmp .eq (.t 82) (bM 3)),av 84 (.pick (.t 80) (.t 83) dH),aH 85 84,bE 86 85 true (.fa 0 (.t 6)),bE 87 85 true (.load 1 false (.t 86)),bE 88 85 true (.gW (.t 87)),bE 89 85 true (.cmp .eq (.t 88) (bM 0)),av 90 (.pick (.t 85) (.t 89) dH),aH 91 90,bE 92 91 true (.mv (.t 7)),⟨(some 93),(some ⟨(some 91),true⟩),(.uK (.one .str) false (.t 92) (.k (.one (.f (.str ⟨#[1,98,0]⟩)))))⟩,av 94 (.pick (.t 91) (.t 93) dH),aH 95 94,bE 96 95 true (.mv (.t 8)),av 97 (.pick (.t 95) (.t 96) dH),aH 98 97,bE 99 98 true (.build [bZ,aW,aW] []),bE 100 98 true (.call false 14 [(.k (.one .iW)),(.k (.one .iW)),(bM 0),(.t 99)]),bE 101 98 true (.WU 1 1 false (.t 100)),bE 102 98 true (.cmp .eq (.t 101) (bM 3)),av 103 (.pick (.t 98) (.t 102) dH),aH 0 103] [0] .ret))))))))⟩
def M9 : CF:=⟨1,[(.t 2),(.t 3)],[],[],(bn [av 1 (.box 42 (.t 0)),av 2 (.mv (.k (.one bZ))),av 3 (.mv dH)] [1] (.seq (bn [bU 5 0 1,bU 6 1 5,dn 7 6,av 8 (.cmp .ne (.t 7) (bM 5)),aH 9 8,bE 10 9 false (.fa 3 (.t 1)),bE 11 9 false (.load 1 false (.t 10)),bE 12 9 false (.gW (.t 11)),bE 13 9 false (.cmp .eq (.t 12) (bM 0)),av 14 (.pick (.t 9) eu (.t 13))] [1,14] (.cond (.t 14) (bn [av 2 (.mv (.k (.one bZ))),av 3 (.mv dH)] [2,3] .ret) .skip)) (bn [bU 15 3 1,dn 16 15,av 17 (.ia 1 (.t 16) (bM 0)),dn 18 17,av 19 (.call false 81 [(bM 5),(.t 18)]),aH 4 19] [4] (.seq (bn [aH 20 4,av 21 (.gW (.t 20)),av 22 (.cmp .eq (.t 21) (bM 0))] [4,22] (.cond (.t 22) (bn [av 2 (.mv (.k (.one bZ))),av 3 (.mv dH)] [2,3] .ret) .skip)) (bn [aH 23 4,av 24 (.ia 1 (.t 23) (bM 0)),dn 25 24,aH 2 25,av 3 (.mv eu)] [2,3] .ret)))))⟩
def V5 : CF:=⟨2,[(.cell 4 6 true),(.t 5)],[],[],(bn [av 2 (.box 128 (.t 0)),av 3 (.box 24 (.t 1)),av 4 (.alloc 44 [bZ,aW,aW,.dz,aW,aW]),av 5 (.mv dH)] [2,3,4] (bn [bU 9 0 2,dn 10 9,bU 11 2 2,dn 12 11,dh 13 3 3,av 14 (.call false 43 [(.t 10),(.t 12),(.t 13)]),aH 8 14,av 15 (.ext (.t 8) 0),av 16 (.ext (.t 8) 1),av 6 (.alloc 106 [bZ,aW,aW,.dz,aW,aW,aW]),dB (.store 7 (.t 6) (.t 15)),aH 7 16] [2,4,6,7] (.seq (bn [aH 17 7,av 18 (.no (.t 17)),aH 19 18,bE 20 19 false (.fa 6 (.t 6)),bE 21 19 false (.load 1 false (.t 20)),bE 22 19 false (.call false 101 [(.t 21)]),bE 23 19 false (.no (.t 22)),av 24 (.pick (.t 19) eu (.t 23))] [2,4,6,24] (.cond (.t 24) (bn [av 25 (.build [bZ,aW,aW,.dz,aW,aW] []),dB (.store 6 (.t 4) (.t 25)),av 5 (.mv dH)] [4,5] .ret) .skip)) (.seq (.qc [⟨bU 26 0 6,[]⟩,⟨dh 27 5 26,[]⟩,⟨bU 28 2 2,[]⟩,⟨dn 29 28,[]⟩,⟨bU 30 5 6,[]⟩,⟨dn 31 30,[]⟩,⟨av 32 (.call false 102 [(.t 29),(.t 31)]),[]⟩] [] [] [av 33 (.build [bZ,aW,aW,.dz,aW,aW] [dS 0 5 27,dS 5 1 32]),dB (.store 6 (.t 4) (.t 33)),av 5 (.mv eu)] [4,5]) .ret))))⟩
def V6 : CF:=⟨2,[(.cell 4 6 true),(.t 5),(.t 6)],[],[],(bn [av 2 (.box 128 (.t 0)),av 3 (.box 24 (.t 1)),av 4 (.alloc 44 [bZ,aW,aW,.dz,aW,aW]),av 5 (.mv (.k (.one bZ))),av 6 (.mv dH)] [2,3,4] (.seq (bn [bU 11 1 3,dn 12 11,av 13 (.cmp .eq (.t 12) (bM 5))] [2,3,4,13] (.cond (.t 13) (bn [av 14 (.build [bZ,aW,aW,.dz,aW,aW] []),dB (.store 6 (.t 4) (.t 14)),av 5 (.mv (.k (.one bZ))),av 6 (.mv dH)] [4,5,6] .ret) .skip)) (bn [bU 15 1 3,dB (.store 1 (.t 15) (bM 5))] [2,3,4] (bn [dh 17 3 2,dh 18 3 3,av 19 (.call false 56 [(.t 17),(.t 18)]),aH 16 19,av 20 (.ext (.t 16) 0),av 21 (.ext (.t 16) 1),av 7 (.alloc 44 [bZ,aW,aW,.dz,aW,aW]),dB (.store 6 (.t 7) (.t 20)),aH 8 21] [4,7] (bn [bU 23 0 7,dh 24 5 23,av 25 (.call false 47 [(.t 24)]),aH 22 25,av 26 (.ext (.t 22) 0),av 27 (.ext (.t 22) 1),aH 9 26,aH 10 27] [4,7,9,10] (bn [dh 28 6 7,aH 29 9,aH 30 10,dB (.store 6 (.t 4) (.t 28)),aH 5 29,aH 6 30] [4,5,6] .ret))))))⟩
def Yw : CF:=⟨3,[(.cell 6 9 true)],[],[],(bn [av 3 (.box 128 (.t 0)),av 4 (.box 46 (.t 1)),av 5 (.box 24 (.t 2)),av 6 (.alloc 46 [.dz,aW,bZ,bZ,aW,aW,.dz,aW,aW])] [3,4,5,6] (bn [bU 10 1 3,dn 11 10,bU 12 2 3,dn 13 12,dh 14 3 5,av 15 (.call false 103 [(.t 11),(.t 13),(.t 14)]),aH 9 15,av 16 (.ext (.t 9) 0),av 17 (.ext (.t 9) 1),av 7 (.alloc 178 [bZ,aW,aW,(.f (.bool false)),bZ,aW,aW,.dz,aW,aW]),dB (.store 10 (.t 7) (.t 16)),aH 8 17] [3,4,6,7,8] (.seq (.block 0 (bn [aH 20 8,av 21 (.no (.t 20)),aH 19 21] [3,4,6,7,19] (.cond (.t 19) (bn [bU 22 1 4,dB (.store 1 (.t 22) (bM 3))] [4,6] (bn [dh 23 9 4,dB (.store 9 (.t 6) (.t 23))] [6] .ret)) (bn [bU 25 3 7,dn 26 25,aH 24 26] [3,4,6,7,24] (.cond (.t 24) (.reg [bU 27 1 4,dB (.store 1 (.t 27) (bM 2))] [3,4,6,7]) (.reg [bU 18 1 4,dB (.store 1 (.t 18) (bM 1))] [3,4,6,7])))))) (.seq (.qc [⟨bU 28 4 7,[]⟩,⟨dh 29 5 28,[]⟩,⟨bU 30 2 3,[]⟩,⟨dn 31 30,[]⟩,⟨bU 32 9 7,[]⟩,⟨dn 33 32,[]⟩,⟨av 34 (.call false 102 [(.t 31),(.t 33)]),[]⟩] [] [] [av 35 (.build [bZ,aW,aW,.dz,aW,aW] [dS 0 5 29,dS 5 1 34]),bU 36 3 4,dB (.store 6 (.t 36) (.t 35))] [4,6]) (bn [dh 37 9 4,dB (.store 9 (.t 6) (.t 37))] [6] .ret)))))⟩
def c14 : CF:=⟨4,[(.cell 8 9 true)],[],[],(bn [av 7 (.box 24 (.t 3)),av 8 (.alloc 46 [.dz,aW,bZ,bZ,aW,aW,.dz,aW,aW])] [0,1,2,7,8] (bn [aH 17 0,aH 18 1,aH 19 2,av 20 (.build [.iW,.iW,aW] [dS 0 1 17,dS 1 1 18,dS 2 1 19]),av 9 (.alloc 128 [.iW,.iW,aW]),dB (.store 3 (.t 9) (.t 20))] [7,8,9] (bn [av 10 (.alloc 46 [.dz,aW,bZ,bZ,aW,aW,.dz,aW,aW])] [7,8,9,10] (bn [av 21 (.qR (.one .str)),aH 11 21] [7,8,9,10,11] (.block 0 (.loop [7,8,9,10,11] [20201,20205,20208,40201,40205,40208,160000,180000,200000,220000,440000,690002,690004,690006,690008,690010,690012,690014,690016,690202,690204,690206,690208,690210,690212,690214,690216,690402,690404,690406,690408,690410,690412,690414,690416,690602,690604,690606,690608,690610,690612,690614,690616,690802,690804,690806,690808,690810,690812,690814,690816,691002,691004,691006,691008,691010,691012,691014,691016,840000,960800,970002,970004,970006,970008,970010,970012,970014,970016,970202,970204,970206,970208,970210,970212,970214,970216,970402,970404,970406,970408,970410,970412,970414,970416,970602,970604,970606,970608,970610,970612,970614,970616,970802,970804,970806,970808,970810,970812,970814,970816,971002,971004,971006,971008,971010,971012,971014,971016,1140200,1141400,1150002,1150004,1150006,1150008,1150010,1150012,1150014,1150016,1150202,1150204,1150206,1150208,1150210,1150212,1150214,1150216,1150402,1150404,1150406,1150408,1150410,1150412,1150414,1150416,1150602,1150604,1150606,1150608,1150610,1150612,1150614,1150616,1150802,1150804,1150806,1150808,1150810,1150812,1150814,1150816,1151002,1151004,1151006,1151008,1151010,1151012,1151014,1151016,1240000] [] (.block 1 (bn [bU 22 0 7,dn 23 22,bU 24 2 10,dB (.store 1 (.t 24) (.t 23))] [7,8,9,10,11] (bn [aH 25 11,bU 26 0 7,dn 27 26,av 28 (.look (.one .str) (.one (.int .i64 0)) false (.t 25) (.t 27)),av 29 (.ar .add (.t 28) (bM 1)),dB (.y8 (.one .str) (.t 25) (.t 27) (.t 29))] [7,8,9,10,11] (.seq (bn [dh 31 3 9,dh 32 3 7,av 33 (.call false 56 [(.t 31),(.t 32)]),aH 30 33,av 34 (.ext (.t 30) 0),av 35 (.ext (.t 30) 1),av 12 (.alloc 44 [bZ,aW,aW,.dz,aW,aW]),dB (.store 6 (.t 12) (.t 34)),aH 13 35] [7,8,9,10,11,12,13] (bn [aH 36 13] [7,8,9,10,11,12,36] (.cond (.t 36) (bn [bU 37 0 10,dn 38 37,dh 39 6 12,av 40 (.tL 44 6 1 [bZ,aW,aW,.dz,aW,aW] [dS 0 6 39]),av 41 (.app 44 6 72 (.t 38) (.t 40)),bU 42 0 10,dB (.store 1 (.t 42) (.t 41))] [8,10] (bn [dh 43 9 10,dB (.store 9 (.t 8) (.t 43))] [8] .ret)) .skip))) (bn [dh 45 3 9,dh 46 3 7,av 47 (.call false 57 [(.t 45),(.t 46)]),aH 44 47,av 48 (.ext (.t 44) 0),av 49 (.ext (.t 44) 1),av 50 (.ext (.t 44) 2),av 14 (.alloc 44 [bZ,aW,aW,.dz,aW,aW]),dB (.store 6 (.t 14) (.t 48)),aH 15 49,aH 16 50] [7,8,9,10,11,14,15,16] (.seq (bn [aH 51 16,av 52 (.no (.t 51))] [7,8,9,10,11,14,15,52] (.cond (.t 52) (bn [dh 53 3 9,dh 54 9 10,dh 55 3 7,av 56 (.call false 58 [(.t 53),(.t 54),(.t 55)]),dB (.store 9 (.t 8) (.t 56))] [8] .ret) .skip)) (bn [bU 57 0 10,dn 58 57,dh 59 6 14,av 60 (.tL 44 6 1 [bZ,aW,aW,.dz,aW,aW] [dS 0 6 59]),av 61 (.app 44 6 72 (.t 58) (.t 60)),bU 62 0 10,dB (.store 1 (.t 62) (.t 61))] [7,8,9,10,11,15] (.seq (bn [bU 63 0 10,dn 64 63,av 65 (.gW (.t 64)),av 66 (.cmp .gt (.t 65) (bM 8)),aH 67 66,bE 68 67 false (.mv (.t 11)),bE 69 67 false (.mv (.t 15)),bE 70 67 false (.look (.one .str) (.one (.int .i64 0)) false (.t 68) (.t 69)),bE 71 67 false (.cmp .gt (.t 70) (bM 0)),av 72 (.pick (.t 67) eu (.t 71))] [7,8,9,10,11,15,72] (.cond (.t 72) (bn [bU 73 1 10,dB (.store 1 (.t 73) (bM 4))] [8,10] (bn [dh 74 9 10,dB (.store 9 (.t 8) (.t 74))] [8] .ret)) .skip)) (.reg [aH 75 15,bU 76 0 7,dB (.store 1 (.t 76) (.t 75))] [7,8,9,10,11])))))))))))))))⟩
def c19 : CF:=⟨1,[(.t 2)],[],[],(bn [av 1 (.box 46 (.t 0)),av 2 (.mv (.k (.one .dz)))] [1] (bn [av 3 (.mv (.k (.one .dz)))] [1,3] (.seq (bn [bU 6 0 1,dn 7 6,av 8 (.gW (.t 7)),av 9 (.mv (bM 0))] [3,7,8,9] (.block 0 (.loop [3,7,8,9] [20202,21402,80000] [⟨3,3⟩] (bn [av 10 (.cmp .lt (.t 9) (.t 8))] [3,7,8,9,10] (.seq (.cond (.t 10) .skip (.exit 0)) (.seq (.block 1 (bn [av 11 (.ia 6 (.t 7) (.t 9)),dh 12 6 11,av 5 (.alloc 44 [bZ,aW,aW,.dz,aW,aW]),dB (.store 6 (.t 5) (.t 12))] [3,5,7,8,9] (.reg [aH 13 3,bU 14 0 5,bU 15 0 14,dh 16 3 15,av 17 (.tL 24 3 1 [bZ,aW,aW] [dS 0 3 16]),av 18 (.app 24 3 32 (.t 13) (.t 17)),aH 3 18] [3,7,8,9]))) (.reg [av 19 (.ar .add (.t 9) (bM 1)),aH 9 19] [3,7,8,9]))))))) (bn [aH 20 3,aH 2 20] [2] .ret))))⟩
def c21 : CF:=⟨1,[(.t 2)],[],[],(bn [av 1 (.box 46 (.t 0)),av 2 (.mv (bM 0))] [1] (bn [av 3 (.mv (.k (.one .dz)))] [1,3] (.seq (bn [bU 9 0 1,dn 10 9,av 11 (.gW (.t 10)),av 12 (.mv (bM 0))] [1,3,10,11,12] (.block 0 (.loop [1,3,10,11,12] [20202,21402,40000,80000,720000] [⟨3,1⟩] (bn [av 13 (.cmp .lt (.t 12) (.t 11))] [1,3,10,11,12,13] (.seq (.cond (.t 13) .skip (.exit 0)) (.seq (.block 1 (bn [av 14 (.ia 6 (.t 10) (.t 12)),dh 15 6 14,av 5 (.alloc 44 [bZ,aW,aW,.dz,aW,aW]),dB (.store 6 (.t 5) (.t 15))] [1,3,5,10,11,12] (.reg [aH 16 3,bU 17 5 5,dn 18 17,av 19 (.tL 3 1 1 [aW] [dS 0 1 18]),av 20 (.app 3 1 8 (.t 16) (.t 19)),aH 3 20] [1,3,10,11,12]))) (.reg [av 21 (.ar .add (.t 12) (bM 1)),aH 12 21] [1,3,10,11,12]))))))) (.seq (bn [bU 22 1 1,dn 23 22,av 24 (.cmp .eq (.t 23) (bM 1)),aH 25 24,bE 26 25 false (.fa 1 (.t 1)),bE 27 25 false (.load 1 false (.t 26)),bE 28 25 false (.cmp .eq (.t 27) (bM 2)),av 29 (.pick (.t 25) eu (.t 28))] [1,3,29] (.cond (.t 29) (.reg [aH 30 3,bU 31 3 1,bU 32 5 31,dn 33 32,av 34 (.tL 3 1 1 [aW] [dS 0 1 33]),av 35 (.app 3 1 8 (.t 30) (.t 34)),aH 3 35] [3]) .skip)) (.seq (bn [aH 36 3,av 37 (.gW (.t 36)),av 38 (.cmp .eq (.t 37) (bM 0))] [3,38] (.cond (.t 38) (bn [av 2 (.mv (bM 0))] [2] .ret) .skip)) (bn [aH 39 3,av 40 (.ia 1 (.t 39) (bM 0)),dn 41 40,aH 6 41] [3,6] (.seq (bn [aH 42 3,av 43 (.gW (.t 42)),av 44 (.mv (bM 0))] [6,42,43,44] (.block 2 (.loop [6,42,43,44] [80000,720000] [] (bn [av 45 (.cmp .lt (.t 44) (.t 43))] [6,42,43,44,45] (.seq (.cond (.t 45) .skip (.exit 2)) (.seq (.block 3 (bn [av 46 (.ia 1 (.t 42) (.t 44)),dn 47 46,aH 8 47] [6,8,42,43,44] (.reg [aH 48 6,aH 49 8,av 50 (.mn (.t 48) (.t 49)),aH 6 50] [6,42,43,44]))) (.reg [av 51 (.ar .add (.t 44) (bM 1)),aH 44 51] [6,42,43,44]))))))) (bn [aH 52 6,aH 2 52] [2] .ret))))))))⟩
def Yx : CF:=⟨1,[(.t 2),(.t 3)],[],[],(bn [av 1 (.box 42 (.t 0)),av 2 (.mv (.k (.one bZ))),av 3 (.mv dH)] [1] (.seq (bn [bU 5 0 1,bU 6 1 5,dn 7 6,av 8 (.cmp .ne (.t 7) (bM 5)),aH 9 8,bE 10 9 false (.fa 3 (.t 1)),bE 11 9 false (.load 1 false (.t 10)),bE 12 9 false (.gW (.t 11)),bE 13 9 false (.cmp .eq (.t 12) (bM 0)),av 14 (.pick (.t 9) eu (.t 13))] [1,14] (.cond (.t 14) (bn [av 2 (.mv (.k (.one bZ))),av 3 (.mv dH)] [2,3] .ret) .skip)) (bn [bU 15 3 1,dn 16 15,av 17 (.ia 1 (.t 16) (bM 0)),dn 18 17,av 19 (.call false 105 [(bM 5),(.t 18)]),aH 4 19] [4] (.seq (bn [aH 20 4,av 21 (.gW (.t 20)),av 22 (.cmp .eq (.t 21) (bM 0))] [4,22] (.cond (.t 22) (bn [av 2 (.mv (.k (.one bZ))),av 3 (.mv dH)] [2,3] .ret) .skip)) (bn [aH 23 4,av 24 (.ia 1 (.t 23) (bM 0)),dn 25 24,aH 2 25,av 3 (.mv eu)] [2,3] .ret)))))⟩
def c59 : CF:=⟨3,[(.cell 6 7 true),(.t 7)],[],[],(bn [av 3 (.box 33 (.t 0)),av 5 (.box 24 (.t 2)),av 6 (.alloc 135 [bZ,aW,aW,.dz,aW,aW,aW]),av 7 (.mv dH)] [1,3,5,6] (bn [dh 11 3 3,aH 12 1,dh 13 3 5,av 14 (.call false 73 [(.t 11),(.t 12),(.t 13)]),aH 10 14,av 15 (.ext (.t 10) 0),av 16 (.ext (.t 10) 1),av 8 (.alloc 135 [bZ,aW,aW,.dz,aW,aW,aW]),dB (.store 7 (.t 8) (.t 15)),aH 9 16] [6,8,9] (.seq (.qc [⟨dh 17 7 8,[]⟩,⟨aH 18 9,[]⟩,⟨aH 19 18,[]⟩,⟨bE 20 19 true (.fa 6 (.t 8)),[]⟩,⟨bE 21 19 true (.load 1 false (.t 20)),[]⟩,⟨bE 22 19 true (.call false 104 [(.t 21)]),[]⟩,⟨av 23 (.pick (.t 19) (.t 22) dH),[]⟩] [6] [dB (.store 7 (.t 6) (.t 17))] [aH 7 23] [6,7]) .ret)))⟩
def c15 : CF:=⟨4,[(.cell 8 9 true)],[],[],(bn [av 4 (.box 33 (.t 0)),av 5 (.box 36 (.t 1)),av 7 (.box 24 (.t 3)),av 8 (.alloc 51 [.dz,aW,bZ,bZ,aW,aW,.dz,aW,aW])] [2,4,5,7,8] (bn [av 9 (.alloc 51 [.dz,aW,bZ,bZ,aW,aW,.dz,aW,aW])] [2,4,5,7,8,9] (bn [bU 23 0 7,dn 24 23,av 25 (.tL 9 1 1 [bZ] [dS 0 1 24]),aH 10 25] [2,4,5,7,8,9,10] (bn [bU 26 0 7,dn 27 26,aH 11 27] [2,4,5,7,8,9,10,11] (.block 0 (.loop [2,4,5,7,8,9,10,11] [20402,40402,100000,120000,160000,180000,200000,220000,520000,1100000,1960000,2481600] [⟨10,1⟩] (.block 1 (bn [aH 28 11,bU 29 2 9,dB (.store 1 (.t 29) (.t 28))] [2,4,5,7,8,9,10,11] (bn [dh 31 3 4,aH 32 2,aH 33 11,bU 34 1 7,dn 35 34,bU 36 2 7,dn 37 36,av 38 (.build [bZ,aW,aW] [dS 0 1 33,dS 1 1 35,dS 2 1 37]),av 39 (.call false 59 [(.t 31),(.t 32),(.t 38)]),aH 30 39,av 40 (.ext (.t 30) 0),av 41 (.ext (.t 30) 1),av 12 (.alloc 135 [bZ,aW,aW,.dz,aW,aW,aW]),dB (.store 7 (.t 12) (.t 40)),aH 13 41] [2,4,5,7,8,9,10,11,12,13] (.seq (bn [aH 42 13] [2,4,5,7,8,9,10,11,12,42] (.cond (.t 42) (bn [bU 43 0 9,dn 44 43,aH 14 44] [2,8,9,12,14] (.seq (.qc [⟨aH 45 14,[1080000]⟩,⟨bU 46 0 12,[1080000]⟩,⟨dh 47 5 46,[1080000]⟩,⟨aH 48 2,[1080000]⟩,⟨bU 49 5 12,[1080000]⟩,⟨dn 50 49,[1080000]⟩,⟨av 51 (.call false 60 [(.t 48),(.t 50)]),[1080000]⟩,⟨av 52 (.build [bZ,aW,aW,.dz,aW,aW] [dS 0 5 47,dS 5 1 51]),[1080000]⟩,⟨av 53 (.tL 49 6 1 [bZ,aW,aW,.dz,aW,aW] [dS 0 6 52]),[]⟩] [] [] [av 54 (.app 49 6 72 (.t 45) (.t 53)),aH 14 54] [8,9,14]) (bn [aH 55 14,bU 56 0 9,dB (.store 1 (.t 56) (.t 55))] [8,9] (bn [dh 57 9 9,dB (.store 9 (.t 8) (.t 57))] [8] .ret)))) .skip)) (bn [dh 59 3 4,aH 60 2,aH 61 11,bU 62 2 7,dn 63 62,⟨(some 64),none,(.build [bZ,aW,aW] [dS 0 1 61,⟨1,⟨1,(bM 5)⟩⟩,dS 2 1 63])⟩,av 65 (.call false 59 [(.t 59),(.t 60),(.t 64)]),aH 58 65,av 66 (.ext (.t 58) 0),av 67 (.ext (.t 58) 1),av 15 (.alloc 135 [bZ,aW,aW,.dz,aW,aW,aW]),dB (.store 7 (.t 15) (.t 66)),aH 16 67] [2,4,5,7,8,9,10,11,15,16] (bn [bU 69 0 15,dh 70 5 69,av 71 (.call false 61 [(.t 70)]),aH 68 71,av 72 (.ext (.t 68) 0),av 73 (.ext (.t 68) 1),aH 17 72,aH 18 73] [2,4,5,7,8,9,10,11,15,16,17,18] (.seq (bn [bU 74 1 7,dn 75 74,av 76 (.cmp .ne (.t 75) (bM 5)),aH 77 76,bE 78 77 true (.mv (.t 16)),av 79 (.pick (.t 77) (.t 78) dH),aH 80 79,bE 81 80 true (.mv (.t 18)),av 82 (.pick (.t 80) (.t 81) dH)] [2,4,5,7,8,9,10,11,15,17,82] (.cond (.t 82) (bn [bU 83 0 9,dn 84 83,av 85 (.gW (.t 84)),aH 19 85] [2,4,5,7,8,9,10,15,17,19] (bn [bU 86 0 9,dn 87 86,aH 20 87] [2,4,5,7,8,9,10,15,17,19,20] (.seq (.qc [⟨aH 88 20,[1940000]⟩,⟨bU 89 0 15,[1940000]⟩,⟨dh 90 5 89,[1940000]⟩,⟨aH 91 2,[1940000]⟩,⟨bU 92 5 15,[1940000]⟩,⟨dn 93 92,[1940000]⟩,⟨av 94 (.call false 60 [(.t 91),(.t 93)]),[1940000]⟩,⟨av 95 (.build [bZ,aW,aW,.dz,aW,aW] [dS 0 5 90,dS 5 1 94]),[1940000]⟩,⟨av 96 (.tL 49 6 1 [bZ,aW,aW,.dz,aW,aW] [dS 0 6 95]),[]⟩] [] [] [av 97 (.app 49 6 72 (.t 88) (.t 96)),aH 20 97] [2,4,5,7,8,9,10,17,19,20]) (bn [aH 98 20,bU 99 0 9,dB (.store 1 (.t 99) (.t 98))] [2,4,5,7,8,9,10,17,19] (.seq (bn [aH 100 19,av 101 (.cmp .ge (.t 100) (bM 8)),aH 102 101,bE 103 102 false (.mv (.t 10)),bE 104 102 false (.mv (.t 17)),bE 105 102 false (.call false 39 [(.t 103),(.t 104)]),av 106 (.pick (.t 102) eu (.t 105))] [2,4,5,7,8,9,10,17,106] (.cond (.t 106) (bn [bU 107 1 9,dB (.store 1 (.t 107) (bM 4))] [8,9] (bn [dh 108 9 9,dB (.store 9 (.t 8) (.t 108))] [8] .ret)) .skip)) (bn [aH 109 10,aH 110 17,av 111 (.tL 9 1 1 [bZ] [dS 0 1 110]),av 112 (.app 9 1 16 (.t 109) (.t 111)),aH 10 112] [2,4,5,7,8,9,10,17] (bn [aH 113 17,aH 11 113] [2,4,5,7,8,9,10,11] (.exit 1)))))))) .skip)) (bn [dh 115 3 5,aH 116 2,aH 117 11,bU 118 1 7,dn 119 118,bU 120 2 7,dn 121 120,av 122 (.build [bZ,aW,aW] [dS 0 1 117,dS 1 1 119,dS 2 1 121]),av 123 (.call false 62 [(.t 115),(.t 116),(.t 122)]),aH 114 123,av 124 (.ext (.t 114) 0),av 125 (.ext (.t 114) 1),av 21 (.alloc 140 [bZ,aW,aW,(.f (.bool false)),bZ,aW,aW,.dz,aW,aW]),dB (.store 10 (.t 21) (.t 124)),aH 22 125] [2,8,9,21,22] (.seq (bn [aH 126 22] [2,8,9,21,126] (.cond (.t 126) (bn [bU 127 1 9,dB (.store 1 (.t 127) (bM 1))] [2,8,9,21] (.seq (bn [bU 128 3 21,dn 129 128] [2,8,9,21,129] (.cond (.t 129) (.reg [bU 130 1 9,dB (.store 1 (.t 130) (bM 2))] [2,8,9,21]) .skip)) (.seq (.qc [⟨bU 131 4 21,[]⟩,⟨dh 132 5 131,[]⟩,⟨aH 133 2,[]⟩,⟨bU 134 9 21,[]⟩,⟨dn 135 134,[]⟩,⟨av 136 (.call false 60 [(.t 133),(.t 135)]),[]⟩] [] [] [av 137 (.build [bZ,aW,aW,.dz,aW,aW] [dS 0 5 132,dS 5 1 136]),bU 138 3 9,dB (.store 6 (.t 138) (.t 137))] [8,9]) (bn [dh 139 9 9,dB (.store 9 (.t 8) (.t 139))] [8] .ret)))) .skip)) (bn [bU 140 1 9,dB (.store 1 (.t 140) (bM 3))] [8,9] (bn [dh 141 9 9,dB (.store 9 (.t 8) (.t 141))] [8] .ret)))))))))))))))))⟩
def c20 : CF:=⟨1,[(.t 2)],[],[],(bn [av 1 (.box 51 (.t 0)),av 2 (.mv (.k (.one .dz)))] [1] (bn [av 3 (.mv (.k (.one .dz)))] [1,3] (.seq (bn [av 4 (.mv (bM 0))] [1,3,4] (.block 0 (.loop [1,3,4] [20202,21402,40000,80000] [⟨3,3⟩] (.seq (bn [aH 5 4,bU 6 0 1,dn 7 6,av 8 (.gW (.t 7)),av 9 (.cmp .lt (.t 5) (.t 8))] [1,3,4,9] (.cond (.t 9) .skip (.exit 0))) (.seq (.block 1 (.reg [aH 12 3,bU 13 0 1,dn 14 13,aH 15 4,av 16 (.ia 6 (.t 14) (.t 15)),bU 17 0 16,bU 18 0 17,dh 19 3 18,av 20 (.tL 24 3 1 [bZ,aW,aW] [dS 0 3 19]),av 21 (.app 24 3 32 (.t 12) (.t 20)),aH 3 21] [1,3,4])) (.reg [aH 10 4,av 11 (.ar .add (.t 10) (bM 1)),aH 4 11] [1,3,4])))))) (bn [aH 22 3,aH 2 22] [2] .ret))))⟩
def EP : CF:=⟨1,[(.t 2)],[],[],(bn [av 1 (.box 51 (.t 0)),av 2 (.mv (bM 0))] [1] (bn [av 3 (.mv (.k (.one .dz)))] [1,3] (.seq (bn [av 4 (.mv (bM 0))] [1,3,4] (.block 0 (.loop [1,3,4] [20202,21402,40000,80000,740000] [⟨3,1⟩] (.seq (bn [aH 7 4,bU 8 0 1,dn 9 8,av 10 (.gW (.t 9)),av 11 (.cmp .lt (.t 7) (.t 10))] [1,3,4,11] (.cond (.t 11) .skip (.exit 0))) (.seq (.block 1 (.reg [aH 14 3,bU 15 0 1,dn 16 15,aH 17 4,av 18 (.ia 6 (.t 16) (.t 17)),bU 19 5 18,dn 20 19,av 21 (.tL 3 1 1 [aW] [dS 0 1 20]),av 22 (.app 3 1 8 (.t 14) (.t 21)),aH 3 22] [1,3,4])) (.reg [aH 12 4,av 13 (.ar .add (.t 12) (bM 1)),aH 4 13] [1,3,4])))))) (.seq (bn [bU 23 1 1,dn 24 23,av 25 (.cmp .eq (.t 24) (bM 1)),aH 26 25,bE 27 26 false (.fa 1 (.t 1)),bE 28 26 false (.load 1 false (.t 27)),bE 29 26 false (.cmp .eq (.t 28) (bM 2)),av 30 (.pick (.t 26) eu (.t 29))] [1,3,30] (.cond (.t 30) (.reg [aH 31 3,bU 32 3 1,bU 33 5 32,dn 34 33,av 35 (.tL 3 1 1 [aW] [dS 0 1 34]),av 36 (.app 3 1 8 (.t 31) (.t 35)),aH 3 36] [3]) .skip)) (bn [av 5 (.mv (bM 0))] [3,5] (.seq (bn [av 6 (.mv (bM 0))] [3,5,6] (.block 2 (.loop [3,5,6] [80000,740000] [] (.seq (bn [aH 37 6,aH 38 3,av 39 (.gW (.t 38)),av 40 (.cmp .lt (.t 37) (.t 39))] [3,5,6,40] (.cond (.t 40) .skip (.exit 2))) (.seq (.block 3 (bn [aH 43 6,av 44 (.cmp .eq (.t 43) (bM 0)),aH 45 44,bE 46 45 false (.mv (.t 3)),bE 47 45 false (.mv (.t 6)),bE 48 45 false (.ia 1 (.t 46) (.t 47)),bE 49 45 false (.load 1 false (.t 48)),bE 50 45 false (.mv (.t 5)),bE 51 45 false (.cmp .lt (.t 49) (.t 50)),av 52 (.pick (.t 45) eu (.t 51))] [3,5,6,52] (.cond (.t 52) (.reg [aH 53 3,aH 54 6,av 55 (.ia 1 (.t 53) (.t 54)),dn 56 55,aH 5 56] [3,5,6]) .skip))) (.reg [aH 41 6,av 42 (.ar .add (.t 41) (bM 1)),aH 6 42] [3,5,6])))))) (bn [aH 57 5,aH 2 57] [2] .ret)))))))⟩
def c63 : CF:=⟨2,[(.t 4)],[],[],(bn [av 2 (.box 49 (.t 0)),av 3 (.box 49 (.t 1)),av 4 (.mv dH)] [2,3] (bn [bU 5 0 2,dh 6 5 5,bU 7 0 3,dh 8 5 7,av 9 (.call false 107 [(.t 6),(.t 8)]),aH 10 9,bE 11 10 true (.fa 5 (.t 2)),bE 12 10 true (.load 1 false (.t 11)),bE 13 10 true (.fa 5 (.t 3)),bE 14 10 true (.load 1 false (.t 13)),bE 15 10 true (.cmp .eq (.t 12) (.t 14)),av 16 (.pick (.t 10) (.t 15) dH),aH 4 16] [4] .ret))⟩
def c16 : CF:=⟨2,[(.t 4)],[],[],(bn [av 2 (.box 51 (.t 0)),av 3 (.box 51 (.t 1)),av 4 (.mv dH)] [2,3] (.seq (bn [bU 6 0 2,dn 7 6,av 8 (.gW (.t 7)),bU 9 0 3,dn 10 9,av 11 (.gW (.t 10)),av 12 (.cmp .ne (.t 8) (.t 11)),aH 13 12,bE 14 13 false (.fa 1 (.t 2)),bE 15 13 false (.load 1 false (.t 14)),bE 16 13 false (.fa 1 (.t 3)),bE 17 13 false (.load 1 false (.t 16)),bE 18 13 false (.cmp .ne (.t 15) (.t 17)),av 19 (.pick (.t 13) eu (.t 18)),aH 20 19,bE 21 20 false (.fa 2 (.t 2)),bE 22 20 false (.load 1 false (.t 21)),bE 23 20 false (.fa 2 (.t 3)),bE 24 20 false (.load 1 false (.t 23)),bE 25 20 false (.uK (.one .str) true (.t 22) (.t 24)),av 26 (.pick (.t 20) eu (.t 25)),aH 27 26,bE 28 27 false (.fa 3 (.t 2)),bE 29 27 false (.load 6 true (.t 28)),bE 30 27 false (.fa 3 (.t 3)),bE 31 27 false (.load 6 true (.t 30)),bE 32 27 false (.call false 63 [(.t 29),(.t 31)]),bE 33 27 false (.no (.t 32)),av 34 (.pick (.t 27) eu (.t 33))] [2,3,34] (.cond (.t 34) (bn [av 4 (.mv dH)] [4] .ret) .skip)) (.seq (bn [av 5 (.mv (bM 0))] [2,3,5] (.block 0 (.loop [2,3,5] [20202,21402,40202,41402,60000,80000] [] (.seq (bn [aH 35 5,bU 36 0 2,dn 37 36,av 38 (.gW (.t 37)),av 39 (.cmp .lt (.t 35) (.t 38))] [2,3,5,39] (.cond (.t 39) .skip (.exit 0))) (.seq (.block 1 (.seq (.qc [⟨bU 42 0 2,[]⟩,⟨dn 43 42,[]⟩,⟨aH 44 5,[]⟩,⟨av 45 (.ia 6 (.t 43) (.t 44)),[]⟩,⟨dh 46 6 45,[]⟩,⟨bU 47 0 3,[]⟩,⟨dn 48 47,[]⟩,⟨aH 49 5,[]⟩,⟨av 50 (.ia 6 (.t 48) (.t 49)),[]⟩,⟨dh 51 6 50,[]⟩] [] [] [av 52 (.call false 63 [(.t 46),(.t 51)]),av 53 (.no (.t 52))] [2,3,5,53]) (.cond (.t 53) (bn [av 4 (.mv dH)] [4] .ret) .skip))) (.reg [aH 40 5,av 41 (.ar .add (.t 40) (bM 1)),aH 5 41] [2,3,5])))))) (bn [av 4 (.mv eu)] [4] .ret))))⟩
def OA : CF:=⟨2,[(.t 4)],[],[],(bn [av 4 (.mv (bM 0))] [0,1] (.seq (bn [aH 5 0,aH 6 1,av 7 (.call false 78 [(.t 5),(.t 6)]),av 8 (.no (.t 7))] [0,1,8] (.cond (.t 8) (bn [av 4 (.mv (bM 0))] [4] .ret) .skip)) (bn [aH 9 1,aH 10 0,av 11 (.ar .sub (.t 9) (.t 10)),av 12 (.mn (.t 11) (bM 604800)),aH 4 12] [4] .ret)))⟩
def SL : CF:=⟨1,[(.t 2)],[],[],(bn [av 2 (.mv dH)] [0] (bn [aH 3 0,av 4 (.call false 122 [(.t 3),(bM 3)]),aH 2 4] [2] .ret))⟩
def SN : CF:=⟨1,[(.t 2)],[],[],(bn [av 2 (.mv dH)] [0] (bn [aH 3 0,av 4 (.cmp .ge (.t 3) (bM 3)),aH 5 4,bE 6 5 true (.mv (.t 0)),bE 7 5 true (.cmp .le (.t 6) (bM 5)),av 8 (.pick (.t 5) (.t 7) dH),aH 2 8] [2] .ret))⟩
def c60 : CF:=⟨2,[(.t 4)],[],[],(bn [av 4 (.mv (bM 0))] [0,1] (.seq (bn [aH 5 0,aH 6 1,av 7 (.call false 94 [(.t 5),(.t 6)]),av 8 (.no (.t 7))] [0,1,8] (.cond (.t 8) (bn [av 4 (.mv (bM 0))] [4] .ret) .skip)) (bn [aH 9 1,aH 10 0,av 11 (.ar .sub (.t 9) (.t 10)),av 12 (.mn (.t 11) (bM 604800)),aH 4 12] [4] .ret)))⟩
def zN : List (FuncId × CF):=[(48,Rj),(52,c52),(54,c54),(73,c73),(43,Yu),(18,c18),(107,c107),(45,Rk),(91,c91),(92,c92),(93,c93),(94,c94),(95,c95),(96,c96),(97,c97),(82,c82),(84,Yv),(79,c79),(85,c85),(86,c86),(78,c78),(116,c116),(38,FT),(113,Sw),(99,c99),(39,Rm),(111,Sy),(114,Sz),(134,SA),(135,SB),(131,c131),(133,SC),(121,SE),(122,SF),(149,SG),(148,c148),(49,c49),(53,c53),(87,c87),(98,c98),(55,c55),(51,c51),(62,c62),(103,LJ),(100,SH),(88,c88),(89,c89),(90,c90),(106,SI),(3,c3),(10,c10),(12,c12),(13,c13),(17,c17),(46,c46),(11,c11),(47,M9),(56,V5),(57,V6),(58,Yw),(14,c14),(19,c19),(21,c21),(61,Yx),(59,c59),(15,c15),(20,c20),(22,EP),(63,c63),(16,c16),(102,OA),(101,SL),(104,SN),(60,c60)]
end
section
attribute [local go_sem_proc] Nat.reduceAdd Nat.reduceMul Nat.reduceEqDiff Nat.reduceBEq Nat.reduceMod Nat.reduceDiv reduceCtorEq
attribute [local go_sem_proc ↓] reduceIte
open Go Ev
variable {ext : Env} {F n:Nat}
noncomputable abbrev G (ext:Env) (F n:Nat):Env:=Gm zN ext F n
theorem yE {x:Int} (h1:-9223372036854775808 ≤ x) (h2:x ≤ 9223372036854775807):IntKind.i64.wrap x = x:=by
 rw [IntKind.wrap_i64];omega
abbrev vi (x:Int):AV:=.one (.f (.int .i64 x))
abbrev vb (b:Bool):AV:=.one (.f (.bool b))
abbrev vs (s:ByteArray):AV:=.one (.f (.str s))
abbrev vl (l:List (List FV)):AV:=.one (.f (.sl l))
def dx (s:ByteArray):List FV:=[.str s]
abbrev vq (q:ByteArray) (t c:Int):AV:=.agg [.f (.str q),.f (.int .i64 t),.f (.int .i64 c)]
abbrev mY (q:ByteArray) (t c:Int) (d:List ByteArray) (ttl:Int):AV:=.agg [.f (.str q),.f (.int .i64 t),.f (.int .i64 c),.f (.sl (d.map dx)),.f (.int .i64 ttl)]
theorem FU (x:Int):G ext F (n + 1) 121 [vi x] = some ([vb (decide (0 ≤ x ∧ x ≤ 65535))],[vi x]):=by
 refine cZ (cf:=SE) rfl ?_
 dsimp only [SE,av,dB,bE,bM,aW,bZ,dS,eu,dH,aH,dn,dh,bU,bn];simp only [go_sem]
 repeat' (refine bQ (fun h=>?_) (fun h=>?_) <;> simp only [h,go_sem])
 all_goals (simp only [alL,alS] at *;simp;try omega)
theorem V7 (x m:Int):G ext F (n + 1) 131 [vi x,vi m] = some ([vb (decide (0 ≤ x ∧ x ≤ m))],[vi x,vi m]):=by
 refine cZ (cf:=c131) rfl ?_
 dsimp only [c131,av,dB,bE,bM,aW,bZ,dS,eu,dH,aH,dn,dh,bU,bn];simp only [go_sem]
 repeat' (refine bQ (fun h=>?_) (fun h=>?_) <;> simp only [h,go_sem])
 all_goals (simp only [alL,alS] at *;simp;try omega)
theorem sw (x m:Int):G ext F (n + 1) 111 [vi x,vi m] = some ([vb (decide (0 ≤ x ∧ x ≤ m))],[vi x,vi m]):=by
 refine cZ (cf:=Sy) rfl ?_
 dsimp only [Sy,av,dB,bE,bM,aW,bZ,dS,eu,dH,aH,dn,dh,bU,bn];simp only [go_sem]
 repeat' (refine bQ (fun h=>?_) (fun h=>?_) <;> simp only [h,go_sem])
 all_goals (simp only [alL,alS] at *;simp;try omega)
theorem IE (x m:Int):G ext F (n + 1) 122 [vi x,vi m] = some ([vb (decide (m ≤ x ∧ x ≤ 5))],[vi x,vi m]):=by
 refine cZ (cf:=SF) rfl ?_
 dsimp only [SF,av,dB,bE,bM,aW,bZ,dS,eu,dH,aH,dn,dh,bU,bn];simp only [go_sem]
 repeat' (refine bQ (fun h=>?_) (fun h=>?_) <;> simp only [h,go_sem])
 all_goals (simp only [alL,alS] at *;simp;try omega)
def D8 (x:Int):Bool:=decide (0 ≤ x ∧ x ≤ 1099511627776)
def cu (now ttl:Int):Int:=if D8 now = true ∧ 0 ≤ ttl then now + (if ttl ≤ 604800 then ttl else 604800) else -1
def eY (now u:Int):Bool:=D8 now && decide (now < u)
def pK (old:Int) (l:Bool) (now:Int):Bool:=decide (1 ≤ now ∧ now ≤ 5) && (!l || decide (old ≤ now))
theorem kT (x:Int):G ext F (n + 1) 91 [vi x] = some ([vb (D8 x)],[vi x]):=by
 refine cZ (cf:=c91) rfl ?_
 dsimp only [c91,av,dB,bE,bM,aW,bZ,dS,eu,dH,aH,dn,dh,bU,bn];simp only [go_sem]
 repeat' (refine bQ (fun h=>?_) (fun h=>?_) <;> simp only [h,go_sem])
 all_goals (simp only [alL,alS] at *;simp [D8];try omega)
theorem kr (x u:Int):G ext F (n + 2) 78 [vi x,vi u] = some ([vb (eY x u)],[vi x,vi u]):=by
 refine cZ (cf:=c78) rfl ?_
 dsimp only [c78,av,dB,bE,bM,aW,bZ,dS,eu,dH,aH,dn,dh,bU,bn];simp only [sw,go_sem]
 repeat' (refine bQ (fun h=>?_) (fun h=>?_) <;> simp only [h,sw,go_sem])
 all_goals (simp only [alL,alS] at *;simp [D8,eY];try omega)
theorem jI (x u:Int):G ext F (n + 2) 94 [vi x,vi u] = some ([vb (eY x u)],[vi x,vi u]):=by
 refine cZ (cf:=c94) rfl ?_
 dsimp only [c94,av,dB,bE,bM,aW,bZ,dS,eu,dH,aH,dn,dh,bU,bn];simp only [kT,go_sem]
 repeat' (refine bQ (fun h=>?_) (fun h=>?_) <;> simp only [h,kT,go_sem])
 all_goals (simp_all [eY])
theorem SQ {x t:Int} (h:0 ≤ x ∧ x ≤ 1099511627776) (ht:0 ≤ t):IntKind.i64.wrap (x + if 604800 < t then 604800 else t) = x + if t ≤ 604800 then t else 604800:=by
 have e:(if 604800 < t then (604800:Int) else t) = if t ≤ 604800 then t else 604800:=by split <;> split <;> omega
 rw [e]
 refine yE ?_ ?_ <;> split <;> omega
theorem Co {x t:Int} (h:0 ≤ x ∧ x ≤ 1099511627776) (ht:¬ t < 0):cu x t = IntKind.i64.wrap (x + if 604800 < t then 604800 else t):=by
 rw [SQ h (by omega)]
 simp only [cu,D8,alL]
 rw [alx (show (0 ≤ x ∧ x ≤ 1099511627776) ∧ 0 ≤ t from ⟨h,by omega⟩)]
theorem zP {x t:Int} (h:¬ ((0 ≤ x ∧ x ≤ 1099511627776) ∧ 0 ≤ t)):cu x t = -1:=by
 simp only [cu,D8,alL]
 rw [aly h]
theorem zQ (x t:Int):G ext F (n + 2) 82 [vi x,vi t] = some ([vi (cu x t)],[vi x,vi t]):=by
 refine cZ (cf:=c82) rfl ?_
 dsimp only [c82,av,dB,bE,bM,aW,bZ,dS,eu,dH,aH,dn,dh,bU,bn];simp only [sw,go_sem]
 repeat' (refine bQ (fun h=>?_) (fun h=>?_) <;> simp only [h,sw,go_sem])
 all_goals (simp only [D8,alL,alS] at *;first | rw [Co (by assumption) (by omega)] | rw [zP (by omega)])
theorem nN (x t:Int):G ext F (n + 2) 93 [vi x,vi t] = some ([vi (cu x t)],[vi x,vi t]):=by
 refine cZ (cf:=c93) rfl ?_
 dsimp only [c93,av,dB,bE,bM,aW,bZ,dS,eu,dH,aH,dn,dh,bU,bn];simp only [kT,go_sem]
 repeat' (refine bQ (fun h=>?_) (fun h=>?_) <;> simp only [h,kT,go_sem])
 all_goals (simp only [D8,alL,alS] at *;first | rw [Co (by assumption) (by omega)] | rw [zP (by omega)])
theorem J3 (o x:Int) (l:Bool):G ext F (n + 2) 114 [vi o,vb l,vi x] = some ([vb (pK o l x)],[vi o,vb l,vi x]):=by
 refine cZ (cf:=Sz) rfl ?_
 dsimp only [Sz,av,dB,bE,bM,aW,bZ,dS,eu,dH,aH,dn,dh,bU,bn];simp only [IE,go_sem]
 repeat' (refine bQ (fun h=>?_) (fun h=>?_) <;> simp only [h,IE,go_sem])
 all_goals (simp only [alL,alS] at *;simp_all [pK];try omega)
theorem FX (o x:Int) (l:Bool):G ext F (n + 1) 96 [vi o,vb l,vi x] = some ([vb (pK o l x)],[vi o,vb l,vi x]):=by
 refine cZ (cf:=c96) rfl ?_
 dsimp only [c96,av,dB,bE,bM,aW,bZ,dS,eu,dH,aH,dn,dh,bU,bn];simp only [go_sem]
 repeat' (refine bQ (fun h=>?_) (fun h=>?_) <;> simp only [h,go_sem])
 all_goals (simp only [alL,alS] at *;simp_all [pK];try omega)
end
section
attribute [local go_sem_proc] Nat.reduceAdd Nat.reduceMul Nat.reduceEqDiff Nat.reduceBEq Nat.reduceMod Nat.reduceDiv reduceCtorEq
attribute [local go_sem_proc ↓] reduceIte
open Go Ev
variable {ext : Env} {F n:Nat}
theorem at_ {α:Type} {l:List α} {i:Nat} (h:i < l.length):∃ x,l[i]? = some x ∧ decide ((i:Int) < (l.length:Int)) = true ∧ ((i:Int).toNat = i) ∧ (0:Int) ≤ i:=⟨_,alT h,by simpa using h,by simp,by omega⟩
theorem end_ {α:Type} {l:List α}:decide ((l.length:Int) < (l.length:Int)) = false:=by simp
theorem nx {i N:Nat} (h:i < N) (hN:N ≤ 200000000000000):IntKind.i64.wrap ((i:Int) + 1) = ((i + 1:Nat):Int):=by rw [yE (by omega) (by omega)];omega
def xQ (l:List ByteArray) (s:ByteArray):Bool:=l.any fun x=>decide (x = s)
theorem FY {l:List ByteArray} {s x:ByteArray} {i:Nat} (h:l[i]? = some x):xQ (l.take (i + 1)) s = (xQ (l.take i) s || decide (x = s)):=by
 unfold xQ
 have hi:=(amm.mp h)
 rw [al7,h,List.any_append]
 simp
theorem OB {l:List ByteArray} {s x:ByteArray} {i:Nat} (h:l[i]? = some x) (hx:x = s):xQ l s = true:=by
 unfold xQ
 exact amF.mpr ⟨x,amH h,by simpa using hx⟩
theorem J4 {l:List ByteArray} {s:ByteArray} (h:xQ (l.take l.length) s = false):xQ l s = false:=by rwa [al3] at h
theorem V8 (l:List ByteArray) (s:ByteArray) (hl:l.length ≤ 1000000000000) (hF:200000000000001 ≤ F):G ext F (n + 1) 39 [vl (l.map dx),vs s] = some ([vb (xQ l s)],[vl (l.map dx),vs s]):=by
 refine cZ (cf:=Rm) rfl ?_
 dsimp only [Rm,av,dB,bE,bM,aW,bZ,dS,eu,dH,aH,dn,dh,bU,bn];simp only [go_sem]
 refine JZ l.length (fun i=>⟨[(0,PV.c (CV.one (PL.f (FV.sl (l.map dx))))),(1,PV.c (CV.one (PL.f (FV.str s)))),(5,PV.c (CV.one (PL.f (FV.int .i64 i))))],[]⟩) (fun i=>xQ (l.take i) s = false) (by omega) rfl (fun i hi hP=>?_) (fun hP=>?_)
 ·obtain ⟨x,hx,hd,ht,h0⟩:=at_ hi
  have hn:=nx hi (alU hl (by decide))
  have hs:=FY (s:=s) hx
  simp only [alA,alG,hd,hx,ht,h0,dx,go_sem]
  repeat' (refine bQ (fun h=>?_) (fun h=>?_) <;> simp only [h,alA,alG,hd,hx,ht,h0,hn,dx,go_sem])
  ·rw [OB hx (by simp at h;first | exact h | exact h.symm)]
  ·rw [hs,hP];simp at h ⊢;first | exact h | exact fun e=>h e.symm
 ·have hd:=@end_ _ l
  simp only [alA,hd,go_sem]
  repeat' (refine bQ (fun h=>?_) (fun h=>?_) <;> simp only [h,alA,hd,go_sem])
  simp only [J4 hP]
theorem SS (l:List ByteArray) (s:ByteArray) (hl:l.length ≤ 1000000000000) (hF:200000000000001 ≤ F):∃ z:Int,(decide (0 ≤ z) = xQ l s) ∧ G ext F (n + 1) 148 [vl (l.map dx),vs s] = some ([vi z],[vl (l.map dx),vs s]):=by
 suffices h:W (fun r=>∃ z:Int,(decide (0 ≤ z) = xQ l s) ∧ r = ([vi z],[vl (l.map dx),vs s])) ⟨⟩ (G ext F (n + 1) 148 [vl (l.map dx),vs s]) by
  obtain ⟨r,h1,z,h2,h3⟩:=h
  exact ⟨z,h2,by rw [h1,h3]⟩
 show W _ _ (M5 _ F c148 _)
 dsimp only [c148,av,dB,bE,bM,aW,bZ,dS,eu,dH,aH,dn,dh,bU,bn];simp only [go_sem]
 refine JZ l.length (fun i=>⟨[(0,PV.c (CV.one (PL.f (FV.sl (l.map dx))))),(1,PV.c (CV.one (PL.f (FV.str s)))),(7,PV.c (CV.one (PL.f (FV.int .i64 (l.map dx).length)))),(8,PV.c (CV.one (PL.f (FV.int .i64 i))))],[]⟩) (fun i=>xQ (l.take i) s = false) (by omega) rfl (fun i hi hP=>?_) (fun hP=>?_)
 ·obtain ⟨x,hx,hd,ht,h0⟩:=at_ hi
  have hn:=nx hi (alU hl (by decide))
  have hs:=FY (s:=s) hx
  simp only [alA,alG,hd,hx,ht,h0,dx,go_sem]
  repeat' (refine bQ (fun h=>?_) (fun h=>?_) <;> simp only [h,alA,alG,hd,hx,ht,h0,hn,dx,go_sem])
  ·exact ⟨i,by rw [OB hx (by simp at h;first | exact h | exact h.symm)];simp,rfl⟩
  ·rw [hs,hP];simp at h ⊢;first | exact h | exact fun e=>h e.symm
 ·have hd:=@end_ _ l
  simp only [alA,hd,go_sem]
  repeat' (refine bQ (fun h=>?_) (fun h=>?_) <;> simp only [h,alA,hd,go_sem])
  exact ⟨-1,by rw [J4 hP];rfl,rfl⟩
theorem FZ (l:List ByteArray) (s:ByteArray) (hl:l.length ≤ 1000000000000) (hF:200000000000001 ≤ F):G ext F (n + 2) 133 [vl (l.map dx),vs s] = some ([vb (xQ l s)],[vl (l.map dx),vs s]):=by
 refine cZ (cf:=SC) rfl ?_
 obtain ⟨z,hz,h⟩:=SS (ext:=ext) (F:=F) (n:=n) l s hl hF
 dsimp only [SC,av,dB,bE,bM,aW,bZ,dS,eu,dH,aH,dn,dh,bU,bn];simp only [h,go_sem]
 repeat' (refine bQ (fun h=>?_) (fun h=>?_) <;> simp only [h,h,go_sem])
 rw [← hz]
theorem OC (l m:List ByteArray) (hl:l.length ≤ 1000000000000) (hF:200000000000001 ≤ F):G ext F (n + 1) 38 [vl (l.map dx),vl (m.map dx)] = some ([vb (decide (l = m))],[vl (l.map dx),vl (m.map dx)]):=by
 refine cZ (cf:=FT) rfl ?_
 dsimp only [FT,av,dB,bE,bM,aW,bZ,dS,eu,dH,aH,dn,dh,bU,bn];simp only [alA,go_sem]
 repeat' (refine bQ (fun h=>?_) (fun h=>?_) <;> simp only [h,alA,go_sem])
 ·have hlen:l.length = m.length:=by simp at h;omega
  refine JZ l.length (fun i=>⟨[(0,PV.c (CV.one (PL.f (FV.sl (l.map dx))))),(1,PV.c (CV.one (PL.f (FV.sl (m.map dx))))),(5,PV.c (CV.one (PL.f (FV.int .i64 i))))],[]⟩) (fun i=>l.take i = m.take i) (by omega) rfl (fun i hi hP=>?_) (fun hP=>?_)
  ·obtain ⟨x,hx,hd,ht,h0⟩:=at_ hi
   obtain ⟨y,hy,_⟩:=at_ (l:=m) (i:=i) (by omega)
   have hn:=nx hi (alU hl (by decide))
   simp only [alA,alG,hd,hx,hy,ht,h0,dx,go_sem]
   repeat' (refine bQ (fun h=>?_) (fun h=>?_) <;> simp only [h,alA,alG,hd,hx,hy,ht,h0,hn,dx,go_sem])
   ·rw [al7,al7,hP,hx,hy]
    simp at h
    rw [h]
   ·have:l ≠ m:=by rintro rfl;rw [hx] at hy;cases hy;simp at h
    simp [this]
  ·have hd:=@end_ _ l
   simp only [alA,hd,go_sem]
   repeat' (refine bQ (fun h=>?_) (fun h=>?_) <;> simp only [h,alA,hd,go_sem])
   have:l = m:=by rw [← al3 (l:=l),hP,hlen,al3]
   simp [this]
 ·have:l ≠ m:=by rintro rfl;simp at h
  simp [this]
end
section
attribute [local go_sem_proc] Nat.reduceAdd Nat.reduceMul Nat.reduceEqDiff Nat.reduceBEq Nat.reduceMod Nat.reduceDiv reduceCtorEq
attribute [local go_sem_proc ↓] reduceIte
open Go Ev
variable {ext : Env} {F n:Nat}
structure Qn where
 q:ByteArray
 t:Int
 c:Int
 deriving DecidableEq
structure It where
 q:ByteArray
 t:Int
 c:Int
 d:List ByteArray
 ttl:Int
 u:Int
 r:Int
 deriving DecidableEq
structure Op where
 o:Int
 now:Int
 q:ByteArray
 t:Int
 c:Int
 d:List ByteArray
 ttl:Int
 r:Int
def rQ (x:Qn):List FV:=[.str x.q,.int .i64 x.t,.int .i64 x.c]
def rI (x:It):List FV:=[.str x.q,.int .i64 x.t,.int .i64 x.c,.sl (x.d.map dx),.int .i64 x.ttl,.int .i64 x.u,.int .i64 x.r]
abbrev vit (q:ByteArray) (t c:Int) (d:List ByteArray) (ttl u r:Int):AV:=.agg [.f (.str q),.f (.int .i64 t),.f (.int .i64 c),.f (.sl (d.map dx)),.f (.int .i64 ttl),.f (.int .i64 u),.f (.int .i64 r)]
def F4 (k:Nat) (l:List ByteArray):Bool:=l.all fun x=>decide (x.size ≤ 2000) && decide (k ≤ 60)
theorem LK {k:Nat} {l:List ByteArray} {x:ByteArray} {i:Nat} (h:l[i]? = some x):F4 k (l.take (i + 1)) = (F4 k (l.take i) && (decide (x.size ≤ 2000) && decide (k ≤ 60))):=by
 unfold F4
 rw [al7,h,List.all_append]
 simp
theorem J5 {k:Nat} {l:List ByteArray} {x:ByteArray} {i:Nat} (h:l[i]? = some x) (hx:¬ (x.size ≤ 2000 ∧ k ≤ 60)):F4 k l = false:=by
 unfold F4
 refine amg.mpr fun ha=>hx ?_
 have:=alY.mp ha x (amH h)
 simpa using this
def oZ (q:ByteArray) (d:List ByteArray):Bool:=F4 d.length d && decide (q.size ≤ 300)
theorem OD (q:ByteArray) (t c:Int) (d:List ByteArray) (ttl:Int) (hl:d.length ≤ 200000000000000) (hF:200000000000001 ≤ F):G ext F (n + 1) 45 [mY q t c d ttl] = some ([vb (oZ q d)],[mY q t c d ttl]):=by
 refine cZ (cf:=Rk) rfl ?_
 dsimp only [Rk,av,dB,bE,bM,aW,bZ,dS,eu,dH,aH,dn,dh,bU,bn];simp only [go_sem]
 refine JZ d.length (fun i=>⟨[(1,PV.c (CV.one (PL.ptr 40000 0))),(3,PV.c (CV.one (PL.f (FV.int .i64 i))))],[(40000,.gM [.f (.str q),.f (.int .i64 t),.f (.int .i64 c),.f (.sl (d.map dx)),.f (.int .i64 ttl)])]⟩) (fun i=>F4 d.length (d.take i) = true) (by omega) rfl (fun i hi hP=>?_) (fun hP=>?_)
 ·obtain ⟨x,hx,hd,ht,h0⟩:=at_ hi
  have hn:=nx hi (alU hl (by decide))
  simp only [alA,alG,hd,hx,ht,h0,dx,go_sem]
  repeat' (refine bQ (fun h=>?_) (fun h=>?_) <;> simp only [h,alA,alG,hd,hx,ht,h0,hn,dx,go_sem])
  all_goals simp only [alL,alS] at *
  ·simp [oZ,J5 hx (k:=d.length) (by omega)]
  ·simp [oZ,J5 hx (k:=d.length) (by omega)]
  ·rw [LK hx,hP];simp;omega
 ·have hd:=@end_ _ d
  rw [al3] at hP
  simp only [alA,hd,go_sem]
  repeat' (refine bQ (fun h=>?_) (fun h=>?_) <;> simp only [h,alA,hd,go_sem])
  simp [oZ,hP]
  try omega
def OE (a:ByteArray) (t c:Int) (d:List ByteArray) (ttl:Int) (a':ByteArray) (t' c':Int) (d':List ByteArray) (OG:Int):Bool:=decide (a = a' ∧ t = t' ∧ c = c' ∧ ttl = OG ∧ d = d')
theorem SX (a:ByteArray) (t c:Int) (d:List ByteArray) (ttl:Int) (a':ByteArray) (t' c':Int) (d':List ByteArray) (OG:Int) (hl:d.length ≤ 1000000000000) (hF:200000000000001 ≤ F):G ext F (n + 2) 107 [mY a t c d ttl,mY a' t' c' d' OG] = some ([vb (OE a t c d ttl a' t' c' d' OG)],[mY a t c d ttl,mY a' t' c' d' OG]):=by
 refine cZ (cf:=c107) rfl ?_
 have ht:=fun n=>OC (ext:=ext) (F:=F) (n:=n) d d' hl hF
 dsimp only [c107,av,dB,bE,bM,aW,bZ,dS,eu,dH,aH,dn,dh,bU,bn];simp only [ht,go_sem]
 repeat' (refine bQ (fun h=>?_) (fun h=>?_) <;> simp only [h,ht,go_sem])
 all_goals (simp [OE] at *)
 all_goals (try simp_all)
end
section
attribute [local go_sem_proc] Nat.reduceAdd Nat.reduceMul Nat.reduceEqDiff Nat.reduceBEq Nat.reduceMod Nat.reduceDiv reduceCtorEq
attribute [local go_sem_proc ↓] reduceIte
open Go Ev
variable {ext : Env} {F n:Nat}
theorem gZ {body:St → Option (Out × St)} {rs:St → St} {k:Out × St → Prop} {u:Tok k} {F:Nat} {σ:St} (N:Nat) (T:Nat → St) (P:Nat → Prop) (hF:N < F) (hs:rs σ = T 0) (h0:P 0)
  (step:∀ i,i < N → P i → W (fun p=>match p.1 with
   | .jP=>rs p.2 = T (i + 1) ∧ P (i + 1)
   | o=>k (o,p.2)) ⟨⟩ (body (T i)))
  (last:P N → W (fun p=>match p.1 with
   | .jP=>False
   | o=>k (o,p.2)) ⟨⟩ (body (T N))):W k u (iter body rs F σ):=by
 refine D7 (fun m σ=>∃ i,i ≤ N ∧ m = N - i ∧ rs σ = T i ∧ P i) ?_ F N σ hF ⟨0,amn _,rfl,hs,h0⟩
 rintro m σ ⟨i,hi,rfl,hr,hP⟩
 rw [hr]
 by_cases hlt:i < N
 ·refine wT (step i hlt hP) fun p hp=>?_
  obtain ⟨o,s⟩:=p
  cases o with
  | jP=>exact ⟨N - (i + 1),by omega,i + 1,by omega,rfl,hp.1,hp.2⟩
  | ext j=>exact hp
  | ret=>exact hp
 ·have:i = N:=by omega
  subst this
  refine wT (last hP) fun p hp=>?_
  obtain ⟨o,s⟩:=p
  cases o with
  | jP=>exact hp.elim
  | ext j=>exact hp
  | ret=>exact hp
def nr2 (s:Nat) (l:List (Nat × Nat)) (σ:St):Option St → St
 | some t=>jP ⟨put t.tm s (.c (.one (.own (dY s) 0))),t.ob⟩ l
 | none=>jP σ l
def nr1 (σ:St) (s sz:Nat) (l:List (Nat × Nat)):Option PV → St
 | some (.c (.one .dz))=>if sz = 0 then jP σ l else nr2 s l σ (new σ (dY s) (.row sz []))
 | _=>jP σ l
@[go_sem] theorem ab9 {σ:St} {s sz:Nat} {l:List (Nat × Nat)}:jP σ ((s,sz) :: l) = nr1 σ s sz l (get σ.tm s):=by
 unfold nr1 nr2
 rw [jP]
 split <;> first | rfl | (split <;> first | rfl | (split <;> simp_all))
@[go_sem] theorem afq {σ:St} {s sz key n:Nat} {l:List (Nat × Nat)}:nr1 σ s sz l (some (.c (.one (.own key n)))) = jP σ l:=rfl
@[go_sem] theorem aj0 {σ:St} {s sz:Nat} {l:List (Nat × Nat)} {x:FV}:nr1 σ s sz l (some (.c (.one (.f x)))) = jP σ l:=rfl
@[go_sem] theorem afr {σ:St} {s sz:Nat} {l:List (Nat × Nat)}:nr1 σ s sz l (some (.c (.one .dz))) = if sz = 0 then jP σ l else nr2 s l σ (new σ (dY s) (.row sz [])):=rfl
@[go_sem] theorem acd {σ τ:St} {s:Nat} {l:List (Nat × Nat)}:nr2 s l σ (some τ) = jP ⟨put τ.tm s (.c (.one (.own (dY s) 0))),τ.ob⟩ l:=rfl
abbrev It.k (x:It):Qn:=⟨x.q,x.t,x.c⟩
abbrev Yy (room:Int) (l:List It) (ch:Int):AV:=.agg [.f (.int .i64 room),.f (.sl (l.map rI)),.f (.int .i64 ch)]
def OH (l:List It) (k:Qn):Int:=match l.findIdx? fun x=>decide (x.k = k) with | some i=>i | none=>-1
theorem SY {l:List It} {k:Qn} (h:∀ x ∈ l,x.k ≠ k):OH l k = -1:=by
 have:l.findIdx? (fun x=>decide (x.k = k)) = none:=ano.mpr fun x hx=>by simpa using h x hx
 simp [OH,this]
theorem Yz {l:List It} {k:Qn} {i:Nat} {x:It} (h:∀ x ∈ l.take i,x.k ≠ k) (hx:l[i]? = some x) (hk:x.k = k):OH l k = i:=by
 have hi:=(amm.mp hx)
 have:l.findIdx? (fun x=>decide (x.k = k)) = some i:=by
  refine amY.mpr ⟨hi.1,by simp [hi.2,hk],fun j hj=>?_⟩
  have:=h (l[j]'(by have:=hi.1;omega)) (by rw [anB];exact ⟨j,by have:=hi.1;omega,rfl⟩)
  simpa using this
 simp [OH,this]
theorem all_succ {α:Type} {P:α → Prop} {l:List α} {i:Nat} {x:α} (h:∀ y ∈ l.take i,P y) (hx:l[i]? = some x) (hp:P x):∀ y ∈ l.take (i + 1),P y:=by
 intro y hy
 rw [al7,hx] at hy
 rcases amj.mp hy with hy | hy
 ·exact h y hy
 ·simp at hy;subst hy;exact hp
theorem F5 (room:Int) (l:List It) (ch:Int) (q:ByteArray) (t c:Int) (hl:l.length ≤ 1000000000000) (hF:200000000000001 ≤ F):G ext F (n + 1) 95 [Yy room l ch,vq q t c] = some ([vi (OH l ⟨q,t,c⟩)],[Yy room l ch,vq q t c]):=by
 refine cZ (cf:=c95) rfl ?_
 dsimp only [c95,av,dB,bE,bM,aW,bZ,dS,eu,dH,aH,dn,dh,bU,bn];simp only [go_sem]
 refine gZ l.length (fun i=>⟨[(2,PV.c (CV.one (PL.ptr 60000 0))),(3,PV.c (CV.one (PL.ptr 80000 0))),(5,PV.c (CV.one (PL.f (FV.int .i64 i))))],[(60000,Ob.gM [PL.f (FV.int IntKind.i64 room),PL.f (FV.sl (List.map rI l)),PL.f (FV.int IntKind.i64 ch)]),(80000,Ob.gM [PL.f (FV.str q),PL.f (FV.int IntKind.i64 t),PL.f (FV.int IntKind.i64 c)])]⟩) (fun i=>∀ x ∈ l.take i,x.k ≠ ⟨q,t,c⟩) (by omega) rfl (by simp) (fun i hi hP=>?_) (fun hP=>?_)
 ·obtain ⟨x,hx,hd,ht,h0⟩:=at_ hi
  have hn:=nx hi (alU hl (by decide))
  simp only [alA,alG,hd,hx,ht,h0,rI,go_sem]
  repeat' (refine bQ (fun h=>?_) (fun h=>?_) <;> simp only [h,alA,alG,hd,hx,ht,h0,hn,rI,go_sem])
  ·rw [Yz hP hx (by simpa using h)]
  ·exact all_succ hP hx (by simpa using h)
 ·have hd:=@end_ _ l
  simp only [alA,hd,go_sem]
  repeat' (refine bQ (fun h=>?_) (fun h=>?_) <;> simp only [h,alA,hd,go_sem])
  rw [al3] at hP
  rw [SY hP]
def wo (l:List It) (k:Int):List It:=if 0 ≤ k then l.eraseIdx k.toNat else l
theorem S9 {l:List It} {k:Int} {i:Nat} {x:It} (h:l[i]? = some x):wo (l.take (i + 1)) k = wo (l.take i) k ++ if (i:Int) = k then [] else [x]:=by
 have hi:=(amm.mp h)
 have hlen:(l.take i).length = i:=by have:=hi.1;simp;omega
 unfold wo
 rw [al7,h]
 by_cases h0:0 ≤ k
 ·rw [alx h0,alx h0]
  by_cases h1:(i:Int) = k
  ·rw [alx h1,List.eraseIdx_append_of_length_le (by omega),hlen]
   have:k.toNat = i:=by omega
   rw [this,List.eraseIdx_of_length_le (l:=List.take i l) (by omega)]
   simp
  ·rw [aly h1]
   by_cases h2:k.toNat < i
   ·rw [List.eraseIdx_append_of_lt_length (by omega)];simp
   ·rw [List.eraseIdx_append_of_length_le (by omega),List.eraseIdx_of_length_le (l:=List.take i l) (by omega),hlen,List.eraseIdx_of_length_le (by simp;omega)]
    simp
 ·rw [aly h0,aly h0,aly (by omega)];simp
theorem YA {l:List It} {k:Int}:(wo l k).length ≤ l.length:=by
 unfold wo
 split
 ·exact List.length_eraseIdx_le ..
 ·exact alC _
theorem IG (l:List It) (k:Int) (hl:l.length ≤ 1000000000000) (hF:200000000000001 ≤ F):G ext F (n + 1) 97 [vl (l.map rI),vi k] = some ([.one (.own 7 ((wo l k).map rI))],[vl (l.map rI),vi k]):=by
 refine cZ (cf:=c97) rfl ?_
 dsimp only [c97,av,dB,bE,bM,aW,bZ,dS,eu,dH,aH,dn,dh,bU,bn];simp only [go_sem]
 refine gZ l.length (fun i=>⟨[(0,PV.c (CV.one (PL.f (FV.sl (List.map rI l))))),(1,PV.c (CV.one (PL.f (FV.int IntKind.i64 k)))),(5,PV.c (CV.one (PL.own 120000 ((wo (l.take i) k).map rI).length))),(6,PV.c (CV.one (PL.f (FV.int IntKind.i64 i))))],[(120000,Ob.row 7 ((wo (l.take i) k).map rI))]⟩) (fun i=>True) (by omega) (by rw [show wo (List.take 0 l) k = [] by simp [wo]];rfl) trivial (fun i hi hP=>?_) (fun hP=>?_)
 ·obtain ⟨x,hx,hd,ht,h0⟩:=at_ hi
  have hn:=nx hi (alU hl (by decide))
  have hw:(wo (l.take i) k).length ≤ i:=alU YA (by simp;omega)
  simp only [alA,alG,hd,hx,ht,h0,rI,go_sem]
  repeat' (refine bQ (fun h=>?_) (fun h=>?_) <;> simp only [h,alA,alG,hd,hx,ht,h0,hn,rI,go_sem])
  all_goals (rw [S9 hx];simp only [alL,alS] at h)
  ·simp [h]
  ·rw [aly h,amE,alX];exact ⟨by omega,rfl⟩
 ·have hd:=@end_ _ l
  simp only [alA,hd,go_sem]
  repeat' (refine bQ (fun h=>?_) (fun h=>?_) <;> simp only [h,alA,hd,go_sem])
  rw [al3]
theorem OI (l m:List Qn) (hl:l.length ≤ 1000000000000) (hF:200000000000001 ≤ F):G ext F (n + 1) 18 [vl (l.map rQ),vl (m.map rQ)] = some ([vb (decide (l = m))],[vl (l.map rQ),vl (m.map rQ)]):=by
 refine cZ (cf:=c18) rfl ?_
 dsimp only [c18,av,dB,bE,bM,aW,bZ,dS,eu,dH,aH,dn,dh,bU,bn];simp only [alA,go_sem]
 repeat' (refine bQ (fun h=>?_) (fun h=>?_) <;> simp only [h,alA,go_sem])
 ·have hlen:l.length = m.length:=by simp at h;omega
  refine gZ l.length (fun i=>⟨[(0,PV.c (CV.one (PL.f (FV.sl (l.map rQ))))),(1,PV.c (CV.one (PL.f (FV.sl (m.map rQ))))),(5,PV.c (CV.one (PL.f (FV.int .i64 i))))],[]⟩) (fun i=>l.take i = m.take i) (by omega) rfl rfl (fun i hi hP=>?_) (fun hP=>?_)
  ·obtain ⟨x,hx,hd,ht,h0⟩:=at_ hi
   obtain ⟨y,hy,_⟩:=at_ (l:=m) (i:=i) (by omega)
   have hn:=nx hi (alU hl (by decide))
   simp only [alA,alG,hd,hx,hy,ht,h0,rQ,go_sem]
   repeat' (refine bQ (fun h=>?_) (fun h=>?_) <;> simp only [h,alA,alG,hd,hx,hy,ht,h0,hn,rQ,go_sem])
   ·rw [al7,al7,hP,hx,hy]
    have:x = y:=by cases x;cases y;simpa using h
    rw [this]
   ·have:l ≠ m:=by rintro rfl;rw [hx] at hy;cases hy;simp at h
    simp [this]
  ·have hd:=@end_ _ l
   simp only [alA,hd,go_sem]
   repeat' (refine bQ (fun h=>?_) (fun h=>?_) <;> simp only [h,alA,hd,go_sem])
   have:l = m:=by rw [← al3 (l:=l),hP,hlen,al3]
   simp [this]
 ·have:l ≠ m:=by rintro rfl;simp at h
  simp [this]
structure Se where
 q:ByteArray
 t:Int
 c:Int
 d:List ByteArray
 ttl:Int
 deriving DecidableEq
abbrev Se.k (x:Se):Qn:=⟨x.q,x.t,x.c⟩
abbrev Se.v (x:Se):AV:=mY x.q x.t x.c x.d x.ttl
def rS (x:Se):List FV:=[.str x.q,.int .i64 x.t,.int .i64 x.c,.sl (x.d.map dx),.int .i64 x.ttl]
end
section
attribute [local go_sem_proc] Nat.reduceAdd Nat.reduceMul Nat.reduceEqDiff Nat.reduceBEq Nat.reduceMod Nat.reduceDiv reduceCtorEq
attribute [local go_sem_proc ↓] reduceIte
open Go Ev
variable {ext : Env} {F n:Nat}
structure Th where
 kK:ByteArray → Bool
 low:ByteArray → ByteArray
 yT:Int → ByteArray → Bool
 lw:Int → ByteArray → ByteArray
structure Th.Ok (θ:Th) (ext:Env):Prop where
 nc:∀ q,q.size ≤ 1000000 → ext 109 [vs q] = some ([vb (θ.kK q)],[vs q])
 nl:∀ q,q.size ≤ 1000000 → ext 68 [vs q] = some ([vs (θ.low q)],[vs q])
 rc:∀ q,q.size ≤ 1000000 → ext 42 [vs q] = some ([vb (θ.kK q)],[vs q])
 rl:∀ q,q.size ≤ 1000000 → ext 41 [vs q] = some ([vs (θ.low q)],[vs q])
 dc:∀ k q,q.size ≤ 1000000 → ext 128 [vi k,vs q] = some ([vb (θ.yT k q)],[vi k,vs q])
 dl:∀ k q,q.size ≤ 1000000 → ext 132 [vi k,vs q] = some ([vs (θ.lw k q)],[vi k,vs q])
 ec:∀ k q,q.size ≤ 1000000 → ext 118 [vi k,vs q] = some ([vb (θ.yT k q)],[vi k,vs q])
 el:∀ k q,q.size ≤ 1000000 → ext 119 [vi k,vs q] = some ([vs (θ.lw k q)],[vi k,vs q])
variable {θ : Th}
theorem V9 (T:θ.Ok ext) (q:ByteArray) (h:q.size ≤ 1000000):G ext F (n + 1) 109 [vs q] = some ([vb (θ.kK q)],[vs q]):=(amx (kY rfl) _).trans (T.nc q h)
theorem Wd (T:θ.Ok ext) (q:ByteArray) (h:q.size ≤ 1000000):G ext F (n + 1) 68 [vs q] = some ([vs (θ.low q)],[vs q]):=(amx (kY rfl) _).trans (T.nl q h)
theorem ace (T:θ.Ok ext) (q:ByteArray) (h:q.size ≤ 1000000):G ext F (n + 1) 42 [vs q] = some ([vb (θ.kK q)],[vs q]):=(amx (kY rfl) _).trans (T.rc q h)
theorem acf (T:θ.Ok ext) (q:ByteArray) (h:q.size ≤ 1000000):G ext F (n + 1) 41 [vs q] = some ([vs (θ.low q)],[vs q]):=(amx (kY rfl) _).trans (T.rl q h)
theorem acg (T:θ.Ok ext) (k:Int) (q:ByteArray) (h:q.size ≤ 1000000):G ext F (n + 1) 128 [vi k,vs q] = some ([vb (θ.yT k q)],[vi k,vs q]):=(amx (kY rfl) _).trans (T.dc k q h)
theorem ach (T:θ.Ok ext) (k:Int) (q:ByteArray) (h:q.size ≤ 1000000):G ext F (n + 1) 132 [vi k,vs q] = some ([vs (θ.lw k q)],[vi k,vs q]):=(amx (kY rfl) _).trans (T.dl k q h)
theorem aci (T:θ.Ok ext) (k:Int) (q:ByteArray) (h:q.size ≤ 1000000):G ext F (n + 1) 118 [vi k,vs q] = some ([vb (θ.yT k q)],[vi k,vs q]):=(amx (kY rfl) _).trans (T.ec k q h)
theorem acj (T:θ.Ok ext) (k:Int) (q:ByteArray) (h:q.size ≤ 1000000):G ext F (n + 1) 119 [vi k,vs q] = some ([vs (θ.lw k q)],[vi k,vs q]):=(amx (kY rfl) _).trans (T.el k q h)
def Th.key (θ:Th) (q:ByteArray) (t c:Int):Bool:=decide (θ.kK q = true ∧ θ.low q = q ∧ (0 ≤ t ∧ t ≤ 65535) ∧ (0 ≤ c ∧ c ≤ 65535))
def Th.dat (θ:Th) (t:Int) (d:List ByteArray):Bool:=decide ((∀ x ∈ d,θ.yT t x = true ∧ θ.lw t x = x) ∧ d.Nodup)
def Th.set (θ:Th) (q:ByteArray) (t c:Int) (d:List ByteArray) (ttl:Int):Bool:=decide (θ.key q t c = true ∧ θ.dat t d = true ∧ (0 ≤ ttl ∧ ttl < 2147483648) ∧ d ≠ [])
theorem J6 {l:List ByteArray} {s:ByteArray}:xQ l s = true ↔ s ∈ l:=by
 unfold xQ
 rw [amF]
 simp
theorem Wh {l:List ByteArray}:((l.map dx).all fun r=>r.length == 1) = true:=by
 rw [alY]
 intro r hr
 obtain ⟨x, -,rfl⟩:=al6.mp hr
 rfl
theorem F6 {t:Int} {d:List ByteArray} {i:Nat} {x:ByteArray} (hx:d[i]? = some x) (h:θ.dat t (d.take i) = true) (hc:θ.yT t x = true) (hw:θ.lw t x = x) (hi:xQ (d.take i) x = false):θ.dat t (d.take (i + 1)) = true:=by
 unfold Th.dat at *
 have hi:¬ x ∈ d.take i:=fun h=>by rw [J6.mpr h] at hi;cases hi
 rw [alL] at *
 refine ⟨all_succ h.1 hx ⟨hc,hw⟩,?_⟩
 rw [al7,hx,Option.toList_some]
 refine amO.mpr ⟨h.2,anu _ _,fun a ha b hb=>?_⟩
 rw [amA] at hb;subst hb;rintro rfl;exact hi ha
theorem wU {t:Int} {d:List ByteArray} {i:Nat} {x:ByteArray} (hx:d[i]? = some x) (h:θ.yT t x = false ∨ θ.lw t x ≠ x ∨ xQ (d.take i) x = true):θ.dat t d = false:=by
 unfold Th.dat
 rw [alS]
 rintro ⟨h1,h2⟩
 have hm:=h1 x (amH hx)
 rcases h with h | h | h
 ·rw [h] at hm;simp at hm
 ·exact h hm.2
 ·rw [J6,anB] at h
  obtain ⟨j,hj,he⟩:=h
  have h3:=amm.mp hx
  exact List.pairwise_iff_getElem.mp h2 j i (by omega) h3.1 (by omega) (by rw [he,h3.2])
theorem F7 (T:θ.Ok ext) (q:ByteArray) (t c:Int) (hq:q.size ≤ 1000000):G ext F (n + 2) 99 [vq q t c] = some ([vb (θ.key q t c)],[vq q t c]):=by
 refine cZ (cf:=c99) rfl ?_
 have h1:=fun n=>ace (F:=F) (n:=n) T q hq
 have h2:=fun n=>acf (F:=F) (n:=n) T q hq
 dsimp only [c99,av,dB,bE,bM,aW,bZ,dS,eu,dH,aH,dn,dh,bU,bn];simp only [h1,h2,FU,go_sem]
 repeat' (refine bQ (fun h=>?_) (fun h=>?_) <;> simp only [h,h1,h2,FU,go_sem])
 all_goals (simp [Th.key];try simp_all)
 all_goals (try omega)
theorem Cq (T:θ.Ok ext) (q:ByteArray) (t c:Int) (d:List ByteArray) (ttl:Int) (hl:d.length ≤ 1000000000000) (hF:200000000000001 ≤ F) (hq:q.size ≤ 1000000) (hd:∀ x ∈ d,x.size ≤ 1000000):G ext F (n + 3) 92 [mY q t c d ttl] = some ([vb (θ.set q t c d ttl)],[mY q t c d ttl]):=by
 refine cZ (cf:=c92) rfl ?_
 dsimp only [c92,av,dB,bE,bM,aW,bZ,dS,eu,dH,aH,dn,dh,bU,bn];simp only [go_sem]
 refine gZ d.length (fun i=>⟨[(1,PV.c (CV.one (PL.ptr 40000 0))),(3,PV.c (CV.one (PL.f (FV.int .i64 i))))],[(40000,.gM [.f (.str q),.f (.int .i64 t),.f (.int .i64 c),.f (.sl (d.map dx)),.f (.int .i64 ttl)])]⟩) (fun i=>θ.dat t (d.take i) = true) (by omega) rfl (by simp [Th.dat]) (fun i hi hP=>?_) (fun hP=>?_)
 ·obtain ⟨x,hx,hlt,ht,h0⟩:=at_ hi
  have hn:=nx hi (alU hl (by decide))
  have h1:=fun n=>aci (F:=F) (n:=n) T t x (hd x (amH hx))
  have h2:=fun n=>acj (F:=F) (n:=n) T t x (hd x (amH hx))
  have h3:=fun n=>V8 (ext:=ext) (F:=F) (n:=n) (d.take i) x (by simp;omega) hF
  have hle:(i:Int) ≤ (d.length:Int):=by omega
  have hrw:=@Wh d
  have hcut:(0:Int) ≤ i ∧ (i:Int) ≤ d.length:=by omega
  simp only [alA,alG,hlt,hx,ht,h0,dx,h1,h2,h3,go_sem]
  repeat' (refine bQ (fun h=>?_) (fun h=>?_) <;> simp only [h,alA,alG,hlt,hx,ht,h0,hn,dx,h1,h2,h3,hle,hrw,← List.map_take,amG,Nat.sub_zero,hcut,go_sem])
  ·simp [Th.set,wU hx (.inr (.inr h))]
  ·exact F6 hx hP (by assumption) (alQ (by assumption)) h
  ·simp [Th.set,wU hx (.inr (.inl (of_decide_eq_false h)))]
  ·simp [Th.set,wU hx (.inl h)]
 ·have hd:=@end_ _ d
  rw [al3] at hP
  have h1:=fun n=>F7 (F:=F) (n:=n) T q t c hq
  simp only [alA,hd,h1,go_sem]
  repeat' (refine bQ (fun h=>?_) (fun h=>?_) <;> simp only [h,alA,hd,h1,go_sem])
  all_goals (simp [Th.set,hP];try simp_all)
  all_goals (try omega)
  all_goals (cases d <;> simp)
theorem Cr (T:θ.Ok ext) (q:ByteArray) (t c:Int) (d:List ByteArray) (ttl:Int) (hl:d.length ≤ 1000000000000) (hF:200000000000001 ≤ F) (hq:q.size ≤ 1000000) (hd:∀ x ∈ d,x.size ≤ 1000000):G ext F (n + 3) 113 [mY q t c d ttl] = some ([vb (θ.set q t c d ttl)],[mY q t c d ttl]):=by
 refine cZ (cf:=Sw) rfl ?_
 have h1:=fun n=>V9 (F:=F) (n:=n) T q hq
 have h2:=fun n=>Wd (F:=F) (n:=n) T q hq
 dsimp only [Sw,av,dB,bE,bM,aW,bZ,dS,eu,dH,aH,dn,dh,bU,bn];simp only [h1,h2,V7,go_sem]
 repeat' (refine bQ (fun h=>?_) (fun h=>?_) <;> simp only [h,h1,h2,V7,go_sem])
 ·refine gZ d.length (fun i=>⟨[(1,PV.c (CV.one (PL.ptr 40000 0))),(3,PV.c (CV.one (PL.ptr 80000 0))),(39,PV.c (CV.one (PL.f (FV.sl (List.map dx d))))),(40,PV.c (CV.one (PL.f (FV.int IntKind.i64 (List.map dx d).length)))),(41,PV.c (CV.one (PL.f (FV.int .i64 i))))],[(40000,.gM [.f (.str q),.f (.int .i64 t),.f (.int .i64 c),.f (.sl (d.map dx)),.f (.int .i64 ttl)]),(80000,Ob.gM [PL.f (FV.str q),PL.f (FV.int IntKind.i64 t),PL.f (FV.int IntKind.i64 c)])]⟩) (fun i=>θ.dat t (d.take i) = true) (by omega) rfl (by simp [Th.dat]) (fun i hi hP=>?_) (fun hP=>?_)
  ·obtain ⟨x,hx,hlt,ht,h0⟩:=at_ hi
   have hn:=nx hi (alU hl (by decide))
   have h1:=fun n=>acg (F:=F) (n:=n) T t x (hd x (amH hx))
   have h2:=fun n=>ach (F:=F) (n:=n) T t x (hd x (amH hx))
   have h3:=fun n=>FZ (ext:=ext) (F:=F) (n:=n) (d.take i) x (by simp;omega) hF
   have hle:(i:Int) ≤ (d.length:Int):=by omega
   have hrw:=@Wh d
   have hcut:(0:Int) ≤ i ∧ (i:Int) ≤ d.length:=by omega
   simp only [alA,alG,hlt,hx,ht,h0,dx,h1,h2,h3,go_sem]
   repeat' (refine bQ (fun h=>?_) (fun h=>?_) <;> simp only [h,alA,alG,hlt,hx,ht,h0,hn,dx,h1,h2,h3,hle,hrw,← List.map_take,amG,Nat.sub_zero,hcut,go_sem])
   ·simp [Th.set,wU hx (.inr (.inr h))]
   ·exact F6 hx hP (by assumption) (alQ (by assumption)) h
   ·simp [Th.set,wU hx (.inr (.inl (of_decide_eq_false h)))]
   ·simp [Th.set,wU hx (.inl h)]
  ·have hd:=@end_ _ d
   rw [al3] at hP
   simp only [alA,hd,go_sem]
   repeat' (refine bQ (fun h=>?_) (fun h=>?_) <;> simp only [h,alA,hd,go_sem])
   all_goals (simp [Th.set,Th.key,hP];simp_all)
   all_goals (cases d <;> simp <;> omega)
 all_goals (simp [Th.set,Th.key];try simp_all)
 all_goals (try omega)
end
section
attribute [local go_sem_proc] Nat.reduceAdd Nat.reduceMul Nat.reduceEqDiff Nat.reduceBEq Nat.reduceMod Nat.reduceDiv reduceCtorEq
attribute [local go_sem_proc ↓] reduceIte
open Go Ev
variable {ext : Env} {F n:Nat} {θ:Th}
structure Sr where
 room:Int
 l:List It
 ch:Int
abbrev Sr.v (s:Sr):AV:=Yy s.room s.l s.ch
abbrev It.v (x:It):AV:=vit x.q x.t x.c x.d x.ttl x.u x.r
def YB : It:=⟨⟨#[]⟩,0,0,[],0,0,0⟩
def old (l:List It) (k:Qn):Option It:=l.find? fun x=>decide (x.k = k)
def rid (l:List It) (k:Qn):List It:=l.eraseP fun x=>decide (x.k = k)
def dW (s:Sr) (now:Int) (k:Qn):It × Bool:=match old s.l k with
 | some x=>if eY now x.u then (x,true) else (YB,false)
 | none=>(YB,false)
def zR (room:Int) (l:List It):List It:=if room < l.length then l.drop 1 else l
def vC (θ:Th) (s:Sr) (now:Int) (x:Se) (r:Int):Sr × Int :=
 if s.room = 0 ∨ D8 now = false ∨ θ.set x.q x.t x.c x.d x.ttl = false ∨ r < 1 ∨ 5 < r then (s,1)
 else if eY now (cu now x.ttl) = false then (s,14)
 else match old s.l x.k with
  | some o=>if pK o.r (eY now o.u) r = false then (s,10) else (⟨s.room,zR s.room (rid s.l x.k ++ [⟨x.q,x.t,x.c,x.d,x.ttl,cu now x.ttl,r⟩]),s.ch + 1⟩,0)
  | none=>(⟨s.room,zR s.room (rid s.l x.k ++ [⟨x.q,x.t,x.c,x.d,x.ttl,cu now x.ttl,r⟩]),s.ch + 1⟩,0)
theorem YC {l:List It} {k:Qn}:wo l (OH l k) = rid l k:=by
 unfold wo OH rid
 rw [List.eraseP_eq_eraseIdx]
 cases l.findIdx? fun x=>decide (x.k = k) with
 | none=>rfl
 | some i=>simp
theorem OJ (l:List It) (k:Qn):(OH l k = -1 ∧ old l k = none) ∨ ∃ (i:Nat) (x:It),OH l k = (i:Int) ∧ l[i]? = some x ∧ old l k = some x ∧ x.k = k:=by
 have hf:old l k = (l.findIdx? fun x=>decide (x.k = k)).bind fun i=>l[i]?:=List.find?_eq_bind_findIdx?_getElem? ..
 have hp:OH l k = match l.findIdx? fun x=>decide (x.k = k) with | some i=>(i:Int) | none=>-1:=rfl
 cases h:l.findIdx? fun x=>decide (x.k = k) with
 | none =>
  rw [h] at hf hp
  exact .inl ⟨hp,hf⟩
 | some i =>
  rw [h] at hf hp
  obtain ⟨hi,hx, -⟩:=amY.mp h
  refine .inr ⟨i,l[i],hp,alT hi,hf.trans (alT hi),by simpa using hx⟩
theorem acn (i:Nat):decide ((i:Int) < 0) = false ∧ (if (i:Int) < 0 then (0:Int) else i) = i ∧ (i:Int).toNat = i ∧ (0:Int) ≤ i:=⟨by simp,by rw [aly (by omega)],by simp,by omega⟩
theorem OL {s:Sr} {now:Int} {k:Qn} (h:old s.l k = none):dW s now k = (YB,false):=by unfold dW;rw [h]
theorem II {s:Sr} {now:Int} {k:Qn} {x:It} (h:old s.l k = some x) (hv:eY now x.u = false):dW s now k = (YB,false):=by unfold dW;rw [h];simp [hv]
theorem IJ {s:Sr} {now:Int} {k:Qn} {x:It} (h:old s.l k = some x) (hv:eY now x.u = true):dW s now k = (x,true):=by unfold dW;rw [h];simp [hv]
theorem Ta (room:Int):G ext F (n + 1) 52 [vi room] = some ([Yy (if room < 1 ∨ 1000 < room then 0 else room) [] 0],[vi room]):=by
 refine cZ (cf:=c52) rfl ?_
 dsimp only [c52,av,dB,bE,bM,aW,bZ,dS,eu,dH,aH,dn,dh,bU,bn];simp only [go_sem]
 repeat' (refine bQ (fun h=>?_) (fun h=>?_) <;> simp only [h,go_sem])
 all_goals (simp only [alL,alS] at *)
 all_goals first | rw [alx (by omega)] | rw [aly (by omega)]
 all_goals rfl
theorem OM (s:Sr) (now:Int) (k:Qn) (hl:s.l.length ≤ 1000000000000) (hF:200000000000001 ≤ F):G ext F (n + 3) 73 [s.v,vi now,vq k.q k.t k.c] = some ([(dW s now k).1.v,vb (dW s now k).2],[s.v,vi now,vq k.q k.t k.c]):=by
 refine cZ (cf:=c73) rfl ?_
 have h1:=fun n=>F5 (ext:=ext) (F:=F) (n:=n) s.room s.l s.ch k.q k.t k.c hl hF
 rcases OJ s.l k with ⟨hp,ho⟩ | ⟨i,x,hp,hx,ho,hk⟩
 ·rw [hp] at h1
  rw [OL ho]
  have hd:decide ((-1:Int) < 0) = true:=by decide
  dsimp only [c73,av,dB,bE,bM,aW,bZ,dS,eu,dH,aH,dn,dh,bU,bn];simp only [h1,hd,go_sem]
  rfl
 ·rw [hp] at h1
  obtain ⟨hd,hg,ht,h0⟩:=acn i
  cases hv:eY now x.u with
  | false =>
   rw [II ho hv]
   dsimp only [c73,av,dB,bE,bM,aW,bZ,dS,eu,dH,aH,dn,dh,bU,bn];simp only [h1,hd,hg,ht,h0,alG,hx,rI,jI,Option.map_some,hv,go_sem]
   rfl
  | true =>
   rw [IJ ho hv]
   dsimp only [c73,av,dB,bE,bM,aW,bZ,dS,eu,dH,aH,dn,dh,bU,bn];simp only [h1,hd,hg,ht,h0,alG,hx,rI,jI,Option.map_some,hv,go_sem]
abbrev Th.arg (θ:Th) (s:Sr) (now:Int) (x:Se) (r:Int):Prop:=s.room = 0 ∨ D8 now = false ∨ θ.set x.q x.t x.c x.d x.ttl = false ∨ r < 1 ∨ 5 < r
theorem nU {s:Sr} {now:Int} {x:Se} {r:Int} (h:θ.arg s now x r):vC θ s now x r = (s,1):=by unfold vC;exact alx h
theorem D9 {s:Sr} {now:Int} {x:Se} {r:Int} (h:¬ θ.arg s now x r) (h2:eY now (cu now x.ttl) = false):vC θ s now x r = (s,14):=by
 unfold vC;rw [aly h,alx h2]
theorem J7 {s:Sr} {now:Int} {x:Se} {r:Int} {o:It} (h:¬ θ.arg s now x r) (h2:eY now (cu now x.ttl) = true) (ho:old s.l x.k = some o) (h3:pK o.r (eY now o.u) r = false):vC θ s now x r = (s,10):=by
 unfold vC;rw [aly h,aly (by rw [h2];decide),ho];exact alx h3
theorem vD {s:Sr} {now:Int} {x:Se} {r:Int} {l:List It} (h:¬ θ.arg s now x r) (h2:eY now (cu now x.ttl) = true) (h3:∀ o,old s.l x.k = some o → pK o.r (eY now o.u) r = true) (hl:zR s.room (rid s.l x.k ++ [⟨x.q,x.t,x.c,x.d,x.ttl,cu now x.ttl,r⟩]) = l):vC θ s now x r = (⟨s.room,l,s.ch + 1⟩,0):=by
 subst hl
 unfold vC;rw [aly h,aly (by rw [h2];decide)]
 cases ho:old s.l x.k with
 | none=>rfl
 | some o=>exact aly (by rw [h3 o ho];decide)
theorem F8 {a:List (List FV)} {b:List FV} {n:Nat} (h:a.length = n):List.take (n + 1 - Int.toNat 1) (List.drop (Int.toNat 1) (a ++ [b])) = (a ++ [b]).drop 1:=by
 rw [show Int.toNat 1 = 1 from rfl,am7 (by simp [h])]
theorem OO {room:Int} {l:List It} {x:It} (h:room < ((l.length + 1:Nat):Int)):zR room (l ++ [x]) = (l ++ [x]).drop 1:=by
 unfold zR;rw [alx (by simpa using h)]
theorem OP {room:Int} {l:List It} {x:It} (h:¬ room < ((l.length + 1:Nat):Int)):zR room (l ++ [x]) = l ++ [x]:=by
 unfold zR;rw [aly (by simpa using h)]
theorem Tc (T:θ.Ok ext) (s:Sr) (now:Int) (x:Se) (r:Int) (hl:s.l.length ≤ 1000000) (hF:200000000000001 ≤ F) (hc:0 ≤ s.ch ∧ s.ch ≤ 1000000000000) (hq:x.q.size ≤ 1000000) (hn:x.d.length ≤ 1000000) (hd:∀ y ∈ x.d,y.size ≤ 1000000):G ext F (n + 4) 54 [s.v,vi now,x.v,vi r] = some ([(vC θ s now x r).1.v,vi (vC θ s now x r).2],[s.v,vi now,x.v,vi r]):=by
 refine cZ (cf:=c54) rfl ?_
 have h1:=fun n=>F5 (ext:=ext) (F:=F) (n:=n) s.room s.l s.ch x.q x.t x.c (by omega) hF
 have h2:=fun n=>Cq (F:=F) (n:=n) T x.q x.t x.c x.d x.ttl (by omega) hF hq hd
 have h3:=fun n=>IG (ext:=ext) (F:=F) (n:=n) s.l (OH s.l x.k) (by omega) hF
 rw [YC] at h3
 have hr:(rid s.l x.k).length ≤ s.l.length:=by unfold rid;exact (List.eraseP_sublist ..).length_le
 have hw:IntKind.i64.wrap (s.ch + 1) = s.ch + 1:=yE (by omega) (by omega)
 have hsz:((rid s.l x.k).length + 1) * 80 ≤ 140737488355328:=by omega
 rcases OJ s.l x.k with ⟨hp,ho⟩ | ⟨i,o,hp,hx,ho,hk⟩
 ·rw [hp] at h1 h3
  have hd:decide ((0:Int) ≤ -1) = false:=by decide
  dsimp only [c54,av,dB,bE,bM,aW,bZ,dS,eu,dH,aH,dn,dh,bU,bn];simp only [h1,h2,h3,kT,hd,nN,jI,go_sem]
  repeat' (refine bQ (fun h=>?_) (fun h=>?_) <;> simp only [h,h1,h2,h3,kT,hd,nN,jI,alX,alA,hw,hsz,go_sem])
  all_goals clear h1 h2 h3
  all_goals simp only [alL,alS] at *
  ·have ha:θ.arg s now x r:=by unfold Th.arg;simp [*]
   rw [nU ha]
  ·have ha:θ.arg s now x r:=by unfold Th.arg;simp [*]
   rw [nU ha]
  ·have ha:θ.arg s now x r:=by unfold Th.arg;simp [*]
   rw [nU ha]
  ·have ha:¬ θ.arg s now x r:=by unfold Th.arg;simp [*]
   rw [vD ha (by assumption) (fun y hy=>by rw [ho] at hy;cases hy) (OO (by omega))]
   refine ⟨by omega,?_⟩
   rw [F8 (alA _)]
   simp [rI]
  ·have ha:¬ θ.arg s now x r:=by unfold Th.arg;simp [*]
   rw [vD ha (by assumption) (fun y hy=>by rw [ho] at hy;cases hy) (OP (by omega))]
   simp [rI]
  ·have ha:¬ θ.arg s now x r:=by unfold Th.arg;simp [*]
   rw [D9 ha (by assumption)]
  ·have ha:θ.arg s now x r:=by unfold Th.arg;simp [*]
   rw [nU ha]
  ·have ha:θ.arg s now x r:=by unfold Th.arg;simp [*]
   rw [nU ha]
 ·rw [hp] at h1 h3
  obtain ⟨hd,hg,ht,h0⟩:=acn i
  have hd:decide ((0:Int) ≤ i) = true:=by simp
  dsimp only [c54,av,dB,bE,bM,aW,bZ,dS,eu,dH,aH,dn,dh,bU,bn];simp only [h1,h2,h3,kT,hd,nN,jI,FX,alG,hx,rI,ht,h0,go_sem]
  repeat' (refine bQ (fun h=>?_) (fun h=>?_) <;> simp only [h,h1,h2,h3,kT,hd,nN,jI,FX,alX,alA,hw,alG,hx,rI,ht,h0,hsz,go_sem])
  all_goals clear h1 h2 h3
  all_goals simp only [alL,alS] at *
  ·have ha:θ.arg s now x r:=by unfold Th.arg;simp [*]
   rw [nU ha]
  ·have ha:θ.arg s now x r:=by unfold Th.arg;simp [*]
   rw [nU ha]
  ·have ha:θ.arg s now x r:=by unfold Th.arg;simp [*]
   rw [nU ha]
  ·have ha:¬ θ.arg s now x r:=by unfold Th.arg;simp [*]
   rw [vD ha (by assumption) (fun y hy=>by rw [ho] at hy;cases hy;assumption) (OO (by omega))]
   refine ⟨by omega,?_⟩
   rw [F8 (alA _)]
   simp [rI]
  ·have ha:¬ θ.arg s now x r:=by unfold Th.arg;simp [*]
   rw [vD ha (by assumption) (fun y hy=>by rw [ho] at hy;cases hy;assumption) (OP (by omega))]
   simp [rI]
  ·have ha:¬ θ.arg s now x r:=by unfold Th.arg;simp [*]
   rw [J7 ha (by assumption) ho (by assumption)]
  ·have ha:¬ θ.arg s now x r:=by unfold Th.arg;simp [*]
   rw [D9 ha (by assumption)]
  ·have ha:θ.arg s now x r:=by unfold Th.arg;simp [*]
   rw [nU ha]
  ·have ha:θ.arg s now x r:=by unfold Th.arg;simp [*]
   rw [nU ha]
end
end Go.Proofs.YtfokaoeinpnagaaGreat.Kc

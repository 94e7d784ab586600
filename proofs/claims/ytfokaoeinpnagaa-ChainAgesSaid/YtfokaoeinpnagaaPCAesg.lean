/- A part of the proof of ChainAges: cut, joined and given short names by a program of this session (wip/tools/pack.py); Lean checks it. No condition. -/
import Derived.Test.YtfokaoeinpnagaaPCAesf
import Derived.Test.YtfokaoeinpnagaaPCAesd
set_option linter.unusedSectionVars false
set_option linter.unusedSimpArgs false
set_option linter.unusedVariables false
namespace Go.Proofs.Ytfokaoeinpnagaa.Ev
open Go
section
variable {Γ : Env} {F d:Nat} {q:Bool} {σ:St} {k:PV × St → Prop} {u:Tok k} {x y z:dX}
def LH (σ:St) (sh:KS):CV → Option (Option (Nat × List (KV × FC)))
 | .one .fB=>some none
 | .one (.mp key)=>(oh σ key).bind fun o=>if o.1 = sh then some (some (key,o.2)) else none
 | _=>none
@[go_sem] theorem Y6 {sh:KS}:LH σ sh (.one .fB) = some none:=rfl
section
variable {k : Option (Nat × List (KV × FC)) → Prop} {u:Tok k}
@[go_sem ↓] theorem ae1 {sh:KS} {key:Nat}:W k u (LH σ sh (.one (.mp key))) ↔ W (fun o=>o.1 = sh ∧ k (some (key,o.2))) ⟨⟩ (oh σ key):=by
 simp only [LH,dO,bq,bN,bH]
end
def sD (m:Option (Nat × List (KV × FC))) (a:KV):Option FC:=m.bind fun m=>q8 m.2 a
def cnt (m:Option (Nat × List (KV × FC))):Nat:=match m with
 | none=>0
 | some m=>m.2.length
@[go_sem] theorem Y7 {a:KV}:sD none a = none:=rfl
@[go_sem] theorem Y8 {key:Nat} {l:List (KV × FC)} {a:KV}:sD (some (key,l)) a = q8 l a:=rfl
@[go_sem] theorem Y9 : cnt none = 0:=rfl
@[go_sem] theorem Za {key:Nat} {l:List (KV × FC)}:cnt (some (key,l)) = l.length:=rfl
def lkv (z:FC) (ok:Bool) (r:Option FC):PV:=if ok then .uF [xq (r.getD z),.one (.f (.bool r.isSome))] else .c (xq (r.getD z))
@[go_sem] theorem ae2 {z:FC} {r:Option FC}:lkv z true r = .uF [xq (r.getD z),.one (.f (.bool r.isSome))]:=rfl
@[go_sem] theorem ae3 {z:FC} {r:Option FC}:lkv z false r = .c (xq (r.getD z)):=rfl
@[go_sem] theorem Zb {x:FV}:xq (.one x) = .one (.f x):=rfl
@[go_sem] theorem Zc {xs:List FV}:xq (.agg xs) = .agg (xs.map .f):=rfl
@[go_sem ↓] theorem ae4 {sh:KS} {z:FC} {ok:Bool}:W k u (cO Γ q σ d (.look sh z ok x y)) ↔ W (fun v=>W (fun w=>W (fun a=>a.ks = sh ∧ W (fun m=>k (lkv z ok (sD m a),σ)) ⟨⟩ (LH σ sh v)) ⟨⟩ (keyOf w)) ⟨⟩ (val σ y)) ⟨⟩ (val σ x):=by
 simp only [cO,dO,bq,dx,bX,ne_eq,Decidable.not_not]
 refine cK fun v=>cK fun w=>cK fun a=>and_congr Iff.rfl ?_
 cases v with
 | agg l=>exact bY
 | one p =>
  cases p with
  | fB=>exact lJ Iff.rfl
  | mp key =>
   simp only [LH,oh]
   cases get σ.ob key with
   | none=>exact bY
   | some o =>
    cases o with
    | map sh' ents =>
     simp only [om,Option.bind_some]
     by_cases hs:sh' = sh
     ·rw [if_pos hs,if_pos hs];exact lJ (by cases ok <;> exact Iff.rfl)
     ·rw [if_neg hs,if_neg hs];exact bY
    | _=>exact bY
  | _=>exact bY
@[go_sem ↓] theorem ae5 : W k u (cO Γ q σ d (.Ja x)) ↔ W (fun v=>W (fun n:Nat=>k (.c (.one (.f (.int .i64 (n:Int)))),σ)) ⟨⟩ (OT σ v)) ⟨⟩ (val σ x):=by
 simp only [cO,dO,bq]
 refine cK fun v=>?_
 cases v with
 | agg l=>exact bY
 | one p =>
  cases p with
  | fB=>exact lJ Iff.rfl
  | mp key =>
   simp only [OT,oh]
   cases get σ.ob key with
   | none=>exact bY
   | some o=>cases o <;> first | exact bY | exact lJ Iff.rfl
  | _=>exact bY
def upv (σ:St) (sh:KS) (a:KV) (p:FC × St):CV → Option St
 | .one (.mp key)=>(oh p.2 key).bind fun o=>if o.1 = sh then some (jl p.2 key (.map sh (wo o.2 a p.1))) else none
 | _=>none
@[go_sem ↓] theorem ae6 {sh:KS}:W k u (cO Γ q σ d (.wZ sh x y z)) ↔ W (fun v=>W (fun w=>W (fun a=>a.ks = sh ∧ W (fun w=>(q && (cells w).any gG) = false ∧ W (fun p=>W (fun s=>k (.c (.one .und),s)) ⟨⟩ (upv σ sh a p v)) ⟨⟩ (WK σ w)) ⟨⟩ (val σ z)) ⟨⟩ (keyOf w)) ⟨⟩ (val σ y)) ⟨⟩ (val σ x):=by
 simp only [cO,dO,bq,dx,ne_eq,Decidable.not_not,Bool.not_eq_true]
 refine cK fun v=>cK fun w=>cK fun a=>and_congr Iff.rfl (cK fun w=>and_congr Iff.rfl (cK fun p=>?_))
 cases v with
 | agg l=>exact bY
 | one b =>
  cases b with
  | mp key =>
   simp only [upv,oh]
   cases get p.2.ob key with
   | none=>exact bY
   | some o =>
    cases o with
    | map sh' ents =>
     simp only [om,Option.bind_some]
     split
     ·exact lJ Iff.rfl
     ·exact bY
    | _=>exact bY
  | _=>exact bY
section
variable {k : St → Prop} {u:Tok k} {sh:KS} {a:KV} {key:Nat}
@[go_sem ↓] theorem agl {p:FC × St}:W k u (upv σ sh a p (.one (.mp key))) ↔ W (fun o=>o.1 = sh ∧ k (jl p.2 key (.map sh (wo o.2 a p.1)))) ⟨⟩ (oh p.2 key):=by
 simp only [upv,dO,bq,bN,bH]
end
def Zd (σ:St) (sh:KS) (a:KV):CV → Option St
 | .one .fB=>some σ
 | .one (.mp key)=>(oh σ key).bind fun o=>if o.1 = sh then some (jl σ key (.map sh (Bf o.2 a))) else none
 | _=>none
@[go_sem] theorem aci {sh:KS} {a:KV}:Zd σ sh a (.one .fB) = some σ:=rfl
section
variable {k : St → Prop} {u:Tok k} {sh:KS} {a:KV} {key:Nat}
@[go_sem ↓] theorem agm : W k u (Zd σ sh a (.one (.mp key))) ↔ W (fun o=>o.1 = sh ∧ k (jl σ key (.map sh (Bf o.2 a)))) ⟨⟩ (oh σ key):=by
 simp only [Zd,dO,bq,bN,bH]
end
@[go_sem ↓] theorem agn {sh:KS}:W k u (cO Γ q σ d (.del sh x y)) ↔ W (fun v=>W (fun w=>W (fun a=>a.ks = sh ∧ W (fun s=>k (.uF [],s)) ⟨⟩ (Zd σ sh a v)) ⟨⟩ (keyOf w)) ⟨⟩ (val σ y)) ⟨⟩ (val σ x):=by
 simp only [cO,dO,bq,dx,ne_eq,Decidable.not_not]
 refine cK fun v=>cK fun w=>cK fun a=>and_congr Iff.rfl ?_
 cases v with
 | agg l=>exact bY
 | one b =>
  cases b with
  | fB=>exact lJ Iff.rfl
  | mp key =>
   simp only [Zd,oh]
   cases get σ.ob key with
   | none=>exact bY
   | some o =>
    cases o with
    | map sh' ents =>
     simp only [om,Option.bind_some]
     split
     ·exact lJ Iff.rfl
     ·exact bY
    | _=>exact bY
  | _=>exact bY
def Xc (σ:St):CV → Option (List (List FV))
 | .one .dN=>some []
 | .one (.f (.sl rows))=>some rows
 | .one (.own key _)=>(iF σ key).map (·.2)
 | _=>none
@[go_sem] theorem agp : Xc σ (.one .dN) = some []:=rfl
@[go_sem] theorem agq {rows:List (List FV)}:Xc σ (.one (.f (.sl rows))) = some rows:=rfl
@[go_sem] theorem agr {key n:Nat}:Xc σ (.one (.own key n)) = (iF σ key).map (·.2):=rfl
def Xd (q:Bool) (σ:St) (d sz bytes:Nat) (w:CV) (DT:List (List FV)):CV → Option (PV × St)
 | .one .dN=>if q = false ∧ DT.length * bytes ≤ 140737488355328 ∧ DT.all (fun r=>r.length == sz) then (new σ (dF d) (.row sz DT)).map fun s=>(.c (.one (.own (dF d) DT.length)),s) else none
 | .one (.own key n)=>(iF σ key).bind fun o=>if q = false ∧ (o.2.length + DT.length) * bytes ≤ 140737488355328 ∧ o.1 = sz ∧ n = o.2.length ∧ vH key w = false ∧ key % 2 = 0 ∧ DT.all (fun r=>r.length == sz) then
   some (.c (.one (.own key (o.2.length + DT.length))),jl (sub σ key .any) key (.row sz (o.2 ++ DT))) else none
 | _=>none
@[go_sem ↓] theorem ags {e:TypeId} {sz bytes:Nat}:W k u (cO Γ q σ d (.app e sz bytes x y)) ↔ W (fun v=>W (fun w=>W (fun l=>W k ⟨⟩ (Xd q σ d sz bytes w l v)) ⟨⟩ (Xc σ w)) ⟨⟩ (val σ y)) ⟨⟩ (val σ x):=by
 simp only [cO,dO,bq]
 refine cK fun v=>cK fun w=>?_
 have e:p8 σ w = Xc σ w:=by
  cases w with
  | agg l=>rfl
  | one p=>cases p with
   | f a=>cases a <;> rfl
   | own key n=>simp only [p8,Xc,iF];cases get σ.ob key with | none=>rfl | some o=>cases o <;> rfl
   | _=>rfl
 rw [e]
 refine cK fun l=>?_
 cases v with
 | agg l=>exact bY
 | one p =>
  cases p with
  | dN=>exact Iff.rfl
  | own key n =>
   simp only [Xd,iF]
   cases get σ.ob key with
   | none=>exact bY
   | some o=>cases o <;> exact Iff.rfl
  | _=>exact bY
@[go_sem ↓] theorem acj {sz bytes:Nat} {w:CV} {l:List (List FV)}:W k u (Xd q σ d sz bytes w l (.one .dN)) ↔ (q = false ∧ l.length * bytes ≤ 140737488355328 ∧ l.all (fun r=>r.length == sz) = true) ∧ W (fun s=>k (.c (.one (.own (dF d) l.length)),s)) ⟨⟩ (new σ (dF d) (.row sz l)):=by
 simp only [Xd,dO,bN,bX]
@[go_sem ↓] theorem acn {sz bytes key n:Nat} {w:CV} {l:List (List FV)}:W k u (Xd q σ d sz bytes w l (.one (.own key n))) ↔ W (fun o=>(q = false ∧ (o.2.length + l.length) * bytes ≤ 140737488355328 ∧ o.1 = sz ∧ n = o.2.length ∧ vH key w = false ∧ key % 2 = 0 ∧ l.all (fun r=>r.length == sz) = true) ∧ k (.c (.one (.own key (o.2.length + l.length))),jl (sub σ key .any) key (.row sz (o.2 ++ l)))) ⟨⟩ (iF σ key):=by
 simp only [Xd,dO,bq,bN,bH]
def cov (σ:St) (sz:Nat) (i:Int):CV → Option (PV × St)
 | .one (.own key n)=>(iF σ key).bind fun o=>if o.1 = sz ∧ key % 2 = 0 ∧ 0 ≤ i ∧ i ≤ o.2.length then some (.c (.one (.own key i.toNat)),jl (sub σ key .any) key (.row sz (o.2.take i.toNat))) else none
 | _=>none
@[go_sem ↓] theorem ae7 {sz:Nat}:W k u (cO Γ q σ d (.EZ sz x y)) ↔ q = false ∧ W (fun v=>W (fun j=>W (fun p=>W k ⟨⟩ (cov σ sz p.2 v)) ⟨⟩ (int? j)) ⟨⟩ (val σ y)) ⟨⟩ (val σ x):=by
 simp only [cO,dO,bq,dx,Bool.not_eq_true]
 refine and_congr Iff.rfl (cK fun v=>cK fun j=>cK fun p=>?_)
 cases v with
 | agg l=>exact bY
 | one b =>
  cases b with
  | own key n =>
   simp only [cov,iF]
   cases get σ.ob key with
   | none=>exact bY
   | some o=>cases o <;> exact Iff.rfl
  | _=>exact bY
@[go_sem ↓] theorem agt {sz key n:Nat} {i:Int}:W k u (cov σ sz i (.one (.own key n))) ↔ W (fun o=>(o.1 = sz ∧ key % 2 = 0 ∧ 0 ≤ i ∧ i ≤ (o.2.length:Int)) ∧ k (.c (.one (.own key i.toNat)),jl (sub σ key .any) key (.row sz (o.2.take i.toNat)))) ⟨⟩ (iF σ key):=by
 simp only [cov,dO,bq,bN,bH]
def cvv (σ:St) (sz:Nat) (i:Int):CV → Option PL
 | .one (.own key n)=>(iF σ key).bind fun o=>if o.1 = sz ∧ 0 ≤ i ∧ i ≤ o.2.length then some (.vw key sz o.2.length i.toNat) else none
 | _=>none
@[go_sem ↓] theorem ae8 {sz:Nat}:W k u (cO Γ q σ d (.cutV sz x y)) ↔ W (fun v=>W (fun j=>W (fun p=>W (fun l=>k (.c (.one l),σ)) ⟨⟩ (cvv σ sz p.2 v)) ⟨⟩ (int? j)) ⟨⟩ (val σ y)) ⟨⟩ (val σ x):=by
 simp only [cO,dO,bq]
 refine cK fun v=>cK fun j=>cK fun p=>?_
 cases v with
 | agg l=>exact bY
 | one b =>
  cases b with
  | own key n =>
   simp only [cvv,iF]
   cases get σ.ob key with
   | none=>exact bY
   | some o =>
    cases o with
    | row sz' rows=>simp only [LG,Option.bind_some,bN,bH]
    | _=>exact bY
  | _=>exact bY
section
variable {k : PL → Prop} {u:Tok k}
@[go_sem ↓] theorem agu {sz key n:Nat} {i:Int}:W k u (cvv σ sz i (.one (.own key n))) ↔ W (fun o=>(o.1 = sz ∧ 0 ≤ i ∧ i ≤ (o.2.length:Int)) ∧ k (.vw key sz o.2.length i.toNat)) ⟨⟩ (iF σ key):=by
 simp only [cvv,dO,bq,bN,bH]
end
def vw? : CV → Option (Nat × Nat × Nat × Nat)
 | .one (.vw key z n lo)=>some (key,z,n,lo)
 | _=>none
@[go_sem] theorem ae9 {a b c e:Nat}:vw? (.one (.vw a b c e)) = some (a,b,c,e):=rfl
@[go_sem ↓] theorem agv {sz:Nat} {zs:List FV}:W k u (cO Γ q σ d (.RL sz zs x)) ↔ W (fun v=>W (fun p=>W (fun o=>(o.1 = sz ∧ p.2.1 = sz ∧ zs.length = sz ∧ p.2.2.1 = o.2.length ∧ p.2.2.2 ≤ p.2.2.1) ∧ k (.uF [],jl σ p.1 (.row sz (o.2.take p.2.2.2 ++ List.replicate (p.2.2.1 - p.2.2.2) zs)))) ⟨⟩ (iF σ p.1)) ⟨⟩ (vw? v)) ⟨⟩ (val σ x):=by
 simp only [cO,dO,bq]
 refine cK fun v=>?_
 cases v with
 | agg l=>exact bY
 | one b =>
  cases b with
  | vw key z n lo =>
   simp only [vw?,bH,iF]
   cases get σ.ob key with
   | none=>exact bY
   | some o =>
    cases o with
    | row sz' rows=>simp only [LG,bN,bH]
    | _=>exact bY
  | _=>exact bY
def R4 (σ:St):CV → Option (List (List FV))
 | .one (.f (.sl rows))=>some rows
 | .one .dN=>some []
 | .one (.own key _)=>(iF σ key).bind fun o=>if o.1 = 1 then some o.2 else none
 | _=>none
@[go_sem] theorem agw {rows:List (List FV)}:R4 σ (.one (.f (.sl rows))) = some rows:=rfl
@[go_sem] theorem agx : R4 σ (.one .dN) = some []:=rfl
@[go_sem] theorem R5 : bytesOf [] = some ⟨#[]⟩:=rfl
@[go_sem] theorem OV {n:Int} {l:List (List FV)}:bytesOf ([.int .u8 n] :: l) = (bytesOf l).map fun s=>⟨#[UInt8.ofNat n.toNat] ++ s.data⟩:=rfl
section
variable {k : List (List FV) → Prop} {u:Tok k}
@[go_sem ↓] theorem agy {key n:Nat}:W k u (R4 σ (.one (.own key n))) ↔ W (fun o=>o.1 = 1 ∧ k o.2) ⟨⟩ (iF σ key):=by
 simp only [R4,dO,bq,bN,bH]
end
@[go_sem ↓] theorem agz : W k u (cO Γ q σ d (.WI x)) ↔ W (fun v=>W (fun l=>W (fun s=>k (.c (.one (.f (.str s))),σ)) ⟨⟩ (bytesOf l)) ⟨⟩ (R4 σ v)) ⟨⟩ (val σ x):=by
 simp only [cO,dO,bq]
 refine cK fun v=>?_
 cases v with
 | agg l=>exact bY
 | one b =>
  cases b with
  | f a =>
   cases a with
   | sl rows=>simp only [R4,bq,bH,one]
   | _=>exact bY
  | dN=>simp only [R4,bH,bytesOf,one]
  | own key n =>
   simp only [R4,iF]
   cases get σ.ob key with
   | none=>exact bY
   | some o =>
    cases o with
    | row sz' rows=>simp only [LG,Option.bind_some,bN,bq,bH,one]
    | _=>exact bY
  | _=>exact bY
@[go_sem ↓] theorem agA {f:FuncId} {xs:List dX}:W k u (cO Γ q σ d (.TN f xs)) ↔ W (fun l=>W (fun p=>k (.c (.one (.fn f p.1)),p.2)) ⟨⟩ (lT q σ l)) ⟨⟩ (jg σ xs):=by
 simp only [cO,dO,bq,bX]
@[go_sem ↓] theorem afa {f:FuncId} {xs:List dX}:W k u (cO Γ q σ d (.zA f xs)) ↔ W (fun l=>W (fun fK=>W (fun r=>W (fun p=>W (fun s=>k (.c (.one (.own (dF d) p.2.length)),s)) ⟨⟩ (new σ (dF d) (.row p.1 p.2))) ⟨⟩ (TR r.1)) ⟨⟩ (Γ f fK)) ⟨⟩ (KC l)) ⟨⟩ (jg σ xs):=by
 simp only [cO,rZ,dO,bq,bX]
attribute [go_sem] avT Oe avC KC
@[go_sem] theorem Ze {sz:Nat} {rows:List (List FV)}:TR [.one (.own sz rows)] = some (sz,rows):=rfl
@[go_sem ↓] theorem aco {gv:Bool} {f:FuncId} {xs:List dX}:W k u (cO Γ q σ d (.call gv f xs)) ↔ W (fun l=>W k ⟨⟩ (kR Γ gv q σ d f l)) ⟨⟩ (jg σ xs):=by
 simp only [cO,dO,bq]
def fn? : CV → Option (FuncId × List (List FV))
 | .one (.fn f caps)=>some (f,caps)
 | _=>none
@[go_sem] theorem afb {f:FuncId} {caps:List (List FV)}:fn? (.one (.fn f caps)) = some (f,caps):=rfl
@[go_sem ↓] theorem agB {xs:List dX}:W k u (cO Γ q σ d (.dyn x xs)) ↔ W (fun v=>W (fun p=>W (fun l=>W k ⟨⟩ (kR Γ false q σ d p.1 (l ++ p.2.map fun c=>.one (.fp c)))) ⟨⟩ (jg σ xs)) ⟨⟩ (fn? v)) ⟨⟩ (val σ x):=by
 simp only [cO,dO,bq]
 refine cK fun v=>?_
 cases v with
 | agg l=>exact bY
 | one b =>
  cases b with
  | fn f caps=>simp only [fn?,bH,bq]
  | _=>exact bY
def FE (gv:Bool) (args:List CV) (p:List AV × St) (r:List AV × List AV):Option St:=if (!gv && ((r.1.any wu || !p.1.all fI) && args.any (fun x=>(cells x).any gG))) = true then rY p.2 args else some p.2
def FH (d:Nat) (σ:St) (args:List CV) (p:List AV × St) (r:List AV × List AV) (s:St):Option St:=if p.1.all fI = true then some s else zC σ (args.flatMap cells) (dF d + 10000) s args r.2
@[go_sem ↓] theorem Zf {gv:Bool} {f:FuncId} {args:List CV}:W k u (kR Γ gv q σ d f args) ↔ W (fun p=>W (fun r0=>W (fun r=>((q && !(p.1.all fI && r.1.all fI)) = false ∧ (q && ((r.1.any wu || !p.1.all fI) && args.any (fun x=>(cells x).any gG))) = false) ∧
  W (fun s=>W (fun s=>W (fun v=>k (Je v.1,v.2)) ⟨⟩ (xA (dF d) 0 [] s r.1)) ⟨⟩ (FH d σ args p r s)) ⟨⟩ (FE gv args p r)) ⟨⟩ (some (TQ q r0))) ⟨⟩ (Γ f p.1)) ⟨⟩ (rX gv σ args):=by
 simp only [kR,dO,bq,dx,bX,bH,FE,FH,Bool.not_eq_true,and_assoc]
@[go_sem] theorem afc {r:List AV × List AV}:TQ false r = r:=rfl
@[go_sem] theorem acp {r:List AV × List AV}:TQ true r = (r.1.map Od,r.2):=rfl
@[go_sem] theorem acr {sz:Nat} {rows:List (List FV)}:Od (.one (.own sz rows)) = .one (.f (.sl rows)):=rfl
@[go_sem] theorem agC {x:FV}:Od (.one (.f x)) = .one (.f x):=rfl
@[go_sem] theorem acs {xs:List TV}:Od (.agg xs) = .agg xs:=rfl
@[go_sem] theorem acu {xs:List CL}:Od (.one (.ptr xs)) = .one (.ptr xs):=rfl
end
section
variable {Γ : Env} {F:Nat} {k:List AV × List AV → Prop} {u:Tok k} {cf:CF} {fK:List AV}
@[go_sem ↓] theorem agD : W k u (Kr Γ F cf fK) ↔ fK.length = cf.np ∧ W (fun e=>W (fun p=>(∀ id,p.1 ≠ .ext id) ∧ W (fun b=>W (fun l=>W (fun r=>k (r.1,b.1)) ⟨⟩ (mE cf.ro b.2 l)) ⟨⟩ (slots b.2 cf.res)) ⟨⟩ (jU p.2 e.1 fK)) ⟨⟩ (ev Γ F cf.body e.2)) ⟨⟩ (enter cf.bo 0 [] ⟨[],[]⟩ fK):=by
 simp only [Kr,dO,dx,bq,ne_eq,Decidable.not_not]
 refine and_congr Iff.rfl (cK fun e=>cK fun p=>?_)
 obtain ⟨o,s⟩:=p
 cases o with
 | ext id=>simp [jr]
 | _=>simp [bq,bX]
@[go_sem] theorem acv : (∀ id,Out.jc ≠ .ext id) ↔ True:=by simp
@[go_sem] theorem acw : (∀ id,Out.ret ≠ .ext id) ↔ True:=by simp
@[go_sem] theorem acy {i:Nat}:(∀ id,Out.ext i ≠ .ext id) ↔ False:=by simp
end
end Go.Proofs.Ytfokaoeinpnagaa.Ev
namespace Go.Proofs.Ytfokaoeinpnagaa.Ev
open Go
attribute [go_sem] dF dU vH qN mq nV E5 Oa Jb sub jl oP gG jT plain fI RN KA wu Oc Je KE TS TT TU KD TP rowsOf KV.ks SV.sk
attribute [go_sem] List.any_cons List.any_nil List.all_cons List.all_nil List.map_cons List.map_nil List.length_cons List.length_nil List.append_nil List.nil_append List.cons_append List.flatMap_cons List.flatMap_nil List.take_succ_cons List.take_zero List.take_nil List.drop_succ_cons List.drop_zero List.drop_nil Option.getD_some Option.getD_none List.filter_nil List.filter_cons List.headD_nil List.headD_cons List.tail_cons List.tail_nil
section
variable {σ : St} {α:Type}
section
variable {k : St → Prop} {u:Tok k} {key:Nat} {o:Ob} {pend:List PL}
@[go_sem ↓] theorem agE : W k u (new σ key o) ↔ (rem σ.ob key).any (fun p=>mq key p.2) = false ∧ k ⟨σ.tm.filter (fun p=>!qN key p.2),(key,o) :: rem σ.ob key⟩:=by
 simp only [new,WJ,dO,bX,dx,bH,Bool.not_eq_true]
@[go_sem ↓] theorem afd : W k u (newP pend σ key o) ↔ pend.any (dU key) = false ∧ W k ⟨⟩ (new σ key o):=by
 simp only [newP,dO,dx,Bool.not_eq_true]
@[go_sem ↓] theorem agF : W k u (zu σ key) ↔ W (fun p=>k (sub ⟨σ.tm,rem σ.ob key⟩ key (.f (.sl p.2)))) ⟨⟩ (iF σ key):=by
 simp only [zu,iF,dO]
 cases get σ.ob key with
 | none=>exact bY
 | some o=>cases o <;> first | exact bY | exact lJ Iff.rfl
@[go_sem ↓] theorem U4 : W k u (xB σ []) ↔ k σ:=gN
@[go_sem ↓] theorem R6 : W k u (rY σ []) ↔ k σ:=gN
@[go_sem ↓] theorem OW {x:CV} {xs:List CV}:W k u (rY σ (x :: xs)) ↔ W (fun s=>W k ⟨⟩ (rY s xs)) ⟨⟩ (xB σ (cells x)):=by
 simp only [rY,dO,bq]
def pG (σ:St):PL → Option St
 | .own key _=>zu σ key
 | _=>some σ
@[go_sem ↓] theorem R7 {x:PL} {xs:List PL}:W k u (xB σ (x :: xs)) ↔ W (fun s=>W k ⟨⟩ (xB s xs)) ⟨⟩ (pG σ x):=by
 simp only [dO]
 cases x <;> simp only [xB,pG,bq,bH]
@[go_sem ↓] theorem R8 {n:Nat}:W k u (pG σ (.own key n)) ↔ W k ⟨⟩ (zu σ key):=Iff.rfl
@[go_sem] theorem acz {x:FV}:pG σ (.f x) = some σ:=rfl
@[go_sem] theorem Xe : pG σ .dN = some σ:=rfl
@[go_sem] theorem Xf {n:Nat}:pG σ (.ptr key n) = some σ:=rfl
@[go_sem] theorem Zg : pG σ (.mp key) = some σ:=rfl
@[go_sem] theorem Xg : pG σ .iy = some σ:=rfl
@[go_sem] theorem U5 : pG σ .fB = some σ:=rfl
@[go_sem] theorem Zh {f:FuncId} {c:List (List FV)}:pG σ (.fn f c) = some σ:=rfl
@[go_sem] theorem Zi {c:List FV}:pG σ (.fp c) = some σ:=rfl
end
section
variable {k : FV × St → Prop} {u:Tok k} {key n:Nat}
@[go_sem] theorem agG {x:FV}:xg σ (.f x) = some (x,σ):=rfl
@[go_sem] theorem acA : xg σ .dN = some (.sl [],σ):=rfl
@[go_sem ↓] theorem Xh : W k u (xg σ (.own key n)) ↔ W (fun p=>k (.sl p.2,sub ⟨σ.tm,rem σ.ob key⟩ key (.f (.sl p.2)))) ⟨⟩ (iF σ key):=by
 simp only [xg,zu,iF,dO]
 cases get σ.ob key with
 | none=>exact bY
 | some o=>cases o <;> first | exact bY | (simp only [Option.map_some];exact lJ Iff.rfl)
end
section
variable {k : List FV × St → Prop} {u:Tok k}
@[go_sem ↓] theorem U6 : W k u (kQ σ []) ↔ k ([],σ):=gN
@[go_sem ↓] theorem R9 {x:PL} {xs:List PL}:W k u (kQ σ (x :: xs)) ↔ W (fun p=>W (fun r=>k (p.1 :: r.1,r.2)) ⟨⟩ (kQ p.2 xs)) ⟨⟩ (xg σ x):=by
 simp only [kQ,dO,bq,bX]
@[go_sem ↓] theorem agH {key:Nat}:W k u (WL σ key) ↔ W (fun xs=>W (fun p=>W (fun _=>k (p.1,TU (KD key p.1) ⟨p.2.tm,rem p.2.ob key⟩)) ⟨⟩ (get p.2.ob key)) ⟨⟩ (kQ σ xs)) ⟨⟩ (oJ σ key):=by
 simp only [WL,oJ,dO]
 cases get σ.ob key with
 | none=>exact bY
 | some o =>
  cases o with
  | iM xs =>
   simp only [oc,bH,bq]
   refine cK fun p=>?_
   cases get p.2.ob key with
   | none=>exact bY
   | some o=>exact lJ Iff.rfl
  | _=>exact bY
end
section
variable {k : FC × St → Prop} {u:Tok k}
@[go_sem ↓] theorem Xi {x:PL}:W k u (WK σ (.one x)) ↔ W (fun p=>k (.one p.1,p.2)) ⟨⟩ (xg σ x):=by simp only [WK,dO,bX]
@[go_sem ↓] theorem Xj {xs:List PL}:W k u (WK σ (.agg xs)) ↔ W (fun p=>k (.agg p.1,p.2)) ⟨⟩ (kQ σ xs):=by simp only [WK,dO,bX]
end
section
variable {k : List (List FV) × St → Prop} {u:Tok k} {q:Bool}
@[go_sem ↓] theorem U7 : W k u (lT q σ []) ↔ k ([],σ):=by simp only [lT,dO,bH]
@[go_sem ↓] theorem Xk {cs:List FV} {l:List CV}:W k u (lT q σ (.one (.fp cs) :: l)) ↔ W (fun r=>k (cs :: r.1,r.2)) ⟨⟩ (lT q σ l):=by simp only [lT,dO,bX]
@[go_sem ↓] theorem U8 {key:Nat} {l:List CV}:W k u (lT q σ (.one (.ptr key 0) :: l)) ↔ q = false ∧ W (fun p=>W (fun r=>k (p.1 :: r.1,r.2)) ⟨⟩ (lT q p.2 l)) ⟨⟩ (WL σ key):=by
 simp only [lT,dO,dx,bq,bX,Bool.not_eq_true]
end
section
variable {k : List (Nat × Nat × CV) → Prop} {u:Tok k}
@[go_sem ↓] theorem U9 : W k u (vals σ []) ↔ k []:=gN
@[go_sem ↓] theorem Sb {o n:Nat} {x:dX} {ps:List (Nat × Nat × dX)}:W k u (vals σ ((o,n,x) :: ps)) ↔ W (fun v=>W (fun l=>k ((o,n,v) :: l)) ⟨⟩ (vals σ ps)) ⟨⟩ (val σ x):=by
 simp only [vals,dO,bq,bX]
end
section
variable {k : List CV → Prop} {u:Tok k}
@[go_sem ↓] theorem Sc : W k u (jg σ []) ↔ k []:=gN
@[go_sem ↓] theorem OX {x:dX} {xs:List dX}:W k u (jg σ (x :: xs)) ↔ W (fun v=>W (fun l=>k (v :: l)) ⟨⟩ (jg σ xs)) ⟨⟩ (val σ x):=by
 simp only [jg,dO,bq,bX]
@[go_sem ↓] theorem Sd : W k u (slots σ []) ↔ k []:=gN
@[go_sem ↓] theorem OY {x:Rs} {xs:List Rs}:W k u (slots σ (x :: xs)) ↔ W (fun v=>W (fun l=>k (v :: l)) ⟨⟩ (slots σ xs)) ⟨⟩ (slot σ x):=by
 simp only [slots,dO,bq,bX]
end
section
variable {k : CV → Prop} {u:Tok k} {i n:Nat} {agg:Bool}
@[go_sem ↓] theorem Zj : W k u (slot σ (.t i)) ↔ W k ⟨⟩ (vl (get σ.tm i)):=by rw [← YP];exact Iff.rfl
@[go_sem ↓] theorem Sg : W k u (slot σ (.cell i n agg)) ↔ W (fun v=>W (fun p=>W (fun xs=>W (fun l=>W k ⟨⟩ (mk agg l)) ⟨⟩ (seg n p.2 xs)) ⟨⟩ (oJ σ p.1)) ⟨⟩ (Jq v)) ⟨⟩ (vl (get σ.tm i)):=by
 simp only [slot,dO]
 cases get σ.tm i with
 | none=>exact bY
 | some v =>
  cases v with
  | uF l=>exact bY
  | c x =>
   simp only [vl,bH]
   cases x with
   | agg l=>exact bY
   | one p =>
    cases p with
    | ptr key off =>
     simp only [Jq,bH,oJ]
     cases get σ.ob key with
     | none=>exact bY
     | some o=>cases o <;> first | exact bY | (simp only [oc,bH,bq])
    | _=>exact bY
end
section
variable {k : List PL → Prop} {u:Tok k} {z:List PL}
@[go_sem ↓] theorem Va : W k u (fill z []) ↔ k z:=by simp only [fill,dO,bH]
@[go_sem ↓] theorem Si {off n:Nat} {v:CV} {ps:List (Nat × Nat × CV)}:W k u (fill z ((off,n,v) :: ps)) ↔ ((cells v).length = n ∧ (cells v).any oP = false) ∧ W (fun z=>W k ⟨⟩ (fill z ps)) ⟨⟩ (lay off (cells v) z):=by
 simp only [fill,dO,bN,bq]
end
@[go_sem] theorem Zk {kk:IntKind} {n:Int}:wh (.int kk n) = some (.int kk n):=rfl
@[go_sem] theorem Xl {b:Bool}:wh (.bool b) = some (.bool b):=rfl
@[go_sem] theorem Zl {s:ByteArray}:wh (.str s) = some (.str s):=rfl
section
variable {k : KV → Prop} {u:Tok k}
@[go_sem ↓] theorem Xm {x:FV}:W k u (keyOf (.one (.f x))) ↔ W (fun s=>k (.one s)) ⟨⟩ (wh x):=by simp only [keyOf,GH,Option.bind_some,dO,bX]
@[go_sem ↓] theorem Xn {xs:List PL}:W k u (keyOf (.agg xs)) ↔ W (fun l=>W (fun s=>k (.agg s)) ⟨⟩ (rW l)) ⟨⟩ (nW xs):=by simp only [keyOf,dO,bq,bX]
end
section
variable {k : List SV → Prop} {u:Tok k}
@[go_sem ↓] theorem Sj : W k u (rW []) ↔ k []:=gN
@[go_sem ↓] theorem OZ {x:FV} {xs:List FV}:W k u (rW (x :: xs)) ↔ W (fun s=>W (fun l=>k (s :: l)) ⟨⟩ (rW xs)) ⟨⟩ (wh x):=by simp only [rW,dO,bq,bX]
end
section
variable {k : List FV → Prop} {u:Tok k}
@[go_sem ↓] theorem O1 : W k u (nW []) ↔ k []:=gN
@[go_sem ↓] theorem NZ {x:FV} {xs:List PL}:W k u (nW (.f x :: xs)) ↔ W (fun l=>k (x :: l)) ⟨⟩ (nW xs):=by simp only [nW,GH,Option.bind_some,dO,bX]
end
section
variable {k : CL × St → Prop} {u:Tok k} {key n:Nat}
@[go_sem] theorem agI {x:FV}:Jc σ (.f x) = some (.f x,σ):=rfl
@[go_sem] theorem acB : Jc σ .dN = some (.f (.sl []),σ):=rfl
@[go_sem] theorem acC : Jc σ .iy = some (.iy,σ):=rfl
@[go_sem] theorem Zm : Jc σ .fB = some (.fB,σ):=rfl
@[go_sem ↓] theorem Xo : W k u (Jc σ (.own key n)) ↔ W (fun o=>k (.own o.1 o.2,⟨σ.tm,rem σ.ob key⟩)) ⟨⟩ (iF σ key):=by
 simp only [Jc,iF,dO]
 cases get σ.ob key with
 | none=>exact bY
 | some o=>cases o <;> first | exact bY | exact lJ Iff.rfl
@[go_sem ↓] theorem Zn : W k u (Jc σ (.mp key)) ↔ W (fun o=>k (.mp o.1 o.2,⟨σ.tm,rem σ.ob key⟩)) ⟨⟩ (oh σ key):=by
 simp only [Jc,oh,dO]
 cases get σ.ob key with
 | none=>exact bY
 | some o=>cases o <;> first | exact bY | exact lJ Iff.rfl
end
section
variable {k : List CL × St → Prop} {u:Tok k}
@[go_sem ↓] theorem Vb : W k u (zB σ []) ↔ k ([],σ):=gN
@[go_sem ↓] theorem Sk {x:PL} {xs:List PL}:W k u (zB σ (x :: xs)) ↔ W (fun p=>W (fun r=>k (p.1 :: r.1,r.2)) ⟨⟩ (zB p.2 xs)) ⟨⟩ (Jc σ x):=by
 simp only [zB,dO,bq,bX]
end
section
variable {k : TV × St → Prop} {u:Tok k} {key n:Nat} {gv:Bool}
@[go_sem] theorem agJ {x:FV}:q9 gv σ (.f x) = some (.f x,σ):=rfl
@[go_sem] theorem acD : q9 gv σ .dN = some (.f (.sl []),σ):=rfl
@[go_sem] theorem acE : q9 gv σ .iy = some (.iy,σ):=rfl
@[go_sem] theorem Zo : q9 gv σ .fB = some (.fB,σ):=rfl
@[go_sem] theorem afe {cs:List FV}:q9 gv σ (.fp cs) = some (.fp cs,σ):=rfl
@[go_sem] theorem aff {f:FuncId} {cs:List (List FV)}:q9 gv σ (.fn f cs) = some (.fn f cs,σ):=rfl
@[go_sem ↓] theorem Xp : W k u (q9 false σ (.own key n)) ↔ W (fun o=>k (.f (.sl o.2),σ)) ⟨⟩ (iF σ key):=by
 simp only [q9,iF,dO]
 cases get σ.ob key with
 | none=>exact bY
 | some o=>cases o <;> first | exact bY | exact lJ Iff.rfl
@[go_sem ↓] theorem Vd : W k u (q9 true σ (.own key n)) ↔ W (fun o=>k (.own o.1 o.2,⟨σ.tm,rem σ.ob key⟩)) ⟨⟩ (iF σ key):=by
 simp only [q9,iF,dO]
 cases get σ.ob key with
 | none=>exact bY
 | some o=>cases o <;> first | exact bY | exact lJ Iff.rfl
@[go_sem ↓] theorem Zp : W k u (q9 gv σ (.mp key)) ↔ W (fun o=>k (.mp o.1 o.2,⟨σ.tm,rem σ.ob key⟩)) ⟨⟩ (oh σ key):=by
 simp only [q9,oh,dO]
 cases get σ.ob key with
 | none=>exact bY
 | some o=>cases o <;> first | exact bY | exact lJ Iff.rfl
@[go_sem ↓] theorem Xq : W k u (q9 gv σ (.ptr key 0)) ↔ W (fun xs=>W (fun p=>k (.ptr p.1,p.2)) ⟨⟩ (zB ⟨σ.tm,rem σ.ob key⟩ xs)) ⟨⟩ (oJ σ key):=by
 simp only [q9,oJ,dO]
 cases get σ.ob key with
 | none=>exact bY
 | some o=>cases o <;> first | exact bY | (simp only [oc,bH,bX])
end
section
variable {k : List TV × St → Prop} {u:Tok k} {gv:Bool}
@[go_sem ↓] theorem Ve : W k u (ru gv σ []) ↔ k ([],σ):=gN
@[go_sem ↓] theorem Sl {x:PL} {xs:List PL}:W k u (ru gv σ (x :: xs)) ↔ W (fun p=>W (fun r=>k (p.1 :: r.1,r.2)) ⟨⟩ (ru gv p.2 xs)) ⟨⟩ (q9 gv σ x):=by
 simp only [ru,dO,bq,bX]
end
section
variable {k : AV × St → Prop} {u:Tok k} {gv:Bool}
@[go_sem ↓] theorem Xr {x:PL}:W k u (Ko gv σ (.one x)) ↔ W (fun p=>k (.one p.1,p.2)) ⟨⟩ (q9 gv σ x):=by simp only [Ko,dO,bX]
@[go_sem ↓] theorem Xt {xs:List PL}:W k u (Ko gv σ (.agg xs)) ↔ W (fun p=>k (.agg p.1,p.2)) ⟨⟩ (ru gv σ xs):=by simp only [Ko,dO,bX]
end
section
variable {k : List AV × St → Prop} {u:Tok k} {gv:Bool}
@[go_sem ↓] theorem Vf : W k u (rX gv σ []) ↔ k ([],σ):=gN
@[go_sem ↓] theorem Sm {x:CV} {xs:List CV}:W k u (rX gv σ (x :: xs)) ↔ W (fun p=>W (fun r=>k (p.1 :: r.1,r.2)) ⟨⟩ (rX gv p.2 xs)) ⟨⟩ (Ko gv σ x):=by
 simp only [rX,dO,bq,bX]
end
section
variable {k : List PL × St → Prop} {u:Tok k} {kf:Nat → Nat} {c base j:Nat} {pend:List PL}
@[go_sem ↓] theorem Vg : W k u (qE kf c pend σ []) ↔ k ([],σ):=by simp only [qE,dO,bH]
def O4 (kf:Nat → Nat) (c:Nat) (pend:List PL) (σ:St):CL → Option (PL × St)
 | .f x=>some (.f x,σ)
 | .iy=>some (.iy,σ)
 | .fB=>some (.fB,σ)
 | .mp sh ents=>(newP pend σ (kf c) (.map sh ents)).map fun s=>(.mp (kf c),s)
 | .own sz rows=>(newP pend σ (kf c + kf c % 2) (.row sz rows)).map fun s=>(.own (kf c + kf c % 2) rows.length,s)
@[go_sem ↓] theorem Sn {x:CL} {xs:List CL}:W k u (qE kf c pend σ (x :: xs)) ↔ W (fun p=>W (fun r=>k (p.1 :: r.1,r.2)) ⟨⟩ (qE kf (c + 1) (p.1 :: pend) p.2 xs)) ⟨⟩ (O4 kf c pend σ x):=by
 simp only [dO]
 cases x <;> simp only [qE,O4,bH,bq,bX]
@[go_sem ↓] theorem Vh : W k u (xw base j pend σ []) ↔ k ([],σ):=by simp only [xw,dO,bH]
@[go_sem ↓] theorem Sq {x:TV} {xs:List TV}:W k u (xw base j pend σ (x :: xs)) ↔ W (fun p=>W (fun r=>k (p.1 :: r.1,r.2)) ⟨⟩ (xw base (j + 1) (p.1 :: pend) p.2 xs)) ⟨⟩ (CY (base + 200 * (j + 1)) pend σ x):=by
 simp only [xw,dO,bq,bX]
end
section
variable {k : PL × St → Prop} {u:Tok k} {kf:Nat → Nat} {c key:Nat} {pend:List PL}
@[go_sem] theorem agK {x:FV}:O4 kf c pend σ (.f x) = some (.f x,σ):=rfl
@[go_sem] theorem acF : O4 kf c pend σ .iy = some (.iy,σ):=rfl
@[go_sem] theorem Zq : O4 kf c pend σ .fB = some (.fB,σ):=rfl
@[go_sem ↓] theorem Zr {sh:KS} {ents:List (KV × FC)}:W k u (O4 kf c pend σ (.mp sh ents)) ↔ W (fun s=>k (.mp (kf c),s)) ⟨⟩ (newP pend σ (kf c) (.map sh ents)):=by simp only [O4,dO,bX]
@[go_sem ↓] theorem Xu {sz:Nat} {rows:List (List FV)}:W k u (O4 kf c pend σ (.own sz rows)) ↔ W (fun s=>k (.own (kf c + kf c % 2) rows.length,s)) ⟨⟩ (newP pend σ (kf c + kf c % 2) (.row sz rows)):=by simp only [O4,dO,bX]
@[go_sem] theorem agL {x:FV}:CY key pend σ (.f x) = some (.f x,σ):=rfl
@[go_sem] theorem acG : CY key pend σ .iy = some (.iy,σ):=rfl
@[go_sem] theorem Zt : CY key pend σ .fB = some (.fB,σ):=rfl
@[go_sem] theorem afg {cs:List FV}:CY key pend σ (.fp cs) = some (.fp cs,σ):=rfl
@[go_sem] theorem afh {f:FuncId} {cs:List (List FV)}:CY key pend σ (.fn f cs) = some (.fn f cs,σ):=rfl
@[go_sem] theorem acH : CY key pend σ .any = some (.any,σ):=rfl
@[go_sem ↓] theorem Zu {sh:KS} {ents:List (KV × FC)}:W k u (CY key pend σ (.mp sh ents)) ↔ W (fun s=>k (.mp key,s)) ⟨⟩ (newP pend σ key (.map sh ents)):=by simp only [CY,dO,bX]
@[go_sem ↓] theorem Xv {sz:Nat} {rows:List (List FV)}:W k u (CY key pend σ (.own sz rows)) ↔ W (fun s=>k (.own (ow key) rows.length,s)) ⟨⟩ (newP pend σ (ow key) (.row sz rows)):=by simp only [CY,dO,bX]
@[go_sem ↓] theorem Xw {cs:List CL}:W k u (CY key pend σ (.ptr cs)) ↔ W (fun p=>p.1.any (dU key) = false ∧ W (fun s=>k (.ptr key 0,s)) ⟨⟩ (newP pend p.2 key (.iM p.1))) ⟨⟩ (qE (Oc key) 0 pend σ cs):=by
 simp only [CY,dO,bq,dx,bX,Bool.not_eq_true]
end
section
variable {k : CV × St → Prop} {u:Tok k} {base:Nat} {pend:List PL}
@[go_sem ↓] theorem Xx {x:TV}:W k u (Kq base pend σ (.one x)) ↔ W (fun p=>k (.one p.1,p.2)) ⟨⟩ (CY (base + 200) pend σ x):=by simp only [Kq,dO,bX]
@[go_sem ↓] theorem Xy {xs:List TV}:W k u (Kq base pend σ (.agg xs)) ↔ W (fun p=>k (.agg p.1,p.2)) ⟨⟩ (xw base 0 pend σ xs):=by simp only [Kq,dO,bX]
end
section
variable {k : List CV × St → Prop} {u:Tok k} {base i:Nat} {pend:List PL} {bo:List Nat}
@[go_sem] theorem agM : ab bo i = if bo.contains i then dF i + 10001 else dF i + 1:=rfl
@[go_sem] theorem agN {key:Nat}:ow key = if key / 10000 % 2 = 0 then key + key % 2 else key:=rfl
@[go_sem ↓] theorem Vi : W k u (xA base i pend σ []) ↔ k ([],σ):=by simp only [xA,dO,bH]
@[go_sem ↓] theorem Sw {x:AV} {xs:List AV}:W k u (xA base i pend σ (x :: xs)) ↔ W (fun p=>W (fun r=>k (p.1 :: r.1,r.2)) ⟨⟩ (xA base (i + 1) (cells p.1 ++ pend) p.2 xs)) ⟨⟩ (Kq (base + 2000 * i) pend σ x):=by
 simp only [xA,dO,bq,bX]
@[go_sem ↓] theorem Sy : W k u (enter bo i pend σ []) ↔ k ([],σ):=by simp only [enter,dO,bH]
@[go_sem ↓] theorem O5 {x:AV} {xs:List AV}:W k u (enter bo i pend σ (x :: xs)) ↔ W (fun p=>W (fun s=>W (fun r=>k (p.1 :: r.1,r.2)) ⟨⟩ (enter bo (i + 1) (cells p.1 ++ pend) s xs)) ⟨⟩ (some ⟨put p.2.tm i (.c p.1),p.2.ob⟩)) ⟨⟩ (Kq (ab bo i) pend σ x):=by
 simp only [enter,dO,bq,bX,bH]
end
section
variable {k : St → Prop} {u:Tok k} {fH:St} {base:Nat} {pend:List PL}
@[go_sem ↓] theorem Vj : W k u (zC fH pend base σ [] []) ↔ k σ:=by simp only [zC,dO,bH]
@[go_sem ↓] theorem Sz {x:CV} {xs:List CV} {y:AV} {ys:List AV}:W k u (zC fH pend base σ (x :: xs) (y :: ys)) ↔ W (fun s=>W k ⟨⟩ (zC fH pend (base + 1000) s xs ys)) ⟨⟩ (XZ fH pend base σ x y):=by
 simp only [zC,dO,bq]
@[go_sem ↓] theorem Xz {x:PL} {y:TV}:W k u (XZ fH pend base σ (.one x) (.one y)) ↔ W k ⟨⟩ (CZ fH pend base σ x y):=Iff.rfl
@[go_sem ↓] theorem XA {x:List PL} {y:List TV}:W k u (XZ fH pend base σ (.agg x) (.agg y)) ↔ W k ⟨⟩ (Bg fH pend base σ x y):=Iff.rfl
@[go_sem ↓] theorem Vk : W k u (Bg fH pend base σ [] []) ↔ k σ:=by simp only [Bg,dO,bH]
@[go_sem ↓] theorem SA {x:PL} {xs:List PL} {y:TV} {ys:List TV}:W k u (Bg fH pend base σ (x :: xs) (y :: ys)) ↔ W (fun s=>W k ⟨⟩ (Bg fH pend (base + 200) s xs ys)) ⟨⟩ (CZ fH pend base σ x y):=by
 simp only [Bg,dO,bq]
@[go_sem ↓] theorem XB {key off:Nat} {cs:List CL}:W k u (CZ fH pend base σ (.ptr key off) (.ptr cs)) ↔ W (fun xs=>W (fun p=>k (jl p.2 key (.iM p.1))) ⟨⟩ (qE (Jd base xs) 0 pend σ cs)) ⟨⟩ (oJ fH key):=by
 simp only [CZ,oJ,dO]
 cases get fH.ob key with
 | none=>exact bY
 | some o=>cases o <;> first | exact bY | (simp only [oc,bH,bX])
@[go_sem] theorem afi {key:Nat} {sh:KS} {ents:List (KV × FC)}:CZ fH pend base σ (.mp key) (.mp sh ents) = some (jl σ key (.map sh ents)):=rfl
@[go_sem] theorem Zv {key n sz:Nat} {rows:List (List FV)}:CZ fH pend base σ (.own key n) (.own sz rows) = some (jl σ key (.row sz rows)):=rfl
@[go_sem] theorem agO {x y:FV}:CZ fH pend base σ (.f x) (.f y) = some σ:=rfl
@[go_sem] theorem acI {y:FV}:CZ fH pend base σ .dN (.f y) = some σ:=rfl
@[go_sem] theorem acJ : CZ fH pend base σ .iy .iy = some σ:=rfl
@[go_sem] theorem Zw : CZ fH pend base σ .fB .fB = some σ:=rfl
@[go_sem] theorem acK {key n:Nat} {y:FV}:CZ fH pend base σ (.own key n) (.f y) = some σ:=rfl
@[go_sem] theorem acL {key n:Nat}:CZ fH pend base σ (.own key n) .any = some σ:=rfl
@[go_sem] theorem afj {a b:List FV}:CZ fH pend base σ (.fp a) (.fp b) = some σ:=rfl
@[go_sem] theorem afk {f g:FuncId} {a b:List (List FV)}:CZ fH pend base σ (.fn f a) (.fn g b) = some σ:=rfl
end
def XC (base c:Nat):Option PL → Nat
 | some (.mp k)=>if k % 2 = 0 then k else base + 2 * (c + 1)
 | some (.own k _)=>if k % 2 = 0 then k else base + 2 * (c + 1)
 | _=>base + 2 * (c + 1)
@[go_sem] theorem acM {base c:Nat} {xs:List PL}:Jd base xs c = XC base c (xs[c]?):=by
 unfold Jd
 cases xs[c]? with
 | none=>rfl
 | some x=>cases x <;> rfl
@[go_sem] theorem afl {base c k:Nat}:XC base c (some (.mp k)) = if k % 2 = 0 then k else base + 2 * (c + 1):=rfl
@[go_sem] theorem acN {base c k n:Nat}:XC base c (some (.own k n)) = if k % 2 = 0 then k else base + 2 * (c + 1):=rfl
@[go_sem] theorem agP {base c:Nat} {x:FV}:XC base c (some (.f x)) = base + 2 * (c + 1):=rfl
@[go_sem] theorem acO {base c:Nat}:XC base c (some .dN) = base + 2 * (c + 1):=rfl
@[go_sem] theorem Zx {base c:Nat}:XC base c (some .fB) = base + 2 * (c + 1):=rfl
section
variable {k : TV × St → Prop} {u:Tok k} {key n:Nat}
@[go_sem] theorem afm {x:FV}:outT σ (.f x) = some (.f x,σ):=rfl
@[go_sem] theorem Zy : outT σ .dN = some (.f (.sl []),σ):=rfl
@[go_sem] theorem Zz : outT σ .iy = some (.iy,σ):=rfl
@[go_sem] theorem XD : outT σ .fB = some (.fB,σ):=rfl
@[go_sem] theorem acP {cs:List FV}:outT σ (.fp cs) = some (.fp cs,σ):=rfl
@[go_sem] theorem acQ {f:FuncId} {cs:List (List FV)}:outT σ (.fn f cs) = some (.fn f cs,σ):=rfl
@[go_sem ↓] theorem Vl : W k u (outT σ (.own key n)) ↔ W (fun p=>k (.f p.1,p.2)) ⟨⟩ (xg σ (.own key n)):=by simp only [outT,dO,bX]
@[go_sem ↓] theorem XE : W k u (outT σ (.mp key)) ↔ W (fun o=>k (.mp o.1 o.2,⟨σ.tm,rem σ.ob key⟩)) ⟨⟩ (oh σ key):=by
 simp only [outT,oh,dO]
 cases get σ.ob key with
 | none=>exact bY
 | some o=>cases o <;> first | exact bY | exact lJ Iff.rfl
@[go_sem ↓] theorem Vm : W k u (outT σ (.ptr key 0)) ↔ W (fun xs=>W (fun p=>k (.ptr p.1,p.2)) ⟨⟩ (zB ⟨σ.tm,rem σ.ob key⟩ xs)) ⟨⟩ (oJ σ key):=by
 simp only [outT,oJ,dO]
 cases get σ.ob key with
 | none=>exact bY
 | some o=>cases o <;> first | exact bY | (simp only [oc,bH,bX])
@[go_sem ↓] theorem Vn {sz:Nat}:W k u (Bh sz σ (.own key n)) ↔ W (fun o=>o.1 = sz ∧ k (.own sz o.2,⟨σ.tm,rem σ.ob key⟩)) ⟨⟩ (iF σ key):=by
 simp only [Bh,iF,dO]
 cases get σ.ob key with
 | none=>exact bY
 | some o=>cases o <;> first | exact bY | (simp only [LG,bH,bN])
@[go_sem ↓] theorem Vo {sz:Nat}:W k u (Bh sz σ .dN) ↔ ¬ sz = 0 ∧ k (.own sz [],σ):=by simp only [Bh,dO,dx,bH]
@[go_sem] theorem acR {x:PL} {y:FV}:jP σ x (.f y) = some (.f y,σ):=by cases x <;> first | rfl | (rename_i a b;cases b <;> rfl)
@[go_sem] theorem XF {x:PL}:jP σ x .iy = some (.iy,σ):=by cases x <;> first | rfl | (rename_i a b;cases b <;> rfl)
@[go_sem] theorem Vp {x:PL}:jP σ x .fB = some (.fB,σ):=by cases x <;> first | rfl | (rename_i a b;cases b <;> rfl)
def bko (σ:St) (key:Nat):Nat → Option (TV × St)
 | 1=>(LG (get σ.ob key)).map fun p=>(.own p.1 p.2,⟨σ.tm,rem σ.ob key⟩)
 | _=>some (.any,σ)
@[go_sem] theorem agQ : bko σ key 0 = some (.any,σ):=rfl
@[go_sem] theorem ZA : bko σ key 1 = (LG (get σ.ob key)).map fun p=>(.own p.1 p.2,⟨σ.tm,rem σ.ob key⟩):=rfl
@[go_sem] theorem XG {n sz:Nat} {rows:List (List FV)}:jP σ (.own key n) (.own sz rows) = bko σ key (key % 2):=by
 simp only [jP]
 rcases Nat.mod_two_eq_zero_or_one key with h | h
 ·rw [h,if_neg (by decide)];rfl
 ·rw [h,if_pos rfl,ZA]
  cases get σ.ob key with
  | none=>rfl
  | some o=>cases o <;> rfl
@[go_sem] theorem XH {sz:Nat} {rows:List (List FV)}:jP σ .dN (.own sz rows) = some (.any,σ):=rfl
@[go_sem] theorem XI {x:PL}:jP σ x .any = some (.any,σ):=by cases x <;> first | rfl | (rename_i a b;cases b <;> rfl)
@[go_sem] theorem ZB {x:PL} {cs:List FV}:jP σ x (.fp cs) = some (.fp cs,σ):=by cases x <;> first | rfl | (rename_i a b;cases b <;> rfl)
@[go_sem] theorem ZC {x:PL} {f:FuncId} {cs:List (List FV)}:jP σ x (.fn f cs) = some (.fn f cs,σ):=by cases x <;> first | rfl | (rename_i a b;cases b <;> rfl)
@[go_sem ↓] theorem SB {cs:List CL}:W k u (jP σ (.ptr key 0) (.ptr cs)) ↔ key % 2 = 1 ∧ W k ⟨⟩ (outT σ (.ptr key 0)):=by simp only [jP,dO,bN]
@[go_sem ↓] theorem Vq {sh:KS} {ents:List (KV × FC)}:W k u (jP σ (.mp key) (.mp sh ents)) ↔ key % 2 = 1 ∧ W k ⟨⟩ (outT σ (.mp key)):=by simp only [jP,dO,bN]
end
section
variable {k : List TV × St → Prop} {u:Tok k}
@[go_sem ↓] theorem SC : W k u (vI σ []) ↔ k ([],σ):=gN
@[go_sem ↓] theorem O6 {x:PL} {xs:List PL}:W k u (vI σ (x :: xs)) ↔ W (fun p=>W (fun r=>k (p.1 :: r.1,r.2)) ⟨⟩ (vI p.2 xs)) ⟨⟩ (outT σ x):=by
 simp only [vI,dO,bq,bX]
@[go_sem ↓] theorem O7 : W k u (nX σ [] []) ↔ k ([],σ):=by simp only [nX,dO,bH]
@[go_sem ↓] theorem N7 {l:PL} {ls:List PL} {x:TV} {xs:List TV}:W k u (nX σ (l :: ls) (x :: xs)) ↔ W (fun p=>W (fun r=>k (p.1 :: r.1,r.2)) ⟨⟩ (nX p.2 ls xs)) ⟨⟩ (jP σ l x):=by
 simp only [nX,dO,bq,bX]
end
section
variable {k : AV × St → Prop} {u:Tok k}
@[go_sem ↓] theorem Ku {x:PL}:W k u (Bj none σ (.one x)) ↔ W (fun p=>k (.one p.1,p.2)) ⟨⟩ (outT σ x):=by simp only [Bj,Oi,dO,bX]
@[go_sem ↓] theorem Kv {xs:List PL}:W k u (Bj none σ (.agg xs)) ↔ W (fun p=>k (.agg p.1,p.2)) ⟨⟩ (vI σ xs):=by simp only [Bj,Oi,dO,bX]
@[go_sem ↓] theorem SE {sz:Nat} {x:PL}:W k u (Bj (some sz) σ (.one x)) ↔ W (fun p=>k (.one p.1,p.2)) ⟨⟩ (Bh sz σ x):=by simp only [Bj,dO,bX]
@[go_sem ↓] theorem SF {l:PL} {x:TV}:W k u (xD σ (.one l) (.one x)) ↔ W (fun p=>k (.one p.1,p.2)) ⟨⟩ (jP σ l x):=by simp only [xD,dO,bX]
@[go_sem ↓] theorem SG {l:List PL} {x:List TV}:W k u (xD σ (.agg l) (.agg x)) ↔ W (fun p=>k (.agg p.1,p.2)) ⟨⟩ (nX σ l x):=by simp only [xD,dO,bX]
end
section
variable {k : List AV × St → Prop} {u:Tok k}
@[go_sem ↓] theorem SH {fl:List (Option Nat)}:W k u (mE fl σ []) ↔ k ([],σ):=by simp only [mE,dO,bH]
@[go_sem ↓] theorem O8 {fl:List (Option Nat)} {x:CV} {xs:List CV}:W k u (mE fl σ (x :: xs)) ↔ W (fun p=>W (fun r=>k (p.1 :: r.1,r.2)) ⟨⟩ (mE fl.tail p.2 xs)) ⟨⟩ (Bj (fl.headD none) σ x):=by
 simp only [mE,dO,bq,bX]
@[go_sem ↓] theorem O9 : W k u (jU σ [] []) ↔ k ([],σ):=by simp only [jU,dO,bH]
@[go_sem ↓] theorem N8 {l:CV} {ls:List CV} {x:AV} {xs:List AV}:W k u (jU σ (l :: ls) (x :: xs)) ↔ W (fun p=>W (fun r=>k (p.1 :: r.1,r.2)) ⟨⟩ (jU p.2 ls xs)) ⟨⟩ (xD σ l x):=by
 simp only [jU,dO,bq,bX]
end
section
variable {k : St → Prop} {u:Tok k} {gv:Bool} {d:Nat} {args:List CV} {p:List AV × St} {r:List AV × List AV} {s:St}
@[go_sem ↓] theorem afn : W k u (FE gv args p r) ↔ (if (!gv && ((r.1.any wu || !p.1.all fI) && args.any (fun x=>(cells x).any gG))) = true then W k ⟨⟩ (rY p.2 args) else k p.2):=by
 simp only [FE,dO]
 split
 ·exact Iff.rfl
 ·exact bH
@[go_sem ↓] theorem afo : W k u (FH d σ args p r s) ↔ (if p.1.all fI = true then k s else W k ⟨⟩ (zC σ (args.flatMap cells) (dF d + 10000) s args r.2)):=by
 simp only [FH,dO]
 split
 ·exact bH
 ·exact Iff.rfl
end
end
section
variable {σ : St} {ks CW:List Nat} {rws:List (Nat × Nat)}
@[go_sem] theorem afp : res ks CW rws σ = ⟨pick ks (jc σ rws).tm,pick CW (jc σ rws).ob⟩:=rfl
@[go_sem] theorem acS : jc σ [] = σ:=rfl
end
attribute [go_sem] if_true if_false true_and and_true Bool.not_false Bool.not_true Bool.and_false Bool.false_and Bool.and_true Bool.true_and Bool.or_false Bool.false_or Bool.or_true Bool.true_or Bool.false_eq_true not_true_eq_false not_false_eq_true ne_eq forall_const and_self implies_true KV.one.injEq KV.agg.injEq SV.str.injEq SV.int.injEq SV.bool.injEq List.cons.injEq List.getElem?_cons_zero List.getElem?_cons_succ List.getD_cons_zero List.getD_cons_succ List.contains_cons List.contains_nil decide_true decide_false fresh
end Go.Proofs.Ytfokaoeinpnagaa.Ev

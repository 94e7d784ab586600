/- A part of the proof of StoreBounds: cut, joined and given short names by a program of this session (wip/tools/pack.py); Lean checks it. No condition. -/
import Derived.Test.YtdkkgecdhapfhaaPSBdsf
import Derived.Test.YtdkkgecdhapfhaaPSBdsd
set_option linter.unusedSectionVars false
set_option linter.unusedSimpArgs false
set_option linter.unusedVariables false
namespace Go.Proofs.Ytdkkgecdhapfhaa.Ev
open Go
section
variable {Γ : Env} {F d:Nat} {q:Bool} {σ:St} {k:PV × St → Prop} {u:Tok k} {x y z:eu}
def KH (σ:St) (sh:KS):CV → Option (Option (Nat × List (KV × FC)))
  | .one .fB=>some none
  | .one (.mp key)=>(nN σ key).bind fun o=>if o.1 = sh then some (some (key,o.2)) else none
  | _=>none
@[go_sem] theorem Xr {sh:KS}:KH σ sh (.one .fB) = some none:=rfl
section
variable {k : Option (Nat × List (KV × FC)) → Prop} {u:Tok k}
@[go_sem ↓] theorem adu {sh:KS} {key:Nat}:W k u (KH σ sh (.one (.mp key))) ↔ W (fun o=>o.1 = sh ∧ k (some (key,o.2))) ⟨⟩ (nN σ key):=by
  simp only [KH,dS,bB,bO,bJ]
end
def rY (m:Option (Nat × List (KV × FC))) (a:KV):Option FC:=m.bind fun m=>Cn m.2 a
def cnt (m:Option (Nat × List (KV × FC))):Nat:=match m with
  | none=>0
  | some m=>m.2.length
@[go_sem] theorem Xt {a:KV}:rY none a = none:=rfl
@[go_sem] theorem Xu {key:Nat} {l:List (KV × FC)} {a:KV}:rY (some (key,l)) a = Cn l a:=rfl
@[go_sem] theorem Xv : cnt none = 0:=rfl
@[go_sem] theorem Xw {key:Nat} {l:List (KV × FC)}:cnt (some (key,l)) = l.length:=rfl
def lkv (z:FC) (ok:Bool) (r:Option FC):PV:=if ok then .uw [wJ (r.getD z),.one (.f (.bool r.isSome))] else .c (wJ (r.getD z))
@[go_sem] theorem adv {z:FC} {r:Option FC}:lkv z true r = .uw [wJ (r.getD z),.one (.f (.bool r.isSome))]:=rfl
@[go_sem] theorem adw {z:FC} {r:Option FC}:lkv z false r = .c (wJ (r.getD z)):=rfl
@[go_sem] theorem Xx {x:FV}:wJ (.one x) = .one (.f x):=rfl
@[go_sem] theorem Xy {xs:List FV}:wJ (.agg xs) = .agg (xs.map .f):=rfl
@[go_sem ↓] theorem adx {sh:KS} {z:FC} {ok:Bool}:W k u (cZ Γ q σ d (.look sh z ok x y)) ↔ W (fun v=>W (fun w=>W (fun a=>a.ks = sh ∧ W (fun m=>k (lkv z ok (rY m a),σ)) ⟨⟩ (KH σ sh v)) ⟨⟩ (keyOf w)) ⟨⟩ (val σ y)) ⟨⟩ (val σ x):=by
  simp only [cZ,dS,bB,dH,bY,ne_eq,Decidable.not_not]
  refine dI fun v=>dI fun w=>dI fun a=>and_congr Iff.rfl ?_
  cases v with
  | agg l=>exact bZ
  | one p =>
    cases p with
    | fB=>exact lg Iff.rfl
    | mp key =>
      simp only [KH,nN]
      cases get σ.ob key with
      | none=>exact bZ
      | some o =>
        cases o with
        | map sh' ents =>
          simp only [om,Option.bind_some]
          by_cases hs:sh' = sh
          · rw [if_pos hs,if_pos hs];exact lg (by cases ok <;> exact Iff.rfl)
          · rw [if_neg hs,if_neg hs];exact bZ
        | _=>exact bZ
    | _=>exact bZ
@[go_sem ↓] theorem ady : W k u (cZ Γ q σ d (.Ia x)) ↔ W (fun v=>W (fun n:Nat=>k (.c (.one (.f (.int .i64 (n:Int)))),σ)) ⟨⟩ (Nv σ v)) ⟨⟩ (val σ x):=by
  simp only [cZ,dS,bB]
  refine dI fun v=>?_
  cases v with
  | agg l=>exact bZ
  | one p =>
    cases p with
    | fB=>exact lg Iff.rfl
    | mp key =>
      simp only [Nv,nN]
      cases get σ.ob key with
      | none=>exact bZ
      | some o=>cases o <;> first | exact bZ | exact lg Iff.rfl
    | _=>exact bZ
def upv (σ:St) (sh:KS) (a:KV) (p:FC × St):CV → Option St
  | .one (.mp key)=>(nN p.2 key).bind fun o=>if o.1 = sh then some (jd p.2 key (.map sh (Ew o.2 a p.1))) else none
  | _=>none
@[go_sem ↓] theorem adz {sh:KS}:W k u (cZ Γ q σ d (.Al sh x y z)) ↔ W (fun v=>W (fun w=>W (fun a=>a.ks = sh ∧ W (fun w=>(q && (cells w).any gD) = false ∧ W (fun p=>W (fun s=>k (.c (.one .und),s)) ⟨⟩ (upv σ sh a p v)) ⟨⟩ (U8 σ w)) ⟨⟩ (val σ z)) ⟨⟩ (keyOf w)) ⟨⟩ (val σ y)) ⟨⟩ (val σ x):=by
  simp only [cZ,dS,bB,dH,ne_eq,Decidable.not_not,Bool.not_eq_true]
  refine dI fun v=>dI fun w=>dI fun a=>and_congr Iff.rfl (dI fun w=>and_congr Iff.rfl (dI fun p=>?_))
  cases v with
  | agg l=>exact bZ
  | one b =>
    cases b with
    | mp key =>
      simp only [upv,nN]
      cases get p.2.ob key with
      | none=>exact bZ
      | some o =>
        cases o with
        | map sh' ents =>
          simp only [om,Option.bind_some]
          split
          · exact lg Iff.rfl
          · exact bZ
        | _=>exact bZ
    | _=>exact bZ
section
variable {k : St → Prop} {u:Tok k} {sh:KS} {a:KV} {key:Nat}
@[go_sem ↓] theorem aeO {p:FC × St}:W k u (upv σ sh a p (.one (.mp key))) ↔ W (fun o=>o.1 = sh ∧ k (jd p.2 key (.map sh (Ew o.2 a p.1)))) ⟨⟩ (nN p.2 key):=by
  simp only [upv,dS,bB,bO,bJ]
end
def Xz (σ:St) (sh:KS) (a:KV):CV → Option St
  | .one .fB=>some σ
  | .one (.mp key)=>(nN σ key).bind fun o=>if o.1 = sh then some (jd σ key (.map sh (Ey o.2 a))) else none
  | _=>none
@[go_sem] theorem aaI {sh:KS} {a:KV}:Xz σ sh a (.one .fB) = some σ:=rfl
section
variable {k : St → Prop} {u:Tok k} {sh:KS} {a:KV} {key:Nat}
@[go_sem ↓] theorem aeP : W k u (Xz σ sh a (.one (.mp key))) ↔ W (fun o=>o.1 = sh ∧ k (jd σ key (.map sh (Ey o.2 a)))) ⟨⟩ (nN σ key):=by
  simp only [Xz,dS,bB,bO,bJ]
end
@[go_sem ↓] theorem aeQ {sh:KS}:W k u (cZ Γ q σ d (.del sh x y)) ↔ W (fun v=>W (fun w=>W (fun a=>a.ks = sh ∧ W (fun s=>k (.uw [],s)) ⟨⟩ (Xz σ sh a v)) ⟨⟩ (keyOf w)) ⟨⟩ (val σ y)) ⟨⟩ (val σ x):=by
  simp only [cZ,dS,bB,dH,ne_eq,Decidable.not_not]
  refine dI fun v=>dI fun w=>dI fun a=>and_congr Iff.rfl ?_
  cases v with
  | agg l=>exact bZ
  | one b =>
    cases b with
    | fB=>exact lg Iff.rfl
    | mp key =>
      simp only [Xz,nN]
      cases get σ.ob key with
      | none=>exact bZ
      | some o =>
        cases o with
        | map sh' ents =>
          simp only [om,Option.bind_some]
          split
          · exact lg Iff.rfl
          · exact bZ
        | _=>exact bZ
    | _=>exact bZ
def Vp (σ:St):CV → Option (List (List FV))
  | .one .fF=>some []
  | .one (.f (.sl rows))=>some rows
  | .one (.own key _)=>(iB σ key).map (·.2)
  | _=>none
@[go_sem] theorem aeR : Vp σ (.one .fF) = some []:=rfl
@[go_sem] theorem aeS {rows:List (List FV)}:Vp σ (.one (.f (.sl rows))) = some rows:=rfl
@[go_sem] theorem aeT {key n:Nat}:Vp σ (.one (.own key n)) = (iB σ key).map (·.2):=rfl
def Vq (q:Bool) (σ:St) (d sz bytes:Nat) (w:CV) (Dj:List (List FV)):CV → Option (PV × St)
  | .one .fF=>if q = false ∧ Dj.length * bytes ≤ 140737488355328 ∧ Dj.all (fun r=>r.length == sz) then (new σ (dF d) (.row sz Dj)).map fun s=>(.c (.one (.own (dF d) Dj.length)),s) else none
  | .one (.own key n)=>(iB σ key).bind fun o=>if q = false ∧ (o.2.length + Dj.length) * bytes ≤ 140737488355328 ∧ o.1 = sz ∧ n = o.2.length ∧ u6 key w = false ∧ key % 2 = 0 ∧ Dj.all (fun r=>r.length == sz) then
      some (.c (.one (.own key (o.2.length + Dj.length))),jd (sub σ key .any) key (.row sz (o.2 ++ Dj))) else none
  | _=>none
@[go_sem ↓] theorem aeU {e:TypeId} {sz bytes:Nat}:W k u (cZ Γ q σ d (.app e sz bytes x y)) ↔ W (fun v=>W (fun w=>W (fun l=>W k ⟨⟩ (Vq q σ d sz bytes w l v)) ⟨⟩ (Vp σ w)) ⟨⟩ (val σ y)) ⟨⟩ (val σ x):=by
  simp only [cZ,dS,bB]
  refine dI fun v=>dI fun w=>?_
  have e:pq σ w = Vp σ w:=by
    cases w with
    | agg l=>rfl
    | one p=>cases p with
      | f a=>cases a <;> rfl
      | own key n=>simp only [pq,Vp,iB];cases get σ.ob key with | none=>rfl | some o=>cases o <;> rfl
      | _=>rfl
  rw [e]
  refine dI fun l=>?_
  cases v with
  | agg l=>exact bZ
  | one p =>
    cases p with
    | fF=>exact Iff.rfl
    | own key n =>
      simp only [Vq,iB]
      cases get σ.ob key with
      | none=>exact bZ
      | some o=>cases o <;> exact Iff.rfl
    | _=>exact bZ
@[go_sem ↓] theorem aaJ {sz bytes:Nat} {w:CV} {l:List (List FV)}:W k u (Vq q σ d sz bytes w l (.one .fF)) ↔ (q = false ∧ l.length * bytes ≤ 140737488355328 ∧ l.all (fun r=>r.length == sz) = true) ∧ W (fun s=>k (.c (.one (.own (dF d) l.length)),s)) ⟨⟩ (new σ (dF d) (.row sz l)):=by
  simp only [Vq,dS,bO,bY]
@[go_sem ↓] theorem aaK {sz bytes key n:Nat} {w:CV} {l:List (List FV)}:W k u (Vq q σ d sz bytes w l (.one (.own key n))) ↔ W (fun o=>(q = false ∧ (o.2.length + l.length) * bytes ≤ 140737488355328 ∧ o.1 = sz ∧ n = o.2.length ∧ u6 key w = false ∧ key % 2 = 0 ∧ l.all (fun r=>r.length == sz) = true) ∧ k (.c (.one (.own key (o.2.length + l.length))),jd (sub σ key .any) key (.row sz (o.2 ++ l)))) ⟨⟩ (iB σ key):=by
  simp only [Vq,dS,bB,bO,bJ]
def cov (σ:St) (sz:Nat) (i:Int):CV → Option (PV × St)
  | .one (.own key n)=>(iB σ key).bind fun o=>if o.1 = sz ∧ key % 2 = 0 ∧ 0 ≤ i ∧ i ≤ o.2.length then some (.c (.one (.own key i.toNat)),jd (sub σ key .any) key (.row sz (o.2.take i.toNat))) else none
  | _=>none
@[go_sem ↓] theorem adA {sz:Nat}:W k u (cZ Γ q σ d (.Es sz x y)) ↔ q = false ∧ W (fun v=>W (fun j=>W (fun p=>W k ⟨⟩ (cov σ sz p.2 v)) ⟨⟩ (int? j)) ⟨⟩ (val σ y)) ⟨⟩ (val σ x):=by
  simp only [cZ,dS,bB,dH,Bool.not_eq_true]
  refine and_congr Iff.rfl (dI fun v=>dI fun j=>dI fun p=>?_)
  cases v with
  | agg l=>exact bZ
  | one b =>
    cases b with
    | own key n =>
      simp only [cov,iB]
      cases get σ.ob key with
      | none=>exact bZ
      | some o=>cases o <;> exact Iff.rfl
    | _=>exact bZ
@[go_sem ↓] theorem aeV {sz key n:Nat} {i:Int}:W k u (cov σ sz i (.one (.own key n))) ↔ W (fun o=>(o.1 = sz ∧ key % 2 = 0 ∧ 0 ≤ i ∧ i ≤ (o.2.length:Int)) ∧ k (.c (.one (.own key i.toNat)),jd (sub σ key .any) key (.row sz (o.2.take i.toNat)))) ⟨⟩ (iB σ key):=by
  simp only [cov,dS,bB,bO,bJ]
def cvv (σ:St) (sz:Nat) (i:Int):CV → Option PL
  | .one (.own key n)=>(iB σ key).bind fun o=>if o.1 = sz ∧ 0 ≤ i ∧ i ≤ o.2.length then some (.vw key sz o.2.length i.toNat) else none
  | _=>none
@[go_sem ↓] theorem adB {sz:Nat}:W k u (cZ Γ q σ d (.cutV sz x y)) ↔ W (fun v=>W (fun j=>W (fun p=>W (fun l=>k (.c (.one l),σ)) ⟨⟩ (cvv σ sz p.2 v)) ⟨⟩ (int? j)) ⟨⟩ (val σ y)) ⟨⟩ (val σ x):=by
  simp only [cZ,dS,bB]
  refine dI fun v=>dI fun j=>dI fun p=>?_
  cases v with
  | agg l=>exact bZ
  | one b =>
    cases b with
    | own key n =>
      simp only [cvv,iB]
      cases get σ.ob key with
      | none=>exact bZ
      | some o =>
        cases o with
        | row sz' rows=>simp only [KG,Option.bind_some,bO,bJ]
        | _=>exact bZ
    | _=>exact bZ
section
variable {k : PL → Prop} {u:Tok k}
@[go_sem ↓] theorem aeW {sz key n:Nat} {i:Int}:W k u (cvv σ sz i (.one (.own key n))) ↔ W (fun o=>(o.1 = sz ∧ 0 ≤ i ∧ i ≤ (o.2.length:Int)) ∧ k (.vw key sz o.2.length i.toNat)) ⟨⟩ (iB σ key):=by
  simp only [cvv,dS,bB,bO,bJ]
end
def vw? : CV → Option (Nat × Nat × Nat × Nat)
  | .one (.vw key z n lo)=>some (key,z,n,lo)
  | _=>none
@[go_sem] theorem adC {a b c e:Nat}:vw? (.one (.vw a b c e)) = some (a,b,c,e):=rfl
@[go_sem ↓] theorem aeX {sz:Nat} {zs:List FV}:W k u (cZ Γ q σ d (.Qo sz zs x)) ↔ W (fun v=>W (fun p=>W (fun o=>(o.1 = sz ∧ p.2.1 = sz ∧ zs.length = sz ∧ p.2.2.1 = o.2.length ∧ p.2.2.2 ≤ p.2.2.1) ∧ k (.uw [],jd σ p.1 (.row sz (o.2.take p.2.2.2 ++ List.replicate (p.2.2.1 - p.2.2.2) zs)))) ⟨⟩ (iB σ p.1)) ⟨⟩ (vw? v)) ⟨⟩ (val σ x):=by
  simp only [cZ,dS,bB]
  refine dI fun v=>?_
  cases v with
  | agg l=>exact bZ
  | one b =>
    cases b with
    | vw key z n lo =>
      simp only [vw?,bJ,iB]
      cases get σ.ob key with
      | none=>exact bZ
      | some o =>
        cases o with
        | row sz' rows=>simp only [KG,bO,bJ]
        | _=>exact bZ
    | _=>exact bZ
def QA (σ:St):CV → Option (List (List FV))
  | .one (.f (.sl rows))=>some rows
  | .one .fF=>some []
  | .one (.own key _)=>(iB σ key).bind fun o=>if o.1 = 1 then some o.2 else none
  | _=>none
@[go_sem] theorem aeY {rows:List (List FV)}:QA σ (.one (.f (.sl rows))) = some rows:=rfl
@[go_sem] theorem aeZ : QA σ (.one .fF) = some []:=rfl
@[go_sem] theorem QB : bytesOf [] = some ⟨#[]⟩:=rfl
@[go_sem] theorem Ny {n:Int} {l:List (List FV)}:bytesOf ([.int .u8 n] :: l) = (bytesOf l).map fun s=>⟨#[UInt8.ofNat n.toNat] ++ s.data⟩:=rfl
section
variable {k : List (List FV) → Prop} {u:Tok k}
@[go_sem ↓] theorem ae0 {key n:Nat}:W k u (QA σ (.one (.own key n))) ↔ W (fun o=>o.1 = 1 ∧ k o.2) ⟨⟩ (iB σ key):=by
  simp only [QA,dS,bB,bO,bJ]
end
@[go_sem ↓] theorem ae1 : W k u (cZ Γ q σ d (.U6 x)) ↔ W (fun v=>W (fun l=>W (fun s=>k (.c (.one (.f (.str s))),σ)) ⟨⟩ (bytesOf l)) ⟨⟩ (QA σ v)) ⟨⟩ (val σ x):=by
  simp only [cZ,dS,bB]
  refine dI fun v=>?_
  cases v with
  | agg l=>exact bZ
  | one b =>
    cases b with
    | f a =>
      cases a with
      | sl rows=>simp only [QA,bB,bJ,one]
      | _=>exact bZ
    | fF=>simp only [QA,bJ,bytesOf,one]
    | own key n =>
      simp only [QA,iB]
      cases get σ.ob key with
      | none=>exact bZ
      | some o =>
        cases o with
        | row sz' rows=>simp only [KG,Option.bind_some,bO,bB,bJ,one]
        | _=>exact bZ
    | _=>exact bZ
@[go_sem ↓] theorem ae2 {f:FuncId} {xs:List eu}:W k u (cZ Γ q σ d (.RH f xs)) ↔ W (fun l=>W (fun p=>k (.c (.one (.fn f p.1)),p.2)) ⟨⟩ (lF q σ l)) ⟨⟩ (iX σ xs):=by
  simp only [cZ,dS,bB,bY]
@[go_sem ↓] theorem adD {f:FuncId} {xs:List eu}:W k u (cZ Γ q σ d (.yQ f xs)) ↔ W (fun l=>W (fun gJ=>W (fun r=>W (fun p=>W (fun s=>k (.c (.one (.own (dF d) p.2.length)),s)) ⟨⟩ (new σ (dF d) (.row p.1 p.2))) ⟨⟩ (RL r.1)) ⟨⟩ (Γ f gJ)) ⟨⟩ (JG l)) ⟨⟩ (iX σ xs):=by
  simp only [cZ,rT,dS,bB,bY]
attribute [go_sem] avT MW avC JG
@[go_sem] theorem XA {sz:Nat} {rows:List (List FV)}:RL [.one (.own sz rows)] = some (sz,rows):=rfl
@[go_sem ↓] theorem aaL {gv:Bool} {f:FuncId} {xs:List eu}:W k u (cZ Γ q σ d (.call gv f xs)) ↔ W (fun l=>W k ⟨⟩ (kH Γ gv q σ d f l)) ⟨⟩ (iX σ xs):=by
  simp only [cZ,dS,bB]
def fn? : CV → Option (FuncId × List (List FV))
  | .one (.fn f caps)=>some (f,caps)
  | _=>none
@[go_sem] theorem adE {f:FuncId} {caps:List (List FV)}:fn? (.one (.fn f caps)) = some (f,caps):=rfl
@[go_sem ↓] theorem ae3 {xs:List eu}:W k u (cZ Γ q σ d (.dyn x xs)) ↔ W (fun v=>W (fun p=>W (fun l=>W k ⟨⟩ (kH Γ false q σ d p.1 (l ++ p.2.map fun c=>.one (.fp c)))) ⟨⟩ (iX σ xs)) ⟨⟩ (fn? v)) ⟨⟩ (val σ x):=by
  simp only [cZ,dS,bB]
  refine dI fun v=>?_
  cases v with
  | agg l=>exact bZ
  | one b =>
    cases b with
    | fn f caps=>simp only [fn?,bJ,bB]
    | _=>exact bZ
def ET (gv:Bool) (args:List CV) (p:List AV × St) (r:List AV × List AV):Option St:=if (!gv && ((r.1.any vL || !p.1.all fG) && args.any (fun x=>(cells x).any gD))) = true then rR p.2 args else some p.2
def EU (d:Nat) (σ:St) (args:List CV) (p:List AV × St) (r:List AV × List AV) (s:St):Option St:=if p.1.all fG = true then some s else yS σ (args.flatMap cells) (dF d + 10000) s args r.2
@[go_sem ↓] theorem XB {gv:Bool} {f:FuncId} {args:List CV}:W k u (kH Γ gv q σ d f args) ↔ W (fun p=>W (fun r0=>W (fun r=>((q && !(p.1.all fG && r.1.all fG)) = false ∧ (q && ((r.1.any vL || !p.1.all fG) && args.any (fun x=>(cells x).any gD))) = false) ∧
    W (fun s=>W (fun s=>W (fun v=>k (Ig v.1,v.2)) ⟨⟩ (wM (dF d) 0 [] s r.1)) ⟨⟩ (EU d σ args p r s)) ⟨⟩ (ET gv args p r)) ⟨⟩ (some (RJ q r0))) ⟨⟩ (Γ f p.1)) ⟨⟩ (rP gv σ args):=by
  simp only [kH,dS,bB,dH,bY,bJ,ET,EU,Bool.not_eq_true,and_assoc]
@[go_sem] theorem adF {r:List AV × List AV}:RJ false r = r:=rfl
@[go_sem] theorem aaM {r:List AV × List AV}:RJ true r = (r.1.map MV,r.2):=rfl
@[go_sem] theorem aaN {sz:Nat} {rows:List (List FV)}:MV (.one (.own sz rows)) = .one (.f (.sl rows)):=rfl
@[go_sem] theorem ae4 {x:FV}:MV (.one (.f x)) = .one (.f x):=rfl
@[go_sem] theorem aaO {xs:List TV}:MV (.agg xs) = .agg xs:=rfl
@[go_sem] theorem aaP {xs:List CL}:MV (.one (.ptr xs)) = .one (.ptr xs):=rfl
end
section
variable {Γ : Env} {F:Nat} {k:List AV × List AV → Prop} {u:Tok k} {cf:CF} {gJ:List AV}
@[go_sem ↓] theorem ae5 : W k u (Jz Γ F cf gJ) ↔ gJ.length = cf.np ∧ W (fun e=>W (fun p=>(∀ id,p.1 ≠ .ext id) ∧ W (fun b=>W (fun l=>W (fun r=>k (r.1,b.1)) ⟨⟩ (mY cf.ro b.2 l)) ⟨⟩ (slots b.2 cf.res)) ⟨⟩ (kI p.2 e.1 gJ)) ⟨⟩ (ev Γ F cf.body e.2)) ⟨⟩ (enter cf.bo 0 [] ⟨[],[]⟩ gJ):=by
  simp only [Jz,dS,dH,bB,ne_eq,Decidable.not_not]
  refine and_congr Iff.rfl (dI fun e=>dI fun p=>?_)
  obtain ⟨o,s⟩:=p
  cases o with
  | ext id=>simp [jW]
  | _=>simp [bB,bY]
@[go_sem] theorem aaQ : (∀ id,Out.jr ≠ .ext id) ↔ True:=by simp
@[go_sem] theorem aaR : (∀ id,Out.ret ≠ .ext id) ↔ True:=by simp
@[go_sem] theorem aaS {i:Nat}:(∀ id,Out.ext i ≠ .ext id) ↔ False:=by simp
end
end Go.Proofs.Ytdkkgecdhapfhaa.Ev
namespace Go.Proofs.Ytdkkgecdhapfhaa.Ev
open Go
attribute [go_sem] dF dX u6 qD lM nJ Et MS Ib sub jd oo gD jC plain fG Qp JF vL MU Ig JI RN RO RP JH RI rowsOf KV.ks SV.sk
attribute [go_sem] List.any_cons List.any_nil List.all_cons List.all_nil List.map_cons List.map_nil List.length_cons List.length_nil List.append_nil List.nil_append List.cons_append List.flatMap_cons List.flatMap_nil List.take_succ_cons List.take_zero List.take_nil List.drop_succ_cons List.drop_zero List.drop_nil Option.getD_some Option.getD_none List.filter_nil List.filter_cons List.headD_nil List.headD_cons List.tail_cons List.tail_nil
section
variable {σ : St} {α:Type}
section
variable {k : St → Prop} {u:Tok k} {key:Nat} {o:Ob} {pend:List PL}
@[go_sem ↓] theorem ae6 : W k u (new σ key o) ↔ (rem σ.ob key).any (fun p=>lM key p.2) = false ∧ k ⟨σ.tm.filter (fun p=>!qD key p.2),(key,o) :: rem σ.ob key⟩:=by
  simp only [new,U7,dS,bY,dH,bJ,Bool.not_eq_true]
@[go_sem ↓] theorem adG : W k u (newP pend σ key o) ↔ pend.any (dX key) = false ∧ W k ⟨⟩ (new σ key o):=by
  simp only [newP,dS,dH,Bool.not_eq_true]
@[go_sem ↓] theorem ae7 : W k u (yO σ key) ↔ W (fun p=>k (sub ⟨σ.tm,rem σ.ob key⟩ key (.f (.sl p.2)))) ⟨⟩ (iB σ key):=by
  simp only [yO,iB,dS]
  cases get σ.ob key with
  | none=>exact bZ
  | some o=>cases o <;> first | exact bZ | exact lg Iff.rfl
@[go_sem ↓] theorem Tm : W k u (wN σ []) ↔ k σ:=gK
@[go_sem ↓] theorem QC : W k u (rR σ []) ↔ k σ:=gK
@[go_sem ↓] theorem Nz {x:CV} {xs:List CV}:W k u (rR σ (x :: xs)) ↔ W (fun s=>W k ⟨⟩ (rR s xs)) ⟨⟩ (wN σ (cells x)):=by
  simp only [rR,dS,bB]
def oH (σ:St):PL → Option St
  | .own key _=>yO σ key
  | _=>some σ
@[go_sem ↓] theorem QD {x:PL} {xs:List PL}:W k u (wN σ (x :: xs)) ↔ W (fun s=>W k ⟨⟩ (wN s xs)) ⟨⟩ (oH σ x):=by
  simp only [dS]
  cases x <;> simp only [wN,oH,bB,bJ]
@[go_sem ↓] theorem QE {n:Nat}:W k u (oH σ (.own key n)) ↔ W k ⟨⟩ (yO σ key):=Iff.rfl
@[go_sem] theorem aaT {x:FV}:oH σ (.f x) = some σ:=rfl
@[go_sem] theorem Vr : oH σ .fF = some σ:=rfl
@[go_sem] theorem Vs {n:Nat}:oH σ (.ptr key n) = some σ:=rfl
@[go_sem] theorem XC : oH σ (.mp key) = some σ:=rfl
@[go_sem] theorem Vt : oH σ .jq = some σ:=rfl
@[go_sem] theorem Tn : oH σ .fB = some σ:=rfl
@[go_sem] theorem XD {f:FuncId} {c:List (List FV)}:oH σ (.fn f c) = some σ:=rfl
@[go_sem] theorem XE {c:List FV}:oH σ (.fp c) = some σ:=rfl
end
section
variable {k : FV × St → Prop} {u:Tok k} {key n:Nat}
@[go_sem] theorem ae8 {x:FV}:wH σ (.f x) = some (x,σ):=rfl
@[go_sem] theorem aaU : wH σ .fF = some (.sl [],σ):=rfl
@[go_sem ↓] theorem Vu : W k u (wH σ (.own key n)) ↔ W (fun p=>k (.sl p.2,sub ⟨σ.tm,rem σ.ob key⟩ key (.f (.sl p.2)))) ⟨⟩ (iB σ key):=by
  simp only [wH,yO,iB,dS]
  cases get σ.ob key with
  | none=>exact bZ
  | some o=>cases o <;> first | exact bZ | (simp only [Option.map_some];exact lg Iff.rfl)
end
section
variable {k : List FV × St → Prop} {u:Tok k}
@[go_sem ↓] theorem Tp : W k u (kG σ []) ↔ k ([],σ):=gK
@[go_sem ↓] theorem QF {x:PL} {xs:List PL}:W k u (kG σ (x :: xs)) ↔ W (fun p=>W (fun r=>k (p.1 :: r.1,r.2)) ⟨⟩ (kG p.2 xs)) ⟨⟩ (wH σ x):=by
  simp only [kG,dS,bB,bY]
@[go_sem ↓] theorem ae9 {key:Nat}:W k u (U9 σ key) ↔ W (fun xs=>W (fun p=>W (fun _=>k (p.1,RP (JH key p.1) ⟨p.2.tm,rem p.2.ob key⟩)) ⟨⟩ (get p.2.ob key)) ⟨⟩ (kG σ xs)) ⟨⟩ (nX σ key):=by
  simp only [U9,nX,dS]
  cases get σ.ob key with
  | none=>exact bZ
  | some o =>
    cases o with
    | mg xs =>
      simp only [oc,bJ,bB]
      refine dI fun p=>?_
      cases get p.2.ob key with
      | none=>exact bZ
      | some o=>exact lg Iff.rfl
    | _=>exact bZ
end
section
variable {k : FC × St → Prop} {u:Tok k}
@[go_sem ↓] theorem Vv {x:PL}:W k u (U8 σ (.one x)) ↔ W (fun p=>k (.one p.1,p.2)) ⟨⟩ (wH σ x):=by simp only [U8,dS,bY]
@[go_sem ↓] theorem Vw {xs:List PL}:W k u (U8 σ (.agg xs)) ↔ W (fun p=>k (.agg p.1,p.2)) ⟨⟩ (kG σ xs):=by simp only [U8,dS,bY]
end
section
variable {k : List (List FV) × St → Prop} {u:Tok k} {q:Bool}
@[go_sem ↓] theorem Tq : W k u (lF q σ []) ↔ k ([],σ):=by simp only [lF,dS,bJ]
@[go_sem ↓] theorem Vx {cs:List FV} {l:List CV}:W k u (lF q σ (.one (.fp cs) :: l)) ↔ W (fun r=>k (cs :: r.1,r.2)) ⟨⟩ (lF q σ l):=by simp only [lF,dS,bY]
@[go_sem ↓] theorem Tt {key:Nat} {l:List CV}:W k u (lF q σ (.one (.ptr key 0) :: l)) ↔ q = false ∧ W (fun p=>W (fun r=>k (p.1 :: r.1,r.2)) ⟨⟩ (lF q p.2 l)) ⟨⟩ (U9 σ key):=by
  simp only [lF,dS,dH,bB,bY,Bool.not_eq_true]
end
section
variable {k : List (Nat × Nat × CV) → Prop} {u:Tok k}
@[go_sem ↓] theorem Tv : W k u (vals σ []) ↔ k []:=gK
@[go_sem ↓] theorem QG {o n:Nat} {x:eu} {ps:List (Nat × Nat × eu)}:W k u (vals σ ((o,n,x) :: ps)) ↔ W (fun v=>W (fun l=>k ((o,n,v) :: l)) ⟨⟩ (vals σ ps)) ⟨⟩ (val σ x):=by
  simp only [vals,dS,bB,bY]
end
section
variable {k : List CV → Prop} {u:Tok k}
@[go_sem ↓] theorem QH : W k u (iX σ []) ↔ k []:=gK
@[go_sem ↓] theorem NA {x:eu} {xs:List eu}:W k u (iX σ (x :: xs)) ↔ W (fun v=>W (fun l=>k (v :: l)) ⟨⟩ (iX σ xs)) ⟨⟩ (val σ x):=by
  simp only [iX,dS,bB,bY]
@[go_sem ↓] theorem QI : W k u (slots σ []) ↔ k []:=gK
@[go_sem ↓] theorem NC {x:Rs} {xs:List Rs}:W k u (slots σ (x :: xs)) ↔ W (fun v=>W (fun l=>k (v :: l)) ⟨⟩ (slots σ xs)) ⟨⟩ (slot σ x):=by
  simp only [slots,dS,bB,bY]
end
section
variable {k : CV → Prop} {u:Tok k} {i n:Nat} {agg:Bool}
@[go_sem ↓] theorem XF : W k u (slot σ (.t i)) ↔ W k ⟨⟩ (vl (get σ.tm i)):=by rw [← Xb];exact Iff.rfl
@[go_sem ↓] theorem QJ : W k u (slot σ (.cell i n agg)) ↔ W (fun v=>W (fun p=>W (fun xs=>W (fun l=>W k ⟨⟩ (mk agg l)) ⟨⟩ (seg n p.2 xs)) ⟨⟩ (nX σ p.1)) ⟨⟩ (Iq v)) ⟨⟩ (vl (get σ.tm i)):=by
  simp only [slot,dS]
  cases get σ.tm i with
  | none=>exact bZ
  | some v =>
    cases v with
    | uw l=>exact bZ
    | c x =>
      simp only [vl,bJ]
      cases x with
      | agg l=>exact bZ
      | one p =>
        cases p with
        | ptr key off =>
          simp only [Iq,bJ,nX]
          cases get σ.ob key with
          | none=>exact bZ
          | some o=>cases o <;> first | exact bZ | (simp only [oc,bJ,bB])
        | _=>exact bZ
end
section
variable {k : List PL → Prop} {u:Tok k} {z:List PL}
@[go_sem ↓] theorem Tw : W k u (fill z []) ↔ k z:=by simp only [fill,dS,bJ]
@[go_sem ↓] theorem QK {off n:Nat} {v:CV} {ps:List (Nat × Nat × CV)}:W k u (fill z ((off,n,v) :: ps)) ↔ ((cells v).length = n ∧ (cells v).any oo = false) ∧ W (fun z=>W k ⟨⟩ (fill z ps)) ⟨⟩ (lay off (cells v) z):=by
  simp only [fill,dS,bO,bB]
end
@[go_sem] theorem XG {kk:IntKind} {n:Int}:wI (.int kk n) = some (.int kk n):=rfl
@[go_sem] theorem Vy {b:Bool}:wI (.bool b) = some (.bool b):=rfl
@[go_sem] theorem XH {s:ByteArray}:wI (.str s) = some (.str s):=rfl
section
variable {k : KV → Prop} {u:Tok k}
@[go_sem ↓] theorem Vz {x:FV}:W k u (keyOf (.one (.f x))) ↔ W (fun s=>k (.one s)) ⟨⟩ (wI x):=by simp only [keyOf,FQ,Option.bind_some,dS,bY]
@[go_sem ↓] theorem VA {xs:List PL}:W k u (keyOf (.agg xs)) ↔ W (fun l=>W (fun s=>k (.agg s)) ⟨⟩ (rM l)) ⟨⟩ (nK xs):=by simp only [keyOf,dS,bB,bY]
end
section
variable {k : List SV → Prop} {u:Tok k}
@[go_sem ↓] theorem QL : W k u (rM []) ↔ k []:=gK
@[go_sem ↓] theorem ND {x:FV} {xs:List FV}:W k u (rM (x :: xs)) ↔ W (fun s=>W (fun l=>k (s :: l)) ⟨⟩ (rM xs)) ⟨⟩ (wI x):=by simp only [rM,dS,bB,bY]
end
section
variable {k : List FV → Prop} {u:Tok k}
@[go_sem ↓] theorem NG : W k u (nK []) ↔ k []:=gK
@[go_sem ↓] theorem MK {x:FV} {xs:List PL}:W k u (nK (.f x :: xs)) ↔ W (fun l=>k (x :: l)) ⟨⟩ (nK xs):=by simp only [nK,FQ,Option.bind_some,dS,bY]
end
section
variable {k : CL × St → Prop} {u:Tok k} {key n:Nat}
@[go_sem] theorem afa {x:FV}:Ic σ (.f x) = some (.f x,σ):=rfl
@[go_sem] theorem aaV : Ic σ .fF = some (.f (.sl []),σ):=rfl
@[go_sem] theorem aaW : Ic σ .jq = some (.jq,σ):=rfl
@[go_sem] theorem XI : Ic σ .fB = some (.fB,σ):=rfl
@[go_sem ↓] theorem VB : W k u (Ic σ (.own key n)) ↔ W (fun o=>k (.own o.1 o.2,⟨σ.tm,rem σ.ob key⟩)) ⟨⟩ (iB σ key):=by
  simp only [Ic,iB,dS]
  cases get σ.ob key with
  | none=>exact bZ
  | some o=>cases o <;> first | exact bZ | exact lg Iff.rfl
@[go_sem ↓] theorem XJ : W k u (Ic σ (.mp key)) ↔ W (fun o=>k (.mp o.1 o.2,⟨σ.tm,rem σ.ob key⟩)) ⟨⟩ (nN σ key):=by
  simp only [Ic,nN,dS]
  cases get σ.ob key with
  | none=>exact bZ
  | some o=>cases o <;> first | exact bZ | exact lg Iff.rfl
end
section
variable {k : List CL × St → Prop} {u:Tok k}
@[go_sem ↓] theorem Tx : W k u (yR σ []) ↔ k ([],σ):=gK
@[go_sem ↓] theorem QM {x:PL} {xs:List PL}:W k u (yR σ (x :: xs)) ↔ W (fun p=>W (fun r=>k (p.1 :: r.1,r.2)) ⟨⟩ (yR p.2 xs)) ⟨⟩ (Ic σ x):=by
  simp only [yR,dS,bB,bY]
end
section
variable {k : TV × St → Prop} {u:Tok k} {key n:Nat} {gv:Bool}
@[go_sem] theorem afb {x:FV}:qP gv σ (.f x) = some (.f x,σ):=rfl
@[go_sem] theorem aaX : qP gv σ .fF = some (.f (.sl []),σ):=rfl
@[go_sem] theorem aaY : qP gv σ .jq = some (.jq,σ):=rfl
@[go_sem] theorem XK : qP gv σ .fB = some (.fB,σ):=rfl
@[go_sem] theorem adH {cs:List FV}:qP gv σ (.fp cs) = some (.fp cs,σ):=rfl
@[go_sem] theorem adI {f:FuncId} {cs:List (List FV)}:qP gv σ (.fn f cs) = some (.fn f cs,σ):=rfl
@[go_sem ↓] theorem VD : W k u (qP false σ (.own key n)) ↔ W (fun o=>k (.f (.sl o.2),σ)) ⟨⟩ (iB σ key):=by
  simp only [qP,iB,dS]
  cases get σ.ob key with
  | none=>exact bZ
  | some o=>cases o <;> first | exact bZ | exact lg Iff.rfl
@[go_sem ↓] theorem Tz : W k u (qP true σ (.own key n)) ↔ W (fun o=>k (.own o.1 o.2,⟨σ.tm,rem σ.ob key⟩)) ⟨⟩ (iB σ key):=by
  simp only [qP,iB,dS]
  cases get σ.ob key with
  | none=>exact bZ
  | some o=>cases o <;> first | exact bZ | exact lg Iff.rfl
@[go_sem ↓] theorem XL : W k u (qP gv σ (.mp key)) ↔ W (fun o=>k (.mp o.1 o.2,⟨σ.tm,rem σ.ob key⟩)) ⟨⟩ (nN σ key):=by
  simp only [qP,nN,dS]
  cases get σ.ob key with
  | none=>exact bZ
  | some o=>cases o <;> first | exact bZ | exact lg Iff.rfl
@[go_sem ↓] theorem VE : W k u (qP gv σ (.ptr key 0)) ↔ W (fun xs=>W (fun p=>k (.ptr p.1,p.2)) ⟨⟩ (yR ⟨σ.tm,rem σ.ob key⟩ xs)) ⟨⟩ (nX σ key):=by
  simp only [qP,nX,dS]
  cases get σ.ob key with
  | none=>exact bZ
  | some o=>cases o <;> first | exact bZ | (simp only [oc,bJ,bY])
end
section
variable {k : List TV × St → Prop} {u:Tok k} {gv:Bool}
@[go_sem ↓] theorem TA : W k u (qQ gv σ []) ↔ k ([],σ):=gK
@[go_sem ↓] theorem QN {x:PL} {xs:List PL}:W k u (qQ gv σ (x :: xs)) ↔ W (fun p=>W (fun r=>k (p.1 :: r.1,r.2)) ⟨⟩ (qQ gv p.2 xs)) ⟨⟩ (qP gv σ x):=by
  simp only [qQ,dS,bB,bY]
end
section
variable {k : AV × St → Prop} {u:Tok k} {gv:Bool}
@[go_sem ↓] theorem VF {x:PL}:W k u (Jw gv σ (.one x)) ↔ W (fun p=>k (.one p.1,p.2)) ⟨⟩ (qP gv σ x):=by simp only [Jw,dS,bY]
@[go_sem ↓] theorem VG {xs:List PL}:W k u (Jw gv σ (.agg xs)) ↔ W (fun p=>k (.agg p.1,p.2)) ⟨⟩ (qQ gv σ xs):=by simp only [Jw,dS,bY]
end
section
variable {k : List AV × St → Prop} {u:Tok k} {gv:Bool}
@[go_sem ↓] theorem TB : W k u (rP gv σ []) ↔ k ([],σ):=gK
@[go_sem ↓] theorem QO {x:CV} {xs:List CV}:W k u (rP gv σ (x :: xs)) ↔ W (fun p=>W (fun r=>k (p.1 :: r.1,r.2)) ⟨⟩ (rP gv p.2 xs)) ⟨⟩ (Jw gv σ x):=by
  simp only [rP,dS,bB,bY]
end
section
variable {k : List PL × St → Prop} {u:Tok k} {kf:Nat → Nat} {c base j:Nat} {pend:List PL}
@[go_sem ↓] theorem TD : W k u (qm kf c pend σ []) ↔ k ([],σ):=by simp only [qm,dS,bJ]
def NH (kf:Nat → Nat) (c:Nat) (pend:List PL) (σ:St):CL → Option (PL × St)
  | .f x=>some (.f x,σ)
  | .jq=>some (.jq,σ)
  | .fB=>some (.fB,σ)
  | .mp sh ents=>(newP pend σ (kf c) (.map sh ents)).map fun s=>(.mp (kf c),s)
  | .own sz rows=>(newP pend σ (kf c + kf c % 2) (.row sz rows)).map fun s=>(.own (kf c + kf c % 2) rows.length,s)
@[go_sem ↓] theorem QS {x:CL} {xs:List CL}:W k u (qm kf c pend σ (x :: xs)) ↔ W (fun p=>W (fun r=>k (p.1 :: r.1,r.2)) ⟨⟩ (qm kf (c + 1) (p.1 :: pend) p.2 xs)) ⟨⟩ (NH kf c pend σ x):=by
  simp only [dS]
  cases x <;> simp only [qm,NH,bJ,bB,bY]
@[go_sem ↓] theorem TF : W k u (wL base j pend σ []) ↔ k ([],σ):=by simp only [wL,dS,bJ]
@[go_sem ↓] theorem QT {x:TV} {xs:List TV}:W k u (wL base j pend σ (x :: xs)) ↔ W (fun p=>W (fun r=>k (p.1 :: r.1,r.2)) ⟨⟩ (wL base (j + 1) (p.1 :: pend) p.2 xs)) ⟨⟩ (Ci (base + 200 * (j + 1)) pend σ x):=by
  simp only [wL,dS,bB,bY]
end
section
variable {k : PL × St → Prop} {u:Tok k} {kf:Nat → Nat} {c key:Nat} {pend:List PL}
@[go_sem] theorem afc {x:FV}:NH kf c pend σ (.f x) = some (.f x,σ):=rfl
@[go_sem] theorem aaZ : NH kf c pend σ .jq = some (.jq,σ):=rfl
@[go_sem] theorem XM : NH kf c pend σ .fB = some (.fB,σ):=rfl
@[go_sem ↓] theorem XO {sh:KS} {ents:List (KV × FC)}:W k u (NH kf c pend σ (.mp sh ents)) ↔ W (fun s=>k (.mp (kf c),s)) ⟨⟩ (newP pend σ (kf c) (.map sh ents)):=by simp only [NH,dS,bY]
@[go_sem ↓] theorem VH {sz:Nat} {rows:List (List FV)}:W k u (NH kf c pend σ (.own sz rows)) ↔ W (fun s=>k (.own (kf c + kf c % 2) rows.length,s)) ⟨⟩ (newP pend σ (kf c + kf c % 2) (.row sz rows)):=by simp only [NH,dS,bY]
@[go_sem] theorem afd {x:FV}:Ci key pend σ (.f x) = some (.f x,σ):=rfl
@[go_sem] theorem aa0 : Ci key pend σ .jq = some (.jq,σ):=rfl
@[go_sem] theorem XP : Ci key pend σ .fB = some (.fB,σ):=rfl
@[go_sem] theorem adJ {cs:List FV}:Ci key pend σ (.fp cs) = some (.fp cs,σ):=rfl
@[go_sem] theorem adK {f:FuncId} {cs:List (List FV)}:Ci key pend σ (.fn f cs) = some (.fn f cs,σ):=rfl
@[go_sem] theorem aa1 : Ci key pend σ .any = some (.any,σ):=rfl
@[go_sem ↓] theorem XQ {sh:KS} {ents:List (KV × FC)}:W k u (Ci key pend σ (.mp sh ents)) ↔ W (fun s=>k (.mp key,s)) ⟨⟩ (newP pend σ key (.map sh ents)):=by simp only [Ci,dS,bY]
@[go_sem ↓] theorem VI {sz:Nat} {rows:List (List FV)}:W k u (Ci key pend σ (.own sz rows)) ↔ W (fun s=>k (.own (ow key) rows.length,s)) ⟨⟩ (newP pend σ (ow key) (.row sz rows)):=by simp only [Ci,dS,bY]
@[go_sem ↓] theorem VJ {cs:List CL}:W k u (Ci key pend σ (.ptr cs)) ↔ W (fun p=>p.1.any (dX key) = false ∧ W (fun s=>k (.ptr key 0,s)) ⟨⟩ (newP pend p.2 key (.mg p.1))) ⟨⟩ (qm (MU key) 0 pend σ cs):=by
  simp only [Ci,dS,bB,dH,bY,Bool.not_eq_true]
end
section
variable {k : CV × St → Prop} {u:Tok k} {base:Nat} {pend:List PL}
@[go_sem ↓] theorem VK {x:TV}:W k u (Jy base pend σ (.one x)) ↔ W (fun p=>k (.one p.1,p.2)) ⟨⟩ (Ci (base + 200) pend σ x):=by simp only [Jy,dS,bY]
@[go_sem ↓] theorem VL {xs:List TV}:W k u (Jy base pend σ (.agg xs)) ↔ W (fun p=>k (.agg p.1,p.2)) ⟨⟩ (wL base 0 pend σ xs):=by simp only [Jy,dS,bY]
end
section
variable {k : List CV × St → Prop} {u:Tok k} {base i:Nat} {pend:List PL} {bo:List Nat}
@[go_sem] theorem afe : ab bo i = if bo.contains i then dF i + 10001 else dF i + 1:=rfl
@[go_sem] theorem aff {key:Nat}:ow key = if key / 10000 % 2 = 0 then key + key % 2 else key:=rfl
@[go_sem ↓] theorem TG : W k u (wM base i pend σ []) ↔ k ([],σ):=by simp only [wM,dS,bJ]
@[go_sem ↓] theorem QU {x:AV} {xs:List AV}:W k u (wM base i pend σ (x :: xs)) ↔ W (fun p=>W (fun r=>k (p.1 :: r.1,r.2)) ⟨⟩ (wM base (i + 1) (cells p.1 ++ pend) p.2 xs)) ⟨⟩ (Jy (base + 2000 * i) pend σ x):=by
  simp only [wM,dS,bB,bY]
@[go_sem ↓] theorem QV : W k u (enter bo i pend σ []) ↔ k ([],σ):=by simp only [enter,dS,bJ]
@[go_sem ↓] theorem NI {x:AV} {xs:List AV}:W k u (enter bo i pend σ (x :: xs)) ↔ W (fun p=>W (fun s=>W (fun r=>k (p.1 :: r.1,r.2)) ⟨⟩ (enter bo (i + 1) (cells p.1 ++ pend) s xs)) ⟨⟩ (some ⟨put p.2.tm i (.c p.1),p.2.ob⟩)) ⟨⟩ (Jy (ab bo i) pend σ x):=by
  simp only [enter,dS,bB,bY,bJ]
end
section
variable {k : St → Prop} {u:Tok k} {fI:St} {base:Nat} {pend:List PL}
@[go_sem ↓] theorem TH : W k u (yS fI pend base σ [] []) ↔ k σ:=by simp only [yS,dS,bJ]
@[go_sem ↓] theorem QW {x:CV} {xs:List CV} {y:AV} {ys:List AV}:W k u (yS fI pend base σ (x :: xs) (y :: ys)) ↔ W (fun s=>W k ⟨⟩ (yS fI pend (base + 1000) s xs ys)) ⟨⟩ (V5 fI pend base σ x y):=by
  simp only [yS,dS,bB]
@[go_sem ↓] theorem VN {x:PL} {y:TV}:W k u (V5 fI pend base σ (.one x) (.one y)) ↔ W k ⟨⟩ (Cj fI pend base σ x y):=Iff.rfl
@[go_sem ↓] theorem VO {x:List PL} {y:List TV}:W k u (V5 fI pend base σ (.agg x) (.agg y)) ↔ W k ⟨⟩ (Ao fI pend base σ x y):=Iff.rfl
@[go_sem ↓] theorem TI : W k u (Ao fI pend base σ [] []) ↔ k σ:=by simp only [Ao,dS,bJ]
@[go_sem ↓] theorem QX {x:PL} {xs:List PL} {y:TV} {ys:List TV}:W k u (Ao fI pend base σ (x :: xs) (y :: ys)) ↔ W (fun s=>W k ⟨⟩ (Ao fI pend (base + 200) s xs ys)) ⟨⟩ (Cj fI pend base σ x y):=by
  simp only [Ao,dS,bB]
@[go_sem ↓] theorem VP {key off:Nat} {cs:List CL}:W k u (Cj fI pend base σ (.ptr key off) (.ptr cs)) ↔ W (fun xs=>W (fun p=>k (jd p.2 key (.mg p.1))) ⟨⟩ (qm (Ie base xs) 0 pend σ cs)) ⟨⟩ (nX fI key):=by
  simp only [Cj,nX,dS]
  cases get fI.ob key with
  | none=>exact bZ
  | some o=>cases o <;> first | exact bZ | (simp only [oc,bJ,bY])
@[go_sem] theorem adL {key:Nat} {sh:KS} {ents:List (KV × FC)}:Cj fI pend base σ (.mp key) (.mp sh ents) = some (jd σ key (.map sh ents)):=rfl
@[go_sem] theorem XR {key n sz:Nat} {rows:List (List FV)}:Cj fI pend base σ (.own key n) (.own sz rows) = some (jd σ key (.row sz rows)):=rfl
@[go_sem] theorem afg {x y:FV}:Cj fI pend base σ (.f x) (.f y) = some σ:=rfl
@[go_sem] theorem aa2 {y:FV}:Cj fI pend base σ .fF (.f y) = some σ:=rfl
@[go_sem] theorem aa3 : Cj fI pend base σ .jq .jq = some σ:=rfl
@[go_sem] theorem XT : Cj fI pend base σ .fB .fB = some σ:=rfl
@[go_sem] theorem aa4 {key n:Nat} {y:FV}:Cj fI pend base σ (.own key n) (.f y) = some σ:=rfl
@[go_sem] theorem aa5 {key n:Nat}:Cj fI pend base σ (.own key n) .any = some σ:=rfl
@[go_sem] theorem adM {a b:List FV}:Cj fI pend base σ (.fp a) (.fp b) = some σ:=rfl
@[go_sem] theorem adN {f g:FuncId} {a b:List (List FV)}:Cj fI pend base σ (.fn f a) (.fn g b) = some σ:=rfl
end
def VQ (base c:Nat):Option PL → Nat
  | some (.mp k)=>if k % 2 = 0 then k else base + 2 * (c + 1)
  | some (.own k _)=>if k % 2 = 0 then k else base + 2 * (c + 1)
  | _=>base + 2 * (c + 1)
@[go_sem] theorem aa6 {base c:Nat} {xs:List PL}:Ie base xs c = VQ base c (xs[c]?):=by
  unfold Ie
  cases xs[c]? with
  | none=>rfl
  | some x=>cases x <;> rfl
@[go_sem] theorem adO {base c k:Nat}:VQ base c (some (.mp k)) = if k % 2 = 0 then k else base + 2 * (c + 1):=rfl
@[go_sem] theorem aa7 {base c k n:Nat}:VQ base c (some (.own k n)) = if k % 2 = 0 then k else base + 2 * (c + 1):=rfl
@[go_sem] theorem afh {base c:Nat} {x:FV}:VQ base c (some (.f x)) = base + 2 * (c + 1):=rfl
@[go_sem] theorem aa8 {base c:Nat}:VQ base c (some .fF) = base + 2 * (c + 1):=rfl
@[go_sem] theorem XU {base c:Nat}:VQ base c (some .fB) = base + 2 * (c + 1):=rfl
section
variable {k : TV × St → Prop} {u:Tok k} {key n:Nat}
@[go_sem] theorem adP {x:FV}:outT σ (.f x) = some (.f x,σ):=rfl
@[go_sem] theorem XV : outT σ .fF = some (.f (.sl []),σ):=rfl
@[go_sem] theorem XW : outT σ .jq = some (.jq,σ):=rfl
@[go_sem] theorem VR : outT σ .fB = some (.fB,σ):=rfl
@[go_sem] theorem aa9 {cs:List FV}:outT σ (.fp cs) = some (.fp cs,σ):=rfl
@[go_sem] theorem abb {f:FuncId} {cs:List (List FV)}:outT σ (.fn f cs) = some (.fn f cs,σ):=rfl
@[go_sem ↓] theorem TJ : W k u (outT σ (.own key n)) ↔ W (fun p=>k (.f p.1,p.2)) ⟨⟩ (wH σ (.own key n)):=by simp only [outT,dS,bY]
@[go_sem ↓] theorem VT : W k u (outT σ (.mp key)) ↔ W (fun o=>k (.mp o.1 o.2,⟨σ.tm,rem σ.ob key⟩)) ⟨⟩ (nN σ key):=by
  simp only [outT,nN,dS]
  cases get σ.ob key with
  | none=>exact bZ
  | some o=>cases o <;> first | exact bZ | exact lg Iff.rfl
@[go_sem ↓] theorem TK : W k u (outT σ (.ptr key 0)) ↔ W (fun xs=>W (fun p=>k (.ptr p.1,p.2)) ⟨⟩ (yR ⟨σ.tm,rem σ.ob key⟩ xs)) ⟨⟩ (nX σ key):=by
  simp only [outT,nX,dS]
  cases get σ.ob key with
  | none=>exact bZ
  | some o=>cases o <;> first | exact bZ | (simp only [oc,bJ,bY])
@[go_sem ↓] theorem TL {sz:Nat}:W k u (Ap sz σ (.own key n)) ↔ W (fun o=>o.1 = sz ∧ k (.own sz o.2,⟨σ.tm,rem σ.ob key⟩)) ⟨⟩ (iB σ key):=by
  simp only [Ap,iB,dS]
  cases get σ.ob key with
  | none=>exact bZ
  | some o=>cases o <;> first | exact bZ | (simp only [KG,bJ,bO])
@[go_sem ↓] theorem TM {sz:Nat}:W k u (Ap sz σ .fF) ↔ ¬ sz = 0 ∧ k (.own sz [],σ):=by simp only [Ap,dS,dH,bJ]
@[go_sem] theorem abd {x:PL} {y:FV}:jJ σ x (.f y) = some (.f y,σ):=by cases x <;> first | rfl | (rename_i a b;cases b <;> rfl)
@[go_sem] theorem VU {x:PL}:jJ σ x .jq = some (.jq,σ):=by cases x <;> first | rfl | (rename_i a b;cases b <;> rfl)
@[go_sem] theorem TN {x:PL}:jJ σ x .fB = some (.fB,σ):=by cases x <;> first | rfl | (rename_i a b;cases b <;> rfl)
def bko (σ:St) (key:Nat):Nat → Option (TV × St)
  | 1=>(KG (get σ.ob key)).map fun p=>(.own p.1 p.2,⟨σ.tm,rem σ.ob key⟩)
  | _=>some (.any,σ)
@[go_sem] theorem afi : bko σ key 0 = some (.any,σ):=rfl
@[go_sem] theorem XY : bko σ key 1 = (KG (get σ.ob key)).map fun p=>(.own p.1 p.2,⟨σ.tm,rem σ.ob key⟩):=rfl
@[go_sem] theorem VW {n sz:Nat} {rows:List (List FV)}:jJ σ (.own key n) (.own sz rows) = bko σ key (key % 2):=by
  simp only [jJ]
  rcases Nat.mod_two_eq_zero_or_one key with h | h
  · rw [h,if_neg (by decide)];rfl
  · rw [h,if_pos rfl,XY]
    cases get σ.ob key with
    | none=>rfl
    | some o=>cases o <;> rfl
@[go_sem] theorem VX {sz:Nat} {rows:List (List FV)}:jJ σ .fF (.own sz rows) = some (.any,σ):=rfl
@[go_sem] theorem VY {x:PL}:jJ σ x .any = some (.any,σ):=by cases x <;> first | rfl | (rename_i a b;cases b <;> rfl)
@[go_sem] theorem XZ {x:PL} {cs:List FV}:jJ σ x (.fp cs) = some (.fp cs,σ):=by cases x <;> first | rfl | (rename_i a b;cases b <;> rfl)
@[go_sem] theorem X0 {x:PL} {f:FuncId} {cs:List (List FV)}:jJ σ x (.fn f cs) = some (.fn f cs,σ):=by cases x <;> first | rfl | (rename_i a b;cases b <;> rfl)
@[go_sem ↓] theorem QY {cs:List CL}:W k u (jJ σ (.ptr key 0) (.ptr cs)) ↔ key % 2 = 1 ∧ W k ⟨⟩ (outT σ (.ptr key 0)):=by simp only [jJ,dS,bO]
@[go_sem ↓] theorem TP {sh:KS} {ents:List (KV × FC)}:W k u (jJ σ (.mp key) (.mp sh ents)) ↔ key % 2 = 1 ∧ W k ⟨⟩ (outT σ (.mp key)):=by simp only [jJ,dS,bO]
end
section
variable {k : List TV × St → Prop} {u:Tok k}
@[go_sem ↓] theorem QZ : W k u (u7 σ []) ↔ k ([],σ):=gK
@[go_sem ↓] theorem NJ {x:PL} {xs:List PL}:W k u (u7 σ (x :: xs)) ↔ W (fun p=>W (fun r=>k (p.1 :: r.1,r.2)) ⟨⟩ (u7 p.2 xs)) ⟨⟩ (outT σ x):=by
  simp only [u7,dS,bB,bY]
@[go_sem ↓] theorem NK : W k u (nL σ [] []) ↔ k ([],σ):=by simp only [nL,dS,bJ]
@[go_sem ↓] theorem ML {l:PL} {ls:List PL} {x:TV} {xs:List TV}:W k u (nL σ (l :: ls) (x :: xs)) ↔ W (fun p=>W (fun r=>k (p.1 :: r.1,r.2)) ⟨⟩ (nL p.2 ls xs)) ⟨⟩ (jJ σ l x):=by
  simp only [nL,dS,bB,bY]
end
section
variable {k : AV × St → Prop} {u:Tok k}
@[go_sem ↓] theorem JB {x:PL}:W k u (Aq none σ (.one x)) ↔ W (fun p=>k (.one p.1,p.2)) ⟨⟩ (outT σ x):=by simp only [Aq,MZ,dS,bY]
@[go_sem ↓] theorem JC {xs:List PL}:W k u (Aq none σ (.agg xs)) ↔ W (fun p=>k (.agg p.1,p.2)) ⟨⟩ (u7 σ xs):=by simp only [Aq,MZ,dS,bY]
@[go_sem ↓] theorem Q0 {sz:Nat} {x:PL}:W k u (Aq (some sz) σ (.one x)) ↔ W (fun p=>k (.one p.1,p.2)) ⟨⟩ (Ap sz σ x):=by simp only [Aq,dS,bY]
@[go_sem ↓] theorem Q5 {l:PL} {x:TV}:W k u (wO σ (.one l) (.one x)) ↔ W (fun p=>k (.one p.1,p.2)) ⟨⟩ (jJ σ l x):=by simp only [wO,dS,bY]
@[go_sem ↓] theorem Q6 {l:List PL} {x:List TV}:W k u (wO σ (.agg l) (.agg x)) ↔ W (fun p=>k (.agg p.1,p.2)) ⟨⟩ (nL σ l x):=by simp only [wO,dS,bY]
end
section
variable {k : List AV × St → Prop} {u:Tok k}
@[go_sem ↓] theorem Q7 {fl:List (Option Nat)}:W k u (mY fl σ []) ↔ k ([],σ):=by simp only [mY,dS,bJ]
@[go_sem ↓] theorem NM {fl:List (Option Nat)} {x:CV} {xs:List CV}:W k u (mY fl σ (x :: xs)) ↔ W (fun p=>W (fun r=>k (p.1 :: r.1,r.2)) ⟨⟩ (mY fl.tail p.2 xs)) ⟨⟩ (Aq (fl.headD none) σ x):=by
  simp only [mY,dS,bB,bY]
@[go_sem ↓] theorem NP : W k u (kI σ [] []) ↔ k ([],σ):=by simp only [kI,dS,bJ]
@[go_sem ↓] theorem MN {l:CV} {ls:List CV} {x:AV} {xs:List AV}:W k u (kI σ (l :: ls) (x :: xs)) ↔ W (fun p=>W (fun r=>k (p.1 :: r.1,r.2)) ⟨⟩ (kI p.2 ls xs)) ⟨⟩ (wO σ l x):=by
  simp only [kI,dS,bB,bY]
end
section
variable {k : St → Prop} {u:Tok k} {gv:Bool} {d:Nat} {args:List CV} {p:List AV × St} {r:List AV × List AV} {s:St}
@[go_sem ↓] theorem adQ : W k u (ET gv args p r) ↔ (if (!gv && ((r.1.any vL || !p.1.all fG) && args.any (fun x=>(cells x).any gD))) = true then W k ⟨⟩ (rR p.2 args) else k p.2):=by
  simp only [ET,dS]
  split
  · exact Iff.rfl
  · exact bJ
@[go_sem ↓] theorem adR : W k u (EU d σ args p r s) ↔ (if p.1.all fG = true then k s else W k ⟨⟩ (yS σ (args.flatMap cells) (dF d + 10000) s args r.2)):=by
  simp only [EU,dS]
  split
  · exact bJ
  · exact Iff.rfl
end
end
section
variable {σ : St} {ks Ch:List Nat} {rws:List (Nat × Nat)}
@[go_sem] theorem adS : res ks Ch rws σ = ⟨pick ks (jr σ rws).tm,pick Ch (jr σ rws).ob⟩:=rfl
@[go_sem] theorem abe : jr σ [] = σ:=rfl
end
attribute [go_sem] if_true if_false true_and and_true Bool.not_false Bool.not_true Bool.and_false Bool.false_and Bool.and_true Bool.true_and Bool.or_false Bool.false_or Bool.or_true Bool.true_or Bool.false_eq_true not_true_eq_false not_false_eq_true ne_eq forall_const and_self implies_true KV.one.injEq KV.agg.injEq SV.str.injEq SV.int.injEq SV.bool.injEq List.cons.injEq List.getElem?_cons_zero List.getElem?_cons_succ List.getD_cons_zero List.getD_cons_succ List.contains_cons List.contains_nil decide_true decide_false fresh
end Go.Proofs.Ytdkkgecdhapfhaa.Ev
namespace Go.Proofs.Ytdkkgecdhapfhaa.Ka
open Go Ev
def c3 : CF:=⟨2,[(.t 4)],[],[],(.seq (.reg [⟨some 4,none,.mv (.k (.one (.f (.bool false))))⟩] [0,1]) (.seq (.seq (.reg [⟨some 22,none,.mv (.t 1)⟩,⟨some 23,none,.call false 14 [(.t 22),(.k (.one (.f (.int .i64 60))))]⟩,⟨some 24,none,.no (.t 23)⟩] [0,1,24]) (.cond (.t 24) (.seq (.reg [⟨some 25,none,.call false 15 []⟩,⟨some 4,none,.mv (.t 25)⟩] [4]) .ret) .skip)) (.seq (.reg [⟨some 26,none,.mv (.t 0)⟩,⟨some 27,none,.call false 16 [(.t 26)]⟩,⟨some 5,none,.mv (.t 27)⟩] [0,1,5]) (.seq (.reg [⟨some 28,none,.mv (.t 0)⟩,⟨some 29,none,.call false 17 [(.t 28)]⟩,⟨some 6,none,.alloc 29 [(.f (.int .i64 0)),.fF,(.f (.int .i64 0))]⟩,⟨none,none,(.store 3 (.t 6) (.t 29))⟩] [1,5,6]) (.seq (.seq (.reg [⟨some 30,none,.mv (.t 5)⟩,⟨some 31,none,.mW false (.t 30)⟩,⟨some 32,none,.fa 0 (.t 6)⟩,⟨some 33,none,.load 1 false (.t 32)⟩,⟨some 34,none,.cmp .eq (.t 33) (.k (.one (.f (.int .i64 0))))⟩,⟨some 35,none,.uy (.one .bool) true (.t 31) (.t 34)⟩] [1,5,6,35]) (.cond (.t 35) (.seq (.reg [⟨some 4,none,.mv (.k (.one (.f (.bool false))))⟩] [4]) .ret) .skip)) (.seq (.seq (.reg [⟨some 7,none,.mv (.k (.one (.f (.int .i64 0))))⟩] [1,5,6,7]) (.block 0 (.loop [1,5,6,7] [40202,140000,560200,560204,560206,600400,1180400,1640400,1642800,2920400] [] (.seq (.seq (.reg [⟨some 36,none,.mv (.t 7)⟩,⟨some 37,none,.mv (.t 1)⟩,⟨some 38,none,.jH (.t 37)⟩,⟨some 39,none,.cmp .lt (.t 36) (.t 38)⟩] [1,5,6,7,39]) (.cond (.t 39) .skip (.exit 0))) (.seq (.block 1 (.seq (.reg [⟨some 42,none,.mv (.t 1)⟩,⟨some 43,none,.mv (.t 7)⟩,⟨some 44,none,.ia 8 (.t 42) (.t 43)⟩,⟨some 45,none,.load 8 true (.t 44)⟩,⟨(some 8),none,(.alloc 37 [(.f (.int .i64 0)),(.f (.int .i64 0)),(.f (.str ⟨#[]⟩)),(.f (.int .i64 0)),(.f (.int .i64 0)),.fF,(.f (.int .i64 0)),(.f (.int .i64 0))])⟩,⟨none,none,(.store 8 (.t 8) (.t 45))⟩] [1,5,6,7,8]) (.seq (.seq (.reg [⟨some 46,none,.fa 0 (.t 8)⟩,⟨some 47,none,.load 1 false (.t 46)⟩] [1,5,6,7,8,47]) (.block 2 (.seq (.reg [⟨some 49,none,.cmp .eq (.t 47) (.k (.one (.f (.int .i64 0))))⟩,⟨some 48,none,.mv (.t 49)⟩] [1,5,6,7,8,47,48]) (.cond (.t 48) (.seq (.reg [⟨some 51,none,.load 3 true (.t 6)⟩,⟨some 52,none,.fa 1 (.t 8)⟩,⟨some 53,none,.load 1 false (.t 52)⟩,⟨some 54,none,.fa 2 (.t 8)⟩,⟨some 55,none,.load 5 true (.t 54)⟩,⟨some 56,none,.fa 7 (.t 8)⟩,⟨some 57,none,.load 1 false (.t 56)⟩,⟨some 58,none,.call false 18 [(.t 51),(.t 53),(.t 55),(.t 57)]⟩,⟨some 50,none,.mv (.t 58)⟩,⟨some 59,none,.ext (.t 50) 0⟩,⟨some 60,none,.ext (.t 50) 1⟩,⟨some 9,none,.alloc 29 [(.f (.int .i64 0)),.fF,(.f (.int .i64 0))]⟩,⟨none,none,(.store 3 (.t 9) (.t 59))⟩,⟨some 10,none,.mv (.t 60)⟩] [1,5,6,7,8,9,10]) (.seq (.reg [⟨some 61,none,.load 3 true (.t 9)⟩,⟨none,none,(.store 3 (.t 6) (.t 61))⟩] [1,5,6,7,8,10]) (.seq (.reg [⟨some 62,none,.mv (.t 5)⟩,⟨some 63,none,.fa 1 (.t 8)⟩,⟨some 64,none,.load 1 false (.t 63)⟩,⟨some 65,none,.fa 2 (.t 8)⟩,⟨some 66,none,.load 5 true (.t 65)⟩,⟨some 67,none,.fa 7 (.t 8)⟩,⟨some 68,none,.load 1 false (.t 67)⟩,⟨some 69,none,.call false 19 [(.t 62),(.t 64),(.t 66),(.t 68)]⟩,⟨some 70,none,.mv (.t 10)⟩,⟨some 71,none,.cmp .ne (.t 69) (.t 70)⟩] [1,5,6,7,71]) (.cond (.t 71) (.seq (.reg [⟨some 4,none,.mv (.k (.one (.f (.bool false))))⟩] [4]) .ret) .skip)))) (.seq (.reg [⟨some 73,none,.cmp .eq (.t 47) (.k (.one (.f (.int .i64 1))))⟩,⟨some 72,none,.mv (.t 73)⟩] [1,5,6,7,8,47,72]) (.cond (.t 72) (.seq (.reg [⟨some 75,none,.load 3 true (.t 6)⟩,⟨some 76,none,.fa 1 (.t 8)⟩,⟨some 77,none,.load 1 false (.t 76)⟩,⟨some 78,none,.fa 2 (.t 8)⟩,⟨some 79,none,.fa 0 (.t 78)⟩,⟨some 80,none,.load 3 true (.t 79)⟩,⟨some 81,none,.call false 20 [(.t 75),(.t 77),(.t 80)]⟩,⟨some 74,none,.mv (.t 81)⟩,⟨some 82,none,.ext (.t 74) 0⟩,⟨some 83,none,.ext (.t 74) 1⟩,⟨some 84,none,.ext (.t 74) 2⟩,⟨some 11,none,.alloc 29 [(.f (.int .i64 0)),.fF,(.f (.int .i64 0))]⟩,⟨(some 12),none,(.alloc 43 [(.f (.str ⟨#[]⟩)),(.f (.int .i64 0)),(.f (.int .i64 0)),.fF,(.f (.int .i64 0)),(.f (.int .i64 0)),(.f (.int .i64 0))])⟩,⟨none,none,(.store 3 (.t 11) (.t 82))⟩,⟨none,none,(.store 7 (.t 12) (.t 83))⟩,⟨some 13,none,.mv (.t 84)⟩] [1,5,6,7,8,11,12,13]) (.seq (.reg [⟨some 85,none,.load 3 true (.t 11)⟩,⟨none,none,(.store 3 (.t 6) (.t 85))⟩] [1,5,6,7,8,12,13]) (.seq (.reg [⟨some 87,none,.mv (.t 5)⟩,⟨some 88,none,.fa 1 (.t 8)⟩,⟨some 89,none,.load 1 false (.t 88)⟩,⟨some 90,none,.fa 2 (.t 8)⟩,⟨some 91,none,.fa 0 (.t 90)⟩,⟨some 92,none,.load 3 true (.t 91)⟩,⟨some 93,none,.call false 21 [(.t 87),(.t 89),(.t 92)]⟩,⟨some 86,none,.mv (.t 93)⟩,⟨some 94,none,.ext (.t 86) 0⟩,⟨some 95,none,.ext (.t 86) 1⟩,⟨(some 14),none,(.alloc 46 [(.f (.str ⟨#[]⟩)),(.f (.int .i64 0)),(.f (.int .i64 0)),.fF,(.f (.int .i64 0)),(.f (.int .i64 0)),(.f (.int .i64 0))])⟩,⟨none,none,(.store 7 (.t 14) (.t 94))⟩,⟨some 15,none,.mv (.t 95)⟩] [1,5,6,7,12,13,14,15]) (.seq (.uq [⟨⟨some 96,none,.mv (.t 13)⟩,[]⟩,⟨⟨some 97,none,.mv (.t 15)⟩,[]⟩,⟨⟨some 98,none,.uy (.one .bool) true (.t 96) (.t 97)⟩,[]⟩,⟨⟨some 99,none,.mv (.t 98)⟩,[]⟩,⟨⟨(some 100),(some ⟨(some 99),false⟩),(.load 7 true (.t 14))⟩,[]⟩,⟨⟨(some 101),(some ⟨(some 99),false⟩),(.call false 23 [(.t 100)])⟩,[]⟩,⟨⟨(some 102),(some ⟨(some 99),false⟩),(.load 7 true (.t 12))⟩,[]⟩] [] [] [⟨(some 103),(some ⟨(some 99),false⟩),(.call false 22 [(.t 101),(.t 102)])⟩,⟨(some 104),(some ⟨(some 99),false⟩),(.no (.t 103))⟩,⟨some 105,none,.pick (.t 99) (.k (.one (.f (.bool true)))) (.t 104)⟩] [1,5,6,7,105]) (.cond (.t 105) (.seq (.reg [⟨some 4,none,.mv (.k (.one (.f (.bool false))))⟩] [4]) .ret) .skip))))) (.seq (.reg [⟨some 107,none,.cmp .eq (.t 47) (.k (.one (.f (.int .i64 2))))⟩,⟨some 106,none,.mv (.t 107)⟩] [1,5,6,7,8,47,106]) (.cond (.t 106) (.seq (.reg [⟨some 109,none,.load 3 true (.t 6)⟩,⟨some 110,none,.fa 1 (.t 8)⟩,⟨some 111,none,.load 1 false (.t 110)⟩,⟨some 112,none,.fa 2 (.t 8)⟩,⟨some 113,none,.fa 0 (.t 112)⟩,⟨some 114,none,.load 3 true (.t 113)⟩,⟨some 115,none,.call false 24 [(.t 109),(.t 111),(.t 114)]⟩,⟨some 108,none,.mv (.t 115)⟩,⟨some 116,none,.ext (.t 108) 0⟩,⟨some 117,none,.ext (.t 108) 1⟩,⟨(some 16),none,(.alloc 43 [(.f (.str ⟨#[]⟩)),(.f (.int .i64 0)),(.f (.int .i64 0)),.fF,(.f (.int .i64 0)),(.f (.int .i64 0)),(.f (.int .i64 0))])⟩,⟨none,none,(.store 7 (.t 16) (.t 116))⟩,⟨some 17,none,.mv (.t 117)⟩] [1,5,6,7,8,16,17]) (.seq (.reg [⟨some 119,none,.mv (.t 5)⟩,⟨some 120,none,.fa 1 (.t 8)⟩,⟨some 121,none,.load 1 false (.t 120)⟩,⟨some 122,none,.fa 2 (.t 8)⟩,⟨some 123,none,.fa 0 (.t 122)⟩,⟨some 124,none,.load 3 true (.t 123)⟩,⟨some 125,none,.call false 25 [(.t 119),(.t 121),(.t 124)]⟩,⟨some 118,none,.mv (.t 125)⟩,⟨some 126,none,.ext (.t 118) 0⟩,⟨some 127,none,.ext (.t 118) 1⟩,⟨(some 18),none,(.alloc 46 [(.f (.str ⟨#[]⟩)),(.f (.int .i64 0)),(.f (.int .i64 0)),.fF,(.f (.int .i64 0)),(.f (.int .i64 0)),(.f (.int .i64 0))])⟩,⟨none,none,(.store 7 (.t 18) (.t 126))⟩,⟨some 19,none,.mv (.t 127)⟩] [1,5,6,7,16,17,18,19]) (.seq (.uq [⟨⟨some 128,none,.mv (.t 17)⟩,[]⟩,⟨⟨some 129,none,.mv (.t 19)⟩,[]⟩,⟨⟨some 130,none,.uy (.one .bool) true (.t 128) (.t 129)⟩,[]⟩,⟨⟨some 131,none,.mv (.t 130)⟩,[]⟩,⟨⟨(some 132),(some ⟨(some 131),false⟩),(.load 7 true (.t 18))⟩,[]⟩,⟨⟨(some 133),(some ⟨(some 131),false⟩),(.call false 23 [(.t 132)])⟩,[]⟩,⟨⟨(some 134),(some ⟨(some 131),false⟩),(.load 7 true (.t 16))⟩,[]⟩] [] [] [⟨(some 135),(some ⟨(some 131),false⟩),(.call false 22 [(.t 133),(.t 134)])⟩,⟨(some 136),(some ⟨(some 131),false⟩),(.no (.t 135))⟩,⟨some 137,none,.pick (.t 131) (.k (.one (.f (.bool true)))) (.t 136)⟩] [1,5,6,7,137]) (.cond (.t 137) (.seq (.reg [⟨some 4,none,.mv (.k (.one (.f (.bool false))))⟩] [4]) .ret) .skip)))) (.seq (.reg [⟨some 139,none,.cmp .eq (.t 47) (.k (.one (.f (.int .i64 3))))⟩,⟨some 138,none,.mv (.t 139)⟩] [1,5,6,7,8,138]) (.cond (.t 138) (.seq (.reg [⟨some 141,none,.load 3 true (.t 6)⟩,⟨some 142,none,.fa 2 (.t 8)⟩,⟨some 143,none,.fa 0 (.t 142)⟩,⟨some 144,none,.load 3 true (.t 143)⟩,⟨some 145,none,.call false 26 [(.t 141),(.t 144)]⟩,⟨some 140,none,.mv (.t 145)⟩,⟨some 146,none,.ext (.t 140) 0⟩,⟨some 147,none,.ext (.t 140) 1⟩,⟨some 20,none,.alloc 29 [(.f (.int .i64 0)),.fF,(.f (.int .i64 0))]⟩,⟨none,none,(.store 3 (.t 20) (.t 146))⟩,⟨some 21,none,.mv (.t 147)⟩] [1,5,6,7,8,20,21]) (.seq (.reg [⟨some 148,none,.load 3 true (.t 20)⟩,⟨none,none,(.store 3 (.t 6) (.t 148))⟩] [1,5,6,7,8,21]) (.seq (.reg [⟨some 149,none,.mv (.t 5)⟩,⟨some 150,none,.fa 2 (.t 8)⟩,⟨some 151,none,.fa 0 (.t 150)⟩,⟨some 152,none,.load 3 true (.t 151)⟩,⟨some 153,none,.call false 27 [(.t 149),(.t 152)]⟩,⟨some 154,none,.mv (.t 21)⟩,⟨some 155,none,.uy (.one .bool) true (.t 153) (.t 154)⟩] [1,5,6,7,155]) (.cond (.t 155) (.seq (.reg [⟨some 4,none,.mv (.k (.one (.f (.bool false))))⟩] [4]) .ret) .skip)))) .skip)))))))))) (.seq (.any [⟨some 156,none,.mv (.t 5)⟩,⟨some 157,none,.call false 29 [(.t 156)]⟩,⟨some 158,none,.load 3 true (.t 6)⟩,⟨some 159,none,.call false 30 [(.t 158)]⟩,⟨some 160,none,.call false 28 [(.t 157),(.t 159)]⟩,⟨some 161,none,.no (.t 160)⟩,⟨some 162,none,.mv (.t 161)⟩,⟨(some 163),(some ⟨(some 162),false⟩),(.mv (.t 5))⟩,⟨(some 164),(some ⟨(some 162),false⟩),(.call false 31 [(.t 163)])⟩,⟨(some 165),(some ⟨(some 162),false⟩),(.fa 2 (.t 6))⟩,⟨(some 166),(some ⟨(some 162),false⟩),(.load 1 false (.t 165))⟩,⟨(some 167),(some ⟨(some 162),false⟩),(.cmp .ne (.t 164) (.t 166))⟩,⟨some 168,none,.pick (.t 162) (.k (.one (.f (.bool true)))) (.t 167)⟩] [[0,1,2,3,4,5,6,7,9,8,10,11,12],[0,1,2,3,4,5,6,7,9,10,8,11,12],[0,2,1,3,4,5,6,7,9,8,10,11,12],[0,2,1,3,4,5,6,7,9,10,8,11,12]] [1,5,6,7,168] [40202,140000,560200,560204,560206,600400,1180400,1640400,1642800,2920400]) (.cond (.t 168) (.seq (.reg [⟨some 4,none,.mv (.k (.one (.f (.bool false))))⟩] [4]) .ret) .skip))))) (.reg [⟨some 40,none,.mv (.t 7)⟩,⟨some 41,none,.ar .add (.t 40) (.k (.one (.f (.int .i64 1))))⟩,⟨some 7,none,.mv (.t 41)⟩] [1,5,6,7])))))) (.seq (.reg [⟨some 169,none,.call false 15 []⟩,⟨some 4,none,.mv (.t 169)⟩] [4]) .ret)))))))⟩
def c4 : CF:=⟨2,[(.t 4)],[],[],(.seq (.reg [⟨some 4,none,.mv (.k (.one (.f (.bool false))))⟩] [0,1]) (.seq (.seq (.reg [⟨some 13,none,.mv (.t 1)⟩,⟨some 14,none,.call false 14 [(.t 13),(.k (.one (.f (.int .i64 60))))]⟩,⟨some 15,none,.no (.t 14)⟩,⟨some 16,none,.mv (.t 15)⟩,⟨(some 17),(some ⟨(some 16),false⟩),(.mv (.t 0))⟩,⟨(some 18),(some ⟨(some 16),false⟩),(.cmp .lt (.t 17) (.k (.one (.f (.int .i64 1)))))⟩,⟨some 19,none,.pick (.t 16) (.k (.one (.f (.bool true)))) (.t 18)⟩,⟨some 20,none,.mv (.t 19)⟩,⟨(some 21),(some ⟨(some 20),false⟩),(.mv (.t 0))⟩,⟨(some 22),(some ⟨(some 20),false⟩),(.cmp .gt (.t 21) (.k (.one (.f (.int .i64 1000)))))⟩,⟨some 23,none,.pick (.t 20) (.k (.one (.f (.bool true)))) (.t 22)⟩] [0,1,23]) (.cond (.t 23) (.seq (.reg [⟨some 24,none,.call false 15 []⟩,⟨some 4,none,.mv (.t 24)⟩] [4]) .ret) .skip)) (.seq (.reg [⟨some 25,none,.mv (.t 0)⟩,⟨some 26,none,.call false 16 [(.t 25)]⟩,⟨some 5,none,.mv (.t 26)⟩] [0,1,5]) (.seq (.seq (.reg [⟨some 27,none,.mv (.t 5)⟩,⟨some 28,none,.mW false (.t 27)⟩] [0,1,5,28]) (.cond (.t 28) (.seq (.reg [⟨some 4,none,.mv (.k (.one (.f (.bool false))))⟩] [4]) .ret) .skip)) (.seq (.reg [⟨some 6,none,.mv (.k (.one .fF))⟩] [0,1,5,6]) (.seq (.seq (.reg [⟨some 7,none,.mv (.k (.one (.f (.int .i64 0))))⟩] [0,1,5,6,7]) (.block 0 (.loop [0,1,5,6,7] [40202,140000,540200,540204,540206] [⟨6,5⟩] (.seq (.seq (.reg [⟨some 29,none,.mv (.t 7)⟩,⟨some 30,none,.mv (.t 1)⟩,⟨some 31,none,.jH (.t 30)⟩,⟨some 32,none,.cmp .lt (.t 29) (.t 31)⟩] [0,1,5,6,7,32]) (.cond (.t 32) .skip (.exit 0))) (.seq (.block 1 (.seq (.reg [⟨some 35,none,.mv (.t 1)⟩,⟨some 36,none,.mv (.t 7)⟩,⟨some 37,none,.ia 8 (.t 35) (.t 36)⟩,⟨some 38,none,.load 8 true (.t 37)⟩,⟨(some 8),none,(.alloc 37 [(.f (.int .i64 0)),(.f (.int .i64 0)),(.f (.str ⟨#[]⟩)),(.f (.int .i64 0)),(.f (.int .i64 0)),.fF,(.f (.int .i64 0)),(.f (.int .i64 0))])⟩,⟨none,none,(.store 8 (.t 8) (.t 38))⟩] [0,1,5,6,7,8]) (.seq (.seq (.reg [⟨some 39,none,.fa 0 (.t 8)⟩,⟨some 40,none,.load 1 false (.t 39)⟩,⟨some 41,none,.cmp .ne (.t 40) (.k (.one (.f (.int .i64 0))))⟩] [0,1,5,6,7,8,41]) (.cond (.t 41) (.seq (.reg [⟨some 43,none,.mv (.t 5)⟩,⟨some 44,none,.fa 1 (.t 8)⟩,⟨some 45,none,.load 1 false (.t 44)⟩,⟨some 46,none,.fa 2 (.t 8)⟩,⟨some 47,none,.fa 0 (.t 46)⟩,⟨some 48,none,.load 3 true (.t 47)⟩,⟨some 49,none,.call false 21 [(.t 43),(.t 45),(.t 48)]⟩,⟨some 42,none,.mv (.t 49)⟩,⟨some 50,none,.ext (.t 42) 0⟩,⟨some 51,none,.ext (.t 42) 1⟩,⟨(some 9),none,(.alloc 46 [(.f (.str ⟨#[]⟩)),(.f (.int .i64 0)),(.f (.int .i64 0)),.fF,(.f (.int .i64 0)),(.f (.int .i64 0)),(.f (.int .i64 0))])⟩,⟨none,none,(.store 7 (.t 9) (.t 50))⟩,⟨some 10,none,.mv (.t 51)⟩] [0,1,5,6,7,8,9,10]) (.seq (.any [⟨some 52,none,.mv (.t 10)⟩,⟨some 53,none,.mv (.t 52)⟩,⟨(some 54),(some ⟨(some 53),true⟩),(.fa 5 (.t 9))⟩,⟨(some 55),(some ⟨(some 53),true⟩),(.load 1 false (.t 54))⟩,⟨(some 56),(some ⟨(some 53),true⟩),(.fa 1 (.t 8))⟩,⟨(some 57),(some ⟨(some 53),true⟩),(.load 1 false (.t 56))⟩,⟨(some 58),(some ⟨(some 53),true⟩),(.cmp .le (.t 55) (.t 57))⟩,⟨(some 59),(some ⟨(some 53),true⟩),(.mv (.t 58))⟩,⟨(some 60),(some ⟨(some 59),false⟩),(.fa 0 (.t 9))⟩,⟨(some 61),(some ⟨(some 59),false⟩),(.fa 0 (.t 60))⟩,⟨(some 62),(some ⟨(some 59),false⟩),(.load 3 true (.t 61))⟩,⟨(some 63),(some ⟨(some 59),false⟩),(.fa 2 (.t 8))⟩,⟨(some 64),(some ⟨(some 59),false⟩),(.fa 0 (.t 63))⟩,⟨(some 65),(some ⟨(some 59),false⟩),(.load 3 true (.t 64))⟩,⟨(some 66),(some ⟨(some 59),false⟩),(.uy (.agg [.str,(.int .i64),(.int .i64)]) true (.t 62) (.t 65))⟩,⟨(some 67),(some ⟨(some 53),true⟩),(.pick (.t 59) (.k (.one (.f (.bool true)))) (.t 66))⟩,⟨(some 68),(some ⟨(some 53),true⟩),(.mv (.t 67))⟩,⟨(some 69),(some ⟨(some 68),false⟩),(.fa 0 (.t 9))⟩,⟨(some 70),(some ⟨(some 68),false⟩),(.load 5 true (.t 69))⟩,⟨(some 71),(some ⟨(some 68),false⟩),(.mv (.t 6))⟩,⟨(some 72),(some ⟨(some 68),false⟩),(.fa 2 (.t 8))⟩,⟨(some 73),(some ⟨(some 68),false⟩),(.fa 0 (.t 72))⟩,⟨(some 74),(some ⟨(some 68),false⟩),(.load 3 true (.t 73))⟩,⟨(some 75),(some ⟨(some 68),false⟩),(.call true 33 [(.t 71),(.t 74)])⟩,⟨(some 76),(some ⟨(some 68),false⟩),(.call false 32 [(.t 70),(.t 75)])⟩,⟨(some 77),(some ⟨(some 68),false⟩),(.no (.t 76))⟩,⟨(some 78),(some ⟨(some 53),true⟩),(.pick (.t 68) (.k (.one (.f (.bool true)))) (.t 77))⟩,⟨some 79,none,.pick (.t 53) (.t 78) (.k (.one (.f (.bool false))))⟩] [[0,1,2,4,3,5,6,7,8,9,11,12,10,13,14,15,16,17,19,20,21,18,22,23,24,25,26,27],[0,1,2,4,3,5,6,7,8,9,11,12,10,13,14,15,16,17,19,20,21,22,18,23,24,25,26,27],[0,1,2,4,3,5,6,7,8,9,11,12,10,13,14,15,16,17,19,20,21,22,23,18,24,25,26,27],[0,1,2,4,3,5,6,7,8,9,11,12,13,10,14,15,16,17,19,20,21,18,22,23,24,25,26,27],[0,1,2,4,3,5,6,7,8,9,11,12,13,10,14,15,16,17,19,20,21,22,18,23,24,25,26,27],[0,1,2,4,3,5,6,7,8,9,11,12,13,10,14,15,16,17,19,20,21,22,23,18,24,25,26,27],[0,1,2,4,5,3,6,7,8,9,11,12,10,13,14,15,16,17,19,20,21,18,22,23,24,25,26,27],[0,1,2,4,5,3,6,7,8,9,11,12,10,13,14,15,16,17,19,20,21,22,18,23,24,25,26,27],[0,1,2,4,5,3,6,7,8,9,11,12,10,13,14,15,16,17,19,20,21,22,23,18,24,25,26,27],[0,1,2,4,5,3,6,7,8,9,11,12,13,10,14,15,16,17,19,20,21,18,22,23,24,25,26,27],[0,1,2,4,5,3,6,7,8,9,11,12,13,10,14,15,16,17,19,20,21,22,18,23,24,25,26,27],[0,1,2,4,5,3,6,7,8,9,11,12,13,10,14,15,16,17,19,20,21,22,23,18,24,25,26,27]] [0,1,5,6,7,79] [40202,140000,540200,540204,540206,1000800]) (.cond (.t 79) (.seq (.reg [⟨some 4,none,.mv (.k (.one (.f (.bool false))))⟩] [4]) .ret) .skip))) (.seq (.reg [⟨some 80,none,.mv (.t 5)⟩,⟨some 81,none,.fa 1 (.t 8)⟩,⟨some 82,none,.load 1 false (.t 81)⟩,⟨some 83,none,.fa 2 (.t 8)⟩,⟨some 84,none,.load 5 true (.t 83)⟩,⟨some 85,none,.fa 7 (.t 8)⟩,⟨some 86,none,.load 1 false (.t 85)⟩,⟨some 87,none,.call false 19 [(.t 80),(.t 82),(.t 84),(.t 86)]⟩,⟨some 88,none,.cmp .eq (.t 87) (.k (.one (.f (.int .i64 0))))⟩] [0,1,5,6,7,8,88]) (.cond (.t 88) (.seq (.reg [⟨some 89,none,.mv (.t 6)⟩,⟨some 90,none,.fa 2 (.t 8)⟩,⟨some 91,none,.load 5 true (.t 90)⟩,⟨(some 92),none,(.FP 35 5 1 [(.f (.str ⟨#[]⟩)),(.f (.int .i64 0)),(.f (.int .i64 0)),.fF,(.f (.int .i64 0))] [⟨0,⟨5,(.t 91)⟩⟩])⟩,⟨some 93,none,.app 35 5 64 (.t 89) (.t 92)⟩,⟨some 6,none,.mv (.t 93)⟩] [0,1,5,6,7,8]) (.seq (.reg [⟨some 95,none,.mv (.t 5)⟩,⟨some 96,none,.fa 1 (.t 8)⟩,⟨some 97,none,.load 1 false (.t 96)⟩,⟨some 98,none,.fa 2 (.t 8)⟩,⟨some 99,none,.fa 0 (.t 98)⟩,⟨some 100,none,.load 3 true (.t 99)⟩,⟨some 101,none,.call false 25 [(.t 95),(.t 97),(.t 100)]⟩,⟨some 94,none,.mv (.t 101)⟩,⟨some 102,none,.ext (.t 94) 0⟩,⟨some 103,none,.ext (.t 94) 1⟩,⟨(some 11),none,(.alloc 46 [(.f (.str ⟨#[]⟩)),(.f (.int .i64 0)),(.f (.int .i64 0)),.fF,(.f (.int .i64 0)),(.f (.int .i64 0)),(.f (.int .i64 0))])⟩,⟨none,none,(.store 7 (.t 11) (.t 102))⟩,⟨some 12,none,.mv (.t 103)⟩] [0,1,5,6,7,8,11,12]) (.seq (.reg [⟨some 104,none,.mv (.t 12)⟩,⟨some 105,none,.no (.t 104)⟩,⟨some 106,none,.mv (.t 105)⟩,⟨(some 107),(some ⟨(some 106),false⟩),(.fa 0 (.t 11))⟩,⟨(some 108),(some ⟨(some 106),false⟩),(.load 5 true (.t 107))⟩,⟨(some 109),(some ⟨(some 106),false⟩),(.fa 2 (.t 8))⟩,⟨(some 110),(some ⟨(some 106),false⟩),(.load 5 true (.t 109))⟩,⟨(some 111),(some ⟨(some 106),false⟩),(.call false 32 [(.t 108),(.t 110)])⟩,⟨(some 112),(some ⟨(some 106),false⟩),(.no (.t 111))⟩,⟨some 113,none,.pick (.t 106) (.k (.one (.f (.bool true)))) (.t 112)⟩,⟨some 114,none,.mv (.t 113)⟩,⟨(some 115),(some ⟨(some 114),false⟩),(.fa 6 (.t 11))⟩,⟨(some 116),(some ⟨(some 114),false⟩),(.load 1 false (.t 115))⟩,⟨(some 117),(some ⟨(some 114),false⟩),(.fa 7 (.t 8))⟩,⟨(some 118),(some ⟨(some 114),false⟩),(.load 1 false (.t 117))⟩,⟨(some 119),(some ⟨(some 114),false⟩),(.cmp .ne (.t 116) (.t 118))⟩,⟨some 120,none,.pick (.t 114) (.k (.one (.f (.bool true)))) (.t 119)⟩] [0,1,5,6,7,120]) (.cond (.t 120) (.seq (.reg [⟨some 4,none,.mv (.k (.one (.f (.bool false))))⟩] [4]) .ret) .skip)))) .skip)))) (.seq (.reg [⟨some 121,none,.mv (.t 5)⟩,⟨some 122,none,.call false 29 [(.t 121)]⟩,⟨some 123,none,.jH (.t 122)⟩,⟨some 124,none,.mv (.t 0)⟩,⟨some 125,none,.cmp .gt (.t 123) (.t 124)⟩,⟨some 126,none,.mv (.t 125)⟩,⟨(some 127),(some ⟨(some 126),false⟩),(.mv (.t 5))⟩,⟨(some 128),(some ⟨(some 126),false⟩),(.call false 29 [(.t 127)])⟩,⟨(some 129),(some ⟨(some 126),false⟩),(.call false 34 [(.t 128)])⟩,⟨(some 130),(some ⟨(some 126),false⟩),(.no (.t 129))⟩,⟨some 131,none,.pick (.t 126) (.k (.one (.f (.bool true)))) (.t 130)⟩] [0,1,5,6,7,131]) (.cond (.t 131) (.seq (.reg [⟨some 4,none,.mv (.k (.one (.f (.bool false))))⟩] [4]) .ret) .skip))))) (.reg [⟨some 33,none,.mv (.t 7)⟩,⟨some 34,none,.ar .add (.t 33) (.k (.one (.f (.int .i64 1))))⟩,⟨some 7,none,.mv (.t 34)⟩] [0,1,5,6,7])))))) (.seq (.reg [⟨some 132,none,.call false 15 []⟩,⟨some 4,none,.mv (.t 132)⟩] [4]) .ret)))))))⟩
def c5 : CF:=⟨2,[(.t 4)],[],[],(.seq (.reg [⟨some 2,none,.box 37 (.t 0)⟩,⟨some 3,none,.box 37 (.t 1)⟩,⟨some 4,none,.mv (.k (.one (.f (.bool false))))⟩] [2,3]) (.seq (.seq (.reg [⟨some 11,none,.fa 2 (.t 2)⟩,⟨some 12,none,.load 5 true (.t 11)⟩,⟨some 13,none,.call false 35 [(.t 12)]⟩,⟨some 14,none,.no (.t 13)⟩,⟨some 15,none,.mv (.t 14)⟩,⟨(some 16),(some ⟨(some 15),false⟩),(.fa 2 (.t 3))⟩,⟨(some 17),(some ⟨(some 15),false⟩),(.load 5 true (.t 16))⟩,⟨(some 18),(some ⟨(some 15),false⟩),(.call false 35 [(.t 17)])⟩,⟨(some 19),(some ⟨(some 15),false⟩),(.no (.t 18))⟩,⟨some 20,none,.pick (.t 15) (.k (.one (.f (.bool true)))) (.t 19)⟩] [2,3,20]) (.cond (.t 20) (.seq (.reg [⟨some 21,none,.call false 15 []⟩,⟨some 4,none,.mv (.t 21)⟩] [4]) .ret) .skip)) (.seq (.reg [⟨some 22,none,.call false 16 [(.k (.one (.f (.int .i64 5))))]⟩,⟨some 5,none,.mv (.t 22)⟩] [2,3,5]) (.seq (.seq (.reg [⟨some 23,none,.mv (.t 5)⟩,⟨some 24,none,.mW false (.t 23)⟩] [2,3,5,24]) (.cond (.t 24) (.seq (.reg [⟨some 4,none,.mv (.k (.one (.f (.bool false))))⟩] [4]) .ret) .skip)) (.seq (.seq (.reg [⟨some 25,none,.mv (.t 5)⟩,⟨some 26,none,.fa 1 (.t 2)⟩,⟨some 27,none,.load 1 false (.t 26)⟩,⟨some 28,none,.fa 2 (.t 2)⟩,⟨some 29,none,.load 5 true (.t 28)⟩,⟨some 30,none,.fa 7 (.t 2)⟩,⟨some 31,none,.load 1 false (.t 30)⟩,⟨some 32,none,.call false 19 [(.t 25),(.t 27),(.t 29),(.t 31)]⟩,⟨some 33,none,.cmp .ne (.t 32) (.k (.one (.f (.int .i64 0))))⟩] [2,3,5,33]) (.cond (.t 33) (.seq (.reg [⟨some 34,none,.mv (.t 5)⟩,⟨some 35,none,.call false 29 [(.t 34)]⟩,⟨some 36,none,.jH (.t 35)⟩,⟨some 37,none,.cmp .eq (.t 36) (.k (.one (.f (.int .i64 0))))⟩,⟨some 38,none,.mv (.t 37)⟩,⟨(some 39),(some ⟨(some 38),true⟩),(.mv (.t 5))⟩,⟨(some 40),(some ⟨(some 38),true⟩),(.call false 31 [(.t 39)])⟩,⟨(some 41),(some ⟨(some 38),true⟩),(.cmp .eq (.t 40) (.k (.one (.f (.int .i64 0)))))⟩,⟨some 42,none,.pick (.t 38) (.t 41) (.k (.one (.f (.bool false))))⟩,⟨some 43,none,.mv (.t 42)⟩,⟨(some 44),(some ⟨(some 43),true⟩),(.call false 15 [])⟩,⟨some 45,none,.pick (.t 43) (.t 44) (.k (.one (.f (.bool false))))⟩,⟨some 4,none,.mv (.t 45)⟩] [4]) .ret) .skip)) (.seq (.reg [⟨some 46,none,.fa 2 (.t 2)⟩,⟨some 47,none,.fa 0 (.t 46)⟩,⟨some 48,none,.load 3 true (.t 47)⟩,⟨some 49,none,.fa 2 (.t 3)⟩,⟨some 50,none,.fa 0 (.t 49)⟩,⟨none,none,(.store 3 (.t 50) (.t 48))⟩] [2,3,5]) (.seq (.reg [⟨some 52,none,.mv (.t 5)⟩,⟨some 53,none,.fa 1 (.t 3)⟩,⟨some 54,none,.load 1 false (.t 53)⟩,⟨some 55,none,.fa 2 (.t 2)⟩,⟨some 56,none,.fa 0 (.t 55)⟩,⟨some 57,none,.load 3 true (.t 56)⟩,⟨some 58,none,.call false 25 [(.t 52),(.t 54),(.t 57)]⟩,⟨some 51,none,.mv (.t 58)⟩,⟨some 59,none,.ext (.t 51) 0⟩,⟨some 60,none,.ext (.t 51) 1⟩,⟨(some 6),none,(.alloc 46 [(.f (.str ⟨#[]⟩)),(.f (.int .i64 0)),(.f (.int .i64 0)),.fF,(.f (.int .i64 0)),(.f (.int .i64 0)),(.f (.int .i64 0))])⟩,⟨none,none,(.store 7 (.t 6) (.t 59))⟩,⟨some 7,none,.mv (.t 60)⟩] [2,3,5,6,7]) (.seq (.reg [⟨some 61,none,.mv (.t 5)⟩,⟨some 62,none,.fa 1 (.t 3)⟩,⟨some 63,none,.load 1 false (.t 62)⟩,⟨some 64,none,.fa 2 (.t 3)⟩,⟨some 65,none,.load 5 true (.t 64)⟩,⟨some 66,none,.fa 7 (.t 3)⟩,⟨some 67,none,.load 1 false (.t 66)⟩,⟨some 68,none,.call false 19 [(.t 61),(.t 63),(.t 65),(.t 67)]⟩,⟨some 8,none,.mv (.t 68)⟩] [2,3,5,6,7,8]) (.seq (.reg [⟨some 70,none,.mv (.t 5)⟩,⟨some 71,none,.fa 1 (.t 3)⟩,⟨some 72,none,.load 1 false (.t 71)⟩,⟨some 73,none,.fa 2 (.t 2)⟩,⟨some 74,none,.fa 0 (.t 73)⟩,⟨some 75,none,.load 3 true (.t 74)⟩,⟨some 76,none,.call false 25 [(.t 70),(.t 72),(.t 75)]⟩,⟨some 69,none,.mv (.t 76)⟩,⟨some 77,none,.ext (.t 69) 0⟩,⟨some 78,none,.ext (.t 69) 1⟩,⟨(some 9),none,(.alloc 46 [(.f (.str ⟨#[]⟩)),(.f (.int .i64 0)),(.f (.int .i64 0)),.fF,(.f (.int .i64 0)),(.f (.int .i64 0)),(.f (.int .i64 0))])⟩,⟨none,none,(.store 7 (.t 9) (.t 77))⟩,⟨some 10,none,.mv (.t 78)⟩] [2,3,5,6,7,8,9,10]) (.seq (.seq (.reg [⟨some 79,none,.mv (.t 8)⟩,⟨some 80,none,.cmp .eq (.t 79) (.k (.one (.f (.int .i64 0))))⟩] [2,3,5,6,7,8,9,10,80]) (.cond (.t 80) (.seq (.reg [⟨some 81,none,.mv (.t 7)⟩,⟨some 82,none,.no (.t 81)⟩,⟨some 83,none,.mv (.t 82)⟩,⟨(some 84),(some ⟨(some 83),false⟩),(.fa 7 (.t 3))⟩,⟨(some 85),(some ⟨(some 83),false⟩),(.load 1 false (.t 84))⟩,⟨(some 86),(some ⟨(some 83),false⟩),(.fa 7 (.t 2))⟩,⟨(some 87),(some ⟨(some 83),false⟩),(.load 1 false (.t 86))⟩,⟨(some 88),(some ⟨(some 83),false⟩),(.cmp .ge (.t 85) (.t 87))⟩,⟨some 89,none,.pick (.t 83) (.k (.one (.f (.bool true)))) (.t 88)⟩,⟨some 90,none,.mv (.t 89)⟩,⟨(some 91),(some ⟨(some 90),true⟩),(.mv (.t 10))⟩,⟨some 92,none,.pick (.t 90) (.t 91) (.k (.one (.f (.bool false))))⟩,⟨some 93,none,.mv (.t 92)⟩,⟨(some 94),(some ⟨(some 93),true⟩),(.fa 6 (.t 9))⟩,⟨(some 95),(some ⟨(some 93),true⟩),(.load 1 false (.t 94))⟩,⟨(some 96),(some ⟨(some 93),true⟩),(.fa 7 (.t 3))⟩,⟨(some 97),(some ⟨(some 93),true⟩),(.load 1 false (.t 96))⟩,⟨(some 98),(some ⟨(some 93),true⟩),(.cmp .eq (.t 95) (.t 97))⟩,⟨some 99,none,.pick (.t 93) (.t 98) (.k (.one (.f (.bool false))))⟩,⟨some 100,none,.mv (.t 99)⟩,⟨(some 101),(some ⟨(some 100),true⟩),(.mv (.t 5))⟩,⟨(some 102),(some ⟨(some 100),true⟩),(.call false 31 [(.t 101)])⟩,⟨(some 103),(some ⟨(some 100),true⟩),(.cmp .eq (.t 102) (.k (.one (.f (.int .i64 2)))))⟩,⟨some 104,none,.pick (.t 100) (.t 103) (.k (.one (.f (.bool false))))⟩,⟨some 105,none,.mv (.t 104)⟩,⟨(some 106),(some ⟨(some 105),true⟩),(.call false 15 [])⟩,⟨some 107,none,.pick (.t 105) (.t 106) (.k (.one (.f (.bool false))))⟩,⟨some 4,none,.mv (.t 107)⟩] [4]) .ret) .skip)) (.seq (.seq (.reg [⟨some 108,none,.mv (.t 8)⟩,⟨some 109,none,.cmp .eq (.t 108) (.k (.one (.f (.int .i64 10))))⟩,⟨some 110,none,.mv (.t 109)⟩,⟨(some 111),(some ⟨(some 110),true⟩),(.mv (.t 7))⟩,⟨(some 112),(some ⟨(some 110),true⟩),(.no (.t 111))⟩,⟨(some 113),(some ⟨(some 110),true⟩),(.mv (.t 112))⟩,⟨(some 114),(some ⟨(some 113),false⟩),(.fa 7 (.t 3))⟩,⟨(some 115),(some ⟨(some 113),false⟩),(.load 1 false (.t 114))⟩,⟨(some 116),(some ⟨(some 113),false⟩),(.fa 7 (.t 2))⟩,⟨(some 117),(some ⟨(some 113),false⟩),(.load 1 false (.t 116))⟩,⟨(some 118),(some ⟨(some 113),false⟩),(.cmp .ge (.t 115) (.t 117))⟩,⟨(some 119),(some ⟨(some 110),true⟩),(.pick (.t 113) (.k (.one (.f (.bool true)))) (.t 118))⟩,⟨some 120,none,.pick (.t 110) (.t 119) (.k (.one (.f (.bool false))))⟩] [5,6,7,9,10,120]) (.cond (.t 120) (.seq (.reg [⟨some 4,none,.mv (.k (.one (.f (.bool false))))⟩] [4]) .ret) .skip)) (.seq (.uq [⟨⟨some 121,none,.mv (.t 7)⟩,[]⟩,⟨⟨some 122,none,.mv (.t 10)⟩,[]⟩,⟨⟨some 123,none,.uy (.one .bool) false (.t 121) (.t 122)⟩,[]⟩,⟨⟨some 124,none,.mv (.t 123)⟩,[]⟩,⟨⟨(some 125),(some ⟨(some 124),true⟩),(.load 7 true (.t 6))⟩,[]⟩,⟨⟨(some 126),(some ⟨(some 124),true⟩),(.call false 23 [(.t 125)])⟩,[]⟩,⟨⟨(some 127),(some ⟨(some 124),true⟩),(.load 7 true (.t 9))⟩,[]⟩] [] [] [⟨(some 128),(some ⟨(some 124),true⟩),(.call false 23 [(.t 127)])⟩,⟨(some 129),(some ⟨(some 124),true⟩),(.call false 22 [(.t 126),(.t 128)])⟩,⟨some 130,none,.pick (.t 124) (.t 129) (.k (.one (.f (.bool false))))⟩,⟨some 131,none,.mv (.t 130)⟩,⟨(some 132),(some ⟨(some 131),true⟩),(.mv (.t 5))⟩,⟨(some 133),(some ⟨(some 131),true⟩),(.call false 31 [(.t 132)])⟩,⟨(some 134),(some ⟨(some 131),true⟩),(.cmp .eq (.t 133) (.k (.one (.f (.int .i64 1)))))⟩,⟨some 135,none,.pick (.t 131) (.t 134) (.k (.one (.f (.bool false))))⟩,⟨some 136,none,.mv (.t 135)⟩,⟨(some 137),(some ⟨(some 136),true⟩),(.call false 15 [])⟩,⟨some 138,none,.pick (.t 136) (.t 137) (.k (.one (.f (.bool false))))⟩,⟨some 4,none,.mv (.t 138)⟩] [4]) .ret))))))))))))⟩
def c6 : CF:=⟨1,[(.t 2)],[],[],(.seq (.reg [⟨some 1,none,.box 37 (.t 0)⟩,⟨some 2,none,.mv (.k (.one (.f (.bool false))))⟩] [1]) (.seq (.seq (.reg [⟨some 8,none,.fa 2 (.t 1)⟩,⟨some 9,none,.load 5 true (.t 8)⟩,⟨some 10,none,.call false 35 [(.t 9)]⟩,⟨some 11,none,.no (.t 10)⟩] [1,11]) (.cond (.t 11) (.seq (.reg [⟨some 12,none,.call false 15 []⟩,⟨some 2,none,.mv (.t 12)⟩] [2]) .ret) .skip)) (.seq (.reg [⟨some 3,none,.mv (.k (.one .jq))⟩] [1,3]) (.seq (.reg [⟨some 14,none,.mv (.t 3)⟩,⟨some 15,none,.fa 1 (.t 1)⟩,⟨some 16,none,.load 1 false (.t 15)⟩,⟨some 17,none,.fa 2 (.t 1)⟩,⟨some 18,none,.fa 0 (.t 17)⟩,⟨some 19,none,.load 3 true (.t 18)⟩,⟨some 20,none,.call false 21 [(.t 14),(.t 16),(.t 19)]⟩,⟨some 13,none,.mv (.t 20)⟩,⟨some 21,none,.ext (.t 13) 0⟩,⟨some 22,none,.ext (.t 13) 1⟩,⟨(some 4),none,(.alloc 46 [(.f (.str ⟨#[]⟩)),(.f (.int .i64 0)),(.f (.int .i64 0)),.fF,(.f (.int .i64 0)),(.f (.int .i64 0)),(.f (.int .i64 0))])⟩,⟨none,none,(.store 7 (.t 4) (.t 21))⟩,⟨some 5,none,.mv (.t 22)⟩] [1,3,4,5]) (.seq (.reg [⟨some 24,none,.mv (.t 3)⟩,⟨some 25,none,.fa 1 (.t 1)⟩,⟨some 26,none,.load 1 false (.t 25)⟩,⟨some 27,none,.fa 2 (.t 1)⟩,⟨some 28,none,.fa 0 (.t 27)⟩,⟨some 29,none,.load 3 true (.t 28)⟩,⟨some 30,none,.call false 25 [(.t 24),(.t 26),(.t 29)]⟩,⟨some 23,none,.mv (.t 30)⟩,⟨some 31,none,.ext (.t 23) 0⟩,⟨some 32,none,.ext (.t 23) 1⟩,⟨(some 6),none,(.alloc 46 [(.f (.str ⟨#[]⟩)),(.f (.int .i64 0)),(.f (.int .i64 0)),.fF,(.f (.int .i64 0)),(.f (.int .i64 0)),(.f (.int .i64 0))])⟩,⟨none,none,(.store 7 (.t 6) (.t 31))⟩,⟨some 7,none,.mv (.t 32)⟩] [1,3,4,5,6,7]) (.seq (.uq [⟨⟨some 33,none,.mv (.t 3)⟩,[]⟩,⟨⟨some 34,none,.fa 1 (.t 1)⟩,[]⟩,⟨⟨some 35,none,.load 1 false (.t 34)⟩,[]⟩,⟨⟨some 36,none,.fa 2 (.t 1)⟩,[]⟩,⟨⟨some 37,none,.load 5 true (.t 36)⟩,[]⟩,⟨⟨some 38,none,.fa 7 (.t 1)⟩,[]⟩,⟨⟨some 39,none,.load 1 false (.t 38)⟩,[]⟩,⟨⟨some 40,none,.call false 19 [(.t 33),(.t 35),(.t 37),(.t 39)]⟩,[]⟩,⟨⟨some 41,none,.cmp .eq (.t 40) (.k (.one (.f (.int .i64 1))))⟩,[]⟩,⟨⟨some 42,none,.mv (.t 41)⟩,[]⟩,⟨⟨(some 43),(some ⟨(some 42),true⟩),(.mv (.t 5))⟩,[]⟩,⟨⟨(some 44),(some ⟨(some 42),true⟩),(.no (.t 43))⟩,[]⟩,⟨⟨some 45,none,.pick (.t 42) (.t 44) (.k (.one (.f (.bool false))))⟩,[]⟩,⟨⟨some 46,none,.mv (.t 45)⟩,[]⟩,⟨⟨(some 47),(some ⟨(some 46),true⟩),(.mv (.t 7))⟩,[]⟩,⟨⟨(some 48),(some ⟨(some 46),true⟩),(.no (.t 47))⟩,[]⟩,⟨⟨some 49,none,.pick (.t 46) (.t 48) (.k (.one (.f (.bool false))))⟩,[]⟩,⟨⟨some 50,none,.mv (.t 49)⟩,[]⟩,⟨⟨(some 51),(some ⟨(some 50),true⟩),(.load 7 true (.t 4))⟩,[]⟩,⟨⟨(some 52),(some ⟨(some 50),true⟩),(.call false 23 [(.t 51)])⟩,[]⟩,⟨⟨(some 53),(some ⟨(some 50),true⟩),(.load 7 true (.t 6))⟩,[]⟩,⟨⟨(some 54),(some ⟨(some 50),true⟩),(.call false 23 [(.t 53)])⟩,[]⟩,⟨⟨(some 55),(some ⟨(some 50),true⟩),(.call false 22 [(.t 52),(.t 54)])⟩,[]⟩,⟨⟨some 56,none,.pick (.t 50) (.t 55) (.k (.one (.f (.bool false))))⟩,[]⟩,⟨⟨some 57,none,.mv (.t 56)⟩,[]⟩,⟨⟨(some 58),(some ⟨(some 57),true⟩),(.fa 6 (.t 4))⟩,[]⟩,⟨⟨(some 59),(some ⟨(some 57),true⟩),(.load 1 false (.t 58))⟩,[]⟩,⟨⟨(some 60),(some ⟨(some 57),true⟩),(.cmp .eq (.t 59) (.k (.one (.f (.int .i64 0)))))⟩,[]⟩,⟨⟨some 61,none,.pick (.t 57) (.t 60) (.k (.one (.f (.bool false))))⟩,[]⟩,⟨⟨some 62,none,.mv (.t 61)⟩,[]⟩,⟨⟨(some 63),(some ⟨(some 62),true⟩),(.mv (.t 3))⟩,[]⟩,⟨⟨(some 64),(some ⟨(some 62),true⟩),(.fa 2 (.t 1))⟩,[]⟩,⟨⟨(some 65),(some ⟨(some 62),true⟩),(.fa 0 (.t 64))⟩,[]⟩,⟨⟨(some 66),(some ⟨(some 62),true⟩),(.load 3 true (.t 65))⟩,[]⟩] [] [] [⟨(some 67),(some ⟨(some 62),true⟩),(.call false 27 [(.t 63),(.t 66)])⟩,⟨(some 68),(some ⟨(some 62),true⟩),(.no (.t 67))⟩,⟨some 69,none,.pick (.t 62) (.t 68) (.k (.one (.f (.bool false))))⟩,⟨some 70,none,.mv (.t 69)⟩,⟨(some 71),(some ⟨(some 70),true⟩),(.mv (.t 3))⟩,⟨(some 72),(some ⟨(some 70),true⟩),(.call false 29 [(.t 71)])⟩,⟨(some 73),(some ⟨(some 70),true⟩),(.jH (.t 72))⟩,⟨(some 74),(some ⟨(some 70),true⟩),(.cmp .eq (.t 73) (.k (.one (.f (.int .i64 0)))))⟩,⟨some 75,none,.pick (.t 70) (.t 74) (.k (.one (.f (.bool false))))⟩,⟨some 76,none,.mv (.t 75)⟩,⟨(some 77),(some ⟨(some 76),true⟩),(.mv (.t 3))⟩,⟨(some 78),(some ⟨(some 76),true⟩),(.call false 31 [(.t 77)])⟩,⟨(some 79),(some ⟨(some 76),true⟩),(.cmp .eq (.t 78) (.k (.one (.f (.int .i64 0)))))⟩,⟨some 80,none,.pick (.t 76) (.t 79) (.k (.one (.f (.bool false))))⟩,⟨some 81,none,.mv (.t 80)⟩,⟨(some 82),(some ⟨(some 81),true⟩),(.call false 15 [])⟩,⟨some 83,none,.pick (.t 81) (.t 82) (.k (.one (.f (.bool false))))⟩,⟨some 2,none,.mv (.t 83)⟩] [2]) .ret))))))⟩
def c7 : CF:=⟨3,[(.t 6)],[],[],(.seq (.reg [⟨some 6,none,.mv (.k (.one (.f (.bool false))))⟩] [0,1,2]) (.seq (.seq (.reg [⟨some 15,none,.mv (.t 0)⟩,⟨some 16,none,.call false 14 [(.t 15),(.k (.one (.f (.int .i64 60))))]⟩,⟨some 17,none,.no (.t 16)⟩,⟨some 18,none,.mv (.t 17)⟩,⟨(some 19),(some ⟨(some 18),false⟩),(.mv (.t 1))⟩,⟨(some 20),(some ⟨(some 18),false⟩),(.cmp .lt (.t 19) (.k (.one (.f (.int .i64 0)))))⟩,⟨some 21,none,.pick (.t 18) (.k (.one (.f (.bool true)))) (.t 20)⟩,⟨some 22,none,.mv (.t 21)⟩,⟨(some 23),(some ⟨(some 22),false⟩),(.mv (.t 2))⟩,⟨(some 24),(some ⟨(some 22),false⟩),(.cmp .lt (.t 23) (.k (.one (.f (.int .i64 0)))))⟩,⟨some 25,none,.pick (.t 22) (.k (.one (.f (.bool true)))) (.t 24)⟩,⟨some 26,none,.mv (.t 25)⟩,⟨(some 27),(some ⟨(some 26),false⟩),(.mv (.t 1))⟩,⟨(some 28),(some ⟨(some 26),false⟩),(.cmp .gt (.t 27) (.k (.one (.f (.int .i64 549755813888)))))⟩,⟨some 29,none,.pick (.t 26) (.k (.one (.f (.bool true)))) (.t 28)⟩,⟨some 30,none,.mv (.t 29)⟩,⟨(some 31),(some ⟨(some 30),false⟩),(.mv (.t 2))⟩,⟨(some 32),(some ⟨(some 30),false⟩),(.cmp .gt (.t 31) (.k (.one (.f (.int .i64 549755813888)))))⟩,⟨some 33,none,.pick (.t 30) (.k (.one (.f (.bool true)))) (.t 32)⟩] [0,1,2,33]) (.cond (.t 33) (.seq (.reg [⟨some 34,none,.call false 15 []⟩,⟨some 6,none,.mv (.t 34)⟩] [6]) .ret) .skip)) (.seq (.reg [⟨some 35,none,.call false 16 [(.k (.one (.f (.int .i64 50))))]⟩,⟨some 7,none,.mv (.t 35)⟩] [0,1,2,7]) (.seq (.seq (.reg [⟨some 36,none,.mv (.t 7)⟩,⟨some 37,none,.mW false (.t 36)⟩] [0,1,2,7,37]) (.cond (.t 37) (.seq (.reg [⟨some 6,none,.mv (.k (.one (.f (.bool false))))⟩] [6]) .ret) .skip)) (.seq (.seq (.reg [⟨some 8,none,.mv (.k (.one (.f (.int .i64 0))))⟩] [0,1,2,7,8]) (.block 0 (.loop [0,1,2,7,8] [20202,720200,720204,720206] [] (.seq (.seq (.reg [⟨some 38,none,.mv (.t 8)⟩,⟨some 39,none,.mv (.t 0)⟩,⟨some 40,none,.jH (.t 39)⟩,⟨some 41,none,.cmp .lt (.t 38) (.t 40)⟩] [0,1,2,7,8,41]) (.cond (.t 41) .skip (.exit 0))) (.seq (.block 1 (.uq [⟨⟨some 44,none,.mv (.t 7)⟩,[]⟩,⟨⟨some 45,none,.mv (.t 0)⟩,[]⟩,⟨⟨some 46,none,.mv (.t 8)⟩,[]⟩,⟨⟨some 47,none,.ia 8 (.t 45) (.t 46)⟩,[]⟩,⟨⟨some 48,none,.fa 1 (.t 47)⟩,[]⟩,⟨⟨some 49,none,.load 1 false (.t 48)⟩,[]⟩,⟨⟨some 50,none,.mv (.t 0)⟩,[]⟩,⟨⟨some 51,none,.mv (.t 8)⟩,[]⟩,⟨⟨some 52,none,.ia 8 (.t 50) (.t 51)⟩,[]⟩,⟨⟨some 53,none,.fa 2 (.t 52)⟩,[]⟩,⟨⟨some 54,none,.load 5 true (.t 53)⟩,[]⟩,⟨⟨some 55,none,.mv (.t 0)⟩,[]⟩,⟨⟨some 56,none,.mv (.t 8)⟩,[]⟩,⟨⟨some 57,none,.ia 8 (.t 55) (.t 56)⟩,[]⟩,⟨⟨some 58,none,.fa 7 (.t 57)⟩,[]⟩,⟨⟨some 59,none,.load 1 false (.t 58)⟩,[]⟩] [] [] [⟨some 60,none,.call false 19 [(.t 44),(.t 49),(.t 54),(.t 59)]⟩] [0,1,2,7,8])) (.reg [⟨some 42,none,.mv (.t 8)⟩,⟨some 43,none,.ar .add (.t 42) (.k (.one (.f (.int .i64 1))))⟩,⟨some 8,none,.mv (.t 43)⟩] [0,1,2,7,8])))))) (.seq (.reg [⟨some 61,none,.mv (.t 7)⟩,⟨some 62,none,.call false 29 [(.t 61)]⟩,⟨some 9,none,.mv (.t 62)⟩] [1,2,7,9]) (.seq (.seq (.reg [⟨some 10,none,.mv (.k (.one (.f (.int .i64 0))))⟩] [1,2,7,9,10]) (.block 2 (.loop [1,2,7,9,10] [720200,720204,720206,1260200] [] (.seq (.seq (.reg [⟨some 63,none,.mv (.t 10)⟩,⟨some 64,none,.mv (.t 9)⟩,⟨some 65,none,.jH (.t 64)⟩,⟨some 66,none,.cmp .lt (.t 63) (.t 65)⟩] [1,2,7,9,10,66]) (.cond (.t 66) .skip (.exit 2))) (.seq (.block 3 (.seq (.reg [⟨some 70,none,.mv (.t 7)⟩,⟨some 71,none,.mv (.t 1)⟩,⟨some 72,none,.mv (.t 9)⟩,⟨some 73,none,.mv (.t 10)⟩,⟨some 74,none,.ia 3 (.t 72) (.t 73)⟩,⟨some 75,none,.load 3 true (.t 74)⟩,⟨some 76,none,.call false 25 [(.t 70),(.t 71),(.t 75)]⟩,⟨some 69,none,.mv (.t 76)⟩,⟨some 77,none,.ext (.t 69) 0⟩,⟨some 78,none,.ext (.t 69) 1⟩,⟨(some 11),none,(.alloc 46 [(.f (.str ⟨#[]⟩)),(.f (.int .i64 0)),(.f (.int .i64 0)),.fF,(.f (.int .i64 0)),(.f (.int .i64 0)),(.f (.int .i64 0))])⟩,⟨none,none,(.store 7 (.t 11) (.t 77))⟩,⟨some 12,none,.mv (.t 78)⟩] [1,2,7,9,10,11,12]) (.seq (.reg [⟨some 80,none,.mv (.t 7)⟩,⟨some 81,none,.mv (.t 1)⟩,⟨some 82,none,.mv (.t 2)⟩,⟨some 83,none,.ar .add (.t 81) (.t 82)⟩,⟨some 84,none,.mv (.t 9)⟩,⟨some 85,none,.mv (.t 10)⟩,⟨some 86,none,.ia 3 (.t 84) (.t 85)⟩,⟨some 87,none,.load 3 true (.t 86)⟩,⟨some 88,none,.call false 25 [(.t 80),(.t 83),(.t 87)]⟩,⟨some 79,none,.mv (.t 88)⟩,⟨some 89,none,.ext (.t 79) 0⟩,⟨some 90,none,.ext (.t 79) 1⟩,⟨(some 13),none,(.alloc 46 [(.f (.str ⟨#[]⟩)),(.f (.int .i64 0)),(.f (.int .i64 0)),.fF,(.f (.int .i64 0)),(.f (.int .i64 0)),(.f (.int .i64 0))])⟩,⟨none,none,(.store 7 (.t 13) (.t 89))⟩,⟨some 14,none,.mv (.t 90)⟩] [1,2,7,9,10,11,12,13,14]) (.seq (.uq [⟨⟨some 91,none,.mv (.t 14)⟩,[]⟩,⟨⟨some 92,none,.mv (.t 91)⟩,[]⟩,⟨⟨(some 93),(some ⟨(some 92),true⟩),(.mv (.t 12))⟩,[]⟩,⟨⟨(some 94),(some ⟨(some 92),true⟩),(.no (.t 93))⟩,[]⟩,⟨⟨(some 95),(some ⟨(some 92),true⟩),(.mv (.t 94))⟩,[]⟩,⟨⟨(some 96),(some ⟨(some 95),false⟩),(.load 7 true (.t 11))⟩,[]⟩,⟨⟨(some 97),(some ⟨(some 95),false⟩),(.call false 23 [(.t 96)])⟩,[]⟩,⟨⟨(some 98),(some ⟨(some 95),false⟩),(.load 7 true (.t 13))⟩,[]⟩,⟨⟨(some 99),(some ⟨(some 95),false⟩),(.call false 23 [(.t 98)])⟩,[]⟩,⟨⟨(some 100),(some ⟨(some 95),false⟩),(.call false 22 [(.t 97),(.t 99)])⟩,[]⟩,⟨⟨(some 101),(some ⟨(some 95),false⟩),(.no (.t 100))⟩,[]⟩,⟨⟨(some 102),(some ⟨(some 92),true⟩),(.pick (.t 95) (.k (.one (.f (.bool true)))) (.t 101))⟩,[]⟩,⟨⟨(some 103),(some ⟨(some 92),true⟩),(.mv (.t 102))⟩,[]⟩,⟨⟨(some 104),(some ⟨(some 103),false⟩),(.fa 5 (.t 13))⟩,[]⟩,⟨⟨(some 105),(some ⟨(some 103),false⟩),(.load 1 false (.t 104))⟩,[]⟩,⟨⟨(some 106),(some ⟨(some 103),false⟩),(.mv (.t 1))⟩,[]⟩,⟨⟨(some 107),(some ⟨(some 103),false⟩),(.mv (.t 2))⟩,[]⟩,⟨⟨(some 108),(some ⟨(some 103),false⟩),(.ar .add (.t 106) (.t 107))⟩,[]⟩] [] [] [⟨(some 109),(some ⟨(some 103),false⟩),(.cmp .le (.t 105) (.t 108))⟩,⟨(some 110),(some ⟨(some 92),true⟩),(.pick (.t 103) (.k (.one (.f (.bool true)))) (.t 109))⟩,⟨some 111,none,.pick (.t 92) (.t 110) (.k (.one (.f (.bool false))))⟩] [1,2,7,9,10,111]) (.cond (.t 111) (.seq (.reg [⟨some 6,none,.mv (.k (.one (.f (.bool false))))⟩] [6]) .ret) .skip))))) (.reg [⟨some 67,none,.mv (.t 10)⟩,⟨some 68,none,.ar .add (.t 67) (.k (.one (.f (.int .i64 1))))⟩,⟨some 10,none,.mv (.t 68)⟩] [1,2,7,9,10])))))) (.seq (.reg [⟨some 112,none,.mv (.t 7)⟩,⟨some 113,none,.call false 29 [(.t 112)]⟩,⟨some 114,none,.mv (.t 9)⟩,⟨some 115,none,.call false 28 [(.t 113),(.t 114)]⟩,⟨some 116,none,.mv (.t 115)⟩,⟨(some 117),(some ⟨(some 116),true⟩),(.call false 15 [])⟩,⟨some 118,none,.pick (.t 116) (.t 117) (.k (.one (.f (.bool false))))⟩,⟨some 6,none,.mv (.t 118)⟩] [6]) .ret))))))))⟩
def c8 : CF:=⟨2,[(.t 4)],[],[],(.seq (.reg [⟨some 4,none,.mv (.k (.one (.f (.bool false))))⟩] [0,1]) (.seq (.seq (.reg [⟨some 14,none,.mv (.t 0)⟩,⟨some 15,none,.cmp .lt (.t 14) (.k (.one (.f (.int .i64 2))))⟩,⟨some 16,none,.mv (.t 15)⟩,⟨(some 17),(some ⟨(some 16),false⟩),(.mv (.t 0))⟩,⟨(some 18),(some ⟨(some 16),false⟩),(.cmp .gt (.t 17) (.k (.one (.f (.int .i64 40)))))⟩,⟨some 19,none,.pick (.t 16) (.k (.one (.f (.bool true)))) (.t 18)⟩,⟨some 20,none,.mv (.t 19)⟩,⟨(some 21),(some ⟨(some 20),false⟩),(.mv (.t 1))⟩,⟨(some 22),(some ⟨(some 20),false⟩),(.cmp .lt (.t 21) (.k (.one (.f (.int .i64 0)))))⟩,⟨some 23,none,.pick (.t 20) (.k (.one (.f (.bool true)))) (.t 22)⟩,⟨some 24,none,.mv (.t 23)⟩,⟨(some 25),(some ⟨(some 24),false⟩),(.mv (.t 1))⟩,⟨(some 26),(some ⟨(some 24),false⟩),(.mv (.t 0))⟩,⟨(some 27),(some ⟨(some 24),false⟩),(.cmp .ge (.t 25) (.t 26))⟩,⟨some 28,none,.pick (.t 24) (.k (.one (.f (.bool true)))) (.t 27)⟩] [0,1,28]) (.cond (.t 28) (.seq (.reg [⟨some 29,none,.call false 15 []⟩,⟨some 4,none,.mv (.t 29)⟩] [4]) .ret) .skip)) (.seq (.reg [⟨some 30,none,.mv (.t 0)⟩,⟨some 31,none,.call false 16 [(.t 30)]⟩,⟨some 5,none,.mv (.t 31)⟩] [0,1,5]) (.seq (.seq (.reg [⟨some 32,none,.mv (.t 5)⟩,⟨some 33,none,.mW false (.t 32)⟩] [0,1,5,33]) (.cond (.t 33) (.seq (.reg [⟨some 4,none,.mv (.k (.one (.f (.bool false))))⟩] [4]) .ret) .skip)) (.seq (.seq (.reg [⟨some 6,none,.mv (.k (.one (.f (.int .i64 0))))⟩] [0,1,5,6]) (.block 0 (.loop [0,1,5,6] [640200,640204,640206] [] (.seq (.seq (.reg [⟨some 34,none,.mv (.t 6)⟩,⟨some 35,none,.mv (.t 0)⟩,⟨some 36,none,.cmp .lt (.t 34) (.t 35)⟩] [0,1,5,6,36]) (.cond (.t 36) .skip (.exit 0))) (.seq (.block 1 (.seq (.reg [⟨some 39,none,.mv (.t 5)⟩,⟨some 40,none,.mv (.t 6)⟩,⟨some 41,none,.call false 36 [(.t 40)]⟩,⟨some 42,none,.call false 19 [(.t 39),(.k (.one (.f (.int .i64 0)))),(.t 41),(.k (.one (.f (.int .i64 3))))]⟩,⟨some 43,none,.cmp .ne (.t 42) (.k (.one (.f (.int .i64 0))))⟩] [0,1,5,6,43]) (.cond (.t 43) (.seq (.reg [⟨some 4,none,.mv (.k (.one (.f (.bool false))))⟩] [4]) .ret) .skip))) (.reg [⟨some 37,none,.mv (.t 6)⟩,⟨some 38,none,.ar .add (.t 37) (.k (.one (.f (.int .i64 1))))⟩,⟨some 6,none,.mv (.t 38)⟩] [0,1,5,6])))))) (.seq (.reg [⟨some 45,none,.mv (.t 5)⟩,⟨some 46,none,.mv (.t 1)⟩,⟨some 47,none,.call false 36 [(.t 46)]⟩,⟨some 48,none,.MR 0 3 true (.t 47)⟩,⟨some 49,none,.call false 21 [(.t 45),(.k (.one (.f (.int .i64 1)))),(.t 48)]⟩,⟨some 44,none,.mv (.t 49)⟩,⟨some 50,none,.ext (.t 44) 0⟩,⟨some 51,none,.ext (.t 44) 1⟩,⟨(some 7),none,(.alloc 46 [(.f (.str ⟨#[]⟩)),(.f (.int .i64 0)),(.f (.int .i64 0)),.fF,(.f (.int .i64 0)),(.f (.int .i64 0)),(.f (.int .i64 0))])⟩,⟨none,none,(.store 7 (.t 7) (.t 50))⟩,⟨some 8,none,.mv (.t 51)⟩] [0,1,5,8]) (.seq (.seq (.reg [⟨some 9,none,.mv (.k (.one (.f (.int .i64 0))))⟩] [0,1,5,8,9]) (.block 2 (.loop [0,1,5,8,9] [640200,640204,640206,1000800] [] (.seq (.seq (.reg [⟨some 52,none,.mv (.t 9)⟩,⟨some 53,none,.mv (.t 0)⟩,⟨some 54,none,.ar .sub (.t 53) (.k (.one (.f (.int .i64 1))))⟩,⟨some 55,none,.cmp .lt (.t 52) (.t 54)⟩] [0,1,5,8,9,55]) (.cond (.t 55) .skip (.exit 2))) (.seq (.block 3 (.seq (.seq (.reg [⟨some 58,none,.mv (.t 8)⟩,⟨some 59,none,.no (.t 58)⟩,⟨some 60,none,.mv (.t 59)⟩,⟨(some 61),(some ⟨(some 60),false⟩),(.mv (.t 5))⟩,⟨(some 62),(some ⟨(some 60),false⟩),(.mv (.t 0))⟩,⟨(some 63),(some ⟨(some 60),false⟩),(.mv (.t 9))⟩,⟨(some 64),(some ⟨(some 60),false⟩),(.ar .add (.t 62) (.t 63))⟩,⟨(some 65),(some ⟨(some 60),false⟩),(.call false 36 [(.t 64)])⟩,⟨(some 66),(some ⟨(some 60),false⟩),(.call false 19 [(.t 61),(.k (.one (.f (.int .i64 1)))),(.t 65),(.k (.one (.f (.int .i64 3))))])⟩,⟨(some 67),(some ⟨(some 60),false⟩),(.cmp .ne (.t 66) (.k (.one (.f (.int .i64 0)))))⟩,⟨some 68,none,.pick (.t 60) (.k (.one (.f (.bool true)))) (.t 67)⟩] [0,1,5,8,9,68]) (.cond (.t 68) (.seq (.reg [⟨some 4,none,.mv (.k (.one (.f (.bool false))))⟩] [4]) .ret) .skip)) (.seq (.reg [⟨some 70,none,.mv (.t 5)⟩,⟨some 71,none,.mv (.t 1)⟩,⟨some 72,none,.call false 36 [(.t 71)]⟩,⟨some 73,none,.MR 0 3 true (.t 72)⟩,⟨some 74,none,.call false 25 [(.t 70),(.k (.one (.f (.int .i64 1)))),(.t 73)]⟩,⟨some 69,none,.mv (.t 74)⟩,⟨some 75,none,.ext (.t 69) 0⟩,⟨some 76,none,.ext (.t 69) 1⟩,⟨(some 10),none,(.alloc 46 [(.f (.str ⟨#[]⟩)),(.f (.int .i64 0)),(.f (.int .i64 0)),.fF,(.f (.int .i64 0)),(.f (.int .i64 0)),(.f (.int .i64 0))])⟩,⟨none,none,(.store 7 (.t 10) (.t 75))⟩,⟨some 11,none,.mv (.t 76)⟩] [0,1,5,8,9,11]) (.seq (.reg [⟨some 77,none,.mv (.t 11)⟩,⟨some 78,none,.no (.t 77)⟩,⟨some 79,none,.mv (.t 78)⟩,⟨(some 80),(some ⟨(some 79),false⟩),(.mv (.t 5))⟩,⟨(some 81),(some ⟨(some 79),false⟩),(.call false 29 [(.t 80)])⟩,⟨(some 82),(some ⟨(some 79),false⟩),(.jH (.t 81))⟩,⟨(some 83),(some ⟨(some 79),false⟩),(.mv (.t 0))⟩,⟨(some 84),(some ⟨(some 79),false⟩),(.cmp .ne (.t 82) (.t 83))⟩,⟨some 85,none,.pick (.t 79) (.k (.one (.f (.bool true)))) (.t 84)⟩] [0,1,5,8,9,85]) (.cond (.t 85) (.seq (.reg [⟨some 4,none,.mv (.k (.one (.f (.bool false))))⟩] [4]) .ret) .skip))))) (.reg [⟨some 56,none,.mv (.t 9)⟩,⟨some 57,none,.ar .add (.t 56) (.k (.one (.f (.int .i64 1))))⟩,⟨some 9,none,.mv (.t 57)⟩] [0,1,5,8,9])))))) (.seq (.reg [⟨some 86,none,.mv (.t 5)⟩,⟨some 87,none,.mv (.t 0)⟩,⟨some 88,none,.ar .mul (.k (.one (.f (.int .i64 2)))) (.t 87)⟩,⟨some 89,none,.call false 36 [(.t 88)]⟩,⟨some 90,none,.call false 19 [(.t 86),(.k (.one (.f (.int .i64 1)))),(.t 89),(.k (.one (.f (.int .i64 3))))]⟩] [1,5]) (.seq (.reg [⟨some 92,none,.mv (.t 5)⟩,⟨some 93,none,.mv (.t 1)⟩,⟨some 94,none,.call false 36 [(.t 93)]⟩,⟨some 95,none,.MR 0 3 true (.t 94)⟩,⟨some 96,none,.call false 25 [(.t 92),(.k (.one (.f (.int .i64 1)))),(.t 95)]⟩,⟨some 91,none,.mv (.t 96)⟩,⟨some 97,none,.ext (.t 91) 0⟩,⟨some 98,none,.ext (.t 91) 1⟩,⟨(some 12),none,(.alloc 46 [(.f (.str ⟨#[]⟩)),(.f (.int .i64 0)),(.f (.int .i64 0)),.fF,(.f (.int .i64 0)),(.f (.int .i64 0)),(.f (.int .i64 0))])⟩,⟨none,none,(.store 7 (.t 12) (.t 97))⟩,⟨some 13,none,.mv (.t 98)⟩] [13]) (.seq (.reg [⟨some 99,none,.mv (.t 13)⟩,⟨some 100,none,.no (.t 99)⟩,⟨some 101,none,.mv (.t 100)⟩,⟨(some 102),(some ⟨(some 101),true⟩),(.call false 15 [])⟩,⟨some 103,none,.pick (.t 101) (.t 102) (.k (.one (.f (.bool false))))⟩,⟨some 4,none,.mv (.t 103)⟩] [4]) .ret))))))))))⟩
def c14 : CF:=⟨2,[(.t 4)],[],[],(.seq (.reg [⟨some 4,none,.mv (.k (.one (.f (.bool false))))⟩] [0,1]) (.seq (.seq (.reg [⟨some 5,none,.mv (.k (.one (.f (.int .i64 0))))⟩] [0,1,5]) (.block 0 (.loop [0,1,5] [20202] [] (.seq (.seq (.reg [⟨some 6,none,.mv (.t 5)⟩,⟨some 7,none,.mv (.t 0)⟩,⟨some 8,none,.jH (.t 7)⟩,⟨some 9,none,.cmp .lt (.t 6) (.t 8)⟩] [0,1,5,9]) (.cond (.t 9) .skip (.exit 0))) (.seq (.block 1 (.seq (.reg [⟨some 12,none,.mv (.t 0)⟩,⟨some 13,none,.mv (.t 5)⟩,⟨some 14,none,.ia 8 (.t 12) (.t 13)⟩,⟨some 15,none,.fa 2 (.t 14)⟩,⟨some 16,none,.load 5 true (.t 15)⟩,⟨some 17,none,.call false 35 [(.t 16)]⟩,⟨some 18,none,.no (.t 17)⟩] [0,1,5,18]) (.cond (.t 18) (.seq (.reg [⟨some 4,none,.mv (.k (.one (.f (.bool false))))⟩] [4]) .ret) .skip))) (.reg [⟨some 10,none,.mv (.t 5)⟩,⟨some 11,none,.ar .add (.t 10) (.k (.one (.f (.int .i64 1))))⟩,⟨some 5,none,.mv (.t 11)⟩] [0,1,5])))))) (.seq (.reg [⟨some 19,none,.mv (.t 0)⟩,⟨some 20,none,.jH (.t 19)⟩,⟨some 21,none,.mv (.t 1)⟩,⟨some 22,none,.cmp .le (.t 20) (.t 21)⟩,⟨some 4,none,.mv (.t 22)⟩] [4]) .ret)))⟩
def c15 : CF:=⟨0,[(.t 0)],[],[],(.seq (.reg [⟨some 0,none,.mv (.k (.one (.f (.bool false))))⟩] []) (.seq (.reg [⟨some 17,none,.call false 16 [(.k (.one (.f (.int .i64 2))))]⟩,⟨some 1,none,.mv (.t 17)⟩] [1]) (.seq (.seq (.reg [⟨some 18,none,.mv (.t 1)⟩,⟨some 19,none,.mW false (.t 18)⟩,⟨some 20,none,.mv (.t 19)⟩,⟨(some 21),(some ⟨(some 20),false⟩),(.call false 16 [(.k (.one (.f (.int .i64 0))))])⟩,⟨(some 22),(some ⟨(some 20),false⟩),(.mW true (.t 21))⟩,⟨some 23,none,.pick (.t 20) (.k (.one (.f (.bool true)))) (.t 22)⟩,⟨some 24,none,.mv (.t 23)⟩,⟨(some 25),(some ⟨(some 24),false⟩),(.call false 16 [(.k (.one (.f (.int .i64 1001))))])⟩,⟨(some 26),(some ⟨(some 24),false⟩),(.mW true (.t 25))⟩,⟨some 27,none,.pick (.t 24) (.k (.one (.f (.bool true)))) (.t 26)⟩] [1,27]) (.cond (.t 27) (.seq (.reg [⟨some 0,none,.mv (.k (.one (.f (.bool false))))⟩] [0]) .ret) .skip)) (.seq (.reg [⟨(some 28),none,(.build [(.f (.str ⟨#[]⟩)),(.f (.int .i64 0)),(.f (.int .i64 0))] [⟨0,⟨1,(.k (.one (.f (.str ⟨#[1,97,0]⟩))))⟩⟩,⟨1,⟨1,(.k (.one (.f (.int .i64 1))))⟩⟩,⟨2,⟨1,(.k (.one (.f (.int .i64 1))))⟩⟩])⟩,⟨(some 29),none,(.FP 9 1 1 [(.f (.str ⟨#[]⟩))] [⟨0,⟨1,(.k (.one (.f (.str ⟨#[49,49,49,49]⟩))))⟩⟩])⟩,⟨(some 30),none,(.build [(.f (.str ⟨#[]⟩)),(.f (.int .i64 0)),(.f (.int .i64 0)),.fF,(.f (.int .i64 0))] [⟨0,⟨3,(.t 28)⟩⟩,⟨3,⟨1,(.t 29)⟩⟩,⟨4,⟨1,(.k (.one (.f (.int .i64 5))))⟩⟩])⟩,⟨(some 2),none,(.alloc 35 [(.f (.str ⟨#[]⟩)),(.f (.int .i64 0)),(.f (.int .i64 0)),.fF,(.f (.int .i64 0))])⟩,⟨none,none,(.store 5 (.t 2) (.t 30))⟩] [1,2]) (.seq (.reg [⟨some 31,none,.load 5 true (.t 2)⟩,⟨(some 3),none,(.alloc 35 [(.f (.str ⟨#[]⟩)),(.f (.int .i64 0)),(.f (.int .i64 0)),.fF,(.f (.int .i64 0))])⟩,⟨none,none,(.store 5 (.t 3) (.t 31))⟩] [1,2,3]) (.seq (.reg [⟨some 32,none,.fa 0 (.t 3)⟩,⟨some 33,none,.fa 0 (.t 32)⟩,⟨none,none,(.store 1 (.t 33) (.k (.one (.f (.str ⟨#[1,98,0]⟩)))))⟩] [1,2,3]) (.seq (.reg [⟨some 34,none,.load 5 true (.t 2)⟩,⟨(some 4),none,(.alloc 35 [(.f (.str ⟨#[]⟩)),(.f (.int .i64 0)),(.f (.int .i64 0)),.fF,(.f (.int .i64 0))])⟩,⟨none,none,(.store 5 (.t 4) (.t 34))⟩] [1,2,3,4]) (.seq (.reg [⟨some 35,none,.fa 0 (.t 4)⟩,⟨some 36,none,.fa 0 (.t 35)⟩,⟨none,none,(.store 1 (.t 36) (.k (.one (.f (.str ⟨#[1,99,0]⟩)))))⟩] [1,2,3,4]) (.seq (.reg [⟨some 37,none,.mv (.t 1)⟩,⟨some 38,none,.load 5 true (.t 2)⟩,⟨some 39,none,.call false 19 [(.t 37),(.k (.one (.f (.int .i64 1)))),(.t 38),(.k (.one (.f (.int .i64 5))))]⟩,⟨some 5,none,.mv (.t 39)⟩] [1,2,3,4,5]) (.seq (.reg [⟨some 40,none,.mv (.t 1)⟩,⟨some 41,none,.load 5 true (.t 3)⟩,⟨some 42,none,.call false 19 [(.t 40),(.k (.one (.f (.int .i64 1)))),(.t 41),(.k (.one (.f (.int .i64 3))))]⟩,⟨some 6,none,.mv (.t 42)⟩] [1,2,3,4,5,6]) (.seq (.reg [⟨some 43,none,.mv (.t 1)⟩,⟨some 44,none,.load 5 true (.t 2)⟩,⟨some 45,none,.call false 19 [(.t 43),(.k (.one (.f (.int .i64 2)))),(.t 44),(.k (.one (.f (.int .i64 4))))]⟩,⟨some 7,none,.mv (.t 45)⟩] [1,2,3,4,5,6,7]) (.seq (.reg [⟨some 47,none,.mv (.t 1)⟩,⟨some 48,none,.fa 0 (.t 2)⟩,⟨some 49,none,.load 3 true (.t 48)⟩,⟨some 50,none,.call false 21 [(.t 47),(.k (.one (.f (.int .i64 2)))),(.t 49)]⟩,⟨some 46,none,.mv (.t 50)⟩,⟨some 51,none,.ext (.t 46) 0⟩,⟨some 52,none,.ext (.t 46) 1⟩,⟨(some 8),none,(.alloc 46 [(.f (.str ⟨#[]⟩)),(.f (.int .i64 0)),(.f (.int .i64 0)),.fF,(.f (.int .i64 0)),(.f (.int .i64 0)),(.f (.int .i64 0))])⟩,⟨none,none,(.store 7 (.t 8) (.t 51))⟩,⟨some 9,none,.mv (.t 52)⟩] [1,2,3,4,5,6,7,8,9]) (.seq (.reg [⟨some 53,none,.mv (.t 1)⟩,⟨some 54,none,.load 5 true (.t 4)⟩,⟨some 55,none,.call false 19 [(.t 53),(.k (.one (.f (.int .i64 2)))),(.t 54),(.k (.one (.f (.int .i64 1))))]⟩,⟨some 10,none,.mv (.t 55)⟩] [1,2,3,5,6,7,8,9,10]) (.seq (.reg [⟨some 57,none,.mv (.t 1)⟩,⟨some 58,none,.fa 0 (.t 3)⟩,⟨some 59,none,.load 3 true (.t 58)⟩,⟨some 60,none,.call false 25 [(.t 57),(.k (.one (.f (.int .i64 2)))),(.t 59)]⟩,⟨some 56,none,.mv (.t 60)⟩,⟨some 61,none,.ext (.t 56) 0⟩,⟨some 62,none,.ext (.t 56) 1⟩,⟨(some 11),none,(.alloc 46 [(.f (.str ⟨#[]⟩)),(.f (.int .i64 0)),(.f (.int .i64 0)),.fF,(.f (.int .i64 0)),(.f (.int .i64 0)),(.f (.int .i64 0))])⟩,⟨none,none,(.store 7 (.t 11) (.t 61))⟩,⟨some 12,none,.mv (.t 62)⟩] [1,2,5,6,7,8,9,10,12]) (.seq (.reg [⟨some 64,none,.mv (.t 1)⟩,⟨some 65,none,.fa 0 (.t 2)⟩,⟨some 66,none,.load 3 true (.t 65)⟩,⟨some 67,none,.call false 25 [(.t 64),(.k (.one (.f (.int .i64 6)))),(.t 66)]⟩,⟨some 63,none,.mv (.t 67)⟩,⟨some 68,none,.ext (.t 63) 0⟩,⟨some 69,none,.ext (.t 63) 1⟩,⟨(some 13),none,(.alloc 46 [(.f (.str ⟨#[]⟩)),(.f (.int .i64 0)),(.f (.int .i64 0)),.fF,(.f (.int .i64 0)),(.f (.int .i64 0)),(.f (.int .i64 0))])⟩,⟨none,none,(.store 7 (.t 13) (.t 68))⟩,⟨some 14,none,.mv (.t 69)⟩] [1,2,5,6,7,8,9,10,12,14]) (.seq (.reg [⟨some 70,none,.load 5 true (.t 2)⟩,⟨(some 15),none,(.alloc 35 [(.f (.str ⟨#[]⟩)),(.f (.int .i64 0)),(.f (.int .i64 0)),.fF,(.f (.int .i64 0))])⟩,⟨none,none,(.store 5 (.t 15) (.t 70))⟩] [1,2,5,6,7,8,9,10,12,14,15]) (.seq (.reg [⟨some 71,none,.fa 4 (.t 15)⟩,⟨none,none,(.store 1 (.t 71) (.k (.one (.f (.int .i64 0)))))⟩] [1,2,5,6,7,8,9,10,12,14,15]) (.seq (.reg [⟨some 72,none,.mv (.t 1)⟩,⟨some 73,none,.load 5 true (.t 15)⟩,⟨some 74,none,.call false 19 [(.t 72),(.k (.one (.f (.int .i64 2)))),(.t 73),(.k (.one (.f (.int .i64 5))))]⟩,⟨some 16,none,.mv (.t 74)⟩] [1,2,5,6,7,8,9,10,12,14,16]) (.seq (.reg [⟨some 75,none,.mv (.t 5)⟩,⟨some 76,none,.cmp .eq (.t 75) (.k (.one (.f (.int .i64 0))))⟩,⟨some 77,none,.mv (.t 76)⟩,⟨(some 78),(some ⟨(some 77),true⟩),(.mv (.t 6))⟩,⟨(some 79),(some ⟨(some 77),true⟩),(.cmp .eq (.t 78) (.k (.one (.f (.int .i64 0)))))⟩,⟨some 80,none,.pick (.t 77) (.t 79) (.k (.one (.f (.bool false))))⟩,⟨some 81,none,.mv (.t 80)⟩,⟨(some 82),(some ⟨(some 81),true⟩),(.mv (.t 7))⟩,⟨(some 83),(some ⟨(some 81),true⟩),(.cmp .eq (.t 82) (.k (.one (.f (.int .i64 10)))))⟩,⟨some 84,none,.pick (.t 81) (.t 83) (.k (.one (.f (.bool false))))⟩,⟨some 85,none,.mv (.t 84)⟩,⟨(some 86),(some ⟨(some 85),true⟩),(.mv (.t 9))⟩,⟨some 87,none,.pick (.t 85) (.t 86) (.k (.one (.f (.bool false))))⟩,⟨some 88,none,.mv (.t 87)⟩,⟨(some 89),(some ⟨(some 88),true⟩),(.fa 5 (.t 8))⟩,⟨(some 90),(some ⟨(some 88),true⟩),(.load 1 false (.t 89))⟩,⟨(some 91),(some ⟨(some 88),true⟩),(.cmp .eq (.t 90) (.k (.one (.f (.int .i64 6)))))⟩,⟨some 92,none,.pick (.t 88) (.t 91) (.k (.one (.f (.bool false))))⟩,⟨some 93,none,.mv (.t 92)⟩,⟨(some 94),(some ⟨(some 93),true⟩),(.fa 6 (.t 8))⟩,⟨(some 95),(some ⟨(some 93),true⟩),(.load 1 false (.t 94))⟩,⟨(some 96),(some ⟨(some 93),true⟩),(.cmp .eq (.t 95) (.k (.one (.f (.int .i64 5)))))⟩,⟨some 97,none,.pick (.t 93) (.t 96) (.k (.one (.f (.bool false))))⟩,⟨some 98,none,.mv (.t 97)⟩,⟨(some 99),(some ⟨(some 98),true⟩),(.mv (.t 10))⟩,⟨(some 100),(some ⟨(some 98),true⟩),(.cmp .eq (.t 99) (.k (.one (.f (.int .i64 0)))))⟩,⟨some 101,none,.pick (.t 98) (.t 100) (.k (.one (.f (.bool false))))⟩,⟨some 102,none,.mv (.t 101)⟩,⟨(some 103),(some ⟨(some 102),true⟩),(.mv (.t 12))⟩,⟨(some 104),(some ⟨(some 102),true⟩),(.no (.t 103))⟩,⟨some 105,none,.pick (.t 102) (.t 104) (.k (.one (.f (.bool false))))⟩,⟨some 106,none,.mv (.t 105)⟩,⟨(some 107),(some ⟨(some 106),true⟩),(.mv (.t 14))⟩,⟨(some 108),(some ⟨(some 106),true⟩),(.no (.t 107))⟩,⟨some 109,none,.pick (.t 106) (.t 108) (.k (.one (.f (.bool false))))⟩,⟨some 110,none,.mv (.t 109)⟩,⟨(some 111),(some ⟨(some 110),true⟩),(.mv (.t 16))⟩,⟨(some 112),(some ⟨(some 110),true⟩),(.cmp .eq (.t 111) (.k (.one (.f (.int .i64 14)))))⟩,⟨some 113,none,.pick (.t 110) (.t 112) (.k (.one (.f (.bool false))))⟩,⟨some 114,none,.mv (.t 113)⟩,⟨(some 115),(some ⟨(some 114),true⟩),(.mv (.t 1))⟩,⟨(some 116),(some ⟨(some 114),true⟩),(.call false 31 [(.t 115)])⟩,⟨(some 117),(some ⟨(some 114),true⟩),(.cmp .eq (.t 116) (.k (.one (.f (.int .i64 3)))))⟩,⟨some 118,none,.pick (.t 114) (.t 117) (.k (.one (.f (.bool false))))⟩,⟨some 119,none,.mv (.t 118)⟩,⟨(some 120),(some ⟨(some 119),true⟩),(.mv (.t 1))⟩,⟨(some 121),(some ⟨(some 119),true⟩),(.call false 29 [(.t 120)])⟩,⟨(some 122),(some ⟨(some 119),true⟩),(.jH (.t 121))⟩,⟨(some 123),(some ⟨(some 119),true⟩),(.cmp .eq (.t 122) (.k (.one (.f (.int .i64 2)))))⟩,⟨some 124,none,.pick (.t 119) (.t 123) (.k (.one (.f (.bool false))))⟩,⟨some 125,none,.mv (.t 124)⟩,⟨(some 126),(some ⟨(some 125),true⟩),(.mv (.t 1))⟩,⟨(some 127),(some ⟨(some 125),true⟩),(.fa 0 (.t 2))⟩,⟨(some 128),(some ⟨(some 125),true⟩),(.load 3 true (.t 127))⟩,⟨(some 129),(some ⟨(some 125),true⟩),(.call false 27 [(.t 126),(.t 128)])⟩,⟨some 130,none,.pick (.t 125) (.t 129) (.k (.one (.f (.bool false))))⟩,⟨some 131,none,.mv (.t 130)⟩,⟨(some 132),(some ⟨(some 131),true⟩),(.mv (.t 1))⟩,⟨(some 133),(some ⟨(some 131),true⟩),(.fa 0 (.t 2))⟩,⟨(some 134),(some ⟨(some 131),true⟩),(.load 3 true (.t 133))⟩,⟨(some 135),(some ⟨(some 131),true⟩),(.call false 27 [(.t 132),(.t 134)])⟩,⟨(some 136),(some ⟨(some 131),true⟩),(.no (.t 135))⟩,⟨some 137,none,.pick (.t 131) (.t 136) (.k (.one (.f (.bool false))))⟩,⟨some 138,none,.mv (.t 137)⟩,⟨(some 139),(some ⟨(some 138),true⟩),(.mv (.t 1))⟩,⟨(some 140),(some ⟨(some 138),true⟩),(.call false 31 [(.t 139)])⟩,⟨(some 141),(some ⟨(some 138),true⟩),(.cmp .eq (.t 140) (.k (.one (.f (.int .i64 4)))))⟩,⟨some 142,none,.pick (.t 138) (.t 141) (.k (.one (.f (.bool false))))⟩,⟨some 143,none,.mv (.t 142)⟩,⟨(some 144),(some ⟨(some 143),true⟩),(.mv (.t 1))⟩,⟨(some 145),(some ⟨(some 143),true⟩),(.load 5 true (.t 2))⟩,⟨(some 146),(some ⟨(some 143),true⟩),(.call false 19 [(.t 144),(.k (.one (.f (.int .i64 (-1))))),(.t 145),(.k (.one (.f (.int .i64 5))))])⟩,⟨(some 147),(some ⟨(some 143),true⟩),(.cmp .eq (.t 146) (.k (.one (.f (.int .i64 1)))))⟩,⟨some 148,none,.pick (.t 143) (.t 147) (.k (.one (.f (.bool false))))⟩,⟨some 0,none,.mv (.t 148)⟩] [0]) .ret)))))))))))))))))))⟩
def c16 : CF:=⟨1,[(.t 2)],[],[],(.seq (.reg [⟨some 2,none,.mv (.k (.one .jq))⟩] [0]) (.seq (.seq (.reg [⟨some 3,none,.mv (.t 0)⟩,⟨some 4,none,.cmp .lt (.t 3) (.k (.one (.f (.int .i64 1))))⟩,⟨some 5,none,.mv (.t 4)⟩,⟨(some 6),(some ⟨(some 5),false⟩),(.mv (.t 0))⟩,⟨(some 7),(some ⟨(some 5),false⟩),(.cmp .gt (.t 6) (.k (.one (.f (.int .i64 1000)))))⟩,⟨some 8,none,.pick (.t 5) (.k (.one (.f (.bool true)))) (.t 7)⟩] [0,8]) (.cond (.t 8) (.seq (.reg [⟨some 2,none,.mv (.k (.one .jq))⟩] [2]) .ret) .skip)) (.seq (.reg [⟨some 9,none,.mv (.t 0)⟩,⟨some 10,none,.rJ (.agg [.str,(.int .i64),(.int .i64)])⟩,⟨(some 11),none,(.build [(.f (.int .i64 0)),.fB,.fF,(.f (.int .i64 0))] [⟨0,⟨1,(.t 9)⟩⟩,⟨1,⟨1,(.t 10)⟩⟩])⟩,⟨some 12,none,.box 106 (.t 11)⟩,⟨some 2,none,.mv (.t 12)⟩] [2]) .ret)))⟩
def c17 : CF:=⟨1,[(.cell 2 3 true)],[],[],(.seq (.reg [⟨some 2,none,.alloc 29 [(.f (.int .i64 0)),.fF,(.f (.int .i64 0))]⟩] [0,2]) (.seq (.seq (.reg [⟨some 3,none,.mv (.t 0)⟩,⟨some 4,none,.cmp .lt (.t 3) (.k (.one (.f (.int .i64 1))))⟩,⟨some 5,none,.mv (.t 4)⟩,⟨(some 6),(some ⟨(some 5),false⟩),(.mv (.t 0))⟩,⟨(some 7),(some ⟨(some 5),false⟩),(.cmp .gt (.t 6) (.k (.one (.f (.int .i64 1000)))))⟩,⟨some 8,none,.pick (.t 5) (.k (.one (.f (.bool true)))) (.t 7)⟩] [0,2,8]) (.cond (.t 8) (.seq (.reg [⟨some 9,none,.build [(.f (.int .i64 0)),.fF,(.f (.int .i64 0))] []⟩,⟨none,none,(.store 3 (.t 2) (.t 9))⟩] [2]) .ret) .skip)) (.seq (.reg [⟨some 10,none,.mv (.t 0)⟩,⟨(some 11),none,(.build [(.f (.int .i64 0)),.fF,(.f (.int .i64 0))] [⟨0,⟨1,(.t 10)⟩⟩])⟩,⟨none,none,(.store 3 (.t 2) (.t 11))⟩] [2]) .ret)))⟩
def c20 : CF:=⟨3,[(.cell 6 3 true),(.cell 7 7 true),(.t 8)],[],[],(.seq (.reg [⟨some 3,none,.box 29 (.t 0)⟩,⟨some 5,none,.box 32 (.t 2)⟩,⟨some 6,none,.alloc 29 [(.f (.int .i64 0)),.fF,(.f (.int .i64 0))]⟩,⟨(some 7),none,(.alloc 43 [(.f (.str ⟨#[]⟩)),(.f (.int .i64 0)),(.f (.int .i64 0)),.fF,(.f (.int .i64 0)),(.f (.int .i64 0)),(.f (.int .i64 0))])⟩,⟨some 8,none,.mv (.k (.one (.f (.bool false))))⟩] [1,3,5,6,7]) (.seq (.reg [⟨some 13,none,.load 3 true (.t 3)⟩,⟨some 14,none,.mv (.t 1)⟩,⟨some 15,none,.load 3 true (.t 5)⟩,⟨some 16,none,.call false 24 [(.t 13),(.t 14),(.t 15)]⟩,⟨some 12,none,.mv (.t 16)⟩,⟨some 17,none,.ext (.t 12) 0⟩,⟨some 18,none,.ext (.t 12) 1⟩,⟨(some 9),none,(.alloc 43 [(.f (.str ⟨#[]⟩)),(.f (.int .i64 0)),(.f (.int .i64 0)),.fF,(.f (.int .i64 0)),(.f (.int .i64 0)),(.f (.int .i64 0))])⟩,⟨none,none,(.store 7 (.t 9) (.t 17))⟩,⟨some 10,none,.mv (.t 18)⟩] [3,5,6,7,9,10]) (.seq (.seq (.reg [⟨some 19,none,.mv (.t 10)⟩] [3,5,6,7,9,10,19]) (.cond (.t 19) (.seq (.uq [⟨⟨some 20,none,.fa 1 (.t 3)⟩,[]⟩,⟨⟨some 21,none,.load 1 false (.t 20)⟩,[]⟩,⟨⟨some 22,none,.load 3 true (.t 3)⟩,[]⟩,⟨⟨some 23,none,.load 3 true (.t 5)⟩,[]⟩,⟨⟨some 24,none,.call false 59 [(.t 22),(.t 23)]⟩,[]⟩] [] [] [⟨some 25,none,.call false 61 [(.t 21),(.t 24)]⟩,⟨some 11,none,.mv (.t 25)⟩] [3,6,7,9,10,11]) (.seq (.reg [⟨some 26,none,.mv (.t 11)⟩,⟨some 27,none,.load 7 true (.t 9)⟩,⟨(some 28),none,(.FP 43 7 1 [(.f (.str ⟨#[]⟩)),(.f (.int .i64 0)),(.f (.int .i64 0)),.fF,(.f (.int .i64 0)),(.f (.int .i64 0)),(.f (.int .i64 0))] [⟨0,⟨7,(.t 27)⟩⟩])⟩,⟨some 29,none,.app 43 7 80 (.t 26) (.t 28)⟩,⟨some 11,none,.mv (.t 29)⟩] [3,6,7,9,10,11]) (.reg [⟨some 30,none,.mv (.t 11)⟩,⟨some 31,none,.fa 1 (.t 3)⟩,⟨none,none,(.store 1 (.t 31) (.t 30))⟩] [3,6,7,9,10]))) .skip)) (.seq (.uq [⟨⟨some 32,none,.load 3 true (.t 3)⟩,[]⟩,⟨⟨some 33,none,.load 7 true (.t 9)⟩,[]⟩,⟨⟨some 34,none,.mv (.t 10)⟩,[]⟩] [1,2] [⟨none,none,(.store 3 (.t 6) (.t 32))⟩,⟨none,none,(.store 7 (.t 7) (.t 33))⟩] [⟨some 8,none,.mv (.t 34)⟩] [6,7,8]) .ret))))⟩
def c21 : CF:=⟨3,[(.cell 6 7 true),(.t 7)],[],[],(.seq (.reg [⟨some 5,none,.box 32 (.t 2)⟩,⟨(some 6),none,(.alloc 46 [(.f (.str ⟨#[]⟩)),(.f (.int .i64 0)),(.f (.int .i64 0)),.fF,(.f (.int .i64 0)),(.f (.int .i64 0)),(.f (.int .i64 0))])⟩,⟨some 7,none,.mv (.k (.one (.f (.bool false))))⟩] [0,1,5,6]) (.seq (.reg [⟨some 11,none,.mv (.t 0)⟩,⟨some 12,none,.mv (.t 1)⟩,⟨some 13,none,.load 3 true (.t 5)⟩,⟨some 14,none,.call false 25 [(.t 11),(.t 12),(.t 13)]⟩,⟨some 10,none,.mv (.t 14)⟩,⟨some 15,none,.ext (.t 10) 0⟩,⟨some 16,none,.ext (.t 10) 1⟩,⟨(some 8),none,(.alloc 46 [(.f (.str ⟨#[]⟩)),(.f (.int .i64 0)),(.f (.int .i64 0)),.fF,(.f (.int .i64 0)),(.f (.int .i64 0)),(.f (.int .i64 0))])⟩,⟨none,none,(.store 7 (.t 8) (.t 15))⟩,⟨some 9,none,.mv (.t 16)⟩] [0,5,6,8,9]) (.seq (.seq (.reg [⟨some 17,none,.mv (.t 9)⟩] [0,5,6,8,9,17]) (.cond (.t 17) (.uq [⟨⟨some 18,none,.mv (.t 0)⟩,[]⟩,⟨⟨some 19,none,.mv (.t 0)⟩,[]⟩,⟨⟨some 20,none,.kY (.t 19)⟩,[]⟩,⟨⟨some 21,none,.fa 2 (.t 20)⟩,[]⟩,⟨⟨some 22,none,.load 1 false (.t 21)⟩,[]⟩,⟨⟨some 23,none,.load 3 true (.t 5)⟩,[]⟩,⟨⟨some 24,none,.call false 67 [(.t 22),(.t 23)]⟩,[]⟩] [] [] [⟨some 25,none,.kY (.t 18)⟩,⟨some 26,none,.fa 2 (.t 25)⟩,⟨none,none,(.store 1 (.t 26) (.t 24))⟩] [6,8,9]) .skip)) (.seq (.reg [⟨some 27,none,.load 7 true (.t 8)⟩,⟨some 28,none,.mv (.t 9)⟩,⟨none,none,(.store 7 (.t 6) (.t 27))⟩,⟨some 7,none,.mv (.t 28)⟩] [6,7]) .ret))))⟩
def Er : CF:=⟨2,[(.t 4)],[],[],(.seq (.reg [⟨some 2,none,.box 43 (.t 0)⟩,⟨some 3,none,.box 43 (.t 1)⟩,⟨some 4,none,.mv (.k (.one (.f (.bool false))))⟩] [2,3]) (.seq (.reg [⟨some 5,none,.fa 0 (.t 2)⟩,⟨some 6,none,.load 5 true (.t 5)⟩,⟨some 7,none,.fa 0 (.t 3)⟩,⟨some 8,none,.load 5 true (.t 7)⟩,⟨some 9,none,.call false 32 [(.t 6),(.t 8)]⟩,⟨some 10,none,.mv (.t 9)⟩,⟨(some 11),(some ⟨(some 10),true⟩),(.fa 5 (.t 2))⟩,⟨(some 12),(some ⟨(some 10),true⟩),(.load 1 false (.t 11))⟩,⟨(some 13),(some ⟨(some 10),true⟩),(.fa 5 (.t 3))⟩,⟨(some 14),(some ⟨(some 10),true⟩),(.load 1 false (.t 13))⟩,⟨(some 15),(some ⟨(some 10),true⟩),(.cmp .eq (.t 12) (.t 14))⟩,⟨some 16,none,.pick (.t 10) (.t 15) (.k (.one (.f (.bool false))))⟩,⟨some 17,none,.mv (.t 16)⟩,⟨(some 18),(some ⟨(some 17),true⟩),(.fa 6 (.t 2))⟩,⟨(some 19),(some ⟨(some 17),true⟩),(.load 1 false (.t 18))⟩,⟨(some 20),(some ⟨(some 17),true⟩),(.fa 6 (.t 3))⟩,⟨(some 21),(some ⟨(some 17),true⟩),(.load 1 false (.t 20))⟩,⟨(some 22),(some ⟨(some 17),true⟩),(.cmp .eq (.t 19) (.t 21))⟩,⟨some 23,none,.pick (.t 17) (.t 22) (.k (.one (.f (.bool false))))⟩,⟨some 4,none,.mv (.t 23)⟩] [4]) .ret))⟩
def MO : CF:=⟨3,[(.cell 6 7 true),(.t 7)],[],[],(.seq (.reg [⟨some 5,none,.box 32 (.t 2)⟩,⟨(some 6),none,(.alloc 46 [(.f (.str ⟨#[]⟩)),(.f (.int .i64 0)),(.f (.int .i64 0)),.fF,(.f (.int .i64 0)),(.f (.int .i64 0)),(.f (.int .i64 0))])⟩,⟨some 7,none,.mv (.k (.one (.f (.bool false))))⟩] [0,1,5,6]) (.seq (.seq (.reg [⟨some 10,none,.mv (.t 0)⟩,⟨some 11,none,.mW false (.t 10)⟩] [0,1,5,6,11]) (.cond (.t 11) (.seq (.reg [⟨(some 12),none,(.build [(.f (.str ⟨#[]⟩)),(.f (.int .i64 0)),(.f (.int .i64 0)),.fF,(.f (.int .i64 0)),(.f (.int .i64 0)),(.f (.int .i64 0))] [])⟩,⟨none,none,(.store 7 (.t 6) (.t 12))⟩,⟨some 7,none,.mv (.k (.one (.f (.bool false))))⟩] [6,7]) .ret) .skip)) (.seq (.uq [⟨⟨some 14,none,.mv (.t 0)⟩,[180000]⟩,⟨⟨some 15,none,.kY (.t 14)⟩,[180000]⟩,⟨⟨some 16,none,.fa 1 (.t 15)⟩,[180000]⟩,⟨⟨some 17,none,.load 1 false (.t 16)⟩,[180000]⟩,⟨⟨some 18,none,.load 3 true (.t 5)⟩,[180000]⟩,⟨⟨(some 19),none,(.look (.agg [.str,(.int .i64),(.int .i64)]) (.agg [(.str ⟨#[]⟩),(.int .i64 0),(.int .i64 0),(.sl []),(.int .i64 0),(.int .i64 0),(.int .i64 0)]) true (.t 17) (.t 18))⟩,[180000]⟩,⟨⟨some 13,none,.mv (.t 19)⟩,[180000]⟩,⟨⟨some 20,none,.ext (.t 13) 0⟩,[180000]⟩,⟨⟨some 21,none,.ext (.t 13) 1⟩,[180000]⟩,⟨⟨(some 8),none,(.alloc 46 [(.f (.str ⟨#[]⟩)),(.f (.int .i64 0)),(.f (.int .i64 0)),.fF,(.f (.int .i64 0)),(.f (.int .i64 0)),(.f (.int .i64 0))])⟩,[]⟩] [8] [⟨none,none,(.store 7 (.t 8) (.t 20))⟩] [⟨some 9,none,.mv (.t 21)⟩] [1,6,8,9]) (.seq (.seq (.reg [⟨some 22,none,.mv (.t 9)⟩,⟨some 23,none,.no (.t 22)⟩,⟨some 24,none,.mv (.t 23)⟩,⟨(some 25),(some ⟨(some 24),false⟩),(.mv (.t 1))⟩,⟨(some 26),(some ⟨(some 24),false⟩),(.fa 5 (.t 8))⟩,⟨(some 27),(some ⟨(some 24),false⟩),(.load 1 false (.t 26))⟩,⟨(some 28),(some ⟨(some 24),false⟩),(.call false 68 [(.t 25),(.t 27)])⟩,⟨(some 29),(some ⟨(some 24),false⟩),(.no (.t 28))⟩,⟨some 30,none,.pick (.t 24) (.k (.one (.f (.bool true)))) (.t 29)⟩] [6,8,30]) (.cond (.t 30) (.seq (.reg [⟨(some 31),none,(.build [(.f (.str ⟨#[]⟩)),(.f (.int .i64 0)),(.f (.int .i64 0)),.fF,(.f (.int .i64 0)),(.f (.int .i64 0)),(.f (.int .i64 0))] [])⟩,⟨none,none,(.store 7 (.t 6) (.t 31))⟩,⟨some 7,none,.mv (.k (.one (.f (.bool false))))⟩] [6,7]) .ret) .skip)) (.seq (.reg [⟨some 32,none,.load 7 true (.t 8)⟩,⟨some 33,none,.call false 65 [(.t 32)]⟩,⟨none,none,(.store 7 (.t 6) (.t 33))⟩,⟨some 7,none,.mv (.k (.one (.f (.bool true))))⟩] [6,7]) .ret)))))⟩
def X3 : CF:=⟨2,[(.t 4)],[],[],(.seq (.reg [⟨some 3,none,.box 32 (.t 1)⟩,⟨some 4,none,.mv (.k (.one (.f (.bool false))))⟩] [0,3]) (.seq (.seq (.reg [⟨some 7,none,.mv (.t 0)⟩,⟨some 8,none,.mW false (.t 7)⟩] [0,3,8]) (.cond (.t 8) (.seq (.reg [⟨some 4,none,.mv (.k (.one (.f (.bool false))))⟩] [4]) .ret) .skip)) (.seq (.seq (.uq [⟨⟨some 10,none,.mv (.t 0)⟩,[120000]⟩,⟨⟨some 11,none,.kY (.t 10)⟩,[120000]⟩,⟨⟨some 12,none,.fa 1 (.t 11)⟩,[120000]⟩,⟨⟨some 13,none,.load 1 false (.t 12)⟩,[120000]⟩,⟨⟨some 14,none,.load 3 true (.t 3)⟩,[120000]⟩,⟨⟨(some 15),none,(.look (.agg [.str,(.int .i64),(.int .i64)]) (.agg [(.str ⟨#[]⟩),(.int .i64 0),(.int .i64 0),(.sl []),(.int .i64 0),(.int .i64 0),(.int .i64 0)]) true (.t 13) (.t 14))⟩,[120000]⟩,⟨⟨some 9,none,.mv (.t 15)⟩,[120000]⟩,⟨⟨some 16,none,.ext (.t 9) 0⟩,[120000]⟩,⟨⟨some 17,none,.ext (.t 9) 1⟩,[120000]⟩,⟨⟨(some 5),none,(.alloc 46 [(.f (.str ⟨#[]⟩)),(.f (.int .i64 0)),(.f (.int .i64 0)),.fF,(.f (.int .i64 0)),(.f (.int .i64 0)),(.f (.int .i64 0))])⟩,[]⟩] [8] [⟨none,none,(.store 7 (.t 5) (.t 16))⟩] [⟨some 6,none,.mv (.t 17)⟩] [0,3,6]) (.seq (.reg [⟨some 18,none,.mv (.t 6)⟩,⟨some 19,none,.no (.t 18)⟩] [0,3,19]) (.cond (.t 19) (.seq (.reg [⟨some 4,none,.mv (.k (.one (.f (.bool false))))⟩] [4]) .ret) .skip))) (.seq (.uq [⟨⟨some 20,none,.mv (.t 0)⟩,[]⟩,⟨⟨some 21,none,.kY (.t 20)⟩,[]⟩,⟨⟨some 22,none,.fa 1 (.t 21)⟩,[]⟩,⟨⟨some 23,none,.load 1 false (.t 22)⟩,[]⟩,⟨⟨some 24,none,.load 3 true (.t 3)⟩,[]⟩] [] [] [⟨none,none,(.del (.agg [.str,(.int .i64),(.int .i64)]) (.t 23) (.t 24))⟩] [0,3]) (.seq (.uq [⟨⟨some 25,none,.mv (.t 0)⟩,[]⟩,⟨⟨some 26,none,.mv (.t 0)⟩,[]⟩,⟨⟨some 27,none,.kY (.t 26)⟩,[]⟩,⟨⟨some 28,none,.fa 2 (.t 27)⟩,[]⟩,⟨⟨some 29,none,.load 1 false (.t 28)⟩,[]⟩,⟨⟨some 30,none,.load 3 true (.t 3)⟩,[]⟩,⟨⟨some 31,none,.call false 69 [(.t 29),(.t 30)]⟩,[]⟩] [] [] [⟨some 32,none,.kY (.t 25)⟩,⟨some 33,none,.fa 2 (.t 32)⟩,⟨none,none,(.store 1 (.t 33) (.t 31))⟩] [0]) (.seq (.reg [⟨some 34,none,.mv (.t 0)⟩,⟨some 35,none,.kY (.t 34)⟩,⟨some 36,none,.fa 3 (.t 35)⟩,⟨some 37,none,.load 1 false (.t 36)⟩,⟨some 38,none,.ar .add (.t 37) (.k (.one (.f (.int .i64 1))))⟩,⟨some 39,none,.kY (.t 34)⟩,⟨some 40,none,.fa 3 (.t 39)⟩,⟨none,none,(.store 1 (.t 40) (.t 38))⟩] []) (.seq (.reg [⟨some 4,none,.mv (.k (.one (.f (.bool true))))⟩] [4]) .ret)))))))⟩
def Ir : CF:=⟨1,[(.t 2)],[],[],(.seq (.reg [⟨some 2,none,.mv (.k (.one .fF))⟩] [0]) (.seq (.seq (.reg [⟨some 3,none,.mv (.t 0)⟩,⟨some 4,none,.mW false (.t 3)⟩] [0,4]) (.cond (.t 4) (.seq (.reg [⟨some 2,none,.mv (.k (.one .fF))⟩] [2]) .ret) .skip)) (.seq (.reg [⟨some 5,none,.mv (.t 0)⟩,⟨some 6,none,.kY (.t 5)⟩,⟨some 7,none,.fa 2 (.t 6)⟩,⟨some 8,none,.load 1 false (.t 7)⟩,⟨some 9,none,.call false 70 [(.t 8)]⟩,⟨some 2,none,.mv (.t 9)⟩] [2]) .ret)))⟩
def c31 : CF:=⟨1,[(.t 2)],[],[],(.seq (.reg [⟨some 2,none,.mv (.k (.one (.f (.int .i64 0))))⟩] [0]) (.seq (.seq (.reg [⟨some 3,none,.mv (.t 0)⟩,⟨some 4,none,.mW false (.t 3)⟩] [0,4]) (.cond (.t 4) (.seq (.reg [⟨some 2,none,.mv (.k (.one (.f (.int .i64 0))))⟩] [2]) .ret) .skip)) (.seq (.reg [⟨some 5,none,.mv (.t 0)⟩,⟨some 6,none,.kY (.t 5)⟩,⟨some 7,none,.fa 3 (.t 6)⟩,⟨some 8,none,.load 1 false (.t 7)⟩,⟨some 2,none,.mv (.t 8)⟩] [2]) .ret)))⟩
def c32 : CF:=⟨2,[(.t 4)],[],[],(.seq (.reg [⟨some 2,none,.box 35 (.t 0)⟩,⟨some 3,none,.box 35 (.t 1)⟩,⟨some 4,none,.mv (.k (.one (.f (.bool false))))⟩] [2,3]) (.seq (.reg [⟨some 5,none,.fa 0 (.t 2)⟩,⟨some 6,none,.load 3 true (.t 5)⟩,⟨some 7,none,.fa 0 (.t 3)⟩,⟨some 8,none,.load 3 true (.t 7)⟩,⟨some 9,none,.uy (.agg [.str,(.int .i64),(.int .i64)]) false (.t 6) (.t 8)⟩,⟨some 10,none,.mv (.t 9)⟩,⟨(some 11),(some ⟨(some 10),true⟩),(.fa 4 (.t 2))⟩,⟨(some 12),(some ⟨(some 10),true⟩),(.load 1 false (.t 11))⟩,⟨(some 13),(some ⟨(some 10),true⟩),(.fa 4 (.t 3))⟩,⟨(some 14),(some ⟨(some 10),true⟩),(.load 1 false (.t 13))⟩,⟨(some 15),(some ⟨(some 10),true⟩),(.cmp .eq (.t 12) (.t 14))⟩,⟨some 16,none,.pick (.t 10) (.t 15) (.k (.one (.f (.bool false))))⟩,⟨some 17,none,.mv (.t 16)⟩,⟨(some 18),(some ⟨(some 17),true⟩),(.fa 3 (.t 2))⟩,⟨(some 19),(some ⟨(some 17),true⟩),(.load 1 false (.t 18))⟩,⟨(some 20),(some ⟨(some 17),true⟩),(.fa 3 (.t 3))⟩,⟨(some 21),(some ⟨(some 17),true⟩),(.load 1 false (.t 20))⟩,⟨(some 22),(some ⟨(some 17),true⟩),(.call false 71 [(.t 19),(.t 21)])⟩,⟨some 23,none,.pick (.t 17) (.t 22) (.k (.one (.f (.bool false))))⟩,⟨some 4,none,.mv (.t 23)⟩] [4]) .ret))⟩
def KI : CF:=⟨2,[(.cell 4 5 true)],[],[0],(.seq (.reg [⟨some 3,none,.box 32 (.t 1)⟩,⟨(some 4),none,(.alloc 35 [(.f (.str ⟨#[]⟩)),(.f (.int .i64 0)),(.f (.int .i64 0)),.fF,(.f (.int .i64 0))])⟩] [0,3,4]) (.seq (.reg [⟨(some 5),none,(.alloc 35 [(.f (.str ⟨#[]⟩)),(.f (.int .i64 0)),(.f (.int .i64 0)),.fF,(.f (.int .i64 0))])⟩] [0,3,4,5]) (.seq (.seq (.reg [⟨some 6,none,.mv (.k (.one (.f (.int .i64 0))))⟩] [0,3,4,5,6]) (.block 0 (.loop [0,3,4,5,6] [30201,80000,100000,120000] [] (.seq (.seq (.reg [⟨some 7,none,.mv (.t 6)⟩,⟨some 8,none,.mv (.t 0)⟩,⟨some 9,none,.jH (.t 8)⟩,⟨some 10,none,.cmp .lt (.t 7) (.t 9)⟩] [0,3,4,5,6,10]) (.cond (.t 10) .skip (.exit 0))) (.seq (.block 1 (.seq (.uq [⟨⟨some 13,none,.mv (.t 0)⟩,[]⟩,⟨⟨some 14,none,.mv (.t 6)⟩,[]⟩,⟨⟨some 15,none,.ia 5 (.t 13) (.t 14)⟩,[]⟩,⟨⟨some 16,none,.fa 0 (.t 15)⟩,[]⟩,⟨⟨some 17,none,.load 3 true (.t 16)⟩,[]⟩,⟨⟨some 18,none,.load 3 true (.t 3)⟩,[]⟩] [] [] [⟨some 19,none,.uy (.agg [.str,(.int .i64),(.int .i64)]) false (.t 17) (.t 18)⟩] [0,3,4,5,6,19]) (.cond (.t 19) (.reg [⟨some 20,none,.mv (.t 0)⟩,⟨some 21,none,.mv (.t 6)⟩,⟨some 22,none,.ia 5 (.t 20) (.t 21)⟩,⟨some 23,none,.load 5 true (.t 22)⟩,⟨none,none,(.store 5 (.t 5) (.t 23))⟩] [0,3,4,5,6]) .skip))) (.reg [⟨some 11,none,.mv (.t 6)⟩,⟨some 12,none,.ar .add (.t 11) (.k (.one (.f (.int .i64 1))))⟩,⟨some 6,none,.mv (.t 12)⟩] [0,3,4,5,6])))))) (.seq (.reg [⟨some 24,none,.load 5 true (.t 5)⟩,⟨none,none,(.store 5 (.t 4) (.t 24))⟩] [4]) .ret))))⟩
def c34 : CF:=⟨1,[(.t 2)],[],[],(.seq (.reg [⟨some 2,none,.mv (.k (.one (.f (.bool false))))⟩] [0]) (.seq (.seq (.reg [⟨some 3,none,.mv (.k (.one (.f (.int .i64 0))))⟩] [0,3]) (.block 0 (.loop [0,3] [20202] [] (.seq (.seq (.reg [⟨some 5,none,.mv (.t 3)⟩,⟨some 6,none,.mv (.t 0)⟩,⟨some 7,none,.jH (.t 6)⟩,⟨some 8,none,.cmp .lt (.t 5) (.t 7)⟩] [0,3,8]) (.cond (.t 8) .skip (.exit 0))) (.seq (.block 1 (.seq (.reg [⟨some 4,none,.mv (.k (.one (.f (.int .i64 0))))⟩] [0,3,4]) (.block 2 (.loop [0,3,4] [20202] [] (.seq (.seq (.reg [⟨some 11,none,.mv (.t 4)⟩,⟨some 12,none,.mv (.t 3)⟩,⟨some 13,none,.cmp .lt (.t 11) (.t 12)⟩] [0,3,4,13]) (.cond (.t 13) .skip (.exit 2))) (.seq (.block 3 (.seq (.uq [⟨⟨some 16,none,.mv (.t 0)⟩,[]⟩,⟨⟨some 17,none,.mv (.t 3)⟩,[]⟩,⟨⟨some 18,none,.ia 3 (.t 16) (.t 17)⟩,[]⟩,⟨⟨some 19,none,.load 3 true (.t 18)⟩,[]⟩,⟨⟨some 20,none,.mv (.t 0)⟩,[]⟩,⟨⟨some 21,none,.mv (.t 4)⟩,[]⟩,⟨⟨some 22,none,.ia 3 (.t 20) (.t 21)⟩,[]⟩,⟨⟨some 23,none,.load 3 true (.t 22)⟩,[]⟩] [] [] [⟨some 24,none,.uy (.agg [.str,(.int .i64),(.int .i64)]) false (.t 19) (.t 23)⟩] [0,3,4,24]) (.cond (.t 24) (.seq (.reg [⟨some 2,none,.mv (.k (.one (.f (.bool false))))⟩] [2]) .ret) .skip))) (.reg [⟨some 14,none,.mv (.t 4)⟩,⟨some 15,none,.ar .add (.t 14) (.k (.one (.f (.int .i64 1))))⟩,⟨some 4,none,.mv (.t 15)⟩] [0,3,4]))))))) (.reg [⟨some 9,none,.mv (.t 3)⟩,⟨some 10,none,.ar .add (.t 9) (.k (.one (.f (.int .i64 1))))⟩,⟨some 3,none,.mv (.t 10)⟩] [0,3])))))) (.seq (.reg [⟨some 2,none,.mv (.k (.one (.f (.bool true))))⟩] [2]) .ret)))⟩
def c35 : CF:=⟨1,[(.t 2)],[],[],(.seq (.reg [⟨some 1,none,.box 35 (.t 0)⟩,⟨some 2,none,.mv (.k (.one (.f (.bool false))))⟩] [1]) (.seq (.seq (.reg [⟨some 3,none,.mv (.k (.one (.f (.int .i64 0))))⟩] [1,3]) (.block 0 (.loop [1,3] [20802,40000] [] (.seq (.seq (.reg [⟨some 4,none,.mv (.t 3)⟩,⟨some 5,none,.fa 3 (.t 1)⟩,⟨some 6,none,.load 1 false (.t 5)⟩,⟨some 7,none,.jH (.t 6)⟩,⟨some 8,none,.cmp .lt (.t 4) (.t 7)⟩] [1,3,8]) (.cond (.t 8) .skip (.exit 0))) (.seq (.block 1 (.seq (.reg [⟨some 11,none,.fa 3 (.t 1)⟩,⟨some 12,none,.load 1 false (.t 11)⟩,⟨some 13,none,.mv (.t 3)⟩,⟨some 14,none,.ia 1 (.t 12) (.t 13)⟩,⟨some 15,none,.load 1 false (.t 14)⟩,⟨some 16,none,.Cm (.t 15)⟩,⟨some 17,none,.cmp .gt (.t 16) (.k (.one (.f (.int .i64 2000))))⟩,⟨some 18,none,.mv (.t 17)⟩,⟨(some 19),(some ⟨(some 18),false⟩),(.fa 3 (.t 1))⟩,⟨(some 20),(some ⟨(some 18),false⟩),(.load 1 false (.t 19))⟩,⟨(some 21),(some ⟨(some 18),false⟩),(.jH (.t 20))⟩,⟨(some 22),(some ⟨(some 18),false⟩),(.cmp .gt (.t 21) (.k (.one (.f (.int .i64 60)))))⟩,⟨some 23,none,.pick (.t 18) (.k (.one (.f (.bool true)))) (.t 22)⟩] [1,3,23]) (.cond (.t 23) (.seq (.reg [⟨some 2,none,.mv (.k (.one (.f (.bool false))))⟩] [2]) .ret) .skip))) (.reg [⟨some 9,none,.mv (.t 3)⟩,⟨some 10,none,.ar .add (.t 9) (.k (.one (.f (.int .i64 1))))⟩,⟨some 3,none,.mv (.t 10)⟩] [1,3])))))) (.seq (.reg [⟨some 24,none,.fa 0 (.t 1)⟩,⟨some 25,none,.fa 0 (.t 24)⟩,⟨some 26,none,.load 1 false (.t 25)⟩,⟨some 27,none,.Cm (.t 26)⟩,⟨some 28,none,.cmp .le (.t 27) (.k (.one (.f (.int .i64 300))))⟩,⟨some 2,none,.mv (.t 28)⟩] [2]) .ret)))⟩
def c62 : CF:=⟨2,[(.t 4)],[],[],(.seq (.reg [⟨some 4,none,.mv (.k (.one (.f (.int .i64 0))))⟩] [0,1]) (.seq (.seq (.reg [⟨some 5,none,.mv (.t 0)⟩,⟨some 6,none,.call false 86 [(.t 5),(.k (.one (.f (.int .i64 1099511627776))))]⟩,⟨some 7,none,.no (.t 6)⟩,⟨some 8,none,.mv (.t 7)⟩,⟨(some 9),(some ⟨(some 8),false⟩),(.mv (.t 1))⟩,⟨(some 10),(some ⟨(some 8),false⟩),(.cmp .lt (.t 9) (.k (.one (.f (.int .i64 0)))))⟩,⟨some 11,none,.pick (.t 8) (.k (.one (.f (.bool true)))) (.t 10)⟩] [0,1,11]) (.cond (.t 11) (.seq (.reg [⟨some 4,none,.mv (.k (.one (.f (.int .i64 (-1)))))⟩] [4]) .ret) .skip)) (.seq (.reg [⟨some 12,none,.mv (.t 0)⟩,⟨some 13,none,.mv (.t 1)⟩,⟨some 14,none,.mn (.t 13) (.k (.one (.f (.int .i64 604800))))⟩,⟨some 15,none,.ar .add (.t 12) (.t 14)⟩,⟨some 4,none,.mv (.t 15)⟩] [4]) .ret)))⟩
def c64 : CF:=⟨3,[(.t 6)],[],[],(.seq (.reg [⟨some 5,none,.box 46 (.t 2)⟩,⟨some 6,none,.mv (.k (.one (.f (.int .i64 0))))⟩] [0,1,5]) (.seq (.seq (.reg [⟨some 9,none,.mv (.t 0)⟩,⟨some 10,none,.mW false (.t 9)⟩,⟨some 11,none,.mv (.t 10)⟩,⟨(some 12),(some ⟨(some 11),false⟩),(.fa 5 (.t 5))⟩,⟨(some 13),(some ⟨(some 11),false⟩),(.load 1 false (.t 12))⟩,⟨(some 14),(some ⟨(some 11),false⟩),(.cmp .lt (.t 13) (.k (.one (.f (.int .i64 0)))))⟩,⟨some 15,none,.pick (.t 11) (.k (.one (.f (.bool true)))) (.t 14)⟩,⟨some 16,none,.mv (.t 15)⟩,⟨(some 17),(some ⟨(some 16),false⟩),(.fa 0 (.t 5))⟩,⟨(some 18),(some ⟨(some 16),false⟩),(.load 5 true (.t 17))⟩,⟨(some 19),(some ⟨(some 16),false⟩),(.call false 73 [(.t 18)])⟩,⟨(some 20),(some ⟨(some 16),false⟩),(.no (.t 19))⟩,⟨some 21,none,.pick (.t 16) (.k (.one (.f (.bool true)))) (.t 20)⟩,⟨some 22,none,.mv (.t 21)⟩,⟨(some 23),(some ⟨(some 22),false⟩),(.fa 6 (.t 5))⟩,⟨(some 24),(some ⟨(some 22),false⟩),(.load 1 false (.t 23))⟩,⟨(some 25),(some ⟨(some 22),false⟩),(.cmp .lt (.t 24) (.k (.one (.f (.int .i64 1)))))⟩,⟨some 26,none,.pick (.t 22) (.k (.one (.f (.bool true)))) (.t 25)⟩,⟨some 27,none,.mv (.t 26)⟩,⟨(some 28),(some ⟨(some 27),false⟩),(.fa 6 (.t 5))⟩,⟨(some 29),(some ⟨(some 27),false⟩),(.load 1 false (.t 28))⟩,⟨(some 30),(some ⟨(some 27),false⟩),(.cmp .gt (.t 29) (.k (.one (.f (.int .i64 5)))))⟩,⟨some 31,none,.pick (.t 27) (.k (.one (.f (.bool true)))) (.t 30)⟩] [0,1,5,31]) (.cond (.t 31) (.seq (.reg [⟨some 6,none,.mv (.k (.one (.f (.int .i64 1))))⟩] [6]) .ret) .skip)) (.seq (.seq (.reg [⟨some 32,none,.mv (.t 1)⟩,⟨some 33,none,.fa 5 (.t 5)⟩,⟨some 34,none,.load 1 false (.t 33)⟩,⟨some 35,none,.call false 68 [(.t 32),(.t 34)]⟩,⟨some 36,none,.no (.t 35)⟩] [0,1,5,36]) (.cond (.t 36) (.seq (.reg [⟨some 6,none,.mv (.k (.one (.f (.int .i64 14))))⟩] [6]) .ret) .skip)) (.seq (.uq [⟨⟨some 38,none,.mv (.t 0)⟩,[160000]⟩,⟨⟨some 39,none,.kY (.t 38)⟩,[160000]⟩,⟨⟨some 40,none,.fa 1 (.t 39)⟩,[160000]⟩,⟨⟨some 41,none,.load 1 false (.t 40)⟩,[160000]⟩,⟨⟨some 42,none,.fa 0 (.t 5)⟩,[160000]⟩,⟨⟨some 43,none,.fa 0 (.t 42)⟩,[160000]⟩,⟨⟨some 44,none,.load 3 true (.t 43)⟩,[160000]⟩,⟨⟨(some 45),none,(.look (.agg [.str,(.int .i64),(.int .i64)]) (.agg [(.str ⟨#[]⟩),(.int .i64 0),(.int .i64 0),(.sl []),(.int .i64 0),(.int .i64 0),(.int .i64 0)]) true (.t 41) (.t 44))⟩,[160000]⟩,⟨⟨some 37,none,.mv (.t 45)⟩,[160000]⟩,⟨⟨some 46,none,.ext (.t 37) 0⟩,[160000]⟩,⟨⟨some 47,none,.ext (.t 37) 1⟩,[160000]⟩,⟨⟨(some 7),none,(.alloc 46 [(.f (.str ⟨#[]⟩)),(.f (.int .i64 0)),(.f (.int .i64 0)),.fF,(.f (.int .i64 0)),(.f (.int .i64 0)),(.f (.int .i64 0))])⟩,[]⟩] [10] [⟨none,none,(.store 7 (.t 7) (.t 46))⟩] [⟨some 8,none,.mv (.t 47)⟩] [1,5,7,8]) (.seq (.seq (.uq [⟨⟨some 48,none,.mv (.t 8)⟩,[]⟩,⟨⟨some 49,none,.mv (.t 48)⟩,[]⟩,⟨⟨(some 50),(some ⟨(some 49),true⟩),(.fa 6 (.t 7))⟩,[]⟩,⟨⟨(some 51),(some ⟨(some 49),true⟩),(.load 1 false (.t 50))⟩,[]⟩,⟨⟨(some 52),(some ⟨(some 49),true⟩),(.mv (.t 1))⟩,[]⟩,⟨⟨(some 53),(some ⟨(some 49),true⟩),(.fa 5 (.t 7))⟩,[]⟩,⟨⟨(some 54),(some ⟨(some 49),true⟩),(.load 1 false (.t 53))⟩,[]⟩,⟨⟨(some 55),(some ⟨(some 49),true⟩),(.call false 68 [(.t 52),(.t 54)])⟩,[]⟩,⟨⟨(some 56),(some ⟨(some 49),true⟩),(.fa 6 (.t 5))⟩,[]⟩,⟨⟨(some 57),(some ⟨(some 49),true⟩),(.load 1 false (.t 56))⟩,[]⟩] [] [] [⟨(some 58),(some ⟨(some 49),true⟩),(.call false 87 [(.t 51),(.t 55),(.t 57)])⟩,⟨(some 59),(some ⟨(some 49),true⟩),(.no (.t 58))⟩,⟨some 60,none,.pick (.t 49) (.t 59) (.k (.one (.f (.bool false))))⟩] [60]) (.cond (.t 60) (.seq (.reg [⟨some 6,none,.mv (.k (.one (.f (.int .i64 10))))⟩] [6]) .ret) .skip)) (.seq (.reg [⟨some 6,none,.mv (.k (.one (.f (.int .i64 0))))⟩] [6]) .ret))))))⟩
def c65 : CF:=⟨1,[(.cell 2 7 true)],[],[],(.seq (.reg [⟨some 1,none,.box 46 (.t 0)⟩,⟨(some 2),none,(.alloc 46 [(.f (.str ⟨#[]⟩)),(.f (.int .i64 0)),(.f (.int .i64 0)),.fF,(.f (.int .i64 0)),(.f (.int .i64 0)),(.f (.int .i64 0))])⟩] [1,2]) (.seq (.reg [⟨some 3,none,.fa 0 (.t 1)⟩,⟨some 4,none,.fa 3 (.t 3)⟩,⟨some 5,none,.load 1 false (.t 4)⟩,⟨some 6,none,.call false 88 [(.t 5)]⟩,⟨some 7,none,.fa 0 (.t 1)⟩,⟨some 8,none,.fa 3 (.t 7)⟩,⟨none,none,(.store 1 (.t 8) (.t 6))⟩] [1,2]) (.seq (.reg [⟨some 9,none,.load 7 true (.t 1)⟩,⟨none,none,(.store 7 (.t 2) (.t 9))⟩] [2]) .ret)))⟩
def c66 : CF:=⟨2,[(.t 4),(.t 5)],[],[],(.seq (.reg [⟨some 4,none,.mv (.k (.one .fF))⟩,⟨some 5,none,.mv (.k (.one .fF))⟩] [0,1]) (.seq (.reg [⟨some 7,none,.mv (.t 0)⟩,⟨some 8,none,.jH (.t 7)⟩,⟨some 9,none,.mv (.t 1)⟩,⟨some 10,none,.mv (.t 0)⟩,⟨some 11,none,.jH (.t 10)⟩,⟨some 12,none,.mn (.t 9) (.t 11)⟩,⟨some 13,none,.mx (.t 12) (.k (.one (.f (.int .i64 0))))⟩,⟨some 14,none,.ar .sub (.t 8) (.t 13)⟩,⟨some 6,none,.mv (.t 14)⟩] [0,6]) (.seq (.uq [⟨⟨some 15,none,.mv (.t 0)⟩,[]⟩,⟨⟨some 16,none,.mv (.t 6)⟩,[]⟩,⟨⟨some 17,none,.cut 3 (.t 15) (some (.t 16)) none⟩,[]⟩,⟨⟨some 18,none,.call false 70 [(.t 17)]⟩,[]⟩,⟨⟨some 19,none,.mv (.t 0)⟩,[]⟩,⟨⟨some 20,none,.mv (.t 6)⟩,[]⟩,⟨⟨some 21,none,.cut 3 (.t 19) none (some (.t 20))⟩,[]⟩] [] [] [⟨some 22,none,.call false 70 [(.t 21)]⟩,⟨some 4,none,.mv (.t 18)⟩,⟨some 5,none,.mv (.t 22)⟩] [4,5]) .ret)))⟩
def c67 : CF:=⟨2,[(.t 4)],[],[],(.seq (.reg [⟨some 3,none,.box 32 (.t 1)⟩,⟨some 4,none,.mv (.k (.one .fF))⟩] [0,3]) (.seq (.uq [⟨⟨some 5,none,.mv (.t 0)⟩,[160000,200000]⟩,⟨⟨some 6,none,.load 3 true (.t 3)⟩,[160000,200000]⟩,⟨⟨some 7,none,.yQ 69 [(.t 5),(.t 6)]⟩,[200000]⟩,⟨⟨some 8,none,.load 3 true (.t 3)⟩,[160000,200000]⟩,⟨⟨(some 9),none,(.FP 32 3 1 [(.f (.str ⟨#[]⟩)),(.f (.int .i64 0)),(.f (.int .i64 0))] [⟨0,⟨3,(.t 8)⟩⟩])⟩,[160000]⟩] [] [] [⟨some 10,none,.app 32 3 32 (.t 7) (.t 9)⟩,⟨some 4,none,.mv (.t 10)⟩] [4]) .ret))⟩
def c68 : CF:=⟨2,[(.t 4)],[],[],(.seq (.reg [⟨some 4,none,.mv (.k (.one (.f (.bool false))))⟩] [0,1]) (.seq (.reg [⟨some 5,none,.mv (.t 0)⟩,⟨some 6,none,.call false 86 [(.t 5),(.k (.one (.f (.int .i64 1099511627776))))]⟩,⟨some 7,none,.mv (.t 6)⟩,⟨(some 8),(some ⟨(some 7),true⟩),(.mv (.t 0))⟩,⟨(some 9),(some ⟨(some 7),true⟩),(.mv (.t 1))⟩,⟨(some 10),(some ⟨(some 7),true⟩),(.cmp .lt (.t 8) (.t 9))⟩,⟨some 11,none,.pick (.t 7) (.t 10) (.k (.one (.f (.bool false))))⟩,⟨some 4,none,.mv (.t 11)⟩] [4]) .ret))⟩
def c69 : CF:=⟨2,[(.t 4)],[some 3],[],(.seq (.reg [⟨some 3,none,.box 32 (.t 1)⟩,⟨some 4,none,.mv (.k (.one .fF))⟩] [0,3]) (.seq (.reg [⟨some 5,none,.mv (.t 0)⟩,⟨some 6,none,.call false 70 [(.t 5)]⟩,⟨some 7,none,.RH 90 [(.t 3)]⟩,⟨some 8,none,.call true 89 [(.t 6),(.t 7)]⟩,⟨some 4,none,.mv (.t 8)⟩] [4]) .ret))⟩
def c71 : CF:=⟨2,[(.t 4)],[],[],(.seq (.reg [⟨some 4,none,.mv (.k (.one (.f (.bool false))))⟩] [0,1]) (.seq (.seq (.reg [⟨some 6,none,.mv (.t 0)⟩,⟨some 7,none,.jH (.t 6)⟩,⟨some 8,none,.mv (.t 1)⟩,⟨some 9,none,.jH (.t 8)⟩,⟨some 10,none,.cmp .ne (.t 7) (.t 9)⟩] [0,1,10]) (.cond (.t 10) (.seq (.reg [⟨some 4,none,.mv (.k (.one (.f (.bool false))))⟩] [4]) .ret) .skip)) (.seq (.seq (.reg [⟨some 5,none,.mv (.k (.one (.f (.int .i64 0))))⟩] [0,1,5]) (.block 0 (.loop [0,1,5] [20202,40202] [] (.seq (.seq (.reg [⟨some 11,none,.mv (.t 5)⟩,⟨some 12,none,.mv (.t 0)⟩,⟨some 13,none,.jH (.t 12)⟩,⟨some 14,none,.cmp .lt (.t 11) (.t 13)⟩] [0,1,5,14]) (.cond (.t 14) .skip (.exit 0))) (.seq (.block 1 (.seq (.uq [⟨⟨some 17,none,.mv (.t 0)⟩,[]⟩,⟨⟨some 18,none,.mv (.t 5)⟩,[]⟩,⟨⟨some 19,none,.ia 1 (.t 17) (.t 18)⟩,[]⟩,⟨⟨some 20,none,.load 1 false (.t 19)⟩,[]⟩,⟨⟨some 21,none,.mv (.t 1)⟩,[]⟩,⟨⟨some 22,none,.mv (.t 5)⟩,[]⟩,⟨⟨some 23,none,.ia 1 (.t 21) (.t 22)⟩,[]⟩,⟨⟨some 24,none,.load 1 false (.t 23)⟩,[]⟩] [] [] [⟨some 25,none,.uy (.one .str) true (.t 20) (.t 24)⟩] [0,1,5,25]) (.cond (.t 25) (.seq (.reg [⟨some 4,none,.mv (.k (.one (.f (.bool false))))⟩] [4]) .ret) .skip))) (.reg [⟨some 15,none,.mv (.t 5)⟩,⟨some 16,none,.ar .add (.t 15) (.k (.one (.f (.int .i64 1))))⟩,⟨some 5,none,.mv (.t 16)⟩] [0,1,5])))))) (.seq (.reg [⟨some 4,none,.mv (.k (.one (.f (.bool true))))⟩] [4]) .ret))))⟩
def c73 : CF:=⟨1,[(.t 2)],[],[],(.seq (.reg [⟨some 1,none,.box 35 (.t 0)⟩,⟨some 2,none,.mv (.k (.one (.f (.bool false))))⟩] [1]) (.seq (.reg [⟨some 6,none,.fa 0 (.t 1)⟩,⟨some 7,none,.load 3 true (.t 6)⟩,⟨(some 3),none,(.alloc 32 [(.f (.str ⟨#[]⟩)),(.f (.int .i64 0)),(.f (.int .i64 0))])⟩,⟨none,none,(.store 3 (.t 3) (.t 7))⟩] [1,3]) (.seq (.seq (.uq [⟨⟨some 8,none,.fa 0 (.t 3)⟩,[]⟩,⟨⟨some 9,none,.load 1 false (.t 8)⟩,[]⟩,⟨⟨some 10,none,.call false 91 [(.t 9)]⟩,[]⟩,⟨⟨some 11,none,.no (.t 10)⟩,[]⟩,⟨⟨some 12,none,.mv (.t 11)⟩,[]⟩,⟨⟨(some 13),(some ⟨(some 12),false⟩),(.fa 0 (.t 3))⟩,[]⟩,⟨⟨(some 14),(some ⟨(some 12),false⟩),(.load 1 false (.t 13))⟩,[]⟩,⟨⟨(some 15),(some ⟨(some 12),false⟩),(.call false 92 [(.t 14)])⟩,[]⟩,⟨⟨(some 16),(some ⟨(some 12),false⟩),(.fa 0 (.t 3))⟩,[]⟩,⟨⟨(some 17),(some ⟨(some 12),false⟩),(.load 1 false (.t 16))⟩,[]⟩] [] [] [⟨(some 18),(some ⟨(some 12),false⟩),(.uy (.one .str) true (.t 15) (.t 17))⟩,⟨some 19,none,.pick (.t 12) (.k (.one (.f (.bool true)))) (.t 18)⟩,⟨some 20,none,.mv (.t 19)⟩,⟨(some 21),(some ⟨(some 20),false⟩),(.fa 1 (.t 3))⟩,⟨(some 22),(some ⟨(some 20),false⟩),(.load 1 false (.t 21))⟩,⟨(some 23),(some ⟨(some 20),false⟩),(.call false 93 [(.t 22),(.k (.one (.f (.int .i64 65535))))])⟩,⟨(some 24),(some ⟨(some 20),false⟩),(.no (.t 23))⟩,⟨some 25,none,.pick (.t 20) (.k (.one (.f (.bool true)))) (.t 24)⟩,⟨some 26,none,.mv (.t 25)⟩,⟨(some 27),(some ⟨(some 26),false⟩),(.fa 2 (.t 3))⟩,⟨(some 28),(some ⟨(some 26),false⟩),(.load 1 false (.t 27))⟩,⟨(some 29),(some ⟨(some 26),false⟩),(.call false 93 [(.t 28),(.k (.one (.f (.int .i64 65535))))])⟩,⟨(some 30),(some ⟨(some 26),false⟩),(.no (.t 29))⟩,⟨some 31,none,.pick (.t 26) (.k (.one (.f (.bool true)))) (.t 30)⟩,⟨some 32,none,.mv (.t 31)⟩,⟨(some 33),(some ⟨(some 32),false⟩),(.fa 4 (.t 1))⟩,⟨(some 34),(some ⟨(some 32),false⟩),(.load 1 false (.t 33))⟩,⟨(some 35),(some ⟨(some 32),false⟩),(.call false 93 [(.t 34),(.k (.one (.f (.int .i64 2147483647))))])⟩,⟨(some 36),(some ⟨(some 32),false⟩),(.no (.t 35))⟩,⟨some 37,none,.pick (.t 32) (.k (.one (.f (.bool true)))) (.t 36)⟩] [1,3,37]) (.cond (.t 37) (.seq (.reg [⟨some 2,none,.mv (.k (.one (.f (.bool false))))⟩] [2]) .ret) .skip)) (.seq (.seq (.reg [⟨some 38,none,.fa 3 (.t 1)⟩,⟨some 39,none,.load 1 false (.t 38)⟩,⟨some 40,none,.jH (.t 39)⟩,⟨some 41,none,.mv (.k (.one (.f (.int .i64 0))))⟩] [1,3,39,40,41]) (.block 0 (.loop [1,3,39,40,41] [20802,40000,80000] [] (.seq (.reg [⟨some 42,none,.cmp .lt (.t 41) (.t 40)⟩] [1,3,39,40,41,42]) (.seq (.cond (.t 42) .skip (.exit 0)) (.seq (.block 1 (.seq (.reg [⟨some 43,none,.mv (.t 41)⟩,⟨some 44,none,.ia 1 (.t 39) (.t 41)⟩,⟨some 45,none,.load 1 false (.t 44)⟩,⟨some 4,none,.mv (.t 43)⟩,⟨some 5,none,.mv (.t 45)⟩] [1,3,4,5,39,40,41]) (.seq (.reg [⟨some 46,none,.fa 1 (.t 3)⟩,⟨some 47,none,.load 1 false (.t 46)⟩,⟨some 48,none,.mv (.t 5)⟩,⟨some 49,none,.call false 94 [(.t 47),(.t 48)]⟩,⟨some 50,none,.no (.t 49)⟩,⟨some 51,none,.mv (.t 50)⟩,⟨(some 52),(some ⟨(some 51),false⟩),(.fa 1 (.t 3))⟩,⟨(some 53),(some ⟨(some 51),false⟩),(.load 1 false (.t 52))⟩,⟨(some 54),(some ⟨(some 51),false⟩),(.mv (.t 5))⟩,⟨(some 55),(some ⟨(some 51),false⟩),(.call false 95 [(.t 53),(.t 54)])⟩,⟨(some 56),(some ⟨(some 51),false⟩),(.mv (.t 5))⟩,⟨(some 57),(some ⟨(some 51),false⟩),(.uy (.one .str) true (.t 55) (.t 56))⟩,⟨some 58,none,.pick (.t 51) (.k (.one (.f (.bool true)))) (.t 57)⟩,⟨some 59,none,.mv (.t 58)⟩,⟨(some 60),(some ⟨(some 59),false⟩),(.fa 3 (.t 1))⟩,⟨(some 61),(some ⟨(some 59),false⟩),(.load 1 false (.t 60))⟩,⟨(some 62),(some ⟨(some 59),false⟩),(.mv (.t 4))⟩,⟨(some 63),(some ⟨(some 59),false⟩),(.cut 1 (.t 61) none (some (.t 62)))⟩,⟨(some 64),(some ⟨(some 59),false⟩),(.mv (.t 5))⟩,⟨(some 65),(some ⟨(some 59),false⟩),(.call false 96 [(.t 63),(.t 64)])⟩,⟨some 66,none,.pick (.t 59) (.k (.one (.f (.bool true)))) (.t 65)⟩] [1,3,39,40,41,66]) (.cond (.t 66) (.seq (.reg [⟨some 2,none,.mv (.k (.one (.f (.bool false))))⟩] [2]) .ret) .skip)))) (.reg [⟨some 67,none,.ar .add (.t 41) (.k (.one (.f (.int .i64 1))))⟩,⟨some 41,none,.mv (.t 67)⟩] [1,3,39,40,41]))))))) (.seq (.reg [⟨some 68,none,.fa 3 (.t 1)⟩,⟨some 69,none,.load 1 false (.t 68)⟩,⟨some 70,none,.jH (.t 69)⟩,⟨some 71,none,.cmp .gt (.t 70) (.k (.one (.f (.int .i64 0))))⟩,⟨some 2,none,.mv (.t 71)⟩] [2]) .ret)))))⟩
def c86 : CF:=⟨2,[(.t 4)],[],[],(.seq (.reg [⟨some 4,none,.mv (.k (.one (.f (.bool false))))⟩] [0,1]) (.seq (.reg [⟨some 5,none,.mv (.t 0)⟩,⟨some 6,none,.cmp .ge (.t 5) (.k (.one (.f (.int .i64 0))))⟩,⟨some 7,none,.mv (.t 6)⟩,⟨(some 8),(some ⟨(some 7),true⟩),(.mv (.t 0))⟩,⟨(some 9),(some ⟨(some 7),true⟩),(.mv (.t 1))⟩,⟨(some 10),(some ⟨(some 7),true⟩),(.cmp .le (.t 8) (.t 9))⟩,⟨some 11,none,.pick (.t 7) (.t 10) (.k (.one (.f (.bool false))))⟩,⟨some 4,none,.mv (.t 11)⟩] [4]) .ret))⟩
def c87 : CF:=⟨3,[(.t 6)],[],[],(.seq (.reg [⟨some 6,none,.mv (.k (.one (.f (.bool false))))⟩] [0,1,2]) (.seq (.reg [⟨some 7,none,.mv (.t 2)⟩,⟨some 8,none,.call false 107 [(.t 7),(.k (.one (.f (.int .i64 1))))]⟩,⟨some 9,none,.mv (.t 8)⟩,⟨(some 10),(some ⟨(some 9),true⟩),(.mv (.t 1))⟩,⟨(some 11),(some ⟨(some 9),true⟩),(.no (.t 10))⟩,⟨(some 12),(some ⟨(some 9),true⟩),(.mv (.t 11))⟩,⟨(some 13),(some ⟨(some 12),false⟩),(.mv (.t 2))⟩,⟨(some 14),(some ⟨(some 12),false⟩),(.mv (.t 0))⟩,⟨(some 15),(some ⟨(some 12),false⟩),(.cmp .ge (.t 13) (.t 14))⟩,⟨(some 16),(some ⟨(some 9),true⟩),(.pick (.t 12) (.k (.one (.f (.bool true)))) (.t 15))⟩,⟨some 17,none,.pick (.t 9) (.t 16) (.k (.one (.f (.bool false))))⟩,⟨some 6,none,.mv (.t 17)⟩] [6]) .ret))⟩
def c89 : CF:=⟨2,[(.t 4)],[some 3],[],(.seq (.reg [⟨some 4,none,.mv (.k (.one .fF))⟩] [0,1]) (.seq (.reg [⟨some 8,none,.mv (.t 0)⟩,⟨some 9,none,.mv (.t 1)⟩,⟨some 10,none,.call false 108 [(.t 8),(.t 9)]⟩,⟨some 5,none,.mv (.t 10)⟩] [0,1,5]) (.seq (.seq (.reg [⟨some 11,none,.mv (.t 5)⟩,⟨some 12,none,.cmp .eq (.t 11) (.k (.one (.f (.int .i64 (-1)))))⟩] [0,1,5,12]) (.cond (.t 12) (.seq (.reg [⟨some 13,none,.mv (.t 0)⟩,⟨some 4,none,.mv (.t 13)⟩] [4]) .ret) .skip)) (.seq (.seq (.reg [⟨some 14,none,.mv (.t 5)⟩,⟨some 15,none,.ar .add (.t 14) (.k (.one (.f (.int .i64 1))))⟩,⟨some 6,none,.mv (.t 15)⟩] [0,1,5,6]) (.block 0 (.loop [0,1,5,6] [20202] [] (.seq (.seq (.reg [⟨some 16,none,.mv (.t 6)⟩,⟨some 17,none,.mv (.t 0)⟩,⟨some 18,none,.jH (.t 17)⟩,⟨some 19,none,.cmp .lt (.t 16) (.t 18)⟩] [0,1,5,6,19]) (.cond (.t 19) .skip (.exit 0))) (.seq (.block 1 (.seq (.reg [⟨some 22,none,.mv (.t 0)⟩,⟨some 23,none,.mv (.t 6)⟩,⟨some 24,none,.ia 3 (.t 22) (.t 23)⟩,⟨some 25,none,.load 3 true (.t 24)⟩,⟨(some 7),none,(.alloc 32 [(.f (.str ⟨#[]⟩)),(.f (.int .i64 0)),(.f (.int .i64 0))])⟩,⟨none,none,(.store 3 (.t 7) (.t 25))⟩] [0,1,5,6,7]) (.seq (.reg [⟨some 26,none,.mv (.t 1)⟩,⟨some 27,none,.load 3 true (.t 7)⟩,⟨some 28,none,.dyn (.t 26) [(.t 27)]⟩,⟨some 29,none,.no (.t 28)⟩] [0,1,5,6,7,29]) (.cond (.t 29) (.seq (.reg [⟨some 30,none,.mv (.t 0)⟩,⟨some 31,none,.mv (.t 5)⟩,⟨some 32,none,.load 3 true (.t 7)⟩,⟨some 33,none,.ia 3 (.t 30) (.t 31)⟩,⟨none,none,(.store 3 (.t 33) (.t 32))⟩] [0,1,5,6]) (.reg [⟨some 34,none,.mv (.t 5)⟩,⟨some 35,none,.ar .add (.t 34) (.k (.one (.f (.int .i64 1))))⟩,⟨some 5,none,.mv (.t 35)⟩] [0,1,5,6])) .skip)))) (.reg [⟨some 20,none,.mv (.t 6)⟩,⟨some 21,none,.ar .add (.t 20) (.k (.one (.f (.int .i64 1))))⟩,⟨some 6,none,.mv (.t 21)⟩] [0,1,5,6])))))) (.seq (.reg [⟨some 36,none,.mv (.t 0)⟩,⟨some 37,none,.mv (.t 5)⟩,⟨some 38,none,.cutV 3 (.t 36) (.t 37)⟩,⟨none,none,(.Qo 3 [(.str ⟨#[]⟩),(.int .i64 0),(.int .i64 0)] (.t 38))⟩] [0,5]) (.seq (.reg [⟨some 39,none,.mv (.t 0)⟩,⟨some 40,none,.mv (.t 5)⟩,⟨some 41,none,.Es 3 (.t 39) (.t 40)⟩,⟨some 4,none,.mv (.t 41)⟩] [4]) .ret))))))⟩
def c90 : CF:=⟨2,[(.t 3)],[none],[],(.seq (.reg [⟨some 2,none,.box 32 (.t 0)⟩,⟨some 3,none,.mv (.k (.one (.f (.bool false))))⟩] [1,2]) (.seq (.reg [⟨some 4,none,.load 3 true (.t 2)⟩,⟨some 5,none,.load 3 true (.t 1)⟩,⟨some 6,none,.uy (.agg [.str,(.int .i64),(.int .i64)]) false (.t 4) (.t 5)⟩,⟨some 3,none,.mv (.t 6)⟩] [3]) .ret))⟩
def c93 : CF:=⟨2,[(.t 4)],[],[],(.seq (.reg [⟨some 4,none,.mv (.k (.one (.f (.bool false))))⟩] [0,1]) (.seq (.reg [⟨some 5,none,.mv (.t 0)⟩,⟨some 6,none,.cmp .ge (.t 5) (.k (.one (.f (.int .i64 0))))⟩,⟨some 7,none,.mv (.t 6)⟩,⟨(some 8),(some ⟨(some 7),true⟩),(.mv (.t 0))⟩,⟨(some 9),(some ⟨(some 7),true⟩),(.mv (.t 1))⟩,⟨(some 10),(some ⟨(some 7),true⟩),(.cmp .le (.t 8) (.t 9))⟩,⟨some 11,none,.pick (.t 7) (.t 10) (.k (.one (.f (.bool false))))⟩,⟨some 4,none,.mv (.t 11)⟩] [4]) .ret))⟩
def c96 : CF:=⟨2,[(.t 4)],[],[],(.seq (.reg [⟨some 4,none,.mv (.k (.one (.f (.bool false))))⟩] [0,1]) (.seq (.reg [⟨some 5,none,.mv (.t 0)⟩,⟨some 6,none,.mv (.t 1)⟩,⟨some 7,none,.call false 114 [(.t 5),(.t 6)]⟩,⟨some 8,none,.cmp .ge (.t 7) (.k (.one (.f (.int .i64 0))))⟩,⟨some 4,none,.mv (.t 8)⟩] [4]) .ret))⟩
def c107 : CF:=⟨2,[(.t 4)],[],[],(.seq (.reg [⟨some 4,none,.mv (.k (.one (.f (.bool false))))⟩] [0,1]) (.seq (.reg [⟨some 5,none,.mv (.t 0)⟩,⟨some 6,none,.mv (.t 1)⟩,⟨some 7,none,.cmp .ge (.t 5) (.t 6)⟩,⟨some 8,none,.mv (.t 7)⟩,⟨(some 9),(some ⟨(some 8),true⟩),(.mv (.t 0))⟩,⟨(some 10),(some ⟨(some 8),true⟩),(.cmp .le (.t 9) (.k (.one (.f (.int .i64 5)))))⟩,⟨some 11,none,.pick (.t 8) (.t 10) (.k (.one (.f (.bool false))))⟩,⟨some 4,none,.mv (.t 11)⟩] [4]) .ret))⟩
def NQ : CF:=⟨2,[(.t 4)],[],[],(.seq (.reg [⟨some 4,none,.mv (.k (.one (.f (.int .i64 0))))⟩] [0,1]) (.seq (.seq (.reg [⟨some 6,none,.mv (.t 0)⟩,⟨some 7,none,.jH (.t 6)⟩,⟨some 8,none,.mv (.k (.one (.f (.int .i64 0))))⟩] [0,1,7,8]) (.block 0 (.loop [0,1,7,8] [20202] [] (.seq (.reg [⟨some 9,none,.cmp .lt (.t 8) (.t 7)⟩] [0,1,7,8,9]) (.seq (.cond (.t 9) .skip (.exit 0)) (.seq (.block 1 (.seq (.reg [⟨some 10,none,.mv (.t 8)⟩,⟨some 5,none,.mv (.t 10)⟩] [0,1,5,7,8]) (.seq (.reg [⟨some 11,none,.mv (.t 1)⟩,⟨some 12,none,.mv (.t 0)⟩,⟨some 13,none,.mv (.t 5)⟩,⟨some 14,none,.ia 3 (.t 12) (.t 13)⟩,⟨some 15,none,.load 3 true (.t 14)⟩,⟨some 16,none,.dyn (.t 11) [(.t 15)]⟩] [0,1,5,7,8,16]) (.cond (.t 16) (.seq (.reg [⟨some 17,none,.mv (.t 5)⟩,⟨some 4,none,.mv (.t 17)⟩] [4]) .ret) .skip)))) (.reg [⟨some 18,none,.ar .add (.t 8) (.k (.one (.f (.int .i64 1))))⟩,⟨some 8,none,.mv (.t 18)⟩] [0,1,7,8]))))))) (.seq (.reg [⟨some 4,none,.mv (.k (.one (.f (.int .i64 (-1)))))⟩] [4]) .ret)))⟩
def NR : CF:=⟨2,[(.t 4)],[],[],(.seq (.reg [⟨some 4,none,.mv (.k (.one (.f (.int .i64 0))))⟩] [0,1]) (.seq (.seq (.reg [⟨some 6,none,.mv (.t 0)⟩,⟨some 7,none,.jH (.t 6)⟩,⟨some 8,none,.mv (.k (.one (.f (.int .i64 0))))⟩] [0,1,7,8]) (.block 0 (.loop [0,1,7,8] [20202] [] (.seq (.reg [⟨some 9,none,.cmp .lt (.t 8) (.t 7)⟩] [0,1,7,8,9]) (.seq (.cond (.t 9) .skip (.exit 0)) (.seq (.block 1 (.seq (.reg [⟨some 10,none,.mv (.t 8)⟩,⟨some 5,none,.mv (.t 10)⟩] [0,1,5,7,8]) (.seq (.reg [⟨some 11,none,.mv (.t 1)⟩,⟨some 12,none,.mv (.t 0)⟩,⟨some 13,none,.mv (.t 5)⟩,⟨some 14,none,.ia 1 (.t 12) (.t 13)⟩,⟨some 15,none,.load 1 false (.t 14)⟩,⟨some 16,none,.uy (.one .str) false (.t 11) (.t 15)⟩] [0,1,5,7,8,16]) (.cond (.t 16) (.seq (.reg [⟨some 17,none,.mv (.t 5)⟩,⟨some 4,none,.mv (.t 17)⟩] [4]) .ret) .skip)))) (.reg [⟨some 18,none,.ar .add (.t 8) (.k (.one (.f (.int .i64 1))))⟩,⟨some 8,none,.mv (.t 18)⟩] [0,1,7,8]))))))) (.seq (.reg [⟨some 4,none,.mv (.k (.one (.f (.int .i64 (-1)))))⟩] [4]) .ret)))⟩
def xD : List (FuncId × CF):=[(3,c3),(4,c4),(5,c5),(6,c6),(7,c7),(8,c8),(14,c14),(15,c15),(16,c16),(17,c17),(20,c20),(21,c21),(22,Er),(25,MO),(27,X3),(29,Ir),(31,c31),(32,c32),(33,KI),(34,c34),(35,c35),(62,c62),(64,c64),(65,c65),(66,c66),(67,c67),(68,c68),(69,c69),(71,c71),(73,c73),(86,c86),(87,c87),(89,c89),(90,c90),(93,c93),(96,c96),(107,c107),(108,NQ),(114,NR)]
end Go.Proofs.Ytdkkgecdhapfhaa.Ka
namespace Go.Proofs.Ytdkkgecdhapfhaa.Ka
open Go Ev
variable {ext : Env} {F n:Nat}
noncomputable abbrev G (ext:Env) (F n:Nat):Env:=Gm xD ext F n
theorem KJ {x:Int} (h1:-9223372036854775808 ≤ x) (h2:x ≤ 9223372036854775807):IntKind.i64.wrap x = x:=by
  rw [IntKind.wrap_i64];omega
abbrev vi (x:Int):AV:=.one (.f (.int .i64 x))
abbrev vb (b:Bool):AV:=.one (.f (.bool b))
abbrev vs (s:ByteArray):AV:=.one (.f (.str s))
abbrev vl (l:List (List FV)):AV:=.one (.f (.sl l))
def gB (s:ByteArray):List FV:=[.str s]
abbrev vq (q:ByteArray) (t c:Int):AV:=.agg [.f (.str q),.f (.int .i64 t),.f (.int .i64 c)]
abbrev xG (q:ByteArray) (t c:Int) (d:List ByteArray) (ttl:Int):AV:=.agg [.f (.str q),.f (.int .i64 t),.f (.int .i64 c),.f (.sl (d.map gB)),.f (.int .i64 ttl)]
theorem Q8 (x m:Int):G ext F (n + 1) 93 [vi x,vi m] = some ([vb (decide (0 ≤ x ∧ x ≤ m))],[vi x,vi m]):=by
  refine gU (cf:=c93) rfl ?_
  simp only [c93,go_sem,Nat.reduceAdd,Nat.reduceMul,Nat.reduceEqDiff,Nat.reduceBEq,Nat.reduceMod,Nat.reduceDiv,↓reduceIte,reduceCtorEq]
  repeat' (refine cu (fun h=>?_) (fun h=>?_) <;> simp only [h,go_sem,Nat.reduceAdd,Nat.reduceMul,Nat.reduceEqDiff,Nat.reduceBEq,Nat.reduceMod,Nat.reduceDiv,↓reduceIte,reduceCtorEq])
  all_goals (simp only [decide_eq_true_eq,decide_eq_false_iff_not] at *;simp;try omega)
theorem pJ (x m:Int):G ext F (n + 1) 86 [vi x,vi m] = some ([vb (decide (0 ≤ x ∧ x ≤ m))],[vi x,vi m]):=by
  refine gU (cf:=c86) rfl ?_
  simp only [c86,go_sem,Nat.reduceAdd,Nat.reduceMul,Nat.reduceEqDiff,Nat.reduceBEq,Nat.reduceMod,Nat.reduceDiv,↓reduceIte,reduceCtorEq]
  repeat' (refine cu (fun h=>?_) (fun h=>?_) <;> simp only [h,go_sem,Nat.reduceAdd,Nat.reduceMul,Nat.reduceEqDiff,Nat.reduceBEq,Nat.reduceMod,Nat.reduceDiv,↓reduceIte,reduceCtorEq])
  all_goals (simp only [decide_eq_true_eq,decide_eq_false_iff_not] at *;simp;try omega)
theorem KL (x m:Int):G ext F (n + 1) 107 [vi x,vi m] = some ([vb (decide (m ≤ x ∧ x ≤ 5))],[vi x,vi m]):=by
  refine gU (cf:=c107) rfl ?_
  simp only [c107,go_sem,Nat.reduceAdd,Nat.reduceMul,Nat.reduceEqDiff,Nat.reduceBEq,Nat.reduceMod,Nat.reduceDiv,↓reduceIte,reduceCtorEq]
  repeat' (refine cu (fun h=>?_) (fun h=>?_) <;> simp only [h,go_sem,Nat.reduceAdd,Nat.reduceMul,Nat.reduceEqDiff,Nat.reduceBEq,Nat.reduceMod,Nat.reduceDiv,↓reduceIte,reduceCtorEq])
  all_goals (simp only [decide_eq_true_eq,decide_eq_false_iff_not] at *;simp;try omega)
def Ck (x:Int):Bool:=decide (0 ≤ x ∧ x ≤ 1099511627776)
def dD (now ttl:Int):Int:=if Ck now = true ∧ 0 ≤ ttl then now + (if ttl ≤ 604800 then ttl else 604800) else -1
def fU (now u:Int):Bool:=Ck now && decide (now < u)
def mH (old:Int) (l:Bool) (now:Int):Bool:=decide (1 ≤ now ∧ now ≤ 5) && (!l || decide (old ≤ now))
theorem sK (x u:Int):G ext F (n + 2) 68 [vi x,vi u] = some ([vb (fU x u)],[vi x,vi u]):=by
  refine gU (cf:=c68) rfl ?_
  simp only [c68,pJ,go_sem,Nat.reduceAdd,Nat.reduceMul,Nat.reduceEqDiff,Nat.reduceBEq,Nat.reduceMod,Nat.reduceDiv,↓reduceIte,reduceCtorEq]
  repeat' (refine cu (fun h=>?_) (fun h=>?_) <;> simp only [h,pJ,go_sem,Nat.reduceAdd,Nat.reduceMul,Nat.reduceEqDiff,Nat.reduceBEq,Nat.reduceMod,Nat.reduceDiv,↓reduceIte,reduceCtorEq])
  all_goals (simp only [decide_eq_true_eq,decide_eq_false_iff_not] at *;simp [Ck,fU];try omega)
theorem NS {x t:Int} (h:0 ≤ x ∧ x ≤ 1099511627776) (ht:0 ≤ t):IntKind.i64.wrap (x + if 604800 < t then 604800 else t) = x + if t ≤ 604800 then t else 604800:=by
  have e:(if 604800 < t then (604800:Int) else t) = if t ≤ 604800 then t else 604800:=by split <;> split <;> omega
  rw [e]
  refine KJ ?_ ?_ <;> split <;> omega
theorem Iu {x t:Int} (h:0 ≤ x ∧ x ≤ 1099511627776) (ht:¬ t < 0):dD x t = IntKind.i64.wrap (x + if 604800 < t then 604800 else t):=by
  rw [NS h (by omega)]
  simp only [dD,Ck,decide_eq_true_eq]
  rw [if_pos (show (0 ≤ x ∧ x ≤ 1099511627776) ∧ 0 ≤ t from ⟨h,by omega⟩)]
theorem KM {x t:Int} (h:¬ ((0 ≤ x ∧ x ≤ 1099511627776) ∧ 0 ≤ t)):dD x t = -1:=by
  simp only [dD,Ck,decide_eq_true_eq]
  rw [if_neg h]
theorem Dk (x t:Int):G ext F (n + 2) 62 [vi x,vi t] = some ([vi (dD x t)],[vi x,vi t]):=by
  refine gU (cf:=c62) rfl ?_
  simp only [c62,pJ,go_sem,Nat.reduceAdd,Nat.reduceMul,Nat.reduceEqDiff,Nat.reduceBEq,Nat.reduceMod,Nat.reduceDiv,↓reduceIte,reduceCtorEq]
  repeat' (refine cu (fun h=>?_) (fun h=>?_) <;> simp only [h,pJ,go_sem,Nat.reduceAdd,Nat.reduceMul,Nat.reduceEqDiff,Nat.reduceBEq,Nat.reduceMod,Nat.reduceDiv,↓reduceIte,reduceCtorEq])
  all_goals (simp only [Ck,decide_eq_true_eq,decide_eq_false_iff_not] at *;first | rw [Iu (by assumption) (by omega)] | rw [KM (by omega)])
theorem Gh (o x:Int) (l:Bool):G ext F (n + 2) 87 [vi o,vb l,vi x] = some ([vb (mH o l x)],[vi o,vb l,vi x]):=by
  refine gU (cf:=c87) rfl ?_
  simp only [c87,KL,go_sem,Nat.reduceAdd,Nat.reduceMul,Nat.reduceEqDiff,Nat.reduceBEq,Nat.reduceMod,Nat.reduceDiv,↓reduceIte,reduceCtorEq]
  repeat' (refine cu (fun h=>?_) (fun h=>?_) <;> simp only [h,KL,go_sem,Nat.reduceAdd,Nat.reduceMul,Nat.reduceEqDiff,Nat.reduceBEq,Nat.reduceMod,Nat.reduceDiv,↓reduceIte,reduceCtorEq])
  all_goals (simp only [decide_eq_true_eq,decide_eq_false_iff_not] at *;simp_all [mH];try omega)
end Go.Proofs.Ytdkkgecdhapfhaa.Ka
namespace Go.Proofs.Ytdkkgecdhapfhaa.Ka
open Go Ev
variable {ext : Env} {F n:Nat}
theorem at_ {α:Type} {l:List α} {i:Nat} (h:i < l.length):∃ x,l[i]? = some x ∧ decide ((i:Int) < (l.length:Int)) = true ∧ ((i:Int).toNat = i) ∧ (0:Int) ≤ i:=⟨_,List.getElem?_eq_getElem h,by simpa using h,by simp,by omega⟩
theorem end_ {α:Type} {l:List α}:decide ((l.length:Int) < (l.length:Int)) = false:=by simp
theorem nx {i N:Nat} (h:i < N) (hN:N ≤ 200000000000000):IntKind.i64.wrap ((i:Int) + 1) = ((i + 1:Nat):Int):=by rw [KJ (by omega) (by omega)];omega
def EW (l:List ByteArray) (s:ByteArray):Bool:=l.any fun x=>decide (x = s)
theorem KN {l:List ByteArray} {s x:ByteArray} {i:Nat} (h:l[i]? = some x):EW (l.take (i + 1)) s = (EW (l.take i) s || decide (x = s)):=by
  unfold EW
  have hi:=(List.getElem?_eq_some_iff.mp h)
  rw [List.take_add_one,h,List.any_append]
  simp
theorem TQ {l:List ByteArray} {s x:ByteArray} {i:Nat} (h:l[i]? = some x) (hx:x = s):EW l s = true:=by
  unfold EW
  exact List.any_eq_true.mpr ⟨x,List.mem_of_getElem? h,by simpa using hx⟩
theorem NT {l:List ByteArray} {s:ByteArray} (h:EW (l.take l.length) s = false):EW l s = false:=by rwa [List.take_length] at h
theorem NU (l:List ByteArray) (s:ByteArray) (hl:l.length ≤ 1000000000000) (hF:200000000000001 ≤ F):∃ z:Int,(decide (0 ≤ z) = EW l s) ∧ G ext F (n + 1) 114 [vl (l.map gB),vs s] = some ([vi z],[vl (l.map gB),vs s]):=by
  suffices h:W (fun r=>∃ z:Int,(decide (0 ≤ z) = EW l s) ∧ r = ([vi z],[vl (l.map gB),vs s])) ⟨⟩ (G ext F (n + 1) 114 [vl (l.map gB),vs s]) by
    obtain ⟨r,h1,z,h2,h3⟩:=h
    exact ⟨z,h2,by rw [h1,h3]⟩
  show W _ _ (Jz _ F NR _)
  simp only [NR,go_sem,Nat.reduceAdd,Nat.reduceMul,Nat.reduceEqDiff,Nat.reduceBEq,Nat.reduceMod,Nat.reduceDiv,↓reduceIte,reduceCtorEq]
  refine Gf l.length (fun i=>⟨[(0,PV.c (CV.one (PL.f (FV.sl (l.map gB))))),(1,PV.c (CV.one (PL.f (FV.str s)))),(7,PV.c (CV.one (PL.f (FV.int .i64 (l.map gB).length)))),(8,PV.c (CV.one (PL.f (FV.int .i64 i))))],[]⟩) (fun i=>EW (l.take i) s = false) (by omega) rfl (fun i hi hP=>?_) (fun hP=>?_)
  · obtain ⟨x,hx,hd,ht,h0⟩:=at_ hi
    have hn:=nx hi (Nat.le_trans hl (by decide))
    have hs:=KN (s:=s) hx
    simp only [List.length_map,List.getElem?_map,hd,hx,ht,h0,gB,go_sem,Nat.reduceAdd,Nat.reduceMul,Nat.reduceEqDiff,Nat.reduceBEq,Nat.reduceMod,Nat.reduceDiv,↓reduceIte,reduceCtorEq]
    repeat' (refine cu (fun h=>?_) (fun h=>?_) <;> simp only [h,List.length_map,List.getElem?_map,hd,hx,ht,h0,hn,gB,go_sem,Nat.reduceAdd,Nat.reduceMul,Nat.reduceEqDiff,Nat.reduceBEq,Nat.reduceMod,Nat.reduceDiv,↓reduceIte,reduceCtorEq])
    · exact ⟨i,by rw [TQ hx (by simp at h;first | exact h | exact h.symm)];simp,rfl⟩
    · rw [hs,hP];simp at h ⊢;first | exact h | exact fun e=>h e.symm
  · have hd:=@end_ _ l
    simp only [List.length_map,hd,go_sem,Nat.reduceAdd,Nat.reduceMul,Nat.reduceEqDiff,Nat.reduceBEq,Nat.reduceMod,Nat.reduceDiv,↓reduceIte,reduceCtorEq]
    repeat' (refine cu (fun h=>?_) (fun h=>?_) <;> simp only [h,List.length_map,hd,go_sem,Nat.reduceAdd,Nat.reduceMul,Nat.reduceEqDiff,Nat.reduceBEq,Nat.reduceMod,Nat.reduceDiv,↓reduceIte,reduceCtorEq])
    exact ⟨-1,by rw [NT hP];rfl,rfl⟩
theorem Dl (l:List ByteArray) (s:ByteArray) (hl:l.length ≤ 1000000000000) (hF:200000000000001 ≤ F):G ext F (n + 2) 96 [vl (l.map gB),vs s] = some ([vb (EW l s)],[vl (l.map gB),vs s]):=by
  refine gU (cf:=c96) rfl ?_
  obtain ⟨z,hz,h⟩:=NU (ext:=ext) (F:=F) (n:=n) l s hl hF
  simp only [c96,h,go_sem,Nat.reduceAdd,Nat.reduceMul,Nat.reduceEqDiff,Nat.reduceBEq,Nat.reduceMod,Nat.reduceDiv,↓reduceIte,reduceCtorEq]
  repeat' (refine cu (fun h=>?_) (fun h=>?_) <;> simp only [h,h,go_sem,Nat.reduceAdd,Nat.reduceMul,Nat.reduceEqDiff,Nat.reduceBEq,Nat.reduceMod,Nat.reduceDiv,↓reduceIte,reduceCtorEq])
  rw [← hz]
theorem KO (l m:List ByteArray) (hl:l.length ≤ 1000000000000) (hF:200000000000001 ≤ F):G ext F (n + 1) 71 [vl (l.map gB),vl (m.map gB)] = some ([vb (decide (l = m))],[vl (l.map gB),vl (m.map gB)]):=by
  refine gU (cf:=c71) rfl ?_
  simp only [c71,List.length_map,go_sem,Nat.reduceAdd,Nat.reduceMul,Nat.reduceEqDiff,Nat.reduceBEq,Nat.reduceMod,Nat.reduceDiv,↓reduceIte,reduceCtorEq]
  repeat' (refine cu (fun h=>?_) (fun h=>?_) <;> simp only [h,List.length_map,go_sem,Nat.reduceAdd,Nat.reduceMul,Nat.reduceEqDiff,Nat.reduceBEq,Nat.reduceMod,Nat.reduceDiv,↓reduceIte,reduceCtorEq])
  · have hlen:l.length = m.length:=by simp at h;omega
    refine Gf l.length (fun i=>⟨[(0,PV.c (CV.one (PL.f (FV.sl (l.map gB))))),(1,PV.c (CV.one (PL.f (FV.sl (m.map gB))))),(5,PV.c (CV.one (PL.f (FV.int .i64 i))))],[]⟩) (fun i=>l.take i = m.take i) (by omega) rfl (fun i hi hP=>?_) (fun hP=>?_)
    · obtain ⟨x,hx,hd,ht,h0⟩:=at_ hi
      obtain ⟨y,hy,_⟩:=at_ (l:=m) (i:=i) (by omega)
      have hn:=nx hi (Nat.le_trans hl (by decide))
      simp only [List.length_map,List.getElem?_map,hd,hx,hy,ht,h0,gB,go_sem,Nat.reduceAdd,Nat.reduceMul,Nat.reduceEqDiff,Nat.reduceBEq,Nat.reduceMod,Nat.reduceDiv,↓reduceIte,reduceCtorEq]
      repeat' (refine cu (fun h=>?_) (fun h=>?_) <;> simp only [h,List.length_map,List.getElem?_map,hd,hx,hy,ht,h0,hn,gB,go_sem,Nat.reduceAdd,Nat.reduceMul,Nat.reduceEqDiff,Nat.reduceBEq,Nat.reduceMod,Nat.reduceDiv,↓reduceIte,reduceCtorEq])
      · rw [List.take_add_one,List.take_add_one,hP,hx,hy]
        simp at h
        rw [h]
      · have:l ≠ m:=by rintro rfl;rw [hx] at hy;cases hy;simp at h
        simp [this]
    · have hd:=@end_ _ l
      simp only [List.length_map,hd,go_sem,Nat.reduceAdd,Nat.reduceMul,Nat.reduceEqDiff,Nat.reduceBEq,Nat.reduceMod,Nat.reduceDiv,↓reduceIte,reduceCtorEq]
      repeat' (refine cu (fun h=>?_) (fun h=>?_) <;> simp only [h,List.length_map,hd,go_sem,Nat.reduceAdd,Nat.reduceMul,Nat.reduceEqDiff,Nat.reduceBEq,Nat.reduceMod,Nat.reduceDiv,↓reduceIte,reduceCtorEq])
      have:l = m:=by rw [← List.take_length (l:=l),hP,hlen,List.take_length]
      simp [this]
  · have:l ≠ m:=by rintro rfl;simp at h
    simp [this]
end Go.Proofs.Ytdkkgecdhapfhaa.Ka
namespace Go.Proofs.Ytdkkgecdhapfhaa.Ka
open Go Ev
variable {ext : Env} {F n:Nat}
structure Qn where
  q:ByteArray
  t:Int
  c:Int
  deriving DecidableEq
structure It where
  q:ByteArray
  t:Int
  c:Int
  d:List ByteArray
  ttl:Int
  u:Int
  r:Int
  deriving DecidableEq
structure Op where
  o:Int
  now:Int
  q:ByteArray
  t:Int
  c:Int
  d:List ByteArray
  ttl:Int
  r:Int
def rQ (x:Qn):List FV:=[.str x.q,.int .i64 x.t,.int .i64 x.c]
def rI (x:It):List FV:=[.str x.q,.int .i64 x.t,.int .i64 x.c,.sl (x.d.map gB),.int .i64 x.ttl,.int .i64 x.u,.int .i64 x.r]
def rO (x:Op):List FV:=[.int .i64 x.o,.int .i64 x.now,.str x.q,.int .i64 x.t,.int .i64 x.c,.sl (x.d.map gB),.int .i64 x.ttl,.int .i64 x.r]
abbrev vit (q:ByteArray) (t c:Int) (d:List ByteArray) (ttl u r:Int):AV:=.agg [.f (.str q),.f (.int .i64 t),.f (.int .i64 c),.f (.sl (d.map gB)),.f (.int .i64 ttl),.f (.int .i64 u),.f (.int .i64 r)]
def Dm (k:Nat) (l:List ByteArray):Bool:=l.all fun x=>decide (x.size ≤ 2000) && decide (k ≤ 60)
theorem Iw {k:Nat} {l:List ByteArray} {x:ByteArray} {i:Nat} (h:l[i]? = some x):Dm k (l.take (i + 1)) = (Dm k (l.take i) && (decide (x.size ≤ 2000) && decide (k ≤ 60))):=by
  unfold Dm
  rw [List.take_add_one,h,List.all_append]
  simp
theorem Gi {k:Nat} {l:List ByteArray} {x:ByteArray} {i:Nat} (h:l[i]? = some x) (hx:¬ (x.size ≤ 2000 ∧ k ≤ 60)):Dm k l = false:=by
  unfold Dm
  refine Bool.eq_false_iff.mpr fun ha=>hx ?_
  have:=List.all_eq_true.mp ha x (List.mem_of_getElem? h)
  simpa using this
def oI (q:ByteArray) (d:List ByteArray):Bool:=Dm d.length d && decide (q.size ≤ 300)
theorem KP (q:ByteArray) (t c:Int) (d:List ByteArray) (ttl:Int) (hl:d.length ≤ 200000000000000) (hF:200000000000001 ≤ F):G ext F (n + 1) 35 [xG q t c d ttl] = some ([vb (oI q d)],[xG q t c d ttl]):=by
  refine gU (cf:=c35) rfl ?_
  simp only [c35,go_sem,Nat.reduceAdd,Nat.reduceMul,Nat.reduceEqDiff,Nat.reduceBEq,Nat.reduceMod,Nat.reduceDiv,↓reduceIte,reduceCtorEq]
  refine Gf d.length (fun i=>⟨[(1,PV.c (CV.one (PL.ptr 40000 0))),(3,PV.c (CV.one (PL.f (FV.int .i64 i))))],[(40000,.mg [.f (.str q),.f (.int .i64 t),.f (.int .i64 c),.f (.sl (d.map gB)),.f (.int .i64 ttl)])]⟩) (fun i=>Dm d.length (d.take i) = true) (by omega) rfl (fun i hi hP=>?_) (fun hP=>?_)
  · obtain ⟨x,hx,hd,ht,h0⟩:=at_ hi
    have hn:=nx hi (Nat.le_trans hl (by decide))
    simp only [List.length_map,List.getElem?_map,hd,hx,ht,h0,gB,go_sem,Nat.reduceAdd,Nat.reduceMul,Nat.reduceEqDiff,Nat.reduceBEq,Nat.reduceMod,Nat.reduceDiv,↓reduceIte,reduceCtorEq]
    repeat' (refine cu (fun h=>?_) (fun h=>?_) <;> simp only [h,List.length_map,List.getElem?_map,hd,hx,ht,h0,hn,gB,go_sem,Nat.reduceAdd,Nat.reduceMul,Nat.reduceEqDiff,Nat.reduceBEq,Nat.reduceMod,Nat.reduceDiv,↓reduceIte,reduceCtorEq])
    all_goals simp only [decide_eq_true_eq,decide_eq_false_iff_not] at *
    · simp [oI,Gi hx (k:=d.length) (by omega)]
    · simp [oI,Gi hx (k:=d.length) (by omega)]
    · rw [Iw hx,hP];simp;omega
  · have hd:=@end_ _ d
    rw [List.take_length] at hP
    simp only [List.length_map,hd,go_sem,Nat.reduceAdd,Nat.reduceMul,Nat.reduceEqDiff,Nat.reduceBEq,Nat.reduceMod,Nat.reduceDiv,↓reduceIte,reduceCtorEq]
    repeat' (refine cu (fun h=>?_) (fun h=>?_) <;> simp only [h,List.length_map,hd,go_sem,Nat.reduceAdd,Nat.reduceMul,Nat.reduceEqDiff,Nat.reduceBEq,Nat.reduceMod,Nat.reduceDiv,↓reduceIte,reduceCtorEq])
    simp [oI,hP]
    try omega
def y5 (l:List Op):Bool:=l.all fun x=>oI x.q x.d
theorem Iy {l:List Op} {x:Op} {i:Nat} (h:l[i]? = some x):y5 (l.take (i + 1)) = (y5 (l.take i) && oI x.q x.d):=by
  unfold y5
  rw [List.take_add_one,h,List.all_append]
  simp
theorem NV {l:List Op} {x:Op} {i:Nat} (h:l[i]? = some x) (hx:oI x.q x.d = false):y5 l = false:=by
  unfold y5
  refine Bool.eq_false_iff.mpr fun ha=>?_
  rw [List.all_eq_true.mp ha x (List.mem_of_getElem? h)] at hx
  cases hx
theorem EX (l:List Op) (m:Int) (hl:l.length ≤ 200000000000000) (hd:∀ x ∈ l,x.d.length ≤ 200000000000000) (hF:200000000000001 ≤ F):G ext F (n + 2) 14 [vl (l.map rO),vi m] = some ([vb (y5 l && decide ((l.length:Int) ≤ m))],[vl (l.map rO),vi m]):=by
  refine gU (cf:=c14) rfl ?_
  simp only [c14,go_sem,Nat.reduceAdd,Nat.reduceMul,Nat.reduceEqDiff,Nat.reduceBEq,Nat.reduceMod,Nat.reduceDiv,↓reduceIte,reduceCtorEq]
  refine Gf l.length (fun i=>⟨[(0,PV.c (CV.one (PL.f (FV.sl (l.map rO))))),(1,PV.c (CV.one (PL.f (FV.int .i64 m)))),(5,PV.c (CV.one (PL.f (FV.int .i64 i))))],[]⟩) (fun i=>y5 (l.take i) = true) (by omega) rfl (fun i hi hP=>?_) (fun hP=>?_)
  · obtain ⟨x,hx,hlt,ht,h0⟩:=at_ hi
    have hn:=nx hi (Nat.le_trans hl (by decide))
    have hs:=fun n=>KP (ext:=ext) (F:=F) (n:=n) x.q x.t x.c x.d x.ttl (hd x (List.mem_of_getElem? hx)) hF
    simp only [List.length_map,List.getElem?_map,hlt,hx,ht,h0,rO,hs,go_sem,Nat.reduceAdd,Nat.reduceMul,Nat.reduceEqDiff,Nat.reduceBEq,Nat.reduceMod,Nat.reduceDiv,↓reduceIte,reduceCtorEq]
    repeat' (refine cu (fun h=>?_) (fun h=>?_) <;> simp only [h,List.length_map,List.getElem?_map,hlt,hx,ht,h0,hn,rO,hs,go_sem,Nat.reduceAdd,Nat.reduceMul,Nat.reduceEqDiff,Nat.reduceBEq,Nat.reduceMod,Nat.reduceDiv,↓reduceIte,reduceCtorEq])
    · rw [Iy hx,hP,h];rfl
    · rw [NV hx h];rfl
  · have hd:=@end_ _ l
    rw [List.take_length] at hP
    simp only [List.length_map,hd,go_sem,Nat.reduceAdd,Nat.reduceMul,Nat.reduceEqDiff,Nat.reduceBEq,Nat.reduceMod,Nat.reduceDiv,↓reduceIte,reduceCtorEq]
    repeat' (refine cu (fun h=>?_) (fun h=>?_) <;> simp only [h,List.length_map,hd,go_sem,Nat.reduceAdd,Nat.reduceMul,Nat.reduceEqDiff,Nat.reduceBEq,Nat.reduceMod,Nat.reduceDiv,↓reduceIte,reduceCtorEq])
    simp [hP]
def Gj (a:ByteArray) (t c:Int) (d:List ByteArray) (ttl:Int) (a':ByteArray) (t' c':Int) (d':List ByteArray) (KQ:Int):Bool:=decide (a = a' ∧ t = t' ∧ c = c' ∧ ttl = KQ ∧ d = d')
theorem NW (a:ByteArray) (t c:Int) (d:List ByteArray) (ttl:Int) (a':ByteArray) (t' c':Int) (d':List ByteArray) (KQ:Int) (hl:d.length ≤ 1000000000000) (hF:200000000000001 ≤ F):G ext F (n + 2) 32 [xG a t c d ttl,xG a' t' c' d' KQ] = some ([vb (Gj a t c d ttl a' t' c' d' KQ)],[xG a t c d ttl,xG a' t' c' d' KQ]):=by
  refine gU (cf:=c32) rfl ?_
  have ht:=fun n=>KO (ext:=ext) (F:=F) (n:=n) d d' hl hF
  simp only [c32,ht,go_sem,Nat.reduceAdd,Nat.reduceMul,Nat.reduceEqDiff,Nat.reduceBEq,Nat.reduceMod,Nat.reduceDiv,↓reduceIte,reduceCtorEq]
  repeat' (refine cu (fun h=>?_) (fun h=>?_) <;> simp only [h,ht,go_sem,Nat.reduceAdd,Nat.reduceMul,Nat.reduceEqDiff,Nat.reduceBEq,Nat.reduceMod,Nat.reduceDiv,↓reduceIte,reduceCtorEq])
  all_goals (simp [Gj] at *)
  all_goals (try simp_all)
end Go.Proofs.Ytdkkgecdhapfhaa.Ka
namespace Go.Proofs.Ytdkkgecdhapfhaa.Ka
open Go Ev
variable {ext : Env} {F n:Nat}
theorem qY {body:St → Option (Out × St)} {rs:St → St} {k:Out × St → Prop} {u:Tok k} {F:Nat} {σ:St} (N:Nat) (T:Nat → St) (P:Nat → Prop) (hF:N < F) (hs:rs σ = T 0) (h0:P 0)
    (step:∀ i,i < N → P i → W (fun p=>match p.1 with
      | .jr=>rs p.2 = T (i + 1) ∧ P (i + 1)
      | o=>k (o,p.2)) ⟨⟩ (body (T i)))
    (last:P N → W (fun p=>match p.1 with
      | .jr=>False
      | o=>k (o,p.2)) ⟨⟩ (body (T N))):W k u (iter body rs F σ):=by
  refine Bg (fun m σ=>∃ i,i ≤ N ∧ m = N - i ∧ rs σ = T i ∧ P i) ?_ F N σ hF ⟨0,Nat.zero_le _,rfl,hs,h0⟩
  rintro m σ ⟨i,hi,rfl,hr,hP⟩
  rw [hr]
  by_cases hlt:i < N
  · refine uK (step i hlt hP) fun p hp=>?_
    obtain ⟨o,s⟩:=p
    cases o with
    | jr=>exact ⟨N - (i + 1),by omega,i + 1,by omega,rfl,hp.1,hp.2⟩
    | ext j=>exact hp
    | ret=>exact hp
  · have:i = N:=by omega
    subst this
    refine uK (last hP) fun p hp=>?_
    obtain ⟨o,s⟩:=p
    cases o with
    | jr=>exact hp.elim
    | ext j=>exact hp
    | ret=>exact hp
def nr2 (s:Nat) (l:List (Nat × Nat)) (σ:St):Option St → St
  | some t=>jr ⟨put t.tm s (.c (.one (.own (dF s) 0))),t.ob⟩ l
  | none=>jr σ l
def X4 (σ:St) (s sz:Nat) (l:List (Nat × Nat)):Option PV → St
  | some (.c (.one .fF))=>if sz = 0 then jr σ l else nr2 s l σ (new σ (dF s) (.row sz []))
  | _=>jr σ l
@[go_sem] theorem X5 {σ:St} {s sz:Nat} {l:List (Nat × Nat)}:jr σ ((s,sz) :: l) = X4 σ s sz l (get σ.tm s):=by
  unfold X4 nr2
  rw [jr]
  split <;> first | rfl | (split <;> first | rfl | (split <;> simp_all))
@[go_sem] theorem abf {σ:St} {s sz key n:Nat} {l:List (Nat × Nat)}:X4 σ s sz l (some (.c (.one (.own key n)))) = jr σ l:=rfl
@[go_sem] theorem afj {σ:St} {s sz:Nat} {l:List (Nat × Nat)} {x:FV}:X4 σ s sz l (some (.c (.one (.f x)))) = jr σ l:=rfl
@[go_sem] theorem abg {σ:St} {s sz:Nat} {l:List (Nat × Nat)}:X4 σ s sz l (some (.c (.one .fF))) = if sz = 0 then jr σ l else nr2 s l σ (new σ (dF s) (.row sz [])):=rfl
@[go_sem] theorem X6 {σ τ:St} {s:Nat} {l:List (Nat × Nat)}:nr2 s l σ (some τ) = jr ⟨put τ.tm s (.c (.one (.own (dF s) 0))),τ.ob⟩ l:=rfl
abbrev It.k (x:It):Qn:=⟨x.q,x.t,x.c⟩
abbrev vst (room:Int) (l:List It) (ch:Int):AV:=.agg [.f (.int .i64 room),.f (.sl (l.map rI)),.f (.int .i64 ch)]
theorem all_succ {α:Type} {P:α → Prop} {l:List α} {i:Nat} {x:α} (h:∀ y ∈ l.take i,P y) (hx:l[i]? = some x) (hp:P x):∀ y ∈ l.take (i + 1),P y:=by
  intro y hy
  rw [List.take_add_one,hx] at hy
  rcases List.mem_append.mp hy with hy | hy
  · exact h y hy
  · simp at hy;subst hy;exact hp
structure Se where
  q:ByteArray
  t:Int
  c:Int
  d:List ByteArray
  ttl:Int
  deriving DecidableEq
abbrev Se.k (x:Se):Qn:=⟨x.q,x.t,x.c⟩
abbrev Se.v (x:Se):AV:=xG x.q x.t x.c x.d x.ttl
def se0 : Se:=⟨.empty,0,0,[],0⟩
def rS (x:Se):List FV:=[.str x.q,.int .i64 x.t,.int .i64 x.c,.sl (x.d.map gB),.int .i64 x.ttl]
def nw (k:Qn) (l:List Se):Option Se:=l.foldl (fun a x=>if x.k = k then some x else a) none
theorem NY {k:Qn} {l:List Se} {i:Nat} {x:Se} (h:l[i]? = some x):nw k (l.take (i + 1)) = if x.k = k then some x else nw k (l.take i):=by
  unfold nw
  rw [List.take_add_one,h,List.foldl_append]
  rfl
def nwC : Option Se → List PL
  | none=>[.f (.str ⟨#[]⟩),.f (.int .i64 0),.f (.int .i64 0),.fF,.f (.int .i64 0)]
  | some x=>[.f (.str x.q),.f (.int .i64 x.t),.f (.int .i64 x.c),.f (.sl (x.d.map gB)),.f (.int .i64 x.ttl)]
theorem KR (o:Option Se):∃ s,s = o.getD se0 ∧ ((nwC o = [.f (.str s.q),.f (.int .i64 s.t),.f (.int .i64 s.c),.fF,.f (.int .i64 s.ttl)] ∧ s.d = []) ∨ nwC o = [.f (.str s.q),.f (.int .i64 s.t),.f (.int .i64 s.c),.f (.sl (s.d.map gB)),.f (.int .i64 s.ttl)]):=by
  cases o with
  | none=>exact ⟨_,rfl,.inl ⟨rfl,rfl⟩⟩
  | some x=>exact ⟨_,rfl,.inr rfl⟩
theorem KT (l:List Qn) (hl:l.length ≤ 1000000000000) (hF:200000000000001 ≤ F):G ext F (n + 1) 34 [vl (l.map rQ)] = some ([vb (decide l.Nodup)],[vl (l.map rQ)]):=by
  refine gU (cf:=c34) rfl ?_
  simp only [c34,go_sem,Nat.reduceAdd,Nat.reduceMul,Nat.reduceEqDiff,Nat.reduceBEq,Nat.reduceMod,Nat.reduceDiv,↓reduceIte,reduceCtorEq]
  refine qY l.length (fun i=>⟨[(0,PV.c (CV.one (PL.f (FV.sl (l.map rQ))))),(3,PV.c (CV.one (PL.f (FV.int .i64 i))))],[]⟩) (fun i=>(l.take i).Nodup) (by omega) rfl (by simp) (fun i hi hP=>?_) (fun hP=>?_)
  · obtain ⟨x,hx,hd,ht,h0⟩:=at_ hi
    have hn:=nx hi (Nat.le_trans hl (by decide))
    simp only [List.length_map,List.getElem?_map,hd,hx,ht,h0,go_sem,Nat.reduceAdd,Nat.reduceMul,Nat.reduceEqDiff,Nat.reduceBEq,Nat.reduceMod,Nat.reduceDiv,↓reduceIte,reduceCtorEq]
    refine qY i (fun j=>⟨[(0,PV.c (CV.one (PL.f (FV.sl (l.map rQ))))),(3,PV.c (CV.one (PL.f (FV.int .i64 i)))),(4,PV.c (CV.one (PL.f (FV.int .i64 j))))],[]⟩) (fun j=>∀ y ∈ l.take j,y ≠ x) (by omega) rfl (by simp) (fun j hj hQ=>?_) (fun hQ=>?_)
    · obtain ⟨y,hy,hd',ht',h0'⟩:=at_ (l:=l) (i:=j) (by omega)
      have hn':=nx hj (by omega)
      have hji:decide ((j:Int) < (i:Int)) = true:=by simpa using hj
      simp only [List.length_map,List.getElem?_map,hd,hx,ht,h0,hji,hy,ht',h0',rQ,go_sem,Nat.reduceAdd,Nat.reduceMul,Nat.reduceEqDiff,Nat.reduceBEq,Nat.reduceMod,Nat.reduceDiv,↓reduceIte,reduceCtorEq]
      repeat' (refine cu (fun h=>?_) (fun h=>?_) <;> simp only [h,List.length_map,List.getElem?_map,hd,hx,ht,h0,hji,hy,ht',h0',hn',rQ,go_sem,Nat.reduceAdd,Nat.reduceMul,Nat.reduceEqDiff,Nat.reduceBEq,Nat.reduceMod,Nat.reduceDiv,↓reduceIte,reduceCtorEq])
      · have hxy:x = y:=by cases x;cases y;simpa using h
        have:¬ l.Nodup:=fun hN=>by
          have h1:=(List.getElem?_eq_some_iff.mp hx);have h2:=(List.getElem?_eq_some_iff.mp hy)
          exact List.pairwise_iff_getElem.mp hN j i h2.1 h1.1 hj (by rw [h1.2,h2.2,hxy])
        simp [this]
      · exact all_succ hQ hy (by rintro rfl;simp at h)
    · have hji:decide ((i:Int) < (i:Int)) = false:=by simp
      simp only [List.length_map,hji,hn,go_sem,Nat.reduceAdd,Nat.reduceMul,Nat.reduceEqDiff,Nat.reduceBEq,Nat.reduceMod,Nat.reduceDiv,↓reduceIte,reduceCtorEq]
      repeat' (refine cu (fun h=>?_) (fun h=>?_) <;> simp only [h,List.length_map,hji,hn,go_sem,Nat.reduceAdd,Nat.reduceMul,Nat.reduceEqDiff,Nat.reduceBEq,Nat.reduceMod,Nat.reduceDiv,↓reduceIte,reduceCtorEq])
      rw [List.take_add_one,hx]
      rw [Option.toList_some]
      refine List.nodup_append.mpr ⟨hP,List.pairwise_singleton _ _,fun a ha b hb=>?_⟩
      rw [List.mem_singleton] at hb;subst hb;exact hQ a ha
  · have hd:=@end_ _ l
    rw [List.take_length] at hP
    simp only [List.length_map,hd,go_sem,Nat.reduceAdd,Nat.reduceMul,Nat.reduceEqDiff,Nat.reduceBEq,Nat.reduceMod,Nat.reduceDiv,↓reduceIte,reduceCtorEq]
    repeat' (refine cu (fun h=>?_) (fun h=>?_) <;> simp only [h,List.length_map,hd,go_sem,Nat.reduceAdd,Nat.reduceMul,Nat.reduceEqDiff,Nat.reduceBEq,Nat.reduceMod,Nat.reduceDiv,↓reduceIte,reduceCtorEq])
    simp [hP]
end Go.Proofs.Ytdkkgecdhapfhaa.Ka

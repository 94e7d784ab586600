/- A part of the proof of NegCovers: cut, joined and given short names by a program of this session (wip/tools/pack.py); Lean checks it. No condition. -/
import Derived.Test.YtdkkgecdhapfhaaPNCrsf
import Derived.Test.YtdkkgecdhapfhaaPNCrsd
set_option linter.unusedSectionVars false
set_option linter.unusedSimpArgs false
set_option linter.unusedVariables false
namespace Go.Proofs.Ytdkkgecdhapfhaa.Ev
open Go
section
variable {Γ : Env} {F d:Nat} {q:Bool} {σ:St} {k:PV × St → Prop} {u:Tok k} {x y z:eF}
def LW (σ:St) (sh:KS):CV → Option (Option (Nat × List (KV × FC)))
  | .one .fD=>some none
  | .one (.mp key)=>(nW σ key).bind fun o=>if o.1 = sh then some (some (key,o.2)) else none
  | _=>none
@[go_sem] theorem YO {sh:KS}:LW σ sh (.one .fD) = some none:=rfl
section
variable {k : Option (Nat × List (KV × FC)) → Prop} {u:Tok k}
@[go_sem ↓] theorem aeE {sh:KS} {key:Nat}:W k u (LW σ sh (.one (.mp key))) ↔ W (fun o=>o.1 = sh ∧ k (some (key,o.2))) ⟨⟩ (nW σ key):=by
  simp only [LW,dX,bB,bO,bJ]
end
def sQ (m:Option (Nat × List (KV × FC))) (a:KV):Option FC:=m.bind fun m=>Dv m.2 a
def cnt (m:Option (Nat × List (KV × FC))):Nat:=match m with
  | none=>0
  | some m=>m.2.length
@[go_sem] theorem YP {a:KV}:sQ none a = none:=rfl
@[go_sem] theorem YQ {key:Nat} {l:List (KV × FC)} {a:KV}:sQ (some (key,l)) a = Dv l a:=rfl
@[go_sem] theorem YR : cnt none = 0:=rfl
@[go_sem] theorem YS {key:Nat} {l:List (KV × FC)}:cnt (some (key,l)) = l.length:=rfl
def lkv (z:FC) (ok:Bool) (r:Option FC):PV:=if ok then .uU [xD (r.getD z),.one (.f (.bool r.isSome))] else .c (xD (r.getD z))
@[go_sem] theorem aeF {z:FC} {r:Option FC}:lkv z true r = .uU [xD (r.getD z),.one (.f (.bool r.isSome))]:=rfl
@[go_sem] theorem aeG {z:FC} {r:Option FC}:lkv z false r = .c (xD (r.getD z)):=rfl
@[go_sem] theorem YT {x:FV}:xD (.one x) = .one (.f x):=rfl
@[go_sem] theorem YU {xs:List FV}:xD (.agg xs) = .agg (xs.map .f):=rfl
@[go_sem ↓] theorem aeH {sh:KS} {z:FC} {ok:Bool}:W k u (cO Γ q σ d (.look sh z ok x y)) ↔ W (fun v=>W (fun w=>W (fun a=>a.ks = sh ∧ W (fun m=>k (lkv z ok (sQ m a),σ)) ⟨⟩ (LW σ sh v)) ⟨⟩ (keyOf w)) ⟨⟩ (val σ y)) ⟨⟩ (val σ x):=by
  simp only [cO,dX,bB,dH,bZ,ne_eq,Decidable.not_not]
  refine dx fun v=>dx fun w=>dx fun a=>and_congr Iff.rfl ?_
  cases v with
  | agg l=>exact bY
  | one p =>
    cases p with
    | fD=>exact lM Iff.rfl
    | mp key =>
      simp only [LW,nW]
      cases get σ.ob key with
      | none=>exact bY
      | some o =>
        cases o with
        | map sh' ents =>
          simp only [om,Option.bind_some]
          by_cases hs:sh' = sh
          · rw [if_pos hs,if_pos hs];exact lM (by cases ok <;> exact Iff.rfl)
          · rw [if_neg hs,if_neg hs];exact bY
        | _=>exact bY
    | _=>exact bY
@[go_sem ↓] theorem aeI : W k u (cO Γ q σ d (.Du x)) ↔ W (fun v=>W (fun n:Nat=>k (.c (.one (.f (.int .i64 (n:Int)))),σ)) ⟨⟩ (OQ σ v)) ⟨⟩ (val σ x):=by
  simp only [cO,dX,bB]
  refine dx fun v=>?_
  cases v with
  | agg l=>exact bY
  | one p =>
    cases p with
    | fD=>exact lM Iff.rfl
    | mp key =>
      simp only [OQ,nW]
      cases get σ.ob key with
      | none=>exact bY
      | some o=>cases o <;> first | exact bY | exact lM Iff.rfl
    | _=>exact bY
def upv (σ:St) (sh:KS) (a:KV) (p:FC × St):CV → Option St
  | .one (.mp key)=>(nW p.2 key).bind fun o=>if o.1 = sh then some (ji p.2 key (.map sh (FH o.2 a p.1))) else none
  | _=>none
@[go_sem ↓] theorem aeJ {sh:KS}:W k u (cO Γ q σ d (.Bu sh x y z)) ↔ W (fun v=>W (fun w=>W (fun a=>a.ks = sh ∧ W (fun w=>(q && (cells w).any gF) = false ∧ W (fun p=>W (fun s=>k (.c (.one .und),s)) ⟨⟩ (upv σ sh a p v)) ⟨⟩ (Wx σ w)) ⟨⟩ (val σ z)) ⟨⟩ (keyOf w)) ⟨⟩ (val σ y)) ⟨⟩ (val σ x):=by
  simp only [cO,dX,bB,dH,ne_eq,Decidable.not_not,Bool.not_eq_true]
  refine dx fun v=>dx fun w=>dx fun a=>and_congr Iff.rfl (dx fun w=>and_congr Iff.rfl (dx fun p=>?_))
  cases v with
  | agg l=>exact bY
  | one b =>
    cases b with
    | mp key =>
      simp only [upv,nW]
      cases get p.2.ob key with
      | none=>exact bY
      | some o =>
        cases o with
        | map sh' ents =>
          simp only [om,Option.bind_some]
          split
          · exact lM Iff.rfl
          · exact bY
        | _=>exact bY
    | _=>exact bY
section
variable {k : St → Prop} {u:Tok k} {sh:KS} {a:KV} {key:Nat}
@[go_sem ↓] theorem afY {p:FC × St}:W k u (upv σ sh a p (.one (.mp key))) ↔ W (fun o=>o.1 = sh ∧ k (ji p.2 key (.map sh (FH o.2 a p.1)))) ⟨⟩ (nW p.2 key):=by
  simp only [upv,dX,bB,bO,bJ]
end
def YV (σ:St) (sh:KS) (a:KV):CV → Option St
  | .one .fD=>some σ
  | .one (.mp key)=>(nW σ key).bind fun o=>if o.1 = sh then some (ji σ key (.map sh (FI o.2 a))) else none
  | _=>none
@[go_sem] theorem abQ {sh:KS} {a:KV}:YV σ sh a (.one .fD) = some σ:=rfl
section
variable {k : St → Prop} {u:Tok k} {sh:KS} {a:KV} {key:Nat}
@[go_sem ↓] theorem afZ : W k u (YV σ sh a (.one (.mp key))) ↔ W (fun o=>o.1 = sh ∧ k (ji σ key (.map sh (FI o.2 a)))) ⟨⟩ (nW σ key):=by
  simp only [YV,dX,bB,bO,bJ]
end
@[go_sem ↓] theorem af0 {sh:KS}:W k u (cO Γ q σ d (.del sh x y)) ↔ W (fun v=>W (fun w=>W (fun a=>a.ks = sh ∧ W (fun s=>k (.uU [],s)) ⟨⟩ (YV σ sh a v)) ⟨⟩ (keyOf w)) ⟨⟩ (val σ y)) ⟨⟩ (val σ x):=by
  simp only [cO,dX,bB,dH,ne_eq,Decidable.not_not]
  refine dx fun v=>dx fun w=>dx fun a=>and_congr Iff.rfl ?_
  cases v with
  | agg l=>exact bY
  | one b =>
    cases b with
    | fD=>exact lM Iff.rfl
    | mp key =>
      simp only [YV,nW]
      cases get σ.ob key with
      | none=>exact bY
      | some o =>
        cases o with
        | map sh' ents =>
          simp only [om,Option.bind_some]
          split
          · exact lM Iff.rfl
          · exact bY
        | _=>exact bY
    | _=>exact bY
def WS (σ:St):CV → Option (List (List FV))
  | .one .fT=>some []
  | .one (.f (.sl rows))=>some rows
  | .one (.own key _)=>(iE σ key).map (·.2)
  | _=>none
@[go_sem] theorem af2 : WS σ (.one .fT) = some []:=rfl
@[go_sem] theorem af3 {rows:List (List FV)}:WS σ (.one (.f (.sl rows))) = some rows:=rfl
@[go_sem] theorem af4 {key n:Nat}:WS σ (.one (.own key n)) = (iE σ key).map (·.2):=rfl
def WT (q:Bool) (σ:St) (d sz bytes:Nat) (w:CV) (Ef:List (List FV)):CV → Option (PV × St)
  | .one .fT=>if q = false ∧ Ef.length * bytes ≤ 140737488355328 ∧ Ef.all (fun r=>r.length == sz) then (new σ (dF d) (.row sz Ef)).map fun s=>(.c (.one (.own (dF d) Ef.length)),s) else none
  | .one (.own key n)=>(iE σ key).bind fun o=>if q = false ∧ (o.2.length + Ef.length) * bytes ≤ 140737488355328 ∧ o.1 = sz ∧ n = o.2.length ∧ vR key w = false ∧ key % 2 = 0 ∧ Ef.all (fun r=>r.length == sz) then
      some (.c (.one (.own key (o.2.length + Ef.length))),ji (sub σ key .any) key (.row sz (o.2 ++ Ef))) else none
  | _=>none
@[go_sem ↓] theorem af5 {e:TypeId} {sz bytes:Nat}:W k u (cO Γ q σ d (.app e sz bytes x y)) ↔ W (fun v=>W (fun w=>W (fun l=>W k ⟨⟩ (WT q σ d sz bytes w l v)) ⟨⟩ (WS σ w)) ⟨⟩ (val σ y)) ⟨⟩ (val σ x):=by
  simp only [cO,dX,bB]
  refine dx fun v=>dx fun w=>?_
  have e:qg σ w = WS σ w:=by
    cases w with
    | agg l=>rfl
    | one p=>cases p with
      | f a=>cases a <;> rfl
      | own key n=>simp only [qg,WS,iE];cases get σ.ob key with | none=>rfl | some o=>cases o <;> rfl
      | _=>rfl
  rw [e]
  refine dx fun l=>?_
  cases v with
  | agg l=>exact bY
  | one p =>
    cases p with
    | fT=>exact Iff.rfl
    | own key n =>
      simp only [WT,iE]
      cases get σ.ob key with
      | none=>exact bY
      | some o=>cases o <;> exact Iff.rfl
    | _=>exact bY
@[go_sem ↓] theorem abR {sz bytes:Nat} {w:CV} {l:List (List FV)}:W k u (WT q σ d sz bytes w l (.one .fT)) ↔ (q = false ∧ l.length * bytes ≤ 140737488355328 ∧ l.all (fun r=>r.length == sz) = true) ∧ W (fun s=>k (.c (.one (.own (dF d) l.length)),s)) ⟨⟩ (new σ (dF d) (.row sz l)):=by
  simp only [WT,dX,bO,bZ]
@[go_sem ↓] theorem abS {sz bytes key n:Nat} {w:CV} {l:List (List FV)}:W k u (WT q σ d sz bytes w l (.one (.own key n))) ↔ W (fun o=>(q = false ∧ (o.2.length + l.length) * bytes ≤ 140737488355328 ∧ o.1 = sz ∧ n = o.2.length ∧ vR key w = false ∧ key % 2 = 0 ∧ l.all (fun r=>r.length == sz) = true) ∧ k (.c (.one (.own key (o.2.length + l.length))),ji (sub σ key .any) key (.row sz (o.2 ++ l)))) ⟨⟩ (iE σ key):=by
  simp only [WT,dX,bB,bO,bJ]
def cov (σ:St) (sz:Nat) (i:Int):CV → Option (PV × St)
  | .one (.own key n)=>(iE σ key).bind fun o=>if o.1 = sz ∧ key % 2 = 0 ∧ 0 ≤ i ∧ i ≤ o.2.length then some (.c (.one (.own key i.toNat)),ji (sub σ key .any) key (.row sz (o.2.take i.toNat))) else none
  | _=>none
@[go_sem ↓] theorem aeK {sz:Nat}:W k u (cO Γ q σ d (.FB sz x y)) ↔ q = false ∧ W (fun v=>W (fun j=>W (fun p=>W k ⟨⟩ (cov σ sz p.2 v)) ⟨⟩ (int? j)) ⟨⟩ (val σ y)) ⟨⟩ (val σ x):=by
  simp only [cO,dX,bB,dH,Bool.not_eq_true]
  refine and_congr Iff.rfl (dx fun v=>dx fun j=>dx fun p=>?_)
  cases v with
  | agg l=>exact bY
  | one b =>
    cases b with
    | own key n =>
      simp only [cov,iE]
      cases get σ.ob key with
      | none=>exact bY
      | some o=>cases o <;> exact Iff.rfl
    | _=>exact bY
@[go_sem ↓] theorem af6 {sz key n:Nat} {i:Int}:W k u (cov σ sz i (.one (.own key n))) ↔ W (fun o=>(o.1 = sz ∧ key % 2 = 0 ∧ 0 ≤ i ∧ i ≤ (o.2.length:Int)) ∧ k (.c (.one (.own key i.toNat)),ji (sub σ key .any) key (.row sz (o.2.take i.toNat)))) ⟨⟩ (iE σ key):=by
  simp only [cov,dX,bB,bO,bJ]
def cvv (σ:St) (sz:Nat) (i:Int):CV → Option PL
  | .one (.own key n)=>(iE σ key).bind fun o=>if o.1 = sz ∧ 0 ≤ i ∧ i ≤ o.2.length then some (.vw key sz o.2.length i.toNat) else none
  | _=>none
@[go_sem ↓] theorem aeL {sz:Nat}:W k u (cO Γ q σ d (.cutV sz x y)) ↔ W (fun v=>W (fun j=>W (fun p=>W (fun l=>k (.c (.one l),σ)) ⟨⟩ (cvv σ sz p.2 v)) ⟨⟩ (int? j)) ⟨⟩ (val σ y)) ⟨⟩ (val σ x):=by
  simp only [cO,dX,bB]
  refine dx fun v=>dx fun j=>dx fun p=>?_
  cases v with
  | agg l=>exact bY
  | one b =>
    cases b with
    | own key n =>
      simp only [cvv,iE]
      cases get σ.ob key with
      | none=>exact bY
      | some o =>
        cases o with
        | row sz' rows=>simp only [LV,Option.bind_some,bO,bJ]
        | _=>exact bY
    | _=>exact bY
section
variable {k : PL → Prop} {u:Tok k}
@[go_sem ↓] theorem af7 {sz key n:Nat} {i:Int}:W k u (cvv σ sz i (.one (.own key n))) ↔ W (fun o=>(o.1 = sz ∧ 0 ≤ i ∧ i ≤ (o.2.length:Int)) ∧ k (.vw key sz o.2.length i.toNat)) ⟨⟩ (iE σ key):=by
  simp only [cvv,dX,bB,bO,bJ]
end
def vw? : CV → Option (Nat × Nat × Nat × Nat)
  | .one (.vw key z n lo)=>some (key,z,n,lo)
  | _=>none
@[go_sem] theorem aeM {a b c e:Nat}:vw? (.one (.vw a b c e)) = some (a,b,c,e):=rfl
@[go_sem ↓] theorem af8 {sz:Nat} {zs:List FV}:W k u (cO Γ q σ d (.Rz sz zs x)) ↔ W (fun v=>W (fun p=>W (fun o=>(o.1 = sz ∧ p.2.1 = sz ∧ zs.length = sz ∧ p.2.2.1 = o.2.length ∧ p.2.2.2 ≤ p.2.2.1) ∧ k (.uU [],ji σ p.1 (.row sz (o.2.take p.2.2.2 ++ List.replicate (p.2.2.1 - p.2.2.2) zs)))) ⟨⟩ (iE σ p.1)) ⟨⟩ (vw? v)) ⟨⟩ (val σ x):=by
  simp only [cO,dX,bB]
  refine dx fun v=>?_
  cases v with
  | agg l=>exact bY
  | one b =>
    cases b with
    | vw key z n lo =>
      simp only [vw?,bJ,iE]
      cases get σ.ob key with
      | none=>exact bY
      | some o =>
        cases o with
        | row sz' rows=>simp only [LV,bO,bJ]
        | _=>exact bY
    | _=>exact bY
def RP (σ:St):CV → Option (List (List FV))
  | .one (.f (.sl rows))=>some rows
  | .one .fT=>some []
  | .one (.own key _)=>(iE σ key).bind fun o=>if o.1 = 1 then some o.2 else none
  | _=>none
@[go_sem] theorem af9 {rows:List (List FV)}:RP σ (.one (.f (.sl rows))) = some rows:=rfl
@[go_sem] theorem aga : RP σ (.one .fT) = some []:=rfl
@[go_sem] theorem RQ : bytesOf [] = some ⟨#[]⟩:=rfl
@[go_sem] theorem OU {n:Int} {l:List (List FV)}:bytesOf ([.int .u8 n] :: l) = (bytesOf l).map fun s=>⟨#[UInt8.ofNat n.toNat] ++ s.data⟩:=rfl
section
variable {k : List (List FV) → Prop} {u:Tok k}
@[go_sem ↓] theorem agb {key n:Nat}:W k u (RP σ (.one (.own key n))) ↔ W (fun o=>o.1 = 1 ∧ k o.2) ⟨⟩ (iE σ key):=by
  simp only [RP,dX,bB,bO,bJ]
end
@[go_sem ↓] theorem agc : W k u (cO Γ q σ d (.Wv x)) ↔ W (fun v=>W (fun l=>W (fun s=>k (.c (.one (.f (.str s))),σ)) ⟨⟩ (bytesOf l)) ⟨⟩ (RP σ v)) ⟨⟩ (val σ x):=by
  simp only [cO,dX,bB]
  refine dx fun v=>?_
  cases v with
  | agg l=>exact bY
  | one b =>
    cases b with
    | f a =>
      cases a with
      | sl rows=>simp only [RP,bB,bJ,one]
      | _=>exact bY
    | fT=>simp only [RP,bJ,bytesOf,one]
    | own key n =>
      simp only [RP,iE]
      cases get σ.ob key with
      | none=>exact bY
      | some o =>
        cases o with
        | row sz' rows=>simp only [LV,Option.bind_some,bO,bB,bJ,one]
        | _=>exact bY
    | _=>exact bY
@[go_sem ↓] theorem agd {f:FuncId} {xs:List eF}:W k u (cO Γ q σ d (.Tt f xs)) ↔ W (fun l=>W (fun p=>k (.c (.one (.fn f p.1)),p.2)) ⟨⟩ (lV q σ l)) ⟨⟩ (jd σ xs):=by
  simp only [cO,dX,bB,bZ]
@[go_sem ↓] theorem aeN {f:FuncId} {xs:List eF}:W k u (cO Γ q σ d (.zD f xs)) ↔ W (fun l=>W (fun fZ=>W (fun r=>W (fun p=>W (fun s=>k (.c (.one (.own (dF d) p.2.length)),s)) ⟨⟩ (new σ (dF d) (.row p.1 p.2))) ⟨⟩ (Tx r.1)) ⟨⟩ (Γ f fZ)) ⟨⟩ (KM l)) ⟨⟩ (jd σ xs):=by
  simp only [cO,sK,dX,bB,bZ]
attribute [go_sem] avT Oe avC KM
@[go_sem] theorem YW {sz:Nat} {rows:List (List FV)}:Tx [.one (.own sz rows)] = some (sz,rows):=rfl
@[go_sem ↓] theorem abT {gv:Bool} {f:FuncId} {xs:List eF}:W k u (cO Γ q σ d (.call gv f xs)) ↔ W (fun l=>W k ⟨⟩ (kU Γ gv q σ d f l)) ⟨⟩ (jd σ xs):=by
  simp only [cO,dX,bB]
def fn? : CV → Option (FuncId × List (List FV))
  | .one (.fn f caps)=>some (f,caps)
  | _=>none
@[go_sem] theorem aeO {f:FuncId} {caps:List (List FV)}:fn? (.one (.fn f caps)) = some (f,caps):=rfl
@[go_sem ↓] theorem agf {xs:List eF}:W k u (cO Γ q σ d (.dyn x xs)) ↔ W (fun v=>W (fun p=>W (fun l=>W k ⟨⟩ (kU Γ false q σ d p.1 (l ++ p.2.map fun c=>.one (.fp c)))) ⟨⟩ (jd σ xs)) ⟨⟩ (fn? v)) ⟨⟩ (val σ x):=by
  simp only [cO,dX,bB]
  refine dx fun v=>?_
  cases v with
  | agg l=>exact bY
  | one b =>
    cases b with
    | fn f caps=>simp only [fn?,bJ,bB]
    | _=>exact bY
def OV (gv:Bool) (args:List CV) (p:List AV × St) (r:List AV × List AV):Option St:=if (!gv && ((r.1.any wF || !p.1.all fH) && args.any (fun x=>(cells x).any gF))) = true then sJ p.2 args else some p.2
def OW (d:Nat) (σ:St) (args:List CV) (p:List AV × St) (r:List AV × List AV) (s:St):Option St:=if p.1.all fH = true then some s else zG σ (args.flatMap cells) (dF d + 10000) s args r.2
@[go_sem ↓] theorem YX {gv:Bool} {f:FuncId} {args:List CV}:W k u (kU Γ gv q σ d f args) ↔ W (fun p=>W (fun r0=>W (fun r=>((q && !(p.1.all fH && r.1.all fH)) = false ∧ (q && ((r.1.any wF || !p.1.all fH) && args.any (fun x=>(cells x).any gF))) = false) ∧
    W (fun s=>W (fun s=>W (fun v=>k (Jj v.1,v.2)) ⟨⟩ (xH (dF d) 0 [] s r.1)) ⟨⟩ (OW d σ args p r s)) ⟨⟩ (OV gv args p r)) ⟨⟩ (some (Tw q r0))) ⟨⟩ (Γ f p.1)) ⟨⟩ (sI gv σ args):=by
  simp only [kU,dX,bB,dH,bZ,bJ,OV,OW,Bool.not_eq_true,and_assoc]
@[go_sem] theorem aeP {r:List AV × List AV}:Tw false r = r:=rfl
@[go_sem] theorem abU {r:List AV × List AV}:Tw true r = (r.1.map Od,r.2):=rfl
@[go_sem] theorem abV {sz:Nat} {rows:List (List FV)}:Od (.one (.own sz rows)) = .one (.f (.sl rows)):=rfl
@[go_sem] theorem agh {x:FV}:Od (.one (.f x)) = .one (.f x):=rfl
@[go_sem] theorem abW {xs:List TV}:Od (.agg xs) = .agg xs:=rfl
@[go_sem] theorem abX {xs:List CL}:Od (.one (.ptr xs)) = .one (.ptr xs):=rfl
end
section
variable {Γ : Env} {F:Nat} {k:List AV × List AV → Prop} {u:Tok k} {cf:CF} {fZ:List AV}
@[go_sem ↓] theorem agi : W k u (KE Γ F cf fZ) ↔ fZ.length = cf.np ∧ W (fun e=>W (fun p=>(∀ id,p.1 ≠ .ext id) ∧ W (fun b=>W (fun l=>W (fun r=>k (r.1,b.1)) ⟨⟩ (oD cf.ro b.2 l)) ⟨⟩ (slots b.2 cf.res)) ⟨⟩ (lJ p.2 e.1 fZ)) ⟨⟩ (ev Γ F cf.body e.2)) ⟨⟩ (enter cf.bo 0 [] ⟨[],[]⟩ fZ):=by
  simp only [KE,dX,dH,bB,ne_eq,Decidable.not_not]
  refine and_congr Iff.rfl (dx fun e=>dx fun p=>?_)
  obtain ⟨o,s⟩:=p
  cases o with
  | ext id=>simp [mD]
  | _=>simp [bB,bZ]
@[go_sem] theorem abY : (∀ id,Out.jk ≠ .ext id) ↔ True:=by simp
@[go_sem] theorem abZ : (∀ id,Out.ret ≠ .ext id) ↔ True:=by simp
@[go_sem] theorem ab0 {i:Nat}:(∀ id,Out.ext i ≠ .ext id) ↔ False:=by simp
end
end Go.Proofs.Ytdkkgecdhapfhaa.Ev
namespace Go.Proofs.Ytdkkgecdhapfhaa.Ev
open Go
attribute [go_sem] dF dY vR qX l8 nR FD Oa Jg sub ji oO gF jM plain fH RA KL wF Oc Jj KO Tz TA TB KN Tv rowsOf KV.ks SV.sk
attribute [go_sem] List.any_cons List.any_nil List.all_cons List.all_nil List.map_cons List.map_nil List.length_cons List.length_nil List.append_nil List.nil_append List.cons_append List.flatMap_cons List.flatMap_nil List.take_succ_cons List.take_zero List.take_nil List.drop_succ_cons List.drop_zero List.drop_nil Option.getD_some Option.getD_none List.filter_nil List.filter_cons List.headD_nil List.headD_cons List.tail_cons List.tail_nil
section
variable {σ : St} {α:Type}
section
variable {k : St → Prop} {u:Tok k} {key:Nat} {o:Ob} {pend:List PL}
@[go_sem ↓] theorem agj : W k u (new σ key o) ↔ (rem σ.ob key).any (fun p=>l8 key p.2) = false ∧ k ⟨σ.tm.filter (fun p=>!qX key p.2),(key,o) :: rem σ.ob key⟩:=by
  simp only [new,Ww,dX,bZ,dH,bJ,Bool.not_eq_true]
@[go_sem ↓] theorem aeQ : W k u (newP pend σ key o) ↔ pend.any (dY key) = false ∧ W k ⟨⟩ (new σ key o):=by
  simp only [newP,dX,dH,Bool.not_eq_true]
@[go_sem ↓] theorem agk : W k u (zC σ key) ↔ W (fun p=>k (sub ⟨σ.tm,rem σ.ob key⟩ key (.f (.sl p.2)))) ⟨⟩ (iE σ key):=by
  simp only [zC,iE,dX]
  cases get σ.ob key with
  | none=>exact bY
  | some o=>cases o <;> first | exact bY | exact lM Iff.rfl
@[go_sem ↓] theorem UH : W k u (xI σ []) ↔ k σ:=gK
@[go_sem ↓] theorem RS : W k u (sJ σ []) ↔ k σ:=gK
@[go_sem ↓] theorem OX {x:CV} {xs:List CV}:W k u (sJ σ (x :: xs)) ↔ W (fun s=>W k ⟨⟩ (sJ s xs)) ⟨⟩ (xI σ (cells x)):=by
  simp only [sJ,dX,bB]
def pE (σ:St):PL → Option St
  | .own key _=>zC σ key
  | _=>some σ
@[go_sem ↓] theorem RU {x:PL} {xs:List PL}:W k u (xI σ (x :: xs)) ↔ W (fun s=>W k ⟨⟩ (xI s xs)) ⟨⟩ (pE σ x):=by
  simp only [dX]
  cases x <;> simp only [xI,pE,bB,bJ]
@[go_sem ↓] theorem RV {n:Nat}:W k u (pE σ (.own key n)) ↔ W k ⟨⟩ (zC σ key):=Iff.rfl
@[go_sem] theorem ab1 {x:FV}:pE σ (.f x) = some σ:=rfl
@[go_sem] theorem WU : pE σ .fT = some σ:=rfl
@[go_sem] theorem WV {n:Nat}:pE σ (.ptr key n) = some σ:=rfl
@[go_sem] theorem YZ : pE σ (.mp key) = some σ:=rfl
@[go_sem] theorem WW : pE σ .jH = some σ:=rfl
@[go_sem] theorem UJ : pE σ .fD = some σ:=rfl
@[go_sem] theorem Y0 {f:FuncId} {c:List (List FV)}:pE σ (.fn f c) = some σ:=rfl
@[go_sem] theorem Y1 {c:List FV}:pE σ (.fp c) = some σ:=rfl
end
section
variable {k : FV × St → Prop} {u:Tok k} {key n:Nat}
@[go_sem] theorem agl {x:FV}:xC σ (.f x) = some (x,σ):=rfl
@[go_sem] theorem ab2 : xC σ .fT = some (.sl [],σ):=rfl
@[go_sem ↓] theorem WX : W k u (xC σ (.own key n)) ↔ W (fun p=>k (.sl p.2,sub ⟨σ.tm,rem σ.ob key⟩ key (.f (.sl p.2)))) ⟨⟩ (iE σ key):=by
  simp only [xC,zC,iE,dX]
  cases get σ.ob key with
  | none=>exact bY
  | some o=>cases o <;> first | exact bY | (simp only [Option.map_some];exact lM Iff.rfl)
end
section
variable {k : List FV × St → Prop} {u:Tok k}
@[go_sem ↓] theorem UK : W k u (kT σ []) ↔ k ([],σ):=gK
@[go_sem ↓] theorem RX {x:PL} {xs:List PL}:W k u (kT σ (x :: xs)) ↔ W (fun p=>W (fun r=>k (p.1 :: r.1,r.2)) ⟨⟩ (kT p.2 xs)) ⟨⟩ (xC σ x):=by
  simp only [kT,dX,bB,bZ]
@[go_sem ↓] theorem agm {key:Nat}:W k u (Wy σ key) ↔ W (fun xs=>W (fun p=>W (fun _=>k (p.1,TB (KN key p.1) ⟨p.2.tm,rem p.2.ob key⟩)) ⟨⟩ (get p.2.ob key)) ⟨⟩ (kT σ xs)) ⟨⟩ (oJ σ key):=by
  simp only [Wy,oJ,dX]
  cases get σ.ob key with
  | none=>exact bY
  | some o =>
    cases o with
    | ni xs =>
      simp only [oc,bJ,bB]
      refine dx fun p=>?_
      cases get p.2.ob key with
      | none=>exact bY
      | some o=>exact lM Iff.rfl
    | _=>exact bY
end
section
variable {k : FC × St → Prop} {u:Tok k}
@[go_sem ↓] theorem WY {x:PL}:W k u (Wx σ (.one x)) ↔ W (fun p=>k (.one p.1,p.2)) ⟨⟩ (xC σ x):=by simp only [Wx,dX,bZ]
@[go_sem ↓] theorem WZ {xs:List PL}:W k u (Wx σ (.agg xs)) ↔ W (fun p=>k (.agg p.1,p.2)) ⟨⟩ (kT σ xs):=by simp only [Wx,dX,bZ]
end
section
variable {k : List (List FV) × St → Prop} {u:Tok k} {q:Bool}
@[go_sem ↓] theorem UL : W k u (lV q σ []) ↔ k ([],σ):=by simp only [lV,dX,bJ]
@[go_sem ↓] theorem W9 {cs:List FV} {l:List CV}:W k u (lV q σ (.one (.fp cs) :: l)) ↔ W (fun r=>k (cs :: r.1,r.2)) ⟨⟩ (lV q σ l):=by simp only [lV,dX,bZ]
@[go_sem ↓] theorem UM {key:Nat} {l:List CV}:W k u (lV q σ (.one (.ptr key 0) :: l)) ↔ q = false ∧ W (fun p=>W (fun r=>k (p.1 :: r.1,r.2)) ⟨⟩ (lV q p.2 l)) ⟨⟩ (Wy σ key):=by
  simp only [lV,dX,dH,bB,bZ,Bool.not_eq_true]
end
section
variable {k : List (Nat × Nat × CV) → Prop} {u:Tok k}
@[go_sem ↓] theorem UN : W k u (vals σ []) ↔ k []:=gK
@[go_sem ↓] theorem RY {o n:Nat} {x:eF} {ps:List (Nat × Nat × eF)}:W k u (vals σ ((o,n,x) :: ps)) ↔ W (fun v=>W (fun l=>k ((o,n,v) :: l)) ⟨⟩ (vals σ ps)) ⟨⟩ (val σ x):=by
  simp only [vals,dX,bB,bZ]
end
section
variable {k : List CV → Prop} {u:Tok k}
@[go_sem ↓] theorem RZ : W k u (jd σ []) ↔ k []:=gK
@[go_sem ↓] theorem OY {x:eF} {xs:List eF}:W k u (jd σ (x :: xs)) ↔ W (fun v=>W (fun l=>k (v :: l)) ⟨⟩ (jd σ xs)) ⟨⟩ (val σ x):=by
  simp only [jd,dX,bB,bZ]
@[go_sem ↓] theorem R3 : W k u (slots σ []) ↔ k []:=gK
@[go_sem ↓] theorem OZ {x:Rs} {xs:List Rs}:W k u (slots σ (x :: xs)) ↔ W (fun v=>W (fun l=>k (v :: l)) ⟨⟩ (slots σ xs)) ⟨⟩ (slot σ x):=by
  simp only [slots,dX,bB,bZ]
end
section
variable {k : CV → Prop} {u:Tok k} {i n:Nat} {agg:Bool}
@[go_sem ↓] theorem Y2 : W k u (slot σ (.t i)) ↔ W k ⟨⟩ (vl (get σ.tm i)):=by rw [← Yy];exact Iff.rfl
@[go_sem ↓] theorem R4 : W k u (slot σ (.cell i n agg)) ↔ W (fun v=>W (fun p=>W (fun xs=>W (fun l=>W k ⟨⟩ (mk agg l)) ⟨⟩ (seg n p.2 xs)) ⟨⟩ (oJ σ p.1)) ⟨⟩ (Jy v)) ⟨⟩ (vl (get σ.tm i)):=by
  simp only [slot,dX]
  cases get σ.tm i with
  | none=>exact bY
  | some v =>
    cases v with
    | uU l=>exact bY
    | c x =>
      simp only [vl,bJ]
      cases x with
      | agg l=>exact bY
      | one p =>
        cases p with
        | ptr key off =>
          simp only [Jy,bJ,oJ]
          cases get σ.ob key with
          | none=>exact bY
          | some o=>cases o <;> first | exact bY | (simp only [oc,bJ,bB])
        | _=>exact bY
end
section
variable {k : List PL → Prop} {u:Tok k} {z:List PL}
@[go_sem ↓] theorem UO : W k u (fill z []) ↔ k z:=by simp only [fill,dX,bJ]
@[go_sem ↓] theorem R5 {off n:Nat} {v:CV} {ps:List (Nat × Nat × CV)}:W k u (fill z ((off,n,v) :: ps)) ↔ ((cells v).length = n ∧ (cells v).any oO = false) ∧ W (fun z=>W k ⟨⟩ (fill z ps)) ⟨⟩ (lay off (cells v) z):=by
  simp only [fill,dX,bO,bB]
end
@[go_sem] theorem Y3 {kk:IntKind} {n:Int}:wE (.int kk n) = some (.int kk n):=rfl
@[go_sem] theorem Xa {b:Bool}:wE (.bool b) = some (.bool b):=rfl
@[go_sem] theorem Y4 {s:ByteArray}:wE (.str s) = some (.str s):=rfl
section
variable {k : KV → Prop} {u:Tok k}
@[go_sem ↓] theorem Xb {x:FV}:W k u (keyOf (.one (.f x))) ↔ W (fun s=>k (.one s)) ⟨⟩ (wE x):=by simp only [keyOf,GR,Option.bind_some,dX,bZ]
@[go_sem ↓] theorem Xc {xs:List PL}:W k u (keyOf (.agg xs)) ↔ W (fun l=>W (fun s=>k (.agg s)) ⟨⟩ (sH l)) ⟨⟩ (nS xs):=by simp only [keyOf,dX,bB,bZ]
end
section
variable {k : List SV → Prop} {u:Tok k}
@[go_sem ↓] theorem R6 : W k u (sH []) ↔ k []:=gK
@[go_sem ↓] theorem O1 {x:FV} {xs:List FV}:W k u (sH (x :: xs)) ↔ W (fun s=>W (fun l=>k (s :: l)) ⟨⟩ (sH xs)) ⟨⟩ (wE x):=by simp only [sH,dX,bB,bZ]
end
section
variable {k : List FV → Prop} {u:Tok k}
@[go_sem ↓] theorem O4 : W k u (nS []) ↔ k []:=gK
@[go_sem ↓] theorem NY {x:FV} {xs:List PL}:W k u (nS (.f x :: xs)) ↔ W (fun l=>k (x :: l)) ⟨⟩ (nS xs):=by simp only [nS,GR,Option.bind_some,dX,bZ]
end
section
variable {k : CL × St → Prop} {u:Tok k} {key n:Nat}
@[go_sem] theorem agn {x:FV}:Jh σ (.f x) = some (.f x,σ):=rfl
@[go_sem] theorem ab3 : Jh σ .fT = some (.f (.sl []),σ):=rfl
@[go_sem] theorem ab4 : Jh σ .jH = some (.jH,σ):=rfl
@[go_sem] theorem Y5 : Jh σ .fD = some (.fD,σ):=rfl
@[go_sem ↓] theorem Xd : W k u (Jh σ (.own key n)) ↔ W (fun o=>k (.own o.1 o.2,⟨σ.tm,rem σ.ob key⟩)) ⟨⟩ (iE σ key):=by
  simp only [Jh,iE,dX]
  cases get σ.ob key with
  | none=>exact bY
  | some o=>cases o <;> first | exact bY | exact lM Iff.rfl
@[go_sem ↓] theorem Y6 : W k u (Jh σ (.mp key)) ↔ W (fun o=>k (.mp o.1 o.2,⟨σ.tm,rem σ.ob key⟩)) ⟨⟩ (nW σ key):=by
  simp only [Jh,nW,dX]
  cases get σ.ob key with
  | none=>exact bY
  | some o=>cases o <;> first | exact bY | exact lM Iff.rfl
end
section
variable {k : List CL × St → Prop} {u:Tok k}
@[go_sem ↓] theorem UQ : W k u (zF σ []) ↔ k ([],σ):=gK
@[go_sem ↓] theorem R7 {x:PL} {xs:List PL}:W k u (zF σ (x :: xs)) ↔ W (fun p=>W (fun r=>k (p.1 :: r.1,r.2)) ⟨⟩ (zF p.2 xs)) ⟨⟩ (Jh σ x):=by
  simp only [zF,dX,bB,bZ]
end
section
variable {k : TV × St → Prop} {u:Tok k} {key n:Nat} {gv:Bool}
@[go_sem] theorem agp {x:FV}:rH gv σ (.f x) = some (.f x,σ):=rfl
@[go_sem] theorem ab5 : rH gv σ .fT = some (.f (.sl []),σ):=rfl
@[go_sem] theorem ab6 : rH gv σ .jH = some (.jH,σ):=rfl
@[go_sem] theorem Y7 : rH gv σ .fD = some (.fD,σ):=rfl
@[go_sem] theorem aeR {cs:List FV}:rH gv σ (.fp cs) = some (.fp cs,σ):=rfl
@[go_sem] theorem aeS {f:FuncId} {cs:List (List FV)}:rH gv σ (.fn f cs) = some (.fn f cs,σ):=rfl
@[go_sem ↓] theorem Xe : W k u (rH false σ (.own key n)) ↔ W (fun o=>k (.f (.sl o.2),σ)) ⟨⟩ (iE σ key):=by
  simp only [rH,iE,dX]
  cases get σ.ob key with
  | none=>exact bY
  | some o=>cases o <;> first | exact bY | exact lM Iff.rfl
@[go_sem ↓] theorem UR : W k u (rH true σ (.own key n)) ↔ W (fun o=>k (.own o.1 o.2,⟨σ.tm,rem σ.ob key⟩)) ⟨⟩ (iE σ key):=by
  simp only [rH,iE,dX]
  cases get σ.ob key with
  | none=>exact bY
  | some o=>cases o <;> first | exact bY | exact lM Iff.rfl
@[go_sem ↓] theorem Y8 : W k u (rH gv σ (.mp key)) ↔ W (fun o=>k (.mp o.1 o.2,⟨σ.tm,rem σ.ob key⟩)) ⟨⟩ (nW σ key):=by
  simp only [rH,nW,dX]
  cases get σ.ob key with
  | none=>exact bY
  | some o=>cases o <;> first | exact bY | exact lM Iff.rfl
@[go_sem ↓] theorem Xf : W k u (rH gv σ (.ptr key 0)) ↔ W (fun xs=>W (fun p=>k (.ptr p.1,p.2)) ⟨⟩ (zF ⟨σ.tm,rem σ.ob key⟩ xs)) ⟨⟩ (oJ σ key):=by
  simp only [rH,oJ,dX]
  cases get σ.ob key with
  | none=>exact bY
  | some o=>cases o <;> first | exact bY | (simp only [oc,bJ,bZ])
end
section
variable {k : List TV × St → Prop} {u:Tok k} {gv:Bool}
@[go_sem ↓] theorem UU : W k u (rJ gv σ []) ↔ k ([],σ):=gK
@[go_sem ↓] theorem R8 {x:PL} {xs:List PL}:W k u (rJ gv σ (x :: xs)) ↔ W (fun p=>W (fun r=>k (p.1 :: r.1,r.2)) ⟨⟩ (rJ gv p.2 xs)) ⟨⟩ (rH gv σ x):=by
  simp only [rJ,dX,bB,bZ]
end
section
variable {k : AV × St → Prop} {u:Tok k} {gv:Bool}
@[go_sem ↓] theorem Xg {x:PL}:W k u (KC gv σ (.one x)) ↔ W (fun p=>k (.one p.1,p.2)) ⟨⟩ (rH gv σ x):=by simp only [KC,dX,bZ]
@[go_sem ↓] theorem Xh {xs:List PL}:W k u (KC gv σ (.agg xs)) ↔ W (fun p=>k (.agg p.1,p.2)) ⟨⟩ (rJ gv σ xs):=by simp only [KC,dX,bZ]
end
section
variable {k : List AV × St → Prop} {u:Tok k} {gv:Bool}
@[go_sem ↓] theorem UW : W k u (sI gv σ []) ↔ k ([],σ):=gK
@[go_sem ↓] theorem R9 {x:CV} {xs:List CV}:W k u (sI gv σ (x :: xs)) ↔ W (fun p=>W (fun r=>k (p.1 :: r.1,r.2)) ⟨⟩ (sI gv p.2 xs)) ⟨⟩ (KC gv σ x):=by
  simp only [sI,dX,bB,bZ]
end
section
variable {k : List PL × St → Prop} {u:Tok k} {kf:Nat → Nat} {c base j:Nat} {pend:List PL}
@[go_sem ↓] theorem UY : W k u (qJ kf c pend σ []) ↔ k ([],σ):=by simp only [qJ,dX,bJ]
def O5 (kf:Nat → Nat) (c:Nat) (pend:List PL) (σ:St):CL → Option (PL × St)
  | .f x=>some (.f x,σ)
  | .jH=>some (.jH,σ)
  | .fD=>some (.fD,σ)
  | .mp sh ents=>(newP pend σ (kf c) (.map sh ents)).map fun s=>(.mp (kf c),s)
  | .own sz rows=>(newP pend σ (kf c + kf c % 2) (.row sz rows)).map fun s=>(.own (kf c + kf c % 2) rows.length,s)
@[go_sem ↓] theorem Sb {x:CL} {xs:List CL}:W k u (qJ kf c pend σ (x :: xs)) ↔ W (fun p=>W (fun r=>k (p.1 :: r.1,r.2)) ⟨⟩ (qJ kf (c + 1) (p.1 :: pend) p.2 xs)) ⟨⟩ (O5 kf c pend σ x):=by
  simp only [dX]
  cases x <;> simp only [qJ,O5,bJ,bB,bZ]
@[go_sem ↓] theorem UZ : W k u (xG base j pend σ []) ↔ k ([],σ):=by simp only [xG,dX,bJ]
@[go_sem ↓] theorem Sc {x:TV} {xs:List TV}:W k u (xG base j pend σ (x :: xs)) ↔ W (fun p=>W (fun r=>k (p.1 :: r.1,r.2)) ⟨⟩ (xG base (j + 1) (p.1 :: pend) p.2 xs)) ⟨⟩ (Dr (base + 200 * (j + 1)) pend σ x):=by
  simp only [xG,dX,bB,bZ]
end
section
variable {k : PL × St → Prop} {u:Tok k} {kf:Nat → Nat} {c key:Nat} {pend:List PL}
@[go_sem] theorem agq {x:FV}:O5 kf c pend σ (.f x) = some (.f x,σ):=rfl
@[go_sem] theorem ab7 : O5 kf c pend σ .jH = some (.jH,σ):=rfl
@[go_sem] theorem Y9 : O5 kf c pend σ .fD = some (.fD,σ):=rfl
@[go_sem ↓] theorem Za {sh:KS} {ents:List (KV × FC)}:W k u (O5 kf c pend σ (.mp sh ents)) ↔ W (fun s=>k (.mp (kf c),s)) ⟨⟩ (newP pend σ (kf c) (.map sh ents)):=by simp only [O5,dX,bZ]
@[go_sem ↓] theorem Xi {sz:Nat} {rows:List (List FV)}:W k u (O5 kf c pend σ (.own sz rows)) ↔ W (fun s=>k (.own (kf c + kf c % 2) rows.length,s)) ⟨⟩ (newP pend σ (kf c + kf c % 2) (.row sz rows)):=by simp only [O5,dX,bZ]
@[go_sem] theorem agr {x:FV}:Dr key pend σ (.f x) = some (.f x,σ):=rfl
@[go_sem] theorem ab8 : Dr key pend σ .jH = some (.jH,σ):=rfl
@[go_sem] theorem Zb : Dr key pend σ .fD = some (.fD,σ):=rfl
@[go_sem] theorem aeT {cs:List FV}:Dr key pend σ (.fp cs) = some (.fp cs,σ):=rfl
@[go_sem] theorem aeU {f:FuncId} {cs:List (List FV)}:Dr key pend σ (.fn f cs) = some (.fn f cs,σ):=rfl
@[go_sem] theorem ab9 : Dr key pend σ .any = some (.any,σ):=rfl
@[go_sem ↓] theorem Zc {sh:KS} {ents:List (KV × FC)}:W k u (Dr key pend σ (.mp sh ents)) ↔ W (fun s=>k (.mp key,s)) ⟨⟩ (newP pend σ key (.map sh ents)):=by simp only [Dr,dX,bZ]
@[go_sem ↓] theorem Xj {sz:Nat} {rows:List (List FV)}:W k u (Dr key pend σ (.own sz rows)) ↔ W (fun s=>k (.own (ow key) rows.length,s)) ⟨⟩ (newP pend σ (ow key) (.row sz rows)):=by simp only [Dr,dX,bZ]
@[go_sem ↓] theorem Xk {cs:List CL}:W k u (Dr key pend σ (.ptr cs)) ↔ W (fun p=>p.1.any (dY key) = false ∧ W (fun s=>k (.ptr key 0,s)) ⟨⟩ (newP pend p.2 key (.ni p.1))) ⟨⟩ (qJ (Oc key) 0 pend σ cs):=by
  simp only [Dr,dX,bB,dH,bZ,Bool.not_eq_true]
end
section
variable {k : CV × St → Prop} {u:Tok k} {base:Nat} {pend:List PL}
@[go_sem ↓] theorem Xl {x:TV}:W k u (KD base pend σ (.one x)) ↔ W (fun p=>k (.one p.1,p.2)) ⟨⟩ (Dr (base + 200) pend σ x):=by simp only [KD,dX,bZ]
@[go_sem ↓] theorem Xm {xs:List TV}:W k u (KD base pend σ (.agg xs)) ↔ W (fun p=>k (.agg p.1,p.2)) ⟨⟩ (xG base 0 pend σ xs):=by simp only [KD,dX,bZ]
end
section
variable {k : List CV × St → Prop} {u:Tok k} {base i:Nat} {pend:List PL} {bo:List Nat}
@[go_sem] theorem ags : ab bo i = if bo.contains i then dF i + 10001 else dF i + 1:=rfl
@[go_sem] theorem agt {key:Nat}:ow key = if key / 10000 % 2 = 0 then key + key % 2 else key:=rfl
@[go_sem ↓] theorem U0 : W k u (xH base i pend σ []) ↔ k ([],σ):=by simp only [xH,dX,bJ]
@[go_sem ↓] theorem Sd {x:AV} {xs:List AV}:W k u (xH base i pend σ (x :: xs)) ↔ W (fun p=>W (fun r=>k (p.1 :: r.1,r.2)) ⟨⟩ (xH base (i + 1) (cells p.1 ++ pend) p.2 xs)) ⟨⟩ (KD (base + 2000 * i) pend σ x):=by
  simp only [xH,dX,bB,bZ]
@[go_sem ↓] theorem Sg : W k u (enter bo i pend σ []) ↔ k ([],σ):=by simp only [enter,dX,bJ]
@[go_sem ↓] theorem O6 {x:AV} {xs:List AV}:W k u (enter bo i pend σ (x :: xs)) ↔ W (fun p=>W (fun s=>W (fun r=>k (p.1 :: r.1,r.2)) ⟨⟩ (enter bo (i + 1) (cells p.1 ++ pend) s xs)) ⟨⟩ (some ⟨put p.2.tm i (.c p.1),p.2.ob⟩)) ⟨⟩ (KD (ab bo i) pend σ x):=by
  simp only [enter,dX,bB,bZ,bJ]
end
section
variable {k : St → Prop} {u:Tok k} {fJ:St} {base:Nat} {pend:List PL}
@[go_sem ↓] theorem U1 : W k u (zG fJ pend base σ [] []) ↔ k σ:=by simp only [zG,dX,bJ]
@[go_sem ↓] theorem Si {x:CV} {xs:List CV} {y:AV} {ys:List AV}:W k u (zG fJ pend base σ (x :: xs) (y :: ys)) ↔ W (fun s=>W k ⟨⟩ (zG fJ pend (base + 1000) s xs ys)) ⟨⟩ (XG fJ pend base σ x y):=by
  simp only [zG,dX,bB]
@[go_sem ↓] theorem Xn {x:PL} {y:TV}:W k u (XG fJ pend base σ (.one x) (.one y)) ↔ W k ⟨⟩ (Dt fJ pend base σ x y):=Iff.rfl
@[go_sem ↓] theorem Xo {x:List PL} {y:List TV}:W k u (XG fJ pend base σ (.agg x) (.agg y)) ↔ W k ⟨⟩ (Bw fJ pend base σ x y):=Iff.rfl
@[go_sem ↓] theorem U2 : W k u (Bw fJ pend base σ [] []) ↔ k σ:=by simp only [Bw,dX,bJ]
@[go_sem ↓] theorem Sj {x:PL} {xs:List PL} {y:TV} {ys:List TV}:W k u (Bw fJ pend base σ (x :: xs) (y :: ys)) ↔ W (fun s=>W k ⟨⟩ (Bw fJ pend (base + 200) s xs ys)) ⟨⟩ (Dt fJ pend base σ x y):=by
  simp only [Bw,dX,bB]
@[go_sem ↓] theorem Xp {key off:Nat} {cs:List CL}:W k u (Dt fJ pend base σ (.ptr key off) (.ptr cs)) ↔ W (fun xs=>W (fun p=>k (ji p.2 key (.ni p.1))) ⟨⟩ (qJ (Ji base xs) 0 pend σ cs)) ⟨⟩ (oJ fJ key):=by
  simp only [Dt,oJ,dX]
  cases get fJ.ob key with
  | none=>exact bY
  | some o=>cases o <;> first | exact bY | (simp only [oc,bJ,bZ])
@[go_sem] theorem aeV {key:Nat} {sh:KS} {ents:List (KV × FC)}:Dt fJ pend base σ (.mp key) (.mp sh ents) = some (ji σ key (.map sh ents)):=rfl
@[go_sem] theorem Zd {key n sz:Nat} {rows:List (List FV)}:Dt fJ pend base σ (.own key n) (.own sz rows) = some (ji σ key (.row sz rows)):=rfl
@[go_sem] theorem agu {x y:FV}:Dt fJ pend base σ (.f x) (.f y) = some σ:=rfl
@[go_sem] theorem acd {y:FV}:Dt fJ pend base σ .fT (.f y) = some σ:=rfl
@[go_sem] theorem ace : Dt fJ pend base σ .jH .jH = some σ:=rfl
@[go_sem] theorem Ze : Dt fJ pend base σ .fD .fD = some σ:=rfl
@[go_sem] theorem acf {key n:Nat} {y:FV}:Dt fJ pend base σ (.own key n) (.f y) = some σ:=rfl
@[go_sem] theorem acg {key n:Nat}:Dt fJ pend base σ (.own key n) .any = some σ:=rfl
@[go_sem] theorem aeW {a b:List FV}:Dt fJ pend base σ (.fp a) (.fp b) = some σ:=rfl
@[go_sem] theorem aeX {f g:FuncId} {a b:List (List FV)}:Dt fJ pend base σ (.fn f a) (.fn g b) = some σ:=rfl
end
def Xq (base c:Nat):Option PL → Nat
  | some (.mp k)=>if k % 2 = 0 then k else base + 2 * (c + 1)
  | some (.own k _)=>if k % 2 = 0 then k else base + 2 * (c + 1)
  | _=>base + 2 * (c + 1)
@[go_sem] theorem ach {base c:Nat} {xs:List PL}:Ji base xs c = Xq base c (xs[c]?):=by
  unfold Ji
  cases xs[c]? with
  | none=>rfl
  | some x=>cases x <;> rfl
@[go_sem] theorem aeY {base c k:Nat}:Xq base c (some (.mp k)) = if k % 2 = 0 then k else base + 2 * (c + 1):=rfl
@[go_sem] theorem aci {base c k n:Nat}:Xq base c (some (.own k n)) = if k % 2 = 0 then k else base + 2 * (c + 1):=rfl
@[go_sem] theorem agv {base c:Nat} {x:FV}:Xq base c (some (.f x)) = base + 2 * (c + 1):=rfl
@[go_sem] theorem acj {base c:Nat}:Xq base c (some .fT) = base + 2 * (c + 1):=rfl
@[go_sem] theorem Zf {base c:Nat}:Xq base c (some .fD) = base + 2 * (c + 1):=rfl
section
variable {k : TV × St → Prop} {u:Tok k} {key n:Nat}
@[go_sem] theorem aeZ {x:FV}:outT σ (.f x) = some (.f x,σ):=rfl
@[go_sem] theorem Zg : outT σ .fT = some (.f (.sl []),σ):=rfl
@[go_sem] theorem Zh : outT σ .jH = some (.jH,σ):=rfl
@[go_sem] theorem Xr : outT σ .fD = some (.fD,σ):=rfl
@[go_sem] theorem acn {cs:List FV}:outT σ (.fp cs) = some (.fp cs,σ):=rfl
@[go_sem] theorem aco {f:FuncId} {cs:List (List FV)}:outT σ (.fn f cs) = some (.fn f cs,σ):=rfl
@[go_sem ↓] theorem U3 : W k u (outT σ (.own key n)) ↔ W (fun p=>k (.f p.1,p.2)) ⟨⟩ (xC σ (.own key n)):=by simp only [outT,dX,bZ]
@[go_sem ↓] theorem Xt : W k u (outT σ (.mp key)) ↔ W (fun o=>k (.mp o.1 o.2,⟨σ.tm,rem σ.ob key⟩)) ⟨⟩ (nW σ key):=by
  simp only [outT,nW,dX]
  cases get σ.ob key with
  | none=>exact bY
  | some o=>cases o <;> first | exact bY | exact lM Iff.rfl
@[go_sem ↓] theorem U4 : W k u (outT σ (.ptr key 0)) ↔ W (fun xs=>W (fun p=>k (.ptr p.1,p.2)) ⟨⟩ (zF ⟨σ.tm,rem σ.ob key⟩ xs)) ⟨⟩ (oJ σ key):=by
  simp only [outT,oJ,dX]
  cases get σ.ob key with
  | none=>exact bY
  | some o=>cases o <;> first | exact bY | (simp only [oc,bJ,bZ])
@[go_sem ↓] theorem U5 {sz:Nat}:W k u (Bz sz σ (.own key n)) ↔ W (fun o=>o.1 = sz ∧ k (.own sz o.2,⟨σ.tm,rem σ.ob key⟩)) ⟨⟩ (iE σ key):=by
  simp only [Bz,iE,dX]
  cases get σ.ob key with
  | none=>exact bY
  | some o=>cases o <;> first | exact bY | (simp only [LV,bJ,bO])
@[go_sem ↓] theorem U6 {sz:Nat}:W k u (Bz sz σ .fT) ↔ ¬ sz = 0 ∧ k (.own sz [],σ):=by simp only [Bz,dX,dH,bJ]
@[go_sem] theorem acp {x:PL} {y:FV}:jP σ x (.f y) = some (.f y,σ):=by cases x <;> first | rfl | (rename_i a b;cases b <;> rfl)
@[go_sem] theorem Xu {x:PL}:jP σ x .jH = some (.jH,σ):=by cases x <;> first | rfl | (rename_i a b;cases b <;> rfl)
@[go_sem] theorem U7 {x:PL}:jP σ x .fD = some (.fD,σ):=by cases x <;> first | rfl | (rename_i a b;cases b <;> rfl)
def bko (σ:St) (key:Nat):Nat → Option (TV × St)
  | 1=>(LV (get σ.ob key)).map fun p=>(.own p.1 p.2,⟨σ.tm,rem σ.ob key⟩)
  | _=>some (.any,σ)
@[go_sem] theorem agw : bko σ key 0 = some (.any,σ):=rfl
@[go_sem] theorem Zi : bko σ key 1 = (LV (get σ.ob key)).map fun p=>(.own p.1 p.2,⟨σ.tm,rem σ.ob key⟩):=rfl
@[go_sem] theorem Xv {n sz:Nat} {rows:List (List FV)}:jP σ (.own key n) (.own sz rows) = bko σ key (key % 2):=by
  simp only [jP]
  rcases Nat.mod_two_eq_zero_or_one key with h | h
  · rw [h,if_neg (by decide)];rfl
  · rw [h,if_pos rfl,Zi]
    cases get σ.ob key with
    | none=>rfl
    | some o=>cases o <;> rfl
@[go_sem] theorem Xw {sz:Nat} {rows:List (List FV)}:jP σ .fT (.own sz rows) = some (.any,σ):=rfl
@[go_sem] theorem Xx {x:PL}:jP σ x .any = some (.any,σ):=by cases x <;> first | rfl | (rename_i a b;cases b <;> rfl)
@[go_sem] theorem Zj {x:PL} {cs:List FV}:jP σ x (.fp cs) = some (.fp cs,σ):=by cases x <;> first | rfl | (rename_i a b;cases b <;> rfl)
@[go_sem] theorem Zk {x:PL} {f:FuncId} {cs:List (List FV)}:jP σ x (.fn f cs) = some (.fn f cs,σ):=by cases x <;> first | rfl | (rename_i a b;cases b <;> rfl)
@[go_sem ↓] theorem Sk {cs:List CL}:W k u (jP σ (.ptr key 0) (.ptr cs)) ↔ key % 2 = 1 ∧ W k ⟨⟩ (outT σ (.ptr key 0)):=by simp only [jP,dX,bO]
@[go_sem ↓] theorem U8 {sh:KS} {ents:List (KV × FC)}:W k u (jP σ (.mp key) (.mp sh ents)) ↔ key % 2 = 1 ∧ W k ⟨⟩ (outT σ (.mp key)):=by simp only [jP,dX,bO]
end
section
variable {k : List TV × St → Prop} {u:Tok k}
@[go_sem ↓] theorem Sl : W k u (vS σ []) ↔ k ([],σ):=gK
@[go_sem ↓] theorem O7 {x:PL} {xs:List PL}:W k u (vS σ (x :: xs)) ↔ W (fun p=>W (fun r=>k (p.1 :: r.1,r.2)) ⟨⟩ (vS p.2 xs)) ⟨⟩ (outT σ x):=by
  simp only [vS,dX,bB,bZ]
@[go_sem ↓] theorem O8 : W k u (nT σ [] []) ↔ k ([],σ):=by simp only [nT,dX,bJ]
@[go_sem ↓] theorem NZ {l:PL} {ls:List PL} {x:TV} {xs:List TV}:W k u (nT σ (l :: ls) (x :: xs)) ↔ W (fun p=>W (fun r=>k (p.1 :: r.1,r.2)) ⟨⟩ (nT p.2 ls xs)) ⟨⟩ (jP σ l x):=by
  simp only [nT,dX,bB,bZ]
end
section
variable {k : AV × St → Prop} {u:Tok k}
@[go_sem ↓] theorem KG {x:PL}:W k u (BA none σ (.one x)) ↔ W (fun p=>k (.one p.1,p.2)) ⟨⟩ (outT σ x):=by simp only [BA,Oi,dX,bZ]
@[go_sem ↓] theorem KH {xs:List PL}:W k u (BA none σ (.agg xs)) ↔ W (fun p=>k (.agg p.1,p.2)) ⟨⟩ (vS σ xs):=by simp only [BA,Oi,dX,bZ]
@[go_sem ↓] theorem Sm {sz:Nat} {x:PL}:W k u (BA (some sz) σ (.one x)) ↔ W (fun p=>k (.one p.1,p.2)) ⟨⟩ (Bz sz σ x):=by simp only [BA,dX,bZ]
@[go_sem ↓] theorem Sn {l:PL} {x:TV}:W k u (xJ σ (.one l) (.one x)) ↔ W (fun p=>k (.one p.1,p.2)) ⟨⟩ (jP σ l x):=by simp only [xJ,dX,bZ]
@[go_sem ↓] theorem Sq {l:List PL} {x:List TV}:W k u (xJ σ (.agg l) (.agg x)) ↔ W (fun p=>k (.agg p.1,p.2)) ⟨⟩ (nT σ l x):=by simp only [xJ,dX,bZ]
end
section
variable {k : List AV × St → Prop} {u:Tok k}
@[go_sem ↓] theorem Sr {fl:List (Option Nat)}:W k u (oD fl σ []) ↔ k ([],σ):=by simp only [oD,dX,bJ]
@[go_sem ↓] theorem O9 {fl:List (Option Nat)} {x:CV} {xs:List CV}:W k u (oD fl σ (x :: xs)) ↔ W (fun p=>W (fun r=>k (p.1 :: r.1,r.2)) ⟨⟩ (oD fl.tail p.2 xs)) ⟨⟩ (BA (fl.headD none) σ x):=by
  simp only [oD,dX,bB,bZ]
@[go_sem ↓] theorem Pb : W k u (lJ σ [] []) ↔ k ([],σ):=by simp only [lJ,dX,bJ]
@[go_sem ↓] theorem N7 {l:CV} {ls:List CV} {x:AV} {xs:List AV}:W k u (lJ σ (l :: ls) (x :: xs)) ↔ W (fun p=>W (fun r=>k (p.1 :: r.1,r.2)) ⟨⟩ (lJ p.2 ls xs)) ⟨⟩ (xJ σ l x):=by
  simp only [lJ,dX,bB,bZ]
end
section
variable {k : St → Prop} {u:Tok k} {gv:Bool} {d:Nat} {args:List CV} {p:List AV × St} {r:List AV × List AV} {s:St}
@[go_sem ↓] theorem ae0 : W k u (OV gv args p r) ↔ (if (!gv && ((r.1.any wF || !p.1.all fH) && args.any (fun x=>(cells x).any gF))) = true then W k ⟨⟩ (sJ p.2 args) else k p.2):=by
  simp only [OV,dX]
  split
  · exact Iff.rfl
  · exact bJ
@[go_sem ↓] theorem ae1 : W k u (OW d σ args p r s) ↔ (if p.1.all fH = true then k s else W k ⟨⟩ (zG σ (args.flatMap cells) (dF d + 10000) s args r.2)):=by
  simp only [OW,dX]
  split
  · exact bJ
  · exact Iff.rfl
end
end
section
variable {σ : St} {ks Dq:List Nat} {rws:List (Nat × Nat)}
@[go_sem] theorem ae2 : res ks Dq rws σ = ⟨pick ks (jk σ rws).tm,pick Dq (jk σ rws).ob⟩:=rfl
@[go_sem] theorem acr : jk σ [] = σ:=rfl
end
attribute [go_sem] if_true if_false true_and and_true Bool.not_false Bool.not_true Bool.and_false Bool.false_and Bool.and_true Bool.true_and Bool.or_false Bool.false_or Bool.or_true Bool.true_or Bool.false_eq_true not_true_eq_false not_false_eq_true ne_eq forall_const and_self implies_true KV.one.injEq KV.agg.injEq SV.str.injEq SV.int.injEq SV.bool.injEq List.cons.injEq List.getElem?_cons_zero List.getElem?_cons_succ List.getD_cons_zero List.getD_cons_succ List.contains_cons List.contains_nil decide_true decide_false fresh
end Go.Proofs.Ytdkkgecdhapfhaa.Ev
namespace Go.Proofs.Ytdkkgecdhapfhaa.Kn
open Go Ev
def c14 : CF:=⟨2,[(.t 4)],[],[],(.seq (.reg [⟨some 4,none,.mv (.k (.one (.f (.bool false))))⟩] [0,1]) (.seq (.seq (.reg [⟨some 5,none,.mv (.k (.one (.f (.int .i64 0))))⟩] [0,1,5]) (.block 0 (.loop [0,1,5] [20202] [] (.seq (.seq (.reg [⟨some 6,none,.mv (.t 5)⟩,⟨some 7,none,.mv (.t 0)⟩,⟨some 8,none,.jh (.t 7)⟩,⟨some 9,none,.cmp .lt (.t 6) (.t 8)⟩] [0,1,5,9]) (.cond (.t 9) .skip (.exit 0))) (.seq (.block 1 (.seq (.reg [⟨some 12,none,.mv (.t 0)⟩,⟨some 13,none,.mv (.t 5)⟩,⟨some 14,none,.ia 8 (.t 12) (.t 13)⟩,⟨some 15,none,.fa 2 (.t 14)⟩,⟨some 16,none,.load 5 true (.t 15)⟩,⟨some 17,none,.call false 35 [(.t 16)]⟩,⟨some 18,none,.no (.t 17)⟩] [0,1,5,18]) (.cond (.t 18) (.seq (.reg [⟨some 4,none,.mv (.k (.one (.f (.bool false))))⟩] [4]) .ret) .skip))) (.reg [⟨some 10,none,.mv (.t 5)⟩,⟨some 11,none,.ar .add (.t 10) (.k (.one (.f (.int .i64 1))))⟩,⟨some 5,none,.mv (.t 11)⟩] [0,1,5])))))) (.seq (.reg [⟨some 19,none,.mv (.t 0)⟩,⟨some 20,none,.jh (.t 19)⟩,⟨some 21,none,.mv (.t 1)⟩,⟨some 22,none,.cmp .le (.t 20) (.t 21)⟩,⟨some 4,none,.mv (.t 22)⟩] [4]) .ret)))⟩
def c17 : CF:=⟨1,[(.cell 2 3 true)],[],[],(.seq (.reg [⟨some 2,none,.alloc 29 [(.f (.int .i64 0)),.fT,(.f (.int .i64 0))]⟩] [0,2]) (.seq (.seq (.reg [⟨some 3,none,.mv (.t 0)⟩,⟨some 4,none,.cmp .lt (.t 3) (.k (.one (.f (.int .i64 1))))⟩,⟨some 5,none,.mv (.t 4)⟩,⟨(some 6),(some ⟨(some 5),false⟩),(.mv (.t 0))⟩,⟨(some 7),(some ⟨(some 5),false⟩),(.cmp .gt (.t 6) (.k (.one (.f (.int .i64 1000)))))⟩,⟨some 8,none,.pick (.t 5) (.k (.one (.f (.bool true)))) (.t 7)⟩] [0,2,8]) (.cond (.t 8) (.seq (.reg [⟨some 9,none,.build [(.f (.int .i64 0)),.fT,(.f (.int .i64 0))] []⟩,⟨none,none,(.store 3 (.t 2) (.t 9))⟩] [2]) .ret) .skip)) (.seq (.reg [⟨some 10,none,.mv (.t 0)⟩,⟨(some 11),none,(.build [(.f (.int .i64 0)),.fT,(.f (.int .i64 0))] [⟨0,⟨1,(.t 10)⟩⟩])⟩,⟨none,none,(.store 3 (.t 2) (.t 11))⟩] [2]) .ret)))⟩
def c20 : CF:=⟨3,[(.cell 6 3 true),(.cell 7 7 true),(.t 8)],[],[],(.seq (.reg [⟨some 3,none,.box 29 (.t 0)⟩,⟨some 5,none,.box 32 (.t 2)⟩,⟨some 6,none,.alloc 29 [(.f (.int .i64 0)),.fT,(.f (.int .i64 0))]⟩,⟨(some 7),none,(.alloc 43 [(.f (.str ⟨#[]⟩)),(.f (.int .i64 0)),(.f (.int .i64 0)),.fT,(.f (.int .i64 0)),(.f (.int .i64 0)),(.f (.int .i64 0))])⟩,⟨some 8,none,.mv (.k (.one (.f (.bool false))))⟩] [1,3,5,6,7]) (.seq (.reg [⟨some 13,none,.load 3 true (.t 3)⟩,⟨some 14,none,.mv (.t 1)⟩,⟨some 15,none,.load 3 true (.t 5)⟩,⟨some 16,none,.call false 24 [(.t 13),(.t 14),(.t 15)]⟩,⟨some 12,none,.mv (.t 16)⟩,⟨some 17,none,.ext (.t 12) 0⟩,⟨some 18,none,.ext (.t 12) 1⟩,⟨(some 9),none,(.alloc 43 [(.f (.str ⟨#[]⟩)),(.f (.int .i64 0)),(.f (.int .i64 0)),.fT,(.f (.int .i64 0)),(.f (.int .i64 0)),(.f (.int .i64 0))])⟩,⟨none,none,(.store 7 (.t 9) (.t 17))⟩,⟨some 10,none,.mv (.t 18)⟩] [3,5,6,7,9,10]) (.seq (.seq (.reg [⟨some 19,none,.mv (.t 10)⟩] [3,5,6,7,9,10,19]) (.cond (.t 19) (.seq (.wD [⟨⟨some 20,none,.fa 1 (.t 3)⟩,[]⟩,⟨⟨some 21,none,.load 1 false (.t 20)⟩,[]⟩,⟨⟨some 22,none,.load 3 true (.t 3)⟩,[]⟩,⟨⟨some 23,none,.load 3 true (.t 5)⟩,[]⟩,⟨⟨some 24,none,.call false 59 [(.t 22),(.t 23)]⟩,[]⟩] [] [] [⟨some 25,none,.call false 61 [(.t 21),(.t 24)]⟩,⟨some 11,none,.mv (.t 25)⟩] [3,6,7,9,10,11]) (.seq (.reg [⟨some 26,none,.mv (.t 11)⟩,⟨some 27,none,.load 7 true (.t 9)⟩,⟨(some 28),none,(.Fu 43 7 1 [(.f (.str ⟨#[]⟩)),(.f (.int .i64 0)),(.f (.int .i64 0)),.fT,(.f (.int .i64 0)),(.f (.int .i64 0)),(.f (.int .i64 0))] [⟨0,⟨7,(.t 27)⟩⟩])⟩,⟨some 29,none,.app 43 7 80 (.t 26) (.t 28)⟩,⟨some 11,none,.mv (.t 29)⟩] [3,6,7,9,10,11]) (.reg [⟨some 30,none,.mv (.t 11)⟩,⟨some 31,none,.fa 1 (.t 3)⟩,⟨none,none,(.store 1 (.t 31) (.t 30))⟩] [3,6,7,9,10]))) .skip)) (.seq (.wD [⟨⟨some 32,none,.load 3 true (.t 3)⟩,[]⟩,⟨⟨some 33,none,.load 7 true (.t 9)⟩,[]⟩,⟨⟨some 34,none,.mv (.t 10)⟩,[]⟩] [1,2] [⟨none,none,(.store 3 (.t 6) (.t 32))⟩,⟨none,none,(.store 7 (.t 7) (.t 33))⟩] [⟨some 8,none,.mv (.t 34)⟩] [6,7,8]) .ret))))⟩
def Fx : CF:=⟨2,[(.t 4)],[],[],(.seq (.reg [⟨some 2,none,.box 43 (.t 0)⟩,⟨some 3,none,.box 43 (.t 1)⟩,⟨some 4,none,.mv (.k (.one (.f (.bool false))))⟩] [2,3]) (.seq (.reg [⟨some 5,none,.fa 0 (.t 2)⟩,⟨some 6,none,.load 5 true (.t 5)⟩,⟨some 7,none,.fa 0 (.t 3)⟩,⟨some 8,none,.load 5 true (.t 7)⟩,⟨some 9,none,.call false 32 [(.t 6),(.t 8)]⟩,⟨some 10,none,.mv (.t 9)⟩,⟨(some 11),(some ⟨(some 10),true⟩),(.fa 5 (.t 2))⟩,⟨(some 12),(some ⟨(some 10),true⟩),(.load 1 false (.t 11))⟩,⟨(some 13),(some ⟨(some 10),true⟩),(.fa 5 (.t 3))⟩,⟨(some 14),(some ⟨(some 10),true⟩),(.load 1 false (.t 13))⟩,⟨(some 15),(some ⟨(some 10),true⟩),(.cmp .eq (.t 12) (.t 14))⟩,⟨some 16,none,.pick (.t 10) (.t 15) (.k (.one (.f (.bool false))))⟩,⟨some 17,none,.mv (.t 16)⟩,⟨(some 18),(some ⟨(some 17),true⟩),(.fa 6 (.t 2))⟩,⟨(some 19),(some ⟨(some 17),true⟩),(.load 1 false (.t 18))⟩,⟨(some 20),(some ⟨(some 17),true⟩),(.fa 6 (.t 3))⟩,⟨(some 21),(some ⟨(some 17),true⟩),(.load 1 false (.t 20))⟩,⟨(some 22),(some ⟨(some 17),true⟩),(.cmp .eq (.t 19) (.t 21))⟩,⟨some 23,none,.pick (.t 17) (.t 22) (.k (.one (.f (.bool false))))⟩,⟨some 4,none,.mv (.t 23)⟩] [4]) .ret))⟩
def Pf : CF:=⟨2,[(.cell 4 5 true)],[],[0],(.seq (.reg [⟨some 3,none,.box 32 (.t 1)⟩,⟨(some 4),none,(.alloc 35 [(.f (.str ⟨#[]⟩)),(.f (.int .i64 0)),(.f (.int .i64 0)),.fT,(.f (.int .i64 0))])⟩] [0,3,4]) (.seq (.reg [⟨(some 5),none,(.alloc 35 [(.f (.str ⟨#[]⟩)),(.f (.int .i64 0)),(.f (.int .i64 0)),.fT,(.f (.int .i64 0))])⟩] [0,3,4,5]) (.seq (.seq (.reg [⟨some 6,none,.mv (.k (.one (.f (.int .i64 0))))⟩] [0,3,4,5,6]) (.block 0 (.loop [0,3,4,5,6] [30201,80000,100000,120000] [] (.seq (.seq (.reg [⟨some 7,none,.mv (.t 6)⟩,⟨some 8,none,.mv (.t 0)⟩,⟨some 9,none,.jh (.t 8)⟩,⟨some 10,none,.cmp .lt (.t 7) (.t 9)⟩] [0,3,4,5,6,10]) (.cond (.t 10) .skip (.exit 0))) (.seq (.block 1 (.seq (.wD [⟨⟨some 13,none,.mv (.t 0)⟩,[]⟩,⟨⟨some 14,none,.mv (.t 6)⟩,[]⟩,⟨⟨some 15,none,.ia 5 (.t 13) (.t 14)⟩,[]⟩,⟨⟨some 16,none,.fa 0 (.t 15)⟩,[]⟩,⟨⟨some 17,none,.load 3 true (.t 16)⟩,[]⟩,⟨⟨some 18,none,.load 3 true (.t 3)⟩,[]⟩] [] [] [⟨some 19,none,.qW (.agg [.str,(.int .i64),(.int .i64)]) false (.t 17) (.t 18)⟩] [0,3,4,5,6,19]) (.cond (.t 19) (.reg [⟨some 20,none,.mv (.t 0)⟩,⟨some 21,none,.mv (.t 6)⟩,⟨some 22,none,.ia 5 (.t 20) (.t 21)⟩,⟨some 23,none,.load 5 true (.t 22)⟩,⟨none,none,(.store 5 (.t 5) (.t 23))⟩] [0,3,4,5,6]) .skip))) (.reg [⟨some 11,none,.mv (.t 6)⟩,⟨some 12,none,.ar .add (.t 11) (.k (.one (.f (.int .i64 1))))⟩,⟨some 6,none,.mv (.t 12)⟩] [0,3,4,5,6])))))) (.seq (.reg [⟨some 24,none,.load 5 true (.t 5)⟩,⟨none,none,(.store 5 (.t 4) (.t 24))⟩] [4]) .ret))))⟩
def c34 : CF:=⟨1,[(.t 2)],[],[],(.seq (.reg [⟨some 2,none,.mv (.k (.one (.f (.bool false))))⟩] [0]) (.seq (.seq (.reg [⟨some 3,none,.mv (.k (.one (.f (.int .i64 0))))⟩] [0,3]) (.block 0 (.loop [0,3] [20202] [] (.seq (.seq (.reg [⟨some 5,none,.mv (.t 3)⟩,⟨some 6,none,.mv (.t 0)⟩,⟨some 7,none,.jh (.t 6)⟩,⟨some 8,none,.cmp .lt (.t 5) (.t 7)⟩] [0,3,8]) (.cond (.t 8) .skip (.exit 0))) (.seq (.block 1 (.seq (.reg [⟨some 4,none,.mv (.k (.one (.f (.int .i64 0))))⟩] [0,3,4]) (.block 2 (.loop [0,3,4] [20202] [] (.seq (.seq (.reg [⟨some 11,none,.mv (.t 4)⟩,⟨some 12,none,.mv (.t 3)⟩,⟨some 13,none,.cmp .lt (.t 11) (.t 12)⟩] [0,3,4,13]) (.cond (.t 13) .skip (.exit 2))) (.seq (.block 3 (.seq (.wD [⟨⟨some 16,none,.mv (.t 0)⟩,[]⟩,⟨⟨some 17,none,.mv (.t 3)⟩,[]⟩,⟨⟨some 18,none,.ia 3 (.t 16) (.t 17)⟩,[]⟩,⟨⟨some 19,none,.load 3 true (.t 18)⟩,[]⟩,⟨⟨some 20,none,.mv (.t 0)⟩,[]⟩,⟨⟨some 21,none,.mv (.t 4)⟩,[]⟩,⟨⟨some 22,none,.ia 3 (.t 20) (.t 21)⟩,[]⟩,⟨⟨some 23,none,.load 3 true (.t 22)⟩,[]⟩] [] [] [⟨some 24,none,.qW (.agg [.str,(.int .i64),(.int .i64)]) false (.t 19) (.t 23)⟩] [0,3,4,24]) (.cond (.t 24) (.seq (.reg [⟨some 2,none,.mv (.k (.one (.f (.bool false))))⟩] [2]) .ret) .skip))) (.reg [⟨some 14,none,.mv (.t 4)⟩,⟨some 15,none,.ar .add (.t 14) (.k (.one (.f (.int .i64 1))))⟩,⟨some 4,none,.mv (.t 15)⟩] [0,3,4]))))))) (.reg [⟨some 9,none,.mv (.t 3)⟩,⟨some 10,none,.ar .add (.t 9) (.k (.one (.f (.int .i64 1))))⟩,⟨some 3,none,.mv (.t 10)⟩] [0,3])))))) (.seq (.reg [⟨some 2,none,.mv (.k (.one (.f (.bool true))))⟩] [2]) .ret)))⟩
def c35 : CF:=⟨1,[(.t 2)],[],[],(.seq (.reg [⟨some 1,none,.box 35 (.t 0)⟩,⟨some 2,none,.mv (.k (.one (.f (.bool false))))⟩] [1]) (.seq (.seq (.reg [⟨some 3,none,.mv (.k (.one (.f (.int .i64 0))))⟩] [1,3]) (.block 0 (.loop [1,3] [20802,40000] [] (.seq (.seq (.reg [⟨some 4,none,.mv (.t 3)⟩,⟨some 5,none,.fa 3 (.t 1)⟩,⟨some 6,none,.load 1 false (.t 5)⟩,⟨some 7,none,.jh (.t 6)⟩,⟨some 8,none,.cmp .lt (.t 4) (.t 7)⟩] [1,3,8]) (.cond (.t 8) .skip (.exit 0))) (.seq (.block 1 (.seq (.reg [⟨some 11,none,.fa 3 (.t 1)⟩,⟨some 12,none,.load 1 false (.t 11)⟩,⟨some 13,none,.mv (.t 3)⟩,⟨some 14,none,.ia 1 (.t 12) (.t 13)⟩,⟨some 15,none,.load 1 false (.t 14)⟩,⟨some 16,none,.uV (.t 15)⟩,⟨some 17,none,.cmp .gt (.t 16) (.k (.one (.f (.int .i64 2000))))⟩,⟨some 18,none,.mv (.t 17)⟩,⟨(some 19),(some ⟨(some 18),false⟩),(.fa 3 (.t 1))⟩,⟨(some 20),(some ⟨(some 18),false⟩),(.load 1 false (.t 19))⟩,⟨(some 21),(some ⟨(some 18),false⟩),(.jh (.t 20))⟩,⟨(some 22),(some ⟨(some 18),false⟩),(.cmp .gt (.t 21) (.k (.one (.f (.int .i64 60)))))⟩,⟨some 23,none,.pick (.t 18) (.k (.one (.f (.bool true)))) (.t 22)⟩] [1,3,23]) (.cond (.t 23) (.seq (.reg [⟨some 2,none,.mv (.k (.one (.f (.bool false))))⟩] [2]) .ret) .skip))) (.reg [⟨some 9,none,.mv (.t 3)⟩,⟨some 10,none,.ar .add (.t 9) (.k (.one (.f (.int .i64 1))))⟩,⟨some 3,none,.mv (.t 10)⟩] [1,3])))))) (.seq (.reg [⟨some 24,none,.fa 0 (.t 1)⟩,⟨some 25,none,.fa 0 (.t 24)⟩,⟨some 26,none,.load 1 false (.t 25)⟩,⟨some 27,none,.uV (.t 26)⟩,⟨some 28,none,.cmp .le (.t 27) (.k (.one (.f (.int .i64 300))))⟩,⟨some 2,none,.mv (.t 28)⟩] [2]) .ret)))⟩
def c62 : CF:=⟨2,[(.t 4)],[],[],(.seq (.reg [⟨some 4,none,.mv (.k (.one (.f (.int .i64 0))))⟩] [0,1]) (.seq (.seq (.reg [⟨some 5,none,.mv (.t 0)⟩,⟨some 6,none,.call false 86 [(.t 5),(.k (.one (.f (.int .i64 1099511627776))))]⟩,⟨some 7,none,.no (.t 6)⟩,⟨some 8,none,.mv (.t 7)⟩,⟨(some 9),(some ⟨(some 8),false⟩),(.mv (.t 1))⟩,⟨(some 10),(some ⟨(some 8),false⟩),(.cmp .lt (.t 9) (.k (.one (.f (.int .i64 0)))))⟩,⟨some 11,none,.pick (.t 8) (.k (.one (.f (.bool true)))) (.t 10)⟩] [0,1,11]) (.cond (.t 11) (.seq (.reg [⟨some 4,none,.mv (.k (.one (.f (.int .i64 (-1)))))⟩] [4]) .ret) .skip)) (.seq (.reg [⟨some 12,none,.mv (.t 0)⟩,⟨some 13,none,.mv (.t 1)⟩,⟨some 14,none,.mn (.t 13) (.k (.one (.f (.int .i64 604800))))⟩,⟨some 15,none,.ar .add (.t 12) (.t 14)⟩,⟨some 4,none,.mv (.t 15)⟩] [4]) .ret)))⟩
def c66 : CF:=⟨2,[(.t 4),(.t 5)],[],[],(.seq (.reg [⟨some 4,none,.mv (.k (.one .fT))⟩,⟨some 5,none,.mv (.k (.one .fT))⟩] [0,1]) (.seq (.reg [⟨some 7,none,.mv (.t 0)⟩,⟨some 8,none,.jh (.t 7)⟩,⟨some 9,none,.mv (.t 1)⟩,⟨some 10,none,.mv (.t 0)⟩,⟨some 11,none,.jh (.t 10)⟩,⟨some 12,none,.mn (.t 9) (.t 11)⟩,⟨some 13,none,.mx (.t 12) (.k (.one (.f (.int .i64 0))))⟩,⟨some 14,none,.ar .sub (.t 8) (.t 13)⟩,⟨some 6,none,.mv (.t 14)⟩] [0,6]) (.seq (.wD [⟨⟨some 15,none,.mv (.t 0)⟩,[]⟩,⟨⟨some 16,none,.mv (.t 6)⟩,[]⟩,⟨⟨some 17,none,.cut 3 (.t 15) (some (.t 16)) none⟩,[]⟩,⟨⟨some 18,none,.call false 70 [(.t 17)]⟩,[]⟩,⟨⟨some 19,none,.mv (.t 0)⟩,[]⟩,⟨⟨some 20,none,.mv (.t 6)⟩,[]⟩,⟨⟨some 21,none,.cut 3 (.t 19) none (some (.t 20))⟩,[]⟩] [] [] [⟨some 22,none,.call false 70 [(.t 21)]⟩,⟨some 4,none,.mv (.t 18)⟩,⟨some 5,none,.mv (.t 22)⟩] [4,5]) .ret)))⟩
def c67 : CF:=⟨2,[(.t 4)],[],[],(.seq (.reg [⟨some 3,none,.box 32 (.t 1)⟩,⟨some 4,none,.mv (.k (.one .fT))⟩] [0,3]) (.seq (.wD [⟨⟨some 5,none,.mv (.t 0)⟩,[160000,200000]⟩,⟨⟨some 6,none,.load 3 true (.t 3)⟩,[160000,200000]⟩,⟨⟨some 7,none,.zD 69 [(.t 5),(.t 6)]⟩,[200000]⟩,⟨⟨some 8,none,.load 3 true (.t 3)⟩,[160000,200000]⟩,⟨⟨(some 9),none,(.Fu 32 3 1 [(.f (.str ⟨#[]⟩)),(.f (.int .i64 0)),(.f (.int .i64 0))] [⟨0,⟨3,(.t 8)⟩⟩])⟩,[160000]⟩] [] [] [⟨some 10,none,.app 32 3 32 (.t 7) (.t 9)⟩,⟨some 4,none,.mv (.t 10)⟩] [4]) .ret))⟩
def c68 : CF:=⟨2,[(.t 4)],[],[],(.seq (.reg [⟨some 4,none,.mv (.k (.one (.f (.bool false))))⟩] [0,1]) (.seq (.reg [⟨some 5,none,.mv (.t 0)⟩,⟨some 6,none,.call false 86 [(.t 5),(.k (.one (.f (.int .i64 1099511627776))))]⟩,⟨some 7,none,.mv (.t 6)⟩,⟨(some 8),(some ⟨(some 7),true⟩),(.mv (.t 0))⟩,⟨(some 9),(some ⟨(some 7),true⟩),(.mv (.t 1))⟩,⟨(some 10),(some ⟨(some 7),true⟩),(.cmp .lt (.t 8) (.t 9))⟩,⟨some 11,none,.pick (.t 7) (.t 10) (.k (.one (.f (.bool false))))⟩,⟨some 4,none,.mv (.t 11)⟩] [4]) .ret))⟩
def c69 : CF:=⟨2,[(.t 4)],[some 3],[],(.seq (.reg [⟨some 3,none,.box 32 (.t 1)⟩,⟨some 4,none,.mv (.k (.one .fT))⟩] [0,3]) (.seq (.reg [⟨some 5,none,.mv (.t 0)⟩,⟨some 6,none,.call false 70 [(.t 5)]⟩,⟨some 7,none,.Tt 90 [(.t 3)]⟩,⟨some 8,none,.call true 89 [(.t 6),(.t 7)]⟩,⟨some 4,none,.mv (.t 8)⟩] [4]) .ret))⟩
def c73 : CF:=⟨1,[(.t 2)],[],[],(.seq (.reg [⟨some 1,none,.box 35 (.t 0)⟩,⟨some 2,none,.mv (.k (.one (.f (.bool false))))⟩] [1]) (.seq (.reg [⟨some 6,none,.fa 0 (.t 1)⟩,⟨some 7,none,.load 3 true (.t 6)⟩,⟨(some 3),none,(.alloc 32 [(.f (.str ⟨#[]⟩)),(.f (.int .i64 0)),(.f (.int .i64 0))])⟩,⟨none,none,(.store 3 (.t 3) (.t 7))⟩] [1,3]) (.seq (.seq (.wD [⟨⟨some 8,none,.fa 0 (.t 3)⟩,[]⟩,⟨⟨some 9,none,.load 1 false (.t 8)⟩,[]⟩,⟨⟨some 10,none,.call false 91 [(.t 9)]⟩,[]⟩,⟨⟨some 11,none,.no (.t 10)⟩,[]⟩,⟨⟨some 12,none,.mv (.t 11)⟩,[]⟩,⟨⟨(some 13),(some ⟨(some 12),false⟩),(.fa 0 (.t 3))⟩,[]⟩,⟨⟨(some 14),(some ⟨(some 12),false⟩),(.load 1 false (.t 13))⟩,[]⟩,⟨⟨(some 15),(some ⟨(some 12),false⟩),(.call false 92 [(.t 14)])⟩,[]⟩,⟨⟨(some 16),(some ⟨(some 12),false⟩),(.fa 0 (.t 3))⟩,[]⟩,⟨⟨(some 17),(some ⟨(some 12),false⟩),(.load 1 false (.t 16))⟩,[]⟩] [] [] [⟨(some 18),(some ⟨(some 12),false⟩),(.qW (.one .str) true (.t 15) (.t 17))⟩,⟨some 19,none,.pick (.t 12) (.k (.one (.f (.bool true)))) (.t 18)⟩,⟨some 20,none,.mv (.t 19)⟩,⟨(some 21),(some ⟨(some 20),false⟩),(.fa 1 (.t 3))⟩,⟨(some 22),(some ⟨(some 20),false⟩),(.load 1 false (.t 21))⟩,⟨(some 23),(some ⟨(some 20),false⟩),(.call false 93 [(.t 22),(.k (.one (.f (.int .i64 65535))))])⟩,⟨(some 24),(some ⟨(some 20),false⟩),(.no (.t 23))⟩,⟨some 25,none,.pick (.t 20) (.k (.one (.f (.bool true)))) (.t 24)⟩,⟨some 26,none,.mv (.t 25)⟩,⟨(some 27),(some ⟨(some 26),false⟩),(.fa 2 (.t 3))⟩,⟨(some 28),(some ⟨(some 26),false⟩),(.load 1 false (.t 27))⟩,⟨(some 29),(some ⟨(some 26),false⟩),(.call false 93 [(.t 28),(.k (.one (.f (.int .i64 65535))))])⟩,⟨(some 30),(some ⟨(some 26),false⟩),(.no (.t 29))⟩,⟨some 31,none,.pick (.t 26) (.k (.one (.f (.bool true)))) (.t 30)⟩,⟨some 32,none,.mv (.t 31)⟩,⟨(some 33),(some ⟨(some 32),false⟩),(.fa 4 (.t 1))⟩,⟨(some 34),(some ⟨(some 32),false⟩),(.load 1 false (.t 33))⟩,⟨(some 35),(some ⟨(some 32),false⟩),(.call false 93 [(.t 34),(.k (.one (.f (.int .i64 2147483647))))])⟩,⟨(some 36),(some ⟨(some 32),false⟩),(.no (.t 35))⟩,⟨some 37,none,.pick (.t 32) (.k (.one (.f (.bool true)))) (.t 36)⟩] [1,3,37]) (.cond (.t 37) (.seq (.reg [⟨some 2,none,.mv (.k (.one (.f (.bool false))))⟩] [2]) .ret) .skip)) (.seq (.seq (.reg [⟨some 38,none,.fa 3 (.t 1)⟩,⟨some 39,none,.load 1 false (.t 38)⟩,⟨some 40,none,.jh (.t 39)⟩,⟨some 41,none,.mv (.k (.one (.f (.int .i64 0))))⟩] [1,3,39,40,41]) (.block 0 (.loop [1,3,39,40,41] [20802,40000,80000] [] (.seq (.reg [⟨some 42,none,.cmp .lt (.t 41) (.t 40)⟩] [1,3,39,40,41,42]) (.seq (.cond (.t 42) .skip (.exit 0)) (.seq (.block 1 (.seq (.reg [⟨some 43,none,.mv (.t 41)⟩,⟨some 44,none,.ia 1 (.t 39) (.t 41)⟩,⟨some 45,none,.load 1 false (.t 44)⟩,⟨some 4,none,.mv (.t 43)⟩,⟨some 5,none,.mv (.t 45)⟩] [1,3,4,5,39,40,41]) (.seq (.reg [⟨some 46,none,.fa 1 (.t 3)⟩,⟨some 47,none,.load 1 false (.t 46)⟩,⟨some 48,none,.mv (.t 5)⟩,⟨some 49,none,.call false 94 [(.t 47),(.t 48)]⟩,⟨some 50,none,.no (.t 49)⟩,⟨some 51,none,.mv (.t 50)⟩,⟨(some 52),(some ⟨(some 51),false⟩),(.fa 1 (.t 3))⟩,⟨(some 53),(some ⟨(some 51),false⟩),(.load 1 false (.t 52))⟩,⟨(some 54),(some ⟨(some 51),false⟩),(.mv (.t 5))⟩,⟨(some 55),(some ⟨(some 51),false⟩),(.call false 95 [(.t 53),(.t 54)])⟩,⟨(some 56),(some ⟨(some 51),false⟩),(.mv (.t 5))⟩,⟨(some 57),(some ⟨(some 51),false⟩),(.qW (.one .str) true (.t 55) (.t 56))⟩,⟨some 58,none,.pick (.t 51) (.k (.one (.f (.bool true)))) (.t 57)⟩,⟨some 59,none,.mv (.t 58)⟩,⟨(some 60),(some ⟨(some 59),false⟩),(.fa 3 (.t 1))⟩,⟨(some 61),(some ⟨(some 59),false⟩),(.load 1 false (.t 60))⟩,⟨(some 62),(some ⟨(some 59),false⟩),(.mv (.t 4))⟩,⟨(some 63),(some ⟨(some 59),false⟩),(.cut 1 (.t 61) none (some (.t 62)))⟩,⟨(some 64),(some ⟨(some 59),false⟩),(.mv (.t 5))⟩,⟨(some 65),(some ⟨(some 59),false⟩),(.call false 96 [(.t 63),(.t 64)])⟩,⟨some 66,none,.pick (.t 59) (.k (.one (.f (.bool true)))) (.t 65)⟩] [1,3,39,40,41,66]) (.cond (.t 66) (.seq (.reg [⟨some 2,none,.mv (.k (.one (.f (.bool false))))⟩] [2]) .ret) .skip)))) (.reg [⟨some 67,none,.ar .add (.t 41) (.k (.one (.f (.int .i64 1))))⟩,⟨some 41,none,.mv (.t 67)⟩] [1,3,39,40,41]))))))) (.seq (.reg [⟨some 68,none,.fa 3 (.t 1)⟩,⟨some 69,none,.load 1 false (.t 68)⟩,⟨some 70,none,.jh (.t 69)⟩,⟨some 71,none,.cmp .gt (.t 70) (.k (.one (.f (.int .i64 0))))⟩,⟨some 2,none,.mv (.t 71)⟩] [2]) .ret)))))⟩
def c86 : CF:=⟨2,[(.t 4)],[],[],(.seq (.reg [⟨some 4,none,.mv (.k (.one (.f (.bool false))))⟩] [0,1]) (.seq (.reg [⟨some 5,none,.mv (.t 0)⟩,⟨some 6,none,.cmp .ge (.t 5) (.k (.one (.f (.int .i64 0))))⟩,⟨some 7,none,.mv (.t 6)⟩,⟨(some 8),(some ⟨(some 7),true⟩),(.mv (.t 0))⟩,⟨(some 9),(some ⟨(some 7),true⟩),(.mv (.t 1))⟩,⟨(some 10),(some ⟨(some 7),true⟩),(.cmp .le (.t 8) (.t 9))⟩,⟨some 11,none,.pick (.t 7) (.t 10) (.k (.one (.f (.bool false))))⟩,⟨some 4,none,.mv (.t 11)⟩] [4]) .ret))⟩
def c89 : CF:=⟨2,[(.t 4)],[some 3],[],(.seq (.reg [⟨some 4,none,.mv (.k (.one .fT))⟩] [0,1]) (.seq (.reg [⟨some 8,none,.mv (.t 0)⟩,⟨some 9,none,.mv (.t 1)⟩,⟨some 10,none,.call false 108 [(.t 8),(.t 9)]⟩,⟨some 5,none,.mv (.t 10)⟩] [0,1,5]) (.seq (.seq (.reg [⟨some 11,none,.mv (.t 5)⟩,⟨some 12,none,.cmp .eq (.t 11) (.k (.one (.f (.int .i64 (-1)))))⟩] [0,1,5,12]) (.cond (.t 12) (.seq (.reg [⟨some 13,none,.mv (.t 0)⟩,⟨some 4,none,.mv (.t 13)⟩] [4]) .ret) .skip)) (.seq (.seq (.reg [⟨some 14,none,.mv (.t 5)⟩,⟨some 15,none,.ar .add (.t 14) (.k (.one (.f (.int .i64 1))))⟩,⟨some 6,none,.mv (.t 15)⟩] [0,1,5,6]) (.block 0 (.loop [0,1,5,6] [20202] [] (.seq (.seq (.reg [⟨some 16,none,.mv (.t 6)⟩,⟨some 17,none,.mv (.t 0)⟩,⟨some 18,none,.jh (.t 17)⟩,⟨some 19,none,.cmp .lt (.t 16) (.t 18)⟩] [0,1,5,6,19]) (.cond (.t 19) .skip (.exit 0))) (.seq (.block 1 (.seq (.reg [⟨some 22,none,.mv (.t 0)⟩,⟨some 23,none,.mv (.t 6)⟩,⟨some 24,none,.ia 3 (.t 22) (.t 23)⟩,⟨some 25,none,.load 3 true (.t 24)⟩,⟨(some 7),none,(.alloc 32 [(.f (.str ⟨#[]⟩)),(.f (.int .i64 0)),(.f (.int .i64 0))])⟩,⟨none,none,(.store 3 (.t 7) (.t 25))⟩] [0,1,5,6,7]) (.seq (.reg [⟨some 26,none,.mv (.t 1)⟩,⟨some 27,none,.load 3 true (.t 7)⟩,⟨some 28,none,.dyn (.t 26) [(.t 27)]⟩,⟨some 29,none,.no (.t 28)⟩] [0,1,5,6,7,29]) (.cond (.t 29) (.seq (.reg [⟨some 30,none,.mv (.t 0)⟩,⟨some 31,none,.mv (.t 5)⟩,⟨some 32,none,.load 3 true (.t 7)⟩,⟨some 33,none,.ia 3 (.t 30) (.t 31)⟩,⟨none,none,(.store 3 (.t 33) (.t 32))⟩] [0,1,5,6]) (.reg [⟨some 34,none,.mv (.t 5)⟩,⟨some 35,none,.ar .add (.t 34) (.k (.one (.f (.int .i64 1))))⟩,⟨some 5,none,.mv (.t 35)⟩] [0,1,5,6])) .skip)))) (.reg [⟨some 20,none,.mv (.t 6)⟩,⟨some 21,none,.ar .add (.t 20) (.k (.one (.f (.int .i64 1))))⟩,⟨some 6,none,.mv (.t 21)⟩] [0,1,5,6])))))) (.seq (.reg [⟨some 36,none,.mv (.t 0)⟩,⟨some 37,none,.mv (.t 5)⟩,⟨some 38,none,.cutV 3 (.t 36) (.t 37)⟩,⟨none,none,(.Rz 3 [(.str ⟨#[]⟩),(.int .i64 0),(.int .i64 0)] (.t 38))⟩] [0,5]) (.seq (.reg [⟨some 39,none,.mv (.t 0)⟩,⟨some 40,none,.mv (.t 5)⟩,⟨some 41,none,.FB 3 (.t 39) (.t 40)⟩,⟨some 4,none,.mv (.t 41)⟩] [4]) .ret))))))⟩
def c90 : CF:=⟨2,[(.t 3)],[none],[],(.seq (.reg [⟨some 2,none,.box 32 (.t 0)⟩,⟨some 3,none,.mv (.k (.one (.f (.bool false))))⟩] [1,2]) (.seq (.reg [⟨some 4,none,.load 3 true (.t 2)⟩,⟨some 5,none,.load 3 true (.t 1)⟩,⟨some 6,none,.qW (.agg [.str,(.int .i64),(.int .i64)]) false (.t 4) (.t 5)⟩,⟨some 3,none,.mv (.t 6)⟩] [3]) .ret))⟩
def c93 : CF:=⟨2,[(.t 4)],[],[],(.seq (.reg [⟨some 4,none,.mv (.k (.one (.f (.bool false))))⟩] [0,1]) (.seq (.reg [⟨some 5,none,.mv (.t 0)⟩,⟨some 6,none,.cmp .ge (.t 5) (.k (.one (.f (.int .i64 0))))⟩,⟨some 7,none,.mv (.t 6)⟩,⟨(some 8),(some ⟨(some 7),true⟩),(.mv (.t 0))⟩,⟨(some 9),(some ⟨(some 7),true⟩),(.mv (.t 1))⟩,⟨(some 10),(some ⟨(some 7),true⟩),(.cmp .le (.t 8) (.t 9))⟩,⟨some 11,none,.pick (.t 7) (.t 10) (.k (.one (.f (.bool false))))⟩,⟨some 4,none,.mv (.t 11)⟩] [4]) .ret))⟩
def c96 : CF:=⟨2,[(.t 4)],[],[],(.seq (.reg [⟨some 4,none,.mv (.k (.one (.f (.bool false))))⟩] [0,1]) (.seq (.reg [⟨some 5,none,.mv (.t 0)⟩,⟨some 6,none,.mv (.t 1)⟩,⟨some 7,none,.call false 114 [(.t 5),(.t 6)]⟩,⟨some 8,none,.cmp .ge (.t 7) (.k (.one (.f (.int .i64 0))))⟩,⟨some 4,none,.mv (.t 8)⟩] [4]) .ret))⟩
def Pg : CF:=⟨2,[(.t 4)],[],[],(.seq (.reg [⟨some 4,none,.mv (.k (.one (.f (.int .i64 0))))⟩] [0,1]) (.seq (.seq (.reg [⟨some 6,none,.mv (.t 0)⟩,⟨some 7,none,.jh (.t 6)⟩,⟨some 8,none,.mv (.k (.one (.f (.int .i64 0))))⟩] [0,1,7,8]) (.block 0 (.loop [0,1,7,8] [20202] [] (.seq (.reg [⟨some 9,none,.cmp .lt (.t 8) (.t 7)⟩] [0,1,7,8,9]) (.seq (.cond (.t 9) .skip (.exit 0)) (.seq (.block 1 (.seq (.reg [⟨some 10,none,.mv (.t 8)⟩,⟨some 5,none,.mv (.t 10)⟩] [0,1,5,7,8]) (.seq (.reg [⟨some 11,none,.mv (.t 1)⟩,⟨some 12,none,.mv (.t 0)⟩,⟨some 13,none,.mv (.t 5)⟩,⟨some 14,none,.ia 3 (.t 12) (.t 13)⟩,⟨some 15,none,.load 3 true (.t 14)⟩,⟨some 16,none,.dyn (.t 11) [(.t 15)]⟩] [0,1,5,7,8,16]) (.cond (.t 16) (.seq (.reg [⟨some 17,none,.mv (.t 5)⟩,⟨some 4,none,.mv (.t 17)⟩] [4]) .ret) .skip)))) (.reg [⟨some 18,none,.ar .add (.t 8) (.k (.one (.f (.int .i64 1))))⟩,⟨some 8,none,.mv (.t 18)⟩] [0,1,7,8]))))))) (.seq (.reg [⟨some 4,none,.mv (.k (.one (.f (.int .i64 (-1)))))⟩] [4]) .ret)))⟩
def Ph : CF:=⟨2,[(.t 4)],[],[],(.seq (.reg [⟨some 4,none,.mv (.k (.one (.f (.int .i64 0))))⟩] [0,1]) (.seq (.seq (.reg [⟨some 6,none,.mv (.t 0)⟩,⟨some 7,none,.jh (.t 6)⟩,⟨some 8,none,.mv (.k (.one (.f (.int .i64 0))))⟩] [0,1,7,8]) (.block 0 (.loop [0,1,7,8] [20202] [] (.seq (.reg [⟨some 9,none,.cmp .lt (.t 8) (.t 7)⟩] [0,1,7,8,9]) (.seq (.cond (.t 9) .skip (.exit 0)) (.seq (.block 1 (.seq (.reg [⟨some 10,none,.mv (.t 8)⟩,⟨some 5,none,.mv (.t 10)⟩] [0,1,5,7,8]) (.seq (.reg [⟨some 11,none,.mv (.t 1)⟩,⟨some 12,none,.mv (.t 0)⟩,⟨some 13,none,.mv (.t 5)⟩,⟨some 14,none,.ia 1 (.t 12) (.t 13)⟩,⟨some 15,none,.load 1 false (.t 14)⟩,⟨some 16,none,.qW (.one .str) false (.t 11) (.t 15)⟩] [0,1,5,7,8,16]) (.cond (.t 16) (.seq (.reg [⟨some 17,none,.mv (.t 5)⟩,⟨some 4,none,.mv (.t 17)⟩] [4]) .ret) .skip)))) (.reg [⟨some 18,none,.ar .add (.t 8) (.k (.one (.f (.int .i64 1))))⟩,⟨some 8,none,.mv (.t 18)⟩] [0,1,7,8]))))))) (.seq (.reg [⟨some 4,none,.mv (.k (.one (.f (.int .i64 (-1)))))⟩] [4]) .ret)))⟩
def c9 : CF:=⟨2,[(.t 4)],[],[],(.seq (.reg [⟨some 4,none,.mv (.k (.one (.f (.bool false))))⟩] [0,1]) (.seq (.seq (.reg [⟨some 21,none,.mv (.t 1)⟩,⟨some 22,none,.call false 37 [(.t 21),(.k (.one (.f (.int .i64 60))))]⟩,⟨some 23,none,.no (.t 22)⟩] [0,1,23]) (.cond (.t 23) (.seq (.reg [⟨some 24,none,.call false 38 []⟩,⟨some 4,none,.mv (.t 24)⟩] [4]) .ret) .skip)) (.seq (.reg [⟨some 25,none,.mv (.t 0)⟩,⟨some 26,none,.call false 39 [(.t 25)]⟩,⟨some 5,none,.mv (.t 26)⟩] [0,1,5]) (.seq (.reg [⟨some 27,none,.mv (.t 0)⟩,⟨some 28,none,.call false 40 [(.t 27)]⟩,⟨some 6,none,.alloc 77 [(.f (.int .i64 0)),.fT,(.f (.int .i64 0))]⟩,⟨none,none,(.store 3 (.t 6) (.t 28))⟩] [1,5,6]) (.seq (.seq (.reg [⟨some 29,none,.mv (.t 5)⟩,⟨some 30,none,.oI false (.t 29)⟩,⟨some 31,none,.fa 0 (.t 6)⟩,⟨some 32,none,.load 1 false (.t 31)⟩,⟨some 33,none,.cmp .eq (.t 32) (.k (.one (.f (.int .i64 0))))⟩,⟨some 34,none,.qW (.one .bool) true (.t 30) (.t 33)⟩] [1,5,6,34]) (.cond (.t 34) (.seq (.reg [⟨some 4,none,.mv (.k (.one (.f (.bool false))))⟩] [4]) .ret) .skip)) (.seq (.seq (.reg [⟨some 7,none,.mv (.k (.one (.f (.int .i64 0))))⟩] [1,5,6,7]) (.block 0 (.loop [1,5,6,7] [40202,140000,540200,540204,540206,580400,1600400,2660400] [] (.seq (.seq (.reg [⟨some 35,none,.mv (.t 7)⟩,⟨some 36,none,.mv (.t 1)⟩,⟨some 37,none,.jh (.t 36)⟩,⟨some 38,none,.cmp .lt (.t 35) (.t 37)⟩] [1,5,6,7,38]) (.cond (.t 38) .skip (.exit 0))) (.seq (.block 1 (.seq (.reg [⟨some 41,none,.mv (.t 1)⟩,⟨some 42,none,.mv (.t 7)⟩,⟨some 43,none,.ia 11 (.t 41) (.t 42)⟩,⟨some 44,none,.load 11 true (.t 43)⟩,⟨(some 8),none,(.alloc 80 [(.f (.int .i64 0)),(.f (.int .i64 0)),(.f (.str ⟨#[]⟩)),(.f (.int .i64 0)),(.f (.int .i64 0)),(.f (.bool false)),(.f (.str ⟨#[]⟩)),(.f (.int .i64 0)),(.f (.int .i64 0)),.fT,(.f (.int .i64 0))])⟩,⟨none,none,(.store 11 (.t 8) (.t 44))⟩] [1,5,6,7,8]) (.seq (.reg [⟨some 46,none,.fa 6 (.t 8)⟩,⟨some 47,none,.load 5 true (.t 46)⟩,⟨some 48,none,.call false 41 [(.t 47)]⟩,⟨some 45,none,.mv (.t 48)⟩,⟨some 49,none,.ext (.t 45) 0⟩,⟨some 50,none,.ext (.t 45) 1⟩,⟨some 9,none,.mv (.t 49)⟩,⟨some 10,none,.mv (.t 50)⟩] [1,5,6,7,8,9,10]) (.seq (.reg [⟨some 52,none,.fa 6 (.t 8)⟩,⟨some 53,none,.load 5 true (.t 52)⟩,⟨some 54,none,.call false 42 [(.t 53)]⟩,⟨some 51,none,.mv (.t 54)⟩,⟨some 55,none,.ext (.t 51) 0⟩,⟨some 56,none,.ext (.t 51) 1⟩,⟨some 11,none,.mv (.t 55)⟩,⟨some 12,none,.mv (.t 56)⟩] [1,5,6,7,8,9,10,11,12]) (.seq (.seq (.reg [⟨some 57,none,.mv (.t 9)⟩,⟨some 58,none,.mv (.t 11)⟩,⟨some 59,none,.cmp .ne (.t 57) (.t 58)⟩,⟨some 60,none,.mv (.t 59)⟩,⟨(some 61),(some ⟨(some 60),false⟩),(.mv (.t 10))⟩,⟨(some 62),(some ⟨(some 60),false⟩),(.mv (.t 12))⟩,⟨(some 63),(some ⟨(some 60),false⟩),(.qW (.one .bool) true (.t 61) (.t 62))⟩,⟨some 64,none,.pick (.t 60) (.k (.one (.f (.bool true)))) (.t 63)⟩] [1,5,6,7,8,64]) (.cond (.t 64) (.seq (.reg [⟨some 4,none,.mv (.k (.one (.f (.bool false))))⟩] [4]) .ret) .skip)) (.seq (.seq (.reg [⟨some 65,none,.fa 0 (.t 8)⟩,⟨some 66,none,.load 1 false (.t 65)⟩] [1,5,6,7,8,66]) (.block 2 (.seq (.reg [⟨some 68,none,.cmp .eq (.t 66) (.k (.one (.f (.int .i64 0))))⟩,⟨some 67,none,.mv (.t 68)⟩] [1,5,6,7,8,66,67]) (.cond (.t 67) (.seq (.reg [⟨some 70,none,.load 3 true (.t 6)⟩,⟨some 71,none,.fa 1 (.t 8)⟩,⟨some 72,none,.load 1 false (.t 71)⟩,⟨some 73,none,.fa 2 (.t 8)⟩,⟨some 74,none,.load 3 true (.t 73)⟩,⟨some 75,none,.fa 5 (.t 8)⟩,⟨some 76,none,.load 1 false (.t 75)⟩,⟨some 77,none,.fa 6 (.t 8)⟩,⟨some 78,none,.load 5 true (.t 77)⟩,⟨some 79,none,.call false 43 [(.t 70),(.t 72),(.t 74),(.t 76),(.t 78)]⟩,⟨some 69,none,.mv (.t 79)⟩,⟨some 80,none,.ext (.t 69) 0⟩,⟨some 81,none,.ext (.t 69) 1⟩,⟨some 13,none,.alloc 77 [(.f (.int .i64 0)),.fT,(.f (.int .i64 0))]⟩,⟨none,none,(.store 3 (.t 13) (.t 80))⟩,⟨some 14,none,.mv (.t 81)⟩] [1,5,6,7,8,13,14]) (.seq (.reg [⟨some 82,none,.load 3 true (.t 13)⟩,⟨none,none,(.store 3 (.t 6) (.t 82))⟩] [1,5,6,7,8,14]) (.seq (.reg [⟨some 83,none,.mv (.t 5)⟩,⟨some 84,none,.fa 1 (.t 8)⟩,⟨some 85,none,.load 1 false (.t 84)⟩,⟨some 86,none,.fa 2 (.t 8)⟩,⟨some 87,none,.load 3 true (.t 86)⟩,⟨some 88,none,.fa 5 (.t 8)⟩,⟨some 89,none,.load 1 false (.t 88)⟩,⟨some 90,none,.fa 6 (.t 8)⟩,⟨some 91,none,.load 5 true (.t 90)⟩,⟨some 92,none,.call false 44 [(.t 83),(.t 85),(.t 87),(.t 89),(.t 91)]⟩,⟨some 93,none,.mv (.t 14)⟩,⟨some 94,none,.cmp .ne (.t 92) (.t 93)⟩] [1,5,6,7,94]) (.cond (.t 94) (.seq (.reg [⟨some 4,none,.mv (.k (.one (.f (.bool false))))⟩] [4]) .ret) .skip)))) (.seq (.reg [⟨some 96,none,.cmp .eq (.t 66) (.k (.one (.f (.int .i64 1))))⟩,⟨some 95,none,.mv (.t 96)⟩] [1,5,6,7,8,66,95]) (.cond (.t 95) (.seq (.reg [⟨some 98,none,.load 3 true (.t 6)⟩,⟨some 99,none,.fa 1 (.t 8)⟩,⟨some 100,none,.load 1 false (.t 99)⟩,⟨some 101,none,.fa 2 (.t 8)⟩,⟨some 102,none,.load 3 true (.t 101)⟩,⟨some 103,none,.call false 45 [(.t 98),(.t 100),(.t 102)]⟩,⟨some 97,none,.mv (.t 103)⟩,⟨some 104,none,.ext (.t 97) 0⟩,⟨some 105,none,.ext (.t 97) 1⟩,⟨(some 15),none,(.alloc 87 [(.f (.str ⟨#[]⟩)),(.f (.int .i64 0)),(.f (.int .i64 0)),(.f (.bool false)),(.f (.str ⟨#[]⟩)),(.f (.int .i64 0)),(.f (.int .i64 0)),.fT,(.f (.int .i64 0)),(.f (.int .i64 0))])⟩,⟨none,none,(.store 10 (.t 15) (.t 104))⟩,⟨some 16,none,.mv (.t 105)⟩] [1,5,6,7,8,15,16]) (.seq (.reg [⟨some 107,none,.mv (.t 5)⟩,⟨some 108,none,.fa 1 (.t 8)⟩,⟨some 109,none,.load 1 false (.t 108)⟩,⟨some 110,none,.fa 2 (.t 8)⟩,⟨some 111,none,.load 3 true (.t 110)⟩,⟨some 112,none,.call false 46 [(.t 107),(.t 109),(.t 111)]⟩,⟨some 106,none,.mv (.t 112)⟩,⟨some 113,none,.ext (.t 106) 0⟩,⟨some 114,none,.ext (.t 106) 1⟩,⟨(some 17),none,(.alloc 90 [(.f (.str ⟨#[]⟩)),(.f (.int .i64 0)),(.f (.int .i64 0)),(.f (.bool false)),(.f (.str ⟨#[]⟩)),(.f (.int .i64 0)),(.f (.int .i64 0)),.fT,(.f (.int .i64 0)),(.f (.int .i64 0))])⟩,⟨none,none,(.store 10 (.t 17) (.t 113))⟩,⟨some 18,none,.mv (.t 114)⟩] [1,5,6,7,15,16,17,18]) (.seq (.wD [⟨⟨some 115,none,.mv (.t 16)⟩,[]⟩,⟨⟨some 116,none,.mv (.t 18)⟩,[]⟩,⟨⟨some 117,none,.qW (.one .bool) true (.t 115) (.t 116)⟩,[]⟩,⟨⟨some 118,none,.mv (.t 117)⟩,[]⟩,⟨⟨(some 119),(some ⟨(some 118),false⟩),(.load 10 true (.t 17))⟩,[]⟩,⟨⟨(some 120),(some ⟨(some 118),false⟩),(.call false 48 [(.t 119)])⟩,[]⟩,⟨⟨(some 121),(some ⟨(some 118),false⟩),(.load 10 true (.t 15))⟩,[]⟩] [] [] [⟨(some 122),(some ⟨(some 118),false⟩),(.call false 47 [(.t 120),(.t 121)])⟩,⟨(some 123),(some ⟨(some 118),false⟩),(.no (.t 122))⟩,⟨some 124,none,.pick (.t 118) (.k (.one (.f (.bool true)))) (.t 123)⟩] [1,5,6,7,124]) (.cond (.t 124) (.seq (.reg [⟨some 4,none,.mv (.k (.one (.f (.bool false))))⟩] [4]) .ret) .skip)))) (.seq (.reg [⟨some 126,none,.cmp .eq (.t 66) (.k (.one (.f (.int .i64 2))))⟩,⟨some 125,none,.mv (.t 126)⟩] [1,5,6,7,8,125]) (.cond (.t 125) (.seq (.reg [⟨some 128,none,.load 3 true (.t 6)⟩,⟨some 129,none,.fa 2 (.t 8)⟩,⟨some 130,none,.fa 0 (.t 129)⟩,⟨some 131,none,.load 1 false (.t 130)⟩,⟨some 132,none,.call false 49 [(.t 128),(.t 131)]⟩,⟨some 127,none,.mv (.t 132)⟩,⟨some 133,none,.ext (.t 127) 0⟩,⟨some 134,none,.ext (.t 127) 1⟩,⟨some 19,none,.alloc 77 [(.f (.int .i64 0)),.fT,(.f (.int .i64 0))]⟩,⟨none,none,(.store 3 (.t 19) (.t 133))⟩,⟨some 20,none,.mv (.t 134)⟩] [1,5,6,7,8,19,20]) (.seq (.reg [⟨some 135,none,.load 3 true (.t 19)⟩,⟨none,none,(.store 3 (.t 6) (.t 135))⟩] [1,5,6,7,8,20]) (.seq (.reg [⟨some 136,none,.mv (.t 5)⟩,⟨some 137,none,.fa 2 (.t 8)⟩,⟨some 138,none,.fa 0 (.t 137)⟩,⟨some 139,none,.load 1 false (.t 138)⟩,⟨some 140,none,.call false 50 [(.t 136),(.t 139)]⟩,⟨some 141,none,.mv (.t 20)⟩,⟨some 142,none,.cmp .ne (.t 140) (.t 141)⟩] [1,5,6,7,142]) (.cond (.t 142) (.seq (.reg [⟨some 4,none,.mv (.k (.one (.f (.bool false))))⟩] [4]) .ret) .skip)))) .skip)))))))) (.seq (.any [⟨some 143,none,.mv (.t 5)⟩,⟨some 144,none,.call false 51 [(.t 143)]⟩,⟨some 145,none,.load 3 true (.t 6)⟩,⟨some 146,none,.call false 52 [(.t 145)]⟩,⟨some 147,none,.call false 28 [(.t 144),(.t 146)]⟩,⟨some 148,none,.no (.t 147)⟩,⟨some 149,none,.mv (.t 148)⟩,⟨(some 150),(some ⟨(some 149),false⟩),(.mv (.t 5))⟩,⟨(some 151),(some ⟨(some 149),false⟩),(.call false 53 [(.t 150)])⟩,⟨(some 152),(some ⟨(some 149),false⟩),(.fa 2 (.t 6))⟩,⟨(some 153),(some ⟨(some 149),false⟩),(.load 1 false (.t 152))⟩,⟨(some 154),(some ⟨(some 149),false⟩),(.cmp .ne (.t 151) (.t 153))⟩,⟨some 155,none,.pick (.t 149) (.k (.one (.f (.bool true)))) (.t 154)⟩] [[0,1,2,3,4,5,6,7,9,8,10,11,12],[0,1,2,3,4,5,6,7,9,10,8,11,12],[0,2,1,3,4,5,6,7,9,8,10,11,12],[0,2,1,3,4,5,6,7,9,10,8,11,12]] [1,5,6,7,155] [40202,140000,540200,540204,540206,580400,1600400,2660400]) (.cond (.t 155) (.seq (.reg [⟨some 4,none,.mv (.k (.one (.f (.bool false))))⟩] [4]) .ret) .skip)))))))) (.reg [⟨some 39,none,.mv (.t 7)⟩,⟨some 40,none,.ar .add (.t 39) (.k (.one (.f (.int .i64 1))))⟩,⟨some 7,none,.mv (.t 40)⟩] [1,5,6,7])))))) (.seq (.reg [⟨some 156,none,.call false 38 []⟩,⟨some 4,none,.mv (.t 156)⟩] [4]) .ret)))))))⟩
def c10 : CF:=⟨3,[(.t 6)],[],[],(.seq (.reg [⟨some 6,none,.mv (.k (.one (.f (.bool false))))⟩] [0,1,2]) (.seq (.seq (.reg [⟨some 17,none,.mv (.t 1)⟩,⟨some 18,none,.call false 37 [(.t 17),(.k (.one (.f (.int .i64 60))))]⟩,⟨some 19,none,.no (.t 18)⟩,⟨some 20,none,.mv (.t 19)⟩,⟨(some 21),(some ⟨(some 20),false⟩),(.mv (.t 0))⟩,⟨(some 22),(some ⟨(some 20),false⟩),(.cmp .lt (.t 21) (.k (.one (.f (.int .i64 1)))))⟩,⟨some 23,none,.pick (.t 20) (.k (.one (.f (.bool true)))) (.t 22)⟩,⟨some 24,none,.mv (.t 23)⟩,⟨(some 25),(some ⟨(some 24),false⟩),(.mv (.t 0))⟩,⟨(some 26),(some ⟨(some 24),false⟩),(.cmp .gt (.t 25) (.k (.one (.f (.int .i64 1000)))))⟩,⟨some 27,none,.pick (.t 24) (.k (.one (.f (.bool true)))) (.t 26)⟩] [0,1,2,27]) (.cond (.t 27) (.seq (.reg [⟨some 28,none,.call false 38 []⟩,⟨some 6,none,.mv (.t 28)⟩] [6]) .ret) .skip)) (.seq (.reg [⟨some 29,none,.mv (.t 0)⟩,⟨some 30,none,.call false 39 [(.t 29)]⟩,⟨some 7,none,.mv (.t 30)⟩] [0,1,2,7]) (.seq (.seq (.reg [⟨some 31,none,.mv (.t 7)⟩,⟨some 32,none,.oI false (.t 31)⟩] [0,1,2,7,32]) (.cond (.t 32) (.seq (.reg [⟨some 6,none,.mv (.k (.one (.f (.bool false))))⟩] [6]) .ret) .skip)) (.seq (.seq (.reg [⟨some 8,none,.mv (.k (.one (.f (.int .i64 0))))⟩] [0,1,2,7,8]) (.block 0 (.loop [0,1,2,7,8] [40202,620200,620204,620206] [] (.seq (.seq (.reg [⟨some 33,none,.mv (.t 8)⟩,⟨some 34,none,.mv (.t 1)⟩,⟨some 35,none,.jh (.t 34)⟩,⟨some 36,none,.cmp .lt (.t 33) (.t 35)⟩] [0,1,2,7,8,36]) (.cond (.t 36) .skip (.exit 0))) (.seq (.block 1 (.seq (.reg [⟨some 39,none,.mv (.t 1)⟩,⟨some 40,none,.mv (.t 8)⟩,⟨some 41,none,.ia 11 (.t 39) (.t 40)⟩,⟨some 42,none,.load 11 true (.t 41)⟩,⟨(some 9),none,(.alloc 80 [(.f (.int .i64 0)),(.f (.int .i64 0)),(.f (.str ⟨#[]⟩)),(.f (.int .i64 0)),(.f (.int .i64 0)),(.f (.bool false)),(.f (.str ⟨#[]⟩)),(.f (.int .i64 0)),(.f (.int .i64 0)),.fT,(.f (.int .i64 0))])⟩,⟨none,none,(.store 11 (.t 9) (.t 42))⟩] [0,1,2,7,8,9]) (.seq (.seq (.reg [⟨some 43,none,.mv (.t 7)⟩,⟨some 44,none,.fa 1 (.t 9)⟩,⟨some 45,none,.load 1 false (.t 44)⟩,⟨some 46,none,.fa 2 (.t 9)⟩,⟨some 47,none,.load 3 true (.t 46)⟩,⟨some 48,none,.fa 5 (.t 9)⟩,⟨some 49,none,.load 1 false (.t 48)⟩,⟨some 50,none,.fa 6 (.t 9)⟩,⟨some 51,none,.load 5 true (.t 50)⟩,⟨some 52,none,.call false 44 [(.t 43),(.t 45),(.t 47),(.t 49),(.t 51)]⟩,⟨some 53,none,.cmp .ne (.t 52) (.k (.one (.f (.int .i64 0))))⟩] [0,1,2,7,8,9,53]) (.cond (.t 53) (.exit 1) .skip)) (.seq (.reg [⟨some 55,none,.fa 6 (.t 9)⟩,⟨some 56,none,.load 5 true (.t 55)⟩,⟨some 57,none,.call false 41 [(.t 56)]⟩,⟨some 54,none,.mv (.t 57)⟩,⟨some 58,none,.ext (.t 54) 0⟩,⟨some 59,none,.ext (.t 54) 1⟩,⟨some 10,none,.mv (.t 58)⟩,⟨some 11,none,.mv (.t 59)⟩] [0,1,2,7,8,9,10,11]) (.seq (.reg [⟨some 61,none,.mv (.t 7)⟩,⟨some 62,none,.fa 1 (.t 9)⟩,⟨some 63,none,.load 1 false (.t 62)⟩,⟨some 64,none,.fa 2 (.t 9)⟩,⟨some 65,none,.load 3 true (.t 64)⟩,⟨some 66,none,.call false 46 [(.t 61),(.t 63),(.t 65)]⟩,⟨some 60,none,.mv (.t 66)⟩,⟨some 67,none,.ext (.t 60) 0⟩,⟨some 68,none,.ext (.t 60) 1⟩,⟨(some 12),none,(.alloc 90 [(.f (.str ⟨#[]⟩)),(.f (.int .i64 0)),(.f (.int .i64 0)),(.f (.bool false)),(.f (.str ⟨#[]⟩)),(.f (.int .i64 0)),(.f (.int .i64 0)),.fT,(.f (.int .i64 0)),(.f (.int .i64 0))])⟩,⟨none,none,(.store 10 (.t 12) (.t 67))⟩,⟨some 13,none,.mv (.t 68)⟩] [0,1,2,7,8,9,10,11,12,13]) (.seq (.seq (.wD [⟨⟨some 69,none,.mv (.t 11)⟩,[]⟩,⟨⟨some 70,none,.no (.t 69)⟩,[]⟩,⟨⟨some 71,none,.mv (.t 70)⟩,[]⟩,⟨⟨(some 72),(some ⟨(some 71),false⟩),(.mv (.t 13))⟩,[]⟩,⟨⟨(some 73),(some ⟨(some 71),false⟩),(.no (.t 72))⟩,[]⟩,⟨⟨some 74,none,.pick (.t 71) (.k (.one (.f (.bool true)))) (.t 73)⟩,[]⟩,⟨⟨some 75,none,.mv (.t 74)⟩,[]⟩,⟨⟨(some 76),(some ⟨(some 75),false⟩),(.mv (.t 10))⟩,[]⟩,⟨⟨(some 77),(some ⟨(some 75),false⟩),(.cmp .lt (.t 76) (.k (.one (.f (.int .i64 1)))))⟩,[]⟩,⟨⟨some 78,none,.pick (.t 75) (.k (.one (.f (.bool true)))) (.t 77)⟩,[]⟩,⟨⟨some 79,none,.mv (.t 78)⟩,[]⟩,⟨⟨(some 80),(some ⟨(some 79),false⟩),(.fa 9 (.t 12))⟩,[]⟩,⟨⟨(some 81),(some ⟨(some 79),false⟩),(.load 1 false (.t 80))⟩,[]⟩,⟨⟨(some 82),(some ⟨(some 79),false⟩),(.fa 1 (.t 9))⟩,[]⟩,⟨⟨(some 83),(some ⟨(some 79),false⟩),(.load 1 false (.t 82))⟩,[]⟩,⟨⟨(some 84),(some ⟨(some 79),false⟩),(.mv (.t 10))⟩,[]⟩,⟨⟨(some 85),(some ⟨(some 79),false⟩),(.ar .add (.t 83) (.t 84))⟩,[]⟩,⟨⟨(some 86),(some ⟨(some 79),false⟩),(.cmp .gt (.t 81) (.t 85))⟩,[]⟩,⟨⟨(some 87),(some ⟨(some 79),false⟩),(.mv (.t 86))⟩,[]⟩,⟨⟨(some 88),(some ⟨(some 87),true⟩),(.fa 0 (.t 12))⟩,[]⟩,⟨⟨(some 89),(some ⟨(some 87),true⟩),(.fa 1 (.t 88))⟩,[]⟩,⟨⟨(some 90),(some ⟨(some 87),true⟩),(.load 1 false (.t 89))⟩,[]⟩,⟨⟨(some 91),(some ⟨(some 87),true⟩),(.cmp .eq (.t 90) (.k (.one (.f (.int .i64 0)))))⟩,[]⟩,⟨⟨(some 92),(some ⟨(some 87),true⟩),(.fa 5 (.t 9))⟩,[]⟩,⟨⟨(some 93),(some ⟨(some 87),true⟩),(.load 1 false (.t 92))⟩,[]⟩,⟨⟨(some 94),(some ⟨(some 87),true⟩),(.qW (.one .bool) false (.t 91) (.t 93))⟩,[]⟩,⟨⟨(some 95),(some ⟨(some 79),false⟩),(.pick (.t 87) (.t 94) (.k (.one (.f (.bool false)))))⟩,[]⟩,⟨⟨(some 96),(some ⟨(some 79),false⟩),(.mv (.t 95))⟩,[]⟩,⟨⟨(some 97),(some ⟨(some 96),true⟩),(.fa 0 (.t 12))⟩,[]⟩,⟨⟨(some 98),(some ⟨(some 96),true⟩),(.load 3 true (.t 97))⟩,[]⟩,⟨⟨(some 99),(some ⟨(some 96),true⟩),(.load 11 true (.t 9))⟩,[]⟩,⟨⟨(some 100),(some ⟨(some 96),true⟩),(.call false 54 [(.t 99)])⟩,[]⟩] [] [] [⟨(some 101),(some ⟨(some 96),true⟩),(.qW (.agg [.str,(.int .i64),(.int .i64)]) false (.t 98) (.t 100))⟩,⟨(some 102),(some ⟨(some 79),false⟩),(.pick (.t 96) (.t 101) (.k (.one (.f (.bool false)))))⟩,⟨some 103,none,.pick (.t 79) (.k (.one (.f (.bool true)))) (.t 102)⟩] [0,1,2,7,8,9,103]) (.cond (.t 103) (.seq (.reg [⟨some 6,none,.mv (.k (.one (.f (.bool false))))⟩] [6]) .ret) .skip)) (.seq (.seq (.reg [⟨some 104,none,.fa 5 (.t 9)⟩,⟨some 105,none,.load 1 false (.t 104)⟩] [0,1,2,7,8,9,105]) (.cond (.t 105) (.seq (.reg [⟨some 106,none,.fa 2 (.t 9)⟩,⟨some 107,none,.load 3 true (.t 106)⟩,⟨(some 14),none,(.alloc 32 [(.f (.str ⟨#[]⟩)),(.f (.int .i64 0)),(.f (.int .i64 0))])⟩,⟨none,none,(.store 3 (.t 14) (.t 107))⟩] [0,1,2,7,8,9,14]) (.seq (.reg [⟨some 108,none,.mv (.t 2)⟩,⟨some 109,none,.fa 1 (.t 14)⟩,⟨none,none,(.store 1 (.t 109) (.t 108))⟩] [0,1,2,7,8,9,14]) (.seq (.reg [⟨some 111,none,.mv (.t 7)⟩,⟨some 112,none,.fa 1 (.t 9)⟩,⟨some 113,none,.load 1 false (.t 112)⟩,⟨some 114,none,.load 3 true (.t 14)⟩,⟨some 115,none,.call false 46 [(.t 111),(.t 113),(.t 114)]⟩,⟨some 110,none,.mv (.t 115)⟩,⟨some 116,none,.ext (.t 110) 0⟩,⟨some 117,none,.ext (.t 110) 1⟩,⟨(some 15),none,(.alloc 90 [(.f (.str ⟨#[]⟩)),(.f (.int .i64 0)),(.f (.int .i64 0)),(.f (.bool false)),(.f (.str ⟨#[]⟩)),(.f (.int .i64 0)),(.f (.int .i64 0)),.fT,(.f (.int .i64 0)),(.f (.int .i64 0))])⟩,⟨none,none,(.store 10 (.t 15) (.t 116))⟩,⟨some 16,none,.mv (.t 117)⟩] [0,1,2,7,8,15,16]) (.seq (.reg [⟨some 118,none,.mv (.t 16)⟩,⟨some 119,none,.no (.t 118)⟩,⟨some 120,none,.mv (.t 119)⟩,⟨(some 121),(some ⟨(some 120),false⟩),(.fa 3 (.t 15))⟩,⟨(some 122),(some ⟨(some 120),false⟩),(.load 1 false (.t 121))⟩,⟨(some 123),(some ⟨(some 120),false⟩),(.no (.t 122))⟩,⟨some 124,none,.pick (.t 120) (.k (.one (.f (.bool true)))) (.t 123)⟩,⟨some 125,none,.mv (.t 124)⟩,⟨(some 126),(some ⟨(some 125),false⟩),(.fa 0 (.t 15))⟩,⟨(some 127),(some ⟨(some 125),false⟩),(.fa 1 (.t 126))⟩,⟨(some 128),(some ⟨(some 125),false⟩),(.load 1 false (.t 127))⟩,⟨(some 129),(some ⟨(some 125),false⟩),(.cmp .ne (.t 128) (.k (.one (.f (.int .i64 0)))))⟩,⟨some 130,none,.pick (.t 125) (.k (.one (.f (.bool true)))) (.t 129)⟩] [0,1,2,7,8,130]) (.cond (.t 130) (.seq (.reg [⟨some 6,none,.mv (.k (.one (.f (.bool false))))⟩] [6]) .ret) .skip))))) .skip)) (.seq (.reg [⟨some 131,none,.mv (.t 7)⟩,⟨some 132,none,.call false 51 [(.t 131)]⟩,⟨some 133,none,.jh (.t 132)⟩,⟨some 134,none,.mv (.t 0)⟩,⟨some 135,none,.cmp .gt (.t 133) (.t 134)⟩,⟨some 136,none,.mv (.t 135)⟩,⟨(some 137),(some ⟨(some 136),false⟩),(.mv (.t 7))⟩,⟨(some 138),(some ⟨(some 136),false⟩),(.call false 51 [(.t 137)])⟩,⟨(some 139),(some ⟨(some 136),false⟩),(.call false 34 [(.t 138)])⟩,⟨(some 140),(some ⟨(some 136),false⟩),(.no (.t 139))⟩,⟨some 141,none,.pick (.t 136) (.k (.one (.f (.bool true)))) (.t 140)⟩] [0,1,2,7,8,141]) (.cond (.t 141) (.seq (.reg [⟨some 6,none,.mv (.k (.one (.f (.bool false))))⟩] [6]) .ret) .skip))))))))) (.reg [⟨some 37,none,.mv (.t 8)⟩,⟨some 38,none,.ar .add (.t 37) (.k (.one (.f (.int .i64 1))))⟩,⟨some 8,none,.mv (.t 38)⟩] [0,1,2,7,8])))))) (.seq (.reg [⟨some 142,none,.call false 38 []⟩,⟨some 6,none,.mv (.t 142)⟩] [6]) .ret))))))⟩
def c11 : CF:=⟨1,[(.t 2)],[],[],(.seq (.reg [⟨some 1,none,.box 80 (.t 0)⟩,⟨some 2,none,.mv (.k (.one (.f (.bool false))))⟩] [1]) (.seq (.seq (.reg [⟨some 6,none,.load 11 true (.t 1)⟩,⟨(some 7),none,(.Fu 80 11 1 [(.f (.int .i64 0)),(.f (.int .i64 0)),(.f (.str ⟨#[]⟩)),(.f (.int .i64 0)),(.f (.int .i64 0)),(.f (.bool false)),(.f (.str ⟨#[]⟩)),(.f (.int .i64 0)),(.f (.int .i64 0)),.fT,(.f (.int .i64 0))] [⟨0,⟨11,(.t 6)⟩⟩])⟩,⟨some 8,none,.call false 37 [(.t 7),(.k (.one (.f (.int .i64 1))))]⟩,⟨some 9,none,.no (.t 8)⟩] [1,9]) (.cond (.t 9) (.seq (.reg [⟨some 10,none,.call false 38 []⟩,⟨some 2,none,.mv (.t 10)⟩] [2]) .ret) .skip)) (.seq (.reg [⟨some 3,none,.mv (.k (.one .jH))⟩] [1,3]) (.seq (.reg [⟨some 12,none,.mv (.t 3)⟩,⟨some 13,none,.fa 1 (.t 1)⟩,⟨some 14,none,.load 1 false (.t 13)⟩,⟨some 15,none,.fa 2 (.t 1)⟩,⟨some 16,none,.load 3 true (.t 15)⟩,⟨some 17,none,.call false 46 [(.t 12),(.t 14),(.t 16)]⟩,⟨some 11,none,.mv (.t 17)⟩,⟨some 18,none,.ext (.t 11) 0⟩,⟨some 19,none,.ext (.t 11) 1⟩,⟨(some 4),none,(.alloc 90 [(.f (.str ⟨#[]⟩)),(.f (.int .i64 0)),(.f (.int .i64 0)),(.f (.bool false)),(.f (.str ⟨#[]⟩)),(.f (.int .i64 0)),(.f (.int .i64 0)),.fT,(.f (.int .i64 0)),(.f (.int .i64 0))])⟩,⟨none,none,(.store 10 (.t 4) (.t 18))⟩,⟨some 5,none,.mv (.t 19)⟩] [1,3,4,5]) (.seq (.reg [⟨some 20,none,.mv (.t 3)⟩,⟨some 21,none,.fa 1 (.t 1)⟩,⟨some 22,none,.load 1 false (.t 21)⟩,⟨some 23,none,.fa 2 (.t 1)⟩,⟨some 24,none,.load 3 true (.t 23)⟩,⟨some 25,none,.fa 5 (.t 1)⟩,⟨some 26,none,.load 1 false (.t 25)⟩,⟨some 27,none,.fa 6 (.t 1)⟩,⟨some 28,none,.load 5 true (.t 27)⟩,⟨some 29,none,.call false 44 [(.t 20),(.t 22),(.t 24),(.t 26),(.t 28)]⟩,⟨some 30,none,.cmp .eq (.t 29) (.k (.one (.f (.int .i64 1))))⟩,⟨some 31,none,.mv (.t 30)⟩,⟨(some 32),(some ⟨(some 31),true⟩),(.mv (.t 5))⟩,⟨(some 33),(some ⟨(some 31),true⟩),(.no (.t 32))⟩,⟨some 34,none,.pick (.t 31) (.t 33) (.k (.one (.f (.bool false))))⟩,⟨some 35,none,.mv (.t 34)⟩,⟨(some 36),(some ⟨(some 35),true⟩),(.fa 9 (.t 4))⟩,⟨(some 37),(some ⟨(some 35),true⟩),(.load 1 false (.t 36))⟩,⟨(some 38),(some ⟨(some 35),true⟩),(.cmp .eq (.t 37) (.k (.one (.f (.int .i64 0)))))⟩,⟨some 39,none,.pick (.t 35) (.t 38) (.k (.one (.f (.bool false))))⟩,⟨some 40,none,.mv (.t 39)⟩,⟨(some 41),(some ⟨(some 40),true⟩),(.mv (.t 3))⟩,⟨(some 42),(some ⟨(some 40),true⟩),(.fa 2 (.t 1))⟩,⟨(some 43),(some ⟨(some 40),true⟩),(.fa 0 (.t 42))⟩,⟨(some 44),(some ⟨(some 40),true⟩),(.load 1 false (.t 43))⟩,⟨(some 45),(some ⟨(some 40),true⟩),(.call false 50 [(.t 41),(.t 44)])⟩,⟨(some 46),(some ⟨(some 40),true⟩),(.cmp .eq (.t 45) (.k (.one (.f (.int .i64 0)))))⟩,⟨some 47,none,.pick (.t 40) (.t 46) (.k (.one (.f (.bool false))))⟩,⟨some 48,none,.mv (.t 47)⟩,⟨(some 49),(some ⟨(some 48),true⟩),(.mv (.t 3))⟩,⟨(some 50),(some ⟨(some 48),true⟩),(.call false 51 [(.t 49)])⟩,⟨(some 51),(some ⟨(some 48),true⟩),(.jh (.t 50))⟩,⟨(some 52),(some ⟨(some 48),true⟩),(.cmp .eq (.t 51) (.k (.one (.f (.int .i64 0)))))⟩,⟨some 53,none,.pick (.t 48) (.t 52) (.k (.one (.f (.bool false))))⟩,⟨some 54,none,.mv (.t 53)⟩,⟨(some 55),(some ⟨(some 54),true⟩),(.mv (.t 3))⟩,⟨(some 56),(some ⟨(some 54),true⟩),(.call false 53 [(.t 55)])⟩,⟨(some 57),(some ⟨(some 54),true⟩),(.cmp .eq (.t 56) (.k (.one (.f (.int .i64 0)))))⟩,⟨some 58,none,.pick (.t 54) (.t 57) (.k (.one (.f (.bool false))))⟩,⟨some 59,none,.mv (.t 58)⟩,⟨(some 60),(some ⟨(some 59),true⟩),(.call false 38 [])⟩,⟨some 61,none,.pick (.t 59) (.t 60) (.k (.one (.f (.bool false))))⟩,⟨some 2,none,.mv (.t 61)⟩] [2]) .ret)))))⟩
def c12 : CF:=⟨3,[(.t 6)],[],[],(.seq (.reg [⟨some 4,none,.box 32 (.t 1)⟩,⟨some 6,none,.mv (.k (.one (.f (.bool false))))⟩] [0,2,4]) (.seq (.seq (.reg [⟨some 13,none,.mv (.t 0)⟩,⟨some 14,none,.call false 37 [(.t 13),(.k (.one (.f (.int .i64 60))))]⟩,⟨some 15,none,.no (.t 14)⟩,⟨some 16,none,.mv (.t 15)⟩,⟨(some 17),(some ⟨(some 16),false⟩),(.fa 0 (.t 4))⟩,⟨(some 18),(some ⟨(some 16),false⟩),(.load 1 false (.t 17))⟩,⟨(some 19),(some ⟨(some 16),false⟩),(.uV (.t 18))⟩,⟨(some 20),(some ⟨(some 16),false⟩),(.cmp .gt (.t 19) (.k (.one (.f (.int .i64 300)))))⟩,⟨some 21,none,.pick (.t 16) (.k (.one (.f (.bool true)))) (.t 20)⟩,⟨some 22,none,.mv (.t 21)⟩,⟨(some 23),(some ⟨(some 22),false⟩),(.mv (.t 2))⟩,⟨(some 24),(some ⟨(some 22),false⟩),(.cmp .lt (.t 23) (.k (.one (.f (.int .i64 0)))))⟩,⟨some 25,none,.pick (.t 22) (.k (.one (.f (.bool true)))) (.t 24)⟩,⟨some 26,none,.mv (.t 25)⟩,⟨(some 27),(some ⟨(some 26),false⟩),(.mv (.t 2))⟩,⟨(some 28),(some ⟨(some 26),false⟩),(.cmp .gt (.t 27) (.k (.one (.f (.int .i64 549755813888)))))⟩,⟨some 29,none,.pick (.t 26) (.k (.one (.f (.bool true)))) (.t 28)⟩] [0,2,4,29]) (.cond (.t 29) (.seq (.reg [⟨some 30,none,.call false 38 []⟩,⟨some 6,none,.mv (.t 30)⟩] [6]) .ret) .skip)) (.seq (.reg [⟨some 31,none,.call false 39 [(.k (.one (.f (.int .i64 50))))]⟩,⟨some 7,none,.mv (.t 31)⟩] [0,2,4,7]) (.seq (.seq (.reg [⟨some 32,none,.mv (.t 7)⟩,⟨some 33,none,.oI false (.t 32)⟩] [0,2,4,7,33]) (.cond (.t 33) (.seq (.reg [⟨some 6,none,.mv (.k (.one (.f (.bool false))))⟩] [6]) .ret) .skip)) (.seq (.seq (.reg [⟨some 8,none,.mv (.k (.one (.f (.int .i64 0))))⟩] [0,2,4,7,8]) (.block 0 (.loop [0,2,4,7,8] [20202,100000,640200,640204,640206] [] (.seq (.seq (.reg [⟨some 34,none,.mv (.t 8)⟩,⟨some 35,none,.mv (.t 0)⟩,⟨some 36,none,.jh (.t 35)⟩,⟨some 37,none,.cmp .lt (.t 34) (.t 36)⟩] [0,2,4,7,8,37]) (.cond (.t 37) .skip (.exit 0))) (.seq (.block 1 (.wD [⟨⟨some 40,none,.mv (.t 7)⟩,[]⟩,⟨⟨some 41,none,.mv (.t 0)⟩,[]⟩,⟨⟨some 42,none,.mv (.t 8)⟩,[]⟩,⟨⟨some 43,none,.ia 11 (.t 41) (.t 42)⟩,[]⟩,⟨⟨some 44,none,.fa 1 (.t 43)⟩,[]⟩,⟨⟨some 45,none,.load 1 false (.t 44)⟩,[]⟩,⟨⟨some 46,none,.mv (.t 0)⟩,[]⟩,⟨⟨some 47,none,.mv (.t 8)⟩,[]⟩,⟨⟨some 48,none,.ia 11 (.t 46) (.t 47)⟩,[]⟩,⟨⟨some 49,none,.fa 2 (.t 48)⟩,[]⟩,⟨⟨some 50,none,.load 3 true (.t 49)⟩,[]⟩,⟨⟨some 51,none,.mv (.t 0)⟩,[]⟩,⟨⟨some 52,none,.mv (.t 8)⟩,[]⟩,⟨⟨some 53,none,.ia 11 (.t 51) (.t 52)⟩,[]⟩,⟨⟨some 54,none,.fa 5 (.t 53)⟩,[]⟩,⟨⟨some 55,none,.load 1 false (.t 54)⟩,[]⟩,⟨⟨some 56,none,.mv (.t 0)⟩,[]⟩,⟨⟨some 57,none,.mv (.t 8)⟩,[]⟩,⟨⟨some 58,none,.ia 11 (.t 56) (.t 57)⟩,[]⟩,⟨⟨some 59,none,.fa 6 (.t 58)⟩,[]⟩,⟨⟨some 60,none,.load 5 true (.t 59)⟩,[]⟩] [] [] [⟨some 61,none,.call false 44 [(.t 40),(.t 45),(.t 50),(.t 55),(.t 60)]⟩] [0,2,4,7,8])) (.reg [⟨some 38,none,.mv (.t 8)⟩,⟨some 39,none,.ar .add (.t 38) (.k (.one (.f (.int .i64 1))))⟩,⟨some 8,none,.mv (.t 39)⟩] [0,2,4,7,8])))))) (.seq (.reg [⟨some 63,none,.mv (.t 7)⟩,⟨some 64,none,.mv (.t 2)⟩,⟨some 65,none,.load 3 true (.t 4)⟩,⟨some 66,none,.call false 46 [(.t 63),(.t 64),(.t 65)]⟩,⟨some 62,none,.mv (.t 66)⟩,⟨some 67,none,.ext (.t 62) 0⟩,⟨some 68,none,.ext (.t 62) 1⟩,⟨(some 9),none,(.alloc 90 [(.f (.str ⟨#[]⟩)),(.f (.int .i64 0)),(.f (.int .i64 0)),(.f (.bool false)),(.f (.str ⟨#[]⟩)),(.f (.int .i64 0)),(.f (.int .i64 0)),.fT,(.f (.int .i64 0)),(.f (.int .i64 0))])⟩,⟨none,none,(.store 10 (.t 9) (.t 67))⟩,⟨some 10,none,.mv (.t 68)⟩] [2,4,7,9,10]) (.seq (.reg [⟨some 70,none,.mv (.t 7)⟩,⟨some 71,none,.mv (.t 2)⟩,⟨some 72,none,.ar .add (.t 71) (.k (.one (.f (.int .i64 1))))⟩,⟨some 73,none,.load 3 true (.t 4)⟩,⟨some 74,none,.call false 46 [(.t 70),(.t 72),(.t 73)]⟩,⟨some 69,none,.mv (.t 74)⟩,⟨some 75,none,.ext (.t 69) 0⟩,⟨some 76,none,.ext (.t 69) 1⟩,⟨(some 11),none,(.alloc 90 [(.f (.str ⟨#[]⟩)),(.f (.int .i64 0)),(.f (.int .i64 0)),(.f (.bool false)),(.f (.str ⟨#[]⟩)),(.f (.int .i64 0)),(.f (.int .i64 0)),.fT,(.f (.int .i64 0)),(.f (.int .i64 0))])⟩,⟨none,none,(.store 10 (.t 11) (.t 75))⟩,⟨some 12,none,.mv (.t 76)⟩] [2,9,10,11,12]) (.seq (.seq (.reg [⟨some 77,none,.mv (.t 12)⟩,⟨some 78,none,.mv (.t 77)⟩,⟨(some 79),(some ⟨(some 78),true⟩),(.mv (.t 10))⟩,⟨(some 80),(some ⟨(some 78),true⟩),(.no (.t 79))⟩,⟨(some 81),(some ⟨(some 78),true⟩),(.mv (.t 80))⟩,⟨(some 82),(some ⟨(some 81),false⟩),(.fa 9 (.t 11))⟩,⟨(some 83),(some ⟨(some 81),false⟩),(.load 1 false (.t 82))⟩,⟨(some 84),(some ⟨(some 81),false⟩),(.mv (.t 2))⟩,⟨(some 85),(some ⟨(some 81),false⟩),(.ar .add (.t 84) (.k (.one (.f (.int .i64 1)))))⟩,⟨(some 86),(some ⟨(some 81),false⟩),(.cmp .le (.t 83) (.t 85))⟩,⟨(some 87),(some ⟨(some 78),true⟩),(.pick (.t 81) (.k (.one (.f (.bool true)))) (.t 86))⟩,⟨some 88,none,.pick (.t 78) (.t 87) (.k (.one (.f (.bool false))))⟩] [2,9,10,11,12,88]) (.cond (.t 88) (.seq (.reg [⟨some 6,none,.mv (.k (.one (.f (.bool false))))⟩] [6]) .ret) .skip)) (.seq (.seq (.reg [⟨some 89,none,.mv (.t 10)⟩,⟨some 90,none,.mv (.t 89)⟩,⟨(some 91),(some ⟨(some 90),true⟩),(.fa 9 (.t 9))⟩,⟨(some 92),(some ⟨(some 90),true⟩),(.load 1 false (.t 91))⟩,⟨(some 93),(some ⟨(some 90),true⟩),(.mv (.t 2))⟩,⟨(some 94),(some ⟨(some 90),true⟩),(.cmp .le (.t 92) (.t 93))⟩,⟨some 95,none,.pick (.t 90) (.t 94) (.k (.one (.f (.bool false))))⟩] [2,9,10,11,12,95]) (.cond (.t 95) (.seq (.reg [⟨some 6,none,.mv (.k (.one (.f (.bool false))))⟩] [6]) .ret) .skip)) (.seq (.reg [⟨some 96,none,.mv (.t 10)⟩,⟨some 97,none,.no (.t 96)⟩,⟨some 98,none,.mv (.t 97)⟩,⟨(some 99),(some ⟨(some 98),false⟩),(.mv (.t 12))⟩,⟨(some 100),(some ⟨(some 98),false⟩),(.no (.t 99))⟩,⟨some 101,none,.pick (.t 98) (.k (.one (.f (.bool true)))) (.t 100)⟩,⟨some 102,none,.mv (.t 101)⟩,⟨(some 103),(some ⟨(some 102),false⟩),(.fa 0 (.t 9))⟩,⟨(some 104),(some ⟨(some 102),false⟩),(.load 3 true (.t 103))⟩,⟨(some 105),(some ⟨(some 102),false⟩),(.fa 0 (.t 11))⟩,⟨(some 106),(some ⟨(some 102),false⟩),(.load 3 true (.t 105))⟩,⟨(some 107),(some ⟨(some 102),false⟩),(.qW (.agg [.str,(.int .i64),(.int .i64)]) false (.t 104) (.t 106))⟩,⟨some 108,none,.pick (.t 102) (.k (.one (.f (.bool true)))) (.t 107)⟩,⟨some 109,none,.mv (.t 108)⟩,⟨(some 110),(some ⟨(some 109),false⟩),(.fa 3 (.t 9))⟩,⟨(some 111),(some ⟨(some 109),false⟩),(.load 1 false (.t 110))⟩,⟨(some 112),(some ⟨(some 109),false⟩),(.mv (.t 111))⟩,⟨(some 113),(some ⟨(some 112),true⟩),(.fa 3 (.t 11))⟩,⟨(some 114),(some ⟨(some 112),true⟩),(.load 1 false (.t 113))⟩,⟨(some 115),(some ⟨(some 112),true⟩),(.no (.t 114))⟩,⟨(some 116),(some ⟨(some 109),false⟩),(.pick (.t 112) (.t 115) (.k (.one (.f (.bool false)))))⟩,⟨(some 117),(some ⟨(some 109),false⟩),(.mv (.t 116))⟩,⟨(some 118),(some ⟨(some 117),true⟩),(.fa 9 (.t 9))⟩,⟨(some 119),(some ⟨(some 117),true⟩),(.load 1 false (.t 118))⟩,⟨(some 120),(some ⟨(some 117),true⟩),(.mv (.t 2))⟩,⟨(some 121),(some ⟨(some 117),true⟩),(.ar .add (.t 120) (.k (.one (.f (.int .i64 1)))))⟩,⟨(some 122),(some ⟨(some 117),true⟩),(.cmp .eq (.t 119) (.t 121))⟩,⟨(some 123),(some ⟨(some 109),false⟩),(.pick (.t 117) (.t 122) (.k (.one (.f (.bool false)))))⟩,⟨some 124,none,.pick (.t 109) (.k (.one (.f (.bool true)))) (.t 123)⟩,⟨some 125,none,.mv (.t 124)⟩,⟨(some 126),(some ⟨(some 125),true⟩),(.call false 38 [])⟩,⟨some 127,none,.pick (.t 125) (.t 126) (.k (.one (.f (.bool false))))⟩,⟨some 6,none,.mv (.t 127)⟩] [6]) .ret))))))))))⟩
def c13 : CF:=⟨3,[(.t 6)],[],[],(.seq (.reg [⟨some 5,none,.box 32 (.t 2)⟩,⟨some 6,none,.mv (.k (.one (.f (.bool false))))⟩] [0,1,5]) (.seq (.seq (.reg [⟨some 16,none,.mv (.t 0)⟩,⟨some 17,none,.call false 37 [(.t 16),(.k (.one (.f (.int .i64 60))))]⟩,⟨some 18,none,.no (.t 17)⟩,⟨some 19,none,.mv (.t 18)⟩,⟨(some 20),(some ⟨(some 19),false⟩),(.fa 0 (.t 5))⟩,⟨(some 21),(some ⟨(some 19),false⟩),(.load 1 false (.t 20))⟩,⟨(some 22),(some ⟨(some 19),false⟩),(.uV (.t 21))⟩,⟨(some 23),(some ⟨(some 19),false⟩),(.cmp .gt (.t 22) (.k (.one (.f (.int .i64 300)))))⟩,⟨some 24,none,.pick (.t 19) (.k (.one (.f (.bool true)))) (.t 23)⟩,⟨some 25,none,.mv (.t 24)⟩,⟨(some 26),(some ⟨(some 25),false⟩),(.mv (.t 1))⟩,⟨(some 27),(some ⟨(some 25),false⟩),(.uV (.t 26))⟩,⟨(some 28),(some ⟨(some 25),false⟩),(.cmp .gt (.t 27) (.k (.one (.f (.int .i64 300)))))⟩,⟨some 29,none,.pick (.t 25) (.k (.one (.f (.bool true)))) (.t 28)⟩] [0,1,5,29]) (.cond (.t 29) (.seq (.reg [⟨some 30,none,.call false 38 []⟩,⟨some 6,none,.mv (.t 30)⟩] [6]) .ret) .skip)) (.seq (.reg [⟨some 31,none,.call false 39 [(.k (.one (.f (.int .i64 50))))]⟩,⟨some 7,none,.mv (.t 31)⟩] [0,1,5,7]) (.seq (.seq (.reg [⟨some 32,none,.mv (.t 7)⟩,⟨some 33,none,.oI false (.t 32)⟩] [0,1,5,7,33]) (.cond (.t 33) (.seq (.reg [⟨some 6,none,.mv (.k (.one (.f (.bool false))))⟩] [6]) .ret) .skip)) (.seq (.reg [⟨some 8,none,.mv (.k (.one (.f (.int .i64 0))))⟩] [0,1,5,7,8]) (.seq (.seq (.reg [⟨some 9,none,.mv (.k (.one (.f (.int .i64 0))))⟩] [0,1,5,7,8,9]) (.block 0 (.loop [0,1,5,7,8,9] [20202,120000,640200,640204,640206] [] (.seq (.seq (.reg [⟨some 34,none,.mv (.t 9)⟩,⟨some 35,none,.mv (.t 0)⟩,⟨some 36,none,.jh (.t 35)⟩,⟨some 37,none,.cmp .lt (.t 34) (.t 36)⟩] [0,1,5,7,8,9,37]) (.cond (.t 37) .skip (.exit 0))) (.seq (.block 1 (.seq (.wD [⟨⟨some 40,none,.mv (.t 7)⟩,[]⟩,⟨⟨some 41,none,.mv (.t 0)⟩,[]⟩,⟨⟨some 42,none,.mv (.t 9)⟩,[]⟩,⟨⟨some 43,none,.ia 11 (.t 41) (.t 42)⟩,[]⟩,⟨⟨some 44,none,.fa 1 (.t 43)⟩,[]⟩,⟨⟨some 45,none,.load 1 false (.t 44)⟩,[]⟩,⟨⟨some 46,none,.mv (.t 0)⟩,[]⟩,⟨⟨some 47,none,.mv (.t 9)⟩,[]⟩,⟨⟨some 48,none,.ia 11 (.t 46) (.t 47)⟩,[]⟩,⟨⟨some 49,none,.fa 2 (.t 48)⟩,[]⟩,⟨⟨some 50,none,.load 3 true (.t 49)⟩,[]⟩,⟨⟨some 51,none,.mv (.t 0)⟩,[]⟩,⟨⟨some 52,none,.mv (.t 9)⟩,[]⟩,⟨⟨some 53,none,.ia 11 (.t 51) (.t 52)⟩,[]⟩,⟨⟨some 54,none,.fa 5 (.t 53)⟩,[]⟩,⟨⟨some 55,none,.load 1 false (.t 54)⟩,[]⟩,⟨⟨some 56,none,.mv (.t 0)⟩,[]⟩,⟨⟨some 57,none,.mv (.t 9)⟩,[]⟩,⟨⟨some 58,none,.ia 11 (.t 56) (.t 57)⟩,[]⟩,⟨⟨some 59,none,.fa 6 (.t 58)⟩,[]⟩,⟨⟨some 60,none,.load 5 true (.t 59)⟩,[]⟩] [] [] [⟨some 61,none,.call false 44 [(.t 40),(.t 45),(.t 50),(.t 55),(.t 60)]⟩] [0,1,5,7,8,9]) (.reg [⟨some 62,none,.mv (.t 8)⟩,⟨some 63,none,.mv (.t 0)⟩,⟨some 64,none,.mv (.t 9)⟩,⟨some 65,none,.ia 11 (.t 63) (.t 64)⟩,⟨some 66,none,.fa 1 (.t 65)⟩,⟨some 67,none,.load 1 false (.t 66)⟩,⟨some 68,none,.mx (.t 62) (.t 67)⟩,⟨some 8,none,.mv (.t 68)⟩] [0,1,5,7,8,9]))) (.reg [⟨some 38,none,.mv (.t 9)⟩,⟨some 39,none,.ar .add (.t 38) (.k (.one (.f (.int .i64 1))))⟩,⟨some 9,none,.mv (.t 39)⟩] [0,1,5,7,8,9])))))) (.seq (.reg [⟨some 70,none,.mv (.t 7)⟩,⟨some 71,none,.mv (.t 8)⟩,⟨some 72,none,.load 3 true (.t 5)⟩,⟨some 73,none,.call false 46 [(.t 70),(.t 71),(.t 72)]⟩,⟨some 69,none,.mv (.t 73)⟩,⟨some 74,none,.ext (.t 69) 0⟩,⟨some 75,none,.ext (.t 69) 1⟩,⟨(some 10),none,(.alloc 90 [(.f (.str ⟨#[]⟩)),(.f (.int .i64 0)),(.f (.int .i64 0)),(.f (.bool false)),(.f (.str ⟨#[]⟩)),(.f (.int .i64 0)),(.f (.int .i64 0)),.fT,(.f (.int .i64 0)),(.f (.int .i64 0))])⟩,⟨none,none,(.store 10 (.t 10) (.t 74))⟩,⟨some 11,none,.mv (.t 75)⟩] [1,5,7,8,10,11]) (.seq (.reg [⟨some 76,none,.mv (.t 7)⟩,⟨some 77,none,.call false 51 [(.t 76)]⟩,⟨some 78,none,.jh (.t 77)⟩,⟨some 12,none,.mv (.t 78)⟩] [1,5,7,8,10,11,12]) (.seq (.reg [⟨some 79,none,.mv (.t 7)⟩,⟨some 80,none,.mv (.t 1)⟩,⟨some 81,none,.call false 50 [(.t 79),(.t 80)]⟩,⟨some 13,none,.mv (.t 81)⟩] [1,5,7,8,10,11,12,13]) (.seq (.reg [⟨some 83,none,.mv (.t 7)⟩,⟨some 84,none,.mv (.t 8)⟩,⟨some 85,none,.load 3 true (.t 5)⟩,⟨some 86,none,.call false 46 [(.t 83),(.t 84),(.t 85)]⟩,⟨some 82,none,.mv (.t 86)⟩,⟨some 87,none,.ext (.t 82) 0⟩,⟨some 88,none,.ext (.t 82) 1⟩,⟨(some 14),none,(.alloc 90 [(.f (.str ⟨#[]⟩)),(.f (.int .i64 0)),(.f (.int .i64 0)),(.f (.bool false)),(.f (.str ⟨#[]⟩)),(.f (.int .i64 0)),(.f (.int .i64 0)),.fT,(.f (.int .i64 0)),(.f (.int .i64 0))])⟩,⟨none,none,(.store 10 (.t 14) (.t 87))⟩,⟨some 15,none,.mv (.t 88)⟩] [1,5,7,10,11,12,13,14,15]) (.seq (.seq (.reg [⟨some 89,none,.mv (.t 7)⟩,⟨some 90,none,.call false 51 [(.t 89)]⟩,⟨some 91,none,.jh (.t 90)⟩,⟨some 92,none,.mv (.t 13)⟩,⟨some 93,none,.ar .add (.t 91) (.t 92)⟩,⟨some 94,none,.mv (.t 12)⟩,⟨some 95,none,.cmp .ne (.t 93) (.t 94)⟩,⟨some 96,none,.mv (.t 95)⟩,⟨(some 97),(some ⟨(some 96),false⟩),(.mv (.t 13))⟩,⟨(some 98),(some ⟨(some 96),false⟩),(.cmp .lt (.t 97) (.k (.one (.f (.int .i64 0)))))⟩,⟨some 99,none,.pick (.t 96) (.k (.one (.f (.bool true)))) (.t 98)⟩] [1,5,10,11,14,15,99]) (.cond (.t 99) (.seq (.reg [⟨some 6,none,.mv (.k (.one (.f (.bool false))))⟩] [6]) .ret) .skip)) (.seq (.seq (.reg [⟨some 100,none,.fa 0 (.t 5)⟩,⟨some 101,none,.load 1 false (.t 100)⟩,⟨some 102,none,.mv (.t 1)⟩,⟨some 103,none,.qW (.one .str) false (.t 101) (.t 102)⟩] [10,11,14,15,103]) (.cond (.t 103) (.seq (.reg [⟨some 104,none,.mv (.t 15)⟩,⟨some 105,none,.no (.t 104)⟩,⟨some 106,none,.mv (.t 105)⟩,⟨(some 107),(some ⟨(some 106),true⟩),(.call false 38 [])⟩,⟨some 108,none,.pick (.t 106) (.t 107) (.k (.one (.f (.bool false))))⟩,⟨some 6,none,.mv (.t 108)⟩] [6]) .ret) .skip)) (.seq (.wD [⟨⟨some 109,none,.mv (.t 11)⟩,[]⟩,⟨⟨some 110,none,.mv (.t 15)⟩,[]⟩,⟨⟨some 111,none,.qW (.one .bool) false (.t 109) (.t 110)⟩,[]⟩,⟨⟨some 112,none,.mv (.t 111)⟩,[]⟩,⟨⟨(some 113),(some ⟨(some 112),true⟩),(.load 10 true (.t 10))⟩,[]⟩,⟨⟨(some 114),(some ⟨(some 112),true⟩),(.call false 48 [(.t 113)])⟩,[]⟩,⟨⟨(some 115),(some ⟨(some 112),true⟩),(.load 10 true (.t 14))⟩,[]⟩] [] [] [⟨(some 116),(some ⟨(some 112),true⟩),(.call false 48 [(.t 115)])⟩,⟨(some 117),(some ⟨(some 112),true⟩),(.call false 47 [(.t 114),(.t 116)])⟩,⟨some 118,none,.pick (.t 112) (.t 117) (.k (.one (.f (.bool false))))⟩,⟨some 119,none,.mv (.t 118)⟩,⟨(some 120),(some ⟨(some 119),true⟩),(.call false 38 [])⟩,⟨some 121,none,.pick (.t 119) (.t 120) (.k (.one (.f (.bool false))))⟩,⟨some 6,none,.mv (.t 121)⟩] [6]) .ret)))))))))))))⟩
def c37 : CF:=⟨2,[(.t 4)],[],[],(.seq (.reg [⟨some 4,none,.mv (.k (.one (.f (.bool false))))⟩] [0,1]) (.seq (.seq (.reg [⟨some 5,none,.mv (.k (.one (.f (.int .i64 0))))⟩] [0,1,5]) (.block 0 (.loop [0,1,5] [20202] [] (.seq (.seq (.reg [⟨some 6,none,.mv (.t 5)⟩,⟨some 7,none,.mv (.t 0)⟩,⟨some 8,none,.jh (.t 7)⟩,⟨some 9,none,.cmp .lt (.t 6) (.t 8)⟩] [0,1,5,9]) (.cond (.t 9) .skip (.exit 0))) (.seq (.block 1 (.seq (.reg [⟨some 12,none,.mv (.t 0)⟩,⟨some 13,none,.mv (.t 5)⟩,⟨some 14,none,.ia 11 (.t 12) (.t 13)⟩,⟨some 15,none,.fa 6 (.t 14)⟩,⟨some 16,none,.load 5 true (.t 15)⟩,⟨some 17,none,.call false 35 [(.t 16)]⟩,⟨some 18,none,.no (.t 17)⟩,⟨some 19,none,.mv (.t 18)⟩,⟨(some 20),(some ⟨(some 19),false⟩),(.mv (.t 0))⟩,⟨(some 21),(some ⟨(some 19),false⟩),(.mv (.t 5))⟩,⟨(some 22),(some ⟨(some 19),false⟩),(.ia 11 (.t 20) (.t 21))⟩,⟨(some 23),(some ⟨(some 19),false⟩),(.fa 2 (.t 22))⟩,⟨(some 24),(some ⟨(some 19),false⟩),(.fa 0 (.t 23))⟩,⟨(some 25),(some ⟨(some 19),false⟩),(.load 1 false (.t 24))⟩,⟨(some 26),(some ⟨(some 19),false⟩),(.uV (.t 25))⟩,⟨(some 27),(some ⟨(some 19),false⟩),(.cmp .gt (.t 26) (.k (.one (.f (.int .i64 300)))))⟩,⟨some 28,none,.pick (.t 19) (.k (.one (.f (.bool true)))) (.t 27)⟩] [0,1,5,28]) (.cond (.t 28) (.seq (.reg [⟨some 4,none,.mv (.k (.one (.f (.bool false))))⟩] [4]) .ret) .skip))) (.reg [⟨some 10,none,.mv (.t 5)⟩,⟨some 11,none,.ar .add (.t 10) (.k (.one (.f (.int .i64 1))))⟩,⟨some 5,none,.mv (.t 11)⟩] [0,1,5])))))) (.seq (.reg [⟨some 29,none,.mv (.t 0)⟩,⟨some 30,none,.jh (.t 29)⟩,⟨some 31,none,.mv (.t 1)⟩,⟨some 32,none,.cmp .le (.t 30) (.t 31)⟩,⟨some 4,none,.mv (.t 32)⟩] [4]) .ret)))⟩
def Eh : CF:=⟨0,[(.t 0)],[],[],(.seq (.reg [⟨some 0,none,.mv (.k (.one (.f (.bool false))))⟩] []) (.seq (.reg [⟨some 16,none,.call false 39 [(.k (.one (.f (.int .i64 2))))]⟩,⟨some 1,none,.mv (.t 16)⟩] [1]) (.seq (.seq (.reg [⟨some 17,none,.mv (.t 1)⟩,⟨some 18,none,.oI false (.t 17)⟩,⟨some 19,none,.mv (.t 18)⟩,⟨(some 20),(some ⟨(some 19),false⟩),(.call false 39 [(.k (.one (.f (.int .i64 0))))])⟩,⟨(some 21),(some ⟨(some 19),false⟩),(.oI true (.t 20))⟩,⟨some 22,none,.pick (.t 19) (.k (.one (.f (.bool true)))) (.t 21)⟩] [1,22]) (.cond (.t 22) (.seq (.reg [⟨some 0,none,.mv (.k (.one (.f (.bool false))))⟩] [0]) .ret) .skip)) (.seq (.reg [⟨(some 23),none,(.build [(.f (.str ⟨#[]⟩)),(.f (.int .i64 0)),(.f (.int .i64 0))] [⟨0,⟨1,(.k (.one (.f (.str ⟨#[1,97,0]⟩))))⟩⟩,⟨1,⟨1,(.k (.one (.f (.int .i64 1))))⟩⟩,⟨2,⟨1,(.k (.one (.f (.int .i64 1))))⟩⟩])⟩,⟨(some 2),none,(.alloc 32 [(.f (.str ⟨#[]⟩)),(.f (.int .i64 0)),(.f (.int .i64 0))])⟩,⟨none,none,(.store 3 (.t 2) (.t 23))⟩] [1,2]) (.seq (.reg [⟨(some 24),none,(.build [(.f (.str ⟨#[]⟩)),(.f (.int .i64 0)),(.f (.int .i64 0))] [⟨0,⟨1,(.k (.one (.f (.str ⟨#[1,97,0]⟩))))⟩⟩,⟨1,⟨1,(.k (.one (.f (.int .i64 2))))⟩⟩,⟨2,⟨1,(.k (.one (.f (.int .i64 1))))⟩⟩])⟩,⟨(some 3),none,(.alloc 32 [(.f (.str ⟨#[]⟩)),(.f (.int .i64 0)),(.f (.int .i64 0))])⟩,⟨none,none,(.store 3 (.t 3) (.t 24))⟩] [1,2,3]) (.seq (.reg [⟨some 26,none,.call false 72 [(.k (.one (.f (.int .i64 20))))]⟩,⟨some 27,none,.call false 41 [(.t 26)]⟩,⟨some 25,none,.mv (.t 27)⟩,⟨some 28,none,.ext (.t 25) 0⟩,⟨some 29,none,.ext (.t 25) 1⟩,⟨some 4,none,.mv (.t 28)⟩,⟨some 5,none,.mv (.t 29)⟩] [1,2,3,4,5]) (.seq (.reg [⟨(some 31),none,(.build [(.f (.str ⟨#[]⟩)),(.f (.int .i64 0)),(.f (.int .i64 0)),.fT,(.f (.int .i64 0))] [])⟩,⟨some 32,none,.call false 41 [(.t 31)]⟩,⟨some 30,none,.mv (.t 32)⟩,⟨some 33,none,.ext (.t 30) 0⟩,⟨some 34,none,.ext (.t 30) 1⟩,⟨some 6,none,.mv (.t 33)⟩,⟨some 7,none,.mv (.t 34)⟩] [1,2,3,4,5,7]) (.seq (.wD [⟨⟨some 35,none,.mv (.t 1)⟩,[]⟩,⟨⟨some 36,none,.load 3 true (.t 2)⟩,[]⟩,⟨⟨some 37,none,.call false 72 [(.k (.one (.f (.int .i64 7))))]⟩,[]⟩] [] [] [⟨some 38,none,.call false 44 [(.t 35),(.k (.one (.f (.int .i64 5)))),(.t 36),(.k (.one (.f (.bool false)))),(.t 37)]⟩,⟨some 8,none,.mv (.t 38)⟩] [1,2,3,4,5,7,8]) (.seq (.reg [⟨some 40,none,.mv (.t 1)⟩,⟨some 41,none,.load 3 true (.t 2)⟩,⟨some 42,none,.call false 46 [(.t 40),(.k (.one (.f (.int .i64 11)))),(.t 41)]⟩,⟨some 39,none,.mv (.t 42)⟩,⟨some 43,none,.ext (.t 39) 0⟩,⟨some 44,none,.ext (.t 39) 1⟩,⟨(some 9),none,(.alloc 90 [(.f (.str ⟨#[]⟩)),(.f (.int .i64 0)),(.f (.int .i64 0)),(.f (.bool false)),(.f (.str ⟨#[]⟩)),(.f (.int .i64 0)),(.f (.int .i64 0)),.fT,(.f (.int .i64 0)),(.f (.int .i64 0))])⟩,⟨none,none,(.store 10 (.t 9) (.t 43))⟩,⟨some 10,none,.mv (.t 44)⟩] [1,2,3,4,5,7,8,9,10]) (.seq (.reg [⟨some 46,none,.mv (.t 1)⟩,⟨some 47,none,.load 3 true (.t 2)⟩,⟨some 48,none,.call false 46 [(.t 46),(.k (.one (.f (.int .i64 12)))),(.t 47)]⟩,⟨some 45,none,.mv (.t 48)⟩,⟨some 49,none,.ext (.t 45) 0⟩,⟨some 50,none,.ext (.t 45) 1⟩,⟨(some 11),none,(.alloc 90 [(.f (.str ⟨#[]⟩)),(.f (.int .i64 0)),(.f (.int .i64 0)),(.f (.bool false)),(.f (.str ⟨#[]⟩)),(.f (.int .i64 0)),(.f (.int .i64 0)),.fT,(.f (.int .i64 0)),(.f (.int .i64 0))])⟩,⟨none,none,(.store 10 (.t 11) (.t 49))⟩,⟨some 12,none,.mv (.t 50)⟩] [1,2,3,4,5,7,8,9,10,12]) (.seq (.wD [⟨⟨some 51,none,.mv (.t 1)⟩,[]⟩,⟨⟨some 52,none,.load 3 true (.t 2)⟩,[]⟩,⟨⟨some 53,none,.call false 72 [(.k (.one (.f (.int .i64 20))))]⟩,[]⟩] [] [] [⟨some 54,none,.call false 44 [(.t 51),(.k (.one (.f (.int .i64 5)))),(.t 52),(.k (.one (.f (.bool true)))),(.t 53)]⟩,⟨some 13,none,.mv (.t 54)⟩] [1,2,3,4,5,7,8,9,10,12,13]) (.seq (.reg [⟨some 56,none,.mv (.t 1)⟩,⟨some 57,none,.load 3 true (.t 3)⟩,⟨some 58,none,.call false 46 [(.t 56),(.k (.one (.f (.int .i64 13)))),(.t 57)]⟩,⟨some 55,none,.mv (.t 58)⟩,⟨some 59,none,.ext (.t 55) 0⟩,⟨some 60,none,.ext (.t 55) 1⟩,⟨(some 14),none,(.alloc 90 [(.f (.str ⟨#[]⟩)),(.f (.int .i64 0)),(.f (.int .i64 0)),(.f (.bool false)),(.f (.str ⟨#[]⟩)),(.f (.int .i64 0)),(.f (.int .i64 0)),.fT,(.f (.int .i64 0)),(.f (.int .i64 0))])⟩,⟨none,none,(.store 10 (.t 14) (.t 59))⟩,⟨some 15,none,.mv (.t 60)⟩] [1,2,4,5,7,8,9,10,12,13,14,15]) (.seq (.any [⟨some 61,none,.mv (.t 4)⟩,⟨some 62,none,.cmp .eq (.t 61) (.k (.one (.f (.int .i64 9))))⟩,⟨some 63,none,.mv (.t 62)⟩,⟨(some 64),(some ⟨(some 63),true⟩),(.mv (.t 5))⟩,⟨some 65,none,.pick (.t 63) (.t 64) (.k (.one (.f (.bool false))))⟩,⟨some 66,none,.mv (.t 65)⟩,⟨(some 67),(some ⟨(some 66),true⟩),(.mv (.t 7))⟩,⟨(some 68),(some ⟨(some 66),true⟩),(.no (.t 67))⟩,⟨some 69,none,.pick (.t 66) (.t 68) (.k (.one (.f (.bool false))))⟩,⟨some 70,none,.mv (.t 69)⟩,⟨(some 71),(some ⟨(some 70),true⟩),(.mv (.t 8))⟩,⟨(some 72),(some ⟨(some 70),true⟩),(.cmp .eq (.t 71) (.k (.one (.f (.int .i64 0)))))⟩,⟨some 73,none,.pick (.t 70) (.t 72) (.k (.one (.f (.bool false))))⟩,⟨some 74,none,.mv (.t 73)⟩,⟨(some 75),(some ⟨(some 74),true⟩),(.mv (.t 10))⟩,⟨some 76,none,.pick (.t 74) (.t 75) (.k (.one (.f (.bool false))))⟩,⟨some 77,none,.mv (.t 76)⟩,⟨(some 78),(some ⟨(some 77),true⟩),(.fa 9 (.t 9))⟩,⟨(some 79),(some ⟨(some 77),true⟩),(.load 1 false (.t 78))⟩,⟨(some 80),(some ⟨(some 77),true⟩),(.cmp .eq (.t 79) (.k (.one (.f (.int .i64 12)))))⟩,⟨some 81,none,.pick (.t 77) (.t 80) (.k (.one (.f (.bool false))))⟩,⟨some 82,none,.mv (.t 81)⟩,⟨(some 83),(some ⟨(some 82),true⟩),(.fa 3 (.t 9))⟩,⟨(some 84),(some ⟨(some 82),true⟩),(.load 1 false (.t 83))⟩,⟨(some 85),(some ⟨(some 82),true⟩),(.no (.t 84))⟩,⟨some 86,none,.pick (.t 82) (.t 85) (.k (.one (.f (.bool false))))⟩,⟨some 87,none,.mv (.t 86)⟩,⟨(some 88),(some ⟨(some 87),true⟩),(.mv (.t 12))⟩,⟨(some 89),(some ⟨(some 87),true⟩),(.no (.t 88))⟩,⟨some 90,none,.pick (.t 87) (.t 89) (.k (.one (.f (.bool false))))⟩,⟨some 91,none,.mv (.t 90)⟩,⟨(some 92),(some ⟨(some 91),true⟩),(.mv (.t 13))⟩,⟨(some 93),(some ⟨(some 91),true⟩),(.cmp .eq (.t 92) (.k (.one (.f (.int .i64 0)))))⟩,⟨some 94,none,.pick (.t 91) (.t 93) (.k (.one (.f (.bool false))))⟩,⟨some 95,none,.mv (.t 94)⟩,⟨(some 96),(some ⟨(some 95),true⟩),(.mv (.t 15))⟩,⟨some 97,none,.pick (.t 95) (.t 96) (.k (.one (.f (.bool false))))⟩,⟨some 98,none,.mv (.t 97)⟩,⟨(some 99),(some ⟨(some 98),true⟩),(.fa 3 (.t 14))⟩,⟨(some 100),(some ⟨(some 98),true⟩),(.load 1 false (.t 99))⟩,⟨some 101,none,.pick (.t 98) (.t 100) (.k (.one (.f (.bool false))))⟩,⟨some 102,none,.mv (.t 101)⟩,⟨(some 103),(some ⟨(some 102),true⟩),(.fa 9 (.t 14))⟩,⟨(some 104),(some ⟨(some 102),true⟩),(.load 1 false (.t 103))⟩,⟨(some 105),(some ⟨(some 102),true⟩),(.cmp .eq (.t 104) (.k (.one (.f (.int .i64 14)))))⟩,⟨some 106,none,.pick (.t 102) (.t 105) (.k (.one (.f (.bool false))))⟩,⟨some 107,none,.mv (.t 106)⟩,⟨(some 108),(some ⟨(some 107),true⟩),(.fa 0 (.t 14))⟩,⟨(some 109),(some ⟨(some 107),true⟩),(.fa 1 (.t 108))⟩,⟨(some 110),(some ⟨(some 107),true⟩),(.load 1 false (.t 109))⟩,⟨(some 111),(some ⟨(some 107),true⟩),(.cmp .eq (.t 110) (.k (.one (.f (.int .i64 0)))))⟩,⟨some 112,none,.pick (.t 107) (.t 111) (.k (.one (.f (.bool false))))⟩,⟨some 113,none,.mv (.t 112)⟩,⟨(some 114),(some ⟨(some 113),true⟩),(.mv (.t 1))⟩,⟨(some 115),(some ⟨(some 113),true⟩),(.call false 53 [(.t 114)])⟩,⟨(some 116),(some ⟨(some 113),true⟩),(.cmp .eq (.t 115) (.k (.one (.f (.int .i64 2)))))⟩,⟨some 117,none,.pick (.t 113) (.t 116) (.k (.one (.f (.bool false))))⟩,⟨some 118,none,.mv (.t 117)⟩,⟨(some 119),(some ⟨(some 118),true⟩),(.mv (.t 1))⟩,⟨(some 120),(some ⟨(some 118),true⟩),(.call false 51 [(.t 119)])⟩,⟨(some 121),(some ⟨(some 118),true⟩),(.jh (.t 120))⟩,⟨(some 122),(some ⟨(some 118),true⟩),(.cmp .eq (.t 121) (.k (.one (.f (.int .i64 2)))))⟩,⟨some 123,none,.pick (.t 118) (.t 122) (.k (.one (.f (.bool false))))⟩,⟨some 124,none,.mv (.t 123)⟩,⟨(some 125),(some ⟨(some 124),true⟩),(.mv (.t 1))⟩,⟨(some 126),(some ⟨(some 124),true⟩),(.call false 50 [(.t 125),(.k (.one (.f (.str ⟨#[1,97,0]⟩))))])⟩,⟨(some 127),(some ⟨(some 124),true⟩),(.cmp .eq (.t 126) (.k (.one (.f (.int .i64 2)))))⟩,⟨some 128,none,.pick (.t 124) (.t 127) (.k (.one (.f (.bool false))))⟩,⟨some 129,none,.mv (.t 128)⟩,⟨(some 130),(some ⟨(some 129),true⟩),(.mv (.t 1))⟩,⟨(some 131),(some ⟨(some 129),true⟩),(.call false 53 [(.t 130)])⟩,⟨(some 132),(some ⟨(some 129),true⟩),(.cmp .eq (.t 131) (.k (.one (.f (.int .i64 3)))))⟩,⟨some 133,none,.pick (.t 129) (.t 132) (.k (.one (.f (.bool false))))⟩,⟨some 134,none,.mv (.t 133)⟩,⟨(some 135),(some ⟨(some 134),true⟩),(.mv (.t 1))⟩,⟨(some 136),(some ⟨(some 134),true⟩),(.load 3 true (.t 2))⟩,⟨(some 137),(some ⟨(some 134),true⟩),(.call false 72 [(.k (.one (.f (.int .i64 0))))])⟩,⟨(some 138),(some ⟨(some 134),true⟩),(.call false 44 [(.t 135),(.k (.one (.f (.int .i64 5)))),(.t 136),(.k (.one (.f (.bool true)))),(.t 137)])⟩,⟨(some 139),(some ⟨(some 134),true⟩),(.cmp .eq (.t 138) (.k (.one (.f (.int .i64 14)))))⟩,⟨some 140,none,.pick (.t 134) (.t 139) (.k (.one (.f (.bool false))))⟩,⟨some 141,none,.mv (.t 140)⟩,⟨(some 142),(some ⟨(some 141),true⟩),(.mv (.t 1))⟩,⟨(some 143),(some ⟨(some 141),true⟩),(.load 3 true (.t 2))⟩,⟨(some 144),(some ⟨(some 141),true⟩),(.call false 72 [(.k (.one (.f (.int .i64 1))))])⟩,⟨(some 145),(some ⟨(some 141),true⟩),(.call false 44 [(.t 142),(.k (.one (.f (.int .i64 (-1))))),(.t 143),(.k (.one (.f (.bool true)))),(.t 144)])⟩,⟨(some 146),(some ⟨(some 141),true⟩),(.cmp .eq (.t 145) (.k (.one (.f (.int .i64 1)))))⟩,⟨some 147,none,.pick (.t 141) (.t 146) (.k (.one (.f (.bool false))))⟩,⟨some 0,none,.mv (.t 147)⟩] [[0,1,2,3,4,5,6,7,8,9,10,11,12,13,14,15,16,17,18,19,20,21,22,23,24,25,26,27,28,29,30,31,32,33,34,35,36,37,38,39,40,41,42,43,44,45,46,47,48,49,50,51,52,53,54,55,56,57,58,59,60,61,62,63,64,65,66,67,68,69,70,71,72,73,74,75,76,77,78,79,80,81,82,83,84,85,86,87],[0,1,2,3,4,5,6,7,8,9,10,11,12,13,14,15,16,17,18,19,20,21,22,23,24,25,26,27,28,29,30,31,32,33,34,35,36,37,38,39,40,41,42,43,44,45,46,47,48,49,50,51,52,53,54,55,56,57,58,59,60,61,62,63,64,65,66,67,68,69,70,71,72,73,74,75,76,77,78,79,80,81,83,82,84,85,86,87],[0,1,2,3,4,5,6,7,8,9,10,11,12,13,14,15,16,17,18,19,20,21,22,23,24,25,26,27,28,29,30,31,32,33,34,35,36,37,38,39,40,41,42,43,44,45,46,47,48,49,50,51,52,53,54,55,56,57,58,59,60,61,62,63,64,65,66,67,68,69,70,71,72,73,74,76,75,77,78,79,80,81,82,83,84,85,86,87],[0,1,2,3,4,5,6,7,8,9,10,11,12,13,14,15,16,17,18,19,20,21,22,23,24,25,26,27,28,29,30,31,32,33,34,35,36,37,38,39,40,41,42,43,44,45,46,47,48,49,50,51,52,53,54,55,56,57,58,59,60,61,62,63,64,65,66,67,68,69,70,71,72,73,74,76,75,77,78,79,80,81,83,82,84,85,86,87]] [0] [861600,1181600]) .ret)))))))))))))⟩
def N8 : CF:=⟨1,[(.t 2)],[],[],(.seq (.reg [⟨some 2,none,.mv (.k (.one .jH))⟩] [0]) (.seq (.seq (.reg [⟨some 3,none,.mv (.t 0)⟩,⟨some 4,none,.cmp .lt (.t 3) (.k (.one (.f (.int .i64 1))))⟩,⟨some 5,none,.mv (.t 4)⟩,⟨(some 6),(some ⟨(some 5),false⟩),(.mv (.t 0))⟩,⟨(some 7),(some ⟨(some 5),false⟩),(.cmp .gt (.t 6) (.k (.one (.f (.int .i64 1000)))))⟩,⟨some 8,none,.pick (.t 5) (.k (.one (.f (.bool true)))) (.t 7)⟩] [0,8]) (.cond (.t 8) (.seq (.reg [⟨some 2,none,.mv (.k (.one .jH))⟩] [2]) .ret) .skip)) (.seq (.reg [⟨some 9,none,.mv (.t 0)⟩,⟨some 10,none,.sG (.agg [.str,(.int .i64),(.int .i64)])⟩,⟨(some 11),none,(.build [(.f (.int .i64 0)),.fD,.fT,(.f (.int .i64 0))] [⟨0,⟨1,(.t 9)⟩⟩,⟨1,⟨1,(.t 10)⟩⟩])⟩,⟨some 12,none,.box 122 (.t 11)⟩,⟨some 2,none,.mv (.t 12)⟩] [2]) .ret)))⟩
def c40 : CF:=⟨1,[(.cell 2 3 true)],[],[],(.seq (.reg [⟨some 2,none,.alloc 77 [(.f (.int .i64 0)),.fT,(.f (.int .i64 0))]⟩] [0,2]) (.seq (.seq (.reg [⟨some 3,none,.mv (.t 0)⟩,⟨some 4,none,.cmp .lt (.t 3) (.k (.one (.f (.int .i64 1))))⟩,⟨some 5,none,.mv (.t 4)⟩,⟨(some 6),(some ⟨(some 5),false⟩),(.mv (.t 0))⟩,⟨(some 7),(some ⟨(some 5),false⟩),(.cmp .gt (.t 6) (.k (.one (.f (.int .i64 1000)))))⟩,⟨some 8,none,.pick (.t 5) (.k (.one (.f (.bool true)))) (.t 7)⟩] [0,2,8]) (.cond (.t 8) (.seq (.reg [⟨some 9,none,.build [(.f (.int .i64 0)),.fT,(.f (.int .i64 0))] []⟩,⟨none,none,(.store 3 (.t 2) (.t 9))⟩] [2]) .ret) .skip)) (.seq (.reg [⟨some 10,none,.mv (.t 0)⟩,⟨(some 11),none,(.build [(.f (.int .i64 0)),.fT,(.f (.int .i64 0))] [⟨0,⟨1,(.t 10)⟩⟩])⟩,⟨none,none,(.store 3 (.t 2) (.t 11))⟩] [2]) .ret)))⟩
def KI : CF:=⟨1,[(.t 2),(.t 3)],[],[],(.seq (.reg [⟨some 1,none,.box 35 (.t 0)⟩,⟨some 2,none,.mv (.k (.one (.f (.int .i64 0))))⟩,⟨some 3,none,.mv (.k (.one (.f (.bool false))))⟩] [1]) (.seq (.seq (.reg [⟨some 7,none,.fa 0 (.t 1)⟩,⟨some 8,none,.fa 1 (.t 7)⟩,⟨some 9,none,.load 1 false (.t 8)⟩,⟨some 10,none,.cmp .ne (.t 9) (.k (.one (.f (.int .i64 6))))⟩,⟨some 11,none,.mv (.t 10)⟩,⟨(some 12),(some ⟨(some 11),false⟩),(.load 5 true (.t 1))⟩,⟨(some 13),(some ⟨(some 11),false⟩),(.call false 73 [(.t 12)])⟩,⟨(some 14),(some ⟨(some 11),false⟩),(.no (.t 13))⟩,⟨some 15,none,.pick (.t 11) (.k (.one (.f (.bool true)))) (.t 14)⟩] [1,15]) (.cond (.t 15) (.seq (.reg [⟨some 2,none,.mv (.k (.one (.f (.int .i64 0))))⟩,⟨some 3,none,.mv (.k (.one (.f (.bool false))))⟩] [2,3]) .ret) .skip)) (.seq (.reg [⟨some 16,none,.fa 3 (.t 1)⟩,⟨some 17,none,.load 1 false (.t 16)⟩,⟨some 18,none,.ia 1 (.t 17) (.k (.one (.f (.int .i64 0))))⟩,⟨some 19,none,.load 1 false (.t 18)⟩,⟨some 4,none,.mv (.t 19)⟩] [1,4]) (.seq (.reg [⟨some 21,none,.mv (.t 4)⟩,⟨some 22,none,.mv (.t 4)⟩,⟨some 23,none,.uV (.t 22)⟩,⟨some 24,none,.ar .sub (.t 23) (.k (.one (.f (.int .i64 4))))⟩,⟨some 25,none,.call false 74 [(.t 21),(.t 24),(.k (.one (.f (.int .i64 4))))]⟩,⟨some 20,none,.mv (.t 25)⟩,⟨some 26,none,.ext (.t 20) 0⟩,⟨some 27,none,.ext (.t 20) 1⟩,⟨some 5,none,.mv (.t 26)⟩,⟨some 6,none,.mv (.t 27)⟩] [1,5]) (.seq (.reg [⟨some 28,none,.mv (.t 5)⟩,⟨some 29,none,.fa 4 (.t 1)⟩,⟨some 30,none,.load 1 false (.t 29)⟩,⟨some 31,none,.mn (.t 28) (.t 30)⟩,⟨some 2,none,.mv (.t 31)⟩,⟨some 3,none,.mv (.k (.one (.f (.bool true))))⟩] [2,3]) .ret)))))⟩
def Av : CF:=⟨5,[(.t 10)],[],[],(.seq (.reg [⟨some 7,none,.box 32 (.t 2)⟩,⟨some 9,none,.box 35 (.t 4)⟩,⟨some 10,none,.mv (.k (.one (.f (.int .i64 0))))⟩] [0,1,3,7,9]) (.seq (.reg [⟨some 19,none,.load 5 true (.t 9)⟩,⟨some 20,none,.call false 41 [(.t 19)]⟩,⟨some 18,none,.mv (.t 20)⟩,⟨some 21,none,.ext (.t 18) 0⟩,⟨some 22,none,.ext (.t 18) 1⟩,⟨some 11,none,.mv (.t 21)⟩,⟨some 12,none,.mv (.t 22)⟩] [0,1,3,7,9,11,12]) (.seq (.reg [⟨some 23,none,.mv (.t 1)⟩,⟨some 24,none,.mv (.t 11)⟩,⟨some 25,none,.call false 62 [(.t 23),(.t 24)]⟩,⟨some 13,none,.mv (.t 25)⟩] [0,1,3,7,9,12,13]) (.seq (.block 0 (.seq (.reg [⟨some 27,none,.mv (.t 0)⟩,⟨some 28,none,.oI false (.t 27)⟩,⟨some 29,none,.mv (.t 28)⟩,⟨(some 30),(some ⟨(some 29),false⟩),(.mv (.t 12))⟩,⟨(some 31),(some ⟨(some 29),false⟩),(.no (.t 30))⟩,⟨some 32,none,.pick (.t 29) (.k (.one (.f (.bool true)))) (.t 31)⟩,⟨some 33,none,.mv (.t 32)⟩,⟨(some 34),(some ⟨(some 33),false⟩),(.mv (.t 13))⟩,⟨(some 35),(some ⟨(some 33),false⟩),(.cmp .eq (.t 34) (.k (.one (.f (.int .i64 (-1))))))⟩,⟨some 36,none,.pick (.t 33) (.k (.one (.f (.bool true)))) (.t 35)⟩,⟨some 37,none,.mv (.t 36)⟩,⟨(some 38),(some ⟨(some 37),false⟩),(.load 3 true (.t 7))⟩,⟨(some 39),(some ⟨(some 37),false⟩),(.call false 78 [(.t 38)])⟩,⟨(some 40),(some ⟨(some 37),false⟩),(.no (.t 39))⟩,⟨some 41,none,.pick (.t 37) (.k (.one (.f (.bool true)))) (.t 40)⟩,⟨some 26,none,.mv (.t 41)⟩] [0,1,3,7,9,13,26]) (.cond (.t 26) (.seq (.reg [⟨some 10,none,.mv (.k (.one (.f (.int .i64 1))))⟩] [10]) .ret) (.seq (.reg [⟨some 43,none,.mv (.t 1)⟩,⟨some 44,none,.mv (.t 13)⟩,⟨some 45,none,.call false 68 [(.t 43),(.t 44)]⟩,⟨some 46,none,.no (.t 45)⟩,⟨some 42,none,.mv (.t 46)⟩] [0,3,7,9,13,42]) (.cond (.t 42) (.seq (.reg [⟨some 10,none,.mv (.k (.one (.f (.int .i64 14))))⟩] [10]) .ret) .skip))))) (.seq (.seq (.reg [⟨some 47,none,.mv (.t 3)⟩] [0,3,7,9,13,47]) (.cond (.t 47) (.reg [⟨some 48,none,.load 3 true (.t 7)⟩,⟨some 49,none,.call false 79 [(.t 48)]⟩,⟨none,none,(.store 3 (.t 7) (.t 49))⟩] [0,3,7,9,13]) .skip)) (.seq (.wD [⟨⟨some 50,none,.mv (.t 0)⟩,[]⟩,⟨⟨some 51,none,.lT (.t 50)⟩,[]⟩,⟨⟨some 52,none,.fa 1 (.t 51)⟩,[]⟩,⟨⟨some 53,none,.load 1 false (.t 52)⟩,[]⟩,⟨⟨some 54,none,.load 3 true (.t 7)⟩,[]⟩,⟨⟨some 55,none,.load 3 true (.t 7)⟩,[]⟩,⟨⟨some 56,none,.mv (.t 3)⟩,[]⟩,⟨⟨some 57,none,.load 5 true (.t 9)⟩,[]⟩,⟨⟨some 58,none,.mv (.t 13)⟩,[]⟩,⟨⟨(some 59),none,(.build [(.f (.str ⟨#[]⟩)),(.f (.int .i64 0)),(.f (.int .i64 0)),(.f (.bool false)),(.f (.str ⟨#[]⟩)),(.f (.int .i64 0)),(.f (.int .i64 0)),.fT,(.f (.int .i64 0)),(.f (.int .i64 0))] [⟨0,⟨3,(.t 55)⟩⟩,⟨3,⟨1,(.t 56)⟩⟩,⟨4,⟨5,(.t 57)⟩⟩,⟨9,⟨1,(.t 58)⟩⟩])⟩,[]⟩,⟨⟨some 60,none,.call false 80 [(.t 59)]⟩,[]⟩] [] [] [⟨none,none,(.Bu (.agg [.str,(.int .i64),(.int .i64)]) (.t 53) (.t 54) (.t 60))⟩] [0,7]) (.seq (.wD [⟨⟨some 62,none,.mv (.t 0)⟩,[]⟩,⟨⟨some 63,none,.lT (.t 62)⟩,[]⟩,⟨⟨some 64,none,.fa 2 (.t 63)⟩,[]⟩,⟨⟨some 65,none,.load 1 false (.t 64)⟩,[]⟩,⟨⟨some 66,none,.load 3 true (.t 7)⟩,[]⟩,⟨⟨some 67,none,.call false 67 [(.t 65),(.t 66)]⟩,[]⟩,⟨⟨some 68,none,.mv (.t 0)⟩,[]⟩,⟨⟨some 69,none,.lT (.t 68)⟩,[]⟩,⟨⟨some 70,none,.fa 0 (.t 69)⟩,[]⟩,⟨⟨some 71,none,.load 1 false (.t 70)⟩,[]⟩,⟨⟨some 72,none,.call false 66 [(.t 67),(.t 71)]⟩,[]⟩,⟨⟨some 61,none,.mv (.t 72)⟩,[]⟩,⟨⟨some 73,none,.ext (.t 61) 0⟩,[]⟩,⟨⟨some 74,none,.ext (.t 61) 1⟩,[]⟩,⟨⟨some 14,none,.mv (.t 73)⟩,[]⟩] [] [] [⟨some 15,none,.mv (.t 74)⟩] [0,14,15]) (.seq (.seq (.reg [⟨some 75,none,.mv (.t 15)⟩,⟨some 76,none,.jh (.t 75)⟩,⟨some 77,none,.mv (.k (.one (.f (.int .i64 0))))⟩] [0,14,75,76,77]) (.block 1 (.loop [0,14,75,76,77] [20201,20205,20208,1460200,1462200] [] (.seq (.reg [⟨some 78,none,.cmp .lt (.t 77) (.t 76)⟩] [0,14,75,76,77,78]) (.seq (.cond (.t 78) .skip (.exit 1)) (.seq (.block 2 (.seq (.reg [⟨some 79,none,.ia 3 (.t 75) (.t 77)⟩,⟨some 80,none,.load 3 true (.t 79)⟩,⟨(some 17),none,(.alloc 32 [(.f (.str ⟨#[]⟩)),(.f (.int .i64 0)),(.f (.int .i64 0))])⟩,⟨none,none,(.store 3 (.t 17) (.t 80))⟩] [0,14,17,75,76,77]) (.wD [⟨⟨some 81,none,.mv (.t 0)⟩,[]⟩,⟨⟨some 82,none,.lT (.t 81)⟩,[]⟩,⟨⟨some 83,none,.fa 1 (.t 82)⟩,[]⟩,⟨⟨some 84,none,.load 1 false (.t 83)⟩,[]⟩,⟨⟨some 85,none,.load 3 true (.t 17)⟩,[]⟩] [] [] [⟨none,none,(.del (.agg [.str,(.int .i64),(.int .i64)]) (.t 84) (.t 85))⟩] [0,14,75,76,77]))) (.reg [⟨some 86,none,.ar .add (.t 77) (.k (.one (.f (.int .i64 1))))⟩,⟨some 77,none,.mv (.t 86)⟩] [0,14,75,76,77]))))))) (.seq (.reg [⟨some 87,none,.mv (.t 0)⟩,⟨some 88,none,.mv (.t 14)⟩,⟨some 89,none,.lT (.t 87)⟩,⟨some 90,none,.fa 2 (.t 89)⟩,⟨none,none,(.store 1 (.t 90) (.t 88))⟩] [0]) (.seq (.reg [⟨some 91,none,.mv (.t 0)⟩,⟨some 92,none,.lT (.t 91)⟩,⟨some 93,none,.fa 3 (.t 92)⟩,⟨some 94,none,.load 1 false (.t 93)⟩,⟨some 95,none,.ar .add (.t 94) (.k (.one (.f (.int .i64 1))))⟩,⟨some 96,none,.lT (.t 91)⟩,⟨some 97,none,.fa 3 (.t 96)⟩,⟨none,none,(.store 1 (.t 97) (.t 95))⟩] []) (.seq (.reg [⟨some 10,none,.mv (.k (.one (.f (.int .i64 0))))⟩] [10]) .ret)))))))))))⟩
def Sv : CF:=⟨3,[(.cell 6 10 true),(.t 7)],[],[],(.seq (.reg [⟨some 3,none,.box 77 (.t 0)⟩,⟨some 5,none,.box 32 (.t 2)⟩,⟨(some 6),none,(.alloc 87 [(.f (.str ⟨#[]⟩)),(.f (.int .i64 0)),(.f (.int .i64 0)),(.f (.bool false)),(.f (.str ⟨#[]⟩)),(.f (.int .i64 0)),(.f (.int .i64 0)),.fT,(.f (.int .i64 0)),(.f (.int .i64 0))])⟩,⟨some 7,none,.mv (.k (.one (.f (.bool false))))⟩] [1,3,5,6]) (.seq (.reg [⟨some 11,none,.load 3 true (.t 3)⟩,⟨some 12,none,.mv (.t 1)⟩,⟨some 13,none,.fa 0 (.t 5)⟩,⟨some 14,none,.load 1 false (.t 13)⟩,⟨some 15,none,.fa 2 (.t 5)⟩,⟨some 16,none,.load 1 false (.t 15)⟩,⟨(some 17),none,(.build [(.f (.str ⟨#[]⟩)),(.f (.int .i64 0)),(.f (.int .i64 0))] [⟨0,⟨1,(.t 14)⟩⟩,⟨2,⟨1,(.t 16)⟩⟩])⟩,⟨some 18,none,.call false 81 [(.t 11),(.t 12),(.t 17)]⟩,⟨some 10,none,.mv (.t 18)⟩,⟨some 19,none,.ext (.t 10) 0⟩,⟨some 20,none,.ext (.t 10) 1⟩,⟨(some 8),none,(.alloc 87 [(.f (.str ⟨#[]⟩)),(.f (.int .i64 0)),(.f (.int .i64 0)),(.f (.bool false)),(.f (.str ⟨#[]⟩)),(.f (.int .i64 0)),(.f (.int .i64 0)),.fT,(.f (.int .i64 0)),(.f (.int .i64 0))])⟩,⟨none,none,(.store 10 (.t 8) (.t 19))⟩,⟨some 9,none,.mv (.t 20)⟩] [1,3,5,6,8,9]) (.seq (.seq (.reg [⟨some 21,none,.mv (.t 9)⟩] [1,3,5,6,8,21]) (.cond (.t 21) (.seq (.reg [⟨some 22,none,.load 10 true (.t 8)⟩,⟨none,none,(.store 10 (.t 6) (.t 22))⟩,⟨some 7,none,.mv (.k (.one (.f (.bool true))))⟩] [6,7]) .ret) .skip)) (.seq (.reg [⟨some 23,none,.load 3 true (.t 3)⟩,⟨some 24,none,.mv (.t 1)⟩,⟨some 25,none,.load 3 true (.t 5)⟩,⟨some 26,none,.call false 81 [(.t 23),(.t 24),(.t 25)]⟩,⟨some 27,none,.ext (.t 26) 0⟩,⟨some 28,none,.ext (.t 26) 1⟩,⟨none,none,(.store 10 (.t 6) (.t 27))⟩,⟨some 7,none,.mv (.t 28)⟩] [6,7]) .ret))))⟩
def c46 : CF:=⟨3,[(.cell 6 10 true),(.t 7)],[],[],(.seq (.reg [⟨some 5,none,.box 32 (.t 2)⟩,⟨(some 6),none,(.alloc 90 [(.f (.str ⟨#[]⟩)),(.f (.int .i64 0)),(.f (.int .i64 0)),(.f (.bool false)),(.f (.str ⟨#[]⟩)),(.f (.int .i64 0)),(.f (.int .i64 0)),.fT,(.f (.int .i64 0)),(.f (.int .i64 0))])⟩,⟨some 7,none,.mv (.k (.one (.f (.bool false))))⟩] [0,1,5,6]) (.seq (.seq (.reg [⟨some 12,none,.mv (.t 0)⟩,⟨some 13,none,.oI false (.t 12)⟩] [0,1,5,6,13]) (.cond (.t 13) (.seq (.reg [⟨(some 14),none,(.build [(.f (.str ⟨#[]⟩)),(.f (.int .i64 0)),(.f (.int .i64 0)),(.f (.bool false)),(.f (.str ⟨#[]⟩)),(.f (.int .i64 0)),(.f (.int .i64 0)),.fT,(.f (.int .i64 0)),(.f (.int .i64 0))] [])⟩,⟨none,none,(.store 10 (.t 6) (.t 14))⟩,⟨some 7,none,.mv (.k (.one (.f (.bool false))))⟩] [6,7]) .ret) .skip)) (.seq (.seq (.wD [⟨⟨some 15,none,.load 3 true (.t 5)⟩,[380000]⟩,⟨⟨some 16,none,.call false 79 [(.t 15)]⟩,[380000]⟩,⟨⟨some 17,none,.load 3 true (.t 5)⟩,[380000]⟩,⟨⟨(some 18),none,(.Fu 32 3 2 [(.f (.str ⟨#[]⟩)),(.f (.int .i64 0)),(.f (.int .i64 0)),(.f (.str ⟨#[]⟩)),(.f (.int .i64 0)),(.f (.int .i64 0))] [⟨0,⟨3,(.t 16)⟩⟩,⟨3,⟨3,(.t 17)⟩⟩])⟩,[]⟩,⟨⟨some 19,none,.jh (.t 18)⟩,[]⟩,⟨⟨some 20,none,.mv (.k (.one (.f (.int .i64 0))))⟩,[380000]⟩] [] [] [] [0,1,6,18,19,20]) (.block 0 (.loop [0,1,6,18,19,20] [20201,20205,20208,140000,380000,841600] [] (.seq (.reg [⟨some 21,none,.cmp .lt (.t 20) (.t 19)⟩] [0,1,6,18,19,20,21]) (.seq (.cond (.t 21) .skip (.exit 0)) (.seq (.block 1 (.seq (.reg [⟨some 22,none,.ia 3 (.t 18) (.t 20)⟩,⟨some 23,none,.load 3 true (.t 22)⟩,⟨(some 9),none,(.alloc 32 [(.f (.str ⟨#[]⟩)),(.f (.int .i64 0)),(.f (.int .i64 0))])⟩,⟨none,none,(.store 3 (.t 9) (.t 23))⟩] [0,1,6,9,18,19,20]) (.seq (.wD [⟨⟨some 25,none,.mv (.t 0)⟩,[220000]⟩,⟨⟨some 26,none,.lT (.t 25)⟩,[220000]⟩,⟨⟨some 27,none,.fa 1 (.t 26)⟩,[220000]⟩,⟨⟨some 28,none,.load 1 false (.t 27)⟩,[220000]⟩,⟨⟨some 29,none,.load 3 true (.t 9)⟩,[220000]⟩,⟨⟨(some 30),none,(.look (.agg [.str,(.int .i64),(.int .i64)]) (.agg [(.str ⟨#[]⟩),(.int .i64 0),(.int .i64 0),(.bool false),(.str ⟨#[]⟩),(.int .i64 0),(.int .i64 0),(.sl []),(.int .i64 0),(.int .i64 0)]) true (.t 28) (.t 29))⟩,[220000]⟩,⟨⟨some 24,none,.mv (.t 30)⟩,[220000]⟩,⟨⟨some 31,none,.ext (.t 24) 0⟩,[220000]⟩,⟨⟨some 32,none,.ext (.t 24) 1⟩,[220000]⟩,⟨⟨(some 10),none,(.alloc 90 [(.f (.str ⟨#[]⟩)),(.f (.int .i64 0)),(.f (.int .i64 0)),(.f (.bool false)),(.f (.str ⟨#[]⟩)),(.f (.int .i64 0)),(.f (.int .i64 0)),.fT,(.f (.int .i64 0)),(.f (.int .i64 0))])⟩,[]⟩] [8] [⟨none,none,(.store 10 (.t 10) (.t 31))⟩] [⟨some 11,none,.mv (.t 32)⟩] [0,1,6,10,11,18,19,20]) (.seq (.reg [⟨some 33,none,.mv (.t 11)⟩,⟨some 34,none,.mv (.t 33)⟩,⟨(some 35),(some ⟨(some 34),true⟩),(.mv (.t 1))⟩,⟨(some 36),(some ⟨(some 34),true⟩),(.fa 9 (.t 10))⟩,⟨(some 37),(some ⟨(some 34),true⟩),(.load 1 false (.t 36))⟩,⟨(some 38),(some ⟨(some 34),true⟩),(.call false 68 [(.t 35),(.t 37)])⟩,⟨some 39,none,.pick (.t 34) (.t 38) (.k (.one (.f (.bool false))))⟩] [0,1,6,10,18,19,20,39]) (.cond (.t 39) (.seq (.reg [⟨some 40,none,.load 10 true (.t 10)⟩,⟨some 41,none,.call false 80 [(.t 40)]⟩,⟨none,none,(.store 10 (.t 6) (.t 41))⟩,⟨some 7,none,.mv (.k (.one (.f (.bool true))))⟩] [6,7]) .ret) .skip))))) (.reg [⟨some 42,none,.ar .add (.t 20) (.k (.one (.f (.int .i64 1))))⟩,⟨some 20,none,.mv (.t 42)⟩] [0,1,6,18,19,20]))))))) (.seq (.reg [⟨(some 43),none,(.build [(.f (.str ⟨#[]⟩)),(.f (.int .i64 0)),(.f (.int .i64 0)),(.f (.bool false)),(.f (.str ⟨#[]⟩)),(.f (.int .i64 0)),(.f (.int .i64 0)),.fT,(.f (.int .i64 0)),(.f (.int .i64 0))] [])⟩,⟨none,none,(.store 10 (.t 6) (.t 43))⟩,⟨some 7,none,.mv (.k (.one (.f (.bool false))))⟩] [6,7]) .ret))))⟩
def U9 : CF:=⟨2,[(.t 4)],[],[],(.seq (.reg [⟨some 2,none,.box 87 (.t 0)⟩,⟨some 3,none,.box 87 (.t 1)⟩,⟨some 4,none,.mv (.k (.one (.f (.bool false))))⟩] [2,3]) (.seq (.reg [⟨some 5,none,.fa 0 (.t 2)⟩,⟨some 6,none,.load 3 true (.t 5)⟩,⟨some 7,none,.fa 0 (.t 3)⟩,⟨some 8,none,.load 3 true (.t 7)⟩,⟨some 9,none,.qW (.agg [.str,(.int .i64),(.int .i64)]) false (.t 6) (.t 8)⟩,⟨some 10,none,.mv (.t 9)⟩,⟨(some 11),(some ⟨(some 10),true⟩),(.fa 3 (.t 2))⟩,⟨(some 12),(some ⟨(some 10),true⟩),(.load 1 false (.t 11))⟩,⟨(some 13),(some ⟨(some 10),true⟩),(.fa 3 (.t 3))⟩,⟨(some 14),(some ⟨(some 10),true⟩),(.load 1 false (.t 13))⟩,⟨(some 15),(some ⟨(some 10),true⟩),(.qW (.one .bool) false (.t 12) (.t 14))⟩,⟨some 16,none,.pick (.t 10) (.t 15) (.k (.one (.f (.bool false))))⟩,⟨some 17,none,.mv (.t 16)⟩,⟨(some 18),(some ⟨(some 17),true⟩),(.fa 9 (.t 2))⟩,⟨(some 19),(some ⟨(some 17),true⟩),(.load 1 false (.t 18))⟩,⟨(some 20),(some ⟨(some 17),true⟩),(.fa 9 (.t 3))⟩,⟨(some 21),(some ⟨(some 17),true⟩),(.load 1 false (.t 20))⟩,⟨(some 22),(some ⟨(some 17),true⟩),(.cmp .eq (.t 19) (.t 21))⟩,⟨some 23,none,.pick (.t 17) (.t 22) (.k (.one (.f (.bool false))))⟩,⟨some 24,none,.mv (.t 23)⟩,⟨(some 25),(some ⟨(some 24),true⟩),(.fa 4 (.t 2))⟩,⟨(some 26),(some ⟨(some 24),true⟩),(.load 5 true (.t 25))⟩,⟨(some 27),(some ⟨(some 24),true⟩),(.fa 4 (.t 3))⟩,⟨(some 28),(some ⟨(some 24),true⟩),(.load 5 true (.t 27))⟩,⟨(some 29),(some ⟨(some 24),true⟩),(.call false 32 [(.t 26),(.t 28)])⟩,⟨some 30,none,.pick (.t 24) (.t 29) (.k (.one (.f (.bool false))))⟩,⟨some 4,none,.mv (.t 30)⟩] [4]) .ret))⟩
def Sw : CF:=⟨1,[(.cell 2 10 true)],[],[],(.seq (.reg [⟨some 1,none,.box 90 (.t 0)⟩,⟨(some 2),none,(.alloc 87 [(.f (.str ⟨#[]⟩)),(.f (.int .i64 0)),(.f (.int .i64 0)),(.f (.bool false)),(.f (.str ⟨#[]⟩)),(.f (.int .i64 0)),(.f (.int .i64 0)),.fT,(.f (.int .i64 0)),(.f (.int .i64 0))])⟩] [1,2]) (.seq (.reg [⟨some 3,none,.fa 0 (.t 1)⟩,⟨some 4,none,.load 3 true (.t 3)⟩,⟨some 5,none,.fa 3 (.t 1)⟩,⟨some 6,none,.load 1 false (.t 5)⟩,⟨some 7,none,.fa 4 (.t 1)⟩,⟨some 8,none,.load 5 true (.t 7)⟩,⟨some 9,none,.fa 9 (.t 1)⟩,⟨some 10,none,.load 1 false (.t 9)⟩,⟨(some 11),none,(.build [(.f (.str ⟨#[]⟩)),(.f (.int .i64 0)),(.f (.int .i64 0)),(.f (.bool false)),(.f (.str ⟨#[]⟩)),(.f (.int .i64 0)),(.f (.int .i64 0)),.fT,(.f (.int .i64 0)),(.f (.int .i64 0))] [⟨0,⟨3,(.t 4)⟩⟩,⟨3,⟨1,(.t 6)⟩⟩,⟨4,⟨5,(.t 8)⟩⟩,⟨9,⟨1,(.t 10)⟩⟩])⟩,⟨none,none,(.store 10 (.t 2) (.t 11))⟩] [2]) .ret))⟩
def c49 : CF:=⟨2,[(.cell 4 3 true),(.t 5)],[],[],(.seq (.reg [⟨some 2,none,.box 77 (.t 0)⟩,⟨some 4,none,.alloc 77 [(.f (.int .i64 0)),.fT,(.f (.int .i64 0))]⟩,⟨some 5,none,.mv (.k (.one (.f (.int .i64 0))))⟩] [1,2,4]) (.seq (.reg [⟨some 6,none,.mv (.k (.one .fT))⟩] [1,2,4,6]) (.seq (.seq (.reg [⟨some 7,none,.mv (.k (.one (.f (.int .i64 0))))⟩] [1,2,4,6,7]) (.block 0 (.loop [1,2,4,6,7] [20402,60000,100000,140000] [⟨6,10⟩] (.seq (.seq (.reg [⟨some 9,none,.mv (.t 7)⟩,⟨some 10,none,.fa 1 (.t 2)⟩,⟨some 11,none,.load 1 false (.t 10)⟩,⟨some 12,none,.jh (.t 11)⟩,⟨some 13,none,.cmp .lt (.t 9) (.t 12)⟩] [1,2,4,6,7,13]) (.cond (.t 13) .skip (.exit 0))) (.seq (.block 1 (.seq (.reg [⟨some 16,none,.fa 1 (.t 2)⟩,⟨some 17,none,.load 1 false (.t 16)⟩,⟨some 18,none,.mv (.t 7)⟩,⟨some 19,none,.ia 10 (.t 17) (.t 18)⟩,⟨some 20,none,.fa 0 (.t 19)⟩,⟨some 21,none,.fa 0 (.t 20)⟩,⟨some 22,none,.load 1 false (.t 21)⟩,⟨some 23,none,.mv (.t 1)⟩,⟨some 24,none,.qW (.one .str) true (.t 22) (.t 23)⟩] [1,2,4,6,7,24]) (.cond (.t 24) (.reg [⟨some 25,none,.mv (.t 6)⟩,⟨some 26,none,.fa 1 (.t 2)⟩,⟨some 27,none,.load 1 false (.t 26)⟩,⟨some 28,none,.mv (.t 7)⟩,⟨some 29,none,.ia 10 (.t 27) (.t 28)⟩,⟨some 30,none,.load 10 true (.t 29)⟩,⟨(some 31),none,(.Fu 87 10 1 [(.f (.str ⟨#[]⟩)),(.f (.int .i64 0)),(.f (.int .i64 0)),(.f (.bool false)),(.f (.str ⟨#[]⟩)),(.f (.int .i64 0)),(.f (.int .i64 0)),.fT,(.f (.int .i64 0)),(.f (.int .i64 0))] [⟨0,⟨10,(.t 30)⟩⟩])⟩,⟨some 32,none,.app 87 10 112 (.t 25) (.t 31)⟩,⟨some 6,none,.mv (.t 32)⟩] [1,2,4,6,7]) .skip))) (.reg [⟨some 14,none,.mv (.t 7)⟩,⟨some 15,none,.ar .add (.t 14) (.k (.one (.f (.int .i64 1))))⟩,⟨some 7,none,.mv (.t 15)⟩] [1,2,4,6,7])))))) (.seq (.reg [⟨some 33,none,.fa 1 (.t 2)⟩,⟨some 34,none,.load 1 false (.t 33)⟩,⟨some 35,none,.jh (.t 34)⟩,⟨some 36,none,.mv (.t 6)⟩,⟨some 37,none,.jh (.t 36)⟩,⟨some 38,none,.ar .sub (.t 35) (.t 37)⟩,⟨some 8,none,.mv (.t 38)⟩] [2,4,6,8]) (.seq (.reg [⟨some 39,none,.mv (.t 6)⟩,⟨some 40,none,.fa 1 (.t 2)⟩,⟨none,none,(.store 1 (.t 40) (.t 39))⟩] [2,4,8]) (.seq (.seq (.reg [⟨some 41,none,.mv (.t 8)⟩,⟨some 42,none,.cmp .gt (.t 41) (.k (.one (.f (.int .i64 0))))⟩] [2,4,8,42]) (.cond (.t 42) (.reg [⟨some 43,none,.fa 2 (.t 2)⟩,⟨some 44,none,.load 1 false (.t 43)⟩,⟨some 45,none,.ar .add (.t 44) (.k (.one (.f (.int .i64 1))))⟩,⟨some 46,none,.fa 2 (.t 2)⟩,⟨none,none,(.store 1 (.t 46) (.t 45))⟩] [2,4,8]) .skip)) (.seq (.reg [⟨some 47,none,.load 3 true (.t 2)⟩,⟨some 48,none,.mv (.t 8)⟩,⟨none,none,(.store 3 (.t 4) (.t 47))⟩,⟨some 5,none,.mv (.t 48)⟩] [4,5]) .ret)))))))⟩
def c51 : CF:=⟨1,[(.t 2)],[],[],(.seq (.reg [⟨some 2,none,.mv (.k (.one .fT))⟩] [0]) (.seq (.seq (.reg [⟨some 3,none,.mv (.t 0)⟩,⟨some 4,none,.oI false (.t 3)⟩] [0,4]) (.cond (.t 4) (.seq (.reg [⟨some 2,none,.mv (.k (.one .fT))⟩] [2]) .ret) .skip)) (.seq (.reg [⟨some 5,none,.mv (.t 0)⟩,⟨some 6,none,.lT (.t 5)⟩,⟨some 7,none,.fa 2 (.t 6)⟩,⟨some 8,none,.load 1 false (.t 7)⟩,⟨some 9,none,.call false 70 [(.t 8)]⟩,⟨some 2,none,.mv (.t 9)⟩] [2]) .ret)))⟩
def c53 : CF:=⟨1,[(.t 2)],[],[],(.seq (.reg [⟨some 2,none,.mv (.k (.one (.f (.int .i64 0))))⟩] [0]) (.seq (.seq (.reg [⟨some 3,none,.mv (.t 0)⟩,⟨some 4,none,.oI false (.t 3)⟩] [0,4]) (.cond (.t 4) (.seq (.reg [⟨some 2,none,.mv (.k (.one (.f (.int .i64 0))))⟩] [2]) .ret) .skip)) (.seq (.reg [⟨some 5,none,.mv (.t 0)⟩,⟨some 6,none,.lT (.t 5)⟩,⟨some 7,none,.fa 3 (.t 6)⟩,⟨some 8,none,.load 1 false (.t 7)⟩,⟨some 2,none,.mv (.t 8)⟩] [2]) .ret)))⟩
def c54 : CF:=⟨1,[(.cell 2 3 true)],[],[],(.seq (.reg [⟨some 1,none,.box 80 (.t 0)⟩,⟨(some 2),none,(.alloc 32 [(.f (.str ⟨#[]⟩)),(.f (.int .i64 0)),(.f (.int .i64 0))])⟩] [1,2]) (.seq (.seq (.reg [⟨some 3,none,.fa 5 (.t 1)⟩,⟨some 4,none,.load 1 false (.t 3)⟩] [1,2,4]) (.cond (.t 4) (.seq (.reg [⟨some 5,none,.fa 2 (.t 1)⟩,⟨some 6,none,.fa 0 (.t 5)⟩,⟨some 7,none,.load 1 false (.t 6)⟩,⟨some 8,none,.fa 2 (.t 1)⟩,⟨some 9,none,.fa 2 (.t 8)⟩,⟨some 10,none,.load 1 false (.t 9)⟩,⟨(some 11),none,(.build [(.f (.str ⟨#[]⟩)),(.f (.int .i64 0)),(.f (.int .i64 0))] [⟨0,⟨1,(.t 7)⟩⟩,⟨2,⟨1,(.t 10)⟩⟩])⟩,⟨none,none,(.store 3 (.t 2) (.t 11))⟩] [2]) .ret) .skip)) (.seq (.reg [⟨some 12,none,.fa 2 (.t 1)⟩,⟨some 13,none,.load 3 true (.t 12)⟩,⟨none,none,(.store 3 (.t 2) (.t 13))⟩] [2]) .ret)))⟩
def c72 : CF:=⟨1,[(.cell 2 5 true)],[],[],(.seq (.reg [⟨(some 2),none,(.alloc 35 [(.f (.str ⟨#[]⟩)),(.f (.int .i64 0)),(.f (.int .i64 0)),.fT,(.f (.int .i64 0))])⟩] [0,2]) (.seq (.reg [⟨(some 3),none,(.build [(.f (.str ⟨#[]⟩)),(.f (.int .i64 0)),(.f (.int .i64 0))] [⟨0,⟨1,(.k (.one (.f (.str ⟨#[0]⟩))))⟩⟩,⟨1,⟨1,(.k (.one (.f (.int .i64 6))))⟩⟩,⟨2,⟨1,(.k (.one (.f (.int .i64 1))))⟩⟩])⟩,⟨(some 4),none,(.Fu 9 1 1 [(.f (.str ⟨#[]⟩))] [⟨0,⟨1,(.k (.one (.f (.str ⟨#[0,0,48,49,50,51,52,53,54,55,56,57,97,98,99,100,101,102,0,0,0,9]⟩))))⟩⟩])⟩,⟨some 5,none,.mv (.t 0)⟩,⟨(some 6),none,(.build [(.f (.str ⟨#[]⟩)),(.f (.int .i64 0)),(.f (.int .i64 0)),.fT,(.f (.int .i64 0))] [⟨0,⟨3,(.t 3)⟩⟩,⟨3,⟨1,(.t 4)⟩⟩,⟨4,⟨1,(.t 5)⟩⟩])⟩,⟨none,none,(.store 5 (.t 2) (.t 6))⟩] [2]) .ret))⟩
def c78 : CF:=⟨1,[(.t 2)],[],[],(.seq (.reg [⟨some 1,none,.box 32 (.t 0)⟩,⟨some 2,none,.mv (.k (.one (.f (.bool false))))⟩] [1]) (.seq (.wD [⟨⟨some 3,none,.fa 1 (.t 1)⟩,[]⟩,⟨⟨some 4,none,.load 1 false (.t 3)⟩,[]⟩,⟨⟨some 5,none,.cmp .gt (.t 4) (.k (.one (.f (.int .i64 0))))⟩,[]⟩,⟨⟨some 6,none,.mv (.t 5)⟩,[]⟩,⟨⟨(some 7),(some ⟨(some 6),true⟩),(.fa 1 (.t 1))⟩,[]⟩,⟨⟨(some 8),(some ⟨(some 6),true⟩),(.load 1 false (.t 7))⟩,[]⟩,⟨⟨(some 9),(some ⟨(some 6),true⟩),(.cmp .le (.t 8) (.k (.one (.f (.int .i64 65535)))))⟩,[]⟩,⟨⟨some 10,none,.pick (.t 6) (.t 9) (.k (.one (.f (.bool false))))⟩,[]⟩,⟨⟨some 11,none,.mv (.t 10)⟩,[]⟩,⟨⟨(some 12),(some ⟨(some 11),true⟩),(.fa 2 (.t 1))⟩,[]⟩,⟨⟨(some 13),(some ⟨(some 11),true⟩),(.load 1 false (.t 12))⟩,[]⟩,⟨⟨(some 14),(some ⟨(some 11),true⟩),(.cmp .ge (.t 13) (.k (.one (.f (.int .i64 0)))))⟩,[]⟩,⟨⟨some 15,none,.pick (.t 11) (.t 14) (.k (.one (.f (.bool false))))⟩,[]⟩,⟨⟨some 16,none,.mv (.t 15)⟩,[]⟩,⟨⟨(some 17),(some ⟨(some 16),true⟩),(.fa 2 (.t 1))⟩,[]⟩,⟨⟨(some 18),(some ⟨(some 16),true⟩),(.load 1 false (.t 17))⟩,[]⟩,⟨⟨(some 19),(some ⟨(some 16),true⟩),(.cmp .le (.t 18) (.k (.one (.f (.int .i64 65535)))))⟩,[]⟩,⟨⟨some 20,none,.pick (.t 16) (.t 19) (.k (.one (.f (.bool false))))⟩,[]⟩,⟨⟨some 21,none,.mv (.t 20)⟩,[]⟩,⟨⟨(some 22),(some ⟨(some 21),true⟩),(.fa 0 (.t 1))⟩,[]⟩,⟨⟨(some 23),(some ⟨(some 21),true⟩),(.load 1 false (.t 22))⟩,[]⟩,⟨⟨(some 24),(some ⟨(some 21),true⟩),(.call false 91 [(.t 23)])⟩,[]⟩,⟨⟨some 25,none,.pick (.t 21) (.t 24) (.k (.one (.f (.bool false))))⟩,[]⟩,⟨⟨some 26,none,.mv (.t 25)⟩,[]⟩,⟨⟨(some 27),(some ⟨(some 26),true⟩),(.fa 0 (.t 1))⟩,[]⟩,⟨⟨(some 28),(some ⟨(some 26),true⟩),(.load 1 false (.t 27))⟩,[]⟩,⟨⟨(some 29),(some ⟨(some 26),true⟩),(.call false 92 [(.t 28)])⟩,[]⟩,⟨⟨(some 30),(some ⟨(some 26),true⟩),(.fa 0 (.t 1))⟩,[]⟩,⟨⟨(some 31),(some ⟨(some 26),true⟩),(.load 1 false (.t 30))⟩,[]⟩] [] [] [⟨(some 32),(some ⟨(some 26),true⟩),(.qW (.one .str) false (.t 29) (.t 31))⟩,⟨some 33,none,.pick (.t 26) (.t 32) (.k (.one (.f (.bool false))))⟩,⟨some 2,none,.mv (.t 33)⟩] [2]) .ret))⟩
def c79 : CF:=⟨1,[(.cell 2 3 true)],[],[],(.seq (.reg [⟨some 1,none,.box 32 (.t 0)⟩,⟨(some 2),none,(.alloc 32 [(.f (.str ⟨#[]⟩)),(.f (.int .i64 0)),(.f (.int .i64 0))])⟩] [1,2]) (.seq (.reg [⟨some 3,none,.fa 1 (.t 1)⟩,⟨none,none,(.store 1 (.t 3) (.k (.one (.f (.int .i64 0)))))⟩] [1,2]) (.seq (.reg [⟨some 4,none,.load 3 true (.t 1)⟩,⟨none,none,(.store 3 (.t 2) (.t 4))⟩] [2]) .ret)))⟩
def c80 : CF:=⟨1,[(.cell 2 10 true)],[],[],(.seq (.reg [⟨some 1,none,.box 90 (.t 0)⟩,⟨(some 2),none,(.alloc 90 [(.f (.str ⟨#[]⟩)),(.f (.int .i64 0)),(.f (.int .i64 0)),(.f (.bool false)),(.f (.str ⟨#[]⟩)),(.f (.int .i64 0)),(.f (.int .i64 0)),.fT,(.f (.int .i64 0)),(.f (.int .i64 0))])⟩] [1,2]) (.seq (.reg [⟨some 3,none,.fa 4 (.t 1)⟩,⟨some 4,none,.fa 3 (.t 3)⟩,⟨some 5,none,.load 1 false (.t 4)⟩,⟨some 6,none,.call false 88 [(.t 5)]⟩,⟨some 7,none,.fa 4 (.t 1)⟩,⟨some 8,none,.fa 3 (.t 7)⟩,⟨none,none,(.store 1 (.t 8) (.t 6))⟩] [1,2]) (.seq (.reg [⟨some 9,none,.load 10 true (.t 1)⟩,⟨none,none,(.store 10 (.t 2) (.t 9))⟩] [2]) .ret)))⟩
def yx : List (FuncId × CF):=[(14,c14),(17,c17),(20,c20),(22,Fx),(33,Pf),(34,c34),(35,c35),(62,c62),(66,c66),(67,c67),(68,c68),(69,c69),(73,c73),(86,c86),(89,c89),(90,c90),(93,c93),(96,c96),(108,Pg),(114,Ph),(9,c9),(10,c10),(11,c11),(12,c12),(13,c13),(37,c37),(38,Eh),(39,N8),(40,c40),(41,KI),(44,Av),(45,Sv),(46,c46),(47,U9),(48,Sw),(49,c49),(51,c51),(53,c53),(54,c54),(72,c72),(78,c78),(79,c79),(80,c80)]
end Go.Proofs.Ytdkkgecdhapfhaa.Kn
namespace Go.Proofs.Ytdkkgecdhapfhaa.Kn
open Go Ev
variable {ext : Env} {F n:Nat}
noncomputable abbrev G (ext:Env) (F n:Nat):Env:=Gm yx ext F n
theorem zN {x:Int} (h1:-9223372036854775808 ≤ x) (h2:x ≤ 9223372036854775807):IntKind.i64.wrap x = x:=by
  rw [IntKind.wrap_i64];omega
abbrev vi (x:Int):AV:=.one (.f (.int .i64 x))
abbrev vb (b:Bool):AV:=.one (.f (.bool b))
abbrev vs (s:ByteArray):AV:=.one (.f (.str s))
abbrev vl (l:List (List FV)):AV:=.one (.f (.sl l))
def iB (s:ByteArray):List FV:=[.str s]
abbrev vq (q:ByteArray) (t c:Int):AV:=.agg [.f (.str q),.f (.int .i64 t),.f (.int .i64 c)]
abbrev Ga (q:ByteArray) (t c:Int) (d:List ByteArray) (ttl:Int):AV:=.agg [.f (.str q),.f (.int .i64 t),.f (.int .i64 c),.f (.sl (d.map iB)),.f (.int .i64 ttl)]
theorem Sy (x m:Int):G ext F (n + 1) 93 [vi x,vi m] = some ([vb (decide (0 ≤ x ∧ x ≤ m))],[vi x,vi m]):=by
  refine iC (cf:=c93) rfl ?_
  simp only [c93,go_sem,Nat.reduceAdd,Nat.reduceMul,Nat.reduceEqDiff,Nat.reduceBEq,Nat.reduceMod,Nat.reduceDiv,↓reduceIte,reduceCtorEq]
  repeat' (refine eD (fun h=>?_) (fun h=>?_) <;> simp only [h,go_sem,Nat.reduceAdd,Nat.reduceMul,Nat.reduceEqDiff,Nat.reduceBEq,Nat.reduceMod,Nat.reduceDiv,↓reduceIte,reduceCtorEq])
  all_goals (simp only [decide_eq_true_eq,decide_eq_false_iff_not] at *;simp;try omega)
theorem qp (x m:Int):G ext F (n + 1) 86 [vi x,vi m] = some ([vb (decide (0 ≤ x ∧ x ≤ m))],[vi x,vi m]):=by
  refine iC (cf:=c86) rfl ?_
  simp only [c86,go_sem,Nat.reduceAdd,Nat.reduceMul,Nat.reduceEqDiff,Nat.reduceBEq,Nat.reduceMod,Nat.reduceDiv,↓reduceIte,reduceCtorEq]
  repeat' (refine eD (fun h=>?_) (fun h=>?_) <;> simp only [h,go_sem,Nat.reduceAdd,Nat.reduceMul,Nat.reduceEqDiff,Nat.reduceBEq,Nat.reduceMod,Nat.reduceDiv,↓reduceIte,reduceCtorEq])
  all_goals (simp only [decide_eq_true_eq,decide_eq_false_iff_not] at *;simp;try omega)
def Ch (x:Int):Bool:=decide (0 ≤ x ∧ x ≤ 1099511627776)
def dN (now ttl:Int):Int:=if Ch now = true ∧ 0 ≤ ttl then now + (if ttl ≤ 604800 then ttl else 604800) else -1
def jY (now u:Int):Bool:=Ch now && decide (now < u)
theorem qw (x u:Int):G ext F (n + 2) 68 [vi x,vi u] = some ([vb (jY x u)],[vi x,vi u]):=by
  refine iC (cf:=c68) rfl ?_
  simp only [c68,qp,go_sem,Nat.reduceAdd,Nat.reduceMul,Nat.reduceEqDiff,Nat.reduceBEq,Nat.reduceMod,Nat.reduceDiv,↓reduceIte,reduceCtorEq]
  repeat' (refine eD (fun h=>?_) (fun h=>?_) <;> simp only [h,qp,go_sem,Nat.reduceAdd,Nat.reduceMul,Nat.reduceEqDiff,Nat.reduceBEq,Nat.reduceMod,Nat.reduceDiv,↓reduceIte,reduceCtorEq])
  all_goals (simp only [decide_eq_true_eq,decide_eq_false_iff_not] at *;simp [Ch,jY];try omega)
theorem Pj {x t:Int} (h:0 ≤ x ∧ x ≤ 1099511627776) (ht:0 ≤ t):IntKind.i64.wrap (x + if 604800 < t then 604800 else t) = x + if t ≤ 604800 then t else 604800:=by
  have e:(if 604800 < t then (604800:Int) else t) = if t ≤ 604800 then t else 604800:=by split <;> split <;> omega
  rw [e]
  refine zN ?_ ?_ <;> split <;> omega
theorem Jz {x t:Int} (h:0 ≤ x ∧ x ≤ 1099511627776) (ht:¬ t < 0):dN x t = IntKind.i64.wrap (x + if 604800 < t then 604800 else t):=by
  rw [Pj h (by omega)]
  simp only [dN,Ch,decide_eq_true_eq]
  rw [if_pos (show (0 ≤ x ∧ x ≤ 1099511627776) ∧ 0 ≤ t from ⟨h,by omega⟩)]
theorem Ei {x t:Int} (h:¬ ((0 ≤ x ∧ x ≤ 1099511627776) ∧ 0 ≤ t)):dN x t = -1:=by
  simp only [dN,Ch,decide_eq_true_eq]
  rw [if_neg h]
theorem LX (x t:Int):G ext F (n + 2) 62 [vi x,vi t] = some ([vi (dN x t)],[vi x,vi t]):=by
  refine iC (cf:=c62) rfl ?_
  simp only [c62,qp,go_sem,Nat.reduceAdd,Nat.reduceMul,Nat.reduceEqDiff,Nat.reduceBEq,Nat.reduceMod,Nat.reduceDiv,↓reduceIte,reduceCtorEq]
  repeat' (refine eD (fun h=>?_) (fun h=>?_) <;> simp only [h,qp,go_sem,Nat.reduceAdd,Nat.reduceMul,Nat.reduceEqDiff,Nat.reduceBEq,Nat.reduceMod,Nat.reduceDiv,↓reduceIte,reduceCtorEq])
  all_goals (simp only [Ch,decide_eq_true_eq,decide_eq_false_iff_not] at *;first | rw [Jz (by assumption) (by omega)] | rw [Ei (by omega)])
end Go.Proofs.Ytdkkgecdhapfhaa.Kn
namespace Go.Proofs.Ytdkkgecdhapfhaa.Kn
open Go Ev
variable {ext : Env} {F n:Nat}
theorem at_ {α:Type} {l:List α} {i:Nat} (h:i < l.length):∃ x,l[i]? = some x ∧ decide ((i:Int) < (l.length:Int)) = true ∧ ((i:Int).toNat = i) ∧ (0:Int) ≤ i:=⟨_,List.getElem?_eq_getElem h,by simpa using h,by simp,by omega⟩
theorem end_ {α:Type} {l:List α}:decide ((l.length:Int) < (l.length:Int)) = false:=by simp
theorem nx {i N:Nat} (h:i < N) (hN:N ≤ 200000000000000):IntKind.i64.wrap ((i:Int) + 1) = ((i + 1:Nat):Int):=by rw [zN (by omega) (by omega)];omega
def Gb (l:List ByteArray) (s:ByteArray):Bool:=l.any fun x=>decide (x = s)
theorem LY {l:List ByteArray} {s x:ByteArray} {i:Nat} (h:l[i]? = some x):Gb (l.take (i + 1)) s = (Gb (l.take i) s || decide (x = s)):=by
  unfold Gb
  have hi:=(List.getElem?_eq_some_iff.mp h)
  rw [List.take_add_one,h,List.any_append]
  simp
theorem Va {l:List ByteArray} {s x:ByteArray} {i:Nat} (h:l[i]? = some x) (hx:x = s):Gb l s = true:=by
  unfold Gb
  exact List.any_eq_true.mpr ⟨x,List.mem_of_getElem? h,by simpa using hx⟩
theorem Pk {l:List ByteArray} {s:ByteArray} (h:Gb (l.take l.length) s = false):Gb l s = false:=by rwa [List.take_length] at h
theorem Pm (l:List ByteArray) (s:ByteArray) (hl:l.length ≤ 1000000000000) (hF:200000000000001 ≤ F):∃ z:Int,(decide (0 ≤ z) = Gb l s) ∧ G ext F (n + 1) 114 [vl (l.map iB),vs s] = some ([vi z],[vl (l.map iB),vs s]):=by
  suffices h:W (fun r=>∃ z:Int,(decide (0 ≤ z) = Gb l s) ∧ r = ([vi z],[vl (l.map iB),vs s])) ⟨⟩ (G ext F (n + 1) 114 [vl (l.map iB),vs s]) by
    obtain ⟨r,h1,z,h2,h3⟩:=h
    exact ⟨z,h2,by rw [h1,h3]⟩
  show W _ _ (KE _ F Ph _)
  simp only [Ph,go_sem,Nat.reduceAdd,Nat.reduceMul,Nat.reduceEqDiff,Nat.reduceBEq,Nat.reduceMod,Nat.reduceDiv,↓reduceIte,reduceCtorEq]
  refine RL l.length (fun i=>⟨[(0,PV.c (CV.one (PL.f (FV.sl (l.map iB))))),(1,PV.c (CV.one (PL.f (FV.str s)))),(7,PV.c (CV.one (PL.f (FV.int .i64 (l.map iB).length)))),(8,PV.c (CV.one (PL.f (FV.int .i64 i))))],[]⟩) (fun i=>Gb (l.take i) s = false) (by omega) rfl (fun i hi hP=>?_) (fun hP=>?_)
  · obtain ⟨x,hx,hd,ht,h0⟩:=at_ hi
    have hn:=nx hi (Nat.le_trans hl (by decide))
    have hs:=LY (s:=s) hx
    simp only [List.length_map,List.getElem?_map,hd,hx,ht,h0,iB,go_sem,Nat.reduceAdd,Nat.reduceMul,Nat.reduceEqDiff,Nat.reduceBEq,Nat.reduceMod,Nat.reduceDiv,↓reduceIte,reduceCtorEq]
    repeat' (refine eD (fun h=>?_) (fun h=>?_) <;> simp only [h,List.length_map,List.getElem?_map,hd,hx,ht,h0,hn,iB,go_sem,Nat.reduceAdd,Nat.reduceMul,Nat.reduceEqDiff,Nat.reduceBEq,Nat.reduceMod,Nat.reduceDiv,↓reduceIte,reduceCtorEq])
    · exact ⟨i,by rw [Va hx (by simp at h;first | exact h | exact h.symm)];simp,rfl⟩
    · rw [hs,hP];simp at h ⊢;first | exact h | exact fun e=>h e.symm
  · have hd:=@end_ _ l
    simp only [List.length_map,hd,go_sem,Nat.reduceAdd,Nat.reduceMul,Nat.reduceEqDiff,Nat.reduceBEq,Nat.reduceMod,Nat.reduceDiv,↓reduceIte,reduceCtorEq]
    repeat' (refine eD (fun h=>?_) (fun h=>?_) <;> simp only [h,List.length_map,hd,go_sem,Nat.reduceAdd,Nat.reduceMul,Nat.reduceEqDiff,Nat.reduceBEq,Nat.reduceMod,Nat.reduceDiv,↓reduceIte,reduceCtorEq])
    exact ⟨-1,by rw [Pk hP];rfl,rfl⟩
theorem Ej (l:List ByteArray) (s:ByteArray) (hl:l.length ≤ 1000000000000) (hF:200000000000001 ≤ F):G ext F (n + 2) 96 [vl (l.map iB),vs s] = some ([vb (Gb l s)],[vl (l.map iB),vs s]):=by
  refine iC (cf:=c96) rfl ?_
  obtain ⟨z,hz,h⟩:=Pm (ext:=ext) (F:=F) (n:=n) l s hl hF
  simp only [c96,h,go_sem,Nat.reduceAdd,Nat.reduceMul,Nat.reduceEqDiff,Nat.reduceBEq,Nat.reduceMod,Nat.reduceDiv,↓reduceIte,reduceCtorEq]
  repeat' (refine eD (fun h=>?_) (fun h=>?_) <;> simp only [h,h,go_sem,Nat.reduceAdd,Nat.reduceMul,Nat.reduceEqDiff,Nat.reduceBEq,Nat.reduceMod,Nat.reduceDiv,↓reduceIte,reduceCtorEq])
  rw [← hz]
end Go.Proofs.Ytdkkgecdhapfhaa.Kn
namespace Go.Proofs.Ytdkkgecdhapfhaa.Kn
open Go Ev
variable {ext : Env} {F n:Nat}
structure Qn where
  q:ByteArray
  t:Int
  c:Int
  deriving DecidableEq
structure It where
  q:ByteArray
  t:Int
  c:Int
  d:List ByteArray
  ttl:Int
  u:Int
  r:Int
  deriving DecidableEq
structure Op where
  o:Int
  now:Int
  q:ByteArray
  t:Int
  c:Int
  d:List ByteArray
  ttl:Int
  r:Int
def rQ (x:Qn):List FV:=[.str x.q,.int .i64 x.t,.int .i64 x.c]
def El (k:Nat) (l:List ByteArray):Bool:=l.all fun x=>decide (x.size ≤ 2000) && decide (k ≤ 60)
theorem JA {k:Nat} {l:List ByteArray} {x:ByteArray} {i:Nat} (h:l[i]? = some x):El k (l.take (i + 1)) = (El k (l.take i) && (decide (x.size ≤ 2000) && decide (k ≤ 60))):=by
  unfold El
  rw [List.take_add_one,h,List.all_append]
  simp
theorem HV {k:Nat} {l:List ByteArray} {x:ByteArray} {i:Nat} (h:l[i]? = some x) (hx:¬ (x.size ≤ 2000 ∧ k ≤ 60)):El k l = false:=by
  unfold El
  refine Bool.eq_false_iff.mpr fun ha=>hx ?_
  have:=List.all_eq_true.mp ha x (List.mem_of_getElem? h)
  simpa using this
def nX (q:ByteArray) (d:List ByteArray):Bool:=El d.length d && decide (q.size ≤ 300)
theorem LZ (q:ByteArray) (t c:Int) (d:List ByteArray) (ttl:Int) (hl:d.length ≤ 200000000000000) (hF:200000000000001 ≤ F):G ext F (n + 1) 35 [Ga q t c d ttl] = some ([vb (nX q d)],[Ga q t c d ttl]):=by
  refine iC (cf:=c35) rfl ?_
  simp only [c35,go_sem,Nat.reduceAdd,Nat.reduceMul,Nat.reduceEqDiff,Nat.reduceBEq,Nat.reduceMod,Nat.reduceDiv,↓reduceIte,reduceCtorEq]
  refine RL d.length (fun i=>⟨[(1,PV.c (CV.one (PL.ptr 40000 0))),(3,PV.c (CV.one (PL.f (FV.int .i64 i))))],[(40000,.ni [.f (.str q),.f (.int .i64 t),.f (.int .i64 c),.f (.sl (d.map iB)),.f (.int .i64 ttl)])]⟩) (fun i=>El d.length (d.take i) = true) (by omega) rfl (fun i hi hP=>?_) (fun hP=>?_)
  · obtain ⟨x,hx,hd,ht,h0⟩:=at_ hi
    have hn:=nx hi (Nat.le_trans hl (by decide))
    simp only [List.length_map,List.getElem?_map,hd,hx,ht,h0,iB,go_sem,Nat.reduceAdd,Nat.reduceMul,Nat.reduceEqDiff,Nat.reduceBEq,Nat.reduceMod,Nat.reduceDiv,↓reduceIte,reduceCtorEq]
    repeat' (refine eD (fun h=>?_) (fun h=>?_) <;> simp only [h,List.length_map,List.getElem?_map,hd,hx,ht,h0,hn,iB,go_sem,Nat.reduceAdd,Nat.reduceMul,Nat.reduceEqDiff,Nat.reduceBEq,Nat.reduceMod,Nat.reduceDiv,↓reduceIte,reduceCtorEq])
    all_goals simp only [decide_eq_true_eq,decide_eq_false_iff_not] at *
    · simp [nX,HV hx (k:=d.length) (by omega)]
    · simp [nX,HV hx (k:=d.length) (by omega)]
    · rw [JA hx,hP];simp;omega
  · have hd:=@end_ _ d
    rw [List.take_length] at hP
    simp only [List.length_map,hd,go_sem,Nat.reduceAdd,Nat.reduceMul,Nat.reduceEqDiff,Nat.reduceBEq,Nat.reduceMod,Nat.reduceDiv,↓reduceIte,reduceCtorEq]
    repeat' (refine eD (fun h=>?_) (fun h=>?_) <;> simp only [h,List.length_map,hd,go_sem,Nat.reduceAdd,Nat.reduceMul,Nat.reduceEqDiff,Nat.reduceBEq,Nat.reduceMod,Nat.reduceDiv,↓reduceIte,reduceCtorEq])
    simp [nX,hP]
    try omega
end Go.Proofs.Ytdkkgecdhapfhaa.Kn
namespace Go.Proofs.Ytdkkgecdhapfhaa.Kn
open Go Ev
variable {ext : Env} {F n:Nat}
theorem pz {body:St → Option (Out × St)} {rs:St → St} {k:Out × St → Prop} {u:Tok k} {F:Nat} {σ:St} (N:Nat) (T:Nat → St) (P:Nat → Prop) (hF:N < F) (hs:rs σ = T 0) (h0:P 0)
    (step:∀ i,i < N → P i → W (fun p=>match p.1 with
      | .jk=>rs p.2 = T (i + 1) ∧ P (i + 1)
      | o=>k (o,p.2)) ⟨⟩ (body (T i)))
    (last:P N → W (fun p=>match p.1 with
      | .jk=>False
      | o=>k (o,p.2)) ⟨⟩ (body (T N))):W k u (iter body rs F σ):=by
  refine Cg (fun m σ=>∃ i,i ≤ N ∧ m = N - i ∧ rs σ = T i ∧ P i) ?_ F N σ hF ⟨0,Nat.zero_le _,rfl,hs,h0⟩
  rintro m σ ⟨i,hi,rfl,hr,hP⟩
  rw [hr]
  by_cases hlt:i < N
  · refine vB (step i hlt hP) fun p hp=>?_
    obtain ⟨o,s⟩:=p
    cases o with
    | jk=>exact ⟨N - (i + 1),by omega,i + 1,by omega,rfl,hp.1,hp.2⟩
    | ext j=>exact hp
    | ret=>exact hp
  · have:i = N:=by omega
    subst this
    refine vB (last hP) fun p hp=>?_
    obtain ⟨o,s⟩:=p
    cases o with
    | jk=>exact hp.elim
    | ext j=>exact hp
    | ret=>exact hp
def nr2 (s:Nat) (l:List (Nat × Nat)) (σ:St):Option St → St
  | some t=>jk ⟨put t.tm s (.c (.one (.own (dF s) 0))),t.ob⟩ l
  | none=>jk σ l
def Zl (σ:St) (s sz:Nat) (l:List (Nat × Nat)):Option PV → St
  | some (.c (.one .fT))=>if sz = 0 then jk σ l else nr2 s l σ (new σ (dF s) (.row sz []))
  | _=>jk σ l
@[go_sem] theorem Zm {σ:St} {s sz:Nat} {l:List (Nat × Nat)}:jk σ ((s,sz) :: l) = Zl σ s sz l (get σ.tm s):=by
  unfold Zl nr2
  rw [jk]
  split <;> first | rfl | (split <;> first | rfl | (split <;> simp_all))
@[go_sem] theorem acs {σ:St} {s sz key n:Nat} {l:List (Nat × Nat)}:Zl σ s sz l (some (.c (.one (.own key n)))) = jk σ l:=rfl
@[go_sem] theorem agx {σ:St} {s sz:Nat} {l:List (Nat × Nat)} {x:FV}:Zl σ s sz l (some (.c (.one (.f x)))) = jk σ l:=rfl
@[go_sem] theorem acu {σ:St} {s sz:Nat} {l:List (Nat × Nat)}:Zl σ s sz l (some (.c (.one .fT))) = if sz = 0 then jk σ l else nr2 s l σ (new σ (dF s) (.row sz [])):=rfl
@[go_sem] theorem Zn {σ τ:St} {s:Nat} {l:List (Nat × Nat)}:nr2 s l σ (some τ) = jk ⟨put τ.tm s (.c (.one (.own (dF s) 0))),τ.ob⟩ l:=rfl
abbrev It.k (x:It):Qn:=⟨x.q,x.t,x.c⟩
theorem all_succ {α:Type} {P:α → Prop} {l:List α} {i:Nat} {x:α} (h:∀ y ∈ l.take i,P y) (hx:l[i]? = some x) (hp:P x):∀ y ∈ l.take (i + 1),P y:=by
  intro y hy
  rw [List.take_add_one,hx] at hy
  rcases List.mem_append.mp hy with hy | hy
  · exact h y hy
  · simp at hy;subst hy;exact hp
structure Se where
  q:ByteArray
  t:Int
  c:Int
  d:List ByteArray
  ttl:Int
  deriving DecidableEq
abbrev Se.k (x:Se):Qn:=⟨x.q,x.t,x.c⟩
abbrev Se.v (x:Se):AV:=Ga x.q x.t x.c x.d x.ttl
def rS (x:Se):List FV:=[.str x.q,.int .i64 x.t,.int .i64 x.c,.sl (x.d.map iB),.int .i64 x.ttl]
theorem L6 (l:List Qn) (hl:l.length ≤ 1000000000000) (hF:200000000000001 ≤ F):G ext F (n + 1) 34 [vl (l.map rQ)] = some ([vb (decide l.Nodup)],[vl (l.map rQ)]):=by
  refine iC (cf:=c34) rfl ?_
  simp only [c34,go_sem,Nat.reduceAdd,Nat.reduceMul,Nat.reduceEqDiff,Nat.reduceBEq,Nat.reduceMod,Nat.reduceDiv,↓reduceIte,reduceCtorEq]
  refine pz l.length (fun i=>⟨[(0,PV.c (CV.one (PL.f (FV.sl (l.map rQ))))),(3,PV.c (CV.one (PL.f (FV.int .i64 i))))],[]⟩) (fun i=>(l.take i).Nodup) (by omega) rfl (by simp) (fun i hi hP=>?_) (fun hP=>?_)
  · obtain ⟨x,hx,hd,ht,h0⟩:=at_ hi
    have hn:=nx hi (Nat.le_trans hl (by decide))
    simp only [List.length_map,List.getElem?_map,hd,hx,ht,h0,go_sem,Nat.reduceAdd,Nat.reduceMul,Nat.reduceEqDiff,Nat.reduceBEq,Nat.reduceMod,Nat.reduceDiv,↓reduceIte,reduceCtorEq]
    refine pz i (fun j=>⟨[(0,PV.c (CV.one (PL.f (FV.sl (l.map rQ))))),(3,PV.c (CV.one (PL.f (FV.int .i64 i)))),(4,PV.c (CV.one (PL.f (FV.int .i64 j))))],[]⟩) (fun j=>∀ y ∈ l.take j,y ≠ x) (by omega) rfl (by simp) (fun j hj hQ=>?_) (fun hQ=>?_)
    · obtain ⟨y,hy,hd',ht',h0'⟩:=at_ (l:=l) (i:=j) (by omega)
      have hn':=nx hj (by omega)
      have hji:decide ((j:Int) < (i:Int)) = true:=by simpa using hj
      simp only [List.length_map,List.getElem?_map,hd,hx,ht,h0,hji,hy,ht',h0',rQ,go_sem,Nat.reduceAdd,Nat.reduceMul,Nat.reduceEqDiff,Nat.reduceBEq,Nat.reduceMod,Nat.reduceDiv,↓reduceIte,reduceCtorEq]
      repeat' (refine eD (fun h=>?_) (fun h=>?_) <;> simp only [h,List.length_map,List.getElem?_map,hd,hx,ht,h0,hji,hy,ht',h0',hn',rQ,go_sem,Nat.reduceAdd,Nat.reduceMul,Nat.reduceEqDiff,Nat.reduceBEq,Nat.reduceMod,Nat.reduceDiv,↓reduceIte,reduceCtorEq])
      · have hxy:x = y:=by cases x;cases y;simpa using h
        have:¬ l.Nodup:=fun hN=>by
          have h1:=(List.getElem?_eq_some_iff.mp hx);have h2:=(List.getElem?_eq_some_iff.mp hy)
          exact List.pairwise_iff_getElem.mp hN j i h2.1 h1.1 hj (by rw [h1.2,h2.2,hxy])
        simp [this]
      · exact all_succ hQ hy (by rintro rfl;simp at h)
    · have hji:decide ((i:Int) < (i:Int)) = false:=by simp
      simp only [List.length_map,hji,hn,go_sem,Nat.reduceAdd,Nat.reduceMul,Nat.reduceEqDiff,Nat.reduceBEq,Nat.reduceMod,Nat.reduceDiv,↓reduceIte,reduceCtorEq]
      repeat' (refine eD (fun h=>?_) (fun h=>?_) <;> simp only [h,List.length_map,hji,hn,go_sem,Nat.reduceAdd,Nat.reduceMul,Nat.reduceEqDiff,Nat.reduceBEq,Nat.reduceMod,Nat.reduceDiv,↓reduceIte,reduceCtorEq])
      rw [List.take_add_one,hx]
      rw [Option.toList_some]
      refine List.nodup_append.mpr ⟨hP,List.pairwise_singleton _ _,fun a ha b hb=>?_⟩
      rw [List.mem_singleton] at hb;subst hb;exact hQ a ha
  · have hd:=@end_ _ l
    rw [List.take_length] at hP
    simp only [List.length_map,hd,go_sem,Nat.reduceAdd,Nat.reduceMul,Nat.reduceEqDiff,Nat.reduceBEq,Nat.reduceMod,Nat.reduceDiv,↓reduceIte,reduceCtorEq]
    repeat' (refine eD (fun h=>?_) (fun h=>?_) <;> simp only [h,List.length_map,hd,go_sem,Nat.reduceAdd,Nat.reduceMul,Nat.reduceEqDiff,Nat.reduceBEq,Nat.reduceMod,Nat.reduceDiv,↓reduceIte,reduceCtorEq])
    simp [hP]
end Go.Proofs.Ytdkkgecdhapfhaa.Kn
namespace Go.Proofs.Ytdkkgecdhapfhaa.Kn
open Go Ev
variable {ext : Env} {F n:Nat}
structure Th where
  jM:ByteArray → Bool
  low:ByteArray → ByteArray
  wW:Int → ByteArray → Bool
  lw:Int → ByteArray → ByteArray
structure Th.Ok (θ:Th) (ext:Env):Prop where
  nc:∀ q,q.size ≤ 1000000 → ext 91 [vs q] = some ([vb (θ.jM q)],[vs q])
  nl:∀ q,q.size ≤ 1000000 → ext 92 [vs q] = some ([vs (θ.low q)],[vs q])
  rc:∀ q,q.size ≤ 1000000 → ext 100 [vs q] = some ([vb (θ.jM q)],[vs q])
  rl:∀ q,q.size ≤ 1000000 → ext 101 [vs q] = some ([vs (θ.low q)],[vs q])
  dc:∀ k q,q.size ≤ 1000000 → ext 94 [vi k,vs q] = some ([vb (θ.wW k q)],[vi k,vs q])
  dl:∀ k q,q.size ≤ 1000000 → ext 95 [vi k,vs q] = some ([vs (θ.lw k q)],[vi k,vs q])
  ec:∀ k q,q.size ≤ 1000000 → ext 83 [vi k,vs q] = some ([vb (θ.wW k q)],[vi k,vs q])
  el:∀ k q,q.size ≤ 1000000 → ext 84 [vi k,vs q] = some ([vs (θ.lw k q)],[vi k,vs q])
variable {θ : Th}
theorem SA (T:θ.Ok ext) (q:ByteArray) (h:q.size ≤ 1000000):G ext F (n + 1) 91 [vs q] = some ([vb (θ.jM q)],[vs q]):=(congrFun (nV rfl) _).trans (T.nc q h)
theorem SB (T:θ.Ok ext) (q:ByteArray) (h:q.size ≤ 1000000):G ext F (n + 1) 92 [vs q] = some ([vs (θ.low q)],[vs q]):=(congrFun (nV rfl) _).trans (T.nl q h)
theorem Zo (T:θ.Ok ext) (k:Int) (q:ByteArray) (h:q.size ≤ 1000000):G ext F (n + 1) 94 [vi k,vs q] = some ([vb (θ.wW k q)],[vi k,vs q]):=(congrFun (nV rfl) _).trans (T.dc k q h)
theorem Zp (T:θ.Ok ext) (k:Int) (q:ByteArray) (h:q.size ≤ 1000000):G ext F (n + 1) 95 [vi k,vs q] = some ([vs (θ.lw k q)],[vi k,vs q]):=(congrFun (nV rfl) _).trans (T.dl k q h)
def Th.key (θ:Th) (q:ByteArray) (t c:Int):Bool:=decide (θ.jM q = true ∧ θ.low q = q ∧ (0 ≤ t ∧ t ≤ 65535) ∧ (0 ≤ c ∧ c ≤ 65535))
def Th.dat (θ:Th) (t:Int) (d:List ByteArray):Bool:=decide ((∀ x ∈ d,θ.wW t x = true ∧ θ.lw t x = x) ∧ d.Nodup)
def Th.set (θ:Th) (q:ByteArray) (t c:Int) (d:List ByteArray) (ttl:Int):Bool:=decide (θ.key q t c = true ∧ θ.dat t d = true ∧ (0 ≤ ttl ∧ ttl < 2147483648) ∧ d ≠ [])
theorem H6 {l:List ByteArray} {s:ByteArray}:Gb l s = true ↔ s ∈ l:=by
  unfold Gb
  rw [List.any_eq_true]
  simp
theorem Zq {l:List ByteArray}:((l.map iB).all fun r=>r.length == 1) = true:=by
  rw [List.all_eq_true]
  intro r hr
  obtain ⟨x, -,rfl⟩:=List.mem_map.mp hr
  rfl
theorem L8 {t:Int} {d:List ByteArray} {i:Nat} {x:ByteArray} (hx:d[i]? = some x) (h:θ.dat t (d.take i) = true) (hc:θ.wW t x = true) (hw:θ.lw t x = x) (hi:Gb (d.take i) x = false):θ.dat t (d.take (i + 1)) = true:=by
  unfold Th.dat at *
  have hi:¬ x ∈ d.take i:=fun h=>by rw [H6.mpr h] at hi;cases hi
  rw [decide_eq_true_eq] at *
  refine ⟨all_succ h.1 hx ⟨hc,hw⟩,?_⟩
  rw [List.take_add_one,hx,Option.toList_some]
  refine List.nodup_append.mpr ⟨h.2,List.pairwise_singleton _ _,fun a ha b hb=>?_⟩
  rw [List.mem_singleton] at hb;subst hb;rintro rfl;exact hi ha
theorem Gc {t:Int} {d:List ByteArray} {i:Nat} {x:ByteArray} (hx:d[i]? = some x) (h:θ.wW t x = false ∨ θ.lw t x ≠ x ∨ Gb (d.take i) x = true):θ.dat t d = false:=by
  unfold Th.dat
  rw [decide_eq_false_iff_not]
  rintro ⟨h1,h2⟩
  have hm:=h1 x (List.mem_of_getElem? hx)
  rcases h with h | h | h
  · rw [h] at hm;simp at hm
  · exact h hm.2
  · rw [H6,List.mem_take_iff_getElem] at h
    obtain ⟨j,hj,he⟩:=h
    have h3:=List.getElem?_eq_some_iff.mp hx
    exact List.pairwise_iff_getElem.mp h2 j i (by omega) h3.1 (by omega) (by rw [he,h3.2])
theorem JB (T:θ.Ok ext) (q:ByteArray) (t c:Int) (d:List ByteArray) (ttl:Int) (hl:d.length ≤ 1000000000000) (hF:200000000000001 ≤ F) (hq:q.size ≤ 1000000) (hd:∀ x ∈ d,x.size ≤ 1000000):G ext F (n + 3) 73 [Ga q t c d ttl] = some ([vb (θ.set q t c d ttl)],[Ga q t c d ttl]):=by
  refine iC (cf:=c73) rfl ?_
  have h1:=fun n=>SA (F:=F) (n:=n) T q hq
  have h2:=fun n=>SB (F:=F) (n:=n) T q hq
  simp only [c73,h1,h2,Sy,go_sem,Nat.reduceAdd,Nat.reduceMul,Nat.reduceEqDiff,Nat.reduceBEq,Nat.reduceMod,Nat.reduceDiv,↓reduceIte,reduceCtorEq]
  repeat' (refine eD (fun h=>?_) (fun h=>?_) <;> simp only [h,h1,h2,Sy,go_sem,Nat.reduceAdd,Nat.reduceMul,Nat.reduceEqDiff,Nat.reduceBEq,Nat.reduceMod,Nat.reduceDiv,↓reduceIte,reduceCtorEq])
  · refine pz d.length (fun i=>⟨[(1,PV.c (CV.one (PL.ptr 40000 0))),(3,PV.c (CV.one (PL.ptr 80000 0))),(39,PV.c (CV.one (PL.f (FV.sl (List.map iB d))))),(40,PV.c (CV.one (PL.f (FV.int IntKind.i64 (List.map iB d).length)))),(41,PV.c (CV.one (PL.f (FV.int .i64 i))))],[(40000,.ni [.f (.str q),.f (.int .i64 t),.f (.int .i64 c),.f (.sl (d.map iB)),.f (.int .i64 ttl)]),(80000,Ob.ni [PL.f (FV.str q),PL.f (FV.int IntKind.i64 t),PL.f (FV.int IntKind.i64 c)])]⟩) (fun i=>θ.dat t (d.take i) = true) (by omega) rfl (by simp [Th.dat]) (fun i hi hP=>?_) (fun hP=>?_)
    · obtain ⟨x,hx,hlt,ht,h0⟩:=at_ hi
      have hn:=nx hi (Nat.le_trans hl (by decide))
      have h1:=fun n=>Zo (F:=F) (n:=n) T t x (hd x (List.mem_of_getElem? hx))
      have h2:=fun n=>Zp (F:=F) (n:=n) T t x (hd x (List.mem_of_getElem? hx))
      have h3:=fun n=>Ej (ext:=ext) (F:=F) (n:=n) (d.take i) x (by simp;omega) hF
      have hle:(i:Int) ≤ (d.length:Int):=by omega
      have hrw:=@Zq d
      have hcut:(0:Int) ≤ i ∧ (i:Int) ≤ d.length:=by omega
      simp only [List.length_map,List.getElem?_map,hlt,hx,ht,h0,iB,h1,h2,h3,go_sem,Nat.reduceAdd,Nat.reduceMul,Nat.reduceEqDiff,Nat.reduceBEq,Nat.reduceMod,Nat.reduceDiv,↓reduceIte,reduceCtorEq]
      repeat' (refine eD (fun h=>?_) (fun h=>?_) <;> simp only [h,List.length_map,List.getElem?_map,hlt,hx,ht,h0,hn,iB,h1,h2,h3,hle,hrw,← List.map_take,List.drop_zero,Nat.sub_zero,hcut,go_sem,Nat.reduceAdd,Nat.reduceMul,Nat.reduceEqDiff,Nat.reduceBEq,Nat.reduceMod,Nat.reduceDiv,↓reduceIte,reduceCtorEq])
      · simp [Th.set,Gc hx (.inr (.inr h))]
      · exact L8 hx hP (by assumption) (of_decide_eq_true (by assumption)) h
      · simp [Th.set,Gc hx (.inr (.inl (of_decide_eq_false h)))]
      · simp [Th.set,Gc hx (.inl h)]
    · have hd:=@end_ _ d
      rw [List.take_length] at hP
      simp only [List.length_map,hd,go_sem,Nat.reduceAdd,Nat.reduceMul,Nat.reduceEqDiff,Nat.reduceBEq,Nat.reduceMod,Nat.reduceDiv,↓reduceIte,reduceCtorEq]
      repeat' (refine eD (fun h=>?_) (fun h=>?_) <;> simp only [h,List.length_map,hd,go_sem,Nat.reduceAdd,Nat.reduceMul,Nat.reduceEqDiff,Nat.reduceBEq,Nat.reduceMod,Nat.reduceDiv,↓reduceIte,reduceCtorEq])
      all_goals (simp [Th.set,Th.key,hP];simp_all)
      all_goals (cases d <;> simp <;> omega)
  all_goals (simp [Th.set,Th.key];try simp_all)
  all_goals (try omega)
end Go.Proofs.Ytdkkgecdhapfhaa.Kn

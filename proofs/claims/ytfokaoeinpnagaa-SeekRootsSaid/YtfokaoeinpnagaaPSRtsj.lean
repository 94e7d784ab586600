/- A part of the proof of SeekRoots: cut, joined and given short names by a program of this session (wip/tools/pack.py); Lean checks it. No condition. -/
import Derived.Test.YtfokaoeinpnagaaPSRtsi
import Derived.Test.YtfokaoeinpnagaaProg
import Derived.Test.YtfokaoeinpnagaaPSRtsf
import Derived.WalkKit
import Derived.Test.YtfokaoeinpnagaaPSRtsd
set_option linter.unusedSectionVars false
set_option linter.unusedSimpArgs false
set_option linter.unusedVariables false
set_option maxHeartbeats 16000000
set_option maxRecDepth 100000
namespace Go.Proofs.Ytfokaoeinpnagaa.Ev
open Go
attribute [go_sem] cZ dS uM qG lU nQ ER Om IQ sub jf oN fU je plain fE RA Kq vG Oo IW Ku TK TL TM Kt TH rowsOf KV.ks SV.sk
attribute [go_sem] List.any_cons List.any_nil List.all_cons List.all_nil List.map_cons List.map_nil List.length_cons List.length_nil List.append_nil List.nil_append List.cons_append List.flatMap_cons List.flatMap_nil List.take_succ_cons List.take_zero List.take_nil List.drop_succ_cons List.drop_zero List.drop_nil Option.getD_some Option.getD_none List.filter_nil List.filter_cons List.headD_nil List.headD_cons List.tail_cons List.tail_nil
section
variable {σ : St} {α:Type}
section
variable {k : St → Prop} {u:Tok k} {key:Nat} {o:Ob} {pend:List PL}
@[go_sem ↓] theorem agb : W k u (new σ key o) ↔ (rem σ.ob key).any (fun p=>lU key p.2) = false ∧ k ⟨σ.tm.filter (fun p=>!qG key p.2),(key,o) :: rem σ.ob key⟩:=by
 simp only [new,WG,dL,bO,bZ,bg,aiC]
@[go_sem ↓] theorem aep : W k u (newP pend σ key o) ↔ pend.any (dS key) = false ∧ W k ⟨⟩ (new σ key o):=by
 simp only [newP,dL,bZ,aiC]
@[go_sem ↓] theorem agc : W k u (yL σ key) ↔ W (fun p=>k (sub ⟨σ.tm,rem σ.ob key⟩ key (.f (.sl p.2)))) ⟨⟩ (iw σ key):=by
 simp only [yL,iw,dL]
 cases get σ.ob key with
 | none=>exact bS
 | some o=>cases o <;> first | exact bS | exact kX ahI
@[go_sem ↓] theorem UU : W k u (wE σ []) ↔ k σ:=gG
@[go_sem ↓] theorem RS : W k u (rF σ []) ↔ k σ:=gG
@[go_sem ↓] theorem O7 {x:CV} {xs:List CV}:W k u (rF σ (x :: xs)) ↔ W (fun s=>W k ⟨⟩ (rF s xs)) ⟨⟩ (wE σ (cells x)):=by
 simp only [rF,dL,aK]
def pE (σ:St):PL → Option St
 | .own key _=>yL σ key
 | _=>some σ
@[go_sem ↓] theorem RU {x:PL} {xs:List PL}:W k u (wE σ (x :: xs)) ↔ W (fun s=>W k ⟨⟩ (wE s xs)) ⟨⟩ (pE σ x):=by
 simp only [dL]
 cases x <;> simp only [wE,pE,aK,bg]
@[go_sem ↓] theorem RV {n:Nat}:W k u (pE σ (.own key n)) ↔ W k ⟨⟩ (yL σ key):=ahI
@[go_sem] theorem abZ {x:FV}:pE σ (.f x) = some σ:=rfl
@[go_sem] theorem Xd : pE σ .bT = some σ:=rfl
@[go_sem] theorem Xe {n:Nat}:pE σ (.ptr key n) = some σ:=rfl
@[go_sem] theorem Zg : pE σ (.mp key) = some σ:=rfl
@[go_sem] theorem Xf : pE σ .iD = some σ:=rfl
@[go_sem] theorem UW : pE σ .eX = some σ:=rfl
@[go_sem] theorem Zh {f:FuncId} {c:List (List FV)}:pE σ (.fn f c) = some σ:=rfl
@[go_sem] theorem Zi {c:List FV}:pE σ (.fp c) = some σ:=rfl
end
section
variable {k : FV × St → Prop} {u:Tok k} {key n:Nat}
@[go_sem] theorem agd {x:FV}:uN σ (.f x) = some (x,σ):=rfl
@[go_sem] theorem ab0 : uN σ .bT = some (.sl [],σ):=rfl
@[go_sem ↓] theorem Xg : W k u (uN σ (.own key n)) ↔ W (fun p=>k (.sl p.2,sub ⟨σ.tm,rem σ.ob key⟩ key (.f (.sl p.2)))) ⟨⟩ (iw σ key):=by
 simp only [uN,yL,iw,dL]
 cases get σ.ob key with
 | none=>exact bS
 | some o=>cases o <;> first | exact bS | (simp only [Option.map_some];exact kX ahI)
end
section
variable {k : List FV × St → Prop} {u:Tok k}
@[go_sem ↓] theorem UY : W k u (jY σ []) ↔ k ([],σ):=gG
@[go_sem ↓] theorem RX {x:PL} {xs:List PL}:W k u (jY σ (x :: xs)) ↔ W (fun p=>W (fun r=>k (p.1 :: r.1,r.2)) ⟨⟩ (jY p.2 xs)) ⟨⟩ (uN σ x):=by
 simp only [jY,dL,aK,bO]
@[go_sem ↓] theorem agf {key:Nat}:W k u (WI σ key) ↔ W (fun xs=>W (fun p=>W (fun _=>k (p.1,TM (Kt key p.1) ⟨p.2.tm,rem p.2.ob key⟩)) ⟨⟩ (get p.2.ob key)) ⟨⟩ (jY σ xs)) ⟨⟩ (oJ σ key):=by
 simp only [WI,oJ,dL]
 cases get σ.ob key with
 | none=>exact bS
 | some o =>
  cases o with
  | eY xs =>
   simp only [oc,bg,aK]
   refine bX fun p=>?_
   cases get p.2.ob key with
   | none=>exact bS
   | some o=>exact kX ahI
  | _=>exact bS
end
section
variable {k : FC × St → Prop} {u:Tok k}
@[go_sem ↓] theorem Xh {x:PL}:W k u (WH σ (.one x)) ↔ W (fun p=>k (.one p.1,p.2)) ⟨⟩ (uN σ x):=by simp only [WH,dL,bO]
@[go_sem ↓] theorem Xi {xs:List PL}:W k u (WH σ (.agg xs)) ↔ W (fun p=>k (.agg p.1,p.2)) ⟨⟩ (jY σ xs):=by simp only [WH,dL,bO]
end
section
variable {k : List (List FV) × St → Prop} {u:Tok k} {q:Bool}
@[go_sem ↓] theorem UZ : W k u (lC q σ []) ↔ k ([],σ):=by simp only [lC,dL,bg]
@[go_sem ↓] theorem Xj {cs:List FV} {l:List CV}:W k u (lC q σ (.one (.fp cs) :: l)) ↔ W (fun r=>k (cs :: r.1,r.2)) ⟨⟩ (lC q σ l):=by simp only [lC,dL,bO]
@[go_sem ↓] theorem U0 {key:Nat} {l:List CV}:W k u (lC q σ (.one (.ptr key 0) :: l)) ↔ q = false ∧ W (fun p=>W (fun r=>k (p.1 :: r.1,r.2)) ⟨⟩ (lC q p.2 l)) ⟨⟩ (WI σ key):=by
 simp only [lC,dL,bZ,aK,bO,aiC]
end
section
variable {k : List (Nat × Nat × CV) → Prop} {u:Tok k}
@[go_sem ↓] theorem U1 : W k u (vals σ []) ↔ k []:=gG
@[go_sem ↓] theorem RY {o n:Nat} {x:dF} {ps:List (Nat × Nat × dF)}:W k u (vals σ ((o,n,x) :: ps)) ↔ W (fun v=>W (fun l=>k ((o,n,v) :: l)) ⟨⟩ (vals σ ps)) ⟨⟩ (val σ x):=by
 simp only [vals,dL,aK,bO]
end
section
variable {k : List CV → Prop} {u:Tok k}
@[go_sem ↓] theorem RZ : W k u (iZ σ []) ↔ k []:=gG
@[go_sem ↓] theorem O8 {x:dF} {xs:List dF}:W k u (iZ σ (x :: xs)) ↔ W (fun v=>W (fun l=>k (v :: l)) ⟨⟩ (iZ σ xs)) ⟨⟩ (val σ x):=by
 simp only [iZ,dL,aK,bO]
@[go_sem ↓] theorem R3 : W k u (slots σ []) ↔ k []:=gG
@[go_sem ↓] theorem O9 {x:Rs} {xs:List Rs}:W k u (slots σ (x :: xs)) ↔ W (fun v=>W (fun l=>k (v :: l)) ⟨⟩ (slots σ xs)) ⟨⟩ (slot σ x):=by
 simp only [slots,dL,aK,bO]
end
section
variable {k : CV → Prop} {u:Tok k} {i n:Nat} {agg:Bool}
@[go_sem ↓] theorem Zj : W k u (slot σ (.t i)) ↔ W k ⟨⟩ (vl (get σ.tm i)):=by rw [← YP];exact ahI
@[go_sem ↓] theorem R4 : W k u (slot σ (.cell i n agg)) ↔ W (fun v=>W (fun p=>W (fun xs=>W (fun l=>W k ⟨⟩ (mk agg l)) ⟨⟩ (seg n p.2 xs)) ⟨⟩ (oJ σ p.1)) ⟨⟩ (Jd v)) ⟨⟩ (vl (get σ.tm i)):=by
 simp only [slot,dL]
 cases get σ.tm i with
 | none=>exact bS
 | some v =>
  cases v with
  | tO l=>exact bS
  | c x =>
   simp only [vl,bg]
   cases x with
   | agg l=>exact bS
   | one p =>
    cases p with
    | ptr key off =>
     simp only [Jd,bg,oJ]
     cases get σ.ob key with
     | none=>exact bS
     | some o=>cases o <;> first | exact bS | (simp only [oc,bg,aK])
    | _=>exact bS
end
section
variable {k : List PL → Prop} {u:Tok k} {z:List PL}
@[go_sem ↓] theorem U2 : W k u (fill z []) ↔ k z:=by simp only [fill,dL,bg]
@[go_sem ↓] theorem R5 {off n:Nat} {v:CV} {ps:List (Nat × Nat × CV)}:W k u (fill z ((off,n,v) :: ps)) ↔ ((cells v).length = n ∧ (cells v).any oN = false) ∧ W (fun z=>W k ⟨⟩ (fill z ps)) ⟨⟩ (lay off (cells v) z):=by
 simp only [fill,dL,bH,aK]
end
@[go_sem] theorem Zk {kk:IntKind} {n:Int}:tQ (.int kk n) = some (.int kk n):=rfl
@[go_sem] theorem Xk {b:Bool}:tQ (.bool b) = some (.bool b):=rfl
@[go_sem] theorem Zl {s:ByteArray}:tQ (.str s) = some (.str s):=rfl
section
variable {k : KV → Prop} {u:Tok k}
@[go_sem ↓] theorem Xl {x:FV}:W k u (keyOf (.one (.f x))) ↔ W (fun s=>k (.one s)) ⟨⟩ (tQ x):=by simp only [keyOf,Gt,Option.bind_some,dL,bO]
@[go_sem ↓] theorem Xm {xs:List PL}:W k u (keyOf (.agg xs)) ↔ W (fun l=>W (fun s=>k (.agg s)) ⟨⟩ (rC l)) ⟨⟩ (nR xs):=by simp only [keyOf,dL,aK,bO]
end
section
variable {k : List SV → Prop} {u:Tok k}
@[go_sem ↓] theorem R6 : W k u (rC []) ↔ k []:=gG
@[go_sem ↓] theorem Pb {x:FV} {xs:List FV}:W k u (rC (x :: xs)) ↔ W (fun s=>W (fun l=>k (s :: l)) ⟨⟩ (rC xs)) ⟨⟩ (tQ x):=by simp only [rC,dL,aK,bO]
end
section
variable {k : List FV → Prop} {u:Tok k}
@[go_sem ↓] theorem Pf : W k u (nR []) ↔ k []:=gG
@[go_sem ↓] theorem Oc {x:FV} {xs:List PL}:W k u (nR (.f x :: xs)) ↔ W (fun l=>k (x :: l)) ⟨⟩ (nR xs):=by simp only [nR,Gt,Option.bind_some,dL,bO]
end
section
variable {k : CL × St → Prop} {u:Tok k} {key n:Nat}
@[go_sem] theorem agh {x:FV}:IU σ (.f x) = some (.f x,σ):=rfl
@[go_sem] theorem ab1 : IU σ .bT = some (.f (.sl []),σ):=rfl
@[go_sem] theorem ab2 : IU σ .iD = some (.iD,σ):=rfl
@[go_sem] theorem Zm : IU σ .eX = some (.eX,σ):=rfl
@[go_sem ↓] theorem Xn : W k u (IU σ (.own key n)) ↔ W (fun o=>k (.own o.1 o.2,⟨σ.tm,rem σ.ob key⟩)) ⟨⟩ (iw σ key):=by
 simp only [IU,iw,dL]
 cases get σ.ob key with
 | none=>exact bS
 | some o=>cases o <;> first | exact bS | exact kX ahI
@[go_sem ↓] theorem Zn : W k u (IU σ (.mp key)) ↔ W (fun o=>k (.mp o.1 o.2,⟨σ.tm,rem σ.ob key⟩)) ⟨⟩ (nW σ key):=by
 simp only [IU,nW,dL]
 cases get σ.ob key with
 | none=>exact bS
 | some o=>cases o <;> first | exact bS | exact kX ahI
end
section
variable {k : List CL × St → Prop} {u:Tok k}
@[go_sem ↓] theorem U3 : W k u (yT σ []) ↔ k ([],σ):=gG
@[go_sem ↓] theorem R7 {x:PL} {xs:List PL}:W k u (yT σ (x :: xs)) ↔ W (fun p=>W (fun r=>k (p.1 :: r.1,r.2)) ⟨⟩ (yT p.2 xs)) ⟨⟩ (IU σ x):=by
 simp only [yT,dL,aK,bO]
end
section
variable {k : TV × St → Prop} {u:Tok k} {key n:Nat} {gv:Bool}
@[go_sem] theorem agi {x:FV}:qO gv σ (.f x) = some (.f x,σ):=rfl
@[go_sem] theorem ab3 : qO gv σ .bT = some (.f (.sl []),σ):=rfl
@[go_sem] theorem ab4 : qO gv σ .iD = some (.iD,σ):=rfl
@[go_sem] theorem Zo : qO gv σ .eX = some (.eX,σ):=rfl
@[go_sem] theorem aer {cs:List FV}:qO gv σ (.fp cs) = some (.fp cs,σ):=rfl
@[go_sem] theorem aes {f:FuncId} {cs:List (List FV)}:qO gv σ (.fn f cs) = some (.fn f cs,σ):=rfl
@[go_sem ↓] theorem Xo : W k u (qO false σ (.own key n)) ↔ W (fun o=>k (.f (.sl o.2),σ)) ⟨⟩ (iw σ key):=by
 simp only [qO,iw,dL]
 cases get σ.ob key with
 | none=>exact bS
 | some o=>cases o <;> first | exact bS | exact kX ahI
@[go_sem ↓] theorem U4 : W k u (qO true σ (.own key n)) ↔ W (fun o=>k (.own o.1 o.2,⟨σ.tm,rem σ.ob key⟩)) ⟨⟩ (iw σ key):=by
 simp only [qO,iw,dL]
 cases get σ.ob key with
 | none=>exact bS
 | some o=>cases o <;> first | exact bS | exact kX ahI
@[go_sem ↓] theorem Zp : W k u (qO gv σ (.mp key)) ↔ W (fun o=>k (.mp o.1 o.2,⟨σ.tm,rem σ.ob key⟩)) ⟨⟩ (nW σ key):=by
 simp only [qO,nW,dL]
 cases get σ.ob key with
 | none=>exact bS
 | some o=>cases o <;> first | exact bS | exact kX ahI
@[go_sem ↓] theorem Xp : W k u (qO gv σ (.ptr key 0)) ↔ W (fun xs=>W (fun p=>k (.ptr p.1,p.2)) ⟨⟩ (yT ⟨σ.tm,rem σ.ob key⟩ xs)) ⟨⟩ (oJ σ key):=by
 simp only [qO,oJ,dL]
 cases get σ.ob key with
 | none=>exact bS
 | some o=>cases o <;> first | exact bS | (simp only [oc,bg,bO])
end
section
variable {k : List TV × St → Prop} {u:Tok k} {gv:Bool}
@[go_sem ↓] theorem U5 : W k u (qP gv σ []) ↔ k ([],σ):=gG
@[go_sem ↓] theorem R8 {x:PL} {xs:List PL}:W k u (qP gv σ (x :: xs)) ↔ W (fun p=>W (fun r=>k (p.1 :: r.1,r.2)) ⟨⟩ (qP gv p.2 xs)) ⟨⟩ (qO gv σ x):=by
 simp only [qP,dL,aK,bO]
end
section
variable {k : AV × St → Prop} {u:Tok k} {gv:Bool}
@[go_sem ↓] theorem Xq {x:PL}:W k u (Kg gv σ (.one x)) ↔ W (fun p=>k (.one p.1,p.2)) ⟨⟩ (qO gv σ x):=by simp only [Kg,dL,bO]
@[go_sem ↓] theorem Xr {xs:List PL}:W k u (Kg gv σ (.agg xs)) ↔ W (fun p=>k (.agg p.1,p.2)) ⟨⟩ (qP gv σ xs):=by simp only [Kg,dL,bO]
end
section
variable {k : List AV × St → Prop} {u:Tok k} {gv:Bool}
@[go_sem ↓] theorem U6 : W k u (rE gv σ []) ↔ k ([],σ):=gG
@[go_sem ↓] theorem R9 {x:CV} {xs:List CV}:W k u (rE gv σ (x :: xs)) ↔ W (fun p=>W (fun r=>k (p.1 :: r.1,r.2)) ⟨⟩ (rE gv p.2 xs)) ⟨⟩ (Kg gv σ x):=by
 simp only [rE,dL,aK,bO]
end
section
variable {k : List PL × St → Prop} {u:Tok k} {kf:Nat → Nat} {c base j:Nat} {pend:List PL}
@[go_sem ↓] theorem U7 : W k u (qx kf c pend σ []) ↔ k ([],σ):=by simp only [qx,dL,bg]
def Pg (kf:Nat → Nat) (c:Nat) (pend:List PL) (σ:St):CL → Option (PL × St)
 | .f x=>some (.f x,σ)
 | .iD=>some (.iD,σ)
 | .eX=>some (.eX,σ)
 | .mp sh ents=>(newP pend σ (kf c) (.map sh ents)).map fun s=>(.mp (kf c),s)
 | .own sz rows=>(newP pend σ (kf c + kf c % 2) (.row sz rows)).map fun s=>(.own (kf c + kf c % 2) rows.length,s)
@[go_sem ↓] theorem Sb {x:CL} {xs:List CL}:W k u (qx kf c pend σ (x :: xs)) ↔ W (fun p=>W (fun r=>k (p.1 :: r.1,r.2)) ⟨⟩ (qx kf (c + 1) (p.1 :: pend) p.2 xs)) ⟨⟩ (Pg kf c pend σ x):=by
 simp only [dL]
 cases x <;> simp only [qx,Pg,bg,aK,bO]
@[go_sem ↓] theorem U8 : W k u (wC base j pend σ []) ↔ k ([],σ):=by simp only [wC,dL,bg]
@[go_sem ↓] theorem Sc {x:TV} {xs:List TV}:W k u (wC base j pend σ (x :: xs)) ↔ W (fun p=>W (fun r=>k (p.1 :: r.1,r.2)) ⟨⟩ (wC base (j + 1) (p.1 :: pend) p.2 xs)) ⟨⟩ (Cz (base + 200 * (j + 1)) pend σ x):=by
 simp only [wC,dL,aK,bO]
end
section
variable {k : PL × St → Prop} {u:Tok k} {kf:Nat → Nat} {c key:Nat} {pend:List PL}
@[go_sem] theorem agj {x:FV}:Pg kf c pend σ (.f x) = some (.f x,σ):=rfl
@[go_sem] theorem ab5 : Pg kf c pend σ .iD = some (.iD,σ):=rfl
@[go_sem] theorem Zq : Pg kf c pend σ .eX = some (.eX,σ):=rfl
@[go_sem ↓] theorem Zr {sh:KS} {ents:List (KV × FC)}:W k u (Pg kf c pend σ (.mp sh ents)) ↔ W (fun s=>k (.mp (kf c),s)) ⟨⟩ (newP pend σ (kf c) (.map sh ents)):=by simp only [Pg,dL,bO]
@[go_sem ↓] theorem Xt {sz:Nat} {rows:List (List FV)}:W k u (Pg kf c pend σ (.own sz rows)) ↔ W (fun s=>k (.own (kf c + kf c % 2) rows.length,s)) ⟨⟩ (newP pend σ (kf c + kf c % 2) (.row sz rows)):=by simp only [Pg,dL,bO]
@[go_sem] theorem agk {x:FV}:Cz key pend σ (.f x) = some (.f x,σ):=rfl
@[go_sem] theorem ab6 : Cz key pend σ .iD = some (.iD,σ):=rfl
@[go_sem] theorem Zt : Cz key pend σ .eX = some (.eX,σ):=rfl
@[go_sem] theorem aeu {cs:List FV}:Cz key pend σ (.fp cs) = some (.fp cs,σ):=rfl
@[go_sem] theorem aev {f:FuncId} {cs:List (List FV)}:Cz key pend σ (.fn f cs) = some (.fn f cs,σ):=rfl
@[go_sem] theorem ab7 : Cz key pend σ .any = some (.any,σ):=rfl
@[go_sem ↓] theorem Zu {sh:KS} {ents:List (KV × FC)}:W k u (Cz key pend σ (.mp sh ents)) ↔ W (fun s=>k (.mp key,s)) ⟨⟩ (newP pend σ key (.map sh ents)):=by simp only [Cz,dL,bO]
@[go_sem ↓] theorem Xu {sz:Nat} {rows:List (List FV)}:W k u (Cz key pend σ (.own sz rows)) ↔ W (fun s=>k (.own (ow key) rows.length,s)) ⟨⟩ (newP pend σ (ow key) (.row sz rows)):=by simp only [Cz,dL,bO]
@[go_sem ↓] theorem Xv {cs:List CL}:W k u (Cz key pend σ (.ptr cs)) ↔ W (fun p=>p.1.any (dS key) = false ∧ W (fun s=>k (.ptr key 0,s)) ⟨⟩ (newP pend p.2 key (.eY p.1))) ⟨⟩ (qx (Oo key) 0 pend σ cs):=by
 simp only [Cz,dL,aK,bZ,bO,aiC]
end
section
variable {k : CV × St → Prop} {u:Tok k} {base:Nat} {pend:List PL}
@[go_sem ↓] theorem Xw {x:TV}:W k u (Kh base pend σ (.one x)) ↔ W (fun p=>k (.one p.1,p.2)) ⟨⟩ (Cz (base + 200) pend σ x):=by simp only [Kh,dL,bO]
@[go_sem ↓] theorem Xx {xs:List TV}:W k u (Kh base pend σ (.agg xs)) ↔ W (fun p=>k (.agg p.1,p.2)) ⟨⟩ (wC base 0 pend σ xs):=by simp only [Kh,dL,bO]
end
section
variable {k : List CV × St → Prop} {u:Tok k} {base i:Nat} {pend:List PL} {bo:List Nat}
@[go_sem] theorem agl : ab bo i = if bo.contains i then cZ i + 10001 else cZ i + 1:=rfl
@[go_sem] theorem agm {key:Nat}:ow key = if key / 10000 % 2 = 0 then key + key % 2 else key:=rfl
@[go_sem ↓] theorem U9 : W k u (wD base i pend σ []) ↔ k ([],σ):=by simp only [wD,dL,bg]
@[go_sem ↓] theorem Sd {x:AV} {xs:List AV}:W k u (wD base i pend σ (x :: xs)) ↔ W (fun p=>W (fun r=>k (p.1 :: r.1,r.2)) ⟨⟩ (wD base (i + 1) (cells p.1 ++ pend) p.2 xs)) ⟨⟩ (Kh (base + 2000 * i) pend σ x):=by
 simp only [wD,dL,aK,bO]
@[go_sem ↓] theorem Sg : W k u (enter bo i pend σ []) ↔ k ([],σ):=by simp only [enter,dL,bg]
@[go_sem ↓] theorem Ph {x:AV} {xs:List AV}:W k u (enter bo i pend σ (x :: xs)) ↔ W (fun p=>W (fun s=>W (fun r=>k (p.1 :: r.1,r.2)) ⟨⟩ (enter bo (i + 1) (cells p.1 ++ pend) s xs)) ⟨⟩ (some ⟨put p.2.tm i (.c p.1),p.2.ob⟩)) ⟨⟩ (Kh (ab bo i) pend σ x):=by
 simp only [enter,dL,aK,bO,bg]
end
section
variable {k : St → Prop} {u:Tok k} {fD:St} {base:Nat} {pend:List PL}
@[go_sem ↓] theorem Va : W k u (yU fD pend base σ [] []) ↔ k σ:=by simp only [yU,dL,bg]
@[go_sem ↓] theorem Si {x:CV} {xs:List CV} {y:AV} {ys:List AV}:W k u (yU fD pend base σ (x :: xs) (y :: ys)) ↔ W (fun s=>W k ⟨⟩ (yU fD pend (base + 1000) s xs ys)) ⟨⟩ (XU fD pend base σ x y):=by
 simp only [yU,dL,aK]
@[go_sem ↓] theorem Xy {x:PL} {y:TV}:W k u (XU fD pend base σ (.one x) (.one y)) ↔ W k ⟨⟩ (CB fD pend base σ x y):=ahI
@[go_sem ↓] theorem Xz {x:List PL} {y:List TV}:W k u (XU fD pend base σ (.agg x) (.agg y)) ↔ W k ⟨⟩ (AO fD pend base σ x y):=ahI
@[go_sem ↓] theorem Vb : W k u (AO fD pend base σ [] []) ↔ k σ:=by simp only [AO,dL,bg]
@[go_sem ↓] theorem Sj {x:PL} {xs:List PL} {y:TV} {ys:List TV}:W k u (AO fD pend base σ (x :: xs) (y :: ys)) ↔ W (fun s=>W k ⟨⟩ (AO fD pend (base + 200) s xs ys)) ⟨⟩ (CB fD pend base σ x y):=by
 simp only [AO,dL,aK]
@[go_sem ↓] theorem XA {key off:Nat} {cs:List CL}:W k u (CB fD pend base σ (.ptr key off) (.ptr cs)) ↔ W (fun xs=>W (fun p=>k (jf p.2 key (.eY p.1))) ⟨⟩ (qx (IV base xs) 0 pend σ cs)) ⟨⟩ (oJ fD key):=by
 simp only [CB,oJ,dL]
 cases get fD.ob key with
 | none=>exact bS
 | some o=>cases o <;> first | exact bS | (simp only [oc,bg,bO])
@[go_sem] theorem aew {key:Nat} {sh:KS} {ents:List (KV × FC)}:CB fD pend base σ (.mp key) (.mp sh ents) = some (jf σ key (.map sh ents)):=rfl
@[go_sem] theorem Zv {key n sz:Nat} {rows:List (List FV)}:CB fD pend base σ (.own key n) (.own sz rows) = some (jf σ key (.row sz rows)):=rfl
@[go_sem] theorem agn {x y:FV}:CB fD pend base σ (.f x) (.f y) = some σ:=rfl
@[go_sem] theorem ab8 {y:FV}:CB fD pend base σ .bT (.f y) = some σ:=rfl
@[go_sem] theorem ab9 : CB fD pend base σ .iD .iD = some σ:=rfl
@[go_sem] theorem Zw : CB fD pend base σ .eX .eX = some σ:=rfl
@[go_sem] theorem acd {key n:Nat} {y:FV}:CB fD pend base σ (.own key n) (.f y) = some σ:=rfl
@[go_sem] theorem ace {key n:Nat}:CB fD pend base σ (.own key n) .any = some σ:=rfl
@[go_sem] theorem aex {a b:List FV}:CB fD pend base σ (.fp a) (.fp b) = some σ:=rfl
@[go_sem] theorem aey {f g:FuncId} {a b:List (List FV)}:CB fD pend base σ (.fn f a) (.fn g b) = some σ:=rfl
end
def XB (base c:Nat):Option PL → Nat
 | some (.mp k)=>if k % 2 = 0 then k else base + 2 * (c + 1)
 | some (.own k _)=>if k % 2 = 0 then k else base + 2 * (c + 1)
 | _=>base + 2 * (c + 1)
@[go_sem] theorem acf {base c:Nat} {xs:List PL}:IV base xs c = XB base c (xs[c]?):=by
 unfold IV
 cases xs[c]? with
 | none=>rfl
 | some x=>cases x <;> rfl
@[go_sem] theorem aez {base c k:Nat}:XB base c (some (.mp k)) = if k % 2 = 0 then k else base + 2 * (c + 1):=rfl
@[go_sem] theorem acg {base c k n:Nat}:XB base c (some (.own k n)) = if k % 2 = 0 then k else base + 2 * (c + 1):=rfl
@[go_sem] theorem agp {base c:Nat} {x:FV}:XB base c (some (.f x)) = base + 2 * (c + 1):=rfl
@[go_sem] theorem ach {base c:Nat}:XB base c (some .bT) = base + 2 * (c + 1):=rfl
@[go_sem] theorem Zx {base c:Nat}:XB base c (some .eX) = base + 2 * (c + 1):=rfl
section
variable {k : TV × St → Prop} {u:Tok k} {key n:Nat}
@[go_sem] theorem aeA {x:FV}:outT σ (.f x) = some (.f x,σ):=rfl
@[go_sem] theorem Zy : outT σ .bT = some (.f (.sl []),σ):=rfl
@[go_sem] theorem Zz : outT σ .iD = some (.iD,σ):=rfl
@[go_sem] theorem XC : outT σ .eX = some (.eX,σ):=rfl
@[go_sem] theorem aci {cs:List FV}:outT σ (.fp cs) = some (.fp cs,σ):=rfl
@[go_sem] theorem acj {f:FuncId} {cs:List (List FV)}:outT σ (.fn f cs) = some (.fn f cs,σ):=rfl
@[go_sem ↓] theorem Vd : W k u (outT σ (.own key n)) ↔ W (fun p=>k (.f p.1,p.2)) ⟨⟩ (uN σ (.own key n)):=by simp only [outT,dL,bO]
@[go_sem ↓] theorem XD : W k u (outT σ (.mp key)) ↔ W (fun o=>k (.mp o.1 o.2,⟨σ.tm,rem σ.ob key⟩)) ⟨⟩ (nW σ key):=by
 simp only [outT,nW,dL]
 cases get σ.ob key with
 | none=>exact bS
 | some o=>cases o <;> first | exact bS | exact kX ahI
@[go_sem ↓] theorem Ve : W k u (outT σ (.ptr key 0)) ↔ W (fun xs=>W (fun p=>k (.ptr p.1,p.2)) ⟨⟩ (yT ⟨σ.tm,rem σ.ob key⟩ xs)) ⟨⟩ (oJ σ key):=by
 simp only [outT,oJ,dL]
 cases get σ.ob key with
 | none=>exact bS
 | some o=>cases o <;> first | exact bS | (simp only [oc,bg,bO])
@[go_sem ↓] theorem Vf {sz:Nat}:W k u (AP sz σ (.own key n)) ↔ W (fun o=>o.1 = sz ∧ k (.own sz o.2,⟨σ.tm,rem σ.ob key⟩)) ⟨⟩ (iw σ key):=by
 simp only [AP,iw,dL]
 cases get σ.ob key with
 | none=>exact bS
 | some o=>cases o <;> first | exact bS | (simp only [Lx,bg,bH])
@[go_sem ↓] theorem Vg {sz:Nat}:W k u (AP sz σ .bT) ↔ ¬ sz = 0 ∧ k (.own sz [],σ):=by simp only [AP,dL,bZ,bg]
@[go_sem] theorem acn {x:PL} {y:FV}:jB σ x (.f y) = some (.f y,σ):=by cases x <;> first | rfl | (rename_i a b;cases b <;> rfl)
@[go_sem] theorem XE {x:PL}:jB σ x .iD = some (.iD,σ):=by cases x <;> first | rfl | (rename_i a b;cases b <;> rfl)
@[go_sem] theorem Vh {x:PL}:jB σ x .eX = some (.eX,σ):=by cases x <;> first | rfl | (rename_i a b;cases b <;> rfl)
def bko (σ:St) (key:Nat):Nat → Option (TV × St)
 | 1=>(Lx (get σ.ob key)).map fun p=>(.own p.1 p.2,⟨σ.tm,rem σ.ob key⟩)
 | _=>some (.any,σ)
@[go_sem] theorem agq : bko σ key 0 = some (.any,σ):=rfl
@[go_sem] theorem ZA : bko σ key 1 = (Lx (get σ.ob key)).map fun p=>(.own p.1 p.2,⟨σ.tm,rem σ.ob key⟩):=rfl
@[go_sem] theorem XF {n sz:Nat} {rows:List (List FV)}:jB σ (.own key n) (.own sz rows) = bko σ key (key % 2):=by
 simp only [jB]
 rcases Nat.mod_two_eq_zero_or_one key with h | h
 ·rw [h,ahD (by decide)];rfl
 ·rw [h,ahC rfl,ZA]
  cases get σ.ob key with
  | none=>rfl
  | some o=>cases o <;> rfl
@[go_sem] theorem XG {sz:Nat} {rows:List (List FV)}:jB σ .bT (.own sz rows) = some (.any,σ):=rfl
@[go_sem] theorem XH {x:PL}:jB σ x .any = some (.any,σ):=by cases x <;> first | rfl | (rename_i a b;cases b <;> rfl)
@[go_sem] theorem ZB {x:PL} {cs:List FV}:jB σ x (.fp cs) = some (.fp cs,σ):=by cases x <;> first | rfl | (rename_i a b;cases b <;> rfl)
@[go_sem] theorem ZC {x:PL} {f:FuncId} {cs:List (List FV)}:jB σ x (.fn f cs) = some (.fn f cs,σ):=by cases x <;> first | rfl | (rename_i a b;cases b <;> rfl)
@[go_sem ↓] theorem Sl {cs:List CL}:W k u (jB σ (.ptr key 0) (.ptr cs)) ↔ key % 2 = 1 ∧ W k ⟨⟩ (outT σ (.ptr key 0)):=by simp only [jB,dL,bH]
@[go_sem ↓] theorem Vi {sh:KS} {ents:List (KV × FC)}:W k u (jB σ (.mp key) (.mp sh ents)) ↔ key % 2 = 1 ∧ W k ⟨⟩ (outT σ (.mp key)):=by simp only [jB,dL,bH]
end
section
variable {k : List TV × St → Prop} {u:Tok k}
@[go_sem ↓] theorem Sm : W k u (uO σ []) ↔ k ([],σ):=gG
@[go_sem ↓] theorem Pj {x:PL} {xs:List PL}:W k u (uO σ (x :: xs)) ↔ W (fun p=>W (fun r=>k (p.1 :: r.1,r.2)) ⟨⟩ (uO p.2 xs)) ⟨⟩ (outT σ x):=by
 simp only [uO,dL,aK,bO]
@[go_sem ↓] theorem Pk : W k u (nS σ [] []) ↔ k ([],σ):=by simp only [nS,dL,bg]
@[go_sem ↓] theorem Od {l:PL} {ls:List PL} {x:TV} {xs:List TV}:W k u (nS σ (l :: ls) (x :: xs)) ↔ W (fun p=>W (fun r=>k (p.1 :: r.1,r.2)) ⟨⟩ (nS p.2 ls xs)) ⟨⟩ (jB σ l x):=by
 simp only [nS,dL,aK,bO]
end
section
variable {k : AV × St → Prop} {u:Tok k}
@[go_sem ↓] theorem Kj {x:PL}:W k u (AQ none σ (.one x)) ↔ W (fun p=>k (.one p.1,p.2)) ⟨⟩ (outT σ x):=by simp only [AQ,Ov,dL,bO]
@[go_sem ↓] theorem Kk {xs:List PL}:W k u (AQ none σ (.agg xs)) ↔ W (fun p=>k (.agg p.1,p.2)) ⟨⟩ (uO σ xs):=by simp only [AQ,Ov,dL,bO]
@[go_sem ↓] theorem Sn {sz:Nat} {x:PL}:W k u (AQ (some sz) σ (.one x)) ↔ W (fun p=>k (.one p.1,p.2)) ⟨⟩ (AP sz σ x):=by simp only [AQ,dL,bO]
@[go_sem ↓] theorem Sq {l:PL} {x:TV}:W k u (wF σ (.one l) (.one x)) ↔ W (fun p=>k (.one p.1,p.2)) ⟨⟩ (jB σ l x):=by simp only [wF,dL,bO]
@[go_sem ↓] theorem Sw {l:List PL} {x:List TV}:W k u (wF σ (.agg l) (.agg x)) ↔ W (fun p=>k (.agg p.1,p.2)) ⟨⟩ (nS σ l x):=by simp only [wF,dL,bO]
end
section
variable {k : List AV × St → Prop} {u:Tok k}
@[go_sem ↓] theorem Sy {fl:List (Option Nat)}:W k u (lW fl σ []) ↔ k ([],σ):=by simp only [lW,dL,bg]
@[go_sem ↓] theorem Pm {fl:List (Option Nat)} {x:CV} {xs:List CV}:W k u (lW fl σ (x :: xs)) ↔ W (fun p=>W (fun r=>k (p.1 :: r.1,r.2)) ⟨⟩ (lW fl.tail p.2 xs)) ⟨⟩ (AQ (fl.headD none) σ x):=by
 simp only [lW,dL,aK,bO]
@[go_sem ↓] theorem Pn : W k u (jL σ [] []) ↔ k ([],σ):=by simp only [jL,dL,bg]
@[go_sem ↓] theorem Oe {l:CV} {ls:List CV} {x:AV} {xs:List AV}:W k u (jL σ (l :: ls) (x :: xs)) ↔ W (fun p=>W (fun r=>k (p.1 :: r.1,r.2)) ⟨⟩ (jL p.2 ls xs)) ⟨⟩ (wF σ l x):=by
 simp only [jL,dL,aK,bO]
end
section
variable {k : St → Prop} {u:Tok k} {gv:Bool} {d:Nat} {args:List CV} {p:List AV × St} {r:List AV × List AV} {s:St}
@[go_sem ↓] theorem aeB : W k u (Fv gv args p r) ↔ (if (!gv && ((r.1.any vG || !p.1.all fE) && args.any (fun x=>(cells x).any fU))) = true then W k ⟨⟩ (rF p.2 args) else k p.2):=by
 simp only [Fv,dL]
 split
 ·exact ahI
 ·exact bg
@[go_sem ↓] theorem aeC : W k u (Fw d σ args p r s) ↔ (if p.1.all fE = true then k s else W k ⟨⟩ (yU σ (args.flatMap cells) (cZ d + 10000) s args r.2)):=by
 simp only [Fw,dL]
 split
 ·exact bg
 ·exact ahI
end
end
section
variable {σ : St} {ks AJ:List Nat} {rws:List (Nat × Nat)}
@[go_sem] theorem aeD : res ks AJ rws σ = ⟨pick ks (iP σ rws).tm,pick AJ (iP σ rws).ob⟩:=rfl
@[go_sem] theorem aco : iP σ [] = σ:=rfl
end
attribute [go_sem] if_true if_false true_and and_true Bool.not_false Bool.not_true Bool.and_false Bool.false_and Bool.and_true Bool.true_and Bool.or_false Bool.false_or Bool.or_true Bool.true_or Bool.false_eq_true not_true_eq_false not_false_eq_true ne_eq forall_const and_self implies_true KV.one.injEq KV.agg.injEq SV.str.injEq SV.int.injEq SV.bool.injEq List.cons.injEq List.getElem?_cons_zero List.getElem?_cons_succ List.getD_cons_zero List.getD_cons_succ List.contains_cons List.contains_nil decide_true decide_false fresh
end Go.Proofs.Ytfokaoeinpnagaa.Ev
namespace Go.Proofs.Ytfokaoeinpnagaa.Kc
section
open Go Ev
def aA (d:Nat) (i:I):G:=⟨some d,none,i⟩
def cB (i:I):G:=⟨none,none,i⟩
def bq (d s:Nat) (b:Bool) (i:I):G:=⟨some d,some (some s,b),i⟩
def bI (n:Int):dF:=.k (.one (.f (.int .i64 n)))
def aG : PL:=.f (.int .i64 0)
def bG : PL:=.f (.str ⟨#[]⟩)
def dV (a b s:Nat):Nat × Nat × dF:=⟨a,b,.t s⟩
def eu : dF:=.k (.one (.f (.bool true)))
def dH : dF:=.k (.one (.f (.bool false)))
def aD (d s:Nat):G:=⟨some d,none,.mv (.t s)⟩
def dn (d s:Nat):G:=⟨some d,none,.load 1 false (.t s)⟩
def dz (d n s:Nat):G:=⟨some d,none,.load n true (.t s)⟩
def bP (d f s:Nat):G:=⟨some d,none,.fa f (.t s)⟩
def aU (a:List G) (b:List Nat) (c:CC):CC:=.seq (.reg a b) c
def c31 : CF:=⟨1,[(.t 2)],[],[],(aU [aA 2 (.mv (.k (.one .iD)))] [0] (.seq (aU [aD 3 0,aA 4 (.cmp .lt (.t 3) (bI 1)),aD 5 4,bq 6 5 false (.mv (.t 0)),bq 7 5 false (.cmp .gt (.t 6) (bI 1000)),aA 8 (.pick (.t 5) eu (.t 7))] [0,8] (.cond (.t 8) (aU [aA 2 (.mv (.k (.one .iD)))] [2] .ret) .skip)) (aU [aD 9 0,aA 10 (.oM (.agg [.str,(.int .i64),(.int .i64)])),aA 11 (.build [aG,.eX,.bT,aG] [dV 0 1 9,dV 1 1 10]),aA 12 (.box 98 (.t 11)),aD 2 12] [2] .ret)))⟩
def ZE : CF:=⟨3,[(.cell 6 7 true),(.t 7)],[],[],(aU [aA 5 (.box 24 (.t 2)),aA 6 (.alloc 95 [bG,aG,aG,.bT,aG,aG,aG]),aA 7 (.mv dH)] [0,1,5,6] (.seq (aU [aD 10 0,aA 11 (.wh false (.t 10))] [0,1,5,6,11] (.cond (.t 11) (aU [aA 12 (.build [bG,aG,aG,.bT,aG,aG,aG] []),cB (.store 7 (.t 6) (.t 12)),aA 7 (.mv dH)] [6,7] .ret) .skip)) (.seq (.rz [⟨aD 14 0,[180000]⟩,⟨aA 15 (.gL (.t 14)),[180000]⟩,⟨bP 16 1 15,[180000]⟩,⟨dn 17 16,[180000]⟩,⟨dz 18 3 5,[180000]⟩,⟨⟨(some 19),none,(.look (.agg [.str,(.int .i64),(.int .i64)]) (.agg [(.str ⟨#[]⟩),(.int .i64 0),(.int .i64 0),(.sl []),(.int .i64 0),(.int .i64 0),(.int .i64 0)]) true (.t 17) (.t 18))⟩,[180000]⟩,⟨aD 13 19,[180000]⟩,⟨aA 20 (.ext (.t 13) 0),[180000]⟩,⟨aA 21 (.ext (.t 13) 1),[180000]⟩,⟨aA 8 (.alloc 95 [bG,aG,aG,.bT,aG,aG,aG]),[]⟩] [8] [cB (.store 7 (.t 8) (.t 20))] [aD 9 21] [1,6,8,9]) (.seq (aU [aD 22 9,aA 23 (.no (.t 22)),aD 24 23,bq 25 24 false (.mv (.t 1)),bq 26 24 false (.fa 5 (.t 8)),bq 27 24 false (.load 1 false (.t 26)),bq 28 24 false (.call false 57 [(.t 25),(.t 27)]),bq 29 24 false (.no (.t 28)),aA 30 (.pick (.t 24) eu (.t 29))] [6,8,30] (.cond (.t 30) (aU [aA 31 (.build [bG,aG,aG,.bT,aG,aG,aG] []),cB (.store 7 (.t 6) (.t 31)),aA 7 (.mv dH)] [6,7] .ret) .skip)) (aU [dz 32 7 8,aA 33 (.call false 42 [(.t 32)]),cB (.store 7 (.t 6) (.t 33)),aA 7 (.mv eu)] [6,7] .ret)))))⟩
def Og : CF:=⟨2,[(.t 4)],[],[],(aU [aA 4 (.mv (bI 0))] [0,1] (.seq (aU [aD 5 0,aA 6 (.call false 65 [(.t 5),(bI 1099511627776)]),aA 7 (.no (.t 6)),aD 8 7,bq 9 8 false (.mv (.t 1)),bq 10 8 false (.cmp .lt (.t 9) (bI 0)),aA 11 (.pick (.t 8) eu (.t 10))] [0,1,11] (.cond (.t 11) (aU [aA 4 (.mv (bI (-1)))] [4] .ret) .skip)) (aU [aD 12 0,aD 13 1,aA 14 (.mn (.t 13) (bI 604800)),aA 15 (.ar .add (.t 12) (.t 14)),aD 4 15] [4] .ret)))⟩
def Vj : CF:=⟨3,[(.t 6)],[],[],(aU [aA 5 (.box 95 (.t 2)),aA 6 (.mv (bI 0))] [0,1,5] (.seq (aU [aD 9 0,aA 10 (.wh false (.t 9)),aD 11 10,bq 12 11 false (.fa 5 (.t 5)),bq 13 11 false (.load 1 false (.t 12)),bq 14 11 false (.cmp .lt (.t 13) (bI 0)),aA 15 (.pick (.t 11) eu (.t 14)),aD 16 15,bq 17 16 false (.fa 0 (.t 5)),bq 18 16 false (.load 5 true (.t 17)),bq 19 16 false (.call false 66 [(.t 18)]),bq 20 16 false (.no (.t 19)),aA 21 (.pick (.t 16) eu (.t 20)),aD 22 21,bq 23 22 false (.fa 6 (.t 5)),bq 24 22 false (.load 1 false (.t 23)),bq 25 22 false (.cmp .lt (.t 24) (bI 1)),aA 26 (.pick (.t 22) eu (.t 25)),aD 27 26,bq 28 27 false (.fa 6 (.t 5)),bq 29 27 false (.load 1 false (.t 28)),bq 30 27 false (.cmp .gt (.t 29) (bI 5)),aA 31 (.pick (.t 27) eu (.t 30))] [0,1,5,31] (.cond (.t 31) (aU [aA 6 (.mv (bI 1))] [6] .ret) .skip)) (.seq (aU [aD 32 1,bP 33 5 5,dn 34 33,aA 35 (.call false 57 [(.t 32),(.t 34)]),aA 36 (.no (.t 35))] [0,1,5,36] (.cond (.t 36) (aU [aA 6 (.mv (bI 14))] [6] .ret) .skip)) (.seq (.rz [⟨aD 38 0,[160000]⟩,⟨aA 39 (.gL (.t 38)),[160000]⟩,⟨bP 40 1 39,[160000]⟩,⟨dn 41 40,[160000]⟩,⟨bP 42 0 5,[160000]⟩,⟨bP 43 0 42,[160000]⟩,⟨dz 44 3 43,[160000]⟩,⟨⟨(some 45),none,(.look (.agg [.str,(.int .i64),(.int .i64)]) (.agg [(.str ⟨#[]⟩),(.int .i64 0),(.int .i64 0),(.sl []),(.int .i64 0),(.int .i64 0),(.int .i64 0)]) true (.t 41) (.t 44))⟩,[160000]⟩,⟨aD 37 45,[160000]⟩,⟨aA 46 (.ext (.t 37) 0),[160000]⟩,⟨aA 47 (.ext (.t 37) 1),[160000]⟩,⟨aA 7 (.alloc 95 [bG,aG,aG,.bT,aG,aG,aG]),[]⟩] [10] [cB (.store 7 (.t 7) (.t 46))] [aD 8 47] [1,5,7,8]) (.seq (.seq (.rz [⟨aD 48 8,[]⟩,⟨aD 49 48,[]⟩,⟨bq 50 49 true (.fa 6 (.t 7)),[]⟩,⟨bq 51 49 true (.load 1 false (.t 50)),[]⟩,⟨bq 52 49 true (.mv (.t 1)),[]⟩,⟨bq 53 49 true (.fa 5 (.t 7)),[]⟩,⟨bq 54 49 true (.load 1 false (.t 53)),[]⟩,⟨bq 55 49 true (.call false 57 [(.t 52),(.t 54)]),[]⟩,⟨bq 56 49 true (.fa 6 (.t 5)),[]⟩,⟨bq 57 49 true (.load 1 false (.t 56)),[]⟩] [] [] [bq 58 49 true (.call false 67 [(.t 51),(.t 55),(.t 57)]),bq 59 49 true (.no (.t 58)),aA 60 (.pick (.t 49) (.t 59) dH)] [60]) (.cond (.t 60) (aU [aA 6 (.mv (bI 10))] [6] .ret) .skip)) (aU [aA 6 (.mv (bI 0))] [6] .ret))))))⟩
def c42 : CF:=⟨1,[(.cell 2 7 true)],[],[],(aU [aA 1 (.box 95 (.t 0)),aA 2 (.alloc 95 [bG,aG,aG,.bT,aG,aG,aG])] [1,2] (aU [bP 3 0 1,bP 4 3 3,dn 5 4,aA 6 (.call false 68 [(.t 5)]),bP 7 0 1,bP 8 3 7,cB (.store 1 (.t 8) (.t 6))] [1,2] (aU [dz 9 7 1,cB (.store 7 (.t 2) (.t 9))] [2] .ret)))⟩
def c43 : CF:=⟨2,[(.t 4),(.t 5)],[],[],(aU [aA 4 (.mv (.k (.one .bT))),aA 5 (.mv (.k (.one .bT)))] [0,1] (aU [aD 7 0,aA 8 (.iE (.t 7)),aD 9 1,aD 10 0,aA 11 (.iE (.t 10)),aA 12 (.mn (.t 9) (.t 11)),aA 13 (.mx (.t 12) (bI 0)),aA 14 (.ar .sub (.t 8) (.t 13)),aD 6 14] [0,6] (.seq (.rz [⟨aD 15 0,[]⟩,⟨aD 16 6,[]⟩,⟨aA 17 (.cut 3 (.t 15) (some (.t 16)) none),[]⟩,⟨aA 18 (.call false 45 [(.t 17)]),[]⟩,⟨aD 19 0,[]⟩,⟨aD 20 6,[]⟩,⟨aA 21 (.cut 3 (.t 19) none (some (.t 20))),[]⟩] [] [] [aA 22 (.call false 45 [(.t 21)]),aD 4 18,aD 5 22] [4,5]) .ret)))⟩
def c44 : CF:=⟨2,[(.t 4)],[],[],(aU [aA 3 (.box 24 (.t 1)),aA 4 (.mv (.k (.one .bT)))] [0,3] (.seq (.rz [⟨aD 5 0,[160000,200000]⟩,⟨dz 6 3 3,[160000,200000]⟩,⟨aA 7 (.yR 69 [(.t 5),(.t 6)]),[200000]⟩,⟨dz 8 3 3,[160000,200000]⟩,⟨aA 9 (.yK 24 3 1 [bG,aG,aG] [dV 0 3 8]),[160000]⟩] [] [] [aA 10 (.app 24 3 32 (.t 7) (.t 9)),aD 4 10] [4]) .ret))⟩
def c57 : CF:=⟨2,[(.t 4)],[],[],(aU [aA 4 (.mv dH)] [0,1] (aU [aD 5 0,aA 6 (.call false 65 [(.t 5),(bI 1099511627776)]),aD 7 6,bq 8 7 true (.mv (.t 0)),bq 9 7 true (.mv (.t 1)),bq 10 7 true (.cmp .lt (.t 8) (.t 9)),aA 11 (.pick (.t 7) (.t 10) dH),aD 4 11] [4] .ret))⟩
def c69 : CF:=⟨2,[(.t 4)],[some 3],[],(aU [aA 3 (.box 24 (.t 1)),aA 4 (.mv (.k (.one .bT)))] [0,3] (aU [aD 5 0,aA 6 (.call false 45 [(.t 5)]),aA 7 (.Ol 86 [(.t 3)]),aA 8 (.call true 85 [(.t 6),(.t 7)]),aD 4 8] [4] .ret))⟩
def c66 : CF:=⟨1,[(.t 2)],[],[],(aU [aA 1 (.box 27 (.t 0)),aA 2 (.mv dH)] [1] (aU [bP 6 0 1,dz 7 3 6,aA 3 (.alloc 24 [bG,aG,aG]),cB (.store 3 (.t 3) (.t 7))] [1,3] (.seq (.seq (.rz [⟨bP 8 0 3,[]⟩,⟨dn 9 8,[]⟩,⟨aA 10 (.call false 70 [(.t 9)]),[]⟩,⟨aA 11 (.no (.t 10)),[]⟩,⟨aD 12 11,[]⟩,⟨bq 13 12 false (.fa 0 (.t 3)),[]⟩,⟨bq 14 12 false (.load 1 false (.t 13)),[]⟩,⟨bq 15 12 false (.call false 48 [(.t 14)]),[]⟩,⟨bq 16 12 false (.fa 0 (.t 3)),[]⟩,⟨bq 17 12 false (.load 1 false (.t 16)),[]⟩] [] [] [bq 18 12 false (.rA (.one .str) true (.t 15) (.t 17)),aA 19 (.pick (.t 12) eu (.t 18)),aD 20 19,bq 21 20 false (.fa 1 (.t 3)),bq 22 20 false (.load 1 false (.t 21)),bq 23 20 false (.call false 82 [(.t 22),(bI 65535)]),bq 24 20 false (.no (.t 23)),aA 25 (.pick (.t 20) eu (.t 24)),aD 26 25,bq 27 26 false (.fa 2 (.t 3)),bq 28 26 false (.load 1 false (.t 27)),bq 29 26 false (.call false 82 [(.t 28),(bI 65535)]),bq 30 26 false (.no (.t 29)),aA 31 (.pick (.t 26) eu (.t 30)),aD 32 31,bq 33 32 false (.fa 4 (.t 1)),bq 34 32 false (.load 1 false (.t 33)),bq 35 32 false (.call false 82 [(.t 34),(bI 2147483647)]),bq 36 32 false (.no (.t 35)),aA 37 (.pick (.t 32) eu (.t 36))] [1,3,37]) (.cond (.t 37) (aU [aA 2 (.mv dH)] [2] .ret) .skip)) (.seq (aU [bP 38 3 1,dn 39 38,aA 40 (.iE (.t 39)),aA 41 (.mv (bI 0))] [1,3,39,40,41] (.block 0 (.loop [1,3,39,40,41] [20802,40000,80000] [] (aU [aA 42 (.cmp .lt (.t 41) (.t 40))] [1,3,39,40,41,42] (.seq (.cond (.t 42) .skip (.exit 0)) (.seq (.block 1 (aU [aD 43 41,aA 44 (.ia 1 (.t 39) (.t 41)),dn 45 44,aD 4 43,aD 5 45] [1,3,4,5,39,40,41] (aU [bP 46 1 3,dn 47 46,aD 48 5,aA 49 (.call false 73 [(.t 47),(.t 48)]),aA 50 (.no (.t 49)),aD 51 50,bq 52 51 false (.fa 1 (.t 3)),bq 53 51 false (.load 1 false (.t 52)),bq 54 51 false (.mv (.t 5)),bq 55 51 false (.call false 83 [(.t 53),(.t 54)]),bq 56 51 false (.mv (.t 5)),bq 57 51 false (.rA (.one .str) true (.t 55) (.t 56)),aA 58 (.pick (.t 51) eu (.t 57)),aD 59 58,bq 60 59 false (.fa 3 (.t 1)),bq 61 59 false (.load 1 false (.t 60)),bq 62 59 false (.mv (.t 4)),bq 63 59 false (.cut 1 (.t 61) none (some (.t 62))),bq 64 59 false (.mv (.t 5)),bq 65 59 false (.call false 84 [(.t 63),(.t 64)]),aA 66 (.pick (.t 59) eu (.t 65))] [1,3,39,40,41,66] (.cond (.t 66) (aU [aA 2 (.mv dH)] [2] .ret) .skip)))) (.reg [aA 67 (.ar .add (.t 41) (bI 1)),aD 41 67] [1,3,39,40,41]))))))) (aU [bP 68 3 1,dn 69 68,aA 70 (.iE (.t 69)),aA 71 (.cmp .gt (.t 70) (bI 0)),aD 2 71] [2] .ret)))))⟩
def c65 : CF:=⟨2,[(.t 4)],[],[],(aU [aA 4 (.mv dH)] [0,1] (aU [aD 5 0,aA 6 (.cmp .ge (.t 5) (bI 0)),aD 7 6,bq 8 7 true (.mv (.t 0)),bq 9 7 true (.mv (.t 1)),bq 10 7 true (.cmp .le (.t 8) (.t 9)),aA 11 (.pick (.t 7) (.t 10) dH),aD 4 11] [4] .ret))⟩
def c67 : CF:=⟨3,[(.t 6)],[],[],(aU [aA 6 (.mv dH)] [0,1,2] (aU [aD 7 2,aA 8 (.call false 81 [(.t 7),(bI 1)]),aD 9 8,bq 10 9 true (.mv (.t 1)),bq 11 9 true (.no (.t 10)),bq 12 9 true (.mv (.t 11)),bq 13 12 false (.mv (.t 2)),bq 14 12 false (.mv (.t 0)),bq 15 12 false (.cmp .ge (.t 13) (.t 14)),bq 16 9 true (.pick (.t 12) eu (.t 15)),aA 17 (.pick (.t 9) (.t 16) dH),aD 6 17] [6] .ret))⟩
def c85 : CF:=⟨2,[(.t 4)],[some 3],[],(aU [aA 4 (.mv (.k (.one .bT)))] [0,1] (aU [aD 8 0,aD 9 1,aA 10 (.call false 98 [(.t 8),(.t 9)]),aD 5 10] [0,1,5] (.seq (aU [aD 11 5,aA 12 (.cmp .eq (.t 11) (bI (-1)))] [0,1,5,12] (.cond (.t 12) (aU [aD 13 0,aD 4 13] [4] .ret) .skip)) (.seq (aU [aD 14 5,aA 15 (.ar .add (.t 14) (bI 1)),aD 6 15] [0,1,5,6] (.block 0 (.loop [0,1,5,6] [20202] [] (.seq (aU [aD 16 6,aD 17 0,aA 18 (.iE (.t 17)),aA 19 (.cmp .lt (.t 16) (.t 18))] [0,1,5,6,19] (.cond (.t 19) .skip (.exit 0))) (.seq (.block 1 (aU [aD 22 0,aD 23 6,aA 24 (.ia 3 (.t 22) (.t 23)),dz 25 3 24,aA 7 (.alloc 24 [bG,aG,aG]),cB (.store 3 (.t 7) (.t 25))] [0,1,5,6,7] (aU [aD 26 1,dz 27 3 7,aA 28 (.dyn (.t 26) [(.t 27)]),aA 29 (.no (.t 28))] [0,1,5,6,7,29] (.cond (.t 29) (aU [aD 30 0,aD 31 5,dz 32 3 7,aA 33 (.ia 3 (.t 30) (.t 31)),cB (.store 3 (.t 33) (.t 32))] [0,1,5,6] (.reg [aD 34 5,aA 35 (.ar .add (.t 34) (bI 1)),aD 5 35] [0,1,5,6])) .skip)))) (.reg [aD 20 6,aA 21 (.ar .add (.t 20) (bI 1)),aD 6 21] [0,1,5,6])))))) (aU [aD 36 0,aD 37 5,aA 38 (.cutV 3 (.t 36) (.t 37)),⟨none,none,(.Rz 3 [(.str ⟨#[]⟩),(.int .i64 0),(.int .i64 0)] (.t 38))⟩] [0,5] (aU [aD 39 0,aD 40 5,aA 41 (.CU 3 (.t 39) (.t 40)),aD 4 41] [4] .ret))))))⟩
def c86 : CF:=⟨2,[(.t 3)],[none],[],(aU [aA 2 (.box 24 (.t 0)),aA 3 (.mv dH)] [1,2] (aU [dz 4 3 2,dz 5 3 1,aA 6 (.rA (.agg [.str,(.int .i64),(.int .i64)]) false (.t 4) (.t 5)),aD 3 6] [3] .ret))⟩
def c82 : CF:=⟨2,[(.t 4)],[],[],(aU [aA 4 (.mv dH)] [0,1] (aU [aD 5 0,aA 6 (.cmp .ge (.t 5) (bI 0)),aD 7 6,bq 8 7 true (.mv (.t 0)),bq 9 7 true (.mv (.t 1)),bq 10 7 true (.cmp .le (.t 8) (.t 9)),aA 11 (.pick (.t 7) (.t 10) dH),aD 4 11] [4] .ret))⟩
def c84 : CF:=⟨2,[(.t 4)],[],[],(aU [aA 4 (.mv dH)] [0,1] (aU [aD 5 0,aD 6 1,aA 7 (.call false 97 [(.t 5),(.t 6)]),aA 8 (.cmp .ge (.t 7) (bI 0)),aD 4 8] [4] .ret))⟩
def c81 : CF:=⟨2,[(.t 4)],[],[],(aU [aA 4 (.mv dH)] [0,1] (aU [aD 5 0,aD 6 1,aA 7 (.cmp .ge (.t 5) (.t 6)),aD 8 7,bq 9 8 true (.mv (.t 0)),bq 10 8 true (.cmp .le (.t 9) (bI 5)),aA 11 (.pick (.t 8) (.t 10) dH),aD 4 11] [4] .ret))⟩
def c98 : CF:=⟨2,[(.t 4)],[],[],(aU [aA 4 (.mv (bI 0))] [0,1] (.seq (aU [aD 6 0,aA 7 (.iE (.t 6)),aA 8 (.mv (bI 0))] [0,1,7,8] (.block 0 (.loop [0,1,7,8] [20202] [] (aU [aA 9 (.cmp .lt (.t 8) (.t 7))] [0,1,7,8,9] (.seq (.cond (.t 9) .skip (.exit 0)) (.seq (.block 1 (aU [aD 10 8,aD 5 10] [0,1,5,7,8] (aU [aD 11 1,aD 12 0,aD 13 5,aA 14 (.ia 3 (.t 12) (.t 13)),dz 15 3 14,aA 16 (.dyn (.t 11) [(.t 15)])] [0,1,5,7,8,16] (.cond (.t 16) (aU [aD 17 5,aD 4 17] [4] .ret) .skip)))) (.reg [aA 18 (.ar .add (.t 8) (bI 1)),aD 8 18] [0,1,7,8]))))))) (aU [aA 4 (.mv (bI (-1)))] [4] .ret)))⟩
def c97 : CF:=⟨2,[(.t 4)],[],[],(aU [aA 4 (.mv (bI 0))] [0,1] (.seq (aU [aD 6 0,aA 7 (.iE (.t 6)),aA 8 (.mv (bI 0))] [0,1,7,8] (.block 0 (.loop [0,1,7,8] [20202] [] (aU [aA 9 (.cmp .lt (.t 8) (.t 7))] [0,1,7,8,9] (.seq (.cond (.t 9) .skip (.exit 0)) (.seq (.block 1 (aU [aD 10 8,aD 5 10] [0,1,5,7,8] (aU [aD 11 1,aD 12 0,aD 13 5,aA 14 (.ia 1 (.t 12) (.t 13)),dn 15 14,aA 16 (.rA (.one .str) false (.t 11) (.t 15))] [0,1,5,7,8,16] (.cond (.t 16) (aU [aD 17 5,aD 4 17] [4] .ret) .skip)))) (.reg [aA 18 (.ar .add (.t 8) (bI 1)),aD 8 18] [0,1,7,8]))))))) (aU [aA 4 (.mv (bI (-1)))] [4] .ret)))⟩
def c32 : CF:=⟨1,[(.t 2)],[],[],(aU [aA 2 (.mv (.k (.one .iD)))] [0] (.seq (aU [aD 3 0,aA 4 (.cmp .lt (.t 3) (bI 1)),aD 5 4,bq 6 5 false (.mv (.t 0)),bq 7 5 false (.cmp .gt (.t 6) (bI 1000)),aA 8 (.pick (.t 5) eu (.t 7))] [0,8] (.cond (.t 8) (aU [aA 2 (.mv (.k (.one .iD)))] [2] .ret) .skip)) (aU [aD 9 0,aA 10 (.oM (.agg [.str,(.int .i64),(.int .i64)])),aA 11 (.build [aG,.eX,.bT,aG] [dV 0 1 9,dV 1 1 10]),aA 12 (.box 125 (.t 11)),aD 2 12] [2] .ret)))⟩
def XI : CF:=⟨1,[(.t 2),(.t 3)],[],[],(aU [aA 1 (.box 27 (.t 0)),aA 2 (.mv (bI 0)),aA 3 (.mv dH)] [1] (.seq (aU [bP 7 0 1,bP 8 1 7,dn 9 8,aA 10 (.cmp .ne (.t 9) (bI 6)),aD 11 10,bq 12 11 false (.load 5 true (.t 1)),bq 13 11 false (.call false 66 [(.t 12)]),bq 14 11 false (.no (.t 13)),aA 15 (.pick (.t 11) eu (.t 14))] [1,15] (.cond (.t 15) (aU [aA 2 (.mv (bI 0)),aA 3 (.mv dH)] [2,3] .ret) .skip)) (aU [bP 16 3 1,dn 17 16,aA 18 (.ia 1 (.t 17) (bI 0)),dn 19 18,aD 4 19] [1,4] (aU [aD 21 4,aD 22 4,aA 23 (.CS (.t 22)),aA 24 (.ar .sub (.t 23) (bI 4)),aA 25 (.call false 80 [(.t 21),(.t 24),(bI 4)]),aD 20 25,aA 26 (.ext (.t 20) 0),aA 27 (.ext (.t 20) 1),aD 5 26,aD 6 27] [1,5] (aU [aD 28 5,bP 29 4 1,dn 30 29,aA 31 (.mn (.t 28) (.t 30)),aD 2 31,aA 3 (.mv eu)] [2,3] .ret)))))⟩
def Sz : CF:=⟨5,[(.t 10)],[],[],(aU [aA 7 (.box 24 (.t 2)),aA 9 (.box 27 (.t 4)),aA 10 (.mv (bI 0))] [0,1,3,7,9] (aU [dz 19 5 9,aA 20 (.call false 55 [(.t 19)]),aD 18 20,aA 21 (.ext (.t 18) 0),aA 22 (.ext (.t 18) 1),aD 11 21,aD 12 22] [0,1,3,7,9,11,12] (aU [aD 23 1,aD 24 11,aA 25 (.call false 39 [(.t 23),(.t 24)]),aD 13 25] [0,1,3,7,9,12,13] (.seq (.block 0 (aU [aD 27 0,aA 28 (.wh false (.t 27)),aD 29 28,bq 30 29 false (.mv (.t 12)),bq 31 29 false (.no (.t 30)),aA 32 (.pick (.t 29) eu (.t 31)),aD 33 32,bq 34 33 false (.mv (.t 13)),bq 35 33 false (.cmp .eq (.t 34) (bI (-1))),aA 36 (.pick (.t 33) eu (.t 35)),aD 37 36,bq 38 37 false (.load 3 true (.t 7)),bq 39 37 false (.call false 56 [(.t 38)]),bq 40 37 false (.no (.t 39)),aA 41 (.pick (.t 37) eu (.t 40)),aD 26 41] [0,1,3,7,9,13,26] (.cond (.t 26) (aU [aA 10 (.mv (bI 1))] [10] .ret) (aU [aD 43 1,aD 44 13,aA 45 (.call false 57 [(.t 43),(.t 44)]),aA 46 (.no (.t 45)),aD 42 46] [0,3,7,9,13,42] (.cond (.t 42) (aU [aA 10 (.mv (bI 14))] [10] .ret) .skip))))) (.seq (aU [aD 47 3] [0,3,7,9,13,47] (.cond (.t 47) (.reg [dz 48 3 7,aA 49 (.call false 58 [(.t 48)]),cB (.store 3 (.t 7) (.t 49))] [0,3,7,9,13]) .skip)) (.seq (.rz [⟨aD 50 0,[]⟩,⟨aA 51 (.gL (.t 50)),[]⟩,⟨bP 52 1 51,[]⟩,⟨dn 53 52,[]⟩,⟨dz 54 3 7,[]⟩,⟨dz 55 3 7,[]⟩,⟨aD 56 3,[]⟩,⟨dz 57 5 9,[]⟩,⟨aD 58 13,[]⟩,⟨aA 59 (.build [bG,aG,aG,(.f (.bool false)),bG,aG,aG,.bT,aG,aG] [dV 0 3 55,dV 3 1 56,dV 4 5 57,dV 9 1 58]),[]⟩,⟨aA 60 (.call false 59 [(.t 59)]),[]⟩] [] [] [cB (.wm (.agg [.str,(.int .i64),(.int .i64)]) (.t 53) (.t 54) (.t 60))] [0,7]) (.seq (.rz [⟨aD 62 0,[]⟩,⟨aA 63 (.gL (.t 62)),[]⟩,⟨bP 64 2 63,[]⟩,⟨dn 65 64,[]⟩,⟨dz 66 3 7,[]⟩,⟨aA 67 (.call false 44 [(.t 65),(.t 66)]),[]⟩,⟨aD 68 0,[]⟩,⟨aA 69 (.gL (.t 68)),[]⟩,⟨bP 70 0 69,[]⟩,⟨dn 71 70,[]⟩,⟨aA 72 (.call false 43 [(.t 67),(.t 71)]),[]⟩,⟨aD 61 72,[]⟩,⟨aA 73 (.ext (.t 61) 0),[]⟩,⟨aA 74 (.ext (.t 61) 1),[]⟩,⟨aD 14 73,[]⟩] [] [] [aD 15 74] [0,14,15]) (.seq (aU [aD 75 15,aA 76 (.iE (.t 75)),aA 77 (.mv (bI 0))] [0,14,75,76,77] (.block 1 (.loop [0,14,75,76,77] [20201,20205,20208,1460200,1462200] [] (aU [aA 78 (.cmp .lt (.t 77) (.t 76))] [0,14,75,76,77,78] (.seq (.cond (.t 78) .skip (.exit 1)) (.seq (.block 2 (aU [aA 79 (.ia 3 (.t 75) (.t 77)),dz 80 3 79,aA 17 (.alloc 24 [bG,aG,aG]),cB (.store 3 (.t 17) (.t 80))] [0,14,17,75,76,77] (.rz [⟨aD 81 0,[]⟩,⟨aA 82 (.gL (.t 81)),[]⟩,⟨bP 83 1 82,[]⟩,⟨dn 84 83,[]⟩,⟨dz 85 3 17,[]⟩] [] [] [cB (.del (.agg [.str,(.int .i64),(.int .i64)]) (.t 84) (.t 85))] [0,14,75,76,77]))) (.reg [aA 86 (.ar .add (.t 77) (bI 1)),aD 77 86] [0,14,75,76,77]))))))) (aU [aD 87 0,aD 88 14,aA 89 (.gL (.t 87)),bP 90 2 89,cB (.store 1 (.t 90) (.t 88))] [0] (aU [aD 91 0,aA 92 (.gL (.t 91)),bP 93 3 92,dn 94 93,aA 95 (.ar .add (.t 94) (bI 1)),aA 96 (.gL (.t 91)),bP 97 3 96,cB (.store 1 (.t 97) (.t 95))] [] (aU [aA 10 (.mv (bI 0))] [10] .ret)))))))))))⟩
def c63 : CF:=⟨3,[(.cell 6 10 true),(.t 7)],[],[],(aU [aA 5 (.box 24 (.t 2)),aA 6 (.alloc 131 [bG,aG,aG,(.f (.bool false)),bG,aG,aG,.bT,aG,aG]),aA 7 (.mv dH)] [0,1,5,6] (.seq (aU [aD 12 0,aA 13 (.wh false (.t 12))] [0,1,5,6,13] (.cond (.t 13) (aU [aA 14 (.build [bG,aG,aG,(.f (.bool false)),bG,aG,aG,.bT,aG,aG] []),cB (.store 10 (.t 6) (.t 14)),aA 7 (.mv dH)] [6,7] .ret) .skip)) (.seq (.seq (.rz [⟨dz 15 3 5,[380000]⟩,⟨aA 16 (.call false 58 [(.t 15)]),[380000]⟩,⟨dz 17 3 5,[380000]⟩,⟨aA 18 (.yK 24 3 2 [bG,aG,aG,bG,aG,aG] [dV 0 3 16,dV 3 3 17]),[]⟩,⟨aA 19 (.iE (.t 18)),[]⟩,⟨aA 20 (.mv (bI 0)),[380000]⟩] [] [] [] [0,1,6,18,19,20]) (.block 0 (.loop [0,1,6,18,19,20] [20201,20205,20208,140000,380000,841600] [] (aU [aA 21 (.cmp .lt (.t 20) (.t 19))] [0,1,6,18,19,20,21] (.seq (.cond (.t 21) .skip (.exit 0)) (.seq (.block 1 (aU [aA 22 (.ia 3 (.t 18) (.t 20)),dz 23 3 22,aA 9 (.alloc 24 [bG,aG,aG]),cB (.store 3 (.t 9) (.t 23))] [0,1,6,9,18,19,20] (.seq (.rz [⟨aD 25 0,[220000]⟩,⟨aA 26 (.gL (.t 25)),[220000]⟩,⟨bP 27 1 26,[220000]⟩,⟨dn 28 27,[220000]⟩,⟨dz 29 3 9,[220000]⟩,⟨⟨(some 30),none,(.look (.agg [.str,(.int .i64),(.int .i64)]) (.agg [(.str ⟨#[]⟩),(.int .i64 0),(.int .i64 0),(.bool false),(.str ⟨#[]⟩),(.int .i64 0),(.int .i64 0),(.sl []),(.int .i64 0),(.int .i64 0)]) true (.t 28) (.t 29))⟩,[220000]⟩,⟨aD 24 30,[220000]⟩,⟨aA 31 (.ext (.t 24) 0),[220000]⟩,⟨aA 32 (.ext (.t 24) 1),[220000]⟩,⟨aA 10 (.alloc 131 [bG,aG,aG,(.f (.bool false)),bG,aG,aG,.bT,aG,aG]),[]⟩] [8] [cB (.store 10 (.t 10) (.t 31))] [aD 11 32] [0,1,6,10,11,18,19,20]) (aU [aD 33 11,aD 34 33,bq 35 34 true (.mv (.t 1)),bq 36 34 true (.fa 9 (.t 10)),bq 37 34 true (.load 1 false (.t 36)),bq 38 34 true (.call false 57 [(.t 35),(.t 37)]),aA 39 (.pick (.t 34) (.t 38) dH)] [0,1,6,10,18,19,20,39] (.cond (.t 39) (aU [dz 40 10 10,aA 41 (.call false 59 [(.t 40)]),cB (.store 10 (.t 6) (.t 41)),aA 7 (.mv eu)] [6,7] .ret) .skip))))) (.reg [aA 42 (.ar .add (.t 20) (bI 1)),aD 20 42] [0,1,6,18,19,20]))))))) (aU [aA 43 (.build [bG,aG,aG,(.f (.bool false)),bG,aG,aG,.bT,aG,aG] []),cB (.store 10 (.t 6) (.t 43)),aA 7 (.mv dH)] [6,7] .ret))))⟩
def c56 : CF:=⟨1,[(.t 2)],[],[],(aU [aA 1 (.box 24 (.t 0)),aA 2 (.mv dH)] [1] (.seq (.rz [⟨bP 3 1 1,[]⟩,⟨dn 4 3,[]⟩,⟨aA 5 (.cmp .gt (.t 4) (bI 0)),[]⟩,⟨aD 6 5,[]⟩,⟨bq 7 6 true (.fa 1 (.t 1)),[]⟩,⟨bq 8 6 true (.load 1 false (.t 7)),[]⟩,⟨bq 9 6 true (.cmp .le (.t 8) (bI 65535)),[]⟩,⟨aA 10 (.pick (.t 6) (.t 9) dH),[]⟩,⟨aD 11 10,[]⟩,⟨bq 12 11 true (.fa 2 (.t 1)),[]⟩,⟨bq 13 11 true (.load 1 false (.t 12)),[]⟩,⟨bq 14 11 true (.cmp .ge (.t 13) (bI 0)),[]⟩,⟨aA 15 (.pick (.t 11) (.t 14) dH),[]⟩,⟨aD 16 15,[]⟩,⟨bq 17 16 true (.fa 2 (.t 1)),[]⟩,⟨bq 18 16 true (.load 1 false (.t 17)),[]⟩,⟨bq 19 16 true (.cmp .le (.t 18) (bI 65535)),[]⟩,⟨aA 20 (.pick (.t 16) (.t 19) dH),[]⟩,⟨aD 21 20,[]⟩,⟨bq 22 21 true (.fa 0 (.t 1)),[]⟩,⟨bq 23 21 true (.load 1 false (.t 22)),[]⟩,⟨bq 24 21 true (.call false 70 [(.t 23)]),[]⟩,⟨aA 25 (.pick (.t 21) (.t 24) dH),[]⟩,⟨aD 26 25,[]⟩,⟨bq 27 26 true (.fa 0 (.t 1)),[]⟩,⟨bq 28 26 true (.load 1 false (.t 27)),[]⟩,⟨bq 29 26 true (.call false 48 [(.t 28)]),[]⟩,⟨bq 30 26 true (.fa 0 (.t 1)),[]⟩,⟨bq 31 26 true (.load 1 false (.t 30)),[]⟩] [] [] [bq 32 26 true (.rA (.one .str) false (.t 29) (.t 31)),aA 33 (.pick (.t 26) (.t 32) dH),aD 2 33] [2]) .ret))⟩
def c58 : CF:=⟨1,[(.cell 2 3 true)],[],[],(aU [aA 1 (.box 24 (.t 0)),aA 2 (.alloc 24 [bG,aG,aG])] [1,2] (aU [bP 3 1 1,cB (.store 1 (.t 3) (bI 0))] [1,2] (aU [dz 4 3 1,cB (.store 3 (.t 2) (.t 4))] [2] .ret)))⟩
def c59 : CF:=⟨1,[(.cell 2 10 true)],[],[],(aU [aA 1 (.box 131 (.t 0)),aA 2 (.alloc 131 [bG,aG,aG,(.f (.bool false)),bG,aG,aG,.bT,aG,aG])] [1,2] (aU [bP 3 4 1,bP 4 3 3,dn 5 4,aA 6 (.call false 68 [(.t 5)]),bP 7 4 1,bP 8 3 7,cB (.store 1 (.t 8) (.t 6))] [1,2] (aU [dz 9 10 1,cB (.store 10 (.t 2) (.t 9))] [2] .ret)))⟩
def c18 : CF:=⟨1,[(.t 2),(.t 3)],[],[0],(aU [aA 2 (.mv (.k (.one .iD))),aA 3 (.mv (.k (.one .iD)))] [0] (aU [aA 7 (.call false 31 [(bI 50)]),aD 4 7] [0,4] (aU [aA 8 (.call false 32 [(bI 50)]),aD 5 8] [0,4,5] (.seq (aU [aA 6 (.mv (bI 0))] [0,4,5,6] (.block 0 (.loop [0,4,5,6] [30201,160200,160204,160206,180200,180204,180206] [] (.seq (aU [aD 9 6,aD 10 0,aA 11 (.iE (.t 10)),aA 12 (.cmp .lt (.t 9) (.t 11))] [0,4,5,6,12] (.cond (.t 12) .skip (.exit 0))) (.seq (.block 1 (aU [aD 15 0,aD 16 6,aA 17 (.ia 10 (.t 15) (.t 16)),bP 18 6 17,dn 19 18,aA 20 (.cmp .gt (.t 19) (bI 0))] [0,4,5,6,20] (.cond (.t 20) (.rz [⟨aD 21 4,[]⟩,⟨aD 22 0,[]⟩,⟨aD 23 6,[]⟩,⟨aA 24 (.ia 10 (.t 22) (.t 23)),[]⟩,⟨bP 25 0 24,[]⟩,⟨dn 26 25,[]⟩,⟨aD 27 0,[]⟩,⟨aD 28 6,[]⟩,⟨aA 29 (.ia 10 (.t 27) (.t 28)),[]⟩,⟨bP 30 1 29,[]⟩,⟨dz 31 5 30,[]⟩,⟨aD 32 0,[]⟩,⟨aD 33 6,[]⟩,⟨aA 34 (.ia 10 (.t 32) (.t 33)),[]⟩,⟨bP 35 6 34,[]⟩,⟨dn 36 35,[]⟩] [] [] [aA 37 (.call false 21 [(.t 21),(.t 26),(.t 31),(.t 36)])] [0,4,5,6]) (.rz [⟨aD 38 5,[]⟩,⟨aD 39 0,[]⟩,⟨aD 40 6,[]⟩,⟨aA 41 (.ia 10 (.t 39) (.t 40)),[]⟩,⟨bP 42 0 41,[]⟩,⟨dn 43 42,[]⟩,⟨aD 44 0,[]⟩,⟨aD 45 6,[]⟩,⟨aA 46 (.ia 10 (.t 44) (.t 45)),[]⟩,⟨bP 47 7 46,[]⟩,⟨dz 48 3 47,[]⟩,⟨aD 49 0,[]⟩,⟨aD 50 6,[]⟩,⟨aA 51 (.ia 10 (.t 49) (.t 50)),[]⟩,⟨bP 52 6 51,[]⟩,⟨dn 53 52,[]⟩,⟨aA 54 (.cmp .lt (.t 53) (bI 0)),[]⟩,⟨aD 55 0,[]⟩,⟨aD 56 6,[]⟩,⟨aA 57 (.ia 10 (.t 55) (.t 56)),[]⟩,⟨bP 58 1 57,[]⟩,⟨dz 59 5 58,[]⟩] [] [] [aA 60 (.call false 33 [(.t 38),(.t 43),(.t 48),(.t 54),(.t 59)])] [0,4,5,6])))) (.reg [aD 13 6,aA 14 (.ar .add (.t 13) (bI 1)),aD 6 14] [0,4,5,6])))))) (aU [aD 61 4,aD 62 5,aD 2 61,aD 3 62] [2,3] .ret)))))⟩
def c10 : CF:=⟨1,[(.t 2),(.t 3)],[],[],(aU [aA 1 (.box 27 (.t 0)),aA 2 (.mv (.k (.one bG))),aA 3 (.mv dH)] [1] (.seq (aU [bP 5 0 1,bP 6 1 5,dn 7 6,aA 8 (.cmp .ne (.t 7) (bI 5)),aD 9 8,bq 10 9 false (.fa 3 (.t 1)),bq 11 9 false (.load 1 false (.t 10)),bq 12 9 false (.iE (.t 11)),bq 13 9 false (.cmp .eq (.t 12) (bI 0)),aA 14 (.pick (.t 9) eu (.t 13))] [1,14] (.cond (.t 14) (aU [aA 2 (.mv (.k (.one bG))),aA 3 (.mv dH)] [2,3] .ret) .skip)) (aU [bP 15 3 1,dn 16 15,aA 17 (.ia 1 (.t 16) (bI 0)),dn 18 17,aA 19 (.call false 29 [(bI 5),(.t 18)]),aD 4 19] [4] (.seq (aU [aD 20 4,aA 21 (.iE (.t 20)),aA 22 (.cmp .eq (.t 21) (bI 0))] [4,22] (.cond (.t 22) (aU [aA 2 (.mv (.k (.one bG))),aA 3 (.mv dH)] [2,3] .ret) .skip)) (aU [aD 23 4,aA 24 (.ia 1 (.t 23) (bI 0)),dn 25 24,aD 2 25,aA 3 (.mv eu)] [2,3] .ret)))))⟩
def c34 : CF:=⟨2,[(.cell 4 6 true),(.t 5)],[],[],(aU [aA 2 (.box 84 (.t 0)),aA 3 (.box 24 (.t 1)),aA 4 (.alloc 34 [bG,aG,aG,.bT,aG,aG]),aA 5 (.mv dH)] [2,3,4] (aU [bP 9 0 2,dn 10 9,bP 11 2 2,dn 12 11,dz 13 3 3,aA 14 (.call false 60 [(.t 10),(.t 12),(.t 13)]),aD 8 14,aA 15 (.ext (.t 8) 0),aA 16 (.ext (.t 8) 1),aA 6 (.alloc 95 [bG,aG,aG,.bT,aG,aG,aG]),cB (.store 7 (.t 6) (.t 15)),aD 7 16] [2,4,6,7] (.seq (aU [aD 17 7,aA 18 (.no (.t 17)),aD 19 18,bq 20 19 false (.fa 6 (.t 6)),bq 21 19 false (.load 1 false (.t 20)),bq 22 19 false (.call false 61 [(.t 21)]),bq 23 19 false (.no (.t 22)),aA 24 (.pick (.t 19) eu (.t 23))] [2,4,6,24] (.cond (.t 24) (aU [aA 25 (.build [bG,aG,aG,.bT,aG,aG] []),cB (.store 6 (.t 4) (.t 25)),aA 5 (.mv dH)] [4,5] .ret) .skip)) (.seq (.rz [⟨bP 26 0 6,[]⟩,⟨dz 27 5 26,[]⟩,⟨bP 28 2 2,[]⟩,⟨dn 29 28,[]⟩,⟨bP 30 5 6,[]⟩,⟨dn 31 30,[]⟩,⟨aA 32 (.call false 62 [(.t 29),(.t 31)]),[]⟩] [] [] [aA 33 (.build [bG,aG,aG,.bT,aG,aG] [dV 0 5 27,dV 5 1 32]),cB (.store 6 (.t 4) (.t 33)),aA 5 (.mv eu)] [4,5]) .ret))))⟩
def ZF : CF:=⟨2,[(.cell 4 6 true),(.t 5),(.t 6)],[],[],(aU [aA 2 (.box 84 (.t 0)),aA 3 (.box 24 (.t 1)),aA 4 (.alloc 34 [bG,aG,aG,.bT,aG,aG]),aA 5 (.mv (.k (.one bG))),aA 6 (.mv dH)] [2,3,4] (.seq (aU [bP 11 1 3,dn 12 11,aA 13 (.cmp .eq (.t 12) (bI 5))] [2,3,4,13] (.cond (.t 13) (aU [aA 14 (.build [bG,aG,aG,.bT,aG,aG] []),cB (.store 6 (.t 4) (.t 14)),aA 5 (.mv (.k (.one bG))),aA 6 (.mv dH)] [4,5,6] .ret) .skip)) (aU [bP 15 1 3,cB (.store 1 (.t 15) (bI 5))] [2,3,4] (aU [dz 17 3 2,dz 18 3 3,aA 19 (.call false 34 [(.t 17),(.t 18)]),aD 16 19,aA 20 (.ext (.t 16) 0),aA 21 (.ext (.t 16) 1),aA 7 (.alloc 34 [bG,aG,aG,.bT,aG,aG]),cB (.store 6 (.t 7) (.t 20)),aD 8 21] [4,7] (aU [bP 23 0 7,dz 24 5 23,aA 25 (.call false 10 [(.t 24)]),aD 22 25,aA 26 (.ext (.t 22) 0),aA 27 (.ext (.t 22) 1),aD 9 26,aD 10 27] [4,7,9,10] (aU [dz 28 6 7,aD 29 9,aD 30 10,cB (.store 6 (.t 4) (.t 28)),aD 5 29,aD 6 30] [4,5,6] .ret))))))⟩
def ZG : CF:=⟨3,[(.cell 6 9 true)],[],[],(aU [aA 3 (.box 84 (.t 0)),aA 4 (.box 37 (.t 1)),aA 5 (.box 24 (.t 2)),aA 6 (.alloc 37 [.bT,aG,bG,bG,aG,aG,.bT,aG,aG])] [3,4,5,6] (aU [bP 10 1 3,dn 11 10,bP 12 2 3,dn 13 12,dz 14 3 5,aA 15 (.call false 63 [(.t 11),(.t 13),(.t 14)]),aD 9 15,aA 16 (.ext (.t 9) 0),aA 17 (.ext (.t 9) 1),aA 7 (.alloc 131 [bG,aG,aG,(.f (.bool false)),bG,aG,aG,.bT,aG,aG]),cB (.store 10 (.t 7) (.t 16)),aD 8 17] [3,4,6,7,8] (.seq (.block 0 (aU [aD 20 8,aA 21 (.no (.t 20)),aD 19 21] [3,4,6,7,19] (.cond (.t 19) (aU [bP 22 1 4,cB (.store 1 (.t 22) (bI 3))] [4,6] (aU [dz 23 9 4,cB (.store 9 (.t 6) (.t 23))] [6] .ret)) (aU [bP 25 3 7,dn 26 25,aD 24 26] [3,4,6,7,24] (.cond (.t 24) (.reg [bP 27 1 4,cB (.store 1 (.t 27) (bI 2))] [3,4,6,7]) (.reg [bP 18 1 4,cB (.store 1 (.t 18) (bI 1))] [3,4,6,7])))))) (.seq (.rz [⟨bP 28 4 7,[]⟩,⟨dz 29 5 28,[]⟩,⟨bP 30 2 3,[]⟩,⟨dn 31 30,[]⟩,⟨bP 32 9 7,[]⟩,⟨dn 33 32,[]⟩,⟨aA 34 (.call false 62 [(.t 31),(.t 33)]),[]⟩] [] [] [aA 35 (.build [bG,aG,aG,.bT,aG,aG] [dV 0 5 29,dV 5 1 34]),bP 36 3 4,cB (.store 6 (.t 36) (.t 35))] [4,6]) (aU [dz 37 9 4,cB (.store 9 (.t 6) (.t 37))] [6] .ret)))))⟩
def c19 : CF:=⟨4,[(.cell 8 9 true)],[],[],(aU [aA 7 (.box 24 (.t 3)),aA 8 (.alloc 37 [.bT,aG,bG,bG,aG,aG,.bT,aG,aG])] [0,1,2,7,8] (aU [aD 17 0,aD 18 1,aD 19 2,aA 20 (.build [.iD,.iD,aG] [dV 0 1 17,dV 1 1 18,dV 2 1 19]),aA 9 (.alloc 84 [.iD,.iD,aG]),cB (.store 3 (.t 9) (.t 20))] [7,8,9] (aU [aA 10 (.alloc 37 [.bT,aG,bG,bG,aG,aG,.bT,aG,aG])] [7,8,9,10] (aU [aA 21 (.oM (.one .str)),aD 11 21] [7,8,9,10,11] (.block 0 (.loop [7,8,9,10,11] [20201,20205,20208,40201,40205,40208,160000,180000,200000,220000,440000,690002,690004,690006,690008,690010,690012,690014,690016,690202,690204,690206,690208,690210,690212,690214,690216,690402,690404,690406,690408,690410,690412,690414,690416,690602,690604,690606,690608,690610,690612,690614,690616,690802,690804,690806,690808,690810,690812,690814,690816,691002,691004,691006,691008,691010,691012,691014,691016,840000,960800,970002,970004,970006,970008,970010,970012,970014,970016,970202,970204,970206,970208,970210,970212,970214,970216,970402,970404,970406,970408,970410,970412,970414,970416,970602,970604,970606,970608,970610,970612,970614,970616,970802,970804,970806,970808,970810,970812,970814,970816,971002,971004,971006,971008,971010,971012,971014,971016,1140200,1141400,1150002,1150004,1150006,1150008,1150010,1150012,1150014,1150016,1150202,1150204,1150206,1150208,1150210,1150212,1150214,1150216,1150402,1150404,1150406,1150408,1150410,1150412,1150414,1150416,1150602,1150604,1150606,1150608,1150610,1150612,1150614,1150616,1150802,1150804,1150806,1150808,1150810,1150812,1150814,1150816,1151002,1151004,1151006,1151008,1151010,1151012,1151014,1151016,1240000] [] (.block 1 (aU [bP 22 0 7,dn 23 22,bP 24 2 10,cB (.store 1 (.t 24) (.t 23))] [7,8,9,10,11] (aU [aD 25 11,bP 26 0 7,dn 27 26,aA 28 (.look (.one .str) (.one (.int .i64 0)) false (.t 25) (.t 27)),aA 29 (.ar .add (.t 28) (bI 1)),cB (.wm (.one .str) (.t 25) (.t 27) (.t 29))] [7,8,9,10,11] (.seq (aU [dz 31 3 9,dz 32 3 7,aA 33 (.call false 34 [(.t 31),(.t 32)]),aD 30 33,aA 34 (.ext (.t 30) 0),aA 35 (.ext (.t 30) 1),aA 12 (.alloc 34 [bG,aG,aG,.bT,aG,aG]),cB (.store 6 (.t 12) (.t 34)),aD 13 35] [7,8,9,10,11,12,13] (aU [aD 36 13] [7,8,9,10,11,12,36] (.cond (.t 36) (aU [bP 37 0 10,dn 38 37,dz 39 6 12,aA 40 (.yK 34 6 1 [bG,aG,aG,.bT,aG,aG] [dV 0 6 39]),aA 41 (.app 34 6 72 (.t 38) (.t 40)),bP 42 0 10,cB (.store 1 (.t 42) (.t 41))] [8,10] (aU [dz 43 9 10,cB (.store 9 (.t 8) (.t 43))] [8] .ret)) .skip))) (aU [dz 45 3 9,dz 46 3 7,aA 47 (.call false 35 [(.t 45),(.t 46)]),aD 44 47,aA 48 (.ext (.t 44) 0),aA 49 (.ext (.t 44) 1),aA 50 (.ext (.t 44) 2),aA 14 (.alloc 34 [bG,aG,aG,.bT,aG,aG]),cB (.store 6 (.t 14) (.t 48)),aD 15 49,aD 16 50] [7,8,9,10,11,14,15,16] (.seq (aU [aD 51 16,aA 52 (.no (.t 51))] [7,8,9,10,11,14,15,52] (.cond (.t 52) (aU [dz 53 3 9,dz 54 9 10,dz 55 3 7,aA 56 (.call false 36 [(.t 53),(.t 54),(.t 55)]),cB (.store 9 (.t 8) (.t 56))] [8] .ret) .skip)) (aU [bP 57 0 10,dn 58 57,dz 59 6 14,aA 60 (.yK 34 6 1 [bG,aG,aG,.bT,aG,aG] [dV 0 6 59]),aA 61 (.app 34 6 72 (.t 58) (.t 60)),bP 62 0 10,cB (.store 1 (.t 62) (.t 61))] [7,8,9,10,11,15] (.seq (aU [bP 63 0 10,dn 64 63,aA 65 (.iE (.t 64)),aA 66 (.cmp .gt (.t 65) (bI 8)),aD 67 66,bq 68 67 false (.mv (.t 11)),bq 69 67 false (.mv (.t 15)),bq 70 67 false (.look (.one .str) (.one (.int .i64 0)) false (.t 68) (.t 69)),bq 71 67 false (.cmp .gt (.t 70) (bI 0)),aA 72 (.pick (.t 67) eu (.t 71))] [7,8,9,10,11,15,72] (.cond (.t 72) (aU [bP 73 1 10,cB (.store 1 (.t 73) (bI 4))] [8,10] (aU [dz 74 9 10,cB (.store 9 (.t 8) (.t 74))] [8] .ret)) .skip)) (.reg [aD 75 15,bP 76 0 7,cB (.store 1 (.t 76) (.t 75))] [7,8,9,10,11])))))))))))))))⟩
def ZH : CF:=⟨2,[(.t 4)],[],[],(aU [aA 4 (.mv (bI 0))] [0,1] (.seq (aU [aD 5 0,aD 6 1,aA 7 (.call false 57 [(.t 5),(.t 6)]),aA 8 (.no (.t 7))] [0,1,8] (.cond (.t 8) (aU [aA 4 (.mv (bI 0))] [4] .ret) .skip)) (aU [aD 9 1,aD 10 0,aA 11 (.ar .sub (.t 9) (.t 10)),aA 12 (.mn (.t 11) (bI 604800)),aD 4 12] [4] .ret)))⟩
def c61 : CF:=⟨1,[(.t 2)],[],[],(aU [aA 2 (.mv dH)] [0] (aU [aD 3 0,aA 4 (.call false 81 [(.t 3),(bI 3)]),aD 2 4] [2] .ret))⟩
def oL : List (FuncId × CF):=[(31,c31),(60,ZE),(39,Og),(41,Vj),(42,c42),(43,c43),(44,c44),(57,c57),(69,c69),(66,c66),(65,c65),(67,c67),(85,c85),(86,c86),(82,c82),(84,c84),(81,c81),(98,c98),(97,c97),(32,c32),(55,XI),(33,Sz),(63,c63),(56,c56),(58,c58),(59,c59),(18,c18),(10,c10),(34,c34),(35,ZF),(36,ZG),(19,c19),(62,ZH),(61,c61)]
end
section
attribute [local go_sem_proc] Nat.reduceAdd Nat.reduceMul Nat.reduceEqDiff Nat.reduceBEq Nat.reduceMod Nat.reduceDiv reduceCtorEq
attribute [local go_sem_proc ↓] reduceIte
open Go Ev
variable {ext : Env} {F n:Nat}
noncomputable abbrev G (ext:Env) (F n:Nat):Env:=Gm oL ext F n
theorem nY {x:Int} (h1:-9223372036854775808 ≤ x) (h2:x ≤ 9223372036854775807):IntKind.i64.wrap x = x:=by
 rw [IntKind.wrap_i64];omega
abbrev vi (x:Int):AV:=.one (.f (.int .i64 x))
abbrev vb (b:Bool):AV:=.one (.f (.bool b))
abbrev vs (s:ByteArray):AV:=.one (.f (.str s))
abbrev vl (l:List (List FV)):AV:=.one (.f (.sl l))
def bB (s:ByteArray):List FV:=[.str s]
abbrev vq (q:ByteArray) (t c:Int):AV:=.agg [.f (.str q),.f (.int .i64 t),.f (.int .i64 c)]
abbrev vJ (q:ByteArray) (t c:Int) (d:List ByteArray) (ttl:Int):AV:=.agg [.f (.str q),.f (.int .i64 t),.f (.int .i64 c),.f (.sl (d.map bB)),.f (.int .i64 ttl)]
theorem SA (x m:Int):G ext F (n + 1) 82 [vi x,vi m] = some ([vb (decide (0 ≤ x ∧ x ≤ m))],[vi x,vi m]):=by
 refine dM (cf:=c82) rfl ?_
 dsimp only [c82,aA,cB,bq,bI,aG,bG,dV,eu,dH,aD,dn,dz,bP,aU];simp only [go_sem]
 repeat' (refine eZ (fun h=>?_) (fun h=>?_) <;> simp only [h,go_sem])
 all_goals (simp only [ahZ,aiz] at *;simp;try omega)
theorem pW (x m:Int):G ext F (n + 1) 65 [vi x,vi m] = some ([vb (decide (0 ≤ x ∧ x ≤ m))],[vi x,vi m]):=by
 refine dM (cf:=c65) rfl ?_
 dsimp only [c65,aA,cB,bq,bI,aG,bG,dV,eu,dH,aD,dn,dz,bP,aU];simp only [go_sem]
 repeat' (refine eZ (fun h=>?_) (fun h=>?_) <;> simp only [h,go_sem])
 all_goals (simp only [ahZ,aiz] at *;simp;try omega)
theorem Fx (x m:Int):G ext F (n + 1) 81 [vi x,vi m] = some ([vb (decide (m ≤ x ∧ x ≤ 5))],[vi x,vi m]):=by
 refine dM (cf:=c81) rfl ?_
 dsimp only [c81,aA,cB,bq,bI,aG,bG,dV,eu,dH,aD,dn,dz,bP,aU];simp only [go_sem]
 repeat' (refine eZ (fun h=>?_) (fun h=>?_) <;> simp only [h,go_sem])
 all_goals (simp only [ahZ,aiz] at *;simp;try omega)
def Po (x:Int):Bool:=decide (0 ≤ x ∧ x ≤ 1099511627776)
def fF (now ttl:Int):Int:=if Po now = true ∧ 0 ≤ ttl then now + (if ttl ≤ 604800 then ttl else 604800) else -1
def l5 (now u:Int):Bool:=Po now && decide (now < u)
def LB (old:Int) (l:Bool) (now:Int):Bool:=decide (1 ≤ now ∧ now ≤ 5) && (!l || decide (old ≤ now))
theorem jm (x u:Int):G ext F (n + 2) 57 [vi x,vi u] = some ([vb (l5 x u)],[vi x,vi u]):=by
 refine dM (cf:=c57) rfl ?_
 dsimp only [c57,aA,cB,bq,bI,aG,bG,dV,eu,dH,aD,dn,dz,bP,aU];simp only [pW,go_sem]
 repeat' (refine eZ (fun h=>?_) (fun h=>?_) <;> simp only [h,pW,go_sem])
 all_goals (simp only [ahZ,aiz] at *;simp [Po,l5];try omega)
theorem Pp {x t:Int} (h:0 ≤ x ∧ x ≤ 1099511627776) (ht:0 ≤ t):IntKind.i64.wrap (x + if 604800 < t then 604800 else t) = x + if t ≤ 604800 then t else 604800:=by
 have e:(if 604800 < t then (604800:Int) else t) = if t ≤ 604800 then t else 604800:=by split <;> split <;> omega
 rw [e]
 refine nY ?_ ?_ <;> split <;> omega
theorem Je {x t:Int} (h:0 ≤ x ∧ x ≤ 1099511627776) (ht:¬ t < 0):fF x t = IntKind.i64.wrap (x + if 604800 < t then 604800 else t):=by
 rw [Pp h (by omega)]
 simp only [fF,Po,ahZ]
 rw [ahC (show (0 ≤ x ∧ x ≤ 1099511627776) ∧ 0 ≤ t from ⟨h,by omega⟩)]
theorem LC {x t:Int} (h:¬ ((0 ≤ x ∧ x ≤ 1099511627776) ∧ 0 ≤ t)):fF x t = -1:=by
 simp only [fF,Po,ahZ]
 rw [ahD h]
theorem xk (x t:Int):G ext F (n + 2) 39 [vi x,vi t] = some ([vi (fF x t)],[vi x,vi t]):=by
 refine dM (cf:=Og) rfl ?_
 dsimp only [Og,aA,cB,bq,bI,aG,bG,dV,eu,dH,aD,dn,dz,bP,aU];simp only [pW,go_sem]
 repeat' (refine eZ (fun h=>?_) (fun h=>?_) <;> simp only [h,pW,go_sem])
 all_goals (simp only [Po,ahZ,aiz] at *;first | rw [Je (by assumption) (by omega)] | rw [LC (by omega)])
theorem G8 (o x:Int) (l:Bool):G ext F (n + 2) 67 [vi o,vb l,vi x] = some ([vb (LB o l x)],[vi o,vb l,vi x]):=by
 refine dM (cf:=c67) rfl ?_
 dsimp only [c67,aA,cB,bq,bI,aG,bG,dV,eu,dH,aD,dn,dz,bP,aU];simp only [Fx,go_sem]
 repeat' (refine eZ (fun h=>?_) (fun h=>?_) <;> simp only [h,Fx,go_sem])
 all_goals (simp only [ahZ,aiz] at *;simp_all [LB];try omega)
end
section
attribute [local go_sem_proc] Nat.reduceAdd Nat.reduceMul Nat.reduceEqDiff Nat.reduceBEq Nat.reduceMod Nat.reduceDiv reduceCtorEq
attribute [local go_sem_proc ↓] reduceIte
open Go Go.RowKit Go.Proofs Ev
theorem eqs : ∀ t ∈ [3,9,24],kS Try.prog t:=by
 intro t ht
 simp only [ahT,ajl,or_false] at ht
 rcases ht with rfl | rfl | rfl <;> exact Vk (by kernel_rfl)
theorem mixed : Try.prog.follows .mixedOrders = true:=by kernel_rfl
theorem Hf : gQ Try.prog fun _ _=>none:=fun f dW rs oU h=>by cases h
theorem zW : dG Try.prog fun _ _=>none:=fun f dW r h=>by cases h
def Vl : CF:=⟨1,[(.t 2)],[],[],(.seq (.reg [⟨(some 2),none,(.mv (.k (.one .bT)))⟩] [0]) (.seq (.seq (.reg [⟨(some 3),none,(.mv (.t 0))⟩,⟨(some 4),none,(.yS false (.t 3))⟩] [0,4]) (.cond (.t 4) (.seq (.reg [⟨(some 2),none,(.mv (.k (.one .bT)))⟩] [2]) .ret) .skip)) (.seq (.reg [⟨(some 5),none,(.yK 9 1 0 [] [])⟩,⟨(some 6),none,(.mv (.t 0))⟩,⟨(some 7),none,(.app 9 1 16 (.t 5) (.t 6))⟩,⟨(some 2),none,(.mv (.t 7))⟩] [2]) .ret)))⟩
def Vm : CF:=⟨1,[(.t 2)],[some 3],[],(.seq (.reg [⟨(some 2),none,(.mv (.k (.one .bT)))⟩] [0]) (.seq (.seq (.reg [⟨(some 3),none,(.mv (.t 0))⟩,⟨(some 4),none,(.yS false (.t 3))⟩] [0,4]) (.cond (.t 4) (.seq (.reg [⟨(some 2),none,(.mv (.k (.one .bT)))⟩] [2]) .ret) .skip)) (.seq (.reg [⟨(some 5),none,(.yK 24 3 0 [] [])⟩,⟨(some 6),none,(.mv (.t 0))⟩,⟨(some 7),none,(.app 24 3 32 (.t 5) (.t 6))⟩,⟨(some 2),none,(.mv (.t 7))⟩] [2]) .ret)))⟩
theorem Pz {f:FuncId} {cf:CF} {Γ:Env} (h:jX Try.prog f cf) (h1:gQ Try.prog Γ) (h2:dG Try.prog Γ) (F:Nat):Sat Try.prog f (IX Γ F cf):=by
 obtain ⟨fn,c,X,hints,rest,e1,_,e2,e3,e4,e5,e6⟩:=h.ok
 exact zR mixed e3 h1 h2 e1 e2 e4 e5 e6 F
theorem PD : jX Try.prog 68 Vl:=⟨Try.f68,_,⟨[3,9,24],[],[],[85,90]⟩,[⟨[0],[],[]⟩,⟨[0,4],[],[]⟩,⟨[2],[],[]⟩,⟨[2],[],[]⟩],[],by kernel_rfl,by kernel_rfl,rfl,eqs,by kernel_rfl,by kernel_rfl,by decide⟩
theorem PE : jX Try.prog 45 Vm:=⟨Try.f45,_,⟨[3,9,24],[],[],[85,90]⟩,[⟨[0],[],[]⟩,⟨[0,4],[],[]⟩,⟨[2],[],[]⟩,⟨[2],[],[]⟩],[],by kernel_rfl,by kernel_rfl,rfl,eqs,by kernel_rfl,by kernel_rfl,by decide⟩
theorem PG (r:List FV) (l:List (List FV)) (h:l.length < 1000000) (hl:(r :: l).all (fun r=>r.length == 1) = true):IX (fun _ _=>none) 10 Vl [vl (r :: l)] = some ([vl (r :: l)],[vl (r :: l)]):=by
 refine Jc ?_
 rw [List.all_cons,ahK] at hl
 simp only [Vl,hl.1,hl.2,List.all_cons,go_sem]
 omega
theorem PI (r:List FV) (l:List (List FV)) (h:l.length < 1000000) (hl:(r :: l).all (fun r=>r.length == 3) = true):IX (fun _ _=>none) 10 Vm [vl (r :: l)] = some ([.one (.own 3 (r :: l))],[vl (r :: l)]):=by
 refine Jc ?_
 rw [List.all_cons,ahK] at hl
 simp only [Vm,hl.1,hl.2,List.all_cons,go_sem]
 omega
theorem pX {t e:TypeId} (hu:Try.prog.underlying t = some (.slice e)) (p:Option Addr) (c:Nat) (w:World):(binOp .eql t (.slice p 0 c) (.slice none 0 0)).run Try.prog w = .ok (.bool p.isNone) w:=by
 have:=run_equal_slice_nil w t e p 0 c hu
 simp only [binOp,Sem.run_bind,this,Result.andThen_ok,Sem.run_pure]
theorem xq {t ty e:TypeId} {i:TypeInfo} (hu:Try.prog.underlying t = some (.slice e)) (hi:Try.prog.info? e = some i) (a b:Addr) (c:Nat) (w:World):(Builtin.append_ #[t,t] ty #[.slice (some b) 0 0,.slice (some a) 0 c]).run Try.prog w = .ok (.slice (some b) 0 0) w:=by
 have h1:∀ w,(Builtin.lenOf (.slice (some a) 0 c)).run Try.prog w = .ok 0 w:=fun _=>rfl
 have h2:=fun w=>run_firstCells_some (P:=Try.prog) w i.size 0 a 0 c [] (by simp) (by simp)
 simp [Builtin.append_,run_underlying hu,sizeOf,typeInfo,hi,storeCells,h1,h2]
theorem LD (c:Nat) (w:World):Calls Try.prog 68 #[.slice none 0 c] w fun e w'=>e = .returned (.slice none 0 0) ∧ w' = w:=by
 have heq:=pX (t:=25) (e:=9) (by kernel_rfl) none c
 go_enter Try.func68,Try.ntmps68
 go_wp2
 go_ret
 exact ⟨rfl,rfl⟩
theorem LG (a:Addr) (c:Nat) (w:World):Calls Try.prog 68 #[.slice (some a) 0 c] w fun e w'=>e = .returned (.slice (some ⟨w.heap.size,0,none⟩) 0 0) ∧ w' = w.alloc (.cells #[] 9):=by
 have heq:=pX (t:=25) (e:=9) (by kernel_rfl) (some a) c
 obtain ⟨i,hi⟩:=ai1.mp (show (Try.prog.info? 9).isSome = true by kernel_rfl)
 have hap:=fun b w=>xq (t:=25) (ty:=25) (e:=9) (by kernel_rfl) hi a b c w
 go_enter Try.func68,Try.ntmps68
 go_wp2
 go_ret
 exact ⟨rfl,rfl⟩
theorem LH (c:Nat) (w:World):Calls Try.prog 45 #[.slice none 0 c] w fun e w'=>e = .returned (.slice none 0 0) ∧ w' = w:=by
 have heq:=pX (t:=41) (e:=24) (by kernel_rfl) none c
 go_enter Try.func45,Try.ntmps45
 go_wp2
 go_ret
 exact ⟨rfl,rfl⟩
theorem LJ (a:Addr) (c:Nat) (w:World):Calls Try.prog 45 #[.slice (some a) 0 c] w fun e w'=>e = .returned (.slice (some ⟨w.heap.size,0,none⟩) 0 0) ∧ w' = w.alloc (.cells #[] 24):=by
 have heq:=pX (t:=41) (e:=24) (by kernel_rfl) (some a) c
 obtain ⟨i,hi⟩:=ai1.mp (show (Try.prog.info? 24).isSome = true by kernel_rfl)
 have hap:=fun b w=>xq (t:=41) (ty:=41) (e:=24) (by kernel_rfl) hi a b c w
 go_enter Try.func45,Try.ntmps45
 go_wp2
 go_ret
 exact ⟨rfl,rfl⟩
def LK (sz:Nat) (own:Bool) (dW:List AV):Option (List AV × List AV):=match dW with
 | [.one (.f (.sl rows))]=>if rows.length ≤ 1000000 ∧ rows.all (fun r=>r.length == sz) = true then some ([.one (if own then .own sz rows else .f (.sl rows))],dW) else none
 | _=>none
theorem FB (w:World) (o:Obj):w.heap.size ≤ (w.alloc o).heap.size ∧ (∀ b,b < w.heap.size → (w.alloc o).heap[b]? = w.heap[b]?) ∧ (w.alloc o).heap[w.heap.size]? = some o ∧ (w.alloc o).heap.size = w.heap.size + 1:=by
 obtain ⟨h1,h2,h3⟩:=lN w o
 exact ⟨by omega,h2,h1,h3⟩
theorem BK {f:FuncId} {cf:CF} {sz e:Nat} {own:Bool} (h0:0 < sz) (he:jX Try.prog f cf) (hrun:∀ (r:List FV) (l:List (List FV)),l.length < 1000000 → (r :: l).all (fun r=>r.length == sz) = true → IX (fun _ _=>none) 10 cf [vl (r :: l)] = some ([.one (if own then .own sz (r :: l) else .f (.sl (r :: l)))],[vl (r :: l)]))
  (hn:∀ (c:Nat) (w:World),Calls Try.prog f #[.slice none 0 c] w fun e w'=>e = .returned (.slice none 0 0) ∧ w' = w)
  (hs:∀ (a:Addr) (c:Nat) (w:World),Calls Try.prog f #[.slice (some a) 0 c] w fun e' w'=>e' = .returned (.slice (some ⟨w.heap.size,0,none⟩) 0 0) ∧ w' = w.alloc (.cells #[] e)):Sat Try.prog f (LK sz own):=by
 intro dW rs oU hg
 unfold LK at hg
 split at hg
 ·rename_i rows
  split at hg
  ·rename_i hc
   cases hg
   cases rows with
   | cons r l =>
    exact Pz he Hf zW 10 _ _ _ (hrun r l (by have:=hc.1;simp at this;omega) hc.2)
   | nil =>
    intro Fz w vals bs ha hnd hap hfz
    match vals,ha with
    | [v],⟨b1,b2,h1,h2,e0⟩ =>
    obtain ⟨hv,rfl⟩:=h1
    obtain rfl:b2 = []:=h2
    subst e0
    simp only [eO] at hv
    obtain ⟨A,c,rfl,hle,hbig,_⟩:=hv
    have hrep:∀ (w':World) (v:Value),(∃ A,v = .slice A 0 0) → eO Fz w' (.sl []) v:=fun w' v ⟨A,hA⟩=>by
     simp only [eO];exact ⟨A,0,by rw [hA];rfl,ahG _,by simp,.inl trivial⟩
    have hbk:∀ (w':World),fu Fz w' [vl []] [.slice A ([]:List (List FV)).length c] []:=fun w' =>
     ⟨[],[],⟨by simp only [eO];exact ⟨A,c,rfl,hle,hbig,.inl trivial⟩,rfl⟩,rfl,rfl⟩
    cases A with
    | none =>
     refine (hn c w).mono fun e' w' ⟨e1,e2⟩=>?_
     subst e2
     refine ⟨Fz,[.slice none 0 0],[],[],e1,fun _ h=>h,fun b hb=>⟨hfz b hb,.inl hb⟩,ahG _,fun _ _ _=>rfl,⟨rfl,rfl⟩,hbk w',?_,by simp,fun b hb=>by simp at hb⟩
     cases own with
     | true=>exact ⟨[],[],⟨h0,0,[],none,0,rfl,World.ownsRow_nil w' _ _ _,rfl,rfl⟩,rfl,rfl⟩
     | false=>exact ⟨[],[],⟨hrep w' _ ⟨none,rfl⟩,rfl⟩,rfl,rfl⟩
    | some a =>
     refine (hs a c w).mono fun e' w' ⟨e1,e2⟩=>?_
     subst e2
     obtain ⟨k1,k2,k3,k4⟩:=FB w (.cells #[] e)
     cases own with
     | true =>
      refine ⟨Fz,[.slice (some ⟨w.heap.size,0,none⟩) 0 0],[],[w.heap.size],e1,fun _ h=>h,fun b hb=>⟨aic (hfz b hb) k1,.inl hb⟩,k1,fun b hb _=>k2 b hb,⟨rfl,rfl⟩,hbk _,?_,by simp,fun b hb=>?_⟩
      ·refine ⟨[w.heap.size],[],⟨h0,e,[],_,0,rfl,⟨by simp,.inr ⟨w.heap.size,0,#[],rfl,aij _,k3,ahG _,by simp [maxLen],by simp,by simp⟩⟩,rfl,rfl⟩,rfl,rfl⟩
      ·simp at hb
       subst hb
       exact ⟨fun hf=>by have:=hfz _ hf;omega,by omega,.inr (ahG _)⟩
     | false =>
      exact ⟨Fz,[.slice (some ⟨w.heap.size,0,none⟩) 0 0],[],[],e1,fun _ h=>h,fun b hb=>⟨aic (hfz b hb) k1,.inl hb⟩,k1,fun b hb _=>k2 b hb,⟨rfl,rfl⟩,hbk _,⟨[],[],⟨hrep _ _ ⟨_,rfl⟩,rfl⟩,rfl,rfl⟩,by simp,fun b hb=>by simp at hb⟩
  ·cases hg
 ·cases hg
theorem PK : Sat Try.prog 68 (LK 1 false):=BK (by decide) PD PG LD LG
theorem PN : Sat Try.prog 45 (LK 3 true):=BK (by decide) PE PI LH LJ
end
section
attribute [local go_sem_proc] Nat.reduceAdd Nat.reduceMul Nat.reduceEqDiff Nat.reduceBEq Nat.reduceMod Nat.reduceDiv reduceCtorEq
attribute [local go_sem_proc ↓] reduceIte
open Go Ev
variable {ext : Env} {F n:Nat}
theorem at_ {α:Type} {l:List α} {i:Nat} (h:i < l.length):∃ x,l[i]? = some x ∧ decide ((i:Int) < (l.length:Int)) = true ∧ ((i:Int).toNat = i) ∧ (0:Int) ≤ i:=⟨_,ahQ h,by simpa using h,by simp,by omega⟩
theorem end_ {α:Type} {l:List α}:decide ((l.length:Int) < (l.length:Int)) = false:=by simp
theorem nx {i N:Nat} (h:i < N) (hN:N ≤ 200000000000000):IntKind.i64.wrap ((i:Int) + 1) = ((i + 1:Nat):Int):=by rw [nY (by omega) (by omega)];omega
def xu (l:List ByteArray) (s:ByteArray):Bool:=l.any fun x=>decide (x = s)
theorem LM {l:List ByteArray} {s x:ByteArray} {i:Nat} (h:l[i]? = some x):xu (l.take (i + 1)) s = (xu (l.take i) s || decide (x = s)):=by
 unfold xu
 have hi:=(aiu.mp h)
 rw [aiD,h,List.any_append]
 simp
theorem Vn {l:List ByteArray} {s x:ByteArray} {i:Nat} (h:l[i]? = some x) (hx:x = s):xu l s = true:=by
 unfold xu
 exact aiE.mpr ⟨x,aja h,by simpa using hx⟩
theorem PO {l:List ByteArray} {s:ByteArray} (h:xu (l.take l.length) s = false):xu l s = false:=by rwa [aiv] at h
theorem PS (l:List ByteArray) (s:ByteArray) (hl:l.length ≤ 1000000000000) (hF:200000000000001 ≤ F):∃ z:Int,(decide (0 ≤ z) = xu l s) ∧ G ext F (n + 1) 97 [vl (l.map bB),vs s] = some ([vi z],[vl (l.map bB),vs s]):=by
 suffices h:W (fun r=>∃ z:Int,(decide (0 ≤ z) = xu l s) ∧ r = ([vi z],[vl (l.map bB),vs s])) ⟨⟩ (G ext F (n + 1) 97 [vl (l.map bB),vs s]) by
  obtain ⟨r,h1,z,h2,h3⟩:=h
  exact ⟨z,h2,by rw [h1,h3]⟩
 show W _ _ (IX _ F c97 _)
 dsimp only [c97,aA,cB,bq,bI,aG,bG,dV,eu,dH,aD,dn,dz,bP,aU];simp only [go_sem]
 refine YG l.length (fun i=>⟨[(0,PV.c (CV.one (PL.f (FV.sl (l.map bB))))),(1,PV.c (CV.one (PL.f (FV.str s)))),(7,PV.c (CV.one (PL.f (FV.int .i64 (l.map bB).length)))),(8,PV.c (CV.one (PL.f (FV.int .i64 i))))],[]⟩) (fun i=>xu (l.take i) s = false) (by omega) rfl (fun i hi hP=>?_) (fun hP=>?_)
 ·obtain ⟨x,hx,hd,ht,h0⟩:=at_ hi
  have hn:=nx hi (ahX hl (by decide))
  have hs:=LM (s:=s) hx
  simp only [ahF,ahN,hd,hx,ht,h0,bB,go_sem]
  repeat' (refine eZ (fun h=>?_) (fun h=>?_) <;> simp only [h,ahF,ahN,hd,hx,ht,h0,hn,bB,go_sem])
  ·exact ⟨i,by rw [Vn hx (by simp at h;first | exact h | exact h.symm)];simp,rfl⟩
  ·rw [hs,hP];simp at h ⊢;first | exact h | exact fun e=>h e.symm
 ·have hd:=@end_ _ l
  simp only [ahF,hd,go_sem]
  repeat' (refine eZ (fun h=>?_) (fun h=>?_) <;> simp only [h,ahF,hd,go_sem])
  exact ⟨-1,by rw [PO hP];rfl,rfl⟩
theorem DR (l:List ByteArray) (s:ByteArray) (hl:l.length ≤ 1000000000000) (hF:200000000000001 ≤ F):G ext F (n + 2) 84 [vl (l.map bB),vs s] = some ([vb (xu l s)],[vl (l.map bB),vs s]):=by
 refine dM (cf:=c84) rfl ?_
 obtain ⟨z,hz,h⟩:=PS (ext:=ext) (F:=F) (n:=n) l s hl hF
 dsimp only [c84,aA,cB,bq,bI,aG,bG,dV,eu,dH,aD,dn,dz,bP,aU];simp only [h,go_sem]
 repeat' (refine eZ (fun h=>?_) (fun h=>?_) <;> simp only [h,h,go_sem])
 rw [← hz]
end
section
open Go Ev
variable {ext : Env} {F n:Nat}
structure Qn where
 q:ByteArray
 t:Int
 c:Int
 deriving DecidableEq
structure It where
 q:ByteArray
 t:Int
 c:Int
 d:List ByteArray
 ttl:Int
 u:Int
 r:Int
 deriving DecidableEq
structure Op where
 o:Int
 now:Int
 q:ByteArray
 t:Int
 c:Int
 d:List ByteArray
 ttl:Int
 r:Int
def rQ (x:Qn):List FV:=[.str x.q,.int .i64 x.t,.int .i64 x.c]
def rI (x:It):List FV:=[.str x.q,.int .i64 x.t,.int .i64 x.c,.sl (x.d.map bB),.int .i64 x.ttl,.int .i64 x.u,.int .i64 x.r]
abbrev vit (q:ByteArray) (t c:Int) (d:List ByteArray) (ttl u r:Int):AV:=.agg [.f (.str q),.f (.int .i64 t),.f (.int .i64 c),.f (.sl (d.map bB)),.f (.int .i64 ttl),.f (.int .i64 u),.f (.int .i64 r)]
def ZI (k:Nat) (l:List ByteArray):Bool:=l.all fun x=>decide (x.size ≤ 2000) && decide (k ≤ 60)
def FD (q:ByteArray) (d:List ByteArray):Bool:=ZI d.length d && decide (q.size ≤ 300)
end
section
open Go Ev
variable {ext : Env} {F n:Nat}
theorem lZ {body:St → Option (Out × St)} {rs:St → St} {k:Out × St → Prop} {u:Tok k} {F:Nat} {σ:St} (N:Nat) (T:Nat → St) (P:Nat → Prop) (hF:N < F) (hs:rs σ = T 0) (h0:P 0)
  (step:∀ i,i < N → P i → W (fun p=>match p.1 with
   | .iP=>rs p.2 = T (i + 1) ∧ P (i + 1)
   | o=>k (o,p.2)) ⟨⟩ (body (T i)))
  (last:P N → W (fun p=>match p.1 with
   | .iP=>False
   | o=>k (o,p.2)) ⟨⟩ (body (T N))):W k u (iter body rs F σ):=by
 refine BH (fun m σ=>∃ i,i ≤ N ∧ m = N - i ∧ rs σ = T i ∧ P i) ?_ F N σ hF ⟨0,aij _,rfl,hs,h0⟩
 rintro m σ ⟨i,hi,rfl,hr,hP⟩
 rw [hr]
 by_cases hlt:i < N
 ·refine uj (step i hlt hP) fun p hp=>?_
  obtain ⟨o,s⟩:=p
  cases o with
  | iP=>exact ⟨N - (i + 1),by omega,i + 1,by omega,rfl,hp.1,hp.2⟩
  | ext j=>exact hp
  | ret=>exact hp
 ·have:i = N:=by omega
  subst this
  refine uj (last hP) fun p hp=>?_
  obtain ⟨o,s⟩:=p
  cases o with
  | iP=>exact hp.elim
  | ext j=>exact hp
  | ret=>exact hp
def nr2 (s:Nat) (l:List (Nat × Nat)) (σ:St):Option St → St
 | some t=>iP ⟨put t.tm s (.c (.one (.own (cZ s) 0))),t.ob⟩ l
 | none=>iP σ l
def ZJ (σ:St) (s sz:Nat) (l:List (Nat × Nat)):Option PV → St
 | some (.c (.one .bT))=>if sz = 0 then iP σ l else nr2 s l σ (new σ (cZ s) (.row sz []))
 | _=>iP σ l
@[go_sem] theorem ZK {σ:St} {s sz:Nat} {l:List (Nat × Nat)}:iP σ ((s,sz) :: l) = ZJ σ s sz l (get σ.tm s):=by
 unfold ZJ nr2
 rw [iP]
 split <;> first | rfl | (split <;> first | rfl | (split <;> simp_all))
@[go_sem] theorem acp {σ:St} {s sz key n:Nat} {l:List (Nat × Nat)}:ZJ σ s sz l (some (.c (.one (.own key n)))) = iP σ l:=rfl
@[go_sem] theorem agr {σ:St} {s sz:Nat} {l:List (Nat × Nat)} {x:FV}:ZJ σ s sz l (some (.c (.one (.f x)))) = iP σ l:=rfl
@[go_sem] theorem acr {σ:St} {s sz:Nat} {l:List (Nat × Nat)}:ZJ σ s sz l (some (.c (.one .bT))) = if sz = 0 then iP σ l else nr2 s l σ (new σ (cZ s) (.row sz [])):=rfl
@[go_sem] theorem ZL {σ τ:St} {s:Nat} {l:List (Nat × Nat)}:nr2 s l σ (some τ) = iP ⟨put τ.tm s (.c (.one (.own (cZ s) 0))),τ.ob⟩ l:=rfl
abbrev It.k (x:It):Qn:=⟨x.q,x.t,x.c⟩
abbrev vst (room:Int) (l:List It) (ch:Int):AV:=.agg [.f (.int .i64 room),.f (.sl (l.map rI)),.f (.int .i64 ch)]
theorem all_succ {α:Type} {P:α → Prop} {l:List α} {i:Nat} {x:α} (h:∀ y ∈ l.take i,P y) (hx:l[i]? = some x) (hp:P x):∀ y ∈ l.take (i + 1),P y:=by
 intro y hy
 rw [aiD,hx] at hy
 rcases ah2.mp hy with hy | hy
 ·exact h y hy
 ·simp at hy;subst hy;exact hp
structure Se where
 q:ByteArray
 t:Int
 c:Int
 d:List ByteArray
 ttl:Int
 deriving DecidableEq
abbrev Se.k (x:Se):Qn:=⟨x.q,x.t,x.c⟩
abbrev Se.v (x:Se):AV:=vJ x.q x.t x.c x.d x.ttl
end
section
attribute [local go_sem_proc] Nat.reduceAdd Nat.reduceMul Nat.reduceEqDiff Nat.reduceBEq Nat.reduceMod Nat.reduceDiv reduceCtorEq
attribute [local go_sem_proc ↓] reduceIte
open Go Ev
variable {ext : Env} {F n:Nat}
structure Th where
 je:ByteArray → Bool
 low:ByteArray → ByteArray
 CG:Int → ByteArray → Bool
 lw:Int → ByteArray → ByteArray
structure Th.CJ (r:Bool) (θ:Th) (ext:Env):Prop where
 nc:∀ q,q.size ≤ 1000000 → ext 70 [vs q] = some ([vb (θ.je q)],[vs q])
 nl:∀ q,q.size ≤ 1000000 → ext 48 [vs q] = some ([vs (θ.low q)],[vs q])
 rc:r = true → ∀ q,q.size ≤ 1000000 → ext 24 [vs q] = some ([vb (θ.je q)],[vs q])
 rl:r = true → ∀ q,q.size ≤ 1000000 → ext 37 [vs q] = some ([vs (θ.low q)],[vs q])
 dc:∀ k q,q.size ≤ 1000000 → ext 73 [vi k,vs q] = some ([vb (θ.CG k q)],[vi k,vs q])
 dl:∀ k q,q.size ≤ 1000000 → ext 83 [vi k,vs q] = some ([vs (θ.lw k q)],[vi k,vs q])
 ec:r = true → ∀ k q,q.size ≤ 1000000 → ext 52 [vi k,vs q] = some ([vb (θ.CG k q)],[vi k,vs q])
abbrev Th.Ok (θ:Th) (ext:Env):Prop:=θ.CJ true ext
variable {θ : Th}
theorem SC {rb:Bool} (T:θ.CJ rb ext) (q:ByteArray) (h:q.size ≤ 1000000):G ext F (n + 1) 70 [vs q] = some ([vb (θ.je q)],[vs q]):=(aik (iq rfl) _).trans (T.nc q h)
theorem LP {rb:Bool} (T:θ.CJ rb ext) (q:ByteArray) (h:q.size ≤ 1000000):G ext F (n + 1) 48 [vs q] = some ([vs (θ.low q)],[vs q]):=(aik (iq rfl) _).trans (T.nl q h)
theorem ZM {rb:Bool} (T:θ.CJ rb ext) (k:Int) (q:ByteArray) (h:q.size ≤ 1000000):G ext F (n + 1) 73 [vi k,vs q] = some ([vb (θ.CG k q)],[vi k,vs q]):=(aik (iq rfl) _).trans (T.dc k q h)
theorem ZN {rb:Bool} (T:θ.CJ rb ext) (k:Int) (q:ByteArray) (h:q.size ≤ 1000000):G ext F (n + 1) 83 [vi k,vs q] = some ([vs (θ.lw k q)],[vi k,vs q]):=(aik (iq rfl) _).trans (T.dl k q h)
def Th.key (θ:Th) (q:ByteArray) (t c:Int):Bool:=decide (θ.je q = true ∧ θ.low q = q ∧ (0 ≤ t ∧ t ≤ 65535) ∧ (0 ≤ c ∧ c ≤ 65535))
def Th.dat (θ:Th) (t:Int) (d:List ByteArray):Bool:=decide ((∀ x ∈ d,θ.CG t x = true ∧ θ.lw t x = x) ∧ d.Nodup)
def Th.set (θ:Th) (q:ByteArray) (t c:Int) (d:List ByteArray) (ttl:Int):Bool:=decide (θ.key q t c = true ∧ θ.dat t d = true ∧ (0 ≤ ttl ∧ ttl < 2147483648) ∧ d ≠ [])
theorem Hg {l:List ByteArray} {s:ByteArray}:xu l s = true ↔ s ∈ l:=by
 unfold xu
 rw [aiE]
 simp
theorem LQ {l:List ByteArray}:((l.map bB).all fun r=>r.length == 1) = true:=by
 rw [ahR]
 intro r hr
 obtain ⟨x, -,rfl⟩:=ah0.mp hr
 rfl
theorem LU {t:Int} {d:List ByteArray} {i:Nat} {x:ByteArray} (hx:d[i]? = some x) (h:θ.dat t (d.take i) = true) (hc:θ.CG t x = true) (hw:θ.lw t x = x) (hi:xu (d.take i) x = false):θ.dat t (d.take (i + 1)) = true:=by
 unfold Th.dat at *
 have hi:¬ x ∈ d.take i:=fun h=>by rw [Hg.mpr h] at hi;cases hi
 rw [ahZ] at *
 refine ⟨all_succ h.1 hx ⟨hc,hw⟩,?_⟩
 rw [aiD,hx,Option.toList_some]
 refine ai4.mpr ⟨h.2,List.pairwise_singleton _ _,fun a ha b hb=>?_⟩
 rw [ait] at hb;subst hb;rintro rfl;exact hi ha
theorem FE {t:Int} {d:List ByteArray} {i:Nat} {x:ByteArray} (hx:d[i]? = some x) (h:θ.CG t x = false ∨ θ.lw t x ≠ x ∨ xu (d.take i) x = true):θ.dat t d = false:=by
 unfold Th.dat
 rw [aiz]
 rintro ⟨h1,h2⟩
 have hm:=h1 x (aja hx)
 rcases h with h | h | h
 ·rw [h] at hm;simp at hm
 ·exact h hm.2
 ·rw [Hg,ajs] at h
  obtain ⟨j,hj,he⟩:=h
  have h3:=aiu.mp hx
  exact List.pairwise_iff_getElem.mp h2 j i (by omega) h3.1 (by omega) (by rw [he,h3.2])
theorem zX {rb:Bool} (T:θ.CJ rb ext) (q:ByteArray) (t c:Int) (d:List ByteArray) (ttl:Int) (hl:d.length ≤ 1000000000000) (hF:200000000000001 ≤ F) (hq:q.size ≤ 1000000) (hd:∀ x ∈ d,x.size ≤ 1000000):G ext F (n + 3) 66 [vJ q t c d ttl] = some ([vb (θ.set q t c d ttl)],[vJ q t c d ttl]):=by
 refine dM (cf:=c66) rfl ?_
 have h1:=fun n=>SC (F:=F) (n:=n) T q hq
 have h2:=fun n=>LP (F:=F) (n:=n) T q hq
 dsimp only [c66,aA,cB,bq,bI,aG,bG,dV,eu,dH,aD,dn,dz,bP,aU];simp only [h1,h2,SA,go_sem]
 repeat' (refine eZ (fun h=>?_) (fun h=>?_) <;> simp only [h,h1,h2,SA,go_sem])
 ·refine lZ d.length (fun i=>⟨[(1,PV.c (CV.one (PL.ptr 40000 0))),(3,PV.c (CV.one (PL.ptr 80000 0))),(39,PV.c (CV.one (PL.f (FV.sl (List.map bB d))))),(40,PV.c (CV.one (PL.f (FV.int IntKind.i64 (List.map bB d).length)))),(41,PV.c (CV.one (PL.f (FV.int .i64 i))))],[(40000,.eY [.f (.str q),.f (.int .i64 t),.f (.int .i64 c),.f (.sl (d.map bB)),.f (.int .i64 ttl)]),(80000,Ob.eY [PL.f (FV.str q),PL.f (FV.int IntKind.i64 t),PL.f (FV.int IntKind.i64 c)])]⟩) (fun i=>θ.dat t (d.take i) = true) (by omega) rfl (by simp [Th.dat]) (fun i hi hP=>?_) (fun hP=>?_)
  ·obtain ⟨x,hx,hlt,ht,h0⟩:=at_ hi
   have hn:=nx hi (ahX hl (by decide))
   have h1:=fun n=>ZM (F:=F) (n:=n) T t x (hd x (aja hx))
   have h2:=fun n=>ZN (F:=F) (n:=n) T t x (hd x (aja hx))
   have h3:=fun n=>DR (ext:=ext) (F:=F) (n:=n) (d.take i) x (by simp;omega) hF
   have hle:(i:Int) ≤ (d.length:Int):=by omega
   have hrw:=@LQ d
   have hcut:(0:Int) ≤ i ∧ (i:Int) ≤ d.length:=by omega
   simp only [ahF,ahN,hlt,hx,ht,h0,bB,h1,h2,h3,go_sem]
   repeat' (refine eZ (fun h=>?_) (fun h=>?_) <;> simp only [h,ahF,ahN,hlt,hx,ht,h0,hn,bB,h1,h2,h3,hle,hrw,← List.map_take,aiM,Nat.sub_zero,hcut,go_sem])
   ·simp [Th.set,FE hx (.inr (.inr h))]
   ·exact LU hx hP (by assumption) (ahY (by assumption)) h
   ·simp [Th.set,FE hx (.inr (.inl (of_decide_eq_false h)))]
   ·simp [Th.set,FE hx (.inl h)]
  ·have hd:=@end_ _ d
   rw [aiv] at hP
   simp only [ahF,hd,go_sem]
   repeat' (refine eZ (fun h=>?_) (fun h=>?_) <;> simp only [h,ahF,hd,go_sem])
   all_goals (simp [Th.set,Th.key,hP];simp_all)
   all_goals (cases d <;> simp <;> omega)
 all_goals (simp [Th.set,Th.key];try simp_all)
 all_goals (try omega)
end
section
open Go Ev
variable {ext : Env} {F n:Nat} {θ:Th}
structure Sr where
 room:Int
 l:List It
 ch:Int
abbrev Sr.v (s:Sr):AV:=vst s.room s.l s.ch
abbrev It.v (x:It):AV:=vit x.q x.t x.c x.d x.ttl x.u x.r
def it0 : It:=⟨⟨#[]⟩,0,0,[],0,0,0⟩
def old (l:List It) (k:Qn):Option It:=l.find? fun x=>decide (x.k = k)
def rid (l:List It) (k:Qn):List It:=l.eraseP fun x=>decide (x.k = k)
end
section
attribute [local go_sem_proc] Nat.reduceAdd Nat.reduceMul Nat.reduceEqDiff Nat.reduceBEq Nat.reduceMod Nat.reduceDiv reduceCtorEq
attribute [local go_sem_proc ↓] reduceIte
open Go Ev
variable {ext : Env} {F n:Nat}
theorem xw {α:Type} {body:St → Option (Out × St)} {rs:St → St} {k:Out × St → Prop} {u:Tok k} {F:Nat} {σ:St} (N:Nat) (T:α → St) (P:Nat → α → Prop) (hF:N < F) (x:α) (hs:rs σ = T x) (h0:P 0 x)
  (step:∀ i x,i < N → P i x → W (fun p=>match p.1 with
   | .iP=>∃ y,rs p.2 = T y ∧ P (i + 1) y
   | o=>k (o,p.2)) ⟨⟩ (body (T x)))
  (last:∀ x,P N x → W (fun p=>match p.1 with
   | .iP=>False
   | o=>k (o,p.2)) ⟨⟩ (body (T x))):W k u (iter body rs F σ):=by
 refine BH (fun m σ=>∃ i x,i ≤ N ∧ m = N - i ∧ rs σ = T x ∧ P i x) ?_ F N σ hF ⟨0,x,aij _,rfl,hs,h0⟩
 rintro m σ ⟨i,x,hi,rfl,hr,hP⟩
 rw [hr]
 by_cases hlt:i < N
 ·refine uj (step i x hlt hP) fun p hp=>?_
  obtain ⟨o,s⟩:=p
  cases o with
  | iP =>
   obtain ⟨y,h1,h2⟩:=hp
   exact ⟨N - (i + 1),by omega,i + 1,y,by omega,rfl,h1,h2⟩
  | ext j=>exact hp
  | ret=>exact hp
 ·have:i = N:=by omega
  subst this
  refine uj (last x hP) fun p hp=>?_
  obtain ⟨o,s⟩:=p
  cases o with
  | iP=>exact hp.elim
  | ext j=>exact hp
  | ret=>exact hp
abbrev Qn.f (k:Qn):List FV:=[.str k.q,.int .i64 k.t,.int .i64 k.c]
abbrev fnQ (k:Qn):AV:=.one (.fn 86 [k.f])
theorem LV (x k:Qn):G ext F (n + 1) 86 [vq x.q x.t x.c,.one (.fp k.f)] = some ([vb (decide (x = k))],[vq x.q x.t x.c,.one (.fp k.f)]):=by
 refine dM (cf:=c86) rfl ?_
 dsimp only [c86,aA,cB,bq,bI,aG,bG,dV,eu,dH,aD,dn,dz,bP,aU];simp only [go_sem]
 cases x;cases k;simp
def SE (l:List Qn) (k:Qn):Int:=match l.findIdx? fun x=>decide (x = k) with | some i=>i | none=>-1
theorem Vo {l:List Qn} {k:Qn} (h:∀ x ∈ l,x ≠ k):SE l k = -1:=by
 have:l.findIdx? (fun x=>decide (x = k)) = none:=ajb.mpr fun x hx=>by simpa using h x hx
 simp [SE,this]
theorem Vp {l:List Qn} {k:Qn} {i:Nat} {x:Qn} (h:∀ x ∈ l.take i,x ≠ k) (hx:l[i]? = some x) (hk:x = k):SE l k = i:=by
 have hi:=(aiu.mp hx)
 have:l.findIdx? (fun x=>decide (x = k)) = some i:=by
  refine aiZ.mpr ⟨hi.1,by simp [hi.2,hk],fun j hj=>?_⟩
  have:=h (l[j]'(by have:=hi.1;omega)) (by rw [ajs];exact ⟨j,by have:=hi.1;omega,rfl⟩)
  simpa using this
 simp [SE,this]
theorem Vq (l:List Qn) (k:Qn):(SE l k = -1 ∧ ∀ x ∈ l,x ≠ k) ∨ ∃ (i:Nat),SE l k = (i:Int) ∧ ∃ h:i < l.length,(∀ x ∈ l.take i,x ≠ k) ∧ l[i] = k:=by
 have hp:SE l k = match l.findIdx? fun x=>decide (x = k) with | some i=>(i:Int) | none=>-1:=rfl
 cases h:l.findIdx? fun x=>decide (x = k) with
 | none =>
  rw [h] at hp
  exact .inl ⟨hp,fun x hx=>by simpa using ajb.mp h x hx⟩
 | some i =>
  rw [h] at hp
  obtain ⟨hi,hx,hb⟩:=aiZ.mp h
  refine .inr ⟨i,hp,hi,fun x hx=>?_,by simpa using hx⟩
  obtain ⟨j,hj,rfl⟩:=ajs.mp hx
  have:=hb j (by omega)
  simpa using this
theorem BL (l:List Qn) (k:Qn) (hl:l.length ≤ 1000000000000) (hF:200000000000001 ≤ F):G ext F (n + 2) 98 [vl (l.map rQ),fnQ k] = some ([vi (SE l k)],[vl (l.map rQ),fnQ k]):=by
 refine dM (cf:=c98) rfl ?_
 dsimp only [c98,aA,cB,bq,bI,aG,bG,dV,eu,dH,aD,dn,dz,bP,aU];simp only [go_sem]
 refine lZ l.length (fun i=>⟨[(0,PV.c (CV.one (PL.f (FV.sl (l.map rQ))))),(1,PV.c (CV.one (PL.fn 86 [k.f]))),(7,PV.c (CV.one (PL.f (FV.int .i64 (l.map rQ).length)))),(8,PV.c (CV.one (PL.f (FV.int .i64 i))))],[]⟩) (fun i=>∀ x ∈ l.take i,x ≠ k) (by omega) rfl (by simp) (fun i hi hP=>?_) (fun hP=>?_)
 ·obtain ⟨x,hx,hd,ht,h0⟩:=at_ hi
  have hn:=nx hi (ahX hl (by decide))
  have hq:=fun n=>LV (ext:=ext) (F:=F) (n:=n) x k
  simp only [ahF,ahN,hd,hx,ht,h0,rQ,hq,go_sem]
  repeat' (refine eZ (fun h=>?_) (fun h=>?_) <;> simp only [h,ahF,ahN,hd,hx,ht,h0,hn,rQ,hq,go_sem])
  ·rw [Vp hP hx (by simpa using h)]
  ·exact all_succ hP hx (by simpa using h)
 ·have hd:=@end_ _ l
  simp only [ahF,hd,go_sem]
  repeat' (refine eZ (fun h=>?_) (fun h=>?_) <;> simp only [h,ahF,hd,go_sem])
  rw [aiv] at hP
  rw [Vo hP]
theorem PU {l:List Qn} {k x:Qn} {i:Nat} (h:l[i]? = some x):(l.take (i + 1)).filter (fun y=>decide (y ≠ k)) = (l.take i).filter (fun y=>decide (y ≠ k)) ++ if x = k then [] else [x]:=by
 rw [aiD,List.filter_append,h]
 by_cases hx:x = k <;> simp [hx]
theorem y8 (l:List Qn) (k:Qn) (hl:l.length ≤ 1000000000000) (hF:200000000000001 ≤ F):G ext F (n + 3) 85 [.one (.own 3 (l.map rQ)),fnQ k] = some ([.one (.own 3 ((l.filter fun x=>decide (x ≠ k)).map rQ))],[.one .any,fnQ k]):=by
 refine dM (cf:=c85) rfl ?_
 have h1:=fun n=>BL (ext:=ext) (F:=F) (n:=n) l k hl hF
 dsimp only [c85,aA,cB,bq,bI,aG,bG,dV,eu,dH,aD,dn,dz,bP,aU];simp only [h1,go_sem]
 rcases Vq l k with ⟨hp,hno⟩ | ⟨i0,hp,hi0,hpre,hat⟩
 ·rw [hp]
  simp only [show decide ((-1:Int) = -1) = true from rfl,go_sem]
  rw [List.filter_eq_self.mpr (fun x hx=>by simpa using hno x hx)]
 ·rw [hp]
  have hne:decide ((i0:Int) = -1) = false:=by simp
  simp only [hne,nx hi0 (ahX hl (by decide)),ahF,go_sem]
  refine xw (l.length - (i0 + 1)) (fun x:List Qn × Nat × Nat=>⟨[(0,PV.c (CV.one (PL.own 20202 x.1.length))),(1,PV.c (CV.one (PL.fn 86 [k.f]))),(5,PV.c (CV.one (PL.f (FV.int IntKind.i64 x.2.1)))),(6,PV.c (CV.one (PL.f (FV.int IntKind.i64 x.2.2))))],[(20202,Ob.row 3 (x.1.map rQ))]⟩) (fun r x=>x.2.2 = i0 + 1 + r ∧ x.2.1 < x.2.2 ∧ x.1.length = l.length ∧ x.1.take x.2.1 = (l.take x.2.2).filter (fun y=>decide (y ≠ k)) ∧ x.1.drop x.2.2 = l.drop x.2.2) (by omega) (l,i0,i0 + 1) rfl ⟨rfl,Nat.lt_succ_self _,rfl,?_,rfl⟩ (fun r x hr hP=>?_) (fun x hP=>?_)
  ·rw [aiD,List.filter_append,List.filter_eq_self.mpr (fun x hx=>by simpa using hpre x hx),ahQ hi0]
   simp [hat]
  ·obtain ⟨R,c,j⟩:=x
   obtain ⟨rfl,hc,hlen,htk,hdr⟩:=hP
   simp only at hc hlen htk hdr ⊢
   have hj:i0 + 1 + r < R.length:=by omega
   obtain ⟨x,hx,hd,ht,h0⟩:=at_ hj
   have hn:=nx hj (by omega)
   have hq:=fun n=>LV (ext:=ext) (F:=F) (n:=n) x k
   have hlt:((i0 + 1 + r:Nat):Int) < (R.length:Int):=by omega
   have hcR:c < R.length:=by omega
   obtain ⟨y,hy,hcd,hct,hc0⟩:=at_ hcR
   have hcl:(c:Int) < (R.length:Int):=by omega
   have hcn:=nx hcR (by omega)
   simp only [ahF,ahN,hd,hx,ht,h0,rQ,hq,hlt,go_sem]
   repeat' (refine eZ (fun h=>?_) (fun h=>?_) <;> simp only [h,ahF,ahN,hd,hx,ht,h0,hn,rQ,hq,hlt,hy,hct,hc0,hcl,hcn,go_sem])
   all_goals
    have hxl:l[i0 + 1 + r]? = some x:=by
     have:=ah1 (fun z:List Qn=>z[0]?) hdr
     simp only [aiA,Nat.add_zero,hx] at this
     exact this.symm
    have hdr':List.drop (i0 + 1 + r + 1) R = List.drop (i0 + 1 + r + 1) l:=by
     have:=ah1 (List.drop 1) hdr
     simpa only [List.drop_drop] using this
    have hft:=PU (k:=k) hxl
   ·simp only [ahZ] at h
    rw [ahC h,aiG] at hft
    exact ⟨(R,c,i0 + 1 + r + 1),rfl,rfl,by show c < i0 + 1 + r + 1;omega,hlen,by rw [hft];exact htk,hdr'⟩
   ·simp only [aiz] at h
    rw [ahD h] at hft
    refine ⟨(R.set c x,c + 1,i0 + 1 + r + 1),?_,rfl,by show c + 1 < i0 + 1 + r + 1;omega,by simp [hlen],?_,?_⟩
    ·simp [ai0,rQ]
    ·show List.take (c + 1) (R.set c x) = _
     rw [hft,aiD,List.take_set,List.set_eq_of_length_le (by simp;omega),htk,List.getElem?_set_self hcR]
     rfl
    ·show List.drop _ (R.set c x) = _
     rw [List.drop_set_of_lt (show c < i0 + 1 + r + 1 by omega)]
     exact hdr'
  ·obtain ⟨R,c,j⟩:=x
   obtain ⟨rfl,hc,hlen,htk,hdr⟩:=hP
   simp only at hc hlen htk hdr ⊢
   have hj:i0 + 1 + (l.length - (i0 + 1)) = R.length:=by omega
   rw [hj]
   rw [hj,ajh (l:=l) (i:=R.length) (by omega)] at htk
   have hd:=@end_ _ R
   have hct:(c:Int).toNat = c:=by simp
   have ZO:List.take c (List.take c (List.map rQ R) ++ List.replicate (R.length - c) [FV.str ⟨#[]⟩,FV.int IntKind.i64 0,FV.int IntKind.i64 0]) = (l.filter fun y=>decide (y ≠ k)).map rQ:=by
    rw [ajq (by simp;omega),List.take_take,Nat.min_self,← List.map_take,htk]
   simp only [ahF,hd,go_sem]
   repeat' (refine eZ (fun h=>?_) (fun h=>?_) <;> simp only [h,ahF,hd,go_sem])
   rw [hct]
   exact ⟨by omega,by omega,⟨by omega,by simp;omega⟩,by rw [ZO]⟩
structure lD (ext:Env):Prop where
 cq:∀ l:List Qn,l.length ≤ 1000000 → ext 45 [vl (l.map rQ)] = some ([.one (.own 3 (l.map rQ))],[vl (l.map rQ)])
 cs:∀ l:List ByteArray,l.length ≤ 1000000 → ext 68 [vl (l.map bB)] = some ([vl (l.map bB)],[vl (l.map bB)])
theorem LW (C:lD ext) (l:List Qn) (h:l.length ≤ 1000000):G ext F (n + 1) 45 [vl (l.map rQ)] = some ([.one (.own 3 (l.map rQ))],[vl (l.map rQ)]):=(aik (iq rfl) _).trans (C.cq l h)
theorem LX (C:lD ext) (l:List ByteArray) (h:l.length ≤ 1000000):G ext F (n + 1) 68 [vl (l.map bB)] = some ([vl (l.map bB)],[vl (l.map bB)]):=(aik (iq rfl) _).trans (C.cs l h)
def CK (l:List Qn) (k:Qn):List Qn:=l.filter fun x=>decide (x ≠ k)
theorem sJ {l:List Qn} {k:Qn}:(CK l k).length ≤ l.length:=List.length_filter_le ..
theorem LY (C:lD ext) (l:List Qn) (k:Qn) (hl:l.length ≤ 1000000) (hF:200000000000001 ≤ F):G ext F (n + 4) 69 [vl (l.map rQ),vq k.q k.t k.c] = some ([.one (.own 3 ((CK l k).map rQ))],[vl (l.map rQ),vq k.q k.t k.c]):=by
 refine dM (cf:=c69) rfl ?_
 have h1:=fun n=>LW (F:=F) (n:=n) C l hl
 have h2:=fun n=>y8 (ext:=ext) (F:=F) (n:=n) l k (by omega) hF
 dsimp only [c69,aA,cB,bq,bI,aG,bG,dV,eu,dH,aD,dn,dz,bP,aU];simp only [h1,h2,go_sem]
 rfl
theorem DT (C:lD ext) (l:List Qn) (k:Qn) (hl:l.length ≤ 1000000) (hF:200000000000001 ≤ F):G ext F (n + 5) 44 [vl (l.map rQ),vq k.q k.t k.c] = some ([vl ((CK l k ++ [k]).map rQ)],[vl (l.map rQ),vq k.q k.t k.c]):=by
 refine dM (cf:=c44) rfl ?_
 have h1:=fun n=>LY (ext:=ext) (F:=F) (n:=n) C l k hl hF
 have hl2:=@sJ l k
 dsimp only [c44,aA,cB,bq,bI,aG,bG,dV,eu,dH,aD,dn,dz,bP,aU];simp only [h1,ahF,go_sem]
 have hsz:((CK l k).length + 1) * 32 ≤ 140737488355328:=by omega
 simp [rQ,hsz]
theorem ZP (l:List Qn):((l.map rQ).all fun r=>r.length == 3) = true:=by
 rw [ahR]
 intro r hr
 obtain ⟨x, -,rfl⟩:=ah0.mp hr
 rfl
theorem LZ (C:lD ext) (l:List Qn) (most:Int) (hl:l.length ≤ 1000000) (hm:0 ≤ most ∧ most ≤ 1000000000000) (hF:200000000000001 ≤ F):G ext F (n + 2) 43 [vl (l.map rQ),vi most] = some ([vl ((l.drop (l.length - most.toNat)).map rQ),vl ((l.take (l.length - most.toNat)).map rQ)],[vl (l.map rQ),vi most]):=by
 refine dM (cf:=c43) rfl ?_
 have h1:=fun n=>LW (F:=F) (n:=n) C (l.drop (l.length - most.toNat)) (by simp;omega)
 have h2:=fun n=>LW (F:=F) (n:=n) C (l.take (l.length - most.toNat)) (by simp;omega)
 obtain ⟨a,ha⟩:∃ a,a = l.length - most.toNat:=⟨_,rfl⟩
 rw [← ha] at h1 h2 ⊢
 have hc:IntKind.i64.wrap ((l.length:Int) - if (if (l.length:Int) < most then (l.length:Int) else most) < 0 then 0 else if (l.length:Int) < most then (l.length:Int) else most) = (a:Int):=by
  rw [nY (by split <;> split <;> omega) (by split <;> split <;> omega)]
  split <;> split <;> omega
 have hat:(a:Int).toNat = a:=by simp
 have hc1:(0:Int) ≤ a ∧ (a:Int) ≤ (l.length:Int):=by omega
 have hk1:List.take (l.length - a) (List.drop a (l.map rQ)) = (l.drop a).map rQ:=by rw [ajh (by simp),List.map_drop]
 have hk2:List.take a (l.map rQ) = (l.take a).map rQ:=List.map_take.symm
 dsimp only [c43,aA,cB,bq,bI,aG,bG,dV,eu,dH,aD,dn,dz,bP,aU];simp only [ahF,hc,hat,hc1,hk1,hk2,h1,h2,ZP l,aiM,Nat.sub_zero,go_sem]
end
section
attribute [local go_sem_proc] Nat.reduceAdd Nat.reduceMul Nat.reduceEqDiff Nat.reduceBEq Nat.reduceMod Nat.reduceDiv reduceCtorEq
attribute [local go_sem_proc ↓] reduceIte
open Go Ev
variable {ext : Env} {F n:Nat} {θ:Th}
abbrev kM : KS:=.agg [.str,.int .i64,.int .i64]
abbrev kq (k:Qn):KV:=.agg [.str k.q,.int .i64 k.t,.int .i64 k.c]
def ent (x:It):KV × FC:=(kq x.k,.agg (rI x))
structure Sv where
 room:Int
 m:List It
 o:List Qn
 ch:Int
abbrev Sv.v (s:Sv):AV:=.one (.ptr [.f (.int .i64 s.room),.mp kM (s.m.map ent),.f (.sl (s.o.map rQ)),.f (.int .i64 s.ch)])
def svo : Option Sv → AV
 | some s=>s.v
 | none=>.one .iD
theorem DU (s:Sv):svo (some s) = s.v:=rfl
theorem FH {a b:Qn}:kq a = kq b ↔ a = b:=by
 constructor
 ·intro h;simp only [kq,KV.agg.injEq,aiW,SV.str.injEq,SV.int.injEq] at h
  cases a;cases b;simp_all
 ·rintro rfl;rfl
theorem l6 (l:List It) (k:Qn):wo (l.map ent) (kq k) = l.findIdx? fun x=>decide (x.k = k):=by
 unfold wo
 rw [ai5,List.findIdx?_map]
 refine ah1 (fun p=>List.findIdx? p l) (funext fun x=>?_)
 simp only [Function.comp,ent]
 by_cases h:x.k = k
 ·simp [h]
 ·have:¬ kq x.k = kq k:=fun e=>h (FH.mp e)
  simp only [this,h,decide_false]
theorem pG (l:List It) (k:Qn):rD (l.map ent) (kq k) = (old l k).map fun x=>.agg (rI x):=by
 have hf:old l k = (l.findIdx? fun x=>decide (x.k = k)).bind fun i=>l[i]?:=List.find?_eq_bind_findIdx?_getElem? ..
 unfold rD
 rw [l6,hf]
 cases l.findIdx? fun x=>decide (x.k = k) with
 | none=>rfl
 | some i=>simp only [Option.bind_some,ahN];cases l[i]? <;> rfl
theorem xA (l:List It) (k:Qn):AL (l.map ent) (kq k) = (rid l k).map ent:=by
 unfold AL rid
 rw [l6,List.eraseP_eq_eraseIdx]
 cases l.findIdx? fun x=>decide (x.k = k) with
 | none=>rfl
 | some i=>simp [List.eraseIdx_eq_take_drop_succ,List.map_take,List.map_drop]
def upd (l:List It) (x:It):List It:=match l.findIdx? fun y=>decide (y.k = x.k) with
 | some i=>l.set i x
 | none=>l ++ [x]
theorem xB (l:List It) (x:It):wu (l.map ent) (kq x.k) (.agg (rI x)) = (upd l x).map ent:=by
 unfold wu upd
 rw [l6]
 cases l.findIdx? fun y=>decide (y.k = x.k) with
 | none=>simp [ent]
 | some i=>simp [ai0,ent]
theorem L6 (room:Int):G ext F (n + 1) 31 [vi room] = some ([svo (if room < 1 ∨ 1000 < room then none else some ⟨room,[],[],0⟩)],[vi room]):=by
 refine dM (cf:=c31) rfl ?_
 dsimp only [c31,aA,cB,bq,bI,aG,bG,dV,eu,dH,aD,dn,dz,bP,aU];simp only [go_sem]
 repeat' (refine eZ (fun h=>?_) (fun h=>?_) <;> simp only [h,go_sem])
 all_goals (simp only [ahZ,aiz] at *)
 all_goals first | rw [ahC (by omega)] | rw [ahD (by omega)]
 all_goals rfl
theorem DV (C:lD ext) (x:It) (hx:x.d.length ≤ 1000000):G ext F (n + 2) 42 [x.v] = some ([x.v],[x.v]):=by
 refine dM (cf:=c42) rfl ?_
 have h1:=fun n=>LX (F:=F) (n:=n) C x.d hx
 dsimp only [c42,aA,cB,bq,bI,aG,bG,dV,eu,dH,aD,dn,dz,bP,aU];simp only [h1,go_sem]
def bF (s:Sv) (now:Int) (k:Qn):It × Bool:=match old s.m k with
 | some x=>if l5 now x.u then (x,true) else (it0,false)
 | none=>(it0,false)
theorem Hl (C:lD ext) (s:Sv) (now:Int) (k:Qn) (hd:∀ x ∈ s.m,x.d.length ≤ 1000000):G ext F (n + 3) 60 [s.v,vi now,vq k.q k.t k.c] = some ([(bF s now k).1.v,vb (bF s now k).2],[s.v,vi now,vq k.q k.t k.c]):=by
 refine dM (cf:=ZE) rfl ?_
 have hk:=pG s.m k
 unfold bF
 cases ho:old s.m k with
 | none =>
  rw [ho] at hk
  dsimp only [ZE,aA,cB,bq,bI,aG,bG,dV,eu,dH,aD,dn,dz,bP,aU];simp only [hk,Option.map_none,Option.isSome_none,go_sem]
  rfl
 | some x =>
  rw [ho] at hk
  have h1:=fun n=>DV (F:=F) (n:=n) C x (hd x (ajw ho))
  cases hv:l5 now x.u
  all_goals
   dsimp only [ZE,aA,cB,bq,bI,aG,bG,dV,eu,dH,aD,dn,dz,bP,aU];simp only [hk,Option.map_some,Option.isSome_some,rI,jm,hv,h1,go_sem]
  rfl
def Jf (θ:Th) (s:Sv) (now:Int) (x:It):Int :=
 if x.u < 0 ∨ θ.set x.q x.t x.c x.d x.ttl = false ∨ x.r < 1 ∨ 5 < x.r then 1
 else if l5 now x.u = false then 14
 else match old s.m x.k with
  | some o=>if LB o.r (l5 now o.u) x.r = false then 10 else 0
  | none=>0
theorem L8 (now:Int) (x:It):G ext F (n + 4) 41 [.one .iD,vi now,x.v] = some ([vi 1],[.one .iD,vi now,x.v]):=by
 refine dM (cf:=Vj) rfl ?_
 dsimp only [Vj,aA,cB,bq,bI,aG,bG,dV,eu,dH,aD,dn,dz,bP,aU];simp only [go_sem]
theorem Vr {rb:Bool} (T:θ.CJ rb ext) (s:Sv) (now:Int) (x:It) (hF:200000000000001 ≤ F) (hq:x.q.size ≤ 1000000) (hn:x.d.length ≤ 1000000) (hd:∀ y ∈ x.d,y.size ≤ 1000000):G ext F (n + 4) 41 [s.v,vi now,x.v] = some ([vi (Jf θ s now x)],[s.v,vi now,x.v]):=by
 refine dM (cf:=Vj) rfl ?_
 have hk:=pG s.m x.k
 have h1:=fun n=>zX (ext:=ext) (F:=F) (n:=n) T x.q x.t x.c x.d x.ttl (by omega) hF hq hd
 unfold Jf
 cases hold:old s.m x.k with
 | none =>
  rw [hold] at hk
  dsimp only [Vj,aA,cB,bq,bI,aG,bG,dV,eu,dH,aD,dn,dz,bP,aU];simp only [h1,hk,jm,Option.map_none,Option.isSome_none,go_sem]
  repeat' (refine eZ (fun h=>?_) (fun h=>?_) <;> simp only [h,h1,hk,jm,Option.map_none,Option.isSome_none,go_sem])
  all_goals clear h1 hk
  all_goals simp only [ahZ,aiz] at *
  all_goals simp [*]
 | some o =>
  rw [hold] at hk
  dsimp only [Vj,aA,cB,bq,bI,aG,bG,dV,eu,dH,aD,dn,dz,bP,aU];simp only [h1,hk,jm,G8,Option.map_some,Option.isSome_some,rI,go_sem]
  repeat' (refine eZ (fun h=>?_) (fun h=>?_) <;> simp only [h,h1,hk,jm,G8,Option.map_some,Option.isSome_some,rI,go_sem])
  all_goals clear h1 hk
  all_goals simp only [ahZ,aiz] at *
  all_goals simp [*]
end
section
open Go Ev
variable {ext : Env} {F n:Nat} {θ:Th}
abbrev Se.it (x:Se) (u r:Int):It:=⟨x.q,x.t,x.c,x.d,x.ttl,u,r⟩
def uo (θ:Th) (s:Sv) (now:Int) (x:Se) (r:Int):Sv × Int :=
 let it:=x.it (fF now x.ttl) r
 if Jf θ s now it ≠ 0 then (s,Jf θ s now it)
 else
  let t:=CK s.o x.k ++ [x.k]
  (⟨s.room,(t.take (t.length - s.room.toNat)).foldl rid (upd s.m it),t.drop (t.length - s.room.toNat),s.ch + 1⟩,0)
structure zY (θ:Th) (ext:Env):Prop where
 p0:∀ now x r,ext 21 [.one .iD,vi now,Se.v x,vi r] = some ([vi 1],[.one .iD,vi now,x.v,vi r])
 p1:∀ (s:Sv) now (x:Se) r,0 ≤ s.room ∧ s.room ≤ 1000000 → 0 ≤ s.ch ∧ s.ch ≤ 1000000000000 → s.o.length ≤ 100000 → s.m.length ≤ 100000 → x.q.size ≤ 1000000 → x.d.length ≤ 1000000 → (∀ y ∈ x.d,y.size ≤ 1000000) →
  ext 21 [s.v,vi now,x.v,vi r] = some ([vi (uo θ s now x r).2],[(uo θ s now x r).1.v,vi now,x.v,vi r])
theorem L9 (Q:zY θ ext) (s:Sv) (now:Int) (x:Se) (r:Int) (h1:0 ≤ s.room ∧ s.room ≤ 1000000) (h2:0 ≤ s.ch ∧ s.ch ≤ 1000000000000) (h3:s.o.length ≤ 100000) (h3':s.m.length ≤ 100000) (h4:x.q.size ≤ 1000000) (h5:x.d.length ≤ 1000000) (h6:∀ y ∈ x.d,y.size ≤ 1000000):G ext F (n + 1) 21 [s.v,vi now,x.v,vi r] = some ([vi (uo θ s now x r).2],[(uo θ s now x r).1.v,vi now,x.v,vi r]):=(aik (iq rfl) _).trans (Q.p1 s now x r h1 h2 h3 h3' h4 h5 h6)
abbrev na : ByteArray:=⟨#[1,97,0]⟩
abbrev nb : ByteArray:=⟨#[1,98,0]⟩
abbrev nc_ : ByteArray:=⟨#[1,99,0]⟩
abbrev dd : ByteArray:=⟨#[49,49,49,49]⟩
abbrev sa : Se:=⟨na,1,1,[dd],5⟩
abbrev sb : Se:=⟨nb,1,1,[dd],5⟩
abbrev sc : Se:=⟨nc_,1,1,[dd],5⟩
abbrev sz : Se:=⟨na,1,1,[dd],0⟩
abbrev t0 : Sv:=⟨2,[],[],0⟩
abbrev t1 : Sv:=⟨2,[sa.it 6 5],[sa.k],1⟩
abbrev t2 : Sv:=⟨2,[sa.it 6 5,sb.it 6 3],[sa.k,sb.k],2⟩
abbrev t3 : Sv:=⟨2,[sa.it 6 5,sb.it 6 3],[sb.k,sa.k],2⟩
abbrev t4 : Sv:=⟨2,[sa.it 6 5,sc.it 7 1],[sa.k,sc.k],3⟩
abbrev t5 : Sv:=⟨2,[sc.it 7 1],[sc.k],4⟩
end
section
open Go Ev
variable {θ : Th}
abbrev ks (l:List It):List Qn:=l.map It.k
theorem lF {l:List It} {b:Qn} {x:It} (h:old l b = some x):x.k = b ∧ x ∈ l:=⟨by simpa using List.find?_some h,ajw h⟩
theorem sK {l:List It} {a:Qn}:(rid l a).Sublist l:=List.eraseP_sublist ..
theorem uq {l:List It} {a:Qn} (h:(ks l).Nodup):(ks (rid l a)).Nodup:=(sK.map _).nodup h
theorem qW (l:List It) (x:It):(x.k ∉ ks l ∧ upd l x = l ++ [x]) ∨ ∃ a y b,l = a ++ y :: b ∧ y.k = x.k ∧ x.k ∉ ks a ∧ upd l x = a ++ x :: b:=by
 unfold upd
 cases h:l.findIdx? fun y=>decide (y.k = x.k) with
 | none =>
  refine .inl ⟨fun hm=>?_,rfl⟩
  obtain ⟨y,hy,hk⟩:=ah0.mp hm
  have:=ajb.mp h y hy
  simp [hk] at this
 | some i =>
  obtain ⟨hi,hx,hb⟩:=aiZ.mp h
  refine .inr ⟨l.take i,l[i],l.drop (i + 1),?_,by simpa using hx,fun hm=>?_,?_⟩
  ·rw [List.getElem_cons_drop,ajr]
  ·obtain ⟨y,hy,hk⟩:=ah0.mp hm
   obtain ⟨j,hj,rfl⟩:=ajs.mp hy
   have:=hb j (by omega)
   simp [hk] at this
  ·simp only [List.set_eq_take_append_cons_drop,hi,ah9]
theorem uw {l:List It} {x:It} (h:(ks l).Nodup):(ks (upd l x)).Nodup:=by
 rcases qW l x with ⟨hn,hu⟩ | ⟨a,y,c,rfl,hy,ha,hu⟩
 ·rw [hu]
  simp only [ks,aiY,ahO,ahV]
  refine ai4.mpr ⟨h,List.pairwise_singleton _ _,fun p hp q hq=>?_⟩
  rw [ait] at hq;subst hq;rintro rfl;exact hn hp
 ·rw [hu]
  have:ks (a ++ x :: c) = ks (a ++ y :: c):=by simp [ks,hy]
  rw [this];exact h
end
end Go.Proofs.Ytfokaoeinpnagaa.Kc
namespace Go.Proofs.Ytfokaoeinpnagaa.Kc.Ne
section
open Go Ev
variable {ext : Env} {F n:Nat} {θ:Th}
structure Nt where
 k:Qn
 nx:Bool
 s:Se
 u:Int
 deriving DecidableEq
def rN (x:Nt):List FV:=[.str x.k.q,.int .i64 x.k.t,.int .i64 x.k.c,.bool x.nx,.str x.s.q,.int .i64 x.s.t,.int .i64 x.s.c,.sl (x.s.d.map bB),.int .i64 x.s.ttl,.int .i64 x.u]
abbrev Nt.v (x:Nt):AV:=.agg [.f (.str x.k.q),.f (.int .i64 x.k.t),.f (.int .i64 x.k.c),.f (.bool x.nx),.f (.str x.s.q),.f (.int .i64 x.s.t),.f (.int .i64 x.s.c),.f (.sl (x.s.d.map bB)),.f (.int .i64 x.s.ttl),.f (.int .i64 x.u)]
abbrev _root_.Go.Proofs.Ytfokaoeinpnagaa.Kc.Qn.v (k:Qn):AV:=vq k.q k.t k.c
def nt0 : Nt:=⟨⟨⟨#[]⟩,0,0⟩,false,⟨⟨#[]⟩,0,0,[],0⟩,0⟩
structure On where
 o:Int
 now:Int
 k:Qn
 nx:Bool
 s:Se
abbrev On.v (x:On):AV:=.agg [.f (.int .i64 x.o),.f (.int .i64 x.now),.f (.str x.k.q),.f (.int .i64 x.k.t),.f (.int .i64 x.k.c),.f (.bool x.nx),.f (.str x.s.q),.f (.int .i64 x.s.t),.f (.int .i64 x.s.c),.f (.sl (x.s.d.map bB)),.f (.int .i64 x.s.ttl)]
structure Nv where
 room:Int
 m:List Nt
 o:List Qn
 ch:Int
structure Rn where
 room:Int
 l:List Nt
 ch:Int
abbrev kM : KS:=.agg [.str,.int .i64,.int .i64]
abbrev kq (k:Qn):KV:=.agg [.str k.q,.int .i64 k.t,.int .i64 k.c]
theorem FH {a b:Qn}:kq a = kq b ↔ a = b:=by
 constructor
 ·intro h;simp only [kq,KV.agg.injEq,aiW,SV.str.injEq,SV.int.injEq] at h
  cases a;cases b;simp_all
 ·rintro rfl;rfl
def old (l:List Nt) (k:Qn):Option Nt:=l.find? fun x=>decide (x.k = k)
def rid (l:List Nt) (k:Qn):List Nt:=l.eraseP fun x=>decide (x.k = k)
def ent (x:Nt):KV × FC:=(kq x.k,.agg (rN x))
theorem l6 (l:List Nt) (k:Qn):wo (l.map ent) (kq k) = l.findIdx? fun x=>decide (x.k = k):=by
 unfold wo
 rw [ai5,List.findIdx?_map]
 refine ah1 (fun p=>List.findIdx? p l) (funext fun x=>?_)
 simp only [Function.comp,ent]
 by_cases h:x.k = k
 ·simp [h]
 ·have:¬ kq x.k = kq k:=fun e=>h (FH.mp e)
  simp only [this,h,decide_false]
theorem pG (l:List Nt) (k:Qn):rD (l.map ent) (kq k) = (old l k).map fun x=>.agg (rN x):=by
 have hf:old l k = (l.findIdx? fun x=>decide (x.k = k)).bind fun i=>l[i]?:=List.find?_eq_bind_findIdx?_getElem? ..
 unfold rD
 rw [l6,hf]
 cases l.findIdx? fun x=>decide (x.k = k) with
 | none=>rfl
 | some i=>simp only [Option.bind_some,ahN];cases l[i]? <;> rfl
theorem xA (l:List Nt) (k:Qn):AL (l.map ent) (kq k) = (rid l k).map ent:=by
 unfold AL rid
 rw [l6,List.eraseP_eq_eraseIdx]
 cases l.findIdx? fun x=>decide (x.k = k) with
 | none=>rfl
 | some i=>simp [List.eraseIdx_eq_take_drop_succ,List.map_take,List.map_drop]
def upd (l:List Nt) (x:Nt):List Nt:=match l.findIdx? fun y=>decide (y.k = x.k) with
 | some i=>l.set i x
 | none=>l ++ [x]
theorem xB (l:List Nt) (x:Nt):wu (l.map ent) (kq x.k) (.agg (rN x)) = (upd l x).map ent:=by
 unfold wu upd
 rw [l6]
 cases l.findIdx? fun y=>decide (y.k = x.k) with
 | none=>simp [ent]
 | some i=>simp [ai0,ent]
abbrev ks (l:List Nt):List Qn:=l.map Nt.k
theorem lF {l:List Nt} {b:Qn} {x:Nt} (h:old l b = some x):x.k = b ∧ x ∈ l:=⟨by simpa using List.find?_some h,ajw h⟩
theorem sK {l:List Nt} {a:Qn}:(rid l a).Sublist l:=List.eraseP_sublist ..
theorem uq {l:List Nt} {a:Qn} (h:(ks l).Nodup):(ks (rid l a)).Nodup:=(sK.map _).nodup h
theorem qW (l:List Nt) (x:Nt):(x.k ∉ ks l ∧ upd l x = l ++ [x]) ∨ ∃ a y b,l = a ++ y :: b ∧ y.k = x.k ∧ x.k ∉ ks a ∧ upd l x = a ++ x :: b:=by
 unfold upd
 cases h:l.findIdx? fun y=>decide (y.k = x.k) with
 | none =>
  refine .inl ⟨fun hm=>?_,rfl⟩
  obtain ⟨y,hy,hk⟩:=ah0.mp hm
  have:=ajb.mp h y hy
  simp [hk] at this
 | some i =>
  obtain ⟨hi,hx,hb⟩:=aiZ.mp h
  refine .inr ⟨l.take i,l[i],l.drop (i + 1),?_,by simpa using hx,fun hm=>?_,?_⟩
  ·rw [List.getElem_cons_drop,ajr]
  ·obtain ⟨y,hy,hk⟩:=ah0.mp hm
   obtain ⟨j,hj,rfl⟩:=ajs.mp hy
   have:=hb j (by omega)
   simp [hk] at this
  ·simp only [List.set_eq_take_append_cons_drop,hi,ah9]
theorem uw {l:List Nt} {x:Nt} (h:(ks l).Nodup):(ks (upd l x)).Nodup:=by
 rcases qW l x with ⟨hn,hu⟩ | ⟨a,y,c,rfl,hy,ha,hu⟩
 ·rw [hu]
  simp only [ks,aiY,ahO,ahV]
  refine ai4.mpr ⟨h,List.pairwise_singleton _ _,fun p hp q hq=>?_⟩
  rw [ait] at hq;subst hq;rintro rfl;exact hn hp
 ·rw [hu]
  have:ks (a ++ x :: c) = ks (a ++ y :: c):=by simp [ks,hy]
  rw [this];exact h
theorem PW {l:List Nt} {x:Nt}:(upd l x).length ≤ l.length + 1:=by
 rcases qW l x with ⟨-,hu⟩ | ⟨a,y,c,rfl, -, -,hu⟩ <;> rw [hu] <;> simp
theorem PX {l:List Nt} {x y:Nt} (h:y ∈ upd l x):y = x ∨ y ∈ l:=by
 rcases qW l x with ⟨-,hu⟩ | ⟨a,z,c,rfl, -, -,hu⟩ <;> rw [hu] at h <;> simp at h ⊢
 ·rcases h with h | h <;> simp [h]
 ·rcases h with h | h | h <;> simp [h]
theorem xC : ∀ {g:List Qn} {l:List Nt},(g.foldl rid l).Sublist l
 | [],l=>ajm _
 | a :: g,l=>(xC (g:=g)).trans sK
abbrev Nv.v (s:Nv):AV:=.one (.ptr [.f (.int .i64 s.room),.mp kM (s.m.map ent),.f (.sl (s.o.map rQ)),.f (.int .i64 s.ch)])
abbrev Rn.v (s:Rn):AV:=.agg [.f (.int .i64 s.room),.f (.sl (s.l.map rN)),.f (.int .i64 s.ch)]
def nvo : Option Nv → AV
 | some s=>s.v
 | none=>.one .iD
theorem DW (s:Nv):nvo (some s) = s.v:=rfl
end
section
attribute [local go_sem_proc] Nat.reduceAdd Nat.reduceMul Nat.reduceEqDiff Nat.reduceBEq Nat.reduceMod Nat.reduceDiv reduceCtorEq
attribute [local go_sem_proc ↓] reduceIte
open Go Ev
variable {ext : Env} {F n:Nat} {θ:Th} {gt:ByteArray → Int → Int → Int × Bool}
structure uS (r:Bool) (gt:ByteArray → Int → Int → Int × Bool) (ext:Env):Prop where
 og:∀ s a z,s.size ≤ 1000000 → ext 80 [vs s,vi a,vi z] = some ([vi (gt s a z).1,vb (gt s a z).2],[vs s,vi a,vi z])
 rg:r = true → ∀ s a z,s.size ≤ 1000000 → ext 77 [vs s,vi a,vi z] = some ([vi (gt s a z).1,vb (gt s a z).2],[vs s,vi a,vi z])
 nn:∀ s a z,0 ≤ (gt s a z).1
theorem ZR {rg:Bool} (O:uS rg gt ext) (s:ByteArray) (a z:Int) (h:s.size ≤ 1000000):G ext F (n + 1) 80 [vs s,vi a,vi z] = some ([vi (gt s a z).1,vb (gt s a z).2],[vs s,vi a,vi z]):=(aik (iq rfl) _).trans (O.og s a z h)
theorem Ho (room:Int):G ext F (n + 1) 32 [vi room] = some ([nvo (if room < 1 ∨ 1000 < room then none else some ⟨room,[],[],0⟩)],[vi room]):=by
 refine dM (cf:=c32) rfl ?_
 dsimp only [c32,aA,cB,bq,bI,aG,bG,dV,eu,dH,aD,dn,dz,bP,aU];simp only [go_sem]
 repeat' (refine eZ (fun h=>?_) (fun h=>?_) <;> simp only [h,go_sem])
 all_goals (simp only [ahZ,aiz] at *)
 all_goals first | rw [ahC (by omega)] | rw [ahD (by omega)]
 all_goals rfl
theorem nJ (C:lD ext) (x:Nt) (hx:x.s.d.length ≤ 1000000):G ext F (n + 2) 59 [x.v] = some ([x.v],[x.v]):=by
 refine dM (cf:=c59) rfl ?_
 have h1:=fun n=>LX (F:=F) (n:=n) C x.s.d hx
 dsimp only [c59,aA,cB,bq,bI,aG,bG,dV,eu,dH,aD,dn,dz,bP,aU];simp only [h1,go_sem]
theorem DX (k:Qn):G ext F (n + 1) 58 [k.v] = some ([vq k.q 0 k.c],[k.v]):=by
 refine dM (cf:=c58) rfl ?_
 dsimp only [c58,aA,cB,bq,bI,aG,bG,dV,eu,dH,aD,dn,dz,bP,aU];simp only [go_sem]
abbrev _root_.Go.Proofs.Ytfokaoeinpnagaa.Kc.Qn.w (k:Qn):Qn:=⟨k.q,0,k.c⟩
def _root_.Go.Proofs.Ytfokaoeinpnagaa.Kc.Th.ask (θ:Th) (k:Qn):Bool:=θ.key k.q k.t k.c && !decide (k.t = 0)
theorem Ma {rb:Bool} (T:θ.CJ rb ext) (k:Qn) (hq:k.q.size ≤ 1000000):G ext F (n + 2) 56 [k.v] = some ([vb (θ.ask k)],[k.v]):=by
 refine dM (cf:=c56) rfl ?_
 have h1:=fun n=>SC (F:=F) (n:=n) T k.q hq
 have h2:=fun n=>LP (F:=F) (n:=n) T k.q hq
 dsimp only [c56,aA,cB,bq,bI,aG,bG,dV,eu,dH,aD,dn,dz,bP,aU];simp only [h1,h2,go_sem]
 repeat' (refine eZ (fun h=>?_) (fun h=>?_) <;> simp only [h,h1,h2,go_sem])
 all_goals clear h1 h2
 all_goals simp only [ahZ,aiz] at *
 all_goals (simp [Th.ask,Th.key, *])
 all_goals (try omega)
 all_goals (have a1:0 ≤ k.t:=by omega);(have a2:¬ k.t = 0:=by omega);simp [a1,a2]
def vK (θ:Th) (gt:ByteArray → Int → Int → Int × Bool) (x:Se):Int × Bool :=
 if θ.set x.q x.t x.c x.d x.ttl = true ∧ x.t = 6 then (if x.ttl < (gt (x.d.headD ⟨#[]⟩) ((x.d.headD ⟨#[]⟩).size - 4) 4).1 then x.ttl else (gt (x.d.headD ⟨#[]⟩) ((x.d.headD ⟨#[]⟩).size - 4) 4).1,true) else (0,false)
theorem Mc {x:Se} (h:θ.set x.q x.t x.c x.d x.ttl = true):∃ y d,x.d = y :: d:=by
 unfold Th.set at h
 rw [ahZ] at h
 exact List.exists_cons_of_ne_nil h.2.2.2
theorem FJ {rb:Bool} (T:θ.CJ rb ext) {rg:Bool} (O:uS rg gt ext) (x:Se) (hF:200000000000001 ≤ F) (hq:x.q.size ≤ 1000000) (hn:x.d.length ≤ 1000000) (hd:∀ y ∈ x.d,y.size ≤ 1000000):G ext F (n + 4) 55 [x.v] = some ([vi (vK θ gt x).1,vb (vK θ gt x).2],[x.v]):=by
 refine dM (cf:=XI) rfl ?_
 have h1:=fun n=>zX (F:=F) (n:=n) T x.q x.t x.c x.d x.ttl (by omega) hF hq hd
 by_cases h6:x.t = 6
 ·have h6':decide (x.t = 6) = true:=ahE h6
  cases hs:θ.set x.q x.t x.c x.d x.ttl with
  | false =>
   rw [hs] at h1
   have e:vK θ gt x = (0,false):=by unfold vK;rw [hs];rfl
   rw [e]
   dsimp only [XI,aA,cB,bq,bI,aG,bG,dV,eu,dH,aD,dn,dz,bP,aU];simp only [h1,h6',go_sem]
  | true =>
   rw [hs] at h1
   obtain ⟨y,ds,hy⟩:=Mc hs
   have e:vK θ gt x = (if x.ttl < (gt y (y.size - 4) 4).1 then x.ttl else (gt y (y.size - 4) 4).1,true):=by unfold vK;rw [ahC ⟨hs,h6⟩,hy];rfl
   rw [e]
   have hys:=hd y (by rw [hy];simp)
   have hw:IntKind.i64.wrap ((y.size:Int) - 4) = y.size - 4:=nY (by omega) (by omega)
   have hg:=fun n=>ZR (F:=F) (n:=n) O y (y.size - 4) 4 hys
   simp only [Se.v,vJ,hy,ahO,bB] at h1 ⊢
   dsimp only [XI,aA,cB,bq,bI,aG,bG,dV,eu,dH,aD,dn,dz,bP,aU];simp only [h1,h6',ahO,List.getElem?_cons_zero,bB,hw,hg,Int.toNat_zero,go_sem]
   exact ⟨aiw _,by rw [hy];rfl⟩
 ·have h6':decide (x.t = 6) = false:=ahH h6
  have e:vK θ gt x = (0,false):=by unfold vK;rw [ahD (fun h=>h6 h.2)]
  rw [e]
  dsimp only [XI,aA,cB,bq,bI,aG,bG,dV,eu,dH,aD,dn,dz,bP,aU];simp only [h6',go_sem]
end
section
open Go Ev
variable {ext : Env} {F n:Nat} {θ:Th} {gt:ByteArray → Int → Int → Int × Bool}
def ofR (o:Option Nt):Nt × Bool:=match o with
 | some x=>(x,true)
 | none=>(nt0,false)
abbrev kn (nx:Bool) (k:Qn):Qn:=if nx then k.w else k
def _root_.Go.Proofs.Ytfokaoeinpnagaa.Kc.Th.narg (θ:Th) (gt:ByteArray → Int → Int → Int × Bool) (s:Rn) (now:Int) (k:Qn) (x:Se):Prop:=s.room = 0 ∨ Po now = false ∨ (vK θ gt x).2 = false ∨ θ.key k.q k.t k.c = false ∨ k.t = 0
instance {s : Rn} {now:Int} {k:Qn} {x:Se}:Decidable (θ.narg gt s now k x):=by unfold Th.narg;infer_instance
end
section
attribute [local go_sem_proc] Nat.reduceAdd Nat.reduceMul Nat.reduceEqDiff Nat.reduceBEq Nat.reduceMod Nat.reduceDiv reduceCtorEq
attribute [local go_sem_proc ↓] reduceIte
open Go Ev
variable {ext : Env} {F n:Nat} {θ:Th} {gt:ByteArray → Int → Int → Int × Bool}
def nof (m:List Nt) (now:Int) (k:Qn):Option Nt:=match old m k with
 | some x=>if l5 now x.u then some x else none
 | none=>none
def gq (s:Nv) (now:Int) (k:Qn):Nt × Bool:=match nof s.m now k.w with
 | some x=>(x,true)
 | none=>ofR (nof s.m now k)
theorem Md (C:lD ext) (s:Nv) (now:Int) (k:Qn) (hF:200000000000001 ≤ F) (hd:∀ x ∈ s.m,x.s.d.length ≤ 1000000):G ext F (n + 3) 63 [s.v,vi now,k.v] = some ([(gq s now k).1.v,vb (gq s now k).2],[s.v,vi now,k.v]):=by
 refine dM (cf:=c63) rfl ?_
 have hw:=fun n=>DX (ext:=ext) (F:=F) (n:=n) k
 dsimp only [c63,aA,cB,bq,bI,aG,bG,dV,eu,dH,aD,dn,dz,bP,aU];simp only [hw,go_sem]
 refine lZ 2 (fun i=>⟨[(0,PV.c (CV.one (PL.ptr 20201 0))),(1,PV.c (CV.one (PL.f (FV.int IntKind.i64 now)))),(6,PV.c (CV.one (PL.ptr 140000 0))),(18,PV.c (CV.one (PL.own 380000 2))),(19,PV.c (CV.one (PL.f (FV.int IntKind.i64 ((2:Nat):Int))))),(20,PV.c (CV.one (PL.f (FV.int IntKind.i64 (i:Int)))))],[(20201,Ob.eY [PL.f (FV.int IntKind.i64 s.room),PL.mp 20205,PL.f (FV.sl (List.map rQ s.o)),PL.f (FV.int IntKind.i64 s.ch)]),(20205,Ob.map kM (List.map ent s.m)),(140000,Ob.eY [PL.f (FV.str ⟨#[]⟩),PL.f (FV.int IntKind.i64 0),PL.f (FV.int IntKind.i64 0),PL.f (FV.bool false),PL.f (FV.str ⟨#[]⟩),PL.f (FV.int IntKind.i64 0),PL.f (FV.int IntKind.i64 0),PL.bT,PL.f (FV.int IntKind.i64 0),PL.f (FV.int IntKind.i64 0)]),(380000,Ob.row 3 [[FV.str k.q,FV.int IntKind.i64 0,FV.int IntKind.i64 k.c],[FV.str k.q,FV.int IntKind.i64 k.t,FV.int IntKind.i64 k.c]])]⟩) (fun i=>(1 ≤ i → nof s.m now k.w = none) ∧ (2 ≤ i → nof s.m now k = none)) (by omega) rfl ⟨by omega,by omega⟩ (fun i hi hP=>?_) (fun hP=>?_)
 ·rcases (show i = 0 ∨ i = 1 by omega) with rfl | rfl
  ·skip
   have hlt:decide (((0:Nat):Int) < ((2:Nat):Int)) = true:=by decide
   have ht:((0:Nat):Int).toNat = 0:=rfl
   have h0:(0:Int) ≤ ((0:Nat):Int):=by decide
   have hn':IntKind.i64.wrap (((0:Nat):Int) + 1) = ((0 + 1:Nat):Int):=by rw [nY (by omega) (by omega)];rfl
   have hk1:=pG s.m k.w
   simp only [kq] at hk1
   have hcl:=fun n x hx=>nJ (F:=F) (n:=n) C x hx
   cases hold:old s.m k.w with
   | none =>
    rw [hold] at hk1
    simp only [hlt,ht,h0,hn',List.getElem?_cons_zero,List.getElem?_cons_succ,hk1,Option.map_none,Option.isSome_none,go_sem]
    first | exact ⟨by decide,fun _=>by unfold nof;simp [hold, *],by omega⟩ | exact ⟨by decide,rfl,fun _=>by unfold nof;simp [hold, *],by omega⟩
   | some x =>
    rw [hold] at hk1
    have hcl:=fun n=>nJ (F:=F) (n:=n) C x (hd x (lF hold).2)
    cases hv:l5 now x.u with
    | false =>
     simp only [hlt,ht,h0,hn',List.getElem?_cons_zero,List.getElem?_cons_succ,hk1,Option.map_some,Option.isSome_some,rN,jm,hv,go_sem]
     first | exact ⟨by decide,fun _=>by unfold nof;simp [hold, *],by omega⟩ | exact ⟨by decide,rfl,fun _=>by unfold nof;simp [hold, *],by omega⟩
    | true =>
     simp only [hlt,ht,h0,hn',List.getElem?_cons_zero,List.getElem?_cons_succ,hk1,Option.map_some,Option.isSome_some,rN,jm,hv,hcl,go_sem]
     have e:gq s now k = (x,true):=by unfold gq nof;rw [hold];simp [hv]
     rw [e]
     exact ⟨by decide,rfl⟩
  ·have hp:=hP.1 (by decide)
   have hlt:decide (((1:Nat):Int) < ((2:Nat):Int)) = true:=by decide
   have ht:((1:Nat):Int).toNat = 1:=rfl
   have h0:(0:Int) ≤ ((1:Nat):Int):=by decide
   have hn':IntKind.i64.wrap (((1:Nat):Int) + 1) = ((1 + 1:Nat):Int):=by rw [nY (by omega) (by omega)];rfl
   have hk1:=pG s.m k
   simp only [kq] at hk1
   have hcl:=fun n x hx=>nJ (F:=F) (n:=n) C x hx
   cases hold:old s.m k with
   | none =>
    rw [hold] at hk1
    simp only [hlt,ht,h0,hn',List.getElem?_cons_zero,List.getElem?_cons_succ,hk1,Option.map_none,Option.isSome_none,go_sem]
    first | exact ⟨by decide,fun _=>hp,fun _=>by unfold nof;simp [hold, *]⟩ | exact ⟨by decide,rfl,fun _=>hp,fun _=>by unfold nof;simp [hold, *]⟩
   | some x =>
    rw [hold] at hk1
    have hcl:=fun n=>nJ (F:=F) (n:=n) C x (hd x (lF hold).2)
    cases hv:l5 now x.u with
    | false =>
     simp only [hlt,ht,h0,hn',List.getElem?_cons_zero,List.getElem?_cons_succ,hk1,Option.map_some,Option.isSome_some,rN,jm,hv,go_sem]
     first | exact ⟨by decide,fun _=>hp,fun _=>by unfold nof;simp [hold, *]⟩ | exact ⟨by decide,rfl,fun _=>hp,fun _=>by unfold nof;simp [hold, *]⟩
    | true =>
     simp only [hlt,ht,h0,hn',List.getElem?_cons_zero,List.getElem?_cons_succ,hk1,Option.map_some,Option.isSome_some,rN,jm,hv,hcl,go_sem]
     have e:gq s now k = (x,true):=by unfold gq;rw [hp];unfold nof;rw [hold];simp [hv,ofR]
     rw [e]
     exact ⟨by decide,rfl⟩
 ·have hp1:=hP.1 (by decide)
  have hp2:=hP.2 (by decide)
  have hlt:decide (((2:Nat):Int) < ((2:Nat):Int)) = false:=by decide
  have e:gq s now k = (nt0,false):=by unfold gq;rw [hp1,hp2];rfl
  rw [e]
  simp only [hlt,go_sem]
  rfl
def qX (θ:Th) (gt:ByteArray → Int → Int → Int × Bool) (s:Nv) (now:Int) (k:Qn) (nx:Bool) (x:Se):Nv × Int :=
 if (vK θ gt x).2 = false ∨ fF now (vK θ gt x).1 = -1 ∨ θ.ask k = false then (s,1)
 else if l5 now (fF now (vK θ gt x).1) = false then (s,14)
 else
  let t:=CK s.o (kn nx k) ++ [kn nx k]
  (⟨s.room,(t.take (t.length - s.room.toNat)).foldl rid (upd s.m ⟨kn nx k,nx,x,fF now (vK θ gt x).1⟩),t.drop (t.length - s.room.toNat),s.ch + 1⟩,0)
theorem Hq {rb:Bool} (T:θ.CJ rb ext) {rg:Bool} (O:uS rg gt ext) (C:lD ext) (s:Nv) (now:Int) (k:Qn) (qK:Bool) (x:Se) (hF:200000000000001 ≤ F) (hr1:0 ≤ s.room ∧ s.room ≤ 1000000) (hc:0 ≤ s.ch ∧ s.ch ≤ 1000000000000) (ho:s.o.length ≤ 100000) (hk:k.q.size ≤ 1000000) (hq:x.q.size ≤ 1000000) (hn:x.d.length ≤ 1000000) (hd:∀ y ∈ x.d,y.size ≤ 1000000):G ext F (n + 6) 33 [s.v,vi now,k.v,vb qK,x.v] = some ([vi (qX θ gt s now k qK x).2],[(qX θ gt s now k qK x).1.v,vi now,k.v,vb qK,x.v]):=by
 refine dM (cf:=Sz) rfl ?_
 have h1:=fun n=>FJ (F:=F) (n:=n) T O x hF hq hn hd
 have h2:=fun n=>Ma (F:=F) (n:=n) T k hk
 have hu:=fun n t=>xk (ext:=ext) (F:=F) (n:=n) now t
 cases hm2:(vK θ gt x).2 with
 | false =>
  rw [hm2] at h1
  have e:qX θ gt s now k qK x = (s,1):=by unfold qX;exact ahC (.inl hm2)
  rw [e]
  dsimp only [Sz,aA,cB,bq,bI,aG,bG,dV,eu,dH,aD,dn,dz,bP,aU];simp only [h1,hu,go_sem]
 | true =>
 rw [hm2] at h1
 by_cases hun:fF now (vK θ gt x).1 = -1
 ·have e:qX θ gt s now k qK x = (s,1):=by unfold qX;exact ahC (.inr (.inl hun))
  rw [e]
  have hun':decide (fF now (vK θ gt x).1 = -1) = true:=ahE hun
  dsimp only [Sz,aA,cB,bq,bI,aG,bG,dV,eu,dH,aD,dn,dz,bP,aU];simp only [h1,hu,hun',go_sem]
 have hun':decide (fF now (vK θ gt x).1 = -1) = false:=ahH hun
 cases ha:θ.ask k with
 | false =>
  have e:qX θ gt s now k qK x = (s,1):=by unfold qX;exact ahC (.inr (.inr ha))
  rw [e]
  rw [ha] at h2
  dsimp only [Sz,aA,cB,bq,bI,aG,bG,dV,eu,dH,aD,dn,dz,bP,aU];simp only [h1,h2,hu,hun',go_sem]
 | true =>
 rw [ha] at h2
 have hno:¬ ((vK θ gt x).2 = false ∨ fF now (vK θ gt x).1 = -1 ∨ θ.ask k = false):=by rw [hm2,ha];simp [hun]
 cases hl:l5 now (fF now (vK θ gt x).1) with
 | false =>
  have e:qX θ gt s now k qK x = (s,14):=by unfold qX;rw [ahD hno,ahC hl]
  rw [e]
  dsimp only [Sz,aA,cB,bq,bI,aG,bG,dV,eu,dH,aD,dn,dz,bP,aU];simp only [h1,h2,hu,hun',jm,hl,go_sem]
 | true =>
 have e:qX θ gt s now k qK x = (⟨s.room,((CK s.o (kn qK k) ++ [kn qK k]).take ((CK s.o (kn qK k) ++ [kn qK k]).length - s.room.toNat)).foldl rid (upd s.m ⟨kn qK k,qK,x,fF now (vK θ gt x).1⟩),(CK s.o (kn qK k) ++ [kn qK k]).drop ((CK s.o (kn qK k) ++ [kn qK k]).length - s.room.toNat),s.ch + 1⟩,0):=by
  unfold qX;rw [ahD hno,ahD (by rw [hl];decide)]
 rw [e]
 have hu':=fun n=>hu n (vK θ gt x).1
 generalize fF now (vK θ gt x).1 = u at hu' hun' hl ⊢
 have hw:IntKind.i64.wrap (s.ch + 1) = s.ch + 1:=nY (by omega) (by omega)
 have hwh:=fun n=>DX (ext:=ext) (F:=F) (n:=n) k
 have hcl:=fun n=>nJ (ext:=ext) (F:=F) (n:=n) C ⟨kn qK k,qK,x,u⟩ hn
 have hqq:=@sJ s.o (kn qK k)
 have ht:=fun n=>DT (ext:=ext) (F:=F) (n:=n) C s.o (kn qK k) (by omega) hF
 have hct:=fun n=>LZ (ext:=ext) (F:=F) (n:=n) C (CK s.o (kn qK k) ++ [kn qK k]) s.room (by simp;omega) (by omega) hF
 have hup:=xB s.m ⟨kn qK k,qK,x,u⟩
 simp only [kq,rN] at hup
 generalize Yc:CK s.o (kn qK k) ++ [kn qK k] = t at ht hct ⊢
 generalize t.drop (t.length - s.room.toNat) = td at hct ⊢
 generalize ZO:t.take (t.length - s.room.toNat) = tt at hct ⊢
 have htl:tt.length ≤ 1000000:=by rw [← ZO,ahS,← Yc,ahJ,List.length_singleton];omega
 generalize hM:upd s.m ⟨kn qK k,qK,x,u⟩ = M at hup ⊢
 cases qK
 all_goals
  simp only [kn,ah9,ahW,ah7] at hup ht hct hcl
  dsimp only [Sz,aA,cB,bq,bI,aG,bG,dV,eu,dH,aD,dn,dz,bP,aU];simp only [h1,h2,hu',hun',jm,hl,hwh,hcl,ht,hct,hup,hw,go_sem]
  refine lZ tt.length (fun i=>⟨[(0,PV.c (CV.one (PL.ptr 20201 0))),(14,PV.c (CV.one (PL.f (FV.sl (List.map rQ td))))),(75,PV.c (CV.one (PL.f (FV.sl (List.map rQ tt))))),(76,PV.c (CV.one (PL.f (FV.int IntKind.i64 ↑(List.map rQ tt).length)))),(77,PV.c (CV.one (PL.f (FV.int IntKind.i64 i))))],[(20201,Ob.eY [PL.f (FV.int IntKind.i64 s.room),PL.mp 20205,PL.f (FV.sl (List.map rQ s.o)),PL.f (FV.int IntKind.i64 s.ch)]),(20205,Ob.map kM (((tt.take i).foldl rid M).map ent))]⟩) (fun _=>True) (by omega) rfl trivial (fun i hi _=>?_) (fun _=>?_)
  ·obtain ⟨k',hx,hlt,hit,h00⟩:=at_ hi
   have hn':=nx hi (by omega)
   have hdl:=xA ((tt.take i).foldl rid M) k'
   have hfo:(tt.take (i + 1)).foldl rid M = rid ((tt.take i).foldl rid M) k':=by rw [aiD,hx,ajt];rfl
   simp only [ahF,ahN,hlt,hx,hit,h00,hn',rQ,hdl,go_sem]
   rw [hfo]
  ·have hd:=@end_ _ tt
   simp only [ahF,hd,hw,aiv,go_sem]
end
end Go.Proofs.Ytfokaoeinpnagaa.Kc.Ne
namespace Go.Proofs.Ytfokaoeinpnagaa.Ev
open Go
section
variable {Γ : Env} {F s sm:Nat} {ks os k6:List Nat} {g4 g6:List G} {ca cb cc:CC} {cf:CF} {dW:List AV} {mM:List CV} {σ:St} {kk:KV}
def XJ : Out → (Unit → Prop) → (Unit → Prop) → Prop
 | .ret,A,_=>A ()
 | .iP,_,B=>B ()
 | .ext _,_,_=>False
@[go_sem] theorem acs {A B:Unit → Prop}:XJ .ret A B ↔ A ():=ahI
@[go_sem] theorem acu {A B:Unit → Prop}:XJ .iP A B ↔ B ():=ahI
def kB : Option Ob → Option (List KV)
 | some (.map _ ents)=>some (ents.map (·.1))
 | _=>none
def kA (os:List Nat) (ob:List (Nat × Ob)):Option PV → Option (List KV)
 | some (.c (.one (.mp key)))=>if os.contains key then none else kB (get ob key)
 | _=>none
@[go_sem] theorem aeE {sh:KS} {ents:List (KV × FC)}:kB (some (.map sh ents)) = some (ents.map (·.1)):=rfl
@[go_sem] theorem XK : FM σ os s = kA os σ.ob (get σ.tm s):=rfl
@[go_sem] theorem ZV : DY ks os σ = ⟨pick ks σ.tm,pick os σ.ob⟩:=rfl
@[go_sem ↓] theorem ags {k:List AV × List AV → Prop} {u:Tok k}:W k u (fin cf mM dW σ) ↔ W (fun b=>W (fun l=>W (fun r=>k (r.1,b.1)) ⟨⟩ (lW cf.ro b.2 l)) ⟨⟩ (slots b.2 cf.res)) ⟨⟩ (jL σ mM dW):=by
 simp only [fin,dL,aK,bO]
@[go_sem ↓] theorem acv {k:St → Prop} {u:Tok k}:W k u (Hr Γ F ks os s g6 k6 cb σ kk) ↔ W (fun t=>W (fun p=>p.1 = .iP ∧ k (DY ks os p.2)) ⟨⟩ (ev Γ F cb ⟨pick k6 t.tm,t.ob⟩)) ⟨⟩ (vH Γ false g6 ⟨put σ.tm s (.c (kvC kk)),σ.ob⟩):=by
 simp only [Hr,dL,aK]
 refine bX fun t=>bX fun p=>?_
 obtain ⟨o,σ'⟩:=p
 cases o <;> simp [jh,bg]
@[go_sem ↓] theorem aeF {k:List AV × List AV → Prop} {u:Tok k}:W k u (ZU Γ F ca g4 sm ks os s g6 k6 cb cc cf dW) ↔ dW.length = cf.np ∧ W (fun e=>W (fun p=>XJ p.1 (fun _=>W k ⟨⟩ (fin cf e.1 dW p.2)) (fun _=>W (fun t=>W (fun l=>W (fun t=>W (fun q=>(∀ id,q.1 ≠ .ext id) ∧ W k ⟨⟩ (fin cf e.1 dW q.2)) ⟨⟩ (ev Γ F cc t)) ⟨⟩ (SG (Hr Γ F ks os s g6 k6 cb) (DY ks os t) l)) ⟨⟩ (FM t os sm)) ⟨⟩ (vH Γ false g4 p.2))) ⟨⟩ (ev Γ F ca e.2)) ⟨⟩ (enter cf.bo 0 [] ⟨[],[]⟩ dW):=by
 simp only [ZU,dL,bZ,aK,ne_eq,ail]
 refine aiU ahI (bX fun e=>bX fun p=>?_)
 obtain ⟨o,σ'⟩:=p
 cases o with
 | ext i=>simp [jh,XJ]
 | ret=>simp only [XJ]
 | iP =>
  simp only [XJ,aK]
  refine bX fun t=>bX fun l=>bX fun t'=>bX fun q=>?_
  obtain ⟨o,σ'⟩:=q
  cases o <;> simp [jh]
end
end Go.Proofs.Ytfokaoeinpnagaa.Ev
namespace Go.Proofs.Ytfokaoeinpnagaa.Kc.Ne
open Go Ev
variable {ext : Env} {F n:Nat} {θ:Th} {gt:ByteArray → Int → Int → Int × Bool}
end Go.Proofs.Ytfokaoeinpnagaa.Kc.Ne
namespace Go.Proofs.Ytfokaoeinpnagaa.Kc
section
attribute [local go_sem_proc] Nat.reduceAdd Nat.reduceMul Nat.reduceEqDiff Nat.reduceBEq Nat.reduceMod Nat.reduceDiv reduceCtorEq
attribute [local go_sem_proc ↓] reduceIte
open Go Ev
variable {ext : Env} {F n:Nat} {θ:Th}
def uT (now u:Int):Int:=if l5 now u = true then (if 604800 < u - now then 604800 else u - now) else 0
def PY (r:Int):Bool:=decide (3 ≤ r ∧ r ≤ 5)
theorem PZ {now u:Int} (h:l5 now u = true) (hu:u ≤ 4611686018427387904):IntKind.i64.wrap (u - now) = u - now:=by
 unfold l5 Po at h
 simp only [ahK,ahZ] at h
 exact nY (by omega) (by omega)
theorem Ht (now u:Int) (hu:u ≤ 4611686018427387904):G ext F (n + 3) 62 [vi now,vi u] = some ([vi (uT now u)],[vi now,vi u]):=by
 refine dM (cf:=ZH) rfl ?_
 cases h:l5 now u with
 | false =>
  have e:uT now u = 0:=by unfold uT;rw [h];rfl
  rw [e]
  dsimp only [ZH,aA,cB,bq,bI,aG,bG,dV,eu,dH,aD,dn,dz,bP,aU];simp only [jm,h,go_sem]
 | true =>
  have e:uT now u = if 604800 < u - now then 604800 else u - now:=by unfold uT;rw [h];rfl
  have hw:=PZ h hu
  rw [e]
  dsimp only [ZH,aA,cB,bq,bI,aG,bG,dV,eu,dH,aD,dn,dz,bP,aU];simp only [jm,h,hw,go_sem]
theorem D5 (r:Int):G ext F (n + 2) 61 [vi r] = some ([vb (PY r)],[vi r]):=by
 refine dM (cf:=c61) rfl ?_
 dsimp only [c61,aA,cB,bq,bI,aG,bG,dV,eu,dH,aD,dn,dz,bP,aU];simp only [Fx,go_sem]
 all_goals (simp [PY])
structure vW where
 s:Se
 left:Int
def Jg : Se:=⟨⟨#[]⟩,0,0,[],0⟩
def oh : vW:=⟨Jg,0⟩
structure Ch where
 hits:List vW
 e:Int
 nm:ByteArray
 Jh:vW
def rH (x:vW):List FV:=[.str x.s.q,.int .i64 x.s.t,.int .i64 x.s.c,.sl (x.s.d.map bB),.int .i64 x.s.ttl,.int .i64 x.left]
abbrev vW.v (x:vW):AV:=.agg [.f (.str x.s.q),.f (.int .i64 x.s.t),.f (.int .i64 x.s.c),.f (.sl (x.s.d.map bB)),.f (.int .i64 x.s.ttl),.f (.int .i64 x.left)]
abbrev Ch.v (x:Ch):AV:=.agg [.f (.sl (x.hits.map rH)),.f (.int .i64 x.e),.f (.str x.nm),.f (.str x.Jh.s.q),.f (.int .i64 x.Jh.s.t),.f (.int .i64 x.Jh.s.c),.f (.sl (x.Jh.s.d.map bB)),.f (.int .i64 x.Jh.s.ttl),.f (.int .i64 x.Jh.left)]
def tl (pk:Qn → It × Bool) (now:Int) (q:Qn):Option vW:=if (pk q).2 = true ∧ PY (pk q).1.r = true then some ⟨⟨(pk q).1.q,(pk q).1.t,(pk q).1.c,(pk q).1.d,(pk q).1.ttl⟩,uT now (pk q).1.u⟩ else none
def tg (nm:Int → ByteArray → List ByteArray) (s:Se):Option ByteArray:=if s.t = 5 then s.d.head?.bind fun d=>(nm 5 d).head? else none
def al (nm:Int → ByteArray → List ByteArray) (pk:Qn → It × Bool) (now:Int) (q:Qn):Option (vW × ByteArray):=if q.t = 5 then none else (tl pk now ⟨q.q,5,q.c⟩).bind fun h=>(tg nm h.s).map fun ZZ8=>(h,ZZ8)
def fin (fd:Qn → Ne.Nt × Bool) (now:Int) (hits:List vW) (q:Qn):Ch:=if (fd q).2 = true then ⟨hits,if (fd q).1.nx = true then 2 else 1,q.q,⟨(fd q).1.s,uT now (fd q).1.u⟩⟩ else ⟨hits,3,q.q,oh⟩
def CO (nm:Int → ByteArray → List ByteArray) (pk:Qn → It × Bool) (fd:Qn → Ne.Nt × Bool) (now:Int):Nat → List ByteArray → List vW → Qn → Ch
 | 0,_,hits,q=>⟨hits,4,q.q,oh⟩
 | f + 1,met,hits,q=>match tl pk now q with
  | some h=>⟨hits ++ [h],0,q.q,oh⟩
  | none=>match al nm pk now q with
   | none=>fin fd now hits q
   | some (h,ZZ8)=>if 8 ≤ hits.length ∨ xu met ZZ8 = true then ⟨hits ++ [h],4,q.q,oh⟩ else CO nm pk fd now f (met ++ [ZZ8]) (hits ++ [h]) ⟨ZZ8,q.t,q.c⟩
def yN (nm:Int → ByteArray → List ByteArray) (pk:Qn → It × Bool) (fd:Qn → Ne.Nt × Bool) (now:Int) (q:Qn):Ch:=CO nm pk fd now 9 [q.q] [] q
end
section
attribute [local go_sem_proc] Nat.reduceAdd Nat.reduceMul Nat.reduceEqDiff Nat.reduceBEq Nat.reduceMod Nat.reduceDiv reduceCtorEq
attribute [local go_sem_proc ↓] reduceIte
open Go Ev
variable {ext : Env} {F n:Nat} {θ:Th} {nm:Int → ByteArray → List ByteArray}
structure xD (r:Bool) (nm:Int → ByteArray → List ByteArray) (ext:Env):Prop where
 n0:∀ k q,q.size ≤ 1000000 → ext 29 [vi k,vs q] = some ([vl ((nm k q).map bB)],[vi k,vs q])
 n1:r = true → ∀ k q,q.size ≤ 1000000 → ext 30 [vi k,vs q] = some ([vl ((nm k q).map bB)],[vi k,vs q])
theorem SH {rm:Bool} (M:xD rm nm ext) (k:Int) (q:ByteArray) (h:q.size ≤ 1000000):G ext F (n + 1) 29 [vi k,vs q] = some ([vl ((nm k q).map bB)],[vi k,vs q]):=(aik (iq rfl) _).trans (M.n0 k q h)
def FP (nm:Int → ByteArray → List ByteArray) (s:Se):ByteArray × Bool:=match tg nm s with
 | some x=>(x,true)
 | none=>(⟨#[]⟩,false)
theorem SI {s:Se} (h:s.t ≠ 5):FP nm s = (⟨#[]⟩,false):=by unfold FP tg;rw [ahD h]
theorem Vt {s:Se} (h:s.d = []):FP nm s = (⟨#[]⟩,false):=by unfold FP tg;rw [h];by_cases h5:s.t = 5 <;> simp [h5]
theorem P5 {s:Se} {y:ByteArray} {d:List ByteArray} (h5:s.t = 5) (h:s.d = y :: d) (hn:nm 5 y = []):FP nm s = (⟨#[]⟩,false):=by unfold FP tg;rw [ahC h5,h];show (match ((nm 5 y).head?:Option ByteArray) with | some x=>(x,true) | none=>(⟨#[]⟩,false)) = _;rw [hn];rfl
theorem P6 {s:Se} {y z:ByteArray} {d l:List ByteArray} (h5:s.t = 5) (h:s.d = y :: d) (hn:nm 5 y = z :: l):FP nm s = (z,true):=by unfold FP tg;rw [ahC h5,h];show (match ((nm 5 y).head?:Option ByteArray) with | some x=>(x,true) | none=>(⟨#[]⟩,false)) = _;rw [hn];rfl
theorem Ji {rm:Bool} (M:xD rm nm ext) (s:Se) (hd:∀ y ∈ s.d,y.size ≤ 1000000):G ext F (n + 2) 10 [s.v] = some ([vs (FP nm s).1,vb (FP nm s).2],[s.v]):=by
 refine dM (cf:=c10) rfl ?_
 by_cases h5:s.t = 5
 ·have h5':decide (s.t = 5) = true:=ahE h5
  cases hy:s.d with
  | nil =>
   rw [Vt hy]
   simp only [Se.v,vJ,hy,ahV]
   dsimp only [c10,aA,cB,bq,bI,aG,bG,dV,eu,dH,aD,dn,dz,bP,aU];simp only [h5',List.length_nil,show decide (((0:Nat):Int) = 0) = true from rfl,go_sem]
   simp [hy]
  | cons y ds =>
   have hlen:decide ((((List.map bB ds).length + 1:Nat):Int) = 0) = false:=by simp;omega
   have h1:=fun n=>SH (F:=F) (n:=n) M 5 y (hd y (by rw [hy];simp))
   cases hz:nm 5 y with
   | nil =>
    rw [P5 h5 hy hz]
    rw [hz] at h1
    simp only [Se.v,vJ,hy,ahO,ahV,bB] at h1 ⊢
    dsimp only [c10,aA,cB,bq,bI,aG,bG,dV,eu,dH,aD,dn,dz,bP,aU];simp only [h5',hlen,h1,List.getElem?_cons_zero,Int.toNat_zero,List.length_nil,show decide (((0:Nat):Int) = 0) = true from rfl,go_sem]
    exact ⟨aiw _,by simp [hy,bB]⟩
   | cons z zs =>
    rw [P6 h5 hy hz]
    rw [hz] at h1
    have ZW:decide ((((List.map bB zs).length + 1:Nat):Int) = 0) = false:=by simp;omega
    simp only [Se.v,vJ,hy,ahO,bB] at h1 ⊢
    dsimp only [c10,aA,cB,bq,bI,aG,bG,dV,eu,dH,aD,dn,dz,bP,aU];simp only [h5',hlen,ZW,h1,List.getElem?_cons_zero,Int.toNat_zero,go_sem]
    exact ⟨aiw _,aiw _,by simp [hy,bB]⟩
 ·have h5':decide (s.t = 5) = false:=ahH h5
  rw [SI h5]
  dsimp only [c10,aA,cB,bq,bI,aG,bG,dV,eu,dH,aD,dn,dz,bP,aU];simp only [h5',go_sem]
abbrev Sv.tv (s:Sv):TV:=.ptr [.f (.int .i64 s.room),.mp kM (s.m.map ent),.f (.sl (s.o.map rQ)),.f (.int .i64 s.ch)]
abbrev nvt (s:Ne.Nv):TV:=.ptr [.f (.int .i64 s.room),.mp Ne.kM (s.m.map Ne.ent),.f (.sl (s.o.map rQ)),.f (.int .i64 s.ch)]
abbrev XL (s:Sv) (m:Ne.Nv) (now:Int):AV:=.agg [s.tv,nvt m,.f (.int .i64 now)]
def Hu (pk:Qn → It × Bool) (now:Int) (q:Qn):vW × Bool:=match tl pk now q with
 | some h=>(h,true)
 | none=>(oh,false)
theorem D6 (C:lD ext) (s:Sv) (m:Ne.Nv) (now:Int) (q:Qn) (hd:∀ x ∈ s.m,x.d.length ≤ 1000000) (hu:∀ x ∈ s.m,x.u ≤ 4611686018427387904):G ext F (n + 4) 34 [XL s m now,q.v] = some ([(Hu (bF s now) now q).1.v,vb (Hu (bF s now) now q).2],[XL s m now,q.v]):=by
 refine dM (cf:=c34) rfl ?_
 have h1:=fun n=>Hl (ext:=ext) (F:=F) (n:=n) C s now q hd
 have hlu:=fun n=>Ht (ext:=ext) (F:=F) (n:=n) now (bF s now q).1.u (by
  unfold bF
  split
  ·rename_i x ho
   split
   ·exact hu x (lF ho).2
   ·show (0:Int) ≤ _;omega
  ·show (0:Int) ≤ _;omega)
 unfold Hu tl
 cases hv:(bF s now q).2 with
 | false =>
  rw [hv] at h1
  dsimp only [c34,aA,cB,bq,bI,aG,bG,dV,eu,dH,aD,dn,dz,bP,aU];simp only [h1,go_sem]
  rfl
 | true =>
  rw [hv] at h1
  cases ht:PY (bF s now q).1.r with
  | false =>
   dsimp only [c34,aA,cB,bq,bI,aG,bG,dV,eu,dH,aD,dn,dz,bP,aU];simp only [h1,D5,ht,go_sem]
   rfl
  | true =>
   dsimp only [c34,aA,cB,bq,bI,aG,bG,dV,eu,dH,aD,dn,dz,bP,aU];simp only [h1,D5,ht,hlu,go_sem]
def SL (nm:Int → ByteArray → List ByteArray) (pk:Qn → It × Bool) (now:Int) (q:Qn):vW × (ByteArray × Bool):=if q.t = 5 then (oh,(⟨#[]⟩,false)) else ((Hu pk now ⟨q.q,5,q.c⟩).1,FP nm (Hu pk now ⟨q.q,5,q.c⟩).1.s)
theorem Mg {rm:Bool} (M:xD rm nm ext) (C:lD ext) (s:Sv) (m:Ne.Nv) (now:Int) (q:Qn) (hd:∀ x ∈ s.m,x.d.length ≤ 1000000) (hu:∀ x ∈ s.m,x.u ≤ 4611686018427387904) (hy:∀ x ∈ s.m,∀ y ∈ x.d,y.size ≤ 1000000):G ext F (n + 5) 35 [XL s m now,q.v] = some ([(SL nm (bF s now) now q).1.v,vs (SL nm (bF s now) now q).2.1,vb (SL nm (bF s now) now q).2.2],[XL s m now,q.v]):=by
 refine dM (cf:=ZF) rfl ?_
 have h1:=fun n=>D6 (F:=F) (n:=n) C s m now ⟨q.q,5,q.c⟩ hd hu
 have hsz:∀ y ∈ (Hu (bF s now) now ⟨q.q,5,q.c⟩).1.s.d,y.size ≤ 1000000:=by
  have h0:∀ y ∈ (bF s now ⟨q.q,5,q.c⟩).1.d,y.size ≤ 1000000:=by
   unfold bF
   split
   ·rename_i x ho
    split
    ·exact hy x (lF ho).2
    ·intro y h;cases h
   ·intro y h;cases h
  unfold Hu tl
  split
  ·rename_i h he
   split at he
   ·cases he;exact h0
   ·cases he
  ·intro y h;cases h
 have h2:=fun n=>Ji (F:=F) (n:=n) M (Hu (bF s now) now ⟨q.q,5,q.c⟩).1.s hsz
 unfold SL
 by_cases h5:q.t = 5
 ·have h5':decide (q.t = 5) = true:=ahE h5
  rw [ahC h5]
  dsimp only [ZF,aA,cB,bq,bI,aG,bG,dV,eu,dH,aD,dn,dz,bP,aU];simp only [h5',go_sem]
  try rfl
 ·have h5':decide (q.t = 5) = false:=ahH h5
  rw [ahD h5]
  dsimp only [ZF,aA,cB,bq,bI,aG,bG,dV,eu,dH,aD,dn,dz,bP,aU];simp only [h5',h1,h2,go_sem]
  try rfl
def Mh (fd:Qn → Ne.Nt × Bool) (now:Int) (c:Ch) (q:Qn):Ch:=if (fd q).2 = true then ⟨c.hits,if (fd q).1.nx = true then 2 else 1,c.nm,⟨(fd q).1.s,uT now (fd q).1.u⟩⟩ else ⟨c.hits,3,c.nm,c.Jh⟩
theorem P7 (C:lD ext) (s:Sv) (m:Ne.Nv) (now:Int) (c:Ch) (q:Qn) (hF:200000000000001 ≤ F) (hd:∀ x ∈ m.m,x.s.d.length ≤ 1000000) (hu:∀ x ∈ m.m,x.u ≤ 4611686018427387904):G ext F (n + 4) 36 [XL s m now,c.v,q.v] = some ([(Mh (Ne.gq m now) now c q).v],[XL s m now,c.v,q.v]):=by
 refine dM (cf:=ZG) rfl ?_
 have h1:=fun n=>Ne.Md (F:=F) (n:=n) C m now q hF hd
 have hlu:=fun n=>Ht (ext:=ext) (F:=F) (n:=n) now (Ne.gq m now q).1.u (by
  have h9:∀ b y,Ne.nof m.m now b = some y → y.u ≤ 4611686018427387904:=fun b y hy=>by
   unfold Ne.nof at hy
   split at hy
   ·rename_i y' ho
    split at hy
    ·cases hy;exact hu _ (Ne.lF ho).2
    ·cases hy
   ·cases hy
  unfold Ne.gq
  split
  ·rename_i y hy;exact h9 _ _ hy
  ·unfold Ne.ofR
   split
   ·rename_i y hy;exact h9 _ _ hy
   ·show (0:Int) ≤ _;omega)
 unfold Mh
 cases hv:(Ne.gq m now q).2 with
 | false =>
  rw [hv] at h1
  dsimp only [ZG,aA,cB,bq,bI,aG,bG,dV,eu,dH,aD,dn,dz,bP,aU];simp only [h1,go_sem]
  try rfl
 | true =>
  rw [hv] at h1
  cases hx:(Ne.gq m now q).1.nx
  all_goals
   dsimp only [ZG,aA,cB,bq,bI,aG,bG,dV,eu,dH,aD,dn,dz,bP,aU];simp only [h1,hx,hlu,go_sem]
   try rfl
end
section
attribute [local go_sem_proc] Nat.reduceAdd Nat.reduceMul Nat.reduceEqDiff Nat.reduceBEq Nat.reduceMod Nat.reduceDiv reduceCtorEq
attribute [local go_sem_proc ↓] reduceIte
open Go Ev
variable {ext : Env} {F n:Nat} {θ:Th} {nm:Int → ByteArray → List ByteArray}
abbrev vW.k (x:vW):Qn:=⟨x.s.q,x.s.t,x.s.c⟩
def uy (l:List ByteArray):List (KV × FC):=l.map fun s=>(.one (.str s),.one (.int .i64 1))
theorem Hw (l:List ByteArray) (s:ByteArray):wo (uy l) (.one (.str s)) = l.findIdx? fun x=>decide (x = s):=by
 unfold wo uy
 rw [ai5,List.findIdx?_map]
 refine ah1 (fun p=>List.findIdx? p l) (funext fun x=>?_)
 simp only [Function.comp,KV.one.injEq,SV.str.injEq]
theorem Mj {l:List ByteArray} {s:ByteArray} (h:xu l s = false):rD (uy l) (.one (.str s)) = none ∧ wu (uy l) (.one (.str s)) (.one (.int .i64 1)) = uy (l ++ [s]):=by
 have:l.findIdx? (fun x=>decide (x = s)) = none:=by
  refine ajb.mpr fun x hx=>?_
  unfold xu at h
  have:=List.any_eq_false.mp h x hx
  simpa using this
 unfold rD wu
 rw [Hw,this]
 exact ⟨rfl,by simp [uy]⟩
theorem P8 {l:List ByteArray} {s:ByteArray} (h:xu l s = true):rD (uy l) (.one (.str s)) = some (.one (.int .i64 1)):=by
 unfold rD
 rw [Hw]
 cases hi:l.findIdx? (fun x=>decide (x = s)) with
 | none =>
  have h1:=ajb.mp hi
  unfold xu at h
  obtain ⟨x,hx,he⟩:=aiE.mp h
  have:=h1 x hx
  rw [he] at this;cases this
 | some i =>
  obtain ⟨hi', -⟩:=aiZ.mp hi
  show ((uy l)[i]?.map fun p=>p.2) = _
  unfold uy
  rw [ahN,ahQ hi']
  rfl
theorem P9 {pk:Qn → It × Bool} {now:Int} {q:Qn} (h:al nm pk now q = none):(SL nm pk now q).2.2 = false:=by
 unfold al at h
 unfold SL
 split
 ·rfl
 ·rename_i h5
  rw [ahD h5] at h
  unfold Hu
  cases ht:tl pk now ⟨q.q,5,q.c⟩ with
  | none=>exact ah1 Prod.snd (SI (nm:=nm) (s:=oh.s) (by decide))
  | some x =>
   rw [ht] at h
   show (FP nm x.s).2 = false
   unfold FP
   cases hg:tg nm x.s with
   | none=>rfl
   | some ZZ8=>rw [Option.bind_some,hg] at h;cases h
theorem Qa {pk:Qn → It × Bool} {now:Int} {q:Qn} {x:vW} {ZZ8:ByteArray} (h:al nm pk now q = some (x,ZZ8)):SL nm pk now q = (x,(ZZ8,true)):=by
 unfold al at h
 unfold SL
 split at h
 ·cases h
 ·rename_i h5
  rw [ahD h5]
  obtain ⟨y,h1,h2⟩:=zbm h
  obtain ⟨z,h3,h4⟩:=zmm h2
  cases h4
  unfold Hu
  rw [h1]
  show (x,FP nm x.s) = _
  unfold FP
  rw [h3]
theorem Qb {fd:Qn → Ne.Nt × Bool} {now:Int} {hits:List vW} {q:Qn}:Mh fd now ⟨hits,0,q.q,oh⟩ q = fin fd now hits q:=by
 unfold Mh fin;rfl
def fT (s:Sv) (m:Ne.Nv) (now:Int) (M:List ByteArray) (hits:List vW) (pn:ByteArray) (q:Qn):St:=match hits with
 | []=>⟨[(7,PV.c (CV.one (PL.ptr 160000 0))),(8,PV.c (CV.one (PL.ptr 180000 0))),(9,PV.c (CV.one (PL.ptr 200000 0))),(10,PV.c (CV.one (PL.ptr 220000 0))),(11,PV.c (CV.one (PL.mp 440000)))],[(20201,Ob.eY [PL.f (FV.int IntKind.i64 s.room),PL.mp 20205,PL.f (FV.sl (List.map rQ s.o)),PL.f (FV.int IntKind.i64 s.ch)]),(20205,Ob.map kM (List.map ent s.m)),(40201,Ob.eY [PL.f (FV.int IntKind.i64 m.room),PL.mp 40205,PL.f (FV.sl (List.map rQ m.o)),PL.f (FV.int IntKind.i64 m.ch)]),(40205,Ob.map Ne.kM (List.map Ne.ent m.m)),(160000,Ob.eY [PL.f (FV.str q.q),PL.f (FV.int IntKind.i64 q.t),PL.f (FV.int IntKind.i64 q.c)]),(180000,Ob.eY [PL.bT,PL.f (FV.int IntKind.i64 0),PL.f (FV.str ⟨#[]⟩),PL.f (FV.str ⟨#[]⟩),PL.f (FV.int IntKind.i64 0),PL.f (FV.int IntKind.i64 0),PL.bT,PL.f (FV.int IntKind.i64 0),PL.f (FV.int IntKind.i64 0)]),(200000,Ob.eY [PL.ptr 20201 0,PL.ptr 40201 0,PL.f (FV.int IntKind.i64 now)]),(220000,Ob.eY [PL.bT,PL.f (FV.int IntKind.i64 0),PL.f (FV.str pn),PL.f (FV.str ⟨#[]⟩),PL.f (FV.int IntKind.i64 0),PL.f (FV.int IntKind.i64 0),PL.bT,PL.f (FV.int IntKind.i64 0),PL.f (FV.int IntKind.i64 0)]),(440000,Ob.map (KS.one SK.str) (uy M))]⟩
 | _=>⟨[(7,PV.c (CV.one (PL.ptr 160000 0))),(8,PV.c (CV.one (PL.ptr 180000 0))),(9,PV.c (CV.one (PL.ptr 200000 0))),(10,PV.c (CV.one (PL.ptr 220000 0))),(11,PV.c (CV.one (PL.mp 440000)))],[(20201,Ob.eY [PL.f (FV.int IntKind.i64 s.room),PL.mp 690004,PL.f (FV.sl (List.map rQ s.o)),PL.f (FV.int IntKind.i64 s.ch)]),(40201,Ob.eY [PL.f (FV.int IntKind.i64 m.room),PL.mp 690204,PL.f (FV.sl (List.map rQ m.o)),PL.f (FV.int IntKind.i64 m.ch)]),(160000,Ob.eY [PL.f (FV.str q.q),PL.f (FV.int IntKind.i64 q.t),PL.f (FV.int IntKind.i64 q.c)]),(180000,Ob.eY [PL.bT,PL.f (FV.int IntKind.i64 0),PL.f (FV.str ⟨#[]⟩),PL.f (FV.str ⟨#[]⟩),PL.f (FV.int IntKind.i64 0),PL.f (FV.int IntKind.i64 0),PL.bT,PL.f (FV.int IntKind.i64 0),PL.f (FV.int IntKind.i64 0)]),(200000,Ob.eY [PL.ptr 20201 0,PL.ptr 40201 0,PL.f (FV.int IntKind.i64 now)]),(220000,Ob.eY [PL.own 1240000 (hits.map rH).length,PL.f (FV.int IntKind.i64 0),PL.f (FV.str pn),PL.f (FV.str ⟨#[]⟩),PL.f (FV.int IntKind.i64 0),PL.f (FV.int IntKind.i64 0),PL.bT,PL.f (FV.int IntKind.i64 0),PL.f (FV.int IntKind.i64 0)]),(440000,Ob.map (KS.one SK.str) (uy M)),(690004,Ob.map kM (List.map ent s.m)),(690204,Ob.map Ne.kM (List.map Ne.ent m.m)),(1240000,.row 6 (hits.map rH))]⟩
theorem BM (s:Sv) (m:Ne.Nv) (now:Int) (M:List ByteArray) (pn:ByteArray) (q:Qn):fT s m now M [] pn q = ⟨[(7,PV.c (CV.one (PL.ptr 160000 0))),(8,PV.c (CV.one (PL.ptr 180000 0))),(9,PV.c (CV.one (PL.ptr 200000 0))),(10,PV.c (CV.one (PL.ptr 220000 0))),(11,PV.c (CV.one (PL.mp 440000)))],[(20201,Ob.eY [PL.f (FV.int IntKind.i64 s.room),PL.mp 20205,PL.f (FV.sl (List.map rQ s.o)),PL.f (FV.int IntKind.i64 s.ch)]),(20205,Ob.map kM (List.map ent s.m)),(40201,Ob.eY [PL.f (FV.int IntKind.i64 m.room),PL.mp 40205,PL.f (FV.sl (List.map rQ m.o)),PL.f (FV.int IntKind.i64 m.ch)]),(40205,Ob.map Ne.kM (List.map Ne.ent m.m)),(160000,Ob.eY [PL.f (FV.str q.q),PL.f (FV.int IntKind.i64 q.t),PL.f (FV.int IntKind.i64 q.c)]),(180000,Ob.eY [PL.bT,PL.f (FV.int IntKind.i64 0),PL.f (FV.str ⟨#[]⟩),PL.f (FV.str ⟨#[]⟩),PL.f (FV.int IntKind.i64 0),PL.f (FV.int IntKind.i64 0),PL.bT,PL.f (FV.int IntKind.i64 0),PL.f (FV.int IntKind.i64 0)]),(200000,Ob.eY [PL.ptr 20201 0,PL.ptr 40201 0,PL.f (FV.int IntKind.i64 now)]),(220000,Ob.eY [PL.bT,PL.f (FV.int IntKind.i64 0),PL.f (FV.str pn),PL.f (FV.str ⟨#[]⟩),PL.f (FV.int IntKind.i64 0),PL.f (FV.int IntKind.i64 0),PL.bT,PL.f (FV.int IntKind.i64 0),PL.f (FV.int IntKind.i64 0)]),(440000,Ob.map (KS.one SK.str) (uy M))]⟩:=rfl
theorem pY (s:Sv) (m:Ne.Nv) (now:Int) (M:List ByteArray) (hits:List vW) (pn:ByteArray) (q:Qn) (h:hits ≠ []):fT s m now M hits pn q = ⟨[(7,PV.c (CV.one (PL.ptr 160000 0))),(8,PV.c (CV.one (PL.ptr 180000 0))),(9,PV.c (CV.one (PL.ptr 200000 0))),(10,PV.c (CV.one (PL.ptr 220000 0))),(11,PV.c (CV.one (PL.mp 440000)))],[(20201,Ob.eY [PL.f (FV.int IntKind.i64 s.room),PL.mp 690004,PL.f (FV.sl (List.map rQ s.o)),PL.f (FV.int IntKind.i64 s.ch)]),(40201,Ob.eY [PL.f (FV.int IntKind.i64 m.room),PL.mp 690204,PL.f (FV.sl (List.map rQ m.o)),PL.f (FV.int IntKind.i64 m.ch)]),(160000,Ob.eY [PL.f (FV.str q.q),PL.f (FV.int IntKind.i64 q.t),PL.f (FV.int IntKind.i64 q.c)]),(180000,Ob.eY [PL.bT,PL.f (FV.int IntKind.i64 0),PL.f (FV.str ⟨#[]⟩),PL.f (FV.str ⟨#[]⟩),PL.f (FV.int IntKind.i64 0),PL.f (FV.int IntKind.i64 0),PL.bT,PL.f (FV.int IntKind.i64 0),PL.f (FV.int IntKind.i64 0)]),(200000,Ob.eY [PL.ptr 20201 0,PL.ptr 40201 0,PL.f (FV.int IntKind.i64 now)]),(220000,Ob.eY [PL.own 1240000 (hits.map rH).length,PL.f (FV.int IntKind.i64 0),PL.f (FV.str pn),PL.f (FV.str ⟨#[]⟩),PL.f (FV.int IntKind.i64 0),PL.f (FV.int IntKind.i64 0),PL.bT,PL.f (FV.int IntKind.i64 0),PL.f (FV.int IntKind.i64 0)]),(440000,Ob.map (KS.one SK.str) (uy M)),(690004,Ob.map kM (List.map ent s.m)),(690204,Ob.map Ne.kM (List.map Ne.ent m.m)),(1240000,.row 6 (hits.map rH))]⟩:=by
 cases hits with
 | nil=>exact absurd rfl h
 | cons a l=>rfl
theorem D7 (hits:List vW):hits = [] ∨ hits ≠ []:=by cases hits <;> simp
theorem Jj {rm:Bool} (O:xD rm nm ext) (C:lD ext) (hF:200000000000001 ≤ F) (s:Sv) (m:Ne.Nv) (now:Int) (q:Qn) (hd:∀ x ∈ s.m,x.d.length ≤ 1000000) (hu:∀ x ∈ s.m,x.u ≤ 4611686018427387904) (hy:∀ x ∈ s.m,∀ y ∈ x.d,y.size ≤ 1000000) (hd2:∀ x ∈ m.m,x.s.d.length ≤ 1000000) (hu2:∀ x ∈ m.m,x.u ≤ 4611686018427387904) :
  G ext F (n + 6) 19 [s.v,m.v,vi now,q.v] = some ([(yN nm (bF s now) (Ne.gq m now) now q).v],[s.v,m.v,vi now,q.v]):=by
 refine dM (cf:=c19) rfl ?_
 generalize hres:yN nm (bF s now) (Ne.gq m now) now q = R
 dsimp only [c19,aA,cB,bq,bI,aG,bG,dV,eu,dH,aD,dn,dz,bP,aU];simp only [go_sem]
 refine xw 9 (fun x:List ByteArray × List vW × ByteArray × ByteArray=>fT s m now x.1 x.2.1 x.2.2.1 ⟨x.2.2.2,q.t,q.c⟩) (fun i x=>x.2.1.length = i ∧ i < 9 ∧ xu x.1 x.2.2.2 = false ∧ CO nm (bF s now) (Ne.gq m now) now (9 - i) (x.1 ++ [x.2.2.2]) x.2.1 ⟨x.2.2.2,q.t,q.c⟩ = R) (by omega) ([],[],⟨#[]⟩,q.q) rfl ⟨rfl,by omega,rfl,hres⟩ (fun i x hi hP=>?_) (fun x hP=>absurd hP.2.1 (by omega))
 obtain ⟨M,hits,pn,zZ⟩:=x
 obtain ⟨hlen, -,hm,hf⟩:=hP
 simp only at hlen hm hf ⊢
 obtain ⟨f,hf9⟩:∃ f,9 - i = f + 1:=⟨8 - i,by omega⟩
 rw [hf9] at hf
 obtain ⟨k1,k2⟩:=Mj hm
 have hw1:IntKind.i64.wrap (0 + 1) = 1:=by decide
 have t1:=fun n=>D6 (F:=F) (n:=n) C s m now ⟨zZ,q.t,q.c⟩ hd hu
 have a1:=fun n=>Mg (F:=F) (n:=n) O C s m now ⟨zZ,q.t,q.c⟩ hd hu hy
 have e1:=fun n=>P7 (F:=F) (n:=n) C s m now ⟨hits,0,zZ,oh⟩ ⟨zZ,q.t,q.c⟩ hF hd2 hu2
 rw [show Mh (Ne.gq m now) now ⟨hits,0,zZ,oh⟩ ⟨zZ,q.t,q.c⟩ = fin (Ne.gq m now) now hits ⟨zZ,q.t,q.c⟩ from Qb (q:=⟨zZ,q.t,q.c⟩)] at e1
 simp only [Ch.v,oh,Jg,ahV] at e1
 unfold CO at hf
 have hsz:(((hits.map rH).length:Nat) + 1) * 72 ≤ 140737488355328:=by rw [ahF];omega
 cases h1:tl (bF s now) now ⟨zZ,q.t,q.c⟩ with
 | some h =>
  have et:Hu (bF s now) now ⟨zZ,q.t,q.c⟩ = (h,true):=by unfold Hu;rw [h1]
  rw [et] at t1
  rw [h1] at hf
  subst hf
  rcases D7 hits with rfl | g1
  ·rw [BM]
   simp only [k1,k2,hw1,t1,Option.getD_none,go_sem]
   exact ⟨by decide,rfl⟩
  ·rw [pY _ _ _ _ _ _ _ g1]
   simp only [k1,k2,hw1,t1,Option.getD_none,hsz,go_sem]
   simp [rH,oh,Jg]
 | none =>
  have et:Hu (bF s now) now ⟨zZ,q.t,q.c⟩ = (oh,false):=by unfold Hu;rw [h1]
  rw [et] at t1
  rw [h1] at hf
  simp only [oh,Jg,ahV] at t1
  cases h2:al nm (bF s now) now ⟨zZ,q.t,q.c⟩ with
  | none =>
   have ea:=P9 h2
   rw [h2] at hf
   subst hf
   rw [ea] at a1
   rcases D7 hits with rfl | g1
   ·rw [BM]
    simp only [ahV] at e1
    simp only [k1,k2,hw1,t1,a1,e1,Option.getD_none,go_sem]
   ·rw [pY _ _ _ _ _ _ _ g1]
    simp only [k1,k2,hw1,t1,a1,e1,Option.getD_none,go_sem]
  | some p =>
   obtain ⟨h,ZZ8⟩:=p
   rw [Qa h2] at a1
   rw [h2] at hf
   simp only at hf
   have hml:((hits ++ [h]).map rH) = hits.map rH ++ [[FV.str h.s.q,FV.int IntKind.i64 h.s.t,FV.int IntKind.i64 h.s.c,FV.sl (List.map bB h.s.d),FV.int IntKind.i64 h.s.ttl,FV.int IntKind.i64 h.left]]:=by simp [rH]
   have hll:(hits.map rH).length = hits.length:=ahF _
   by_cases h8:8 ≤ hits.length
   ·rw [ahC (.inl h8)] at hf
    subst hf
    have c8:decide ((8:Int) < (((hits.map rH).length + 1:Nat):Int)) = true:=ahE (by omega)
    rcases D7 hits with rfl | g1
    ·simp at h8
    ·rw [pY _ _ _ _ _ _ _ g1]
     simp only [k1,k2,hw1,t1,a1,Option.getD_none,hsz,c8,go_sem]
     simp [rH,oh,Jg]
   ·have c8:decide ((8:Int) < (((hits.map rH).length + 1:Nat):Int)) = false:=ahH (by omega)
    have c8':decide ((8:Int) < ((0 + 1:Nat):Int)) = false:=by decide
    have z1:decide ((0:Int) < 1) = true:=by decide
    have z0:decide ((0:Int) < 0) = false:=by decide
    cases hin:xu (M ++ [zZ]) ZZ8 with
    | true =>
     rw [ahC (.inr hin)] at hf
     subst hf
     have y1:=P8 hin
     rcases D7 hits with rfl | g1
     ·rw [BM]
      simp only [k1,k2,hw1,t1,a1,Option.getD_none,Option.getD_some,hsz,c8',y1,z1,List.length_cons,List.length_nil,go_sem]
      exact ⟨by decide,rfl⟩
     ·rw [pY _ _ _ _ _ _ _ g1]
      simp only [k1,k2,hw1,t1,a1,Option.getD_none,Option.getD_some,hsz,c8,y1,z1,go_sem]
      simp [rH,oh,Jg]
    | false =>
     rw [ahD (by rw [hin];simp;omega)] at hf
     have y1:=(Mj hin).1
     have hnext:(hits ++ [h]).length = i + 1 ∧ i + 1 < 9 ∧ xu (M ++ [zZ]) ZZ8 = false ∧ CO nm (bF s now) (Ne.gq m now) now (9 - (i + 1)) (M ++ [zZ] ++ [ZZ8]) (hits ++ [h]) ⟨ZZ8,q.t,q.c⟩ = R:=⟨by simp;omega,by omega,hin,by rw [show 9 - (i + 1) = f from by omega];exact hf⟩
     have g3:=fun pn' q'=>pY s m now (M ++ [zZ]) (hits ++ [h]) pn' q' (by simp)
     rcases D7 hits with rfl | g1
     ·rw [BM]
      simp only [k1,k2,hw1,t1,a1,Option.getD_none,Option.getD_some,hsz,c8',y1,z0,List.length_cons,List.length_nil,go_sem]
      exact ⟨by decide,(M ++ [zZ],[] ++ [h],zZ,ZZ8),by rw [g3];rfl,hnext⟩
     ·rw [pY _ _ _ _ _ _ _ g1]
      simp only [k1,k2,hw1,t1,a1,Option.getD_none,Option.getD_some,hsz,c8,y1,z0,go_sem]
      exact ⟨(M ++ [zZ],hits ++ [h],zZ,ZZ8),by rw [g3,hml];simp,hnext⟩
end
section
open Go Ev
variable {θ : Th} {gt:ByteArray → Int → Int → Int × Bool}
structure Pt where
 now:Int
 s:Se
 r:Int
 k:Qn
def rP (x:Pt):List FV:=[.int .i64 x.now,.str x.s.q,.int .i64 x.s.t,.int .i64 x.s.c,.sl (x.s.d.map bB),.int .i64 x.s.ttl,.int .i64 x.r,.str x.k.q,.int .i64 x.k.t,.int .i64 x.k.c]
abbrev Pt.v (x:Pt):AV:=.agg [.f (.int .i64 x.now),.f (.str x.s.q),.f (.int .i64 x.s.t),.f (.int .i64 x.s.c),.f (.sl (x.s.d.map bB)),.f (.int .i64 x.s.ttl),.f (.int .i64 x.r),.f (.str x.k.q),.f (.int .i64 x.k.t),.f (.int .i64 x.k.c)]
def Qc : Sv:=⟨50,[],[],0⟩
def m50 : Ne.Nv:=⟨50,[],[],0⟩
def yO (θ:Th) (gt:ByteArray → Int → Int → Int × Bool) (a:Sv × Ne.Nv) (p:Pt):Sv × Ne.Nv:=if 0 < p.r then ((uo θ a.1 p.now p.s p.r).1,a.2) else (a.1,(Ne.qX θ gt a.2 p.now p.k (decide (p.r < 0)) p.s).1)
def mO (θ:Th) (gt:ByteArray → Int → Int → Int × Bool) (l:List Pt):Sv × Ne.Nv:=l.foldl (yO θ gt) (Qc,m50)
theorem xE {l:List Pt} {p:Pt} {i:Nat} (h:l[i]? = some p):mO θ gt (l.take (i + 1)) = yO θ gt (mO θ gt (l.take i)) p:=by
 unfold mO;rw [aiD,h,ajt];rfl
theorem uz : ∀ {g:List Qn} {l:List It},(g.foldl rid l).Sublist l
 | [],l=>ajm _
 | a :: g,l=>(uz (g:=g)).trans sK
theorem Mk {l:List It} {x:It}:(upd l x).length ≤ l.length + 1:=by
 rcases qW l x with ⟨-,hu⟩ | ⟨a,y,c,rfl, -, -,hu⟩ <;> rw [hu] <;> simp
theorem Ml {l:List It} {x y:It} (h:y ∈ upd l x):y = x ∨ y ∈ l:=by
 rcases qW l x with ⟨-,hu⟩ | ⟨a,z,c,rfl, -, -,hu⟩ <;> rw [hu] at h <;> simp at h ⊢
 ·rcases h with h | h <;> simp [h]
 ·rcases h with h | h | h <;> simp [h]
theorem uU : ∀ {g:List Qn} {l:List It},(ks l).Nodup → (ks (g.foldl rid l)).Nodup
 | [],l,h=>h
 | a :: g,l,h=>uU (g:=g) (uq h)
theorem uV : ∀ {g:List Qn} {l:List Ne.Nt},(Ne.ks l).Nodup → (Ne.ks (g.foldl Ne.rid l)).Nodup
 | [],l,h=>h
 | a :: g,l,h=>uV (g:=g) (Ne.uq h)
structure FS (l:List Pt) (i:Nat) (s:Sv):Prop where
 r:s.room = 50
 c:0 ≤ s.ch ∧ s.ch ≤ i
 o:s.o.length ≤ i
 m:s.m.length ≤ i
 it:∀ x ∈ s.m,∃ p ∈ l,0 < p.r ∧ x = p.s.it (fF p.now p.s.ttl) p.r
 lK:(ks s.m).Nodup
structure FN (θ:Th) (gt:ByteArray → Int → Int → Int × Bool) (l:List Pt) (i:Nat) (s:Ne.Nv):Prop where
 r:s.room = 50
 c:0 ≤ s.ch ∧ s.ch ≤ i
 o:s.o.length ≤ i
 m:s.m.length ≤ i
 it:∀ x ∈ s.m,∃ p ∈ l,x.s = p.s ∧ x.u = fF p.now (Ne.vK θ gt p.s).1 ∧ x.k.q = p.k.q
 lK:(Ne.ks s.m).Nodup
theorem FS.up {l:List Pt} {i:Nat} {s:Sv} (h:FS l i s):FS l (i + 1) s:=⟨h.r,by have:=h.c;omega,by have:=h.o;omega,by have:=h.m;omega,h.it,h.lK⟩
theorem FN.up {l:List Pt} {i:Nat} {s:Ne.Nv} (h:FN θ gt l i s):FN θ gt l (i + 1) s:=⟨h.r,by have:=h.c;omega,by have:=h.o;omega,by have:=h.m;omega,h.it,h.lK⟩
theorem FS.put {l:List Pt} {i:Nat} {s:Sv} (h:FS l i s) {p:Pt} (hp:p ∈ l) (h0:0 < p.r):FS l (i + 1) (uo θ s p.now p.s p.r).1:=by
 have hc:=h.c
 have hq:=@sJ s.o p.s.k
 have ho:=h.o
 have hm:=h.m
 have hu:=@Mk s.m (p.s.it (fF p.now p.s.ttl) p.r)
 unfold uo
 dsimp only
 split
 ·exact h.up
 ·refine ⟨h.r,by show 0 ≤ s.ch + 1 ∧ s.ch + 1 ≤ _;omega,?_,?_,fun y hy=>?_,uU (uw h.lK)⟩
  ·show (List.drop _ _).length ≤ _
   rw [ah4,ahJ,List.length_singleton];omega
  ·exact ahX uz.length_le (by omega)
  ·rcases Ml (uz.subset hy) with rfl | h1
   ·exact ⟨p,hp,h0,rfl⟩
   ·exact h.it y h1
theorem FN.put {l:List Pt} {i:Nat} {s:Ne.Nv} (h:FN θ gt l i s) {p:Pt} (hp:p ∈ l) (b:Bool):FN θ gt l (i + 1) (Ne.qX θ gt s p.now p.k b p.s).1:=by
 have hc:=h.c
 have hq:=@sJ s.o (Ne.kn b p.k)
 have ho:=h.o
 have hm:=h.m
 unfold Ne.qX
 split
 ·exact h.up
 split
 ·exact h.up
 have hu:=@Ne.PW s.m ⟨Ne.kn b p.k,b,p.s,fF p.now (Ne.vK θ gt p.s).1⟩
 refine ⟨h.r,by show 0 ≤ s.ch + 1 ∧ s.ch + 1 ≤ _;omega,?_,?_,fun y hy=>?_,uV (Ne.uw h.lK)⟩
 ·show (List.drop _ _).length ≤ _
  rw [ah4,ahJ,List.length_singleton];omega
 ·exact ahX Ne.xC.length_le (by omega)
 ·rcases Ne.PX (Ne.xC.subset hy) with rfl | h1
  ·refine ⟨p,hp,rfl,rfl,?_⟩
   show (Ne.kn b p.k).q = _
   unfold Ne.kn;cases b <;> rfl
  ·exact h.it y h1
structure FI (θ:Th) (gt:ByteArray → Int → Int → Int × Bool) (l:List Pt) (i:Nat) (a:Sv × Ne.Nv):Prop where
 s:FS l i a.1
 n:FN θ gt l i a.2
theorem fi0 (l:List Pt):FI θ gt l 0 (Qc,m50):=⟨⟨rfl,⟨aiw _,aiw _⟩,ahG _,ahG _,(by intro x hx;cases hx),aji⟩,⟨rfl,⟨aiw _,aiw _⟩,ahG _,ahG _,(by intro x hx;cases hx),aji⟩⟩
theorem FI.yO {l:List Pt} {i:Nat} {a:Sv × Ne.Nv} (h:FI θ gt l i a) {p:Pt} (hp:p ∈ l):FI θ gt l (i + 1) (yO θ gt a p):=by
 unfold Kc.yO
 split
 ·rename_i h0;exact ⟨h.s.put hp h0,h.n.up⟩
 ·exact ⟨h.s.up,h.n.put hp _⟩
theorem fi (l:List Pt):∀ i,i ≤ l.length → FI θ gt l i (mO θ gt (l.take i))
 | 0,_=>fi0 l
 | i + 1,h=>by
  have hi:l[i]? = some l[i]:=ahQ (by omega)
  rw [xE hi]
  exact (fi l i (by omega)).yO (List.getElem_mem _)
theorem fiA (l:List Pt):FI θ gt l l.length (mO θ gt l):=by
 have:=fi (θ:=θ) (gt:=gt) l l.length (ahG _)
 rwa [aiv] at this
def qY (l:List Pt):Bool:=l.all fun x=>FD x.s.q x.s.d && decide (x.k.q.size ≤ 300)
theorem z8 {q:ByteArray} {d:List ByteArray} (h:FD q d = true):q.size ≤ 300 ∧ d.length ≤ 60 ∧ ∀ y ∈ d,y.size ≤ 2000:=by
 unfold FD ZI at h
 rw [ahK,ahR,ahZ] at h
 refine ⟨by omega,?_,fun y hy=>?_⟩
 ·cases hd:d with
  | nil=>simp
  | cons y d' =>
   have:=h.1 y (by rw [hd];simp)
   simp only [ahK,ahZ] at this
   rw [hd] at this;omega
 ·have:=h.1 y hy
  simp only [ahK,ahZ] at this
  omega
theorem sM {l:List Pt} {x:Pt} (h:qY l = true) (hx:x ∈ l):x.k.q.size ≤ 1000000 ∧ x.s.q.size ≤ 1000000 ∧ x.s.d.length ≤ 1000000 ∧ ∀ y ∈ x.s.d,y.size ≤ 1000000:=by
 have h1:=ahR.mp h x hx
 rw [ahK,ahZ] at h1
 obtain ⟨a,b,c⟩:=z8 h1.1
 exact ⟨by omega,by omega,by omega,fun y hy=>by have:=c y hy;omega⟩
theorem D8 {now ttl:Int}:fF now ttl ≤ 4611686018427387904:=by
 unfold fF Po
 split
 ·rename_i h
  simp only [ahZ] at h
  split <;> omega
 ·omega
structure FW (a:Sv × Ne.Nv):Prop where
 hd:∀ x ∈ a.1.m,x.d.length ≤ 1000000
 hu:∀ x ∈ a.1.m,x.u ≤ 4611686018427387904
 hy:∀ x ∈ a.1.m,∀ y ∈ x.d,y.size ≤ 1000000
 hd2:∀ x ∈ a.2.m,x.s.d.length ≤ 1000000
 hu2:∀ x ∈ a.2.m,x.u ≤ 4611686018427387904
theorem FI.w {l:List Pt} {i:Nat} {a:Sv × Ne.Nv} (h:FI θ gt l i a) (hf:qY l = true):FW a:=by
 refine ⟨fun x hx=>?_,fun x hx=>?_,fun x hx=>?_,fun x hx=>?_,fun x hx=>?_⟩
 ·obtain ⟨p,hp, -,rfl⟩:=h.s.it x hx;exact (sM hf hp).2.2.1
 ·obtain ⟨p,hp, -,rfl⟩:=h.s.it x hx;exact D8
 ·obtain ⟨p,hp, -,rfl⟩:=h.s.it x hx;exact (sM hf hp).2.2.2
 ·obtain ⟨p,hp,h1, -⟩:=h.n.it x hx;rw [h1];exact (sM hf hp).2.2.1
 ·obtain ⟨p,hp, -,h1, -⟩:=h.n.it x hx;rw [h1];exact D8
end
end Go.Proofs.Ytfokaoeinpnagaa.Kc

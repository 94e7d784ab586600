/- A part of the proof of SeekSends: cut, joined and given short names by a program of this session (wip/tools/pack.py); Lean checks it. No condition. -/
import Derived.Test.YtfokaoeinpnagaaGreatPSSdsi
import Derived.Test.YtfokaoeinpnagaaGreatProg
import Derived.Test.YtfokaoeinpnagaaGreatPSSdsf
import Derived.WalkKit
import Derived.Test.YtfokaoeinpnagaaGreatPSSdsg
import Derived.Test.YtfokaoeinpnagaaGreatPSSdsd
set_option linter.unusedSectionVars false
set_option linter.unusedSimpArgs false
set_option linter.unusedVariables false
set_option maxHeartbeats 16000000
set_option maxRecDepth 100000
namespace Go.Proofs.YtfokaoeinpnagaaGreat.Ev
open Go
attribute [go_sem] dA dZ vO rA mF oH Gi Qa JY sub jy pR gB gP plain fI TJ LH wK Qb J3 LM Vm Vn Vo LK Vj rowsOf KV.ks SV.sk
attribute [go_sem] List.any_cons List.any_nil List.all_cons List.all_nil List.map_cons List.map_nil List.length_cons List.length_nil List.append_nil List.nil_append List.cons_append List.flatMap_cons List.flatMap_nil List.take_succ_cons List.take_zero List.take_nil List.drop_succ_cons List.drop_zero List.drop_nil Option.getD_some Option.getD_none List.filter_nil List.filter_cons List.headD_nil List.headD_cons List.tail_cons List.tail_nil
section
variable {σ : St} {α:Type}
section
variable {k : St → Prop} {u:Tok k} {key:Nat} {o:Ob} {pend:List PL}
@[go_sem ↓] theorem ahH : W k u (new σ key o) ↔ (rem σ.ob key).any (fun p=>mF key p.2) = false ∧ k ⟨σ.tm.filter (fun p=>!rA key p.2),(key,o) :: rem σ.ob key⟩:=by
 simp only [new,Yi,dQ,bU,dw,bB,akb]
@[go_sem ↓] theorem afI : W k u (newP pend σ key o) ↔ pend.any (dZ key) = false ∧ W k ⟨⟩ (new σ key o):=by
 simp only [newP,dQ,dw,akb]
@[go_sem ↓] theorem ahI : W k u (zO σ key) ↔ W (fun p=>k (sub ⟨σ.tm,rem σ.ob key⟩ key (.f (.sl p.2)))) ⟨⟩ (iK σ key):=by
 simp only [zO,iK,dQ]
 cases get σ.ob key with
 | none=>exact bX
 | some o=>cases o <;> first | exact bX | exact lS ajj
@[go_sem ↓] theorem Wu : W k u (xO σ []) ↔ k σ:=gQ
@[go_sem ↓] theorem T9 : W k u (sN σ []) ↔ k σ:=gQ
@[go_sem ↓] theorem QK {x:CV} {xs:List CV}:W k u (sN σ (x :: xs)) ↔ W (fun s=>W k ⟨⟩ (sN s xs)) ⟨⟩ (xO σ (cells x)):=by
 simp only [sN,dQ,aQ]
def qj (σ:St):PL → Option St
 | .own key _=>zO σ key
 | _=>some σ
@[go_sem ↓] theorem Ua {x:PL} {xs:List PL}:W k u (xO σ (x :: xs)) ↔ W (fun s=>W k ⟨⟩ (xO s xs)) ⟨⟩ (qj σ x):=by
 simp only [dQ]
 cases x <;> simp only [xO,qj,aQ,bB]
@[go_sem ↓] theorem Ub {n:Nat}:W k u (qj σ (.own key n)) ↔ W k ⟨⟩ (zO σ key):=ajj
@[go_sem] theorem adt {x:FV}:qj σ (.f x) = some σ:=rfl
@[go_sem] theorem YF : qj σ .bY = some σ:=rfl
@[go_sem] theorem YG {n:Nat}:qj σ (.ptr key n) = some σ:=rfl
@[go_sem] theorem aaI : qj σ (.mp key) = some σ:=rfl
@[go_sem] theorem YH : qj σ .iR = some σ:=rfl
@[go_sem] theorem Wv : qj σ .fq = some σ:=rfl
@[go_sem] theorem aaJ {f:FuncId} {c:List (List FV)}:qj σ (.fn f c) = some σ:=rfl
@[go_sem] theorem aaK {c:List FV}:qj σ (.fp c) = some σ:=rfl
end
section
variable {k : FV × St → Prop} {u:Tok k} {key n:Nat}
@[go_sem] theorem ahJ {x:FV}:vP σ (.f x) = some (x,σ):=rfl
@[go_sem] theorem adu : vP σ .bY = some (.sl [],σ):=rfl
@[go_sem ↓] theorem YI : W k u (vP σ (.own key n)) ↔ W (fun p=>k (.sl p.2,sub ⟨σ.tm,rem σ.ob key⟩ key (.f (.sl p.2)))) ⟨⟩ (iK σ key):=by
 simp only [vP,zO,iK,dQ]
 cases get σ.ob key with
 | none=>exact bX
 | some o=>cases o <;> first | exact bX | (simp only [Option.map_some];exact lS ajj)
end
section
variable {k : List FV × St → Prop} {u:Tok k}
@[go_sem ↓] theorem Ww : W k u (kI σ []) ↔ k ([],σ):=gQ
@[go_sem ↓] theorem Uc {x:PL} {xs:List PL}:W k u (kI σ (x :: xs)) ↔ W (fun p=>W (fun r=>k (p.1 :: r.1,r.2)) ⟨⟩ (kI p.2 xs)) ⟨⟩ (vP σ x):=by
 simp only [kI,dQ,aQ,bU]
@[go_sem ↓] theorem ahK {key:Nat}:W k u (Yk σ key) ↔ W (fun xs=>W (fun p=>W (fun _=>k (p.1,Vo (LK key p.1) ⟨p.2.tm,rem p.2.ob key⟩)) ⟨⟩ (get p.2.ob key)) ⟨⟩ (kI σ xs)) ⟨⟩ (pJ σ key):=by
 simp only [Yk,pJ,dQ]
 cases get σ.ob key with
 | none=>exact bX
 | some o =>
  cases o with
  | fu xs =>
   simp only [oc,bB,aQ]
   refine cZ fun p=>?_
   cases get p.2.ob key with
   | none=>exact bX
   | some o=>exact lS ajj
  | _=>exact bX
end
section
variable {k : FC × St → Prop} {u:Tok k}
@[go_sem ↓] theorem YJ {x:PL}:W k u (Yj σ (.one x)) ↔ W (fun p=>k (.one p.1,p.2)) ⟨⟩ (vP σ x):=by simp only [Yj,dQ,bU]
@[go_sem ↓] theorem YK {xs:List PL}:W k u (Yj σ (.agg xs)) ↔ W (fun p=>k (.agg p.1,p.2)) ⟨⟩ (kI σ xs):=by simp only [Yj,dQ,bU]
end
section
variable {k : List (List FV) × St → Prop} {u:Tok k} {q:Bool}
@[go_sem ↓] theorem Wx : W k u (lY q σ []) ↔ k ([],σ):=by simp only [lY,dQ,bB]
@[go_sem ↓] theorem YL {cs:List FV} {l:List CV}:W k u (lY q σ (.one (.fp cs) :: l)) ↔ W (fun r=>k (cs :: r.1,r.2)) ⟨⟩ (lY q σ l):=by simp only [lY,dQ,bU]
@[go_sem ↓] theorem Wz {key:Nat} {l:List CV}:W k u (lY q σ (.one (.ptr key 0) :: l)) ↔ q = false ∧ W (fun p=>W (fun r=>k (p.1 :: r.1,r.2)) ⟨⟩ (lY q p.2 l)) ⟨⟩ (Yk σ key):=by
 simp only [lY,dQ,dw,aQ,bU,akb]
end
section
variable {k : List (Nat × Nat × CV) → Prop} {u:Tok k}
@[go_sem ↓] theorem WA : W k u (vals σ []) ↔ k []:=gQ
@[go_sem ↓] theorem Ud {o n:Nat} {x:dM} {ps:List (Nat × Nat × dM)}:W k u (vals σ ((o,n,x) :: ps)) ↔ W (fun v=>W (fun l=>k ((o,n,v) :: l)) ⟨⟩ (vals σ ps)) ⟨⟩ (val σ x):=by
 simp only [vals,dQ,aQ,bU]
end
section
variable {k : List CV → Prop} {u:Tok k}
@[go_sem ↓] theorem Ue : W k u (jv σ []) ↔ k []:=gQ
@[go_sem ↓] theorem QL {x:dM} {xs:List dM}:W k u (jv σ (x :: xs)) ↔ W (fun v=>W (fun l=>k (v :: l)) ⟨⟩ (jv σ xs)) ⟨⟩ (val σ x):=by
 simp only [jv,dQ,aQ,bU]
@[go_sem ↓] theorem Uf : W k u (slots σ []) ↔ k []:=gQ
@[go_sem ↓] theorem QM {x:Rs} {xs:List Rs}:W k u (slots σ (x :: xs)) ↔ W (fun v=>W (fun l=>k (v :: l)) ⟨⟩ (slots σ xs)) ⟨⟩ (slot σ x):=by
 simp only [slots,dQ,aQ,bU]
end
section
variable {k : CV → Prop} {u:Tok k} {i n:Nat} {agg:Bool}
@[go_sem ↓] theorem aaL : W k u (slot σ (.t i)) ↔ W k ⟨⟩ (vl (get σ.tm i)):=by rw [← aak];exact ajj
@[go_sem ↓] theorem Ug : W k u (slot σ (.cell i n agg)) ↔ W (fun v=>W (fun p=>W (fun xs=>W (fun l=>W k ⟨⟩ (mk agg l)) ⟨⟩ (seg n p.2 xs)) ⟨⟩ (pJ σ p.1)) ⟨⟩ (Kk v)) ⟨⟩ (vl (get σ.tm i)):=by
 simp only [slot,dQ]
 cases get σ.tm i with
 | none=>exact bX
 | some v =>
  cases v with
  | uQ l=>exact bX
  | c x =>
   simp only [vl,bB]
   cases x with
   | agg l=>exact bX
   | one p =>
    cases p with
    | ptr key off =>
     simp only [Kk,bB,pJ]
     cases get σ.ob key with
     | none=>exact bX
     | some o=>cases o <;> first | exact bX | (simp only [oc,bB,aQ])
    | _=>exact bX
end
section
variable {k : List PL → Prop} {u:Tok k} {z:List PL}
@[go_sem ↓] theorem WB : W k u (fill z []) ↔ k z:=by simp only [fill,dQ,bB]
@[go_sem ↓] theorem Uh {off n:Nat} {v:CV} {ps:List (Nat × Nat × CV)}:W k u (fill z ((off,n,v) :: ps)) ↔ ((cells v).length = n ∧ (cells v).any pR = false) ∧ W (fun z=>W k ⟨⟩ (fill z ps)) ⟨⟩ (lay off (cells v) z):=by
 simp only [fill,dQ,bM,aQ]
end
@[go_sem] theorem aaM {kk:IntKind} {n:Int}:sI (.int kk n) = some (.int kk n):=rfl
@[go_sem] theorem YM {b:Bool}:sI (.bool b) = some (.bool b):=rfl
@[go_sem] theorem aaN {s:ByteArray}:sI (.str s) = some (.str s):=rfl
section
variable {k : KV → Prop} {u:Tok k}
@[go_sem ↓] theorem YN {x:FV}:W k u (keyOf (.one (.f x))) ↔ W (fun s=>k (.one s)) ⟨⟩ (sI x):=by simp only [keyOf,Io,Option.bind_some,dQ,bU]
@[go_sem ↓] theorem YO {xs:List PL}:W k u (keyOf (.agg xs)) ↔ W (fun l=>W (fun s=>k (.agg s)) ⟨⟩ (sJ l)) ⟨⟩ (oI xs):=by simp only [keyOf,dQ,aQ,bU]
end
section
variable {k : List SV → Prop} {u:Tok k}
@[go_sem ↓] theorem Ui : W k u (sJ []) ↔ k []:=gQ
@[go_sem ↓] theorem QN {x:FV} {xs:List FV}:W k u (sJ (x :: xs)) ↔ W (fun s=>W (fun l=>k (s :: l)) ⟨⟩ (sJ xs)) ⟨⟩ (sI x):=by simp only [sJ,dQ,aQ,bU]
end
section
variable {k : List FV → Prop} {u:Tok k}
@[go_sem ↓] theorem QO : W k u (oI []) ↔ k []:=gQ
@[go_sem ↓] theorem PX {x:FV} {xs:List PL}:W k u (oI (.f x :: xs)) ↔ W (fun l=>k (x :: l)) ⟨⟩ (oI xs):=by simp only [oI,Io,Option.bind_some,dQ,bU]
end
section
variable {k : CL × St → Prop} {u:Tok k} {key n:Nat}
@[go_sem] theorem ahL {x:FV}:JZ σ (.f x) = some (.f x,σ):=rfl
@[go_sem] theorem adv : JZ σ .bY = some (.f (.sl []),σ):=rfl
@[go_sem] theorem adw : JZ σ .iR = some (.iR,σ):=rfl
@[go_sem] theorem aaO : JZ σ .fq = some (.fq,σ):=rfl
@[go_sem ↓] theorem YP : W k u (JZ σ (.own key n)) ↔ W (fun o=>k (.own o.1 o.2,⟨σ.tm,rem σ.ob key⟩)) ⟨⟩ (iK σ key):=by
 simp only [JZ,iK,dQ]
 cases get σ.ob key with
 | none=>exact bX
 | some o=>cases o <;> first | exact bX | exact lS ajj
@[go_sem ↓] theorem aaP : W k u (JZ σ (.mp key)) ↔ W (fun o=>k (.mp o.1 o.2,⟨σ.tm,rem σ.ob key⟩)) ⟨⟩ (oM σ key):=by
 simp only [JZ,oM,dQ]
 cases get σ.ob key with
 | none=>exact bX
 | some o=>cases o <;> first | exact bX | exact lS ajj
end
section
variable {k : List CL × St → Prop} {u:Tok k}
@[go_sem ↓] theorem WC : W k u (zS σ []) ↔ k ([],σ):=gQ
@[go_sem ↓] theorem Uj {x:PL} {xs:List PL}:W k u (zS σ (x :: xs)) ↔ W (fun p=>W (fun r=>k (p.1 :: r.1,r.2)) ⟨⟩ (zS p.2 xs)) ⟨⟩ (JZ σ x):=by
 simp only [zS,dQ,aQ,bU]
end
section
variable {k : TV × St → Prop} {u:Tok k} {key n:Nat} {gv:Bool}
@[go_sem] theorem ahM {x:FV}:rV gv σ (.f x) = some (.f x,σ):=rfl
@[go_sem] theorem adx : rV gv σ .bY = some (.f (.sl []),σ):=rfl
@[go_sem] theorem ady : rV gv σ .iR = some (.iR,σ):=rfl
@[go_sem] theorem aaQ : rV gv σ .fq = some (.fq,σ):=rfl
@[go_sem] theorem afJ {cs:List FV}:rV gv σ (.fp cs) = some (.fp cs,σ):=rfl
@[go_sem] theorem afK {f:FuncId} {cs:List (List FV)}:rV gv σ (.fn f cs) = some (.fn f cs,σ):=rfl
@[go_sem ↓] theorem YQ : W k u (rV false σ (.own key n)) ↔ W (fun o=>k (.f (.sl o.2),σ)) ⟨⟩ (iK σ key):=by
 simp only [rV,iK,dQ]
 cases get σ.ob key with
 | none=>exact bX
 | some o=>cases o <;> first | exact bX | exact lS ajj
@[go_sem ↓] theorem WE : W k u (rV true σ (.own key n)) ↔ W (fun o=>k (.own o.1 o.2,⟨σ.tm,rem σ.ob key⟩)) ⟨⟩ (iK σ key):=by
 simp only [rV,iK,dQ]
 cases get σ.ob key with
 | none=>exact bX
 | some o=>cases o <;> first | exact bX | exact lS ajj
@[go_sem ↓] theorem aaR : W k u (rV gv σ (.mp key)) ↔ W (fun o=>k (.mp o.1 o.2,⟨σ.tm,rem σ.ob key⟩)) ⟨⟩ (oM σ key):=by
 simp only [rV,oM,dQ]
 cases get σ.ob key with
 | none=>exact bX
 | some o=>cases o <;> first | exact bX | exact lS ajj
@[go_sem ↓] theorem YR : W k u (rV gv σ (.ptr key 0)) ↔ W (fun xs=>W (fun p=>k (.ptr p.1,p.2)) ⟨⟩ (zS ⟨σ.tm,rem σ.ob key⟩ xs)) ⟨⟩ (pJ σ key):=by
 simp only [rV,pJ,dQ]
 cases get σ.ob key with
 | none=>exact bX
 | some o=>cases o <;> first | exact bX | (simp only [oc,bB,bU])
end
section
variable {k : List TV × St → Prop} {u:Tok k} {gv:Bool}
@[go_sem ↓] theorem WG : W k u (rW gv σ []) ↔ k ([],σ):=gQ
@[go_sem ↓] theorem Uk {x:PL} {xs:List PL}:W k u (rW gv σ (x :: xs)) ↔ W (fun p=>W (fun r=>k (p.1 :: r.1,r.2)) ⟨⟩ (rW gv p.2 xs)) ⟨⟩ (rV gv σ x):=by
 simp only [rW,dQ,aQ,bU]
end
section
variable {k : AV × St → Prop} {u:Tok k} {gv:Bool}
@[go_sem ↓] theorem YS {x:PL}:W k u (Lr gv σ (.one x)) ↔ W (fun p=>k (.one p.1,p.2)) ⟨⟩ (rV gv σ x):=by simp only [Lr,dQ,bU]
@[go_sem ↓] theorem YT {xs:List PL}:W k u (Lr gv σ (.agg xs)) ↔ W (fun p=>k (.agg p.1,p.2)) ⟨⟩ (rW gv σ xs):=by simp only [Lr,dQ,bU]
end
section
variable {k : List AV × St → Prop} {u:Tok k} {gv:Bool}
@[go_sem ↓] theorem WH : W k u (sM gv σ []) ↔ k ([],σ):=gQ
@[go_sem ↓] theorem Ul {x:CV} {xs:List CV}:W k u (sM gv σ (x :: xs)) ↔ W (fun p=>W (fun r=>k (p.1 :: r.1,r.2)) ⟨⟩ (sM gv p.2 xs)) ⟨⟩ (Lr gv σ x):=by
 simp only [sM,dQ,aQ,bU]
end
section
variable {k : List PL × St → Prop} {u:Tok k} {kf:Nat → Nat} {c base j:Nat} {pend:List PL}
@[go_sem ↓] theorem WI : W k u (qV kf c pend σ []) ↔ k ([],σ):=by simp only [qV,dQ,bB]
def QS (kf:Nat → Nat) (c:Nat) (pend:List PL) (σ:St):CL → Option (PL × St)
 | .f x=>some (.f x,σ)
 | .iR=>some (.iR,σ)
 | .fq=>some (.fq,σ)
 | .mp sh ents=>(newP pend σ (kf c) (.map sh ents)).map fun s=>(.mp (kf c),s)
 | .own sz rows=>(newP pend σ (kf c + kf c % 2) (.row sz rows)).map fun s=>(.own (kf c + kf c % 2) rows.length,s)
@[go_sem ↓] theorem Um {x:CL} {xs:List CL}:W k u (qV kf c pend σ (x :: xs)) ↔ W (fun p=>W (fun r=>k (p.1 :: r.1,r.2)) ⟨⟩ (qV kf (c + 1) (p.1 :: pend) p.2 xs)) ⟨⟩ (QS kf c pend σ x):=by
 simp only [dQ]
 cases x <;> simp only [qV,QS,bB,aQ,bU]
@[go_sem ↓] theorem WJ : W k u (xL base j pend σ []) ↔ k ([],σ):=by simp only [xL,dQ,bB]
@[go_sem ↓] theorem Un {x:TV} {xs:List TV}:W k u (xL base j pend σ (x :: xs)) ↔ W (fun p=>W (fun r=>k (p.1 :: r.1,r.2)) ⟨⟩ (xL base (j + 1) (p.1 :: pend) p.2 xs)) ⟨⟩ (DW (base + 200 * (j + 1)) pend σ x):=by
 simp only [xL,dQ,aQ,bU]
end
section
variable {k : PL × St → Prop} {u:Tok k} {kf:Nat → Nat} {c key:Nat} {pend:List PL}
@[go_sem] theorem ahN {x:FV}:QS kf c pend σ (.f x) = some (.f x,σ):=rfl
@[go_sem] theorem adz : QS kf c pend σ .iR = some (.iR,σ):=rfl
@[go_sem] theorem aaS : QS kf c pend σ .fq = some (.fq,σ):=rfl
@[go_sem ↓] theorem aaT {sh:KS} {ents:List (KV × FC)}:W k u (QS kf c pend σ (.mp sh ents)) ↔ W (fun s=>k (.mp (kf c),s)) ⟨⟩ (newP pend σ (kf c) (.map sh ents)):=by simp only [QS,dQ,bU]
@[go_sem ↓] theorem YU {sz:Nat} {rows:List (List FV)}:W k u (QS kf c pend σ (.own sz rows)) ↔ W (fun s=>k (.own (kf c + kf c % 2) rows.length,s)) ⟨⟩ (newP pend σ (kf c + kf c % 2) (.row sz rows)):=by simp only [QS,dQ,bU]
@[go_sem] theorem ahO {x:FV}:DW key pend σ (.f x) = some (.f x,σ):=rfl
@[go_sem] theorem adA : DW key pend σ .iR = some (.iR,σ):=rfl
@[go_sem] theorem aaU : DW key pend σ .fq = some (.fq,σ):=rfl
@[go_sem] theorem afL {cs:List FV}:DW key pend σ (.fp cs) = some (.fp cs,σ):=rfl
@[go_sem] theorem afM {f:FuncId} {cs:List (List FV)}:DW key pend σ (.fn f cs) = some (.fn f cs,σ):=rfl
@[go_sem] theorem adB : DW key pend σ .any = some (.any,σ):=rfl
@[go_sem ↓] theorem aaV {sh:KS} {ents:List (KV × FC)}:W k u (DW key pend σ (.mp sh ents)) ↔ W (fun s=>k (.mp key,s)) ⟨⟩ (newP pend σ key (.map sh ents)):=by simp only [DW,dQ,bU]
@[go_sem ↓] theorem YV {sz:Nat} {rows:List (List FV)}:W k u (DW key pend σ (.own sz rows)) ↔ W (fun s=>k (.own (ow key) rows.length,s)) ⟨⟩ (newP pend σ (ow key) (.row sz rows)):=by simp only [DW,dQ,bU]
@[go_sem ↓] theorem YW {cs:List CL}:W k u (DW key pend σ (.ptr cs)) ↔ W (fun p=>p.1.any (dZ key) = false ∧ W (fun s=>k (.ptr key 0,s)) ⟨⟩ (newP pend p.2 key (.fu p.1))) ⟨⟩ (qV (Qb key) 0 pend σ cs):=by
 simp only [DW,dQ,aQ,dw,bU,akb]
end
section
variable {k : CV × St → Prop} {u:Tok k} {base:Nat} {pend:List PL}
@[go_sem ↓] theorem YX {x:TV}:W k u (Ls base pend σ (.one x)) ↔ W (fun p=>k (.one p.1,p.2)) ⟨⟩ (DW (base + 200) pend σ x):=by simp only [Ls,dQ,bU]
@[go_sem ↓] theorem YZ {xs:List TV}:W k u (Ls base pend σ (.agg xs)) ↔ W (fun p=>k (.agg p.1,p.2)) ⟨⟩ (xL base 0 pend σ xs):=by simp only [Ls,dQ,bU]
end
section
variable {k : List CV × St → Prop} {u:Tok k} {base i:Nat} {pend:List PL} {bo:List Nat}
@[go_sem] theorem ahP : ab bo i = if bo.contains i then dA i + 10001 else dA i + 1:=rfl
@[go_sem] theorem ahQ {key:Nat}:ow key = if key / 10000 % 2 = 0 then key + key % 2 else key:=rfl
@[go_sem ↓] theorem WK : W k u (xM base i pend σ []) ↔ k ([],σ):=by simp only [xM,dQ,bB]
@[go_sem ↓] theorem Uo {x:AV} {xs:List AV}:W k u (xM base i pend σ (x :: xs)) ↔ W (fun p=>W (fun r=>k (p.1 :: r.1,r.2)) ⟨⟩ (xM base (i + 1) (cells p.1 ++ pend) p.2 xs)) ⟨⟩ (Ls (base + 2000 * i) pend σ x):=by
 simp only [xM,dQ,aQ,bU]
@[go_sem ↓] theorem Uq : W k u (enter bo i pend σ []) ↔ k ([],σ):=by simp only [enter,dQ,bB]
@[go_sem ↓] theorem QT {x:AV} {xs:List AV}:W k u (enter bo i pend σ (x :: xs)) ↔ W (fun p=>W (fun s=>W (fun r=>k (p.1 :: r.1,r.2)) ⟨⟩ (enter bo (i + 1) (cells p.1 ++ pend) s xs)) ⟨⟩ (some ⟨put p.2.tm i (.c p.1),p.2.ob⟩)) ⟨⟩ (Ls (ab bo i) pend σ x):=by
 simp only [enter,dQ,aQ,bU,bB]
end
section
variable {k : St → Prop} {u:Tok k} {fH:St} {base:Nat} {pend:List PL}
@[go_sem ↓] theorem WL : W k u (zT fH pend base σ [] []) ↔ k σ:=by simp only [zT,dQ,bB]
@[go_sem ↓] theorem Ur {x:CV} {xs:List CV} {y:AV} {ys:List AV}:W k u (zT fH pend base σ (x :: xs) (y :: ys)) ↔ W (fun s=>W k ⟨⟩ (zT fH pend (base + 1000) s xs ys)) ⟨⟩ (Zk fH pend base σ x y):=by
 simp only [zT,dQ,aQ]
@[go_sem ↓] theorem Y0 {x:PL} {y:TV}:W k u (Zk fH pend base σ (.one x) (.one y)) ↔ W k ⟨⟩ (DX fH pend base σ x y):=ajj
@[go_sem ↓] theorem Y1 {x:List PL} {y:List TV}:W k u (Zk fH pend base σ (.agg x) (.agg y)) ↔ W k ⟨⟩ (Ca fH pend base σ x y):=ajj
@[go_sem ↓] theorem WM : W k u (Ca fH pend base σ [] []) ↔ k σ:=by simp only [Ca,dQ,bB]
@[go_sem ↓] theorem Us {x:PL} {xs:List PL} {y:TV} {ys:List TV}:W k u (Ca fH pend base σ (x :: xs) (y :: ys)) ↔ W (fun s=>W k ⟨⟩ (Ca fH pend (base + 200) s xs ys)) ⟨⟩ (DX fH pend base σ x y):=by
 simp only [Ca,dQ,aQ]
@[go_sem ↓] theorem Y2 {key off:Nat} {cs:List CL}:W k u (DX fH pend base σ (.ptr key off) (.ptr cs)) ↔ W (fun xs=>W (fun p=>k (jy p.2 key (.fu p.1))) ⟨⟩ (qV (J2 base xs) 0 pend σ cs)) ⟨⟩ (pJ fH key):=by
 simp only [DX,pJ,dQ]
 cases get fH.ob key with
 | none=>exact bX
 | some o=>cases o <;> first | exact bX | (simp only [oc,bB,bU])
@[go_sem] theorem afN {key:Nat} {sh:KS} {ents:List (KV × FC)}:DX fH pend base σ (.mp key) (.mp sh ents) = some (jy σ key (.map sh ents)):=rfl
@[go_sem] theorem aaW {key n sz:Nat} {rows:List (List FV)}:DX fH pend base σ (.own key n) (.own sz rows) = some (jy σ key (.row sz rows)):=rfl
@[go_sem] theorem ahR {x y:FV}:DX fH pend base σ (.f x) (.f y) = some σ:=rfl
@[go_sem] theorem adC {y:FV}:DX fH pend base σ .bY (.f y) = some σ:=rfl
@[go_sem] theorem adD : DX fH pend base σ .iR .iR = some σ:=rfl
@[go_sem] theorem aaX : DX fH pend base σ .fq .fq = some σ:=rfl
@[go_sem] theorem adE {key n:Nat} {y:FV}:DX fH pend base σ (.own key n) (.f y) = some σ:=rfl
@[go_sem] theorem adF {key n:Nat}:DX fH pend base σ (.own key n) .any = some σ:=rfl
@[go_sem] theorem afO {a b:List FV}:DX fH pend base σ (.fp a) (.fp b) = some σ:=rfl
@[go_sem] theorem afP {f g:FuncId} {a b:List (List FV)}:DX fH pend base σ (.fn f a) (.fn g b) = some σ:=rfl
end
def Y3 (base c:Nat):Option PL → Nat
 | some (.mp k)=>if k % 2 = 0 then k else base + 2 * (c + 1)
 | some (.own k _)=>if k % 2 = 0 then k else base + 2 * (c + 1)
 | _=>base + 2 * (c + 1)
@[go_sem] theorem adG {base c:Nat} {xs:List PL}:J2 base xs c = Y3 base c (xs[c]?):=by
 unfold J2
 cases xs[c]? with
 | none=>rfl
 | some x=>cases x <;> rfl
@[go_sem] theorem afQ {base c k:Nat}:Y3 base c (some (.mp k)) = if k % 2 = 0 then k else base + 2 * (c + 1):=rfl
@[go_sem] theorem adH {base c k n:Nat}:Y3 base c (some (.own k n)) = if k % 2 = 0 then k else base + 2 * (c + 1):=rfl
@[go_sem] theorem ahS {base c:Nat} {x:FV}:Y3 base c (some (.f x)) = base + 2 * (c + 1):=rfl
@[go_sem] theorem adJ {base c:Nat}:Y3 base c (some .bY) = base + 2 * (c + 1):=rfl
@[go_sem] theorem aaY {base c:Nat}:Y3 base c (some .fq) = base + 2 * (c + 1):=rfl
section
variable {k : TV × St → Prop} {u:Tok k} {key n:Nat}
@[go_sem] theorem afR {x:FV}:outT σ (.f x) = some (.f x,σ):=rfl
@[go_sem] theorem aaZ : outT σ .bY = some (.f (.sl []),σ):=rfl
@[go_sem] theorem aa0 : outT σ .iR = some (.iR,σ):=rfl
@[go_sem] theorem Y4 : outT σ .fq = some (.fq,σ):=rfl
@[go_sem] theorem adK {cs:List FV}:outT σ (.fp cs) = some (.fp cs,σ):=rfl
@[go_sem] theorem adL {f:FuncId} {cs:List (List FV)}:outT σ (.fn f cs) = some (.fn f cs,σ):=rfl
@[go_sem ↓] theorem WO : W k u (outT σ (.own key n)) ↔ W (fun p=>k (.f p.1,p.2)) ⟨⟩ (vP σ (.own key n)):=by simp only [outT,dQ,bU]
@[go_sem ↓] theorem Y5 : W k u (outT σ (.mp key)) ↔ W (fun o=>k (.mp o.1 o.2,⟨σ.tm,rem σ.ob key⟩)) ⟨⟩ (oM σ key):=by
 simp only [outT,oM,dQ]
 cases get σ.ob key with
 | none=>exact bX
 | some o=>cases o <;> first | exact bX | exact lS ajj
@[go_sem ↓] theorem WQ : W k u (outT σ (.ptr key 0)) ↔ W (fun xs=>W (fun p=>k (.ptr p.1,p.2)) ⟨⟩ (zS ⟨σ.tm,rem σ.ob key⟩ xs)) ⟨⟩ (pJ σ key):=by
 simp only [outT,pJ,dQ]
 cases get σ.ob key with
 | none=>exact bX
 | some o=>cases o <;> first | exact bX | (simp only [oc,bB,bU])
@[go_sem ↓] theorem WR {sz:Nat}:W k u (Cb sz σ (.own key n)) ↔ W (fun o=>o.1 = sz ∧ k (.own sz o.2,⟨σ.tm,rem σ.ob key⟩)) ⟨⟩ (iK σ key):=by
 simp only [Cb,iK,dQ]
 cases get σ.ob key with
 | none=>exact bX
 | some o=>cases o <;> first | exact bX | (simp only [M6,bB,bM])
@[go_sem ↓] theorem WS {sz:Nat}:W k u (Cb sz σ .bY) ↔ ¬ sz = 0 ∧ k (.own sz [],σ):=by simp only [Cb,dQ,dw,bB]
@[go_sem] theorem adM {x:PL} {y:FV}:jR σ x (.f y) = some (.f y,σ):=by cases x <;> first | rfl | (rename_i a b;cases b <;> rfl)
@[go_sem] theorem Y6 {x:PL}:jR σ x .iR = some (.iR,σ):=by cases x <;> first | rfl | (rename_i a b;cases b <;> rfl)
@[go_sem] theorem WT {x:PL}:jR σ x .fq = some (.fq,σ):=by cases x <;> first | rfl | (rename_i a b;cases b <;> rfl)
def bko (σ:St) (key:Nat):Nat → Option (TV × St)
 | 1=>(M6 (get σ.ob key)).map fun p=>(.own p.1 p.2,⟨σ.tm,rem σ.ob key⟩)
 | _=>some (.any,σ)
@[go_sem] theorem ahT : bko σ key 0 = some (.any,σ):=rfl
@[go_sem] theorem aa1 : bko σ key 1 = (M6 (get σ.ob key)).map fun p=>(.own p.1 p.2,⟨σ.tm,rem σ.ob key⟩):=rfl
@[go_sem] theorem Y7 {n sz:Nat} {rows:List (List FV)}:jR σ (.own key n) (.own sz rows) = bko σ key (key % 2):=by
 simp only [jR]
 rcases Nat.mod_two_eq_zero_or_one key with h | h
 ·rw [h,aje (by decide)];rfl
 ·rw [h,ajd rfl,aa1]
  cases get σ.ob key with
  | none=>rfl
  | some o=>cases o <;> rfl
@[go_sem] theorem Y8 {sz:Nat} {rows:List (List FV)}:jR σ .bY (.own sz rows) = some (.any,σ):=rfl
@[go_sem] theorem Y9 {x:PL}:jR σ x .any = some (.any,σ):=by cases x <;> first | rfl | (rename_i a b;cases b <;> rfl)
@[go_sem] theorem aa2 {x:PL} {cs:List FV}:jR σ x (.fp cs) = some (.fp cs,σ):=by cases x <;> first | rfl | (rename_i a b;cases b <;> rfl)
@[go_sem] theorem aa3 {x:PL} {f:FuncId} {cs:List (List FV)}:jR σ x (.fn f cs) = some (.fn f cs,σ):=by cases x <;> first | rfl | (rename_i a b;cases b <;> rfl)
@[go_sem ↓] theorem Ut {cs:List CL}:W k u (jR σ (.ptr key 0) (.ptr cs)) ↔ key % 2 = 1 ∧ W k ⟨⟩ (outT σ (.ptr key 0)):=by simp only [jR,dQ,bM]
@[go_sem ↓] theorem WU {sh:KS} {ents:List (KV × FC)}:W k u (jR σ (.mp key) (.mp sh ents)) ↔ key % 2 = 1 ∧ W k ⟨⟩ (outT σ (.mp key)):=by simp only [jR,dQ,bM]
end
section
variable {k : List TV × St → Prop} {u:Tok k}
@[go_sem ↓] theorem Uu : W k u (vQ σ []) ↔ k ([],σ):=gQ
@[go_sem ↓] theorem QU {x:PL} {xs:List PL}:W k u (vQ σ (x :: xs)) ↔ W (fun p=>W (fun r=>k (p.1 :: r.1,r.2)) ⟨⟩ (vQ p.2 xs)) ⟨⟩ (outT σ x):=by
 simp only [vQ,dQ,aQ,bU]
@[go_sem ↓] theorem QV : W k u (oJ σ [] []) ↔ k ([],σ):=by simp only [oJ,dQ,bB]
@[go_sem ↓] theorem PY {l:PL} {ls:List PL} {x:TV} {xs:List TV}:W k u (oJ σ (l :: ls) (x :: xs)) ↔ W (fun p=>W (fun r=>k (p.1 :: r.1,r.2)) ⟨⟩ (oJ p.2 ls xs)) ⟨⟩ (jR σ l x):=by
 simp only [oJ,dQ,aQ,bU]
end
section
variable {k : AV × St → Prop} {u:Tok k}
@[go_sem ↓] theorem Lv {x:PL}:W k u (Cc none σ (.one x)) ↔ W (fun p=>k (.one p.1,p.2)) ⟨⟩ (outT σ x):=by simp only [Cc,Qf,dQ,bU]
@[go_sem ↓] theorem Lx {xs:List PL}:W k u (Cc none σ (.agg xs)) ↔ W (fun p=>k (.agg p.1,p.2)) ⟨⟩ (vQ σ xs):=by simp only [Cc,Qf,dQ,bU]
@[go_sem ↓] theorem Uv {sz:Nat} {x:PL}:W k u (Cc (some sz) σ (.one x)) ↔ W (fun p=>k (.one p.1,p.2)) ⟨⟩ (Cb sz σ x):=by simp only [Cc,dQ,bU]
@[go_sem ↓] theorem Uw {l:PL} {x:TV}:W k u (xP σ (.one l) (.one x)) ↔ W (fun p=>k (.one p.1,p.2)) ⟨⟩ (jR σ l x):=by simp only [xP,dQ,bU]
@[go_sem ↓] theorem Ux {l:List PL} {x:List TV}:W k u (xP σ (.agg l) (.agg x)) ↔ W (fun p=>k (.agg p.1,p.2)) ⟨⟩ (oJ σ l x):=by simp only [xP,dQ,bU]
end
section
variable {k : List AV × St → Prop} {u:Tok k}
@[go_sem ↓] theorem Uy {fl:List (Option Nat)}:W k u (mH fl σ []) ↔ k ([],σ):=by simp only [mH,dQ,bB]
@[go_sem ↓] theorem QW {fl:List (Option Nat)} {x:CV} {xs:List CV}:W k u (mH fl σ (x :: xs)) ↔ W (fun p=>W (fun r=>k (p.1 :: r.1,r.2)) ⟨⟩ (mH fl.tail p.2 xs)) ⟨⟩ (Cc (fl.headD none) σ x):=by
 simp only [mH,dQ,aQ,bU]
@[go_sem ↓] theorem QX : W k u (j4 σ [] []) ↔ k ([],σ):=by simp only [j4,dQ,bB]
@[go_sem ↓] theorem PZ {l:CV} {ls:List CV} {x:AV} {xs:List AV}:W k u (j4 σ (l :: ls) (x :: xs)) ↔ W (fun p=>W (fun r=>k (p.1 :: r.1,r.2)) ⟨⟩ (j4 p.2 ls xs)) ⟨⟩ (xP σ l x):=by
 simp only [j4,dQ,aQ,bU]
end
section
variable {k : St → Prop} {u:Tok k} {gv:Bool} {d:Nat} {args:List CV} {p:List AV × St} {r:List AV × List AV} {s:St}
@[go_sem ↓] theorem afS : W k u (GL gv args p r) ↔ (if (!gv && ((r.1.any wK || !p.1.all fI) && args.any (fun x=>(cells x).any gB))) = true then W k ⟨⟩ (sN p.2 args) else k p.2):=by
 simp only [GL,dQ]
 split
 ·exact ajj
 ·exact bB
@[go_sem ↓] theorem afT : W k u (GN d σ args p r s) ↔ (if p.1.all fI = true then k s else W k ⟨⟩ (zT σ (args.flatMap cells) (dA d + 10000) s args r.2)):=by
 simp only [GN,dQ]
 split
 ·exact bB
 ·exact ajj
end
end
section
variable {σ : St} {ks BX:List Nat} {rws:List (Nat × Nat)}
@[go_sem] theorem afU : res ks BX rws σ = ⟨pick ks (jf σ rws).tm,pick BX (jf σ rws).ob⟩:=rfl
@[go_sem] theorem adN : jf σ [] = σ:=rfl
end
attribute [go_sem] if_true if_false true_and and_true Bool.not_false Bool.not_true Bool.and_false Bool.false_and Bool.and_true Bool.true_and Bool.or_false Bool.false_or Bool.or_true Bool.true_or Bool.false_eq_true not_true_eq_false not_false_eq_true ne_eq forall_const and_self implies_true KV.one.injEq KV.agg.injEq SV.str.injEq SV.int.injEq SV.bool.injEq List.cons.injEq List.getElem?_cons_zero List.getElem?_cons_succ List.getD_cons_zero List.getD_cons_succ List.contains_cons List.contains_nil decide_true decide_false fresh
end Go.Proofs.YtfokaoeinpnagaaGreat.Ev
namespace Go.Proofs.YtfokaoeinpnagaaGreat.Kc
section
open Go Ev
def ay (d:Nat) (i:I):G:=⟨some d,none,i⟩
def dh (i:I):G:=⟨none,none,i⟩
def bA (d s:Nat) (b:Bool) (i:I):G:=⟨some d,some (some s,b),i⟩
def bK (n:Int):dM:=.k (.one (.f (.int .i64 n)))
def aG : PL:=.f (.int .i64 0)
def bJ : PL:=.f (.str ⟨#[]⟩)
def dX (a b s:Nat):Nat × Nat × dM:=⟨a,b,.t s⟩
def eD : dM:=.k (.one (.f (.bool true)))
def dH : dM:=.k (.one (.f (.bool false)))
def aD (d s:Nat):G:=⟨some d,none,.mv (.t s)⟩
def cO (d s:Nat):G:=⟨some d,none,.load 1 false (.t s)⟩
def dG (d n s:Nat):G:=⟨some d,none,.load n true (.t s)⟩
def bP (d f s:Nat):G:=⟨some d,none,.fa f (.t s)⟩
def aV (a:List G) (b:List Nat) (c:CC):CC:=.seq (.reg a b) c
def c48 : CF:=⟨1,[(.t 2)],[],[],(aV [ay 2 (.mv (.k (.one .iR)))] [0] (.seq (aV [aD 3 0,ay 4 (.cmp .lt (.t 3) (bK 1)),aD 5 4,bA 6 5 false (.mv (.t 0)),bA 7 5 false (.cmp .gt (.t 6) (bK 1000)),ay 8 (.pick (.t 5) eD (.t 7))] [0,8] (.cond (.t 8) (aV [ay 2 (.mv (.k (.one .iR)))] [2] .ret) .skip)) (aV [aD 9 0,ay 10 (.pQ (.agg [.str,(.int .i64),(.int .i64)])),ay 11 (.build [aG,.fq,.bY,aG] [dX 0 1 9,dX 1 1 10]),ay 12 (.box 162 (.t 11)),aD 2 12] [2] .ret)))⟩
def c43 : CF:=⟨3,[(.cell 6 7 true),(.t 7)],[],[],(aV [ay 5 (.box 24 (.t 2)),ay 6 (.alloc 106 [bJ,aG,aG,.bY,aG,aG,aG]),ay 7 (.mv dH)] [0,1,5,6] (.seq (aV [aD 10 0,ay 11 (.xD false (.t 10))] [0,1,5,6,11] (.cond (.t 11) (aV [ay 12 (.build [bJ,aG,aG,.bY,aG,aG,aG] []),dh (.store 7 (.t 6) (.t 12)),ay 7 (.mv dH)] [6,7] .ret) .skip)) (.seq (.sH [⟨aD 14 0,[180000]⟩,⟨ay 15 (.gY (.t 14)),[180000]⟩,⟨bP 16 1 15,[180000]⟩,⟨cO 17 16,[180000]⟩,⟨dG 18 3 5,[180000]⟩,⟨⟨(some 19),none,(.look (.agg [.str,(.int .i64),(.int .i64)]) (.agg [(.str ⟨#[]⟩),(.int .i64 0),(.int .i64 0),(.sl []),(.int .i64 0),(.int .i64 0),(.int .i64 0)]) true (.t 17) (.t 18))⟩,[180000]⟩,⟨aD 13 19,[180000]⟩,⟨ay 20 (.ext (.t 13) 0),[180000]⟩,⟨ay 21 (.ext (.t 13) 1),[180000]⟩,⟨ay 8 (.alloc 106 [bJ,aG,aG,.bY,aG,aG,aG]),[]⟩] [8] [dh (.store 7 (.t 8) (.t 20))] [aD 9 21] [1,6,8,9]) (.seq (aV [aD 22 9,ay 23 (.no (.t 22)),aD 24 23,bA 25 24 false (.mv (.t 1)),bA 26 24 false (.fa 5 (.t 8)),bA 27 24 false (.load 1 false (.t 26)),bA 28 24 false (.call false 78 [(.t 25),(.t 27)]),bA 29 24 false (.no (.t 28)),ay 30 (.pick (.t 24) eD (.t 29))] [6,8,30] (.cond (.t 30) (aV [ay 31 (.build [bJ,aG,aG,.bY,aG,aG,aG] []),dh (.store 7 (.t 6) (.t 31)),ay 7 (.mv dH)] [6,7] .ret) .skip)) (aV [dG 32 7 8,ay 33 (.call false 79 [(.t 32)]),dh (.store 7 (.t 6) (.t 33)),ay 7 (.mv eD)] [6,7] .ret)))))⟩
def c45 : CF:=⟨1,[(.t 2)],[],[],(aV [ay 1 (.box 42 (.t 0)),ay 2 (.mv dH)] [1] (.seq (aV [ay 3 (.mv (bK 0))] [1,3] (.block 0 (.loop [1,3] [20802,40000] [] (.seq (aV [aD 4 3,bP 5 3 1,cO 6 5,ay 7 (.iJ (.t 6)),ay 8 (.cmp .lt (.t 4) (.t 7))] [1,3,8] (.cond (.t 8) .skip (.exit 0))) (.seq (.block 1 (aV [bP 11 3 1,cO 12 11,aD 13 3,ay 14 (.ia 1 (.t 12) (.t 13)),cO 15 14,ay 16 (.xG (.t 15)),ay 17 (.cmp .gt (.t 16) (bK 2000)),aD 18 17,bA 19 18 false (.fa 3 (.t 1)),bA 20 18 false (.load 1 false (.t 19)),bA 21 18 false (.iJ (.t 20)),bA 22 18 false (.cmp .gt (.t 21) (bK 60)),ay 23 (.pick (.t 18) eD (.t 22))] [1,3,23] (.cond (.t 23) (aV [ay 2 (.mv dH)] [2] .ret) .skip))) (.reg [aD 9 3,ay 10 (.ar .add (.t 9) (bK 1)),aD 3 10] [1,3])))))) (aV [bP 24 0 1,bP 25 0 24,cO 26 25,ay 27 (.xG (.t 26)),ay 28 (.cmp .le (.t 27) (bK 300)),aD 2 28] [2] .ret)))⟩
def c82 : CF:=⟨2,[(.t 4)],[],[],(aV [ay 4 (.mv (bK 0))] [0,1] (.seq (aV [aD 5 0,ay 6 (.call false 111 [(.t 5),(bK 1099511627776)]),ay 7 (.no (.t 6)),aD 8 7,bA 9 8 false (.mv (.t 1)),bA 10 8 false (.cmp .lt (.t 9) (bK 0)),ay 11 (.pick (.t 8) eD (.t 10))] [0,1,11] (.cond (.t 11) (aV [ay 4 (.mv (bK (-1)))] [4] .ret) .skip)) (aV [aD 12 0,aD 13 1,ay 14 (.mn (.t 13) (bK 604800)),ay 15 (.ar .add (.t 12) (.t 14)),aD 4 15] [4] .ret)))⟩
def WV : CF:=⟨3,[(.t 6)],[],[],(aV [ay 5 (.box 106 (.t 2)),ay 6 (.mv (bK 0))] [0,1,5] (.seq (aV [aD 9 0,ay 10 (.xD false (.t 9)),aD 11 10,bA 12 11 false (.fa 5 (.t 5)),bA 13 11 false (.load 1 false (.t 12)),bA 14 11 false (.cmp .lt (.t 13) (bK 0)),ay 15 (.pick (.t 11) eD (.t 14)),aD 16 15,bA 17 16 false (.fa 0 (.t 5)),bA 18 16 false (.load 5 true (.t 17)),bA 19 16 false (.call false 113 [(.t 18)]),bA 20 16 false (.no (.t 19)),ay 21 (.pick (.t 16) eD (.t 20)),aD 22 21,bA 23 22 false (.fa 6 (.t 5)),bA 24 22 false (.load 1 false (.t 23)),bA 25 22 false (.cmp .lt (.t 24) (bK 1)),ay 26 (.pick (.t 22) eD (.t 25)),aD 27 26,bA 28 27 false (.fa 6 (.t 5)),bA 29 27 false (.load 1 false (.t 28)),bA 30 27 false (.cmp .gt (.t 29) (bK 5)),ay 31 (.pick (.t 27) eD (.t 30))] [0,1,5,31] (.cond (.t 31) (aV [ay 6 (.mv (bK 1))] [6] .ret) .skip)) (.seq (aV [aD 32 1,bP 33 5 5,cO 34 33,ay 35 (.call false 78 [(.t 32),(.t 34)]),ay 36 (.no (.t 35))] [0,1,5,36] (.cond (.t 36) (aV [ay 6 (.mv (bK 14))] [6] .ret) .skip)) (.seq (.sH [⟨aD 38 0,[160000]⟩,⟨ay 39 (.gY (.t 38)),[160000]⟩,⟨bP 40 1 39,[160000]⟩,⟨cO 41 40,[160000]⟩,⟨bP 42 0 5,[160000]⟩,⟨bP 43 0 42,[160000]⟩,⟨dG 44 3 43,[160000]⟩,⟨⟨(some 45),none,(.look (.agg [.str,(.int .i64),(.int .i64)]) (.agg [(.str ⟨#[]⟩),(.int .i64 0),(.int .i64 0),(.sl []),(.int .i64 0),(.int .i64 0),(.int .i64 0)]) true (.t 41) (.t 44))⟩,[160000]⟩,⟨aD 37 45,[160000]⟩,⟨ay 46 (.ext (.t 37) 0),[160000]⟩,⟨ay 47 (.ext (.t 37) 1),[160000]⟩,⟨ay 7 (.alloc 106 [bJ,aG,aG,.bY,aG,aG,aG]),[]⟩] [10] [dh (.store 7 (.t 7) (.t 46))] [aD 8 47] [1,5,7,8]) (.seq (.seq (.sH [⟨aD 48 8,[]⟩,⟨aD 49 48,[]⟩,⟨bA 50 49 true (.fa 6 (.t 7)),[]⟩,⟨bA 51 49 true (.load 1 false (.t 50)),[]⟩,⟨bA 52 49 true (.mv (.t 1)),[]⟩,⟨bA 53 49 true (.fa 5 (.t 7)),[]⟩,⟨bA 54 49 true (.load 1 false (.t 53)),[]⟩,⟨bA 55 49 true (.call false 78 [(.t 52),(.t 54)]),[]⟩,⟨bA 56 49 true (.fa 6 (.t 5)),[]⟩,⟨bA 57 49 true (.load 1 false (.t 56)),[]⟩] [] [] [bA 58 49 true (.call false 114 [(.t 51),(.t 55),(.t 57)]),bA 59 49 true (.no (.t 58)),ay 60 (.pick (.t 49) (.t 59) dH)] [60]) (.cond (.t 60) (aV [ay 6 (.mv (bK 10))] [6] .ret) .skip)) (aV [ay 6 (.mv (bK 0))] [6] .ret))))))⟩
def c79 : CF:=⟨1,[(.cell 2 7 true)],[],[],(aV [ay 1 (.box 106 (.t 0)),ay 2 (.alloc 106 [bJ,aG,aG,.bY,aG,aG,aG])] [1,2] (aV [bP 3 0 1,bP 4 3 3,cO 5 4,ay 6 (.call false 72 [(.t 5)]),bP 7 0 1,bP 8 3 7,dh (.store 1 (.t 8) (.t 6))] [1,2] (aV [dG 9 7 1,dh (.store 7 (.t 2) (.t 9))] [2] .ret)))⟩
def c85 : CF:=⟨2,[(.t 4),(.t 5)],[],[],(aV [ay 4 (.mv (.k (.one .bY))),ay 5 (.mv (.k (.one .bY)))] [0,1] (aV [aD 7 0,ay 8 (.iJ (.t 7)),aD 9 1,aD 10 0,ay 11 (.iJ (.t 10)),ay 12 (.mn (.t 9) (.t 11)),ay 13 (.mx (.t 12) (bK 0)),ay 14 (.ar .sub (.t 8) (.t 13)),aD 6 14] [0,6] (.seq (.sH [⟨aD 15 0,[]⟩,⟨aD 16 6,[]⟩,⟨ay 17 (.cut 3 (.t 15) (some (.t 16)) none),[]⟩,⟨ay 18 (.call false 115 [(.t 17)]),[]⟩,⟨aD 19 0,[]⟩,⟨aD 20 6,[]⟩,⟨ay 21 (.cut 3 (.t 19) none (some (.t 20))),[]⟩] [] [] [ay 22 (.call false 115 [(.t 21)]),aD 4 18,aD 5 22] [4,5]) .ret)))⟩
def c86 : CF:=⟨2,[(.t 4)],[],[],(aV [ay 3 (.box 24 (.t 1)),ay 4 (.mv (.k (.one .bY)))] [0,3] (.seq (.sH [⟨aD 5 0,[160000,200000]⟩,⟨dG 6 3 3,[160000,200000]⟩,⟨ay 7 (.zQ 116 [(.t 5),(.t 6)]),[200000]⟩,⟨dG 8 3 3,[160000,200000]⟩,⟨ay 9 (.zN 24 3 1 [bJ,aG,aG] [dX 0 3 8]),[160000]⟩] [] [] [ay 10 (.app 24 3 32 (.t 7) (.t 9)),aD 4 10] [4]) .ret))⟩
def c78 : CF:=⟨2,[(.t 4)],[],[],(aV [ay 4 (.mv dH)] [0,1] (aV [aD 5 0,ay 6 (.call false 111 [(.t 5),(bK 1099511627776)]),aD 7 6,bA 8 7 true (.mv (.t 0)),bA 9 7 true (.mv (.t 1)),bA 10 7 true (.cmp .lt (.t 8) (.t 9)),ay 11 (.pick (.t 7) (.t 10) dH),aD 4 11] [4] .ret))⟩
def c116 : CF:=⟨2,[(.t 4)],[some 3],[],(aV [ay 3 (.box 24 (.t 1)),ay 4 (.mv (.k (.one .bY)))] [0,3] (aV [aD 5 0,ay 6 (.call false 115 [(.t 5)]),ay 7 (.P9 135 [(.t 3)]),ay 8 (.call true 134 [(.t 6),(.t 7)]),aD 4 8] [4] .ret))⟩
def QY : CF:=⟨1,[(.t 2)],[],[],(aV [ay 1 (.box 42 (.t 0)),ay 2 (.mv dH)] [1] (aV [bP 6 0 1,dG 7 3 6,ay 3 (.alloc 24 [bJ,aG,aG]),dh (.store 3 (.t 3) (.t 7))] [1,3] (.seq (.seq (.sH [⟨bP 8 0 3,[]⟩,⟨cO 9 8,[]⟩,⟨ay 10 (.call false 109 [(.t 9)]),[]⟩,⟨ay 11 (.no (.t 10)),[]⟩,⟨aD 12 11,[]⟩,⟨bA 13 12 false (.fa 0 (.t 3)),[]⟩,⟨bA 14 12 false (.load 1 false (.t 13)),[]⟩,⟨bA 15 12 false (.call false 68 [(.t 14)]),[]⟩,⟨bA 16 12 false (.fa 0 (.t 3)),[]⟩,⟨bA 17 12 false (.load 1 false (.t 16)),[]⟩] [] [] [bA 18 12 false (.sG (.one .str) true (.t 15) (.t 17)),ay 19 (.pick (.t 12) eD (.t 18)),aD 20 19,bA 21 20 false (.fa 1 (.t 3)),bA 22 20 false (.load 1 false (.t 21)),bA 23 20 false (.call false 131 [(.t 22),(bK 65535)]),bA 24 20 false (.no (.t 23)),ay 25 (.pick (.t 20) eD (.t 24)),aD 26 25,bA 27 26 false (.fa 2 (.t 3)),bA 28 26 false (.load 1 false (.t 27)),bA 29 26 false (.call false 131 [(.t 28),(bK 65535)]),bA 30 26 false (.no (.t 29)),ay 31 (.pick (.t 26) eD (.t 30)),aD 32 31,bA 33 32 false (.fa 4 (.t 1)),bA 34 32 false (.load 1 false (.t 33)),bA 35 32 false (.call false 131 [(.t 34),(bK 2147483647)]),bA 36 32 false (.no (.t 35)),ay 37 (.pick (.t 32) eD (.t 36))] [1,3,37]) (.cond (.t 37) (aV [ay 2 (.mv dH)] [2] .ret) .skip)) (.seq (aV [bP 38 3 1,cO 39 38,ay 40 (.iJ (.t 39)),ay 41 (.mv (bK 0))] [1,3,39,40,41] (.block 0 (.loop [1,3,39,40,41] [20802,40000,80000] [] (aV [ay 42 (.cmp .lt (.t 41) (.t 40))] [1,3,39,40,41,42] (.seq (.cond (.t 42) .skip (.exit 0)) (.seq (.block 1 (aV [aD 43 41,ay 44 (.ia 1 (.t 39) (.t 41)),cO 45 44,aD 4 43,aD 5 45] [1,3,4,5,39,40,41] (aV [bP 46 1 3,cO 47 46,aD 48 5,ay 49 (.call false 128 [(.t 47),(.t 48)]),ay 50 (.no (.t 49)),aD 51 50,bA 52 51 false (.fa 1 (.t 3)),bA 53 51 false (.load 1 false (.t 52)),bA 54 51 false (.mv (.t 5)),bA 55 51 false (.call false 132 [(.t 53),(.t 54)]),bA 56 51 false (.mv (.t 5)),bA 57 51 false (.sG (.one .str) true (.t 55) (.t 56)),ay 58 (.pick (.t 51) eD (.t 57)),aD 59 58,bA 60 59 false (.fa 3 (.t 1)),bA 61 59 false (.load 1 false (.t 60)),bA 62 59 false (.mv (.t 4)),bA 63 59 false (.cut 1 (.t 61) none (some (.t 62))),bA 64 59 false (.mv (.t 5)),bA 65 59 false (.call false 133 [(.t 63),(.t 64)]),ay 66 (.pick (.t 59) eD (.t 65))] [1,3,39,40,41,66] (.cond (.t 66) (aV [ay 2 (.mv dH)] [2] .ret) .skip)))) (.reg [ay 67 (.ar .add (.t 41) (bK 1)),aD 41 67] [1,3,39,40,41]))))))) (aV [bP 68 3 1,cO 69 68,ay 70 (.iJ (.t 69)),ay 71 (.cmp .gt (.t 70) (bK 0)),aD 2 71] [2] .ret)))))⟩
def P5 : CF:=⟨2,[(.t 4)],[],[],(aV [ay 4 (.mv dH)] [0,1] (.seq (aV [ay 5 (.mv (bK 0))] [0,1,5] (.block 0 (.loop [0,1,5] [20202] [] (.seq (aV [aD 6 5,aD 7 0,ay 8 (.iJ (.t 7)),ay 9 (.cmp .lt (.t 6) (.t 8))] [0,1,5,9] (.cond (.t 9) .skip (.exit 0))) (.seq (.block 1 (aV [aD 12 0,aD 13 5,ay 14 (.ia 1 (.t 12) (.t 13)),cO 15 14,aD 16 1,ay 17 (.sG (.one .str) false (.t 15) (.t 16))] [0,1,5,17] (.cond (.t 17) (aV [ay 4 (.mv eD)] [4] .ret) .skip))) (.reg [aD 10 5,ay 11 (.ar .add (.t 10) (bK 1)),aD 5 11] [0,1,5])))))) (aV [ay 4 (.mv dH)] [4] .ret)))⟩
def QZ : CF:=⟨2,[(.t 4)],[],[],(aV [ay 4 (.mv dH)] [0,1] (aV [aD 5 0,ay 6 (.cmp .ge (.t 5) (bK 0)),aD 7 6,bA 8 7 true (.mv (.t 0)),bA 9 7 true (.mv (.t 1)),bA 10 7 true (.cmp .le (.t 8) (.t 9)),ay 11 (.pick (.t 7) (.t 10) dH),aD 4 11] [4] .ret))⟩
def Q0 : CF:=⟨3,[(.t 6)],[],[],(aV [ay 6 (.mv dH)] [0,1,2] (aV [aD 7 2,ay 8 (.call false 122 [(.t 7),(bK 1)]),aD 9 8,bA 10 9 true (.mv (.t 1)),bA 11 9 true (.no (.t 10)),bA 12 9 true (.mv (.t 11)),bA 13 12 false (.mv (.t 2)),bA 14 12 false (.mv (.t 0)),bA 15 12 false (.cmp .ge (.t 13) (.t 14)),bA 16 9 true (.pick (.t 12) eD (.t 15)),ay 17 (.pick (.t 9) (.t 16) dH),aD 6 17] [6] .ret))⟩
def Q5 : CF:=⟨2,[(.t 4)],[some 3],[],(aV [ay 4 (.mv (.k (.one .bY)))] [0,1] (aV [aD 8 0,aD 9 1,ay 10 (.call false 149 [(.t 8),(.t 9)]),aD 5 10] [0,1,5] (.seq (aV [aD 11 5,ay 12 (.cmp .eq (.t 11) (bK (-1)))] [0,1,5,12] (.cond (.t 12) (aV [aD 13 0,aD 4 13] [4] .ret) .skip)) (.seq (aV [aD 14 5,ay 15 (.ar .add (.t 14) (bK 1)),aD 6 15] [0,1,5,6] (.block 0 (.loop [0,1,5,6] [20202] [] (.seq (aV [aD 16 6,aD 17 0,ay 18 (.iJ (.t 17)),ay 19 (.cmp .lt (.t 16) (.t 18))] [0,1,5,6,19] (.cond (.t 19) .skip (.exit 0))) (.seq (.block 1 (aV [aD 22 0,aD 23 6,ay 24 (.ia 3 (.t 22) (.t 23)),dG 25 3 24,ay 7 (.alloc 24 [bJ,aG,aG]),dh (.store 3 (.t 7) (.t 25))] [0,1,5,6,7] (aV [aD 26 1,dG 27 3 7,ay 28 (.dyn (.t 26) [(.t 27)]),ay 29 (.no (.t 28))] [0,1,5,6,7,29] (.cond (.t 29) (aV [aD 30 0,aD 31 5,dG 32 3 7,ay 33 (.ia 3 (.t 30) (.t 31)),dh (.store 3 (.t 33) (.t 32))] [0,1,5,6] (.reg [aD 34 5,ay 35 (.ar .add (.t 34) (bK 1)),aD 5 35] [0,1,5,6])) .skip)))) (.reg [aD 20 6,ay 21 (.ar .add (.t 20) (bK 1)),aD 6 21] [0,1,5,6])))))) (aV [aD 36 0,aD 37 5,ay 38 (.cutV 3 (.t 36) (.t 37)),⟨none,none,(.TI 3 [(.str ⟨#[]⟩),(.int .i64 0),(.int .i64 0)] (.t 38))⟩] [0,5] (aV [aD 39 0,aD 40 5,ay 41 (.D7 3 (.t 39) (.t 40)),aD 4 41] [4] .ret))))))⟩
def Q6 : CF:=⟨2,[(.t 3)],[none],[],(aV [ay 2 (.box 24 (.t 0)),ay 3 (.mv dH)] [1,2] (aV [dG 4 3 2,dG 5 3 1,ay 6 (.sG (.agg [.str,(.int .i64),(.int .i64)]) false (.t 4) (.t 5)),aD 3 6] [3] .ret))⟩
def c131 : CF:=⟨2,[(.t 4)],[],[],(aV [ay 4 (.mv dH)] [0,1] (aV [aD 5 0,ay 6 (.cmp .ge (.t 5) (bK 0)),aD 7 6,bA 8 7 true (.mv (.t 0)),bA 9 7 true (.mv (.t 1)),bA 10 7 true (.cmp .le (.t 8) (.t 9)),ay 11 (.pick (.t 7) (.t 10) dH),aD 4 11] [4] .ret))⟩
def Q7 : CF:=⟨2,[(.t 4)],[],[],(aV [ay 4 (.mv dH)] [0,1] (aV [aD 5 0,aD 6 1,ay 7 (.call false 148 [(.t 5),(.t 6)]),ay 8 (.cmp .ge (.t 7) (bK 0)),aD 4 8] [4] .ret))⟩
def Q8 : CF:=⟨2,[(.t 4)],[],[],(aV [ay 4 (.mv dH)] [0,1] (aV [aD 5 0,aD 6 1,ay 7 (.cmp .ge (.t 5) (.t 6)),aD 8 7,bA 9 8 true (.mv (.t 0)),bA 10 8 true (.cmp .le (.t 9) (bK 5)),ay 11 (.pick (.t 8) (.t 10) dH),aD 4 11] [4] .ret))⟩
def Q9 : CF:=⟨2,[(.t 4)],[],[],(aV [ay 4 (.mv (bK 0))] [0,1] (.seq (aV [aD 6 0,ay 7 (.iJ (.t 6)),ay 8 (.mv (bK 0))] [0,1,7,8] (.block 0 (.loop [0,1,7,8] [20202] [] (aV [ay 9 (.cmp .lt (.t 8) (.t 7))] [0,1,7,8,9] (.seq (.cond (.t 9) .skip (.exit 0)) (.seq (.block 1 (aV [aD 10 8,aD 5 10] [0,1,5,7,8] (aV [aD 11 1,aD 12 0,aD 13 5,ay 14 (.ia 3 (.t 12) (.t 13)),dG 15 3 14,ay 16 (.dyn (.t 11) [(.t 15)])] [0,1,5,7,8,16] (.cond (.t 16) (aV [aD 17 5,aD 4 17] [4] .ret) .skip)))) (.reg [ay 18 (.ar .add (.t 8) (bK 1)),aD 8 18] [0,1,7,8]))))))) (aV [ay 4 (.mv (bK (-1)))] [4] .ret)))⟩
def c148 : CF:=⟨2,[(.t 4)],[],[],(aV [ay 4 (.mv (bK 0))] [0,1] (.seq (aV [aD 6 0,ay 7 (.iJ (.t 6)),ay 8 (.mv (bK 0))] [0,1,7,8] (.block 0 (.loop [0,1,7,8] [20202] [] (aV [ay 9 (.cmp .lt (.t 8) (.t 7))] [0,1,7,8,9] (.seq (.cond (.t 9) .skip (.exit 0)) (.seq (.block 1 (aV [aD 10 8,aD 5 10] [0,1,5,7,8] (aV [aD 11 1,aD 12 0,aD 13 5,ay 14 (.ia 1 (.t 12) (.t 13)),cO 15 14,ay 16 (.sG (.one .str) false (.t 11) (.t 15))] [0,1,5,7,8,16] (.cond (.t 16) (aV [aD 17 5,aD 4 17] [4] .ret) .skip)))) (.reg [ay 18 (.ar .add (.t 8) (bK 1)),aD 8 18] [0,1,7,8]))))))) (aV [ay 4 (.mv (bK (-1)))] [4] .ret)))⟩
def c49 : CF:=⟨1,[(.t 2)],[],[],(aV [ay 2 (.mv (.k (.one .iR)))] [0] (.seq (aV [aD 3 0,ay 4 (.cmp .lt (.t 3) (bK 1)),aD 5 4,bA 6 5 false (.mv (.t 0)),bA 7 5 false (.cmp .gt (.t 6) (bK 1000)),ay 8 (.pick (.t 5) eD (.t 7))] [0,8] (.cond (.t 8) (aV [ay 2 (.mv (.k (.one .iR)))] [2] .ret) .skip)) (aV [aD 9 0,ay 10 (.pQ (.agg [.str,(.int .i64),(.int .i64)])),ay 11 (.build [aG,.fq,.bY,aG] [dX 0 1 9,dX 1 1 10]),ay 12 (.box 169 (.t 11)),aD 2 12] [2] .ret)))⟩
def c87 : CF:=⟨1,[(.t 2),(.t 3)],[],[],(aV [ay 1 (.box 42 (.t 0)),ay 2 (.mv (bK 0)),ay 3 (.mv dH)] [1] (.seq (aV [bP 7 0 1,bP 8 1 7,cO 9 8,ay 10 (.cmp .ne (.t 9) (bK 6)),aD 11 10,bA 12 11 false (.load 5 true (.t 1)),bA 13 11 false (.call false 113 [(.t 12)]),bA 14 11 false (.no (.t 13)),ay 15 (.pick (.t 11) eD (.t 14))] [1,15] (.cond (.t 15) (aV [ay 2 (.mv (bK 0)),ay 3 (.mv dH)] [2,3] .ret) .skip)) (aV [bP 16 3 1,cO 17 16,ay 18 (.ia 1 (.t 17) (bK 0)),cO 19 18,aD 4 19] [1,4] (aV [aD 21 4,aD 22 4,ay 23 (.xG (.t 22)),ay 24 (.ar .sub (.t 23) (bK 4)),ay 25 (.call false 117 [(.t 21),(.t 24),(bK 4)]),aD 20 25,ay 26 (.ext (.t 20) 0),ay 27 (.ext (.t 20) 1),aD 5 26,aD 6 27] [1,5] (aV [aD 28 5,bP 29 4 1,cO 30 29,ay 31 (.mn (.t 28) (.t 30)),aD 2 31,ay 3 (.mv eD)] [2,3] .ret)))))⟩
def c51 : CF:=⟨5,[(.t 10)],[],[],(aV [ay 7 (.box 24 (.t 2)),ay 9 (.box 42 (.t 4)),ay 10 (.mv (bK 0))] [0,1,3,7,9] (aV [dG 19 5 9,ay 20 (.call false 87 [(.t 19)]),aD 18 20,ay 21 (.ext (.t 18) 0),ay 22 (.ext (.t 18) 1),aD 11 21,aD 12 22] [0,1,3,7,9,11,12] (aV [aD 23 1,aD 24 11,ay 25 (.call false 82 [(.t 23),(.t 24)]),aD 13 25] [0,1,3,7,9,12,13] (.seq (.block 0 (aV [aD 27 0,ay 28 (.xD false (.t 27)),aD 29 28,bA 30 29 false (.mv (.t 12)),bA 31 29 false (.no (.t 30)),ay 32 (.pick (.t 29) eD (.t 31)),aD 33 32,bA 34 33 false (.mv (.t 13)),bA 35 33 false (.cmp .eq (.t 34) (bK (-1))),ay 36 (.pick (.t 33) eD (.t 35)),aD 37 36,bA 38 37 false (.load 3 true (.t 7)),bA 39 37 false (.call false 88 [(.t 38)]),bA 40 37 false (.no (.t 39)),ay 41 (.pick (.t 37) eD (.t 40)),aD 26 41] [0,1,3,7,9,13,26] (.cond (.t 26) (aV [ay 10 (.mv (bK 1))] [10] .ret) (aV [aD 43 1,aD 44 13,ay 45 (.call false 78 [(.t 43),(.t 44)]),ay 46 (.no (.t 45)),aD 42 46] [0,3,7,9,13,42] (.cond (.t 42) (aV [ay 10 (.mv (bK 14))] [10] .ret) .skip))))) (.seq (aV [aD 47 3] [0,3,7,9,13,47] (.cond (.t 47) (.reg [dG 48 3 7,ay 49 (.call false 89 [(.t 48)]),dh (.store 3 (.t 7) (.t 49))] [0,3,7,9,13]) .skip)) (.seq (.sH [⟨aD 50 0,[]⟩,⟨ay 51 (.gY (.t 50)),[]⟩,⟨bP 52 1 51,[]⟩,⟨cO 53 52,[]⟩,⟨dG 54 3 7,[]⟩,⟨dG 55 3 7,[]⟩,⟨aD 56 3,[]⟩,⟨dG 57 5 9,[]⟩,⟨aD 58 13,[]⟩,⟨ay 59 (.build [bJ,aG,aG,(.f (.bool false)),bJ,aG,aG,.bY,aG,aG] [dX 0 3 55,dX 3 1 56,dX 4 5 57,dX 9 1 58]),[]⟩,⟨ay 60 (.call false 90 [(.t 59)]),[]⟩] [] [] [dh (.xE (.agg [.str,(.int .i64),(.int .i64)]) (.t 53) (.t 54) (.t 60))] [0,7]) (.seq (.sH [⟨aD 62 0,[]⟩,⟨ay 63 (.gY (.t 62)),[]⟩,⟨bP 64 2 63,[]⟩,⟨cO 65 64,[]⟩,⟨dG 66 3 7,[]⟩,⟨ay 67 (.call false 86 [(.t 65),(.t 66)]),[]⟩,⟨aD 68 0,[]⟩,⟨ay 69 (.gY (.t 68)),[]⟩,⟨bP 70 0 69,[]⟩,⟨cO 71 70,[]⟩,⟨ay 72 (.call false 85 [(.t 67),(.t 71)]),[]⟩,⟨aD 61 72,[]⟩,⟨ay 73 (.ext (.t 61) 0),[]⟩,⟨ay 74 (.ext (.t 61) 1),[]⟩,⟨aD 14 73,[]⟩] [] [] [aD 15 74] [0,14,15]) (.seq (aV [aD 75 15,ay 76 (.iJ (.t 75)),ay 77 (.mv (bK 0))] [0,14,75,76,77] (.block 1 (.loop [0,14,75,76,77] [20201,20205,20208,1460200,1462200] [] (aV [ay 78 (.cmp .lt (.t 77) (.t 76))] [0,14,75,76,77,78] (.seq (.cond (.t 78) .skip (.exit 1)) (.seq (.block 2 (aV [ay 79 (.ia 3 (.t 75) (.t 77)),dG 80 3 79,ay 17 (.alloc 24 [bJ,aG,aG]),dh (.store 3 (.t 17) (.t 80))] [0,14,17,75,76,77] (.sH [⟨aD 81 0,[]⟩,⟨ay 82 (.gY (.t 81)),[]⟩,⟨bP 83 1 82,[]⟩,⟨cO 84 83,[]⟩,⟨dG 85 3 17,[]⟩] [] [] [dh (.del (.agg [.str,(.int .i64),(.int .i64)]) (.t 84) (.t 85))] [0,14,75,76,77]))) (.reg [ay 86 (.ar .add (.t 77) (bK 1)),aD 77 86] [0,14,75,76,77]))))))) (aV [aD 87 0,aD 88 14,ay 89 (.gY (.t 87)),bP 90 2 89,dh (.store 1 (.t 90) (.t 88))] [0] (aV [aD 91 0,ay 92 (.gY (.t 91)),bP 93 3 92,cO 94 93,ay 95 (.ar .add (.t 94) (bK 1)),ay 96 (.gY (.t 91)),bP 97 3 96,dh (.store 1 (.t 97) (.t 95))] [] (aV [ay 10 (.mv (bK 0))] [10] .ret)))))))))))⟩
def Rf : CF:=⟨3,[(.cell 6 10 true),(.t 7)],[],[],(aV [ay 5 (.box 24 (.t 2)),ay 6 (.alloc 178 [bJ,aG,aG,(.f (.bool false)),bJ,aG,aG,.bY,aG,aG]),ay 7 (.mv dH)] [0,1,5,6] (.seq (aV [aD 12 0,ay 13 (.xD false (.t 12))] [0,1,5,6,13] (.cond (.t 13) (aV [ay 14 (.build [bJ,aG,aG,(.f (.bool false)),bJ,aG,aG,.bY,aG,aG] []),dh (.store 10 (.t 6) (.t 14)),ay 7 (.mv dH)] [6,7] .ret) .skip)) (.seq (.seq (.sH [⟨dG 15 3 5,[380000]⟩,⟨ay 16 (.call false 89 [(.t 15)]),[380000]⟩,⟨dG 17 3 5,[380000]⟩,⟨ay 18 (.zN 24 3 2 [bJ,aG,aG,bJ,aG,aG] [dX 0 3 16,dX 3 3 17]),[]⟩,⟨ay 19 (.iJ (.t 18)),[]⟩,⟨ay 20 (.mv (bK 0)),[380000]⟩] [] [] [] [0,1,6,18,19,20]) (.block 0 (.loop [0,1,6,18,19,20] [20201,20205,20208,140000,380000,841600] [] (aV [ay 21 (.cmp .lt (.t 20) (.t 19))] [0,1,6,18,19,20,21] (.seq (.cond (.t 21) .skip (.exit 0)) (.seq (.block 1 (aV [ay 22 (.ia 3 (.t 18) (.t 20)),dG 23 3 22,ay 9 (.alloc 24 [bJ,aG,aG]),dh (.store 3 (.t 9) (.t 23))] [0,1,6,9,18,19,20] (.seq (.sH [⟨aD 25 0,[220000]⟩,⟨ay 26 (.gY (.t 25)),[220000]⟩,⟨bP 27 1 26,[220000]⟩,⟨cO 28 27,[220000]⟩,⟨dG 29 3 9,[220000]⟩,⟨⟨(some 30),none,(.look (.agg [.str,(.int .i64),(.int .i64)]) (.agg [(.str ⟨#[]⟩),(.int .i64 0),(.int .i64 0),(.bool false),(.str ⟨#[]⟩),(.int .i64 0),(.int .i64 0),(.sl []),(.int .i64 0),(.int .i64 0)]) true (.t 28) (.t 29))⟩,[220000]⟩,⟨aD 24 30,[220000]⟩,⟨ay 31 (.ext (.t 24) 0),[220000]⟩,⟨ay 32 (.ext (.t 24) 1),[220000]⟩,⟨ay 10 (.alloc 178 [bJ,aG,aG,(.f (.bool false)),bJ,aG,aG,.bY,aG,aG]),[]⟩] [8] [dh (.store 10 (.t 10) (.t 31))] [aD 11 32] [0,1,6,10,11,18,19,20]) (aV [aD 33 11,aD 34 33,bA 35 34 true (.mv (.t 1)),bA 36 34 true (.fa 9 (.t 10)),bA 37 34 true (.load 1 false (.t 36)),bA 38 34 true (.call false 78 [(.t 35),(.t 37)]),ay 39 (.pick (.t 34) (.t 38) dH)] [0,1,6,10,18,19,20,39] (.cond (.t 39) (aV [dG 40 10 10,ay 41 (.call false 90 [(.t 40)]),dh (.store 10 (.t 6) (.t 41)),ay 7 (.mv eD)] [6,7] .ret) .skip))))) (.reg [ay 42 (.ar .add (.t 20) (bK 1)),aD 20 42] [0,1,6,18,19,20]))))))) (aV [ay 43 (.build [bJ,aG,aG,(.f (.bool false)),bJ,aG,aG,.bY,aG,aG] []),dh (.store 10 (.t 6) (.t 43)),ay 7 (.mv dH)] [6,7] .ret))))⟩
def c88 : CF:=⟨1,[(.t 2)],[],[],(aV [ay 1 (.box 24 (.t 0)),ay 2 (.mv dH)] [1] (.seq (.sH [⟨bP 3 1 1,[]⟩,⟨cO 4 3,[]⟩,⟨ay 5 (.cmp .gt (.t 4) (bK 0)),[]⟩,⟨aD 6 5,[]⟩,⟨bA 7 6 true (.fa 1 (.t 1)),[]⟩,⟨bA 8 6 true (.load 1 false (.t 7)),[]⟩,⟨bA 9 6 true (.cmp .le (.t 8) (bK 65535)),[]⟩,⟨ay 10 (.pick (.t 6) (.t 9) dH),[]⟩,⟨aD 11 10,[]⟩,⟨bA 12 11 true (.fa 2 (.t 1)),[]⟩,⟨bA 13 11 true (.load 1 false (.t 12)),[]⟩,⟨bA 14 11 true (.cmp .ge (.t 13) (bK 0)),[]⟩,⟨ay 15 (.pick (.t 11) (.t 14) dH),[]⟩,⟨aD 16 15,[]⟩,⟨bA 17 16 true (.fa 2 (.t 1)),[]⟩,⟨bA 18 16 true (.load 1 false (.t 17)),[]⟩,⟨bA 19 16 true (.cmp .le (.t 18) (bK 65535)),[]⟩,⟨ay 20 (.pick (.t 16) (.t 19) dH),[]⟩,⟨aD 21 20,[]⟩,⟨bA 22 21 true (.fa 0 (.t 1)),[]⟩,⟨bA 23 21 true (.load 1 false (.t 22)),[]⟩,⟨bA 24 21 true (.call false 109 [(.t 23)]),[]⟩,⟨ay 25 (.pick (.t 21) (.t 24) dH),[]⟩,⟨aD 26 25,[]⟩,⟨bA 27 26 true (.fa 0 (.t 1)),[]⟩,⟨bA 28 26 true (.load 1 false (.t 27)),[]⟩,⟨bA 29 26 true (.call false 68 [(.t 28)]),[]⟩,⟨bA 30 26 true (.fa 0 (.t 1)),[]⟩,⟨bA 31 26 true (.load 1 false (.t 30)),[]⟩] [] [] [bA 32 26 true (.sG (.one .str) false (.t 29) (.t 31)),ay 33 (.pick (.t 26) (.t 32) dH),aD 2 33] [2]) .ret))⟩
def c89 : CF:=⟨1,[(.cell 2 3 true)],[],[],(aV [ay 1 (.box 24 (.t 0)),ay 2 (.alloc 24 [bJ,aG,aG])] [1,2] (aV [bP 3 1 1,dh (.store 1 (.t 3) (bK 0))] [1,2] (aV [dG 4 3 1,dh (.store 3 (.t 2) (.t 4))] [2] .ret)))⟩
def c90 : CF:=⟨1,[(.cell 2 10 true)],[],[],(aV [ay 1 (.box 178 (.t 0)),ay 2 (.alloc 178 [bJ,aG,aG,(.f (.bool false)),bJ,aG,aG,.bY,aG,aG])] [1,2] (aV [bP 3 4 1,bP 4 3 3,cO 5 4,ay 6 (.call false 72 [(.t 5)]),bP 7 4 1,bP 8 3 7,dh (.store 1 (.t 8) (.t 6))] [1,2] (aV [dG 9 10 1,dh (.store 10 (.t 2) (.t 9))] [2] .ret)))⟩
def c10 : CF:=⟨2,[(.t 4)],[],[],(aV [ay 4 (.mv (bK 0))] [0,1] (.seq (aV [ay 5 (.mv (bK 0))] [0,1,5] (.block 0 (.loop [0,1,5] [20202] [] (.seq (aV [aD 6 5,aD 7 0,ay 8 (.iJ (.t 7)),ay 9 (.cmp .lt (.t 6) (.t 8))] [0,1,5,9] (.cond (.t 9) .skip (.exit 0))) (.seq (.block 1 (aV [aD 12 0,aD 13 5,ay 14 (.ia 10 (.t 12) (.t 13)),bP 15 1 14,dG 16 5 15,ay 17 (.call false 45 [(.t 16)]),ay 18 (.no (.t 17)),aD 19 18,bA 20 19 false (.mv (.t 0)),bA 21 19 false (.mv (.t 5)),bA 22 19 false (.ia 10 (.t 20) (.t 21)),bA 23 19 false (.fa 7 (.t 22)),bA 24 19 false (.fa 0 (.t 23)),bA 25 19 false (.load 1 false (.t 24)),bA 26 19 false (.xG (.t 25)),bA 27 19 false (.cmp .gt (.t 26) (bK 300)),ay 28 (.pick (.t 19) eD (.t 27))] [0,1,5,28] (.cond (.t 28) (aV [ay 4 (.mv (bK 0))] [4] .ret) .skip))) (.reg [aD 10 5,ay 11 (.ar .add (.t 10) (bK 1)),aD 5 11] [0,1,5])))))) (.seq (aV [aD 29 0,ay 30 (.iJ (.t 29)),aD 31 1,ay 32 (.cmp .gt (.t 30) (.t 31))] [32] (.cond (.t 32) (aV [ay 4 (.mv (bK 0))] [4] .ret) .skip)) (aV [ay 4 (.mv (bK 1))] [4] .ret))))⟩
def c12 : CF:=⟨1,[(.t 2),(.t 3)],[],[0],(aV [ay 2 (.mv (.k (.one .iR))),ay 3 (.mv (.k (.one .iR)))] [0] (aV [ay 7 (.call false 48 [(bK 50)]),aD 4 7] [0,4] (aV [ay 8 (.call false 49 [(bK 50)]),aD 5 8] [0,4,5] (.seq (aV [ay 6 (.mv (bK 0))] [0,4,5,6] (.block 0 (.loop [0,4,5,6] [30201,160200,160204,160206,180200,180204,180206] [] (.seq (aV [aD 9 6,aD 10 0,ay 11 (.iJ (.t 10)),ay 12 (.cmp .lt (.t 9) (.t 11))] [0,4,5,6,12] (.cond (.t 12) .skip (.exit 0))) (.seq (.block 1 (aV [aD 15 0,aD 16 6,ay 17 (.ia 10 (.t 15) (.t 16)),bP 18 6 17,cO 19 18,ay 20 (.cmp .gt (.t 19) (bK 0))] [0,4,5,6,20] (.cond (.t 20) (.sH [⟨aD 21 4,[]⟩,⟨aD 22 0,[]⟩,⟨aD 23 6,[]⟩,⟨ay 24 (.ia 10 (.t 22) (.t 23)),[]⟩,⟨bP 25 0 24,[]⟩,⟨cO 26 25,[]⟩,⟨aD 27 0,[]⟩,⟨aD 28 6,[]⟩,⟨ay 29 (.ia 10 (.t 27) (.t 28)),[]⟩,⟨bP 30 1 29,[]⟩,⟨dG 31 5 30,[]⟩,⟨aD 32 0,[]⟩,⟨aD 33 6,[]⟩,⟨ay 34 (.ia 10 (.t 32) (.t 33)),[]⟩,⟨bP 35 6 34,[]⟩,⟨cO 36 35,[]⟩] [] [] [ay 37 (.call false 50 [(.t 21),(.t 26),(.t 31),(.t 36)])] [0,4,5,6]) (.sH [⟨aD 38 5,[]⟩,⟨aD 39 0,[]⟩,⟨aD 40 6,[]⟩,⟨ay 41 (.ia 10 (.t 39) (.t 40)),[]⟩,⟨bP 42 0 41,[]⟩,⟨cO 43 42,[]⟩,⟨aD 44 0,[]⟩,⟨aD 45 6,[]⟩,⟨ay 46 (.ia 10 (.t 44) (.t 45)),[]⟩,⟨bP 47 7 46,[]⟩,⟨dG 48 3 47,[]⟩,⟨aD 49 0,[]⟩,⟨aD 50 6,[]⟩,⟨ay 51 (.ia 10 (.t 49) (.t 50)),[]⟩,⟨bP 52 6 51,[]⟩,⟨cO 53 52,[]⟩,⟨ay 54 (.cmp .lt (.t 53) (bK 0)),[]⟩,⟨aD 55 0,[]⟩,⟨aD 56 6,[]⟩,⟨ay 57 (.ia 10 (.t 55) (.t 56)),[]⟩,⟨bP 58 1 57,[]⟩,⟨dG 59 5 58,[]⟩] [] [] [ay 60 (.call false 51 [(.t 38),(.t 43),(.t 48),(.t 54),(.t 59)])] [0,4,5,6])))) (.reg [aD 13 6,ay 14 (.ar .add (.t 13) (bK 1)),aD 6 14] [0,4,5,6])))))) (aV [aD 61 4,aD 62 5,aD 2 61,aD 3 62] [2,3] .ret)))))⟩
def WW : CF:=⟨1,[(.t 2),(.t 3)],[],[],(aV [ay 1 (.box 42 (.t 0)),ay 2 (.mv (.k (.one bJ))),ay 3 (.mv dH)] [1] (.seq (aV [bP 5 0 1,bP 6 1 5,cO 7 6,ay 8 (.cmp .ne (.t 7) (bK 5)),aD 9 8,bA 10 9 false (.fa 3 (.t 1)),bA 11 9 false (.load 1 false (.t 10)),bA 12 9 false (.iJ (.t 11)),bA 13 9 false (.cmp .eq (.t 12) (bK 0)),ay 14 (.pick (.t 9) eD (.t 13))] [1,14] (.cond (.t 14) (aV [ay 2 (.mv (.k (.one bJ))),ay 3 (.mv dH)] [2,3] .ret) .skip)) (aV [bP 15 3 1,cO 16 15,ay 17 (.ia 1 (.t 16) (bK 0)),cO 18 17,ay 19 (.call false 81 [(bK 5),(.t 18)]),aD 4 19] [4] (.seq (aV [aD 20 4,ay 21 (.iJ (.t 20)),ay 22 (.cmp .eq (.t 21) (bK 0))] [4,22] (.cond (.t 22) (aV [ay 2 (.mv (.k (.one bJ))),ay 3 (.mv dH)] [2,3] .ret) .skip)) (aV [aD 23 4,ay 24 (.ia 1 (.t 23) (bK 0)),cO 25 24,aD 2 25,ay 3 (.mv eD)] [2,3] .ret)))))⟩
def Za : CF:=⟨2,[(.cell 4 6 true),(.t 5)],[],[],(aV [ay 2 (.box 128 (.t 0)),ay 3 (.box 24 (.t 1)),ay 4 (.alloc 44 [bJ,aG,aG,.bY,aG,aG]),ay 5 (.mv dH)] [2,3,4] (aV [bP 9 0 2,cO 10 9,bP 11 2 2,cO 12 11,dG 13 3 3,ay 14 (.call false 43 [(.t 10),(.t 12),(.t 13)]),aD 8 14,ay 15 (.ext (.t 8) 0),ay 16 (.ext (.t 8) 1),ay 6 (.alloc 106 [bJ,aG,aG,.bY,aG,aG,aG]),dh (.store 7 (.t 6) (.t 15)),aD 7 16] [2,4,6,7] (.seq (aV [aD 17 7,ay 18 (.no (.t 17)),aD 19 18,bA 20 19 false (.fa 6 (.t 6)),bA 21 19 false (.load 1 false (.t 20)),bA 22 19 false (.call false 101 [(.t 21)]),bA 23 19 false (.no (.t 22)),ay 24 (.pick (.t 19) eD (.t 23))] [2,4,6,24] (.cond (.t 24) (aV [ay 25 (.build [bJ,aG,aG,.bY,aG,aG] []),dh (.store 6 (.t 4) (.t 25)),ay 5 (.mv dH)] [4,5] .ret) .skip)) (.seq (.sH [⟨bP 26 0 6,[]⟩,⟨dG 27 5 26,[]⟩,⟨bP 28 2 2,[]⟩,⟨cO 29 28,[]⟩,⟨bP 30 5 6,[]⟩,⟨cO 31 30,[]⟩,⟨ay 32 (.call false 102 [(.t 29),(.t 31)]),[]⟩] [] [] [ay 33 (.build [bJ,aG,aG,.bY,aG,aG] [dX 0 5 27,dX 5 1 32]),dh (.store 6 (.t 4) (.t 33)),ay 5 (.mv eD)] [4,5]) .ret))))⟩
def c57 : CF:=⟨2,[(.cell 4 6 true),(.t 5),(.t 6)],[],[],(aV [ay 2 (.box 128 (.t 0)),ay 3 (.box 24 (.t 1)),ay 4 (.alloc 44 [bJ,aG,aG,.bY,aG,aG]),ay 5 (.mv (.k (.one bJ))),ay 6 (.mv dH)] [2,3,4] (.seq (aV [bP 11 1 3,cO 12 11,ay 13 (.cmp .eq (.t 12) (bK 5))] [2,3,4,13] (.cond (.t 13) (aV [ay 14 (.build [bJ,aG,aG,.bY,aG,aG] []),dh (.store 6 (.t 4) (.t 14)),ay 5 (.mv (.k (.one bJ))),ay 6 (.mv dH)] [4,5,6] .ret) .skip)) (aV [bP 15 1 3,dh (.store 1 (.t 15) (bK 5))] [2,3,4] (aV [dG 17 3 2,dG 18 3 3,ay 19 (.call false 56 [(.t 17),(.t 18)]),aD 16 19,ay 20 (.ext (.t 16) 0),ay 21 (.ext (.t 16) 1),ay 7 (.alloc 44 [bJ,aG,aG,.bY,aG,aG]),dh (.store 6 (.t 7) (.t 20)),aD 8 21] [4,7] (aV [bP 23 0 7,dG 24 5 23,ay 25 (.call false 47 [(.t 24)]),aD 22 25,ay 26 (.ext (.t 22) 0),ay 27 (.ext (.t 22) 1),aD 9 26,aD 10 27] [4,7,9,10] (aV [dG 28 6 7,aD 29 9,aD 30 10,dh (.store 6 (.t 4) (.t 28)),aD 5 29,aD 6 30] [4,5,6] .ret))))))⟩
def c58 : CF:=⟨3,[(.cell 6 9 true)],[],[],(aV [ay 3 (.box 128 (.t 0)),ay 4 (.box 46 (.t 1)),ay 5 (.box 24 (.t 2)),ay 6 (.alloc 46 [.bY,aG,bJ,bJ,aG,aG,.bY,aG,aG])] [3,4,5,6] (aV [bP 10 1 3,cO 11 10,bP 12 2 3,cO 13 12,dG 14 3 5,ay 15 (.call false 103 [(.t 11),(.t 13),(.t 14)]),aD 9 15,ay 16 (.ext (.t 9) 0),ay 17 (.ext (.t 9) 1),ay 7 (.alloc 178 [bJ,aG,aG,(.f (.bool false)),bJ,aG,aG,.bY,aG,aG]),dh (.store 10 (.t 7) (.t 16)),aD 8 17] [3,4,6,7,8] (.seq (.block 0 (aV [aD 20 8,ay 21 (.no (.t 20)),aD 19 21] [3,4,6,7,19] (.cond (.t 19) (aV [bP 22 1 4,dh (.store 1 (.t 22) (bK 3))] [4,6] (aV [dG 23 9 4,dh (.store 9 (.t 6) (.t 23))] [6] .ret)) (aV [bP 25 3 7,cO 26 25,aD 24 26] [3,4,6,7,24] (.cond (.t 24) (.reg [bP 27 1 4,dh (.store 1 (.t 27) (bK 2))] [3,4,6,7]) (.reg [bP 18 1 4,dh (.store 1 (.t 18) (bK 1))] [3,4,6,7])))))) (.seq (.sH [⟨bP 28 4 7,[]⟩,⟨dG 29 5 28,[]⟩,⟨bP 30 2 3,[]⟩,⟨cO 31 30,[]⟩,⟨bP 32 9 7,[]⟩,⟨cO 33 32,[]⟩,⟨ay 34 (.call false 102 [(.t 31),(.t 33)]),[]⟩] [] [] [ay 35 (.build [bJ,aG,aG,.bY,aG,aG] [dX 0 5 29,dX 5 1 34]),bP 36 3 4,dh (.store 6 (.t 36) (.t 35))] [4,6]) (aV [dG 37 9 4,dh (.store 9 (.t 6) (.t 37))] [6] .ret)))))⟩
def c14 : CF:=⟨4,[(.cell 8 9 true)],[],[],(aV [ay 7 (.box 24 (.t 3)),ay 8 (.alloc 46 [.bY,aG,bJ,bJ,aG,aG,.bY,aG,aG])] [0,1,2,7,8] (aV [aD 17 0,aD 18 1,aD 19 2,ay 20 (.build [.iR,.iR,aG] [dX 0 1 17,dX 1 1 18,dX 2 1 19]),ay 9 (.alloc 128 [.iR,.iR,aG]),dh (.store 3 (.t 9) (.t 20))] [7,8,9] (aV [ay 10 (.alloc 46 [.bY,aG,bJ,bJ,aG,aG,.bY,aG,aG])] [7,8,9,10] (aV [ay 21 (.pQ (.one .str)),aD 11 21] [7,8,9,10,11] (.block 0 (.loop [7,8,9,10,11] [20201,20205,20208,40201,40205,40208,160000,180000,200000,220000,440000,690002,690004,690006,690008,690010,690012,690014,690016,690202,690204,690206,690208,690210,690212,690214,690216,690402,690404,690406,690408,690410,690412,690414,690416,690602,690604,690606,690608,690610,690612,690614,690616,690802,690804,690806,690808,690810,690812,690814,690816,691002,691004,691006,691008,691010,691012,691014,691016,840000,960800,970002,970004,970006,970008,970010,970012,970014,970016,970202,970204,970206,970208,970210,970212,970214,970216,970402,970404,970406,970408,970410,970412,970414,970416,970602,970604,970606,970608,970610,970612,970614,970616,970802,970804,970806,970808,970810,970812,970814,970816,971002,971004,971006,971008,971010,971012,971014,971016,1140200,1141400,1150002,1150004,1150006,1150008,1150010,1150012,1150014,1150016,1150202,1150204,1150206,1150208,1150210,1150212,1150214,1150216,1150402,1150404,1150406,1150408,1150410,1150412,1150414,1150416,1150602,1150604,1150606,1150608,1150610,1150612,1150614,1150616,1150802,1150804,1150806,1150808,1150810,1150812,1150814,1150816,1151002,1151004,1151006,1151008,1151010,1151012,1151014,1151016,1240000] [] (.block 1 (aV [bP 22 0 7,cO 23 22,bP 24 2 10,dh (.store 1 (.t 24) (.t 23))] [7,8,9,10,11] (aV [aD 25 11,bP 26 0 7,cO 27 26,ay 28 (.look (.one .str) (.one (.int .i64 0)) false (.t 25) (.t 27)),ay 29 (.ar .add (.t 28) (bK 1)),dh (.xE (.one .str) (.t 25) (.t 27) (.t 29))] [7,8,9,10,11] (.seq (aV [dG 31 3 9,dG 32 3 7,ay 33 (.call false 56 [(.t 31),(.t 32)]),aD 30 33,ay 34 (.ext (.t 30) 0),ay 35 (.ext (.t 30) 1),ay 12 (.alloc 44 [bJ,aG,aG,.bY,aG,aG]),dh (.store 6 (.t 12) (.t 34)),aD 13 35] [7,8,9,10,11,12,13] (aV [aD 36 13] [7,8,9,10,11,12,36] (.cond (.t 36) (aV [bP 37 0 10,cO 38 37,dG 39 6 12,ay 40 (.zN 44 6 1 [bJ,aG,aG,.bY,aG,aG] [dX 0 6 39]),ay 41 (.app 44 6 72 (.t 38) (.t 40)),bP 42 0 10,dh (.store 1 (.t 42) (.t 41))] [8,10] (aV [dG 43 9 10,dh (.store 9 (.t 8) (.t 43))] [8] .ret)) .skip))) (aV [dG 45 3 9,dG 46 3 7,ay 47 (.call false 57 [(.t 45),(.t 46)]),aD 44 47,ay 48 (.ext (.t 44) 0),ay 49 (.ext (.t 44) 1),ay 50 (.ext (.t 44) 2),ay 14 (.alloc 44 [bJ,aG,aG,.bY,aG,aG]),dh (.store 6 (.t 14) (.t 48)),aD 15 49,aD 16 50] [7,8,9,10,11,14,15,16] (.seq (aV [aD 51 16,ay 52 (.no (.t 51))] [7,8,9,10,11,14,15,52] (.cond (.t 52) (aV [dG 53 3 9,dG 54 9 10,dG 55 3 7,ay 56 (.call false 58 [(.t 53),(.t 54),(.t 55)]),dh (.store 9 (.t 8) (.t 56))] [8] .ret) .skip)) (aV [bP 57 0 10,cO 58 57,dG 59 6 14,ay 60 (.zN 44 6 1 [bJ,aG,aG,.bY,aG,aG] [dX 0 6 59]),ay 61 (.app 44 6 72 (.t 58) (.t 60)),bP 62 0 10,dh (.store 1 (.t 62) (.t 61))] [7,8,9,10,11,15] (.seq (aV [bP 63 0 10,cO 64 63,ay 65 (.iJ (.t 64)),ay 66 (.cmp .gt (.t 65) (bK 8)),aD 67 66,bA 68 67 false (.mv (.t 11)),bA 69 67 false (.mv (.t 15)),bA 70 67 false (.look (.one .str) (.one (.int .i64 0)) false (.t 68) (.t 69)),bA 71 67 false (.cmp .gt (.t 70) (bK 0)),ay 72 (.pick (.t 67) eD (.t 71))] [7,8,9,10,11,15,72] (.cond (.t 72) (aV [bP 73 1 10,dh (.store 1 (.t 73) (bK 4))] [8,10] (aV [dG 74 9 10,dh (.store 9 (.t 8) (.t 74))] [8] .ret)) .skip)) (.reg [aD 75 15,bP 76 0 7,dh (.store 1 (.t 76) (.t 75))] [7,8,9,10,11])))))))))))))))⟩
def M8 : CF:=⟨2,[(.t 4)],[],[],(aV [ay 4 (.mv (bK 0))] [0,1] (.seq (aV [aD 5 0,aD 6 1,ay 7 (.call false 78 [(.t 5),(.t 6)]),ay 8 (.no (.t 7))] [0,1,8] (.cond (.t 8) (aV [ay 4 (.mv (bK 0))] [4] .ret) .skip)) (aV [aD 9 1,aD 10 0,ay 11 (.ar .sub (.t 9) (.t 10)),ay 12 (.mn (.t 11) (bK 604800)),aD 4 12] [4] .ret)))⟩
def Rh : CF:=⟨1,[(.t 2)],[],[],(aV [ay 2 (.mv dH)] [0] (aV [aD 3 0,ay 4 (.call false 122 [(.t 3),(bK 3)]),aD 2 4] [2] .ret))⟩
def pI : List (FuncId × CF):=[(48,c48),(43,c43),(45,c45),(82,c82),(84,WV),(79,c79),(85,c85),(86,c86),(78,c78),(116,c116),(113,QY),(39,P5),(111,QZ),(114,Q0),(134,Q5),(135,Q6),(131,c131),(133,Q7),(122,Q8),(149,Q9),(148,c148),(49,c49),(87,c87),(51,c51),(103,Rf),(88,c88),(89,c89),(90,c90),(10,c10),(12,c12),(47,WW),(56,Za),(57,c57),(58,c58),(14,c14),(102,M8),(101,Rh)]
end
section
attribute [local go_sem_proc] Nat.reduceAdd Nat.reduceMul Nat.reduceEqDiff Nat.reduceBEq Nat.reduceMod Nat.reduceDiv reduceCtorEq
attribute [local go_sem_proc ↓] reduceIte
open Go Ev
variable {ext : Env} {F n:Nat}
noncomputable abbrev G (ext:Env) (F n:Nat):Env:=Gm pI ext F n
theorem pK {x:Int} (h1:-9223372036854775808 ≤ x) (h2:x ≤ 9223372036854775807):IntKind.i64.wrap x = x:=by
 rw [IntKind.wrap_i64];omega
abbrev vi (x:Int):AV:=.one (.f (.int .i64 x))
abbrev vb (b:Bool):AV:=.one (.f (.bool b))
abbrev vs (s:ByteArray):AV:=.one (.f (.str s))
abbrev vl (l:List (List FV)):AV:=.one (.f (.sl l))
def bC (s:ByteArray):List FV:=[.str s]
abbrev vq (q:ByteArray) (t c:Int):AV:=.agg [.f (.str q),.f (.int .i64 t),.f (.int .i64 c)]
abbrev tQ (q:ByteArray) (t c:Int) (d:List ByteArray) (ttl:Int):AV:=.agg [.f (.str q),.f (.int .i64 t),.f (.int .i64 c),.f (.sl (d.map bC)),.f (.int .i64 ttl)]
theorem Uz (x m:Int):G ext F (n + 1) 131 [vi x,vi m] = some ([vb (decide (0 ≤ x ∧ x ≤ m))],[vi x,vi m]):=by
 refine dI (cf:=c131) rfl ?_
 dsimp only [c131,ay,dh,bA,bK,aG,bJ,dX,eD,dH,aD,cO,dG,bP,aV];simp only [go_sem]
 repeat' (refine eB (fun h=>?_) (fun h=>?_) <;> simp only [h,go_sem])
 all_goals (simp only [ajz,aj4] at *;simp;try omega)
theorem qG (x m:Int):G ext F (n + 1) 111 [vi x,vi m] = some ([vb (decide (0 ≤ x ∧ x ≤ m))],[vi x,vi m]):=by
 refine dI (cf:=QZ) rfl ?_
 dsimp only [QZ,ay,dh,bA,bK,aG,bJ,dX,eD,dH,aD,cO,dG,bP,aV];simp only [go_sem]
 repeat' (refine eB (fun h=>?_) (fun h=>?_) <;> simp only [h,go_sem])
 all_goals (simp only [ajz,aj4] at *;simp;try omega)
theorem GQ (x m:Int):G ext F (n + 1) 122 [vi x,vi m] = some ([vb (decide (m ≤ x ∧ x ≤ 5))],[vi x,vi m]):=by
 refine dI (cf:=Q8) rfl ?_
 dsimp only [Q8,ay,dh,bA,bK,aG,bJ,dX,eD,dH,aD,cO,dG,bP,aV];simp only [go_sem]
 repeat' (refine eB (fun h=>?_) (fun h=>?_) <;> simp only [h,go_sem])
 all_goals (simp only [ajz,aj4] at *;simp;try omega)
def Ri (x:Int):Bool:=decide (0 ≤ x ∧ x ≤ 1099511627776)
def fJ (now ttl:Int):Int:=if Ri now = true ∧ 0 ≤ ttl then now + (if ttl ≤ 604800 then ttl else 604800) else -1
def mM (now u:Int):Bool:=Ri now && decide (now < u)
def M9 (old:Int) (l:Bool) (now:Int):Bool:=decide (1 ≤ now ∧ now ≤ 5) && (!l || decide (old ≤ now))
theorem jH (x u:Int):G ext F (n + 2) 78 [vi x,vi u] = some ([vb (mM x u)],[vi x,vi u]):=by
 refine dI (cf:=c78) rfl ?_
 dsimp only [c78,ay,dh,bA,bK,aG,bJ,dX,eD,dH,aD,cO,dG,bP,aV];simp only [qG,go_sem]
 repeat' (refine eB (fun h=>?_) (fun h=>?_) <;> simp only [h,qG,go_sem])
 all_goals (simp only [ajz,aj4] at *;simp [Ri,mM];try omega)
theorem Rj {x t:Int} (h:0 ≤ x ∧ x ≤ 1099511627776) (ht:0 ≤ t):IntKind.i64.wrap (x + if 604800 < t then 604800 else t) = x + if t ≤ 604800 then t else 604800:=by
 have e:(if 604800 < t then (604800:Int) else t) = if t ≤ 604800 then t else 604800:=by split <;> split <;> omega
 rw [e]
 refine pK ?_ ?_ <;> split <;> omega
theorem Kl {x t:Int} (h:0 ≤ x ∧ x ≤ 1099511627776) (ht:¬ t < 0):fJ x t = IntKind.i64.wrap (x + if 604800 < t then 604800 else t):=by
 rw [Rj h (by omega)]
 simp only [fJ,Ri,ajz]
 rw [ajd (show (0 ≤ x ∧ x ≤ 1099511627776) ∧ 0 ≤ t from ⟨h,by omega⟩)]
theorem Na {x t:Int} (h:¬ ((0 ≤ x ∧ x ≤ 1099511627776) ∧ 0 ≤ t)):fJ x t = -1:=by
 simp only [fJ,Ri,ajz]
 rw [aje h]
theorem yE (x t:Int):G ext F (n + 2) 82 [vi x,vi t] = some ([vi (fJ x t)],[vi x,vi t]):=by
 refine dI (cf:=c82) rfl ?_
 dsimp only [c82,ay,dh,bA,bK,aG,bJ,dX,eD,dH,aD,cO,dG,bP,aV];simp only [qG,go_sem]
 repeat' (refine eB (fun h=>?_) (fun h=>?_) <;> simp only [h,qG,go_sem])
 all_goals (simp only [Ri,ajz,aj4] at *;first | rw [Kl (by assumption) (by omega)] | rw [Na (by omega)])
theorem I6 (o x:Int) (l:Bool):G ext F (n + 2) 114 [vi o,vb l,vi x] = some ([vb (M9 o l x)],[vi o,vb l,vi x]):=by
 refine dI (cf:=Q0) rfl ?_
 dsimp only [Q0,ay,dh,bA,bK,aG,bJ,dX,eD,dH,aD,cO,dG,bP,aV];simp only [GQ,go_sem]
 repeat' (refine eB (fun h=>?_) (fun h=>?_) <;> simp only [h,GQ,go_sem])
 all_goals (simp only [ajz,aj4] at *;simp_all [M9];try omega)
end
section
attribute [local go_sem_proc] Nat.reduceAdd Nat.reduceMul Nat.reduceEqDiff Nat.reduceBEq Nat.reduceMod Nat.reduceDiv reduceCtorEq
attribute [local go_sem_proc ↓] reduceIte
open Go Go.RowKit Go.Proofs Ev
theorem eqs : ∀ t ∈ [3,9,24],lJ Tryz.prog t:=by
 intro t ht
 simp only [ajw,akU,or_false] at ht
 rcases ht with rfl | rfl | rfl <;> exact WX (by kernel_rfl)
theorem mixed : Tryz.prog.follows .mixedOrders = true:=by kernel_rfl
theorem I9 : iy Tryz.prog fun _ _=>none:=fun f dR rs pX h=>by cases h
theorem Bc : dN Tryz.prog fun _ _=>none:=fun f dR r h=>by cases h
def WY : CF:=⟨1,[(.t 2)],[],[],(.seq (.reg [⟨(some 2),none,(.mv (.k (.one .bY)))⟩] [0]) (.seq (.seq (.reg [⟨(some 3),none,(.mv (.t 0))⟩,⟨(some 4),none,(.zR false (.t 3))⟩] [0,4]) (.cond (.t 4) (.seq (.reg [⟨(some 2),none,(.mv (.k (.one .bY)))⟩] [2]) .ret) .skip)) (.seq (.reg [⟨(some 5),none,(.zN 9 1 0 [] [])⟩,⟨(some 6),none,(.mv (.t 0))⟩,⟨(some 7),none,(.app 9 1 16 (.t 5) (.t 6))⟩,⟨(some 2),none,(.mv (.t 7))⟩] [2]) .ret)))⟩
def WZ : CF:=⟨1,[(.t 2)],[some 3],[],(.seq (.reg [⟨(some 2),none,(.mv (.k (.one .bY)))⟩] [0]) (.seq (.seq (.reg [⟨(some 3),none,(.mv (.t 0))⟩,⟨(some 4),none,(.zR false (.t 3))⟩] [0,4]) (.cond (.t 4) (.seq (.reg [⟨(some 2),none,(.mv (.k (.one .bY)))⟩] [2]) .ret) .skip)) (.seq (.reg [⟨(some 5),none,(.zN 24 3 0 [] [])⟩,⟨(some 6),none,(.mv (.t 0))⟩,⟨(some 7),none,(.app 24 3 32 (.t 5) (.t 6))⟩,⟨(some 2),none,(.mv (.t 7))⟩] [2]) .ret)))⟩
theorem Rp {f:FuncId} {cf:CF} {Γ:Env} (h:jS Tryz.prog f cf) (h1:iy Tryz.prog Γ) (h2:dN Tryz.prog Γ) (F:Nat):Sat Tryz.prog f (J4 Γ F cf):=by
 obtain ⟨fn,c,X,hints,rest,e1,_,e2,e3,e4,e5,e6⟩:=h.ok
 exact AZ mixed e3 h1 h2 e1 e2 e4 e5 e6 F
theorem Rq : jS Tryz.prog 72 WY:=⟨Tryz.f72,_,⟨[3,9,24],[],[],[125,134]⟩,[⟨[0],[],[]⟩,⟨[0,4],[],[]⟩,⟨[2],[],[]⟩,⟨[2],[],[]⟩],[],by kernel_rfl,by kernel_rfl,rfl,eqs,by kernel_rfl,by kernel_rfl,by decide⟩
theorem Rt : jS Tryz.prog 115 WZ:=⟨Tryz.f115,_,⟨[3,9,24],[],[],[125,134]⟩,[⟨[0],[],[]⟩,⟨[0,4],[],[]⟩,⟨[2],[],[]⟩,⟨[2],[],[]⟩],[],by kernel_rfl,by kernel_rfl,rfl,eqs,by kernel_rfl,by kernel_rfl,by decide⟩
theorem Ru (r:List FV) (l:List (List FV)) (h:l.length < 1000000) (hl:(r :: l).all (fun r=>r.length == 1) = true):J4 (fun _ _=>none) 10 WY [vl (r :: l)] = some ([vl (r :: l)],[vl (r :: l)]):=by
 refine Kj ?_
 rw [List.all_cons,ajk] at hl
 simp only [WY,hl.1,hl.2,List.all_cons,go_sem]
 omega
theorem Rv (r:List FV) (l:List (List FV)) (h:l.length < 1000000) (hl:(r :: l).all (fun r=>r.length == 3) = true):J4 (fun _ _=>none) 10 WZ [vl (r :: l)] = some ([.one (.own 3 (r :: l))],[vl (r :: l)]):=by
 refine Kj ?_
 rw [List.all_cons,ajk] at hl
 simp only [WZ,hl.1,hl.2,List.all_cons,go_sem]
 omega
theorem qH {t e:TypeId} (hu:Tryz.prog.underlying t = some (.slice e)) (p:Option Addr) (c:Nat) (w:World):(binOp .eql t (.slice p 0 c) (.slice none 0 0)).run Tryz.prog w = .ok (.bool p.isNone) w:=by
 have:=run_equal_slice_nil w t e p 0 c hu
 simp only [binOp,Sem.run_bind,this,Result.andThen_ok,Sem.run_pure]
theorem yF {t ty e:TypeId} {i:TypeInfo} (hu:Tryz.prog.underlying t = some (.slice e)) (hi:Tryz.prog.info? e = some i) (a b:Addr) (c:Nat) (w:World):(Builtin.append_ #[t,t] ty #[.slice (some b) 0 0,.slice (some a) 0 c]).run Tryz.prog w = .ok (.slice (some b) 0 0) w:=by
 have h1:∀ w,(Builtin.lenOf (.slice (some a) 0 c)).run Tryz.prog w = .ok 0 w:=fun _=>rfl
 have h2:=fun w=>run_firstCells_some (P:=Tryz.prog) w i.size 0 a 0 c [] (by simp) (by simp)
 simp [Builtin.append_,run_underlying hu,sizeOf,typeInfo,hi,storeCells,h1,h2]
theorem Nc (c:Nat) (w:World):Calls Tryz.prog 72 #[.slice none 0 c] w fun e w'=>e = .returned (.slice none 0 0) ∧ w' = w:=by
 have heq:=qH (t:=40) (e:=9) (by kernel_rfl) none c
 go_enter Tryz.func72,Tryz.ntmps72
 go_wp2
 go_ret
 exact ⟨rfl,rfl⟩
theorem Nf (a:Addr) (c:Nat) (w:World):Calls Tryz.prog 72 #[.slice (some a) 0 c] w fun e w'=>e = .returned (.slice (some ⟨w.heap.size,0,none⟩) 0 0) ∧ w' = w.alloc (.cells #[] 9):=by
 have heq:=qH (t:=40) (e:=9) (by kernel_rfl) (some a) c
 obtain ⟨i,hi⟩:=akB.mp (show (Tryz.prog.info? 9).isSome = true by kernel_rfl)
 have hap:=fun b w=>yF (t:=40) (ty:=40) (e:=9) (by kernel_rfl) hi a b c w
 go_enter Tryz.func72,Tryz.ntmps72
 go_wp2
 go_ret
 exact ⟨rfl,rfl⟩
theorem Ng (c:Nat) (w:World):Calls Tryz.prog 115 #[.slice none 0 c] w fun e w'=>e = .returned (.slice none 0 0) ∧ w' = w:=by
 have heq:=qH (t:=56) (e:=24) (by kernel_rfl) none c
 go_enter Tryz.func115,Tryz.ntmps115
 go_wp2
 go_ret
 exact ⟨rfl,rfl⟩
theorem Nh (a:Addr) (c:Nat) (w:World):Calls Tryz.prog 115 #[.slice (some a) 0 c] w fun e w'=>e = .returned (.slice (some ⟨w.heap.size,0,none⟩) 0 0) ∧ w' = w.alloc (.cells #[] 24):=by
 have heq:=qH (t:=56) (e:=24) (by kernel_rfl) (some a) c
 obtain ⟨i,hi⟩:=akB.mp (show (Tryz.prog.info? 24).isSome = true by kernel_rfl)
 have hap:=fun b w=>yF (t:=56) (ty:=56) (e:=24) (by kernel_rfl) hi a b c w
 go_enter Tryz.func115,Tryz.ntmps115
 go_wp2
 go_ret
 exact ⟨rfl,rfl⟩
def Ni (sz:Nat) (own:Bool) (dR:List AV):Option (List AV × List AV):=match dR with
 | [.one (.f (.sl rows))]=>if rows.length ≤ 1000000 ∧ rows.all (fun r=>r.length == sz) = true then some ([.one (if own then .own sz rows else .f (.sl rows))],dR) else none
 | _=>none
theorem GU (w:World) (o:Obj):w.heap.size ≤ (w.alloc o).heap.size ∧ (∀ b,b < w.heap.size → (w.alloc o).heap[b]? = w.heap[b]?) ∧ (w.alloc o).heap[w.heap.size]? = some o ∧ (w.alloc o).heap.size = w.heap.size + 1:=by
 obtain ⟨h1,h2,h3⟩:=mq w o
 exact ⟨by omega,h2,h1,h3⟩
theorem C8 {f:FuncId} {cf:CF} {sz e:Nat} {own:Bool} (h0:0 < sz) (he:jS Tryz.prog f cf) (hrun:∀ (r:List FV) (l:List (List FV)),l.length < 1000000 → (r :: l).all (fun r=>r.length == sz) = true → J4 (fun _ _=>none) 10 cf [vl (r :: l)] = some ([.one (if own then .own sz (r :: l) else .f (.sl (r :: l)))],[vl (r :: l)]))
  (hn:∀ (c:Nat) (w:World),Calls Tryz.prog f #[.slice none 0 c] w fun e w'=>e = .returned (.slice none 0 0) ∧ w' = w)
  (hs:∀ (a:Addr) (c:Nat) (w:World),Calls Tryz.prog f #[.slice (some a) 0 c] w fun e' w'=>e' = .returned (.slice (some ⟨w.heap.size,0,none⟩) 0 0) ∧ w' = w.alloc (.cells #[] e)):Sat Tryz.prog f (Ni sz own):=by
 intro dR rs pX hg
 unfold Ni at hg
 split at hg
 ·rename_i rows
  split at hg
  ·rename_i hc
   cases hg
   cases rows with
   | cons r l =>
    exact Rp he I9 Bc 10 _ _ _ (hrun r l (by have:=hc.1;simp at this;omega) hc.2)
   | nil =>
    intro Fz w vals bs ha hnd hap hfz
    match vals,ha with
    | [v],⟨b1,b2,h1,h2,e0⟩ =>
    obtain ⟨hv,rfl⟩:=h1
    obtain rfl:b2 = []:=h2
    subst e0
    simp only [fA] at hv
    obtain ⟨A,c,rfl,hle,hbig,_⟩:=hv
    have hrep:∀ (w':World) (v:Value),(∃ A,v = .slice A 0 0) → fA Fz w' (.sl []) v:=fun w' v ⟨A,hA⟩=>by
     simp only [fA];exact ⟨A,0,by rw [hA];rfl,aji _,by simp,.inl trivial⟩
    have hbk:∀ (w':World),fC Fz w' [vl []] [.slice A ([]:List (List FV)).length c] []:=fun w' =>
     ⟨[],[],⟨by simp only [fA];exact ⟨A,c,rfl,hle,hbig,.inl trivial⟩,rfl⟩,rfl,rfl⟩
    cases A with
    | none =>
     refine (hn c w).mono fun e' w' ⟨e1,e2⟩=>?_
     subst e2
     refine ⟨Fz,[.slice none 0 0],[],[],e1,fun _ h=>h,fun b hb=>⟨hfz b hb,.inl hb⟩,aji _,fun _ _ _=>rfl,⟨rfl,rfl⟩,hbk w',?_,by simp,fun b hb=>by simp at hb⟩
     cases own with
     | true=>exact ⟨[],[],⟨h0,0,[],none,0,rfl,World.ownsRow_nil w' _ _ _,rfl,rfl⟩,rfl,rfl⟩
     | false=>exact ⟨[],[],⟨hrep w' _ ⟨none,rfl⟩,rfl⟩,rfl,rfl⟩
    | some a =>
     refine (hs a c w).mono fun e' w' ⟨e1,e2⟩=>?_
     subst e2
     obtain ⟨k1,k2,k3,k4⟩:=GU w (.cells #[] e)
     cases own with
     | true =>
      refine ⟨Fz,[.slice (some ⟨w.heap.size,0,none⟩) 0 0],[],[w.heap.size],e1,fun _ h=>h,fun b hb=>⟨ajP (hfz b hb) k1,.inl hb⟩,k1,fun b hb _=>k2 b hb,⟨rfl,rfl⟩,hbk _,?_,by simp,fun b hb=>?_⟩
      ·refine ⟨[w.heap.size],[],⟨h0,e,[],_,0,rfl,⟨by simp,.inr ⟨w.heap.size,0,#[],rfl,ajT _,k3,aji _,by simp [maxLen],by simp,by simp⟩⟩,rfl,rfl⟩,rfl,rfl⟩
      ·simp at hb
       subst hb
       exact ⟨fun hf=>by have:=hfz _ hf;omega,by omega,.inr (aji _)⟩
     | false =>
      exact ⟨Fz,[.slice (some ⟨w.heap.size,0,none⟩) 0 0],[],[],e1,fun _ h=>h,fun b hb=>⟨ajP (hfz b hb) k1,.inl hb⟩,k1,fun b hb _=>k2 b hb,⟨rfl,rfl⟩,hbk _,⟨[],[],⟨hrep _ _ ⟨_,rfl⟩,rfl⟩,rfl,rfl⟩,by simp,fun b hb=>by simp at hb⟩
  ·cases hg
 ·cases hg
theorem Rw : Sat Tryz.prog 72 (Ni 1 false):=C8 (by decide) Rq Ru Nc Nf
theorem Rx : Sat Tryz.prog 115 (Ni 3 true):=C8 (by decide) Rt Rv Ng Nh
end
section
attribute [local go_sem_proc] Nat.reduceAdd Nat.reduceMul Nat.reduceEqDiff Nat.reduceBEq Nat.reduceMod Nat.reduceDiv reduceCtorEq
attribute [local go_sem_proc ↓] reduceIte
open Go Ev
variable {ext : Env} {F n:Nat}
theorem at_ {α:Type} {l:List α} {i:Nat} (h:i < l.length):∃ x,l[i]? = some x ∧ decide ((i:Int) < (l.length:Int)) = true ∧ ((i:Int).toNat = i) ∧ (0:Int) ≤ i:=⟨_,ajt h,by simpa using h,by simp,by omega⟩
theorem end_ {α:Type} {l:List α}:decide ((l.length:Int) < (l.length:Int)) = false:=by simp
theorem nx {i N:Nat} (h:i < N) (hN:N ≤ 200000000000000):IntKind.i64.wrap ((i:Int) + 1) = ((i + 1:Nat):Int):=by rw [pK (by omega) (by omega)];omega
def uP (l:List ByteArray) (s:ByteArray):Bool:=l.any fun x=>decide (x = s)
theorem EM {l:List ByteArray} {s x:ByteArray} {i:Nat} (h:l[i]? = some x):uP (l.take (i + 1)) s = (uP (l.take i) s || decide (x = s)):=by
 unfold uP
 have hi:=(aj5.mp h)
 rw [aj6,h,List.any_append]
 simp
theorem Nj {l:List ByteArray} {s x:ByteArray} {i:Nat} (h:l[i]? = some x) (hx:x = s):uP l s = true:=by
 unfold uP
 exact ake.mpr ⟨x,akn h,by simpa using hx⟩
theorem Ja {l:List ByteArray} {s:ByteArray} (h:uP (l.take l.length) s = false):uP l s = false:=by rwa [aj1] at h
theorem aa4 (l:List ByteArray) (s:ByteArray) (hl:l.length ≤ 1000000000000) (hF:200000000000001 ≤ F):G ext F (n + 1) 39 [vl (l.map bC),vs s] = some ([vb (uP l s)],[vl (l.map bC),vs s]):=by
 refine dI (cf:=P5) rfl ?_
 dsimp only [P5,ay,dh,bA,bK,aG,bJ,dX,eD,dH,aD,cO,dG,bP,aV];simp only [go_sem]
 refine M0 l.length (fun i=>⟨[(0,PV.c (CV.one (PL.f (FV.sl (l.map bC))))),(1,PV.c (CV.one (PL.f (FV.str s)))),(5,PV.c (CV.one (PL.f (FV.int .i64 i))))],[]⟩) (fun i=>uP (l.take i) s = false) (by omega) rfl (fun i hi hP=>?_) (fun hP=>?_)
 ·obtain ⟨x,hx,hd,ht,h0⟩:=at_ hi
  have hn:=nx hi (ajA hl (by decide))
  have hs:=EM (s:=s) hx
  simp only [ajg,ajo,hd,hx,ht,h0,bC,go_sem]
  repeat' (refine eB (fun h=>?_) (fun h=>?_) <;> simp only [h,ajg,ajo,hd,hx,ht,h0,hn,bC,go_sem])
  ·rw [Nj hx (by simp at h;first | exact h | exact h.symm)]
  ·rw [hs,hP];simp at h ⊢;first | exact h | exact fun e=>h e.symm
 ·have hd:=@end_ _ l
  simp only [ajg,hd,go_sem]
  repeat' (refine eB (fun h=>?_) (fun h=>?_) <;> simp only [h,ajg,hd,go_sem])
  simp only [Ja hP]
theorem Rz (l:List ByteArray) (s:ByteArray) (hl:l.length ≤ 1000000000000) (hF:200000000000001 ≤ F):∃ z:Int,(decide (0 ≤ z) = uP l s) ∧ G ext F (n + 1) 148 [vl (l.map bC),vs s] = some ([vi z],[vl (l.map bC),vs s]):=by
 suffices h:W (fun r=>∃ z:Int,(decide (0 ≤ z) = uP l s) ∧ r = ([vi z],[vl (l.map bC),vs s])) ⟨⟩ (G ext F (n + 1) 148 [vl (l.map bC),vs s]) by
  obtain ⟨r,h1,z,h2,h3⟩:=h
  exact ⟨z,h2,by rw [h1,h3]⟩
 show W _ _ (J4 _ F c148 _)
 dsimp only [c148,ay,dh,bA,bK,aG,bJ,dX,eD,dH,aD,cO,dG,bP,aV];simp only [go_sem]
 refine M0 l.length (fun i=>⟨[(0,PV.c (CV.one (PL.f (FV.sl (l.map bC))))),(1,PV.c (CV.one (PL.f (FV.str s)))),(7,PV.c (CV.one (PL.f (FV.int .i64 (l.map bC).length)))),(8,PV.c (CV.one (PL.f (FV.int .i64 i))))],[]⟩) (fun i=>uP (l.take i) s = false) (by omega) rfl (fun i hi hP=>?_) (fun hP=>?_)
 ·obtain ⟨x,hx,hd,ht,h0⟩:=at_ hi
  have hn:=nx hi (ajA hl (by decide))
  have hs:=EM (s:=s) hx
  simp only [ajg,ajo,hd,hx,ht,h0,bC,go_sem]
  repeat' (refine eB (fun h=>?_) (fun h=>?_) <;> simp only [h,ajg,ajo,hd,hx,ht,h0,hn,bC,go_sem])
  ·exact ⟨i,by rw [Nj hx (by simp at h;first | exact h | exact h.symm)];simp,rfl⟩
  ·rw [hs,hP];simp at h ⊢;first | exact h | exact fun e=>h e.symm
 ·have hd:=@end_ _ l
  simp only [ajg,hd,go_sem]
  repeat' (refine eB (fun h=>?_) (fun h=>?_) <;> simp only [h,ajg,hd,go_sem])
  exact ⟨-1,by rw [Ja hP];rfl,rfl⟩
theorem EN (l:List ByteArray) (s:ByteArray) (hl:l.length ≤ 1000000000000) (hF:200000000000001 ≤ F):G ext F (n + 2) 133 [vl (l.map bC),vs s] = some ([vb (uP l s)],[vl (l.map bC),vs s]):=by
 refine dI (cf:=Q7) rfl ?_
 obtain ⟨z,hz,h⟩:=Rz (ext:=ext) (F:=F) (n:=n) l s hl hF
 dsimp only [Q7,ay,dh,bA,bK,aG,bJ,dX,eD,dH,aD,cO,dG,bP,aV];simp only [h,go_sem]
 repeat' (refine eB (fun h=>?_) (fun h=>?_) <;> simp only [h,h,go_sem])
 rw [← hz]
end
section
attribute [local go_sem_proc] Nat.reduceAdd Nat.reduceMul Nat.reduceEqDiff Nat.reduceBEq Nat.reduceMod Nat.reduceDiv reduceCtorEq
attribute [local go_sem_proc ↓] reduceIte
open Go Ev
variable {ext : Env} {F n:Nat}
structure Qn where
 q:ByteArray
 t:Int
 c:Int
 deriving DecidableEq
structure It where
 q:ByteArray
 t:Int
 c:Int
 d:List ByteArray
 ttl:Int
 u:Int
 r:Int
 deriving DecidableEq
structure Op where
 o:Int
 now:Int
 q:ByteArray
 t:Int
 c:Int
 d:List ByteArray
 ttl:Int
 r:Int
def rQ (x:Qn):List FV:=[.str x.q,.int .i64 x.t,.int .i64 x.c]
def rI (x:It):List FV:=[.str x.q,.int .i64 x.t,.int .i64 x.c,.sl (x.d.map bC),.int .i64 x.ttl,.int .i64 x.u,.int .i64 x.r]
abbrev vit (q:ByteArray) (t c:Int) (d:List ByteArray) (ttl u r:Int):AV:=.agg [.f (.str q),.f (.int .i64 t),.f (.int .i64 c),.f (.sl (d.map bC)),.f (.int .i64 ttl),.f (.int .i64 u),.f (.int .i64 r)]
def EO (k:Nat) (l:List ByteArray):Bool:=l.all fun x=>decide (x.size ≤ 2000) && decide (k ≤ 60)
theorem Km {k:Nat} {l:List ByteArray} {x:ByteArray} {i:Nat} (h:l[i]? = some x):EO k (l.take (i + 1)) = (EO k (l.take i) && (decide (x.size ≤ 2000) && decide (k ≤ 60))):=by
 unfold EO
 rw [aj6,h,List.all_append]
 simp
theorem Jb {k:Nat} {l:List ByteArray} {x:ByteArray} {i:Nat} (h:l[i]? = some x) (hx:¬ (x.size ≤ 2000 ∧ k ≤ 60)):EO k l = false:=by
 unfold EO
 refine ajX.mpr fun ha=>hx ?_
 have:=aju.mp ha x (akn h)
 simpa using this
def nU (q:ByteArray) (d:List ByteArray):Bool:=EO d.length d && decide (q.size ≤ 300)
theorem Nk (q:ByteArray) (t c:Int) (d:List ByteArray) (ttl:Int) (hl:d.length ≤ 200000000000000) (hF:200000000000001 ≤ F):G ext F (n + 1) 45 [tQ q t c d ttl] = some ([vb (nU q d)],[tQ q t c d ttl]):=by
 refine dI (cf:=c45) rfl ?_
 dsimp only [c45,ay,dh,bA,bK,aG,bJ,dX,eD,dH,aD,cO,dG,bP,aV];simp only [go_sem]
 refine M0 d.length (fun i=>⟨[(1,PV.c (CV.one (PL.ptr 40000 0))),(3,PV.c (CV.one (PL.f (FV.int .i64 i))))],[(40000,.fu [.f (.str q),.f (.int .i64 t),.f (.int .i64 c),.f (.sl (d.map bC)),.f (.int .i64 ttl)])]⟩) (fun i=>EO d.length (d.take i) = true) (by omega) rfl (fun i hi hP=>?_) (fun hP=>?_)
 ·obtain ⟨x,hx,hd,ht,h0⟩:=at_ hi
  have hn:=nx hi (ajA hl (by decide))
  simp only [ajg,ajo,hd,hx,ht,h0,bC,go_sem]
  repeat' (refine eB (fun h=>?_) (fun h=>?_) <;> simp only [h,ajg,ajo,hd,hx,ht,h0,hn,bC,go_sem])
  all_goals simp only [ajz,aj4] at *
  ·simp [nU,Jb hx (k:=d.length) (by omega)]
  ·simp [nU,Jb hx (k:=d.length) (by omega)]
  ·rw [Km hx,hP];simp;omega
 ·have hd:=@end_ _ d
  rw [aj1] at hP
  simp only [ajg,hd,go_sem]
  repeat' (refine eB (fun h=>?_) (fun h=>?_) <;> simp only [h,ajg,hd,go_sem])
  simp [nU,hP]
  try omega
end
section
open Go Ev
variable {ext : Env} {F n:Nat}
theorem mK {body:St → Option (Out × St)} {rs:St → St} {k:Out × St → Prop} {u:Tok k} {F:Nat} {σ:St} (N:Nat) (T:Nat → St) (P:Nat → Prop) (hF:N < F) (hs:rs σ = T 0) (h0:P 0)
  (step:∀ i,i < N → P i → W (fun p=>match p.1 with
   | .jf=>rs p.2 = T (i + 1) ∧ P (i + 1)
   | o=>k (o,p.2)) ⟨⟩ (body (T i)))
  (last:P N → W (fun p=>match p.1 with
   | .jf=>False
   | o=>k (o,p.2)) ⟨⟩ (body (T N))):W k u (iter body rs F σ):=by
 refine CX (fun m σ=>∃ i,i ≤ N ∧ m = N - i ∧ rs σ = T i ∧ P i) ?_ F N σ hF ⟨0,ajT _,rfl,hs,h0⟩
 rintro m σ ⟨i,hi,rfl,hr,hP⟩
 rw [hr]
 by_cases hlt:i < N
 ·refine uZ (step i hlt hP) fun p hp=>?_
  obtain ⟨o,s⟩:=p
  cases o with
  | jf=>exact ⟨N - (i + 1),by omega,i + 1,by omega,rfl,hp.1,hp.2⟩
  | ext j=>exact hp
  | ret=>exact hp
 ·have:i = N:=by omega
  subst this
  refine uZ (last hP) fun p hp=>?_
  obtain ⟨o,s⟩:=p
  cases o with
  | jf=>exact hp.elim
  | ext j=>exact hp
  | ret=>exact hp
def nr2 (s:Nat) (l:List (Nat × Nat)) (σ:St):Option St → St
 | some t=>jf ⟨put t.tm s (.c (.one (.own (dA s) 0))),t.ob⟩ l
 | none=>jf σ l
def nr1 (σ:St) (s sz:Nat) (l:List (Nat × Nat)):Option PV → St
 | some (.c (.one .bY))=>if sz = 0 then jf σ l else nr2 s l σ (new σ (dA s) (.row sz []))
 | _=>jf σ l
@[go_sem] theorem aa5 {σ:St} {s sz:Nat} {l:List (Nat × Nat)}:jf σ ((s,sz) :: l) = nr1 σ s sz l (get σ.tm s):=by
 unfold nr1 nr2
 rw [jf]
 split <;> first | rfl | (split <;> first | rfl | (split <;> simp_all))
@[go_sem] theorem adP {σ:St} {s sz key n:Nat} {l:List (Nat × Nat)}:nr1 σ s sz l (some (.c (.one (.own key n)))) = jf σ l:=rfl
@[go_sem] theorem ahU {σ:St} {s sz:Nat} {l:List (Nat × Nat)} {x:FV}:nr1 σ s sz l (some (.c (.one (.f x)))) = jf σ l:=rfl
@[go_sem] theorem adQ {σ:St} {s sz:Nat} {l:List (Nat × Nat)}:nr1 σ s sz l (some (.c (.one .bY))) = if sz = 0 then jf σ l else nr2 s l σ (new σ (dA s) (.row sz [])):=rfl
@[go_sem] theorem aa6 {σ τ:St} {s:Nat} {l:List (Nat × Nat)}:nr2 s l σ (some τ) = jf ⟨put τ.tm s (.c (.one (.own (dA s) 0))),τ.ob⟩ l:=rfl
abbrev It.k (x:It):Qn:=⟨x.q,x.t,x.c⟩
abbrev vst (room:Int) (l:List It) (ch:Int):AV:=.agg [.f (.int .i64 room),.f (.sl (l.map rI)),.f (.int .i64 ch)]
theorem all_succ {α:Type} {P:α → Prop} {l:List α} {i:Nat} {x:α} (h:∀ y ∈ l.take i,P y) (hx:l[i]? = some x) (hp:P x):∀ y ∈ l.take (i + 1),P y:=by
 intro y hy
 rw [aj6,hx] at hy
 rcases ajJ.mp hy with hy | hy
 ·exact h y hy
 ·simp at hy;subst hy;exact hp
structure Se where
 q:ByteArray
 t:Int
 c:Int
 d:List ByteArray
 ttl:Int
 deriving DecidableEq
abbrev Se.k (x:Se):Qn:=⟨x.q,x.t,x.c⟩
abbrev Se.v (x:Se):AV:=tQ x.q x.t x.c x.d x.ttl
def rS (x:Se):List FV:=[.str x.q,.int .i64 x.t,.int .i64 x.c,.sl (x.d.map bC),.int .i64 x.ttl]
end
section
attribute [local go_sem_proc] Nat.reduceAdd Nat.reduceMul Nat.reduceEqDiff Nat.reduceBEq Nat.reduceMod Nat.reduceDiv reduceCtorEq
attribute [local go_sem_proc ↓] reduceIte
open Go Ev
variable {ext : Env} {F n:Nat}
structure Th where
 gP:ByteArray → Bool
 low:ByteArray → ByteArray
 DY:Int → ByteArray → Bool
 lw:Int → ByteArray → ByteArray
structure Th.DZ (r:Bool) (θ:Th) (ext:Env):Prop where
 nc:∀ q,q.size ≤ 1000000 → ext 109 [vs q] = some ([vb (θ.gP q)],[vs q])
 nl:∀ q,q.size ≤ 1000000 → ext 68 [vs q] = some ([vs (θ.low q)],[vs q])
 rc:r = true → ∀ q,q.size ≤ 1000000 → ext 42 [vs q] = some ([vb (θ.gP q)],[vs q])
 rl:r = true → ∀ q,q.size ≤ 1000000 → ext 41 [vs q] = some ([vs (θ.low q)],[vs q])
 dc:∀ k q,q.size ≤ 1000000 → ext 128 [vi k,vs q] = some ([vb (θ.DY k q)],[vi k,vs q])
 dl:∀ k q,q.size ≤ 1000000 → ext 132 [vi k,vs q] = some ([vs (θ.lw k q)],[vi k,vs q])
 ec:r = true → ∀ k q,q.size ≤ 1000000 → ext 118 [vi k,vs q] = some ([vb (θ.DY k q)],[vi k,vs q])
 el:r = true → ∀ k q,q.size ≤ 1000000 → ext 119 [vi k,vs q] = some ([vs (θ.lw k q)],[vi k,vs q])
abbrev Th.Ok (θ:Th) (ext:Env):Prop:=θ.DZ true ext
variable {θ : Th}
theorem UC {rb:Bool} (T:θ.DZ rb ext) (q:ByteArray) (h:q.size ≤ 1000000):G ext F (n + 1) 109 [vs q] = some ([vb (θ.gP q)],[vs q]):=(ajR (iB rfl) _).trans (T.nc q h)
theorem Nl {rb:Bool} (T:θ.DZ rb ext) (q:ByteArray) (h:q.size ≤ 1000000):G ext F (n + 1) 68 [vs q] = some ([vs (θ.low q)],[vs q]):=(ajR (iB rfl) _).trans (T.nl q h)
theorem aa7 {rb:Bool} (T:θ.DZ rb ext) (k:Int) (q:ByteArray) (h:q.size ≤ 1000000):G ext F (n + 1) 128 [vi k,vs q] = some ([vb (θ.DY k q)],[vi k,vs q]):=(ajR (iB rfl) _).trans (T.dc k q h)
theorem aa8 {rb:Bool} (T:θ.DZ rb ext) (k:Int) (q:ByteArray) (h:q.size ≤ 1000000):G ext F (n + 1) 132 [vi k,vs q] = some ([vs (θ.lw k q)],[vi k,vs q]):=(ajR (iB rfl) _).trans (T.dl k q h)
def Th.key (θ:Th) (q:ByteArray) (t c:Int):Bool:=decide (θ.gP q = true ∧ θ.low q = q ∧ (0 ≤ t ∧ t ≤ 65535) ∧ (0 ≤ c ∧ c ≤ 65535))
def Th.dat (θ:Th) (t:Int) (d:List ByteArray):Bool:=decide ((∀ x ∈ d,θ.DY t x = true ∧ θ.lw t x = x) ∧ d.Nodup)
def Th.set (θ:Th) (q:ByteArray) (t c:Int) (d:List ByteArray) (ttl:Int):Bool:=decide (θ.key q t c = true ∧ θ.dat t d = true ∧ (0 ≤ ttl ∧ ttl < 2147483648) ∧ d ≠ [])
theorem C9 {l:List ByteArray} {s:ByteArray}:uP l s = true ↔ s ∈ l:=by
 unfold uP
 rw [ake]
 simp
theorem Nn {l:List ByteArray}:((l.map bC).all fun r=>r.length == 1) = true:=by
 rw [aju]
 intro r hr
 obtain ⟨x, -,rfl⟩:=ajD.mp hr
 rfl
theorem Np {t:Int} {d:List ByteArray} {i:Nat} {x:ByteArray} (hx:d[i]? = some x) (h:θ.dat t (d.take i) = true) (hc:θ.DY t x = true) (hw:θ.lw t x = x) (hi:uP (d.take i) x = false):θ.dat t (d.take (i + 1)) = true:=by
 unfold Th.dat at *
 have hi:¬ x ∈ d.take i:=fun h=>by rw [C9.mpr h] at hi;cases hi
 rw [ajz] at *
 refine ⟨all_succ h.1 hx ⟨hc,hw⟩,?_⟩
 rw [aj6,hx,Option.toList_some]
 refine akF.mpr ⟨h.2,List.pairwise_singleton _ _,fun a ha b hb=>?_⟩
 rw [aj3] at hb;subst hb;rintro rfl;exact hi ha
theorem GV {t:Int} {d:List ByteArray} {i:Nat} {x:ByteArray} (hx:d[i]? = some x) (h:θ.DY t x = false ∨ θ.lw t x ≠ x ∨ uP (d.take i) x = true):θ.dat t d = false:=by
 unfold Th.dat
 rw [aj4]
 rintro ⟨h1,h2⟩
 have hm:=h1 x (akn hx)
 rcases h with h | h | h
 ·rw [h] at hm;simp at hm
 ·exact h hm.2
 ·rw [C9,ak2] at h
  obtain ⟨j,hj,he⟩:=h
  have h3:=aj5.mp hx
  exact List.pairwise_iff_getElem.mp h2 j i (by omega) h3.1 (by omega) (by rw [he,h3.2])
theorem Bd {rb:Bool} (T:θ.DZ rb ext) (q:ByteArray) (t c:Int) (d:List ByteArray) (ttl:Int) (hl:d.length ≤ 1000000000000) (hF:200000000000001 ≤ F) (hq:q.size ≤ 1000000) (hd:∀ x ∈ d,x.size ≤ 1000000):G ext F (n + 3) 113 [tQ q t c d ttl] = some ([vb (θ.set q t c d ttl)],[tQ q t c d ttl]):=by
 refine dI (cf:=QY) rfl ?_
 have h1:=fun n=>UC (F:=F) (n:=n) T q hq
 have h2:=fun n=>Nl (F:=F) (n:=n) T q hq
 dsimp only [QY,ay,dh,bA,bK,aG,bJ,dX,eD,dH,aD,cO,dG,bP,aV];simp only [h1,h2,Uz,go_sem]
 repeat' (refine eB (fun h=>?_) (fun h=>?_) <;> simp only [h,h1,h2,Uz,go_sem])
 ·refine mK d.length (fun i=>⟨[(1,PV.c (CV.one (PL.ptr 40000 0))),(3,PV.c (CV.one (PL.ptr 80000 0))),(39,PV.c (CV.one (PL.f (FV.sl (List.map bC d))))),(40,PV.c (CV.one (PL.f (FV.int IntKind.i64 (List.map bC d).length)))),(41,PV.c (CV.one (PL.f (FV.int .i64 i))))],[(40000,.fu [.f (.str q),.f (.int .i64 t),.f (.int .i64 c),.f (.sl (d.map bC)),.f (.int .i64 ttl)]),(80000,Ob.fu [PL.f (FV.str q),PL.f (FV.int IntKind.i64 t),PL.f (FV.int IntKind.i64 c)])]⟩) (fun i=>θ.dat t (d.take i) = true) (by omega) rfl (by simp [Th.dat]) (fun i hi hP=>?_) (fun hP=>?_)
  ·obtain ⟨x,hx,hlt,ht,h0⟩:=at_ hi
   have hn:=nx hi (ajA hl (by decide))
   have h1:=fun n=>aa7 (F:=F) (n:=n) T t x (hd x (akn hx))
   have h2:=fun n=>aa8 (F:=F) (n:=n) T t x (hd x (akn hx))
   have h3:=fun n=>EN (ext:=ext) (F:=F) (n:=n) (d.take i) x (by simp;omega) hF
   have hle:(i:Int) ≤ (d.length:Int):=by omega
   have hrw:=@Nn d
   have hcut:(0:Int) ≤ i ∧ (i:Int) ≤ d.length:=by omega
   simp only [ajg,ajo,hlt,hx,ht,h0,bC,h1,h2,h3,go_sem]
   repeat' (refine eB (fun h=>?_) (fun h=>?_) <;> simp only [h,ajg,ajo,hlt,hx,ht,h0,hn,bC,h1,h2,h3,hle,hrw,← List.map_take,akf,Nat.sub_zero,hcut,go_sem])
   ·simp [Th.set,GV hx (.inr (.inr h))]
   ·exact Np hx hP (by assumption) (ajC (by assumption)) h
   ·simp [Th.set,GV hx (.inr (.inl (of_decide_eq_false h)))]
   ·simp [Th.set,GV hx (.inl h)]
  ·have hd:=@end_ _ d
   rw [aj1] at hP
   simp only [ajg,hd,go_sem]
   repeat' (refine eB (fun h=>?_) (fun h=>?_) <;> simp only [h,ajg,hd,go_sem])
   all_goals (simp [Th.set,Th.key,hP];simp_all)
   all_goals (cases d <;> simp <;> omega)
 all_goals (simp [Th.set,Th.key];try simp_all)
 all_goals (try omega)
end
section
open Go Ev
variable {ext : Env} {F n:Nat} {θ:Th}
structure Sr where
 room:Int
 l:List It
 ch:Int
abbrev Sr.v (s:Sr):AV:=vst s.room s.l s.ch
abbrev It.v (x:It):AV:=vit x.q x.t x.c x.d x.ttl x.u x.r
def it0 : It:=⟨⟨#[]⟩,0,0,[],0,0,0⟩
def old (l:List It) (k:Qn):Option It:=l.find? fun x=>decide (x.k = k)
def rid (l:List It) (k:Qn):List It:=l.eraseP fun x=>decide (x.k = k)
end
section
attribute [local go_sem_proc] Nat.reduceAdd Nat.reduceMul Nat.reduceEqDiff Nat.reduceBEq Nat.reduceMod Nat.reduceDiv reduceCtorEq
attribute [local go_sem_proc ↓] reduceIte
open Go Ev
variable {ext : Env} {F n:Nat}
theorem rJ {α:Type} {body:St → Option (Out × St)} {rs:St → St} {k:Out × St → Prop} {u:Tok k} {F:Nat} {σ:St} (N:Nat) (T:α → St) (P:Nat → α → Prop) (hF:N < F) (x:α) (hs:rs σ = T x) (h0:P 0 x)
  (step:∀ i x,i < N → P i x → W (fun p=>match p.1 with
   | .jf=>∃ y,rs p.2 = T y ∧ P (i + 1) y
   | o=>k (o,p.2)) ⟨⟩ (body (T x)))
  (last:∀ x,P N x → W (fun p=>match p.1 with
   | .jf=>False
   | o=>k (o,p.2)) ⟨⟩ (body (T x))):W k u (iter body rs F σ):=by
 refine CX (fun m σ=>∃ i x,i ≤ N ∧ m = N - i ∧ rs σ = T x ∧ P i x) ?_ F N σ hF ⟨0,x,ajT _,rfl,hs,h0⟩
 rintro m σ ⟨i,x,hi,rfl,hr,hP⟩
 rw [hr]
 by_cases hlt:i < N
 ·refine uZ (step i x hlt hP) fun p hp=>?_
  obtain ⟨o,s⟩:=p
  cases o with
  | jf =>
   obtain ⟨y,h1,h2⟩:=hp
   exact ⟨N - (i + 1),by omega,i + 1,y,by omega,rfl,h1,h2⟩
  | ext j=>exact hp
  | ret=>exact hp
 ·have:i = N:=by omega
  subst this
  refine uZ (last x hP) fun p hp=>?_
  obtain ⟨o,s⟩:=p
  cases o with
  | jf=>exact hp.elim
  | ext j=>exact hp
  | ret=>exact hp
abbrev Qn.f (k:Qn):List FV:=[.str k.q,.int .i64 k.t,.int .i64 k.c]
abbrev fnQ (k:Qn):AV:=.one (.fn 135 [k.f])
theorem Nq (x k:Qn):G ext F (n + 1) 135 [vq x.q x.t x.c,.one (.fp k.f)] = some ([vb (decide (x = k))],[vq x.q x.t x.c,.one (.fp k.f)]):=by
 refine dI (cf:=Q6) rfl ?_
 dsimp only [Q6,ay,dh,bA,bK,aG,bJ,dX,eD,dH,aD,cO,dG,bP,aV];simp only [go_sem]
 cases x;cases k;simp
def UD (l:List Qn) (k:Qn):Int:=match l.findIdx? fun x=>decide (x = k) with | some i=>i | none=>-1
theorem W9 {l:List Qn} {k:Qn} (h:∀ x ∈ l,x ≠ k):UD l k = -1:=by
 have:l.findIdx? (fun x=>decide (x = k)) = none:=akM.mpr fun x hx=>by simpa using h x hx
 simp [UD,this]
theorem Xa {l:List Qn} {k:Qn} {i:Nat} {x:Qn} (h:∀ x ∈ l.take i,x ≠ k) (hx:l[i]? = some x) (hk:x = k):UD l k = i:=by
 have hi:=(aj5.mp hx)
 have:l.findIdx? (fun x=>decide (x = k)) = some i:=by
  refine aky.mpr ⟨hi.1,by simp [hi.2,hk],fun j hj=>?_⟩
  have:=h (l[j]'(by have:=hi.1;omega)) (by rw [ak2];exact ⟨j,by have:=hi.1;omega,rfl⟩)
  simpa using this
 simp [UD,this]
theorem Xb (l:List Qn) (k:Qn):(UD l k = -1 ∧ ∀ x ∈ l,x ≠ k) ∨ ∃ (i:Nat),UD l k = (i:Int) ∧ ∃ h:i < l.length,(∀ x ∈ l.take i,x ≠ k) ∧ l[i] = k:=by
 have hp:UD l k = match l.findIdx? fun x=>decide (x = k) with | some i=>(i:Int) | none=>-1:=rfl
 cases h:l.findIdx? fun x=>decide (x = k) with
 | none =>
  rw [h] at hp
  exact .inl ⟨hp,fun x hx=>by simpa using akM.mp h x hx⟩
 | some i =>
  rw [h] at hp
  obtain ⟨hi,hx,hb⟩:=aky.mp h
  refine .inr ⟨i,hp,hi,fun x hx=>?_,by simpa using hx⟩
  obtain ⟨j,hj,rfl⟩:=ak2.mp hx
  have:=hb j (by omega)
  simpa using this
theorem Da (l:List Qn) (k:Qn) (hl:l.length ≤ 1000000000000) (hF:200000000000001 ≤ F):G ext F (n + 2) 149 [vl (l.map rQ),fnQ k] = some ([vi (UD l k)],[vl (l.map rQ),fnQ k]):=by
 refine dI (cf:=Q9) rfl ?_
 dsimp only [Q9,ay,dh,bA,bK,aG,bJ,dX,eD,dH,aD,cO,dG,bP,aV];simp only [go_sem]
 refine mK l.length (fun i=>⟨[(0,PV.c (CV.one (PL.f (FV.sl (l.map rQ))))),(1,PV.c (CV.one (PL.fn 135 [k.f]))),(7,PV.c (CV.one (PL.f (FV.int .i64 (l.map rQ).length)))),(8,PV.c (CV.one (PL.f (FV.int .i64 i))))],[]⟩) (fun i=>∀ x ∈ l.take i,x ≠ k) (by omega) rfl (by simp) (fun i hi hP=>?_) (fun hP=>?_)
 ·obtain ⟨x,hx,hd,ht,h0⟩:=at_ hi
  have hn:=nx hi (ajA hl (by decide))
  have hq:=fun n=>Nq (ext:=ext) (F:=F) (n:=n) x k
  simp only [ajg,ajo,hd,hx,ht,h0,rQ,hq,go_sem]
  repeat' (refine eB (fun h=>?_) (fun h=>?_) <;> simp only [h,ajg,ajo,hd,hx,ht,h0,hn,rQ,hq,go_sem])
  ·rw [Xa hP hx (by simpa using h)]
  ·exact all_succ hP hx (by simpa using h)
 ·have hd:=@end_ _ l
  simp only [ajg,hd,go_sem]
  repeat' (refine eB (fun h=>?_) (fun h=>?_) <;> simp only [h,ajg,hd,go_sem])
  rw [aj1] at hP
  rw [W9 hP]
theorem RA {l:List Qn} {k x:Qn} {i:Nat} (h:l[i]? = some x):(l.take (i + 1)).filter (fun y=>decide (y ≠ k)) = (l.take i).filter (fun y=>decide (y ≠ k)) ++ if x = k then [] else [x]:=by
 rw [aj6,List.filter_append,h]
 by_cases hx:x = k <;> simp [hx]
theorem z8 (l:List Qn) (k:Qn) (hl:l.length ≤ 1000000000000) (hF:200000000000001 ≤ F):G ext F (n + 3) 134 [.one (.own 3 (l.map rQ)),fnQ k] = some ([.one (.own 3 ((l.filter fun x=>decide (x ≠ k)).map rQ))],[.one .any,fnQ k]):=by
 refine dI (cf:=Q5) rfl ?_
 have h1:=fun n=>Da (ext:=ext) (F:=F) (n:=n) l k hl hF
 dsimp only [Q5,ay,dh,bA,bK,aG,bJ,dX,eD,dH,aD,cO,dG,bP,aV];simp only [h1,go_sem]
 rcases Xb l k with ⟨hp,hno⟩ | ⟨i0,hp,hi0,hpre,hat⟩
 ·rw [hp]
  simp only [show decide ((-1:Int) = -1) = true from rfl,go_sem]
  rw [List.filter_eq_self.mpr (fun x hx=>by simpa using hno x hx)]
 ·rw [hp]
  have hne:decide ((i0:Int) = -1) = false:=by simp
  simp only [hne,nx hi0 (ajA hl (by decide)),ajg,go_sem]
  refine rJ (l.length - (i0 + 1)) (fun x:List Qn × Nat × Nat=>⟨[(0,PV.c (CV.one (PL.own 20202 x.1.length))),(1,PV.c (CV.one (PL.fn 135 [k.f]))),(5,PV.c (CV.one (PL.f (FV.int IntKind.i64 x.2.1)))),(6,PV.c (CV.one (PL.f (FV.int IntKind.i64 x.2.2))))],[(20202,Ob.row 3 (x.1.map rQ))]⟩) (fun r x=>x.2.2 = i0 + 1 + r ∧ x.2.1 < x.2.2 ∧ x.1.length = l.length ∧ x.1.take x.2.1 = (l.take x.2.2).filter (fun y=>decide (y ≠ k)) ∧ x.1.drop x.2.2 = l.drop x.2.2) (by omega) (l,i0,i0 + 1) rfl ⟨rfl,Nat.lt_succ_self _,rfl,?_,rfl⟩ (fun r x hr hP=>?_) (fun x hP=>?_)
  ·rw [aj6,List.filter_append,List.filter_eq_self.mpr (fun x hx=>by simpa using hpre x hx),ajt hi0]
   simp [hat]
  ·obtain ⟨R,c,j⟩:=x
   obtain ⟨rfl,hc,hlen,htk,hdr⟩:=hP
   simp only at hc hlen htk hdr ⊢
   have hj:i0 + 1 + r < R.length:=by omega
   obtain ⟨x,hx,hd,ht,h0⟩:=at_ hj
   have hn:=nx hj (by omega)
   have hq:=fun n=>Nq (ext:=ext) (F:=F) (n:=n) x k
   have hlt:((i0 + 1 + r:Nat):Int) < (R.length:Int):=by omega
   have hcR:c < R.length:=by omega
   obtain ⟨y,hy,hcd,hct,hc0⟩:=at_ hcR
   have hcl:(c:Int) < (R.length:Int):=by omega
   have hcn:=nx hcR (by omega)
   simp only [ajg,ajo,hd,hx,ht,h0,rQ,hq,hlt,go_sem]
   repeat' (refine eB (fun h=>?_) (fun h=>?_) <;> simp only [h,ajg,ajo,hd,hx,ht,h0,hn,rQ,hq,hlt,hy,hct,hc0,hcl,hcn,go_sem])
   all_goals
    have hxl:l[i0 + 1 + r]? = some x:=by
     have:=ajH (fun z:List Qn=>z[0]?) hdr
     simp only [aj8,Nat.add_zero,hx] at this
     exact this.symm
    have hdr':List.drop (i0 + 1 + r + 1) R = List.drop (i0 + 1 + r + 1) l:=by
     have:=ajH (List.drop 1) hdr
     simpa only [List.drop_drop] using this
    have hft:=RA (k:=k) hxl
   ·simp only [ajz] at h
    rw [ajd h,akg] at hft
    exact ⟨(R,c,i0 + 1 + r + 1),rfl,rfl,by show c < i0 + 1 + r + 1;omega,hlen,by rw [hft];exact htk,hdr'⟩
   ·simp only [aj4] at h
    rw [aje h] at hft
    refine ⟨(R.set c x,c + 1,i0 + 1 + r + 1),?_,rfl,by show c + 1 < i0 + 1 + r + 1;omega,by simp [hlen],?_,?_⟩
    ·simp [akA,rQ]
    ·show List.take (c + 1) (R.set c x) = _
     rw [hft,aj6,List.take_set,List.set_eq_of_length_le (by simp;omega),htk,List.getElem?_set_self hcR]
     rfl
    ·show List.drop _ (R.set c x) = _
     rw [List.drop_set_of_lt (show c < i0 + 1 + r + 1 by omega)]
     exact hdr'
  ·obtain ⟨R,c,j⟩:=x
   obtain ⟨rfl,hc,hlen,htk,hdr⟩:=hP
   simp only at hc hlen htk hdr ⊢
   have hj:i0 + 1 + (l.length - (i0 + 1)) = R.length:=by omega
   rw [hj]
   rw [hj,akQ (l:=l) (i:=R.length) (by omega)] at htk
   have hd:=@end_ _ R
   have hct:(c:Int).toNat = c:=by simp
   have htt:List.take c (List.take c (List.map rQ R) ++ List.replicate (R.length - c) [FV.str ⟨#[]⟩,FV.int IntKind.i64 0,FV.int IntKind.i64 0]) = (l.filter fun y=>decide (y ≠ k)).map rQ:=by
    rw [akZ (by simp;omega),List.take_take,Nat.min_self,← List.map_take,htk]
   simp only [ajg,hd,go_sem]
   repeat' (refine eB (fun h=>?_) (fun h=>?_) <;> simp only [h,ajg,hd,go_sem])
   rw [hct]
   exact ⟨by omega,by omega,⟨by omega,by simp;omega⟩,by rw [htt]⟩
structure lZ (ext:Env):Prop where
 cq:∀ l:List Qn,l.length ≤ 1000000 → ext 115 [vl (l.map rQ)] = some ([.one (.own 3 (l.map rQ))],[vl (l.map rQ)])
 cs:∀ l:List ByteArray,l.length ≤ 1000000 → ext 72 [vl (l.map bC)] = some ([vl (l.map bC)],[vl (l.map bC)])
theorem Nr (C:lZ ext) (l:List Qn) (h:l.length ≤ 1000000):G ext F (n + 1) 115 [vl (l.map rQ)] = some ([.one (.own 3 (l.map rQ))],[vl (l.map rQ)]):=(ajR (iB rfl) _).trans (C.cq l h)
theorem Ns (C:lZ ext) (l:List ByteArray) (h:l.length ≤ 1000000):G ext F (n + 1) 72 [vl (l.map bC)] = some ([vl (l.map bC)],[vl (l.map bC)]):=(ajR (iB rfl) _).trans (C.cs l h)
def D5 (l:List Qn) (k:Qn):List Qn:=l.filter fun x=>decide (x ≠ k)
theorem tX {l:List Qn} {k:Qn}:(D5 l k).length ≤ l.length:=List.length_filter_le ..
theorem Nu (C:lZ ext) (l:List Qn) (k:Qn) (hl:l.length ≤ 1000000) (hF:200000000000001 ≤ F):G ext F (n + 4) 116 [vl (l.map rQ),vq k.q k.t k.c] = some ([.one (.own 3 ((D5 l k).map rQ))],[vl (l.map rQ),vq k.q k.t k.c]):=by
 refine dI (cf:=c116) rfl ?_
 have h1:=fun n=>Nr (F:=F) (n:=n) C l hl
 have h2:=fun n=>z8 (ext:=ext) (F:=F) (n:=n) l k (by omega) hF
 dsimp only [c116,ay,dh,bA,bK,aG,bJ,dX,eD,dH,aD,cO,dG,bP,aV];simp only [h1,h2,go_sem]
 rfl
theorem EP (C:lZ ext) (l:List Qn) (k:Qn) (hl:l.length ≤ 1000000) (hF:200000000000001 ≤ F):G ext F (n + 5) 86 [vl (l.map rQ),vq k.q k.t k.c] = some ([vl ((D5 l k ++ [k]).map rQ)],[vl (l.map rQ),vq k.q k.t k.c]):=by
 refine dI (cf:=c86) rfl ?_
 have h1:=fun n=>Nu (ext:=ext) (F:=F) (n:=n) C l k hl hF
 have hl2:=@tX l k
 dsimp only [c86,ay,dh,bA,bK,aG,bJ,dX,eD,dH,aD,cO,dG,bP,aV];simp only [h1,ajg,go_sem]
 have hsz:((D5 l k).length + 1) * 32 ≤ 140737488355328:=by omega
 simp [rQ,hsz]
theorem aa9 (l:List Qn):((l.map rQ).all fun r=>r.length == 3) = true:=by
 rw [aju]
 intro r hr
 obtain ⟨x, -,rfl⟩:=ajD.mp hr
 rfl
theorem Nw (C:lZ ext) (l:List Qn) (most:Int) (hl:l.length ≤ 1000000) (hm:0 ≤ most ∧ most ≤ 1000000000000) (hF:200000000000001 ≤ F):G ext F (n + 2) 85 [vl (l.map rQ),vi most] = some ([vl ((l.drop (l.length - most.toNat)).map rQ),vl ((l.take (l.length - most.toNat)).map rQ)],[vl (l.map rQ),vi most]):=by
 refine dI (cf:=c85) rfl ?_
 have h1:=fun n=>Nr (F:=F) (n:=n) C (l.drop (l.length - most.toNat)) (by simp;omega)
 have h2:=fun n=>Nr (F:=F) (n:=n) C (l.take (l.length - most.toNat)) (by simp;omega)
 obtain ⟨a,ha⟩:∃ a,a = l.length - most.toNat:=⟨_,rfl⟩
 rw [← ha] at h1 h2 ⊢
 have hc:IntKind.i64.wrap ((l.length:Int) - if (if (l.length:Int) < most then (l.length:Int) else most) < 0 then 0 else if (l.length:Int) < most then (l.length:Int) else most) = (a:Int):=by
  rw [pK (by split <;> split <;> omega) (by split <;> split <;> omega)]
  split <;> split <;> omega
 have hat:(a:Int).toNat = a:=by simp
 have hc1:(0:Int) ≤ a ∧ (a:Int) ≤ (l.length:Int):=by omega
 have hk1:List.take (l.length - a) (List.drop a (l.map rQ)) = (l.drop a).map rQ:=by rw [akQ (by simp),List.map_drop]
 have hk2:List.take a (l.map rQ) = (l.take a).map rQ:=List.map_take.symm
 dsimp only [c85,ay,dh,bA,bK,aG,bJ,dX,eD,dH,aD,cO,dG,bP,aV];simp only [ajg,hc,hat,hc1,hk1,hk2,h1,h2,aa9 l,akf,Nat.sub_zero,go_sem]
end
section
attribute [local go_sem_proc] Nat.reduceAdd Nat.reduceMul Nat.reduceEqDiff Nat.reduceBEq Nat.reduceMod Nat.reduceDiv reduceCtorEq
attribute [local go_sem_proc ↓] reduceIte
open Go Ev
variable {ext : Env} {F n:Nat} {θ:Th}
abbrev lu : KS:=.agg [.str,.int .i64,.int .i64]
abbrev kq (k:Qn):KV:=.agg [.str k.q,.int .i64 k.t,.int .i64 k.c]
def ent (x:It):KV × FC:=(kq x.k,.agg (rI x))
structure Sv where
 room:Int
 m:List It
 o:List Qn
 ch:Int
abbrev Sv.v (s:Sv):AV:=.one (.ptr [.f (.int .i64 s.room),.mp lu (s.m.map ent),.f (.sl (s.o.map rQ)),.f (.int .i64 s.ch)])
def svo : Option Sv → AV
 | some s=>s.v
 | none=>.one .iR
theorem ER (s:Sv):svo (some s) = s.v:=rfl
theorem GX {a b:Qn}:kq a = kq b ↔ a = b:=by
 constructor
 ·intro h;simp only [kq,KV.agg.injEq,akv,SV.str.injEq,SV.int.injEq] at h
  cases a;cases b;simp_all
 ·rintro rfl;rfl
theorem mO (l:List It) (k:Qn):xH (l.map ent) (kq k) = l.findIdx? fun x=>decide (x.k = k):=by
 unfold xH
 rw [akz,List.findIdx?_map]
 refine ajH (fun p=>List.findIdx? p l) (funext fun x=>?_)
 simp only [Function.comp,ent]
 by_cases h:x.k = k
 ·simp [h]
 ·have:¬ kq x.k = kq k:=fun e=>h (GX.mp e)
  simp only [this,h,decide_false]
theorem qm (l:List It) (k:Qn):sK (l.map ent) (kq k) = (old l k).map fun x=>.agg (rI x):=by
 have hf:old l k = (l.findIdx? fun x=>decide (x.k = k)).bind fun i=>l[i]?:=List.find?_eq_bind_findIdx?_getElem? ..
 unfold sK
 rw [mO,hf]
 cases l.findIdx? fun x=>decide (x.k = k) with
 | none=>rfl
 | some i=>simp only [Option.bind_some,ajo];cases l[i]? <;> rfl
theorem yG (l:List It) (k:Qn):BZ (l.map ent) (kq k) = (rid l k).map ent:=by
 unfold BZ rid
 rw [mO,List.eraseP_eq_eraseIdx]
 cases l.findIdx? fun x=>decide (x.k = k) with
 | none=>rfl
 | some i=>simp [List.eraseIdx_eq_take_drop_succ,List.map_take,List.map_drop]
def upd (l:List It) (x:It):List It:=match l.findIdx? fun y=>decide (y.k = x.k) with
 | some i=>l.set i x
 | none=>l ++ [x]
theorem yH (l:List It) (x:It):xI (l.map ent) (kq x.k) (.agg (rI x)) = (upd l x).map ent:=by
 unfold xI upd
 rw [mO]
 cases l.findIdx? fun y=>decide (y.k = x.k) with
 | none=>simp [ent]
 | some i=>simp [akA,ent]
theorem Ny (room:Int):G ext F (n + 1) 48 [vi room] = some ([svo (if room < 1 ∨ 1000 < room then none else some ⟨room,[],[],0⟩)],[vi room]):=by
 refine dI (cf:=c48) rfl ?_
 dsimp only [c48,ay,dh,bA,bK,aG,bJ,dX,eD,dH,aD,cO,dG,bP,aV];simp only [go_sem]
 repeat' (refine eB (fun h=>?_) (fun h=>?_) <;> simp only [h,go_sem])
 all_goals (simp only [ajz,aj4] at *)
 all_goals first | rw [ajd (by omega)] | rw [aje (by omega)]
 all_goals rfl
theorem ES (C:lZ ext) (x:It) (hx:x.d.length ≤ 1000000):G ext F (n + 2) 79 [x.v] = some ([x.v],[x.v]):=by
 refine dI (cf:=c79) rfl ?_
 have h1:=fun n=>Ns (F:=F) (n:=n) C x.d hx
 dsimp only [c79,ay,dh,bA,bK,aG,bJ,dX,eD,dH,aD,cO,dG,bP,aV];simp only [h1,go_sem]
def bH (s:Sv) (now:Int) (k:Qn):It × Bool:=match old s.m k with
 | some x=>if mM now x.u then (x,true) else (it0,false)
 | none=>(it0,false)
theorem Jc (C:lZ ext) (s:Sv) (now:Int) (k:Qn) (hd:∀ x ∈ s.m,x.d.length ≤ 1000000):G ext F (n + 3) 43 [s.v,vi now,vq k.q k.t k.c] = some ([(bH s now k).1.v,vb (bH s now k).2],[s.v,vi now,vq k.q k.t k.c]):=by
 refine dI (cf:=c43) rfl ?_
 have hk:=qm s.m k
 unfold bH
 cases ho:old s.m k with
 | none =>
  rw [ho] at hk
  dsimp only [c43,ay,dh,bA,bK,aG,bJ,dX,eD,dH,aD,cO,dG,bP,aV];simp only [hk,Option.map_none,Option.isSome_none,go_sem]
  rfl
 | some x =>
  rw [ho] at hk
  have h1:=fun n=>ES (F:=F) (n:=n) C x (hd x (ak7 ho))
  cases hv:mM now x.u
  all_goals
   dsimp only [c43,ay,dh,bA,bK,aG,bJ,dX,eD,dH,aD,cO,dG,bP,aV];simp only [hk,Option.map_some,Option.isSome_some,rI,jH,hv,h1,go_sem]
  rfl
def Kn (θ:Th) (s:Sv) (now:Int) (x:It):Int :=
 if x.u < 0 ∨ θ.set x.q x.t x.c x.d x.ttl = false ∨ x.r < 1 ∨ 5 < x.r then 1
 else if mM now x.u = false then 14
 else match old s.m x.k with
  | some o=>if M9 o.r (mM now o.u) x.r = false then 10 else 0
  | none=>0
theorem Nz (now:Int) (x:It):G ext F (n + 4) 84 [.one .iR,vi now,x.v] = some ([vi 1],[.one .iR,vi now,x.v]):=by
 refine dI (cf:=WV) rfl ?_
 dsimp only [WV,ay,dh,bA,bK,aG,bJ,dX,eD,dH,aD,cO,dG,bP,aV];simp only [go_sem]
theorem Xc {rb:Bool} (T:θ.DZ rb ext) (s:Sv) (now:Int) (x:It) (hF:200000000000001 ≤ F) (hq:x.q.size ≤ 1000000) (hn:x.d.length ≤ 1000000) (hd:∀ y ∈ x.d,y.size ≤ 1000000):G ext F (n + 4) 84 [s.v,vi now,x.v] = some ([vi (Kn θ s now x)],[s.v,vi now,x.v]):=by
 refine dI (cf:=WV) rfl ?_
 have hk:=qm s.m x.k
 have h1:=fun n=>Bd (ext:=ext) (F:=F) (n:=n) T x.q x.t x.c x.d x.ttl (by omega) hF hq hd
 unfold Kn
 cases hold:old s.m x.k with
 | none =>
  rw [hold] at hk
  dsimp only [WV,ay,dh,bA,bK,aG,bJ,dX,eD,dH,aD,cO,dG,bP,aV];simp only [h1,hk,jH,Option.map_none,Option.isSome_none,go_sem]
  repeat' (refine eB (fun h=>?_) (fun h=>?_) <;> simp only [h,h1,hk,jH,Option.map_none,Option.isSome_none,go_sem])
  all_goals clear h1 hk
  all_goals simp only [ajz,aj4] at *
  all_goals simp [*]
 | some o =>
  rw [hold] at hk
  dsimp only [WV,ay,dh,bA,bK,aG,bJ,dX,eD,dH,aD,cO,dG,bP,aV];simp only [h1,hk,jH,I6,Option.map_some,Option.isSome_some,rI,go_sem]
  repeat' (refine eB (fun h=>?_) (fun h=>?_) <;> simp only [h,h1,hk,jH,I6,Option.map_some,Option.isSome_some,rI,go_sem])
  all_goals clear h1 hk
  all_goals simp only [ajz,aj4] at *
  all_goals simp [*]
end
section
open Go Ev
variable {ext : Env} {F n:Nat} {θ:Th}
abbrev Se.it (x:Se) (u r:Int):It:=⟨x.q,x.t,x.c,x.d,x.ttl,u,r⟩
def u7 (θ:Th) (s:Sv) (now:Int) (x:Se) (r:Int):Sv × Int :=
 let it:=x.it (fJ now x.ttl) r
 if Kn θ s now it ≠ 0 then (s,Kn θ s now it)
 else
  let t:=D5 s.o x.k ++ [x.k]
  (⟨s.room,(t.take (t.length - s.room.toNat)).foldl rid (upd s.m it),t.drop (t.length - s.room.toNat),s.ch + 1⟩,0)
structure Bf (θ:Th) (ext:Env):Prop where
 p0:∀ now x r,ext 50 [.one .iR,vi now,Se.v x,vi r] = some ([vi 1],[.one .iR,vi now,x.v,vi r])
 p1:∀ (s:Sv) now (x:Se) r,0 ≤ s.room ∧ s.room ≤ 1000000 → 0 ≤ s.ch ∧ s.ch ≤ 1000000000000 → s.o.length ≤ 100000 → s.m.length ≤ 100000 → x.q.size ≤ 1000000 → x.d.length ≤ 1000000 → (∀ y ∈ x.d,y.size ≤ 1000000) →
  ext 50 [s.v,vi now,x.v,vi r] = some ([vi (u7 θ s now x r).2],[(u7 θ s now x r).1.v,vi now,x.v,vi r])
theorem NA (Q:Bf θ ext) (s:Sv) (now:Int) (x:Se) (r:Int) (h1:0 ≤ s.room ∧ s.room ≤ 1000000) (h2:0 ≤ s.ch ∧ s.ch ≤ 1000000000000) (h3:s.o.length ≤ 100000) (h3':s.m.length ≤ 100000) (h4:x.q.size ≤ 1000000) (h5:x.d.length ≤ 1000000) (h6:∀ y ∈ x.d,y.size ≤ 1000000):G ext F (n + 1) 50 [s.v,vi now,x.v,vi r] = some ([vi (u7 θ s now x r).2],[(u7 θ s now x r).1.v,vi now,x.v,vi r]):=(ajR (iB rfl) _).trans (Q.p1 s now x r h1 h2 h3 h3' h4 h5 h6)
abbrev na : ByteArray:=⟨#[1,97,0]⟩
abbrev nb : ByteArray:=⟨#[1,98,0]⟩
abbrev nc_ : ByteArray:=⟨#[1,99,0]⟩
abbrev dd : ByteArray:=⟨#[49,49,49,49]⟩
abbrev sa : Se:=⟨na,1,1,[dd],5⟩
abbrev sb : Se:=⟨nb,1,1,[dd],5⟩
abbrev sc : Se:=⟨nc_,1,1,[dd],5⟩
abbrev sz : Se:=⟨na,1,1,[dd],0⟩
abbrev t0 : Sv:=⟨2,[],[],0⟩
abbrev t1 : Sv:=⟨2,[sa.it 6 5],[sa.k],1⟩
abbrev t2 : Sv:=⟨2,[sa.it 6 5,sb.it 6 3],[sa.k,sb.k],2⟩
abbrev t3 : Sv:=⟨2,[sa.it 6 5,sb.it 6 3],[sb.k,sa.k],2⟩
abbrev t4 : Sv:=⟨2,[sa.it 6 5,sc.it 7 1],[sa.k,sc.k],3⟩
abbrev t5 : Sv:=⟨2,[sc.it 7 1],[sc.k],4⟩
end
section
open Go Ev
variable {θ : Th}
abbrev ks (l:List It):List Qn:=l.map It.k
theorem l5 {l:List It} {b:Qn} {x:It} (h:old l b = some x):x.k = b ∧ x ∈ l:=⟨by simpa using List.find?_some h,ak7 h⟩
theorem tY {l:List It} {a:Qn}:(rid l a).Sublist l:=List.eraseP_sublist ..
theorem vk {l:List It} {a:Qn} (h:(ks l).Nodup):(ks (rid l a)).Nodup:=(tY.map _).nodup h
theorem sj (l:List It) (x:It):(x.k ∉ ks l ∧ upd l x = l ++ [x]) ∨ ∃ a y b,l = a ++ y :: b ∧ y.k = x.k ∧ x.k ∉ ks a ∧ upd l x = a ++ x :: b:=by
 unfold upd
 cases h:l.findIdx? fun y=>decide (y.k = x.k) with
 | none =>
  refine .inl ⟨fun hm=>?_,rfl⟩
  obtain ⟨y,hy,hk⟩:=ajD.mp hm
  have:=akM.mp h y hy
  simp [hk] at this
 | some i =>
  obtain ⟨hi,hx,hb⟩:=aky.mp h
  refine .inr ⟨l.take i,l[i],l.drop (i + 1),?_,by simpa using hx,fun hm=>?_,?_⟩
  ·rw [List.getElem_cons_drop,ak0]
  ·obtain ⟨y,hy,hk⟩:=ajD.mp hm
   obtain ⟨j,hj,rfl⟩:=ak2.mp hy
   have:=hb j (by omega)
   simp [hk] at this
  ·simp only [List.set_eq_take_append_cons_drop,hi,ajL]
theorem vo {l:List It} {x:It} (h:(ks l).Nodup):(ks (upd l x)).Nodup:=by
 rcases sj l x with ⟨hn,hu⟩ | ⟨a,y,c,rfl,hy,ha,hu⟩
 ·rw [hu]
  simp only [ks,akx,ajp,ajs]
  refine akF.mpr ⟨h,List.pairwise_singleton _ _,fun p hp q hq=>?_⟩
  rw [aj3] at hq;subst hq;rintro rfl;exact hn hp
 ·rw [hu]
  have:ks (a ++ x :: c) = ks (a ++ y :: c):=by simp [ks,hy]
  rw [this];exact h
end
end Go.Proofs.YtfokaoeinpnagaaGreat.Kc
namespace Go.Proofs.YtfokaoeinpnagaaGreat.Kc.Ne
section
open Go Ev
variable {ext : Env} {F n:Nat} {θ:Th}
structure Nt where
 k:Qn
 nx:Bool
 s:Se
 u:Int
 deriving DecidableEq
def rN (x:Nt):List FV:=[.str x.k.q,.int .i64 x.k.t,.int .i64 x.k.c,.bool x.nx,.str x.s.q,.int .i64 x.s.t,.int .i64 x.s.c,.sl (x.s.d.map bC),.int .i64 x.s.ttl,.int .i64 x.u]
abbrev Nt.v (x:Nt):AV:=.agg [.f (.str x.k.q),.f (.int .i64 x.k.t),.f (.int .i64 x.k.c),.f (.bool x.nx),.f (.str x.s.q),.f (.int .i64 x.s.t),.f (.int .i64 x.s.c),.f (.sl (x.s.d.map bC)),.f (.int .i64 x.s.ttl),.f (.int .i64 x.u)]
abbrev _root_.Go.Proofs.YtfokaoeinpnagaaGreat.Kc.Qn.v (k:Qn):AV:=vq k.q k.t k.c
def nt0 : Nt:=⟨⟨⟨#[]⟩,0,0⟩,false,⟨⟨#[]⟩,0,0,[],0⟩,0⟩
structure On where
 o:Int
 now:Int
 k:Qn
 nx:Bool
 s:Se
abbrev On.v (x:On):AV:=.agg [.f (.int .i64 x.o),.f (.int .i64 x.now),.f (.str x.k.q),.f (.int .i64 x.k.t),.f (.int .i64 x.k.c),.f (.bool x.nx),.f (.str x.s.q),.f (.int .i64 x.s.t),.f (.int .i64 x.s.c),.f (.sl (x.s.d.map bC)),.f (.int .i64 x.s.ttl)]
structure Nv where
 room:Int
 m:List Nt
 o:List Qn
 ch:Int
structure Rn where
 room:Int
 l:List Nt
 ch:Int
abbrev lu : KS:=.agg [.str,.int .i64,.int .i64]
abbrev kq (k:Qn):KV:=.agg [.str k.q,.int .i64 k.t,.int .i64 k.c]
theorem GX {a b:Qn}:kq a = kq b ↔ a = b:=by
 constructor
 ·intro h;simp only [kq,KV.agg.injEq,akv,SV.str.injEq,SV.int.injEq] at h
  cases a;cases b;simp_all
 ·rintro rfl;rfl
def old (l:List Nt) (k:Qn):Option Nt:=l.find? fun x=>decide (x.k = k)
def rid (l:List Nt) (k:Qn):List Nt:=l.eraseP fun x=>decide (x.k = k)
def ent (x:Nt):KV × FC:=(kq x.k,.agg (rN x))
theorem mO (l:List Nt) (k:Qn):xH (l.map ent) (kq k) = l.findIdx? fun x=>decide (x.k = k):=by
 unfold xH
 rw [akz,List.findIdx?_map]
 refine ajH (fun p=>List.findIdx? p l) (funext fun x=>?_)
 simp only [Function.comp,ent]
 by_cases h:x.k = k
 ·simp [h]
 ·have:¬ kq x.k = kq k:=fun e=>h (GX.mp e)
  simp only [this,h,decide_false]
theorem qm (l:List Nt) (k:Qn):sK (l.map ent) (kq k) = (old l k).map fun x=>.agg (rN x):=by
 have hf:old l k = (l.findIdx? fun x=>decide (x.k = k)).bind fun i=>l[i]?:=List.find?_eq_bind_findIdx?_getElem? ..
 unfold sK
 rw [mO,hf]
 cases l.findIdx? fun x=>decide (x.k = k) with
 | none=>rfl
 | some i=>simp only [Option.bind_some,ajo];cases l[i]? <;> rfl
theorem yG (l:List Nt) (k:Qn):BZ (l.map ent) (kq k) = (rid l k).map ent:=by
 unfold BZ rid
 rw [mO,List.eraseP_eq_eraseIdx]
 cases l.findIdx? fun x=>decide (x.k = k) with
 | none=>rfl
 | some i=>simp [List.eraseIdx_eq_take_drop_succ,List.map_take,List.map_drop]
def upd (l:List Nt) (x:Nt):List Nt:=match l.findIdx? fun y=>decide (y.k = x.k) with
 | some i=>l.set i x
 | none=>l ++ [x]
theorem yH (l:List Nt) (x:Nt):xI (l.map ent) (kq x.k) (.agg (rN x)) = (upd l x).map ent:=by
 unfold xI upd
 rw [mO]
 cases l.findIdx? fun y=>decide (y.k = x.k) with
 | none=>simp [ent]
 | some i=>simp [akA,ent]
abbrev ks (l:List Nt):List Qn:=l.map Nt.k
theorem l5 {l:List Nt} {b:Qn} {x:Nt} (h:old l b = some x):x.k = b ∧ x ∈ l:=⟨by simpa using List.find?_some h,ak7 h⟩
theorem tY {l:List Nt} {a:Qn}:(rid l a).Sublist l:=List.eraseP_sublist ..
theorem vk {l:List Nt} {a:Qn} (h:(ks l).Nodup):(ks (rid l a)).Nodup:=(tY.map _).nodup h
theorem sj (l:List Nt) (x:Nt):(x.k ∉ ks l ∧ upd l x = l ++ [x]) ∨ ∃ a y b,l = a ++ y :: b ∧ y.k = x.k ∧ x.k ∉ ks a ∧ upd l x = a ++ x :: b:=by
 unfold upd
 cases h:l.findIdx? fun y=>decide (y.k = x.k) with
 | none =>
  refine .inl ⟨fun hm=>?_,rfl⟩
  obtain ⟨y,hy,hk⟩:=ajD.mp hm
  have:=akM.mp h y hy
  simp [hk] at this
 | some i =>
  obtain ⟨hi,hx,hb⟩:=aky.mp h
  refine .inr ⟨l.take i,l[i],l.drop (i + 1),?_,by simpa using hx,fun hm=>?_,?_⟩
  ·rw [List.getElem_cons_drop,ak0]
  ·obtain ⟨y,hy,hk⟩:=ajD.mp hm
   obtain ⟨j,hj,rfl⟩:=ak2.mp hy
   have:=hb j (by omega)
   simp [hk] at this
  ·simp only [List.set_eq_take_append_cons_drop,hi,ajL]
theorem vo {l:List Nt} {x:Nt} (h:(ks l).Nodup):(ks (upd l x)).Nodup:=by
 rcases sj l x with ⟨hn,hu⟩ | ⟨a,y,c,rfl,hy,ha,hu⟩
 ·rw [hu]
  simp only [ks,akx,ajp,ajs]
  refine akF.mpr ⟨h,List.pairwise_singleton _ _,fun p hp q hq=>?_⟩
  rw [aj3] at hq;subst hq;rintro rfl;exact hn hp
 ·rw [hu]
  have:ks (a ++ x :: c) = ks (a ++ y :: c):=by simp [ks,hy]
  rw [this];exact h
theorem RB {l:List Nt} {x:Nt}:(upd l x).length ≤ l.length + 1:=by
 rcases sj l x with ⟨-,hu⟩ | ⟨a,y,c,rfl, -, -,hu⟩ <;> rw [hu] <;> simp
theorem RD {l:List Nt} {x y:Nt} (h:y ∈ upd l x):y = x ∨ y ∈ l:=by
 rcases sj l x with ⟨-,hu⟩ | ⟨a,z,c,rfl, -, -,hu⟩ <;> rw [hu] at h <;> simp at h ⊢
 ·rcases h with h | h <;> simp [h]
 ·rcases h with h | h | h <;> simp [h]
theorem yI : ∀ {g:List Qn} {l:List Nt},(g.foldl rid l).Sublist l
 | [],l=>akV _
 | a :: g,l=>(yI (g:=g)).trans tY
abbrev Nv.v (s:Nv):AV:=.one (.ptr [.f (.int .i64 s.room),.mp lu (s.m.map ent),.f (.sl (s.o.map rQ)),.f (.int .i64 s.ch)])
abbrev Rn.v (s:Rn):AV:=.agg [.f (.int .i64 s.room),.f (.sl (s.l.map rN)),.f (.int .i64 s.ch)]
def nvo : Option Nv → AV
 | some s=>s.v
 | none=>.one .iR
theorem ET (s:Nv):nvo (some s) = s.v:=rfl
end
section
attribute [local go_sem_proc] Nat.reduceAdd Nat.reduceMul Nat.reduceEqDiff Nat.reduceBEq Nat.reduceMod Nat.reduceDiv reduceCtorEq
attribute [local go_sem_proc ↓] reduceIte
open Go Ev
variable {ext : Env} {F n:Nat} {θ:Th} {gt:ByteArray → Int → Int → Int × Bool}
structure vU (r:Bool) (gt:ByteArray → Int → Int → Int × Bool) (ext:Env):Prop where
 og:∀ s a z,s.size ≤ 1000000 → ext 117 [vs s,vi a,vi z] = some ([vi (gt s a z).1,vb (gt s a z).2],[vs s,vi a,vi z])
 rg:r = true → ∀ s a z,s.size ≤ 1000000 → ext 120 [vs s,vi a,vi z] = some ([vi (gt s a z).1,vb (gt s a z).2],[vs s,vi a,vi z])
 nn:∀ s a z,0 ≤ (gt s a z).1
theorem abb {rg:Bool} (O:vU rg gt ext) (s:ByteArray) (a z:Int) (h:s.size ≤ 1000000):G ext F (n + 1) 117 [vs s,vi a,vi z] = some ([vi (gt s a z).1,vb (gt s a z).2],[vs s,vi a,vi z]):=(ajR (iB rfl) _).trans (O.og s a z h)
theorem Jd (room:Int):G ext F (n + 1) 49 [vi room] = some ([nvo (if room < 1 ∨ 1000 < room then none else some ⟨room,[],[],0⟩)],[vi room]):=by
 refine dI (cf:=c49) rfl ?_
 dsimp only [c49,ay,dh,bA,bK,aG,bJ,dX,eD,dH,aD,cO,dG,bP,aV];simp only [go_sem]
 repeat' (refine eB (fun h=>?_) (fun h=>?_) <;> simp only [h,go_sem])
 all_goals (simp only [ajz,aj4] at *)
 all_goals first | rw [ajd (by omega)] | rw [aje (by omega)]
 all_goals rfl
theorem oo (C:lZ ext) (x:Nt) (hx:x.s.d.length ≤ 1000000):G ext F (n + 2) 90 [x.v] = some ([x.v],[x.v]):=by
 refine dI (cf:=c90) rfl ?_
 have h1:=fun n=>Ns (F:=F) (n:=n) C x.s.d hx
 dsimp only [c90,ay,dh,bA,bK,aG,bJ,dX,eD,dH,aD,cO,dG,bP,aV];simp only [h1,go_sem]
theorem EU (k:Qn):G ext F (n + 1) 89 [k.v] = some ([vq k.q 0 k.c],[k.v]):=by
 refine dI (cf:=c89) rfl ?_
 dsimp only [c89,ay,dh,bA,bK,aG,bJ,dX,eD,dH,aD,cO,dG,bP,aV];simp only [go_sem]
abbrev _root_.Go.Proofs.YtfokaoeinpnagaaGreat.Kc.Qn.w (k:Qn):Qn:=⟨k.q,0,k.c⟩
def _root_.Go.Proofs.YtfokaoeinpnagaaGreat.Kc.Th.ask (θ:Th) (k:Qn):Bool:=θ.key k.q k.t k.c && !decide (k.t = 0)
theorem NC {rb:Bool} (T:θ.DZ rb ext) (k:Qn) (hq:k.q.size ≤ 1000000):G ext F (n + 2) 88 [k.v] = some ([vb (θ.ask k)],[k.v]):=by
 refine dI (cf:=c88) rfl ?_
 have h1:=fun n=>UC (F:=F) (n:=n) T k.q hq
 have h2:=fun n=>Nl (F:=F) (n:=n) T k.q hq
 dsimp only [c88,ay,dh,bA,bK,aG,bJ,dX,eD,dH,aD,cO,dG,bP,aV];simp only [h1,h2,go_sem]
 repeat' (refine eB (fun h=>?_) (fun h=>?_) <;> simp only [h,h1,h2,go_sem])
 all_goals clear h1 h2
 all_goals simp only [ajz,aj4] at *
 all_goals (simp [Th.ask,Th.key, *])
 all_goals (try omega)
 all_goals (have a1:0 ≤ k.t:=by omega);(have a2:¬ k.t = 0:=by omega);simp [a1,a2]
def wN (θ:Th) (gt:ByteArray → Int → Int → Int × Bool) (x:Se):Int × Bool :=
 if θ.set x.q x.t x.c x.d x.ttl = true ∧ x.t = 6 then (if x.ttl < (gt (x.d.headD ⟨#[]⟩) ((x.d.headD ⟨#[]⟩).size - 4) 4).1 then x.ttl else (gt (x.d.headD ⟨#[]⟩) ((x.d.headD ⟨#[]⟩).size - 4) 4).1,true) else (0,false)
theorem ND {x:Se} (h:θ.set x.q x.t x.c x.d x.ttl = true):∃ y d,x.d = y :: d:=by
 unfold Th.set at h
 rw [ajz] at h
 exact List.exists_cons_of_ne_nil h.2.2.2
theorem GY {rb:Bool} (T:θ.DZ rb ext) {rg:Bool} (O:vU rg gt ext) (x:Se) (hF:200000000000001 ≤ F) (hq:x.q.size ≤ 1000000) (hn:x.d.length ≤ 1000000) (hd:∀ y ∈ x.d,y.size ≤ 1000000):G ext F (n + 4) 87 [x.v] = some ([vi (wN θ gt x).1,vb (wN θ gt x).2],[x.v]):=by
 refine dI (cf:=c87) rfl ?_
 have h1:=fun n=>Bd (F:=F) (n:=n) T x.q x.t x.c x.d x.ttl (by omega) hF hq hd
 by_cases h6:x.t = 6
 ·have h6':decide (x.t = 6) = true:=ajf h6
  cases hs:θ.set x.q x.t x.c x.d x.ttl with
  | false =>
   rw [hs] at h1
   have e:wN θ gt x = (0,false):=by unfold wN;rw [hs];rfl
   rw [e]
   dsimp only [c87,ay,dh,bA,bK,aG,bJ,dX,eD,dH,aD,cO,dG,bP,aV];simp only [h1,h6',go_sem]
  | true =>
   rw [hs] at h1
   obtain ⟨y,ds,hy⟩:=ND hs
   have e:wN θ gt x = (if x.ttl < (gt y (y.size - 4) 4).1 then x.ttl else (gt y (y.size - 4) 4).1,true):=by unfold wN;rw [ajd ⟨hs,h6⟩,hy];rfl
   rw [e]
   have hys:=hd y (by rw [hy];simp)
   have hw:IntKind.i64.wrap ((y.size:Int) - 4) = y.size - 4:=pK (by omega) (by omega)
   have hg:=fun n=>abb (F:=F) (n:=n) O y (y.size - 4) 4 hys
   simp only [Se.v,tQ,hy,ajp,bC] at h1 ⊢
   dsimp only [c87,ay,dh,bA,bK,aG,bJ,dX,eD,dH,aD,cO,dG,bP,aV];simp only [h1,h6',ajp,List.getElem?_cons_zero,bC,hw,hg,Int.toNat_zero,go_sem]
   exact ⟨aj7 _,by rw [hy];rfl⟩
 ·have h6':decide (x.t = 6) = false:=ajh h6
  have e:wN θ gt x = (0,false):=by unfold wN;rw [aje (fun h=>h6 h.2)]
  rw [e]
  dsimp only [c87,ay,dh,bA,bK,aG,bJ,dX,eD,dH,aD,cO,dG,bP,aV];simp only [h6',go_sem]
end
section
open Go Ev
variable {ext : Env} {F n:Nat} {θ:Th} {gt:ByteArray → Int → Int → Int × Bool}
def ofR (o:Option Nt):Nt × Bool:=match o with
 | some x=>(x,true)
 | none=>(nt0,false)
abbrev kn (nx:Bool) (k:Qn):Qn:=if nx then k.w else k
def _root_.Go.Proofs.YtfokaoeinpnagaaGreat.Kc.Th.narg (θ:Th) (gt:ByteArray → Int → Int → Int × Bool) (s:Rn) (now:Int) (k:Qn) (x:Se):Prop:=s.room = 0 ∨ Ri now = false ∨ (wN θ gt x).2 = false ∨ θ.key k.q k.t k.c = false ∨ k.t = 0
instance {s : Rn} {now:Int} {k:Qn} {x:Se}:Decidable (θ.narg gt s now k x):=by unfold Th.narg;infer_instance
end
section
attribute [local go_sem_proc] Nat.reduceAdd Nat.reduceMul Nat.reduceEqDiff Nat.reduceBEq Nat.reduceMod Nat.reduceDiv reduceCtorEq
attribute [local go_sem_proc ↓] reduceIte
open Go Ev
variable {ext : Env} {F n:Nat} {θ:Th} {gt:ByteArray → Int → Int → Int × Bool}
def nof (m:List Nt) (now:Int) (k:Qn):Option Nt:=match old m k with
 | some x=>if mM now x.u then some x else none
 | none=>none
def gH (s:Nv) (now:Int) (k:Qn):Nt × Bool:=match nof s.m now k.w with
 | some x=>(x,true)
 | none=>ofR (nof s.m now k)
theorem NG (C:lZ ext) (s:Nv) (now:Int) (k:Qn) (hF:200000000000001 ≤ F) (hd:∀ x ∈ s.m,x.s.d.length ≤ 1000000):G ext F (n + 3) 103 [s.v,vi now,k.v] = some ([(gH s now k).1.v,vb (gH s now k).2],[s.v,vi now,k.v]):=by
 refine dI (cf:=Rf) rfl ?_
 have hw:=fun n=>EU (ext:=ext) (F:=F) (n:=n) k
 dsimp only [Rf,ay,dh,bA,bK,aG,bJ,dX,eD,dH,aD,cO,dG,bP,aV];simp only [hw,go_sem]
 refine mK 2 (fun i=>⟨[(0,PV.c (CV.one (PL.ptr 20201 0))),(1,PV.c (CV.one (PL.f (FV.int IntKind.i64 now)))),(6,PV.c (CV.one (PL.ptr 140000 0))),(18,PV.c (CV.one (PL.own 380000 2))),(19,PV.c (CV.one (PL.f (FV.int IntKind.i64 ((2:Nat):Int))))),(20,PV.c (CV.one (PL.f (FV.int IntKind.i64 (i:Int)))))],[(20201,Ob.fu [PL.f (FV.int IntKind.i64 s.room),PL.mp 20205,PL.f (FV.sl (List.map rQ s.o)),PL.f (FV.int IntKind.i64 s.ch)]),(20205,Ob.map lu (List.map ent s.m)),(140000,Ob.fu [PL.f (FV.str ⟨#[]⟩),PL.f (FV.int IntKind.i64 0),PL.f (FV.int IntKind.i64 0),PL.f (FV.bool false),PL.f (FV.str ⟨#[]⟩),PL.f (FV.int IntKind.i64 0),PL.f (FV.int IntKind.i64 0),PL.bY,PL.f (FV.int IntKind.i64 0),PL.f (FV.int IntKind.i64 0)]),(380000,Ob.row 3 [[FV.str k.q,FV.int IntKind.i64 0,FV.int IntKind.i64 k.c],[FV.str k.q,FV.int IntKind.i64 k.t,FV.int IntKind.i64 k.c]])]⟩) (fun i=>(1 ≤ i → nof s.m now k.w = none) ∧ (2 ≤ i → nof s.m now k = none)) (by omega) rfl ⟨by omega,by omega⟩ (fun i hi hP=>?_) (fun hP=>?_)
 ·rcases (show i = 0 ∨ i = 1 by omega) with rfl | rfl
  ·skip
   have hlt:decide (((0:Nat):Int) < ((2:Nat):Int)) = true:=by decide
   have ht:((0:Nat):Int).toNat = 0:=rfl
   have h0:(0:Int) ≤ ((0:Nat):Int):=by decide
   have hn':IntKind.i64.wrap (((0:Nat):Int) + 1) = ((0 + 1:Nat):Int):=by rw [pK (by omega) (by omega)];rfl
   have hk1:=qm s.m k.w
   simp only [kq] at hk1
   have hcl:=fun n x hx=>oo (F:=F) (n:=n) C x hx
   cases hold:old s.m k.w with
   | none =>
    rw [hold] at hk1
    simp only [hlt,ht,h0,hn',List.getElem?_cons_zero,List.getElem?_cons_succ,hk1,Option.map_none,Option.isSome_none,go_sem]
    first | exact ⟨by decide,fun _=>by unfold nof;simp [hold, *],by omega⟩ | exact ⟨by decide,rfl,fun _=>by unfold nof;simp [hold, *],by omega⟩
   | some x =>
    rw [hold] at hk1
    have hcl:=fun n=>oo (F:=F) (n:=n) C x (hd x (l5 hold).2)
    cases hv:mM now x.u with
    | false =>
     simp only [hlt,ht,h0,hn',List.getElem?_cons_zero,List.getElem?_cons_succ,hk1,Option.map_some,Option.isSome_some,rN,jH,hv,go_sem]
     first | exact ⟨by decide,fun _=>by unfold nof;simp [hold, *],by omega⟩ | exact ⟨by decide,rfl,fun _=>by unfold nof;simp [hold, *],by omega⟩
    | true =>
     simp only [hlt,ht,h0,hn',List.getElem?_cons_zero,List.getElem?_cons_succ,hk1,Option.map_some,Option.isSome_some,rN,jH,hv,hcl,go_sem]
     have e:gH s now k = (x,true):=by unfold gH nof;rw [hold];simp [hv]
     rw [e]
     exact ⟨by decide,rfl⟩
  ·have hp:=hP.1 (by decide)
   have hlt:decide (((1:Nat):Int) < ((2:Nat):Int)) = true:=by decide
   have ht:((1:Nat):Int).toNat = 1:=rfl
   have h0:(0:Int) ≤ ((1:Nat):Int):=by decide
   have hn':IntKind.i64.wrap (((1:Nat):Int) + 1) = ((1 + 1:Nat):Int):=by rw [pK (by omega) (by omega)];rfl
   have hk1:=qm s.m k
   simp only [kq] at hk1
   have hcl:=fun n x hx=>oo (F:=F) (n:=n) C x hx
   cases hold:old s.m k with
   | none =>
    rw [hold] at hk1
    simp only [hlt,ht,h0,hn',List.getElem?_cons_zero,List.getElem?_cons_succ,hk1,Option.map_none,Option.isSome_none,go_sem]
    first | exact ⟨by decide,fun _=>hp,fun _=>by unfold nof;simp [hold, *]⟩ | exact ⟨by decide,rfl,fun _=>hp,fun _=>by unfold nof;simp [hold, *]⟩
   | some x =>
    rw [hold] at hk1
    have hcl:=fun n=>oo (F:=F) (n:=n) C x (hd x (l5 hold).2)
    cases hv:mM now x.u with
    | false =>
     simp only [hlt,ht,h0,hn',List.getElem?_cons_zero,List.getElem?_cons_succ,hk1,Option.map_some,Option.isSome_some,rN,jH,hv,go_sem]
     first | exact ⟨by decide,fun _=>hp,fun _=>by unfold nof;simp [hold, *]⟩ | exact ⟨by decide,rfl,fun _=>hp,fun _=>by unfold nof;simp [hold, *]⟩
    | true =>
     simp only [hlt,ht,h0,hn',List.getElem?_cons_zero,List.getElem?_cons_succ,hk1,Option.map_some,Option.isSome_some,rN,jH,hv,hcl,go_sem]
     have e:gH s now k = (x,true):=by unfold gH;rw [hp];unfold nof;rw [hold];simp [hv,ofR]
     rw [e]
     exact ⟨by decide,rfl⟩
 ·have hp1:=hP.1 (by decide)
  have hp2:=hP.2 (by decide)
  have hlt:decide (((2:Nat):Int) < ((2:Nat):Int)) = false:=by decide
  have e:gH s now k = (nt0,false):=by unfold gH;rw [hp1,hp2];rfl
  rw [e]
  simp only [hlt,go_sem]
  rfl
def su (θ:Th) (gt:ByteArray → Int → Int → Int × Bool) (s:Nv) (now:Int) (k:Qn) (nx:Bool) (x:Se):Nv × Int :=
 if (wN θ gt x).2 = false ∨ fJ now (wN θ gt x).1 = -1 ∨ θ.ask k = false then (s,1)
 else if mM now (fJ now (wN θ gt x).1) = false then (s,14)
 else
  let t:=D5 s.o (kn nx k) ++ [kn nx k]
  (⟨s.room,(t.take (t.length - s.room.toNat)).foldl rid (upd s.m ⟨kn nx k,nx,x,fJ now (wN θ gt x).1⟩),t.drop (t.length - s.room.toNat),s.ch + 1⟩,0)
theorem Je {rb:Bool} (T:θ.DZ rb ext) {rg:Bool} (O:vU rg gt ext) (C:lZ ext) (s:Nv) (now:Int) (k:Qn) (rM:Bool) (x:Se) (hF:200000000000001 ≤ F) (hr1:0 ≤ s.room ∧ s.room ≤ 1000000) (hc:0 ≤ s.ch ∧ s.ch ≤ 1000000000000) (ho:s.o.length ≤ 100000) (hk:k.q.size ≤ 1000000) (hq:x.q.size ≤ 1000000) (hn:x.d.length ≤ 1000000) (hd:∀ y ∈ x.d,y.size ≤ 1000000):G ext F (n + 6) 51 [s.v,vi now,k.v,vb rM,x.v] = some ([vi (su θ gt s now k rM x).2],[(su θ gt s now k rM x).1.v,vi now,k.v,vb rM,x.v]):=by
 refine dI (cf:=c51) rfl ?_
 have h1:=fun n=>GY (F:=F) (n:=n) T O x hF hq hn hd
 have h2:=fun n=>NC (F:=F) (n:=n) T k hk
 have hu:=fun n t=>yE (ext:=ext) (F:=F) (n:=n) now t
 cases hm2:(wN θ gt x).2 with
 | false =>
  rw [hm2] at h1
  have e:su θ gt s now k rM x = (s,1):=by unfold su;exact ajd (.inl hm2)
  rw [e]
  dsimp only [c51,ay,dh,bA,bK,aG,bJ,dX,eD,dH,aD,cO,dG,bP,aV];simp only [h1,hu,go_sem]
 | true =>
 rw [hm2] at h1
 by_cases hun:fJ now (wN θ gt x).1 = -1
 ·have e:su θ gt s now k rM x = (s,1):=by unfold su;exact ajd (.inr (.inl hun))
  rw [e]
  have hun':decide (fJ now (wN θ gt x).1 = -1) = true:=ajf hun
  dsimp only [c51,ay,dh,bA,bK,aG,bJ,dX,eD,dH,aD,cO,dG,bP,aV];simp only [h1,hu,hun',go_sem]
 have hun':decide (fJ now (wN θ gt x).1 = -1) = false:=ajh hun
 cases ha:θ.ask k with
 | false =>
  have e:su θ gt s now k rM x = (s,1):=by unfold su;exact ajd (.inr (.inr ha))
  rw [e]
  rw [ha] at h2
  dsimp only [c51,ay,dh,bA,bK,aG,bJ,dX,eD,dH,aD,cO,dG,bP,aV];simp only [h1,h2,hu,hun',go_sem]
 | true =>
 rw [ha] at h2
 have hno:¬ ((wN θ gt x).2 = false ∨ fJ now (wN θ gt x).1 = -1 ∨ θ.ask k = false):=by rw [hm2,ha];simp [hun]
 cases hl:mM now (fJ now (wN θ gt x).1) with
 | false =>
  have e:su θ gt s now k rM x = (s,14):=by unfold su;rw [aje hno,ajd hl]
  rw [e]
  dsimp only [c51,ay,dh,bA,bK,aG,bJ,dX,eD,dH,aD,cO,dG,bP,aV];simp only [h1,h2,hu,hun',jH,hl,go_sem]
 | true =>
 have e:su θ gt s now k rM x = (⟨s.room,((D5 s.o (kn rM k) ++ [kn rM k]).take ((D5 s.o (kn rM k) ++ [kn rM k]).length - s.room.toNat)).foldl rid (upd s.m ⟨kn rM k,rM,x,fJ now (wN θ gt x).1⟩),(D5 s.o (kn rM k) ++ [kn rM k]).drop ((D5 s.o (kn rM k) ++ [kn rM k]).length - s.room.toNat),s.ch + 1⟩,0):=by
  unfold su;rw [aje hno,aje (by rw [hl];decide)]
 rw [e]
 have hu':=fun n=>hu n (wN θ gt x).1
 generalize fJ now (wN θ gt x).1 = u at hu' hun' hl ⊢
 have hw:IntKind.i64.wrap (s.ch + 1) = s.ch + 1:=pK (by omega) (by omega)
 have hwh:=fun n=>EU (ext:=ext) (F:=F) (n:=n) k
 have hcl:=fun n=>oo (ext:=ext) (F:=F) (n:=n) C ⟨kn rM k,rM,x,u⟩ hn
 have hqq:=@tX s.o (kn rM k)
 have ht:=fun n=>EP (ext:=ext) (F:=F) (n:=n) C s.o (kn rM k) (by omega) hF
 have hct:=fun n=>Nw (ext:=ext) (F:=F) (n:=n) C (D5 s.o (kn rM k) ++ [kn rM k]) s.room (by simp;omega) (by omega) hF
 have hup:=yH s.m ⟨kn rM k,rM,x,u⟩
 simp only [kq,rN] at hup
 generalize ZA:D5 s.o (kn rM k) ++ [kn rM k] = t at ht hct ⊢
 generalize t.drop (t.length - s.room.toNat) = td at hct ⊢
 generalize htt:t.take (t.length - s.room.toNat) = tt at hct ⊢
 have htl:tt.length ≤ 1000000:=by rw [← htt,ajv,← ZA,ajl,List.length_singleton];omega
 generalize hM:upd s.m ⟨kn rM k,rM,x,u⟩ = M at hup ⊢
 cases rM
 all_goals
  simp only [kn,ajL,ajy,ajF] at hup ht hct hcl
  dsimp only [c51,ay,dh,bA,bK,aG,bJ,dX,eD,dH,aD,cO,dG,bP,aV];simp only [h1,h2,hu',hun',jH,hl,hwh,hcl,ht,hct,hup,hw,go_sem]
  refine mK tt.length (fun i=>⟨[(0,PV.c (CV.one (PL.ptr 20201 0))),(14,PV.c (CV.one (PL.f (FV.sl (List.map rQ td))))),(75,PV.c (CV.one (PL.f (FV.sl (List.map rQ tt))))),(76,PV.c (CV.one (PL.f (FV.int IntKind.i64 ↑(List.map rQ tt).length)))),(77,PV.c (CV.one (PL.f (FV.int IntKind.i64 i))))],[(20201,Ob.fu [PL.f (FV.int IntKind.i64 s.room),PL.mp 20205,PL.f (FV.sl (List.map rQ s.o)),PL.f (FV.int IntKind.i64 s.ch)]),(20205,Ob.map lu (((tt.take i).foldl rid M).map ent))]⟩) (fun _=>True) (by omega) rfl trivial (fun i hi _=>?_) (fun _=>?_)
  ·obtain ⟨k',hx,hlt,hit,h00⟩:=at_ hi
   have hn':=nx hi (by omega)
   have hdl:=yG ((tt.take i).foldl rid M) k'
   have hfo:(tt.take (i + 1)).foldl rid M = rid ((tt.take i).foldl rid M) k':=by rw [aj6,hx,ak3];rfl
   simp only [ajg,ajo,hlt,hx,hit,h00,hn',rQ,hdl,go_sem]
   rw [hfo]
  ·have hd:=@end_ _ tt
   simp only [ajg,hd,hw,aj1,go_sem]
end
end Go.Proofs.YtfokaoeinpnagaaGreat.Kc.Ne
namespace Go.Proofs.YtfokaoeinpnagaaGreat.Ev
open Go
section
variable {Γ : Env} {F s sm:Nat} {ks os k6:List Nat} {g4 g6:List G} {ca cb cc:CC} {cf:CF} {dR:List AV} {nA:List CV} {σ:St} {kk:KV}
def Zb : Out → (Unit → Prop) → (Unit → Prop) → Prop
 | .ret,A,_=>A ()
 | .jf,_,B=>B ()
 | .ext _,_,_=>False
@[go_sem] theorem adR {A B:Unit → Prop}:Zb .ret A B ↔ A ():=ajj
@[go_sem] theorem adS {A B:Unit → Prop}:Zb .jf A B ↔ B ():=ajj
def kB : Option Ob → Option (List KV)
 | some (.map _ ents)=>some (ents.map (·.1))
 | _=>none
def kA (os:List Nat) (ob:List (Nat × Ob)):Option PV → Option (List KV)
 | some (.c (.one (.mp key)))=>if os.contains key then none else kB (get ob key)
 | _=>none
@[go_sem] theorem afV {sh:KS} {ents:List (KV × FC)}:kB (some (.map sh ents)) = some (ents.map (·.1)):=rfl
@[go_sem] theorem Zc : G5 σ os s = kA os σ.ob (get σ.tm s):=rfl
@[go_sem] theorem abe : EW ks os σ = ⟨pick ks σ.tm,pick os σ.ob⟩:=rfl
@[go_sem ↓] theorem ahV {k:List AV × List AV → Prop} {u:Tok k}:W k u (fin cf nA dR σ) ↔ W (fun b=>W (fun l=>W (fun r=>k (r.1,b.1)) ⟨⟩ (mH cf.ro b.2 l)) ⟨⟩ (slots b.2 cf.res)) ⟨⟩ (j4 σ nA dR):=by
 simp only [fin,dQ,aQ,bU]
@[go_sem ↓] theorem adT {k:St → Prop} {u:Tok k}:W k u (Jf Γ F ks os s g6 k6 cb σ kk) ↔ W (fun t=>W (fun p=>p.1 = .jf ∧ k (EW ks os p.2)) ⟨⟩ (ev Γ F cb ⟨pick k6 t.tm,t.ob⟩)) ⟨⟩ (wL Γ false g6 ⟨put σ.tm s (.c (kvC kk)),σ.ob⟩):=by
 simp only [Jf,dQ,aQ]
 refine cZ fun t=>cZ fun p=>?_
 obtain ⟨o,σ'⟩:=p
 cases o <;> simp [jB,bB]
@[go_sem ↓] theorem afW {k:List AV × List AV → Prop} {u:Tok k}:W k u (abd Γ F ca g4 sm ks os s g6 k6 cb cc cf dR) ↔ dR.length = cf.np ∧ W (fun e=>W (fun p=>Zb p.1 (fun _=>W k ⟨⟩ (fin cf e.1 dR p.2)) (fun _=>W (fun t=>W (fun l=>W (fun t=>W (fun q=>(∀ id,q.1 ≠ .ext id) ∧ W k ⟨⟩ (fin cf e.1 dR q.2)) ⟨⟩ (ev Γ F cc t)) ⟨⟩ (UF (Jf Γ F ks os s g6 k6 cb) (EW ks os t) l)) ⟨⟩ (G5 t os sm)) ⟨⟩ (wL Γ false g4 p.2))) ⟨⟩ (ev Γ F ca e.2)) ⟨⟩ (enter cf.bo 0 [] ⟨[],[]⟩ dR):=by
 simp only [abd,dQ,dw,aQ,ne_eq,ajU]
 refine aku ajj (cZ fun e=>cZ fun p=>?_)
 obtain ⟨o,σ'⟩:=p
 cases o with
 | ext i=>simp [jB,Zb]
 | ret=>simp only [Zb]
 | jf =>
  simp only [Zb,aQ]
  refine cZ fun t=>cZ fun l=>cZ fun t'=>cZ fun q=>?_
  obtain ⟨o,σ'⟩:=q
  cases o <;> simp [jB]
end
end Go.Proofs.YtfokaoeinpnagaaGreat.Ev
namespace Go.Proofs.YtfokaoeinpnagaaGreat.Kc.Ne
open Go Ev
variable {ext : Env} {F n:Nat} {θ:Th} {gt:ByteArray → Int → Int → Int × Bool}
end Go.Proofs.YtfokaoeinpnagaaGreat.Kc.Ne
namespace Go.Proofs.YtfokaoeinpnagaaGreat.Kc
section
attribute [local go_sem_proc] Nat.reduceAdd Nat.reduceMul Nat.reduceEqDiff Nat.reduceBEq Nat.reduceMod Nat.reduceDiv reduceCtorEq
attribute [local go_sem_proc ↓] reduceIte
open Go Ev
variable {ext : Env} {F n:Nat} {θ:Th}
def vV (now u:Int):Int:=if mM now u = true then (if 604800 < u - now then 604800 else u - now) else 0
def RF (r:Int):Bool:=decide (3 ≤ r ∧ r ≤ 5)
theorem RG {now u:Int} (h:mM now u = true) (hu:u ≤ 4611686018427387904):IntKind.i64.wrap (u - now) = u - now:=by
 unfold mM Ri at h
 simp only [ajk,ajz] at h
 exact pK (by omega) (by omega)
theorem Jg (now u:Int) (hu:u ≤ 4611686018427387904):G ext F (n + 3) 102 [vi now,vi u] = some ([vi (vV now u)],[vi now,vi u]):=by
 refine dI (cf:=M8) rfl ?_
 cases h:mM now u with
 | false =>
  have e:vV now u = 0:=by unfold vV;rw [h];rfl
  rw [e]
  dsimp only [M8,ay,dh,bA,bK,aG,bJ,dX,eD,dH,aD,cO,dG,bP,aV];simp only [jH,h,go_sem]
 | true =>
  have e:vV now u = if 604800 < u - now then 604800 else u - now:=by unfold vV;rw [h];rfl
  have hw:=RG h hu
  rw [e]
  dsimp only [M8,ay,dh,bA,bK,aG,bJ,dX,eD,dH,aD,cO,dG,bP,aV];simp only [jH,h,hw,go_sem]
theorem EY (r:Int):G ext F (n + 2) 101 [vi r] = some ([vb (RF r)],[vi r]):=by
 refine dI (cf:=Rh) rfl ?_
 dsimp only [Rh,ay,dh,bA,bK,aG,bJ,dX,eD,dH,aD,cO,dG,bP,aV];simp only [GQ,go_sem]
 all_goals (simp [RF])
structure xk where
 s:Se
 left:Int
def Ko : Se:=⟨⟨#[]⟩,0,0,[],0⟩
def qo : xk:=⟨Ko,0⟩
structure Ch where
 hits:List xk
 e:Int
 nm:ByteArray
 Kq:xk
def rH (x:xk):List FV:=[.str x.s.q,.int .i64 x.s.t,.int .i64 x.s.c,.sl (x.s.d.map bC),.int .i64 x.s.ttl,.int .i64 x.left]
abbrev xk.v (x:xk):AV:=.agg [.f (.str x.s.q),.f (.int .i64 x.s.t),.f (.int .i64 x.s.c),.f (.sl (x.s.d.map bC)),.f (.int .i64 x.s.ttl),.f (.int .i64 x.left)]
abbrev Ch.v (x:Ch):AV:=.agg [.f (.sl (x.hits.map rH)),.f (.int .i64 x.e),.f (.str x.nm),.f (.str x.Kq.s.q),.f (.int .i64 x.Kq.s.t),.f (.int .i64 x.Kq.s.c),.f (.sl (x.Kq.s.d.map bC)),.f (.int .i64 x.Kq.s.ttl),.f (.int .i64 x.Kq.left)]
def tl (pk:Qn → It × Bool) (now:Int) (q:Qn):Option xk:=if (pk q).2 = true ∧ RF (pk q).1.r = true then some ⟨⟨(pk q).1.q,(pk q).1.t,(pk q).1.c,(pk q).1.d,(pk q).1.ttl⟩,vV now (pk q).1.u⟩ else none
def tg (nm:Int → ByteArray → List ByteArray) (s:Se):Option ByteArray:=if s.t = 5 then s.d.head?.bind fun d=>(nm 5 d).head? else none
def al (nm:Int → ByteArray → List ByteArray) (pk:Qn → It × Bool) (now:Int) (q:Qn):Option (xk × ByteArray):=if q.t = 5 then none else (tl pk now ⟨q.q,5,q.c⟩).bind fun h=>(tg nm h.s).map fun ZZ8=>(h,ZZ8)
def fin (fd:Qn → Ne.Nt × Bool) (now:Int) (hits:List xk) (q:Qn):Ch:=if (fd q).2 = true then ⟨hits,if (fd q).1.nx = true then 2 else 1,q.q,⟨(fd q).1.s,vV now (fd q).1.u⟩⟩ else ⟨hits,3,q.q,qo⟩
def EZ (nm:Int → ByteArray → List ByteArray) (pk:Qn → It × Bool) (fd:Qn → Ne.Nt × Bool) (now:Int):Nat → List ByteArray → List xk → Qn → Ch
 | 0,_,hits,q=>⟨hits,4,q.q,qo⟩
 | f + 1,met,hits,q=>match tl pk now q with
  | some h=>⟨hits ++ [h],0,q.q,qo⟩
  | none=>match al nm pk now q with
   | none=>fin fd now hits q
   | some (h,ZZ8)=>if 8 ≤ hits.length ∨ uP met ZZ8 = true then ⟨hits ++ [h],4,q.q,qo⟩ else EZ nm pk fd now f (met ++ [ZZ8]) (hits ++ [h]) ⟨ZZ8,q.t,q.c⟩
def Aa (nm:Int → ByteArray → List ByteArray) (pk:Qn → It × Bool) (fd:Qn → Ne.Nt × Bool) (now:Int) (q:Qn):Ch:=EZ nm pk fd now 9 [q.q] [] q
end
section
attribute [local go_sem_proc] Nat.reduceAdd Nat.reduceMul Nat.reduceEqDiff Nat.reduceBEq Nat.reduceMod Nat.reduceDiv reduceCtorEq
attribute [local go_sem_proc ↓] reduceIte
open Go Ev
variable {ext : Env} {F n:Nat} {θ:Th} {nm:Int → ByteArray → List ByteArray}
structure yJ (r:Bool) (nm:Int → ByteArray → List ByteArray) (ext:Env):Prop where
 n0:∀ k q,q.size ≤ 1000000 → ext 81 [vi k,vs q] = some ([vl ((nm k q).map bC)],[vi k,vs q])
 n1:r = true → ∀ k q,q.size ≤ 1000000 → ext 105 [vi k,vs q] = some ([vl ((nm k q).map bC)],[vi k,vs q])
theorem UG {rm:Bool} (M:yJ rm nm ext) (k:Int) (q:ByteArray) (h:q.size ≤ 1000000):G ext F (n + 1) 81 [vi k,vs q] = some ([vl ((nm k q).map bC)],[vi k,vs q]):=(ajR (iB rfl) _).trans (M.n0 k q h)
def G6 (nm:Int → ByteArray → List ByteArray) (s:Se):ByteArray × Bool:=match tg nm s with
 | some x=>(x,true)
 | none=>(⟨#[]⟩,false)
theorem UH {s:Se} (h:s.t ≠ 5):G6 nm s = (⟨#[]⟩,false):=by unfold G6 tg;rw [aje h]
theorem Xe {s:Se} (h:s.d = []):G6 nm s = (⟨#[]⟩,false):=by unfold G6 tg;rw [h];by_cases h5:s.t = 5 <;> simp [h5]
theorem RH {s:Se} {y:ByteArray} {d:List ByteArray} (h5:s.t = 5) (h:s.d = y :: d) (hn:nm 5 y = []):G6 nm s = (⟨#[]⟩,false):=by unfold G6 tg;rw [ajd h5,h];show (match ((nm 5 y).head?:Option ByteArray) with | some x=>(x,true) | none=>(⟨#[]⟩,false)) = _;rw [hn];rfl
theorem RI {s:Se} {y z:ByteArray} {d l:List ByteArray} (h5:s.t = 5) (h:s.d = y :: d) (hn:nm 5 y = z :: l):G6 nm s = (z,true):=by unfold G6 tg;rw [ajd h5,h];show (match ((nm 5 y).head?:Option ByteArray) with | some x=>(x,true) | none=>(⟨#[]⟩,false)) = _;rw [hn];rfl
theorem Kr {rm:Bool} (M:yJ rm nm ext) (s:Se) (hd:∀ y ∈ s.d,y.size ≤ 1000000):G ext F (n + 2) 47 [s.v] = some ([vs (G6 nm s).1,vb (G6 nm s).2],[s.v]):=by
 refine dI (cf:=WW) rfl ?_
 by_cases h5:s.t = 5
 ·have h5':decide (s.t = 5) = true:=ajf h5
  cases hy:s.d with
  | nil =>
   rw [Xe hy]
   simp only [Se.v,tQ,hy,ajs]
   dsimp only [WW,ay,dh,bA,bK,aG,bJ,dX,eD,dH,aD,cO,dG,bP,aV];simp only [h5',List.length_nil,show decide (((0:Nat):Int) = 0) = true from rfl,go_sem]
   simp [hy]
  | cons y ds =>
   have hlen:decide ((((List.map bC ds).length + 1:Nat):Int) = 0) = false:=by simp;omega
   have h1:=fun n=>UG (F:=F) (n:=n) M 5 y (hd y (by rw [hy];simp))
   cases hz:nm 5 y with
   | nil =>
    rw [RH h5 hy hz]
    rw [hz] at h1
    simp only [Se.v,tQ,hy,ajp,ajs,bC] at h1 ⊢
    dsimp only [WW,ay,dh,bA,bK,aG,bJ,dX,eD,dH,aD,cO,dG,bP,aV];simp only [h5',hlen,h1,List.getElem?_cons_zero,Int.toNat_zero,List.length_nil,show decide (((0:Nat):Int) = 0) = true from rfl,go_sem]
    exact ⟨aj7 _,by simp [hy,bC]⟩
   | cons z zs =>
    rw [RI h5 hy hz]
    rw [hz] at h1
    have abf:decide ((((List.map bC zs).length + 1:Nat):Int) = 0) = false:=by simp;omega
    simp only [Se.v,tQ,hy,ajp,bC] at h1 ⊢
    dsimp only [WW,ay,dh,bA,bK,aG,bJ,dX,eD,dH,aD,cO,dG,bP,aV];simp only [h5',hlen,abf,h1,List.getElem?_cons_zero,Int.toNat_zero,go_sem]
    exact ⟨aj7 _,aj7 _,by simp [hy,bC]⟩
 ·have h5':decide (s.t = 5) = false:=ajh h5
  rw [UH h5]
  dsimp only [WW,ay,dh,bA,bK,aG,bJ,dX,eD,dH,aD,cO,dG,bP,aV];simp only [h5',go_sem]
abbrev Sv.tv (s:Sv):TV:=.ptr [.f (.int .i64 s.room),.mp lu (s.m.map ent),.f (.sl (s.o.map rQ)),.f (.int .i64 s.ch)]
abbrev nvt (s:Ne.Nv):TV:=.ptr [.f (.int .i64 s.room),.mp Ne.lu (s.m.map Ne.ent),.f (.sl (s.o.map rQ)),.f (.int .i64 s.ch)]
abbrev Zd (s:Sv) (m:Ne.Nv) (now:Int):AV:=.agg [s.tv,nvt m,.f (.int .i64 now)]
def Jh (pk:Qn → It × Bool) (now:Int) (q:Qn):xk × Bool:=match tl pk now q with
 | some h=>(h,true)
 | none=>(qo,false)
theorem E5 (C:lZ ext) (s:Sv) (m:Ne.Nv) (now:Int) (q:Qn) (hd:∀ x ∈ s.m,x.d.length ≤ 1000000) (hu:∀ x ∈ s.m,x.u ≤ 4611686018427387904):G ext F (n + 4) 56 [Zd s m now,q.v] = some ([(Jh (bH s now) now q).1.v,vb (Jh (bH s now) now q).2],[Zd s m now,q.v]):=by
 refine dI (cf:=Za) rfl ?_
 have h1:=fun n=>Jc (ext:=ext) (F:=F) (n:=n) C s now q hd
 have hlu:=fun n=>Jg (ext:=ext) (F:=F) (n:=n) now (bH s now q).1.u (by
  unfold bH
  split
  ·rename_i x ho
   split
   ·exact hu x (l5 ho).2
   ·show (0:Int) ≤ _;omega
  ·show (0:Int) ≤ _;omega)
 unfold Jh tl
 cases hv:(bH s now q).2 with
 | false =>
  rw [hv] at h1
  dsimp only [Za,ay,dh,bA,bK,aG,bJ,dX,eD,dH,aD,cO,dG,bP,aV];simp only [h1,go_sem]
  rfl
 | true =>
  rw [hv] at h1
  cases ht:RF (bH s now q).1.r with
  | false =>
   dsimp only [Za,ay,dh,bA,bK,aG,bJ,dX,eD,dH,aD,cO,dG,bP,aV];simp only [h1,EY,ht,go_sem]
   rfl
  | true =>
   dsimp only [Za,ay,dh,bA,bK,aG,bJ,dX,eD,dH,aD,cO,dG,bP,aV];simp only [h1,EY,ht,hlu,go_sem]
def UJ (nm:Int → ByteArray → List ByteArray) (pk:Qn → It × Bool) (now:Int) (q:Qn):xk × (ByteArray × Bool):=if q.t = 5 then (qo,(⟨#[]⟩,false)) else ((Jh pk now ⟨q.q,5,q.c⟩).1,G6 nm (Jh pk now ⟨q.q,5,q.c⟩).1.s)
theorem NJ {rm:Bool} (M:yJ rm nm ext) (C:lZ ext) (s:Sv) (m:Ne.Nv) (now:Int) (q:Qn) (hd:∀ x ∈ s.m,x.d.length ≤ 1000000) (hu:∀ x ∈ s.m,x.u ≤ 4611686018427387904) (hy:∀ x ∈ s.m,∀ y ∈ x.d,y.size ≤ 1000000):G ext F (n + 5) 57 [Zd s m now,q.v] = some ([(UJ nm (bH s now) now q).1.v,vs (UJ nm (bH s now) now q).2.1,vb (UJ nm (bH s now) now q).2.2],[Zd s m now,q.v]):=by
 refine dI (cf:=c57) rfl ?_
 have h1:=fun n=>E5 (F:=F) (n:=n) C s m now ⟨q.q,5,q.c⟩ hd hu
 have hsz:∀ y ∈ (Jh (bH s now) now ⟨q.q,5,q.c⟩).1.s.d,y.size ≤ 1000000:=by
  have h0:∀ y ∈ (bH s now ⟨q.q,5,q.c⟩).1.d,y.size ≤ 1000000:=by
   unfold bH
   split
   ·rename_i x ho
    split
    ·exact hy x (l5 ho).2
    ·intro y h;cases h
   ·intro y h;cases h
  unfold Jh tl
  split
  ·rename_i h he
   split at he
   ·cases he;exact h0
   ·cases he
  ·intro y h;cases h
 have h2:=fun n=>Kr (F:=F) (n:=n) M (Jh (bH s now) now ⟨q.q,5,q.c⟩).1.s hsz
 unfold UJ
 by_cases h5:q.t = 5
 ·have h5':decide (q.t = 5) = true:=ajf h5
  rw [ajd h5]
  dsimp only [c57,ay,dh,bA,bK,aG,bJ,dX,eD,dH,aD,cO,dG,bP,aV];simp only [h5',go_sem]
  try rfl
 ·have h5':decide (q.t = 5) = false:=ajh h5
  rw [aje h5]
  dsimp only [c57,ay,dh,bA,bK,aG,bJ,dX,eD,dH,aD,cO,dG,bP,aV];simp only [h5',h1,h2,go_sem]
  try rfl
def NK (fd:Qn → Ne.Nt × Bool) (now:Int) (c:Ch) (q:Qn):Ch:=if (fd q).2 = true then ⟨c.hits,if (fd q).1.nx = true then 2 else 1,c.nm,⟨(fd q).1.s,vV now (fd q).1.u⟩⟩ else ⟨c.hits,3,c.nm,c.Kq⟩
theorem RJ (C:lZ ext) (s:Sv) (m:Ne.Nv) (now:Int) (c:Ch) (q:Qn) (hF:200000000000001 ≤ F) (hd:∀ x ∈ m.m,x.s.d.length ≤ 1000000) (hu:∀ x ∈ m.m,x.u ≤ 4611686018427387904):G ext F (n + 4) 58 [Zd s m now,c.v,q.v] = some ([(NK (Ne.gH m now) now c q).v],[Zd s m now,c.v,q.v]):=by
 refine dI (cf:=c58) rfl ?_
 have h1:=fun n=>Ne.NG (F:=F) (n:=n) C m now q hF hd
 have hlu:=fun n=>Jg (ext:=ext) (F:=F) (n:=n) now (Ne.gH m now q).1.u (by
  have h9:∀ b y,Ne.nof m.m now b = some y → y.u ≤ 4611686018427387904:=fun b y hy=>by
   unfold Ne.nof at hy
   split at hy
   ·rename_i y' ho
    split at hy
    ·cases hy;exact hu _ (Ne.l5 ho).2
    ·cases hy
   ·cases hy
  unfold Ne.gH
  split
  ·rename_i y hy;exact h9 _ _ hy
  ·unfold Ne.ofR
   split
   ·rename_i y hy;exact h9 _ _ hy
   ·show (0:Int) ≤ _;omega)
 unfold NK
 cases hv:(Ne.gH m now q).2 with
 | false =>
  rw [hv] at h1
  dsimp only [c58,ay,dh,bA,bK,aG,bJ,dX,eD,dH,aD,cO,dG,bP,aV];simp only [h1,go_sem]
  try rfl
 | true =>
  rw [hv] at h1
  cases hx:(Ne.gH m now q).1.nx
  all_goals
   dsimp only [c58,ay,dh,bA,bK,aG,bJ,dX,eD,dH,aD,cO,dG,bP,aV];simp only [h1,hx,hlu,go_sem]
   try rfl
end
section
attribute [local go_sem_proc] Nat.reduceAdd Nat.reduceMul Nat.reduceEqDiff Nat.reduceBEq Nat.reduceMod Nat.reduceDiv reduceCtorEq
attribute [local go_sem_proc ↓] reduceIte
open Go Ev
variable {ext : Env} {F n:Nat} {θ:Th} {nm:Int → ByteArray → List ByteArray}
abbrev xk.k (x:xk):Qn:=⟨x.s.q,x.s.t,x.s.c⟩
def vv (l:List ByteArray):List (KV × FC):=l.map fun s=>(.one (.str s),.one (.int .i64 1))
theorem Ji (l:List ByteArray) (s:ByteArray):xH (vv l) (.one (.str s)) = l.findIdx? fun x=>decide (x = s):=by
 unfold xH vv
 rw [akz,List.findIdx?_map]
 refine ajH (fun p=>List.findIdx? p l) (funext fun x=>?_)
 simp only [Function.comp,KV.one.injEq,SV.str.injEq]
theorem NM {l:List ByteArray} {s:ByteArray} (h:uP l s = false):sK (vv l) (.one (.str s)) = none ∧ xI (vv l) (.one (.str s)) (.one (.int .i64 1)) = vv (l ++ [s]):=by
 have:l.findIdx? (fun x=>decide (x = s)) = none:=by
  refine akM.mpr fun x hx=>?_
  unfold uP at h
  have:=List.any_eq_false.mp h x hx
  simpa using this
 unfold sK xI
 rw [Ji,this]
 exact ⟨rfl,by simp [vv]⟩
theorem RL {l:List ByteArray} {s:ByteArray} (h:uP l s = true):sK (vv l) (.one (.str s)) = some (.one (.int .i64 1)):=by
 unfold sK
 rw [Ji]
 cases hi:l.findIdx? (fun x=>decide (x = s)) with
 | none =>
  have h1:=akM.mp hi
  unfold uP at h
  obtain ⟨x,hx,he⟩:=ake.mp h
  have:=h1 x hx
  rw [he] at this;cases this
 | some i =>
  obtain ⟨hi', -⟩:=aky.mp hi
  show ((vv l)[i]?.map fun p=>p.2) = _
  unfold vv
  rw [ajo,ajt hi']
  rfl
theorem RN {pk:Qn → It × Bool} {now:Int} {q:Qn} (h:al nm pk now q = none):(UJ nm pk now q).2.2 = false:=by
 unfold al at h
 unfold UJ
 split
 ·rfl
 ·rename_i h5
  rw [aje h5] at h
  unfold Jh
  cases ht:tl pk now ⟨q.q,5,q.c⟩ with
  | none=>exact ajH Prod.snd (UH (nm:=nm) (s:=qo.s) (by decide))
  | some x =>
   rw [ht] at h
   show (G6 nm x.s).2 = false
   unfold G6
   cases hg:tg nm x.s with
   | none=>rfl
   | some ZZ8=>rw [Option.bind_some,hg] at h;cases h
theorem RO {pk:Qn → It × Bool} {now:Int} {q:Qn} {x:xk} {ZZ8:ByteArray} (h:al nm pk now q = some (x,ZZ8)):UJ nm pk now q = (x,(ZZ8,true)):=by
 unfold al at h
 unfold UJ
 split at h
 ·cases h
 ·rename_i h5
  rw [aje h5]
  obtain ⟨y,h1,h2⟩:=zbm h
  obtain ⟨z,h3,h4⟩:=zmm h2
  cases h4
  unfold Jh
  rw [h1]
  show (x,G6 nm x.s) = _
  unfold G6
  rw [h3]
theorem RP {fd:Qn → Ne.Nt × Bool} {now:Int} {hits:List xk} {q:Qn}:NK fd now ⟨hits,0,q.q,qo⟩ q = fin fd now hits q:=by
 unfold NK fin;rfl
def fT (s:Sv) (m:Ne.Nv) (now:Int) (M:List ByteArray) (hits:List xk) (pn:ByteArray) (q:Qn):St:=match hits with
 | []=>⟨[(7,PV.c (CV.one (PL.ptr 160000 0))),(8,PV.c (CV.one (PL.ptr 180000 0))),(9,PV.c (CV.one (PL.ptr 200000 0))),(10,PV.c (CV.one (PL.ptr 220000 0))),(11,PV.c (CV.one (PL.mp 440000)))],[(20201,Ob.fu [PL.f (FV.int IntKind.i64 s.room),PL.mp 20205,PL.f (FV.sl (List.map rQ s.o)),PL.f (FV.int IntKind.i64 s.ch)]),(20205,Ob.map lu (List.map ent s.m)),(40201,Ob.fu [PL.f (FV.int IntKind.i64 m.room),PL.mp 40205,PL.f (FV.sl (List.map rQ m.o)),PL.f (FV.int IntKind.i64 m.ch)]),(40205,Ob.map Ne.lu (List.map Ne.ent m.m)),(160000,Ob.fu [PL.f (FV.str q.q),PL.f (FV.int IntKind.i64 q.t),PL.f (FV.int IntKind.i64 q.c)]),(180000,Ob.fu [PL.bY,PL.f (FV.int IntKind.i64 0),PL.f (FV.str ⟨#[]⟩),PL.f (FV.str ⟨#[]⟩),PL.f (FV.int IntKind.i64 0),PL.f (FV.int IntKind.i64 0),PL.bY,PL.f (FV.int IntKind.i64 0),PL.f (FV.int IntKind.i64 0)]),(200000,Ob.fu [PL.ptr 20201 0,PL.ptr 40201 0,PL.f (FV.int IntKind.i64 now)]),(220000,Ob.fu [PL.bY,PL.f (FV.int IntKind.i64 0),PL.f (FV.str pn),PL.f (FV.str ⟨#[]⟩),PL.f (FV.int IntKind.i64 0),PL.f (FV.int IntKind.i64 0),PL.bY,PL.f (FV.int IntKind.i64 0),PL.f (FV.int IntKind.i64 0)]),(440000,Ob.map (KS.one SK.str) (vv M))]⟩
 | _=>⟨[(7,PV.c (CV.one (PL.ptr 160000 0))),(8,PV.c (CV.one (PL.ptr 180000 0))),(9,PV.c (CV.one (PL.ptr 200000 0))),(10,PV.c (CV.one (PL.ptr 220000 0))),(11,PV.c (CV.one (PL.mp 440000)))],[(20201,Ob.fu [PL.f (FV.int IntKind.i64 s.room),PL.mp 690004,PL.f (FV.sl (List.map rQ s.o)),PL.f (FV.int IntKind.i64 s.ch)]),(40201,Ob.fu [PL.f (FV.int IntKind.i64 m.room),PL.mp 690204,PL.f (FV.sl (List.map rQ m.o)),PL.f (FV.int IntKind.i64 m.ch)]),(160000,Ob.fu [PL.f (FV.str q.q),PL.f (FV.int IntKind.i64 q.t),PL.f (FV.int IntKind.i64 q.c)]),(180000,Ob.fu [PL.bY,PL.f (FV.int IntKind.i64 0),PL.f (FV.str ⟨#[]⟩),PL.f (FV.str ⟨#[]⟩),PL.f (FV.int IntKind.i64 0),PL.f (FV.int IntKind.i64 0),PL.bY,PL.f (FV.int IntKind.i64 0),PL.f (FV.int IntKind.i64 0)]),(200000,Ob.fu [PL.ptr 20201 0,PL.ptr 40201 0,PL.f (FV.int IntKind.i64 now)]),(220000,Ob.fu [PL.own 1240000 (hits.map rH).length,PL.f (FV.int IntKind.i64 0),PL.f (FV.str pn),PL.f (FV.str ⟨#[]⟩),PL.f (FV.int IntKind.i64 0),PL.f (FV.int IntKind.i64 0),PL.bY,PL.f (FV.int IntKind.i64 0),PL.f (FV.int IntKind.i64 0)]),(440000,Ob.map (KS.one SK.str) (vv M)),(690004,Ob.map lu (List.map ent s.m)),(690204,Ob.map Ne.lu (List.map Ne.ent m.m)),(1240000,.row 6 (hits.map rH))]⟩
theorem Db (s:Sv) (m:Ne.Nv) (now:Int) (M:List ByteArray) (pn:ByteArray) (q:Qn):fT s m now M [] pn q = ⟨[(7,PV.c (CV.one (PL.ptr 160000 0))),(8,PV.c (CV.one (PL.ptr 180000 0))),(9,PV.c (CV.one (PL.ptr 200000 0))),(10,PV.c (CV.one (PL.ptr 220000 0))),(11,PV.c (CV.one (PL.mp 440000)))],[(20201,Ob.fu [PL.f (FV.int IntKind.i64 s.room),PL.mp 20205,PL.f (FV.sl (List.map rQ s.o)),PL.f (FV.int IntKind.i64 s.ch)]),(20205,Ob.map lu (List.map ent s.m)),(40201,Ob.fu [PL.f (FV.int IntKind.i64 m.room),PL.mp 40205,PL.f (FV.sl (List.map rQ m.o)),PL.f (FV.int IntKind.i64 m.ch)]),(40205,Ob.map Ne.lu (List.map Ne.ent m.m)),(160000,Ob.fu [PL.f (FV.str q.q),PL.f (FV.int IntKind.i64 q.t),PL.f (FV.int IntKind.i64 q.c)]),(180000,Ob.fu [PL.bY,PL.f (FV.int IntKind.i64 0),PL.f (FV.str ⟨#[]⟩),PL.f (FV.str ⟨#[]⟩),PL.f (FV.int IntKind.i64 0),PL.f (FV.int IntKind.i64 0),PL.bY,PL.f (FV.int IntKind.i64 0),PL.f (FV.int IntKind.i64 0)]),(200000,Ob.fu [PL.ptr 20201 0,PL.ptr 40201 0,PL.f (FV.int IntKind.i64 now)]),(220000,Ob.fu [PL.bY,PL.f (FV.int IntKind.i64 0),PL.f (FV.str pn),PL.f (FV.str ⟨#[]⟩),PL.f (FV.int IntKind.i64 0),PL.f (FV.int IntKind.i64 0),PL.bY,PL.f (FV.int IntKind.i64 0),PL.f (FV.int IntKind.i64 0)]),(440000,Ob.map (KS.one SK.str) (vv M))]⟩:=rfl
theorem qI (s:Sv) (m:Ne.Nv) (now:Int) (M:List ByteArray) (hits:List xk) (pn:ByteArray) (q:Qn) (h:hits ≠ []):fT s m now M hits pn q = ⟨[(7,PV.c (CV.one (PL.ptr 160000 0))),(8,PV.c (CV.one (PL.ptr 180000 0))),(9,PV.c (CV.one (PL.ptr 200000 0))),(10,PV.c (CV.one (PL.ptr 220000 0))),(11,PV.c (CV.one (PL.mp 440000)))],[(20201,Ob.fu [PL.f (FV.int IntKind.i64 s.room),PL.mp 690004,PL.f (FV.sl (List.map rQ s.o)),PL.f (FV.int IntKind.i64 s.ch)]),(40201,Ob.fu [PL.f (FV.int IntKind.i64 m.room),PL.mp 690204,PL.f (FV.sl (List.map rQ m.o)),PL.f (FV.int IntKind.i64 m.ch)]),(160000,Ob.fu [PL.f (FV.str q.q),PL.f (FV.int IntKind.i64 q.t),PL.f (FV.int IntKind.i64 q.c)]),(180000,Ob.fu [PL.bY,PL.f (FV.int IntKind.i64 0),PL.f (FV.str ⟨#[]⟩),PL.f (FV.str ⟨#[]⟩),PL.f (FV.int IntKind.i64 0),PL.f (FV.int IntKind.i64 0),PL.bY,PL.f (FV.int IntKind.i64 0),PL.f (FV.int IntKind.i64 0)]),(200000,Ob.fu [PL.ptr 20201 0,PL.ptr 40201 0,PL.f (FV.int IntKind.i64 now)]),(220000,Ob.fu [PL.own 1240000 (hits.map rH).length,PL.f (FV.int IntKind.i64 0),PL.f (FV.str pn),PL.f (FV.str ⟨#[]⟩),PL.f (FV.int IntKind.i64 0),PL.f (FV.int IntKind.i64 0),PL.bY,PL.f (FV.int IntKind.i64 0),PL.f (FV.int IntKind.i64 0)]),(440000,Ob.map (KS.one SK.str) (vv M)),(690004,Ob.map lu (List.map ent s.m)),(690204,Ob.map Ne.lu (List.map Ne.ent m.m)),(1240000,.row 6 (hits.map rH))]⟩:=by
 cases hits with
 | nil=>exact absurd rfl h
 | cons a l=>rfl
theorem E8 (hits:List xk):hits = [] ∨ hits ≠ []:=by cases hits <;> simp
theorem Kt {rm:Bool} (O:yJ rm nm ext) (C:lZ ext) (hF:200000000000001 ≤ F) (s:Sv) (m:Ne.Nv) (now:Int) (q:Qn) (hd:∀ x ∈ s.m,x.d.length ≤ 1000000) (hu:∀ x ∈ s.m,x.u ≤ 4611686018427387904) (hy:∀ x ∈ s.m,∀ y ∈ x.d,y.size ≤ 1000000) (hd2:∀ x ∈ m.m,x.s.d.length ≤ 1000000) (hu2:∀ x ∈ m.m,x.u ≤ 4611686018427387904) :
  G ext F (n + 6) 14 [s.v,m.v,vi now,q.v] = some ([(Aa nm (bH s now) (Ne.gH m now) now q).v],[s.v,m.v,vi now,q.v]):=by
 refine dI (cf:=c14) rfl ?_
 generalize hres:Aa nm (bH s now) (Ne.gH m now) now q = R
 dsimp only [c14,ay,dh,bA,bK,aG,bJ,dX,eD,dH,aD,cO,dG,bP,aV];simp only [go_sem]
 refine rJ 9 (fun x:List ByteArray × List xk × ByteArray × ByteArray=>fT s m now x.1 x.2.1 x.2.2.1 ⟨x.2.2.2,q.t,q.c⟩) (fun i x=>x.2.1.length = i ∧ i < 9 ∧ uP x.1 x.2.2.2 = false ∧ EZ nm (bH s now) (Ne.gH m now) now (9 - i) (x.1 ++ [x.2.2.2]) x.2.1 ⟨x.2.2.2,q.t,q.c⟩ = R) (by omega) ([],[],⟨#[]⟩,q.q) rfl ⟨rfl,by omega,rfl,hres⟩ (fun i x hi hP=>?_) (fun x hP=>absurd hP.2.1 (by omega))
 obtain ⟨M,hits,pn,Bg⟩:=x
 obtain ⟨hlen, -,hm,hf⟩:=hP
 simp only at hlen hm hf ⊢
 obtain ⟨f,hf9⟩:∃ f,9 - i = f + 1:=⟨8 - i,by omega⟩
 rw [hf9] at hf
 obtain ⟨k1,k2⟩:=NM hm
 have hw1:IntKind.i64.wrap (0 + 1) = 1:=by decide
 have t1:=fun n=>E5 (F:=F) (n:=n) C s m now ⟨Bg,q.t,q.c⟩ hd hu
 have a1:=fun n=>NJ (F:=F) (n:=n) O C s m now ⟨Bg,q.t,q.c⟩ hd hu hy
 have e1:=fun n=>RJ (F:=F) (n:=n) C s m now ⟨hits,0,Bg,qo⟩ ⟨Bg,q.t,q.c⟩ hF hd2 hu2
 rw [show NK (Ne.gH m now) now ⟨hits,0,Bg,qo⟩ ⟨Bg,q.t,q.c⟩ = fin (Ne.gH m now) now hits ⟨Bg,q.t,q.c⟩ from RP (q:=⟨Bg,q.t,q.c⟩)] at e1
 simp only [Ch.v,qo,Ko,ajs] at e1
 unfold EZ at hf
 have hsz:(((hits.map rH).length:Nat) + 1) * 72 ≤ 140737488355328:=by rw [ajg];omega
 cases h1:tl (bH s now) now ⟨Bg,q.t,q.c⟩ with
 | some h =>
  have et:Jh (bH s now) now ⟨Bg,q.t,q.c⟩ = (h,true):=by unfold Jh;rw [h1]
  rw [et] at t1
  rw [h1] at hf
  subst hf
  rcases E8 hits with rfl | g1
  ·rw [Db]
   simp only [k1,k2,hw1,t1,Option.getD_none,go_sem]
   exact ⟨by decide,rfl⟩
  ·rw [qI _ _ _ _ _ _ _ g1]
   simp only [k1,k2,hw1,t1,Option.getD_none,hsz,go_sem]
   simp [rH,qo,Ko]
 | none =>
  have et:Jh (bH s now) now ⟨Bg,q.t,q.c⟩ = (qo,false):=by unfold Jh;rw [h1]
  rw [et] at t1
  rw [h1] at hf
  simp only [qo,Ko,ajs] at t1
  cases h2:al nm (bH s now) now ⟨Bg,q.t,q.c⟩ with
  | none =>
   have ea:=RN h2
   rw [h2] at hf
   subst hf
   rw [ea] at a1
   rcases E8 hits with rfl | g1
   ·rw [Db]
    simp only [ajs] at e1
    simp only [k1,k2,hw1,t1,a1,e1,Option.getD_none,go_sem]
   ·rw [qI _ _ _ _ _ _ _ g1]
    simp only [k1,k2,hw1,t1,a1,e1,Option.getD_none,go_sem]
  | some p =>
   obtain ⟨h,ZZ8⟩:=p
   rw [RO h2] at a1
   rw [h2] at hf
   simp only at hf
   have hml:((hits ++ [h]).map rH) = hits.map rH ++ [[FV.str h.s.q,FV.int IntKind.i64 h.s.t,FV.int IntKind.i64 h.s.c,FV.sl (List.map bC h.s.d),FV.int IntKind.i64 h.s.ttl,FV.int IntKind.i64 h.left]]:=by simp [rH]
   have hll:(hits.map rH).length = hits.length:=ajg _
   by_cases h8:8 ≤ hits.length
   ·rw [ajd (.inl h8)] at hf
    subst hf
    have c8:decide ((8:Int) < (((hits.map rH).length + 1:Nat):Int)) = true:=ajf (by omega)
    rcases E8 hits with rfl | g1
    ·simp at h8
    ·rw [qI _ _ _ _ _ _ _ g1]
     simp only [k1,k2,hw1,t1,a1,Option.getD_none,hsz,c8,go_sem]
     simp [rH,qo,Ko]
   ·have c8:decide ((8:Int) < (((hits.map rH).length + 1:Nat):Int)) = false:=ajh (by omega)
    have c8':decide ((8:Int) < ((0 + 1:Nat):Int)) = false:=by decide
    have z1:decide ((0:Int) < 1) = true:=by decide
    have z0:decide ((0:Int) < 0) = false:=by decide
    cases hin:uP (M ++ [Bg]) ZZ8 with
    | true =>
     rw [ajd (.inr hin)] at hf
     subst hf
     have y1:=RL hin
     rcases E8 hits with rfl | g1
     ·rw [Db]
      simp only [k1,k2,hw1,t1,a1,Option.getD_none,Option.getD_some,hsz,c8',y1,z1,List.length_cons,List.length_nil,go_sem]
      exact ⟨by decide,rfl⟩
     ·rw [qI _ _ _ _ _ _ _ g1]
      simp only [k1,k2,hw1,t1,a1,Option.getD_none,Option.getD_some,hsz,c8,y1,z1,go_sem]
      simp [rH,qo,Ko]
    | false =>
     rw [aje (by rw [hin];simp;omega)] at hf
     have y1:=(NM hin).1
     have hnext:(hits ++ [h]).length = i + 1 ∧ i + 1 < 9 ∧ uP (M ++ [Bg]) ZZ8 = false ∧ EZ nm (bH s now) (Ne.gH m now) now (9 - (i + 1)) (M ++ [Bg] ++ [ZZ8]) (hits ++ [h]) ⟨ZZ8,q.t,q.c⟩ = R:=⟨by simp;omega,by omega,hin,by rw [show 9 - (i + 1) = f from by omega];exact hf⟩
     have g3:=fun pn' q'=>qI s m now (M ++ [Bg]) (hits ++ [h]) pn' q' (by simp)
     rcases E8 hits with rfl | g1
     ·rw [Db]
      simp only [k1,k2,hw1,t1,a1,Option.getD_none,Option.getD_some,hsz,c8',y1,z0,List.length_cons,List.length_nil,go_sem]
      exact ⟨by decide,(M ++ [Bg],[] ++ [h],Bg,ZZ8),by rw [g3];rfl,hnext⟩
     ·rw [qI _ _ _ _ _ _ _ g1]
      simp only [k1,k2,hw1,t1,a1,Option.getD_none,Option.getD_some,hsz,c8,y1,z0,go_sem]
      exact ⟨(M ++ [Bg],hits ++ [h],Bg,ZZ8),by rw [g3,hml];simp,hnext⟩
end
section
open Go Ev
variable {θ : Th} {gt:ByteArray → Int → Int → Int × Bool}
structure Pt where
 now:Int
 s:Se
 r:Int
 k:Qn
def rP (x:Pt):List FV:=[.int .i64 x.now,.str x.s.q,.int .i64 x.s.t,.int .i64 x.s.c,.sl (x.s.d.map bC),.int .i64 x.s.ttl,.int .i64 x.r,.str x.k.q,.int .i64 x.k.t,.int .i64 x.k.c]
abbrev Pt.v (x:Pt):AV:=.agg [.f (.int .i64 x.now),.f (.str x.s.q),.f (.int .i64 x.s.t),.f (.int .i64 x.s.c),.f (.sl (x.s.d.map bC)),.f (.int .i64 x.s.ttl),.f (.int .i64 x.r),.f (.str x.k.q),.f (.int .i64 x.k.t),.f (.int .i64 x.k.c)]
def s50 : Sv:=⟨50,[],[],0⟩
def m50 : Ne.Nv:=⟨50,[],[],0⟩
def rO (θ:Th) (gt:ByteArray → Int → Int → Int × Bool) (a:Sv × Ne.Nv) (p:Pt):Sv × Ne.Nv:=if 0 < p.r then ((u7 θ a.1 p.now p.s p.r).1,a.2) else (a.1,(Ne.su θ gt a.2 p.now p.k (decide (p.r < 0)) p.s).1)
def nC (θ:Th) (gt:ByteArray → Int → Int → Int × Bool) (l:List Pt):Sv × Ne.Nv:=l.foldl (rO θ gt) (s50,m50)
theorem yK {l:List Pt} {p:Pt} {i:Nat} (h:l[i]? = some p):nC θ gt (l.take (i + 1)) = rO θ gt (nC θ gt (l.take i)) p:=by
 unfold nC;rw [aj6,h,ak3];rfl
theorem vB : ∀ {g:List Qn} {l:List It},(g.foldl rid l).Sublist l
 | [],l=>akV _
 | a :: g,l=>(vB (g:=g)).trans tY
theorem NP {l:List It} {x:It}:(upd l x).length ≤ l.length + 1:=by
 rcases sj l x with ⟨-,hu⟩ | ⟨a,y,c,rfl, -, -,hu⟩ <;> rw [hu] <;> simp
theorem NQ {l:List It} {x y:It} (h:y ∈ upd l x):y = x ∨ y ∈ l:=by
 rcases sj l x with ⟨-,hu⟩ | ⟨a,z,c,rfl, -, -,hu⟩ <;> rw [hu] at h <;> simp at h ⊢
 ·rcases h with h | h <;> simp [h]
 ·rcases h with h | h | h <;> simp [h]
theorem vW : ∀ {g:List Qn} {l:List It},(ks l).Nodup → (ks (g.foldl rid l)).Nodup
 | [],l,h=>h
 | a :: g,l,h=>vW (g:=g) (vk h)
theorem vX : ∀ {g:List Qn} {l:List Ne.Nt},(Ne.ks l).Nodup → (Ne.ks (g.foldl Ne.rid l)).Nodup
 | [],l,h=>h
 | a :: g,l,h=>vX (g:=g) (Ne.vk h)
structure FS (l:List Pt) (i:Nat) (s:Sv):Prop where
 r:s.room = 50
 c:0 ≤ s.ch ∧ s.ch ≤ i
 o:s.o.length ≤ i
 m:s.m.length ≤ i
 it:∀ x ∈ s.m,∃ p ∈ l,0 < p.r ∧ x = p.s.it (fJ p.now p.s.ttl) p.r
 mg:(ks s.m).Nodup
structure FN (θ:Th) (gt:ByteArray → Int → Int → Int × Bool) (l:List Pt) (i:Nat) (s:Ne.Nv):Prop where
 r:s.room = 50
 c:0 ≤ s.ch ∧ s.ch ≤ i
 o:s.o.length ≤ i
 m:s.m.length ≤ i
 it:∀ x ∈ s.m,∃ p ∈ l,x.s = p.s ∧ x.u = fJ p.now (Ne.wN θ gt p.s).1 ∧ x.k.q = p.k.q
 mg:(Ne.ks s.m).Nodup
theorem FS.up {l:List Pt} {i:Nat} {s:Sv} (h:FS l i s):FS l (i + 1) s:=⟨h.r,by have:=h.c;omega,by have:=h.o;omega,by have:=h.m;omega,h.it,h.mg⟩
theorem FN.up {l:List Pt} {i:Nat} {s:Ne.Nv} (h:FN θ gt l i s):FN θ gt l (i + 1) s:=⟨h.r,by have:=h.c;omega,by have:=h.o;omega,by have:=h.m;omega,h.it,h.mg⟩
theorem FS.put {l:List Pt} {i:Nat} {s:Sv} (h:FS l i s) {p:Pt} (hp:p ∈ l) (h0:0 < p.r):FS l (i + 1) (u7 θ s p.now p.s p.r).1:=by
 have hc:=h.c
 have hq:=@tX s.o p.s.k
 have ho:=h.o
 have hm:=h.m
 have hu:=@NP s.m (p.s.it (fJ p.now p.s.ttl) p.r)
 unfold u7
 dsimp only
 split
 ·exact h.up
 ·refine ⟨h.r,by show 0 ≤ s.ch + 1 ∧ s.ch + 1 ≤ _;omega,?_,?_,fun y hy=>?_,vW (vo h.mg)⟩
  ·show (List.drop _ _).length ≤ _
   rw [ajG,ajl,List.length_singleton];omega
  ·exact ajA vB.length_le (by omega)
  ·rcases NQ (vB.subset hy) with rfl | h1
   ·exact ⟨p,hp,h0,rfl⟩
   ·exact h.it y h1
theorem FN.put {l:List Pt} {i:Nat} {s:Ne.Nv} (h:FN θ gt l i s) {p:Pt} (hp:p ∈ l) (b:Bool):FN θ gt l (i + 1) (Ne.su θ gt s p.now p.k b p.s).1:=by
 have hc:=h.c
 have hq:=@tX s.o (Ne.kn b p.k)
 have ho:=h.o
 have hm:=h.m
 unfold Ne.su
 split
 ·exact h.up
 split
 ·exact h.up
 have hu:=@Ne.RB s.m ⟨Ne.kn b p.k,b,p.s,fJ p.now (Ne.wN θ gt p.s).1⟩
 refine ⟨h.r,by show 0 ≤ s.ch + 1 ∧ s.ch + 1 ≤ _;omega,?_,?_,fun y hy=>?_,vX (Ne.vo h.mg)⟩
 ·show (List.drop _ _).length ≤ _
  rw [ajG,ajl,List.length_singleton];omega
 ·exact ajA Ne.yI.length_le (by omega)
 ·rcases Ne.RD (Ne.yI.subset hy) with rfl | h1
  ·refine ⟨p,hp,rfl,rfl,?_⟩
   show (Ne.kn b p.k).q = _
   unfold Ne.kn;cases b <;> rfl
  ·exact h.it y h1
structure FI (θ:Th) (gt:ByteArray → Int → Int → Int × Bool) (l:List Pt) (i:Nat) (a:Sv × Ne.Nv):Prop where
 s:FS l i a.1
 n:FN θ gt l i a.2
theorem fi0 (l:List Pt):FI θ gt l 0 (s50,m50):=⟨⟨rfl,⟨aj7 _,aj7 _⟩,aji _,aji _,(by intro x hx;cases hx),akR⟩,⟨rfl,⟨aj7 _,aj7 _⟩,aji _,aji _,(by intro x hx;cases hx),akR⟩⟩
theorem FI.rO {l:List Pt} {i:Nat} {a:Sv × Ne.Nv} (h:FI θ gt l i a) {p:Pt} (hp:p ∈ l):FI θ gt l (i + 1) (rO θ gt a p):=by
 unfold Kc.rO
 split
 ·rename_i h0;exact ⟨h.s.put hp h0,h.n.up⟩
 ·exact ⟨h.s.up,h.n.put hp _⟩
theorem fi (l:List Pt):∀ i,i ≤ l.length → FI θ gt l i (nC θ gt (l.take i))
 | 0,_=>fi0 l
 | i + 1,h=>by
  have hi:l[i]? = some l[i]:=ajt (by omega)
  rw [yK hi]
  exact (fi l i (by omega)).rO (ak1 _)
theorem fiA (l:List Pt):FI θ gt l l.length (nC θ gt l):=by
 have:=fi (θ:=θ) (gt:=gt) l l.length (aji _)
 rwa [aj1] at this
def kW (l:List Pt):Bool:=l.all fun x=>nU x.s.q x.s.d && decide (x.k.q.size ≤ 300)
theorem Ku {l:List Pt} {x:Pt} {i:Nat} (h:l[i]? = some x):kW (l.take (i + 1)) = (kW (l.take i) && (nU x.s.q x.s.d && decide (x.k.q.size ≤ 300))):=by
 unfold kW
 rw [aj6,h,List.all_append]
 simp
theorem Jj {l:List Pt} {x:Pt} {i:Nat} (h:l[i]? = some x) (hx:(nU x.s.q x.s.d && decide (x.k.q.size ≤ 300)) = false):kW l = false:=by
 unfold kW
 rw [List.all_eq_false]
 exact ⟨x,akn h,by simp only [hx,ajF,ak4]⟩
theorem Bh {q:ByteArray} {d:List ByteArray} (h:nU q d = true):q.size ≤ 300 ∧ d.length ≤ 60 ∧ ∀ y ∈ d,y.size ≤ 2000:=by
 unfold nU EO at h
 rw [ajk,aju,ajz] at h
 refine ⟨by omega,?_,fun y hy=>?_⟩
 ·cases hd:d with
  | nil=>simp
  | cons y d' =>
   have:=h.1 y (by rw [hd];simp)
   simp only [ajk,ajz] at this
   rw [hd] at this;omega
 ·have:=h.1 y hy
  simp only [ajk,ajz] at this
  omega
theorem tZ {l:List Pt} {x:Pt} (h:kW l = true) (hx:x ∈ l):x.k.q.size ≤ 1000000 ∧ x.s.q.size ≤ 1000000 ∧ x.s.d.length ≤ 1000000 ∧ ∀ y ∈ x.s.d,y.size ≤ 1000000:=by
 have h1:=aju.mp h x hx
 rw [ajk,ajz] at h1
 obtain ⟨a,b,c⟩:=Bh h1.1
 exact ⟨by omega,by omega,by omega,fun y hy=>by have:=c y hy;omega⟩
theorem E9 {now ttl:Int}:fJ now ttl ≤ 4611686018427387904:=by
 unfold fJ Ri
 split
 ·rename_i h
  simp only [ajz] at h
  split <;> omega
 ·omega
structure FW (a:Sv × Ne.Nv):Prop where
 hd:∀ x ∈ a.1.m,x.d.length ≤ 1000000
 hu:∀ x ∈ a.1.m,x.u ≤ 4611686018427387904
 hy:∀ x ∈ a.1.m,∀ y ∈ x.d,y.size ≤ 1000000
 hd2:∀ x ∈ a.2.m,x.s.d.length ≤ 1000000
 hu2:∀ x ∈ a.2.m,x.u ≤ 4611686018427387904
theorem FI.w {l:List Pt} {i:Nat} {a:Sv × Ne.Nv} (h:FI θ gt l i a) (hf:kW l = true):FW a:=by
 refine ⟨fun x hx=>?_,fun x hx=>?_,fun x hx=>?_,fun x hx=>?_,fun x hx=>?_⟩
 ·obtain ⟨p,hp, -,rfl⟩:=h.s.it x hx;exact (tZ hf hp).2.2.1
 ·obtain ⟨p,hp, -,rfl⟩:=h.s.it x hx;exact E9
 ·obtain ⟨p,hp, -,rfl⟩:=h.s.it x hx;exact (tZ hf hp).2.2.2
 ·obtain ⟨p,hp,h1, -⟩:=h.n.it x hx;rw [h1];exact (tZ hf hp).2.2.1
 ·obtain ⟨p,hp, -,h1, -⟩:=h.n.it x hx;rw [h1];exact E9
end
end Go.Proofs.YtfokaoeinpnagaaGreat.Kc

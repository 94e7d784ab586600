/- A part of the proof of SeekZones: cut, joined and given short names by a program of this session (wip/tools/pack.py); Lean checks it. No condition. -/
import Derived.Test.YtfokaoeinpnagaaGreatPSZesi
import Derived.Test.YtfokaoeinpnagaaGreatProg
import Derived.Test.YtfokaoeinpnagaaGreatPSZesf
import Derived.WalkKit
import Derived.Test.YtfokaoeinpnagaaGreatPSZesg
import Derived.Test.YtfokaoeinpnagaaGreatPSZesd
set_option linter.unusedSectionVars false
set_option linter.unusedSimpArgs false
set_option linter.unusedVariables false
set_option maxHeartbeats 16000000
set_option maxRecDepth 100000
namespace Go.Proofs.YtfokaoeinpnagaaGreat.Ev
open Go
attribute [go_sem] dA d9 vM rz mG oH Gd PY JR sub jA pO gD gN plain fJ TD Lx wH PZ JW LC Vh Vi Vj LB Ve rowsOf KV.ks SV.sk
attribute [go_sem] List.any_cons List.any_nil List.all_cons List.all_nil List.map_cons List.map_nil List.length_cons List.length_nil List.append_nil List.nil_append List.cons_append List.flatMap_cons List.flatMap_nil List.take_succ_cons List.take_zero List.take_nil List.drop_succ_cons List.drop_zero List.drop_nil Option.getD_some Option.getD_none List.filter_nil List.filter_cons List.headD_nil List.headD_cons List.tail_cons List.tail_nil
section
variable {σ : St} {α:Type}
section
variable {k : St → Prop} {u:Tok k} {key:Nat} {o:Ob} {pend:List PL}
@[go_sem ↓] theorem ahD : W k u (new σ key o) ↔ (rem σ.ob key).any (fun p=>mG key p.2) = false ∧ k ⟨σ.tm.filter (fun p=>!rz key p.2),(key,o) :: rem σ.ob key⟩:=by
 simp only [new,Yf,dQ,bU,dw,bC,aj5]
@[go_sem ↓] theorem afE : W k u (newP pend σ key o) ↔ pend.any (d9 key) = false ∧ W k ⟨⟩ (new σ key o):=by
 simp only [newP,dQ,dw,aj5]
@[go_sem ↓] theorem ahE : W k u (zI σ key) ↔ W (fun p=>k (sub ⟨σ.tm,rem σ.ob key⟩ key (.f (.sl p.2)))) ⟨⟩ (iM σ key):=by
 simp only [zI,iM,dQ]
 cases get σ.ob key with
 | none=>exact bX
 | some o=>cases o <;> first | exact bX | exact lT aje
@[go_sem ↓] theorem Wo : W k u (xH σ []) ↔ k σ:=gQ
@[go_sem ↓] theorem TS : W k u (sJ σ []) ↔ k σ:=gQ
@[go_sem ↓] theorem QD {x:CV} {xs:List CV}:W k u (sJ σ (x :: xs)) ↔ W (fun s=>W k ⟨⟩ (sJ s xs)) ⟨⟩ (xH σ (cells x)):=by
 simp only [sJ,dQ,aQ]
def qg (σ:St):PL → Option St
 | .own key _=>zI σ key
 | _=>some σ
@[go_sem ↓] theorem TT {x:PL} {xs:List PL}:W k u (xH σ (x :: xs)) ↔ W (fun s=>W k ⟨⟩ (xH s xs)) ⟨⟩ (qg σ x):=by
 simp only [dQ]
 cases x <;> simp only [xH,qg,aQ,bC]
@[go_sem ↓] theorem TU {n:Nat}:W k u (qg σ (.own key n)) ↔ W k ⟨⟩ (zI σ key):=aje
@[go_sem] theorem ado {x:FV}:qg σ (.f x) = some σ:=rfl
@[go_sem] theorem YC : qg σ .bY = some σ:=rfl
@[go_sem] theorem YD {n:Nat}:qg σ (.ptr key n) = some σ:=rfl
@[go_sem] theorem aaG : qg σ (.mp key) = some σ:=rfl
@[go_sem] theorem YE : qg σ .iU = some σ:=rfl
@[go_sem] theorem Wp : qg σ .fA = some σ:=rfl
@[go_sem] theorem aaH {f:FuncId} {c:List (List FV)}:qg σ (.fn f c) = some σ:=rfl
@[go_sem] theorem aaI {c:List FV}:qg σ (.fp c) = some σ:=rfl
end
section
variable {k : FV × St → Prop} {u:Tok k} {key n:Nat}
@[go_sem] theorem ahF {x:FV}:vN σ (.f x) = some (x,σ):=rfl
@[go_sem] theorem adp : vN σ .bY = some (.sl [],σ):=rfl
@[go_sem ↓] theorem YF : W k u (vN σ (.own key n)) ↔ W (fun p=>k (.sl p.2,sub ⟨σ.tm,rem σ.ob key⟩ key (.f (.sl p.2)))) ⟨⟩ (iM σ key):=by
 simp only [vN,zI,iM,dQ]
 cases get σ.ob key with
 | none=>exact bX
 | some o=>cases o <;> first | exact bX | (simp only [Option.map_some];exact lT aje)
end
section
variable {k : List FV × St → Prop} {u:Tok k}
@[go_sem ↓] theorem Wq : W k u (kJ σ []) ↔ k ([],σ):=gQ
@[go_sem ↓] theorem TW {x:PL} {xs:List PL}:W k u (kJ σ (x :: xs)) ↔ W (fun p=>W (fun r=>k (p.1 :: r.1,r.2)) ⟨⟩ (kJ p.2 xs)) ⟨⟩ (vN σ x):=by
 simp only [kJ,dQ,aQ,bU]
@[go_sem ↓] theorem ahG {key:Nat}:W k u (Yh σ key) ↔ W (fun xs=>W (fun p=>W (fun _=>k (p.1,Vj (LB key p.1) ⟨p.2.tm,rem p.2.ob key⟩)) ⟨⟩ (get p.2.ob key)) ⟨⟩ (kJ σ xs)) ⟨⟩ (pI σ key):=by
 simp only [Yh,pI,dQ]
 cases get σ.ob key with
 | none=>exact bX
 | some o =>
  cases o with
  | eT xs =>
   simp only [oc,bC,aQ]
   refine cZ fun p=>?_
   cases get p.2.ob key with
   | none=>exact bX
   | some o=>exact lT aje
  | _=>exact bX
end
section
variable {k : FC × St → Prop} {u:Tok k}
@[go_sem ↓] theorem YG {x:PL}:W k u (Yg σ (.one x)) ↔ W (fun p=>k (.one p.1,p.2)) ⟨⟩ (vN σ x):=by simp only [Yg,dQ,bU]
@[go_sem ↓] theorem YH {xs:List PL}:W k u (Yg σ (.agg xs)) ↔ W (fun p=>k (.agg p.1,p.2)) ⟨⟩ (kJ σ xs):=by simp only [Yg,dQ,bU]
end
section
variable {k : List (List FV) × St → Prop} {u:Tok k} {q:Bool}
@[go_sem ↓] theorem Ws : W k u (lZ q σ []) ↔ k ([],σ):=by simp only [lZ,dQ,bC]
@[go_sem ↓] theorem YI {cs:List FV} {l:List CV}:W k u (lZ q σ (.one (.fp cs) :: l)) ↔ W (fun r=>k (cs :: r.1,r.2)) ⟨⟩ (lZ q σ l):=by simp only [lZ,dQ,bU]
@[go_sem ↓] theorem Wt {key:Nat} {l:List CV}:W k u (lZ q σ (.one (.ptr key 0) :: l)) ↔ q = false ∧ W (fun p=>W (fun r=>k (p.1 :: r.1,r.2)) ⟨⟩ (lZ q p.2 l)) ⟨⟩ (Yh σ key):=by
 simp only [lZ,dQ,dw,aQ,bU,aj5]
end
section
variable {k : List (Nat × Nat × CV) → Prop} {u:Tok k}
@[go_sem ↓] theorem Wu : W k u (vals σ []) ↔ k []:=gQ
@[go_sem ↓] theorem TY {o n:Nat} {x:dM} {ps:List (Nat × Nat × dM)}:W k u (vals σ ((o,n,x) :: ps)) ↔ W (fun v=>W (fun l=>k ((o,n,v) :: l)) ⟨⟩ (vals σ ps)) ⟨⟩ (val σ x):=by
 simp only [vals,dQ,aQ,bU]
end
section
variable {k : List CV → Prop} {u:Tok k}
@[go_sem ↓] theorem T9 : W k u (jw σ []) ↔ k []:=gQ
@[go_sem ↓] theorem QE {x:dM} {xs:List dM}:W k u (jw σ (x :: xs)) ↔ W (fun v=>W (fun l=>k (v :: l)) ⟨⟩ (jw σ xs)) ⟨⟩ (val σ x):=by
 simp only [jw,dQ,aQ,bU]
@[go_sem ↓] theorem Ua : W k u (slots σ []) ↔ k []:=gQ
@[go_sem ↓] theorem QF {x:Rs} {xs:List Rs}:W k u (slots σ (x :: xs)) ↔ W (fun v=>W (fun l=>k (v :: l)) ⟨⟩ (slots σ xs)) ⟨⟩ (slot σ x):=by
 simp only [slots,dQ,aQ,bU]
end
section
variable {k : CV → Prop} {u:Tok k} {i n:Nat} {agg:Bool}
@[go_sem ↓] theorem aaJ : W k u (slot σ (.t i)) ↔ W k ⟨⟩ (vl (get σ.tm i)):=by rw [← aai];exact aje
@[go_sem ↓] theorem Ub : W k u (slot σ (.cell i n agg)) ↔ W (fun v=>W (fun p=>W (fun xs=>W (fun l=>W k ⟨⟩ (mk agg l)) ⟨⟩ (seg n p.2 xs)) ⟨⟩ (pI σ p.1)) ⟨⟩ (Ke v)) ⟨⟩ (vl (get σ.tm i)):=by
 simp only [slot,dQ]
 cases get σ.tm i with
 | none=>exact bX
 | some v =>
  cases v with
  | uM l=>exact bX
  | c x =>
   simp only [vl,bC]
   cases x with
   | agg l=>exact bX
   | one p =>
    cases p with
    | ptr key off =>
     simp only [Ke,bC,pI]
     cases get σ.ob key with
     | none=>exact bX
     | some o=>cases o <;> first | exact bX | (simp only [oc,bC,aQ])
    | _=>exact bX
end
section
variable {k : List PL → Prop} {u:Tok k} {z:List PL}
@[go_sem ↓] theorem Wv : W k u (fill z []) ↔ k z:=by simp only [fill,dQ,bC]
@[go_sem ↓] theorem Uc {off n:Nat} {v:CV} {ps:List (Nat × Nat × CV)}:W k u (fill z ((off,n,v) :: ps)) ↔ ((cells v).length = n ∧ (cells v).any pO = false) ∧ W (fun z=>W k ⟨⟩ (fill z ps)) ⟨⟩ (lay off (cells v) z):=by
 simp only [fill,dQ,bM,aQ]
end
@[go_sem] theorem aaK {kk:IntKind} {n:Int}:sF (.int kk n) = some (.int kk n):=rfl
@[go_sem] theorem YJ {b:Bool}:sF (.bool b) = some (.bool b):=rfl
@[go_sem] theorem aaL {s:ByteArray}:sF (.str s) = some (.str s):=rfl
section
variable {k : KV → Prop} {u:Tok k}
@[go_sem ↓] theorem YK {x:FV}:W k u (keyOf (.one (.f x))) ↔ W (fun s=>k (.one s)) ⟨⟩ (sF x):=by simp only [keyOf,Ii,Option.bind_some,dQ,bU]
@[go_sem ↓] theorem YL {xs:List PL}:W k u (keyOf (.agg xs)) ↔ W (fun l=>W (fun s=>k (.agg s)) ⟨⟩ (sG l)) ⟨⟩ (oI xs):=by simp only [keyOf,dQ,aQ,bU]
end
section
variable {k : List SV → Prop} {u:Tok k}
@[go_sem ↓] theorem Ud : W k u (sG []) ↔ k []:=gQ
@[go_sem ↓] theorem QG {x:FV} {xs:List FV}:W k u (sG (x :: xs)) ↔ W (fun s=>W (fun l=>k (s :: l)) ⟨⟩ (sG xs)) ⟨⟩ (sF x):=by simp only [sG,dQ,aQ,bU]
end
section
variable {k : List FV → Prop} {u:Tok k}
@[go_sem ↓] theorem QH : W k u (oI []) ↔ k []:=gQ
@[go_sem ↓] theorem PG {x:FV} {xs:List PL}:W k u (oI (.f x :: xs)) ↔ W (fun l=>k (x :: l)) ⟨⟩ (oI xs):=by simp only [oI,Ii,Option.bind_some,dQ,bU]
end
section
variable {k : CL × St → Prop} {u:Tok k} {key n:Nat}
@[go_sem] theorem ahH {x:FV}:JU σ (.f x) = some (.f x,σ):=rfl
@[go_sem] theorem adq : JU σ .bY = some (.f (.sl []),σ):=rfl
@[go_sem] theorem ads : JU σ .iU = some (.iU,σ):=rfl
@[go_sem] theorem aaM : JU σ .fA = some (.fA,σ):=rfl
@[go_sem ↓] theorem YM : W k u (JU σ (.own key n)) ↔ W (fun o=>k (.own o.1 o.2,⟨σ.tm,rem σ.ob key⟩)) ⟨⟩ (iM σ key):=by
 simp only [JU,iM,dQ]
 cases get σ.ob key with
 | none=>exact bX
 | some o=>cases o <;> first | exact bX | exact lT aje
@[go_sem ↓] theorem aaN : W k u (JU σ (.mp key)) ↔ W (fun o=>k (.mp o.1 o.2,⟨σ.tm,rem σ.ob key⟩)) ⟨⟩ (oN σ key):=by
 simp only [JU,oN,dQ]
 cases get σ.ob key with
 | none=>exact bX
 | some o=>cases o <;> first | exact bX | exact lT aje
end
section
variable {k : List CL × St → Prop} {u:Tok k}
@[go_sem ↓] theorem Ww : W k u (zM σ []) ↔ k ([],σ):=gQ
@[go_sem ↓] theorem Ue {x:PL} {xs:List PL}:W k u (zM σ (x :: xs)) ↔ W (fun p=>W (fun r=>k (p.1 :: r.1,r.2)) ⟨⟩ (zM p.2 xs)) ⟨⟩ (JU σ x):=by
 simp only [zM,dQ,aQ,bU]
end
section
variable {k : TV × St → Prop} {u:Tok k} {key n:Nat} {gv:Bool}
@[go_sem] theorem ahI {x:FV}:rT gv σ (.f x) = some (.f x,σ):=rfl
@[go_sem] theorem adt : rT gv σ .bY = some (.f (.sl []),σ):=rfl
@[go_sem] theorem adu : rT gv σ .iU = some (.iU,σ):=rfl
@[go_sem] theorem aaO : rT gv σ .fA = some (.fA,σ):=rfl
@[go_sem] theorem afF {cs:List FV}:rT gv σ (.fp cs) = some (.fp cs,σ):=rfl
@[go_sem] theorem afG {f:FuncId} {cs:List (List FV)}:rT gv σ (.fn f cs) = some (.fn f cs,σ):=rfl
@[go_sem ↓] theorem YN : W k u (rT false σ (.own key n)) ↔ W (fun o=>k (.f (.sl o.2),σ)) ⟨⟩ (iM σ key):=by
 simp only [rT,iM,dQ]
 cases get σ.ob key with
 | none=>exact bX
 | some o=>cases o <;> first | exact bX | exact lT aje
@[go_sem ↓] theorem Wx : W k u (rT true σ (.own key n)) ↔ W (fun o=>k (.own o.1 o.2,⟨σ.tm,rem σ.ob key⟩)) ⟨⟩ (iM σ key):=by
 simp only [rT,iM,dQ]
 cases get σ.ob key with
 | none=>exact bX
 | some o=>cases o <;> first | exact bX | exact lT aje
@[go_sem ↓] theorem aaP : W k u (rT gv σ (.mp key)) ↔ W (fun o=>k (.mp o.1 o.2,⟨σ.tm,rem σ.ob key⟩)) ⟨⟩ (oN σ key):=by
 simp only [rT,oN,dQ]
 cases get σ.ob key with
 | none=>exact bX
 | some o=>cases o <;> first | exact bX | exact lT aje
@[go_sem ↓] theorem YO : W k u (rT gv σ (.ptr key 0)) ↔ W (fun xs=>W (fun p=>k (.ptr p.1,p.2)) ⟨⟩ (zM ⟨σ.tm,rem σ.ob key⟩ xs)) ⟨⟩ (pI σ key):=by
 simp only [rT,pI,dQ]
 cases get σ.ob key with
 | none=>exact bX
 | some o=>cases o <;> first | exact bX | (simp only [oc,bC,bU])
end
section
variable {k : List TV × St → Prop} {u:Tok k} {gv:Bool}
@[go_sem ↓] theorem Wz : W k u (rU gv σ []) ↔ k ([],σ):=gQ
@[go_sem ↓] theorem Uf {x:PL} {xs:List PL}:W k u (rU gv σ (x :: xs)) ↔ W (fun p=>W (fun r=>k (p.1 :: r.1,r.2)) ⟨⟩ (rU gv p.2 xs)) ⟨⟩ (rT gv σ x):=by
 simp only [rU,dQ,aQ,bU]
end
section
variable {k : AV × St → Prop} {u:Tok k} {gv:Bool}
@[go_sem ↓] theorem YP {x:PL}:W k u (Lg gv σ (.one x)) ↔ W (fun p=>k (.one p.1,p.2)) ⟨⟩ (rT gv σ x):=by simp only [Lg,dQ,bU]
@[go_sem ↓] theorem YQ {xs:List PL}:W k u (Lg gv σ (.agg xs)) ↔ W (fun p=>k (.agg p.1,p.2)) ⟨⟩ (rU gv σ xs):=by simp only [Lg,dQ,bU]
end
section
variable {k : List AV × St → Prop} {u:Tok k} {gv:Bool}
@[go_sem ↓] theorem WA : W k u (sI gv σ []) ↔ k ([],σ):=gQ
@[go_sem ↓] theorem Ug {x:CV} {xs:List CV}:W k u (sI gv σ (x :: xs)) ↔ W (fun p=>W (fun r=>k (p.1 :: r.1,r.2)) ⟨⟩ (sI gv p.2 xs)) ⟨⟩ (Lg gv σ x):=by
 simp only [sI,dQ,aQ,bU]
end
section
variable {k : List PL × St → Prop} {u:Tok k} {kf:Nat → Nat} {c base j:Nat} {pend:List PL}
@[go_sem ↓] theorem WB : W k u (qR kf c pend σ []) ↔ k ([],σ):=by simp only [qR,dQ,bC]
def QI (kf:Nat → Nat) (c:Nat) (pend:List PL) (σ:St):CL → Option (PL × St)
 | .f x=>some (.f x,σ)
 | .iU=>some (.iU,σ)
 | .fA=>some (.fA,σ)
 | .mp sh ents=>(newP pend σ (kf c) (.map sh ents)).map fun s=>(.mp (kf c),s)
 | .own sz rows=>(newP pend σ (kf c + kf c % 2) (.row sz rows)).map fun s=>(.own (kf c + kf c % 2) rows.length,s)
@[go_sem ↓] theorem Uh {x:CL} {xs:List CL}:W k u (qR kf c pend σ (x :: xs)) ↔ W (fun p=>W (fun r=>k (p.1 :: r.1,r.2)) ⟨⟩ (qR kf (c + 1) (p.1 :: pend) p.2 xs)) ⟨⟩ (QI kf c pend σ x):=by
 simp only [dQ]
 cases x <;> simp only [qR,QI,bC,aQ,bU]
@[go_sem ↓] theorem WC : W k u (xE base j pend σ []) ↔ k ([],σ):=by simp only [xE,dQ,bC]
@[go_sem ↓] theorem Ui {x:TV} {xs:List TV}:W k u (xE base j pend σ (x :: xs)) ↔ W (fun p=>W (fun r=>k (p.1 :: r.1,r.2)) ⟨⟩ (xE base (j + 1) (p.1 :: pend) p.2 xs)) ⟨⟩ (DR (base + 200 * (j + 1)) pend σ x):=by
 simp only [xE,dQ,aQ,bU]
end
section
variable {k : PL × St → Prop} {u:Tok k} {kf:Nat → Nat} {c key:Nat} {pend:List PL}
@[go_sem] theorem ahJ {x:FV}:QI kf c pend σ (.f x) = some (.f x,σ):=rfl
@[go_sem] theorem adv : QI kf c pend σ .iU = some (.iU,σ):=rfl
@[go_sem] theorem aaQ : QI kf c pend σ .fA = some (.fA,σ):=rfl
@[go_sem ↓] theorem aaR {sh:KS} {ents:List (KV × FC)}:W k u (QI kf c pend σ (.mp sh ents)) ↔ W (fun s=>k (.mp (kf c),s)) ⟨⟩ (newP pend σ (kf c) (.map sh ents)):=by simp only [QI,dQ,bU]
@[go_sem ↓] theorem YR {sz:Nat} {rows:List (List FV)}:W k u (QI kf c pend σ (.own sz rows)) ↔ W (fun s=>k (.own (kf c + kf c % 2) rows.length,s)) ⟨⟩ (newP pend σ (kf c + kf c % 2) (.row sz rows)):=by simp only [QI,dQ,bU]
@[go_sem] theorem ahK {x:FV}:DR key pend σ (.f x) = some (.f x,σ):=rfl
@[go_sem] theorem adw : DR key pend σ .iU = some (.iU,σ):=rfl
@[go_sem] theorem aaS : DR key pend σ .fA = some (.fA,σ):=rfl
@[go_sem] theorem afH {cs:List FV}:DR key pend σ (.fp cs) = some (.fp cs,σ):=rfl
@[go_sem] theorem afI {f:FuncId} {cs:List (List FV)}:DR key pend σ (.fn f cs) = some (.fn f cs,σ):=rfl
@[go_sem] theorem adx : DR key pend σ .any = some (.any,σ):=rfl
@[go_sem ↓] theorem aaT {sh:KS} {ents:List (KV × FC)}:W k u (DR key pend σ (.mp sh ents)) ↔ W (fun s=>k (.mp key,s)) ⟨⟩ (newP pend σ key (.map sh ents)):=by simp only [DR,dQ,bU]
@[go_sem ↓] theorem YS {sz:Nat} {rows:List (List FV)}:W k u (DR key pend σ (.own sz rows)) ↔ W (fun s=>k (.own (ow key) rows.length,s)) ⟨⟩ (newP pend σ (ow key) (.row sz rows)):=by simp only [DR,dQ,bU]
@[go_sem ↓] theorem YT {cs:List CL}:W k u (DR key pend σ (.ptr cs)) ↔ W (fun p=>p.1.any (d9 key) = false ∧ W (fun s=>k (.ptr key 0,s)) ⟨⟩ (newP pend p.2 key (.eT p.1))) ⟨⟩ (qR (PZ key) 0 pend σ cs):=by
 simp only [DR,dQ,aQ,dw,bU,aj5]
end
section
variable {k : CV × St → Prop} {u:Tok k} {base:Nat} {pend:List PL}
@[go_sem ↓] theorem YU {x:TV}:W k u (Lh base pend σ (.one x)) ↔ W (fun p=>k (.one p.1,p.2)) ⟨⟩ (DR (base + 200) pend σ x):=by simp only [Lh,dQ,bU]
@[go_sem ↓] theorem YV {xs:List TV}:W k u (Lh base pend σ (.agg xs)) ↔ W (fun p=>k (.agg p.1,p.2)) ⟨⟩ (xE base 0 pend σ xs):=by simp only [Lh,dQ,bU]
end
section
variable {k : List CV × St → Prop} {u:Tok k} {base i:Nat} {pend:List PL} {bo:List Nat}
@[go_sem] theorem ahL : ab bo i = if bo.contains i then dA i + 10001 else dA i + 1:=rfl
@[go_sem] theorem ahM {key:Nat}:ow key = if key / 10000 % 2 = 0 then key + key % 2 else key:=rfl
@[go_sem ↓] theorem WE : W k u (xG base i pend σ []) ↔ k ([],σ):=by simp only [xG,dQ,bC]
@[go_sem ↓] theorem Uj {x:AV} {xs:List AV}:W k u (xG base i pend σ (x :: xs)) ↔ W (fun p=>W (fun r=>k (p.1 :: r.1,r.2)) ⟨⟩ (xG base (i + 1) (cells p.1 ++ pend) p.2 xs)) ⟨⟩ (Lh (base + 2000 * i) pend σ x):=by
 simp only [xG,dQ,aQ,bU]
@[go_sem ↓] theorem Uk : W k u (enter bo i pend σ []) ↔ k ([],σ):=by simp only [enter,dQ,bC]
@[go_sem ↓] theorem QJ {x:AV} {xs:List AV}:W k u (enter bo i pend σ (x :: xs)) ↔ W (fun p=>W (fun s=>W (fun r=>k (p.1 :: r.1,r.2)) ⟨⟩ (enter bo (i + 1) (cells p.1 ++ pend) s xs)) ⟨⟩ (some ⟨put p.2.tm i (.c p.1),p.2.ob⟩)) ⟨⟩ (Lh (ab bo i) pend σ x):=by
 simp only [enter,dQ,aQ,bU,bC]
end
section
variable {k : St → Prop} {u:Tok k} {fI:St} {base:Nat} {pend:List PL}
@[go_sem ↓] theorem WG : W k u (zN fI pend base σ [] []) ↔ k σ:=by simp only [zN,dQ,bC]
@[go_sem ↓] theorem Ul {x:CV} {xs:List CV} {y:AV} {ys:List AV}:W k u (zN fI pend base σ (x :: xs) (y :: ys)) ↔ W (fun s=>W k ⟨⟩ (zN fI pend (base + 1000) s xs ys)) ⟨⟩ (Zi fI pend base σ x y):=by
 simp only [zN,dQ,aQ]
@[go_sem ↓] theorem YW {x:PL} {y:TV}:W k u (Zi fI pend base σ (.one x) (.one y)) ↔ W k ⟨⟩ (DT fI pend base σ x y):=aje
@[go_sem ↓] theorem YX {x:List PL} {y:List TV}:W k u (Zi fI pend base σ (.agg x) (.agg y)) ↔ W k ⟨⟩ (BQ fI pend base σ x y):=aje
@[go_sem ↓] theorem WH : W k u (BQ fI pend base σ [] []) ↔ k σ:=by simp only [BQ,dQ,bC]
@[go_sem ↓] theorem Um {x:PL} {xs:List PL} {y:TV} {ys:List TV}:W k u (BQ fI pend base σ (x :: xs) (y :: ys)) ↔ W (fun s=>W k ⟨⟩ (BQ fI pend (base + 200) s xs ys)) ⟨⟩ (DT fI pend base σ x y):=by
 simp only [BQ,dQ,aQ]
@[go_sem ↓] theorem YZ {key off:Nat} {cs:List CL}:W k u (DT fI pend base σ (.ptr key off) (.ptr cs)) ↔ W (fun xs=>W (fun p=>k (jA p.2 key (.eT p.1))) ⟨⟩ (qR (JV base xs) 0 pend σ cs)) ⟨⟩ (pI fI key):=by
 simp only [DT,pI,dQ]
 cases get fI.ob key with
 | none=>exact bX
 | some o=>cases o <;> first | exact bX | (simp only [oc,bC,bU])
@[go_sem] theorem afJ {key:Nat} {sh:KS} {ents:List (KV × FC)}:DT fI pend base σ (.mp key) (.mp sh ents) = some (jA σ key (.map sh ents)):=rfl
@[go_sem] theorem aaU {key n sz:Nat} {rows:List (List FV)}:DT fI pend base σ (.own key n) (.own sz rows) = some (jA σ key (.row sz rows)):=rfl
@[go_sem] theorem ahN {x y:FV}:DT fI pend base σ (.f x) (.f y) = some σ:=rfl
@[go_sem] theorem ady {y:FV}:DT fI pend base σ .bY (.f y) = some σ:=rfl
@[go_sem] theorem adz : DT fI pend base σ .iU .iU = some σ:=rfl
@[go_sem] theorem aaV : DT fI pend base σ .fA .fA = some σ:=rfl
@[go_sem] theorem adA {key n:Nat} {y:FV}:DT fI pend base σ (.own key n) (.f y) = some σ:=rfl
@[go_sem] theorem adB {key n:Nat}:DT fI pend base σ (.own key n) .any = some σ:=rfl
@[go_sem] theorem afK {a b:List FV}:DT fI pend base σ (.fp a) (.fp b) = some σ:=rfl
@[go_sem] theorem afL {f g:FuncId} {a b:List (List FV)}:DT fI pend base σ (.fn f a) (.fn g b) = some σ:=rfl
end
def Y0 (base c:Nat):Option PL → Nat
 | some (.mp k)=>if k % 2 = 0 then k else base + 2 * (c + 1)
 | some (.own k _)=>if k % 2 = 0 then k else base + 2 * (c + 1)
 | _=>base + 2 * (c + 1)
@[go_sem] theorem adC {base c:Nat} {xs:List PL}:JV base xs c = Y0 base c (xs[c]?):=by
 unfold JV
 cases xs[c]? with
 | none=>rfl
 | some x=>cases x <;> rfl
@[go_sem] theorem afM {base c k:Nat}:Y0 base c (some (.mp k)) = if k % 2 = 0 then k else base + 2 * (c + 1):=rfl
@[go_sem] theorem adD {base c k n:Nat}:Y0 base c (some (.own k n)) = if k % 2 = 0 then k else base + 2 * (c + 1):=rfl
@[go_sem] theorem ahO {base c:Nat} {x:FV}:Y0 base c (some (.f x)) = base + 2 * (c + 1):=rfl
@[go_sem] theorem adE {base c:Nat}:Y0 base c (some .bY) = base + 2 * (c + 1):=rfl
@[go_sem] theorem aaW {base c:Nat}:Y0 base c (some .fA) = base + 2 * (c + 1):=rfl
section
variable {k : TV × St → Prop} {u:Tok k} {key n:Nat}
@[go_sem] theorem afN {x:FV}:outT σ (.f x) = some (.f x,σ):=rfl
@[go_sem] theorem aaX : outT σ .bY = some (.f (.sl []),σ):=rfl
@[go_sem] theorem aaY : outT σ .iU = some (.iU,σ):=rfl
@[go_sem] theorem Y1 : outT σ .fA = some (.fA,σ):=rfl
@[go_sem] theorem adF {cs:List FV}:outT σ (.fp cs) = some (.fp cs,σ):=rfl
@[go_sem] theorem adG {f:FuncId} {cs:List (List FV)}:outT σ (.fn f cs) = some (.fn f cs,σ):=rfl
@[go_sem ↓] theorem WI : W k u (outT σ (.own key n)) ↔ W (fun p=>k (.f p.1,p.2)) ⟨⟩ (vN σ (.own key n)):=by simp only [outT,dQ,bU]
@[go_sem ↓] theorem Y2 : W k u (outT σ (.mp key)) ↔ W (fun o=>k (.mp o.1 o.2,⟨σ.tm,rem σ.ob key⟩)) ⟨⟩ (oN σ key):=by
 simp only [outT,oN,dQ]
 cases get σ.ob key with
 | none=>exact bX
 | some o=>cases o <;> first | exact bX | exact lT aje
@[go_sem ↓] theorem WJ : W k u (outT σ (.ptr key 0)) ↔ W (fun xs=>W (fun p=>k (.ptr p.1,p.2)) ⟨⟩ (zM ⟨σ.tm,rem σ.ob key⟩ xs)) ⟨⟩ (pI σ key):=by
 simp only [outT,pI,dQ]
 cases get σ.ob key with
 | none=>exact bX
 | some o=>cases o <;> first | exact bX | (simp only [oc,bC,bU])
@[go_sem ↓] theorem WK {sz:Nat}:W k u (BR sz σ (.own key n)) ↔ W (fun o=>o.1 = sz ∧ k (.own sz o.2,⟨σ.tm,rem σ.ob key⟩)) ⟨⟩ (iM σ key):=by
 simp only [BR,iM,dQ]
 cases get σ.ob key with
 | none=>exact bX
 | some o=>cases o <;> first | exact bX | (simp only [MW,bC,bM])
@[go_sem ↓] theorem WL {sz:Nat}:W k u (BR sz σ .bY) ↔ ¬ sz = 0 ∧ k (.own sz [],σ):=by simp only [BR,dQ,dw,bC]
@[go_sem] theorem adH {x:PL} {y:FV}:jS σ x (.f y) = some (.f y,σ):=by cases x <;> first | rfl | (rename_i a b;cases b <;> rfl)
@[go_sem] theorem Y3 {x:PL}:jS σ x .iU = some (.iU,σ):=by cases x <;> first | rfl | (rename_i a b;cases b <;> rfl)
@[go_sem] theorem WM {x:PL}:jS σ x .fA = some (.fA,σ):=by cases x <;> first | rfl | (rename_i a b;cases b <;> rfl)
def bko (σ:St) (key:Nat):Nat → Option (TV × St)
 | 1=>(MW (get σ.ob key)).map fun p=>(.own p.1 p.2,⟨σ.tm,rem σ.ob key⟩)
 | _=>some (.any,σ)
@[go_sem] theorem ahP : bko σ key 0 = some (.any,σ):=rfl
@[go_sem] theorem aaZ : bko σ key 1 = (MW (get σ.ob key)).map fun p=>(.own p.1 p.2,⟨σ.tm,rem σ.ob key⟩):=rfl
@[go_sem] theorem Y4 {n sz:Nat} {rows:List (List FV)}:jS σ (.own key n) (.own sz rows) = bko σ key (key % 2):=by
 simp only [jS]
 rcases Nat.mod_two_eq_zero_or_one key with h | h
 ·rw [h,ai9 (by decide)];rfl
 ·rw [h,ai8 rfl,aaZ]
  cases get σ.ob key with
  | none=>rfl
  | some o=>cases o <;> rfl
@[go_sem] theorem Y5 {sz:Nat} {rows:List (List FV)}:jS σ .bY (.own sz rows) = some (.any,σ):=rfl
@[go_sem] theorem Y6 {x:PL}:jS σ x .any = some (.any,σ):=by cases x <;> first | rfl | (rename_i a b;cases b <;> rfl)
@[go_sem] theorem aa0 {x:PL} {cs:List FV}:jS σ x (.fp cs) = some (.fp cs,σ):=by cases x <;> first | rfl | (rename_i a b;cases b <;> rfl)
@[go_sem] theorem aa1 {x:PL} {f:FuncId} {cs:List (List FV)}:jS σ x (.fn f cs) = some (.fn f cs,σ):=by cases x <;> first | rfl | (rename_i a b;cases b <;> rfl)
@[go_sem ↓] theorem Un {cs:List CL}:W k u (jS σ (.ptr key 0) (.ptr cs)) ↔ key % 2 = 1 ∧ W k ⟨⟩ (outT σ (.ptr key 0)):=by simp only [jS,dQ,bM]
@[go_sem ↓] theorem WO {sh:KS} {ents:List (KV × FC)}:W k u (jS σ (.mp key) (.mp sh ents)) ↔ key % 2 = 1 ∧ W k ⟨⟩ (outT σ (.mp key)):=by simp only [jS,dQ,bM]
end
section
variable {k : List TV × St → Prop} {u:Tok k}
@[go_sem ↓] theorem Uo : W k u (vO σ []) ↔ k ([],σ):=gQ
@[go_sem ↓] theorem QK {x:PL} {xs:List PL}:W k u (vO σ (x :: xs)) ↔ W (fun p=>W (fun r=>k (p.1 :: r.1,r.2)) ⟨⟩ (vO p.2 xs)) ⟨⟩ (outT σ x):=by
 simp only [vO,dQ,aQ,bU]
@[go_sem ↓] theorem QL : W k u (oJ σ [] []) ↔ k ([],σ):=by simp only [oJ,dQ,bC]
@[go_sem ↓] theorem PI {l:PL} {ls:List PL} {x:TV} {xs:List TV}:W k u (oJ σ (l :: ls) (x :: xs)) ↔ W (fun p=>W (fun r=>k (p.1 :: r.1,r.2)) ⟨⟩ (oJ p.2 ls xs)) ⟨⟩ (jS σ l x):=by
 simp only [oJ,dQ,aQ,bU]
end
section
variable {k : AV × St → Prop} {u:Tok k}
@[go_sem ↓] theorem Lj {x:PL}:W k u (BS none σ (.one x)) ↔ W (fun p=>k (.one p.1,p.2)) ⟨⟩ (outT σ x):=by simp only [BS,P8,dQ,bU]
@[go_sem ↓] theorem Ll {xs:List PL}:W k u (BS none σ (.agg xs)) ↔ W (fun p=>k (.agg p.1,p.2)) ⟨⟩ (vO σ xs):=by simp only [BS,P8,dQ,bU]
@[go_sem ↓] theorem Uq {sz:Nat} {x:PL}:W k u (BS (some sz) σ (.one x)) ↔ W (fun p=>k (.one p.1,p.2)) ⟨⟩ (BR sz σ x):=by simp only [BS,dQ,bU]
@[go_sem ↓] theorem Ur {l:PL} {x:TV}:W k u (xI σ (.one l) (.one x)) ↔ W (fun p=>k (.one p.1,p.2)) ⟨⟩ (jS σ l x):=by simp only [xI,dQ,bU]
@[go_sem ↓] theorem Us {l:List PL} {x:List TV}:W k u (xI σ (.agg l) (.agg x)) ↔ W (fun p=>k (.agg p.1,p.2)) ⟨⟩ (oJ σ l x):=by simp only [xI,dQ,bU]
end
section
variable {k : List AV × St → Prop} {u:Tok k}
@[go_sem ↓] theorem Ut {fl:List (Option Nat)}:W k u (mI fl σ []) ↔ k ([],σ):=by simp only [mI,dQ,bC]
@[go_sem ↓] theorem QM {fl:List (Option Nat)} {x:CV} {xs:List CV}:W k u (mI fl σ (x :: xs)) ↔ W (fun p=>W (fun r=>k (p.1 :: r.1,r.2)) ⟨⟩ (mI fl.tail p.2 xs)) ⟨⟩ (BS (fl.headD none) σ x):=by
 simp only [mI,dQ,aQ,bU]
@[go_sem ↓] theorem QN : W k u (j6 σ [] []) ↔ k ([],σ):=by simp only [j6,dQ,bC]
@[go_sem ↓] theorem PK {l:CV} {ls:List CV} {x:AV} {xs:List AV}:W k u (j6 σ (l :: ls) (x :: xs)) ↔ W (fun p=>W (fun r=>k (p.1 :: r.1,r.2)) ⟨⟩ (j6 p.2 ls xs)) ⟨⟩ (xI σ l x):=by
 simp only [j6,dQ,aQ,bU]
end
section
variable {k : St → Prop} {u:Tok k} {gv:Bool} {d:Nat} {args:List CV} {p:List AV × St} {r:List AV × List AV} {s:St}
@[go_sem ↓] theorem afO : W k u (GH gv args p r) ↔ (if (!gv && ((r.1.any wH || !p.1.all fJ) && args.any (fun x=>(cells x).any gD))) = true then W k ⟨⟩ (sJ p.2 args) else k p.2):=by
 simp only [GH,dQ]
 split
 ·exact aje
 ·exact bC
@[go_sem ↓] theorem afP : W k u (GI d σ args p r s) ↔ (if p.1.all fJ = true then k s else W k ⟨⟩ (zN σ (args.flatMap cells) (dA d + 10000) s args r.2)):=by
 simp only [GI,dQ]
 split
 ·exact bC
 ·exact aje
end
end
section
variable {σ : St} {ks BO:List Nat} {rws:List (Nat × Nat)}
@[go_sem] theorem afQ : res ks BO rws σ = ⟨pick ks (jg σ rws).tm,pick BO (jg σ rws).ob⟩:=rfl
@[go_sem] theorem adJ : jg σ [] = σ:=rfl
end
attribute [go_sem] if_true if_false true_and and_true Bool.not_false Bool.not_true Bool.and_false Bool.false_and Bool.and_true Bool.true_and Bool.or_false Bool.false_or Bool.or_true Bool.true_or Bool.false_eq_true not_true_eq_false not_false_eq_true ne_eq forall_const and_self implies_true KV.one.injEq KV.agg.injEq SV.str.injEq SV.int.injEq SV.bool.injEq List.cons.injEq List.getElem?_cons_zero List.getElem?_cons_succ List.getD_cons_zero List.getD_cons_succ List.contains_cons List.contains_nil decide_true decide_false fresh
end Go.Proofs.YtfokaoeinpnagaaGreat.Ev
namespace Go.Proofs.YtfokaoeinpnagaaGreat.Kc
section
open Go Ev
def av (d:Nat) (i:I):G:=⟨some d,none,i⟩
def dh (i:I):G:=⟨none,none,i⟩
def bB (d s:Nat) (b:Bool) (i:I):G:=⟨some d,some (some s,b),i⟩
def bK (n:Int):dM:=.k (.one (.f (.int .i64 n)))
def aG : PL:=.f (.int .i64 0)
def bI : PL:=.f (.str ⟨#[]⟩)
def dR (a b s:Nat):Nat × Nat × dM:=⟨a,b,.t s⟩
def eG : dM:=.k (.one (.f (.bool true)))
def dF : dM:=.k (.one (.f (.bool false)))
def aD (d s:Nat):G:=⟨some d,none,.mv (.t s)⟩
def cK (d s:Nat):G:=⟨some d,none,.load 1 false (.t s)⟩
def dH (d n s:Nat):G:=⟨some d,none,.load n true (.t s)⟩
def bP (d f s:Nat):G:=⟨some d,none,.fa f (.t s)⟩
def aV (a:List G) (b:List Nat) (c:CC):CC:=.seq (.reg a b) c
def c48 : CF:=⟨1,[(.t 2)],[],[],(aV [av 2 (.mv (.k (.one .iU)))] [0] (.seq (aV [aD 3 0,av 4 (.cmp .lt (.t 3) (bK 1)),aD 5 4,bB 6 5 false (.mv (.t 0)),bB 7 5 false (.cmp .gt (.t 6) (bK 1000)),av 8 (.pick (.t 5) eG (.t 7))] [0,8] (.cond (.t 8) (aV [av 2 (.mv (.k (.one .iU)))] [2] .ret) .skip)) (aV [aD 9 0,av 10 (.pK (.agg [.str,(.int .i64),(.int .i64)])),av 11 (.build [aG,.fA,.bY,aG] [dR 0 1 9,dR 1 1 10]),av 12 (.box 162 (.t 11)),aD 2 12] [2] .ret)))⟩
def c43 : CF:=⟨3,[(.cell 6 7 true),(.t 7)],[],[],(aV [av 5 (.box 24 (.t 2)),av 6 (.alloc 106 [bI,aG,aG,.bY,aG,aG,aG]),av 7 (.mv dF)] [0,1,5,6] (.seq (aV [aD 10 0,av 11 (.xq false (.t 10))] [0,1,5,6,11] (.cond (.t 11) (aV [av 12 (.build [bI,aG,aG,.bY,aG,aG,aG] []),dh (.store 7 (.t 6) (.t 12)),av 7 (.mv dF)] [6,7] .ret) .skip)) (.seq (.sD [⟨aD 14 0,[180000]⟩,⟨av 15 (.gZ (.t 14)),[180000]⟩,⟨bP 16 1 15,[180000]⟩,⟨cK 17 16,[180000]⟩,⟨dH 18 3 5,[180000]⟩,⟨⟨(some 19),none,(.look (.agg [.str,(.int .i64),(.int .i64)]) (.agg [(.str ⟨#[]⟩),(.int .i64 0),(.int .i64 0),(.sl []),(.int .i64 0),(.int .i64 0),(.int .i64 0)]) true (.t 17) (.t 18))⟩,[180000]⟩,⟨aD 13 19,[180000]⟩,⟨av 20 (.ext (.t 13) 0),[180000]⟩,⟨av 21 (.ext (.t 13) 1),[180000]⟩,⟨av 8 (.alloc 106 [bI,aG,aG,.bY,aG,aG,aG]),[]⟩] [8] [dh (.store 7 (.t 8) (.t 20))] [aD 9 21] [1,6,8,9]) (.seq (aV [aD 22 9,av 23 (.no (.t 22)),aD 24 23,bB 25 24 false (.mv (.t 1)),bB 26 24 false (.fa 5 (.t 8)),bB 27 24 false (.load 1 false (.t 26)),bB 28 24 false (.call false 78 [(.t 25),(.t 27)]),bB 29 24 false (.no (.t 28)),av 30 (.pick (.t 24) eG (.t 29))] [6,8,30] (.cond (.t 30) (aV [av 31 (.build [bI,aG,aG,.bY,aG,aG,aG] []),dh (.store 7 (.t 6) (.t 31)),av 7 (.mv dF)] [6,7] .ret) .skip)) (aV [dH 32 7 8,av 33 (.call false 79 [(.t 32)]),dh (.store 7 (.t 6) (.t 33)),av 7 (.mv eG)] [6,7] .ret)))))⟩
def c45 : CF:=⟨1,[(.t 2)],[],[],(aV [av 1 (.box 42 (.t 0)),av 2 (.mv dF)] [1] (.seq (aV [av 3 (.mv (bK 0))] [1,3] (.block 0 (.loop [1,3] [20802,40000] [] (.seq (aV [aD 4 3,bP 5 3 1,cK 6 5,av 7 (.iB (.t 6)),av 8 (.cmp .lt (.t 4) (.t 7))] [1,3,8] (.cond (.t 8) .skip (.exit 0))) (.seq (.block 1 (aV [bP 11 3 1,cK 12 11,aD 13 3,av 14 (.ia 1 (.t 12) (.t 13)),cK 15 14,av 16 (.xw (.t 15)),av 17 (.cmp .gt (.t 16) (bK 2000)),aD 18 17,bB 19 18 false (.fa 3 (.t 1)),bB 20 18 false (.load 1 false (.t 19)),bB 21 18 false (.iB (.t 20)),bB 22 18 false (.cmp .gt (.t 21) (bK 60)),av 23 (.pick (.t 18) eG (.t 22))] [1,3,23] (.cond (.t 23) (aV [av 2 (.mv dF)] [2] .ret) .skip))) (.reg [aD 9 3,av 10 (.ar .add (.t 9) (bK 1)),aD 3 10] [1,3])))))) (aV [bP 24 0 1,bP 25 0 24,cK 26 25,av 27 (.xw (.t 26)),av 28 (.cmp .le (.t 27) (bK 300)),aD 2 28] [2] .ret)))⟩
def c82 : CF:=⟨2,[(.t 4)],[],[],(aV [av 4 (.mv (bK 0))] [0,1] (.seq (aV [aD 5 0,av 6 (.call false 111 [(.t 5),(bK 1099511627776)]),av 7 (.no (.t 6)),aD 8 7,bB 9 8 false (.mv (.t 1)),bB 10 8 false (.cmp .lt (.t 9) (bK 0)),av 11 (.pick (.t 8) eG (.t 10))] [0,1,11] (.cond (.t 11) (aV [av 4 (.mv (bK (-1)))] [4] .ret) .skip)) (aV [aD 12 0,aD 13 1,av 14 (.mn (.t 13) (bK 604800)),av 15 (.ar .add (.t 12) (.t 14)),aD 4 15] [4] .ret)))⟩
def WQ : CF:=⟨3,[(.t 6)],[],[],(aV [av 5 (.box 106 (.t 2)),av 6 (.mv (bK 0))] [0,1,5] (.seq (aV [aD 9 0,av 10 (.xq false (.t 9)),aD 11 10,bB 12 11 false (.fa 5 (.t 5)),bB 13 11 false (.load 1 false (.t 12)),bB 14 11 false (.cmp .lt (.t 13) (bK 0)),av 15 (.pick (.t 11) eG (.t 14)),aD 16 15,bB 17 16 false (.fa 0 (.t 5)),bB 18 16 false (.load 5 true (.t 17)),bB 19 16 false (.call false 113 [(.t 18)]),bB 20 16 false (.no (.t 19)),av 21 (.pick (.t 16) eG (.t 20)),aD 22 21,bB 23 22 false (.fa 6 (.t 5)),bB 24 22 false (.load 1 false (.t 23)),bB 25 22 false (.cmp .lt (.t 24) (bK 1)),av 26 (.pick (.t 22) eG (.t 25)),aD 27 26,bB 28 27 false (.fa 6 (.t 5)),bB 29 27 false (.load 1 false (.t 28)),bB 30 27 false (.cmp .gt (.t 29) (bK 5)),av 31 (.pick (.t 27) eG (.t 30))] [0,1,5,31] (.cond (.t 31) (aV [av 6 (.mv (bK 1))] [6] .ret) .skip)) (.seq (aV [aD 32 1,bP 33 5 5,cK 34 33,av 35 (.call false 78 [(.t 32),(.t 34)]),av 36 (.no (.t 35))] [0,1,5,36] (.cond (.t 36) (aV [av 6 (.mv (bK 14))] [6] .ret) .skip)) (.seq (.sD [⟨aD 38 0,[160000]⟩,⟨av 39 (.gZ (.t 38)),[160000]⟩,⟨bP 40 1 39,[160000]⟩,⟨cK 41 40,[160000]⟩,⟨bP 42 0 5,[160000]⟩,⟨bP 43 0 42,[160000]⟩,⟨dH 44 3 43,[160000]⟩,⟨⟨(some 45),none,(.look (.agg [.str,(.int .i64),(.int .i64)]) (.agg [(.str ⟨#[]⟩),(.int .i64 0),(.int .i64 0),(.sl []),(.int .i64 0),(.int .i64 0),(.int .i64 0)]) true (.t 41) (.t 44))⟩,[160000]⟩,⟨aD 37 45,[160000]⟩,⟨av 46 (.ext (.t 37) 0),[160000]⟩,⟨av 47 (.ext (.t 37) 1),[160000]⟩,⟨av 7 (.alloc 106 [bI,aG,aG,.bY,aG,aG,aG]),[]⟩] [10] [dh (.store 7 (.t 7) (.t 46))] [aD 8 47] [1,5,7,8]) (.seq (.seq (.sD [⟨aD 48 8,[]⟩,⟨aD 49 48,[]⟩,⟨bB 50 49 true (.fa 6 (.t 7)),[]⟩,⟨bB 51 49 true (.load 1 false (.t 50)),[]⟩,⟨bB 52 49 true (.mv (.t 1)),[]⟩,⟨bB 53 49 true (.fa 5 (.t 7)),[]⟩,⟨bB 54 49 true (.load 1 false (.t 53)),[]⟩,⟨bB 55 49 true (.call false 78 [(.t 52),(.t 54)]),[]⟩,⟨bB 56 49 true (.fa 6 (.t 5)),[]⟩,⟨bB 57 49 true (.load 1 false (.t 56)),[]⟩] [] [] [bB 58 49 true (.call false 114 [(.t 51),(.t 55),(.t 57)]),bB 59 49 true (.no (.t 58)),av 60 (.pick (.t 49) (.t 59) dF)] [60]) (.cond (.t 60) (aV [av 6 (.mv (bK 10))] [6] .ret) .skip)) (aV [av 6 (.mv (bK 0))] [6] .ret))))))⟩
def c79 : CF:=⟨1,[(.cell 2 7 true)],[],[],(aV [av 1 (.box 106 (.t 0)),av 2 (.alloc 106 [bI,aG,aG,.bY,aG,aG,aG])] [1,2] (aV [bP 3 0 1,bP 4 3 3,cK 5 4,av 6 (.call false 72 [(.t 5)]),bP 7 0 1,bP 8 3 7,dh (.store 1 (.t 8) (.t 6))] [1,2] (aV [dH 9 7 1,dh (.store 7 (.t 2) (.t 9))] [2] .ret)))⟩
def c85 : CF:=⟨2,[(.t 4),(.t 5)],[],[],(aV [av 4 (.mv (.k (.one .bY))),av 5 (.mv (.k (.one .bY)))] [0,1] (aV [aD 7 0,av 8 (.iB (.t 7)),aD 9 1,aD 10 0,av 11 (.iB (.t 10)),av 12 (.mn (.t 9) (.t 11)),av 13 (.mx (.t 12) (bK 0)),av 14 (.ar .sub (.t 8) (.t 13)),aD 6 14] [0,6] (.seq (.sD [⟨aD 15 0,[]⟩,⟨aD 16 6,[]⟩,⟨av 17 (.cut 3 (.t 15) (some (.t 16)) none),[]⟩,⟨av 18 (.call false 115 [(.t 17)]),[]⟩,⟨aD 19 0,[]⟩,⟨aD 20 6,[]⟩,⟨av 21 (.cut 3 (.t 19) none (some (.t 20))),[]⟩] [] [] [av 22 (.call false 115 [(.t 21)]),aD 4 18,aD 5 22] [4,5]) .ret)))⟩
def c86 : CF:=⟨2,[(.t 4)],[],[],(aV [av 3 (.box 24 (.t 1)),av 4 (.mv (.k (.one .bY)))] [0,3] (.seq (.sD [⟨aD 5 0,[160000,200000]⟩,⟨dH 6 3 3,[160000,200000]⟩,⟨av 7 (.zK 116 [(.t 5),(.t 6)]),[200000]⟩,⟨dH 8 3 3,[160000,200000]⟩,⟨av 9 (.zH 24 3 1 [bI,aG,aG] [dR 0 3 8]),[160000]⟩] [] [] [av 10 (.app 24 3 32 (.t 7) (.t 9)),aD 4 10] [4]) .ret))⟩
def c78 : CF:=⟨2,[(.t 4)],[],[],(aV [av 4 (.mv dF)] [0,1] (aV [aD 5 0,av 6 (.call false 111 [(.t 5),(bK 1099511627776)]),aD 7 6,bB 8 7 true (.mv (.t 0)),bB 9 7 true (.mv (.t 1)),bB 10 7 true (.cmp .lt (.t 8) (.t 9)),av 11 (.pick (.t 7) (.t 10) dF),aD 4 11] [4] .ret))⟩
def c116 : CF:=⟨2,[(.t 4)],[some 3],[],(aV [av 3 (.box 24 (.t 1)),av 4 (.mv (.k (.one .bY)))] [0,3] (aV [aD 5 0,av 6 (.call false 115 [(.t 5)]),av 7 (.PX 135 [(.t 3)]),av 8 (.call true 134 [(.t 6),(.t 7)]),aD 4 8] [4] .ret))⟩
def QO : CF:=⟨1,[(.t 2)],[],[],(aV [av 1 (.box 42 (.t 0)),av 2 (.mv dF)] [1] (aV [bP 6 0 1,dH 7 3 6,av 3 (.alloc 24 [bI,aG,aG]),dh (.store 3 (.t 3) (.t 7))] [1,3] (.seq (.seq (.sD [⟨bP 8 0 3,[]⟩,⟨cK 9 8,[]⟩,⟨av 10 (.call false 109 [(.t 9)]),[]⟩,⟨av 11 (.no (.t 10)),[]⟩,⟨aD 12 11,[]⟩,⟨bB 13 12 false (.fa 0 (.t 3)),[]⟩,⟨bB 14 12 false (.load 1 false (.t 13)),[]⟩,⟨bB 15 12 false (.call false 68 [(.t 14)]),[]⟩,⟨bB 16 12 false (.fa 0 (.t 3)),[]⟩,⟨bB 17 12 false (.load 1 false (.t 16)),[]⟩] [] [] [bB 18 12 false (.ru (.one .str) true (.t 15) (.t 17)),av 19 (.pick (.t 12) eG (.t 18)),aD 20 19,bB 21 20 false (.fa 1 (.t 3)),bB 22 20 false (.load 1 false (.t 21)),bB 23 20 false (.call false 131 [(.t 22),(bK 65535)]),bB 24 20 false (.no (.t 23)),av 25 (.pick (.t 20) eG (.t 24)),aD 26 25,bB 27 26 false (.fa 2 (.t 3)),bB 28 26 false (.load 1 false (.t 27)),bB 29 26 false (.call false 131 [(.t 28),(bK 65535)]),bB 30 26 false (.no (.t 29)),av 31 (.pick (.t 26) eG (.t 30)),aD 32 31,bB 33 32 false (.fa 4 (.t 1)),bB 34 32 false (.load 1 false (.t 33)),bB 35 32 false (.call false 131 [(.t 34),(bK 2147483647)]),bB 36 32 false (.no (.t 35)),av 37 (.pick (.t 32) eG (.t 36))] [1,3,37]) (.cond (.t 37) (aV [av 2 (.mv dF)] [2] .ret) .skip)) (.seq (aV [bP 38 3 1,cK 39 38,av 40 (.iB (.t 39)),av 41 (.mv (bK 0))] [1,3,39,40,41] (.block 0 (.loop [1,3,39,40,41] [20802,40000,80000] [] (aV [av 42 (.cmp .lt (.t 41) (.t 40))] [1,3,39,40,41,42] (.seq (.cond (.t 42) .skip (.exit 0)) (.seq (.block 1 (aV [aD 43 41,av 44 (.ia 1 (.t 39) (.t 41)),cK 45 44,aD 4 43,aD 5 45] [1,3,4,5,39,40,41] (aV [bP 46 1 3,cK 47 46,aD 48 5,av 49 (.call false 128 [(.t 47),(.t 48)]),av 50 (.no (.t 49)),aD 51 50,bB 52 51 false (.fa 1 (.t 3)),bB 53 51 false (.load 1 false (.t 52)),bB 54 51 false (.mv (.t 5)),bB 55 51 false (.call false 132 [(.t 53),(.t 54)]),bB 56 51 false (.mv (.t 5)),bB 57 51 false (.ru (.one .str) true (.t 55) (.t 56)),av 58 (.pick (.t 51) eG (.t 57)),aD 59 58,bB 60 59 false (.fa 3 (.t 1)),bB 61 59 false (.load 1 false (.t 60)),bB 62 59 false (.mv (.t 4)),bB 63 59 false (.cut 1 (.t 61) none (some (.t 62))),bB 64 59 false (.mv (.t 5)),bB 65 59 false (.call false 133 [(.t 63),(.t 64)]),av 66 (.pick (.t 59) eG (.t 65))] [1,3,39,40,41,66] (.cond (.t 66) (aV [av 2 (.mv dF)] [2] .ret) .skip)))) (.reg [av 67 (.ar .add (.t 41) (bK 1)),aD 41 67] [1,3,39,40,41]))))))) (aV [bP 68 3 1,cK 69 68,av 70 (.iB (.t 69)),av 71 (.cmp .gt (.t 70) (bK 0)),aD 2 71] [2] .ret)))))⟩
def QS : CF:=⟨2,[(.t 4)],[],[],(aV [av 4 (.mv dF)] [0,1] (aV [aD 5 0,av 6 (.cmp .ge (.t 5) (bK 0)),aD 7 6,bB 8 7 true (.mv (.t 0)),bB 9 7 true (.mv (.t 1)),bB 10 7 true (.cmp .le (.t 8) (.t 9)),av 11 (.pick (.t 7) (.t 10) dF),aD 4 11] [4] .ret))⟩
def QT : CF:=⟨3,[(.t 6)],[],[],(aV [av 6 (.mv dF)] [0,1,2] (aV [aD 7 2,av 8 (.call false 122 [(.t 7),(bK 1)]),aD 9 8,bB 10 9 true (.mv (.t 1)),bB 11 9 true (.no (.t 10)),bB 12 9 true (.mv (.t 11)),bB 13 12 false (.mv (.t 2)),bB 14 12 false (.mv (.t 0)),bB 15 12 false (.cmp .ge (.t 13) (.t 14)),bB 16 9 true (.pick (.t 12) eG (.t 15)),av 17 (.pick (.t 9) (.t 16) dF),aD 6 17] [6] .ret))⟩
def QU : CF:=⟨2,[(.t 4)],[some 3],[],(aV [av 4 (.mv (.k (.one .bY)))] [0,1] (aV [aD 8 0,aD 9 1,av 10 (.call false 149 [(.t 8),(.t 9)]),aD 5 10] [0,1,5] (.seq (aV [aD 11 5,av 12 (.cmp .eq (.t 11) (bK (-1)))] [0,1,5,12] (.cond (.t 12) (aV [aD 13 0,aD 4 13] [4] .ret) .skip)) (.seq (aV [aD 14 5,av 15 (.ar .add (.t 14) (bK 1)),aD 6 15] [0,1,5,6] (.block 0 (.loop [0,1,5,6] [20202] [] (.seq (aV [aD 16 6,aD 17 0,av 18 (.iB (.t 17)),av 19 (.cmp .lt (.t 16) (.t 18))] [0,1,5,6,19] (.cond (.t 19) .skip (.exit 0))) (.seq (.block 1 (aV [aD 22 0,aD 23 6,av 24 (.ia 3 (.t 22) (.t 23)),dH 25 3 24,av 7 (.alloc 24 [bI,aG,aG]),dh (.store 3 (.t 7) (.t 25))] [0,1,5,6,7] (aV [aD 26 1,dH 27 3 7,av 28 (.dyn (.t 26) [(.t 27)]),av 29 (.no (.t 28))] [0,1,5,6,7,29] (.cond (.t 29) (aV [aD 30 0,aD 31 5,dH 32 3 7,av 33 (.ia 3 (.t 30) (.t 31)),dh (.store 3 (.t 33) (.t 32))] [0,1,5,6] (.reg [aD 34 5,av 35 (.ar .add (.t 34) (bK 1)),aD 5 35] [0,1,5,6])) .skip)))) (.reg [aD 20 6,av 21 (.ar .add (.t 20) (bK 1)),aD 6 21] [0,1,5,6])))))) (aV [aD 36 0,aD 37 5,av 38 (.cutV 3 (.t 36) (.t 37)),⟨none,none,(.TB 3 [(.str ⟨#[]⟩),(.int .i64 0),(.int .i64 0)] (.t 38))⟩] [0,5] (aV [aD 39 0,aD 40 5,av 41 (.DZ 3 (.t 39) (.t 40)),aD 4 41] [4] .ret))))))⟩
def QV : CF:=⟨2,[(.t 3)],[none],[],(aV [av 2 (.box 24 (.t 0)),av 3 (.mv dF)] [1,2] (aV [dH 4 3 2,dH 5 3 1,av 6 (.ru (.agg [.str,(.int .i64),(.int .i64)]) false (.t 4) (.t 5)),aD 3 6] [3] .ret))⟩
def c131 : CF:=⟨2,[(.t 4)],[],[],(aV [av 4 (.mv dF)] [0,1] (aV [aD 5 0,av 6 (.cmp .ge (.t 5) (bK 0)),aD 7 6,bB 8 7 true (.mv (.t 0)),bB 9 7 true (.mv (.t 1)),bB 10 7 true (.cmp .le (.t 8) (.t 9)),av 11 (.pick (.t 7) (.t 10) dF),aD 4 11] [4] .ret))⟩
def QW : CF:=⟨2,[(.t 4)],[],[],(aV [av 4 (.mv dF)] [0,1] (aV [aD 5 0,aD 6 1,av 7 (.call false 148 [(.t 5),(.t 6)]),av 8 (.cmp .ge (.t 7) (bK 0)),aD 4 8] [4] .ret))⟩
def QX : CF:=⟨2,[(.t 4)],[],[],(aV [av 4 (.mv dF)] [0,1] (aV [aD 5 0,aD 6 1,av 7 (.cmp .ge (.t 5) (.t 6)),aD 8 7,bB 9 8 true (.mv (.t 0)),bB 10 8 true (.cmp .le (.t 9) (bK 5)),av 11 (.pick (.t 8) (.t 10) dF),aD 4 11] [4] .ret))⟩
def QY : CF:=⟨2,[(.t 4)],[],[],(aV [av 4 (.mv (bK 0))] [0,1] (.seq (aV [aD 6 0,av 7 (.iB (.t 6)),av 8 (.mv (bK 0))] [0,1,7,8] (.block 0 (.loop [0,1,7,8] [20202] [] (aV [av 9 (.cmp .lt (.t 8) (.t 7))] [0,1,7,8,9] (.seq (.cond (.t 9) .skip (.exit 0)) (.seq (.block 1 (aV [aD 10 8,aD 5 10] [0,1,5,7,8] (aV [aD 11 1,aD 12 0,aD 13 5,av 14 (.ia 3 (.t 12) (.t 13)),dH 15 3 14,av 16 (.dyn (.t 11) [(.t 15)])] [0,1,5,7,8,16] (.cond (.t 16) (aV [aD 17 5,aD 4 17] [4] .ret) .skip)))) (.reg [av 18 (.ar .add (.t 8) (bK 1)),aD 8 18] [0,1,7,8]))))))) (aV [av 4 (.mv (bK (-1)))] [4] .ret)))⟩
def c148 : CF:=⟨2,[(.t 4)],[],[],(aV [av 4 (.mv (bK 0))] [0,1] (.seq (aV [aD 6 0,av 7 (.iB (.t 6)),av 8 (.mv (bK 0))] [0,1,7,8] (.block 0 (.loop [0,1,7,8] [20202] [] (aV [av 9 (.cmp .lt (.t 8) (.t 7))] [0,1,7,8,9] (.seq (.cond (.t 9) .skip (.exit 0)) (.seq (.block 1 (aV [aD 10 8,aD 5 10] [0,1,5,7,8] (aV [aD 11 1,aD 12 0,aD 13 5,av 14 (.ia 1 (.t 12) (.t 13)),cK 15 14,av 16 (.ru (.one .str) false (.t 11) (.t 15))] [0,1,5,7,8,16] (.cond (.t 16) (aV [aD 17 5,aD 4 17] [4] .ret) .skip)))) (.reg [av 18 (.ar .add (.t 8) (bK 1)),aD 8 18] [0,1,7,8]))))))) (aV [av 4 (.mv (bK (-1)))] [4] .ret)))⟩
def c49 : CF:=⟨1,[(.t 2)],[],[],(aV [av 2 (.mv (.k (.one .iU)))] [0] (.seq (aV [aD 3 0,av 4 (.cmp .lt (.t 3) (bK 1)),aD 5 4,bB 6 5 false (.mv (.t 0)),bB 7 5 false (.cmp .gt (.t 6) (bK 1000)),av 8 (.pick (.t 5) eG (.t 7))] [0,8] (.cond (.t 8) (aV [av 2 (.mv (.k (.one .iU)))] [2] .ret) .skip)) (aV [aD 9 0,av 10 (.pK (.agg [.str,(.int .i64),(.int .i64)])),av 11 (.build [aG,.fA,.bY,aG] [dR 0 1 9,dR 1 1 10]),av 12 (.box 169 (.t 11)),aD 2 12] [2] .ret)))⟩
def c87 : CF:=⟨1,[(.t 2),(.t 3)],[],[],(aV [av 1 (.box 42 (.t 0)),av 2 (.mv (bK 0)),av 3 (.mv dF)] [1] (.seq (aV [bP 7 0 1,bP 8 1 7,cK 9 8,av 10 (.cmp .ne (.t 9) (bK 6)),aD 11 10,bB 12 11 false (.load 5 true (.t 1)),bB 13 11 false (.call false 113 [(.t 12)]),bB 14 11 false (.no (.t 13)),av 15 (.pick (.t 11) eG (.t 14))] [1,15] (.cond (.t 15) (aV [av 2 (.mv (bK 0)),av 3 (.mv dF)] [2,3] .ret) .skip)) (aV [bP 16 3 1,cK 17 16,av 18 (.ia 1 (.t 17) (bK 0)),cK 19 18,aD 4 19] [1,4] (aV [aD 21 4,aD 22 4,av 23 (.xw (.t 22)),av 24 (.ar .sub (.t 23) (bK 4)),av 25 (.call false 117 [(.t 21),(.t 24),(bK 4)]),aD 20 25,av 26 (.ext (.t 20) 0),av 27 (.ext (.t 20) 1),aD 5 26,aD 6 27] [1,5] (aV [aD 28 5,bP 29 4 1,cK 30 29,av 31 (.mn (.t 28) (.t 30)),aD 2 31,av 3 (.mv eG)] [2,3] .ret)))))⟩
def c51 : CF:=⟨5,[(.t 10)],[],[],(aV [av 7 (.box 24 (.t 2)),av 9 (.box 42 (.t 4)),av 10 (.mv (bK 0))] [0,1,3,7,9] (aV [dH 19 5 9,av 20 (.call false 87 [(.t 19)]),aD 18 20,av 21 (.ext (.t 18) 0),av 22 (.ext (.t 18) 1),aD 11 21,aD 12 22] [0,1,3,7,9,11,12] (aV [aD 23 1,aD 24 11,av 25 (.call false 82 [(.t 23),(.t 24)]),aD 13 25] [0,1,3,7,9,12,13] (.seq (.block 0 (aV [aD 27 0,av 28 (.xq false (.t 27)),aD 29 28,bB 30 29 false (.mv (.t 12)),bB 31 29 false (.no (.t 30)),av 32 (.pick (.t 29) eG (.t 31)),aD 33 32,bB 34 33 false (.mv (.t 13)),bB 35 33 false (.cmp .eq (.t 34) (bK (-1))),av 36 (.pick (.t 33) eG (.t 35)),aD 37 36,bB 38 37 false (.load 3 true (.t 7)),bB 39 37 false (.call false 88 [(.t 38)]),bB 40 37 false (.no (.t 39)),av 41 (.pick (.t 37) eG (.t 40)),aD 26 41] [0,1,3,7,9,13,26] (.cond (.t 26) (aV [av 10 (.mv (bK 1))] [10] .ret) (aV [aD 43 1,aD 44 13,av 45 (.call false 78 [(.t 43),(.t 44)]),av 46 (.no (.t 45)),aD 42 46] [0,3,7,9,13,42] (.cond (.t 42) (aV [av 10 (.mv (bK 14))] [10] .ret) .skip))))) (.seq (aV [aD 47 3] [0,3,7,9,13,47] (.cond (.t 47) (.reg [dH 48 3 7,av 49 (.call false 89 [(.t 48)]),dh (.store 3 (.t 7) (.t 49))] [0,3,7,9,13]) .skip)) (.seq (.sD [⟨aD 50 0,[]⟩,⟨av 51 (.gZ (.t 50)),[]⟩,⟨bP 52 1 51,[]⟩,⟨cK 53 52,[]⟩,⟨dH 54 3 7,[]⟩,⟨dH 55 3 7,[]⟩,⟨aD 56 3,[]⟩,⟨dH 57 5 9,[]⟩,⟨aD 58 13,[]⟩,⟨av 59 (.build [bI,aG,aG,(.f (.bool false)),bI,aG,aG,.bY,aG,aG] [dR 0 3 55,dR 3 1 56,dR 4 5 57,dR 9 1 58]),[]⟩,⟨av 60 (.call false 90 [(.t 59)]),[]⟩] [] [] [dh (.xu (.agg [.str,(.int .i64),(.int .i64)]) (.t 53) (.t 54) (.t 60))] [0,7]) (.seq (.sD [⟨aD 62 0,[]⟩,⟨av 63 (.gZ (.t 62)),[]⟩,⟨bP 64 2 63,[]⟩,⟨cK 65 64,[]⟩,⟨dH 66 3 7,[]⟩,⟨av 67 (.call false 86 [(.t 65),(.t 66)]),[]⟩,⟨aD 68 0,[]⟩,⟨av 69 (.gZ (.t 68)),[]⟩,⟨bP 70 0 69,[]⟩,⟨cK 71 70,[]⟩,⟨av 72 (.call false 85 [(.t 67),(.t 71)]),[]⟩,⟨aD 61 72,[]⟩,⟨av 73 (.ext (.t 61) 0),[]⟩,⟨av 74 (.ext (.t 61) 1),[]⟩,⟨aD 14 73,[]⟩] [] [] [aD 15 74] [0,14,15]) (.seq (aV [aD 75 15,av 76 (.iB (.t 75)),av 77 (.mv (bK 0))] [0,14,75,76,77] (.block 1 (.loop [0,14,75,76,77] [20201,20205,20208,1460200,1462200] [] (aV [av 78 (.cmp .lt (.t 77) (.t 76))] [0,14,75,76,77,78] (.seq (.cond (.t 78) .skip (.exit 1)) (.seq (.block 2 (aV [av 79 (.ia 3 (.t 75) (.t 77)),dH 80 3 79,av 17 (.alloc 24 [bI,aG,aG]),dh (.store 3 (.t 17) (.t 80))] [0,14,17,75,76,77] (.sD [⟨aD 81 0,[]⟩,⟨av 82 (.gZ (.t 81)),[]⟩,⟨bP 83 1 82,[]⟩,⟨cK 84 83,[]⟩,⟨dH 85 3 17,[]⟩] [] [] [dh (.del (.agg [.str,(.int .i64),(.int .i64)]) (.t 84) (.t 85))] [0,14,75,76,77]))) (.reg [av 86 (.ar .add (.t 77) (bK 1)),aD 77 86] [0,14,75,76,77]))))))) (aV [aD 87 0,aD 88 14,av 89 (.gZ (.t 87)),bP 90 2 89,dh (.store 1 (.t 90) (.t 88))] [0] (aV [aD 91 0,av 92 (.gZ (.t 91)),bP 93 3 92,cK 94 93,av 95 (.ar .add (.t 94) (bK 1)),av 96 (.gZ (.t 91)),bP 97 3 96,dh (.store 1 (.t 97) (.t 95))] [] (aV [av 10 (.mv (bK 0))] [10] .ret)))))))))))⟩
def QZ : CF:=⟨3,[(.cell 6 10 true),(.t 7)],[],[],(aV [av 5 (.box 24 (.t 2)),av 6 (.alloc 178 [bI,aG,aG,(.f (.bool false)),bI,aG,aG,.bY,aG,aG]),av 7 (.mv dF)] [0,1,5,6] (.seq (aV [aD 12 0,av 13 (.xq false (.t 12))] [0,1,5,6,13] (.cond (.t 13) (aV [av 14 (.build [bI,aG,aG,(.f (.bool false)),bI,aG,aG,.bY,aG,aG] []),dh (.store 10 (.t 6) (.t 14)),av 7 (.mv dF)] [6,7] .ret) .skip)) (.seq (.seq (.sD [⟨dH 15 3 5,[380000]⟩,⟨av 16 (.call false 89 [(.t 15)]),[380000]⟩,⟨dH 17 3 5,[380000]⟩,⟨av 18 (.zH 24 3 2 [bI,aG,aG,bI,aG,aG] [dR 0 3 16,dR 3 3 17]),[]⟩,⟨av 19 (.iB (.t 18)),[]⟩,⟨av 20 (.mv (bK 0)),[380000]⟩] [] [] [] [0,1,6,18,19,20]) (.block 0 (.loop [0,1,6,18,19,20] [20201,20205,20208,140000,380000,841600] [] (aV [av 21 (.cmp .lt (.t 20) (.t 19))] [0,1,6,18,19,20,21] (.seq (.cond (.t 21) .skip (.exit 0)) (.seq (.block 1 (aV [av 22 (.ia 3 (.t 18) (.t 20)),dH 23 3 22,av 9 (.alloc 24 [bI,aG,aG]),dh (.store 3 (.t 9) (.t 23))] [0,1,6,9,18,19,20] (.seq (.sD [⟨aD 25 0,[220000]⟩,⟨av 26 (.gZ (.t 25)),[220000]⟩,⟨bP 27 1 26,[220000]⟩,⟨cK 28 27,[220000]⟩,⟨dH 29 3 9,[220000]⟩,⟨⟨(some 30),none,(.look (.agg [.str,(.int .i64),(.int .i64)]) (.agg [(.str ⟨#[]⟩),(.int .i64 0),(.int .i64 0),(.bool false),(.str ⟨#[]⟩),(.int .i64 0),(.int .i64 0),(.sl []),(.int .i64 0),(.int .i64 0)]) true (.t 28) (.t 29))⟩,[220000]⟩,⟨aD 24 30,[220000]⟩,⟨av 31 (.ext (.t 24) 0),[220000]⟩,⟨av 32 (.ext (.t 24) 1),[220000]⟩,⟨av 10 (.alloc 178 [bI,aG,aG,(.f (.bool false)),bI,aG,aG,.bY,aG,aG]),[]⟩] [8] [dh (.store 10 (.t 10) (.t 31))] [aD 11 32] [0,1,6,10,11,18,19,20]) (aV [aD 33 11,aD 34 33,bB 35 34 true (.mv (.t 1)),bB 36 34 true (.fa 9 (.t 10)),bB 37 34 true (.load 1 false (.t 36)),bB 38 34 true (.call false 78 [(.t 35),(.t 37)]),av 39 (.pick (.t 34) (.t 38) dF)] [0,1,6,10,18,19,20,39] (.cond (.t 39) (aV [dH 40 10 10,av 41 (.call false 90 [(.t 40)]),dh (.store 10 (.t 6) (.t 41)),av 7 (.mv eG)] [6,7] .ret) .skip))))) (.reg [av 42 (.ar .add (.t 20) (bK 1)),aD 20 42] [0,1,6,18,19,20]))))))) (aV [av 43 (.build [bI,aG,aG,(.f (.bool false)),bI,aG,aG,.bY,aG,aG] []),dh (.store 10 (.t 6) (.t 43)),av 7 (.mv dF)] [6,7] .ret))))⟩
def c88 : CF:=⟨1,[(.t 2)],[],[],(aV [av 1 (.box 24 (.t 0)),av 2 (.mv dF)] [1] (.seq (.sD [⟨bP 3 1 1,[]⟩,⟨cK 4 3,[]⟩,⟨av 5 (.cmp .gt (.t 4) (bK 0)),[]⟩,⟨aD 6 5,[]⟩,⟨bB 7 6 true (.fa 1 (.t 1)),[]⟩,⟨bB 8 6 true (.load 1 false (.t 7)),[]⟩,⟨bB 9 6 true (.cmp .le (.t 8) (bK 65535)),[]⟩,⟨av 10 (.pick (.t 6) (.t 9) dF),[]⟩,⟨aD 11 10,[]⟩,⟨bB 12 11 true (.fa 2 (.t 1)),[]⟩,⟨bB 13 11 true (.load 1 false (.t 12)),[]⟩,⟨bB 14 11 true (.cmp .ge (.t 13) (bK 0)),[]⟩,⟨av 15 (.pick (.t 11) (.t 14) dF),[]⟩,⟨aD 16 15,[]⟩,⟨bB 17 16 true (.fa 2 (.t 1)),[]⟩,⟨bB 18 16 true (.load 1 false (.t 17)),[]⟩,⟨bB 19 16 true (.cmp .le (.t 18) (bK 65535)),[]⟩,⟨av 20 (.pick (.t 16) (.t 19) dF),[]⟩,⟨aD 21 20,[]⟩,⟨bB 22 21 true (.fa 0 (.t 1)),[]⟩,⟨bB 23 21 true (.load 1 false (.t 22)),[]⟩,⟨bB 24 21 true (.call false 109 [(.t 23)]),[]⟩,⟨av 25 (.pick (.t 21) (.t 24) dF),[]⟩,⟨aD 26 25,[]⟩,⟨bB 27 26 true (.fa 0 (.t 1)),[]⟩,⟨bB 28 26 true (.load 1 false (.t 27)),[]⟩,⟨bB 29 26 true (.call false 68 [(.t 28)]),[]⟩,⟨bB 30 26 true (.fa 0 (.t 1)),[]⟩,⟨bB 31 26 true (.load 1 false (.t 30)),[]⟩] [] [] [bB 32 26 true (.ru (.one .str) false (.t 29) (.t 31)),av 33 (.pick (.t 26) (.t 32) dF),aD 2 33] [2]) .ret))⟩
def c89 : CF:=⟨1,[(.cell 2 3 true)],[],[],(aV [av 1 (.box 24 (.t 0)),av 2 (.alloc 24 [bI,aG,aG])] [1,2] (aV [bP 3 1 1,dh (.store 1 (.t 3) (bK 0))] [1,2] (aV [dH 4 3 1,dh (.store 3 (.t 2) (.t 4))] [2] .ret)))⟩
def c90 : CF:=⟨1,[(.cell 2 10 true)],[],[],(aV [av 1 (.box 178 (.t 0)),av 2 (.alloc 178 [bI,aG,aG,(.f (.bool false)),bI,aG,aG,.bY,aG,aG])] [1,2] (aV [bP 3 4 1,bP 4 3 3,cK 5 4,av 6 (.call false 72 [(.t 5)]),bP 7 4 1,bP 8 3 7,dh (.store 1 (.t 8) (.t 6))] [1,2] (aV [dH 9 10 1,dh (.store 10 (.t 2) (.t 9))] [2] .ret)))⟩
def c10 : CF:=⟨2,[(.t 4)],[],[],(aV [av 4 (.mv (bK 0))] [0,1] (.seq (aV [av 5 (.mv (bK 0))] [0,1,5] (.block 0 (.loop [0,1,5] [20202] [] (.seq (aV [aD 6 5,aD 7 0,av 8 (.iB (.t 7)),av 9 (.cmp .lt (.t 6) (.t 8))] [0,1,5,9] (.cond (.t 9) .skip (.exit 0))) (.seq (.block 1 (aV [aD 12 0,aD 13 5,av 14 (.ia 10 (.t 12) (.t 13)),bP 15 1 14,dH 16 5 15,av 17 (.call false 45 [(.t 16)]),av 18 (.no (.t 17)),aD 19 18,bB 20 19 false (.mv (.t 0)),bB 21 19 false (.mv (.t 5)),bB 22 19 false (.ia 10 (.t 20) (.t 21)),bB 23 19 false (.fa 7 (.t 22)),bB 24 19 false (.fa 0 (.t 23)),bB 25 19 false (.load 1 false (.t 24)),bB 26 19 false (.xw (.t 25)),bB 27 19 false (.cmp .gt (.t 26) (bK 300)),av 28 (.pick (.t 19) eG (.t 27))] [0,1,5,28] (.cond (.t 28) (aV [av 4 (.mv (bK 0))] [4] .ret) .skip))) (.reg [aD 10 5,av 11 (.ar .add (.t 10) (bK 1)),aD 5 11] [0,1,5])))))) (.seq (aV [aD 29 0,av 30 (.iB (.t 29)),aD 31 1,av 32 (.cmp .gt (.t 30) (.t 31))] [32] (.cond (.t 32) (aV [av 4 (.mv (bK 0))] [4] .ret) .skip)) (aV [av 4 (.mv (bK 1))] [4] .ret))))⟩
def c12 : CF:=⟨1,[(.t 2),(.t 3)],[],[0],(aV [av 2 (.mv (.k (.one .iU))),av 3 (.mv (.k (.one .iU)))] [0] (aV [av 7 (.call false 48 [(bK 50)]),aD 4 7] [0,4] (aV [av 8 (.call false 49 [(bK 50)]),aD 5 8] [0,4,5] (.seq (aV [av 6 (.mv (bK 0))] [0,4,5,6] (.block 0 (.loop [0,4,5,6] [30201,160200,160204,160206,180200,180204,180206] [] (.seq (aV [aD 9 6,aD 10 0,av 11 (.iB (.t 10)),av 12 (.cmp .lt (.t 9) (.t 11))] [0,4,5,6,12] (.cond (.t 12) .skip (.exit 0))) (.seq (.block 1 (aV [aD 15 0,aD 16 6,av 17 (.ia 10 (.t 15) (.t 16)),bP 18 6 17,cK 19 18,av 20 (.cmp .gt (.t 19) (bK 0))] [0,4,5,6,20] (.cond (.t 20) (.sD [⟨aD 21 4,[]⟩,⟨aD 22 0,[]⟩,⟨aD 23 6,[]⟩,⟨av 24 (.ia 10 (.t 22) (.t 23)),[]⟩,⟨bP 25 0 24,[]⟩,⟨cK 26 25,[]⟩,⟨aD 27 0,[]⟩,⟨aD 28 6,[]⟩,⟨av 29 (.ia 10 (.t 27) (.t 28)),[]⟩,⟨bP 30 1 29,[]⟩,⟨dH 31 5 30,[]⟩,⟨aD 32 0,[]⟩,⟨aD 33 6,[]⟩,⟨av 34 (.ia 10 (.t 32) (.t 33)),[]⟩,⟨bP 35 6 34,[]⟩,⟨cK 36 35,[]⟩] [] [] [av 37 (.call false 50 [(.t 21),(.t 26),(.t 31),(.t 36)])] [0,4,5,6]) (.sD [⟨aD 38 5,[]⟩,⟨aD 39 0,[]⟩,⟨aD 40 6,[]⟩,⟨av 41 (.ia 10 (.t 39) (.t 40)),[]⟩,⟨bP 42 0 41,[]⟩,⟨cK 43 42,[]⟩,⟨aD 44 0,[]⟩,⟨aD 45 6,[]⟩,⟨av 46 (.ia 10 (.t 44) (.t 45)),[]⟩,⟨bP 47 7 46,[]⟩,⟨dH 48 3 47,[]⟩,⟨aD 49 0,[]⟩,⟨aD 50 6,[]⟩,⟨av 51 (.ia 10 (.t 49) (.t 50)),[]⟩,⟨bP 52 6 51,[]⟩,⟨cK 53 52,[]⟩,⟨av 54 (.cmp .lt (.t 53) (bK 0)),[]⟩,⟨aD 55 0,[]⟩,⟨aD 56 6,[]⟩,⟨av 57 (.ia 10 (.t 55) (.t 56)),[]⟩,⟨bP 58 1 57,[]⟩,⟨dH 59 5 58,[]⟩] [] [] [av 60 (.call false 51 [(.t 38),(.t 43),(.t 48),(.t 54),(.t 59)])] [0,4,5,6])))) (.reg [aD 13 6,av 14 (.ar .add (.t 13) (bK 1)),aD 6 14] [0,4,5,6])))))) (aV [aD 61 4,aD 62 5,aD 2 61,aD 3 62] [2,3] .ret)))))⟩
def WR : CF:=⟨1,[(.t 2),(.t 3)],[],[],(aV [av 1 (.box 42 (.t 0)),av 2 (.mv (.k (.one bI))),av 3 (.mv dF)] [1] (.seq (aV [bP 5 0 1,bP 6 1 5,cK 7 6,av 8 (.cmp .ne (.t 7) (bK 5)),aD 9 8,bB 10 9 false (.fa 3 (.t 1)),bB 11 9 false (.load 1 false (.t 10)),bB 12 9 false (.iB (.t 11)),bB 13 9 false (.cmp .eq (.t 12) (bK 0)),av 14 (.pick (.t 9) eG (.t 13))] [1,14] (.cond (.t 14) (aV [av 2 (.mv (.k (.one bI))),av 3 (.mv dF)] [2,3] .ret) .skip)) (aV [bP 15 3 1,cK 16 15,av 17 (.ia 1 (.t 16) (bK 0)),cK 18 17,av 19 (.call false 81 [(bK 5),(.t 18)]),aD 4 19] [4] (.seq (aV [aD 20 4,av 21 (.iB (.t 20)),av 22 (.cmp .eq (.t 21) (bK 0))] [4,22] (.cond (.t 22) (aV [av 2 (.mv (.k (.one bI))),av 3 (.mv dF)] [2,3] .ret) .skip)) (aV [aD 23 4,av 24 (.ia 1 (.t 23) (bK 0)),cK 25 24,aD 2 25,av 3 (.mv eG)] [2,3] .ret)))))⟩
def Y7 : CF:=⟨2,[(.cell 4 6 true),(.t 5)],[],[],(aV [av 2 (.box 128 (.t 0)),av 3 (.box 24 (.t 1)),av 4 (.alloc 44 [bI,aG,aG,.bY,aG,aG]),av 5 (.mv dF)] [2,3,4] (aV [bP 9 0 2,cK 10 9,bP 11 2 2,cK 12 11,dH 13 3 3,av 14 (.call false 43 [(.t 10),(.t 12),(.t 13)]),aD 8 14,av 15 (.ext (.t 8) 0),av 16 (.ext (.t 8) 1),av 6 (.alloc 106 [bI,aG,aG,.bY,aG,aG,aG]),dh (.store 7 (.t 6) (.t 15)),aD 7 16] [2,4,6,7] (.seq (aV [aD 17 7,av 18 (.no (.t 17)),aD 19 18,bB 20 19 false (.fa 6 (.t 6)),bB 21 19 false (.load 1 false (.t 20)),bB 22 19 false (.call false 101 [(.t 21)]),bB 23 19 false (.no (.t 22)),av 24 (.pick (.t 19) eG (.t 23))] [2,4,6,24] (.cond (.t 24) (aV [av 25 (.build [bI,aG,aG,.bY,aG,aG] []),dh (.store 6 (.t 4) (.t 25)),av 5 (.mv dF)] [4,5] .ret) .skip)) (.seq (.sD [⟨bP 26 0 6,[]⟩,⟨dH 27 5 26,[]⟩,⟨bP 28 2 2,[]⟩,⟨cK 29 28,[]⟩,⟨bP 30 5 6,[]⟩,⟨cK 31 30,[]⟩,⟨av 32 (.call false 102 [(.t 29),(.t 31)]),[]⟩] [] [] [av 33 (.build [bI,aG,aG,.bY,aG,aG] [dR 0 5 27,dR 5 1 32]),dh (.store 6 (.t 4) (.t 33)),av 5 (.mv eG)] [4,5]) .ret))))⟩
def c57 : CF:=⟨2,[(.cell 4 6 true),(.t 5),(.t 6)],[],[],(aV [av 2 (.box 128 (.t 0)),av 3 (.box 24 (.t 1)),av 4 (.alloc 44 [bI,aG,aG,.bY,aG,aG]),av 5 (.mv (.k (.one bI))),av 6 (.mv dF)] [2,3,4] (.seq (aV [bP 11 1 3,cK 12 11,av 13 (.cmp .eq (.t 12) (bK 5))] [2,3,4,13] (.cond (.t 13) (aV [av 14 (.build [bI,aG,aG,.bY,aG,aG] []),dh (.store 6 (.t 4) (.t 14)),av 5 (.mv (.k (.one bI))),av 6 (.mv dF)] [4,5,6] .ret) .skip)) (aV [bP 15 1 3,dh (.store 1 (.t 15) (bK 5))] [2,3,4] (aV [dH 17 3 2,dH 18 3 3,av 19 (.call false 56 [(.t 17),(.t 18)]),aD 16 19,av 20 (.ext (.t 16) 0),av 21 (.ext (.t 16) 1),av 7 (.alloc 44 [bI,aG,aG,.bY,aG,aG]),dh (.store 6 (.t 7) (.t 20)),aD 8 21] [4,7] (aV [bP 23 0 7,dH 24 5 23,av 25 (.call false 47 [(.t 24)]),aD 22 25,av 26 (.ext (.t 22) 0),av 27 (.ext (.t 22) 1),aD 9 26,aD 10 27] [4,7,9,10] (aV [dH 28 6 7,aD 29 9,aD 30 10,dh (.store 6 (.t 4) (.t 28)),aD 5 29,aD 6 30] [4,5,6] .ret))))))⟩
def c58 : CF:=⟨3,[(.cell 6 9 true)],[],[],(aV [av 3 (.box 128 (.t 0)),av 4 (.box 46 (.t 1)),av 5 (.box 24 (.t 2)),av 6 (.alloc 46 [.bY,aG,bI,bI,aG,aG,.bY,aG,aG])] [3,4,5,6] (aV [bP 10 1 3,cK 11 10,bP 12 2 3,cK 13 12,dH 14 3 5,av 15 (.call false 103 [(.t 11),(.t 13),(.t 14)]),aD 9 15,av 16 (.ext (.t 9) 0),av 17 (.ext (.t 9) 1),av 7 (.alloc 178 [bI,aG,aG,(.f (.bool false)),bI,aG,aG,.bY,aG,aG]),dh (.store 10 (.t 7) (.t 16)),aD 8 17] [3,4,6,7,8] (.seq (.block 0 (aV [aD 20 8,av 21 (.no (.t 20)),aD 19 21] [3,4,6,7,19] (.cond (.t 19) (aV [bP 22 1 4,dh (.store 1 (.t 22) (bK 3))] [4,6] (aV [dH 23 9 4,dh (.store 9 (.t 6) (.t 23))] [6] .ret)) (aV [bP 25 3 7,cK 26 25,aD 24 26] [3,4,6,7,24] (.cond (.t 24) (.reg [bP 27 1 4,dh (.store 1 (.t 27) (bK 2))] [3,4,6,7]) (.reg [bP 18 1 4,dh (.store 1 (.t 18) (bK 1))] [3,4,6,7])))))) (.seq (.sD [⟨bP 28 4 7,[]⟩,⟨dH 29 5 28,[]⟩,⟨bP 30 2 3,[]⟩,⟨cK 31 30,[]⟩,⟨bP 32 9 7,[]⟩,⟨cK 33 32,[]⟩,⟨av 34 (.call false 102 [(.t 31),(.t 33)]),[]⟩] [] [] [av 35 (.build [bI,aG,aG,.bY,aG,aG] [dR 0 5 29,dR 5 1 34]),bP 36 3 4,dh (.store 6 (.t 36) (.t 35))] [4,6]) (aV [dH 37 9 4,dh (.store 9 (.t 6) (.t 37))] [6] .ret)))))⟩
def c14 : CF:=⟨4,[(.cell 8 9 true)],[],[],(aV [av 7 (.box 24 (.t 3)),av 8 (.alloc 46 [.bY,aG,bI,bI,aG,aG,.bY,aG,aG])] [0,1,2,7,8] (aV [aD 17 0,aD 18 1,aD 19 2,av 20 (.build [.iU,.iU,aG] [dR 0 1 17,dR 1 1 18,dR 2 1 19]),av 9 (.alloc 128 [.iU,.iU,aG]),dh (.store 3 (.t 9) (.t 20))] [7,8,9] (aV [av 10 (.alloc 46 [.bY,aG,bI,bI,aG,aG,.bY,aG,aG])] [7,8,9,10] (aV [av 21 (.pK (.one .str)),aD 11 21] [7,8,9,10,11] (.block 0 (.loop [7,8,9,10,11] [20201,20205,20208,40201,40205,40208,160000,180000,200000,220000,440000,690002,690004,690006,690008,690010,690012,690014,690016,690202,690204,690206,690208,690210,690212,690214,690216,690402,690404,690406,690408,690410,690412,690414,690416,690602,690604,690606,690608,690610,690612,690614,690616,690802,690804,690806,690808,690810,690812,690814,690816,691002,691004,691006,691008,691010,691012,691014,691016,840000,960800,970002,970004,970006,970008,970010,970012,970014,970016,970202,970204,970206,970208,970210,970212,970214,970216,970402,970404,970406,970408,970410,970412,970414,970416,970602,970604,970606,970608,970610,970612,970614,970616,970802,970804,970806,970808,970810,970812,970814,970816,971002,971004,971006,971008,971010,971012,971014,971016,1140200,1141400,1150002,1150004,1150006,1150008,1150010,1150012,1150014,1150016,1150202,1150204,1150206,1150208,1150210,1150212,1150214,1150216,1150402,1150404,1150406,1150408,1150410,1150412,1150414,1150416,1150602,1150604,1150606,1150608,1150610,1150612,1150614,1150616,1150802,1150804,1150806,1150808,1150810,1150812,1150814,1150816,1151002,1151004,1151006,1151008,1151010,1151012,1151014,1151016,1240000] [] (.block 1 (aV [bP 22 0 7,cK 23 22,bP 24 2 10,dh (.store 1 (.t 24) (.t 23))] [7,8,9,10,11] (aV [aD 25 11,bP 26 0 7,cK 27 26,av 28 (.look (.one .str) (.one (.int .i64 0)) false (.t 25) (.t 27)),av 29 (.ar .add (.t 28) (bK 1)),dh (.xu (.one .str) (.t 25) (.t 27) (.t 29))] [7,8,9,10,11] (.seq (aV [dH 31 3 9,dH 32 3 7,av 33 (.call false 56 [(.t 31),(.t 32)]),aD 30 33,av 34 (.ext (.t 30) 0),av 35 (.ext (.t 30) 1),av 12 (.alloc 44 [bI,aG,aG,.bY,aG,aG]),dh (.store 6 (.t 12) (.t 34)),aD 13 35] [7,8,9,10,11,12,13] (aV [aD 36 13] [7,8,9,10,11,12,36] (.cond (.t 36) (aV [bP 37 0 10,cK 38 37,dH 39 6 12,av 40 (.zH 44 6 1 [bI,aG,aG,.bY,aG,aG] [dR 0 6 39]),av 41 (.app 44 6 72 (.t 38) (.t 40)),bP 42 0 10,dh (.store 1 (.t 42) (.t 41))] [8,10] (aV [dH 43 9 10,dh (.store 9 (.t 8) (.t 43))] [8] .ret)) .skip))) (aV [dH 45 3 9,dH 46 3 7,av 47 (.call false 57 [(.t 45),(.t 46)]),aD 44 47,av 48 (.ext (.t 44) 0),av 49 (.ext (.t 44) 1),av 50 (.ext (.t 44) 2),av 14 (.alloc 44 [bI,aG,aG,.bY,aG,aG]),dh (.store 6 (.t 14) (.t 48)),aD 15 49,aD 16 50] [7,8,9,10,11,14,15,16] (.seq (aV [aD 51 16,av 52 (.no (.t 51))] [7,8,9,10,11,14,15,52] (.cond (.t 52) (aV [dH 53 3 9,dH 54 9 10,dH 55 3 7,av 56 (.call false 58 [(.t 53),(.t 54),(.t 55)]),dh (.store 9 (.t 8) (.t 56))] [8] .ret) .skip)) (aV [bP 57 0 10,cK 58 57,dH 59 6 14,av 60 (.zH 44 6 1 [bI,aG,aG,.bY,aG,aG] [dR 0 6 59]),av 61 (.app 44 6 72 (.t 58) (.t 60)),bP 62 0 10,dh (.store 1 (.t 62) (.t 61))] [7,8,9,10,11,15] (.seq (aV [bP 63 0 10,cK 64 63,av 65 (.iB (.t 64)),av 66 (.cmp .gt (.t 65) (bK 8)),aD 67 66,bB 68 67 false (.mv (.t 11)),bB 69 67 false (.mv (.t 15)),bB 70 67 false (.look (.one .str) (.one (.int .i64 0)) false (.t 68) (.t 69)),bB 71 67 false (.cmp .gt (.t 70) (bK 0)),av 72 (.pick (.t 67) eG (.t 71))] [7,8,9,10,11,15,72] (.cond (.t 72) (aV [bP 73 1 10,dh (.store 1 (.t 73) (bK 4))] [8,10] (aV [dH 74 9 10,dh (.store 9 (.t 8) (.t 74))] [8] .ret)) .skip)) (.reg [aD 75 15,bP 76 0 7,dh (.store 1 (.t 76) (.t 75))] [7,8,9,10,11])))))))))))))))⟩
def MZ : CF:=⟨2,[(.t 4)],[],[],(aV [av 4 (.mv (bK 0))] [0,1] (.seq (aV [aD 5 0,aD 6 1,av 7 (.call false 78 [(.t 5),(.t 6)]),av 8 (.no (.t 7))] [0,1,8] (.cond (.t 8) (aV [av 4 (.mv (bK 0))] [4] .ret) .skip)) (aV [aD 9 1,aD 10 0,av 11 (.ar .sub (.t 9) (.t 10)),av 12 (.mn (.t 11) (bK 604800)),aD 4 12] [4] .ret)))⟩
def Q0 : CF:=⟨1,[(.t 2)],[],[],(aV [av 2 (.mv dF)] [0] (aV [aD 3 0,av 4 (.call false 122 [(.t 3),(bK 3)]),aD 2 4] [2] .ret))⟩
def pG : List (FuncId × CF):=[(48,c48),(43,c43),(45,c45),(82,c82),(84,WQ),(79,c79),(85,c85),(86,c86),(78,c78),(116,c116),(113,QO),(111,QS),(114,QT),(134,QU),(135,QV),(131,c131),(133,QW),(122,QX),(149,QY),(148,c148),(49,c49),(87,c87),(51,c51),(103,QZ),(88,c88),(89,c89),(90,c90),(10,c10),(12,c12),(47,WR),(56,Y7),(57,c57),(58,c58),(14,c14),(102,MZ),(101,Q0)]
end
section
attribute [local go_sem_proc] Nat.reduceAdd Nat.reduceMul Nat.reduceEqDiff Nat.reduceBEq Nat.reduceMod Nat.reduceDiv reduceCtorEq
attribute [local go_sem_proc ↓] reduceIte
open Go Ev
variable {ext : Env} {F n:Nat}
noncomputable abbrev G (ext:Env) (F n:Nat):Env:=Gm pG ext F n
theorem qh {x:Int} (h1:-9223372036854775808 ≤ x) (h2:x ≤ 9223372036854775807):IntKind.i64.wrap x = x:=by
 rw [IntKind.wrap_i64];omega
abbrev vi (x:Int):AV:=.one (.f (.int .i64 x))
abbrev vb (b:Bool):AV:=.one (.f (.bool b))
abbrev vs (s:ByteArray):AV:=.one (.f (.str s))
abbrev vl (l:List (List FV)):AV:=.one (.f (.sl l))
def bA (s:ByteArray):List FV:=[.str s]
abbrev vq (q:ByteArray) (t c:Int):AV:=.agg [.f (.str q),.f (.int .i64 t),.f (.int .i64 c)]
abbrev tL (q:ByteArray) (t c:Int) (d:List ByteArray) (ttl:Int):AV:=.agg [.f (.str q),.f (.int .i64 t),.f (.int .i64 c),.f (.sl (d.map bA)),.f (.int .i64 ttl)]
theorem Uu (x m:Int):G ext F (n + 1) 131 [vi x,vi m] = some ([vb (decide (0 ≤ x ∧ x ≤ m))],[vi x,vi m]):=by
 refine dI (cf:=c131) rfl ?_
 dsimp only [c131,av,dh,bB,bK,aG,bI,dR,eG,dF,aD,cK,dH,bP,aV];simp only [go_sem]
 repeat' (refine dU (fun h=>?_) (fun h=>?_) <;> simp only [h,go_sem])
 all_goals (simp only [ajt,ajZ] at *;simp;try omega)
theorem qE (x m:Int):G ext F (n + 1) 111 [vi x,vi m] = some ([vb (decide (0 ≤ x ∧ x ≤ m))],[vi x,vi m]):=by
 refine dI (cf:=QS) rfl ?_
 dsimp only [QS,av,dh,bB,bK,aG,bI,dR,eG,dF,aD,cK,dH,bP,aV];simp only [go_sem]
 repeat' (refine dU (fun h=>?_) (fun h=>?_) <;> simp only [h,go_sem])
 all_goals (simp only [ajt,ajZ] at *;simp;try omega)
theorem GJ (x m:Int):G ext F (n + 1) 122 [vi x,vi m] = some ([vb (decide (m ≤ x ∧ x ≤ 5))],[vi x,vi m]):=by
 refine dI (cf:=QX) rfl ?_
 dsimp only [QX,av,dh,bB,bK,aG,bI,dR,eG,dF,aD,cK,dH,bP,aV];simp only [go_sem]
 repeat' (refine dU (fun h=>?_) (fun h=>?_) <;> simp only [h,go_sem])
 all_goals (simp only [ajt,ajZ] at *;simp;try omega)
def Q5 (x:Int):Bool:=decide (0 ≤ x ∧ x ≤ 1099511627776)
def fK (now ttl:Int):Int:=if Q5 now = true ∧ 0 ≤ ttl then now + (if ttl ≤ 604800 then ttl else 604800) else -1
def mM (now u:Int):Bool:=Q5 now && decide (now < u)
def M0 (old:Int) (l:Bool) (now:Int):Bool:=decide (1 ≤ now ∧ now ≤ 5) && (!l || decide (old ≤ now))
theorem jH (x u:Int):G ext F (n + 2) 78 [vi x,vi u] = some ([vb (mM x u)],[vi x,vi u]):=by
 refine dI (cf:=c78) rfl ?_
 dsimp only [c78,av,dh,bB,bK,aG,bI,dR,eG,dF,aD,cK,dH,bP,aV];simp only [qE,go_sem]
 repeat' (refine dU (fun h=>?_) (fun h=>?_) <;> simp only [h,qE,go_sem])
 all_goals (simp only [ajt,ajZ] at *;simp [Q5,mM];try omega)
theorem Q6 {x t:Int} (h:0 ≤ x ∧ x ≤ 1099511627776) (ht:0 ≤ t):IntKind.i64.wrap (x + if 604800 < t then 604800 else t) = x + if t ≤ 604800 then t else 604800:=by
 have e:(if 604800 < t then (604800:Int) else t) = if t ≤ 604800 then t else 604800:=by split <;> split <;> omega
 rw [e]
 refine qh ?_ ?_ <;> split <;> omega
theorem Kg {x t:Int} (h:0 ≤ x ∧ x ≤ 1099511627776) (ht:¬ t < 0):fK x t = IntKind.i64.wrap (x + if 604800 < t then 604800 else t):=by
 rw [Q6 h (by omega)]
 simp only [fK,Q5,ajt]
 rw [ai8 (show (0 ≤ x ∧ x ≤ 1099511627776) ∧ 0 ≤ t from ⟨h,by omega⟩)]
theorem M4 {x t:Int} (h:¬ ((0 ≤ x ∧ x ≤ 1099511627776) ∧ 0 ≤ t)):fK x t = -1:=by
 simp only [fK,Q5,ajt]
 rw [ai9 h]
theorem yw (x t:Int):G ext F (n + 2) 82 [vi x,vi t] = some ([vi (fK x t)],[vi x,vi t]):=by
 refine dI (cf:=c82) rfl ?_
 dsimp only [c82,av,dh,bB,bK,aG,bI,dR,eG,dF,aD,cK,dH,bP,aV];simp only [qE,go_sem]
 repeat' (refine dU (fun h=>?_) (fun h=>?_) <;> simp only [h,qE,go_sem])
 all_goals (simp only [Q5,ajt,ajZ] at *;first | rw [Kg (by assumption) (by omega)] | rw [M4 (by omega)])
theorem IX (o x:Int) (l:Bool):G ext F (n + 2) 114 [vi o,vb l,vi x] = some ([vb (M0 o l x)],[vi o,vb l,vi x]):=by
 refine dI (cf:=QT) rfl ?_
 dsimp only [QT,av,dh,bB,bK,aG,bI,dR,eG,dF,aD,cK,dH,bP,aV];simp only [GJ,go_sem]
 repeat' (refine dU (fun h=>?_) (fun h=>?_) <;> simp only [h,GJ,go_sem])
 all_goals (simp only [ajt,ajZ] at *;simp_all [M0];try omega)
end
section
attribute [local go_sem_proc] Nat.reduceAdd Nat.reduceMul Nat.reduceEqDiff Nat.reduceBEq Nat.reduceMod Nat.reduceDiv reduceCtorEq
attribute [local go_sem_proc ↓] reduceIte
open Go Go.RowKit Go.Proofs Ev
theorem eqs : ∀ t ∈ [3,9,24],lK Tryz.prog t:=by
 intro t ht
 simp only [ajr,akP,or_false] at ht
 rcases ht with rfl | rfl | rfl <;> exact WS (by kernel_rfl)
theorem mixed : Tryz.prog.follows .mixedOrders = true:=by kernel_rfl
theorem I4 : iC Tryz.prog fun _ _=>none:=fun f dS rs pV h=>by cases h
theorem AX : dN Tryz.prog fun _ _=>none:=fun f dS r h=>by cases h
def WT : CF:=⟨1,[(.t 2)],[],[],(.seq (.reg [⟨(some 2),none,(.mv (.k (.one .bY)))⟩] [0]) (.seq (.seq (.reg [⟨(some 3),none,(.mv (.t 0))⟩,⟨(some 4),none,(.zL false (.t 3))⟩] [0,4]) (.cond (.t 4) (.seq (.reg [⟨(some 2),none,(.mv (.k (.one .bY)))⟩] [2]) .ret) .skip)) (.seq (.reg [⟨(some 5),none,(.zH 9 1 0 [] [])⟩,⟨(some 6),none,(.mv (.t 0))⟩,⟨(some 7),none,(.app 9 1 16 (.t 5) (.t 6))⟩,⟨(some 2),none,(.mv (.t 7))⟩] [2]) .ret)))⟩
def WU : CF:=⟨1,[(.t 2)],[some 3],[],(.seq (.reg [⟨(some 2),none,(.mv (.k (.one .bY)))⟩] [0]) (.seq (.seq (.reg [⟨(some 3),none,(.mv (.t 0))⟩,⟨(some 4),none,(.zL false (.t 3))⟩] [0,4]) (.cond (.t 4) (.seq (.reg [⟨(some 2),none,(.mv (.k (.one .bY)))⟩] [2]) .ret) .skip)) (.seq (.reg [⟨(some 5),none,(.zH 24 3 0 [] [])⟩,⟨(some 6),none,(.mv (.t 0))⟩,⟨(some 7),none,(.app 24 3 32 (.t 5) (.t 6))⟩,⟨(some 2),none,(.mv (.t 7))⟩] [2]) .ret)))⟩
theorem Rh {f:FuncId} {cf:CF} {Γ:Env} (h:jT Tryz.prog f cf) (h1:iC Tryz.prog Γ) (h2:dN Tryz.prog Γ) (F:Nat):Sat Tryz.prog f (JX Γ F cf):=by
 obtain ⟨fn,c,X,hints,rest,e1,_,e2,e3,e4,e5,e6⟩:=h.ok
 exact AO mixed e3 h1 h2 e1 e2 e4 e5 e6 F
theorem Ri : jT Tryz.prog 72 WT:=⟨Tryz.f72,_,⟨[3,9,24],[],[],[125,134]⟩,[⟨[0],[],[]⟩,⟨[0,4],[],[]⟩,⟨[2],[],[]⟩,⟨[2],[],[]⟩],[],by kernel_rfl,by kernel_rfl,rfl,eqs,by kernel_rfl,by kernel_rfl,by decide⟩
theorem Rj : jT Tryz.prog 115 WU:=⟨Tryz.f115,_,⟨[3,9,24],[],[],[125,134]⟩,[⟨[0],[],[]⟩,⟨[0,4],[],[]⟩,⟨[2],[],[]⟩,⟨[2],[],[]⟩],[],by kernel_rfl,by kernel_rfl,rfl,eqs,by kernel_rfl,by kernel_rfl,by decide⟩
theorem Rk (r:List FV) (l:List (List FV)) (h:l.length < 1000000) (hl:(r :: l).all (fun r=>r.length == 1) = true):JX (fun _ _=>none) 10 WT [vl (r :: l)] = some ([vl (r :: l)],[vl (r :: l)]):=by
 refine Ka ?_
 rw [List.all_cons,ajg] at hl
 simp only [WT,hl.1,hl.2,List.all_cons,go_sem]
 omega
theorem Rl (r:List FV) (l:List (List FV)) (h:l.length < 1000000) (hl:(r :: l).all (fun r=>r.length == 3) = true):JX (fun _ _=>none) 10 WU [vl (r :: l)] = some ([.one (.own 3 (r :: l))],[vl (r :: l)]):=by
 refine Ka ?_
 rw [List.all_cons,ajg] at hl
 simp only [WU,hl.1,hl.2,List.all_cons,go_sem]
 omega
theorem qF {t e:TypeId} (hu:Tryz.prog.underlying t = some (.slice e)) (p:Option Addr) (c:Nat) (w:World):(binOp .eql t (.slice p 0 c) (.slice none 0 0)).run Tryz.prog w = .ok (.bool p.isNone) w:=by
 have:=run_equal_slice_nil w t e p 0 c hu
 simp only [binOp,Sem.run_bind,this,Result.andThen_ok,Sem.run_pure]
theorem yx {t ty e:TypeId} {i:TypeInfo} (hu:Tryz.prog.underlying t = some (.slice e)) (hi:Tryz.prog.info? e = some i) (a b:Addr) (c:Nat) (w:World):(Builtin.append_ #[t,t] ty #[.slice (some b) 0 0,.slice (some a) 0 c]).run Tryz.prog w = .ok (.slice (some b) 0 0) w:=by
 have h1:∀ w,(Builtin.lenOf (.slice (some a) 0 c)).run Tryz.prog w = .ok 0 w:=fun _=>rfl
 have h2:=fun w=>run_firstCells_some (P:=Tryz.prog) w i.size 0 a 0 c [] (by simp) (by simp)
 simp [Builtin.append_,run_underlying hu,sizeOf,typeInfo,hi,storeCells,h1,h2]
theorem M5 (c:Nat) (w:World):Calls Tryz.prog 72 #[.slice none 0 c] w fun e w'=>e = .returned (.slice none 0 0) ∧ w' = w:=by
 have heq:=qF (t:=40) (e:=9) (by kernel_rfl) none c
 go_enter Tryz.func72,Tryz.ntmps72
 go_wp2
 go_ret
 exact ⟨rfl,rfl⟩
theorem M6 (a:Addr) (c:Nat) (w:World):Calls Tryz.prog 72 #[.slice (some a) 0 c] w fun e w'=>e = .returned (.slice (some ⟨w.heap.size,0,none⟩) 0 0) ∧ w' = w.alloc (.cells #[] 9):=by
 have heq:=qF (t:=40) (e:=9) (by kernel_rfl) (some a) c
 obtain ⟨i,hi⟩:=akw.mp (show (Tryz.prog.info? 9).isSome = true by kernel_rfl)
 have hap:=fun b w=>yx (t:=40) (ty:=40) (e:=9) (by kernel_rfl) hi a b c w
 go_enter Tryz.func72,Tryz.ntmps72
 go_wp2
 go_ret
 exact ⟨rfl,rfl⟩
theorem M7 (c:Nat) (w:World):Calls Tryz.prog 115 #[.slice none 0 c] w fun e w'=>e = .returned (.slice none 0 0) ∧ w' = w:=by
 have heq:=qF (t:=56) (e:=24) (by kernel_rfl) none c
 go_enter Tryz.func115,Tryz.ntmps115
 go_wp2
 go_ret
 exact ⟨rfl,rfl⟩
theorem M8 (a:Addr) (c:Nat) (w:World):Calls Tryz.prog 115 #[.slice (some a) 0 c] w fun e w'=>e = .returned (.slice (some ⟨w.heap.size,0,none⟩) 0 0) ∧ w' = w.alloc (.cells #[] 24):=by
 have heq:=qF (t:=56) (e:=24) (by kernel_rfl) (some a) c
 obtain ⟨i,hi⟩:=akw.mp (show (Tryz.prog.info? 24).isSome = true by kernel_rfl)
 have hap:=fun b w=>yx (t:=56) (ty:=56) (e:=24) (by kernel_rfl) hi a b c w
 go_enter Tryz.func115,Tryz.ntmps115
 go_wp2
 go_ret
 exact ⟨rfl,rfl⟩
def M9 (sz:Nat) (own:Bool) (dS:List AV):Option (List AV × List AV):=match dS with
 | [.one (.f (.sl rows))]=>if rows.length ≤ 1000000 ∧ rows.all (fun r=>r.length == sz) = true then some ([.one (if own then .own sz rows else .f (.sl rows))],dS) else none
 | _=>none
theorem GL (w:World) (o:Obj):w.heap.size ≤ (w.alloc o).heap.size ∧ (∀ b,b < w.heap.size → (w.alloc o).heap[b]? = w.heap[b]?) ∧ (w.alloc o).heap[w.heap.size]? = some o ∧ (w.alloc o).heap.size = w.heap.size + 1:=by
 obtain ⟨h1,h2,h3⟩:=mD w o
 exact ⟨by omega,h2,h1,h3⟩
theorem CS {f:FuncId} {cf:CF} {sz e:Nat} {own:Bool} (h0:0 < sz) (he:jT Tryz.prog f cf) (hrun:∀ (r:List FV) (l:List (List FV)),l.length < 1000000 → (r :: l).all (fun r=>r.length == sz) = true → JX (fun _ _=>none) 10 cf [vl (r :: l)] = some ([.one (if own then .own sz (r :: l) else .f (.sl (r :: l)))],[vl (r :: l)]))
  (hn:∀ (c:Nat) (w:World),Calls Tryz.prog f #[.slice none 0 c] w fun e w'=>e = .returned (.slice none 0 0) ∧ w' = w)
  (hs:∀ (a:Addr) (c:Nat) (w:World),Calls Tryz.prog f #[.slice (some a) 0 c] w fun e' w'=>e' = .returned (.slice (some ⟨w.heap.size,0,none⟩) 0 0) ∧ w' = w.alloc (.cells #[] e)):Sat Tryz.prog f (M9 sz own):=by
 intro dS rs pV hg
 unfold M9 at hg
 split at hg
 ·rename_i rows
  split at hg
  ·rename_i hc
   cases hg
   cases rows with
   | cons r l =>
    exact Rh he I4 AX 10 _ _ _ (hrun r l (by have:=hc.1;simp at this;omega) hc.2)
   | nil =>
    intro Fz w vals bs ha hnd hap hfz
    match vals,ha with
    | [v],⟨b1,b2,h1,h2,e0⟩ =>
    obtain ⟨hv,rfl⟩:=h1
    obtain rfl:b2 = []:=h2
    subst e0
    simp only [eY] at hv
    obtain ⟨A,c,rfl,hle,hbig,_⟩:=hv
    have hrep:∀ (w':World) (v:Value),(∃ A,v = .slice A 0 0) → eY Fz w' (.sl []) v:=fun w' v ⟨A,hA⟩=>by
     simp only [eY];exact ⟨A,0,by rw [hA];rfl,ajd _,by simp,.inl trivial⟩
    have hbk:∀ (w':World),fD Fz w' [vl []] [.slice A ([]:List (List FV)).length c] []:=fun w' =>
     ⟨[],[],⟨by simp only [eY];exact ⟨A,c,rfl,hle,hbig,.inl trivial⟩,rfl⟩,rfl,rfl⟩
    cases A with
    | none =>
     refine (hn c w).mono fun e' w' ⟨e1,e2⟩=>?_
     subst e2
     refine ⟨Fz,[.slice none 0 0],[],[],e1,fun _ h=>h,fun b hb=>⟨hfz b hb,.inl hb⟩,ajd _,fun _ _ _=>rfl,⟨rfl,rfl⟩,hbk w',?_,by simp,fun b hb=>by simp at hb⟩
     cases own with
     | true=>exact ⟨[],[],⟨h0,0,[],none,0,rfl,World.ownsRow_nil w' _ _ _,rfl,rfl⟩,rfl,rfl⟩
     | false=>exact ⟨[],[],⟨hrep w' _ ⟨none,rfl⟩,rfl⟩,rfl,rfl⟩
    | some a =>
     refine (hs a c w).mono fun e' w' ⟨e1,e2⟩=>?_
     subst e2
     obtain ⟨k1,k2,k3,k4⟩:=GL w (.cells #[] e)
     cases own with
     | true =>
      refine ⟨Fz,[.slice (some ⟨w.heap.size,0,none⟩) 0 0],[],[w.heap.size],e1,fun _ h=>h,fun b hb=>⟨ajK (hfz b hb) k1,.inl hb⟩,k1,fun b hb _=>k2 b hb,⟨rfl,rfl⟩,hbk _,?_,by simp,fun b hb=>?_⟩
      ·refine ⟨[w.heap.size],[],⟨h0,e,[],_,0,rfl,⟨by simp,.inr ⟨w.heap.size,0,#[],rfl,ajO _,k3,ajd _,by simp [maxLen],by simp,by simp⟩⟩,rfl,rfl⟩,rfl,rfl⟩
      ·simp at hb
       subst hb
       exact ⟨fun hf=>by have:=hfz _ hf;omega,by omega,.inr (ajd _)⟩
     | false =>
      exact ⟨Fz,[.slice (some ⟨w.heap.size,0,none⟩) 0 0],[],[],e1,fun _ h=>h,fun b hb=>⟨ajK (hfz b hb) k1,.inl hb⟩,k1,fun b hb _=>k2 b hb,⟨rfl,rfl⟩,hbk _,⟨[],[],⟨hrep _ _ ⟨_,rfl⟩,rfl⟩,rfl,rfl⟩,by simp,fun b hb=>by simp at hb⟩
  ·cases hg
 ·cases hg
theorem Rm : Sat Tryz.prog 72 (M9 1 false):=CS (by decide) Ri Rk M5 M6
theorem Ro : Sat Tryz.prog 115 (M9 3 true):=CS (by decide) Rj Rl M7 M8
end
section
attribute [local go_sem_proc] Nat.reduceAdd Nat.reduceMul Nat.reduceEqDiff Nat.reduceBEq Nat.reduceMod Nat.reduceDiv reduceCtorEq
attribute [local go_sem_proc ↓] reduceIte
open Go Ev
variable {ext : Env} {F n:Nat}
theorem at_ {α:Type} {l:List α} {i:Nat} (h:i < l.length):∃ x,l[i]? = some x ∧ decide ((i:Int) < (l.length:Int)) = true ∧ ((i:Int).toNat = i) ∧ (0:Int) ≤ i:=⟨_,ajo h,by simpa using h,by simp,by omega⟩
theorem end_ {α:Type} {l:List α}:decide ((l.length:Int) < (l.length:Int)) = false:=by simp
theorem nx {i N:Nat} (h:i < N) (hN:N ≤ 200000000000000):IntKind.i64.wrap ((i:Int) + 1) = ((i + 1:Nat):Int):=by rw [qh (by omega) (by omega)];omega
def yA (l:List ByteArray) (s:ByteArray):Bool:=l.any fun x=>decide (x = s)
theorem Na {l:List ByteArray} {s x:ByteArray} {i:Nat} (h:l[i]? = some x):yA (l.take (i + 1)) s = (yA (l.take i) s || decide (x = s)):=by
 unfold yA
 have hi:=(aj1.mp h)
 rw [ajX,h,List.any_append]
 simp
theorem WV {l:List ByteArray} {s x:ByteArray} {i:Nat} (h:l[i]? = some x) (hx:x = s):yA l s = true:=by
 unfold yA
 exact aj8.mpr ⟨x,akc h,by simpa using hx⟩
theorem Rp {l:List ByteArray} {s:ByteArray} (h:yA (l.take l.length) s = false):yA l s = false:=by rwa [ajS] at h
theorem Rq (l:List ByteArray) (s:ByteArray) (hl:l.length ≤ 1000000000000) (hF:200000000000001 ≤ F):∃ z:Int,(decide (0 ≤ z) = yA l s) ∧ G ext F (n + 1) 148 [vl (l.map bA),vs s] = some ([vi z],[vl (l.map bA),vs s]):=by
 suffices h:W (fun r=>∃ z:Int,(decide (0 ≤ z) = yA l s) ∧ r = ([vi z],[vl (l.map bA),vs s])) ⟨⟩ (G ext F (n + 1) 148 [vl (l.map bA),vs s]) by
  obtain ⟨r,h1,z,h2,h3⟩:=h
  exact ⟨z,h2,by rw [h1,h3]⟩
 show W _ _ (JX _ F c148 _)
 dsimp only [c148,av,dh,bB,bK,aG,bI,dR,eG,dF,aD,cK,dH,bP,aV];simp only [go_sem]
 refine MS l.length (fun i=>⟨[(0,PV.c (CV.one (PL.f (FV.sl (l.map bA))))),(1,PV.c (CV.one (PL.f (FV.str s)))),(7,PV.c (CV.one (PL.f (FV.int .i64 (l.map bA).length)))),(8,PV.c (CV.one (PL.f (FV.int .i64 i))))],[]⟩) (fun i=>yA (l.take i) s = false) (by omega) rfl (fun i hi hP=>?_) (fun hP=>?_)
 ·obtain ⟨x,hx,hd,ht,h0⟩:=at_ hi
  have hn:=nx hi (aju hl (by decide))
  have hs:=Na (s:=s) hx
  simp only [ajb,ajf,hd,hx,ht,h0,bA,go_sem]
  repeat' (refine dU (fun h=>?_) (fun h=>?_) <;> simp only [h,ajb,ajf,hd,hx,ht,h0,hn,bA,go_sem])
  ·exact ⟨i,by rw [WV hx (by simp at h;first | exact h | exact h.symm)];simp,rfl⟩
  ·rw [hs,hP];simp at h ⊢;first | exact h | exact fun e=>h e.symm
 ·have hd:=@end_ _ l
  simp only [ajb,hd,go_sem]
  repeat' (refine dU (fun h=>?_) (fun h=>?_) <;> simp only [h,ajb,hd,go_sem])
  exact ⟨-1,by rw [Rp hP];rfl,rfl⟩
theorem EJ (l:List ByteArray) (s:ByteArray) (hl:l.length ≤ 1000000000000) (hF:200000000000001 ≤ F):G ext F (n + 2) 133 [vl (l.map bA),vs s] = some ([vb (yA l s)],[vl (l.map bA),vs s]):=by
 refine dI (cf:=QW) rfl ?_
 obtain ⟨z,hz,h⟩:=Rq (ext:=ext) (F:=F) (n:=n) l s hl hF
 dsimp only [QW,av,dh,bB,bK,aG,bI,dR,eG,dF,aD,cK,dH,bP,aV];simp only [h,go_sem]
 repeat' (refine dU (fun h=>?_) (fun h=>?_) <;> simp only [h,h,go_sem])
 rw [← hz]
end
section
attribute [local go_sem_proc] Nat.reduceAdd Nat.reduceMul Nat.reduceEqDiff Nat.reduceBEq Nat.reduceMod Nat.reduceDiv reduceCtorEq
attribute [local go_sem_proc ↓] reduceIte
open Go Ev
variable {ext : Env} {F n:Nat}
structure Qn where
 q:ByteArray
 t:Int
 c:Int
 deriving DecidableEq
structure It where
 q:ByteArray
 t:Int
 c:Int
 d:List ByteArray
 ttl:Int
 u:Int
 r:Int
 deriving DecidableEq
structure Op where
 o:Int
 now:Int
 q:ByteArray
 t:Int
 c:Int
 d:List ByteArray
 ttl:Int
 r:Int
def rQ (x:Qn):List FV:=[.str x.q,.int .i64 x.t,.int .i64 x.c]
def rI (x:It):List FV:=[.str x.q,.int .i64 x.t,.int .i64 x.c,.sl (x.d.map bA),.int .i64 x.ttl,.int .i64 x.u,.int .i64 x.r]
abbrev vit (q:ByteArray) (t c:Int) (d:List ByteArray) (ttl u r:Int):AV:=.agg [.f (.str q),.f (.int .i64 t),.f (.int .i64 c),.f (.sl (d.map bA)),.f (.int .i64 ttl),.f (.int .i64 u),.f (.int .i64 r)]
def EK (k:Nat) (l:List ByteArray):Bool:=l.all fun x=>decide (x.size ≤ 2000) && decide (k ≤ 60)
theorem Kh {k:Nat} {l:List ByteArray} {x:ByteArray} {i:Nat} (h:l[i]? = some x):EK k (l.take (i + 1)) = (EK k (l.take i) && (decide (x.size ≤ 2000) && decide (k ≤ 60))):=by
 unfold EK
 rw [ajX,h,List.all_append]
 simp
theorem I5 {k:Nat} {l:List ByteArray} {x:ByteArray} {i:Nat} (h:l[i]? = some x) (hx:¬ (x.size ≤ 2000 ∧ k ≤ 60)):EK k l = false:=by
 unfold EK
 refine ajP.mpr fun ha=>hx ?_
 have:=ajp.mp ha x (akc h)
 simpa using this
def nU (q:ByteArray) (d:List ByteArray):Bool:=EK d.length d && decide (q.size ≤ 300)
theorem Nb (q:ByteArray) (t c:Int) (d:List ByteArray) (ttl:Int) (hl:d.length ≤ 200000000000000) (hF:200000000000001 ≤ F):G ext F (n + 1) 45 [tL q t c d ttl] = some ([vb (nU q d)],[tL q t c d ttl]):=by
 refine dI (cf:=c45) rfl ?_
 dsimp only [c45,av,dh,bB,bK,aG,bI,dR,eG,dF,aD,cK,dH,bP,aV];simp only [go_sem]
 refine MS d.length (fun i=>⟨[(1,PV.c (CV.one (PL.ptr 40000 0))),(3,PV.c (CV.one (PL.f (FV.int .i64 i))))],[(40000,.eT [.f (.str q),.f (.int .i64 t),.f (.int .i64 c),.f (.sl (d.map bA)),.f (.int .i64 ttl)])]⟩) (fun i=>EK d.length (d.take i) = true) (by omega) rfl (fun i hi hP=>?_) (fun hP=>?_)
 ·obtain ⟨x,hx,hd,ht,h0⟩:=at_ hi
  have hn:=nx hi (aju hl (by decide))
  simp only [ajb,ajf,hd,hx,ht,h0,bA,go_sem]
  repeat' (refine dU (fun h=>?_) (fun h=>?_) <;> simp only [h,ajb,ajf,hd,hx,ht,h0,hn,bA,go_sem])
  all_goals simp only [ajt,ajZ] at *
  ·simp [nU,I5 hx (k:=d.length) (by omega)]
  ·simp [nU,I5 hx (k:=d.length) (by omega)]
  ·rw [Kh hx,hP];simp;omega
 ·have hd:=@end_ _ d
  rw [ajS] at hP
  simp only [ajb,hd,go_sem]
  repeat' (refine dU (fun h=>?_) (fun h=>?_) <;> simp only [h,ajb,hd,go_sem])
  simp [nU,hP]
  try omega
end
section
open Go Ev
variable {ext : Env} {F n:Nat}
theorem kY {body:St → Option (Out × St)} {rs:St → St} {k:Out × St → Prop} {u:Tok k} {F:Nat} {σ:St} (N:Nat) (T:Nat → St) (P:Nat → Prop) (hF:N < F) (hs:rs σ = T 0) (h0:P 0)
  (step:∀ i,i < N → P i → W (fun p=>match p.1 with
   | .jg=>rs p.2 = T (i + 1) ∧ P (i + 1)
   | o=>k (o,p.2)) ⟨⟩ (body (T i)))
  (last:P N → W (fun p=>match p.1 with
   | .jg=>False
   | o=>k (o,p.2)) ⟨⟩ (body (T N))):W k u (iter body rs F σ):=by
 refine CO (fun m σ=>∃ i,i ≤ N ∧ m = N - i ∧ rs σ = T i ∧ P i) ?_ F N σ hF ⟨0,ajO _,rfl,hs,h0⟩
 rintro m σ ⟨i,hi,rfl,hr,hP⟩
 rw [hr]
 by_cases hlt:i < N
 ·refine uV (step i hlt hP) fun p hp=>?_
  obtain ⟨o,s⟩:=p
  cases o with
  | jg=>exact ⟨N - (i + 1),by omega,i + 1,by omega,rfl,hp.1,hp.2⟩
  | ext j=>exact hp
  | ret=>exact hp
 ·have:i = N:=by omega
  subst this
  refine uV (last hP) fun p hp=>?_
  obtain ⟨o,s⟩:=p
  cases o with
  | jg=>exact hp.elim
  | ext j=>exact hp
  | ret=>exact hp
def nr2 (s:Nat) (l:List (Nat × Nat)) (σ:St):Option St → St
 | some t=>jg ⟨put t.tm s (.c (.one (.own (dA s) 0))),t.ob⟩ l
 | none=>jg σ l
def nr1 (σ:St) (s sz:Nat) (l:List (Nat × Nat)):Option PV → St
 | some (.c (.one .bY))=>if sz = 0 then jg σ l else nr2 s l σ (new σ (dA s) (.row sz []))
 | _=>jg σ l
@[go_sem] theorem aa2 {σ:St} {s sz:Nat} {l:List (Nat × Nat)}:jg σ ((s,sz) :: l) = nr1 σ s sz l (get σ.tm s):=by
 unfold nr1 nr2
 rw [jg]
 split <;> first | rfl | (split <;> first | rfl | (split <;> simp_all))
@[go_sem] theorem adK {σ:St} {s sz key n:Nat} {l:List (Nat × Nat)}:nr1 σ s sz l (some (.c (.one (.own key n)))) = jg σ l:=rfl
@[go_sem] theorem ahQ {σ:St} {s sz:Nat} {l:List (Nat × Nat)} {x:FV}:nr1 σ s sz l (some (.c (.one (.f x)))) = jg σ l:=rfl
@[go_sem] theorem adL {σ:St} {s sz:Nat} {l:List (Nat × Nat)}:nr1 σ s sz l (some (.c (.one .bY))) = if sz = 0 then jg σ l else nr2 s l σ (new σ (dA s) (.row sz [])):=rfl
@[go_sem] theorem aa3 {σ τ:St} {s:Nat} {l:List (Nat × Nat)}:nr2 s l σ (some τ) = jg ⟨put τ.tm s (.c (.one (.own (dA s) 0))),τ.ob⟩ l:=rfl
abbrev It.k (x:It):Qn:=⟨x.q,x.t,x.c⟩
abbrev vst (room:Int) (l:List It) (ch:Int):AV:=.agg [.f (.int .i64 room),.f (.sl (l.map rI)),.f (.int .i64 ch)]
theorem all_succ {α:Type} {P:α → Prop} {l:List α} {i:Nat} {x:α} (h:∀ y ∈ l.take i,P y) (hx:l[i]? = some x) (hp:P x):∀ y ∈ l.take (i + 1),P y:=by
 intro y hy
 rw [ajX,hx] at hy
 rcases ajE.mp hy with hy | hy
 ·exact h y hy
 ·simp at hy;subst hy;exact hp
structure Se where
 q:ByteArray
 t:Int
 c:Int
 d:List ByteArray
 ttl:Int
 deriving DecidableEq
abbrev Se.k (x:Se):Qn:=⟨x.q,x.t,x.c⟩
abbrev Se.v (x:Se):AV:=tL x.q x.t x.c x.d x.ttl
def rS (x:Se):List FV:=[.str x.q,.int .i64 x.t,.int .i64 x.c,.sl (x.d.map bA),.int .i64 x.ttl]
end
section
attribute [local go_sem_proc] Nat.reduceAdd Nat.reduceMul Nat.reduceEqDiff Nat.reduceBEq Nat.reduceMod Nat.reduceDiv reduceCtorEq
attribute [local go_sem_proc ↓] reduceIte
open Go Ev
variable {ext : Env} {F n:Nat}
structure Th where
 gN:ByteArray → Bool
 low:ByteArray → ByteArray
 DU:Int → ByteArray → Bool
 lw:Int → ByteArray → ByteArray
structure Th.DV (r:Bool) (θ:Th) (ext:Env):Prop where
 nc:∀ q,q.size ≤ 1000000 → ext 109 [vs q] = some ([vb (θ.gN q)],[vs q])
 nl:∀ q,q.size ≤ 1000000 → ext 68 [vs q] = some ([vs (θ.low q)],[vs q])
 rc:r = true → ∀ q,q.size ≤ 1000000 → ext 42 [vs q] = some ([vb (θ.gN q)],[vs q])
 rl:r = true → ∀ q,q.size ≤ 1000000 → ext 41 [vs q] = some ([vs (θ.low q)],[vs q])
 dc:∀ k q,q.size ≤ 1000000 → ext 128 [vi k,vs q] = some ([vb (θ.DU k q)],[vi k,vs q])
 dl:∀ k q,q.size ≤ 1000000 → ext 132 [vi k,vs q] = some ([vs (θ.lw k q)],[vi k,vs q])
 ec:r = true → ∀ k q,q.size ≤ 1000000 → ext 118 [vi k,vs q] = some ([vb (θ.DU k q)],[vi k,vs q])
 el:r = true → ∀ k q,q.size ≤ 1000000 → ext 119 [vi k,vs q] = some ([vs (θ.lw k q)],[vi k,vs q])
abbrev Th.Ok (θ:Th) (ext:Env):Prop:=θ.DV true ext
variable {θ : Th}
theorem Uw {rb:Bool} (T:θ.DV rb ext) (q:ByteArray) (h:q.size ≤ 1000000):G ext F (n + 1) 109 [vs q] = some ([vb (θ.gN q)],[vs q]):=(ajM (iE rfl) _).trans (T.nc q h)
theorem Nc {rb:Bool} (T:θ.DV rb ext) (q:ByteArray) (h:q.size ≤ 1000000):G ext F (n + 1) 68 [vs q] = some ([vs (θ.low q)],[vs q]):=(ajM (iE rfl) _).trans (T.nl q h)
theorem aa4 {rb:Bool} (T:θ.DV rb ext) (k:Int) (q:ByteArray) (h:q.size ≤ 1000000):G ext F (n + 1) 128 [vi k,vs q] = some ([vb (θ.DU k q)],[vi k,vs q]):=(ajM (iE rfl) _).trans (T.dc k q h)
theorem aa5 {rb:Bool} (T:θ.DV rb ext) (k:Int) (q:ByteArray) (h:q.size ≤ 1000000):G ext F (n + 1) 132 [vi k,vs q] = some ([vs (θ.lw k q)],[vi k,vs q]):=(ajM (iE rfl) _).trans (T.dl k q h)
def Th.key (θ:Th) (q:ByteArray) (t c:Int):Bool:=decide (θ.gN q = true ∧ θ.low q = q ∧ (0 ≤ t ∧ t ≤ 65535) ∧ (0 ≤ c ∧ c ≤ 65535))
def Th.dat (θ:Th) (t:Int) (d:List ByteArray):Bool:=decide ((∀ x ∈ d,θ.DU t x = true ∧ θ.lw t x = x) ∧ d.Nodup)
def Th.set (θ:Th) (q:ByteArray) (t c:Int) (d:List ByteArray) (ttl:Int):Bool:=decide (θ.key q t c = true ∧ θ.dat t d = true ∧ (0 ≤ ttl ∧ ttl < 2147483648) ∧ d ≠ [])
theorem I6 {l:List ByteArray} {s:ByteArray}:yA l s = true ↔ s ∈ l:=by
 unfold yA
 rw [aj8]
 simp
theorem Nf {l:List ByteArray}:((l.map bA).all fun r=>r.length == 1) = true:=by
 rw [ajp]
 intro r hr
 obtain ⟨x, -,rfl⟩:=ajx.mp hr
 rfl
theorem Ng {t:Int} {d:List ByteArray} {i:Nat} {x:ByteArray} (hx:d[i]? = some x) (h:θ.dat t (d.take i) = true) (hc:θ.DU t x = true) (hw:θ.lw t x = x) (hi:yA (d.take i) x = false):θ.dat t (d.take (i + 1)) = true:=by
 unfold Th.dat at *
 have hi:¬ x ∈ d.take i:=fun h=>by rw [I6.mpr h] at hi;cases hi
 rw [ajt] at *
 refine ⟨all_succ h.1 hx ⟨hc,hw⟩,?_⟩
 rw [ajX,hx,Option.toList_some]
 refine akA.mpr ⟨h.2,List.pairwise_singleton _ _,fun a ha b hb=>?_⟩
 rw [aj0] at hb;subst hb;rintro rfl;exact hi ha
theorem GN {t:Int} {d:List ByteArray} {i:Nat} {x:ByteArray} (hx:d[i]? = some x) (h:θ.DU t x = false ∨ θ.lw t x ≠ x ∨ yA (d.take i) x = true):θ.dat t d = false:=by
 unfold Th.dat
 rw [ajZ]
 rintro ⟨h1,h2⟩
 have hm:=h1 x (akc hx)
 rcases h with h | h | h
 ·rw [h] at hm;simp at hm
 ·exact h hm.2
 ·rw [I6,akW] at h
  obtain ⟨j,hj,he⟩:=h
  have h3:=aj1.mp hx
  exact List.pairwise_iff_getElem.mp h2 j i (by omega) h3.1 (by omega) (by rw [he,h3.2])
theorem AY {rb:Bool} (T:θ.DV rb ext) (q:ByteArray) (t c:Int) (d:List ByteArray) (ttl:Int) (hl:d.length ≤ 1000000000000) (hF:200000000000001 ≤ F) (hq:q.size ≤ 1000000) (hd:∀ x ∈ d,x.size ≤ 1000000):G ext F (n + 3) 113 [tL q t c d ttl] = some ([vb (θ.set q t c d ttl)],[tL q t c d ttl]):=by
 refine dI (cf:=QO) rfl ?_
 have h1:=fun n=>Uw (F:=F) (n:=n) T q hq
 have h2:=fun n=>Nc (F:=F) (n:=n) T q hq
 dsimp only [QO,av,dh,bB,bK,aG,bI,dR,eG,dF,aD,cK,dH,bP,aV];simp only [h1,h2,Uu,go_sem]
 repeat' (refine dU (fun h=>?_) (fun h=>?_) <;> simp only [h,h1,h2,Uu,go_sem])
 ·refine kY d.length (fun i=>⟨[(1,PV.c (CV.one (PL.ptr 40000 0))),(3,PV.c (CV.one (PL.ptr 80000 0))),(39,PV.c (CV.one (PL.f (FV.sl (List.map bA d))))),(40,PV.c (CV.one (PL.f (FV.int IntKind.i64 (List.map bA d).length)))),(41,PV.c (CV.one (PL.f (FV.int .i64 i))))],[(40000,.eT [.f (.str q),.f (.int .i64 t),.f (.int .i64 c),.f (.sl (d.map bA)),.f (.int .i64 ttl)]),(80000,Ob.eT [PL.f (FV.str q),PL.f (FV.int IntKind.i64 t),PL.f (FV.int IntKind.i64 c)])]⟩) (fun i=>θ.dat t (d.take i) = true) (by omega) rfl (by simp [Th.dat]) (fun i hi hP=>?_) (fun hP=>?_)
  ·obtain ⟨x,hx,hlt,ht,h0⟩:=at_ hi
   have hn:=nx hi (aju hl (by decide))
   have h1:=fun n=>aa4 (F:=F) (n:=n) T t x (hd x (akc hx))
   have h2:=fun n=>aa5 (F:=F) (n:=n) T t x (hd x (akc hx))
   have h3:=fun n=>EJ (ext:=ext) (F:=F) (n:=n) (d.take i) x (by simp;omega) hF
   have hle:(i:Int) ≤ (d.length:Int):=by omega
   have hrw:=@Nf d
   have hcut:(0:Int) ≤ i ∧ (i:Int) ≤ d.length:=by omega
   simp only [ajb,ajf,hlt,hx,ht,h0,bA,h1,h2,h3,go_sem]
   repeat' (refine dU (fun h=>?_) (fun h=>?_) <;> simp only [h,ajb,ajf,hlt,hx,ht,h0,hn,bA,h1,h2,h3,hle,hrw,← List.map_take,aj9,Nat.sub_zero,hcut,go_sem])
   ·simp [Th.set,GN hx (.inr (.inr h))]
   ·exact Ng hx hP (by assumption) (ajw (by assumption)) h
   ·simp [Th.set,GN hx (.inr (.inl (of_decide_eq_false h)))]
   ·simp [Th.set,GN hx (.inl h)]
  ·have hd:=@end_ _ d
   rw [ajS] at hP
   simp only [ajb,hd,go_sem]
   repeat' (refine dU (fun h=>?_) (fun h=>?_) <;> simp only [h,ajb,hd,go_sem])
   all_goals (simp [Th.set,Th.key,hP];simp_all)
   all_goals (cases d <;> simp <;> omega)
 all_goals (simp [Th.set,Th.key];try simp_all)
 all_goals (try omega)
end
section
open Go Ev
variable {ext : Env} {F n:Nat} {θ:Th}
structure Sr where
 room:Int
 l:List It
 ch:Int
abbrev Sr.v (s:Sr):AV:=vst s.room s.l s.ch
abbrev It.v (x:It):AV:=vit x.q x.t x.c x.d x.ttl x.u x.r
def it0 : It:=⟨⟨#[]⟩,0,0,[],0,0,0⟩
def old (l:List It) (k:Qn):Option It:=l.find? fun x=>decide (x.k = k)
def rid (l:List It) (k:Qn):List It:=l.eraseP fun x=>decide (x.k = k)
end
section
attribute [local go_sem_proc] Nat.reduceAdd Nat.reduceMul Nat.reduceEqDiff Nat.reduceBEq Nat.reduceMod Nat.reduceDiv reduceCtorEq
attribute [local go_sem_proc ↓] reduceIte
open Go Ev
variable {ext : Env} {F n:Nat}
theorem rF {α:Type} {body:St → Option (Out × St)} {rs:St → St} {k:Out × St → Prop} {u:Tok k} {F:Nat} {σ:St} (N:Nat) (T:α → St) (P:Nat → α → Prop) (hF:N < F) (x:α) (hs:rs σ = T x) (h0:P 0 x)
  (step:∀ i x,i < N → P i x → W (fun p=>match p.1 with
   | .jg=>∃ y,rs p.2 = T y ∧ P (i + 1) y
   | o=>k (o,p.2)) ⟨⟩ (body (T x)))
  (last:∀ x,P N x → W (fun p=>match p.1 with
   | .jg=>False
   | o=>k (o,p.2)) ⟨⟩ (body (T x))):W k u (iter body rs F σ):=by
 refine CO (fun m σ=>∃ i x,i ≤ N ∧ m = N - i ∧ rs σ = T x ∧ P i x) ?_ F N σ hF ⟨0,x,ajO _,rfl,hs,h0⟩
 rintro m σ ⟨i,x,hi,rfl,hr,hP⟩
 rw [hr]
 by_cases hlt:i < N
 ·refine uV (step i x hlt hP) fun p hp=>?_
  obtain ⟨o,s⟩:=p
  cases o with
  | jg =>
   obtain ⟨y,h1,h2⟩:=hp
   exact ⟨N - (i + 1),by omega,i + 1,y,by omega,rfl,h1,h2⟩
  | ext j=>exact hp
  | ret=>exact hp
 ·have:i = N:=by omega
  subst this
  refine uV (last x hP) fun p hp=>?_
  obtain ⟨o,s⟩:=p
  cases o with
  | jg=>exact hp.elim
  | ext j=>exact hp
  | ret=>exact hp
abbrev Qn.f (k:Qn):List FV:=[.str k.q,.int .i64 k.t,.int .i64 k.c]
abbrev fnQ (k:Qn):AV:=.one (.fn 135 [k.f])
theorem Nh (x k:Qn):G ext F (n + 1) 135 [vq x.q x.t x.c,.one (.fp k.f)] = some ([vb (decide (x = k))],[vq x.q x.t x.c,.one (.fp k.f)]):=by
 refine dI (cf:=QV) rfl ?_
 dsimp only [QV,av,dh,bB,bK,aG,bI,dR,eG,dF,aD,cK,dH,bP,aV];simp only [go_sem]
 cases x;cases k;simp
def Ux (l:List Qn) (k:Qn):Int:=match l.findIdx? fun x=>decide (x = k) with | some i=>i | none=>-1
theorem WW {l:List Qn} {k:Qn} (h:∀ x ∈ l,x ≠ k):Ux l k = -1:=by
 have:l.findIdx? (fun x=>decide (x = k)) = none:=akH.mpr fun x hx=>by simpa using h x hx
 simp [Ux,this]
theorem WX {l:List Qn} {k:Qn} {i:Nat} {x:Qn} (h:∀ x ∈ l.take i,x ≠ k) (hx:l[i]? = some x) (hk:x = k):Ux l k = i:=by
 have hi:=(aj1.mp hx)
 have:l.findIdx? (fun x=>decide (x = k)) = some i:=by
  refine akt.mpr ⟨hi.1,by simp [hi.2,hk],fun j hj=>?_⟩
  have:=h (l[j]'(by have:=hi.1;omega)) (by rw [akW];exact ⟨j,by have:=hi.1;omega,rfl⟩)
  simpa using this
 simp [Ux,this]
theorem WY (l:List Qn) (k:Qn):(Ux l k = -1 ∧ ∀ x ∈ l,x ≠ k) ∨ ∃ (i:Nat),Ux l k = (i:Int) ∧ ∃ h:i < l.length,(∀ x ∈ l.take i,x ≠ k) ∧ l[i] = k:=by
 have hp:Ux l k = match l.findIdx? fun x=>decide (x = k) with | some i=>(i:Int) | none=>-1:=rfl
 cases h:l.findIdx? fun x=>decide (x = k) with
 | none =>
  rw [h] at hp
  exact .inl ⟨hp,fun x hx=>by simpa using akH.mp h x hx⟩
 | some i =>
  rw [h] at hp
  obtain ⟨hi,hx,hb⟩:=akt.mp h
  refine .inr ⟨i,hp,hi,fun x hx=>?_,by simpa using hx⟩
  obtain ⟨j,hj,rfl⟩:=akW.mp hx
  have:=hb j (by omega)
  simpa using this
theorem CU (l:List Qn) (k:Qn) (hl:l.length ≤ 1000000000000) (hF:200000000000001 ≤ F):G ext F (n + 2) 149 [vl (l.map rQ),fnQ k] = some ([vi (Ux l k)],[vl (l.map rQ),fnQ k]):=by
 refine dI (cf:=QY) rfl ?_
 dsimp only [QY,av,dh,bB,bK,aG,bI,dR,eG,dF,aD,cK,dH,bP,aV];simp only [go_sem]
 refine kY l.length (fun i=>⟨[(0,PV.c (CV.one (PL.f (FV.sl (l.map rQ))))),(1,PV.c (CV.one (PL.fn 135 [k.f]))),(7,PV.c (CV.one (PL.f (FV.int .i64 (l.map rQ).length)))),(8,PV.c (CV.one (PL.f (FV.int .i64 i))))],[]⟩) (fun i=>∀ x ∈ l.take i,x ≠ k) (by omega) rfl (by simp) (fun i hi hP=>?_) (fun hP=>?_)
 ·obtain ⟨x,hx,hd,ht,h0⟩:=at_ hi
  have hn:=nx hi (aju hl (by decide))
  have hq:=fun n=>Nh (ext:=ext) (F:=F) (n:=n) x k
  simp only [ajb,ajf,hd,hx,ht,h0,rQ,hq,go_sem]
  repeat' (refine dU (fun h=>?_) (fun h=>?_) <;> simp only [h,ajb,ajf,hd,hx,ht,h0,hn,rQ,hq,go_sem])
  ·rw [WX hP hx (by simpa using h)]
  ·exact all_succ hP hx (by simpa using h)
 ·have hd:=@end_ _ l
  simp only [ajb,hd,go_sem]
  repeat' (refine dU (fun h=>?_) (fun h=>?_) <;> simp only [h,ajb,hd,go_sem])
  rw [ajS] at hP
  rw [WW hP]
theorem Rt {l:List Qn} {k x:Qn} {i:Nat} (h:l[i]? = some x):(l.take (i + 1)).filter (fun y=>decide (y ≠ k)) = (l.take i).filter (fun y=>decide (y ≠ k)) ++ if x = k then [] else [x]:=by
 rw [ajX,List.filter_append,h]
 by_cases hx:x = k <;> simp [hx]
theorem zU (l:List Qn) (k:Qn) (hl:l.length ≤ 1000000000000) (hF:200000000000001 ≤ F):G ext F (n + 3) 134 [.one (.own 3 (l.map rQ)),fnQ k] = some ([.one (.own 3 ((l.filter fun x=>decide (x ≠ k)).map rQ))],[.one .any,fnQ k]):=by
 refine dI (cf:=QU) rfl ?_
 have h1:=fun n=>CU (ext:=ext) (F:=F) (n:=n) l k hl hF
 dsimp only [QU,av,dh,bB,bK,aG,bI,dR,eG,dF,aD,cK,dH,bP,aV];simp only [h1,go_sem]
 rcases WY l k with ⟨hp,hno⟩ | ⟨i0,hp,hi0,hpre,hat⟩
 ·rw [hp]
  simp only [show decide ((-1:Int) = -1) = true from rfl,go_sem]
  rw [List.filter_eq_self.mpr (fun x hx=>by simpa using hno x hx)]
 ·rw [hp]
  have hne:decide ((i0:Int) = -1) = false:=by simp
  simp only [hne,nx hi0 (aju hl (by decide)),ajb,go_sem]
  refine rF (l.length - (i0 + 1)) (fun x:List Qn × Nat × Nat=>⟨[(0,PV.c (CV.one (PL.own 20202 x.1.length))),(1,PV.c (CV.one (PL.fn 135 [k.f]))),(5,PV.c (CV.one (PL.f (FV.int IntKind.i64 x.2.1)))),(6,PV.c (CV.one (PL.f (FV.int IntKind.i64 x.2.2))))],[(20202,Ob.row 3 (x.1.map rQ))]⟩) (fun r x=>x.2.2 = i0 + 1 + r ∧ x.2.1 < x.2.2 ∧ x.1.length = l.length ∧ x.1.take x.2.1 = (l.take x.2.2).filter (fun y=>decide (y ≠ k)) ∧ x.1.drop x.2.2 = l.drop x.2.2) (by omega) (l,i0,i0 + 1) rfl ⟨rfl,Nat.lt_succ_self _,rfl,?_,rfl⟩ (fun r x hr hP=>?_) (fun x hP=>?_)
  ·rw [ajX,List.filter_append,List.filter_eq_self.mpr (fun x hx=>by simpa using hpre x hx),ajo hi0]
   simp [hat]
  ·obtain ⟨R,c,j⟩:=x
   obtain ⟨rfl,hc,hlen,htk,hdr⟩:=hP
   simp only at hc hlen htk hdr ⊢
   have hj:i0 + 1 + r < R.length:=by omega
   obtain ⟨x,hx,hd,ht,h0⟩:=at_ hj
   have hn:=nx hj (by omega)
   have hq:=fun n=>Nh (ext:=ext) (F:=F) (n:=n) x k
   have hlt:((i0 + 1 + r:Nat):Int) < (R.length:Int):=by omega
   have hcR:c < R.length:=by omega
   obtain ⟨y,hy,hcd,hct,hc0⟩:=at_ hcR
   have hcl:(c:Int) < (R.length:Int):=by omega
   have hcn:=nx hcR (by omega)
   simp only [ajb,ajf,hd,hx,ht,h0,rQ,hq,hlt,go_sem]
   repeat' (refine dU (fun h=>?_) (fun h=>?_) <;> simp only [h,ajb,ajf,hd,hx,ht,h0,hn,rQ,hq,hlt,hy,hct,hc0,hcl,hcn,go_sem])
   all_goals
    have hxl:l[i0 + 1 + r]? = some x:=by
     have:=ajC (fun z:List Qn=>z[0]?) hdr
     simp only [aj3,Nat.add_zero,hx] at this
     exact this.symm
    have hdr':List.drop (i0 + 1 + r + 1) R = List.drop (i0 + 1 + r + 1) l:=by
     have:=ajC (List.drop 1) hdr
     simpa only [List.drop_drop] using this
    have hft:=Rt (k:=k) hxl
   ·simp only [ajt] at h
    rw [ai8 h,akb] at hft
    exact ⟨(R,c,i0 + 1 + r + 1),rfl,rfl,by show c < i0 + 1 + r + 1;omega,hlen,by rw [hft];exact htk,hdr'⟩
   ·simp only [ajZ] at h
    rw [ai9 h] at hft
    refine ⟨(R.set c x,c + 1,i0 + 1 + r + 1),?_,rfl,by show c + 1 < i0 + 1 + r + 1;omega,by simp [hlen],?_,?_⟩
    ·simp [akv,rQ]
    ·show List.take (c + 1) (R.set c x) = _
     rw [hft,ajX,List.take_set,List.set_eq_of_length_le (by simp;omega),htk,List.getElem?_set_self hcR]
     rfl
    ·show List.drop _ (R.set c x) = _
     rw [List.drop_set_of_lt (show c < i0 + 1 + r + 1 by omega)]
     exact hdr'
  ·obtain ⟨R,c,j⟩:=x
   obtain ⟨rfl,hc,hlen,htk,hdr⟩:=hP
   simp only at hc hlen htk hdr ⊢
   have hj:i0 + 1 + (l.length - (i0 + 1)) = R.length:=by omega
   rw [hj]
   rw [hj,akL (l:=l) (i:=R.length) (by omega)] at htk
   have hd:=@end_ _ R
   have hct:(c:Int).toNat = c:=by simp
   have htt:List.take c (List.take c (List.map rQ R) ++ List.replicate (R.length - c) [FV.str ⟨#[]⟩,FV.int IntKind.i64 0,FV.int IntKind.i64 0]) = (l.filter fun y=>decide (y ≠ k)).map rQ:=by
    rw [akU (by simp;omega),List.take_take,Nat.min_self,← List.map_take,htk]
   simp only [ajb,hd,go_sem]
   repeat' (refine dU (fun h=>?_) (fun h=>?_) <;> simp only [h,ajb,hd,go_sem])
   rw [hct]
   exact ⟨by omega,by omega,⟨by omega,by simp;omega⟩,by rw [htt]⟩
structure l5 (ext:Env):Prop where
 cq:∀ l:List Qn,l.length ≤ 1000000 → ext 115 [vl (l.map rQ)] = some ([.one (.own 3 (l.map rQ))],[vl (l.map rQ)])
 cs:∀ l:List ByteArray,l.length ≤ 1000000 → ext 72 [vl (l.map bA)] = some ([vl (l.map bA)],[vl (l.map bA)])
theorem Ni (C:l5 ext) (l:List Qn) (h:l.length ≤ 1000000):G ext F (n + 1) 115 [vl (l.map rQ)] = some ([.one (.own 3 (l.map rQ))],[vl (l.map rQ)]):=(ajM (iE rfl) _).trans (C.cq l h)
theorem Nj (C:l5 ext) (l:List ByteArray) (h:l.length ≤ 1000000):G ext F (n + 1) 72 [vl (l.map bA)] = some ([vl (l.map bA)],[vl (l.map bA)]):=(ajM (iE rfl) _).trans (C.cs l h)
def DW (l:List Qn) (k:Qn):List Qn:=l.filter fun x=>decide (x ≠ k)
theorem tQ {l:List Qn} {k:Qn}:(DW l k).length ≤ l.length:=List.length_filter_le ..
theorem Nk (C:l5 ext) (l:List Qn) (k:Qn) (hl:l.length ≤ 1000000) (hF:200000000000001 ≤ F):G ext F (n + 4) 116 [vl (l.map rQ),vq k.q k.t k.c] = some ([.one (.own 3 ((DW l k).map rQ))],[vl (l.map rQ),vq k.q k.t k.c]):=by
 refine dI (cf:=c116) rfl ?_
 have h1:=fun n=>Ni (F:=F) (n:=n) C l hl
 have h2:=fun n=>zU (ext:=ext) (F:=F) (n:=n) l k (by omega) hF
 dsimp only [c116,av,dh,bB,bK,aG,bI,dR,eG,dF,aD,cK,dH,bP,aV];simp only [h1,h2,go_sem]
 rfl
theorem EL (C:l5 ext) (l:List Qn) (k:Qn) (hl:l.length ≤ 1000000) (hF:200000000000001 ≤ F):G ext F (n + 5) 86 [vl (l.map rQ),vq k.q k.t k.c] = some ([vl ((DW l k ++ [k]).map rQ)],[vl (l.map rQ),vq k.q k.t k.c]):=by
 refine dI (cf:=c86) rfl ?_
 have h1:=fun n=>Nk (ext:=ext) (F:=F) (n:=n) C l k hl hF
 have hl2:=@tQ l k
 dsimp only [c86,av,dh,bB,bK,aG,bI,dR,eG,dF,aD,cK,dH,bP,aV];simp only [h1,ajb,go_sem]
 have hsz:((DW l k).length + 1) * 32 ≤ 140737488355328:=by omega
 simp [rQ,hsz]
theorem aa6 (l:List Qn):((l.map rQ).all fun r=>r.length == 3) = true:=by
 rw [ajp]
 intro r hr
 obtain ⟨x, -,rfl⟩:=ajx.mp hr
 rfl
theorem Nl (C:l5 ext) (l:List Qn) (most:Int) (hl:l.length ≤ 1000000) (hm:0 ≤ most ∧ most ≤ 1000000000000) (hF:200000000000001 ≤ F):G ext F (n + 2) 85 [vl (l.map rQ),vi most] = some ([vl ((l.drop (l.length - most.toNat)).map rQ),vl ((l.take (l.length - most.toNat)).map rQ)],[vl (l.map rQ),vi most]):=by
 refine dI (cf:=c85) rfl ?_
 have h1:=fun n=>Ni (F:=F) (n:=n) C (l.drop (l.length - most.toNat)) (by simp;omega)
 have h2:=fun n=>Ni (F:=F) (n:=n) C (l.take (l.length - most.toNat)) (by simp;omega)
 obtain ⟨a,ha⟩:∃ a,a = l.length - most.toNat:=⟨_,rfl⟩
 rw [← ha] at h1 h2 ⊢
 have hc:IntKind.i64.wrap ((l.length:Int) - if (if (l.length:Int) < most then (l.length:Int) else most) < 0 then 0 else if (l.length:Int) < most then (l.length:Int) else most) = (a:Int):=by
  rw [qh (by split <;> split <;> omega) (by split <;> split <;> omega)]
  split <;> split <;> omega
 have hat:(a:Int).toNat = a:=by simp
 have hc1:(0:Int) ≤ a ∧ (a:Int) ≤ (l.length:Int):=by omega
 have hk1:List.take (l.length - a) (List.drop a (l.map rQ)) = (l.drop a).map rQ:=by rw [akL (by simp),List.map_drop]
 have hk2:List.take a (l.map rQ) = (l.take a).map rQ:=List.map_take.symm
 dsimp only [c85,av,dh,bB,bK,aG,bI,dR,eG,dF,aD,cK,dH,bP,aV];simp only [ajb,hc,hat,hc1,hk1,hk2,h1,h2,aa6 l,aj9,Nat.sub_zero,go_sem]
end
section
attribute [local go_sem_proc] Nat.reduceAdd Nat.reduceMul Nat.reduceEqDiff Nat.reduceBEq Nat.reduceMod Nat.reduceDiv reduceCtorEq
attribute [local go_sem_proc ↓] reduceIte
open Go Ev
variable {ext : Env} {F n:Nat} {θ:Th}
abbrev kR : KS:=.agg [.str,.int .i64,.int .i64]
abbrev kq (k:Qn):KV:=.agg [.str k.q,.int .i64 k.t,.int .i64 k.c]
def ent (x:It):KV × FC:=(kq x.k,.agg (rI x))
structure Sv where
 room:Int
 m:List It
 o:List Qn
 ch:Int
abbrev Sv.v (s:Sv):AV:=.one (.ptr [.f (.int .i64 s.room),.mp kR (s.m.map ent),.f (.sl (s.o.map rQ)),.f (.int .i64 s.ch)])
def svo : Option Sv → AV
 | some s=>s.v
 | none=>.one .iU
theorem EM (s:Sv):svo (some s) = s.v:=rfl
theorem GQ {a b:Qn}:kq a = kq b ↔ a = b:=by
 constructor
 ·intro h;simp only [kq,KV.agg.injEq,akq,SV.str.injEq,SV.int.injEq] at h
  cases a;cases b;simp_all
 ·rintro rfl;rfl
theorem mO (l:List It) (k:Qn):xA (l.map ent) (kq k) = l.findIdx? fun x=>decide (x.k = k):=by
 unfold xA
 rw [aku,List.findIdx?_map]
 refine ajC (fun p=>List.findIdx? p l) (funext fun x=>?_)
 simp only [Function.comp,ent]
 by_cases h:x.k = k
 ·simp [h]
 ·have:¬ kq x.k = kq k:=fun e=>h (GQ.mp e)
  simp only [this,h,decide_false]
theorem ql (l:List It) (k:Qn):sH (l.map ent) (kq k) = (old l k).map fun x=>.agg (rI x):=by
 have hf:old l k = (l.findIdx? fun x=>decide (x.k = k)).bind fun i=>l[i]?:=List.find?_eq_bind_findIdx?_getElem? ..
 unfold sH
 rw [mO,hf]
 cases l.findIdx? fun x=>decide (x.k = k) with
 | none=>rfl
 | some i=>simp only [Option.bind_some,ajf];cases l[i]? <;> rfl
theorem yB (l:List It) (k:Qn):BP (l.map ent) (kq k) = (rid l k).map ent:=by
 unfold BP rid
 rw [mO,List.eraseP_eq_eraseIdx]
 cases l.findIdx? fun x=>decide (x.k = k) with
 | none=>rfl
 | some i=>simp [List.eraseIdx_eq_take_drop_succ,List.map_take,List.map_drop]
def upd (l:List It) (x:It):List It:=match l.findIdx? fun y=>decide (y.k = x.k) with
 | some i=>l.set i x
 | none=>l ++ [x]
theorem yC (l:List It) (x:It):xB (l.map ent) (kq x.k) (.agg (rI x)) = (upd l x).map ent:=by
 unfold xB upd
 rw [mO]
 cases l.findIdx? fun y=>decide (y.k = x.k) with
 | none=>simp [ent]
 | some i=>simp [akv,ent]
theorem Nn (room:Int):G ext F (n + 1) 48 [vi room] = some ([svo (if room < 1 ∨ 1000 < room then none else some ⟨room,[],[],0⟩)],[vi room]):=by
 refine dI (cf:=c48) rfl ?_
 dsimp only [c48,av,dh,bB,bK,aG,bI,dR,eG,dF,aD,cK,dH,bP,aV];simp only [go_sem]
 repeat' (refine dU (fun h=>?_) (fun h=>?_) <;> simp only [h,go_sem])
 all_goals (simp only [ajt,ajZ] at *)
 all_goals first | rw [ai8 (by omega)] | rw [ai9 (by omega)]
 all_goals rfl
theorem EN (C:l5 ext) (x:It) (hx:x.d.length ≤ 1000000):G ext F (n + 2) 79 [x.v] = some ([x.v],[x.v]):=by
 refine dI (cf:=c79) rfl ?_
 have h1:=fun n=>Nj (F:=F) (n:=n) C x.d hx
 dsimp only [c79,av,dh,bB,bK,aG,bI,dR,eG,dF,aD,cK,dH,bP,aV];simp only [h1,go_sem]
def bG (s:Sv) (now:Int) (k:Qn):It × Bool:=match old s.m k with
 | some x=>if mM now x.u then (x,true) else (it0,false)
 | none=>(it0,false)
theorem I7 (C:l5 ext) (s:Sv) (now:Int) (k:Qn) (hd:∀ x ∈ s.m,x.d.length ≤ 1000000):G ext F (n + 3) 43 [s.v,vi now,vq k.q k.t k.c] = some ([(bG s now k).1.v,vb (bG s now k).2],[s.v,vi now,vq k.q k.t k.c]):=by
 refine dI (cf:=c43) rfl ?_
 have hk:=ql s.m k
 unfold bG
 cases ho:old s.m k with
 | none =>
  rw [ho] at hk
  dsimp only [c43,av,dh,bB,bK,aG,bI,dR,eG,dF,aD,cK,dH,bP,aV];simp only [hk,Option.map_none,Option.isSome_none,go_sem]
  rfl
 | some x =>
  rw [ho] at hk
  have h1:=fun n=>EN (F:=F) (n:=n) C x (hd x (ak1 ho))
  cases hv:mM now x.u
  all_goals
   dsimp only [c43,av,dh,bB,bK,aG,bI,dR,eG,dF,aD,cK,dH,bP,aV];simp only [hk,Option.map_some,Option.isSome_some,rI,jH,hv,h1,go_sem]
  rfl
def Ki (θ:Th) (s:Sv) (now:Int) (x:It):Int :=
 if x.u < 0 ∨ θ.set x.q x.t x.c x.d x.ttl = false ∨ x.r < 1 ∨ 5 < x.r then 1
 else if mM now x.u = false then 14
 else match old s.m x.k with
  | some o=>if M0 o.r (mM now o.u) x.r = false then 10 else 0
  | none=>0
theorem Np (now:Int) (x:It):G ext F (n + 4) 84 [.one .iU,vi now,x.v] = some ([vi 1],[.one .iU,vi now,x.v]):=by
 refine dI (cf:=WQ) rfl ?_
 dsimp only [WQ,av,dh,bB,bK,aG,bI,dR,eG,dF,aD,cK,dH,bP,aV];simp only [go_sem]
theorem WZ {rb:Bool} (T:θ.DV rb ext) (s:Sv) (now:Int) (x:It) (hF:200000000000001 ≤ F) (hq:x.q.size ≤ 1000000) (hn:x.d.length ≤ 1000000) (hd:∀ y ∈ x.d,y.size ≤ 1000000):G ext F (n + 4) 84 [s.v,vi now,x.v] = some ([vi (Ki θ s now x)],[s.v,vi now,x.v]):=by
 refine dI (cf:=WQ) rfl ?_
 have hk:=ql s.m x.k
 have h1:=fun n=>AY (ext:=ext) (F:=F) (n:=n) T x.q x.t x.c x.d x.ttl (by omega) hF hq hd
 unfold Ki
 cases hold:old s.m x.k with
 | none =>
  rw [hold] at hk
  dsimp only [WQ,av,dh,bB,bK,aG,bI,dR,eG,dF,aD,cK,dH,bP,aV];simp only [h1,hk,jH,Option.map_none,Option.isSome_none,go_sem]
  repeat' (refine dU (fun h=>?_) (fun h=>?_) <;> simp only [h,h1,hk,jH,Option.map_none,Option.isSome_none,go_sem])
  all_goals clear h1 hk
  all_goals simp only [ajt,ajZ] at *
  all_goals simp [*]
 | some o =>
  rw [hold] at hk
  dsimp only [WQ,av,dh,bB,bK,aG,bI,dR,eG,dF,aD,cK,dH,bP,aV];simp only [h1,hk,jH,IX,Option.map_some,Option.isSome_some,rI,go_sem]
  repeat' (refine dU (fun h=>?_) (fun h=>?_) <;> simp only [h,h1,hk,jH,IX,Option.map_some,Option.isSome_some,rI,go_sem])
  all_goals clear h1 hk
  all_goals simp only [ajt,ajZ] at *
  all_goals simp [*]
end
section
open Go Ev
variable {ext : Env} {F n:Nat} {θ:Th}
abbrev Se.it (x:Se) (u r:Int):It:=⟨x.q,x.t,x.c,x.d,x.ttl,u,r⟩
def uX (θ:Th) (s:Sv) (now:Int) (x:Se) (r:Int):Sv × Int :=
 let it:=x.it (fK now x.ttl) r
 if Ki θ s now it ≠ 0 then (s,Ki θ s now it)
 else
  let t:=DW s.o x.k ++ [x.k]
  (⟨s.room,(t.take (t.length - s.room.toNat)).foldl rid (upd s.m it),t.drop (t.length - s.room.toNat),s.ch + 1⟩,0)
structure AZ (θ:Th) (ext:Env):Prop where
 p0:∀ now x r,ext 50 [.one .iU,vi now,Se.v x,vi r] = some ([vi 1],[.one .iU,vi now,x.v,vi r])
 p1:∀ (s:Sv) now (x:Se) r,0 ≤ s.room ∧ s.room ≤ 1000000 → 0 ≤ s.ch ∧ s.ch ≤ 1000000000000 → s.o.length ≤ 100000 → s.m.length ≤ 100000 → x.q.size ≤ 1000000 → x.d.length ≤ 1000000 → (∀ y ∈ x.d,y.size ≤ 1000000) →
  ext 50 [s.v,vi now,x.v,vi r] = some ([vi (uX θ s now x r).2],[(uX θ s now x r).1.v,vi now,x.v,vi r])
theorem Nq (Q:AZ θ ext) (s:Sv) (now:Int) (x:Se) (r:Int) (h1:0 ≤ s.room ∧ s.room ≤ 1000000) (h2:0 ≤ s.ch ∧ s.ch ≤ 1000000000000) (h3:s.o.length ≤ 100000) (h3':s.m.length ≤ 100000) (h4:x.q.size ≤ 1000000) (h5:x.d.length ≤ 1000000) (h6:∀ y ∈ x.d,y.size ≤ 1000000):G ext F (n + 1) 50 [s.v,vi now,x.v,vi r] = some ([vi (uX θ s now x r).2],[(uX θ s now x r).1.v,vi now,x.v,vi r]):=(ajM (iE rfl) _).trans (Q.p1 s now x r h1 h2 h3 h3' h4 h5 h6)
abbrev na : ByteArray:=⟨#[1,97,0]⟩
abbrev nb : ByteArray:=⟨#[1,98,0]⟩
abbrev nc_ : ByteArray:=⟨#[1,99,0]⟩
abbrev dd : ByteArray:=⟨#[49,49,49,49]⟩
abbrev sa : Se:=⟨na,1,1,[dd],5⟩
abbrev sb : Se:=⟨nb,1,1,[dd],5⟩
abbrev sc : Se:=⟨nc_,1,1,[dd],5⟩
abbrev sz : Se:=⟨na,1,1,[dd],0⟩
abbrev t0 : Sv:=⟨2,[],[],0⟩
abbrev t1 : Sv:=⟨2,[sa.it 6 5],[sa.k],1⟩
abbrev t2 : Sv:=⟨2,[sa.it 6 5,sb.it 6 3],[sa.k,sb.k],2⟩
abbrev t3 : Sv:=⟨2,[sa.it 6 5,sb.it 6 3],[sb.k,sa.k],2⟩
abbrev t4 : Sv:=⟨2,[sa.it 6 5,sc.it 7 1],[sa.k,sc.k],3⟩
abbrev t5 : Sv:=⟨2,[sc.it 7 1],[sc.k],4⟩
end
section
open Go Ev
variable {θ : Th}
abbrev ks (l:List It):List Qn:=l.map It.k
theorem l6 {l:List It} {b:Qn} {x:It} (h:old l b = some x):x.k = b ∧ x ∈ l:=⟨by simpa using List.find?_some h,ak1 h⟩
theorem tT {l:List It} {a:Qn}:(rid l a).Sublist l:=List.eraseP_sublist ..
theorem uY {l:List It} {a:Qn} (h:(ks l).Nodup):(ks (rid l a)).Nodup:=(tT.map _).nodup h
theorem rZ (l:List It) (x:It):(x.k ∉ ks l ∧ upd l x = l ++ [x]) ∨ ∃ a y b,l = a ++ y :: b ∧ y.k = x.k ∧ x.k ∉ ks a ∧ upd l x = a ++ x :: b:=by
 unfold upd
 cases h:l.findIdx? fun y=>decide (y.k = x.k) with
 | none =>
  refine .inl ⟨fun hm=>?_,rfl⟩
  obtain ⟨y,hy,hk⟩:=ajx.mp hm
  have:=akH.mp h y hy
  simp [hk] at this
 | some i =>
  obtain ⟨hi,hx,hb⟩:=akt.mp h
  refine .inr ⟨l.take i,l[i],l.drop (i + 1),?_,by simpa using hx,fun hm=>?_,?_⟩
  ·rw [List.getElem_cons_drop,akV]
  ·obtain ⟨y,hy,hk⟩:=ajx.mp hm
   obtain ⟨j,hj,rfl⟩:=akW.mp hy
   have:=hb j (by omega)
   simp [hk] at this
  ·simp only [List.set_eq_take_append_cons_drop,hi,ajH]
theorem uZ {l:List It} {x:It} (h:(ks l).Nodup):(ks (upd l x)).Nodup:=by
 rcases rZ l x with ⟨hn,hu⟩ | ⟨a,y,c,rfl,hy,ha,hu⟩
 ·rw [hu]
  simp only [ks,aks,ajk,ajn]
  refine akA.mpr ⟨h,List.pairwise_singleton _ _,fun p hp q hq=>?_⟩
  rw [aj0] at hq;subst hq;rintro rfl;exact hn hp
 ·rw [hu]
  have:ks (a ++ x :: c) = ks (a ++ y :: c):=by simp [ks,hy]
  rw [this];exact h
end
end Go.Proofs.YtfokaoeinpnagaaGreat.Kc
namespace Go.Proofs.YtfokaoeinpnagaaGreat.Kc.Ne
section
open Go Ev
variable {ext : Env} {F n:Nat} {θ:Th}
structure Nt where
 k:Qn
 nx:Bool
 s:Se
 u:Int
 deriving DecidableEq
def rN (x:Nt):List FV:=[.str x.k.q,.int .i64 x.k.t,.int .i64 x.k.c,.bool x.nx,.str x.s.q,.int .i64 x.s.t,.int .i64 x.s.c,.sl (x.s.d.map bA),.int .i64 x.s.ttl,.int .i64 x.u]
abbrev Nt.v (x:Nt):AV:=.agg [.f (.str x.k.q),.f (.int .i64 x.k.t),.f (.int .i64 x.k.c),.f (.bool x.nx),.f (.str x.s.q),.f (.int .i64 x.s.t),.f (.int .i64 x.s.c),.f (.sl (x.s.d.map bA)),.f (.int .i64 x.s.ttl),.f (.int .i64 x.u)]
abbrev _root_.Go.Proofs.YtfokaoeinpnagaaGreat.Kc.Qn.v (k:Qn):AV:=vq k.q k.t k.c
def nt0 : Nt:=⟨⟨⟨#[]⟩,0,0⟩,false,⟨⟨#[]⟩,0,0,[],0⟩,0⟩
structure On where
 o:Int
 now:Int
 k:Qn
 nx:Bool
 s:Se
abbrev On.v (x:On):AV:=.agg [.f (.int .i64 x.o),.f (.int .i64 x.now),.f (.str x.k.q),.f (.int .i64 x.k.t),.f (.int .i64 x.k.c),.f (.bool x.nx),.f (.str x.s.q),.f (.int .i64 x.s.t),.f (.int .i64 x.s.c),.f (.sl (x.s.d.map bA)),.f (.int .i64 x.s.ttl)]
structure Nv where
 room:Int
 m:List Nt
 o:List Qn
 ch:Int
structure Rn where
 room:Int
 l:List Nt
 ch:Int
abbrev kR : KS:=.agg [.str,.int .i64,.int .i64]
abbrev kq (k:Qn):KV:=.agg [.str k.q,.int .i64 k.t,.int .i64 k.c]
theorem GQ {a b:Qn}:kq a = kq b ↔ a = b:=by
 constructor
 ·intro h;simp only [kq,KV.agg.injEq,akq,SV.str.injEq,SV.int.injEq] at h
  cases a;cases b;simp_all
 ·rintro rfl;rfl
def old (l:List Nt) (k:Qn):Option Nt:=l.find? fun x=>decide (x.k = k)
def rid (l:List Nt) (k:Qn):List Nt:=l.eraseP fun x=>decide (x.k = k)
def ent (x:Nt):KV × FC:=(kq x.k,.agg (rN x))
theorem mO (l:List Nt) (k:Qn):xA (l.map ent) (kq k) = l.findIdx? fun x=>decide (x.k = k):=by
 unfold xA
 rw [aku,List.findIdx?_map]
 refine ajC (fun p=>List.findIdx? p l) (funext fun x=>?_)
 simp only [Function.comp,ent]
 by_cases h:x.k = k
 ·simp [h]
 ·have:¬ kq x.k = kq k:=fun e=>h (GQ.mp e)
  simp only [this,h,decide_false]
theorem ql (l:List Nt) (k:Qn):sH (l.map ent) (kq k) = (old l k).map fun x=>.agg (rN x):=by
 have hf:old l k = (l.findIdx? fun x=>decide (x.k = k)).bind fun i=>l[i]?:=List.find?_eq_bind_findIdx?_getElem? ..
 unfold sH
 rw [mO,hf]
 cases l.findIdx? fun x=>decide (x.k = k) with
 | none=>rfl
 | some i=>simp only [Option.bind_some,ajf];cases l[i]? <;> rfl
theorem yB (l:List Nt) (k:Qn):BP (l.map ent) (kq k) = (rid l k).map ent:=by
 unfold BP rid
 rw [mO,List.eraseP_eq_eraseIdx]
 cases l.findIdx? fun x=>decide (x.k = k) with
 | none=>rfl
 | some i=>simp [List.eraseIdx_eq_take_drop_succ,List.map_take,List.map_drop]
def upd (l:List Nt) (x:Nt):List Nt:=match l.findIdx? fun y=>decide (y.k = x.k) with
 | some i=>l.set i x
 | none=>l ++ [x]
theorem yC (l:List Nt) (x:Nt):xB (l.map ent) (kq x.k) (.agg (rN x)) = (upd l x).map ent:=by
 unfold xB upd
 rw [mO]
 cases l.findIdx? fun y=>decide (y.k = x.k) with
 | none=>simp [ent]
 | some i=>simp [akv,ent]
abbrev ks (l:List Nt):List Qn:=l.map Nt.k
theorem l6 {l:List Nt} {b:Qn} {x:Nt} (h:old l b = some x):x.k = b ∧ x ∈ l:=⟨by simpa using List.find?_some h,ak1 h⟩
theorem tT {l:List Nt} {a:Qn}:(rid l a).Sublist l:=List.eraseP_sublist ..
theorem uY {l:List Nt} {a:Qn} (h:(ks l).Nodup):(ks (rid l a)).Nodup:=(tT.map _).nodup h
theorem rZ (l:List Nt) (x:Nt):(x.k ∉ ks l ∧ upd l x = l ++ [x]) ∨ ∃ a y b,l = a ++ y :: b ∧ y.k = x.k ∧ x.k ∉ ks a ∧ upd l x = a ++ x :: b:=by
 unfold upd
 cases h:l.findIdx? fun y=>decide (y.k = x.k) with
 | none =>
  refine .inl ⟨fun hm=>?_,rfl⟩
  obtain ⟨y,hy,hk⟩:=ajx.mp hm
  have:=akH.mp h y hy
  simp [hk] at this
 | some i =>
  obtain ⟨hi,hx,hb⟩:=akt.mp h
  refine .inr ⟨l.take i,l[i],l.drop (i + 1),?_,by simpa using hx,fun hm=>?_,?_⟩
  ·rw [List.getElem_cons_drop,akV]
  ·obtain ⟨y,hy,hk⟩:=ajx.mp hm
   obtain ⟨j,hj,rfl⟩:=akW.mp hy
   have:=hb j (by omega)
   simp [hk] at this
  ·simp only [List.set_eq_take_append_cons_drop,hi,ajH]
theorem uZ {l:List Nt} {x:Nt} (h:(ks l).Nodup):(ks (upd l x)).Nodup:=by
 rcases rZ l x with ⟨hn,hu⟩ | ⟨a,y,c,rfl,hy,ha,hu⟩
 ·rw [hu]
  simp only [ks,aks,ajk,ajn]
  refine akA.mpr ⟨h,List.pairwise_singleton _ _,fun p hp q hq=>?_⟩
  rw [aj0] at hq;subst hq;rintro rfl;exact hn hp
 ·rw [hu]
  have:ks (a ++ x :: c) = ks (a ++ y :: c):=by simp [ks,hy]
  rw [this];exact h
theorem Ru {l:List Nt} {x:Nt}:(upd l x).length ≤ l.length + 1:=by
 rcases rZ l x with ⟨-,hu⟩ | ⟨a,y,c,rfl, -, -,hu⟩ <;> rw [hu] <;> simp
theorem Rv {l:List Nt} {x y:Nt} (h:y ∈ upd l x):y = x ∨ y ∈ l:=by
 rcases rZ l x with ⟨-,hu⟩ | ⟨a,z,c,rfl, -, -,hu⟩ <;> rw [hu] at h <;> simp at h ⊢
 ·rcases h with h | h <;> simp [h]
 ·rcases h with h | h | h <;> simp [h]
theorem yD : ∀ {g:List Qn} {l:List Nt},(g.foldl rid l).Sublist l
 | [],l=>akQ _
 | a :: g,l=>(yD (g:=g)).trans tT
abbrev Nv.v (s:Nv):AV:=.one (.ptr [.f (.int .i64 s.room),.mp kR (s.m.map ent),.f (.sl (s.o.map rQ)),.f (.int .i64 s.ch)])
abbrev Rn.v (s:Rn):AV:=.agg [.f (.int .i64 s.room),.f (.sl (s.l.map rN)),.f (.int .i64 s.ch)]
def nvo : Option Nv → AV
 | some s=>s.v
 | none=>.one .iU
theorem EO (s:Nv):nvo (some s) = s.v:=rfl
end
section
attribute [local go_sem_proc] Nat.reduceAdd Nat.reduceMul Nat.reduceEqDiff Nat.reduceBEq Nat.reduceMod Nat.reduceDiv reduceCtorEq
attribute [local go_sem_proc ↓] reduceIte
open Go Ev
variable {ext : Env} {F n:Nat} {θ:Th} {gt:ByteArray → Int → Int → Int × Bool}
structure vS (r:Bool) (gt:ByteArray → Int → Int → Int × Bool) (ext:Env):Prop where
 og:∀ s a z,s.size ≤ 1000000 → ext 117 [vs s,vi a,vi z] = some ([vi (gt s a z).1,vb (gt s a z).2],[vs s,vi a,vi z])
 rg:r = true → ∀ s a z,s.size ≤ 1000000 → ext 120 [vs s,vi a,vi z] = some ([vi (gt s a z).1,vb (gt s a z).2],[vs s,vi a,vi z])
 nn:∀ s a z,0 ≤ (gt s a z).1
theorem aa7 {rg:Bool} (O:vS rg gt ext) (s:ByteArray) (a z:Int) (h:s.size ≤ 1000000):G ext F (n + 1) 117 [vs s,vi a,vi z] = some ([vi (gt s a z).1,vb (gt s a z).2],[vs s,vi a,vi z]):=(ajM (iE rfl) _).trans (O.og s a z h)
theorem I8 (room:Int):G ext F (n + 1) 49 [vi room] = some ([nvo (if room < 1 ∨ 1000 < room then none else some ⟨room,[],[],0⟩)],[vi room]):=by
 refine dI (cf:=c49) rfl ?_
 dsimp only [c49,av,dh,bB,bK,aG,bI,dR,eG,dF,aD,cK,dH,bP,aV];simp only [go_sem]
 repeat' (refine dU (fun h=>?_) (fun h=>?_) <;> simp only [h,go_sem])
 all_goals (simp only [ajt,ajZ] at *)
 all_goals first | rw [ai8 (by omega)] | rw [ai9 (by omega)]
 all_goals rfl
theorem oo (C:l5 ext) (x:Nt) (hx:x.s.d.length ≤ 1000000):G ext F (n + 2) 90 [x.v] = some ([x.v],[x.v]):=by
 refine dI (cf:=c90) rfl ?_
 have h1:=fun n=>Nj (F:=F) (n:=n) C x.s.d hx
 dsimp only [c90,av,dh,bB,bK,aG,bI,dR,eG,dF,aD,cK,dH,bP,aV];simp only [h1,go_sem]
theorem EP (k:Qn):G ext F (n + 1) 89 [k.v] = some ([vq k.q 0 k.c],[k.v]):=by
 refine dI (cf:=c89) rfl ?_
 dsimp only [c89,av,dh,bB,bK,aG,bI,dR,eG,dF,aD,cK,dH,bP,aV];simp only [go_sem]
abbrev _root_.Go.Proofs.YtfokaoeinpnagaaGreat.Kc.Qn.w (k:Qn):Qn:=⟨k.q,0,k.c⟩
def _root_.Go.Proofs.YtfokaoeinpnagaaGreat.Kc.Th.ask (θ:Th) (k:Qn):Bool:=θ.key k.q k.t k.c && !decide (k.t = 0)
theorem Nr {rb:Bool} (T:θ.DV rb ext) (k:Qn) (hq:k.q.size ≤ 1000000):G ext F (n + 2) 88 [k.v] = some ([vb (θ.ask k)],[k.v]):=by
 refine dI (cf:=c88) rfl ?_
 have h1:=fun n=>Uw (F:=F) (n:=n) T k.q hq
 have h2:=fun n=>Nc (F:=F) (n:=n) T k.q hq
 dsimp only [c88,av,dh,bB,bK,aG,bI,dR,eG,dF,aD,cK,dH,bP,aV];simp only [h1,h2,go_sem]
 repeat' (refine dU (fun h=>?_) (fun h=>?_) <;> simp only [h,h1,h2,go_sem])
 all_goals clear h1 h2
 all_goals simp only [ajt,ajZ] at *
 all_goals (simp [Th.ask,Th.key, *])
 all_goals (try omega)
 all_goals (have a1:0 ≤ k.t:=by omega);(have a2:¬ k.t = 0:=by omega);simp [a1,a2]
def wL (θ:Th) (gt:ByteArray → Int → Int → Int × Bool) (x:Se):Int × Bool :=
 if θ.set x.q x.t x.c x.d x.ttl = true ∧ x.t = 6 then (if x.ttl < (gt (x.d.headD ⟨#[]⟩) ((x.d.headD ⟨#[]⟩).size - 4) 4).1 then x.ttl else (gt (x.d.headD ⟨#[]⟩) ((x.d.headD ⟨#[]⟩).size - 4) 4).1,true) else (0,false)
theorem Ns {x:Se} (h:θ.set x.q x.t x.c x.d x.ttl = true):∃ y d,x.d = y :: d:=by
 unfold Th.set at h
 rw [ajt] at h
 exact List.exists_cons_of_ne_nil h.2.2.2
theorem GR {rb:Bool} (T:θ.DV rb ext) {rg:Bool} (O:vS rg gt ext) (x:Se) (hF:200000000000001 ≤ F) (hq:x.q.size ≤ 1000000) (hn:x.d.length ≤ 1000000) (hd:∀ y ∈ x.d,y.size ≤ 1000000):G ext F (n + 4) 87 [x.v] = some ([vi (wL θ gt x).1,vb (wL θ gt x).2],[x.v]):=by
 refine dI (cf:=c87) rfl ?_
 have h1:=fun n=>AY (F:=F) (n:=n) T x.q x.t x.c x.d x.ttl (by omega) hF hq hd
 by_cases h6:x.t = 6
 ·have h6':decide (x.t = 6) = true:=aja h6
  cases hs:θ.set x.q x.t x.c x.d x.ttl with
  | false =>
   rw [hs] at h1
   have e:wL θ gt x = (0,false):=by unfold wL;rw [hs];rfl
   rw [e]
   dsimp only [c87,av,dh,bB,bK,aG,bI,dR,eG,dF,aD,cK,dH,bP,aV];simp only [h1,h6',go_sem]
  | true =>
   rw [hs] at h1
   obtain ⟨y,ds,hy⟩:=Ns hs
   have e:wL θ gt x = (if x.ttl < (gt y (y.size - 4) 4).1 then x.ttl else (gt y (y.size - 4) 4).1,true):=by unfold wL;rw [ai8 ⟨hs,h6⟩,hy];rfl
   rw [e]
   have hys:=hd y (by rw [hy];simp)
   have hw:IntKind.i64.wrap ((y.size:Int) - 4) = y.size - 4:=qh (by omega) (by omega)
   have hg:=fun n=>aa7 (F:=F) (n:=n) O y (y.size - 4) 4 hys
   simp only [Se.v,tL,hy,ajk,bA] at h1 ⊢
   dsimp only [c87,av,dh,bB,bK,aG,bI,dR,eG,dF,aD,cK,dH,bP,aV];simp only [h1,h6',ajk,List.getElem?_cons_zero,bA,hw,hg,Int.toNat_zero,go_sem]
   exact ⟨aj2 _,by rw [hy];rfl⟩
 ·have h6':decide (x.t = 6) = false:=ajc h6
  have e:wL θ gt x = (0,false):=by unfold wL;rw [ai9 (fun h=>h6 h.2)]
  rw [e]
  dsimp only [c87,av,dh,bB,bK,aG,bI,dR,eG,dF,aD,cK,dH,bP,aV];simp only [h6',go_sem]
end
section
open Go Ev
variable {ext : Env} {F n:Nat} {θ:Th} {gt:ByteArray → Int → Int → Int × Bool}
def ofR (o:Option Nt):Nt × Bool:=match o with
 | some x=>(x,true)
 | none=>(nt0,false)
abbrev kn (nx:Bool) (k:Qn):Qn:=if nx then k.w else k
def _root_.Go.Proofs.YtfokaoeinpnagaaGreat.Kc.Th.narg (θ:Th) (gt:ByteArray → Int → Int → Int × Bool) (s:Rn) (now:Int) (k:Qn) (x:Se):Prop:=s.room = 0 ∨ Q5 now = false ∨ (wL θ gt x).2 = false ∨ θ.key k.q k.t k.c = false ∨ k.t = 0
instance {s : Rn} {now:Int} {k:Qn} {x:Se}:Decidable (θ.narg gt s now k x):=by unfold Th.narg;infer_instance
end
section
attribute [local go_sem_proc] Nat.reduceAdd Nat.reduceMul Nat.reduceEqDiff Nat.reduceBEq Nat.reduceMod Nat.reduceDiv reduceCtorEq
attribute [local go_sem_proc ↓] reduceIte
open Go Ev
variable {ext : Env} {F n:Nat} {θ:Th} {gt:ByteArray → Int → Int → Int × Bool}
def nof (m:List Nt) (now:Int) (k:Qn):Option Nt:=match old m k with
 | some x=>if mM now x.u then some x else none
 | none=>none
def ig (s:Nv) (now:Int) (k:Qn):Nt × Bool:=match nof s.m now k.w with
 | some x=>(x,true)
 | none=>ofR (nof s.m now k)
theorem Nu (C:l5 ext) (s:Nv) (now:Int) (k:Qn) (hF:200000000000001 ≤ F) (hd:∀ x ∈ s.m,x.s.d.length ≤ 1000000):G ext F (n + 3) 103 [s.v,vi now,k.v] = some ([(ig s now k).1.v,vb (ig s now k).2],[s.v,vi now,k.v]):=by
 refine dI (cf:=QZ) rfl ?_
 have hw:=fun n=>EP (ext:=ext) (F:=F) (n:=n) k
 dsimp only [QZ,av,dh,bB,bK,aG,bI,dR,eG,dF,aD,cK,dH,bP,aV];simp only [hw,go_sem]
 refine kY 2 (fun i=>⟨[(0,PV.c (CV.one (PL.ptr 20201 0))),(1,PV.c (CV.one (PL.f (FV.int IntKind.i64 now)))),(6,PV.c (CV.one (PL.ptr 140000 0))),(18,PV.c (CV.one (PL.own 380000 2))),(19,PV.c (CV.one (PL.f (FV.int IntKind.i64 ((2:Nat):Int))))),(20,PV.c (CV.one (PL.f (FV.int IntKind.i64 (i:Int)))))],[(20201,Ob.eT [PL.f (FV.int IntKind.i64 s.room),PL.mp 20205,PL.f (FV.sl (List.map rQ s.o)),PL.f (FV.int IntKind.i64 s.ch)]),(20205,Ob.map kR (List.map ent s.m)),(140000,Ob.eT [PL.f (FV.str ⟨#[]⟩),PL.f (FV.int IntKind.i64 0),PL.f (FV.int IntKind.i64 0),PL.f (FV.bool false),PL.f (FV.str ⟨#[]⟩),PL.f (FV.int IntKind.i64 0),PL.f (FV.int IntKind.i64 0),PL.bY,PL.f (FV.int IntKind.i64 0),PL.f (FV.int IntKind.i64 0)]),(380000,Ob.row 3 [[FV.str k.q,FV.int IntKind.i64 0,FV.int IntKind.i64 k.c],[FV.str k.q,FV.int IntKind.i64 k.t,FV.int IntKind.i64 k.c]])]⟩) (fun i=>(1 ≤ i → nof s.m now k.w = none) ∧ (2 ≤ i → nof s.m now k = none)) (by omega) rfl ⟨by omega,by omega⟩ (fun i hi hP=>?_) (fun hP=>?_)
 ·rcases (show i = 0 ∨ i = 1 by omega) with rfl | rfl
  ·skip
   have hlt:decide (((0:Nat):Int) < ((2:Nat):Int)) = true:=by decide
   have ht:((0:Nat):Int).toNat = 0:=rfl
   have h0:(0:Int) ≤ ((0:Nat):Int):=by decide
   have hn':IntKind.i64.wrap (((0:Nat):Int) + 1) = ((0 + 1:Nat):Int):=by rw [qh (by omega) (by omega)];rfl
   have hk1:=ql s.m k.w
   simp only [kq] at hk1
   have hcl:=fun n x hx=>oo (F:=F) (n:=n) C x hx
   cases hold:old s.m k.w with
   | none =>
    rw [hold] at hk1
    simp only [hlt,ht,h0,hn',List.getElem?_cons_zero,List.getElem?_cons_succ,hk1,Option.map_none,Option.isSome_none,go_sem]
    first | exact ⟨by decide,fun _=>by unfold nof;simp [hold, *],by omega⟩ | exact ⟨by decide,rfl,fun _=>by unfold nof;simp [hold, *],by omega⟩
   | some x =>
    rw [hold] at hk1
    have hcl:=fun n=>oo (F:=F) (n:=n) C x (hd x (l6 hold).2)
    cases hv:mM now x.u with
    | false =>
     simp only [hlt,ht,h0,hn',List.getElem?_cons_zero,List.getElem?_cons_succ,hk1,Option.map_some,Option.isSome_some,rN,jH,hv,go_sem]
     first | exact ⟨by decide,fun _=>by unfold nof;simp [hold, *],by omega⟩ | exact ⟨by decide,rfl,fun _=>by unfold nof;simp [hold, *],by omega⟩
    | true =>
     simp only [hlt,ht,h0,hn',List.getElem?_cons_zero,List.getElem?_cons_succ,hk1,Option.map_some,Option.isSome_some,rN,jH,hv,hcl,go_sem]
     have e:ig s now k = (x,true):=by unfold ig nof;rw [hold];simp [hv]
     rw [e]
     exact ⟨by decide,rfl⟩
  ·have hp:=hP.1 (by decide)
   have hlt:decide (((1:Nat):Int) < ((2:Nat):Int)) = true:=by decide
   have ht:((1:Nat):Int).toNat = 1:=rfl
   have h0:(0:Int) ≤ ((1:Nat):Int):=by decide
   have hn':IntKind.i64.wrap (((1:Nat):Int) + 1) = ((1 + 1:Nat):Int):=by rw [qh (by omega) (by omega)];rfl
   have hk1:=ql s.m k
   simp only [kq] at hk1
   have hcl:=fun n x hx=>oo (F:=F) (n:=n) C x hx
   cases hold:old s.m k with
   | none =>
    rw [hold] at hk1
    simp only [hlt,ht,h0,hn',List.getElem?_cons_zero,List.getElem?_cons_succ,hk1,Option.map_none,Option.isSome_none,go_sem]
    first | exact ⟨by decide,fun _=>hp,fun _=>by unfold nof;simp [hold, *]⟩ | exact ⟨by decide,rfl,fun _=>hp,fun _=>by unfold nof;simp [hold, *]⟩
   | some x =>
    rw [hold] at hk1
    have hcl:=fun n=>oo (F:=F) (n:=n) C x (hd x (l6 hold).2)
    cases hv:mM now x.u with
    | false =>
     simp only [hlt,ht,h0,hn',List.getElem?_cons_zero,List.getElem?_cons_succ,hk1,Option.map_some,Option.isSome_some,rN,jH,hv,go_sem]
     first | exact ⟨by decide,fun _=>hp,fun _=>by unfold nof;simp [hold, *]⟩ | exact ⟨by decide,rfl,fun _=>hp,fun _=>by unfold nof;simp [hold, *]⟩
    | true =>
     simp only [hlt,ht,h0,hn',List.getElem?_cons_zero,List.getElem?_cons_succ,hk1,Option.map_some,Option.isSome_some,rN,jH,hv,hcl,go_sem]
     have e:ig s now k = (x,true):=by unfold ig;rw [hp];unfold nof;rw [hold];simp [hv,ofR]
     rw [e]
     exact ⟨by decide,rfl⟩
 ·have hp1:=hP.1 (by decide)
  have hp2:=hP.2 (by decide)
  have hlt:decide (((2:Nat):Int) < ((2:Nat):Int)) = false:=by decide
  have e:ig s now k = (nt0,false):=by unfold ig;rw [hp1,hp2];rfl
  rw [e]
  simp only [hlt,go_sem]
  rfl
def r9 (θ:Th) (gt:ByteArray → Int → Int → Int × Bool) (s:Nv) (now:Int) (k:Qn) (nx:Bool) (x:Se):Nv × Int :=
 if (wL θ gt x).2 = false ∨ fK now (wL θ gt x).1 = -1 ∨ θ.ask k = false then (s,1)
 else if mM now (fK now (wL θ gt x).1) = false then (s,14)
 else
  let t:=DW s.o (kn nx k) ++ [kn nx k]
  (⟨s.room,(t.take (t.length - s.room.toNat)).foldl rid (upd s.m ⟨kn nx k,nx,x,fK now (wL θ gt x).1⟩),t.drop (t.length - s.room.toNat),s.ch + 1⟩,0)
theorem I9 {rb:Bool} (T:θ.DV rb ext) {rg:Bool} (O:vS rg gt ext) (C:l5 ext) (s:Nv) (now:Int) (k:Qn) (rJ:Bool) (x:Se) (hF:200000000000001 ≤ F) (hr1:0 ≤ s.room ∧ s.room ≤ 1000000) (hc:0 ≤ s.ch ∧ s.ch ≤ 1000000000000) (ho:s.o.length ≤ 100000) (hk:k.q.size ≤ 1000000) (hq:x.q.size ≤ 1000000) (hn:x.d.length ≤ 1000000) (hd:∀ y ∈ x.d,y.size ≤ 1000000):G ext F (n + 6) 51 [s.v,vi now,k.v,vb rJ,x.v] = some ([vi (r9 θ gt s now k rJ x).2],[(r9 θ gt s now k rJ x).1.v,vi now,k.v,vb rJ,x.v]):=by
 refine dI (cf:=c51) rfl ?_
 have h1:=fun n=>GR (F:=F) (n:=n) T O x hF hq hn hd
 have h2:=fun n=>Nr (F:=F) (n:=n) T k hk
 have hu:=fun n t=>yw (ext:=ext) (F:=F) (n:=n) now t
 cases hm2:(wL θ gt x).2 with
 | false =>
  rw [hm2] at h1
  have e:r9 θ gt s now k rJ x = (s,1):=by unfold r9;exact ai8 (.inl hm2)
  rw [e]
  dsimp only [c51,av,dh,bB,bK,aG,bI,dR,eG,dF,aD,cK,dH,bP,aV];simp only [h1,hu,go_sem]
 | true =>
 rw [hm2] at h1
 by_cases hun:fK now (wL θ gt x).1 = -1
 ·have e:r9 θ gt s now k rJ x = (s,1):=by unfold r9;exact ai8 (.inr (.inl hun))
  rw [e]
  have hun':decide (fK now (wL θ gt x).1 = -1) = true:=aja hun
  dsimp only [c51,av,dh,bB,bK,aG,bI,dR,eG,dF,aD,cK,dH,bP,aV];simp only [h1,hu,hun',go_sem]
 have hun':decide (fK now (wL θ gt x).1 = -1) = false:=ajc hun
 cases ha:θ.ask k with
 | false =>
  have e:r9 θ gt s now k rJ x = (s,1):=by unfold r9;exact ai8 (.inr (.inr ha))
  rw [e]
  rw [ha] at h2
  dsimp only [c51,av,dh,bB,bK,aG,bI,dR,eG,dF,aD,cK,dH,bP,aV];simp only [h1,h2,hu,hun',go_sem]
 | true =>
 rw [ha] at h2
 have hno:¬ ((wL θ gt x).2 = false ∨ fK now (wL θ gt x).1 = -1 ∨ θ.ask k = false):=by rw [hm2,ha];simp [hun]
 cases hl:mM now (fK now (wL θ gt x).1) with
 | false =>
  have e:r9 θ gt s now k rJ x = (s,14):=by unfold r9;rw [ai9 hno,ai8 hl]
  rw [e]
  dsimp only [c51,av,dh,bB,bK,aG,bI,dR,eG,dF,aD,cK,dH,bP,aV];simp only [h1,h2,hu,hun',jH,hl,go_sem]
 | true =>
 have e:r9 θ gt s now k rJ x = (⟨s.room,((DW s.o (kn rJ k) ++ [kn rJ k]).take ((DW s.o (kn rJ k) ++ [kn rJ k]).length - s.room.toNat)).foldl rid (upd s.m ⟨kn rJ k,rJ,x,fK now (wL θ gt x).1⟩),(DW s.o (kn rJ k) ++ [kn rJ k]).drop ((DW s.o (kn rJ k) ++ [kn rJ k]).length - s.room.toNat),s.ch + 1⟩,0):=by
  unfold r9;rw [ai9 hno,ai9 (by rw [hl];decide)]
 rw [e]
 have hu':=fun n=>hu n (wL θ gt x).1
 generalize fK now (wL θ gt x).1 = u at hu' hun' hl ⊢
 have hw:IntKind.i64.wrap (s.ch + 1) = s.ch + 1:=qh (by omega) (by omega)
 have hwh:=fun n=>EP (ext:=ext) (F:=F) (n:=n) k
 have hcl:=fun n=>oo (ext:=ext) (F:=F) (n:=n) C ⟨kn rJ k,rJ,x,u⟩ hn
 have hqq:=@tQ s.o (kn rJ k)
 have ht:=fun n=>EL (ext:=ext) (F:=F) (n:=n) C s.o (kn rJ k) (by omega) hF
 have hct:=fun n=>Nl (ext:=ext) (F:=F) (n:=n) C (DW s.o (kn rJ k) ++ [kn rJ k]) s.room (by simp;omega) (by omega) hF
 have hup:=yC s.m ⟨kn rJ k,rJ,x,u⟩
 simp only [kq,rN] at hup
 generalize Zy:DW s.o (kn rJ k) ++ [kn rJ k] = t at ht hct ⊢
 generalize t.drop (t.length - s.room.toNat) = td at hct ⊢
 generalize htt:t.take (t.length - s.room.toNat) = tt at hct ⊢
 have htl:tt.length ≤ 1000000:=by rw [← htt,ajq,← Zy,ajh,List.length_singleton];omega
 generalize hM:upd s.m ⟨kn rJ k,rJ,x,u⟩ = M at hup ⊢
 cases rJ
 all_goals
  simp only [kn,ajH,ajv,ajB] at hup ht hct hcl
  dsimp only [c51,av,dh,bB,bK,aG,bI,dR,eG,dF,aD,cK,dH,bP,aV];simp only [h1,h2,hu',hun',jH,hl,hwh,hcl,ht,hct,hup,hw,go_sem]
  refine kY tt.length (fun i=>⟨[(0,PV.c (CV.one (PL.ptr 20201 0))),(14,PV.c (CV.one (PL.f (FV.sl (List.map rQ td))))),(75,PV.c (CV.one (PL.f (FV.sl (List.map rQ tt))))),(76,PV.c (CV.one (PL.f (FV.int IntKind.i64 ↑(List.map rQ tt).length)))),(77,PV.c (CV.one (PL.f (FV.int IntKind.i64 i))))],[(20201,Ob.eT [PL.f (FV.int IntKind.i64 s.room),PL.mp 20205,PL.f (FV.sl (List.map rQ s.o)),PL.f (FV.int IntKind.i64 s.ch)]),(20205,Ob.map kR (((tt.take i).foldl rid M).map ent))]⟩) (fun _=>True) (by omega) rfl trivial (fun i hi _=>?_) (fun _=>?_)
  ·obtain ⟨k',hx,hlt,hit,h00⟩:=at_ hi
   have hn':=nx hi (by omega)
   have hdl:=yB ((tt.take i).foldl rid M) k'
   have hfo:(tt.take (i + 1)).foldl rid M = rid ((tt.take i).foldl rid M) k':=by rw [ajX,hx,akX];rfl
   simp only [ajb,ajf,hlt,hx,hit,h00,hn',rQ,hdl,go_sem]
   rw [hfo]
  ·have hd:=@end_ _ tt
   simp only [ajb,hd,hw,ajS,go_sem]
end
end Go.Proofs.YtfokaoeinpnagaaGreat.Kc.Ne
namespace Go.Proofs.YtfokaoeinpnagaaGreat.Ev
open Go
section
variable {Γ : Env} {F s sm:Nat} {ks os k6:List Nat} {g4 g6:List G} {ca cb cc:CC} {cf:CF} {dS:List AV} {nA:List CV} {σ:St} {kk:KV}
def Y8 : Out → (Unit → Prop) → (Unit → Prop) → Prop
 | .ret,A,_=>A ()
 | .jg,_,B=>B ()
 | .ext _,_,_=>False
@[go_sem] theorem adM {A B:Unit → Prop}:Y8 .ret A B ↔ A ():=aje
@[go_sem] theorem adN {A B:Unit → Prop}:Y8 .jg A B ↔ B ():=aje
def kB : Option Ob → Option (List KV)
 | some (.map _ ents)=>some (ents.map (·.1))
 | _=>none
def kA (os:List Nat) (ob:List (Nat × Ob)):Option PV → Option (List KV)
 | some (.c (.one (.mp key)))=>if os.contains key then none else kB (get ob key)
 | _=>none
@[go_sem] theorem afR {sh:KS} {ents:List (KV × FC)}:kB (some (.map sh ents)) = some (ents.map (·.1)):=rfl
@[go_sem] theorem Y9 : GV σ os s = kA os σ.ob (get σ.tm s):=rfl
@[go_sem] theorem aa9 : ER ks os σ = ⟨pick ks σ.tm,pick os σ.ob⟩:=rfl
@[go_sem ↓] theorem ahR {k:List AV × List AV → Prop} {u:Tok k}:W k u (fin cf nA dS σ) ↔ W (fun b=>W (fun l=>W (fun r=>k (r.1,b.1)) ⟨⟩ (mI cf.ro b.2 l)) ⟨⟩ (slots b.2 cf.res)) ⟨⟩ (j6 σ nA dS):=by
 simp only [fin,dQ,aQ,bU]
@[go_sem ↓] theorem adP {k:St → Prop} {u:Tok k}:W k u (Ja Γ F ks os s g6 k6 cb σ kk) ↔ W (fun t=>W (fun p=>p.1 = .jg ∧ k (ER ks os p.2)) ⟨⟩ (ev Γ F cb ⟨pick k6 t.tm,t.ob⟩)) ⟨⟩ (wI Γ false g6 ⟨put σ.tm s (.c (kvC kk)),σ.ob⟩):=by
 simp only [Ja,dQ,aQ]
 refine cZ fun t=>cZ fun p=>?_
 obtain ⟨o,σ'⟩:=p
 cases o <;> simp [jC,bC]
@[go_sem ↓] theorem afS {k:List AV × List AV → Prop} {u:Tok k}:W k u (aa8 Γ F ca g4 sm ks os s g6 k6 cb cc cf dS) ↔ dS.length = cf.np ∧ W (fun e=>W (fun p=>Y8 p.1 (fun _=>W k ⟨⟩ (fin cf e.1 dS p.2)) (fun _=>W (fun t=>W (fun l=>W (fun t=>W (fun q=>(∀ id,q.1 ≠ .ext id) ∧ W k ⟨⟩ (fin cf e.1 dS q.2)) ⟨⟩ (ev Γ F cc t)) ⟨⟩ (Uz (Ja Γ F ks os s g6 k6 cb) (ER ks os t) l)) ⟨⟩ (GV t os sm)) ⟨⟩ (wI Γ false g4 p.2))) ⟨⟩ (ev Γ F ca e.2)) ⟨⟩ (enter cf.bo 0 [] ⟨[],[]⟩ dS):=by
 simp only [aa8,dQ,dw,aQ,ne_eq,ajQ]
 refine akp aje (cZ fun e=>cZ fun p=>?_)
 obtain ⟨o,σ'⟩:=p
 cases o with
 | ext i=>simp [jC,Y8]
 | ret=>simp only [Y8]
 | jg =>
  simp only [Y8,aQ]
  refine cZ fun t=>cZ fun l=>cZ fun t'=>cZ fun q=>?_
  obtain ⟨o,σ'⟩:=q
  cases o <;> simp [jC]
end
end Go.Proofs.YtfokaoeinpnagaaGreat.Ev
namespace Go.Proofs.YtfokaoeinpnagaaGreat.Kc.Ne
open Go Ev
variable {ext : Env} {F n:Nat} {θ:Th} {gt:ByteArray → Int → Int → Int × Bool}
end Go.Proofs.YtfokaoeinpnagaaGreat.Kc.Ne
namespace Go.Proofs.YtfokaoeinpnagaaGreat.Kc
section
attribute [local go_sem_proc] Nat.reduceAdd Nat.reduceMul Nat.reduceEqDiff Nat.reduceBEq Nat.reduceMod Nat.reduceDiv reduceCtorEq
attribute [local go_sem_proc ↓] reduceIte
open Go Ev
variable {ext : Env} {F n:Nat} {θ:Th}
def vT (now u:Int):Int:=if mM now u = true then (if 604800 < u - now then 604800 else u - now) else 0
def Rw (r:Int):Bool:=decide (3 ≤ r ∧ r ≤ 5)
theorem Rx {now u:Int} (h:mM now u = true) (hu:u ≤ 4611686018427387904):IntKind.i64.wrap (u - now) = u - now:=by
 unfold mM Q5 at h
 simp only [ajg,ajt] at h
 exact qh (by omega) (by omega)
theorem Jb (now u:Int) (hu:u ≤ 4611686018427387904):G ext F (n + 3) 102 [vi now,vi u] = some ([vi (vT now u)],[vi now,vi u]):=by
 refine dI (cf:=MZ) rfl ?_
 cases h:mM now u with
 | false =>
  have e:vT now u = 0:=by unfold vT;rw [h];rfl
  rw [e]
  dsimp only [MZ,av,dh,bB,bK,aG,bI,dR,eG,dF,aD,cK,dH,bP,aV];simp only [jH,h,go_sem]
 | true =>
  have e:vT now u = if 604800 < u - now then 604800 else u - now:=by unfold vT;rw [h];rfl
  have hw:=Rx h hu
  rw [e]
  dsimp only [MZ,av,dh,bB,bK,aG,bI,dR,eG,dF,aD,cK,dH,bP,aV];simp only [jH,h,hw,go_sem]
theorem ET (r:Int):G ext F (n + 2) 101 [vi r] = some ([vb (Rw r)],[vi r]):=by
 refine dI (cf:=Q0) rfl ?_
 dsimp only [Q0,av,dh,bB,bK,aG,bI,dR,eG,dF,aD,cK,dH,bP,aV];simp only [GJ,go_sem]
 all_goals (simp [Rw])
structure wX where
 s:Se
 left:Int
def Kj : Se:=⟨⟨#[]⟩,0,0,[],0⟩
def qm : wX:=⟨Kj,0⟩
structure Ch where
 hits:List wX
 e:Int
 nm:ByteArray
 Kk:wX
def rH (x:wX):List FV:=[.str x.s.q,.int .i64 x.s.t,.int .i64 x.s.c,.sl (x.s.d.map bA),.int .i64 x.s.ttl,.int .i64 x.left]
abbrev wX.v (x:wX):AV:=.agg [.f (.str x.s.q),.f (.int .i64 x.s.t),.f (.int .i64 x.s.c),.f (.sl (x.s.d.map bA)),.f (.int .i64 x.s.ttl),.f (.int .i64 x.left)]
abbrev Ch.v (x:Ch):AV:=.agg [.f (.sl (x.hits.map rH)),.f (.int .i64 x.e),.f (.str x.nm),.f (.str x.Kk.s.q),.f (.int .i64 x.Kk.s.t),.f (.int .i64 x.Kk.s.c),.f (.sl (x.Kk.s.d.map bA)),.f (.int .i64 x.Kk.s.ttl),.f (.int .i64 x.Kk.left)]
def tl (pk:Qn → It × Bool) (now:Int) (q:Qn):Option wX:=if (pk q).2 = true ∧ Rw (pk q).1.r = true then some ⟨⟨(pk q).1.q,(pk q).1.t,(pk q).1.c,(pk q).1.d,(pk q).1.ttl⟩,vT now (pk q).1.u⟩ else none
def tg (nm:Int → ByteArray → List ByteArray) (s:Se):Option ByteArray:=if s.t = 5 then s.d.head?.bind fun d=>(nm 5 d).head? else none
def al (nm:Int → ByteArray → List ByteArray) (pk:Qn → It × Bool) (now:Int) (q:Qn):Option (wX × ByteArray):=if q.t = 5 then none else (tl pk now ⟨q.q,5,q.c⟩).bind fun h=>(tg nm h.s).map fun ZZ8=>(h,ZZ8)
def fin (fd:Qn → Ne.Nt × Bool) (now:Int) (hits:List wX) (q:Qn):Ch:=if (fd q).2 = true then ⟨hits,if (fd q).1.nx = true then 2 else 1,q.q,⟨(fd q).1.s,vT now (fd q).1.u⟩⟩ else ⟨hits,3,q.q,qm⟩
def EU (nm:Int → ByteArray → List ByteArray) (pk:Qn → It × Bool) (fd:Qn → Ne.Nt × Bool) (now:Int):Nat → List ByteArray → List wX → Qn → Ch
 | 0,_,hits,q=>⟨hits,4,q.q,qm⟩
 | f + 1,met,hits,q=>match tl pk now q with
  | some h=>⟨hits ++ [h],0,q.q,qm⟩
  | none=>match al nm pk now q with
   | none=>fin fd now hits q
   | some (h,ZZ8)=>if 8 ≤ hits.length ∨ yA met ZZ8 = true then ⟨hits ++ [h],4,q.q,qm⟩ else EU nm pk fd now f (met ++ [ZZ8]) (hits ++ [h]) ⟨ZZ8,q.t,q.c⟩
def DX (nm:Int → ByteArray → List ByteArray) (pk:Qn → It × Bool) (fd:Qn → Ne.Nt × Bool) (now:Int) (q:Qn):Ch:=EU nm pk fd now 9 [q.q] [] q
end
section
attribute [local go_sem_proc] Nat.reduceAdd Nat.reduceMul Nat.reduceEqDiff Nat.reduceBEq Nat.reduceMod Nat.reduceDiv reduceCtorEq
attribute [local go_sem_proc ↓] reduceIte
open Go Ev
variable {ext : Env} {F n:Nat} {θ:Th} {nm:Int → ByteArray → List ByteArray}
structure yE (r:Bool) (nm:Int → ByteArray → List ByteArray) (ext:Env):Prop where
 n0:∀ k q,q.size ≤ 1000000 → ext 81 [vi k,vs q] = some ([vl ((nm k q).map bA)],[vi k,vs q])
 n1:r = true → ∀ k q,q.size ≤ 1000000 → ext 105 [vi k,vs q] = some ([vl ((nm k q).map bA)],[vi k,vs q])
theorem UA {rm:Bool} (M:yE rm nm ext) (k:Int) (q:ByteArray) (h:q.size ≤ 1000000):G ext F (n + 1) 81 [vi k,vs q] = some ([vl ((nm k q).map bA)],[vi k,vs q]):=(ajM (iE rfl) _).trans (M.n0 k q h)
def GX (nm:Int → ByteArray → List ByteArray) (s:Se):ByteArray × Bool:=match tg nm s with
 | some x=>(x,true)
 | none=>(⟨#[]⟩,false)
theorem UC {s:Se} (h:s.t ≠ 5):GX nm s = (⟨#[]⟩,false):=by unfold GX tg;rw [ai9 h]
theorem Xa {s:Se} (h:s.d = []):GX nm s = (⟨#[]⟩,false):=by unfold GX tg;rw [h];by_cases h5:s.t = 5 <;> simp [h5]
theorem Rz {s:Se} {y:ByteArray} {d:List ByteArray} (h5:s.t = 5) (h:s.d = y :: d) (hn:nm 5 y = []):GX nm s = (⟨#[]⟩,false):=by unfold GX tg;rw [ai8 h5,h];show (match ((nm 5 y).head?:Option ByteArray) with | some x=>(x,true) | none=>(⟨#[]⟩,false)) = _;rw [hn];rfl
theorem RA {s:Se} {y z:ByteArray} {d l:List ByteArray} (h5:s.t = 5) (h:s.d = y :: d) (hn:nm 5 y = z :: l):GX nm s = (z,true):=by unfold GX tg;rw [ai8 h5,h];show (match ((nm 5 y).head?:Option ByteArray) with | some x=>(x,true) | none=>(⟨#[]⟩,false)) = _;rw [hn];rfl
theorem Kl {rm:Bool} (M:yE rm nm ext) (s:Se) (hd:∀ y ∈ s.d,y.size ≤ 1000000):G ext F (n + 2) 47 [s.v] = some ([vs (GX nm s).1,vb (GX nm s).2],[s.v]):=by
 refine dI (cf:=WR) rfl ?_
 by_cases h5:s.t = 5
 ·have h5':decide (s.t = 5) = true:=aja h5
  cases hy:s.d with
  | nil =>
   rw [Xa hy]
   simp only [Se.v,tL,hy,ajn]
   dsimp only [WR,av,dh,bB,bK,aG,bI,dR,eG,dF,aD,cK,dH,bP,aV];simp only [h5',List.length_nil,show decide (((0:Nat):Int) = 0) = true from rfl,go_sem]
   simp [hy]
  | cons y ds =>
   have hlen:decide ((((List.map bA ds).length + 1:Nat):Int) = 0) = false:=by simp;omega
   have h1:=fun n=>UA (F:=F) (n:=n) M 5 y (hd y (by rw [hy];simp))
   cases hz:nm 5 y with
   | nil =>
    rw [Rz h5 hy hz]
    rw [hz] at h1
    simp only [Se.v,tL,hy,ajk,ajn,bA] at h1 ⊢
    dsimp only [WR,av,dh,bB,bK,aG,bI,dR,eG,dF,aD,cK,dH,bP,aV];simp only [h5',hlen,h1,List.getElem?_cons_zero,Int.toNat_zero,List.length_nil,show decide (((0:Nat):Int) = 0) = true from rfl,go_sem]
    exact ⟨aj2 _,by simp [hy,bA]⟩
   | cons z zs =>
    rw [RA h5 hy hz]
    rw [hz] at h1
    have abb:decide ((((List.map bA zs).length + 1:Nat):Int) = 0) = false:=by simp;omega
    simp only [Se.v,tL,hy,ajk,bA] at h1 ⊢
    dsimp only [WR,av,dh,bB,bK,aG,bI,dR,eG,dF,aD,cK,dH,bP,aV];simp only [h5',hlen,abb,h1,List.getElem?_cons_zero,Int.toNat_zero,go_sem]
    exact ⟨aj2 _,aj2 _,by simp [hy,bA]⟩
 ·have h5':decide (s.t = 5) = false:=ajc h5
  rw [UC h5]
  dsimp only [WR,av,dh,bB,bK,aG,bI,dR,eG,dF,aD,cK,dH,bP,aV];simp only [h5',go_sem]
abbrev Sv.tv (s:Sv):TV:=.ptr [.f (.int .i64 s.room),.mp kR (s.m.map ent),.f (.sl (s.o.map rQ)),.f (.int .i64 s.ch)]
abbrev nvt (s:Ne.Nv):TV:=.ptr [.f (.int .i64 s.room),.mp Ne.kR (s.m.map Ne.ent),.f (.sl (s.o.map rQ)),.f (.int .i64 s.ch)]
abbrev Za (s:Sv) (m:Ne.Nv) (now:Int):AV:=.agg [s.tv,nvt m,.f (.int .i64 now)]
def Jc (pk:Qn → It × Bool) (now:Int) (q:Qn):wX × Bool:=match tl pk now q with
 | some h=>(h,true)
 | none=>(qm,false)
theorem EW (C:l5 ext) (s:Sv) (m:Ne.Nv) (now:Int) (q:Qn) (hd:∀ x ∈ s.m,x.d.length ≤ 1000000) (hu:∀ x ∈ s.m,x.u ≤ 4611686018427387904):G ext F (n + 4) 56 [Za s m now,q.v] = some ([(Jc (bG s now) now q).1.v,vb (Jc (bG s now) now q).2],[Za s m now,q.v]):=by
 refine dI (cf:=Y7) rfl ?_
 have h1:=fun n=>I7 (ext:=ext) (F:=F) (n:=n) C s now q hd
 have hlu:=fun n=>Jb (ext:=ext) (F:=F) (n:=n) now (bG s now q).1.u (by
  unfold bG
  split
  ·rename_i x ho
   split
   ·exact hu x (l6 ho).2
   ·show (0:Int) ≤ _;omega
  ·show (0:Int) ≤ _;omega)
 unfold Jc tl
 cases hv:(bG s now q).2 with
 | false =>
  rw [hv] at h1
  dsimp only [Y7,av,dh,bB,bK,aG,bI,dR,eG,dF,aD,cK,dH,bP,aV];simp only [h1,go_sem]
  rfl
 | true =>
  rw [hv] at h1
  cases ht:Rw (bG s now q).1.r with
  | false =>
   dsimp only [Y7,av,dh,bB,bK,aG,bI,dR,eG,dF,aD,cK,dH,bP,aV];simp only [h1,ET,ht,go_sem]
   rfl
  | true =>
   dsimp only [Y7,av,dh,bB,bK,aG,bI,dR,eG,dF,aD,cK,dH,bP,aV];simp only [h1,ET,ht,hlu,go_sem]
def UD (nm:Int → ByteArray → List ByteArray) (pk:Qn → It × Bool) (now:Int) (q:Qn):wX × (ByteArray × Bool):=if q.t = 5 then (qm,(⟨#[]⟩,false)) else ((Jc pk now ⟨q.q,5,q.c⟩).1,GX nm (Jc pk now ⟨q.q,5,q.c⟩).1.s)
theorem Nz {rm:Bool} (M:yE rm nm ext) (C:l5 ext) (s:Sv) (m:Ne.Nv) (now:Int) (q:Qn) (hd:∀ x ∈ s.m,x.d.length ≤ 1000000) (hu:∀ x ∈ s.m,x.u ≤ 4611686018427387904) (hy:∀ x ∈ s.m,∀ y ∈ x.d,y.size ≤ 1000000):G ext F (n + 5) 57 [Za s m now,q.v] = some ([(UD nm (bG s now) now q).1.v,vs (UD nm (bG s now) now q).2.1,vb (UD nm (bG s now) now q).2.2],[Za s m now,q.v]):=by
 refine dI (cf:=c57) rfl ?_
 have h1:=fun n=>EW (F:=F) (n:=n) C s m now ⟨q.q,5,q.c⟩ hd hu
 have hsz:∀ y ∈ (Jc (bG s now) now ⟨q.q,5,q.c⟩).1.s.d,y.size ≤ 1000000:=by
  have h0:∀ y ∈ (bG s now ⟨q.q,5,q.c⟩).1.d,y.size ≤ 1000000:=by
   unfold bG
   split
   ·rename_i x ho
    split
    ·exact hy x (l6 ho).2
    ·intro y h;cases h
   ·intro y h;cases h
  unfold Jc tl
  split
  ·rename_i h he
   split at he
   ·cases he;exact h0
   ·cases he
  ·intro y h;cases h
 have h2:=fun n=>Kl (F:=F) (n:=n) M (Jc (bG s now) now ⟨q.q,5,q.c⟩).1.s hsz
 unfold UD
 by_cases h5:q.t = 5
 ·have h5':decide (q.t = 5) = true:=aja h5
  rw [ai8 h5]
  dsimp only [c57,av,dh,bB,bK,aG,bI,dR,eG,dF,aD,cK,dH,bP,aV];simp only [h5',go_sem]
  try rfl
 ·have h5':decide (q.t = 5) = false:=ajc h5
  rw [ai9 h5]
  dsimp only [c57,av,dh,bB,bK,aG,bI,dR,eG,dF,aD,cK,dH,bP,aV];simp only [h5',h1,h2,go_sem]
  try rfl
def NA (fd:Qn → Ne.Nt × Bool) (now:Int) (c:Ch) (q:Qn):Ch:=if (fd q).2 = true then ⟨c.hits,if (fd q).1.nx = true then 2 else 1,c.nm,⟨(fd q).1.s,vT now (fd q).1.u⟩⟩ else ⟨c.hits,3,c.nm,c.Kk⟩
theorem RB (C:l5 ext) (s:Sv) (m:Ne.Nv) (now:Int) (c:Ch) (q:Qn) (hF:200000000000001 ≤ F) (hd:∀ x ∈ m.m,x.s.d.length ≤ 1000000) (hu:∀ x ∈ m.m,x.u ≤ 4611686018427387904):G ext F (n + 4) 58 [Za s m now,c.v,q.v] = some ([(NA (Ne.ig m now) now c q).v],[Za s m now,c.v,q.v]):=by
 refine dI (cf:=c58) rfl ?_
 have h1:=fun n=>Ne.Nu (F:=F) (n:=n) C m now q hF hd
 have hlu:=fun n=>Jb (ext:=ext) (F:=F) (n:=n) now (Ne.ig m now q).1.u (by
  have h9:∀ b y,Ne.nof m.m now b = some y → y.u ≤ 4611686018427387904:=fun b y hy=>by
   unfold Ne.nof at hy
   split at hy
   ·rename_i y' ho
    split at hy
    ·cases hy;exact hu _ (Ne.l6 ho).2
    ·cases hy
   ·cases hy
  unfold Ne.ig
  split
  ·rename_i y hy;exact h9 _ _ hy
  ·unfold Ne.ofR
   split
   ·rename_i y hy;exact h9 _ _ hy
   ·show (0:Int) ≤ _;omega)
 unfold NA
 cases hv:(Ne.ig m now q).2 with
 | false =>
  rw [hv] at h1
  dsimp only [c58,av,dh,bB,bK,aG,bI,dR,eG,dF,aD,cK,dH,bP,aV];simp only [h1,go_sem]
  try rfl
 | true =>
  rw [hv] at h1
  cases hx:(Ne.ig m now q).1.nx
  all_goals
   dsimp only [c58,av,dh,bB,bK,aG,bI,dR,eG,dF,aD,cK,dH,bP,aV];simp only [h1,hx,hlu,go_sem]
   try rfl
end
section
attribute [local go_sem_proc] Nat.reduceAdd Nat.reduceMul Nat.reduceEqDiff Nat.reduceBEq Nat.reduceMod Nat.reduceDiv reduceCtorEq
attribute [local go_sem_proc ↓] reduceIte
open Go Ev
variable {ext : Env} {F n:Nat} {θ:Th} {nm:Int → ByteArray → List ByteArray}
abbrev wX.k (x:wX):Qn:=⟨x.s.q,x.s.t,x.s.c⟩
def u6 (l:List ByteArray):List (KV × FC):=l.map fun s=>(.one (.str s),.one (.int .i64 1))
theorem Jd (l:List ByteArray) (s:ByteArray):xA (u6 l) (.one (.str s)) = l.findIdx? fun x=>decide (x = s):=by
 unfold xA u6
 rw [aku,List.findIdx?_map]
 refine ajC (fun p=>List.findIdx? p l) (funext fun x=>?_)
 simp only [Function.comp,KV.one.injEq,SV.str.injEq]
theorem NC {l:List ByteArray} {s:ByteArray} (h:yA l s = false):sH (u6 l) (.one (.str s)) = none ∧ xB (u6 l) (.one (.str s)) (.one (.int .i64 1)) = u6 (l ++ [s]):=by
 have:l.findIdx? (fun x=>decide (x = s)) = none:=by
  refine akH.mpr fun x hx=>?_
  unfold yA at h
  have:=List.any_eq_false.mp h x hx
  simpa using this
 unfold sH xB
 rw [Jd,this]
 exact ⟨rfl,by simp [u6]⟩
theorem RD {l:List ByteArray} {s:ByteArray} (h:yA l s = true):sH (u6 l) (.one (.str s)) = some (.one (.int .i64 1)):=by
 unfold sH
 rw [Jd]
 cases hi:l.findIdx? (fun x=>decide (x = s)) with
 | none =>
  have h1:=akH.mp hi
  unfold yA at h
  obtain ⟨x,hx,he⟩:=aj8.mp h
  have:=h1 x hx
  rw [he] at this;cases this
 | some i =>
  obtain ⟨hi', -⟩:=akt.mp hi
  show ((u6 l)[i]?.map fun p=>p.2) = _
  unfold u6
  rw [ajf,ajo hi']
  rfl
theorem RF {pk:Qn → It × Bool} {now:Int} {q:Qn} (h:al nm pk now q = none):(UD nm pk now q).2.2 = false:=by
 unfold al at h
 unfold UD
 split
 ·rfl
 ·rename_i h5
  rw [ai9 h5] at h
  unfold Jc
  cases ht:tl pk now ⟨q.q,5,q.c⟩ with
  | none=>exact ajC Prod.snd (UC (nm:=nm) (s:=qm.s) (by decide))
  | some x =>
   rw [ht] at h
   show (GX nm x.s).2 = false
   unfold GX
   cases hg:tg nm x.s with
   | none=>rfl
   | some ZZ8=>rw [Option.bind_some,hg] at h;cases h
theorem RG {pk:Qn → It × Bool} {now:Int} {q:Qn} {x:wX} {ZZ8:ByteArray} (h:al nm pk now q = some (x,ZZ8)):UD nm pk now q = (x,(ZZ8,true)):=by
 unfold al at h
 unfold UD
 split at h
 ·cases h
 ·rename_i h5
  rw [ai9 h5]
  obtain ⟨y,h1,h2⟩:=zbm h
  obtain ⟨z,h3,h4⟩:=zmm h2
  cases h4
  unfold Jc
  rw [h1]
  show (x,GX nm x.s) = _
  unfold GX
  rw [h3]
theorem RH {fd:Qn → Ne.Nt × Bool} {now:Int} {hits:List wX} {q:Qn}:NA fd now ⟨hits,0,q.q,qm⟩ q = fin fd now hits q:=by
 unfold NA fin;rfl
def fT (s:Sv) (m:Ne.Nv) (now:Int) (M:List ByteArray) (hits:List wX) (pn:ByteArray) (q:Qn):St:=match hits with
 | []=>⟨[(7,PV.c (CV.one (PL.ptr 160000 0))),(8,PV.c (CV.one (PL.ptr 180000 0))),(9,PV.c (CV.one (PL.ptr 200000 0))),(10,PV.c (CV.one (PL.ptr 220000 0))),(11,PV.c (CV.one (PL.mp 440000)))],[(20201,Ob.eT [PL.f (FV.int IntKind.i64 s.room),PL.mp 20205,PL.f (FV.sl (List.map rQ s.o)),PL.f (FV.int IntKind.i64 s.ch)]),(20205,Ob.map kR (List.map ent s.m)),(40201,Ob.eT [PL.f (FV.int IntKind.i64 m.room),PL.mp 40205,PL.f (FV.sl (List.map rQ m.o)),PL.f (FV.int IntKind.i64 m.ch)]),(40205,Ob.map Ne.kR (List.map Ne.ent m.m)),(160000,Ob.eT [PL.f (FV.str q.q),PL.f (FV.int IntKind.i64 q.t),PL.f (FV.int IntKind.i64 q.c)]),(180000,Ob.eT [PL.bY,PL.f (FV.int IntKind.i64 0),PL.f (FV.str ⟨#[]⟩),PL.f (FV.str ⟨#[]⟩),PL.f (FV.int IntKind.i64 0),PL.f (FV.int IntKind.i64 0),PL.bY,PL.f (FV.int IntKind.i64 0),PL.f (FV.int IntKind.i64 0)]),(200000,Ob.eT [PL.ptr 20201 0,PL.ptr 40201 0,PL.f (FV.int IntKind.i64 now)]),(220000,Ob.eT [PL.bY,PL.f (FV.int IntKind.i64 0),PL.f (FV.str pn),PL.f (FV.str ⟨#[]⟩),PL.f (FV.int IntKind.i64 0),PL.f (FV.int IntKind.i64 0),PL.bY,PL.f (FV.int IntKind.i64 0),PL.f (FV.int IntKind.i64 0)]),(440000,Ob.map (KS.one SK.str) (u6 M))]⟩
 | _=>⟨[(7,PV.c (CV.one (PL.ptr 160000 0))),(8,PV.c (CV.one (PL.ptr 180000 0))),(9,PV.c (CV.one (PL.ptr 200000 0))),(10,PV.c (CV.one (PL.ptr 220000 0))),(11,PV.c (CV.one (PL.mp 440000)))],[(20201,Ob.eT [PL.f (FV.int IntKind.i64 s.room),PL.mp 690004,PL.f (FV.sl (List.map rQ s.o)),PL.f (FV.int IntKind.i64 s.ch)]),(40201,Ob.eT [PL.f (FV.int IntKind.i64 m.room),PL.mp 690204,PL.f (FV.sl (List.map rQ m.o)),PL.f (FV.int IntKind.i64 m.ch)]),(160000,Ob.eT [PL.f (FV.str q.q),PL.f (FV.int IntKind.i64 q.t),PL.f (FV.int IntKind.i64 q.c)]),(180000,Ob.eT [PL.bY,PL.f (FV.int IntKind.i64 0),PL.f (FV.str ⟨#[]⟩),PL.f (FV.str ⟨#[]⟩),PL.f (FV.int IntKind.i64 0),PL.f (FV.int IntKind.i64 0),PL.bY,PL.f (FV.int IntKind.i64 0),PL.f (FV.int IntKind.i64 0)]),(200000,Ob.eT [PL.ptr 20201 0,PL.ptr 40201 0,PL.f (FV.int IntKind.i64 now)]),(220000,Ob.eT [PL.own 1240000 (hits.map rH).length,PL.f (FV.int IntKind.i64 0),PL.f (FV.str pn),PL.f (FV.str ⟨#[]⟩),PL.f (FV.int IntKind.i64 0),PL.f (FV.int IntKind.i64 0),PL.bY,PL.f (FV.int IntKind.i64 0),PL.f (FV.int IntKind.i64 0)]),(440000,Ob.map (KS.one SK.str) (u6 M)),(690004,Ob.map kR (List.map ent s.m)),(690204,Ob.map Ne.kR (List.map Ne.ent m.m)),(1240000,.row 6 (hits.map rH))]⟩
theorem CW (s:Sv) (m:Ne.Nv) (now:Int) (M:List ByteArray) (pn:ByteArray) (q:Qn):fT s m now M [] pn q = ⟨[(7,PV.c (CV.one (PL.ptr 160000 0))),(8,PV.c (CV.one (PL.ptr 180000 0))),(9,PV.c (CV.one (PL.ptr 200000 0))),(10,PV.c (CV.one (PL.ptr 220000 0))),(11,PV.c (CV.one (PL.mp 440000)))],[(20201,Ob.eT [PL.f (FV.int IntKind.i64 s.room),PL.mp 20205,PL.f (FV.sl (List.map rQ s.o)),PL.f (FV.int IntKind.i64 s.ch)]),(20205,Ob.map kR (List.map ent s.m)),(40201,Ob.eT [PL.f (FV.int IntKind.i64 m.room),PL.mp 40205,PL.f (FV.sl (List.map rQ m.o)),PL.f (FV.int IntKind.i64 m.ch)]),(40205,Ob.map Ne.kR (List.map Ne.ent m.m)),(160000,Ob.eT [PL.f (FV.str q.q),PL.f (FV.int IntKind.i64 q.t),PL.f (FV.int IntKind.i64 q.c)]),(180000,Ob.eT [PL.bY,PL.f (FV.int IntKind.i64 0),PL.f (FV.str ⟨#[]⟩),PL.f (FV.str ⟨#[]⟩),PL.f (FV.int IntKind.i64 0),PL.f (FV.int IntKind.i64 0),PL.bY,PL.f (FV.int IntKind.i64 0),PL.f (FV.int IntKind.i64 0)]),(200000,Ob.eT [PL.ptr 20201 0,PL.ptr 40201 0,PL.f (FV.int IntKind.i64 now)]),(220000,Ob.eT [PL.bY,PL.f (FV.int IntKind.i64 0),PL.f (FV.str pn),PL.f (FV.str ⟨#[]⟩),PL.f (FV.int IntKind.i64 0),PL.f (FV.int IntKind.i64 0),PL.bY,PL.f (FV.int IntKind.i64 0),PL.f (FV.int IntKind.i64 0)]),(440000,Ob.map (KS.one SK.str) (u6 M))]⟩:=rfl
theorem qG (s:Sv) (m:Ne.Nv) (now:Int) (M:List ByteArray) (hits:List wX) (pn:ByteArray) (q:Qn) (h:hits ≠ []):fT s m now M hits pn q = ⟨[(7,PV.c (CV.one (PL.ptr 160000 0))),(8,PV.c (CV.one (PL.ptr 180000 0))),(9,PV.c (CV.one (PL.ptr 200000 0))),(10,PV.c (CV.one (PL.ptr 220000 0))),(11,PV.c (CV.one (PL.mp 440000)))],[(20201,Ob.eT [PL.f (FV.int IntKind.i64 s.room),PL.mp 690004,PL.f (FV.sl (List.map rQ s.o)),PL.f (FV.int IntKind.i64 s.ch)]),(40201,Ob.eT [PL.f (FV.int IntKind.i64 m.room),PL.mp 690204,PL.f (FV.sl (List.map rQ m.o)),PL.f (FV.int IntKind.i64 m.ch)]),(160000,Ob.eT [PL.f (FV.str q.q),PL.f (FV.int IntKind.i64 q.t),PL.f (FV.int IntKind.i64 q.c)]),(180000,Ob.eT [PL.bY,PL.f (FV.int IntKind.i64 0),PL.f (FV.str ⟨#[]⟩),PL.f (FV.str ⟨#[]⟩),PL.f (FV.int IntKind.i64 0),PL.f (FV.int IntKind.i64 0),PL.bY,PL.f (FV.int IntKind.i64 0),PL.f (FV.int IntKind.i64 0)]),(200000,Ob.eT [PL.ptr 20201 0,PL.ptr 40201 0,PL.f (FV.int IntKind.i64 now)]),(220000,Ob.eT [PL.own 1240000 (hits.map rH).length,PL.f (FV.int IntKind.i64 0),PL.f (FV.str pn),PL.f (FV.str ⟨#[]⟩),PL.f (FV.int IntKind.i64 0),PL.f (FV.int IntKind.i64 0),PL.bY,PL.f (FV.int IntKind.i64 0),PL.f (FV.int IntKind.i64 0)]),(440000,Ob.map (KS.one SK.str) (u6 M)),(690004,Ob.map kR (List.map ent s.m)),(690204,Ob.map Ne.kR (List.map Ne.ent m.m)),(1240000,.row 6 (hits.map rH))]⟩:=by
 cases hits with
 | nil=>exact absurd rfl h
 | cons a l=>rfl
theorem EX (hits:List wX):hits = [] ∨ hits ≠ []:=by cases hits <;> simp
theorem Km {rm:Bool} (O:yE rm nm ext) (C:l5 ext) (hF:200000000000001 ≤ F) (s:Sv) (m:Ne.Nv) (now:Int) (q:Qn) (hd:∀ x ∈ s.m,x.d.length ≤ 1000000) (hu:∀ x ∈ s.m,x.u ≤ 4611686018427387904) (hy:∀ x ∈ s.m,∀ y ∈ x.d,y.size ≤ 1000000) (hd2:∀ x ∈ m.m,x.s.d.length ≤ 1000000) (hu2:∀ x ∈ m.m,x.u ≤ 4611686018427387904) :
  G ext F (n + 6) 14 [s.v,m.v,vi now,q.v] = some ([(DX nm (bG s now) (Ne.ig m now) now q).v],[s.v,m.v,vi now,q.v]):=by
 refine dI (cf:=c14) rfl ?_
 generalize hres:DX nm (bG s now) (Ne.ig m now) now q = R
 dsimp only [c14,av,dh,bB,bK,aG,bI,dR,eG,dF,aD,cK,dH,bP,aV];simp only [go_sem]
 refine rF 9 (fun x:List ByteArray × List wX × ByteArray × ByteArray=>fT s m now x.1 x.2.1 x.2.2.1 ⟨x.2.2.2,q.t,q.c⟩) (fun i x=>x.2.1.length = i ∧ i < 9 ∧ yA x.1 x.2.2.2 = false ∧ EU nm (bG s now) (Ne.ig m now) now (9 - i) (x.1 ++ [x.2.2.2]) x.2.1 ⟨x.2.2.2,q.t,q.c⟩ = R) (by omega) ([],[],⟨#[]⟩,q.q) rfl ⟨rfl,by omega,rfl,hres⟩ (fun i x hi hP=>?_) (fun x hP=>absurd hP.2.1 (by omega))
 obtain ⟨M,hits,pn,A9⟩:=x
 obtain ⟨hlen, -,hm,hf⟩:=hP
 simp only at hlen hm hf ⊢
 obtain ⟨f,hf9⟩:∃ f,9 - i = f + 1:=⟨8 - i,by omega⟩
 rw [hf9] at hf
 obtain ⟨k1,k2⟩:=NC hm
 have hw1:IntKind.i64.wrap (0 + 1) = 1:=by decide
 have t1:=fun n=>EW (F:=F) (n:=n) C s m now ⟨A9,q.t,q.c⟩ hd hu
 have a1:=fun n=>Nz (F:=F) (n:=n) O C s m now ⟨A9,q.t,q.c⟩ hd hu hy
 have e1:=fun n=>RB (F:=F) (n:=n) C s m now ⟨hits,0,A9,qm⟩ ⟨A9,q.t,q.c⟩ hF hd2 hu2
 rw [show NA (Ne.ig m now) now ⟨hits,0,A9,qm⟩ ⟨A9,q.t,q.c⟩ = fin (Ne.ig m now) now hits ⟨A9,q.t,q.c⟩ from RH (q:=⟨A9,q.t,q.c⟩)] at e1
 simp only [Ch.v,qm,Kj,ajn] at e1
 unfold EU at hf
 have hsz:(((hits.map rH).length:Nat) + 1) * 72 ≤ 140737488355328:=by rw [ajb];omega
 cases h1:tl (bG s now) now ⟨A9,q.t,q.c⟩ with
 | some h =>
  have et:Jc (bG s now) now ⟨A9,q.t,q.c⟩ = (h,true):=by unfold Jc;rw [h1]
  rw [et] at t1
  rw [h1] at hf
  subst hf
  rcases EX hits with rfl | g1
  ·rw [CW]
   simp only [k1,k2,hw1,t1,Option.getD_none,go_sem]
   exact ⟨by decide,rfl⟩
  ·rw [qG _ _ _ _ _ _ _ g1]
   simp only [k1,k2,hw1,t1,Option.getD_none,hsz,go_sem]
   simp [rH,qm,Kj]
 | none =>
  have et:Jc (bG s now) now ⟨A9,q.t,q.c⟩ = (qm,false):=by unfold Jc;rw [h1]
  rw [et] at t1
  rw [h1] at hf
  simp only [qm,Kj,ajn] at t1
  cases h2:al nm (bG s now) now ⟨A9,q.t,q.c⟩ with
  | none =>
   have ea:=RF h2
   rw [h2] at hf
   subst hf
   rw [ea] at a1
   rcases EX hits with rfl | g1
   ·rw [CW]
    simp only [ajn] at e1
    simp only [k1,k2,hw1,t1,a1,e1,Option.getD_none,go_sem]
   ·rw [qG _ _ _ _ _ _ _ g1]
    simp only [k1,k2,hw1,t1,a1,e1,Option.getD_none,go_sem]
  | some p =>
   obtain ⟨h,ZZ8⟩:=p
   rw [RG h2] at a1
   rw [h2] at hf
   simp only at hf
   have hml:((hits ++ [h]).map rH) = hits.map rH ++ [[FV.str h.s.q,FV.int IntKind.i64 h.s.t,FV.int IntKind.i64 h.s.c,FV.sl (List.map bA h.s.d),FV.int IntKind.i64 h.s.ttl,FV.int IntKind.i64 h.left]]:=by simp [rH]
   have hll:(hits.map rH).length = hits.length:=ajb _
   by_cases h8:8 ≤ hits.length
   ·rw [ai8 (.inl h8)] at hf
    subst hf
    have c8:decide ((8:Int) < (((hits.map rH).length + 1:Nat):Int)) = true:=aja (by omega)
    rcases EX hits with rfl | g1
    ·simp at h8
    ·rw [qG _ _ _ _ _ _ _ g1]
     simp only [k1,k2,hw1,t1,a1,Option.getD_none,hsz,c8,go_sem]
     simp [rH,qm,Kj]
   ·have c8:decide ((8:Int) < (((hits.map rH).length + 1:Nat):Int)) = false:=ajc (by omega)
    have c8':decide ((8:Int) < ((0 + 1:Nat):Int)) = false:=by decide
    have z1:decide ((0:Int) < 1) = true:=by decide
    have z0:decide ((0:Int) < 0) = false:=by decide
    cases hin:yA (M ++ [A9]) ZZ8 with
    | true =>
     rw [ai8 (.inr hin)] at hf
     subst hf
     have y1:=RD hin
     rcases EX hits with rfl | g1
     ·rw [CW]
      simp only [k1,k2,hw1,t1,a1,Option.getD_none,Option.getD_some,hsz,c8',y1,z1,List.length_cons,List.length_nil,go_sem]
      exact ⟨by decide,rfl⟩
     ·rw [qG _ _ _ _ _ _ _ g1]
      simp only [k1,k2,hw1,t1,a1,Option.getD_none,Option.getD_some,hsz,c8,y1,z1,go_sem]
      simp [rH,qm,Kj]
    | false =>
     rw [ai9 (by rw [hin];simp;omega)] at hf
     have y1:=(NC hin).1
     have hnext:(hits ++ [h]).length = i + 1 ∧ i + 1 < 9 ∧ yA (M ++ [A9]) ZZ8 = false ∧ EU nm (bG s now) (Ne.ig m now) now (9 - (i + 1)) (M ++ [A9] ++ [ZZ8]) (hits ++ [h]) ⟨ZZ8,q.t,q.c⟩ = R:=⟨by simp;omega,by omega,hin,by rw [show 9 - (i + 1) = f from by omega];exact hf⟩
     have g3:=fun pn' q'=>qG s m now (M ++ [A9]) (hits ++ [h]) pn' q' (by simp)
     rcases EX hits with rfl | g1
     ·rw [CW]
      simp only [k1,k2,hw1,t1,a1,Option.getD_none,Option.getD_some,hsz,c8',y1,z0,List.length_cons,List.length_nil,go_sem]
      exact ⟨by decide,(M ++ [A9],[] ++ [h],A9,ZZ8),by rw [g3];rfl,hnext⟩
     ·rw [qG _ _ _ _ _ _ _ g1]
      simp only [k1,k2,hw1,t1,a1,Option.getD_none,Option.getD_some,hsz,c8,y1,z0,go_sem]
      exact ⟨(M ++ [A9],hits ++ [h],A9,ZZ8),by rw [g3,hml];simp,hnext⟩
end
section
open Go Ev
variable {θ : Th} {gt:ByteArray → Int → Int → Int × Bool}
structure Pt where
 now:Int
 s:Se
 r:Int
 k:Qn
def rP (x:Pt):List FV:=[.int .i64 x.now,.str x.s.q,.int .i64 x.s.t,.int .i64 x.s.c,.sl (x.s.d.map bA),.int .i64 x.s.ttl,.int .i64 x.r,.str x.k.q,.int .i64 x.k.t,.int .i64 x.k.c]
abbrev Pt.v (x:Pt):AV:=.agg [.f (.int .i64 x.now),.f (.str x.s.q),.f (.int .i64 x.s.t),.f (.int .i64 x.s.c),.f (.sl (x.s.d.map bA)),.f (.int .i64 x.s.ttl),.f (.int .i64 x.r),.f (.str x.k.q),.f (.int .i64 x.k.t),.f (.int .i64 x.k.c)]
def s50 : Sv:=⟨50,[],[],0⟩
def m50 : Ne.Nv:=⟨50,[],[],0⟩
def zV (θ:Th) (gt:ByteArray → Int → Int → Int × Bool) (a:Sv × Ne.Nv) (p:Pt):Sv × Ne.Nv:=if 0 < p.r then ((uX θ a.1 p.now p.s p.r).1,a.2) else (a.1,(Ne.r9 θ gt a.2 p.now p.k (decide (p.r < 0)) p.s).1)
def nC (θ:Th) (gt:ByteArray → Int → Int → Int × Bool) (l:List Pt):Sv × Ne.Nv:=l.foldl (zV θ gt) (s50,m50)
theorem yF {l:List Pt} {p:Pt} {i:Nat} (h:l[i]? = some p):nC θ gt (l.take (i + 1)) = zV θ gt (nC θ gt (l.take i)) p:=by
 unfold nC;rw [ajX,h,akX];rfl
theorem u7 : ∀ {g:List Qn} {l:List It},(g.foldl rid l).Sublist l
 | [],l=>akQ _
 | a :: g,l=>(u7 (g:=g)).trans tT
theorem ND {l:List It} {x:It}:(upd l x).length ≤ l.length + 1:=by
 rcases rZ l x with ⟨-,hu⟩ | ⟨a,y,c,rfl, -, -,hu⟩ <;> rw [hu] <;> simp
theorem NG {l:List It} {x y:It} (h:y ∈ upd l x):y = x ∨ y ∈ l:=by
 rcases rZ l x with ⟨-,hu⟩ | ⟨a,z,c,rfl, -, -,hu⟩ <;> rw [hu] at h <;> simp at h ⊢
 ·rcases h with h | h <;> simp [h]
 ·rcases h with h | h | h <;> simp [h]
theorem vU : ∀ {g:List Qn} {l:List It},(ks l).Nodup → (ks (g.foldl rid l)).Nodup
 | [],l,h=>h
 | a :: g,l,h=>vU (g:=g) (uY h)
theorem vV : ∀ {g:List Qn} {l:List Ne.Nt},(Ne.ks l).Nodup → (Ne.ks (g.foldl Ne.rid l)).Nodup
 | [],l,h=>h
 | a :: g,l,h=>vV (g:=g) (Ne.uY h)
structure FS (l:List Pt) (i:Nat) (s:Sv):Prop where
 r:s.room = 50
 c:0 ≤ s.ch ∧ s.ch ≤ i
 o:s.o.length ≤ i
 m:s.m.length ≤ i
 it:∀ x ∈ s.m,∃ p ∈ l,0 < p.r ∧ x = p.s.it (fK p.now p.s.ttl) p.r
 mh:(ks s.m).Nodup
structure FN (θ:Th) (gt:ByteArray → Int → Int → Int × Bool) (l:List Pt) (i:Nat) (s:Ne.Nv):Prop where
 r:s.room = 50
 c:0 ≤ s.ch ∧ s.ch ≤ i
 o:s.o.length ≤ i
 m:s.m.length ≤ i
 it:∀ x ∈ s.m,∃ p ∈ l,x.s = p.s ∧ x.u = fK p.now (Ne.wL θ gt p.s).1 ∧ x.k.q = p.k.q
 mh:(Ne.ks s.m).Nodup
theorem FS.up {l:List Pt} {i:Nat} {s:Sv} (h:FS l i s):FS l (i + 1) s:=⟨h.r,by have:=h.c;omega,by have:=h.o;omega,by have:=h.m;omega,h.it,h.mh⟩
theorem FN.up {l:List Pt} {i:Nat} {s:Ne.Nv} (h:FN θ gt l i s):FN θ gt l (i + 1) s:=⟨h.r,by have:=h.c;omega,by have:=h.o;omega,by have:=h.m;omega,h.it,h.mh⟩
theorem FS.put {l:List Pt} {i:Nat} {s:Sv} (h:FS l i s) {p:Pt} (hp:p ∈ l) (h0:0 < p.r):FS l (i + 1) (uX θ s p.now p.s p.r).1:=by
 have hc:=h.c
 have hq:=@tQ s.o p.s.k
 have ho:=h.o
 have hm:=h.m
 have hu:=@ND s.m (p.s.it (fK p.now p.s.ttl) p.r)
 unfold uX
 dsimp only
 split
 ·exact h.up
 ·refine ⟨h.r,by show 0 ≤ s.ch + 1 ∧ s.ch + 1 ≤ _;omega,?_,?_,fun y hy=>?_,vU (uZ h.mh)⟩
  ·show (List.drop _ _).length ≤ _
   rw [ajA,ajh,List.length_singleton];omega
  ·exact aju u7.length_le (by omega)
  ·rcases NG (u7.subset hy) with rfl | h1
   ·exact ⟨p,hp,h0,rfl⟩
   ·exact h.it y h1
theorem FN.put {l:List Pt} {i:Nat} {s:Ne.Nv} (h:FN θ gt l i s) {p:Pt} (hp:p ∈ l) (b:Bool):FN θ gt l (i + 1) (Ne.r9 θ gt s p.now p.k b p.s).1:=by
 have hc:=h.c
 have hq:=@tQ s.o (Ne.kn b p.k)
 have ho:=h.o
 have hm:=h.m
 unfold Ne.r9
 split
 ·exact h.up
 split
 ·exact h.up
 have hu:=@Ne.Ru s.m ⟨Ne.kn b p.k,b,p.s,fK p.now (Ne.wL θ gt p.s).1⟩
 refine ⟨h.r,by show 0 ≤ s.ch + 1 ∧ s.ch + 1 ≤ _;omega,?_,?_,fun y hy=>?_,vV (Ne.uZ h.mh)⟩
 ·show (List.drop _ _).length ≤ _
  rw [ajA,ajh,List.length_singleton];omega
 ·exact aju Ne.yD.length_le (by omega)
 ·rcases Ne.Rv (Ne.yD.subset hy) with rfl | h1
  ·refine ⟨p,hp,rfl,rfl,?_⟩
   show (Ne.kn b p.k).q = _
   unfold Ne.kn;cases b <;> rfl
  ·exact h.it y h1
structure FI (θ:Th) (gt:ByteArray → Int → Int → Int × Bool) (l:List Pt) (i:Nat) (a:Sv × Ne.Nv):Prop where
 s:FS l i a.1
 n:FN θ gt l i a.2
theorem fi0 (l:List Pt):FI θ gt l 0 (s50,m50):=⟨⟨rfl,⟨aj2 _,aj2 _⟩,ajd _,ajd _,(by intro x hx;cases hx),akM⟩,⟨rfl,⟨aj2 _,aj2 _⟩,ajd _,ajd _,(by intro x hx;cases hx),akM⟩⟩
theorem FI.zV {l:List Pt} {i:Nat} {a:Sv × Ne.Nv} (h:FI θ gt l i a) {p:Pt} (hp:p ∈ l):FI θ gt l (i + 1) (zV θ gt a p):=by
 unfold Kc.zV
 split
 ·rename_i h0;exact ⟨h.s.put hp h0,h.n.up⟩
 ·exact ⟨h.s.up,h.n.put hp _⟩
theorem fi (l:List Pt):∀ i,i ≤ l.length → FI θ gt l i (nC θ gt (l.take i))
 | 0,_=>fi0 l
 | i + 1,h=>by
  have hi:l[i]? = some l[i]:=ajo (by omega)
  rw [yF hi]
  exact (fi l i (by omega)).zV (List.getElem_mem _)
theorem fiA (l:List Pt):FI θ gt l l.length (nC θ gt l):=by
 have:=fi (θ:=θ) (gt:=gt) l l.length (ajd _)
 rwa [ajS] at this
def kZ (l:List Pt):Bool:=l.all fun x=>nU x.s.q x.s.d && decide (x.k.q.size ≤ 300)
theorem Kn {l:List Pt} {x:Pt} {i:Nat} (h:l[i]? = some x):kZ (l.take (i + 1)) = (kZ (l.take i) && (nU x.s.q x.s.d && decide (x.k.q.size ≤ 300))):=by
 unfold kZ
 rw [ajX,h,List.all_append]
 simp
theorem Je {l:List Pt} {x:Pt} {i:Nat} (h:l[i]? = some x) (hx:(nU x.s.q x.s.d && decide (x.k.q.size ≤ 300)) = false):kZ l = false:=by
 unfold kZ
 rw [List.all_eq_false]
 exact ⟨x,akc h,by simp only [hx,ajB,akY]⟩
theorem Ba {q:ByteArray} {d:List ByteArray} (h:nU q d = true):q.size ≤ 300 ∧ d.length ≤ 60 ∧ ∀ y ∈ d,y.size ≤ 2000:=by
 unfold nU EK at h
 rw [ajg,ajp,ajt] at h
 refine ⟨by omega,?_,fun y hy=>?_⟩
 ·cases hd:d with
  | nil=>simp
  | cons y d' =>
   have:=h.1 y (by rw [hd];simp)
   simp only [ajg,ajt] at this
   rw [hd] at this;omega
 ·have:=h.1 y hy
  simp only [ajg,ajt] at this
  omega
theorem tV {l:List Pt} {x:Pt} (h:kZ l = true) (hx:x ∈ l):x.k.q.size ≤ 1000000 ∧ x.s.q.size ≤ 1000000 ∧ x.s.d.length ≤ 1000000 ∧ ∀ y ∈ x.s.d,y.size ≤ 1000000:=by
 have h1:=ajp.mp h x hx
 rw [ajg,ajt] at h1
 obtain ⟨a,b,c⟩:=Ba h1.1
 exact ⟨by omega,by omega,by omega,fun y hy=>by have:=c y hy;omega⟩
theorem EY {now ttl:Int}:fK now ttl ≤ 4611686018427387904:=by
 unfold fK Q5
 split
 ·rename_i h
  simp only [ajt] at h
  split <;> omega
 ·omega
structure FW (a:Sv × Ne.Nv):Prop where
 hd:∀ x ∈ a.1.m,x.d.length ≤ 1000000
 hu:∀ x ∈ a.1.m,x.u ≤ 4611686018427387904
 hy:∀ x ∈ a.1.m,∀ y ∈ x.d,y.size ≤ 1000000
 hd2:∀ x ∈ a.2.m,x.s.d.length ≤ 1000000
 hu2:∀ x ∈ a.2.m,x.u ≤ 4611686018427387904
theorem FI.w {l:List Pt} {i:Nat} {a:Sv × Ne.Nv} (h:FI θ gt l i a) (hf:kZ l = true):FW a:=by
 refine ⟨fun x hx=>?_,fun x hx=>?_,fun x hx=>?_,fun x hx=>?_,fun x hx=>?_⟩
 ·obtain ⟨p,hp, -,rfl⟩:=h.s.it x hx;exact (tV hf hp).2.2.1
 ·obtain ⟨p,hp, -,rfl⟩:=h.s.it x hx;exact EY
 ·obtain ⟨p,hp, -,rfl⟩:=h.s.it x hx;exact (tV hf hp).2.2.2
 ·obtain ⟨p,hp,h1, -⟩:=h.n.it x hx;rw [h1];exact (tV hf hp).2.2.1
 ·obtain ⟨p,hp, -,h1, -⟩:=h.n.it x hx;rw [h1];exact EY
end
end Go.Proofs.YtfokaoeinpnagaaGreat.Kc

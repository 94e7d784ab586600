/- A part of the proof of SeekDone: cut, joined and given short names by a program of this session (wip/tools/pack.py); Lean checks it. No condition. -/
import Derived.Test.YtfokaoeinpnagaaGreatPSDnei
import Derived.Test.YtfokaoeinpnagaaGreatProg
import Derived.Test.YtfokaoeinpnagaaGreatPSDnef
import Derived.WalkKit
import Derived.Test.YtfokaoeinpnagaaGreatPSDneg
import Derived.Test.YtfokaoeinpnagaaGreatPSDned
set_option linter.unusedSectionVars false
set_option linter.unusedSimpArgs false
set_option linter.unusedVariables false
set_option maxHeartbeats 16000000
set_option maxRecDepth 100000
namespace Go.Proofs.YtfokaoeinpnagaaGreat.Ev
open Go
attribute [go_sem] dx dY vk qQ l5 nT Fj O1 Ji sub jm oU fZ jJ plain fH Sq KL vV O4 Jl KO Uw Ux Uy KN Ut rowsOf KV.ks SV.sk
attribute [go_sem] List.any_cons List.any_nil List.all_cons List.all_nil List.map_cons List.map_nil List.length_cons List.length_nil List.append_nil List.nil_append List.cons_append List.flatMap_cons List.flatMap_nil List.take_succ_cons List.take_zero List.take_nil List.drop_succ_cons List.drop_zero List.drop_nil Option.getD_some Option.getD_none List.filter_nil List.filter_cons List.headD_nil List.headD_cons List.tail_cons List.tail_nil
section
variable {σ : St} {α:Type}
section
variable {k : St → Prop} {u:Tok k} {key:Nat} {o:Ob} {pend:List PL}
@[go_sem ↓] theorem agV : W k u (new σ key o) ↔ (rem σ.ob key).any (fun p=>l5 key p.2) = false ∧ k ⟨σ.tm.filter (fun p=>!qQ key p.2),(key,o) :: rem σ.ob key⟩:=by
 simp only [new,Xn,dQ,bQ,cO,bq,ajj]
@[go_sem ↓] theorem aeT : W k u (newP pend σ key o) ↔ pend.any (dY key) = false ∧ W k ⟨⟩ (new σ key o):=by
 simp only [newP,dQ,cO,ajj]
@[go_sem ↓] theorem agW : W k u (zf σ key) ↔ W (fun p=>k (sub ⟨σ.tm,rem σ.ob key⟩ key (.f (.sl p.2)))) ⟨⟩ (iD σ key):=by
 simp only [zf,iD,dQ]
 cases get σ.ob key with
 | none=>exact bU
 | some o=>cases o <;> first | exact bU | exact lG aiu
@[go_sem ↓] theorem Vv : W k u (wU σ []) ↔ k σ:=gI
@[go_sem ↓] theorem SN : W k u (rX σ []) ↔ k σ:=gI
@[go_sem ↓] theorem PZ {x:CV} {xs:List CV}:W k u (rX σ (x :: xs)) ↔ W (fun s=>W k ⟨⟩ (rX s xs)) ⟨⟩ (wU σ (cells x)):=by
 simp only [rX,dQ,aK]
def pJ (σ:St):PL → Option St
 | .own key _=>zf σ key
 | _=>some σ
@[go_sem ↓] theorem SQ {x:PL} {xs:List PL}:W k u (wU σ (x :: xs)) ↔ W (fun s=>W k ⟨⟩ (wU s xs)) ⟨⟩ (pJ σ x):=by
 simp only [dQ]
 cases x <;> simp only [wU,pJ,aK,bq]
@[go_sem ↓] theorem SS {n:Nat}:W k u (pJ σ (.own key n)) ↔ W k ⟨⟩ (zf σ key):=aiu
@[go_sem] theorem acA {x:FV}:pJ σ (.f x) = some σ:=rfl
@[go_sem] theorem XK : pJ σ .bP = some σ:=rfl
@[go_sem] theorem XL {n:Nat}:pJ σ (.ptr key n) = some σ:=rfl
@[go_sem] theorem ZM : pJ σ (.mp key) = some σ:=rfl
@[go_sem] theorem XM : pJ σ .iI = some σ:=rfl
@[go_sem] theorem Vw : pJ σ .fq = some σ:=rfl
@[go_sem] theorem ZN {f:FuncId} {c:List (List FV)}:pJ σ (.fn f c) = some σ:=rfl
@[go_sem] theorem ZO {c:List FV}:pJ σ (.fp c) = some σ:=rfl
end
section
variable {k : FV × St → Prop} {u:Tok k} {key n:Nat}
@[go_sem] theorem agX {x:FV}:vo σ (.f x) = some (x,σ):=rfl
@[go_sem] theorem acB : vo σ .bP = some (.sl [],σ):=rfl
@[go_sem ↓] theorem XO : W k u (vo σ (.own key n)) ↔ W (fun p=>k (.sl p.2,sub ⟨σ.tm,rem σ.ob key⟩ key (.f (.sl p.2)))) ⟨⟩ (iD σ key):=by
 simp only [vo,zf,iD,dQ]
 cases get σ.ob key with
 | none=>exact bU
 | some o=>cases o <;> first | exact bU | (simp only [Option.map_some];exact lG aiu)
end
section
variable {k : List FV × St → Prop} {u:Tok k}
@[go_sem ↓] theorem Vx : W k u (ku σ []) ↔ k ([],σ):=gI
@[go_sem ↓] theorem SX {x:PL} {xs:List PL}:W k u (ku σ (x :: xs)) ↔ W (fun p=>W (fun r=>k (p.1 :: r.1,r.2)) ⟨⟩ (ku p.2 xs)) ⟨⟩ (vo σ x):=by
 simp only [ku,dQ,aK,bQ]
@[go_sem ↓] theorem agY {key:Nat}:W k u (Xp σ key) ↔ W (fun xs=>W (fun p=>W (fun _=>k (p.1,Uy (KN key p.1) ⟨p.2.tm,rem p.2.ob key⟩)) ⟨⟩ (get p.2.ob key)) ⟨⟩ (ku σ xs)) ⟨⟩ (oN σ key):=by
 simp only [Xp,oN,dQ]
 cases get σ.ob key with
 | none=>exact bU
 | some o =>
  cases o with
  | eH xs =>
   simp only [oc,bq,aK]
   refine cB fun p=>?_
   cases get p.2.ob key with
   | none=>exact bU
   | some o=>exact lG aiu
  | _=>exact bU
end
section
variable {k : FC × St → Prop} {u:Tok k}
@[go_sem ↓] theorem XP {x:PL}:W k u (Xo σ (.one x)) ↔ W (fun p=>k (.one p.1,p.2)) ⟨⟩ (vo σ x):=by simp only [Xo,dQ,bQ]
@[go_sem ↓] theorem XQ {xs:List PL}:W k u (Xo σ (.agg xs)) ↔ W (fun p=>k (.agg p.1,p.2)) ⟨⟩ (ku σ xs):=by simp only [Xo,dQ,bQ]
end
section
variable {k : List (List FV) × St → Prop} {u:Tok k} {q:Bool}
@[go_sem ↓] theorem Vy : W k u (lN q σ []) ↔ k ([],σ):=by simp only [lN,dQ,bq]
@[go_sem ↓] theorem XR {cs:List FV} {l:List CV}:W k u (lN q σ (.one (.fp cs) :: l)) ↔ W (fun r=>k (cs :: r.1,r.2)) ⟨⟩ (lN q σ l):=by simp only [lN,dQ,bQ]
@[go_sem ↓] theorem Vz {key:Nat} {l:List CV}:W k u (lN q σ (.one (.ptr key 0) :: l)) ↔ q = false ∧ W (fun p=>W (fun r=>k (p.1 :: r.1,r.2)) ⟨⟩ (lN q p.2 l)) ⟨⟩ (Xp σ key):=by
 simp only [lN,dQ,cO,aK,bQ,ajj]
end
section
variable {k : List (Nat × Nat × CV) → Prop} {u:Tok k}
@[go_sem ↓] theorem VA : W k u (vals σ []) ↔ k []:=gI
@[go_sem ↓] theorem SY {o n:Nat} {x:dH} {ps:List (Nat × Nat × dH)}:W k u (vals σ ((o,n,x) :: ps)) ↔ W (fun v=>W (fun l=>k ((o,n,v) :: l)) ⟨⟩ (vals σ ps)) ⟨⟩ (val σ x):=by
 simp only [vals,dQ,aK,bQ]
end
section
variable {k : List CV → Prop} {u:Tok k}
@[go_sem ↓] theorem S9 : W k u (ji σ []) ↔ k []:=gI
@[go_sem ↓] theorem P5 {x:dH} {xs:List dH}:W k u (ji σ (x :: xs)) ↔ W (fun v=>W (fun l=>k (v :: l)) ⟨⟩ (ji σ xs)) ⟨⟩ (val σ x):=by
 simp only [ji,dQ,aK,bQ]
@[go_sem ↓] theorem Ta : W k u (slots σ []) ↔ k []:=gI
@[go_sem ↓] theorem P6 {x:Rs} {xs:List Rs}:W k u (slots σ (x :: xs)) ↔ W (fun v=>W (fun l=>k (v :: l)) ⟨⟩ (slots σ xs)) ⟨⟩ (slot σ x):=by
 simp only [slots,dQ,aK,bQ]
end
section
variable {k : CV → Prop} {u:Tok k} {i n:Nat} {agg:Bool}
@[go_sem ↓] theorem ZP : W k u (slot σ (.t i)) ↔ W k ⟨⟩ (vl (get σ.tm i)):=by rw [← Zk];exact aiu
@[go_sem ↓] theorem Tc : W k u (slot σ (.cell i n agg)) ↔ W (fun v=>W (fun p=>W (fun xs=>W (fun l=>W k ⟨⟩ (mk agg l)) ⟨⟩ (seg n p.2 xs)) ⟨⟩ (oN σ p.1)) ⟨⟩ (JA v)) ⟨⟩ (vl (get σ.tm i)):=by
 simp only [slot,dQ]
 cases get σ.tm i with
 | none=>exact bU
 | some v =>
  cases v with
  | uy l=>exact bU
  | c x =>
   simp only [vl,bq]
   cases x with
   | agg l=>exact bU
   | one p =>
    cases p with
    | ptr key off =>
     simp only [JA,bq,oN]
     cases get σ.ob key with
     | none=>exact bU
     | some o=>cases o <;> first | exact bU | (simp only [oc,bq,aK])
    | _=>exact bU
end
section
variable {k : List PL → Prop} {u:Tok k} {z:List PL}
@[go_sem ↓] theorem VB : W k u (fill z []) ↔ k z:=by simp only [fill,dQ,bq]
@[go_sem ↓] theorem Td {off n:Nat} {v:CV} {ps:List (Nat × Nat × CV)}:W k u (fill z ((off,n,v) :: ps)) ↔ ((cells v).length = n ∧ (cells v).any oU = false) ∧ W (fun z=>W k ⟨⟩ (fill z ps)) ⟨⟩ (lay off (cells v) z):=by
 simp only [fill,dQ,bI,aK]
end
@[go_sem] theorem ZR {kk:IntKind} {n:Int}:uz (.int kk n) = some (.int kk n):=rfl
@[go_sem] theorem XT {b:Bool}:uz (.bool b) = some (.bool b):=rfl
@[go_sem] theorem ZT {s:ByteArray}:uz (.str s) = some (.str s):=rfl
section
variable {k : KV → Prop} {u:Tok k}
@[go_sem ↓] theorem XU {x:FV}:W k u (keyOf (.one (.f x))) ↔ W (fun s=>k (.one s)) ⟨⟩ (uz x):=by simp only [keyOf,GV,Option.bind_some,dQ,bQ]
@[go_sem ↓] theorem XV {xs:List PL}:W k u (keyOf (.agg xs)) ↔ W (fun l=>W (fun s=>k (.agg s)) ⟨⟩ (rU l)) ⟨⟩ (nU xs):=by simp only [keyOf,dQ,aK,bQ]
end
section
variable {k : List SV → Prop} {u:Tok k}
@[go_sem ↓] theorem Te : W k u (rU []) ↔ k []:=gI
@[go_sem ↓] theorem P7 {x:FV} {xs:List FV}:W k u (rU (x :: xs)) ↔ W (fun s=>W (fun l=>k (s :: l)) ⟨⟩ (rU xs)) ⟨⟩ (uz x):=by simp only [rU,dQ,aK,bQ]
end
section
variable {k : List FV → Prop} {u:Tok k}
@[go_sem ↓] theorem P8 : W k u (nU []) ↔ k []:=gI
@[go_sem ↓] theorem OT {x:FV} {xs:List PL}:W k u (nU (.f x :: xs)) ↔ W (fun l=>k (x :: l)) ⟨⟩ (nU xs):=by simp only [nU,GV,Option.bind_some,dQ,bQ]
end
section
variable {k : CL × St → Prop} {u:Tok k} {key n:Nat}
@[go_sem] theorem agZ {x:FV}:Jj σ (.f x) = some (.f x,σ):=rfl
@[go_sem] theorem acC : Jj σ .bP = some (.f (.sl []),σ):=rfl
@[go_sem] theorem acD : Jj σ .iI = some (.iI,σ):=rfl
@[go_sem] theorem ZU : Jj σ .fq = some (.fq,σ):=rfl
@[go_sem ↓] theorem XW : W k u (Jj σ (.own key n)) ↔ W (fun o=>k (.own o.1 o.2,⟨σ.tm,rem σ.ob key⟩)) ⟨⟩ (iD σ key):=by
 simp only [Jj,iD,dQ]
 cases get σ.ob key with
 | none=>exact bU
 | some o=>cases o <;> first | exact bU | exact lG aiu
@[go_sem ↓] theorem ZV : W k u (Jj σ (.mp key)) ↔ W (fun o=>k (.mp o.1 o.2,⟨σ.tm,rem σ.ob key⟩)) ⟨⟩ (nZ σ key):=by
 simp only [Jj,nZ,dQ]
 cases get σ.ob key with
 | none=>exact bU
 | some o=>cases o <;> first | exact bU | exact lG aiu
end
section
variable {k : List CL × St → Prop} {u:Tok k}
@[go_sem ↓] theorem VD : W k u (zn σ []) ↔ k ([],σ):=gI
@[go_sem ↓] theorem Tf {x:PL} {xs:List PL}:W k u (zn σ (x :: xs)) ↔ W (fun p=>W (fun r=>k (p.1 :: r.1,r.2)) ⟨⟩ (zn p.2 xs)) ⟨⟩ (Jj σ x):=by
 simp only [zn,dQ,aK,bQ]
end
section
variable {k : TV × St → Prop} {u:Tok k} {key n:Nat} {gv:Bool}
@[go_sem] theorem ag0 {x:FV}:ru gv σ (.f x) = some (.f x,σ):=rfl
@[go_sem] theorem acE : ru gv σ .bP = some (.f (.sl []),σ):=rfl
@[go_sem] theorem acF : ru gv σ .iI = some (.iI,σ):=rfl
@[go_sem] theorem ZW : ru gv σ .fq = some (.fq,σ):=rfl
@[go_sem] theorem aeU {cs:List FV}:ru gv σ (.fp cs) = some (.fp cs,σ):=rfl
@[go_sem] theorem aeV {f:FuncId} {cs:List (List FV)}:ru gv σ (.fn f cs) = some (.fn f cs,σ):=rfl
@[go_sem ↓] theorem XY : W k u (ru false σ (.own key n)) ↔ W (fun o=>k (.f (.sl o.2),σ)) ⟨⟩ (iD σ key):=by
 simp only [ru,iD,dQ]
 cases get σ.ob key with
 | none=>exact bU
 | some o=>cases o <;> first | exact bU | exact lG aiu
@[go_sem ↓] theorem VE : W k u (ru true σ (.own key n)) ↔ W (fun o=>k (.own o.1 o.2,⟨σ.tm,rem σ.ob key⟩)) ⟨⟩ (iD σ key):=by
 simp only [ru,iD,dQ]
 cases get σ.ob key with
 | none=>exact bU
 | some o=>cases o <;> first | exact bU | exact lG aiu
@[go_sem ↓] theorem ZX : W k u (ru gv σ (.mp key)) ↔ W (fun o=>k (.mp o.1 o.2,⟨σ.tm,rem σ.ob key⟩)) ⟨⟩ (nZ σ key):=by
 simp only [ru,nZ,dQ]
 cases get σ.ob key with
 | none=>exact bU
 | some o=>cases o <;> first | exact bU | exact lG aiu
@[go_sem ↓] theorem XZ : W k u (ru gv σ (.ptr key 0)) ↔ W (fun xs=>W (fun p=>k (.ptr p.1,p.2)) ⟨⟩ (zn ⟨σ.tm,rem σ.ob key⟩ xs)) ⟨⟩ (oN σ key):=by
 simp only [ru,oN,dQ]
 cases get σ.ob key with
 | none=>exact bU
 | some o=>cases o <;> first | exact bU | (simp only [oc,bq,bQ])
end
section
variable {k : List TV × St → Prop} {u:Tok k} {gv:Bool}
@[go_sem ↓] theorem VF : W k u (rz gv σ []) ↔ k ([],σ):=gI
@[go_sem ↓] theorem Tg {x:PL} {xs:List PL}:W k u (rz gv σ (x :: xs)) ↔ W (fun p=>W (fun r=>k (p.1 :: r.1,r.2)) ⟨⟩ (rz gv p.2 xs)) ⟨⟩ (ru gv σ x):=by
 simp only [rz,dQ,aK,bQ]
end
section
variable {k : AV × St → Prop} {u:Tok k} {gv:Bool}
@[go_sem ↓] theorem X0 {x:PL}:W k u (Kz gv σ (.one x)) ↔ W (fun p=>k (.one p.1,p.2)) ⟨⟩ (ru gv σ x):=by simp only [Kz,dQ,bQ]
@[go_sem ↓] theorem X3 {xs:List PL}:W k u (Kz gv σ (.agg xs)) ↔ W (fun p=>k (.agg p.1,p.2)) ⟨⟩ (rz gv σ xs):=by simp only [Kz,dQ,bQ]
end
section
variable {k : List AV × St → Prop} {u:Tok k} {gv:Bool}
@[go_sem ↓] theorem VG : W k u (rW gv σ []) ↔ k ([],σ):=gI
@[go_sem ↓] theorem Ti {x:CV} {xs:List CV}:W k u (rW gv σ (x :: xs)) ↔ W (fun p=>W (fun r=>k (p.1 :: r.1,r.2)) ⟨⟩ (rW gv p.2 xs)) ⟨⟩ (Kz gv σ x):=by
 simp only [rW,dQ,aK,bQ]
end
section
variable {k : List PL × St → Prop} {u:Tok k} {kf:Nat → Nat} {c base j:Nat} {pend:List PL}
@[go_sem ↓] theorem VH : W k u (qH kf c pend σ []) ↔ k ([],σ):=by simp only [qH,dQ,bq]
def P9 (kf:Nat → Nat) (c:Nat) (pend:List PL) (σ:St):CL → Option (PL × St)
 | .f x=>some (.f x,σ)
 | .iI=>some (.iI,σ)
 | .fq=>some (.fq,σ)
 | .mp sh ents=>(newP pend σ (kf c) (.map sh ents)).map fun s=>(.mp (kf c),s)
 | .own sz rows=>(newP pend σ (kf c + kf c % 2) (.row sz rows)).map fun s=>(.own (kf c + kf c % 2) rows.length,s)
@[go_sem ↓] theorem Tj {x:CL} {xs:List CL}:W k u (qH kf c pend σ (x :: xs)) ↔ W (fun p=>W (fun r=>k (p.1 :: r.1,r.2)) ⟨⟩ (qH kf (c + 1) (p.1 :: pend) p.2 xs)) ⟨⟩ (P9 kf c pend σ x):=by
 simp only [dQ]
 cases x <;> simp only [qH,P9,bq,aK,bQ]
@[go_sem ↓] theorem VI : W k u (wS base j pend σ []) ↔ k ([],σ):=by simp only [wS,dQ,bq]
@[go_sem ↓] theorem Tm {x:TV} {xs:List TV}:W k u (wS base j pend σ (x :: xs)) ↔ W (fun p=>W (fun r=>k (p.1 :: r.1,r.2)) ⟨⟩ (wS base (j + 1) (p.1 :: pend) p.2 xs)) ⟨⟩ (Dc (base + 200 * (j + 1)) pend σ x):=by
 simp only [wS,dQ,aK,bQ]
end
section
variable {k : PL × St → Prop} {u:Tok k} {kf:Nat → Nat} {c key:Nat} {pend:List PL}
@[go_sem] theorem ag1 {x:FV}:P9 kf c pend σ (.f x) = some (.f x,σ):=rfl
@[go_sem] theorem acG : P9 kf c pend σ .iI = some (.iI,σ):=rfl
@[go_sem] theorem ZY : P9 kf c pend σ .fq = some (.fq,σ):=rfl
@[go_sem ↓] theorem Z0 {sh:KS} {ents:List (KV × FC)}:W k u (P9 kf c pend σ (.mp sh ents)) ↔ W (fun s=>k (.mp (kf c),s)) ⟨⟩ (newP pend σ (kf c) (.map sh ents)):=by simp only [P9,dQ,bQ]
@[go_sem ↓] theorem X4 {sz:Nat} {rows:List (List FV)}:W k u (P9 kf c pend σ (.own sz rows)) ↔ W (fun s=>k (.own (kf c + kf c % 2) rows.length,s)) ⟨⟩ (newP pend σ (kf c + kf c % 2) (.row sz rows)):=by simp only [P9,dQ,bQ]
@[go_sem] theorem ag2 {x:FV}:Dc key pend σ (.f x) = some (.f x,σ):=rfl
@[go_sem] theorem acH : Dc key pend σ .iI = some (.iI,σ):=rfl
@[go_sem] theorem Z4 : Dc key pend σ .fq = some (.fq,σ):=rfl
@[go_sem] theorem aeW {cs:List FV}:Dc key pend σ (.fp cs) = some (.fp cs,σ):=rfl
@[go_sem] theorem aeX {f:FuncId} {cs:List (List FV)}:Dc key pend σ (.fn f cs) = some (.fn f cs,σ):=rfl
@[go_sem] theorem acI : Dc key pend σ .any = some (.any,σ):=rfl
@[go_sem ↓] theorem Z5 {sh:KS} {ents:List (KV × FC)}:W k u (Dc key pend σ (.mp sh ents)) ↔ W (fun s=>k (.mp key,s)) ⟨⟩ (newP pend σ key (.map sh ents)):=by simp only [Dc,dQ,bQ]
@[go_sem ↓] theorem X5 {sz:Nat} {rows:List (List FV)}:W k u (Dc key pend σ (.own sz rows)) ↔ W (fun s=>k (.own (ow key) rows.length,s)) ⟨⟩ (newP pend σ (ow key) (.row sz rows)):=by simp only [Dc,dQ,bQ]
@[go_sem ↓] theorem X6 {cs:List CL}:W k u (Dc key pend σ (.ptr cs)) ↔ W (fun p=>p.1.any (dY key) = false ∧ W (fun s=>k (.ptr key 0,s)) ⟨⟩ (newP pend p.2 key (.eH p.1))) ⟨⟩ (qH (O4 key) 0 pend σ cs):=by
 simp only [Dc,dQ,aK,cO,bQ,ajj]
end
section
variable {k : CV × St → Prop} {u:Tok k} {base:Nat} {pend:List PL}
@[go_sem ↓] theorem X7 {x:TV}:W k u (KA base pend σ (.one x)) ↔ W (fun p=>k (.one p.1,p.2)) ⟨⟩ (Dc (base + 200) pend σ x):=by simp only [KA,dQ,bQ]
@[go_sem ↓] theorem X8 {xs:List TV}:W k u (KA base pend σ (.agg xs)) ↔ W (fun p=>k (.agg p.1,p.2)) ⟨⟩ (wS base 0 pend σ xs):=by simp only [KA,dQ,bQ]
end
section
variable {k : List CV × St → Prop} {u:Tok k} {base i:Nat} {pend:List PL} {bo:List Nat}
@[go_sem] theorem ag3 : ab bo i = if bo.contains i then dx i + 10001 else dx i + 1:=rfl
@[go_sem] theorem ag4 {key:Nat}:ow key = if key / 10000 % 2 = 0 then key + key % 2 else key:=rfl
@[go_sem ↓] theorem VJ : W k u (wT base i pend σ []) ↔ k ([],σ):=by simp only [wT,dQ,bq]
@[go_sem ↓] theorem Tn {x:AV} {xs:List AV}:W k u (wT base i pend σ (x :: xs)) ↔ W (fun p=>W (fun r=>k (p.1 :: r.1,r.2)) ⟨⟩ (wT base (i + 1) (cells p.1 ++ pend) p.2 xs)) ⟨⟩ (KA (base + 2000 * i) pend σ x):=by
 simp only [wT,dQ,aK,bQ]
@[go_sem ↓] theorem Tp : W k u (enter bo i pend σ []) ↔ k ([],σ):=by simp only [enter,dQ,bq]
@[go_sem ↓] theorem Qa {x:AV} {xs:List AV}:W k u (enter bo i pend σ (x :: xs)) ↔ W (fun p=>W (fun s=>W (fun r=>k (p.1 :: r.1,r.2)) ⟨⟩ (enter bo (i + 1) (cells p.1 ++ pend) s xs)) ⟨⟩ (some ⟨put p.2.tm i (.c p.1),p.2.ob⟩)) ⟨⟩ (KA (ab bo i) pend σ x):=by
 simp only [enter,dQ,aK,bQ,bq]
end
section
variable {k : St → Prop} {u:Tok k} {fG:St} {base:Nat} {pend:List PL}
@[go_sem ↓] theorem VK : W k u (zo fG pend base σ [] []) ↔ k σ:=by simp only [zo,dQ,bq]
@[go_sem ↓] theorem Tq {x:CV} {xs:List CV} {y:AV} {ys:List AV}:W k u (zo fG pend base σ (x :: xs) (y :: ys)) ↔ W (fun s=>W k ⟨⟩ (zo fG pend (base + 1000) s xs ys)) ⟨⟩ (Yt fG pend base σ x y):=by
 simp only [zo,dQ,aK]
@[go_sem ↓] theorem X9 {x:PL} {y:TV}:W k u (Yt fG pend base σ (.one x) (.one y)) ↔ W k ⟨⟩ (Df fG pend base σ x y):=aiu
@[go_sem ↓] theorem Ya {x:List PL} {y:List TV}:W k u (Yt fG pend base σ (.agg x) (.agg y)) ↔ W k ⟨⟩ (Bp fG pend base σ x y):=aiu
@[go_sem ↓] theorem VL : W k u (Bp fG pend base σ [] []) ↔ k σ:=by simp only [Bp,dQ,bq]
@[go_sem ↓] theorem Tt {x:PL} {xs:List PL} {y:TV} {ys:List TV}:W k u (Bp fG pend base σ (x :: xs) (y :: ys)) ↔ W (fun s=>W k ⟨⟩ (Bp fG pend (base + 200) s xs ys)) ⟨⟩ (Df fG pend base σ x y):=by
 simp only [Bp,dQ,aK]
@[go_sem ↓] theorem Yb {key off:Nat} {cs:List CL}:W k u (Df fG pend base σ (.ptr key off) (.ptr cs)) ↔ W (fun xs=>W (fun p=>k (jm p.2 key (.eH p.1))) ⟨⟩ (qH (Jk base xs) 0 pend σ cs)) ⟨⟩ (oN fG key):=by
 simp only [Df,oN,dQ]
 cases get fG.ob key with
 | none=>exact bU
 | some o=>cases o <;> first | exact bU | (simp only [oc,bq,bQ])
@[go_sem] theorem aeY {key:Nat} {sh:KS} {ents:List (KV × FC)}:Df fG pend base σ (.mp key) (.mp sh ents) = some (jm σ key (.map sh ents)):=rfl
@[go_sem] theorem Z6 {key n sz:Nat} {rows:List (List FV)}:Df fG pend base σ (.own key n) (.own sz rows) = some (jm σ key (.row sz rows)):=rfl
@[go_sem] theorem ag5 {x y:FV}:Df fG pend base σ (.f x) (.f y) = some σ:=rfl
@[go_sem] theorem acJ {y:FV}:Df fG pend base σ .bP (.f y) = some σ:=rfl
@[go_sem] theorem acK : Df fG pend base σ .iI .iI = some σ:=rfl
@[go_sem] theorem Z7 : Df fG pend base σ .fq .fq = some σ:=rfl
@[go_sem] theorem acL {key n:Nat} {y:FV}:Df fG pend base σ (.own key n) (.f y) = some σ:=rfl
@[go_sem] theorem acM {key n:Nat}:Df fG pend base σ (.own key n) .any = some σ:=rfl
@[go_sem] theorem aeZ {a b:List FV}:Df fG pend base σ (.fp a) (.fp b) = some σ:=rfl
@[go_sem] theorem ae0 {f g:FuncId} {a b:List (List FV)}:Df fG pend base σ (.fn f a) (.fn g b) = some σ:=rfl
end
def Yc (base c:Nat):Option PL → Nat
 | some (.mp k)=>if k % 2 = 0 then k else base + 2 * (c + 1)
 | some (.own k _)=>if k % 2 = 0 then k else base + 2 * (c + 1)
 | _=>base + 2 * (c + 1)
@[go_sem] theorem acN {base c:Nat} {xs:List PL}:Jk base xs c = Yc base c (xs[c]?):=by
 unfold Jk
 cases xs[c]? with
 | none=>rfl
 | some x=>cases x <;> rfl
@[go_sem] theorem ae1 {base c k:Nat}:Yc base c (some (.mp k)) = if k % 2 = 0 then k else base + 2 * (c + 1):=rfl
@[go_sem] theorem acO {base c k n:Nat}:Yc base c (some (.own k n)) = if k % 2 = 0 then k else base + 2 * (c + 1):=rfl
@[go_sem] theorem ag6 {base c:Nat} {x:FV}:Yc base c (some (.f x)) = base + 2 * (c + 1):=rfl
@[go_sem] theorem acP {base c:Nat}:Yc base c (some .bP) = base + 2 * (c + 1):=rfl
@[go_sem] theorem Z8 {base c:Nat}:Yc base c (some .fq) = base + 2 * (c + 1):=rfl
section
variable {k : TV × St → Prop} {u:Tok k} {key n:Nat}
@[go_sem] theorem ae2 {x:FV}:outT σ (.f x) = some (.f x,σ):=rfl
@[go_sem] theorem Z9 : outT σ .bP = some (.f (.sl []),σ):=rfl
@[go_sem] theorem aac : outT σ .iI = some (.iI,σ):=rfl
@[go_sem] theorem Yd : outT σ .fq = some (.fq,σ):=rfl
@[go_sem] theorem acQ {cs:List FV}:outT σ (.fp cs) = some (.fp cs,σ):=rfl
@[go_sem] theorem acR {f:FuncId} {cs:List (List FV)}:outT σ (.fn f cs) = some (.fn f cs,σ):=rfl
@[go_sem ↓] theorem VN : W k u (outT σ (.own key n)) ↔ W (fun p=>k (.f p.1,p.2)) ⟨⟩ (vo σ (.own key n)):=by simp only [outT,dQ,bQ]
@[go_sem ↓] theorem Ye : W k u (outT σ (.mp key)) ↔ W (fun o=>k (.mp o.1 o.2,⟨σ.tm,rem σ.ob key⟩)) ⟨⟩ (nZ σ key):=by
 simp only [outT,nZ,dQ]
 cases get σ.ob key with
 | none=>exact bU
 | some o=>cases o <;> first | exact bU | exact lG aiu
@[go_sem ↓] theorem VO : W k u (outT σ (.ptr key 0)) ↔ W (fun xs=>W (fun p=>k (.ptr p.1,p.2)) ⟨⟩ (zn ⟨σ.tm,rem σ.ob key⟩ xs)) ⟨⟩ (oN σ key):=by
 simp only [outT,oN,dQ]
 cases get σ.ob key with
 | none=>exact bU
 | some o=>cases o <;> first | exact bU | (simp only [oc,bq,bQ])
@[go_sem ↓] theorem VP {sz:Nat}:W k u (Bq sz σ (.own key n)) ↔ W (fun o=>o.1 = sz ∧ k (.own sz o.2,⟨σ.tm,rem σ.ob key⟩)) ⟨⟩ (iD σ key):=by
 simp only [Bq,iD,dQ]
 cases get σ.ob key with
 | none=>exact bU
 | some o=>cases o <;> first | exact bU | (simp only [L6,bq,bI])
@[go_sem ↓] theorem VQ {sz:Nat}:W k u (Bq sz σ .bP) ↔ ¬ sz = 0 ∧ k (.own sz [],σ):=by simp only [Bq,dQ,cO,bq]
@[go_sem] theorem acS {x:PL} {y:FV}:jK σ x (.f y) = some (.f y,σ):=by cases x <;> first | rfl | (rename_i a b;cases b <;> rfl)
@[go_sem] theorem Yf {x:PL}:jK σ x .iI = some (.iI,σ):=by cases x <;> first | rfl | (rename_i a b;cases b <;> rfl)
@[go_sem] theorem VR {x:PL}:jK σ x .fq = some (.fq,σ):=by cases x <;> first | rfl | (rename_i a b;cases b <;> rfl)
def bko (σ:St) (key:Nat):Nat → Option (TV × St)
 | 1=>(L6 (get σ.ob key)).map fun p=>(.own p.1 p.2,⟨σ.tm,rem σ.ob key⟩)
 | _=>some (.any,σ)
@[go_sem] theorem ag7 : bko σ key 0 = some (.any,σ):=rfl
@[go_sem] theorem aad : bko σ key 1 = (L6 (get σ.ob key)).map fun p=>(.own p.1 p.2,⟨σ.tm,rem σ.ob key⟩):=rfl
@[go_sem] theorem Yg {n sz:Nat} {rows:List (List FV)}:jK σ (.own key n) (.own sz rows) = bko σ key (key % 2):=by
 simp only [jK]
 rcases Nat.mod_two_eq_zero_or_one key with h | h
 ·rw [h,ain (by decide)];rfl
 ·rw [h,ail rfl,aad]
  cases get σ.ob key with
  | none=>rfl
  | some o=>cases o <;> rfl
@[go_sem] theorem Yh {sz:Nat} {rows:List (List FV)}:jK σ .bP (.own sz rows) = some (.any,σ):=rfl
@[go_sem] theorem Yi {x:PL}:jK σ x .any = some (.any,σ):=by cases x <;> first | rfl | (rename_i a b;cases b <;> rfl)
@[go_sem] theorem aae {x:PL} {cs:List FV}:jK σ x (.fp cs) = some (.fp cs,σ):=by cases x <;> first | rfl | (rename_i a b;cases b <;> rfl)
@[go_sem] theorem aaf {x:PL} {f:FuncId} {cs:List (List FV)}:jK σ x (.fn f cs) = some (.fn f cs,σ):=by cases x <;> first | rfl | (rename_i a b;cases b <;> rfl)
@[go_sem ↓] theorem Tv {cs:List CL}:W k u (jK σ (.ptr key 0) (.ptr cs)) ↔ key % 2 = 1 ∧ W k ⟨⟩ (outT σ (.ptr key 0)):=by simp only [jK,dQ,bI]
@[go_sem ↓] theorem VT {sh:KS} {ents:List (KV × FC)}:W k u (jK σ (.mp key) (.mp sh ents)) ↔ key % 2 = 1 ∧ W k ⟨⟩ (outT σ (.mp key)):=by simp only [jK,dQ,bI]
end
section
variable {k : List TV × St → Prop} {u:Tok k}
@[go_sem ↓] theorem Tw : W k u (vv σ []) ↔ k ([],σ):=gI
@[go_sem ↓] theorem Qb {x:PL} {xs:List PL}:W k u (vv σ (x :: xs)) ↔ W (fun p=>W (fun r=>k (p.1 :: r.1,r.2)) ⟨⟩ (vv p.2 xs)) ⟨⟩ (outT σ x):=by
 simp only [vv,dQ,aK,bQ]
@[go_sem ↓] theorem Qc : W k u (nV σ [] []) ↔ k ([],σ):=by simp only [nV,dQ,bq]
@[go_sem ↓] theorem OU {l:PL} {ls:List PL} {x:TV} {xs:List TV}:W k u (nV σ (l :: ls) (x :: xs)) ↔ W (fun p=>W (fun r=>k (p.1 :: r.1,r.2)) ⟨⟩ (nV p.2 ls xs)) ⟨⟩ (jK σ l x):=by
 simp only [nV,dQ,aK,bQ]
end
section
variable {k : AV × St → Prop} {u:Tok k}
@[go_sem ↓] theorem KD {x:PL}:W k u (Bt none σ (.one x)) ↔ W (fun p=>k (.one p.1,p.2)) ⟨⟩ (outT σ x):=by simp only [Bt,O8,dQ,bQ]
@[go_sem ↓] theorem KE {xs:List PL}:W k u (Bt none σ (.agg xs)) ↔ W (fun p=>k (.agg p.1,p.2)) ⟨⟩ (vv σ xs):=by simp only [Bt,O8,dQ,bQ]
@[go_sem ↓] theorem Tx {sz:Nat} {x:PL}:W k u (Bt (some sz) σ (.one x)) ↔ W (fun p=>k (.one p.1,p.2)) ⟨⟩ (Bq sz σ x):=by simp only [Bt,dQ,bQ]
@[go_sem ↓] theorem Tz {l:PL} {x:TV}:W k u (wV σ (.one l) (.one x)) ↔ W (fun p=>k (.one p.1,p.2)) ⟨⟩ (jK σ l x):=by simp only [wV,dQ,bQ]
@[go_sem ↓] theorem TA {l:List PL} {x:List TV}:W k u (wV σ (.agg l) (.agg x)) ↔ W (fun p=>k (.agg p.1,p.2)) ⟨⟩ (nV σ l x):=by simp only [wV,dQ,bQ]
end
section
variable {k : List AV × St → Prop} {u:Tok k}
@[go_sem ↓] theorem TB {fl:List (Option Nat)}:W k u (l7 fl σ []) ↔ k ([],σ):=by simp only [l7,dQ,bq]
@[go_sem ↓] theorem Qd {fl:List (Option Nat)} {x:CV} {xs:List CV}:W k u (l7 fl σ (x :: xs)) ↔ W (fun p=>W (fun r=>k (p.1 :: r.1,r.2)) ⟨⟩ (l7 fl.tail p.2 xs)) ⟨⟩ (Bt (fl.headD none) σ x):=by
 simp only [l7,dQ,aK,bQ]
@[go_sem ↓] theorem Qe : W k u (jV σ [] []) ↔ k ([],σ):=by simp only [jV,dQ,bq]
@[go_sem ↓] theorem OV {l:CV} {ls:List CV} {x:AV} {xs:List AV}:W k u (jV σ (l :: ls) (x :: xs)) ↔ W (fun p=>W (fun r=>k (p.1 :: r.1,r.2)) ⟨⟩ (jV p.2 ls xs)) ⟨⟩ (wV σ l x):=by
 simp only [jV,dQ,aK,bQ]
end
section
variable {k : St → Prop} {u:Tok k} {gv:Bool} {d:Nat} {args:List CV} {p:List AV × St} {r:List AV × List AV} {s:St}
@[go_sem ↓] theorem ae3 : W k u (FX gv args p r) ↔ (if (!gv && ((r.1.any vV || !p.1.all fH) && args.any (fun x=>(cells x).any fZ))) = true then W k ⟨⟩ (rX p.2 args) else k p.2):=by
 simp only [FX,dQ]
 split
 ·exact aiu
 ·exact bq
@[go_sem ↓] theorem ae4 : W k u (FY d σ args p r s) ↔ (if p.1.all fH = true then k s else W k ⟨⟩ (zo σ (args.flatMap cells) (dx d + 10000) s args r.2)):=by
 simp only [FY,dQ]
 split
 ·exact bq
 ·exact aiu
end
end
section
variable {σ : St} {ks Bl:List Nat} {rws:List (Nat × Nat)}
@[go_sem] theorem ae5 : res ks Bl rws σ = ⟨pick ks (iV σ rws).tm,pick Bl (iV σ rws).ob⟩:=rfl
@[go_sem] theorem acT : iV σ [] = σ:=rfl
end
attribute [go_sem] if_true if_false true_and and_true Bool.not_false Bool.not_true Bool.and_false Bool.false_and Bool.and_true Bool.true_and Bool.or_false Bool.false_or Bool.or_true Bool.true_or Bool.false_eq_true not_true_eq_false not_false_eq_true ne_eq forall_const and_self implies_true KV.one.injEq KV.agg.injEq SV.str.injEq SV.int.injEq SV.bool.injEq List.cons.injEq List.getElem?_cons_zero List.getElem?_cons_succ List.getD_cons_zero List.getD_cons_succ List.contains_cons List.contains_nil decide_true decide_false fresh
end Go.Proofs.YtfokaoeinpnagaaGreat.Ev
namespace Go.Proofs.YtfokaoeinpnagaaGreat.Kc
section
open Go Ev
def au (d:Nat) (i:I):G:=⟨some d,none,i⟩
def bY (i:I):G:=⟨none,none,i⟩
def aZ (d s:Nat) (b:Bool) (i:I):G:=⟨some d,some (some s,b),i⟩
def bH (n:Int):dH:=.k (.one (.f (.int .i64 n)))
def aG : PL:=.f (.int .i64 0)
def bE : PL:=.f (.str ⟨#[]⟩)
def dR (a b s:Nat):Nat × Nat × dH:=⟨a,b,.t s⟩
def eu : dH:=.k (.one (.f (.bool true)))
def dA : dH:=.k (.one (.f (.bool false)))
def aD (d s:Nat):G:=⟨some d,none,.mv (.t s)⟩
def bT (d s:Nat):G:=⟨some d,none,.load 1 false (.t s)⟩
def dh (d n s:Nat):G:=⟨some d,none,.load n true (.t s)⟩
def bJ (d f s:Nat):G:=⟨some d,none,.fa f (.t s)⟩
def aQ (a:List G) (b:List Nat) (c:CC):CC:=.seq (.reg a b) c
def c48 : CF:=⟨1,[(.t 2)],[],[],(aQ [au 2 (.mv (.k (.one .iI)))] [0] (.seq (aQ [aD 3 0,au 4 (.cmp .lt (.t 3) (bH 1)),aD 5 4,aZ 6 5 false (.mv (.t 0)),aZ 7 5 false (.cmp .gt (.t 6) (bH 1000)),au 8 (.pick (.t 5) eu (.t 7))] [0,8] (.cond (.t 8) (aQ [au 2 (.mv (.k (.one .iI)))] [2] .ret) .skip)) (aQ [aD 9 0,au 10 (.oQ (.agg [.str,(.int .i64),(.int .i64)])),au 11 (.build [aG,.fq,.bP,aG] [dR 0 1 9,dR 1 1 10]),au 12 (.box 162 (.t 11)),aD 2 12] [2] .ret)))⟩
def c43 : CF:=⟨3,[(.cell 6 7 true),(.t 7)],[],[],(aQ [au 5 (.box 24 (.t 2)),au 6 (.alloc 106 [bE,aG,aG,.bP,aG,aG,aG]),au 7 (.mv dA)] [0,1,5,6] (.seq (aQ [aD 10 0,au 11 (.wL false (.t 10))] [0,1,5,6,11] (.cond (.t 11) (aQ [au 12 (.build [bE,aG,aG,.bP,aG,aG,aG] []),bY (.store 7 (.t 6) (.t 12)),au 7 (.mv dA)] [6,7] .ret) .skip)) (.seq (.qG [⟨aD 14 0,[180000]⟩,⟨au 15 (.gP (.t 14)),[180000]⟩,⟨bJ 16 1 15,[180000]⟩,⟨bT 17 16,[180000]⟩,⟨dh 18 3 5,[180000]⟩,⟨⟨(some 19),none,(.look (.agg [.str,(.int .i64),(.int .i64)]) (.agg [(.str ⟨#[]⟩),(.int .i64 0),(.int .i64 0),(.sl []),(.int .i64 0),(.int .i64 0),(.int .i64 0)]) true (.t 17) (.t 18))⟩,[180000]⟩,⟨aD 13 19,[180000]⟩,⟨au 20 (.ext (.t 13) 0),[180000]⟩,⟨au 21 (.ext (.t 13) 1),[180000]⟩,⟨au 8 (.alloc 106 [bE,aG,aG,.bP,aG,aG,aG]),[]⟩] [8] [bY (.store 7 (.t 8) (.t 20))] [aD 9 21] [1,6,8,9]) (.seq (aQ [aD 22 9,au 23 (.no (.t 22)),aD 24 23,aZ 25 24 false (.mv (.t 1)),aZ 26 24 false (.fa 5 (.t 8)),aZ 27 24 false (.load 1 false (.t 26)),aZ 28 24 false (.call false 78 [(.t 25),(.t 27)]),aZ 29 24 false (.no (.t 28)),au 30 (.pick (.t 24) eu (.t 29))] [6,8,30] (.cond (.t 30) (aQ [au 31 (.build [bE,aG,aG,.bP,aG,aG,aG] []),bY (.store 7 (.t 6) (.t 31)),au 7 (.mv dA)] [6,7] .ret) .skip)) (aQ [dh 32 7 8,au 33 (.call false 79 [(.t 32)]),bY (.store 7 (.t 6) (.t 33)),au 7 (.mv eu)] [6,7] .ret)))))⟩
def c107 : CF:=⟨2,[(.t 4)],[],[],(aQ [au 2 (.box 42 (.t 0)),au 3 (.box 42 (.t 1)),au 4 (.mv dA)] [2,3] (aQ [bJ 5 0 2,dh 6 3 5,bJ 7 0 3,dh 8 3 7,au 9 (.q9 (.agg [.str,(.int .i64),(.int .i64)]) false (.t 6) (.t 8)),aD 10 9,aZ 11 10 true (.fa 4 (.t 2)),aZ 12 10 true (.load 1 false (.t 11)),aZ 13 10 true (.fa 4 (.t 3)),aZ 14 10 true (.load 1 false (.t 13)),aZ 15 10 true (.cmp .eq (.t 12) (.t 14)),au 16 (.pick (.t 10) (.t 15) dA),aD 17 16,aZ 18 17 true (.fa 3 (.t 2)),aZ 19 17 true (.load 1 false (.t 18)),aZ 20 17 true (.fa 3 (.t 3)),aZ 21 17 true (.load 1 false (.t 20)),aZ 22 17 true (.call false 38 [(.t 19),(.t 21)]),au 23 (.pick (.t 17) (.t 22) dA),aD 4 23] [4] .ret))⟩
def c45 : CF:=⟨1,[(.t 2)],[],[],(aQ [au 1 (.box 42 (.t 0)),au 2 (.mv dA)] [1] (.seq (aQ [au 3 (.mv (bH 0))] [1,3] (.block 0 (.loop [1,3] [20802,40000] [] (.seq (aQ [aD 4 3,bJ 5 3 1,bT 6 5,au 7 (.gQ (.t 6)),au 8 (.cmp .lt (.t 4) (.t 7))] [1,3,8] (.cond (.t 8) .skip (.exit 0))) (.seq (.block 1 (aQ [bJ 11 3 1,bT 12 11,aD 13 3,au 14 (.ia 1 (.t 12) (.t 13)),bT 15 14,au 16 (.wN (.t 15)),au 17 (.cmp .gt (.t 16) (bH 2000)),aD 18 17,aZ 19 18 false (.fa 3 (.t 1)),aZ 20 18 false (.load 1 false (.t 19)),aZ 21 18 false (.gQ (.t 20)),aZ 22 18 false (.cmp .gt (.t 21) (bH 60)),au 23 (.pick (.t 18) eu (.t 22))] [1,3,23] (.cond (.t 23) (aQ [au 2 (.mv dA)] [2] .ret) .skip))) (.reg [aD 9 3,au 10 (.ar .add (.t 9) (bH 1)),aD 3 10] [1,3])))))) (aQ [bJ 24 0 1,bJ 25 0 24,bT 26 25,au 27 (.wN (.t 26)),au 28 (.cmp .le (.t 27) (bH 300)),aD 2 28] [2] .ret)))⟩
def c82 : CF:=⟨2,[(.t 4)],[],[],(aQ [au 4 (.mv (bH 0))] [0,1] (.seq (aQ [aD 5 0,au 6 (.call false 111 [(.t 5),(bH 1099511627776)]),au 7 (.no (.t 6)),aD 8 7,aZ 9 8 false (.mv (.t 1)),aZ 10 8 false (.cmp .lt (.t 9) (bH 0)),au 11 (.pick (.t 8) eu (.t 10))] [0,1,11] (.cond (.t 11) (aQ [au 4 (.mv (bH (-1)))] [4] .ret) .skip)) (aQ [aD 12 0,aD 13 1,au 14 (.mn (.t 13) (bH 604800)),au 15 (.ar .add (.t 12) (.t 14)),aD 4 15] [4] .ret)))⟩
def VU : CF:=⟨3,[(.t 6)],[],[],(aQ [au 5 (.box 106 (.t 2)),au 6 (.mv (bH 0))] [0,1,5] (.seq (aQ [aD 9 0,au 10 (.wL false (.t 9)),aD 11 10,aZ 12 11 false (.fa 5 (.t 5)),aZ 13 11 false (.load 1 false (.t 12)),aZ 14 11 false (.cmp .lt (.t 13) (bH 0)),au 15 (.pick (.t 11) eu (.t 14)),aD 16 15,aZ 17 16 false (.fa 0 (.t 5)),aZ 18 16 false (.load 5 true (.t 17)),aZ 19 16 false (.call false 113 [(.t 18)]),aZ 20 16 false (.no (.t 19)),au 21 (.pick (.t 16) eu (.t 20)),aD 22 21,aZ 23 22 false (.fa 6 (.t 5)),aZ 24 22 false (.load 1 false (.t 23)),aZ 25 22 false (.cmp .lt (.t 24) (bH 1)),au 26 (.pick (.t 22) eu (.t 25)),aD 27 26,aZ 28 27 false (.fa 6 (.t 5)),aZ 29 27 false (.load 1 false (.t 28)),aZ 30 27 false (.cmp .gt (.t 29) (bH 5)),au 31 (.pick (.t 27) eu (.t 30))] [0,1,5,31] (.cond (.t 31) (aQ [au 6 (.mv (bH 1))] [6] .ret) .skip)) (.seq (aQ [aD 32 1,bJ 33 5 5,bT 34 33,au 35 (.call false 78 [(.t 32),(.t 34)]),au 36 (.no (.t 35))] [0,1,5,36] (.cond (.t 36) (aQ [au 6 (.mv (bH 14))] [6] .ret) .skip)) (.seq (.qG [⟨aD 38 0,[160000]⟩,⟨au 39 (.gP (.t 38)),[160000]⟩,⟨bJ 40 1 39,[160000]⟩,⟨bT 41 40,[160000]⟩,⟨bJ 42 0 5,[160000]⟩,⟨bJ 43 0 42,[160000]⟩,⟨dh 44 3 43,[160000]⟩,⟨⟨(some 45),none,(.look (.agg [.str,(.int .i64),(.int .i64)]) (.agg [(.str ⟨#[]⟩),(.int .i64 0),(.int .i64 0),(.sl []),(.int .i64 0),(.int .i64 0),(.int .i64 0)]) true (.t 41) (.t 44))⟩,[160000]⟩,⟨aD 37 45,[160000]⟩,⟨au 46 (.ext (.t 37) 0),[160000]⟩,⟨au 47 (.ext (.t 37) 1),[160000]⟩,⟨au 7 (.alloc 106 [bE,aG,aG,.bP,aG,aG,aG]),[]⟩] [10] [bY (.store 7 (.t 7) (.t 46))] [aD 8 47] [1,5,7,8]) (.seq (.seq (.qG [⟨aD 48 8,[]⟩,⟨aD 49 48,[]⟩,⟨aZ 50 49 true (.fa 6 (.t 7)),[]⟩,⟨aZ 51 49 true (.load 1 false (.t 50)),[]⟩,⟨aZ 52 49 true (.mv (.t 1)),[]⟩,⟨aZ 53 49 true (.fa 5 (.t 7)),[]⟩,⟨aZ 54 49 true (.load 1 false (.t 53)),[]⟩,⟨aZ 55 49 true (.call false 78 [(.t 52),(.t 54)]),[]⟩,⟨aZ 56 49 true (.fa 6 (.t 5)),[]⟩,⟨aZ 57 49 true (.load 1 false (.t 56)),[]⟩] [] [] [aZ 58 49 true (.call false 114 [(.t 51),(.t 55),(.t 57)]),aZ 59 49 true (.no (.t 58)),au 60 (.pick (.t 49) (.t 59) dA)] [60]) (.cond (.t 60) (aQ [au 6 (.mv (bH 10))] [6] .ret) .skip)) (aQ [au 6 (.mv (bH 0))] [6] .ret))))))⟩
def c79 : CF:=⟨1,[(.cell 2 7 true)],[],[],(aQ [au 1 (.box 106 (.t 0)),au 2 (.alloc 106 [bE,aG,aG,.bP,aG,aG,aG])] [1,2] (aQ [bJ 3 0 1,bJ 4 3 3,bT 5 4,au 6 (.call false 72 [(.t 5)]),bJ 7 0 1,bJ 8 3 7,bY (.store 1 (.t 8) (.t 6))] [1,2] (aQ [dh 9 7 1,bY (.store 7 (.t 2) (.t 9))] [2] .ret)))⟩
def c85 : CF:=⟨2,[(.t 4),(.t 5)],[],[],(aQ [au 4 (.mv (.k (.one .bP))),au 5 (.mv (.k (.one .bP)))] [0,1] (aQ [aD 7 0,au 8 (.gQ (.t 7)),aD 9 1,aD 10 0,au 11 (.gQ (.t 10)),au 12 (.mn (.t 9) (.t 11)),au 13 (.mx (.t 12) (bH 0)),au 14 (.ar .sub (.t 8) (.t 13)),aD 6 14] [0,6] (.seq (.qG [⟨aD 15 0,[]⟩,⟨aD 16 6,[]⟩,⟨au 17 (.cut 3 (.t 15) (some (.t 16)) none),[]⟩,⟨au 18 (.call false 115 [(.t 17)]),[]⟩,⟨aD 19 0,[]⟩,⟨aD 20 6,[]⟩,⟨au 21 (.cut 3 (.t 19) none (some (.t 20))),[]⟩] [] [] [au 22 (.call false 115 [(.t 21)]),aD 4 18,aD 5 22] [4,5]) .ret)))⟩
def c86 : CF:=⟨2,[(.t 4)],[],[],(aQ [au 3 (.box 24 (.t 1)),au 4 (.mv (.k (.one .bP)))] [0,3] (.seq (.qG [⟨aD 5 0,[160000,200000]⟩,⟨dh 6 3 3,[160000,200000]⟩,⟨au 7 (.zl 116 [(.t 5),(.t 6)]),[200000]⟩,⟨dh 8 3 3,[160000,200000]⟩,⟨au 9 (.wK 24 3 1 [bE,aG,aG] [dR 0 3 8]),[160000]⟩] [] [] [au 10 (.app 24 3 32 (.t 7) (.t 9)),aD 4 10] [4]) .ret))⟩
def c78 : CF:=⟨2,[(.t 4)],[],[],(aQ [au 4 (.mv dA)] [0,1] (aQ [aD 5 0,au 6 (.call false 111 [(.t 5),(bH 1099511627776)]),aD 7 6,aZ 8 7 true (.mv (.t 0)),aZ 9 7 true (.mv (.t 1)),aZ 10 7 true (.cmp .lt (.t 8) (.t 9)),au 11 (.pick (.t 7) (.t 10) dA),aD 4 11] [4] .ret))⟩
def c116 : CF:=⟨2,[(.t 4)],[some 3],[],(aQ [au 3 (.box 24 (.t 1)),au 4 (.mv (.k (.one .bP)))] [0,3] (aQ [aD 5 0,au 6 (.call false 115 [(.t 5)]),au 7 (.OZ 135 [(.t 3)]),au 8 (.call true 134 [(.t 6),(.t 7)]),aD 4 8] [4] .ret))⟩
def OW : CF:=⟨2,[(.t 4)],[],[],(aQ [au 4 (.mv dA)] [0,1] (.seq (aQ [aD 6 0,au 7 (.gQ (.t 6)),aD 8 1,au 9 (.gQ (.t 8)),au 10 (.cmp .ne (.t 7) (.t 9))] [0,1,10] (.cond (.t 10) (aQ [au 4 (.mv dA)] [4] .ret) .skip)) (.seq (aQ [au 5 (.mv (bH 0))] [0,1,5] (.block 0 (.loop [0,1,5] [20202,40202] [] (.seq (aQ [aD 11 5,aD 12 0,au 13 (.gQ (.t 12)),au 14 (.cmp .lt (.t 11) (.t 13))] [0,1,5,14] (.cond (.t 14) .skip (.exit 0))) (.seq (.block 1 (.seq (.qG [⟨aD 17 0,[]⟩,⟨aD 18 5,[]⟩,⟨au 19 (.ia 1 (.t 17) (.t 18)),[]⟩,⟨bT 20 19,[]⟩,⟨aD 21 1,[]⟩,⟨aD 22 5,[]⟩,⟨au 23 (.ia 1 (.t 21) (.t 22)),[]⟩,⟨bT 24 23,[]⟩] [] [] [au 25 (.q9 (.one .str) true (.t 20) (.t 24))] [0,1,5,25]) (.cond (.t 25) (aQ [au 4 (.mv dA)] [4] .ret) .skip))) (.reg [aD 15 5,au 16 (.ar .add (.t 15) (bH 1)),aD 5 16] [0,1,5])))))) (aQ [au 4 (.mv eu)] [4] .ret))))⟩
def Qf : CF:=⟨1,[(.t 2)],[],[],(aQ [au 1 (.box 42 (.t 0)),au 2 (.mv dA)] [1] (aQ [bJ 6 0 1,dh 7 3 6,au 3 (.alloc 24 [bE,aG,aG]),bY (.store 3 (.t 3) (.t 7))] [1,3] (.seq (.seq (.qG [⟨bJ 8 0 3,[]⟩,⟨bT 9 8,[]⟩,⟨au 10 (.call false 109 [(.t 9)]),[]⟩,⟨au 11 (.no (.t 10)),[]⟩,⟨aD 12 11,[]⟩,⟨aZ 13 12 false (.fa 0 (.t 3)),[]⟩,⟨aZ 14 12 false (.load 1 false (.t 13)),[]⟩,⟨aZ 15 12 false (.call false 68 [(.t 14)]),[]⟩,⟨aZ 16 12 false (.fa 0 (.t 3)),[]⟩,⟨aZ 17 12 false (.load 1 false (.t 16)),[]⟩] [] [] [aZ 18 12 false (.q9 (.one .str) true (.t 15) (.t 17)),au 19 (.pick (.t 12) eu (.t 18)),aD 20 19,aZ 21 20 false (.fa 1 (.t 3)),aZ 22 20 false (.load 1 false (.t 21)),aZ 23 20 false (.call false 131 [(.t 22),(bH 65535)]),aZ 24 20 false (.no (.t 23)),au 25 (.pick (.t 20) eu (.t 24)),aD 26 25,aZ 27 26 false (.fa 2 (.t 3)),aZ 28 26 false (.load 1 false (.t 27)),aZ 29 26 false (.call false 131 [(.t 28),(bH 65535)]),aZ 30 26 false (.no (.t 29)),au 31 (.pick (.t 26) eu (.t 30)),aD 32 31,aZ 33 32 false (.fa 4 (.t 1)),aZ 34 32 false (.load 1 false (.t 33)),aZ 35 32 false (.call false 131 [(.t 34),(bH 2147483647)]),aZ 36 32 false (.no (.t 35)),au 37 (.pick (.t 32) eu (.t 36))] [1,3,37]) (.cond (.t 37) (aQ [au 2 (.mv dA)] [2] .ret) .skip)) (.seq (aQ [bJ 38 3 1,bT 39 38,au 40 (.gQ (.t 39)),au 41 (.mv (bH 0))] [1,3,39,40,41] (.block 0 (.loop [1,3,39,40,41] [20802,40000,80000] [] (aQ [au 42 (.cmp .lt (.t 41) (.t 40))] [1,3,39,40,41,42] (.seq (.cond (.t 42) .skip (.exit 0)) (.seq (.block 1 (aQ [aD 43 41,au 44 (.ia 1 (.t 39) (.t 41)),bT 45 44,aD 4 43,aD 5 45] [1,3,4,5,39,40,41] (aQ [bJ 46 1 3,bT 47 46,aD 48 5,au 49 (.call false 128 [(.t 47),(.t 48)]),au 50 (.no (.t 49)),aD 51 50,aZ 52 51 false (.fa 1 (.t 3)),aZ 53 51 false (.load 1 false (.t 52)),aZ 54 51 false (.mv (.t 5)),aZ 55 51 false (.call false 132 [(.t 53),(.t 54)]),aZ 56 51 false (.mv (.t 5)),aZ 57 51 false (.q9 (.one .str) true (.t 55) (.t 56)),au 58 (.pick (.t 51) eu (.t 57)),aD 59 58,aZ 60 59 false (.fa 3 (.t 1)),aZ 61 59 false (.load 1 false (.t 60)),aZ 62 59 false (.mv (.t 4)),aZ 63 59 false (.cut 1 (.t 61) none (some (.t 62))),aZ 64 59 false (.mv (.t 5)),aZ 65 59 false (.call false 133 [(.t 63),(.t 64)]),au 66 (.pick (.t 59) eu (.t 65))] [1,3,39,40,41,66] (.cond (.t 66) (aQ [au 2 (.mv dA)] [2] .ret) .skip)))) (.reg [au 67 (.ar .add (.t 41) (bH 1)),aD 41 67] [1,3,39,40,41]))))))) (aQ [bJ 68 3 1,bT 69 68,au 70 (.gQ (.t 69)),au 71 (.cmp .gt (.t 70) (bH 0)),aD 2 71] [2] .ret)))))⟩
def Qg : CF:=⟨2,[(.t 4)],[],[],(aQ [au 4 (.mv dA)] [0,1] (aQ [aD 5 0,au 6 (.cmp .ge (.t 5) (bH 0)),aD 7 6,aZ 8 7 true (.mv (.t 0)),aZ 9 7 true (.mv (.t 1)),aZ 10 7 true (.cmp .le (.t 8) (.t 9)),au 11 (.pick (.t 7) (.t 10) dA),aD 4 11] [4] .ret))⟩
def Qh : CF:=⟨3,[(.t 6)],[],[],(aQ [au 6 (.mv dA)] [0,1,2] (aQ [aD 7 2,au 8 (.call false 122 [(.t 7),(bH 1)]),aD 9 8,aZ 10 9 true (.mv (.t 1)),aZ 11 9 true (.no (.t 10)),aZ 12 9 true (.mv (.t 11)),aZ 13 12 false (.mv (.t 2)),aZ 14 12 false (.mv (.t 0)),aZ 15 12 false (.cmp .ge (.t 13) (.t 14)),aZ 16 9 true (.pick (.t 12) eu (.t 15)),au 17 (.pick (.t 9) (.t 16) dA),aD 6 17] [6] .ret))⟩
def Qi : CF:=⟨2,[(.t 4)],[some 3],[],(aQ [au 4 (.mv (.k (.one .bP)))] [0,1] (aQ [aD 8 0,aD 9 1,au 10 (.call false 149 [(.t 8),(.t 9)]),aD 5 10] [0,1,5] (.seq (aQ [aD 11 5,au 12 (.cmp .eq (.t 11) (bH (-1)))] [0,1,5,12] (.cond (.t 12) (aQ [aD 13 0,aD 4 13] [4] .ret) .skip)) (.seq (aQ [aD 14 5,au 15 (.ar .add (.t 14) (bH 1)),aD 6 15] [0,1,5,6] (.block 0 (.loop [0,1,5,6] [20202] [] (.seq (aQ [aD 16 6,aD 17 0,au 18 (.gQ (.t 17)),au 19 (.cmp .lt (.t 16) (.t 18))] [0,1,5,6,19] (.cond (.t 19) .skip (.exit 0))) (.seq (.block 1 (aQ [aD 22 0,aD 23 6,au 24 (.ia 3 (.t 22) (.t 23)),dh 25 3 24,au 7 (.alloc 24 [bE,aG,aG]),bY (.store 3 (.t 7) (.t 25))] [0,1,5,6,7] (aQ [aD 26 1,dh 27 3 7,au 28 (.dyn (.t 26) [(.t 27)]),au 29 (.no (.t 28))] [0,1,5,6,7,29] (.cond (.t 29) (aQ [aD 30 0,aD 31 5,dh 32 3 7,au 33 (.ia 3 (.t 30) (.t 31)),bY (.store 3 (.t 33) (.t 32))] [0,1,5,6] (.reg [aD 34 5,au 35 (.ar .add (.t 34) (bH 1)),aD 5 35] [0,1,5,6])) .skip)))) (.reg [aD 20 6,au 21 (.ar .add (.t 20) (bH 1)),aD 6 21] [0,1,5,6])))))) (aQ [aD 36 0,aD 37 5,au 38 (.cutV 3 (.t 36) (.t 37)),⟨none,none,(.Sn 3 [(.str ⟨#[]⟩),(.int .i64 0),(.int .i64 0)] (.t 38))⟩] [0,5] (aQ [aD 39 0,aD 40 5,au 41 (.Dk 3 (.t 39) (.t 40)),aD 4 41] [4] .ret))))))⟩
def Qj : CF:=⟨2,[(.t 3)],[none],[],(aQ [au 2 (.box 24 (.t 0)),au 3 (.mv dA)] [1,2] (aQ [dh 4 3 2,dh 5 3 1,au 6 (.q9 (.agg [.str,(.int .i64),(.int .i64)]) false (.t 4) (.t 5)),aD 3 6] [3] .ret))⟩
def c131 : CF:=⟨2,[(.t 4)],[],[],(aQ [au 4 (.mv dA)] [0,1] (aQ [aD 5 0,au 6 (.cmp .ge (.t 5) (bH 0)),aD 7 6,aZ 8 7 true (.mv (.t 0)),aZ 9 7 true (.mv (.t 1)),aZ 10 7 true (.cmp .le (.t 8) (.t 9)),au 11 (.pick (.t 7) (.t 10) dA),aD 4 11] [4] .ret))⟩
def Qk : CF:=⟨2,[(.t 4)],[],[],(aQ [au 4 (.mv dA)] [0,1] (aQ [aD 5 0,aD 6 1,au 7 (.call false 148 [(.t 5),(.t 6)]),au 8 (.cmp .ge (.t 7) (bH 0)),aD 4 8] [4] .ret))⟩
def Ql : CF:=⟨2,[(.t 4)],[],[],(aQ [au 4 (.mv dA)] [0,1] (aQ [aD 5 0,aD 6 1,au 7 (.cmp .ge (.t 5) (.t 6)),aD 8 7,aZ 9 8 true (.mv (.t 0)),aZ 10 8 true (.cmp .le (.t 9) (bH 5)),au 11 (.pick (.t 8) (.t 10) dA),aD 4 11] [4] .ret))⟩
def Qm : CF:=⟨2,[(.t 4)],[],[],(aQ [au 4 (.mv (bH 0))] [0,1] (.seq (aQ [aD 6 0,au 7 (.gQ (.t 6)),au 8 (.mv (bH 0))] [0,1,7,8] (.block 0 (.loop [0,1,7,8] [20202] [] (aQ [au 9 (.cmp .lt (.t 8) (.t 7))] [0,1,7,8,9] (.seq (.cond (.t 9) .skip (.exit 0)) (.seq (.block 1 (aQ [aD 10 8,aD 5 10] [0,1,5,7,8] (aQ [aD 11 1,aD 12 0,aD 13 5,au 14 (.ia 3 (.t 12) (.t 13)),dh 15 3 14,au 16 (.dyn (.t 11) [(.t 15)])] [0,1,5,7,8,16] (.cond (.t 16) (aQ [aD 17 5,aD 4 17] [4] .ret) .skip)))) (.reg [au 18 (.ar .add (.t 8) (bH 1)),aD 8 18] [0,1,7,8]))))))) (aQ [au 4 (.mv (bH (-1)))] [4] .ret)))⟩
def c148 : CF:=⟨2,[(.t 4)],[],[],(aQ [au 4 (.mv (bH 0))] [0,1] (.seq (aQ [aD 6 0,au 7 (.gQ (.t 6)),au 8 (.mv (bH 0))] [0,1,7,8] (.block 0 (.loop [0,1,7,8] [20202] [] (aQ [au 9 (.cmp .lt (.t 8) (.t 7))] [0,1,7,8,9] (.seq (.cond (.t 9) .skip (.exit 0)) (.seq (.block 1 (aQ [aD 10 8,aD 5 10] [0,1,5,7,8] (aQ [aD 11 1,aD 12 0,aD 13 5,au 14 (.ia 1 (.t 12) (.t 13)),bT 15 14,au 16 (.q9 (.one .str) false (.t 11) (.t 15))] [0,1,5,7,8,16] (.cond (.t 16) (aQ [aD 17 5,aD 4 17] [4] .ret) .skip)))) (.reg [au 18 (.ar .add (.t 8) (bH 1)),aD 8 18] [0,1,7,8]))))))) (aQ [au 4 (.mv (bH (-1)))] [4] .ret)))⟩
def c49 : CF:=⟨1,[(.t 2)],[],[],(aQ [au 2 (.mv (.k (.one .iI)))] [0] (.seq (aQ [aD 3 0,au 4 (.cmp .lt (.t 3) (bH 1)),aD 5 4,aZ 6 5 false (.mv (.t 0)),aZ 7 5 false (.cmp .gt (.t 6) (bH 1000)),au 8 (.pick (.t 5) eu (.t 7))] [0,8] (.cond (.t 8) (aQ [au 2 (.mv (.k (.one .iI)))] [2] .ret) .skip)) (aQ [aD 9 0,au 10 (.oQ (.agg [.str,(.int .i64),(.int .i64)])),au 11 (.build [aG,.fq,.bP,aG] [dR 0 1 9,dR 1 1 10]),au 12 (.box 169 (.t 11)),aD 2 12] [2] .ret)))⟩
def c87 : CF:=⟨1,[(.t 2),(.t 3)],[],[],(aQ [au 1 (.box 42 (.t 0)),au 2 (.mv (bH 0)),au 3 (.mv dA)] [1] (.seq (aQ [bJ 7 0 1,bJ 8 1 7,bT 9 8,au 10 (.cmp .ne (.t 9) (bH 6)),aD 11 10,aZ 12 11 false (.load 5 true (.t 1)),aZ 13 11 false (.call false 113 [(.t 12)]),aZ 14 11 false (.no (.t 13)),au 15 (.pick (.t 11) eu (.t 14))] [1,15] (.cond (.t 15) (aQ [au 2 (.mv (bH 0)),au 3 (.mv dA)] [2,3] .ret) .skip)) (aQ [bJ 16 3 1,bT 17 16,au 18 (.ia 1 (.t 17) (bH 0)),bT 19 18,aD 4 19] [1,4] (aQ [aD 21 4,aD 22 4,au 23 (.wN (.t 22)),au 24 (.ar .sub (.t 23) (bH 4)),au 25 (.call false 117 [(.t 21),(.t 24),(bH 4)]),aD 20 25,au 26 (.ext (.t 20) 0),au 27 (.ext (.t 20) 1),aD 5 26,aD 6 27] [1,5] (aQ [aD 28 5,bJ 29 4 1,bT 30 29,au 31 (.mn (.t 28) (.t 30)),aD 2 31,au 3 (.mv eu)] [2,3] .ret)))))⟩
def c51 : CF:=⟨5,[(.t 10)],[],[],(aQ [au 7 (.box 24 (.t 2)),au 9 (.box 42 (.t 4)),au 10 (.mv (bH 0))] [0,1,3,7,9] (aQ [dh 19 5 9,au 20 (.call false 87 [(.t 19)]),aD 18 20,au 21 (.ext (.t 18) 0),au 22 (.ext (.t 18) 1),aD 11 21,aD 12 22] [0,1,3,7,9,11,12] (aQ [aD 23 1,aD 24 11,au 25 (.call false 82 [(.t 23),(.t 24)]),aD 13 25] [0,1,3,7,9,12,13] (.seq (.block 0 (aQ [aD 27 0,au 28 (.wL false (.t 27)),aD 29 28,aZ 30 29 false (.mv (.t 12)),aZ 31 29 false (.no (.t 30)),au 32 (.pick (.t 29) eu (.t 31)),aD 33 32,aZ 34 33 false (.mv (.t 13)),aZ 35 33 false (.cmp .eq (.t 34) (bH (-1))),au 36 (.pick (.t 33) eu (.t 35)),aD 37 36,aZ 38 37 false (.load 3 true (.t 7)),aZ 39 37 false (.call false 88 [(.t 38)]),aZ 40 37 false (.no (.t 39)),au 41 (.pick (.t 37) eu (.t 40)),aD 26 41] [0,1,3,7,9,13,26] (.cond (.t 26) (aQ [au 10 (.mv (bH 1))] [10] .ret) (aQ [aD 43 1,aD 44 13,au 45 (.call false 78 [(.t 43),(.t 44)]),au 46 (.no (.t 45)),aD 42 46] [0,3,7,9,13,42] (.cond (.t 42) (aQ [au 10 (.mv (bH 14))] [10] .ret) .skip))))) (.seq (aQ [aD 47 3] [0,3,7,9,13,47] (.cond (.t 47) (.reg [dh 48 3 7,au 49 (.call false 89 [(.t 48)]),bY (.store 3 (.t 7) (.t 49))] [0,3,7,9,13]) .skip)) (.seq (.qG [⟨aD 50 0,[]⟩,⟨au 51 (.gP (.t 50)),[]⟩,⟨bJ 52 1 51,[]⟩,⟨bT 53 52,[]⟩,⟨dh 54 3 7,[]⟩,⟨dh 55 3 7,[]⟩,⟨aD 56 3,[]⟩,⟨dh 57 5 9,[]⟩,⟨aD 58 13,[]⟩,⟨au 59 (.build [bE,aG,aG,(.f (.bool false)),bE,aG,aG,.bP,aG,aG] [dR 0 3 55,dR 3 1 56,dR 4 5 57,dR 9 1 58]),[]⟩,⟨au 60 (.call false 90 [(.t 59)]),[]⟩] [] [] [bY (.wM (.agg [.str,(.int .i64),(.int .i64)]) (.t 53) (.t 54) (.t 60))] [0,7]) (.seq (.qG [⟨aD 62 0,[]⟩,⟨au 63 (.gP (.t 62)),[]⟩,⟨bJ 64 2 63,[]⟩,⟨bT 65 64,[]⟩,⟨dh 66 3 7,[]⟩,⟨au 67 (.call false 86 [(.t 65),(.t 66)]),[]⟩,⟨aD 68 0,[]⟩,⟨au 69 (.gP (.t 68)),[]⟩,⟨bJ 70 0 69,[]⟩,⟨bT 71 70,[]⟩,⟨au 72 (.call false 85 [(.t 67),(.t 71)]),[]⟩,⟨aD 61 72,[]⟩,⟨au 73 (.ext (.t 61) 0),[]⟩,⟨au 74 (.ext (.t 61) 1),[]⟩,⟨aD 14 73,[]⟩] [] [] [aD 15 74] [0,14,15]) (.seq (aQ [aD 75 15,au 76 (.gQ (.t 75)),au 77 (.mv (bH 0))] [0,14,75,76,77] (.block 1 (.loop [0,14,75,76,77] [20201,20205,20208,1460200,1462200] [] (aQ [au 78 (.cmp .lt (.t 77) (.t 76))] [0,14,75,76,77,78] (.seq (.cond (.t 78) .skip (.exit 1)) (.seq (.block 2 (aQ [au 79 (.ia 3 (.t 75) (.t 77)),dh 80 3 79,au 17 (.alloc 24 [bE,aG,aG]),bY (.store 3 (.t 17) (.t 80))] [0,14,17,75,76,77] (.qG [⟨aD 81 0,[]⟩,⟨au 82 (.gP (.t 81)),[]⟩,⟨bJ 83 1 82,[]⟩,⟨bT 84 83,[]⟩,⟨dh 85 3 17,[]⟩] [] [] [bY (.del (.agg [.str,(.int .i64),(.int .i64)]) (.t 84) (.t 85))] [0,14,75,76,77]))) (.reg [au 86 (.ar .add (.t 77) (bH 1)),aD 77 86] [0,14,75,76,77]))))))) (aQ [aD 87 0,aD 88 14,au 89 (.gP (.t 87)),bJ 90 2 89,bY (.store 1 (.t 90) (.t 88))] [0] (aQ [aD 91 0,au 92 (.gP (.t 91)),bJ 93 3 92,bT 94 93,au 95 (.ar .add (.t 94) (bH 1)),au 96 (.gP (.t 91)),bJ 97 3 96,bY (.store 1 (.t 97) (.t 95))] [] (aQ [au 10 (.mv (bH 0))] [10] .ret)))))))))))⟩
def Qo : CF:=⟨3,[(.cell 6 10 true),(.t 7)],[],[],(aQ [au 5 (.box 24 (.t 2)),au 6 (.alloc 178 [bE,aG,aG,(.f (.bool false)),bE,aG,aG,.bP,aG,aG]),au 7 (.mv dA)] [0,1,5,6] (.seq (aQ [aD 12 0,au 13 (.wL false (.t 12))] [0,1,5,6,13] (.cond (.t 13) (aQ [au 14 (.build [bE,aG,aG,(.f (.bool false)),bE,aG,aG,.bP,aG,aG] []),bY (.store 10 (.t 6) (.t 14)),au 7 (.mv dA)] [6,7] .ret) .skip)) (.seq (.seq (.qG [⟨dh 15 3 5,[380000]⟩,⟨au 16 (.call false 89 [(.t 15)]),[380000]⟩,⟨dh 17 3 5,[380000]⟩,⟨au 18 (.wK 24 3 2 [bE,aG,aG,bE,aG,aG] [dR 0 3 16,dR 3 3 17]),[]⟩,⟨au 19 (.gQ (.t 18)),[]⟩,⟨au 20 (.mv (bH 0)),[380000]⟩] [] [] [] [0,1,6,18,19,20]) (.block 0 (.loop [0,1,6,18,19,20] [20201,20205,20208,140000,380000,841600] [] (aQ [au 21 (.cmp .lt (.t 20) (.t 19))] [0,1,6,18,19,20,21] (.seq (.cond (.t 21) .skip (.exit 0)) (.seq (.block 1 (aQ [au 22 (.ia 3 (.t 18) (.t 20)),dh 23 3 22,au 9 (.alloc 24 [bE,aG,aG]),bY (.store 3 (.t 9) (.t 23))] [0,1,6,9,18,19,20] (.seq (.qG [⟨aD 25 0,[220000]⟩,⟨au 26 (.gP (.t 25)),[220000]⟩,⟨bJ 27 1 26,[220000]⟩,⟨bT 28 27,[220000]⟩,⟨dh 29 3 9,[220000]⟩,⟨⟨(some 30),none,(.look (.agg [.str,(.int .i64),(.int .i64)]) (.agg [(.str ⟨#[]⟩),(.int .i64 0),(.int .i64 0),(.bool false),(.str ⟨#[]⟩),(.int .i64 0),(.int .i64 0),(.sl []),(.int .i64 0),(.int .i64 0)]) true (.t 28) (.t 29))⟩,[220000]⟩,⟨aD 24 30,[220000]⟩,⟨au 31 (.ext (.t 24) 0),[220000]⟩,⟨au 32 (.ext (.t 24) 1),[220000]⟩,⟨au 10 (.alloc 178 [bE,aG,aG,(.f (.bool false)),bE,aG,aG,.bP,aG,aG]),[]⟩] [8] [bY (.store 10 (.t 10) (.t 31))] [aD 11 32] [0,1,6,10,11,18,19,20]) (aQ [aD 33 11,aD 34 33,aZ 35 34 true (.mv (.t 1)),aZ 36 34 true (.fa 9 (.t 10)),aZ 37 34 true (.load 1 false (.t 36)),aZ 38 34 true (.call false 78 [(.t 35),(.t 37)]),au 39 (.pick (.t 34) (.t 38) dA)] [0,1,6,10,18,19,20,39] (.cond (.t 39) (aQ [dh 40 10 10,au 41 (.call false 90 [(.t 40)]),bY (.store 10 (.t 6) (.t 41)),au 7 (.mv eu)] [6,7] .ret) .skip))))) (.reg [au 42 (.ar .add (.t 20) (bH 1)),aD 20 42] [0,1,6,18,19,20]))))))) (aQ [au 43 (.build [bE,aG,aG,(.f (.bool false)),bE,aG,aG,.bP,aG,aG] []),bY (.store 10 (.t 6) (.t 43)),au 7 (.mv dA)] [6,7] .ret))))⟩
def c88 : CF:=⟨1,[(.t 2)],[],[],(aQ [au 1 (.box 24 (.t 0)),au 2 (.mv dA)] [1] (.seq (.qG [⟨bJ 3 1 1,[]⟩,⟨bT 4 3,[]⟩,⟨au 5 (.cmp .gt (.t 4) (bH 0)),[]⟩,⟨aD 6 5,[]⟩,⟨aZ 7 6 true (.fa 1 (.t 1)),[]⟩,⟨aZ 8 6 true (.load 1 false (.t 7)),[]⟩,⟨aZ 9 6 true (.cmp .le (.t 8) (bH 65535)),[]⟩,⟨au 10 (.pick (.t 6) (.t 9) dA),[]⟩,⟨aD 11 10,[]⟩,⟨aZ 12 11 true (.fa 2 (.t 1)),[]⟩,⟨aZ 13 11 true (.load 1 false (.t 12)),[]⟩,⟨aZ 14 11 true (.cmp .ge (.t 13) (bH 0)),[]⟩,⟨au 15 (.pick (.t 11) (.t 14) dA),[]⟩,⟨aD 16 15,[]⟩,⟨aZ 17 16 true (.fa 2 (.t 1)),[]⟩,⟨aZ 18 16 true (.load 1 false (.t 17)),[]⟩,⟨aZ 19 16 true (.cmp .le (.t 18) (bH 65535)),[]⟩,⟨au 20 (.pick (.t 16) (.t 19) dA),[]⟩,⟨aD 21 20,[]⟩,⟨aZ 22 21 true (.fa 0 (.t 1)),[]⟩,⟨aZ 23 21 true (.load 1 false (.t 22)),[]⟩,⟨aZ 24 21 true (.call false 109 [(.t 23)]),[]⟩,⟨au 25 (.pick (.t 21) (.t 24) dA),[]⟩,⟨aD 26 25,[]⟩,⟨aZ 27 26 true (.fa 0 (.t 1)),[]⟩,⟨aZ 28 26 true (.load 1 false (.t 27)),[]⟩,⟨aZ 29 26 true (.call false 68 [(.t 28)]),[]⟩,⟨aZ 30 26 true (.fa 0 (.t 1)),[]⟩,⟨aZ 31 26 true (.load 1 false (.t 30)),[]⟩] [] [] [aZ 32 26 true (.q9 (.one .str) false (.t 29) (.t 31)),au 33 (.pick (.t 26) (.t 32) dA),aD 2 33] [2]) .ret))⟩
def c89 : CF:=⟨1,[(.cell 2 3 true)],[],[],(aQ [au 1 (.box 24 (.t 0)),au 2 (.alloc 24 [bE,aG,aG])] [1,2] (aQ [bJ 3 1 1,bY (.store 1 (.t 3) (bH 0))] [1,2] (aQ [dh 4 3 1,bY (.store 3 (.t 2) (.t 4))] [2] .ret)))⟩
def c90 : CF:=⟨1,[(.cell 2 10 true)],[],[],(aQ [au 1 (.box 178 (.t 0)),au 2 (.alloc 178 [bE,aG,aG,(.f (.bool false)),bE,aG,aG,.bP,aG,aG])] [1,2] (aQ [bJ 3 4 1,bJ 4 3 3,bT 5 4,au 6 (.call false 72 [(.t 5)]),bJ 7 4 1,bJ 8 3 7,bY (.store 1 (.t 8) (.t 6))] [1,2] (aQ [dh 9 10 1,bY (.store 10 (.t 2) (.t 9))] [2] .ret)))⟩
def c10 : CF:=⟨2,[(.t 4)],[],[],(aQ [au 4 (.mv (bH 0))] [0,1] (.seq (aQ [au 5 (.mv (bH 0))] [0,1,5] (.block 0 (.loop [0,1,5] [20202] [] (.seq (aQ [aD 6 5,aD 7 0,au 8 (.gQ (.t 7)),au 9 (.cmp .lt (.t 6) (.t 8))] [0,1,5,9] (.cond (.t 9) .skip (.exit 0))) (.seq (.block 1 (aQ [aD 12 0,aD 13 5,au 14 (.ia 10 (.t 12) (.t 13)),bJ 15 1 14,dh 16 5 15,au 17 (.call false 45 [(.t 16)]),au 18 (.no (.t 17)),aD 19 18,aZ 20 19 false (.mv (.t 0)),aZ 21 19 false (.mv (.t 5)),aZ 22 19 false (.ia 10 (.t 20) (.t 21)),aZ 23 19 false (.fa 7 (.t 22)),aZ 24 19 false (.fa 0 (.t 23)),aZ 25 19 false (.load 1 false (.t 24)),aZ 26 19 false (.wN (.t 25)),aZ 27 19 false (.cmp .gt (.t 26) (bH 300)),au 28 (.pick (.t 19) eu (.t 27))] [0,1,5,28] (.cond (.t 28) (aQ [au 4 (.mv (bH 0))] [4] .ret) .skip))) (.reg [aD 10 5,au 11 (.ar .add (.t 10) (bH 1)),aD 5 11] [0,1,5])))))) (.seq (aQ [aD 29 0,au 30 (.gQ (.t 29)),aD 31 1,au 32 (.cmp .gt (.t 30) (.t 31))] [32] (.cond (.t 32) (aQ [au 4 (.mv (bH 0))] [4] .ret) .skip)) (aQ [au 4 (.mv (bH 1))] [4] .ret))))⟩
def c12 : CF:=⟨1,[(.t 2),(.t 3)],[],[0],(aQ [au 2 (.mv (.k (.one .iI))),au 3 (.mv (.k (.one .iI)))] [0] (aQ [au 7 (.call false 48 [(bH 50)]),aD 4 7] [0,4] (aQ [au 8 (.call false 49 [(bH 50)]),aD 5 8] [0,4,5] (.seq (aQ [au 6 (.mv (bH 0))] [0,4,5,6] (.block 0 (.loop [0,4,5,6] [30201,160200,160204,160206,180200,180204,180206] [] (.seq (aQ [aD 9 6,aD 10 0,au 11 (.gQ (.t 10)),au 12 (.cmp .lt (.t 9) (.t 11))] [0,4,5,6,12] (.cond (.t 12) .skip (.exit 0))) (.seq (.block 1 (aQ [aD 15 0,aD 16 6,au 17 (.ia 10 (.t 15) (.t 16)),bJ 18 6 17,bT 19 18,au 20 (.cmp .gt (.t 19) (bH 0))] [0,4,5,6,20] (.cond (.t 20) (.qG [⟨aD 21 4,[]⟩,⟨aD 22 0,[]⟩,⟨aD 23 6,[]⟩,⟨au 24 (.ia 10 (.t 22) (.t 23)),[]⟩,⟨bJ 25 0 24,[]⟩,⟨bT 26 25,[]⟩,⟨aD 27 0,[]⟩,⟨aD 28 6,[]⟩,⟨au 29 (.ia 10 (.t 27) (.t 28)),[]⟩,⟨bJ 30 1 29,[]⟩,⟨dh 31 5 30,[]⟩,⟨aD 32 0,[]⟩,⟨aD 33 6,[]⟩,⟨au 34 (.ia 10 (.t 32) (.t 33)),[]⟩,⟨bJ 35 6 34,[]⟩,⟨bT 36 35,[]⟩] [] [] [au 37 (.call false 50 [(.t 21),(.t 26),(.t 31),(.t 36)])] [0,4,5,6]) (.qG [⟨aD 38 5,[]⟩,⟨aD 39 0,[]⟩,⟨aD 40 6,[]⟩,⟨au 41 (.ia 10 (.t 39) (.t 40)),[]⟩,⟨bJ 42 0 41,[]⟩,⟨bT 43 42,[]⟩,⟨aD 44 0,[]⟩,⟨aD 45 6,[]⟩,⟨au 46 (.ia 10 (.t 44) (.t 45)),[]⟩,⟨bJ 47 7 46,[]⟩,⟨dh 48 3 47,[]⟩,⟨aD 49 0,[]⟩,⟨aD 50 6,[]⟩,⟨au 51 (.ia 10 (.t 49) (.t 50)),[]⟩,⟨bJ 52 6 51,[]⟩,⟨bT 53 52,[]⟩,⟨au 54 (.cmp .lt (.t 53) (bH 0)),[]⟩,⟨aD 55 0,[]⟩,⟨aD 56 6,[]⟩,⟨au 57 (.ia 10 (.t 55) (.t 56)),[]⟩,⟨bJ 58 1 57,[]⟩,⟨dh 59 5 58,[]⟩] [] [] [au 60 (.call false 51 [(.t 38),(.t 43),(.t 48),(.t 54),(.t 59)])] [0,4,5,6])))) (.reg [aD 13 6,au 14 (.ar .add (.t 13) (bH 1)),aD 6 14] [0,4,5,6])))))) (aQ [aD 61 4,aD 62 5,aD 2 61,aD 3 62] [2,3] .ret)))))⟩
def c17 : CF:=⟨1,[(.cell 2 9 true)],[],[],(aQ [au 1 (.box 46 (.t 0)),au 2 (.alloc 51 [.bP,aG,bE,bE,aG,aG,.bP,aG,aG])] [1,2] (aQ [bJ 5 1 1,bT 6 5,bJ 7 2 1,bT 8 7,bJ 9 3 1,dh 10 6 9,au 11 (.build [.bP,aG,bE,bE,aG,aG,.bP,aG,aG] [dR 1 1 6,dR 2 1 8,dR 3 6 10]),au 3 (.alloc 51 [.bP,aG,bE,bE,aG,aG,.bP,aG,aG]),bY (.store 9 (.t 3) (.t 11))] [1,2,3] (.seq (aQ [au 4 (.mv (bH 0))] [1,2,3,4] (.block 0 (.loop [1,2,3,4] [20202,21402,40000,60000,80000,560000] [] (.seq (aQ [aD 12 4,bJ 13 0 1,bT 14 13,au 15 (.gQ (.t 14)),au 16 (.cmp .lt (.t 12) (.t 15))] [1,2,3,4,16] (.cond (.t 16) .skip (.exit 0))) (.seq (.block 1 (.qG [⟨bJ 19 0 3,[540000]⟩,⟨bT 20 19,[540000]⟩,⟨bJ 21 0 1,[540000]⟩,⟨bT 22 21,[540000]⟩,⟨aD 23 4,[540000]⟩,⟨au 24 (.ia 6 (.t 22) (.t 23)),[540000]⟩,⟨dh 25 6 24,[540000]⟩,⟨au 26 (.wK 49 6 1 [bE,aG,aG,.bP,aG,aG] [dR 0 6 25]),[]⟩] [] [] [au 27 (.app 49 6 72 (.t 20) (.t 26)),bJ 28 0 3,bY (.store 1 (.t 28) (.t 27))] [1,2,3,4])) (.reg [aD 17 4,au 18 (.ar .add (.t 17) (bH 1)),aD 4 18] [1,2,3,4])))))) (aQ [dh 29 9 3,bY (.store 9 (.t 2) (.t 29))] [2] .ret))))⟩
def VW : CF:=⟨1,[(.t 2),(.t 3)],[],[],(aQ [au 1 (.box 42 (.t 0)),au 2 (.mv (.k (.one bE))),au 3 (.mv dA)] [1] (.seq (aQ [bJ 5 0 1,bJ 6 1 5,bT 7 6,au 8 (.cmp .ne (.t 7) (bH 5)),aD 9 8,aZ 10 9 false (.fa 3 (.t 1)),aZ 11 9 false (.load 1 false (.t 10)),aZ 12 9 false (.gQ (.t 11)),aZ 13 9 false (.cmp .eq (.t 12) (bH 0)),au 14 (.pick (.t 9) eu (.t 13))] [1,14] (.cond (.t 14) (aQ [au 2 (.mv (.k (.one bE))),au 3 (.mv dA)] [2,3] .ret) .skip)) (aQ [bJ 15 3 1,bT 16 15,au 17 (.ia 1 (.t 16) (bH 0)),bT 18 17,au 19 (.call false 81 [(bH 5),(.t 18)]),aD 4 19] [4] (.seq (aQ [aD 20 4,au 21 (.gQ (.t 20)),au 22 (.cmp .eq (.t 21) (bH 0))] [4,22] (.cond (.t 22) (aQ [au 2 (.mv (.k (.one bE))),au 3 (.mv dA)] [2,3] .ret) .skip)) (aQ [aD 23 4,au 24 (.ia 1 (.t 23) (bH 0)),bT 25 24,aD 2 25,au 3 (.mv eu)] [2,3] .ret)))))⟩
def Yj : CF:=⟨2,[(.cell 4 6 true),(.t 5)],[],[],(aQ [au 2 (.box 128 (.t 0)),au 3 (.box 24 (.t 1)),au 4 (.alloc 44 [bE,aG,aG,.bP,aG,aG]),au 5 (.mv dA)] [2,3,4] (aQ [bJ 9 0 2,bT 10 9,bJ 11 2 2,bT 12 11,dh 13 3 3,au 14 (.call false 43 [(.t 10),(.t 12),(.t 13)]),aD 8 14,au 15 (.ext (.t 8) 0),au 16 (.ext (.t 8) 1),au 6 (.alloc 106 [bE,aG,aG,.bP,aG,aG,aG]),bY (.store 7 (.t 6) (.t 15)),aD 7 16] [2,4,6,7] (.seq (aQ [aD 17 7,au 18 (.no (.t 17)),aD 19 18,aZ 20 19 false (.fa 6 (.t 6)),aZ 21 19 false (.load 1 false (.t 20)),aZ 22 19 false (.call false 101 [(.t 21)]),aZ 23 19 false (.no (.t 22)),au 24 (.pick (.t 19) eu (.t 23))] [2,4,6,24] (.cond (.t 24) (aQ [au 25 (.build [bE,aG,aG,.bP,aG,aG] []),bY (.store 6 (.t 4) (.t 25)),au 5 (.mv dA)] [4,5] .ret) .skip)) (.seq (.qG [⟨bJ 26 0 6,[]⟩,⟨dh 27 5 26,[]⟩,⟨bJ 28 2 2,[]⟩,⟨bT 29 28,[]⟩,⟨bJ 30 5 6,[]⟩,⟨bT 31 30,[]⟩,⟨au 32 (.call false 102 [(.t 29),(.t 31)]),[]⟩] [] [] [au 33 (.build [bE,aG,aG,.bP,aG,aG] [dR 0 5 27,dR 5 1 32]),bY (.store 6 (.t 4) (.t 33)),au 5 (.mv eu)] [4,5]) .ret))))⟩
def c57 : CF:=⟨2,[(.cell 4 6 true),(.t 5),(.t 6)],[],[],(aQ [au 2 (.box 128 (.t 0)),au 3 (.box 24 (.t 1)),au 4 (.alloc 44 [bE,aG,aG,.bP,aG,aG]),au 5 (.mv (.k (.one bE))),au 6 (.mv dA)] [2,3,4] (.seq (aQ [bJ 11 1 3,bT 12 11,au 13 (.cmp .eq (.t 12) (bH 5))] [2,3,4,13] (.cond (.t 13) (aQ [au 14 (.build [bE,aG,aG,.bP,aG,aG] []),bY (.store 6 (.t 4) (.t 14)),au 5 (.mv (.k (.one bE))),au 6 (.mv dA)] [4,5,6] .ret) .skip)) (aQ [bJ 15 1 3,bY (.store 1 (.t 15) (bH 5))] [2,3,4] (aQ [dh 17 3 2,dh 18 3 3,au 19 (.call false 56 [(.t 17),(.t 18)]),aD 16 19,au 20 (.ext (.t 16) 0),au 21 (.ext (.t 16) 1),au 7 (.alloc 44 [bE,aG,aG,.bP,aG,aG]),bY (.store 6 (.t 7) (.t 20)),aD 8 21] [4,7] (aQ [bJ 23 0 7,dh 24 5 23,au 25 (.call false 47 [(.t 24)]),aD 22 25,au 26 (.ext (.t 22) 0),au 27 (.ext (.t 22) 1),aD 9 26,aD 10 27] [4,7,9,10] (aQ [dh 28 6 7,aD 29 9,aD 30 10,bY (.store 6 (.t 4) (.t 28)),aD 5 29,aD 6 30] [4,5,6] .ret))))))⟩
def c58 : CF:=⟨3,[(.cell 6 9 true)],[],[],(aQ [au 3 (.box 128 (.t 0)),au 4 (.box 46 (.t 1)),au 5 (.box 24 (.t 2)),au 6 (.alloc 46 [.bP,aG,bE,bE,aG,aG,.bP,aG,aG])] [3,4,5,6] (aQ [bJ 10 1 3,bT 11 10,bJ 12 2 3,bT 13 12,dh 14 3 5,au 15 (.call false 103 [(.t 11),(.t 13),(.t 14)]),aD 9 15,au 16 (.ext (.t 9) 0),au 17 (.ext (.t 9) 1),au 7 (.alloc 178 [bE,aG,aG,(.f (.bool false)),bE,aG,aG,.bP,aG,aG]),bY (.store 10 (.t 7) (.t 16)),aD 8 17] [3,4,6,7,8] (.seq (.block 0 (aQ [aD 20 8,au 21 (.no (.t 20)),aD 19 21] [3,4,6,7,19] (.cond (.t 19) (aQ [bJ 22 1 4,bY (.store 1 (.t 22) (bH 3))] [4,6] (aQ [dh 23 9 4,bY (.store 9 (.t 6) (.t 23))] [6] .ret)) (aQ [bJ 25 3 7,bT 26 25,aD 24 26] [3,4,6,7,24] (.cond (.t 24) (.reg [bJ 27 1 4,bY (.store 1 (.t 27) (bH 2))] [3,4,6,7]) (.reg [bJ 18 1 4,bY (.store 1 (.t 18) (bH 1))] [3,4,6,7])))))) (.seq (.qG [⟨bJ 28 4 7,[]⟩,⟨dh 29 5 28,[]⟩,⟨bJ 30 2 3,[]⟩,⟨bT 31 30,[]⟩,⟨bJ 32 9 7,[]⟩,⟨bT 33 32,[]⟩,⟨au 34 (.call false 102 [(.t 31),(.t 33)]),[]⟩] [] [] [au 35 (.build [bE,aG,aG,.bP,aG,aG] [dR 0 5 29,dR 5 1 34]),bJ 36 3 4,bY (.store 6 (.t 36) (.t 35))] [4,6]) (aQ [dh 37 9 4,bY (.store 9 (.t 6) (.t 37))] [6] .ret)))))⟩
def c14 : CF:=⟨4,[(.cell 8 9 true)],[],[],(aQ [au 7 (.box 24 (.t 3)),au 8 (.alloc 46 [.bP,aG,bE,bE,aG,aG,.bP,aG,aG])] [0,1,2,7,8] (aQ [aD 17 0,aD 18 1,aD 19 2,au 20 (.build [.iI,.iI,aG] [dR 0 1 17,dR 1 1 18,dR 2 1 19]),au 9 (.alloc 128 [.iI,.iI,aG]),bY (.store 3 (.t 9) (.t 20))] [7,8,9] (aQ [au 10 (.alloc 46 [.bP,aG,bE,bE,aG,aG,.bP,aG,aG])] [7,8,9,10] (aQ [au 21 (.oQ (.one .str)),aD 11 21] [7,8,9,10,11] (.block 0 (.loop [7,8,9,10,11] [20201,20205,20208,40201,40205,40208,160000,180000,200000,220000,440000,690002,690004,690006,690008,690010,690012,690014,690016,690202,690204,690206,690208,690210,690212,690214,690216,690402,690404,690406,690408,690410,690412,690414,690416,690602,690604,690606,690608,690610,690612,690614,690616,690802,690804,690806,690808,690810,690812,690814,690816,691002,691004,691006,691008,691010,691012,691014,691016,840000,960800,970002,970004,970006,970008,970010,970012,970014,970016,970202,970204,970206,970208,970210,970212,970214,970216,970402,970404,970406,970408,970410,970412,970414,970416,970602,970604,970606,970608,970610,970612,970614,970616,970802,970804,970806,970808,970810,970812,970814,970816,971002,971004,971006,971008,971010,971012,971014,971016,1140200,1141400,1150002,1150004,1150006,1150008,1150010,1150012,1150014,1150016,1150202,1150204,1150206,1150208,1150210,1150212,1150214,1150216,1150402,1150404,1150406,1150408,1150410,1150412,1150414,1150416,1150602,1150604,1150606,1150608,1150610,1150612,1150614,1150616,1150802,1150804,1150806,1150808,1150810,1150812,1150814,1150816,1151002,1151004,1151006,1151008,1151010,1151012,1151014,1151016,1240000] [] (.block 1 (aQ [bJ 22 0 7,bT 23 22,bJ 24 2 10,bY (.store 1 (.t 24) (.t 23))] [7,8,9,10,11] (aQ [aD 25 11,bJ 26 0 7,bT 27 26,au 28 (.look (.one .str) (.one (.int .i64 0)) false (.t 25) (.t 27)),au 29 (.ar .add (.t 28) (bH 1)),bY (.wM (.one .str) (.t 25) (.t 27) (.t 29))] [7,8,9,10,11] (.seq (aQ [dh 31 3 9,dh 32 3 7,au 33 (.call false 56 [(.t 31),(.t 32)]),aD 30 33,au 34 (.ext (.t 30) 0),au 35 (.ext (.t 30) 1),au 12 (.alloc 44 [bE,aG,aG,.bP,aG,aG]),bY (.store 6 (.t 12) (.t 34)),aD 13 35] [7,8,9,10,11,12,13] (aQ [aD 36 13] [7,8,9,10,11,12,36] (.cond (.t 36) (aQ [bJ 37 0 10,bT 38 37,dh 39 6 12,au 40 (.wK 44 6 1 [bE,aG,aG,.bP,aG,aG] [dR 0 6 39]),au 41 (.app 44 6 72 (.t 38) (.t 40)),bJ 42 0 10,bY (.store 1 (.t 42) (.t 41))] [8,10] (aQ [dh 43 9 10,bY (.store 9 (.t 8) (.t 43))] [8] .ret)) .skip))) (aQ [dh 45 3 9,dh 46 3 7,au 47 (.call false 57 [(.t 45),(.t 46)]),aD 44 47,au 48 (.ext (.t 44) 0),au 49 (.ext (.t 44) 1),au 50 (.ext (.t 44) 2),au 14 (.alloc 44 [bE,aG,aG,.bP,aG,aG]),bY (.store 6 (.t 14) (.t 48)),aD 15 49,aD 16 50] [7,8,9,10,11,14,15,16] (.seq (aQ [aD 51 16,au 52 (.no (.t 51))] [7,8,9,10,11,14,15,52] (.cond (.t 52) (aQ [dh 53 3 9,dh 54 9 10,dh 55 3 7,au 56 (.call false 58 [(.t 53),(.t 54),(.t 55)]),bY (.store 9 (.t 8) (.t 56))] [8] .ret) .skip)) (aQ [bJ 57 0 10,bT 58 57,dh 59 6 14,au 60 (.wK 44 6 1 [bE,aG,aG,.bP,aG,aG] [dR 0 6 59]),au 61 (.app 44 6 72 (.t 58) (.t 60)),bJ 62 0 10,bY (.store 1 (.t 62) (.t 61))] [7,8,9,10,11,15] (.seq (aQ [bJ 63 0 10,bT 64 63,au 65 (.gQ (.t 64)),au 66 (.cmp .gt (.t 65) (bH 8)),aD 67 66,aZ 68 67 false (.mv (.t 11)),aZ 69 67 false (.mv (.t 15)),aZ 70 67 false (.look (.one .str) (.one (.int .i64 0)) false (.t 68) (.t 69)),aZ 71 67 false (.cmp .gt (.t 70) (bH 0)),au 72 (.pick (.t 67) eu (.t 71))] [7,8,9,10,11,15,72] (.cond (.t 72) (aQ [bJ 73 1 10,bY (.store 1 (.t 73) (bH 4))] [8,10] (aQ [dh 74 9 10,bY (.store 9 (.t 8) (.t 74))] [8] .ret)) .skip)) (.reg [aD 75 15,bJ 76 0 7,bY (.store 1 (.t 76) (.t 75))] [7,8,9,10,11])))))))))))))))⟩
def c63 : CF:=⟨2,[(.t 4)],[],[],(aQ [au 2 (.box 49 (.t 0)),au 3 (.box 49 (.t 1)),au 4 (.mv dA)] [2,3] (aQ [bJ 5 0 2,dh 6 5 5,bJ 7 0 3,dh 8 5 7,au 9 (.call false 107 [(.t 6),(.t 8)]),aD 10 9,aZ 11 10 true (.fa 5 (.t 2)),aZ 12 10 true (.load 1 false (.t 11)),aZ 13 10 true (.fa 5 (.t 3)),aZ 14 10 true (.load 1 false (.t 13)),aZ 15 10 true (.cmp .eq (.t 12) (.t 14)),au 16 (.pick (.t 10) (.t 15) dA),aD 4 16] [4] .ret))⟩
def c16 : CF:=⟨2,[(.t 4)],[],[],(aQ [au 2 (.box 51 (.t 0)),au 3 (.box 51 (.t 1)),au 4 (.mv dA)] [2,3] (.seq (aQ [bJ 6 0 2,bT 7 6,au 8 (.gQ (.t 7)),bJ 9 0 3,bT 10 9,au 11 (.gQ (.t 10)),au 12 (.cmp .ne (.t 8) (.t 11)),aD 13 12,aZ 14 13 false (.fa 1 (.t 2)),aZ 15 13 false (.load 1 false (.t 14)),aZ 16 13 false (.fa 1 (.t 3)),aZ 17 13 false (.load 1 false (.t 16)),aZ 18 13 false (.cmp .ne (.t 15) (.t 17)),au 19 (.pick (.t 13) eu (.t 18)),aD 20 19,aZ 21 20 false (.fa 2 (.t 2)),aZ 22 20 false (.load 1 false (.t 21)),aZ 23 20 false (.fa 2 (.t 3)),aZ 24 20 false (.load 1 false (.t 23)),aZ 25 20 false (.q9 (.one .str) true (.t 22) (.t 24)),au 26 (.pick (.t 20) eu (.t 25)),aD 27 26,aZ 28 27 false (.fa 3 (.t 2)),aZ 29 27 false (.load 6 true (.t 28)),aZ 30 27 false (.fa 3 (.t 3)),aZ 31 27 false (.load 6 true (.t 30)),aZ 32 27 false (.call false 63 [(.t 29),(.t 31)]),aZ 33 27 false (.no (.t 32)),au 34 (.pick (.t 27) eu (.t 33))] [2,3,34] (.cond (.t 34) (aQ [au 4 (.mv dA)] [4] .ret) .skip)) (.seq (aQ [au 5 (.mv (bH 0))] [2,3,5] (.block 0 (.loop [2,3,5] [20202,21402,40202,41402,60000,80000] [] (.seq (aQ [aD 35 5,bJ 36 0 2,bT 37 36,au 38 (.gQ (.t 37)),au 39 (.cmp .lt (.t 35) (.t 38))] [2,3,5,39] (.cond (.t 39) .skip (.exit 0))) (.seq (.block 1 (.seq (.qG [⟨bJ 42 0 2,[]⟩,⟨bT 43 42,[]⟩,⟨aD 44 5,[]⟩,⟨au 45 (.ia 6 (.t 43) (.t 44)),[]⟩,⟨dh 46 6 45,[]⟩,⟨bJ 47 0 3,[]⟩,⟨bT 48 47,[]⟩,⟨aD 49 5,[]⟩,⟨au 50 (.ia 6 (.t 48) (.t 49)),[]⟩,⟨dh 51 6 50,[]⟩] [] [] [au 52 (.call false 63 [(.t 46),(.t 51)]),au 53 (.no (.t 52))] [2,3,5,53]) (.cond (.t 53) (aQ [au 4 (.mv dA)] [4] .ret) .skip))) (.reg [aD 40 5,au 41 (.ar .add (.t 40) (bH 1)),aD 5 41] [2,3,5])))))) (aQ [au 4 (.mv eu)] [4] .ret))))⟩
def L9 : CF:=⟨2,[(.t 4)],[],[],(aQ [au 4 (.mv (bH 0))] [0,1] (.seq (aQ [aD 5 0,aD 6 1,au 7 (.call false 78 [(.t 5),(.t 6)]),au 8 (.no (.t 7))] [0,1,8] (.cond (.t 8) (aQ [au 4 (.mv (bH 0))] [4] .ret) .skip)) (aQ [aD 9 1,aD 10 0,au 11 (.ar .sub (.t 9) (.t 10)),au 12 (.mn (.t 11) (bH 604800)),aD 4 12] [4] .ret)))⟩
def Qp : CF:=⟨1,[(.t 2)],[],[],(aQ [au 2 (.mv dA)] [0] (aQ [aD 3 0,au 4 (.call false 122 [(.t 3),(bH 3)]),aD 2 4] [2] .ret))⟩
def oM : List (FuncId × CF):=[(48,c48),(43,c43),(107,c107),(45,c45),(82,c82),(84,VU),(79,c79),(85,c85),(86,c86),(78,c78),(116,c116),(38,OW),(113,Qf),(111,Qg),(114,Qh),(134,Qi),(135,Qj),(131,c131),(133,Qk),(122,Ql),(149,Qm),(148,c148),(49,c49),(87,c87),(51,c51),(103,Qo),(88,c88),(89,c89),(90,c90),(10,c10),(12,c12),(17,c17),(47,VW),(56,Yj),(57,c57),(58,c58),(14,c14),(63,c63),(16,c16),(102,L9),(101,Qp)]
end
section
attribute [local go_sem_proc] Nat.reduceAdd Nat.reduceMul Nat.reduceEqDiff Nat.reduceBEq Nat.reduceMod Nat.reduceDiv reduceCtorEq
attribute [local go_sem_proc ↓] reduceIte
open Go Ev
variable {ext : Env} {F n:Nat}
noncomputable abbrev G (ext:Env) (F n:Nat):Env:=Gm oM ext F n
theorem pK {x:Int} (h1:-9223372036854775808 ≤ x) (h2:x ≤ 9223372036854775807):IntKind.i64.wrap x = x:=by
 rw [IntKind.wrap_i64];omega
abbrev vi (x:Int):AV:=.one (.f (.int .i64 x))
abbrev vb (b:Bool):AV:=.one (.f (.bool b))
abbrev vs (s:ByteArray):AV:=.one (.f (.str s))
abbrev vl (l:List (List FV)):AV:=.one (.f (.sl l))
def bn (s:ByteArray):List FV:=[.str s]
abbrev vq (q:ByteArray) (t c:Int):AV:=.agg [.f (.str q),.f (.int .i64 t),.f (.int .i64 c)]
abbrev oO (q:ByteArray) (t c:Int) (d:List ByteArray) (ttl:Int):AV:=.agg [.f (.str q),.f (.int .i64 t),.f (.int .i64 c),.f (.sl (d.map bn)),.f (.int .i64 ttl)]
theorem TD (x m:Int):G ext F (n + 1) 131 [vi x,vi m] = some ([vb (decide (0 ≤ x ∧ x ≤ m))],[vi x,vi m]):=by
 refine dB (cf:=c131) rfl ?_
 dsimp only [c131,au,bY,aZ,bH,aG,bE,dR,eu,dA,aD,bT,dh,bJ,aQ];simp only [go_sem]
 repeat' (refine dM (fun h=>?_) (fun h=>?_) <;> simp only [h,go_sem])
 all_goals (simp only [aiG,ajf] at *;simp;try omega)
theorem ql (x m:Int):G ext F (n + 1) 111 [vi x,vi m] = some ([vb (decide (0 ≤ x ∧ x ≤ m))],[vi x,vi m]):=by
 refine dB (cf:=Qg) rfl ?_
 dsimp only [Qg,au,bY,aZ,bH,aG,bE,dR,eu,dA,aD,bT,dh,bJ,aQ];simp only [go_sem]
 repeat' (refine dM (fun h=>?_) (fun h=>?_) <;> simp only [h,go_sem])
 all_goals (simp only [aiG,ajf] at *;simp;try omega)
theorem FZ (x m:Int):G ext F (n + 1) 122 [vi x,vi m] = some ([vb (decide (m ≤ x ∧ x ≤ 5))],[vi x,vi m]):=by
 refine dB (cf:=Ql) rfl ?_
 dsimp only [Ql,au,bY,aZ,bH,aG,bE,dR,eu,dA,aD,bT,dh,bJ,aQ];simp only [go_sem]
 repeat' (refine dM (fun h=>?_) (fun h=>?_) <;> simp only [h,go_sem])
 all_goals (simp only [aiG,ajf] at *;simp;try omega)
def Qq (x:Int):Bool:=decide (0 ≤ x ∧ x ≤ 1099511627776)
def fI (now ttl:Int):Int:=if Qq now = true ∧ 0 ≤ ttl then now + (if ttl ≤ 604800 then ttl else 604800) else -1
def jE (now u:Int):Bool:=Qq now && decide (now < u)
def Ma (old:Int) (l:Bool) (now:Int):Bool:=decide (1 ≤ now ∧ now ≤ 5) && (!l || decide (old ≤ now))
theorem jy (x u:Int):G ext F (n + 2) 78 [vi x,vi u] = some ([vb (jE x u)],[vi x,vi u]):=by
 refine dB (cf:=c78) rfl ?_
 dsimp only [c78,au,bY,aZ,bH,aG,bE,dR,eu,dA,aD,bT,dh,bJ,aQ];simp only [ql,go_sem]
 repeat' (refine dM (fun h=>?_) (fun h=>?_) <;> simp only [h,ql,go_sem])
 all_goals (simp only [aiG,ajf] at *;simp [Qq,jE];try omega)
theorem Qr {x t:Int} (h:0 ≤ x ∧ x ≤ 1099511627776) (ht:0 ≤ t):IntKind.i64.wrap (x + if 604800 < t then 604800 else t) = x + if t ≤ 604800 then t else 604800:=by
 have e:(if 604800 < t then (604800:Int) else t) = if t ≤ 604800 then t else 604800:=by split <;> split <;> omega
 rw [e]
 refine pK ?_ ?_ <;> split <;> omega
theorem JB {x t:Int} (h:0 ≤ x ∧ x ≤ 1099511627776) (ht:¬ t < 0):fI x t = IntKind.i64.wrap (x + if 604800 < t then 604800 else t):=by
 rw [Qr h (by omega)]
 simp only [fI,Qq,aiG]
 rw [ail (show (0 ≤ x ∧ x ≤ 1099511627776) ∧ 0 ≤ t from ⟨h,by omega⟩)]
theorem Mc {x t:Int} (h:¬ ((0 ≤ x ∧ x ≤ 1099511627776) ∧ 0 ≤ t)):fI x t = -1:=by
 simp only [fI,Qq,aiG]
 rw [ain h]
theorem xO (x t:Int):G ext F (n + 2) 82 [vi x,vi t] = some ([vi (fI x t)],[vi x,vi t]):=by
 refine dB (cf:=c82) rfl ?_
 dsimp only [c82,au,bY,aZ,bH,aG,bE,dR,eu,dA,aD,bT,dh,bJ,aQ];simp only [ql,go_sem]
 repeat' (refine dM (fun h=>?_) (fun h=>?_) <;> simp only [h,ql,go_sem])
 all_goals (simp only [Qq,aiG,ajf] at *;first | rw [JB (by assumption) (by omega)] | rw [Mc (by omega)])
theorem H9 (o x:Int) (l:Bool):G ext F (n + 2) 114 [vi o,vb l,vi x] = some ([vb (Ma o l x)],[vi o,vb l,vi x]):=by
 refine dB (cf:=Qh) rfl ?_
 dsimp only [Qh,au,bY,aZ,bH,aG,bE,dR,eu,dA,aD,bT,dh,bJ,aQ];simp only [FZ,go_sem]
 repeat' (refine dM (fun h=>?_) (fun h=>?_) <;> simp only [h,FZ,go_sem])
 all_goals (simp only [aiG,ajf] at *;simp_all [Ma];try omega)
end
section
attribute [local go_sem_proc] Nat.reduceAdd Nat.reduceMul Nat.reduceEqDiff Nat.reduceBEq Nat.reduceMod Nat.reduceDiv reduceCtorEq
attribute [local go_sem_proc ↓] reduceIte
open Go Go.RowKit Go.Proofs Ev
theorem eqs : ∀ t ∈ [3,9,24],lg Tryz.prog t:=by
 intro t ht
 simp only [aiD,aj1,or_false] at ht
 rcases ht with rfl | rfl | rfl <;> exact VX (by kernel_rfl)
theorem mixed : Tryz.prog.follows .mixedOrders = true:=by kernel_rfl
theorem Ic : gW Tryz.prog fun _ _=>none:=fun f d9 rs pq h=>by cases h
theorem Am : dI Tryz.prog fun _ _=>none:=fun f d9 r h=>by cases h
def VY : CF:=⟨1,[(.t 2)],[],[],(.seq (.reg [⟨(some 2),none,(.mv (.k (.one .bP)))⟩] [0]) (.seq (.seq (.reg [⟨(some 3),none,(.mv (.t 0))⟩,⟨(some 4),none,(.zm false (.t 3))⟩] [0,4]) (.cond (.t 4) (.seq (.reg [⟨(some 2),none,(.mv (.k (.one .bP)))⟩] [2]) .ret) .skip)) (.seq (.reg [⟨(some 5),none,(.wK 9 1 0 [] [])⟩,⟨(some 6),none,(.mv (.t 0))⟩,⟨(some 7),none,(.app 9 1 16 (.t 5) (.t 6))⟩,⟨(some 2),none,(.mv (.t 7))⟩] [2]) .ret)))⟩
def VZ : CF:=⟨1,[(.t 2)],[some 3],[],(.seq (.reg [⟨(some 2),none,(.mv (.k (.one .bP)))⟩] [0]) (.seq (.seq (.reg [⟨(some 3),none,(.mv (.t 0))⟩,⟨(some 4),none,(.zm false (.t 3))⟩] [0,4]) (.cond (.t 4) (.seq (.reg [⟨(some 2),none,(.mv (.k (.one .bP)))⟩] [2]) .ret) .skip)) (.seq (.reg [⟨(some 5),none,(.wK 24 3 0 [] [])⟩,⟨(some 6),none,(.mv (.t 0))⟩,⟨(some 7),none,(.app 24 3 32 (.t 5) (.t 6))⟩,⟨(some 2),none,(.mv (.t 7))⟩] [2]) .ret)))⟩
theorem Qx {f:FuncId} {cf:CF} {Γ:Env} (h:jD Tryz.prog f cf) (h1:gW Tryz.prog Γ) (h2:dI Tryz.prog Γ) (F:Nat):Sat Tryz.prog f (Jm Γ F cf):=by
 obtain ⟨fn,c,X,hints,rest,e1,_,e2,e3,e4,e5,e6⟩:=h.ok
 exact Ah mixed e3 h1 h2 e1 e2 e4 e5 e6 F
theorem Qy : jD Tryz.prog 72 VY:=⟨Tryz.f72,_,⟨[3,9,24],[],[],[125,134]⟩,[⟨[0],[],[]⟩,⟨[0,4],[],[]⟩,⟨[2],[],[]⟩,⟨[2],[],[]⟩],[],by kernel_rfl,by kernel_rfl,rfl,eqs,by kernel_rfl,by kernel_rfl,by decide⟩
theorem Qz : jD Tryz.prog 115 VZ:=⟨Tryz.f115,_,⟨[3,9,24],[],[],[125,134]⟩,[⟨[0],[],[]⟩,⟨[0,4],[],[]⟩,⟨[2],[],[]⟩,⟨[2],[],[]⟩],[],by kernel_rfl,by kernel_rfl,rfl,eqs,by kernel_rfl,by kernel_rfl,by decide⟩
theorem QA (r:List FV) (l:List (List FV)) (h:l.length < 1000000) (hl:(r :: l).all (fun r=>r.length == 1) = true):Jm (fun _ _=>none) 10 VY [vl (r :: l)] = some ([vl (r :: l)],[vl (r :: l)]):=by
 refine Jz ?_
 rw [List.all_cons,aiw] at hl
 simp only [VY,hl.1,hl.2,List.all_cons,go_sem]
 omega
theorem QB (r:List FV) (l:List (List FV)) (h:l.length < 1000000) (hl:(r :: l).all (fun r=>r.length == 3) = true):Jm (fun _ _=>none) 10 VZ [vl (r :: l)] = some ([.one (.own 3 (r :: l))],[vl (r :: l)]):=by
 refine Jz ?_
 rw [List.all_cons,aiw] at hl
 simp only [VZ,hl.1,hl.2,List.all_cons,go_sem]
 omega
theorem qm {t e:TypeId} (hu:Tryz.prog.underlying t = some (.slice e)) (p:Option Addr) (c:Nat) (w:World):(binOp .eql t (.slice p 0 c) (.slice none 0 0)).run Tryz.prog w = .ok (.bool p.isNone) w:=by
 have:=run_equal_slice_nil w t e p 0 c hu
 simp only [binOp,Sem.run_bind,this,Result.andThen_ok,Sem.run_pure]
theorem xP {t ty e:TypeId} {i:TypeInfo} (hu:Tryz.prog.underlying t = some (.slice e)) (hi:Tryz.prog.info? e = some i) (a b:Addr) (c:Nat) (w:World):(Builtin.append_ #[t,t] ty #[.slice (some b) 0 0,.slice (some a) 0 c]).run Tryz.prog w = .ok (.slice (some b) 0 0) w:=by
 have h1:∀ w,(Builtin.lenOf (.slice (some a) 0 c)).run Tryz.prog w = .ok 0 w:=fun _=>rfl
 have h2:=fun w=>run_firstCells_some (P:=Tryz.prog) w i.size 0 a 0 c [] (by simp) (by simp)
 simp [Builtin.append_,run_underlying hu,sizeOf,typeInfo,hi,storeCells,h1,h2]
theorem Md (c:Nat) (w:World):Calls Tryz.prog 72 #[.slice none 0 c] w fun e w'=>e = .returned (.slice none 0 0) ∧ w' = w:=by
 have heq:=qm (t:=40) (e:=9) (by kernel_rfl) none c
 go_enter Tryz.func72,Tryz.ntmps72
 go_wp2
 go_ret
 exact ⟨rfl,rfl⟩
theorem Me (a:Addr) (c:Nat) (w:World):Calls Tryz.prog 72 #[.slice (some a) 0 c] w fun e w'=>e = .returned (.slice (some ⟨w.heap.size,0,none⟩) 0 0) ∧ w' = w.alloc (.cells #[] 9):=by
 have heq:=qm (t:=40) (e:=9) (by kernel_rfl) (some a) c
 obtain ⟨i,hi⟩:=ajH.mp (show (Tryz.prog.info? 9).isSome = true by kernel_rfl)
 have hap:=fun b w=>xP (t:=40) (ty:=40) (e:=9) (by kernel_rfl) hi a b c w
 go_enter Tryz.func72,Tryz.ntmps72
 go_wp2
 go_ret
 exact ⟨rfl,rfl⟩
theorem Mf (c:Nat) (w:World):Calls Tryz.prog 115 #[.slice none 0 c] w fun e w'=>e = .returned (.slice none 0 0) ∧ w' = w:=by
 have heq:=qm (t:=56) (e:=24) (by kernel_rfl) none c
 go_enter Tryz.func115,Tryz.ntmps115
 go_wp2
 go_ret
 exact ⟨rfl,rfl⟩
theorem Mg (a:Addr) (c:Nat) (w:World):Calls Tryz.prog 115 #[.slice (some a) 0 c] w fun e w'=>e = .returned (.slice (some ⟨w.heap.size,0,none⟩) 0 0) ∧ w' = w.alloc (.cells #[] 24):=by
 have heq:=qm (t:=56) (e:=24) (by kernel_rfl) (some a) c
 obtain ⟨i,hi⟩:=ajH.mp (show (Tryz.prog.info? 24).isSome = true by kernel_rfl)
 have hap:=fun b w=>xP (t:=56) (ty:=56) (e:=24) (by kernel_rfl) hi a b c w
 go_enter Tryz.func115,Tryz.ntmps115
 go_wp2
 go_ret
 exact ⟨rfl,rfl⟩
def Mh (sz:Nat) (own:Bool) (d9:List AV):Option (List AV × List AV):=match d9 with
 | [.one (.f (.sl rows))]=>if rows.length ≤ 1000000 ∧ rows.all (fun r=>r.length == sz) = true then some ([.one (if own then .own sz rows else .f (.sl rows))],d9) else none
 | _=>none
theorem F5 (w:World) (o:Obj):w.heap.size ≤ (w.alloc o).heap.size ∧ (∀ b,b < w.heap.size → (w.alloc o).heap[b]? = w.heap[b]?) ∧ (w.alloc o).heap[w.heap.size]? = some o ∧ (w.alloc o).heap.size = w.heap.size + 1:=by
 obtain ⟨h1,h2,h3⟩:=lX w o
 exact ⟨by omega,h2,h1,h3⟩
theorem Ck {f:FuncId} {cf:CF} {sz e:Nat} {own:Bool} (h0:0 < sz) (he:jD Tryz.prog f cf) (hrun:∀ (r:List FV) (l:List (List FV)),l.length < 1000000 → (r :: l).all (fun r=>r.length == sz) = true → Jm (fun _ _=>none) 10 cf [vl (r :: l)] = some ([.one (if own then .own sz (r :: l) else .f (.sl (r :: l)))],[vl (r :: l)]))
  (hn:∀ (c:Nat) (w:World),Calls Tryz.prog f #[.slice none 0 c] w fun e w'=>e = .returned (.slice none 0 0) ∧ w' = w)
  (hs:∀ (a:Addr) (c:Nat) (w:World),Calls Tryz.prog f #[.slice (some a) 0 c] w fun e' w'=>e' = .returned (.slice (some ⟨w.heap.size,0,none⟩) 0 0) ∧ w' = w.alloc (.cells #[] e)):Sat Tryz.prog f (Mh sz own):=by
 intro d9 rs pq hg
 unfold Mh at hg
 split at hg
 ·rename_i rows
  split at hg
  ·rename_i hc
   cases hg
   cases rows with
   | cons r l =>
    exact Qx he Ic Am 10 _ _ _ (hrun r l (by have:=hc.1;simp at this;omega) hc.2)
   | nil =>
    intro Fz w vals bs ha hnd hap hfz
    match vals,ha with
    | [v],⟨b1,b2,h1,h2,e0⟩ =>
    obtain ⟨hv,rfl⟩:=h1
    obtain rfl:b2 = []:=h2
    subst e0
    simp only [fu] at hv
    obtain ⟨A,c,rfl,hle,hbig,_⟩:=hv
    have hrep:∀ (w':World) (v:Value),(∃ A,v = .slice A 0 0) → fu Fz w' (.sl []) v:=fun w' v ⟨A,hA⟩=>by
     simp only [fu];exact ⟨A,0,by rw [hA];rfl,aiq _,by simp,.inl trivial⟩
    have hbk:∀ (w':World),fB Fz w' [vl []] [.slice A ([]:List (List FV)).length c] []:=fun w' =>
     ⟨[],[],⟨by simp only [fu];exact ⟨A,c,rfl,hle,hbig,.inl trivial⟩,rfl⟩,rfl,rfl⟩
    cases A with
    | none =>
     refine (hn c w).mono fun e' w' ⟨e1,e2⟩=>?_
     subst e2
     refine ⟨Fz,[.slice none 0 0],[],[],e1,fun _ h=>h,fun b hb=>⟨hfz b hb,.inl hb⟩,aiq _,fun _ _ _=>rfl,⟨rfl,rfl⟩,hbk w',?_,by simp,fun b hb=>by simp at hb⟩
     cases own with
     | true=>exact ⟨[],[],⟨h0,0,[],none,0,rfl,World.ownsRow_nil w' _ _ _,rfl,rfl⟩,rfl,rfl⟩
     | false=>exact ⟨[],[],⟨hrep w' _ ⟨none,rfl⟩,rfl⟩,rfl,rfl⟩
    | some a =>
     refine (hs a c w).mono fun e' w' ⟨e1,e2⟩=>?_
     subst e2
     obtain ⟨k1,k2,k3,k4⟩:=F5 w (.cells #[] e)
     cases own with
     | true =>
      refine ⟨Fz,[.slice (some ⟨w.heap.size,0,none⟩) 0 0],[],[w.heap.size],e1,fun _ h=>h,fun b hb=>⟨aiX (hfz b hb) k1,.inl hb⟩,k1,fun b hb _=>k2 b hb,⟨rfl,rfl⟩,hbk _,?_,by simp,fun b hb=>?_⟩
      ·refine ⟨[w.heap.size],[],⟨h0,e,[],_,0,rfl,⟨by simp,.inr ⟨w.heap.size,0,#[],rfl,aiU _,k3,aiq _,by simp [maxLen],by simp,by simp⟩⟩,rfl,rfl⟩,rfl,rfl⟩
      ·simp at hb
       subst hb
       exact ⟨fun hf=>by have:=hfz _ hf;omega,by omega,.inr (aiq _)⟩
     | false =>
      exact ⟨Fz,[.slice (some ⟨w.heap.size,0,none⟩) 0 0],[],[],e1,fun _ h=>h,fun b hb=>⟨aiX (hfz b hb) k1,.inl hb⟩,k1,fun b hb _=>k2 b hb,⟨rfl,rfl⟩,hbk _,⟨[],[],⟨hrep _ _ ⟨_,rfl⟩,rfl⟩,rfl,rfl⟩,by simp,fun b hb=>by simp at hb⟩
  ·cases hg
 ·cases hg
theorem QC : Sat Tryz.prog 72 (Mh 1 false):=Ck (by decide) Qy QA Md Me
theorem QD : Sat Tryz.prog 115 (Mh 3 true):=Ck (by decide) Qz QB Mf Mg
end
section
attribute [local go_sem_proc] Nat.reduceAdd Nat.reduceMul Nat.reduceEqDiff Nat.reduceBEq Nat.reduceMod Nat.reduceDiv reduceCtorEq
attribute [local go_sem_proc ↓] reduceIte
open Go Ev
variable {ext : Env} {F n:Nat}
theorem at_ {α:Type} {l:List α} {i:Nat} (h:i < l.length):∃ x,l[i]? = some x ∧ decide ((i:Int) < (l.length:Int)) = true ∧ ((i:Int).toNat = i) ∧ (0:Int) ≤ i:=⟨_,aiB h,by simpa using h,by simp,by omega⟩
theorem end_ {α:Type} {l:List α}:decide ((l.length:Int) < (l.length:Int)) = false:=by simp
theorem nx {i N:Nat} (h:i < N) (hN:N ≤ 200000000000000):IntKind.i64.wrap ((i:Int) + 1) = ((i + 1:Nat):Int):=by rw [pK (by omega) (by omega)];omega
def xQ (l:List ByteArray) (s:ByteArray):Bool:=l.any fun x=>decide (x = s)
theorem Mj {l:List ByteArray} {s x:ByteArray} {i:Nat} (h:l[i]? = some x):xQ (l.take (i + 1)) s = (xQ (l.take i) s || decide (x = s)):=by
 unfold xQ
 have hi:=(ajb.mp h)
 rw [ai7,h,List.any_append]
 simp
theorem V3 {l:List ByteArray} {s x:ByteArray} {i:Nat} (h:l[i]? = some x) (hx:x = s):xQ l s = true:=by
 unfold xQ
 exact ajk.mpr ⟨x,ajn h,by simpa using hx⟩
theorem QE {l:List ByteArray} {s:ByteArray} (h:xQ (l.take l.length) s = false):xQ l s = false:=by rwa [ai2] at h
theorem QF (l:List ByteArray) (s:ByteArray) (hl:l.length ≤ 1000000000000) (hF:200000000000001 ≤ F):∃ z:Int,(decide (0 ≤ z) = xQ l s) ∧ G ext F (n + 1) 148 [vl (l.map bn),vs s] = some ([vi z],[vl (l.map bn),vs s]):=by
 suffices h:W (fun r=>∃ z:Int,(decide (0 ≤ z) = xQ l s) ∧ r = ([vi z],[vl (l.map bn),vs s])) ⟨⟩ (G ext F (n + 1) 148 [vl (l.map bn),vs s]) by
  obtain ⟨r,h1,z,h2,h3⟩:=h
  exact ⟨z,h2,by rw [h1,h3]⟩
 show W _ _ (Jm _ F c148 _)
 dsimp only [c148,au,bY,aZ,bH,aG,bE,dR,eu,dA,aD,bT,dh,bJ,aQ];simp only [go_sem]
 refine LX l.length (fun i=>⟨[(0,PV.c (CV.one (PL.f (FV.sl (l.map bn))))),(1,PV.c (CV.one (PL.f (FV.str s)))),(7,PV.c (CV.one (PL.f (FV.int .i64 (l.map bn).length)))),(8,PV.c (CV.one (PL.f (FV.int .i64 i))))],[]⟩) (fun i=>xQ (l.take i) s = false) (by omega) rfl (fun i hi hP=>?_) (fun hP=>?_)
 ·obtain ⟨x,hx,hd,ht,h0⟩:=at_ hi
  have hn:=nx hi (aiH hl (by decide))
  have hs:=Mj (s:=s) hx
  simp only [aio,ait,hd,hx,ht,h0,bn,go_sem]
  repeat' (refine dM (fun h=>?_) (fun h=>?_) <;> simp only [h,aio,ait,hd,hx,ht,h0,hn,bn,go_sem])
  ·exact ⟨i,by rw [V3 hx (by simp at h;first | exact h | exact h.symm)];simp,rfl⟩
  ·rw [hs,hP];simp at h ⊢;first | exact h | exact fun e=>h e.symm
 ·have hd:=@end_ _ l
  simp only [aio,hd,go_sem]
  repeat' (refine dM (fun h=>?_) (fun h=>?_) <;> simp only [h,aio,hd,go_sem])
  exact ⟨-1,by rw [QE hP];rfl,rfl⟩
theorem Ec (l:List ByteArray) (s:ByteArray) (hl:l.length ≤ 1000000000000) (hF:200000000000001 ≤ F):G ext F (n + 2) 133 [vl (l.map bn),vs s] = some ([vb (xQ l s)],[vl (l.map bn),vs s]):=by
 refine dB (cf:=Qk) rfl ?_
 obtain ⟨z,hz,h⟩:=QF (ext:=ext) (F:=F) (n:=n) l s hl hF
 dsimp only [Qk,au,bY,aZ,bH,aG,bE,dR,eu,dA,aD,bT,dh,bJ,aQ];simp only [h,go_sem]
 repeat' (refine dM (fun h=>?_) (fun h=>?_) <;> simp only [h,h,go_sem])
 rw [← hz]
theorem Mk (l m:List ByteArray) (hl:l.length ≤ 1000000000000) (hF:200000000000001 ≤ F):G ext F (n + 1) 38 [vl (l.map bn),vl (m.map bn)] = some ([vb (decide (l = m))],[vl (l.map bn),vl (m.map bn)]):=by
 refine dB (cf:=OW) rfl ?_
 dsimp only [OW,au,bY,aZ,bH,aG,bE,dR,eu,dA,aD,bT,dh,bJ,aQ];simp only [aio,go_sem]
 repeat' (refine dM (fun h=>?_) (fun h=>?_) <;> simp only [h,aio,go_sem])
 ·have hlen:l.length = m.length:=by simp at h;omega
  refine LX l.length (fun i=>⟨[(0,PV.c (CV.one (PL.f (FV.sl (l.map bn))))),(1,PV.c (CV.one (PL.f (FV.sl (m.map bn))))),(5,PV.c (CV.one (PL.f (FV.int .i64 i))))],[]⟩) (fun i=>l.take i = m.take i) (by omega) rfl (fun i hi hP=>?_) (fun hP=>?_)
  ·obtain ⟨x,hx,hd,ht,h0⟩:=at_ hi
   obtain ⟨y,hy,_⟩:=at_ (l:=m) (i:=i) (by omega)
   have hn:=nx hi (aiH hl (by decide))
   simp only [aio,ait,hd,hx,hy,ht,h0,bn,go_sem]
   repeat' (refine dM (fun h=>?_) (fun h=>?_) <;> simp only [h,aio,ait,hd,hx,hy,ht,h0,hn,bn,go_sem])
   ·rw [ai7,ai7,hP,hx,hy]
    simp at h
    rw [h]
   ·have:l ≠ m:=by rintro rfl;rw [hx] at hy;cases hy;simp at h
    simp [this]
  ·have hd:=@end_ _ l
   simp only [aio,hd,go_sem]
   repeat' (refine dM (fun h=>?_) (fun h=>?_) <;> simp only [h,aio,hd,go_sem])
   have:l = m:=by rw [← ai2 (l:=l),hP,hlen,ai2]
   simp [this]
 ·have:l ≠ m:=by rintro rfl;simp at h
  simp [this]
end
section
attribute [local go_sem_proc] Nat.reduceAdd Nat.reduceMul Nat.reduceEqDiff Nat.reduceBEq Nat.reduceMod Nat.reduceDiv reduceCtorEq
attribute [local go_sem_proc ↓] reduceIte
open Go Ev
variable {ext : Env} {F n:Nat}
structure Qn where
 q:ByteArray
 t:Int
 c:Int
 deriving DecidableEq
structure It where
 q:ByteArray
 t:Int
 c:Int
 d:List ByteArray
 ttl:Int
 u:Int
 r:Int
 deriving DecidableEq
structure Op where
 o:Int
 now:Int
 q:ByteArray
 t:Int
 c:Int
 d:List ByteArray
 ttl:Int
 r:Int
def rQ (x:Qn):List FV:=[.str x.q,.int .i64 x.t,.int .i64 x.c]
def rI (x:It):List FV:=[.str x.q,.int .i64 x.t,.int .i64 x.c,.sl (x.d.map bn),.int .i64 x.ttl,.int .i64 x.u,.int .i64 x.r]
abbrev vit (q:ByteArray) (t c:Int) (d:List ByteArray) (ttl u r:Int):AV:=.agg [.f (.str q),.f (.int .i64 t),.f (.int .i64 c),.f (.sl (d.map bn)),.f (.int .i64 ttl),.f (.int .i64 u),.f (.int .i64 r)]
def Ed (k:Nat) (l:List ByteArray):Bool:=l.all fun x=>decide (x.size ≤ 2000) && decide (k ≤ 60)
theorem JC {k:Nat} {l:List ByteArray} {x:ByteArray} {i:Nat} (h:l[i]? = some x):Ed k (l.take (i + 1)) = (Ed k (l.take i) && (decide (x.size ≤ 2000) && decide (k ≤ 60))):=by
 unfold Ed
 rw [ai7,h,List.all_append]
 simp
theorem Ie {k:Nat} {l:List ByteArray} {x:ByteArray} {i:Nat} (h:l[i]? = some x) (hx:¬ (x.size ≤ 2000 ∧ k ≤ 60)):Ed k l = false:=by
 unfold Ed
 refine ai6.mpr fun ha=>hx ?_
 have:=aiA.mp ha x (ajn h)
 simpa using this
def nG (q:ByteArray) (d:List ByteArray):Bool:=Ed d.length d && decide (q.size ≤ 300)
theorem Ml (q:ByteArray) (t c:Int) (d:List ByteArray) (ttl:Int) (hl:d.length ≤ 200000000000000) (hF:200000000000001 ≤ F):G ext F (n + 1) 45 [oO q t c d ttl] = some ([vb (nG q d)],[oO q t c d ttl]):=by
 refine dB (cf:=c45) rfl ?_
 dsimp only [c45,au,bY,aZ,bH,aG,bE,dR,eu,dA,aD,bT,dh,bJ,aQ];simp only [go_sem]
 refine LX d.length (fun i=>⟨[(1,PV.c (CV.one (PL.ptr 40000 0))),(3,PV.c (CV.one (PL.f (FV.int .i64 i))))],[(40000,.eH [.f (.str q),.f (.int .i64 t),.f (.int .i64 c),.f (.sl (d.map bn)),.f (.int .i64 ttl)])]⟩) (fun i=>Ed d.length (d.take i) = true) (by omega) rfl (fun i hi hP=>?_) (fun hP=>?_)
 ·obtain ⟨x,hx,hd,ht,h0⟩:=at_ hi
  have hn:=nx hi (aiH hl (by decide))
  simp only [aio,ait,hd,hx,ht,h0,bn,go_sem]
  repeat' (refine dM (fun h=>?_) (fun h=>?_) <;> simp only [h,aio,ait,hd,hx,ht,h0,hn,bn,go_sem])
  all_goals simp only [aiG,ajf] at *
  ·simp [nG,Ie hx (k:=d.length) (by omega)]
  ·simp [nG,Ie hx (k:=d.length) (by omega)]
  ·rw [JC hx,hP];simp;omega
 ·have hd:=@end_ _ d
  rw [ai2] at hP
  simp only [aio,hd,go_sem]
  repeat' (refine dM (fun h=>?_) (fun h=>?_) <;> simp only [h,aio,hd,go_sem])
  simp [nG,hP]
  try omega
def Mr (a:ByteArray) (t c:Int) (d:List ByteArray) (ttl:Int) (a':ByteArray) (t' c':Int) (d':List ByteArray) (Ms:Int):Bool:=decide (a = a' ∧ t = t' ∧ c = c' ∧ ttl = Ms ∧ d = d')
theorem QG (a:ByteArray) (t c:Int) (d:List ByteArray) (ttl:Int) (a':ByteArray) (t' c':Int) (d':List ByteArray) (Ms:Int) (hl:d.length ≤ 1000000000000) (hF:200000000000001 ≤ F):G ext F (n + 2) 107 [oO a t c d ttl,oO a' t' c' d' Ms] = some ([vb (Mr a t c d ttl a' t' c' d' Ms)],[oO a t c d ttl,oO a' t' c' d' Ms]):=by
 refine dB (cf:=c107) rfl ?_
 have ht:=fun n=>Mk (ext:=ext) (F:=F) (n:=n) d d' hl hF
 dsimp only [c107,au,bY,aZ,bH,aG,bE,dR,eu,dA,aD,bT,dh,bJ,aQ];simp only [ht,go_sem]
 repeat' (refine dM (fun h=>?_) (fun h=>?_) <;> simp only [h,ht,go_sem])
 all_goals (simp [Mr] at *)
 all_goals (try simp_all)
end
section
open Go Ev
variable {ext : Env} {F n:Nat}
theorem kQ {body:St → Option (Out × St)} {rs:St → St} {k:Out × St → Prop} {u:Tok k} {F:Nat} {σ:St} (N:Nat) (T:Nat → St) (P:Nat → Prop) (hF:N < F) (hs:rs σ = T 0) (h0:P 0)
  (step:∀ i,i < N → P i → W (fun p=>match p.1 with
   | .iV=>rs p.2 = T (i + 1) ∧ P (i + 1)
   | o=>k (o,p.2)) ⟨⟩ (body (T i)))
  (last:P N → W (fun p=>match p.1 with
   | .iV=>False
   | o=>k (o,p.2)) ⟨⟩ (body (T N))):W k u (iter body rs F σ):=by
 refine Cg (fun m σ=>∃ i,i ≤ N ∧ m = N - i ∧ rs σ = T i ∧ P i) ?_ F N σ hF ⟨0,aiU _,rfl,hs,h0⟩
 rintro m σ ⟨i,hi,rfl,hr,hP⟩
 rw [hr]
 by_cases hlt:i < N
 ·refine uL (step i hlt hP) fun p hp=>?_
  obtain ⟨o,s⟩:=p
  cases o with
  | iV=>exact ⟨N - (i + 1),by omega,i + 1,by omega,rfl,hp.1,hp.2⟩
  | ext j=>exact hp
  | ret=>exact hp
 ·have:i = N:=by omega
  subst this
  refine uL (last hP) fun p hp=>?_
  obtain ⟨o,s⟩:=p
  cases o with
  | iV=>exact hp.elim
  | ext j=>exact hp
  | ret=>exact hp
def nr2 (s:Nat) (l:List (Nat × Nat)) (σ:St):Option St → St
 | some t=>iV ⟨put t.tm s (.c (.one (.own (dx s) 0))),t.ob⟩ l
 | none=>iV σ l
def nr1 (σ:St) (s sz:Nat) (l:List (Nat × Nat)):Option PV → St
 | some (.c (.one .bP))=>if sz = 0 then iV σ l else nr2 s l σ (new σ (dx s) (.row sz []))
 | _=>iV σ l
@[go_sem] theorem aag {σ:St} {s sz:Nat} {l:List (Nat × Nat)}:iV σ ((s,sz) :: l) = nr1 σ s sz l (get σ.tm s):=by
 unfold nr1 nr2
 rw [iV]
 split <;> first | rfl | (split <;> first | rfl | (split <;> simp_all))
@[go_sem] theorem acU {σ:St} {s sz key n:Nat} {l:List (Nat × Nat)}:nr1 σ s sz l (some (.c (.one (.own key n)))) = iV σ l:=rfl
@[go_sem] theorem ag8 {σ:St} {s sz:Nat} {l:List (Nat × Nat)} {x:FV}:nr1 σ s sz l (some (.c (.one (.f x)))) = iV σ l:=rfl
@[go_sem] theorem acV {σ:St} {s sz:Nat} {l:List (Nat × Nat)}:nr1 σ s sz l (some (.c (.one .bP))) = if sz = 0 then iV σ l else nr2 s l σ (new σ (dx s) (.row sz [])):=rfl
@[go_sem] theorem aah {σ τ:St} {s:Nat} {l:List (Nat × Nat)}:nr2 s l σ (some τ) = iV ⟨put τ.tm s (.c (.one (.own (dx s) 0))),τ.ob⟩ l:=rfl
abbrev It.k (x:It):Qn:=⟨x.q,x.t,x.c⟩
abbrev vst (room:Int) (l:List It) (ch:Int):AV:=.agg [.f (.int .i64 room),.f (.sl (l.map rI)),.f (.int .i64 ch)]
theorem all_succ {α:Type} {P:α → Prop} {l:List α} {i:Nat} {x:α} (h:∀ y ∈ l.take i,P y) (hx:l[i]? = some x) (hp:P x):∀ y ∈ l.take (i + 1),P y:=by
 intro y hy
 rw [ai7,hx] at hy
 rcases aiN.mp hy with hy | hy
 ·exact h y hy
 ·simp at hy;subst hy;exact hp
structure Se where
 q:ByteArray
 t:Int
 c:Int
 d:List ByteArray
 ttl:Int
 deriving DecidableEq
abbrev Se.k (x:Se):Qn:=⟨x.q,x.t,x.c⟩
abbrev Se.v (x:Se):AV:=oO x.q x.t x.c x.d x.ttl
def rS (x:Se):List FV:=[.str x.q,.int .i64 x.t,.int .i64 x.c,.sl (x.d.map bn),.int .i64 x.ttl]
end
section
attribute [local go_sem_proc] Nat.reduceAdd Nat.reduceMul Nat.reduceEqDiff Nat.reduceBEq Nat.reduceMod Nat.reduceDiv reduceCtorEq
attribute [local go_sem_proc ↓] reduceIte
open Go Ev
variable {ext : Env} {F n:Nat}
structure Th where
 jJ:ByteArray → Bool
 low:ByteArray → ByteArray
 Dg:Int → ByteArray → Bool
 lw:Int → ByteArray → ByteArray
structure Th.Dh (r:Bool) (θ:Th) (ext:Env):Prop where
 nc:∀ q,q.size ≤ 1000000 → ext 109 [vs q] = some ([vb (θ.jJ q)],[vs q])
 nl:∀ q,q.size ≤ 1000000 → ext 68 [vs q] = some ([vs (θ.low q)],[vs q])
 rc:r = true → ∀ q,q.size ≤ 1000000 → ext 42 [vs q] = some ([vb (θ.jJ q)],[vs q])
 rl:r = true → ∀ q,q.size ≤ 1000000 → ext 41 [vs q] = some ([vs (θ.low q)],[vs q])
 dc:∀ k q,q.size ≤ 1000000 → ext 128 [vi k,vs q] = some ([vb (θ.Dg k q)],[vi k,vs q])
 dl:∀ k q,q.size ≤ 1000000 → ext 132 [vi k,vs q] = some ([vs (θ.lw k q)],[vi k,vs q])
 ec:r = true → ∀ k q,q.size ≤ 1000000 → ext 118 [vi k,vs q] = some ([vb (θ.Dg k q)],[vi k,vs q])
 el:r = true → ∀ k q,q.size ≤ 1000000 → ext 119 [vi k,vs q] = some ([vs (θ.lw k q)],[vi k,vs q])
abbrev Th.Ok (θ:Th) (ext:Env):Prop:=θ.Dh true ext
variable {θ : Th}
theorem TG {rb:Bool} (T:θ.Dh rb ext) (q:ByteArray) (h:q.size ≤ 1000000):G ext F (n + 1) 109 [vs q] = some ([vb (θ.jJ q)],[vs q]):=(ai0 (gY rfl) _).trans (T.nc q h)
theorem Mt {rb:Bool} (T:θ.Dh rb ext) (q:ByteArray) (h:q.size ≤ 1000000):G ext F (n + 1) 68 [vs q] = some ([vs (θ.low q)],[vs q]):=(ai0 (gY rfl) _).trans (T.nl q h)
theorem aai {rb:Bool} (T:θ.Dh rb ext) (k:Int) (q:ByteArray) (h:q.size ≤ 1000000):G ext F (n + 1) 128 [vi k,vs q] = some ([vb (θ.Dg k q)],[vi k,vs q]):=(ai0 (gY rfl) _).trans (T.dc k q h)
theorem aaj {rb:Bool} (T:θ.Dh rb ext) (k:Int) (q:ByteArray) (h:q.size ≤ 1000000):G ext F (n + 1) 132 [vi k,vs q] = some ([vs (θ.lw k q)],[vi k,vs q]):=(ai0 (gY rfl) _).trans (T.dl k q h)
def Th.key (θ:Th) (q:ByteArray) (t c:Int):Bool:=decide (θ.jJ q = true ∧ θ.low q = q ∧ (0 ≤ t ∧ t ≤ 65535) ∧ (0 ≤ c ∧ c ≤ 65535))
def Th.dat (θ:Th) (t:Int) (d:List ByteArray):Bool:=decide ((∀ x ∈ d,θ.Dg t x = true ∧ θ.lw t x = x) ∧ d.Nodup)
def Th.set (θ:Th) (q:ByteArray) (t c:Int) (d:List ByteArray) (ttl:Int):Bool:=decide (θ.key q t c = true ∧ θ.dat t d = true ∧ (0 ≤ ttl ∧ ttl < 2147483648) ∧ d ≠ [])
theorem Ig {l:List ByteArray} {s:ByteArray}:xQ l s = true ↔ s ∈ l:=by
 unfold xQ
 rw [ajk]
 simp
theorem Mv {l:List ByteArray}:((l.map bn).all fun r=>r.length == 1) = true:=by
 rw [aiA]
 intro r hr
 obtain ⟨x, -,rfl⟩:=aiM.mp hr
 rfl
theorem Mw {t:Int} {d:List ByteArray} {i:Nat} {x:ByteArray} (hx:d[i]? = some x) (h:θ.dat t (d.take i) = true) (hc:θ.Dg t x = true) (hw:θ.lw t x = x) (hi:xQ (d.take i) x = false):θ.dat t (d.take (i + 1)) = true:=by
 unfold Th.dat at *
 have hi:¬ x ∈ d.take i:=fun h=>by rw [Ig.mpr h] at hi;cases hi
 rw [aiG] at *
 refine ⟨all_succ h.1 hx ⟨hc,hw⟩,?_⟩
 rw [ai7,hx,Option.toList_some]
 refine ajM.mpr ⟨h.2,List.pairwise_singleton _ _,fun a ha b hb=>?_⟩
 rw [aje] at hb;subst hb;rintro rfl;exact hi ha
theorem F6 {t:Int} {d:List ByteArray} {i:Nat} {x:ByteArray} (hx:d[i]? = some x) (h:θ.Dg t x = false ∨ θ.lw t x ≠ x ∨ xQ (d.take i) x = true):θ.dat t d = false:=by
 unfold Th.dat
 rw [ajf]
 rintro ⟨h1,h2⟩
 have hm:=h1 x (ajn hx)
 rcases h with h | h | h
 ·rw [h] at hm;simp at hm
 ·exact h hm.2
 ·rw [Ig,aj9] at h
  obtain ⟨j,hj,he⟩:=h
  have h3:=ajb.mp hx
  exact List.pairwise_iff_getElem.mp h2 j i (by omega) h3.1 (by omega) (by rw [he,h3.2])
theorem Ao {rb:Bool} (T:θ.Dh rb ext) (q:ByteArray) (t c:Int) (d:List ByteArray) (ttl:Int) (hl:d.length ≤ 1000000000000) (hF:200000000000001 ≤ F) (hq:q.size ≤ 1000000) (hd:∀ x ∈ d,x.size ≤ 1000000):G ext F (n + 3) 113 [oO q t c d ttl] = some ([vb (θ.set q t c d ttl)],[oO q t c d ttl]):=by
 refine dB (cf:=Qf) rfl ?_
 have h1:=fun n=>TG (F:=F) (n:=n) T q hq
 have h2:=fun n=>Mt (F:=F) (n:=n) T q hq
 dsimp only [Qf,au,bY,aZ,bH,aG,bE,dR,eu,dA,aD,bT,dh,bJ,aQ];simp only [h1,h2,TD,go_sem]
 repeat' (refine dM (fun h=>?_) (fun h=>?_) <;> simp only [h,h1,h2,TD,go_sem])
 ·refine kQ d.length (fun i=>⟨[(1,PV.c (CV.one (PL.ptr 40000 0))),(3,PV.c (CV.one (PL.ptr 80000 0))),(39,PV.c (CV.one (PL.f (FV.sl (List.map bn d))))),(40,PV.c (CV.one (PL.f (FV.int IntKind.i64 (List.map bn d).length)))),(41,PV.c (CV.one (PL.f (FV.int .i64 i))))],[(40000,.eH [.f (.str q),.f (.int .i64 t),.f (.int .i64 c),.f (.sl (d.map bn)),.f (.int .i64 ttl)]),(80000,Ob.eH [PL.f (FV.str q),PL.f (FV.int IntKind.i64 t),PL.f (FV.int IntKind.i64 c)])]⟩) (fun i=>θ.dat t (d.take i) = true) (by omega) rfl (by simp [Th.dat]) (fun i hi hP=>?_) (fun hP=>?_)
  ·obtain ⟨x,hx,hlt,ht,h0⟩:=at_ hi
   have hn:=nx hi (aiH hl (by decide))
   have h1:=fun n=>aai (F:=F) (n:=n) T t x (hd x (ajn hx))
   have h2:=fun n=>aaj (F:=F) (n:=n) T t x (hd x (ajn hx))
   have h3:=fun n=>Ec (ext:=ext) (F:=F) (n:=n) (d.take i) x (by simp;omega) hF
   have hle:(i:Int) ≤ (d.length:Int):=by omega
   have hrw:=@Mv d
   have hcut:(0:Int) ≤ i ∧ (i:Int) ≤ d.length:=by omega
   simp only [aio,ait,hlt,hx,ht,h0,bn,h1,h2,h3,go_sem]
   repeat' (refine dM (fun h=>?_) (fun h=>?_) <;> simp only [h,aio,ait,hlt,hx,ht,h0,hn,bn,h1,h2,h3,hle,hrw,← List.map_take,ajs,Nat.sub_zero,hcut,go_sem])
   ·simp [Th.set,F6 hx (.inr (.inr h))]
   ·exact Mw hx hP (by assumption) (aiI (by assumption)) h
   ·simp [Th.set,F6 hx (.inr (.inl (of_decide_eq_false h)))]
   ·simp [Th.set,F6 hx (.inl h)]
  ·have hd:=@end_ _ d
   rw [ai2] at hP
   simp only [aio,hd,go_sem]
   repeat' (refine dM (fun h=>?_) (fun h=>?_) <;> simp only [h,aio,hd,go_sem])
   all_goals (simp [Th.set,Th.key,hP];simp_all)
   all_goals (cases d <;> simp <;> omega)
 all_goals (simp [Th.set,Th.key];try simp_all)
 all_goals (try omega)
end
section
open Go Ev
variable {ext : Env} {F n:Nat} {θ:Th}
structure Sr where
 room:Int
 l:List It
 ch:Int
abbrev Sr.v (s:Sr):AV:=vst s.room s.l s.ch
abbrev It.v (x:It):AV:=vit x.q x.t x.c x.d x.ttl x.u x.r
def it0 : It:=⟨⟨#[]⟩,0,0,[],0,0,0⟩
def old (l:List It) (k:Qn):Option It:=l.find? fun x=>decide (x.k = k)
def rid (l:List It) (k:Qn):List It:=l.eraseP fun x=>decide (x.k = k)
end
section
attribute [local go_sem_proc] Nat.reduceAdd Nat.reduceMul Nat.reduceEqDiff Nat.reduceBEq Nat.reduceMod Nat.reduceDiv reduceCtorEq
attribute [local go_sem_proc ↓] reduceIte
open Go Ev
variable {ext : Env} {F n:Nat}
theorem xR {α:Type} {body:St → Option (Out × St)} {rs:St → St} {k:Out × St → Prop} {u:Tok k} {F:Nat} {σ:St} (N:Nat) (T:α → St) (P:Nat → α → Prop) (hF:N < F) (x:α) (hs:rs σ = T x) (h0:P 0 x)
  (step:∀ i x,i < N → P i x → W (fun p=>match p.1 with
   | .iV=>∃ y,rs p.2 = T y ∧ P (i + 1) y
   | o=>k (o,p.2)) ⟨⟩ (body (T x)))
  (last:∀ x,P N x → W (fun p=>match p.1 with
   | .iV=>False
   | o=>k (o,p.2)) ⟨⟩ (body (T x))):W k u (iter body rs F σ):=by
 refine Cg (fun m σ=>∃ i x,i ≤ N ∧ m = N - i ∧ rs σ = T x ∧ P i x) ?_ F N σ hF ⟨0,x,aiU _,rfl,hs,h0⟩
 rintro m σ ⟨i,x,hi,rfl,hr,hP⟩
 rw [hr]
 by_cases hlt:i < N
 ·refine uL (step i x hlt hP) fun p hp=>?_
  obtain ⟨o,s⟩:=p
  cases o with
  | iV =>
   obtain ⟨y,h1,h2⟩:=hp
   exact ⟨N - (i + 1),by omega,i + 1,y,by omega,rfl,h1,h2⟩
  | ext j=>exact hp
  | ret=>exact hp
 ·have:i = N:=by omega
  subst this
  refine uL (last x hP) fun p hp=>?_
  obtain ⟨o,s⟩:=p
  cases o with
  | iV=>exact hp.elim
  | ext j=>exact hp
  | ret=>exact hp
abbrev Qn.f (k:Qn):List FV:=[.str k.q,.int .i64 k.t,.int .i64 k.c]
abbrev fnQ (k:Qn):AV:=.one (.fn 135 [k.f])
theorem Mx (x k:Qn):G ext F (n + 1) 135 [vq x.q x.t x.c,.one (.fp k.f)] = some ([vb (decide (x = k))],[vq x.q x.t x.c,.one (.fp k.f)]):=by
 refine dB (cf:=Qj) rfl ?_
 dsimp only [Qj,au,bY,aZ,bH,aG,bE,dR,eu,dA,aD,bT,dh,bJ,aQ];simp only [go_sem]
 cases x;cases k;simp
def TH (l:List Qn) (k:Qn):Int:=match l.findIdx? fun x=>decide (x = k) with | some i=>i | none=>-1
theorem V4 {l:List Qn} {k:Qn} (h:∀ x ∈ l,x ≠ k):TH l k = -1:=by
 have:l.findIdx? (fun x=>decide (x = k)) = none:=ajR.mpr fun x hx=>by simpa using h x hx
 simp [TH,this]
theorem V5 {l:List Qn} {k:Qn} {i:Nat} {x:Qn} (h:∀ x ∈ l.take i,x ≠ k) (hx:l[i]? = some x) (hk:x = k):TH l k = i:=by
 have hi:=(ajb.mp hx)
 have:l.findIdx? (fun x=>decide (x = k)) = some i:=by
  refine ajF.mpr ⟨hi.1,by simp [hi.2,hk],fun j hj=>?_⟩
  have:=h (l[j]'(by have:=hi.1;omega)) (by rw [aj9];exact ⟨j,by have:=hi.1;omega,rfl⟩)
  simpa using this
 simp [TH,this]
theorem V6 (l:List Qn) (k:Qn):(TH l k = -1 ∧ ∀ x ∈ l,x ≠ k) ∨ ∃ (i:Nat),TH l k = (i:Int) ∧ ∃ h:i < l.length,(∀ x ∈ l.take i,x ≠ k) ∧ l[i] = k:=by
 have hp:TH l k = match l.findIdx? fun x=>decide (x = k) with | some i=>(i:Int) | none=>-1:=rfl
 cases h:l.findIdx? fun x=>decide (x = k) with
 | none =>
  rw [h] at hp
  exact .inl ⟨hp,fun x hx=>by simpa using ajR.mp h x hx⟩
 | some i =>
  rw [h] at hp
  obtain ⟨hi,hx,hb⟩:=ajF.mp h
  refine .inr ⟨i,hp,hi,fun x hx=>?_,by simpa using hx⟩
  obtain ⟨j,hj,rfl⟩:=aj9.mp hx
  have:=hb j (by omega)
  simpa using this
theorem Cm (l:List Qn) (k:Qn) (hl:l.length ≤ 1000000000000) (hF:200000000000001 ≤ F):G ext F (n + 2) 149 [vl (l.map rQ),fnQ k] = some ([vi (TH l k)],[vl (l.map rQ),fnQ k]):=by
 refine dB (cf:=Qm) rfl ?_
 dsimp only [Qm,au,bY,aZ,bH,aG,bE,dR,eu,dA,aD,bT,dh,bJ,aQ];simp only [go_sem]
 refine kQ l.length (fun i=>⟨[(0,PV.c (CV.one (PL.f (FV.sl (l.map rQ))))),(1,PV.c (CV.one (PL.fn 135 [k.f]))),(7,PV.c (CV.one (PL.f (FV.int .i64 (l.map rQ).length)))),(8,PV.c (CV.one (PL.f (FV.int .i64 i))))],[]⟩) (fun i=>∀ x ∈ l.take i,x ≠ k) (by omega) rfl (by simp) (fun i hi hP=>?_) (fun hP=>?_)
 ·obtain ⟨x,hx,hd,ht,h0⟩:=at_ hi
  have hn:=nx hi (aiH hl (by decide))
  have hq:=fun n=>Mx (ext:=ext) (F:=F) (n:=n) x k
  simp only [aio,ait,hd,hx,ht,h0,rQ,hq,go_sem]
  repeat' (refine dM (fun h=>?_) (fun h=>?_) <;> simp only [h,aio,ait,hd,hx,ht,h0,hn,rQ,hq,go_sem])
  ·rw [V5 hP hx (by simpa using h)]
  ·exact all_succ hP hx (by simpa using h)
 ·have hd:=@end_ _ l
  simp only [aio,hd,go_sem]
  repeat' (refine dM (fun h=>?_) (fun h=>?_) <;> simp only [h,aio,hd,go_sem])
  rw [ai2] at hP
  rw [V4 hP]
theorem QH {l:List Qn} {k x:Qn} {i:Nat} (h:l[i]? = some x):(l.take (i + 1)).filter (fun y=>decide (y ≠ k)) = (l.take i).filter (fun y=>decide (y ≠ k)) ++ if x = k then [] else [x]:=by
 rw [ai7,List.filter_append,h]
 by_cases hx:x = k <;> simp [hx]
theorem zC (l:List Qn) (k:Qn) (hl:l.length ≤ 1000000000000) (hF:200000000000001 ≤ F):G ext F (n + 3) 134 [.one (.own 3 (l.map rQ)),fnQ k] = some ([.one (.own 3 ((l.filter fun x=>decide (x ≠ k)).map rQ))],[.one .any,fnQ k]):=by
 refine dB (cf:=Qi) rfl ?_
 have h1:=fun n=>Cm (ext:=ext) (F:=F) (n:=n) l k hl hF
 dsimp only [Qi,au,bY,aZ,bH,aG,bE,dR,eu,dA,aD,bT,dh,bJ,aQ];simp only [h1,go_sem]
 rcases V6 l k with ⟨hp,hno⟩ | ⟨i0,hp,hi0,hpre,hat⟩
 ·rw [hp]
  simp only [show decide ((-1:Int) = -1) = true from rfl,go_sem]
  rw [List.filter_eq_self.mpr (fun x hx=>by simpa using hno x hx)]
 ·rw [hp]
  have hne:decide ((i0:Int) = -1) = false:=by simp
  simp only [hne,nx hi0 (aiH hl (by decide)),aio,go_sem]
  refine xR (l.length - (i0 + 1)) (fun x:List Qn × Nat × Nat=>⟨[(0,PV.c (CV.one (PL.own 20202 x.1.length))),(1,PV.c (CV.one (PL.fn 135 [k.f]))),(5,PV.c (CV.one (PL.f (FV.int IntKind.i64 x.2.1)))),(6,PV.c (CV.one (PL.f (FV.int IntKind.i64 x.2.2))))],[(20202,Ob.row 3 (x.1.map rQ))]⟩) (fun r x=>x.2.2 = i0 + 1 + r ∧ x.2.1 < x.2.2 ∧ x.1.length = l.length ∧ x.1.take x.2.1 = (l.take x.2.2).filter (fun y=>decide (y ≠ k)) ∧ x.1.drop x.2.2 = l.drop x.2.2) (by omega) (l,i0,i0 + 1) rfl ⟨rfl,Nat.lt_succ_self _,rfl,?_,rfl⟩ (fun r x hr hP=>?_) (fun x hP=>?_)
  ·rw [ai7,List.filter_append,List.filter_eq_self.mpr (fun x hx=>by simpa using hpre x hx),aiB hi0]
   simp [hat]
  ·obtain ⟨R,c,j⟩:=x
   obtain ⟨rfl,hc,hlen,htk,hdr⟩:=hP
   simp only at hc hlen htk hdr ⊢
   have hj:i0 + 1 + r < R.length:=by omega
   obtain ⟨x,hx,hd,ht,h0⟩:=at_ hj
   have hn:=nx hj (by omega)
   have hq:=fun n=>Mx (ext:=ext) (F:=F) (n:=n) x k
   have hlt:((i0 + 1 + r:Nat):Int) < (R.length:Int):=by omega
   have hcR:c < R.length:=by omega
   obtain ⟨y,hy,hcd,hct,hc0⟩:=at_ hcR
   have hcl:(c:Int) < (R.length:Int):=by omega
   have hcn:=nx hcR (by omega)
   simp only [aio,ait,hd,hx,ht,h0,rQ,hq,hlt,go_sem]
   repeat' (refine dM (fun h=>?_) (fun h=>?_) <;> simp only [h,aio,ait,hd,hx,ht,h0,hn,rQ,hq,hlt,hy,hct,hc0,hcl,hcn,go_sem])
   all_goals
    have hxl:l[i0 + 1 + r]? = some x:=by
     have:=aiK (fun z:List Qn=>z[0]?) hdr
     simp only [aji,Nat.add_zero,hx] at this
     exact this.symm
    have hdr':List.drop (i0 + 1 + r + 1) R = List.drop (i0 + 1 + r + 1) l:=by
     have:=aiK (List.drop 1) hdr
     simpa only [List.drop_drop] using this
    have hft:=QH (k:=k) hxl
   ·simp only [aiG] at h
    rw [ail h,ajm] at hft
    exact ⟨(R,c,i0 + 1 + r + 1),rfl,rfl,by show c < i0 + 1 + r + 1;omega,hlen,by rw [hft];exact htk,hdr'⟩
   ·simp only [ajf] at h
    rw [ain h] at hft
    refine ⟨(R.set c x,c + 1,i0 + 1 + r + 1),?_,rfl,by show c + 1 < i0 + 1 + r + 1;omega,by simp [hlen],?_,?_⟩
    ·simp [ajG,rQ]
    ·show List.take (c + 1) (R.set c x) = _
     rw [hft,ai7,List.take_set,List.set_eq_of_length_le (by simp;omega),htk,List.getElem?_set_self hcR]
     rfl
    ·show List.drop _ (R.set c x) = _
     rw [List.drop_set_of_lt (show c < i0 + 1 + r + 1 by omega)]
     exact hdr'
  ·obtain ⟨R,c,j⟩:=x
   obtain ⟨rfl,hc,hlen,htk,hdr⟩:=hP
   simp only at hc hlen htk hdr ⊢
   have hj:i0 + 1 + (l.length - (i0 + 1)) = R.length:=by omega
   rw [hj]
   rw [hj,ajX (l:=l) (i:=R.length) (by omega)] at htk
   have hd:=@end_ _ R
   have hct:(c:Int).toNat = c:=by simp
   have htt:List.take c (List.take c (List.map rQ R) ++ List.replicate (R.length - c) [FV.str ⟨#[]⟩,FV.int IntKind.i64 0,FV.int IntKind.i64 0]) = (l.filter fun y=>decide (y ≠ k)).map rQ:=by
    rw [aj7 (by simp;omega),List.take_take,Nat.min_self,← List.map_take,htk]
   simp only [aio,hd,go_sem]
   repeat' (refine dM (fun h=>?_) (fun h=>?_) <;> simp only [h,aio,hd,go_sem])
   rw [hct]
   exact ⟨by omega,by omega,⟨by omega,by simp;omega⟩,by rw [htt]⟩
structure lQ (ext:Env):Prop where
 cq:∀ l:List Qn,l.length ≤ 1000000 → ext 115 [vl (l.map rQ)] = some ([.one (.own 3 (l.map rQ))],[vl (l.map rQ)])
 cs:∀ l:List ByteArray,l.length ≤ 1000000 → ext 72 [vl (l.map bn)] = some ([vl (l.map bn)],[vl (l.map bn)])
theorem MB (C:lQ ext) (l:List Qn) (h:l.length ≤ 1000000):G ext F (n + 1) 115 [vl (l.map rQ)] = some ([.one (.own 3 (l.map rQ))],[vl (l.map rQ)]):=(ai0 (gY rfl) _).trans (C.cq l h)
theorem MC (C:lQ ext) (l:List ByteArray) (h:l.length ≤ 1000000):G ext F (n + 1) 72 [vl (l.map bn)] = some ([vl (l.map bn)],[vl (l.map bn)]):=(ai0 (gY rfl) _).trans (C.cs l h)
def Di (l:List Qn) (k:Qn):List Qn:=l.filter fun x=>decide (x ≠ k)
theorem sV {l:List Qn} {k:Qn}:(Di l k).length ≤ l.length:=List.length_filter_le ..
theorem ME (C:lQ ext) (l:List Qn) (k:Qn) (hl:l.length ≤ 1000000) (hF:200000000000001 ≤ F):G ext F (n + 4) 116 [vl (l.map rQ),vq k.q k.t k.c] = some ([.one (.own 3 ((Di l k).map rQ))],[vl (l.map rQ),vq k.q k.t k.c]):=by
 refine dB (cf:=c116) rfl ?_
 have h1:=fun n=>MB (F:=F) (n:=n) C l hl
 have h2:=fun n=>zC (ext:=ext) (F:=F) (n:=n) l k (by omega) hF
 dsimp only [c116,au,bY,aZ,bH,aG,bE,dR,eu,dA,aD,bT,dh,bJ,aQ];simp only [h1,h2,go_sem]
 rfl
theorem Ee (C:lQ ext) (l:List Qn) (k:Qn) (hl:l.length ≤ 1000000) (hF:200000000000001 ≤ F):G ext F (n + 5) 86 [vl (l.map rQ),vq k.q k.t k.c] = some ([vl ((Di l k ++ [k]).map rQ)],[vl (l.map rQ),vq k.q k.t k.c]):=by
 refine dB (cf:=c86) rfl ?_
 have h1:=fun n=>ME (ext:=ext) (F:=F) (n:=n) C l k hl hF
 have hl2:=@sV l k
 dsimp only [c86,au,bY,aZ,bH,aG,bE,dR,eu,dA,aD,bT,dh,bJ,aQ];simp only [h1,aio,go_sem]
 have hsz:((Di l k).length + 1) * 32 ≤ 140737488355328:=by omega
 simp [rQ,hsz]
theorem aak (l:List Qn):((l.map rQ).all fun r=>r.length == 3) = true:=by
 rw [aiA]
 intro r hr
 obtain ⟨x, -,rfl⟩:=aiM.mp hr
 rfl
theorem MF (C:lQ ext) (l:List Qn) (most:Int) (hl:l.length ≤ 1000000) (hm:0 ≤ most ∧ most ≤ 1000000000000) (hF:200000000000001 ≤ F):G ext F (n + 2) 85 [vl (l.map rQ),vi most] = some ([vl ((l.drop (l.length - most.toNat)).map rQ),vl ((l.take (l.length - most.toNat)).map rQ)],[vl (l.map rQ),vi most]):=by
 refine dB (cf:=c85) rfl ?_
 have h1:=fun n=>MB (F:=F) (n:=n) C (l.drop (l.length - most.toNat)) (by simp;omega)
 have h2:=fun n=>MB (F:=F) (n:=n) C (l.take (l.length - most.toNat)) (by simp;omega)
 obtain ⟨a,ha⟩:∃ a,a = l.length - most.toNat:=⟨_,rfl⟩
 rw [← ha] at h1 h2 ⊢
 have hc:IntKind.i64.wrap ((l.length:Int) - if (if (l.length:Int) < most then (l.length:Int) else most) < 0 then 0 else if (l.length:Int) < most then (l.length:Int) else most) = (a:Int):=by
  rw [pK (by split <;> split <;> omega) (by split <;> split <;> omega)]
  split <;> split <;> omega
 have hat:(a:Int).toNat = a:=by simp
 have hc1:(0:Int) ≤ a ∧ (a:Int) ≤ (l.length:Int):=by omega
 have hk1:List.take (l.length - a) (List.drop a (l.map rQ)) = (l.drop a).map rQ:=by rw [ajX (by simp),List.map_drop]
 have hk2:List.take a (l.map rQ) = (l.take a).map rQ:=List.map_take.symm
 dsimp only [c85,au,bY,aZ,bH,aG,bE,dR,eu,dA,aD,bT,dh,bJ,aQ];simp only [aio,hc,hat,hc1,hk1,hk2,h1,h2,aak l,ajs,Nat.sub_zero,go_sem]
end
section
attribute [local go_sem_proc] Nat.reduceAdd Nat.reduceMul Nat.reduceEqDiff Nat.reduceBEq Nat.reduceMod Nat.reduceDiv reduceCtorEq
attribute [local go_sem_proc ↓] reduceIte
open Go Ev
variable {ext : Env} {F n:Nat} {θ:Th}
abbrev lD : KS:=.agg [.str,.int .i64,.int .i64]
abbrev kq (k:Qn):KV:=.agg [.str k.q,.int .i64 k.t,.int .i64 k.c]
def ent (x:It):KV × FC:=(kq x.k,.agg (rI x))
structure Sv where
 room:Int
 m:List It
 o:List Qn
 ch:Int
abbrev Sv.v (s:Sv):AV:=.one (.ptr [.f (.int .i64 s.room),.mp lD (s.m.map ent),.f (.sl (s.o.map rQ)),.f (.int .i64 s.ch)])
def svo : Option Sv → AV
 | some s=>s.v
 | none=>.one .iI
theorem Ef (s:Sv):svo (some s) = s.v:=rfl
theorem F7 {a b:Qn}:kq a = kq b ↔ a = b:=by
 constructor
 ·intro h;simp only [kq,KV.agg.injEq,ajD,SV.str.injEq,SV.int.injEq] at h
  cases a;cases b;simp_all
 ·rintro rfl;rfl
theorem mg (l:List It) (k:Qn):wO (l.map ent) (kq k) = l.findIdx? fun x=>decide (x.k = k):=by
 unfold wO
 rw [List.map_map,List.findIdx?_map]
 refine aiK (fun p=>List.findIdx? p l) (funext fun x=>?_)
 simp only [Function.comp,ent]
 by_cases h:x.k = k
 ·simp [h]
 ·have:¬ kq x.k = kq k:=fun e=>h (F7.mp e)
  simp only [this,h,decide_false]
theorem pQ (l:List It) (k:Qn):rV (l.map ent) (kq k) = (old l k).map fun x=>.agg (rI x):=by
 have hf:old l k = (l.findIdx? fun x=>decide (x.k = k)).bind fun i=>l[i]?:=List.find?_eq_bind_findIdx?_getElem? ..
 unfold rV
 rw [mg,hf]
 cases l.findIdx? fun x=>decide (x.k = k) with
 | none=>rfl
 | some i=>simp only [Option.bind_some,ait];cases l[i]? <;> rfl
theorem xS (l:List It) (k:Qn):Bo (l.map ent) (kq k) = (rid l k).map ent:=by
 unfold Bo rid
 rw [mg,List.eraseP_eq_eraseIdx]
 cases l.findIdx? fun x=>decide (x.k = k) with
 | none=>rfl
 | some i=>simp [List.eraseIdx_eq_take_drop_succ,List.map_take,List.map_drop]
def upd (l:List It) (x:It):List It:=match l.findIdx? fun y=>decide (y.k = x.k) with
 | some i=>l.set i x
 | none=>l ++ [x]
theorem xU (l:List It) (x:It):wP (l.map ent) (kq x.k) (.agg (rI x)) = (upd l x).map ent:=by
 unfold wP upd
 rw [mg]
 cases l.findIdx? fun y=>decide (y.k = x.k) with
 | none=>simp [ent]
 | some i=>simp [ajG,ent]
theorem MG (room:Int):G ext F (n + 1) 48 [vi room] = some ([svo (if room < 1 ∨ 1000 < room then none else some ⟨room,[],[],0⟩)],[vi room]):=by
 refine dB (cf:=c48) rfl ?_
 dsimp only [c48,au,bY,aZ,bH,aG,bE,dR,eu,dA,aD,bT,dh,bJ,aQ];simp only [go_sem]
 repeat' (refine dM (fun h=>?_) (fun h=>?_) <;> simp only [h,go_sem])
 all_goals (simp only [aiG,ajf] at *)
 all_goals first | rw [ail (by omega)] | rw [ain (by omega)]
 all_goals rfl
theorem Eh (C:lQ ext) (x:It) (hx:x.d.length ≤ 1000000):G ext F (n + 2) 79 [x.v] = some ([x.v],[x.v]):=by
 refine dB (cf:=c79) rfl ?_
 have h1:=fun n=>MC (F:=F) (n:=n) C x.d hx
 dsimp only [c79,au,bY,aZ,bH,aG,bE,dR,eu,dA,aD,bT,dh,bJ,aQ];simp only [h1,go_sem]
def bB (s:Sv) (now:Int) (k:Qn):It × Bool:=match old s.m k with
 | some x=>if jE now x.u then (x,true) else (it0,false)
 | none=>(it0,false)
theorem Ih (C:lQ ext) (s:Sv) (now:Int) (k:Qn) (hd:∀ x ∈ s.m,x.d.length ≤ 1000000):G ext F (n + 3) 43 [s.v,vi now,vq k.q k.t k.c] = some ([(bB s now k).1.v,vb (bB s now k).2],[s.v,vi now,vq k.q k.t k.c]):=by
 refine dB (cf:=c43) rfl ?_
 have hk:=pQ s.m k
 unfold bB
 cases ho:old s.m k with
 | none =>
  rw [ho] at hk
  dsimp only [c43,au,bY,aZ,bH,aG,bE,dR,eu,dA,aD,bT,dh,bJ,aQ];simp only [hk,Option.map_none,Option.isSome_none,go_sem]
  rfl
 | some x =>
  rw [ho] at hk
  have h1:=fun n=>Eh (F:=F) (n:=n) C x (hd x (akf ho))
  cases hv:jE now x.u
  all_goals
   dsimp only [c43,au,bY,aZ,bH,aG,bE,dR,eu,dA,aD,bT,dh,bJ,aQ];simp only [hk,Option.map_some,Option.isSome_some,rI,jy,hv,h1,go_sem]
  rfl
def JD (θ:Th) (s:Sv) (now:Int) (x:It):Int :=
 if x.u < 0 ∨ θ.set x.q x.t x.c x.d x.ttl = false ∨ x.r < 1 ∨ 5 < x.r then 1
 else if jE now x.u = false then 14
 else match old s.m x.k with
  | some o=>if Ma o.r (jE now o.u) x.r = false then 10 else 0
  | none=>0
theorem MH (now:Int) (x:It):G ext F (n + 4) 84 [.one .iI,vi now,x.v] = some ([vi 1],[.one .iI,vi now,x.v]):=by
 refine dB (cf:=VU) rfl ?_
 dsimp only [VU,au,bY,aZ,bH,aG,bE,dR,eu,dA,aD,bT,dh,bJ,aQ];simp only [go_sem]
theorem V7 {rb:Bool} (T:θ.Dh rb ext) (s:Sv) (now:Int) (x:It) (hF:200000000000001 ≤ F) (hq:x.q.size ≤ 1000000) (hn:x.d.length ≤ 1000000) (hd:∀ y ∈ x.d,y.size ≤ 1000000):G ext F (n + 4) 84 [s.v,vi now,x.v] = some ([vi (JD θ s now x)],[s.v,vi now,x.v]):=by
 refine dB (cf:=VU) rfl ?_
 have hk:=pQ s.m x.k
 have h1:=fun n=>Ao (ext:=ext) (F:=F) (n:=n) T x.q x.t x.c x.d x.ttl (by omega) hF hq hd
 unfold JD
 cases hold:old s.m x.k with
 | none =>
  rw [hold] at hk
  dsimp only [VU,au,bY,aZ,bH,aG,bE,dR,eu,dA,aD,bT,dh,bJ,aQ];simp only [h1,hk,jy,Option.map_none,Option.isSome_none,go_sem]
  repeat' (refine dM (fun h=>?_) (fun h=>?_) <;> simp only [h,h1,hk,jy,Option.map_none,Option.isSome_none,go_sem])
  all_goals clear h1 hk
  all_goals simp only [aiG,ajf] at *
  all_goals simp [*]
 | some o =>
  rw [hold] at hk
  dsimp only [VU,au,bY,aZ,bH,aG,bE,dR,eu,dA,aD,bT,dh,bJ,aQ];simp only [h1,hk,jy,H9,Option.map_some,Option.isSome_some,rI,go_sem]
  repeat' (refine dM (fun h=>?_) (fun h=>?_) <;> simp only [h,h1,hk,jy,H9,Option.map_some,Option.isSome_some,rI,go_sem])
  all_goals clear h1 hk
  all_goals simp only [aiG,ajf] at *
  all_goals simp [*]
end
section
open Go Ev
variable {ext : Env} {F n:Nat} {θ:Th}
abbrev Se.it (x:Se) (u r:Int):It:=⟨x.q,x.t,x.c,x.d,x.ttl,u,r⟩
def uN (θ:Th) (s:Sv) (now:Int) (x:Se) (r:Int):Sv × Int :=
 let it:=x.it (fI now x.ttl) r
 if JD θ s now it ≠ 0 then (s,JD θ s now it)
 else
  let t:=Di s.o x.k ++ [x.k]
  (⟨s.room,(t.take (t.length - s.room.toNat)).foldl rid (upd s.m it),t.drop (t.length - s.room.toNat),s.ch + 1⟩,0)
structure Ap (θ:Th) (ext:Env):Prop where
 p0:∀ now x r,ext 50 [.one .iI,vi now,Se.v x,vi r] = some ([vi 1],[.one .iI,vi now,x.v,vi r])
 p1:∀ (s:Sv) now (x:Se) r,0 ≤ s.room ∧ s.room ≤ 1000000 → 0 ≤ s.ch ∧ s.ch ≤ 1000000000000 → s.o.length ≤ 100000 → s.m.length ≤ 100000 → x.q.size ≤ 1000000 → x.d.length ≤ 1000000 → (∀ y ∈ x.d,y.size ≤ 1000000) →
  ext 50 [s.v,vi now,x.v,vi r] = some ([vi (uN θ s now x r).2],[(uN θ s now x r).1.v,vi now,x.v,vi r])
theorem MI (Q:Ap θ ext) (s:Sv) (now:Int) (x:Se) (r:Int) (h1:0 ≤ s.room ∧ s.room ≤ 1000000) (h2:0 ≤ s.ch ∧ s.ch ≤ 1000000000000) (h3:s.o.length ≤ 100000) (h3':s.m.length ≤ 100000) (h4:x.q.size ≤ 1000000) (h5:x.d.length ≤ 1000000) (h6:∀ y ∈ x.d,y.size ≤ 1000000):G ext F (n + 1) 50 [s.v,vi now,x.v,vi r] = some ([vi (uN θ s now x r).2],[(uN θ s now x r).1.v,vi now,x.v,vi r]):=(ai0 (gY rfl) _).trans (Q.p1 s now x r h1 h2 h3 h3' h4 h5 h6)
abbrev na : ByteArray:=⟨#[1,97,0]⟩
abbrev nb : ByteArray:=⟨#[1,98,0]⟩
abbrev nc_ : ByteArray:=⟨#[1,99,0]⟩
abbrev dd : ByteArray:=⟨#[49,49,49,49]⟩
abbrev sa : Se:=⟨na,1,1,[dd],5⟩
abbrev sb : Se:=⟨nb,1,1,[dd],5⟩
abbrev sc : Se:=⟨nc_,1,1,[dd],5⟩
abbrev sz : Se:=⟨na,1,1,[dd],0⟩
abbrev t0 : Sv:=⟨2,[],[],0⟩
abbrev t1 : Sv:=⟨2,[sa.it 6 5],[sa.k],1⟩
abbrev t2 : Sv:=⟨2,[sa.it 6 5,sb.it 6 3],[sa.k,sb.k],2⟩
abbrev t3 : Sv:=⟨2,[sa.it 6 5,sb.it 6 3],[sb.k,sa.k],2⟩
abbrev t4 : Sv:=⟨2,[sa.it 6 5,sc.it 7 1],[sa.k,sc.k],3⟩
abbrev t5 : Sv:=⟨2,[sc.it 7 1],[sc.k],4⟩
end
section
open Go Ev
variable {θ : Th}
abbrev ks (l:List It):List Qn:=l.map It.k
theorem jT {l:List It} {b:Qn} {x:It} (h:old l b = some x):x.k = b ∧ x ∈ l:=⟨by simpa using List.find?_some h,akf h⟩
theorem sW {l:List It} {a:Qn}:(rid l a).Sublist l:=List.eraseP_sublist ..
theorem uO {l:List It} {a:Qn} (h:(ks l).Nodup):(ks (rid l a)).Nodup:=(sW.map _).nodup h
theorem rJ (l:List It) (x:It):(x.k ∉ ks l ∧ upd l x = l ++ [x]) ∨ ∃ a y b,l = a ++ y :: b ∧ y.k = x.k ∧ x.k ∉ ks a ∧ upd l x = a ++ x :: b:=by
 unfold upd
 cases h:l.findIdx? fun y=>decide (y.k = x.k) with
 | none =>
  refine .inl ⟨fun hm=>?_,rfl⟩
  obtain ⟨y,hy,hk⟩:=aiM.mp hm
  have:=ajR.mp h y hy
  simp [hk] at this
 | some i =>
  obtain ⟨hi,hx,hb⟩:=ajF.mp h
  refine .inr ⟨l.take i,l[i],l.drop (i + 1),?_,by simpa using hx,fun hm=>?_,?_⟩
  ·rw [List.getElem_cons_drop,aj8]
  ·obtain ⟨y,hy,hk⟩:=aiM.mp hm
   obtain ⟨j,hj,rfl⟩:=aj9.mp hy
   have:=hb j (by omega)
   simp [hk] at this
  ·simp only [List.set_eq_take_append_cons_drop,hi,aiV]
theorem uP {l:List It} {x:It} (h:(ks l).Nodup):(ks (upd l x)).Nodup:=by
 rcases rJ l x with ⟨hn,hu⟩ | ⟨a,y,c,rfl,hy,ha,hu⟩
 ·rw [hu]
  simp only [ks,ajL,aiy,aiF]
  refine ajM.mpr ⟨h,List.pairwise_singleton _ _,fun p hp q hq=>?_⟩
  rw [aje] at hq;subst hq;rintro rfl;exact hn hp
 ·rw [hu]
  have:ks (a ++ x :: c) = ks (a ++ y :: c):=by simp [ks,hy]
  rw [this];exact h
end
end Go.Proofs.YtfokaoeinpnagaaGreat.Kc
namespace Go.Proofs.YtfokaoeinpnagaaGreat.Kc.Ne
section
open Go Ev
variable {ext : Env} {F n:Nat} {θ:Th}
structure Nt where
 k:Qn
 nx:Bool
 s:Se
 u:Int
 deriving DecidableEq
def rN (x:Nt):List FV:=[.str x.k.q,.int .i64 x.k.t,.int .i64 x.k.c,.bool x.nx,.str x.s.q,.int .i64 x.s.t,.int .i64 x.s.c,.sl (x.s.d.map bn),.int .i64 x.s.ttl,.int .i64 x.u]
abbrev Nt.v (x:Nt):AV:=.agg [.f (.str x.k.q),.f (.int .i64 x.k.t),.f (.int .i64 x.k.c),.f (.bool x.nx),.f (.str x.s.q),.f (.int .i64 x.s.t),.f (.int .i64 x.s.c),.f (.sl (x.s.d.map bn)),.f (.int .i64 x.s.ttl),.f (.int .i64 x.u)]
abbrev _root_.Go.Proofs.YtfokaoeinpnagaaGreat.Kc.Qn.v (k:Qn):AV:=vq k.q k.t k.c
def nt0 : Nt:=⟨⟨⟨#[]⟩,0,0⟩,false,⟨⟨#[]⟩,0,0,[],0⟩,0⟩
structure On where
 o:Int
 now:Int
 k:Qn
 nx:Bool
 s:Se
abbrev On.v (x:On):AV:=.agg [.f (.int .i64 x.o),.f (.int .i64 x.now),.f (.str x.k.q),.f (.int .i64 x.k.t),.f (.int .i64 x.k.c),.f (.bool x.nx),.f (.str x.s.q),.f (.int .i64 x.s.t),.f (.int .i64 x.s.c),.f (.sl (x.s.d.map bn)),.f (.int .i64 x.s.ttl)]
structure Nv where
 room:Int
 m:List Nt
 o:List Qn
 ch:Int
structure Rn where
 room:Int
 l:List Nt
 ch:Int
abbrev lD : KS:=.agg [.str,.int .i64,.int .i64]
abbrev kq (k:Qn):KV:=.agg [.str k.q,.int .i64 k.t,.int .i64 k.c]
theorem F7 {a b:Qn}:kq a = kq b ↔ a = b:=by
 constructor
 ·intro h;simp only [kq,KV.agg.injEq,ajD,SV.str.injEq,SV.int.injEq] at h
  cases a;cases b;simp_all
 ·rintro rfl;rfl
def old (l:List Nt) (k:Qn):Option Nt:=l.find? fun x=>decide (x.k = k)
def rid (l:List Nt) (k:Qn):List Nt:=l.eraseP fun x=>decide (x.k = k)
def ent (x:Nt):KV × FC:=(kq x.k,.agg (rN x))
theorem mg (l:List Nt) (k:Qn):wO (l.map ent) (kq k) = l.findIdx? fun x=>decide (x.k = k):=by
 unfold wO
 rw [List.map_map,List.findIdx?_map]
 refine aiK (fun p=>List.findIdx? p l) (funext fun x=>?_)
 simp only [Function.comp,ent]
 by_cases h:x.k = k
 ·simp [h]
 ·have:¬ kq x.k = kq k:=fun e=>h (F7.mp e)
  simp only [this,h,decide_false]
theorem pQ (l:List Nt) (k:Qn):rV (l.map ent) (kq k) = (old l k).map fun x=>.agg (rN x):=by
 have hf:old l k = (l.findIdx? fun x=>decide (x.k = k)).bind fun i=>l[i]?:=List.find?_eq_bind_findIdx?_getElem? ..
 unfold rV
 rw [mg,hf]
 cases l.findIdx? fun x=>decide (x.k = k) with
 | none=>rfl
 | some i=>simp only [Option.bind_some,ait];cases l[i]? <;> rfl
theorem xS (l:List Nt) (k:Qn):Bo (l.map ent) (kq k) = (rid l k).map ent:=by
 unfold Bo rid
 rw [mg,List.eraseP_eq_eraseIdx]
 cases l.findIdx? fun x=>decide (x.k = k) with
 | none=>rfl
 | some i=>simp [List.eraseIdx_eq_take_drop_succ,List.map_take,List.map_drop]
def upd (l:List Nt) (x:Nt):List Nt:=match l.findIdx? fun y=>decide (y.k = x.k) with
 | some i=>l.set i x
 | none=>l ++ [x]
theorem xU (l:List Nt) (x:Nt):wP (l.map ent) (kq x.k) (.agg (rN x)) = (upd l x).map ent:=by
 unfold wP upd
 rw [mg]
 cases l.findIdx? fun y=>decide (y.k = x.k) with
 | none=>simp [ent]
 | some i=>simp [ajG,ent]
abbrev ks (l:List Nt):List Qn:=l.map Nt.k
theorem jT {l:List Nt} {b:Qn} {x:Nt} (h:old l b = some x):x.k = b ∧ x ∈ l:=⟨by simpa using List.find?_some h,akf h⟩
theorem sW {l:List Nt} {a:Qn}:(rid l a).Sublist l:=List.eraseP_sublist ..
theorem uO {l:List Nt} {a:Qn} (h:(ks l).Nodup):(ks (rid l a)).Nodup:=(sW.map _).nodup h
theorem rJ (l:List Nt) (x:Nt):(x.k ∉ ks l ∧ upd l x = l ++ [x]) ∨ ∃ a y b,l = a ++ y :: b ∧ y.k = x.k ∧ x.k ∉ ks a ∧ upd l x = a ++ x :: b:=by
 unfold upd
 cases h:l.findIdx? fun y=>decide (y.k = x.k) with
 | none =>
  refine .inl ⟨fun hm=>?_,rfl⟩
  obtain ⟨y,hy,hk⟩:=aiM.mp hm
  have:=ajR.mp h y hy
  simp [hk] at this
 | some i =>
  obtain ⟨hi,hx,hb⟩:=ajF.mp h
  refine .inr ⟨l.take i,l[i],l.drop (i + 1),?_,by simpa using hx,fun hm=>?_,?_⟩
  ·rw [List.getElem_cons_drop,aj8]
  ·obtain ⟨y,hy,hk⟩:=aiM.mp hm
   obtain ⟨j,hj,rfl⟩:=aj9.mp hy
   have:=hb j (by omega)
   simp [hk] at this
  ·simp only [List.set_eq_take_append_cons_drop,hi,aiV]
theorem uP {l:List Nt} {x:Nt} (h:(ks l).Nodup):(ks (upd l x)).Nodup:=by
 rcases rJ l x with ⟨hn,hu⟩ | ⟨a,y,c,rfl,hy,ha,hu⟩
 ·rw [hu]
  simp only [ks,ajL,aiy,aiF]
  refine ajM.mpr ⟨h,List.pairwise_singleton _ _,fun p hp q hq=>?_⟩
  rw [aje] at hq;subst hq;rintro rfl;exact hn hp
 ·rw [hu]
  have:ks (a ++ x :: c) = ks (a ++ y :: c):=by simp [ks,hy]
  rw [this];exact h
theorem QI {l:List Nt} {x:Nt}:(upd l x).length ≤ l.length + 1:=by
 rcases rJ l x with ⟨-,hu⟩ | ⟨a,y,c,rfl, -, -,hu⟩ <;> rw [hu] <;> simp
theorem QJ {l:List Nt} {x y:Nt} (h:y ∈ upd l x):y = x ∨ y ∈ l:=by
 rcases rJ l x with ⟨-,hu⟩ | ⟨a,z,c,rfl, -, -,hu⟩ <;> rw [hu] at h <;> simp at h ⊢
 ·rcases h with h | h <;> simp [h]
 ·rcases h with h | h | h <;> simp [h]
theorem xV : ∀ {g:List Qn} {l:List Nt},(g.foldl rid l).Sublist l
 | [],l=>aj3 _
 | a :: g,l=>(xV (g:=g)).trans sW
abbrev Nv.v (s:Nv):AV:=.one (.ptr [.f (.int .i64 s.room),.mp lD (s.m.map ent),.f (.sl (s.o.map rQ)),.f (.int .i64 s.ch)])
abbrev Rn.v (s:Rn):AV:=.agg [.f (.int .i64 s.room),.f (.sl (s.l.map rN)),.f (.int .i64 s.ch)]
def nvo : Option Nv → AV
 | some s=>s.v
 | none=>.one .iI
theorem Ei (s:Nv):nvo (some s) = s.v:=rfl
end
section
attribute [local go_sem_proc] Nat.reduceAdd Nat.reduceMul Nat.reduceEqDiff Nat.reduceBEq Nat.reduceMod Nat.reduceDiv reduceCtorEq
attribute [local go_sem_proc ↓] reduceIte
open Go Ev
variable {ext : Env} {F n:Nat} {θ:Th} {gt:ByteArray → Int → Int → Int × Bool}
structure vE (r:Bool) (gt:ByteArray → Int → Int → Int × Bool) (ext:Env):Prop where
 og:∀ s a z,s.size ≤ 1000000 → ext 117 [vs s,vi a,vi z] = some ([vi (gt s a z).1,vb (gt s a z).2],[vs s,vi a,vi z])
 rg:r = true → ∀ s a z,s.size ≤ 1000000 → ext 120 [vs s,vi a,vi z] = some ([vi (gt s a z).1,vb (gt s a z).2],[vs s,vi a,vi z])
 nn:∀ s a z,0 ≤ (gt s a z).1
theorem aal {rg:Bool} (O:vE rg gt ext) (s:ByteArray) (a z:Int) (h:s.size ≤ 1000000):G ext F (n + 1) 117 [vs s,vi a,vi z] = some ([vi (gt s a z).1,vb (gt s a z).2],[vs s,vi a,vi z]):=(ai0 (gY rfl) _).trans (O.og s a z h)
theorem Ii (room:Int):G ext F (n + 1) 49 [vi room] = some ([nvo (if room < 1 ∨ 1000 < room then none else some ⟨room,[],[],0⟩)],[vi room]):=by
 refine dB (cf:=c49) rfl ?_
 dsimp only [c49,au,bY,aZ,bH,aG,bE,dR,eu,dA,aD,bT,dh,bJ,aQ];simp only [go_sem]
 repeat' (refine dM (fun h=>?_) (fun h=>?_) <;> simp only [h,go_sem])
 all_goals (simp only [aiG,ajf] at *)
 all_goals first | rw [ail (by omega)] | rw [ain (by omega)]
 all_goals rfl
theorem nL (C:lQ ext) (x:Nt) (hx:x.s.d.length ≤ 1000000):G ext F (n + 2) 90 [x.v] = some ([x.v],[x.v]):=by
 refine dB (cf:=c90) rfl ?_
 have h1:=fun n=>MC (F:=F) (n:=n) C x.s.d hx
 dsimp only [c90,au,bY,aZ,bH,aG,bE,dR,eu,dA,aD,bT,dh,bJ,aQ];simp only [h1,go_sem]
theorem Ej (k:Qn):G ext F (n + 1) 89 [k.v] = some ([vq k.q 0 k.c],[k.v]):=by
 refine dB (cf:=c89) rfl ?_
 dsimp only [c89,au,bY,aZ,bH,aG,bE,dR,eu,dA,aD,bT,dh,bJ,aQ];simp only [go_sem]
abbrev _root_.Go.Proofs.YtfokaoeinpnagaaGreat.Kc.Qn.w (k:Qn):Qn:=⟨k.q,0,k.c⟩
def _root_.Go.Proofs.YtfokaoeinpnagaaGreat.Kc.Th.ask (θ:Th) (k:Qn):Bool:=θ.key k.q k.t k.c && !decide (k.t = 0)
theorem MJ {rb:Bool} (T:θ.Dh rb ext) (k:Qn) (hq:k.q.size ≤ 1000000):G ext F (n + 2) 88 [k.v] = some ([vb (θ.ask k)],[k.v]):=by
 refine dB (cf:=c88) rfl ?_
 have h1:=fun n=>TG (F:=F) (n:=n) T k.q hq
 have h2:=fun n=>Mt (F:=F) (n:=n) T k.q hq
 dsimp only [c88,au,bY,aZ,bH,aG,bE,dR,eu,dA,aD,bT,dh,bJ,aQ];simp only [h1,h2,go_sem]
 repeat' (refine dM (fun h=>?_) (fun h=>?_) <;> simp only [h,h1,h2,go_sem])
 all_goals clear h1 h2
 all_goals simp only [aiG,ajf] at *
 all_goals (simp [Th.ask,Th.key, *])
 all_goals (try omega)
 all_goals (have a1:0 ≤ k.t:=by omega);(have a2:¬ k.t = 0:=by omega);simp [a1,a2]
def vY (θ:Th) (gt:ByteArray → Int → Int → Int × Bool) (x:Se):Int × Bool :=
 if θ.set x.q x.t x.c x.d x.ttl = true ∧ x.t = 6 then (if x.ttl < (gt (x.d.headD ⟨#[]⟩) ((x.d.headD ⟨#[]⟩).size - 4) 4).1 then x.ttl else (gt (x.d.headD ⟨#[]⟩) ((x.d.headD ⟨#[]⟩).size - 4) 4).1,true) else (0,false)
theorem MK {x:Se} (h:θ.set x.q x.t x.c x.d x.ttl = true):∃ y d,x.d = y :: d:=by
 unfold Th.set at h
 rw [aiG] at h
 exact List.exists_cons_of_ne_nil h.2.2.2
theorem F8 {rb:Bool} (T:θ.Dh rb ext) {rg:Bool} (O:vE rg gt ext) (x:Se) (hF:200000000000001 ≤ F) (hq:x.q.size ≤ 1000000) (hn:x.d.length ≤ 1000000) (hd:∀ y ∈ x.d,y.size ≤ 1000000):G ext F (n + 4) 87 [x.v] = some ([vi (vY θ gt x).1,vb (vY θ gt x).2],[x.v]):=by
 refine dB (cf:=c87) rfl ?_
 have h1:=fun n=>Ao (F:=F) (n:=n) T x.q x.t x.c x.d x.ttl (by omega) hF hq hd
 by_cases h6:x.t = 6
 ·have h6':decide (x.t = 6) = true:=aip h6
  cases hs:θ.set x.q x.t x.c x.d x.ttl with
  | false =>
   rw [hs] at h1
   have e:vY θ gt x = (0,false):=by unfold vY;rw [hs];rfl
   rw [e]
   dsimp only [c87,au,bY,aZ,bH,aG,bE,dR,eu,dA,aD,bT,dh,bJ,aQ];simp only [h1,h6',go_sem]
  | true =>
   rw [hs] at h1
   obtain ⟨y,ds,hy⟩:=MK hs
   have e:vY θ gt x = (if x.ttl < (gt y (y.size - 4) 4).1 then x.ttl else (gt y (y.size - 4) 4).1,true):=by unfold vY;rw [ail ⟨hs,h6⟩,hy];rfl
   rw [e]
   have hys:=hd y (by rw [hy];simp)
   have hw:IntKind.i64.wrap ((y.size:Int) - 4) = y.size - 4:=pK (by omega) (by omega)
   have hg:=fun n=>aal (F:=F) (n:=n) O y (y.size - 4) 4 hys
   simp only [Se.v,oO,hy,aiy,bn] at h1 ⊢
   dsimp only [c87,au,bY,aZ,bH,aG,bE,dR,eu,dA,aD,bT,dh,bJ,aQ];simp only [h1,h6',aiy,List.getElem?_cons_zero,bn,hw,hg,Int.toNat_zero,go_sem]
   exact ⟨ajg _,by rw [hy];rfl⟩
 ·have h6':decide (x.t = 6) = false:=air h6
  have e:vY θ gt x = (0,false):=by unfold vY;rw [ain (fun h=>h6 h.2)]
  rw [e]
  dsimp only [c87,au,bY,aZ,bH,aG,bE,dR,eu,dA,aD,bT,dh,bJ,aQ];simp only [h6',go_sem]
end
section
open Go Ev
variable {ext : Env} {F n:Nat} {θ:Th} {gt:ByteArray → Int → Int → Int × Bool}
def ofR (o:Option Nt):Nt × Bool:=match o with
 | some x=>(x,true)
 | none=>(nt0,false)
abbrev kn (nx:Bool) (k:Qn):Qn:=if nx then k.w else k
def _root_.Go.Proofs.YtfokaoeinpnagaaGreat.Kc.Th.narg (θ:Th) (gt:ByteArray → Int → Int → Int × Bool) (s:Rn) (now:Int) (k:Qn) (x:Se):Prop:=s.room = 0 ∨ Qq now = false ∨ (vY θ gt x).2 = false ∨ θ.key k.q k.t k.c = false ∨ k.t = 0
instance {s : Rn} {now:Int} {k:Qn} {x:Se}:Decidable (θ.narg gt s now k x):=by unfold Th.narg;infer_instance
end
section
attribute [local go_sem_proc] Nat.reduceAdd Nat.reduceMul Nat.reduceEqDiff Nat.reduceBEq Nat.reduceMod Nat.reduceDiv reduceCtorEq
attribute [local go_sem_proc ↓] reduceIte
open Go Ev
variable {ext : Env} {F n:Nat} {θ:Th} {gt:ByteArray → Int → Int → Int × Bool}
def nof (m:List Nt) (now:Int) (k:Qn):Option Nt:=match old m k with
 | some x=>if jE now x.u then some x else none
 | none=>none
def fD (s:Nv) (now:Int) (k:Qn):Nt × Bool:=match nof s.m now k.w with
 | some x=>(x,true)
 | none=>ofR (nof s.m now k)
theorem ML (C:lQ ext) (s:Nv) (now:Int) (k:Qn) (hF:200000000000001 ≤ F) (hd:∀ x ∈ s.m,x.s.d.length ≤ 1000000):G ext F (n + 3) 103 [s.v,vi now,k.v] = some ([(fD s now k).1.v,vb (fD s now k).2],[s.v,vi now,k.v]):=by
 refine dB (cf:=Qo) rfl ?_
 have hw:=fun n=>Ej (ext:=ext) (F:=F) (n:=n) k
 dsimp only [Qo,au,bY,aZ,bH,aG,bE,dR,eu,dA,aD,bT,dh,bJ,aQ];simp only [hw,go_sem]
 refine kQ 2 (fun i=>⟨[(0,PV.c (CV.one (PL.ptr 20201 0))),(1,PV.c (CV.one (PL.f (FV.int IntKind.i64 now)))),(6,PV.c (CV.one (PL.ptr 140000 0))),(18,PV.c (CV.one (PL.own 380000 2))),(19,PV.c (CV.one (PL.f (FV.int IntKind.i64 ((2:Nat):Int))))),(20,PV.c (CV.one (PL.f (FV.int IntKind.i64 (i:Int)))))],[(20201,Ob.eH [PL.f (FV.int IntKind.i64 s.room),PL.mp 20205,PL.f (FV.sl (List.map rQ s.o)),PL.f (FV.int IntKind.i64 s.ch)]),(20205,Ob.map lD (List.map ent s.m)),(140000,Ob.eH [PL.f (FV.str ⟨#[]⟩),PL.f (FV.int IntKind.i64 0),PL.f (FV.int IntKind.i64 0),PL.f (FV.bool false),PL.f (FV.str ⟨#[]⟩),PL.f (FV.int IntKind.i64 0),PL.f (FV.int IntKind.i64 0),PL.bP,PL.f (FV.int IntKind.i64 0),PL.f (FV.int IntKind.i64 0)]),(380000,Ob.row 3 [[FV.str k.q,FV.int IntKind.i64 0,FV.int IntKind.i64 k.c],[FV.str k.q,FV.int IntKind.i64 k.t,FV.int IntKind.i64 k.c]])]⟩) (fun i=>(1 ≤ i → nof s.m now k.w = none) ∧ (2 ≤ i → nof s.m now k = none)) (by omega) rfl ⟨by omega,by omega⟩ (fun i hi hP=>?_) (fun hP=>?_)
 ·rcases (show i = 0 ∨ i = 1 by omega) with rfl | rfl
  ·skip
   have hlt:decide (((0:Nat):Int) < ((2:Nat):Int)) = true:=by decide
   have ht:((0:Nat):Int).toNat = 0:=rfl
   have h0:(0:Int) ≤ ((0:Nat):Int):=by decide
   have hn':IntKind.i64.wrap (((0:Nat):Int) + 1) = ((0 + 1:Nat):Int):=by rw [pK (by omega) (by omega)];rfl
   have hk1:=pQ s.m k.w
   simp only [kq] at hk1
   have hcl:=fun n x hx=>nL (F:=F) (n:=n) C x hx
   cases hold:old s.m k.w with
   | none =>
    rw [hold] at hk1
    simp only [hlt,ht,h0,hn',List.getElem?_cons_zero,List.getElem?_cons_succ,hk1,Option.map_none,Option.isSome_none,go_sem]
    first | exact ⟨by decide,fun _=>by unfold nof;simp [hold, *],by omega⟩ | exact ⟨by decide,rfl,fun _=>by unfold nof;simp [hold, *],by omega⟩
   | some x =>
    rw [hold] at hk1
    have hcl:=fun n=>nL (F:=F) (n:=n) C x (hd x (jT hold).2)
    cases hv:jE now x.u with
    | false =>
     simp only [hlt,ht,h0,hn',List.getElem?_cons_zero,List.getElem?_cons_succ,hk1,Option.map_some,Option.isSome_some,rN,jy,hv,go_sem]
     first | exact ⟨by decide,fun _=>by unfold nof;simp [hold, *],by omega⟩ | exact ⟨by decide,rfl,fun _=>by unfold nof;simp [hold, *],by omega⟩
    | true =>
     simp only [hlt,ht,h0,hn',List.getElem?_cons_zero,List.getElem?_cons_succ,hk1,Option.map_some,Option.isSome_some,rN,jy,hv,hcl,go_sem]
     have e:fD s now k = (x,true):=by unfold fD nof;rw [hold];simp [hv]
     rw [e]
     exact ⟨by decide,rfl⟩
  ·have hp:=hP.1 (by decide)
   have hlt:decide (((1:Nat):Int) < ((2:Nat):Int)) = true:=by decide
   have ht:((1:Nat):Int).toNat = 1:=rfl
   have h0:(0:Int) ≤ ((1:Nat):Int):=by decide
   have hn':IntKind.i64.wrap (((1:Nat):Int) + 1) = ((1 + 1:Nat):Int):=by rw [pK (by omega) (by omega)];rfl
   have hk1:=pQ s.m k
   simp only [kq] at hk1
   have hcl:=fun n x hx=>nL (F:=F) (n:=n) C x hx
   cases hold:old s.m k with
   | none =>
    rw [hold] at hk1
    simp only [hlt,ht,h0,hn',List.getElem?_cons_zero,List.getElem?_cons_succ,hk1,Option.map_none,Option.isSome_none,go_sem]
    first | exact ⟨by decide,fun _=>hp,fun _=>by unfold nof;simp [hold, *]⟩ | exact ⟨by decide,rfl,fun _=>hp,fun _=>by unfold nof;simp [hold, *]⟩
   | some x =>
    rw [hold] at hk1
    have hcl:=fun n=>nL (F:=F) (n:=n) C x (hd x (jT hold).2)
    cases hv:jE now x.u with
    | false =>
     simp only [hlt,ht,h0,hn',List.getElem?_cons_zero,List.getElem?_cons_succ,hk1,Option.map_some,Option.isSome_some,rN,jy,hv,go_sem]
     first | exact ⟨by decide,fun _=>hp,fun _=>by unfold nof;simp [hold, *]⟩ | exact ⟨by decide,rfl,fun _=>hp,fun _=>by unfold nof;simp [hold, *]⟩
    | true =>
     simp only [hlt,ht,h0,hn',List.getElem?_cons_zero,List.getElem?_cons_succ,hk1,Option.map_some,Option.isSome_some,rN,jy,hv,hcl,go_sem]
     have e:fD s now k = (x,true):=by unfold fD;rw [hp];unfold nof;rw [hold];simp [hv,ofR]
     rw [e]
     exact ⟨by decide,rfl⟩
 ·have hp1:=hP.1 (by decide)
  have hp2:=hP.2 (by decide)
  have hlt:decide (((2:Nat):Int) < ((2:Nat):Int)) = false:=by decide
  have e:fD s now k = (nt0,false):=by unfold fD;rw [hp1,hp2];rfl
  rw [e]
  simp only [hlt,go_sem]
  rfl
def rM (θ:Th) (gt:ByteArray → Int → Int → Int × Bool) (s:Nv) (now:Int) (k:Qn) (nx:Bool) (x:Se):Nv × Int :=
 if (vY θ gt x).2 = false ∨ fI now (vY θ gt x).1 = -1 ∨ θ.ask k = false then (s,1)
 else if jE now (fI now (vY θ gt x).1) = false then (s,14)
 else
  let t:=Di s.o (kn nx k) ++ [kn nx k]
  (⟨s.room,(t.take (t.length - s.room.toNat)).foldl rid (upd s.m ⟨kn nx k,nx,x,fI now (vY θ gt x).1⟩),t.drop (t.length - s.room.toNat),s.ch + 1⟩,0)
theorem Ij {rb:Bool} (T:θ.Dh rb ext) {rg:Bool} (O:vE rg gt ext) (C:lQ ext) (s:Nv) (now:Int) (k:Qn) (qW:Bool) (x:Se) (hF:200000000000001 ≤ F) (hr1:0 ≤ s.room ∧ s.room ≤ 1000000) (hc:0 ≤ s.ch ∧ s.ch ≤ 1000000000000) (ho:s.o.length ≤ 100000) (hk:k.q.size ≤ 1000000) (hq:x.q.size ≤ 1000000) (hn:x.d.length ≤ 1000000) (hd:∀ y ∈ x.d,y.size ≤ 1000000):G ext F (n + 6) 51 [s.v,vi now,k.v,vb qW,x.v] = some ([vi (rM θ gt s now k qW x).2],[(rM θ gt s now k qW x).1.v,vi now,k.v,vb qW,x.v]):=by
 refine dB (cf:=c51) rfl ?_
 have h1:=fun n=>F8 (F:=F) (n:=n) T O x hF hq hn hd
 have h2:=fun n=>MJ (F:=F) (n:=n) T k hk
 have hu:=fun n t=>xO (ext:=ext) (F:=F) (n:=n) now t
 cases hm2:(vY θ gt x).2 with
 | false =>
  rw [hm2] at h1
  have e:rM θ gt s now k qW x = (s,1):=by unfold rM;exact ail (.inl hm2)
  rw [e]
  dsimp only [c51,au,bY,aZ,bH,aG,bE,dR,eu,dA,aD,bT,dh,bJ,aQ];simp only [h1,hu,go_sem]
 | true =>
 rw [hm2] at h1
 by_cases hun:fI now (vY θ gt x).1 = -1
 ·have e:rM θ gt s now k qW x = (s,1):=by unfold rM;exact ail (.inr (.inl hun))
  rw [e]
  have hun':decide (fI now (vY θ gt x).1 = -1) = true:=aip hun
  dsimp only [c51,au,bY,aZ,bH,aG,bE,dR,eu,dA,aD,bT,dh,bJ,aQ];simp only [h1,hu,hun',go_sem]
 have hun':decide (fI now (vY θ gt x).1 = -1) = false:=air hun
 cases ha:θ.ask k with
 | false =>
  have e:rM θ gt s now k qW x = (s,1):=by unfold rM;exact ail (.inr (.inr ha))
  rw [e]
  rw [ha] at h2
  dsimp only [c51,au,bY,aZ,bH,aG,bE,dR,eu,dA,aD,bT,dh,bJ,aQ];simp only [h1,h2,hu,hun',go_sem]
 | true =>
 rw [ha] at h2
 have hno:¬ ((vY θ gt x).2 = false ∨ fI now (vY θ gt x).1 = -1 ∨ θ.ask k = false):=by rw [hm2,ha];simp [hun]
 cases hl:jE now (fI now (vY θ gt x).1) with
 | false =>
  have e:rM θ gt s now k qW x = (s,14):=by unfold rM;rw [ain hno,ail hl]
  rw [e]
  dsimp only [c51,au,bY,aZ,bH,aG,bE,dR,eu,dA,aD,bT,dh,bJ,aQ];simp only [h1,h2,hu,hun',jy,hl,go_sem]
 | true =>
 have e:rM θ gt s now k qW x = (⟨s.room,((Di s.o (kn qW k) ++ [kn qW k]).take ((Di s.o (kn qW k) ++ [kn qW k]).length - s.room.toNat)).foldl rid (upd s.m ⟨kn qW k,qW,x,fI now (vY θ gt x).1⟩),(Di s.o (kn qW k) ++ [kn qW k]).drop ((Di s.o (kn qW k) ++ [kn qW k]).length - s.room.toNat),s.ch + 1⟩,0):=by
  unfold rM;rw [ain hno,ain (by rw [hl];decide)]
 rw [e]
 have hu':=fun n=>hu n (vY θ gt x).1
 generalize fI now (vY θ gt x).1 = u at hu' hun' hl ⊢
 have hw:IntKind.i64.wrap (s.ch + 1) = s.ch + 1:=pK (by omega) (by omega)
 have hwh:=fun n=>Ej (ext:=ext) (F:=F) (n:=n) k
 have hcl:=fun n=>nL (ext:=ext) (F:=F) (n:=n) C ⟨kn qW k,qW,x,u⟩ hn
 have hqq:=@sV s.o (kn qW k)
 have ht:=fun n=>Ee (ext:=ext) (F:=F) (n:=n) C s.o (kn qW k) (by omega) hF
 have hct:=fun n=>MF (ext:=ext) (F:=F) (n:=n) C (Di s.o (kn qW k) ++ [kn qW k]) s.room (by simp;omega) (by omega) hF
 have hup:=xU s.m ⟨kn qW k,qW,x,u⟩
 simp only [kq,rN] at hup
 generalize YI:Di s.o (kn qW k) ++ [kn qW k] = t at ht hct ⊢
 generalize t.drop (t.length - s.room.toNat) = td at hct ⊢
 generalize htt:t.take (t.length - s.room.toNat) = tt at hct ⊢
 have htl:tt.length ≤ 1000000:=by rw [← htt,aiC,← YI,aiv,List.length_singleton];omega
 generalize hM:upd s.m ⟨kn qW k,qW,x,u⟩ = M at hup ⊢
 cases qW
 all_goals
  simp only [kn,aiV,aiJ,aiO] at hup ht hct hcl
  dsimp only [c51,au,bY,aZ,bH,aG,bE,dR,eu,dA,aD,bT,dh,bJ,aQ];simp only [h1,h2,hu',hun',jy,hl,hwh,hcl,ht,hct,hup,hw,go_sem]
  refine kQ tt.length (fun i=>⟨[(0,PV.c (CV.one (PL.ptr 20201 0))),(14,PV.c (CV.one (PL.f (FV.sl (List.map rQ td))))),(75,PV.c (CV.one (PL.f (FV.sl (List.map rQ tt))))),(76,PV.c (CV.one (PL.f (FV.int IntKind.i64 ↑(List.map rQ tt).length)))),(77,PV.c (CV.one (PL.f (FV.int IntKind.i64 i))))],[(20201,Ob.eH [PL.f (FV.int IntKind.i64 s.room),PL.mp 20205,PL.f (FV.sl (List.map rQ s.o)),PL.f (FV.int IntKind.i64 s.ch)]),(20205,Ob.map lD (((tt.take i).foldl rid M).map ent))]⟩) (fun _=>True) (by omega) rfl trivial (fun i hi _=>?_) (fun _=>?_)
  ·obtain ⟨k',hx,hlt,hit,h00⟩:=at_ hi
   have hn':=nx hi (by omega)
   have hdl:=xS ((tt.take i).foldl rid M) k'
   have hfo:(tt.take (i + 1)).foldl rid M = rid ((tt.take i).foldl rid M) k':=by rw [ai7,hx,akb];rfl
   simp only [aio,ait,hlt,hx,hit,h00,hn',rQ,hdl,go_sem]
   rw [hfo]
  ·have hd:=@end_ _ tt
   simp only [aio,hd,hw,ai2,go_sem]
end
end Go.Proofs.YtfokaoeinpnagaaGreat.Kc.Ne
namespace Go.Proofs.YtfokaoeinpnagaaGreat.Ev
open Go
section
variable {Γ : Env} {F s sm:Nat} {ks os k6:List Nat} {g4 g6:List G} {ca cb cc:CC} {cf:CF} {d9:List AV} {mP:List CV} {σ:St} {kk:KV}
def Yk : Out → (Unit → Prop) → (Unit → Prop) → Prop
 | .ret,A,_=>A ()
 | .iV,_,B=>B ()
 | .ext _,_,_=>False
@[go_sem] theorem acW {A B:Unit → Prop}:Yk .ret A B ↔ A ():=aiu
@[go_sem] theorem acX {A B:Unit → Prop}:Yk .iV A B ↔ B ():=aiu
def kB : Option Ob → Option (List KV)
 | some (.map _ ents)=>some (ents.map (·.1))
 | _=>none
def kA (os:List Nat) (ob:List (Nat × Ob)):Option PV → Option (List KV)
 | some (.c (.one (.mp key)))=>if os.contains key then none else kB (get ob key)
 | _=>none
@[go_sem] theorem ae6 {sh:KS} {ents:List (KV × FC)}:kB (some (.map sh ents)) = some (ents.map (·.1)):=rfl
@[go_sem] theorem Yl : Ga σ os s = kA os σ.ob (get σ.tm s):=rfl
@[go_sem] theorem aan : El ks os σ = ⟨pick ks σ.tm,pick os σ.ob⟩:=rfl
@[go_sem ↓] theorem ag9 {k:List AV × List AV → Prop} {u:Tok k}:W k u (fin cf mP d9 σ) ↔ W (fun b=>W (fun l=>W (fun r=>k (r.1,b.1)) ⟨⟩ (l7 cf.ro b.2 l)) ⟨⟩ (slots b.2 cf.res)) ⟨⟩ (jV σ mP d9):=by
 simp only [fin,dQ,aK,bQ]
@[go_sem ↓] theorem acY {k:St → Prop} {u:Tok k}:W k u (Ik Γ F ks os s g6 k6 cb σ kk) ↔ W (fun t=>W (fun p=>p.1 = .iV ∧ k (El ks os p.2)) ⟨⟩ (ev Γ F cb ⟨pick k6 t.tm,t.ob⟩)) ⟨⟩ (vW Γ false g6 ⟨put σ.tm s (.c (kvC kk)),σ.ob⟩):=by
 simp only [Ik,dQ,aK]
 refine cB fun t=>cB fun p=>?_
 obtain ⟨o,σ'⟩:=p
 cases o <;> simp [jq,bq]
@[go_sem ↓] theorem ae7 {k:List AV × List AV → Prop} {u:Tok k}:W k u (aam Γ F ca g4 sm ks os s g6 k6 cb cc cf d9) ↔ d9.length = cf.np ∧ W (fun e=>W (fun p=>Yk p.1 (fun _=>W k ⟨⟩ (fin cf e.1 d9 p.2)) (fun _=>W (fun t=>W (fun l=>W (fun t=>W (fun q=>(∀ id,q.1 ≠ .ext id) ∧ W k ⟨⟩ (fin cf e.1 d9 q.2)) ⟨⟩ (ev Γ F cc t)) ⟨⟩ (TJ (Ik Γ F ks os s g6 k6 cb) (El ks os t) l)) ⟨⟩ (Ga t os sm)) ⟨⟩ (vW Γ false g4 p.2))) ⟨⟩ (ev Γ F ca e.2)) ⟨⟩ (enter cf.bo 0 [] ⟨[],[]⟩ d9):=by
 simp only [aam,dQ,cO,aK,ne_eq,ai3]
 refine ajB aiu (cB fun e=>cB fun p=>?_)
 obtain ⟨o,σ'⟩:=p
 cases o with
 | ext i=>simp [jq,Yk]
 | ret=>simp only [Yk]
 | iV =>
  simp only [Yk,aK]
  refine cB fun t=>cB fun l=>cB fun t'=>cB fun q=>?_
  obtain ⟨o,σ'⟩:=q
  cases o <;> simp [jq]
end
end Go.Proofs.YtfokaoeinpnagaaGreat.Ev
namespace Go.Proofs.YtfokaoeinpnagaaGreat.Kc.Ne
open Go Ev
variable {ext : Env} {F n:Nat} {θ:Th} {gt:ByteArray → Int → Int → Int × Bool}
end Go.Proofs.YtfokaoeinpnagaaGreat.Kc.Ne
namespace Go.Proofs.YtfokaoeinpnagaaGreat.Kc
section
attribute [local go_sem_proc] Nat.reduceAdd Nat.reduceMul Nat.reduceEqDiff Nat.reduceBEq Nat.reduceMod Nat.reduceDiv reduceCtorEq
attribute [local go_sem_proc ↓] reduceIte
open Go Ev
variable {ext : Env} {F n:Nat} {θ:Th}
def qX (now u:Int):Int:=if jE now u = true then (if 604800 < u - now then 604800 else u - now) else 0
def QK (r:Int):Bool:=decide (3 ≤ r ∧ r ≤ 5)
theorem QL {now u:Int} (h:jE now u = true) (hu:u ≤ 4611686018427387904):IntKind.i64.wrap (u - now) = u - now:=by
 unfold jE Qq at h
 simp only [aiw,aiG] at h
 exact pK (by omega) (by omega)
theorem Il (now u:Int) (hu:u ≤ 4611686018427387904):G ext F (n + 3) 102 [vi now,vi u] = some ([vi (qX now u)],[vi now,vi u]):=by
 refine dB (cf:=L9) rfl ?_
 cases h:jE now u with
 | false =>
  have e:qX now u = 0:=by unfold qX;rw [h];rfl
  rw [e]
  dsimp only [L9,au,bY,aZ,bH,aG,bE,dR,eu,dA,aD,bT,dh,bJ,aQ];simp only [jy,h,go_sem]
 | true =>
  have e:qX now u = if 604800 < u - now then 604800 else u - now:=by unfold qX;rw [h];rfl
  have hw:=QL h hu
  rw [e]
  dsimp only [L9,au,bY,aZ,bH,aG,bE,dR,eu,dA,aD,bT,dh,bJ,aQ];simp only [jy,h,hw,go_sem]
theorem En (r:Int):G ext F (n + 2) 101 [vi r] = some ([vb (QK r)],[vi r]):=by
 refine dB (cf:=Qp) rfl ?_
 dsimp only [Qp,au,bY,aZ,bH,aG,bE,dR,eu,dA,aD,bT,dh,bJ,aQ];simp only [FZ,go_sem]
 all_goals (simp [QK])
structure nM where
 s:Se
 left:Int
def JE : Se:=⟨⟨#[]⟩,0,0,[],0⟩
def pR : nM:=⟨JE,0⟩
structure Ch where
 hits:List nM
 e:Int
 nm:ByteArray
 iM:nM
def rH (x:nM):List FV:=[.str x.s.q,.int .i64 x.s.t,.int .i64 x.s.c,.sl (x.s.d.map bn),.int .i64 x.s.ttl,.int .i64 x.left]
abbrev nM.v (x:nM):AV:=.agg [.f (.str x.s.q),.f (.int .i64 x.s.t),.f (.int .i64 x.s.c),.f (.sl (x.s.d.map bn)),.f (.int .i64 x.s.ttl),.f (.int .i64 x.left)]
abbrev Ch.v (x:Ch):AV:=.agg [.f (.sl (x.hits.map rH)),.f (.int .i64 x.e),.f (.str x.nm),.f (.str x.iM.s.q),.f (.int .i64 x.iM.s.t),.f (.int .i64 x.iM.s.c),.f (.sl (x.iM.s.d.map bn)),.f (.int .i64 x.iM.s.ttl),.f (.int .i64 x.iM.left)]
def tl (pk:Qn → It × Bool) (now:Int) (q:Qn):Option nM:=if (pk q).2 = true ∧ QK (pk q).1.r = true then some ⟨⟨(pk q).1.q,(pk q).1.t,(pk q).1.c,(pk q).1.d,(pk q).1.ttl⟩,qX now (pk q).1.u⟩ else none
def tg (nm:Int → ByteArray → List ByteArray) (s:Se):Option ByteArray:=if s.t = 5 then s.d.head?.bind fun d=>(nm 5 d).head? else none
def al (nm:Int → ByteArray → List ByteArray) (pk:Qn → It × Bool) (now:Int) (q:Qn):Option (nM × ByteArray):=if q.t = 5 then none else (tl pk now ⟨q.q,5,q.c⟩).bind fun h=>(tg nm h.s).map fun ZZ8=>(h,ZZ8)
def fin (fd:Qn → Ne.Nt × Bool) (now:Int) (hits:List nM) (q:Qn):Ch:=if (fd q).2 = true then ⟨hits,if (fd q).1.nx = true then 2 else 1,q.q,⟨(fd q).1.s,qX now (fd q).1.u⟩⟩ else ⟨hits,3,q.q,pR⟩
def xW (nm:Int → ByteArray → List ByteArray) (pk:Qn → It × Bool) (fd:Qn → Ne.Nt × Bool) (now:Int):Nat → List ByteArray → List nM → Qn → Ch
 | 0,_,hits,q=>⟨hits,4,q.q,pR⟩
 | f + 1,met,hits,q=>match tl pk now q with
  | some h=>⟨hits ++ [h],0,q.q,pR⟩
  | none=>match al nm pk now q with
   | none=>fin fd now hits q
   | some (h,ZZ8)=>if 8 ≤ hits.length ∨ xQ met ZZ8 = true then ⟨hits ++ [h],4,q.q,pR⟩ else xW nm pk fd now f (met ++ [ZZ8]) (hits ++ [h]) ⟨ZZ8,q.t,q.c⟩
def vZ (nm:Int → ByteArray → List ByteArray) (pk:Qn → It × Bool) (fd:Qn → Ne.Nt × Bool) (now:Int) (q:Qn):Ch:=xW nm pk fd now 9 [q.q] [] q
end
section
attribute [local go_sem_proc] Nat.reduceAdd Nat.reduceMul Nat.reduceEqDiff Nat.reduceBEq Nat.reduceMod Nat.reduceDiv reduceCtorEq
attribute [local go_sem_proc ↓] reduceIte
open Go Ev
variable {ext : Env} {F n:Nat} {θ:Th} {nm:Int → ByteArray → List ByteArray}
structure xX (r:Bool) (nm:Int → ByteArray → List ByteArray) (ext:Env):Prop where
 n0:∀ k q,q.size ≤ 1000000 → ext 81 [vi k,vs q] = some ([vl ((nm k q).map bn)],[vi k,vs q])
 n1:r = true → ∀ k q,q.size ≤ 1000000 → ext 105 [vi k,vs q] = some ([vl ((nm k q).map bn)],[vi k,vs q])
theorem TK {rm:Bool} (M:xX rm nm ext) (k:Int) (q:ByteArray) (h:q.size ≤ 1000000):G ext F (n + 1) 81 [vi k,vs q] = some ([vl ((nm k q).map bn)],[vi k,vs q]):=(ai0 (gY rfl) _).trans (M.n0 k q h)
def zi (nm:Int → ByteArray → List ByteArray) (s:Se):ByteArray × Bool:=match tg nm s with
 | some x=>(x,true)
 | none=>(⟨#[]⟩,false)
theorem TL {s:Se} (h:s.t ≠ 5):zi nm s = (⟨#[]⟩,false):=by unfold zi tg;rw [ain h]
theorem V9 {s:Se} (h:s.d = []):zi nm s = (⟨#[]⟩,false):=by unfold zi tg;rw [h];by_cases h5:s.t = 5 <;> simp [h5]
theorem QM {s:Se} {y:ByteArray} {d:List ByteArray} (h5:s.t = 5) (h:s.d = y :: d) (hn:nm 5 y = []):zi nm s = (⟨#[]⟩,false):=by unfold zi tg;rw [ail h5,h];show (match ((nm 5 y).head?:Option ByteArray) with | some x=>(x,true) | none=>(⟨#[]⟩,false)) = _;rw [hn];rfl
theorem QN {s:Se} {y z:ByteArray} {d l:List ByteArray} (h5:s.t = 5) (h:s.d = y :: d) (hn:nm 5 y = z :: l):zi nm s = (z,true):=by unfold zi tg;rw [ail h5,h];show (match ((nm 5 y).head?:Option ByteArray) with | some x=>(x,true) | none=>(⟨#[]⟩,false)) = _;rw [hn];rfl
theorem JF {rm:Bool} (M:xX rm nm ext) (s:Se) (hd:∀ y ∈ s.d,y.size ≤ 1000000):G ext F (n + 2) 47 [s.v] = some ([vs (zi nm s).1,vb (zi nm s).2],[s.v]):=by
 refine dB (cf:=VW) rfl ?_
 by_cases h5:s.t = 5
 ·have h5':decide (s.t = 5) = true:=aip h5
  cases hy:s.d with
  | nil =>
   rw [V9 hy]
   simp only [Se.v,oO,hy,aiF]
   dsimp only [VW,au,bY,aZ,bH,aG,bE,dR,eu,dA,aD,bT,dh,bJ,aQ];simp only [h5',List.length_nil,show decide (((0:Nat):Int) = 0) = true from rfl,go_sem]
   simp [hy]
  | cons y ds =>
   have hlen:decide ((((List.map bn ds).length + 1:Nat):Int) = 0) = false:=by simp;omega
   have h1:=fun n=>TK (F:=F) (n:=n) M 5 y (hd y (by rw [hy];simp))
   cases hz:nm 5 y with
   | nil =>
    rw [QM h5 hy hz]
    rw [hz] at h1
    simp only [Se.v,oO,hy,aiy,aiF,bn] at h1 ⊢
    dsimp only [VW,au,bY,aZ,bH,aG,bE,dR,eu,dA,aD,bT,dh,bJ,aQ];simp only [h5',hlen,h1,List.getElem?_cons_zero,Int.toNat_zero,List.length_nil,show decide (((0:Nat):Int) = 0) = true from rfl,go_sem]
    exact ⟨ajg _,by simp [hy,bn]⟩
   | cons z zs =>
    rw [QN h5 hy hz]
    rw [hz] at h1
    have aao:decide ((((List.map bn zs).length + 1:Nat):Int) = 0) = false:=by simp;omega
    simp only [Se.v,oO,hy,aiy,bn] at h1 ⊢
    dsimp only [VW,au,bY,aZ,bH,aG,bE,dR,eu,dA,aD,bT,dh,bJ,aQ];simp only [h5',hlen,aao,h1,List.getElem?_cons_zero,Int.toNat_zero,go_sem]
    exact ⟨ajg _,ajg _,by simp [hy,bn]⟩
 ·have h5':decide (s.t = 5) = false:=air h5
  rw [TL h5]
  dsimp only [VW,au,bY,aZ,bH,aG,bE,dR,eu,dA,aD,bT,dh,bJ,aQ];simp only [h5',go_sem]
abbrev Sv.tv (s:Sv):TV:=.ptr [.f (.int .i64 s.room),.mp lD (s.m.map ent),.f (.sl (s.o.map rQ)),.f (.int .i64 s.ch)]
abbrev nvt (s:Ne.Nv):TV:=.ptr [.f (.int .i64 s.room),.mp Ne.lD (s.m.map Ne.ent),.f (.sl (s.o.map rQ)),.f (.int .i64 s.ch)]
abbrev Ym (s:Sv) (m:Ne.Nv) (now:Int):AV:=.agg [s.tv,nvt m,.f (.int .i64 now)]
def Im (pk:Qn → It × Bool) (now:Int) (q:Qn):nM × Bool:=match tl pk now q with
 | some h=>(h,true)
 | none=>(pR,false)
theorem Eo (C:lQ ext) (s:Sv) (m:Ne.Nv) (now:Int) (q:Qn) (hd:∀ x ∈ s.m,x.d.length ≤ 1000000) (hu:∀ x ∈ s.m,x.u ≤ 4611686018427387904):G ext F (n + 4) 56 [Ym s m now,q.v] = some ([(Im (bB s now) now q).1.v,vb (Im (bB s now) now q).2],[Ym s m now,q.v]):=by
 refine dB (cf:=Yj) rfl ?_
 have h1:=fun n=>Ih (ext:=ext) (F:=F) (n:=n) C s now q hd
 have hlu:=fun n=>Il (ext:=ext) (F:=F) (n:=n) now (bB s now q).1.u (by
  unfold bB
  split
  ·rename_i x ho
   split
   ·exact hu x (jT ho).2
   ·show (0:Int) ≤ _;omega
  ·show (0:Int) ≤ _;omega)
 unfold Im tl
 cases hv:(bB s now q).2 with
 | false =>
  rw [hv] at h1
  dsimp only [Yj,au,bY,aZ,bH,aG,bE,dR,eu,dA,aD,bT,dh,bJ,aQ];simp only [h1,go_sem]
  rfl
 | true =>
  rw [hv] at h1
  cases ht:QK (bB s now q).1.r with
  | false =>
   dsimp only [Yj,au,bY,aZ,bH,aG,bE,dR,eu,dA,aD,bT,dh,bJ,aQ];simp only [h1,En,ht,go_sem]
   rfl
  | true =>
   dsimp only [Yj,au,bY,aZ,bH,aG,bE,dR,eu,dA,aD,bT,dh,bJ,aQ];simp only [h1,En,ht,hlu,go_sem]
def TM (nm:Int → ByteArray → List ByteArray) (pk:Qn → It × Bool) (now:Int) (q:Qn):nM × (ByteArray × Bool):=if q.t = 5 then (pR,(⟨#[]⟩,false)) else ((Im pk now ⟨q.q,5,q.c⟩).1,zi nm (Im pk now ⟨q.q,5,q.c⟩).1.s)
theorem MP {rm:Bool} (M:xX rm nm ext) (C:lQ ext) (s:Sv) (m:Ne.Nv) (now:Int) (q:Qn) (hd:∀ x ∈ s.m,x.d.length ≤ 1000000) (hu:∀ x ∈ s.m,x.u ≤ 4611686018427387904) (hy:∀ x ∈ s.m,∀ y ∈ x.d,y.size ≤ 1000000):G ext F (n + 5) 57 [Ym s m now,q.v] = some ([(TM nm (bB s now) now q).1.v,vs (TM nm (bB s now) now q).2.1,vb (TM nm (bB s now) now q).2.2],[Ym s m now,q.v]):=by
 refine dB (cf:=c57) rfl ?_
 have h1:=fun n=>Eo (F:=F) (n:=n) C s m now ⟨q.q,5,q.c⟩ hd hu
 have hsz:∀ y ∈ (Im (bB s now) now ⟨q.q,5,q.c⟩).1.s.d,y.size ≤ 1000000:=by
  have h0:∀ y ∈ (bB s now ⟨q.q,5,q.c⟩).1.d,y.size ≤ 1000000:=by
   unfold bB
   split
   ·rename_i x ho
    split
    ·exact hy x (jT ho).2
    ·intro y h;cases h
   ·intro y h;cases h
  unfold Im tl
  split
  ·rename_i h he
   split at he
   ·cases he;exact h0
   ·cases he
  ·intro y h;cases h
 have h2:=fun n=>JF (F:=F) (n:=n) M (Im (bB s now) now ⟨q.q,5,q.c⟩).1.s hsz
 unfold TM
 by_cases h5:q.t = 5
 ·have h5':decide (q.t = 5) = true:=aip h5
  rw [ail h5]
  dsimp only [c57,au,bY,aZ,bH,aG,bE,dR,eu,dA,aD,bT,dh,bJ,aQ];simp only [h5',go_sem]
  try rfl
 ·have h5':decide (q.t = 5) = false:=air h5
  rw [ain h5]
  dsimp only [c57,au,bY,aZ,bH,aG,bE,dR,eu,dA,aD,bT,dh,bJ,aQ];simp only [h5',h1,h2,go_sem]
  try rfl
def MQ (fd:Qn → Ne.Nt × Bool) (now:Int) (c:Ch) (q:Qn):Ch:=if (fd q).2 = true then ⟨c.hits,if (fd q).1.nx = true then 2 else 1,c.nm,⟨(fd q).1.s,qX now (fd q).1.u⟩⟩ else ⟨c.hits,3,c.nm,c.iM⟩
theorem QO (C:lQ ext) (s:Sv) (m:Ne.Nv) (now:Int) (c:Ch) (q:Qn) (hF:200000000000001 ≤ F) (hd:∀ x ∈ m.m,x.s.d.length ≤ 1000000) (hu:∀ x ∈ m.m,x.u ≤ 4611686018427387904):G ext F (n + 4) 58 [Ym s m now,c.v,q.v] = some ([(MQ (Ne.fD m now) now c q).v],[Ym s m now,c.v,q.v]):=by
 refine dB (cf:=c58) rfl ?_
 have h1:=fun n=>Ne.ML (F:=F) (n:=n) C m now q hF hd
 have hlu:=fun n=>Il (ext:=ext) (F:=F) (n:=n) now (Ne.fD m now q).1.u (by
  have h9:∀ b y,Ne.nof m.m now b = some y → y.u ≤ 4611686018427387904:=fun b y hy=>by
   unfold Ne.nof at hy
   split at hy
   ·rename_i y' ho
    split at hy
    ·cases hy;exact hu _ (Ne.jT ho).2
    ·cases hy
   ·cases hy
  unfold Ne.fD
  split
  ·rename_i y hy;exact h9 _ _ hy
  ·unfold Ne.ofR
   split
   ·rename_i y hy;exact h9 _ _ hy
   ·show (0:Int) ≤ _;omega)
 unfold MQ
 cases hv:(Ne.fD m now q).2 with
 | false =>
  rw [hv] at h1
  dsimp only [c58,au,bY,aZ,bH,aG,bE,dR,eu,dA,aD,bT,dh,bJ,aQ];simp only [h1,go_sem]
  try rfl
 | true =>
  rw [hv] at h1
  cases hx:(Ne.fD m now q).1.nx
  all_goals
   dsimp only [c58,au,bY,aZ,bH,aG,bE,dR,eu,dA,aD,bT,dh,bJ,aQ];simp only [h1,hx,hlu,go_sem]
   try rfl
end
section
attribute [local go_sem_proc] Nat.reduceAdd Nat.reduceMul Nat.reduceEqDiff Nat.reduceBEq Nat.reduceMod Nat.reduceDiv reduceCtorEq
attribute [local go_sem_proc ↓] reduceIte
open Go Ev
variable {ext : Env} {F n:Nat} {θ:Th} {nm:Int → ByteArray → List ByteArray}
abbrev nM.k (x:nM):Qn:=⟨x.s.q,x.s.t,x.s.c⟩
def uQ (l:List ByteArray):List (KV × FC):=l.map fun s=>(.one (.str s),.one (.int .i64 1))
theorem Io (l:List ByteArray) (s:ByteArray):wO (uQ l) (.one (.str s)) = l.findIdx? fun x=>decide (x = s):=by
 unfold wO uQ
 rw [List.map_map,List.findIdx?_map]
 refine aiK (fun p=>List.findIdx? p l) (funext fun x=>?_)
 simp only [Function.comp,KV.one.injEq,SV.str.injEq]
theorem MR {l:List ByteArray} {s:ByteArray} (h:xQ l s = false):rV (uQ l) (.one (.str s)) = none ∧ wP (uQ l) (.one (.str s)) (.one (.int .i64 1)) = uQ (l ++ [s]):=by
 have:l.findIdx? (fun x=>decide (x = s)) = none:=by
  refine ajR.mpr fun x hx=>?_
  unfold xQ at h
  have:=List.any_eq_false.mp h x hx
  simpa using this
 unfold rV wP
 rw [Io,this]
 exact ⟨rfl,by simp [uQ]⟩
theorem QS {l:List ByteArray} {s:ByteArray} (h:xQ l s = true):rV (uQ l) (.one (.str s)) = some (.one (.int .i64 1)):=by
 unfold rV
 rw [Io]
 cases hi:l.findIdx? (fun x=>decide (x = s)) with
 | none =>
  have h1:=ajR.mp hi
  unfold xQ at h
  obtain ⟨x,hx,he⟩:=ajk.mp h
  have:=h1 x hx
  rw [he] at this;cases this
 | some i =>
  obtain ⟨hi', -⟩:=ajF.mp hi
  show ((uQ l)[i]?.map fun p=>p.2) = _
  unfold uQ
  rw [ait,aiB hi']
  rfl
theorem QT {pk:Qn → It × Bool} {now:Int} {q:Qn} (h:al nm pk now q = none):(TM nm pk now q).2.2 = false:=by
 unfold al at h
 unfold TM
 split
 ·rfl
 ·rename_i h5
  rw [ain h5] at h
  unfold Im
  cases ht:tl pk now ⟨q.q,5,q.c⟩ with
  | none=>exact aiK Prod.snd (TL (nm:=nm) (s:=pR.s) (by decide))
  | some x =>
   rw [ht] at h
   show (zi nm x.s).2 = false
   unfold zi
   cases hg:tg nm x.s with
   | none=>rfl
   | some ZZ8=>rw [Option.bind_some,hg] at h;cases h
theorem QU {pk:Qn → It × Bool} {now:Int} {q:Qn} {x:nM} {ZZ8:ByteArray} (h:al nm pk now q = some (x,ZZ8)):TM nm pk now q = (x,(ZZ8,true)):=by
 unfold al at h
 unfold TM
 split at h
 ·cases h
 ·rename_i h5
  rw [ain h5]
  obtain ⟨y,h1,h2⟩:=zbm h
  obtain ⟨z,h3,h4⟩:=zmm h2
  cases h4
  unfold Im
  rw [h1]
  show (x,zi nm x.s) = _
  unfold zi
  rw [h3]
theorem QV {fd:Qn → Ne.Nt × Bool} {now:Int} {hits:List nM} {q:Qn}:MQ fd now ⟨hits,0,q.q,pR⟩ q = fin fd now hits q:=by
 unfold MQ fin;rfl
def fT (s:Sv) (m:Ne.Nv) (now:Int) (M:List ByteArray) (hits:List nM) (pn:ByteArray) (q:Qn):St:=match hits with
 | []=>⟨[(7,PV.c (CV.one (PL.ptr 160000 0))),(8,PV.c (CV.one (PL.ptr 180000 0))),(9,PV.c (CV.one (PL.ptr 200000 0))),(10,PV.c (CV.one (PL.ptr 220000 0))),(11,PV.c (CV.one (PL.mp 440000)))],[(20201,Ob.eH [PL.f (FV.int IntKind.i64 s.room),PL.mp 20205,PL.f (FV.sl (List.map rQ s.o)),PL.f (FV.int IntKind.i64 s.ch)]),(20205,Ob.map lD (List.map ent s.m)),(40201,Ob.eH [PL.f (FV.int IntKind.i64 m.room),PL.mp 40205,PL.f (FV.sl (List.map rQ m.o)),PL.f (FV.int IntKind.i64 m.ch)]),(40205,Ob.map Ne.lD (List.map Ne.ent m.m)),(160000,Ob.eH [PL.f (FV.str q.q),PL.f (FV.int IntKind.i64 q.t),PL.f (FV.int IntKind.i64 q.c)]),(180000,Ob.eH [PL.bP,PL.f (FV.int IntKind.i64 0),PL.f (FV.str ⟨#[]⟩),PL.f (FV.str ⟨#[]⟩),PL.f (FV.int IntKind.i64 0),PL.f (FV.int IntKind.i64 0),PL.bP,PL.f (FV.int IntKind.i64 0),PL.f (FV.int IntKind.i64 0)]),(200000,Ob.eH [PL.ptr 20201 0,PL.ptr 40201 0,PL.f (FV.int IntKind.i64 now)]),(220000,Ob.eH [PL.bP,PL.f (FV.int IntKind.i64 0),PL.f (FV.str pn),PL.f (FV.str ⟨#[]⟩),PL.f (FV.int IntKind.i64 0),PL.f (FV.int IntKind.i64 0),PL.bP,PL.f (FV.int IntKind.i64 0),PL.f (FV.int IntKind.i64 0)]),(440000,Ob.map (KS.one SK.str) (uQ M))]⟩
 | _=>⟨[(7,PV.c (CV.one (PL.ptr 160000 0))),(8,PV.c (CV.one (PL.ptr 180000 0))),(9,PV.c (CV.one (PL.ptr 200000 0))),(10,PV.c (CV.one (PL.ptr 220000 0))),(11,PV.c (CV.one (PL.mp 440000)))],[(20201,Ob.eH [PL.f (FV.int IntKind.i64 s.room),PL.mp 690004,PL.f (FV.sl (List.map rQ s.o)),PL.f (FV.int IntKind.i64 s.ch)]),(40201,Ob.eH [PL.f (FV.int IntKind.i64 m.room),PL.mp 690204,PL.f (FV.sl (List.map rQ m.o)),PL.f (FV.int IntKind.i64 m.ch)]),(160000,Ob.eH [PL.f (FV.str q.q),PL.f (FV.int IntKind.i64 q.t),PL.f (FV.int IntKind.i64 q.c)]),(180000,Ob.eH [PL.bP,PL.f (FV.int IntKind.i64 0),PL.f (FV.str ⟨#[]⟩),PL.f (FV.str ⟨#[]⟩),PL.f (FV.int IntKind.i64 0),PL.f (FV.int IntKind.i64 0),PL.bP,PL.f (FV.int IntKind.i64 0),PL.f (FV.int IntKind.i64 0)]),(200000,Ob.eH [PL.ptr 20201 0,PL.ptr 40201 0,PL.f (FV.int IntKind.i64 now)]),(220000,Ob.eH [PL.own 1240000 (hits.map rH).length,PL.f (FV.int IntKind.i64 0),PL.f (FV.str pn),PL.f (FV.str ⟨#[]⟩),PL.f (FV.int IntKind.i64 0),PL.f (FV.int IntKind.i64 0),PL.bP,PL.f (FV.int IntKind.i64 0),PL.f (FV.int IntKind.i64 0)]),(440000,Ob.map (KS.one SK.str) (uQ M)),(690004,Ob.map lD (List.map ent s.m)),(690204,Ob.map Ne.lD (List.map Ne.ent m.m)),(1240000,.row 6 (hits.map rH))]⟩
theorem Cn (s:Sv) (m:Ne.Nv) (now:Int) (M:List ByteArray) (pn:ByteArray) (q:Qn):fT s m now M [] pn q = ⟨[(7,PV.c (CV.one (PL.ptr 160000 0))),(8,PV.c (CV.one (PL.ptr 180000 0))),(9,PV.c (CV.one (PL.ptr 200000 0))),(10,PV.c (CV.one (PL.ptr 220000 0))),(11,PV.c (CV.one (PL.mp 440000)))],[(20201,Ob.eH [PL.f (FV.int IntKind.i64 s.room),PL.mp 20205,PL.f (FV.sl (List.map rQ s.o)),PL.f (FV.int IntKind.i64 s.ch)]),(20205,Ob.map lD (List.map ent s.m)),(40201,Ob.eH [PL.f (FV.int IntKind.i64 m.room),PL.mp 40205,PL.f (FV.sl (List.map rQ m.o)),PL.f (FV.int IntKind.i64 m.ch)]),(40205,Ob.map Ne.lD (List.map Ne.ent m.m)),(160000,Ob.eH [PL.f (FV.str q.q),PL.f (FV.int IntKind.i64 q.t),PL.f (FV.int IntKind.i64 q.c)]),(180000,Ob.eH [PL.bP,PL.f (FV.int IntKind.i64 0),PL.f (FV.str ⟨#[]⟩),PL.f (FV.str ⟨#[]⟩),PL.f (FV.int IntKind.i64 0),PL.f (FV.int IntKind.i64 0),PL.bP,PL.f (FV.int IntKind.i64 0),PL.f (FV.int IntKind.i64 0)]),(200000,Ob.eH [PL.ptr 20201 0,PL.ptr 40201 0,PL.f (FV.int IntKind.i64 now)]),(220000,Ob.eH [PL.bP,PL.f (FV.int IntKind.i64 0),PL.f (FV.str pn),PL.f (FV.str ⟨#[]⟩),PL.f (FV.int IntKind.i64 0),PL.f (FV.int IntKind.i64 0),PL.bP,PL.f (FV.int IntKind.i64 0),PL.f (FV.int IntKind.i64 0)]),(440000,Ob.map (KS.one SK.str) (uQ M))]⟩:=rfl
theorem qo (s:Sv) (m:Ne.Nv) (now:Int) (M:List ByteArray) (hits:List nM) (pn:ByteArray) (q:Qn) (h:hits ≠ []):fT s m now M hits pn q = ⟨[(7,PV.c (CV.one (PL.ptr 160000 0))),(8,PV.c (CV.one (PL.ptr 180000 0))),(9,PV.c (CV.one (PL.ptr 200000 0))),(10,PV.c (CV.one (PL.ptr 220000 0))),(11,PV.c (CV.one (PL.mp 440000)))],[(20201,Ob.eH [PL.f (FV.int IntKind.i64 s.room),PL.mp 690004,PL.f (FV.sl (List.map rQ s.o)),PL.f (FV.int IntKind.i64 s.ch)]),(40201,Ob.eH [PL.f (FV.int IntKind.i64 m.room),PL.mp 690204,PL.f (FV.sl (List.map rQ m.o)),PL.f (FV.int IntKind.i64 m.ch)]),(160000,Ob.eH [PL.f (FV.str q.q),PL.f (FV.int IntKind.i64 q.t),PL.f (FV.int IntKind.i64 q.c)]),(180000,Ob.eH [PL.bP,PL.f (FV.int IntKind.i64 0),PL.f (FV.str ⟨#[]⟩),PL.f (FV.str ⟨#[]⟩),PL.f (FV.int IntKind.i64 0),PL.f (FV.int IntKind.i64 0),PL.bP,PL.f (FV.int IntKind.i64 0),PL.f (FV.int IntKind.i64 0)]),(200000,Ob.eH [PL.ptr 20201 0,PL.ptr 40201 0,PL.f (FV.int IntKind.i64 now)]),(220000,Ob.eH [PL.own 1240000 (hits.map rH).length,PL.f (FV.int IntKind.i64 0),PL.f (FV.str pn),PL.f (FV.str ⟨#[]⟩),PL.f (FV.int IntKind.i64 0),PL.f (FV.int IntKind.i64 0),PL.bP,PL.f (FV.int IntKind.i64 0),PL.f (FV.int IntKind.i64 0)]),(440000,Ob.map (KS.one SK.str) (uQ M)),(690004,Ob.map lD (List.map ent s.m)),(690204,Ob.map Ne.lD (List.map Ne.ent m.m)),(1240000,.row 6 (hits.map rH))]⟩:=by
 cases hits with
 | nil=>exact absurd rfl h
 | cons a l=>rfl
theorem xY (hits:List nM):hits = [] ∨ hits ≠ []:=by cases hits <;> simp
theorem JG {rm:Bool} (O:xX rm nm ext) (C:lQ ext) (hF:200000000000001 ≤ F) (s:Sv) (m:Ne.Nv) (now:Int) (q:Qn) (hd:∀ x ∈ s.m,x.d.length ≤ 1000000) (hu:∀ x ∈ s.m,x.u ≤ 4611686018427387904) (hy:∀ x ∈ s.m,∀ y ∈ x.d,y.size ≤ 1000000) (hd2:∀ x ∈ m.m,x.s.d.length ≤ 1000000) (hu2:∀ x ∈ m.m,x.u ≤ 4611686018427387904) :
  G ext F (n + 6) 14 [s.v,m.v,vi now,q.v] = some ([(vZ nm (bB s now) (Ne.fD m now) now q).v],[s.v,m.v,vi now,q.v]):=by
 refine dB (cf:=c14) rfl ?_
 generalize hres:vZ nm (bB s now) (Ne.fD m now) now q = R
 dsimp only [c14,au,bY,aZ,bH,aG,bE,dR,eu,dA,aD,bT,dh,bJ,aQ];simp only [go_sem]
 refine xR 9 (fun x:List ByteArray × List nM × ByteArray × ByteArray=>fT s m now x.1 x.2.1 x.2.2.1 ⟨x.2.2.2,q.t,q.c⟩) (fun i x=>x.2.1.length = i ∧ i < 9 ∧ xQ x.1 x.2.2.2 = false ∧ xW nm (bB s now) (Ne.fD m now) now (9 - i) (x.1 ++ [x.2.2.2]) x.2.1 ⟨x.2.2.2,q.t,q.c⟩ = R) (by omega) ([],[],⟨#[]⟩,q.q) rfl ⟨rfl,by omega,rfl,hres⟩ (fun i x hi hP=>?_) (fun x hP=>absurd hP.2.1 (by omega))
 obtain ⟨M,hits,pn,Aq⟩:=x
 obtain ⟨hlen, -,hm,hf⟩:=hP
 simp only at hlen hm hf ⊢
 obtain ⟨f,hf9⟩:∃ f,9 - i = f + 1:=⟨8 - i,by omega⟩
 rw [hf9] at hf
 obtain ⟨k1,k2⟩:=MR hm
 have hw1:IntKind.i64.wrap (0 + 1) = 1:=by decide
 have t1:=fun n=>Eo (F:=F) (n:=n) C s m now ⟨Aq,q.t,q.c⟩ hd hu
 have a1:=fun n=>MP (F:=F) (n:=n) O C s m now ⟨Aq,q.t,q.c⟩ hd hu hy
 have e1:=fun n=>QO (F:=F) (n:=n) C s m now ⟨hits,0,Aq,pR⟩ ⟨Aq,q.t,q.c⟩ hF hd2 hu2
 rw [show MQ (Ne.fD m now) now ⟨hits,0,Aq,pR⟩ ⟨Aq,q.t,q.c⟩ = fin (Ne.fD m now) now hits ⟨Aq,q.t,q.c⟩ from QV (q:=⟨Aq,q.t,q.c⟩)] at e1
 simp only [Ch.v,pR,JE,aiF] at e1
 unfold xW at hf
 have hsz:(((hits.map rH).length:Nat) + 1) * 72 ≤ 140737488355328:=by rw [aio];omega
 cases h1:tl (bB s now) now ⟨Aq,q.t,q.c⟩ with
 | some h =>
  have et:Im (bB s now) now ⟨Aq,q.t,q.c⟩ = (h,true):=by unfold Im;rw [h1]
  rw [et] at t1
  rw [h1] at hf
  subst hf
  rcases xY hits with rfl | g1
  ·rw [Cn]
   simp only [k1,k2,hw1,t1,Option.getD_none,go_sem]
   exact ⟨by decide,rfl⟩
  ·rw [qo _ _ _ _ _ _ _ g1]
   simp only [k1,k2,hw1,t1,Option.getD_none,hsz,go_sem]
   simp [rH,pR,JE]
 | none =>
  have et:Im (bB s now) now ⟨Aq,q.t,q.c⟩ = (pR,false):=by unfold Im;rw [h1]
  rw [et] at t1
  rw [h1] at hf
  simp only [pR,JE,aiF] at t1
  cases h2:al nm (bB s now) now ⟨Aq,q.t,q.c⟩ with
  | none =>
   have ea:=QT h2
   rw [h2] at hf
   subst hf
   rw [ea] at a1
   rcases xY hits with rfl | g1
   ·rw [Cn]
    simp only [aiF] at e1
    simp only [k1,k2,hw1,t1,a1,e1,Option.getD_none,go_sem]
   ·rw [qo _ _ _ _ _ _ _ g1]
    simp only [k1,k2,hw1,t1,a1,e1,Option.getD_none,go_sem]
  | some p =>
   obtain ⟨h,ZZ8⟩:=p
   rw [QU h2] at a1
   rw [h2] at hf
   simp only at hf
   have hml:((hits ++ [h]).map rH) = hits.map rH ++ [[FV.str h.s.q,FV.int IntKind.i64 h.s.t,FV.int IntKind.i64 h.s.c,FV.sl (List.map bn h.s.d),FV.int IntKind.i64 h.s.ttl,FV.int IntKind.i64 h.left]]:=by simp [rH]
   have hll:(hits.map rH).length = hits.length:=aio _
   by_cases h8:8 ≤ hits.length
   ·rw [ail (.inl h8)] at hf
    subst hf
    have c8:decide ((8:Int) < (((hits.map rH).length + 1:Nat):Int)) = true:=aip (by omega)
    rcases xY hits with rfl | g1
    ·simp at h8
    ·rw [qo _ _ _ _ _ _ _ g1]
     simp only [k1,k2,hw1,t1,a1,Option.getD_none,hsz,c8,go_sem]
     simp [rH,pR,JE]
   ·have c8:decide ((8:Int) < (((hits.map rH).length + 1:Nat):Int)) = false:=air (by omega)
    have c8':decide ((8:Int) < ((0 + 1:Nat):Int)) = false:=by decide
    have z1:decide ((0:Int) < 1) = true:=by decide
    have z0:decide ((0:Int) < 0) = false:=by decide
    cases hin:xQ (M ++ [Aq]) ZZ8 with
    | true =>
     rw [ail (.inr hin)] at hf
     subst hf
     have y1:=QS hin
     rcases xY hits with rfl | g1
     ·rw [Cn]
      simp only [k1,k2,hw1,t1,a1,Option.getD_none,Option.getD_some,hsz,c8',y1,z1,List.length_cons,List.length_nil,go_sem]
      exact ⟨by decide,rfl⟩
     ·rw [qo _ _ _ _ _ _ _ g1]
      simp only [k1,k2,hw1,t1,a1,Option.getD_none,Option.getD_some,hsz,c8,y1,z1,go_sem]
      simp [rH,pR,JE]
    | false =>
     rw [ain (by rw [hin];simp;omega)] at hf
     have y1:=(MR hin).1
     have hnext:(hits ++ [h]).length = i + 1 ∧ i + 1 < 9 ∧ xQ (M ++ [Aq]) ZZ8 = false ∧ xW nm (bB s now) (Ne.fD m now) now (9 - (i + 1)) (M ++ [Aq] ++ [ZZ8]) (hits ++ [h]) ⟨ZZ8,q.t,q.c⟩ = R:=⟨by simp;omega,by omega,hin,by rw [show 9 - (i + 1) = f from by omega];exact hf⟩
     have g3:=fun pn' q'=>qo s m now (M ++ [Aq]) (hits ++ [h]) pn' q' (by simp)
     rcases xY hits with rfl | g1
     ·rw [Cn]
      simp only [k1,k2,hw1,t1,a1,Option.getD_none,Option.getD_some,hsz,c8',y1,z0,List.length_cons,List.length_nil,go_sem]
      exact ⟨by decide,(M ++ [Aq],[] ++ [h],Aq,ZZ8),by rw [g3];rfl,hnext⟩
     ·rw [qo _ _ _ _ _ _ _ g1]
      simp only [k1,k2,hw1,t1,a1,Option.getD_none,Option.getD_some,hsz,c8,y1,z0,go_sem]
      exact ⟨(M ++ [Aq],hits ++ [h],Aq,ZZ8),by rw [g3,hml];simp,hnext⟩
end
section
open Go Ev
variable {θ : Th} {gt:ByteArray → Int → Int → Int × Bool}
structure Pt where
 now:Int
 s:Se
 r:Int
 k:Qn
def rP (x:Pt):List FV:=[.int .i64 x.now,.str x.s.q,.int .i64 x.s.t,.int .i64 x.s.c,.sl (x.s.d.map bn),.int .i64 x.s.ttl,.int .i64 x.r,.str x.k.q,.int .i64 x.k.t,.int .i64 x.k.c]
abbrev Pt.v (x:Pt):AV:=.agg [.f (.int .i64 x.now),.f (.str x.s.q),.f (.int .i64 x.s.t),.f (.int .i64 x.s.c),.f (.sl (x.s.d.map bn)),.f (.int .i64 x.s.ttl),.f (.int .i64 x.r),.f (.str x.k.q),.f (.int .i64 x.k.t),.f (.int .i64 x.k.c)]
def s50 : Sv:=⟨50,[],[],0⟩
def m50 : Ne.Nv:=⟨50,[],[],0⟩
def zk (θ:Th) (gt:ByteArray → Int → Int → Int × Bool) (a:Sv × Ne.Nv) (p:Pt):Sv × Ne.Nv:=if 0 < p.r then ((uN θ a.1 p.now p.s p.r).1,a.2) else (a.1,(Ne.rM θ gt a.2 p.now p.k (decide (p.r < 0)) p.s).1)
def mQ (θ:Th) (gt:ByteArray → Int → Int → Int × Bool) (l:List Pt):Sv × Ne.Nv:=l.foldl (zk θ gt) (s50,m50)
theorem xZ {l:List Pt} {p:Pt} {i:Nat} (h:l[i]? = some p):mQ θ gt (l.take (i + 1)) = zk θ gt (mQ θ gt (l.take i)) p:=by
 unfold mQ;rw [ai7,h,akb];rfl
theorem uR : ∀ {g:List Qn} {l:List It},(g.foldl rid l).Sublist l
 | [],l=>aj3 _
 | a :: g,l=>(uR (g:=g)).trans sW
theorem MS {l:List It} {x:It}:(upd l x).length ≤ l.length + 1:=by
 rcases rJ l x with ⟨-,hu⟩ | ⟨a,y,c,rfl, -, -,hu⟩ <;> rw [hu] <;> simp
theorem MU {l:List It} {x y:It} (h:y ∈ upd l x):y = x ∨ y ∈ l:=by
 rcases rJ l x with ⟨-,hu⟩ | ⟨a,z,c,rfl, -, -,hu⟩ <;> rw [hu] at h <;> simp at h ⊢
 ·rcases h with h | h <;> simp [h]
 ·rcases h with h | h | h <;> simp [h]
theorem vF : ∀ {g:List Qn} {l:List It},(ks l).Nodup → (ks (g.foldl rid l)).Nodup
 | [],l,h=>h
 | a :: g,l,h=>vF (g:=g) (uO h)
theorem vG : ∀ {g:List Qn} {l:List Ne.Nt},(Ne.ks l).Nodup → (Ne.ks (g.foldl Ne.rid l)).Nodup
 | [],l,h=>h
 | a :: g,l,h=>vG (g:=g) (Ne.uO h)
structure FS (l:List Pt) (i:Nat) (s:Sv):Prop where
 r:s.room = 50
 c:0 ≤ s.ch ∧ s.ch ≤ i
 o:s.o.length ≤ i
 m:s.m.length ≤ i
 it:∀ x ∈ s.m,∃ p ∈ l,0 < p.r ∧ x = p.s.it (fI p.now p.s.ttl) p.r
 lV:(ks s.m).Nodup
structure FN (θ:Th) (gt:ByteArray → Int → Int → Int × Bool) (l:List Pt) (i:Nat) (s:Ne.Nv):Prop where
 r:s.room = 50
 c:0 ≤ s.ch ∧ s.ch ≤ i
 o:s.o.length ≤ i
 m:s.m.length ≤ i
 it:∀ x ∈ s.m,∃ p ∈ l,x.s = p.s ∧ x.u = fI p.now (Ne.vY θ gt p.s).1 ∧ x.k.q = p.k.q
 lV:(Ne.ks s.m).Nodup
theorem FS.up {l:List Pt} {i:Nat} {s:Sv} (h:FS l i s):FS l (i + 1) s:=⟨h.r,by have:=h.c;omega,by have:=h.o;omega,by have:=h.m;omega,h.it,h.lV⟩
theorem FN.up {l:List Pt} {i:Nat} {s:Ne.Nv} (h:FN θ gt l i s):FN θ gt l (i + 1) s:=⟨h.r,by have:=h.c;omega,by have:=h.o;omega,by have:=h.m;omega,h.it,h.lV⟩
theorem FS.put {l:List Pt} {i:Nat} {s:Sv} (h:FS l i s) {p:Pt} (hp:p ∈ l) (h0:0 < p.r):FS l (i + 1) (uN θ s p.now p.s p.r).1:=by
 have hc:=h.c
 have hq:=@sV s.o p.s.k
 have ho:=h.o
 have hm:=h.m
 have hu:=@MS s.m (p.s.it (fI p.now p.s.ttl) p.r)
 unfold uN
 dsimp only
 split
 ·exact h.up
 ·refine ⟨h.r,by show 0 ≤ s.ch + 1 ∧ s.ch + 1 ≤ _;omega,?_,?_,fun y hy=>?_,vF (uP h.lV)⟩
  ·show (List.drop _ _).length ≤ _
   rw [aiR,aiv,List.length_singleton];omega
  ·exact aiH uR.length_le (by omega)
  ·rcases MU (uR.subset hy) with rfl | h1
   ·exact ⟨p,hp,h0,rfl⟩
   ·exact h.it y h1
theorem FN.put {l:List Pt} {i:Nat} {s:Ne.Nv} (h:FN θ gt l i s) {p:Pt} (hp:p ∈ l) (b:Bool):FN θ gt l (i + 1) (Ne.rM θ gt s p.now p.k b p.s).1:=by
 have hc:=h.c
 have hq:=@sV s.o (Ne.kn b p.k)
 have ho:=h.o
 have hm:=h.m
 unfold Ne.rM
 split
 ·exact h.up
 split
 ·exact h.up
 have hu:=@Ne.QI s.m ⟨Ne.kn b p.k,b,p.s,fI p.now (Ne.vY θ gt p.s).1⟩
 refine ⟨h.r,by show 0 ≤ s.ch + 1 ∧ s.ch + 1 ≤ _;omega,?_,?_,fun y hy=>?_,vG (Ne.uP h.lV)⟩
 ·show (List.drop _ _).length ≤ _
  rw [aiR,aiv,List.length_singleton];omega
 ·exact aiH Ne.xV.length_le (by omega)
 ·rcases Ne.QJ (Ne.xV.subset hy) with rfl | h1
  ·refine ⟨p,hp,rfl,rfl,?_⟩
   show (Ne.kn b p.k).q = _
   unfold Ne.kn;cases b <;> rfl
  ·exact h.it y h1
structure FI (θ:Th) (gt:ByteArray → Int → Int → Int × Bool) (l:List Pt) (i:Nat) (a:Sv × Ne.Nv):Prop where
 s:FS l i a.1
 n:FN θ gt l i a.2
theorem fi0 (l:List Pt):FI θ gt l 0 (s50,m50):=⟨⟨rfl,⟨ajg _,ajg _⟩,aiq _,aiq _,(by intro x hx;cases hx),ajY⟩,⟨rfl,⟨ajg _,ajg _⟩,aiq _,aiq _,(by intro x hx;cases hx),ajY⟩⟩
theorem FI.zk {l:List Pt} {i:Nat} {a:Sv × Ne.Nv} (h:FI θ gt l i a) {p:Pt} (hp:p ∈ l):FI θ gt l (i + 1) (zk θ gt a p):=by
 unfold Kc.zk
 split
 ·rename_i h0;exact ⟨h.s.put hp h0,h.n.up⟩
 ·exact ⟨h.s.up,h.n.put hp _⟩
theorem fi (l:List Pt):∀ i,i ≤ l.length → FI θ gt l i (mQ θ gt (l.take i))
 | 0,_=>fi0 l
 | i + 1,h=>by
  have hi:l[i]? = some l[i]:=aiB (by omega)
  rw [xZ hi]
  exact (fi l i (by omega)).zk (List.getElem_mem _)
theorem fiA (l:List Pt):FI θ gt l l.length (mQ θ gt l):=by
 have:=fi (θ:=θ) (gt:=gt) l l.length (aiq _)
 rwa [ai2] at this
def kR (l:List Pt):Bool:=l.all fun x=>nG x.s.q x.s.d && decide (x.k.q.size ≤ 300)
theorem JH {l:List Pt} {x:Pt} {i:Nat} (h:l[i]? = some x):kR (l.take (i + 1)) = (kR (l.take i) && (nG x.s.q x.s.d && decide (x.k.q.size ≤ 300))):=by
 unfold kR
 rw [ai7,h,List.all_append]
 simp
theorem Ip {l:List Pt} {x:Pt} {i:Nat} (h:l[i]? = some x) (hx:(nG x.s.q x.s.d && decide (x.k.q.size ≤ 300)) = false):kR l = false:=by
 unfold kR
 rw [List.all_eq_false]
 exact ⟨x,ajn h,by simp only [hx,aiO,akc]⟩
theorem Au {q:ByteArray} {d:List ByteArray} (h:nG q d = true):q.size ≤ 300 ∧ d.length ≤ 60 ∧ ∀ y ∈ d,y.size ≤ 2000:=by
 unfold nG Ed at h
 rw [aiw,aiA,aiG] at h
 refine ⟨by omega,?_,fun y hy=>?_⟩
 ·cases hd:d with
  | nil=>simp
  | cons y d' =>
   have:=h.1 y (by rw [hd];simp)
   simp only [aiw,aiG] at this
   rw [hd] at this;omega
 ·have:=h.1 y hy
  simp only [aiw,aiG] at this
  omega
theorem sZ {l:List Pt} {x:Pt} (h:kR l = true) (hx:x ∈ l):x.k.q.size ≤ 1000000 ∧ x.s.q.size ≤ 1000000 ∧ x.s.d.length ≤ 1000000 ∧ ∀ y ∈ x.s.d,y.size ≤ 1000000:=by
 have h1:=aiA.mp h x hx
 rw [aiw,aiG] at h1
 obtain ⟨a,b,c⟩:=Au h1.1
 exact ⟨by omega,by omega,by omega,fun y hy=>by have:=c y hy;omega⟩
theorem Ep {now ttl:Int}:fI now ttl ≤ 4611686018427387904:=by
 unfold fI Qq
 split
 ·rename_i h
  simp only [aiG] at h
  split <;> omega
 ·omega
structure FW (a:Sv × Ne.Nv):Prop where
 hd:∀ x ∈ a.1.m,x.d.length ≤ 1000000
 hu:∀ x ∈ a.1.m,x.u ≤ 4611686018427387904
 hy:∀ x ∈ a.1.m,∀ y ∈ x.d,y.size ≤ 1000000
 hd2:∀ x ∈ a.2.m,x.s.d.length ≤ 1000000
 hu2:∀ x ∈ a.2.m,x.u ≤ 4611686018427387904
theorem FI.w {l:List Pt} {i:Nat} {a:Sv × Ne.Nv} (h:FI θ gt l i a) (hf:kR l = true):FW a:=by
 refine ⟨fun x hx=>?_,fun x hx=>?_,fun x hx=>?_,fun x hx=>?_,fun x hx=>?_⟩
 ·obtain ⟨p,hp, -,rfl⟩:=h.s.it x hx;exact (sZ hf hp).2.2.1
 ·obtain ⟨p,hp, -,rfl⟩:=h.s.it x hx;exact Ep
 ·obtain ⟨p,hp, -,rfl⟩:=h.s.it x hx;exact (sZ hf hp).2.2.2
 ·obtain ⟨p,hp,h1, -⟩:=h.n.it x hx;rw [h1];exact (sZ hf hp).2.2.1
 ·obtain ⟨p,hp, -,h1, -⟩:=h.n.it x hx;rw [h1];exact Ep
theorem Co {s:Sv} {now:Int} {k:Qn} (h:(bB s now k).2 = true):(bB s now k).1 ∈ s.m ∧ (bB s now k).1.k = k ∧ jE now (bB s now k).1.u = true:=by
 unfold bB at h ⊢
 cases ho:old s.m k with
 | none=>rw [ho] at h;cases h
 | some x =>
  rw [ho] at h
  dsimp only at h ⊢
  cases hl:jE now x.u with
  | false=>rw [hl] at h;cases h
  | true=>exact ⟨(jT ho).2,(jT ho).1,hl⟩
end
end Go.Proofs.YtfokaoeinpnagaaGreat.Kc

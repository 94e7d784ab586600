/- A part of the proof of SeekStill: cut, joined and given short names by a program of this session (wip/tools/pack.py); Lean checks it. No condition. -/
import GoSem.Dispatch
import Derived.Laws.Entries
import Derived.WideMake
import Derived.WalkKit
import Derived.Below
import Derived.Laws.AppendOwn
import Derived.Maps.AppendAt
import Derived.Lib.Strings
import Derived.Laws.CopyRow
import Derived.Laws.Cells
import Derived.ChangeKeysEq
import Derived.WideShapes
import Derived.Laws.Tables
import Derived.Great.BuildSlice
set_option linter.unusedSectionVars false
set_option linter.unusedSimpArgs false
set_option linter.unusedVariables false
set_option maxHeartbeats 16000000
set_option maxRecDepth 100000
theorem zbm {α β : Type _} {o : Option α} {f : α → Option β} {b : β} : o.bind f = some b → ∃ a, o = some a ∧ f a = some b := Option.bind_eq_some_iff.mp
theorem zmm {α β : Type _} {o : Option α} {f : α → β} {b : β} : o.map f = some b → ∃ a, o = some a ∧ f a = b := Option.map_eq_some_iff.mp
theorem ah8 : type_of% @List.map_cons := @List.map_cons
theorem ai3 : type_of% @List.cons.injEq := @List.cons.injEq
theorem ajh : type_of% @List.mem_cons_self := @List.mem_cons_self
theorem ais : type_of% @Bool.false_eq_true := @Bool.false_eq_true
theorem aik : type_of% @if_false := @if_false
theorem aiQ : type_of% @List.mem_cons_of_mem := @List.mem_cons_of_mem
theorem aip : type_of% @Nat.zero_add := @Nat.zero_add
theorem ah0 : type_of% @decide_eq_true := @decide_eq_true
theorem ah2 : type_of% @decide_eq_false := @decide_eq_false
theorem aji : type_of% @beq_eq_false_iff_ne := @beq_eq_false_iff_ne
theorem ajc : type_of% @ByteArray.ext := @ByteArray.ext
theorem ajq : type_of% @List.map_append := @List.map_append
theorem ajr : type_of% @List.nodup_append := @List.nodup_append
theorem aiq : type_of% @List.mem_map := @List.mem_map
theorem ail : type_of% @List.map_nil := @List.map_nil
theorem aiR : type_of% @List.mem_singleton := @List.mem_singleton
theorem air : type_of% @List.mem_append := @List.mem_append
theorem ajj : type_of% @List.findIdx?_eq_some_iff_getElem := @List.findIdx?_eq_some_iff_getElem
theorem ahZ : type_of% @List.length_map := @List.length_map
theorem aii : type_of% @decide_eq_true_eq := @decide_eq_true_eq
theorem ajd : type_of% @List.getElem_map := @List.getElem_map
theorem aic : type_of% @List.getElem?_eq_getElem := @List.getElem?_eq_getElem
theorem aio : type_of% @congrArg := @congrArg
theorem ah3 : type_of% @List.getElem?_map := @List.getElem?_map
theorem aie : type_of% @Option.some.injEq := @Option.some.injEq
theorem ahX : type_of% @if_pos := @if_pos
theorem ai4 : type_of% @List.ext_getElem? := @List.ext_getElem?
theorem ahY : type_of% @if_neg := @if_neg
theorem ait : type_of% @Array.getElem?_eq_getElem := @Array.getElem?_eq_getElem
theorem ajk : type_of% @List.map_set := @List.map_set
theorem ajH : type_of% @List.Sublist.refl := @List.Sublist.refl
theorem ai5 : type_of% @Array.getElem?_eq_some_iff := @Array.getElem?_eq_some_iff
theorem aif : type_of% @List.mem_cons := @List.mem_cons
theorem aiM : type_of% @Array.getD_eq_getD_getElem? := @Array.getD_eq_getD_getElem?
theorem ai6 : type_of% @Array.getElem?_setIfInBounds := @Array.getElem?_setIfInBounds
theorem aiz : type_of% @Nat.lt_of_lt_of_le := @Nat.lt_of_lt_of_le
theorem aij : type_of% @Nat.le_trans := @Nat.le_trans
theorem ai0 : type_of% @List.any_eq_true := @List.any_eq_true
theorem ajs : type_of% @List.mem_filter := @List.mem_filter
theorem ai7 : type_of% @Array.getElem?_toList := @Array.getElem?_toList
theorem aiu : type_of% @if_true := @if_true
theorem aia : type_of% @List.length_take := @List.length_take
theorem aiv : type_of% @List.length_drop := @List.length_drop
theorem aiI : type_of% @List.getElem?_take := @List.getElem?_take
theorem aiS : type_of% @List.getElem?_drop := @List.getElem?_drop
theorem ai8 : type_of% @Nat.zero_mul := @Nat.zero_mul
theorem ai9 : type_of% @List.drop_zero := @List.drop_zero
theorem aiN : type_of% @Nat.succ_mul := @Nat.succ_mul
theorem aiJ : type_of% @Decidable.not_not := @Decidable.not_not
theorem ajz : type_of% @List.drop_eq_getElem_cons := @List.drop_eq_getElem_cons
theorem aiO : type_of% @List.getElem?_eq_some_iff := @List.getElem?_eq_some_iff
theorem aiy : type_of% @Nat.zero_le := @Nat.zero_le
theorem ah1 : type_of% @Nat.le_refl := @Nat.le_refl
theorem ajt : type_of% @List.eq_nil_of_length_eq_zero := @List.eq_nil_of_length_eq_zero
theorem ah5 : type_of% @Bool.and_eq_true := @Bool.and_eq_true
theorem aiH : type_of% @beq_iff_eq := @beq_iff_eq
theorem ah6 : type_of% @Iff.rfl := @Iff.rfl
theorem ajI : type_of% @Bool.or_eq_false_iff := @Bool.or_eq_false_iff
theorem aiX : type_of% @Bool.eq_false_iff := @Bool.eq_false_iff
theorem aiV : type_of% @Bool.or_eq_true := @Bool.or_eq_true
theorem ajA : type_of% @List.length_set := @List.length_set
theorem ah7 : type_of% @List.length_append := @List.length_append
theorem ajl : type_of% @Option.isSome_iff_exists := @Option.isSome_iff_exists
theorem aje : type_of% @Array.toList_map := @Array.toList_map
theorem aiZ : type_of% @Bool.false_ne_true := @Bool.false_ne_true
theorem aiP : type_of% @List.append_assoc := @List.append_assoc
theorem ajJ : type_of% @List.getElem?_append := @List.getElem?_append
theorem ajK : type_of% @Nat.min_eq_left := @Nat.min_eq_left
theorem ajB : type_of% @List.take_of_length_le := @List.take_of_length_le
theorem ajm : type_of% @List.getElem?_eq_none := @List.getElem?_eq_none
theorem ajL : type_of% @List.take_append_of_le_length := @List.take_append_of_le_length
theorem aju : type_of% @List.take_append_drop := @List.take_append_drop
theorem ai1 : type_of% @List.append_nil := @List.append_nil
theorem ajv : type_of% @Nat.mul_le_mul_right := @Nat.mul_le_mul_right
theorem ajn : type_of% @bne_iff_ne := @bne_iff_ne
theorem aib : type_of% @List.all_eq_true := @List.all_eq_true
theorem ajC : type_of% @List.nodup_nil := @List.nodup_nil
theorem ajD : type_of% @List.flatMap_cons := @List.flatMap_cons
theorem ajw : type_of% @Bool.not_true := @Bool.not_true
theorem ain : type_of% @Prod.mk.injEq := @Prod.mk.injEq
theorem aiA : type_of% @List.mem_range := @List.mem_range
theorem aiK : type_of% @Classical.byContradiction := @Classical.byContradiction
theorem aix : type_of% @List.getD_eq_getElem?_getD := @List.getD_eq_getElem?_getD
theorem aja : type_of% @Array.getElem?_eq_none := @Array.getElem?_eq_none
theorem ajf : type_of% @Nat.lt_or_ge := @Nat.lt_or_ge
theorem ajo : type_of% @List.length_range := @List.length_range
theorem ajE : type_of% @List.getElem_range := @List.getElem_range
theorem ajS : type_of% @List.mem_of_find?_eq_some := @List.mem_of_find?_eq_some
theorem aiB : type_of% @of_decide_eq_true := @of_decide_eq_true
theorem aiY : type_of% @Bool.not_eq_true := @Bool.not_eq_true
theorem ajg : type_of% @and_congr := @and_congr
theorem aiT : type_of% @decide_eq_false_iff_not := @decide_eq_false_iff_not
theorem ajF : type_of% @List.not_mem_nil := @List.not_mem_nil
theorem aiL : type_of% @List.take_add_one := @List.take_add_one
theorem ai2 : type_of% @List.mem_of_getElem? := @List.mem_of_getElem?
theorem aiC : type_of% @List.take_length := @List.take_length
theorem aiD : type_of% @congrFun := @congrFun
theorem ajM : type_of% @List.mem_take_iff_getElem := @List.mem_take_iff_getElem
theorem ajx : type_of% @List.findIdx?_eq_none_iff := @List.findIdx?_eq_none_iff
theorem aiU : type_of% @Int.le_refl := @Int.le_refl
theorem ajN : type_of% @List.foldl_append := @List.foldl_append
theorem ajO : type_of% @not_false_eq_true := @not_false_eq_true
theorem ah4 : type_of% @List.forall_mem_cons := @List.forall_mem_cons
theorem ajy : type_of% @Option.map_eq_some_iff := @Option.map_eq_some_iff
theorem ajp : type_of% @List.getElem?_append_left := @List.getElem?_append_left
theorem aiW : type_of% @List.map_toArray := @List.map_toArray
theorem aiE : type_of% @Option.some.inj := @Option.some.inj
theorem ajP : type_of% @List.foldlM_cons := @List.foldlM_cons
theorem ajQ : type_of% @ByteArray.data_append := @ByteArray.data_append
theorem aiF : type_of% @ByteArray.size_extract := @ByteArray.size_extract
theorem aiw : type_of% @ByteArray.size_append := @ByteArray.size_append
theorem ajG : type_of% @List.getElem?_append_right := @List.getElem?_append_right
theorem ah9 : type_of% @eq_true := @eq_true
theorem aiG : type_of% @List.setIfInBounds_toArray := @List.setIfInBounds_toArray
theorem ajR : type_of% @bne_eq_false_iff_eq := @bne_eq_false_iff_eq
theorem ajb : type_of% @Array.size_push := @Array.size_push
namespace Go.Proofs.YtfokaoeinpnagaaGreat.Ev
open Go
inductive FV where
 | int (k:IntKind) (n:Int)
 | bool (b:Bool)
 | str (s:ByteArray)
 | sl (rows:List (List FV))
 deriving Inhabited
inductive PL where
 | f (x:FV)
 | bK
 | own (key n:Nat)
 | ptr (key off:Nat)
 | fp (cells:List FV)
 | rp (key sz i off:Nat)
 | mp (key:Nat)
 | iw
 | eH
 | und
 | any
 | fn (f:FuncId) (caps:List (List FV))
 | vw (key sz n lo:Nat)
 deriving Inhabited
inductive CV where
 | one (x:PL)
 | agg (xs:List PL)
 deriving Inhabited
inductive PV where
 | c (x:CV)
 | tZ (xs:List CV)
 deriving Inhabited
inductive SV where
 | int (k:IntKind) (n:Int)
 | bool (b:Bool)
 | str (s:ByteArray)
 deriving DecidableEq,Inhabited
inductive KV where
 | one (x:SV)
 | agg (xs:List SV)
 deriving DecidableEq,Inhabited
inductive SK where
 | int (k:IntKind)
 | bool
 | str
 deriving DecidableEq,Inhabited
inductive KS where
 | one (k:SK)
 | agg (ks:List SK)
 deriving DecidableEq,Inhabited
def SV.sk : SV → SK
 | .int k _=>.int k
 | .bool _=>.bool
 | .str _=>.str
def KV.ks : KV → KS
 | .one x=>.one x.sk
 | .agg xs=>.agg (xs.map SV.sk)
inductive FC where
 | one (x:FV)
 | agg (xs:List FV)
 deriving Inhabited
inductive Ob where
 | dM (xs:List PL)
 | row (sz:Nat) (rows:List (List FV))
 | map (sh:KS) (ents:List (KV × FC))
 deriving Inhabited
structure St where
 tm:List (Nat × PV)
 ob:List (Nat × Ob)
 deriving Inhabited
inductive CL where
 | f (x:FV)
 | iw
 | eH
 | mp (sh:KS) (ents:List (KV × FC))
 | own (sz:Nat) (rows:List (List FV))
 deriving Inhabited
inductive TV where
 | f (x:FV)
 | iw
 | eH
 | ptr (cells:List CL)
 | mp (sh:KS) (ents:List (KV × FC))
 | own (sz:Nat) (rows:List (List FV))
 | fp (cells:List FV)
 | fn (f:FuncId) (caps:List (List FV))
 | any
 deriving Inhabited
inductive AV where
 | one (x:TV)
 | agg (xs:List TV)
 deriving Inhabited
def get {α:Type}:List (Nat × α) → Nat → Option α
 | [],_=>none
 | (k,v) :: l,i=>if k = i then some v else get l i
def rem {α:Type}:List (Nat × α) → Nat → List (Nat × α)
 | [],_=>[]
 | (k,u) :: l,i=>if k = i then rem l i else (k,u) :: rem l i
def put {α:Type}:List (Nat × α) → Nat → α → List (Nat × α)
 | [],i,v=>[(i,v)]
 | (k,u) :: l,i,v=>if k = i then (i,v) :: rem l i else (k,u) :: put l i v
def pick {α:Type} (ks:List Nat) (l:List (Nat × α)):List (Nat × α):=ks.filterMap fun i=>(get l i).map fun v=>(i,v)
inductive dF where
 | t (i:Nat)
 | k (x:CV)
 deriving Inhabited
inductive WY where
 | eq | ne | lt | le | gt | ge
 deriving DecidableEq,Inhabited
inductive Ar where
 | add | sub | mul | quo | rem
 deriving DecidableEq,Inhabited
inductive I where
 | mv (x:dF)
 | pick (c a b:dF)
 | alloc (e:TypeId) (z:List PL)
 | box (e:TypeId) (x:dF)
 | build (z:List PL) (ps:List (Nat × Nat × dF))
 | wh (e:TypeId) (sz len:Nat) (z:List PL) (ps:List (Nat × Nat × dF))
 | Oo (e:TypeId) (sz len:Nat) (z:List PL) (ps:List (Nat × Nat × dF))
 | load (n:Nat) (agg:Bool) (x:dF)
 | store (n:Nat) (x v:dF)
 | gH (x:dF)
 | wF (neg:Bool) (x:dF)
 | ar (o:Ar) (x y:dF)
 | cmp (o:WY) (x y:dF)
 | oG (sh:KS) (neg:Bool) (x y:dF)
 | cat (x y:dF)
 | no (x:dF)
 | ci (k:IntKind) (x:dF)
 | mq (x:dF)
 | oJ (sh:KS)
 | IG (x:dF) (lo hi:Option dF)
 | cut (sz:Nat) (x:dF) (lo hi:Option dF)
 | fa (off:Nat) (x:dF)
 | WZ (off n:Nat) (agg:Bool) (x:dF)
 | ia (sz:Nat) (x i:dF)
 | idx (sz len:Nat) (agg:Bool) (x i:dF)
 | chr (x i:dF)
 | look (sh:KS) (z:FC) (ok:Bool) (x k:dF)
 | wG (sh:KS) (x k v:dF)
 | del (sh:KS) (x k:dF)
 | ext (x:dF) (i:Nat)
 | wH (x:dF)
 | fV (x:dF)
 | II (x:dF)
 | app (e:TypeId) (sz bytes:Nat) (x y:dF)
 | mn (x y:dF)
 | mx (x y:dF)
 | call (g:Bool) (f:FuncId) (args:List dF)
 | yX (f:FuncId) (args:List dF)
 | yY (neg:Bool) (x:dF)
 | bit (o:BinOp) (x y:dF)
 | Ub (l:Bool) (x y:dF)
 | OA (f:FuncId) (caps:List dF)
 | dyn (x:dF) (args:List dF)
 | CY (sz:Nat) (x hi:dF)
 | cutV (sz:Nat) (x lo:dF)
 | R4 (sz:Nat) (z:List FV) (x:dF)
 | W9 (x:dF)
 deriving Inhabited
structure G where
 dst:Option Nat
 gd:Option (Option Nat × Bool)
 i:I
 deriving Inhabited
inductive CC where
 | skip
 | reg (is:List G) (ks:List Nat)
 | oH (pre:List (G × List Nat)) (kZ:List Nat) (jA rest:List G) (ks:List Nat)
 | any (gs:List G) (Yf:List (List Nat)) (ks lS:List Nat)
 | seq (a b:CC)
 | cond (c:dF) (a b:CC)
 | block (id:Nat) (c:CC)
 | loop (keep AX:List Nat) (rws:List (Nat × Nat)) (c:CC)
 | exit (id:Nat)
 | ret
 deriving Inhabited
inductive Rs where
 | t (i:Nat)
 | cell (i n:Nat) (agg:Bool)
 deriving Inhabited
structure CF where
 np:Nat
 res:List Rs
 ro:List (Option Nat)
 bo:List Nat
 body:CC
 deriving Inhabited
def val (σ:St):dF → Option CV
 | .t i=>match get σ.tm i with
  | some (.c x)=>some x
  | _=>none
 | .k x=>some x
def dR (key:Nat):PL → Bool
 | .own k _=>k == key
 | .ptr k _=>k == key
 | .rp k _ _ _=>k == key
 | .mp k=>k == key
 | .vw k _ _ _=>k == key
 | _=>false
def uT (key:Nat):CV → Bool
 | .one x=>dR key x
 | .agg xs=>xs.any (dR key)
def qF (key:Nat):PV → Bool
 | .c x=>uT key x
 | .tZ xs=>xs.any (uT key)
def lT (key:Nat):Ob → Bool
 | .dM xs=>xs.any (dR key)
 | _=>false
def Xa (σ:St) (key:Nat):Option St :=
 if (rem σ.ob key).any (fun p=>lT key p.2) then none else some ⟨σ.tm.filter (fun p=>!qF key p.2),rem σ.ob key⟩
def new (σ:St) (key:Nat) (o:Ob):Option St:=(Xa σ key).map fun s=>⟨s.tm,(key,o) :: s.ob⟩
def nI (key:Nat) (y:PL):PL → PL
 | .own k n=>if k = key then y else .own k n
 | .rp k z i o=>if k = key then .any else .rp k z i o
 | .vw k z n l=>if k = key then .any else .vw k z n l
 | x=>x
def ES (key:Nat) (y:PL):CV → CV
 | .one x=>.one (nI key y x)
 | .agg xs=>.agg (xs.map (nI key y))
def OB (key:Nat) (y:PL):PV → PV
 | .c x=>.c (ES key y x)
 | .tZ xs=>.tZ (xs.map (ES key y))
def IJ (key:Nat) (y:PL):Ob → Ob
 | .dM xs=>.dM (xs.map (nI key y))
 | o=>o
def sub (σ:St) (key:Nat) (y:PL):St:=⟨σ.tm.map (fun p=>(p.1,OB key y p.2)),σ.ob.map (fun p=>(p.1,IJ key y p.2))⟩
def yT (σ:St) (key:Nat):Option St:=match get σ.ob key with
 | some (.row _ rows)=>some (sub ⟨σ.tm,rem σ.ob key⟩ key (.f (.sl rows)))
 | _=>none
def uU (σ:St):PL → Option (FV × St)
 | .f x=>some (x,σ)
 | .bK=>some (.sl [],σ)
 | .own key _=>match get σ.ob key with
  | some (.row _ rows)=>(yT σ key).map fun s=>(.sl rows,s)
  | _=>none
 | _=>none
def CZ : PV → St → Option (PV × St)
 | .c (.one x),σ=>(uU σ x).map fun p=>(.c (.one (.f p.1)),p.2)
 | _,_=>none
def jR : St → List PL → Option (List FV × St)
 | σ,[]=>some ([],σ)
 | σ,x :: xs=>(uU σ x).bind fun p=>(jR p.2 xs).map fun q=>(p.1 :: q.1,q.2)
def Xb (σ:St):CV → Option (FC × St)
 | .one x=>(uU σ x).map fun p=>(.one p.1,p.2)
 | .agg xs=>(jR σ xs).map fun p=>(.agg p.1,p.2)
def cells : CV → List PL
 | .one x=>[x]
 | .agg xs=>xs
def Uc : FC → List FV
 | .one x=>[x]
 | .agg xs=>xs
def oK : PL → Bool
 | .und=>true
 | .any=>true
 | _=>false
def mk (agg:Bool) (xs:List PL):Option CV:=if agg then some (.agg xs) else match xs with
 | [x]=>some (.one x)
 | _=>none
def seg {α:Type} (n off:Nat) (xs:List α):Option (List α):=if off + n ≤ xs.length then some ((xs.drop off).take n) else none
def lay {α:Type} (off:Nat) (ys xs:List α):Option (List α):=if off + ys.length ≤ xs.length then some (xs.take off ++ ys ++ xs.drop (off + ys.length)) else none
def uf : FV → Option SV
 | .int k n=>some (.int k n)
 | .bool b=>some (.bool b)
 | .str s=>some (.str s)
 | .sl _=>none
def ru : List FV → Option (List SV)
 | []=>some []
 | x :: xs=>(uf x).bind fun s=>(ru xs).map fun l=>s :: l
def Gu : PL → Option FV
 | .f x=>some x
 | _=>none
def nJ : List PL → Option (List FV)
 | []=>some []
 | x :: xs=>(Gu x).bind fun s=>(nJ xs).map fun l=>s :: l
def keyOf : CV → Option KV
 | .one x=>(Gu x).bind fun x=>(uf x).map .one
 | .agg xs=>(nJ xs).bind fun xs=>(ru xs).map .agg
def wI (l:List (KV × FC)) (a:KV):Option Nat:=(l.map (·.1)).findIdx? (· = a)
def rz (l:List (KV × FC)) (a:KV):Option FC:=(wI l a).bind fun i=>l[i]?.map (·.2)
def wJ (l:List (KV × FC)) (a:KV) (v:FC):List (KV × FC):=match wI l a with
 | some i=>l.set i (a,v)
 | none=>l ++ [(a,v)]
def AY (l:List (KV × FC)) (a:KV):List (KV × FC):=match wI l a with
 | some i=>l.eraseIdx i
 | none=>l
def wK : FC → CV
 | .one x=>.one (.f x)
 | .agg xs=>.agg (xs.map .f)
def J6 (o:Ar) (k:IntKind) (a b:Int):Option Int:=match o with
 | .add=>some (k.wrap (a + b))
 | .sub=>some (k.wrap (a - b))
 | .mul=>some (k.wrap (a * b))
 | .quo=>if b = 0 then none else some (k.wrap (a.tdiv b))
 | .rem=>if b = 0 then none else some (a.tmod b)
def wL (o:WY) (a b:Int):Bool:=match o with
 | .eq=>decide (a = b)
 | .ne=>!decide (a = b)
 | .lt=>decide (a < b)
 | .le=>decide (a ≤ b)
 | .gt=>decide (b < a)
 | .ge=>decide (b ≤ a)
def R5 : FV → Bool
 | .sl _=>true
 | _=>false
def fill : List PL → List (Nat × Nat × CV) → Option (List PL)
 | z,[]=>some z
 | z,(off,n,v) :: ps=>if (cells v).length = n ∧ (cells v).any oK = false then (lay off (cells v) z).bind fun z=>fill z ps else none
def vals (σ:St):List (Nat × Nat × dF) → Option (List (Nat × Nat × CV))
 | []=>some []
 | (o,n,x) :: ps=>(val σ x).bind fun v=>(vals σ ps).map fun l=>(o,n,v) :: l
def rowsOf (sz:Nat):Nat → List FV → List (List FV)
 | 0,_=>[]
 | n + 1,xs=>xs.take sz :: rowsOf sz n (xs.drop sz)
def dw (d:Nat):Nat:=20000 * (d + 1)
def gq (σ:St) (key:Nat) (o:Ob) (v:PL):Option (PV × St):=(new σ key o).map fun s=>(.c (.one v),s)
def int? : CV → Option (IntKind × Int)
 | .one (.f (.int k n))=>some (k,n)
 | _=>none
def bool? : CV → Option Bool
 | .one (.f (.bool b))=>some b
 | _=>none
def pO (σ:St):CV → Option (List (List FV))
 | .one .bK=>some []
 | .one (.f (.sl rows))=>some rows
 | .one (.own key _)=>match get σ.ob key with
  | some (.row _ rows)=>some rows
  | _=>none
 | _=>none
def one (x:FV) (σ:St):Option (PV × St):=some (.c (.one (.f x)),σ)
def bnd (σ:St) (len:Nat):Option dF → Nat → Option Nat
 | none,d=>some d
 | some x,_=>(val σ x).bind fun v=>(int? v).bind fun p=>if 0 ≤ p.2 ∧ p.2 ≤ len then some p.2.toNat else none
def iY (σ:St) (key:Nat) (o:Ob):St:=⟨σ.tm,put σ.ob key o⟩
def IK (σ:St):PL → Option (CL × St)
 | .f x=>some (.f x,σ)
 | .bK=>some (.f (.sl []),σ)
 | .iw=>some (.iw,σ)
 | .eH=>some (.eH,σ)
 | .own key n=>match get σ.ob key with
  | some (.row sz rows)=>some (.own sz rows,⟨σ.tm,rem σ.ob key⟩)
  | _=>none
 | .mp key=>match get σ.ob key with
  | some (.map sh ents)=>some (.mp sh ents,⟨σ.tm,rem σ.ob key⟩)
  | _=>none
 | _=>none
def yZ : St → List PL → Option (List CL × St)
 | σ,[]=>some ([],σ)
 | σ,x :: xs=>(IK σ x).bind fun p=>(yZ p.2 xs).map fun q=>(p.1 :: q.1,q.2)
def qP (gv:Bool) (σ:St):PL → Option (TV × St)
 | .f x=>some (.f x,σ)
 | .bK=>some (.f (.sl []),σ)
 | .fp cs=>some (.fp cs,σ)
 | .fn f cs=>some (.fn f cs,σ)
 | .own key _=>match get σ.ob key with
  | some (.row sz rows)=>if gv then some (.own sz rows,⟨σ.tm,rem σ.ob key⟩) else some (.f (.sl rows),σ)
  | _=>none
 | .iw=>some (.iw,σ)
 | .eH=>some (.eH,σ)
 | .ptr key 0=>match get σ.ob key with
  | some (.dM xs)=>(yZ ⟨σ.tm,rem σ.ob key⟩ xs).map fun p=>(.ptr p.1,p.2)
  | _=>none
 | .mp key=>match get σ.ob key with
  | some (.map sh ents)=>some (.mp sh ents,⟨σ.tm,rem σ.ob key⟩)
  | _=>none
 | _=>none
def qQ (gv:Bool):St → List PL → Option (List TV × St)
 | σ,[]=>some ([],σ)
 | σ,x :: xs=>(qP gv σ x).bind fun p=>(qQ gv p.2 xs).map fun q=>(p.1 :: q.1,q.2)
def J7 (gv:Bool) (σ:St):CV → Option (AV × St)
 | .one x=>(qP gv σ x).map fun p=>(.one p.1,p.2)
 | .agg xs=>(qQ gv σ xs).map fun p=>(.agg p.1,p.2)
def rA (gv:Bool):St → List CV → Option (List AV × St)
 | σ,[]=>some ([],σ)
 | σ,x :: xs=>(J7 gv σ x).bind fun p=>(rA gv p.2 xs).map fun q=>(p.1 :: q.1,q.2)
def newP (pend:List PL) (σ:St) (key:Nat) (o:Ob):Option St:=if pend.any (dR key) then none else new σ key o
def qz (kf:Nat → Nat):Nat → List PL → St → List CL → Option (List PL × St)
 | _,_,σ,[]=>some ([],σ)
 | c,pend,σ,.f x :: xs=>(qz kf (c + 1) (.f x :: pend) σ xs).map fun p=>(.f x :: p.1,p.2)
 | c,pend,σ,.iw :: xs=>(qz kf (c + 1) (.iw :: pend) σ xs).map fun p=>(.iw :: p.1,p.2)
 | c,pend,σ,.eH :: xs=>(qz kf (c + 1) (.eH :: pend) σ xs).map fun p=>(.eH :: p.1,p.2)
 | c,pend,σ,.mp sh ents :: xs=>(newP pend σ (kf c) (.map sh ents)).bind fun s=>(qz kf (c + 1) (.mp (kf c) :: pend) s xs).map fun p=>(.mp (kf c) :: p.1,p.2)
 | c,pend,σ,.own sz rows :: xs=>(newP pend σ (kf c + kf c % 2) (.row sz rows)).bind fun s=>(qz kf (c + 1) (.own (kf c + kf c % 2) rows.length :: pend) s xs).map fun p=>(.own (kf c + kf c % 2) rows.length :: p.1,p.2)
def OC (base c:Nat):Nat:=base + 2 * (c + 1)
def ow (key:Nat):Nat:=if key / 10000 % 2 = 0 then key + key % 2 else key
def CP (key:Nat) (pend:List PL) (σ:St):TV → Option (PL × St)
 | .f x=>some (.f x,σ)
 | .iw=>some (.iw,σ)
 | .eH=>some (.eH,σ)
 | .ptr cs=>(qz (OC key) 0 pend σ cs).bind fun p=>if p.1.any (dR key) then none else (newP pend p.2 key (.dM p.1)).map fun s=>(.ptr key 0,s)
 | .mp sh ents=>(newP pend σ key (.map sh ents)).map fun s=>(.mp key,s)
 | .own sz rows=>(newP pend σ (ow key) (.row sz rows)).map fun s=>(.own (ow key) rows.length,s)
 | .fp cs=>some (.fp cs,σ)
 | .fn f cs=>some (.fn f cs,σ)
 | .any=>some (.any,σ)
def wM (base:Nat):Nat → List PL → St → List TV → Option (List PL × St)
 | _,_,σ,[]=>some ([],σ)
 | j,pend,σ,x :: xs=>(CP (base + 200 * (j + 1)) pend σ x).bind fun p=>(wM base (j + 1) (p.1 :: pend) p.2 xs).map fun q=>(p.1 :: q.1,q.2)
def J8 (base:Nat) (pend:List PL) (σ:St):AV → Option (CV × St)
 | .one x=>(CP (base + 200) pend σ x).map fun p=>(.one p.1,p.2)
 | .agg xs=>(wM base 0 pend σ xs).map fun p=>(.agg p.1,p.2)
def wN (base:Nat):Nat → List PL → St → List AV → Option (List CV × St)
 | _,_,σ,[]=>some ([],σ)
 | i,pend,σ,x :: xs=>(J8 (base + 2000 * i) pend σ x).bind fun p=>(wN base (i + 1) (cells p.1 ++ pend) p.2 xs).map fun q=>(p.1 :: q.1,q.2)
def IL (base:Nat) (xs:List PL) (c:Nat):Nat:=match xs[c]? with
 | some (.mp k)=>if k % 2 = 0 then k else base + 2 * (c + 1)
 | some (.own k _)=>if k % 2 = 0 then k else base + 2 * (c + 1)
 | _=>base + 2 * (c + 1)
def CQ (fB:St) (pend:List PL) (base:Nat) (σ:St):PL → TV → Option St
 | .ptr key _,.ptr cs=>match get fB.ob key with
  | some (.dM xs)=>(qz (IL base xs) 0 pend σ cs).map fun p=>iY p.2 key (.dM p.1)
  | _=>none
 | .mp key,.mp sh ents=>some (iY σ key (.map sh ents))
 | .own key _,.own sz rows=>some (iY σ key (.row sz rows))
 | .ptr _ _,_=>none
 | .mp _,_=>none
 | _,.ptr _=>none
 | _,.mp _ _=>none
 | _,_=>some σ
def AZ (fB:St) (pend:List PL):Nat → St → List PL → List TV → Option St
 | _,σ,[],[]=>some σ
 | base,σ,x :: xs,y :: ys=>(CQ fB pend base σ x y).bind fun s=>AZ fB pend (base + 200) s xs ys
 | _,_,_,_=>none
def Yg (fB:St) (pend:List PL) (base:Nat) (σ:St):CV → AV → Option St
 | .one x,.one y=>CQ fB pend base σ x y
 | .agg xs,.agg ys=>AZ fB pend base σ xs ys
 | _,_=>none
def y5 (fB:St) (pend:List PL):Nat → St → List CV → List AV → Option St
 | _,σ,[],[]=>some σ
 | base,σ,x :: xs,y :: ys=>(Yg fB pend base σ x y).bind fun s=>y5 fB pend (base + 1000) s xs ys
 | _,_,_,_=>none
def Kk : TV → Bool
 | .f x=>R5 x
 | _=>true
def vM : AV → Bool
 | .one x=>Kk x
 | .agg xs=>xs.any Kk
def plain : TV → Bool
 | .ptr _=>false
 | .mp _ _=>false
 | .own _ _=>false
 | _=>true
def fC : AV → Bool
 | .one x=>plain x
 | .agg xs=>xs.all plain
def wO : St → List PL → Option St
 | σ,[]=>some σ
 | σ,.own key _ :: xs=>(yT σ key).bind fun s=>wO s xs
 | σ,_ :: xs=>wO σ xs
def rD : St → List CV → Option St
 | σ,[]=>some σ
 | σ,x :: xs=>(wO σ (cells x)).bind fun s=>rD s xs
def fP : PL → Bool
 | .own _ _=>true
 | _=>false
def IQ : List CV → PV
 | [x]=>.c x
 | xs=>.tZ xs
abbrev Env := FuncId → List AV → Option (List AV × List AV)
def OD : AV → AV
 | .one (.own _ rows)=>.one (.f (.sl rows))
 | x=>x
def Ud (q:Bool) (r:List AV × List AV):List AV × List AV:=if q then (r.1.map OD,r.2) else r
def kr (Γ:Env) (gv q:Bool) (σ:St) (d:Nat) (f:FuncId) (args:List CV):Option (PV × St) :=
 (rA gv σ args).bind fun p=>((Γ f p.1).map (Ud q)).bind fun r =>
  if q && !(p.1.all fC && r.1.all fC) then none else
  if q && ((r.1.any vM || !p.1.all fC) && args.any (fun x=>(cells x).any fP)) then none else
  (if !gv && ((r.1.any vM || !p.1.all fC) && args.any (fun x=>(cells x).any fP)) then rD p.2 args else some p.2).bind fun s1 =>
  (if p.1.all fC then some s1 else y5 σ (args.flatMap cells) (dw d + 10000) s1 args r.2).bind fun s2 =>
  (wN (dw d) 0 [] s2 r.1).map fun u=>(IQ u.1,u.2)
def avT : PL → Option TV
 | .f x=>some (.f x)
 | .bK=>some (.f (.sl []))
 | .fp cs=>some (.fp cs)
 | .fn f cs=>some (.fn f cs)
 | .iw=>some .iw
 | .eH=>some .eH
 | _=>none
def OE : List PL → Option (List TV)
 | []=>some []
 | x :: xs=>(avT x).bind fun y=>(OE xs).map fun ys=>y :: ys
def avC : CV → Option AV
 | .one x=>(avT x).map .one
 | .agg xs=>(OE xs).map .agg
def Kl : List CV → Option (List AV)
 | []=>some []
 | x :: xs=>(avC x).bind fun y=>(Kl xs).map fun ys=>y :: ys
def Ue : List AV → Option (Nat × List (List FV))
 | [.one (.own sz rows)]=>some (sz,rows)
 | _=>none
def rE (Γ:Env) (σ:St) (d:Nat) (f:FuncId) (args:List CV):Option (PV × St) :=
 (Kl args).bind fun dV=>(Γ f dV).bind fun r=>(Ue r.1).bind fun p=>(new σ (dw d) (.row p.1 p.2)).map fun s=>(.c (.one (.own (dw d) p.2.length)),s)
def Km (key:Nat) (cs:List FV):PL → PL
 | .ptr k o=>if k = key then .fp (cs.drop o) else .ptr k o
 | x=>x
def Kn (g:PL → PL):CV → CV
 | .one x=>.one (g x)
 | .agg xs=>.agg (xs.map g)
def Uf (g:PL → PL):PV → PV
 | .c x=>.c (Kn g x)
 | .tZ xs=>.tZ (xs.map (Kn g))
def Ug (g:PL → PL):Ob → Ob
 | .dM xs=>.dM (xs.map g)
 | o=>o
def Uh (g:PL → PL) (σ:St):St:=⟨σ.tm.map (fun p=>(p.1,Uf g p.2)),σ.ob.map (fun p=>(p.1,Ug g p.2))⟩
def Xc (σ:St) (key:Nat):Option (List FV × St):=match get σ.ob key with
 | some (.dM xs)=>(jR σ xs).bind fun p=>match get p.2.ob key with
  | some _=>some (p.1,Uh (Km key p.1) ⟨p.2.tm,rem p.2.ob key⟩)
  | none=>none
 | _=>none
def lg (q:Bool):St → List CV → Option (List (List FV) × St)
 | σ,[]=>some ([],σ)
 | σ,.one (.fp cs) :: l=>(lg q σ l).map fun r=>(cs :: r.1,r.2)
 | σ,.one (.ptr key 0) :: l=>if q then none else (Xc σ key).bind fun p=>(lg q p.2 l).map fun r=>(p.1 :: r.1,r.2)
 | _,_=>none
def bytesOf : List (List FV) → Option ByteArray
 | []=>some ⟨#[]⟩
 | [.int .u8 n] :: l=>(bytesOf l).map fun s=>⟨#[UInt8.ofNat n.toNat] ++ s.data⟩
 | _=>none
def iT (σ:St):List dF → Option (List CV)
 | []=>some []
 | x :: xs=>(val σ x).bind fun v=>(iT σ xs).map fun l=>v :: l
def rF (σ:St):dF → Option PV
 | .t i=>get σ.tm i
 | .k x=>some (.c x)
def rng (len:Nat) (σ:St) (lo hi:Option dF):Option (Nat × Nat):=(bnd σ len hi len).bind fun h=>(bnd σ h lo 0).map fun l=>(l,h)
def bW (Γ:Env) (q:Bool) (σ:St) (d:Nat):I → Option (PV × St)
 | .mv x=>(rF σ x).map fun v=>(v,σ)
 | .pick c a b=>(val σ c).bind fun v=>(bool? v).bind fun t=>(val σ (if t then a else b)).map fun u=>(.c u,σ)
 | .alloc _ z=>if z.any (dR (dw d)) then none else gq σ (dw d) (.dM z) (.ptr (dw d) 0)
 | .box _ x=>(val σ x).bind fun v=>if (cells v).any oK || (cells v).any (dR (dw d)) then none else gq σ (dw d) (.dM (cells v)) (.ptr (dw d) 0)
 | .build z ps=>(vals σ ps).bind fun l=>(fill z l).map fun z=>(.c (.agg z),σ)
 | .wh _ sz len z ps=>(vals σ ps).bind fun l=>(fill z l).bind fun z=>if q && z.any fP then none else (jR σ z).bind fun p=>gq p.2 (dw d) (.row sz (rowsOf sz len p.1)) (.own (dw d) len)
 | .Oo _ sz len z ps=>((vals σ ps).bind fun l=>(fill z l).bind fun z=>if q && z.any fP then none else (jR σ z).bind fun p=>gq p.2 (dw d) (.row sz (rowsOf sz len p.1)) (.own (dw d) len)).bind fun r=>CZ r.1 r.2
 | .load n agg x=>(val σ x).bind fun v=>match v with
  | .one (.ptr key off)=>match get σ.ob key with
   | some (.dM xs)=>(seg n off xs).bind fun l=>(mk agg l).map fun u=>(.c u,σ)
   | _=>none
  | .one (.fp cs)=>(seg n 0 cs).bind fun l=>(mk agg (l.map .f)).map fun u=>(.c u,σ)
  | .one (.rp key z i off)=>match get σ.ob key with
   | some (.row sz rows)=>if sz ≠ z then none else rows[i]?.bind fun r=>(seg n off r).bind fun l=>(mk agg (l.map .f)).map fun u=>(.c u,σ)
   | _=>none
  | _=>none
 | .store n x y=>(val σ x).bind fun v=>(val σ y).bind fun u=>if (cells u).length = n ∧ (cells u).any oK = false then (match v with
  | .one (.ptr key off)=>match get σ.ob key with
   | some (.dM xs)=>(lay off (cells u) xs).map fun l=>(.c (.one .und),iY σ key (.dM l))
   | _=>none
  | .one (.rp key z i off)=>if q && (cells u).any fP then none else (jR σ (cells u)).bind fun p=>match get p.2.ob key with
   | some (.row sz rows)=>if sz ≠ z then none else rows[i]?.bind fun r=>(lay off p.1 r).map fun l=>(.c (.one .und),iY p.2 key (.row sz (rows.set i l)))
   | _=>none
  | _=>none) else none
 | .gH x=>(val σ x).bind fun v=>match v with
  | .one (.ptr _ _)=>some (.c v,σ)
  | .one (.fp _)=>some (.c v,σ)
  | .one (.rp _ _ _ _)=>some (.c v,σ)
  | _=>none
 | .wF neg x=>(val σ x).bind fun v=>match v with
  | .one .iw=>one (.bool (!neg)) σ
  | .one (.ptr _ _)=>one (.bool neg) σ
  | .one (.fp _)=>one (.bool neg) σ
  | .one (.rp _ _ _ _)=>one (.bool neg) σ
  | _=>none
 | .ar o x y=>(val σ x).bind fun u=>(val σ y).bind fun v=>(int? u).bind fun a=>(int? v).bind fun b=>if a.1 = b.1 then (J6 o a.1 a.2 b.2).bind fun n=>one (.int a.1 n) σ else none
 | .cmp o x y=>(val σ x).bind fun u=>(val σ y).bind fun v=>(int? u).bind fun a=>(int? v).bind fun b=>if a.1 = b.1 then one (.bool (wL o a.2 b.2)) σ else none
 | .oG sh neg x y=>(val σ x).bind fun u=>(val σ y).bind fun v=>(keyOf u).bind fun a=>(keyOf v).bind fun b=>if a.ks = sh ∧ b.ks = sh then one (.bool (if neg then !decide (a = b) else decide (a = b))) σ else none
 | .cat x y=>(val σ x).bind fun u=>(val σ y).bind fun v=>match u,v with
  | .one (.f (.str a)),.one (.f (.str b))=>if a.size + b.size ≤ 9223372036854775807 then one (.str (a ++ b)) σ else none
  | _,_=>none
 | .no x=>(val σ x).bind fun u=>(bool? u).bind fun b=>one (.bool (!b)) σ
 | .ci k x=>(val σ x).bind fun u=>(int? u).bind fun a=>one (.int k (k.wrap a.2)) σ
 | .mq x=>(val σ x).bind fun u=>match u with
  | .one (.f (.str s))=>one (.str s) σ
  | _=>none
 | .oJ sh=>gq σ (dw d) (.map sh []) (.mp (dw d))
 | .IG x lo hi=>(val σ x).bind fun v=>match v with
  | .one (.f (.str s))=>(rng s.size σ lo hi).bind fun p=>one (.str (s.extract p.1 p.2)) σ
  | _=>none
 | .cut sz x lo hi=>(val σ x).bind fun v=>match v with
  | .one (.f (.sl rows))=>if rows.all (fun r=>r.length == sz) = false then none else (rng rows.length σ lo hi).bind fun p=>one (.sl ((rows.drop p.1).take (p.2 - p.1))) σ
  | .one .bK=>(rng 0 σ lo hi).bind fun p=>one (.sl []) σ
  | .one (.own key _)=>match get σ.ob key with
   | some (.row sz' rows)=>if sz' ≠ sz then none else (rng rows.length σ lo hi).bind fun p=>if q then none else (yT σ key).bind fun s=>one (.sl ((rows.drop p.1).take (p.2 - p.1))) s
   | _=>none
  | _=>none
 | .fa off x=>(val σ x).bind fun v=>match v with
  | .one (.ptr key o)=>some (.c (.one (.ptr key (o + off))),σ)
  | .one (.fp cs)=>some (.c (.one (.fp (cs.drop off))),σ)
  | .one (.rp key z i o)=>some (.c (.one (.rp key z i (o + off))),σ)
  | _=>none
 | .WZ off n agg x=>(val σ x).bind fun v=>match v with
  | .agg xs=>(seg n off xs).bind fun l=>(mk agg l).map fun u=>(.c u,σ)
  | _=>none
 | .ia sz x i=>(val σ x).bind fun v=>(val σ i).bind fun j=>(int? j).bind fun p=>if 0 ≤ p.2 then (match v with
  | .one (.f (.sl rows))=>rows[p.2.toNat]?.bind fun r=>if r.length = sz then some (.c (.one (.fp r)),σ) else none
  | .one (.own key n)=>match get σ.ob key with
   | some (.row sz' rows)=>if sz' = sz ∧ p.2 < n ∧ n = rows.length then some (.c (.one (.rp key sz p.2.toNat 0)),σ) else none
   | _=>none
  | _=>none) else none
 | .idx sz len agg x i=>(val σ x).bind fun v=>(val σ i).bind fun j=>(int? j).bind fun p=>if 0 ≤ p.2 ∧ p.2 < len then (match v with
  | .agg xs=>(seg sz (p.2.toNat * sz) xs).bind fun l=>(mk agg l).map fun u=>(.c u,σ)
  | _=>none) else none
 | .chr x i=>(val σ x).bind fun v=>(val σ i).bind fun j=>(int? j).bind fun p=>match v with
  | .one (.f (.str s))=>if 0 ≤ p.2 then s.data[p.2.toNat]?.bind fun b=>one (.int .u8 b.toNat) σ else none
  | _=>none
 | .look sh z ok x k=>(val σ x).bind fun v=>(val σ k).bind fun u=>(keyOf u).bind fun a=>if a.ks ≠ sh then none else
  (match v with
  | .one .eH=>some none
  | .one (.mp key)=>match get σ.ob key with
   | some (.map sh' ents)=>if sh' = sh then some (rz ents a) else none
   | _=>none
  | _=>none:Option (Option FC)).map fun r=>(if ok then .tZ [wK (r.getD z),.one (.f (.bool r.isSome))] else .c (wK (r.getD z)),σ)
 | .wG sh x k y=>(val σ x).bind fun v=>(val σ k).bind fun u=>(keyOf u).bind fun a=>if a.ks ≠ sh then none else (val σ y).bind fun w=>if q && (cells w).any fP then none else (Xb σ w).bind fun p=>match v with
  | .one (.mp key)=>match get p.2.ob key with
   | some (.map sh' ents)=>if sh' = sh then some (.c (.one .und),iY p.2 key (.map sh (wJ ents a p.1))) else none
   | _=>none
  | _=>none
 | .del sh x k=>(val σ x).bind fun v=>(val σ k).bind fun u=>(keyOf u).bind fun a=>if a.ks ≠ sh then none else match v with
  | .one .eH=>some (.tZ [],σ)
  | .one (.mp key)=>match get σ.ob key with
   | some (.map sh' ents)=>if sh' = sh then some (.tZ [],iY σ key (.map sh (AY ents a))) else none
   | _=>none
  | _=>none
 | .ext x i=>match rF σ x with
  | some (.tZ l)=>l[i]?.map fun v=>(.c v,σ)
  | _=>none
 | .wH x=>(val σ x).bind fun v=>match v with
  | .one (.f (.str s))=>one (.int .i64 s.size) σ
  | _=>none
 | .fV x=>(val σ x).bind fun v=>match v with
  | .one (.f (.sl rows))=>one (.int .i64 rows.length) σ
  | .one .bK=>one (.int .i64 0) σ
  | .one (.own _ n)=>one (.int .i64 n) σ
  | _=>none
 | .II x=>(val σ x).bind fun v=>match v with
  | .one .eH=>one (.int .i64 0) σ
  | .one (.mp key)=>match get σ.ob key with
   | some (.map _ ents)=>one (.int .i64 ents.length) σ
   | _=>none
  | _=>none
 | .app _ sz bytes x y=>(val σ x).bind fun v=>(val σ y).bind fun u=>(pO σ u).bind fun new=>match v with
  | .one .bK=>if q = false ∧ new.length * bytes ≤ 140737488355328 ∧ new.all (fun r=>r.length == sz) then gq σ (dw d) (.row sz new) (.own (dw d) new.length) else none
  | .one (.own key n)=>match get σ.ob key with
   | some (.row sz' rows)=>if q = false ∧ (rows.length + new.length) * bytes ≤ 140737488355328 ∧ sz' = sz ∧ n = rows.length ∧ uT key u = false ∧ key % 2 = 0 ∧ new.all (fun r=>r.length == sz) then
     some (.c (.one (.own key (rows.length + new.length))),iY (sub σ key .any) key (.row sz (rows ++ new))) else none
   | _=>none
  | _=>none
 | .mn x y=>(val σ x).bind fun u=>(val σ y).bind fun v=>(int? u).bind fun a=>(int? v).bind fun b=>if a.1 = b.1 then one (.int a.1 (if b.2 < a.2 then b.2 else a.2)) σ else none
 | .mx x y=>(val σ x).bind fun u=>(val σ y).bind fun v=>(int? u).bind fun a=>(int? v).bind fun b=>if a.1 = b.1 then one (.int a.1 (if a.2 < b.2 then b.2 else a.2)) σ else none
 | .call gv f xs=>(iT σ xs).bind fun l=>kr Γ gv q σ d f l
 | .yX f xs=>(iT σ xs).bind fun l=>rE Γ σ d f l
 | .yY neg x=>(val σ x).bind fun v=>match v with
  | .one .bK=>one (.bool (!neg)) σ
  | .one (.f (.sl (_ :: _)))=>one (.bool neg) σ
  | _=>none
 | .bit o x y=>(val σ x).bind fun u=>(val σ y).bind fun v=>(int? u).bind fun a=>(int? v).bind fun b=>if a.1 = b.1 then one (.int a.1 (Go.bits o a.1 a.2 b.2)) σ else none
 | .Ub l x y=>(val σ x).bind fun u=>(val σ y).bind fun v=>(int? u).bind fun a=>(int? v).bind fun b=>if 0 ≤ b.2 then one (.int a.1 (if l then a.1.wrap (a.2 * 2 ^ (min b.2.toNat a.1.bits)) else a.2.fdiv (2 ^ (min b.2.toNat a.1.bits)))) σ else none
 | .OA f xs=>(iT σ xs).bind fun l=>(lg q σ l).map fun p=>(.c (.one (.fn f p.1)),p.2)
 | .dyn x xs=>(val σ x).bind fun v=>match v with
  | .one (.fn f caps)=>(iT σ xs).bind fun l=>kr Γ false q σ d f (l ++ caps.map fun c=>.one (.fp c))
  | _=>none
 | .CY sz x hi=>if q then none else (val σ x).bind fun v=>(val σ hi).bind fun j=>(int? j).bind fun p=>match v with
  | .one (.own key n)=>match get σ.ob key with
   | some (.row sz' rows)=>if sz' = sz ∧ key % 2 = 0 ∧ 0 ≤ p.2 ∧ p.2 ≤ rows.length then some (.c (.one (.own key p.2.toNat)),iY (sub σ key .any) key (.row sz (rows.take p.2.toNat))) else none
   | _=>none
  | _=>none
 | .cutV sz x lo=>(val σ x).bind fun v=>(val σ lo).bind fun j=>(int? j).bind fun p=>match v with
  | .one (.own key n)=>match get σ.ob key with
   | some (.row sz' rows)=>if sz' = sz ∧ 0 ≤ p.2 ∧ p.2 ≤ rows.length then some (.c (.one (.vw key sz rows.length p.2.toNat)),σ) else none
   | _=>none
  | _=>none
 | .R4 sz z x=>(val σ x).bind fun v=>match v with
  | .one (.vw key z' n lo)=>match get σ.ob key with
   | some (.row sz' rows)=>if sz' = sz ∧ z' = sz ∧ z.length = sz ∧ n = rows.length ∧ lo ≤ n then some (.tZ [],iY σ key (.row sz (rows.take lo ++ List.replicate (n - lo) z))) else none
   | _=>none
  | _=>none
 | .W9 x=>(val σ x).bind fun v=>match v with
  | .one (.f (.sl rows))=>(bytesOf rows).bind fun s=>one (.str s) σ
  | .one .bK=>one (.str ⟨#[]⟩) σ
  | .one (.own key _)=>match get σ.ob key with
   | some (.row sz rows)=>if sz = 1 then (bytesOf rows).bind fun s=>one (.str s) σ else none
   | _=>none
  | _=>none
def y7 (σ:St):Option (Option Nat × Bool) → Option Bool
 | none=>some true
 | some (none,_)=>some false
 | some (some s,want)=>match get σ.tm s with
  | some (.c (.one (.f (.bool b))))=>some (b == want)
  | some (.c (.one .und))=>some false
  | _=>none
def qA (σ:St) (d:Option Nat) (v:PV):St:=match d with
 | some d=>⟨put σ.tm d v,σ.ob⟩
 | none=>σ
def lU (Γ:Env) (q:Bool) (σ:St) (g:G):Option (PV × St):=(y7 σ g.gd).bind fun w =>
 if w then bW Γ q σ (g.dst.getD 999) g.i else some (.c (.one .und),σ)
def Oq (Γ:Env) (q:Bool) (σ:St) (g:G):Option St:=(lU Γ q σ g).map fun p=>qA p.2 g.dst p.1
def vN (Γ:Env) (q:Bool):List G → St → Option St
 | [],σ=>some σ
 | g :: l,σ=>(Oq Γ q σ g).bind (vN Γ q l)
def jL : I → Bool
 | .alloc _ _=>true
 | .box _ _=>true
 | .wh _ _ _ _ _=>true
 | .yX _ _=>true
 | .oJ _=>true
 | _=>false
def fresh (σ:St) (key:Nat):Bool:=σ.ob.all (fun p=>!(p.1 == key) && !lT key p.2) && σ.tm.all (fun p=>!qF key p.2)
def rJ (d:Option Nat) (tm:List (Nat × PV)) (v:PV):List (Nat × PV):=match d with
 | some d=>put tm d v
 | none=>tm
def OG (Γ:Env) (qG:List (Nat × Ob)):List (G × List Nat) → St → Option St
 | [],σ=>some σ
 | (g,nk) :: l,σ=>(lU Γ true ⟨σ.tm,qG⟩ g).bind fun p =>
  if nk.any (fun k=>qF k p.1 || (jL g.i && (p.2.ob.take 1).any (fun r=>r.1 == k || lT k r.2))) then none else
   OG Γ qG l ⟨rJ g.dst σ.tm p.1,if jL g.i then p.2.ob.take 1 ++ σ.ob else σ.ob⟩
def Ko (Γ:Env) (tm:List (Nat × PV)):List G → List (Nat × Ob) → Option (List (Nat × Ob))
 | [],ob=>some ob
 | g :: l,ob=>match g.i with
  | .store n x y=>match val ⟨tm,ob⟩ x with
   | some (.one (.ptr _ _))=>(bW Γ true ⟨tm,ob⟩ 999 (.store n x y)).bind fun p=>Ko Γ tm l p.2.ob
   | _=>none
  | _=>none
def rM (tm:List (Nat × PV)) (g:G):List Nat:=match g.i with
 | .store _ x _=>match val ⟨tm,[]⟩ x with
  | some (.one (.ptr k _))=>[k]
  | _=>[]
 | _=>[]
def Xd (Γ:Env) (pre:List (G × List Nat)) (kZ:List Nat) (jA rest:List G) (σ:St):Option St :=
 if pre.all (fun g=>!jL g.1.i || fresh σ (dw (g.1.dst.getD 999))) then (OG Γ σ.ob pre σ).bind fun s =>
  if kZ.all (fun j=>(lU Γ true ⟨pick (s.tm.map (·.1)) s.tm,σ.ob.filter (fun p=>!(jA.flatMap (rM (pick (s.tm.map (·.1)) s.tm))).contains p.1)⟩ (pre.getD j default).1).isSome) then
   (Ko Γ (pick (s.tm.map (·.1)) s.tm) jA s.ob).bind fun ob=>vN Γ false rest ⟨pick (s.tm.map (·.1)) s.tm,ob⟩ else none
 else none
inductive Out where
 | iK
 | ext (id:Nat)
 | ret
 deriving DecidableEq,Inhabited
def iter (body:St → Option (Out × St)) (rs:St → St):Nat → St → Option (Out × St)
 | 0,_=>none
 | n + 1,σ=>(body (rs σ)).bind fun p=>match p.1 with
  | .iK=>iter body rs n p.2
  | o=>some (o,p.2)
def iK (σ:St):List (Nat × Nat) → St
 | []=>σ
 | (s,sz) :: l=>match get σ.tm s with
  | some (.c (.one .bK))=>if sz = 0 then iK σ l else (match new σ (dw s) (.row sz []) with
   | some t=>iK ⟨put t.tm s (.c (.one (.own (dw s) 0))),t.ob⟩ l
   | none=>iK σ l)
  | _=>iK σ l
def res (keep AX:List Nat) (rws:List (Nat × Nat)) (σ:St):St:=let τ:=iK σ rws;⟨pick keep τ.tm,pick AX τ.ob⟩
def ku (Γ:Env) (gs:List G) (ks lS:List Nat) (σ r:St):List (List Nat) → Prop
 | []=>True
 | o :: os=>(∃ s,vN Γ false (o.map fun i=>gs.getD i default) σ = some s ∧ (⟨pick ks s.tm,pick lS s.ob⟩:St) = r) ∧ ku Γ gs ks lS σ r os
open Classical in
noncomputable def evO (Γ:Env) (gs:List G) (ks lS:List Nat) (σ:St):List (List Nat) → Option (Out × St)
 | []=>none
 | o :: os=>(vN Γ false (o.map fun i=>gs.getD i default) σ).bind fun s =>
  if ku Γ gs ks lS σ ⟨pick ks s.tm,pick lS s.ob⟩ os then some (.iK,⟨pick ks s.tm,pick lS s.ob⟩) else none
noncomputable def ev (Γ:Env) (F:Nat):CC → St → Option (Out × St)
 | .skip,σ=>some (.iK,σ)
 | .reg is ks,σ=>(vN Γ false is σ).map fun s=>(.iK,⟨pick ks s.tm,s.ob⟩)
 | .oH pre kZ jA rest ks,σ=>(Xd Γ pre kZ jA rest σ).map fun s=>(.iK,⟨pick ks s.tm,s.ob⟩)
 | .any gs Yf ks lS,σ=>evO Γ gs ks lS σ Yf
 | .seq a b,σ=>(ev Γ F a σ).bind fun p=>match p.1 with
  | .iK=>ev Γ F b p.2
  | o=>some (o,p.2)
 | .cond c a b,σ=>(val σ c).bind fun v=>(bool? v).bind fun t=>if t then ev Γ F a σ else ev Γ F b σ
 | .block id c,σ=>(ev Γ F c σ).map fun p=>match p.1 with
  | .ext i=>if i = id then (.iK,p.2) else (.ext i,p.2)
  | o=>(o,p.2)
 | .loop keep AX rws c,σ=>iter (ev Γ F c) (res keep AX rws) F σ
 | .exit id,σ=>some (.ext id,σ)
 | .ret,σ=>some (.ret,σ)
def ab (bo:List Nat) (i:Nat):Nat:=if bo.contains i then dw i + 10001 else dw i + 1
def enter (bo:List Nat):Nat → List PL → St → List AV → Option (List CV × St)
 | _,_,σ,[]=>some ([],σ)
 | i,pend,σ,x :: xs=>(J8 (ab bo i) pend σ x).bind fun p=>(enter bo (i + 1) (cells p.1 ++ pend) ⟨put p.2.tm i (.c p.1),p.2.ob⟩ xs).map fun r=>(p.1 :: r.1,r.2)
def outT (σ:St):PL → Option (TV × St)
 | .f x=>some (.f x,σ)
 | .bK=>some (.f (.sl []),σ)
 | .fp cs=>some (.fp cs,σ)
 | .fn f cs=>some (.fn f cs,σ)
 | .own key n=>(uU σ (.own key n)).map fun p=>(.f p.1,p.2)
 | .iw=>some (.iw,σ)
 | .eH=>some (.eH,σ)
 | .ptr key 0=>match get σ.ob key with
  | some (.dM xs)=>(yZ ⟨σ.tm,rem σ.ob key⟩ xs).map fun p=>(.ptr p.1,p.2)
  | _=>none
 | .mp key=>match get σ.ob key with
  | some (.map sh ents)=>some (.mp sh ents,⟨σ.tm,rem σ.ob key⟩)
  | _=>none
 | _=>none
def uV : St → List PL → Option (List TV × St)
 | σ,[]=>some ([],σ)
 | σ,x :: xs=>(outT σ x).bind fun p=>(uV p.2 xs).map fun q=>(p.1 :: q.1,q.2)
def OH (σ:St):CV → Option (AV × St)
 | .one x=>(outT σ x).map fun p=>(.one p.1,p.2)
 | .agg xs=>(uV σ xs).map fun p=>(.agg p.1,p.2)
def A8 (sz:Nat) (σ:St):PL → Option (TV × St)
 | .own key _=>match get σ.ob key with
  | some (.row z rows)=>if z = sz then some (.own sz rows,⟨σ.tm,rem σ.ob key⟩) else none
  | _=>none
 | .bK=>if sz = 0 then none else some (.own sz [],σ)
 | _=>none
def A9 (fl:Option Nat) (σ:St) (x:CV):Option (AV × St):=match fl,x with
 | some sz,.one x=>(A8 sz σ x).map fun p=>(.one p.1,p.2)
 | some _,.agg _=>none
 | none,x=>OH σ x
def lV : List (Option Nat) → St → List CV → Option (List AV × St)
 | _,σ,[]=>some ([],σ)
 | fl,σ,x :: xs=>(A9 (fl.headD none) σ x).bind fun p=>(lV fl.tail p.2 xs).map fun q=>(p.1 :: q.1,q.2)
def jB (σ:St):PL → TV → Option (TV × St)
 | .own key _,.own _ _=>if key % 2 = 1 then (match get σ.ob key with
  | some (.row z rows)=>some (.own z rows,⟨σ.tm,rem σ.ob key⟩)
  | _=>none) else some (.any,σ)
 | _,.own _ _=>some (.any,σ)
 | .ptr key 0,.ptr _=>if key % 2 = 1 then outT σ (.ptr key 0) else none
 | .mp key,.mp _ _=>if key % 2 = 1 then outT σ (.mp key) else none
 | _,.ptr _=>none
 | _,.mp _ _=>none
 | _,x=>some (x,σ)
def nK : St → List PL → List TV → Option (List TV × St)
 | σ,[],[]=>some ([],σ)
 | σ,l :: ls,x :: xs=>(jB σ l x).bind fun p=>(nK p.2 ls xs).map fun q=>(p.1 :: q.1,q.2)
 | _,_,_=>none
def wP (σ:St):CV → AV → Option (AV × St)
 | .one l,.one x=>(jB σ l x).map fun p=>(.one p.1,p.2)
 | .agg ls,.agg xs=>(nK σ ls xs).map fun p=>(.agg p.1,p.2)
 | _,_=>none
def jF : St → List CV → List AV → Option (List AV × St)
 | σ,[],[]=>some ([],σ)
 | σ,l :: ls,x :: xs=>(wP σ l x).bind fun p=>(jF p.2 ls xs).map fun q=>(p.1 :: q.1,q.2)
 | _,_,_=>none
def slot (σ:St):Rs → Option CV
 | .t i=>val σ (.t i)
 | .cell i n agg=>match get σ.tm i with
  | some (.c (.one (.ptr key off)))=>match get σ.ob key with
   | some (.dM xs)=>(seg n off xs).bind (mk agg)
   | _=>none
  | _=>none
def slots (σ:St):List Rs → Option (List CV)
 | []=>some []
 | i :: l=>(slot σ i).bind fun x=>(slots σ l).map fun r=>x :: r
noncomputable def IU (Γ:Env) (F:Nat) (cf:CF) (dV:List AV):Option (List AV × List AV) :=
 if dV.length ≠ cf.np then none else (enter cf.bo 0 [] ⟨[],[]⟩ dV).bind fun e=>(ev Γ F cf.body e.2).bind fun p=>match p.1 with
  | .ext _=>none
  | _=>(jF p.2 e.1 dV).bind fun b=>(slots b.2 cf.res).bind fun l=>(lV cf.ro b.2 l).map fun r=>(r.1,b.1)
end Go.Proofs.YtfokaoeinpnagaaGreat.Ev
namespace Go.Proofs.YtfokaoeinpnagaaGreat.Mq
open Go
structure Key (P:Program) (kt:TypeId) (α:Type) [DecidableEq α] (K:α → Value) (ok:α → Prop):Prop where
 check:∀ (e:Bool) (a:α) (w:World),ok a → (Instr.checkKey e 10000 kt (K a)).run P w = .ok () w
 find:∀ (a:α) (l:List MapEntry) (ks:List α) (w:World),ok a → (∀ k ∈ ks,ok k) → l.map (·.key) = ks.map K → (Instr.findKey kt (K a) l).run P w = .ok ((ks.findIdx? (· = a)).bind fun i=>l[i]?.map fun e=>(i,e.val)) w
 bits:∀ a:α,ok a → Instr.sameBits 10000 (K a) (K a) = true
section
variable {P : Program} {kt:TypeId} {α:Type} [DecidableEq α] {K:α → Value} {ok:α → Prop}
theorem asking (heq:∀ (a b:α) (w:World),ok a → ok b → (Op.equal kt (K a) (K b)).run P w = .ok (decide (a = b)) w) (a:α) (ha:ok a):∀ (l:List MapEntry) (ks:List α) (j:Nat) (w:World),(∀ k ∈ ks,ok k) → l.map (·.key) = ks.map K →
  (Instr.findAsking kt (K a) l j).run P w = .ok ((ks.findIdx? (· = a)).bind fun i=>l[i]?.map fun e=>(j + i,e.val)) w
 | [],ks,j,w,_,h=>by
  cases ks with
  | nil=>rfl
  | cons k ks=>simp at h
 | e :: l,[],j,w,_,h=>by simp at h
 | e :: l,k :: ks,j,w,hok,h=>by
  simp only [ah8,ai3] at h
  obtain ⟨h1,h2⟩:=h
  unfold Instr.findAsking
  rw [h1]
  simp only [Sem.run_bind,heq a k w ha (hok k ajh),Result.andThen]
  by_cases hk:a = k
  ·subst hk
   simp [List.findIdx?_cons]
  ·have hk':¬ k = a:=fun h=>hk h.symm
   simp only [hk,decide_false,ais,aik]
   rw [asking heq a ha l ks (j + 1) w (fun x hx=>hok x (aiQ _ hx)) h2,List.findIdx?_cons]
   simp only [hk',decide_false,ais,aik]
   cases ks.findIdx? (· = a) with
   | none=>rfl
   | some i =>
    simp only [Option.bind_some,Option.map_some,List.getElem?_cons_succ]
    cases l[i]? with
    | none=>rfl
    | some x=>simp only [Option.map_some];rw [show j + 1 + i = j + (i + 1) from by omega]
theorem Key.Kq {fs:Array Field} (hu:P.underlying kt = some (.struct fs)) (hc:∀ (e:Bool) (a:α) (w:World),ok a → (Instr.checkKey e 10000 kt (K a)).run P w = .ok () w) (heq:∀ (a b:α) (w:World),ok a → ok b → (Op.equal kt (K a) (K b)).run P w = .ok (decide (a = b)) w) (hb:∀ a:α,ok a → Instr.sameBits 10000 (K a) (K a) = true) (hag:∀ a:α,ok a → ∃ cs,K a = .agg cs):Key P kt α K ok where
 check:=hc
 bits:=hb
 find:=fun a l ks w ha hks h=>by
  unfold Instr.findKey
  simp only [Sem.run_bind,run_underlying hu,Result.andThen]
  cases l with
  | nil =>
   have:ks = []:=by cases ks with | nil=>rfl | cons k ks=>simp at h
   subst this
   simp [Instr.findNow]
  | cons e l =>
   have hn:Instr.findNow (.struct fs) (K a) (e :: l) 0 = none:=by
    obtain ⟨cs,hcs⟩:=hag a ha
    unfold Instr.findNow
    rw [hcs]
    cases e.key <;> rfl
   rw [hn]
   simp only
   rw [asking heq a ha (e :: l) ks 0 w hks h]
   simp only [aip]
theorem ug (a b:ByteArray):(a == b) = decide (a = b):=by
 by_cases h:a = b
 ·subst h
  rw [ah0 rfl]
  show (a.data == a.data) = true
  exact beq_self_eq_true _
 ·rw [ah2 h]
  show (a.data == b.data) = false
  refine aji.mpr fun e=>h (ajc e)
theorem Kr {d:TypeDesc} (hs:∀ a b:α,ok a → ok b → Instr.sameNow d (K a) (K b) = some (decide (a = b))) (a:α) (ha:ok a):∀ (l:List MapEntry) (ks:List α) (j:Nat),(∀ k ∈ ks,ok k) → l.map (·.key) = ks.map K →
  Instr.findNow d (K a) l j = some ((ks.findIdx? (· = a)).bind fun i=>l[i]?.map fun e=>(j + i,e.val))
 | [],ks,j,_,h=>by
  cases ks with
  | nil=>rfl
  | cons k ks=>simp at h
 | e :: l,[],j,_,h=>by simp at h
 | e :: l,k :: ks,j,hok,h=>by
  simp only [ah8,ai3] at h
  obtain ⟨h1,h2⟩:=h
  unfold Instr.findNow
  rw [h1,hs a k ha (hok k ajh)]
  by_cases hk:a = k
  ·subst hk
   simp [List.findIdx?_cons]
  ·have hk':¬ k = a:=fun h=>hk h.symm
   simp only [ah2 hk]
   rw [Kr hs a ha l ks (j + 1) (fun x hx=>hok x (aiQ _ hx)) h2,List.findIdx?_cons]
   simp only [hk',decide_false,ais,aik]
   cases ks.findIdx? (· = a) with
   | none=>rfl
   | some i =>
    simp only [Option.bind_some,Option.map_some,List.getElem?_cons_succ]
    cases l[i]? with
    | none=>rfl
    | some x=>simp only [Option.map_some];rw [show j + 1 + i = j + (i + 1) from by omega]
theorem Key.OI {d:TypeDesc} (hu:P.underlying kt = some d) (hd:∀ a,ok a → MapKept.IsKey d (K a)) (hs:∀ a b:α,ok a → ok b → Instr.sameNow d (K a) (K b) = some (decide (a = b))) (hb:∀ a:α,ok a → Instr.sameBits 10000 (K a) (K a) = true):Key P kt α K ok where
 check:=fun e a w ha=>MapKept.run_checkKey hu (hd a ha) e 9999
 bits:=hb
 find:=fun a l ks w ha hks h=>by
  unfold Instr.findKey
  simp only [Sem.run_bind,run_underlying hu,Result.andThen]
  rw [Kr hs a ha l ks 0 hks h]
  simp only [aip]
  rfl
def Bn (es:Array MapEntry) (clock:Nat):Prop:=(es.toList.map (·.born)).Nodup ∧ ∀ e ∈ es.toList,e.born < clock
theorem Bn.push {es:Array MapEntry} {clock:Nat} (h:Bn es clock) (k v:Value):Bn (es.push { key:=k,val:=v,born:=clock }) (clock + 1):=by
 unfold Bn
 rw [Array.toList_push,ajq]
 refine ⟨ajr.mpr ⟨h.1,List.pairwise_singleton _ _,fun a ha b hb=>?_⟩,fun e he=>?_⟩
 ·obtain ⟨e,he,rfl⟩:=aiq.mp ha
  have:=h.2 e he
  simp only [ah8,ail,aiR] at hb
  omega
 ·rcases air.mp he with he | he
  ·have:=h.2 e he;omega
  ·rw [aiR] at he;subst he;exact Nat.lt_succ_self _
theorem Bn.Gv {es es':Array MapEntry} {clock:Nat} (h:Bn es clock) (hs:(es'.toList.map (·.born)).Sublist (es.toList.map (·.born))):Bn es' clock:=by
 refine ⟨hs.nodup h.1,fun e he=>?_⟩
 obtain ⟨e',he',hb⟩:=aiq.mp (hs.subset (List.mem_map_of_mem (f:=(·.born)) he))
 have:=h.2 e' he'
 omega
structure At (w:World) (b:Nat) (K:α → Value) (l:List (α × Value)):Prop where
 ex:∃ es clock,w.heap[b]? = some (.map es clock) ∧ es.toList.map (·.key) = l.map (fun p=>K p.1) ∧ es.toList.map (·.val) = l.map (·.2) ∧ Bn es clock
def idx (l:List (α × Value)) (a:α):Option Nat:=(l.map (·.1)).findIdx? (· = a)
def rO (l:List (α × Value)) (a:α):Option Value:=(idx l a).bind fun i=>l[i]?.map (·.2)
theorem ET {l:List (α × Value)} {a:α} {i:Nat} (h:idx l a = some i):i < l.length:=by
 unfold idx at h
 obtain ⟨h1,_⟩:=ajj.mp h
 rwa [ahZ] at h1
theorem OJ {l:List (α × Value)} {a:α} {i:Nat} (h:idx l a = some i):l[i]?.map (·.1) = some a:=by
 unfold idx at h
 obtain ⟨h1,h2,_⟩:=ajj.mp h
 have:=aii.mp h2
 rw [ajd] at this
 have hl:i < l.length:=by rwa [ahZ] at h1
 rw [aic hl,Option.map_some,this]
theorem rR (hk:Key P kt α K ok) {es:Array MapEntry} {l:List (α × Value)} (hl:∀ p ∈ l,ok p.1) (h1:es.toList.map (·.key) = l.map (fun p=>K p.1)) (h2:es.toList.map (·.val) = l.map (·.2)) (a:α) (ha:ok a) (w:World) :
  (Instr.findKey kt (K a) es.toList).run P w = .ok ((idx l a).bind fun i=>l[i]?.map fun p=>(i,p.2)) w:=by
 rw [hk.find a es.toList (l.map (·.1)) w ha (by intro k hx;obtain ⟨p,hp,rfl⟩:=aiq.mp hx;exact hl p hp) (by rw [h1,List.map_map];rfl)]
 unfold idx
 congr 1
 cases hi:(l.map (·.1)).findIdx? (· = a) with
 | none=>rfl
 | some i =>
  simp only [Option.bind_some]
  have:=aio (fun (x:List Value)=>x[i]?) h2
  simp only [ah3] at this
  cases he:es.toList[i]? with
  | none=>rw [he] at this;cases hp:l[i]? with
   | none=>rfl
   | some p=>rw [hp] at this;cases this
  | some e=>rw [he] at this;cases hp:l[i]? with
   | none=>rw [hp] at this;cases this
   | some p =>
    rw [hp] at this
    simp only [Option.map_some,aie] at this ⊢
    rw [this]
theorem look (hk:Key P kt α K ok) {w:World} {b:Nat} {l:List (α × Value)} (h:At w b K l) (hl:∀ p ∈ l,ok p.1) (t et:TypeId) (hm:P.underlying t = some (.map kt et)) (z:Value) (hz:(zeroValue et).run P w = .ok z w) (a:α) (ha:ok a) (R6:Bool) :
  (Instr.lookup t (.map (some b)) (K a) R6).run P w = .ok (if R6 then .tuple #[(rO l a).getD z,.bool (rO l a).isSome] else (rO l a).getD z) w:=by
 obtain ⟨es,clock,h0,h1,h2,h3⟩:=h.ex
 unfold Instr.lookup
 simp only [Sem.run_bind,run_underlying hm,Result.andThen,MapKept.run_getObj_map h0,hk.check _ a w ha,rR hk hl h1 h2 a ha,Sem.run_pure]
 unfold rO
 cases hi:idx l a with
 | none=>cases R6 <;> simp [hz]
 | some i =>
  have:=ET hi
  simp only [Option.bind_some,aic this,Option.map_some]
  cases R6 <;> simp
theorem look_nil (hk:Key P kt α K ok) {w:World} (t et:TypeId) (hm:P.underlying t = some (.map kt et)) (z:Value) (hz:(zeroValue et).run P w = .ok z w) (a:α) (ha:ok a) (R6:Bool) :
  (Instr.lookup t (.map none) (K a) R6).run P w = .ok (if R6 then .tuple #[z,.bool false] else z) w:=by
 unfold Instr.lookup
 have:=hk.find a [] [] w ha (by simp) rfl
 simp only [List.findIdx?_nil,Option.bind_none] at this
 cases R6 <;> simp [Sem.run_bind,run_underlying hm,Result.andThen,hk.check _ a w ha,this,hz,Sem.run_pure]
def upd (l:List (α × Value)) (a:α) (v:Value):List (α × Value):=match idx l a with | some i=>l.set i (a,v) | none=>l ++ [(a,v)]
def del (l:List (α × Value)) (a:α):List (α × Value):=match idx l a with | some i=>l.eraseIdx i | none=>l
theorem rT {w:World} {v u:Value} (h:Instr.sameBits 10000 v u = true):(Instr.keyThatStays v u).run P w = .ok u w:=by
 unfold Instr.keyThatStays
 rw [ahX h];rfl
theorem update (hk:Key P kt α K ok) {w:World} {b:Nat} {l:List (α × Value)} (h:At w b K l) (hl:∀ p ∈ l,ok p.1) (t et:TypeId) (hm:P.underlying t = some (.map kt et)) (a:α) (ha:ok a) (v:Value) :
  ∃ w',(Instr.mapUpdate t (.map (some b)) (K a) v).run P w = .ok () w' ∧ At w' b K (upd l a v) ∧ w.grownBy w' (some b):=by
 obtain ⟨es,clock,h0,h1,h2,h3⟩:=h.ex
 have hz:es.toList.length = l.length:=by have:=aio List.length h1;simpa using this
 unfold upd
 cases hi:idx l a with
 | none =>
  refine ⟨{ w with heap:=w.heap.setIfInBounds b (.map (es.push { key:=K a,val:=v,born:=clock }) (clock + 1)) },?_,⟨⟨_,_,(MapKept.heap_set h0).1,?_,?_,?_⟩⟩,⟨rfl,rfl,rfl,by simp,fun i _ hi=>(MapKept.heap_set h0).2 i (fun e=>hi (by rw [e]))⟩⟩
  ·unfold Instr.mapUpdate
   simp only [Sem.run_bind,run_underlying hm,Result.andThen,MapKept.run_getObj_map h0,hk.check _ a w ha,rR hk hl h1 h2 a ha,hi,Option.bind_none,MapKept.run_setObj_map _ h0]
  ·rw [Array.toList_push,ajq,h1,ajq];rfl
  ·rw [Array.toList_push,ajq,h2,ajq];rfl
  ·exact h3.push _ _
 | some i =>
  have hlt:=ET hi
  have hlt2:i < es.size:=by rw [Array.length_toList] at hz;omega
  have hkey:es[i].key = K a:=by
   have:=aio (fun (x:List Value)=>x[i]?) h1
   simp only [ah3] at this
   have h3:=OJ hi
   rw [aic hlt] at h3 this
   rw [aic (by rw [Array.length_toList];exact hlt2)] at this
   simp only [Option.map_some,aie] at this h3
   rw [h3] at this
   simpa using this
  have hset:(es.modify i fun e=>{ e with key:=K a,val:=v }).toList = es.toList.set i { es[i] with key:=K a,val:=v }:=by
   rw [Array.toList_modify]
   refine ai4 fun j=>?_
   rw [List.getElem?_modify,List.getElem?_set]
   by_cases hj:i = j
   ·subst hj
    rw [ahX rfl,ahX (by rw [Array.length_toList];exact hlt2),aic (by rw [Array.length_toList];exact hlt2)]
    simp
   ·rw [ahY hj];simp [hj]
  refine ⟨{ w with heap:=w.heap.setIfInBounds b (.map (es.modify i fun e=>{ e with key:=K a,val:=v }) clock) },?_,⟨⟨_,_,(MapKept.heap_set h0).1,?_,?_,?_⟩⟩,⟨rfl,rfl,rfl,by simp,fun i _ hi=>(MapKept.heap_set h0).2 i (fun e=>hi (by rw [e]))⟩⟩
  ·unfold Instr.mapUpdate
   have hb:Instr.sameBits 10000 (((es[i]?).map (·.key)).getD (K a)) (K a) = true:=by
    rw [ait hlt2]
    simp only [Option.map_some,Option.getD_some,hkey]
    exact hk.bits a ha
   simp only [Sem.run_bind,run_underlying hm,Result.andThen,MapKept.run_getObj_map h0,hk.check _ a w ha,rR hk hl h1 h2 a ha,hi,Option.bind_some,aic hlt,Option.map_some,rT hb,MapKept.run_setObj_map _ h0]
  ·rw [hset,ajk,h1,ajk]
  ·rw [hset,ajk,h2,ajk]
  ·refine h3.Gv ?_
   rw [hset,ajk,show ({ es[i] with key:=K a,val:=v }:MapEntry).born = es[i].born from rfl]
   have:(es.toList.map (·.born)).set i es[i].born = es.toList.map (·.born):=by
    refine ai4 fun j=>?_
    rw [List.getElem?_set]
    by_cases hj:i = j
    ·subst hj
     rw [ahX rfl,ahX (by rw [ahZ,Array.length_toList];exact hlt2),ah3,aic (by rw [Array.length_toList];exact hlt2)]
     simp
    ·rw [ahY hj]
   rw [this]
   exact ajH _
theorem mZ {β γ:Type} (f:β → γ):∀ (l:List β) (i:Nat),(l.eraseIdx i).map f = (l.map f).eraseIdx i
 | [],i=>rfl
 | x :: l,0=>rfl
 | x :: l,i + 1=>by simp [mZ f l i]
theorem delete (hk:Key P kt α K ok) {w:World} {b:Nat} {l:List (α × Value)} (h:At w b K l) (hl:∀ p ∈ l,ok p.1) (t et u:TypeId) (hm:P.underlying t = some (.map kt et)) (a:α) (ha:ok a) :
  ∃ w',(Builtin.delete_ #[t,kt] u #[.map (some b),K a]).run P w = .ok (.tuple #[]) w' ∧ At w' b K (del l a) ∧ w.grownBy w' (some b):=by
 obtain ⟨es,clock,h0,h1,h2,h3⟩:=h.ex
 have hz:es.toList.length = l.length:=by have:=aio List.length h1;simpa using this
 unfold del
 cases hi:idx l a with
 | none =>
  refine ⟨{ w with heap:=w.heap.setIfInBounds b (.map es clock) },?_,⟨⟨_,_,(MapKept.heap_set h0).1,h1,h2,h3⟩⟩,⟨rfl,rfl,rfl,by simp,fun i _ hi=>(MapKept.heap_set h0).2 i (fun e=>hi (by rw [e]))⟩⟩
  unfold Builtin.delete_
  simp [Sem.run_bind,run_underlying hm,Result.andThen,MapKept.run_getObj_map h0,hk.check _ a w ha,rR hk hl h1 h2 a ha,hi,MapKept.run_setObj_map _ h0]
 | some i =>
  have hlt:=ET hi
  have hlt2:i < es.size:=by rw [Array.length_toList] at hz;omega
  have he:(es.eraseIdxIfInBounds i).toList = es.toList.eraseIdx i:=by simp [Array.eraseIdxIfInBounds,hlt2]
  refine ⟨{ w with heap:=w.heap.setIfInBounds b (.map (es.eraseIdxIfInBounds i) clock) },?_,⟨⟨_,_,(MapKept.heap_set h0).1,?_,?_,?_⟩⟩,⟨rfl,rfl,rfl,by simp,fun i _ hi=>(MapKept.heap_set h0).2 i (fun e=>hi (by rw [e]))⟩⟩
  ·unfold Builtin.delete_
   simp [Sem.run_bind,run_underlying hm,Result.andThen,MapKept.run_getObj_map h0,hk.check _ a w ha,rR hk hl h1 h2 a ha,hi,aic hlt,MapKept.run_setObj_map _ h0]
  ·rw [he,mZ,h1,mZ]
  ·rw [he,mZ,h2,mZ]
  ·exact h3.Gv (by rw [he];exact (List.eraseIdx_sublist ..).map _)
theorem At.len {w:World} {b:Nat} {l:List (α × Value)} (h:At w b K l):∃ es clock,w.heap[b]? = some (.map es clock) ∧ es.size = l.length:=by
 obtain ⟨es,clock,h0,h1,h2,h3⟩:=h.ex
 exact ⟨es,clock,h0,by have:=aio List.length h1;simpa using this⟩
theorem At.move {w w':World} {b:Nat} {l:List (α × Value)} (h:At w b K l) (hb:w'.heap[b]? = w.heap[b]?):At w' b K l:=by
 obtain ⟨es,clock,h0,h1,h2,h3⟩:=h.ex
 exact ⟨es,clock,hb.trans h0,h1,h2,h3⟩
theorem At.lt {w:World} {b:Nat} {l:List (α × Value)} (h:At w b K l):b < w.heap.size:=by
 obtain ⟨es,clock,h0,_⟩:=h.ex
 exact (ai5.1 h0).1
theorem At.made (w:World):At (w.alloc (.map #[] 0)) w.heap.size K ([]:List (α × Value)):=⟨#[],0,heap_alloc_new w _,rfl,rfl,by simp [Bn]⟩
end
end Go.Proofs.YtfokaoeinpnagaaGreat.Mq
namespace Go.Proofs.YtfokaoeinpnagaaGreat.Ev
section
open Go
theorem eB {α:Type} {l:List (Nat × α)} {i:Nat} {p:Nat × α}:p ∈ rem l i ↔ p ∈ l ∧ p.1 ≠ i:=by
 induction l with
 | nil=>simp [rem]
 | cons q l ih =>
  obtain ⟨k,u⟩:=q
  unfold rem
  by_cases h:k = i
  ·subst h
   rw [ahX rfl,ih,aif]
   constructor
   ·rintro ⟨h1,h2⟩;exact ⟨.inr h1,h2⟩
   ·rintro ⟨h1 | h1,h2⟩
    ·subst h1;exact absurd rfl h2
    ·exact ⟨h1,h2⟩
  ·rw [ahY h,aif,aif,ih]
   constructor
   ·rintro (h1 | ⟨h1,h2⟩)
    ·subst h1;exact ⟨.inl rfl,h⟩
    ·exact ⟨.inr h1,h2⟩
   ·rintro ⟨h1 | h1,h2⟩
    ·exact .inl h1
    ·exact .inr ⟨h1,h2⟩
theorem gT {α:Type} {l:List (Nat × α)} {i:Nat} {v:α} {p:Nat × α} (h:p ∈ put l i v):p = (i,v) ∨ (p ∈ l ∧ p.1 ≠ i):=by
 induction l with
 | nil=>simp only [put,aiR] at h;exact .inl h
 | cons q l ih =>
  obtain ⟨k,u⟩:=q
  unfold put at h
  by_cases hk:k = i
  ·subst hk
   rw [ahX rfl,aif,eB] at h
   rcases h with h | h
   ·exact .inl h
   ·exact .inr ⟨aiQ _ h.1,h.2⟩
  ·rw [ahY hk,aif] at h
   rcases h with h | h
   ·subst h;exact .inr ⟨ajh,hk⟩
   ·rcases ih h with h | h
    ·exact .inl h
    ·exact .inr ⟨aiQ _ h.1,h.2⟩
theorem get_mem {α:Type} {l:List (Nat × α)} {i:Nat} {v:α} (h:get l i = some v):(i,v) ∈ l:=by
 induction l with
 | nil=>simp [get] at h
 | cons q l ih =>
  obtain ⟨k,u⟩:=q
  unfold get at h
  by_cases hk:k = i
  ·subst hk
   rw [ahX rfl] at h
   cases h
   exact ajh
  ·rw [ahY hk] at h
   exact aiQ _ (ih h)
theorem jS {α:Type} {ks:List Nat} {l:List (Nat × α)} {p:Nat × α} (h:p ∈ pick ks l):p ∈ l:=by
 unfold pick at h
 obtain ⟨i,_,h2⟩:=List.mem_filterMap.mp h
 obtain ⟨v,h3,h4⟩:=zmm h2
 subst h4
 exact get_mem h3
mutual
def eO (Fz:Nat → Prop) (w:World):FV → Value → Prop
 | .int k n,v=>v = .int k n
 | .bool b,v=>v = .bool b
 | .str s,v=>v = .string s
 | .sl rows,v=>∃ A c,v = .slice A rows.length c ∧ rows.length ≤ c ∧ rows.length ≤ 9223372036854775807 ∧ (rows = [] ∨ ∃ b o sz,A = some ⟨b,o,none⟩ ∧ Fz b ∧ cO Fz w sz b o rows)
def cO (Fz:Nat → Prop) (w:World) (sz b o:Nat):List (List FV) → Prop
 | []=>True
 | r :: rs=>r.length = sz ∧ dS Fz w b o r ∧ cO Fz w sz b (o + sz) rs
def dS (Fz:Nat → Prop) (w:World) (b o:Nat):List FV → Prop
 | []=>True
 | x :: xs=>(∃ u,w.cell? ⟨b,o,none⟩ = some u ∧ eO Fz w x u) ∧ dS Fz w b (o + 1) xs
end
theorem cell_of {w w':World} {b o:Nat} (h:w'.heap[b]? = w.heap[b]?):w'.cell? ⟨b,o,none⟩ = w.cell? ⟨b,o,none⟩:=by
 simp only [World.cell?,h]
section
variable {Fz bg:Nat → Prop} {w w':World}
mutual
theorem eO.mono (hf:∀ b,Fz b → bg b) (hw:∀ b,Fz b → w'.heap[b]? = w.heap[b]?):∀ (x:FV) (v:Value),eO Fz w x v → eO bg w' x v
 | .int k n,v,h=>h
 | .bool b,v,h=>h
 | .str s,v,h=>h
 | .sl rows,v,h=>by
  simp only [eO] at h ⊢
  obtain ⟨A,c,h1,h2,h2',h3⟩:=h
  refine ⟨A,c,h1,h2,h2',?_⟩
  rcases h3 with h3 | ⟨b,o,sz,h4,h5,h6⟩
  ·exact .inl h3
  ·exact .inr ⟨b,o,sz,h4,hf b h5,cO.mono hf hw rows sz b o h5 h6⟩
theorem cO.mono (hf:∀ b,Fz b → bg b) (hw:∀ b,Fz b → w'.heap[b]? = w.heap[b]?):∀ (rows:List (List FV)) (sz b o:Nat),Fz b → cO Fz w sz b o rows → cO bg w' sz b o rows
 | [],_,_,_,_,h=>trivial
 | r :: rs,sz,b,o,hb,h=>by
  simp only [cO] at h ⊢
  exact ⟨h.1,dS.mono hf hw r b o hb h.2.1,cO.mono hf hw rs sz b (o + sz) hb h.2.2⟩
theorem dS.mono (hf:∀ b,Fz b → bg b) (hw:∀ b,Fz b → w'.heap[b]? = w.heap[b]?):∀ (r:List FV) (b o:Nat),Fz b → dS Fz w b o r → dS bg w' b o r
 | [],_,_,_,h=>trivial
 | x :: xs,b,o,hb,h=>by
  simp only [dS] at h ⊢
  obtain ⟨⟨u,h1,h2⟩,h3⟩:=h
  exact ⟨⟨u,(cell_of (hw b hb)).trans h1,eO.mono hf hw x u h2⟩,dS.mono hf hw xs b (o + 1) hb h3⟩
end
end
def blk : Value → Option Nat
 | .pointer (some a)=>some a.block
 | .slice (some a) _ _=>some a.block
 | .map (some b)=>some b
 | _=>none
def mV (Fz:Nat → Prop) (w:World):List (List FV) → List Value → Prop
 | [],[]=>True
 | c :: cs,v :: vs=>(∃ b o,v = .pointer (some ⟨b,o,none⟩) ∧ Fz b ∧ dS Fz w b o c) ∧ mV Fz w cs vs
 | _,_=>False
def dW (Fz:Nat → Prop) (κ:Nat → Value) (w:World):PL → Value → Prop
 | .f x,v=>eO Fz w x v
 | .bK,v=>v = .slice none 0 0
 | .own key n,v=>v = κ key ∧ ∃ A c,v = .slice A n c
 | .ptr key off,v=>∃ b,κ key = .pointer (some ⟨b,0,none⟩) ∧ v = .pointer (some ⟨b,off,none⟩)
 | .fp cs,v=>∃ b o,v = .pointer (some ⟨b,o,none⟩) ∧ Fz b ∧ dS Fz w b o cs
 | .rp key sz i off,v=>∃ b n c,κ key = .slice (some ⟨b,0,none⟩) n c ∧ v = .pointer (some ⟨b,i * sz + off,none⟩)
 | .mp key,v=>v = κ key ∧ ∃ b,v = .map (some b)
 | .iw,v=>v = .pointer none
 | .eH,v=>v = .map none
 | .und,v=>v = undef
 | .any,_=>True
 | .fn f caps,v=>∃ cs:List Value,v = .func (.func f) #[] cs.toArray ∧ mV Fz w caps cs
 | .vw key sz n lo,v=>∃ A c,κ key = .slice A n c ∧ v = .slice (if c = lo then A else A.map (·.add (lo * sz))) (n - lo) (c - lo)
def aM (Fz:Nat → Prop) (κ:Nat → Value) (w:World):List PL → List Value → Prop
 | [],[]=>True
 | x :: xs,v :: vs=>dW Fz κ w x v ∧ aM Fz κ w xs vs
 | _,_=>False
def bX (Fz:Nat → Prop) (w:World):List FV → List Value → Prop
 | [],[]=>True
 | x :: xs,v :: vs=>eO Fz w x v ∧ bX Fz w xs vs
 | _,_=>False
def fJ (Fz:Nat → Prop) (κ:Nat → Value) (w:World):CV → Value → Prop
 | .one x,v=>dW Fz κ w x v
 | .agg xs,v=>∃ cs,v = .agg cs ∧ aM Fz κ w xs cs.toList
def dH (Fz:Nat → Prop) (κ:Nat → Value) (w:World):List CV → List Value → Prop
 | [],[]=>True
 | x :: xs,v :: vs=>fJ Fz κ w x v ∧ dH Fz κ w xs vs
 | _,_=>False
def gW (Fz:Nat → Prop) (κ:Nat → Value) (w:World):PV → Value → Prop
 | .c x,v=>fJ Fz κ w x v
 | .tZ xs,v=>∃ vs,v = .tuple vs ∧ dH Fz κ w xs vs.toList
def kX (Fz:Nat → Prop) (w:World):FC → Value → Prop
 | .one x,v=>eO Fz w x v
 | .agg xs,v=>∃ cs,v = .agg cs ∧ bX Fz w xs cs.toList
def encS : SV → Value
 | .int k n=>.int k n
 | .bool b=>.bool b
 | .str s=>.string s
def kQ : KV → Value
 | .one x=>encS x
 | .agg xs=>.agg (xs.map encS).toArray
def gY (Fz:Nat → Prop) (w:World):List (KV × FC) → List (KV × Value) → Prop
 | [],[]=>True
 | p :: l,q :: m=>p.1 = q.1 ∧ kX Fz w p.2 q.2 ∧ gY Fz w l m
 | _,_=>False
def dX (Fz:Nat → Prop) (w:World) (sz:Nat):List (List FV) → List Value → Prop
 | [],cs=>cs = []
 | r :: rs,cs=>r.length = sz ∧ bX Fz w r (cs.take sz) ∧ dX Fz w sz rs (cs.drop sz)
def y8 (Fz:Nat → Prop) (w:World) (sh:KS) (ents:List (KV × FC)) (b:Nat):Prop:=∃ l,Mq.At w b kQ l ∧ gY Fz w ents l ∧ ∀ p ∈ l,p.1.ks = sh
def gZ (B:Nat) (Fz:Nat → Prop) (κ:Nat → Value) (w:World) (key:Nat):Ob → Prop
 | .dM xs=>∃ b cs e,κ key = .pointer (some ⟨b,0,none⟩) ∧ w.heap[b]? = some (.cells cs e (0,0)) ∧ aM Fz κ w xs cs.toList
 | .row sz rows=>0 < sz ∧ ∃ e inner A c,κ key = .slice A rows.length c ∧ w.ownsRow B e sz (κ key) rows.length inner ∧ dX Fz w sz rows inner
 | .map sh ents=>∃ b,κ key = .map (some b) ∧ y8 Fz w sh ents b
section
variable {Fz bg:Nat → Prop} {w w':World} {κ eF:Nat → Value}
theorem bX.mono (hf:∀ b,Fz b → bg b) (hw:∀ b,Fz b → w'.heap[b]? = w.heap[b]?):∀ (xs:List FV) (vs:List Value),bX Fz w xs vs → bX bg w' xs vs
 | [],[],_=>trivial
 | x :: xs,v :: vs,h=>⟨eO.mono hf hw x v h.1,bX.mono hf hw xs vs h.2⟩
 | [],_ :: _,h=>h.elim
 | _ :: _,[],h=>h.elim
theorem mV.mono (hf:∀ b,Fz b → bg b) (hw:∀ b,Fz b → w'.heap[b]? = w.heap[b]?):∀ {cs:List (List FV)} {vs:List Value},mV Fz w cs vs → mV bg w' cs vs
 | [],[],_=>trivial
 | c :: cs,v :: vs,⟨⟨b,o,h1,h2,h3⟩,h4⟩=>⟨⟨b,o,h1,hf b h2,dS.mono hf hw c b o h2 h3⟩,mV.mono hf hw h4⟩
 | [],_ :: _,h=>h.elim
 | _ :: _,[],h=>h.elim
theorem dW.mono (hf:∀ b,Fz b → bg b) (hw:∀ b,Fz b → w'.heap[b]? = w.heap[b]?) {x:PL} (hk:∀ key,dR key x = true → eF key = κ key) {v:Value} (h:dW Fz κ w x v):dW bg eF w' x v:=by
 cases x with
 | f x=>exact eO.mono hf hw x v h
 | bK=>exact h
 | own key n=>simp only [dW] at h ⊢;rw [hk key (by simp [dR])];exact h
 | ptr key off=>simp only [dW] at h ⊢;rw [hk key (by simp [dR])];exact h
 | fp cs =>
  obtain ⟨b,o,h1,h2,h3⟩:=h
  exact ⟨b,o,h1,hf b h2,dS.mono hf hw cs b o h2 h3⟩
 | rp key sz i off=>simp only [dW] at h ⊢;rw [hk key (by simp [dR])];exact h
 | mp key=>simp only [dW] at h ⊢;rw [hk key (by simp [dR])];exact h
 | iw=>exact h
 | eH=>exact h
 | und=>exact h
 | any=>trivial
 | fn f caps=>obtain ⟨cs,h1,h2⟩:=h;exact ⟨cs,h1,h2.mono hf hw⟩
 | vw key sz n lo=>simp only [dW] at h ⊢;rw [hk key (by simp [dR])];exact h
theorem aM.mono (hf:∀ b,Fz b → bg b) (hw:∀ b,Fz b → w'.heap[b]? = w.heap[b]?):∀ (xs:List PL) (hk:∀ key,xs.any (dR key) = true → eF key = κ key) (vs:List Value),aM Fz κ w xs vs → aM bg eF w' xs vs
 | [],_,[],_=>trivial
 | x :: xs,hk,v :: vs,h=>⟨dW.mono hf hw (fun key hx=>hk key (by simp [hx])) h.1,aM.mono hf hw xs (fun key hx=>hk key (by simp [hx])) vs h.2⟩
 | [],_,_ :: _,h=>h.elim
 | _ :: _,_,[],h=>h.elim
theorem fJ.mono (hf:∀ b,Fz b → bg b) (hw:∀ b,Fz b → w'.heap[b]? = w.heap[b]?) {x:CV} (hk:∀ key,uT key x = true → eF key = κ key) {v:Value} (h:fJ Fz κ w x v):fJ bg eF w' x v:=by
 cases x with
 | one x=>exact dW.mono hf hw hk h
 | agg xs =>
  obtain ⟨cs,rfl,h⟩:=h
  exact ⟨cs,rfl,aM.mono hf hw xs hk _ h⟩
theorem dH.mono (hf:∀ b,Fz b → bg b) (hw:∀ b,Fz b → w'.heap[b]? = w.heap[b]?):∀ (xs:List CV) (hk:∀ key,xs.any (uT key) = true → eF key = κ key) (vs:List Value),dH Fz κ w xs vs → dH bg eF w' xs vs
 | [],_,[],_=>trivial
 | x :: xs,hk,v :: vs,h=>⟨fJ.mono hf hw (fun key hx=>hk key (by simp [hx])) h.1,dH.mono hf hw xs (fun key hx=>hk key (by simp [hx])) vs h.2⟩
 | [],_,_ :: _,h=>h.elim
 | _ :: _,_,[],h=>h.elim
theorem gW.mono (hf:∀ b,Fz b → bg b) (hw:∀ b,Fz b → w'.heap[b]? = w.heap[b]?) {x:PV} (hk:∀ key,qF key x = true → eF key = κ key) {v:Value} (h:gW Fz κ w x v):gW bg eF w' x v:=by
 cases x with
 | c x=>exact fJ.mono hf hw hk h
 | tZ xs =>
  obtain ⟨cs,rfl,h⟩:=h
  exact ⟨cs,rfl,dH.mono hf hw xs hk _ h⟩
theorem kX.mono (hf:∀ b,Fz b → bg b) (hw:∀ b,Fz b → w'.heap[b]? = w.heap[b]?) {x:FC} {v:Value} (h:kX Fz w x v):kX bg w' x v:=by
 cases x with
 | one x=>exact eO.mono hf hw x v h
 | agg xs =>
  obtain ⟨cs,rfl,h⟩:=h
  exact ⟨cs,rfl,bX.mono hf hw xs _ h⟩
theorem gY.mono (hf:∀ b,Fz b → bg b) (hw:∀ b,Fz b → w'.heap[b]? = w.heap[b]?):∀ (l:List (KV × FC)) (m:List (KV × Value)),gY Fz w l m → gY bg w' l m
 | [],[],_=>trivial
 | p :: l,q :: m,h=>⟨h.1,kX.mono hf hw h.2.1,gY.mono hf hw l m h.2.2⟩
 | [],_ :: _,h=>h.elim
 | _ :: _,[],h=>h.elim
theorem dX.mono (hf:∀ b,Fz b → bg b) (hw:∀ b,Fz b → w'.heap[b]? = w.heap[b]?) (sz:Nat):∀ (rs:List (List FV)) (cs:List Value),dX Fz w sz rs cs → dX bg w' sz rs cs
 | [],_,h=>h
 | r :: rs,cs,h=>⟨h.1,bX.mono hf hw r _ h.2.1,dX.mono hf hw sz rs _ h.2.2⟩
theorem zD {base:Nat} {e:TypeId} {size n:Nat} {v:Value} {xs:List Value} (h:w.ownsRow base e size v n xs) (hm:∀ k,v.ownBlock = some k → w'.heap[k]? = w.heap[k]?):w'.ownsRow base e size v n xs:=by
 obtain ⟨h1,h2⟩:=h
 refine ⟨h1,?_⟩
 rcases h2 with h2 | ⟨g,cap,cur,rfl,hg,hh,r⟩
 ·exact .inl h2
 ·exact .inr ⟨g,cap,cur,rfl,hg,(hm g (by simp [Value.ownBlock])).trans hh,r⟩
theorem Ba {v:Value} {k:Nat} (h:v.ownBlock = some k):blk v = some k:=by
 cases v <;> simp [Value.ownBlock] at h
 rename_i a n c
 cases a <;> simp [Value.ownBlock] at h
 simp [blk,h]
theorem gZ.mono {B:Nat} (hf:∀ b,Fz b → bg b) (hw:∀ b,Fz b → w'.heap[b]? = w.heap[b]?) {key:Nat} {o:Ob} (hk:∀ k,k = key ∨ lT k o = true → eF k = κ k) (hb:∀ b,blk (κ key) = some b → w'.heap[b]? = w.heap[b]?) (h:gZ B Fz κ w key o):gZ B bg eF w' key o:=by
 have hkk:=hk key (.inl rfl)
 cases o with
 | dM xs =>
  obtain ⟨b,cs,e,h1,h2,h3⟩:=h
  exact ⟨b,cs,e,hkk.trans h1,(hb b (by rw [h1];rfl)).trans h2,aM.mono hf hw xs (fun k hx=>hk k (.inr hx)) _ h3⟩
 | row sz rows =>
  obtain ⟨h0,e,inner,A,c,h1,h2,h3⟩:=h
  refine ⟨h0,e,inner,A,c,hkk.trans h1,?_,dX.mono hf hw sz rows inner h3⟩
  rw [hkk]
  exact zD h2 (fun k hx=>hb k (Ba hx))
 | map sh ents =>
  obtain ⟨b,h1,l,h2,h3,h4⟩:=h
  exact ⟨b,hkk.trans h1,l,h2.move (hb b (by rw [h1];rfl)),gY.mono hf hw ents l h3,h4⟩
end
end
section
open Go
structure Fr where
 n:Nat
 ds:List Deferred
 ok:Nat → Bool
 lt:∀ d,ok d = true → d < n
 vs:Nat → Value
def Bb (n:Nat):Nat → Bool:=fun d=>decide (d < n)
def Fr.of (n:Nat):Fr:=⟨n,[],Bb n,fun d h=>by simpa [Bb] using h,fun _=>undef⟩
def Kp (w w':World):Prop:=w'.os = w.os ∧ w'.output = w.output
theorem Kp.trans {a b c:World} (h:Kp a b) (k:Kp b c):Kp a c:=⟨k.1.trans h.1,k.2.trans h.2⟩
structure Rel (aV:Nat → Prop) (w0:World) (aU:List Nat) (N:Fr) (Fz:Nat → Prop) (κ:Nat → Value) (σ:St) (a:Act) (w:World):Prop where
 tm:∀ p ∈ σ.tm,gW Fz κ w p.2 (a.tmps.getD p.1 undef)
 sz:a.tmps.size = N.n
 lJ:a.defers = N.ds
 fs:∀ d,N.ok d = false → a.tmps.getD d undef = N.vs d
 ob:∀ p ∈ σ.ob,gZ 0 Fz κ w p.1 p.2
 uh:∀ p ∈ σ.ob,∀ q ∈ σ.ob,∀ b,p.1 ≠ q.1 → blk (κ p.1) = some b → blk (κ q.1) ≠ some b
 pos:∀ p ∈ σ.ob,∀ b,blk (κ p.1) = some b → ¬ Fz b ∧ b < w.heap.size ∧ (b ∈ aU ∨ w0.heap.size ≤ b)
 fz:∀ b,Fz b → b < w.heap.size ∧ (aV b ∨ b ∈ aU ∨ w0.heap.size ≤ b)
 yU:∀ b,aV b → Fz b
 big:w0.heap.size ≤ w.heap.size
 ext:∀ b,b < w0.heap.size → b ∉ aU → w.heap[b]? = w0.heap[b]?
 kp:Kp w0 w
section
variable {aV Fz bg:Nat → Prop} {w0 w w':World} {aU:List Nat} {N:Fr} {κ eF:Nat → Value} {σ σ':St} {a:Act}
theorem Rel.less (h:Rel aV w0 aU N Fz κ σ a w) (ht:∀ p ∈ σ'.tm,p ∈ σ.tm) (ho:∀ p ∈ σ'.ob,p ∈ σ.ob):Rel aV w0 aU N Fz κ σ' a w where
 tm:=fun p hp=>h.tm p (ht p hp)
 sz:=h.sz
 lJ:=h.lJ
 fs:=h.fs
 ob:=fun p hp=>h.ob p (ho p hp)
 uh:=fun p hp q hq=>h.uh p (ho p hp) q (ho q hq)
 pos:=fun p hp=>h.pos p (ho p hp)
 fz:=h.fz
 yU:=h.yU
 big:=h.big
 ext:=h.ext
 kp:=h.kp
theorem Rel.res (h:Rel aV w0 aU N Fz κ σ a w) (ks os:List Nat):Rel aV w0 aU N Fz κ ⟨pick ks σ.tm,pick os σ.ob⟩ a w:=h.less (fun _ hp=>jS hp) (fun _ hp=>jS hp)
theorem Rel.put (h:Rel aV w0 aU N Fz κ σ a w) {d:Nat} (hd:N.ok d = true) {pv:PV} {v:Value} (hv:gW Fz κ w pv v):Rel aV w0 aU N Fz κ ⟨Ev.put σ.tm d pv,σ.ob⟩ (a.put (some d) v) w where
 tm:=fun p hp=>by
  rcases gT hp with rfl | ⟨hp,hne⟩
  ·simp only [Act.put,aiM,ai6]
   rw [ahX trivial,ahX (by rw [h.sz];exact N.lt d hd)]
   exact hv
  ·have:=h.tm p hp
   simp only [Act.put,aiM,ai6] at this ⊢
   rw [ahY (fun e=>hne e.symm)]
   exact this
 sz:=by simp [Act.put,h.sz]
 lJ:=h.lJ
 fs:=fun d' hd'=>by
  have:=h.fs d' hd'
  simp only [Act.put,aiM,ai6] at this ⊢
  rw [ahY (fun e=>by subst e;rw [hd] at hd';cases hd')]
  exact this
 ob:=h.ob
 uh:=h.uh
 pos:=h.pos
 fz:=h.fz
 yU:=h.yU
 big:=h.big
 ext:=h.ext
 kp:=h.kp
theorem Rel.Kt (h:Rel aV w0 aU N Fz κ σ a w) (v:Value):Rel aV w0 aU N Fz κ σ (a.put none v) w:=h
theorem Rel.val (h:Rel aV w0 aU N Fz κ σ a w) {i:Nat} {pv:PV} (hg:get σ.tm i = some pv):gW Fz κ w pv (a.tmps.getD i undef):=h.tm _ (get_mem hg)
theorem Rel.obj (h:Rel aV w0 aU N Fz κ σ a w) {k:Nat} {o:Ob} (hg:get σ.ob k = some o):gZ 0 Fz κ w k o:=h.ob _ (get_mem hg)
theorem Rel.grow (h:Rel aV w0 aU N Fz κ σ a w) (hs:w.heap.size ≤ w'.heap.size) (hb:∀ b,b < w.heap.size → w'.heap[b]? = w.heap[b]?) (hkp:Kp w w'):Rel aV w0 aU N Fz κ σ a w' where
 kp:=h.kp.trans hkp
 tm:=fun p hp=>gW.mono (fun _ h=>h) (fun b hb'=>hb b (h.fz b hb').1) (fun _ _=>rfl) (h.tm p hp)
 sz:=h.sz
 lJ:=h.lJ
 fs:=h.fs
 ob:=fun p hp=>gZ.mono (fun _ h=>h) (fun b hb'=>hb b (h.fz b hb').1) (fun _ _=>rfl) (fun b hb'=>hb b (h.pos p hp b hb').2.1) (h.ob p hp)
 uh:=h.uh
 pos:=fun p hp b hb'=>⟨(h.pos p hp b hb').1,aiz (h.pos p hp b hb').2.1 hs,(h.pos p hp b hb').2.2⟩
 fz:=fun b hb'=>⟨aiz (h.fz b hb').1 hs,(h.fz b hb').2⟩
 yU:=h.yU
 big:=aij h.big hs
 ext:=fun b h1 h2=>(hb b (aiz h1 h.big)).trans (h.ext b h1 h2)
def oI (κ:Nat → Value) (key:Nat) (v:Value):Nat → Value:=fun k=>if k = key then v else κ k
theorem bL (key:Nat) (v:Value):oI κ key v key = v:=by simp [oI]
theorem dY {key k:Nat} (h:k ≠ key) (v:Value):oI κ key v k = κ k:=by simp [oI,h]
theorem Rel.new (h:Rel aV w0 aU N Fz κ σ a w) {key:Nat} {o:Ob} {v:Value} (hn:new σ key o = some σ') (hs:w.heap.size ≤ w'.heap.size) (hb:∀ b,b < w.heap.size → w'.heap[b]? = w.heap[b]?)
  (hv:∀ b,blk v = some b → w.heap.size ≤ b ∧ b < w'.heap.size) (hkp:Kp w w') (ho:gZ 0 Fz (oI κ key v) w' key o):Rel aV w0 aU N Fz (oI κ key v) σ' a w':=by
 have hg:=h.grow hs hb hkp
 unfold Ev.new Xa at hn
 split at hn
 ·cases hn
 ·rename_i hm
  simp only [Option.map_some,aie] at hn
  subst hn
  have hm':∀ p ∈ rem σ.ob key,lT key p.2 = false:=by
   intro p hp
   cases he:lT key p.2 with
   | false=>rfl
   | true=>exact absurd (ai0.mpr ⟨p,hp,he⟩) hm
  refine ⟨fun p hp=>?_,h.sz,h.lJ,h.fs,fun p hp=>?_,fun p hp q hq b hne hb1 hb2=>?_,fun p hp b hb1=>?_,hg.fz,h.yU,hg.big,hg.ext,hg.kp⟩
  ·obtain ⟨h1,h2⟩:=ajs.mp hp
   refine gW.mono (fun _ h=>h) (fun b hb'=>rfl) (fun k hk=>dY ?_ v) (hg.tm p h1)
   rintro rfl
   rw [hk] at h2;cases h2
  ·rcases aif.mp hp with rfl | hp
   ·exact ho
   ·obtain ⟨h1,h2⟩:=eB.mp hp
    refine gZ.mono (fun _ h=>h) (fun b hb'=>rfl) (fun k hk=>dY ?_ v) (fun b hb'=>rfl) (hg.ob p h1)
    rintro rfl
    rcases hk with hk | hk
    ·exact h2 hk.symm
    ·rw [hm' p hp] at hk;cases hk
  ·rcases aif.mp hp with rfl | hp <;> rcases aif.mp hq with rfl | hq
   ·exact hne rfl
   ·obtain ⟨h1,h2⟩:=eB.mp hq
    rw [bL] at hb1
    rw [dY h2] at hb2
    have h3:=(h.pos q h1 b hb2).2.1
    have h4:=(hv b hb1).1
    omega
   ·obtain ⟨h1,h2⟩:=eB.mp hp
    simp only [bL] at hb2
    rw [dY h2] at hb1
    have h3:=(h.pos p h1 b hb1).2.1
    have h4:=(hv b hb2).1
    omega
   ·obtain ⟨h1,h2⟩:=eB.mp hp
    obtain ⟨h3,h4⟩:=eB.mp hq
    rw [dY h2] at hb1
    rw [dY h4] at hb2
    exact h.uh p h1 q h3 b hne hb1 hb2
  ·rcases aif.mp hp with rfl | hp
   ·simp only [bL] at hb1
    obtain ⟨h3,h4⟩:=hv b hb1
    refine ⟨fun hf=>?_,h4,.inr (aij h.big h3)⟩
    have:=(h.fz b hf).1
    omega
   ·obtain ⟨h1,h2⟩:=eB.mp hp
    rw [dY h2] at hb1
    exact hg.pos p h1 b hb1
theorem Rel.set (h:Rel aV w0 aU N Fz κ σ a w) {key:Nat} {o o':Ob} (hk:get σ.ob key = some o) (hs:w.heap.size ≤ w'.heap.size) (hb:∀ b,b < w.heap.size → blk (κ key) ≠ some b → w'.heap[b]? = w.heap[b]?)
  (hkp:Kp w w') (ho:gZ 0 Fz κ w' key o'):Rel aV w0 aU N Fz κ (iY σ key o') a w':=by
 have hkm:=get_mem hk
 have hfz:∀ b,Fz b → w'.heap[b]? = w.heap[b]?:=fun b hf=>hb b (h.fz b hf).1 (fun e=>(h.pos _ hkm b e).1 hf)
 refine ⟨fun p hp=>gW.mono (fun _ h=>h) hfz (fun _ _=>rfl) (h.tm p hp),h.sz,h.lJ,h.fs,fun p hp=>?_,fun p hp q hq b hne hb1 hb2=>?_,fun p hp b hb1=>?_,fun b hf=>⟨aiz (h.fz b hf).1 hs,(h.fz b hf).2⟩,h.yU,aij h.big hs,fun b h1 h2=>?_,h.kp.trans hkp⟩
 ·rcases gT hp with rfl | ⟨hp,hne⟩
  ·exact ho
  ·exact gZ.mono (fun _ h=>h) hfz (fun _ _=>rfl) (fun b hb1=>hb b (h.pos p hp b hb1).2.1 (fun e=>h.uh p hp _ hkm b hne hb1 e)) (h.ob p hp)
 ·have m:∀ p ∈ Ev.put σ.ob key o',∃ q ∈ σ.ob,q.1 = p.1:=by
   intro p hp
   rcases gT hp with rfl | ⟨hp,hne⟩
   ·exact ⟨_,hkm,rfl⟩
   ·exact ⟨p,hp,rfl⟩
  obtain ⟨p',hp',e1⟩:=m p hp
  obtain ⟨q',hq',e2⟩:=m q hq
  rw [← e1] at hb1 hne
  rw [← e2] at hb2 hne
  exact h.uh p' hp' q' hq' b hne hb1 hb2
 ·have m:∃ q ∈ σ.ob,q.1 = p.1:=by
   rcases gT hp with rfl | ⟨hp,hne⟩
   ·exact ⟨_,hkm,rfl⟩
   ·exact ⟨p,hp,rfl⟩
  obtain ⟨p',hp',e1⟩:=m
  rw [← e1] at hb1
  have:=h.pos p' hp' b hb1
  exact ⟨this.1,aiz this.2.1 hs,this.2.2⟩
 ·rw [hb b (aiz h1 h.big) (fun e=>?_)]
  ·exact h.ext b h1 h2
  ·rcases (h.pos _ hkm b e).2.2 with h3 | h3
   ·exact h2 h3
   ·omega
end
end
section
open Go
structure Hx where
 eqs:List TypeId
 co:List Nat
 cv:List Nat
 gv:List FuncId
def wQ : Value → Option PL
 | .int k n=>some (.f (.int k n))
 | .bool b=>some (.f (.bool b))
 | .string s=>some (.f (.str s))
 | .slice none 0 0=>some .bK
 | .pointer none=>some .iw
 | .map none=>some .eH
 | _=>none
def pQ : List Value → Option (List PL)
 | []=>some []
 | v :: vs=>(wQ v).bind fun x=>(pQ vs).map fun l=>x :: l
def EU : Value → Option CV
 | .agg cs=>(pQ cs.toList).map .agg
 | v=>(wQ v).map .one
def eY : Operand → Option dF
 | .tmp t=>some (.t t)
 | .const v=>(EU v).map .k
 | _=>none
def Bc : List Operand → Option (List dF)
 | []=>some []
 | x :: xs=>(eY x).bind fun y=>(Bc xs).map fun l=>y :: l
def wR : Option Operand → Option (Option dF)
 | none=>some none
 | some x=>(eY x).map some
def zF (P:Program) (e:TypeId):Option (List PL):=(P.info? e).bind fun i=>i.zero.bind fun z=>pQ z.cells.toList
def Bd : PL → Option FV
 | .f x=>some x
 | .bK=>some (.sl [])
 | _=>none
def pR : List PL → Option (List FV)
 | []=>some []
 | x :: xs=>(Bd x).bind fun y=>(pR xs).map fun l=>y :: l
def Ui (P:Program) (e:TypeId):Option FC:=(P.info? e).bind fun i=>i.zero.bind fun z=>match z with
 | .agg cs=>((pQ cs.toList).bind pR).map .agg
 | v=>((wQ v).bind Bd).map .one
def uj (P:Program) (t:TypeId):Option Bool:=match P.underlying t with
 | some (.struct _)=>some true
 | some (.array _ _)=>some true
 | some _=>some false
 | none=>none
def kC (P:Program) (t:TypeId):Option Nat:=(P.info? t).map (·.size)
def OL (P:Program) (t:TypeId):Option Nat:=(P.info? t).map (·.bytes)
def IV (P:Program) (t:TypeId) (f:Nat):Option Field:=match P.underlying t with
 | some (.struct fs)=>fs[f]?
 | _=>none
def parts (P:Program) (fs:Array Field):List (Nat × Operand) → Option (List (Nat × Nat × dF))
 | []=>some []
 | (i,x) :: ps=>fs[i]?.bind fun f=>(kC P f.type).bind fun n=>(eY x).bind fun y=>(parts P fs ps).map fun l=>(f.offset,n,y) :: l
def nL (sz:Nat):List (Nat × Operand) → Option (List (Nat × Nat × dF))
 | []=>some []
 | (i,x) :: ps=>(eY x).bind fun y=>(nL sz ps).map fun l=>(i * sz,sz,y) :: l
def C8 (P:Program) (t:TypeId):Option SK:=match P.underlying t with
 | some (.int k)=>some (.int k)
 | some .bool=>some .bool
 | some .string=>some .str
 | _=>none
def EW (P:Program):List Field → Option (List SK)
 | []=>some []
 | f :: fs=>(C8 P f.type).bind fun k=>(EW P fs).map fun l=>k :: l
def wS (P:Program) (t:TypeId):Option KS:=match P.underlying t with
 | some (.array n e)=>(C8 P e).map fun k=>.agg (List.replicate n k)
 | some (.struct fs)=>(EW P fs.toList).map .agg
 | _=>(C8 P t).map .one
def y9 (P:Program) (t:TypeId):Option (TypeId × TypeId):=match P.underlying t with
 | some (.map k e)=>some (k,e)
 | _=>none
def R7 (P:Program) (t:TypeId):Option TypeId:=match P.underlying t with
 | some (.slice e)=>some e
 | _=>none
def Uj : BinOp → Option WY
 | .eql=>some .eq
 | .neq=>some .ne
 | .lss=>some .lt
 | .leq=>some .le
 | .gtr=>some .gt
 | .geq=>some .ge
 | _=>none
def Xe : BinOp → Option Ar
 | .add=>some .add
 | .sub=>some .sub
 | .mul=>some .mul
 | .quo=>some .quo
 | .rem=>some .rem
 | _=>none
def Ku : dF → Bool
 | .k (.one .iw)=>true
 | _=>false
def Kv : dF → Bool
 | .k (.one .bK)=>true
 | _=>false
def OM (P:Program) (t:TypeId):Operand → Option Nat
 | .const (.int _ k)=>match P.underlying t with
  | some (.array n e)=>(kC P e).bind fun sz=>if 0 ≤ k ∧ k < n then some (k.toNat * sz) else none
  | _=>none
 | _=>none
def C9 (P:Program):List Field → Nat → Bool
 | [],_=>true
 | f :: fs,i=>(f.name != "_") && (f.offset == i) && (C8 P f.type).isSome && C9 P fs (i + 1)
def Yh (P:Program):List Field → Nat → Option (List SK)
 | [],_=>some []
 | f :: fs,i=>if ((f.name != "_") && (f.offset == i)) = true then (match C8 P f.type with
   | some k=>(Yh P fs (i + 1)).map fun l=>k :: l
   | none=>match P.underlying f.type with
    | some (.struct gs)=>if (!P.stoodInHeld f.type && C9 P gs.toList 0) = true then (EW P gs.toList).bind fun m=>if kC P f.type = some m.length then (Yh P fs (i + m.length)).map fun l=>m ++ l else none else none
    | _=>none) else none
def ksN (P:Program) (t:TypeId):Option (List SK):=match P.underlying t with
 | some (.struct fs)=>if (!P.eqGuardType P.depth t && !P.stoodInHeld t) = true then Yh P fs.toList 0 else none
 | _=>none
def jv (P:Program) (X:Hx) (o:Oper):Option I:=match o.op with
 | .move x=>(eY x).map .mv
 | .assign x=>(eY x).map .mv
 | .pick c a b=>(eY c).bind fun c=>(eY a).bind fun a=>(eY b).map fun b=>.pick c a b
 | .alloc e=>(zF P e).map fun z=>.alloc e z
 | .box e x=>(eY x).map fun x=>.box e x
 | .build t ps=>match P.underlying t with
  | some (.struct fs)=>if fs.toList.all (fun f=>(kC P f.type).isSome) then (zF P t).bind fun z=>(parts P fs ps.toList).map fun l=>.build z l else none
  | some (.array _ e)=>(kC P e).bind fun sz=>(zF P t).bind fun z=>(nL sz ps.toList).map fun l=>.build z l
  | _=>none
 | .buildSlice t len ps=>(R7 P t).bind fun e=>(kC P e).bind fun sz=>if sz = 0 ∨ len * sz > 16777216 then none else
   (zF P e).bind fun z=>if z.length = sz then (nL sz ps.toList).map fun l=>if X.cv.contains (o.dst.getD 0) then .Oo e sz len (List.replicate len z).flatten l else .wh e sz len (List.replicate len z).flatten l else none
 | .load t x=>(uj P t).bind fun g=>(kC P t).bind fun n=>(eY x).map fun x=>.load (if g then n else 1) g x
 | .store t x v=>(kC P t).bind fun n=>(eY x).bind fun x=>(eY v).map fun v=>.store n x v
 | .nilCheck x=>(eY x).map .gH
 | .binOp op t x y _=>(eY x).bind fun x=>(eY y).bind fun y=>match P.underlying t with
  | some .string=>if op = .add then some (.cat x y) else if op = .eql then some (.oG (.one .str) false x y) else if op = .neq then some (.oG (.one .str) true x y) else none
  | some (.int _)=>match Xe op with
   | some a=>some (.ar a x y)
   | none=>if op = .or ∨ op = .and ∨ op = .xor then some (.bit op x y) else if op = .shl then some (.Ub true x y) else if op = .shr then some (.Ub false x y) else (Uj op).map fun c=>.cmp c x y
  | some .bool=>if op = .eql then some (.oG (.one .bool) false x y) else if op = .neq then some (.oG (.one .bool) true x y) else none
  | some (.pointer _)=>if Ku y = true then (if op = .eql then some (.wF false x) else if op = .neq then some (.wF true x) else none) else none
  | some (.slice _)=>if Kv y = true then (if op = .eql then some (.yY false x) else if op = .neq then some (.yY true x) else none) else none
  | some (.struct _)=>if X.eqs.contains t then (wS P t).bind fun sh=>if op = .eql then some (.oG sh false x y) else if op = .neq then some (.oG sh true x y) else none else (ksN P t).bind fun l=>if op = .eql then some (.oG (.agg l) false x y) else if op = .neq then some (.oG (.agg l) true x y) else none
  | some (.array _ _)=>if X.eqs.contains t then (wS P t).bind fun sh=>if op = .eql then some (.oG sh false x y) else if op = .neq then some (.oG sh true x y) else none else none
  | _=>none
 | .unOp .not _ x=>(eY x).map .no
 | .convert src dst x=>match P.underlying src,P.underlying dst with
  | some (.int _),some (.int k)=>(eY x).map fun x=>.ci k x
  | some .string,some .string=>(eY x).map .mq
  | some (.slice e),some .string=>match P.underlying e,kC P e with
   | some (.int .u8),some 1=>(eY x).map .W9
   | _,_=>none
  | _,_=>none
 | .makeMap t none=>(y9 P t).bind fun m=>(wS P m.1).map .oJ
 | .slice t x lo hi none=>match P.underlying t with
  | some .string=>(eY x).bind fun x=>(wR lo).bind fun lo=>(wR hi).map fun hi=>.IG x lo hi
  | some (.slice e)=>(kC P e).bind fun sz=>(eY x).bind fun x=>(wR lo).bind fun lo=>(wR hi).bind fun hi=>if X.co.contains (o.dst.getD 0) then (match lo,hi with
    | none,some hi=>some (.CY sz x hi)
    | _,_=>none) else if X.cv.contains (o.dst.getD 0) then (match lo,hi with
    | some lo,none=>some (.cutV sz x lo)
    | _,_=>none) else some (.cut sz x lo hi)
  | _=>none
 | .fieldAddr t x f=>(IV P t f).bind fun f=>(kC P f.type).bind fun n=>if n = 0 then none else (eY x).map fun x=>.fa f.offset x
 | .field t x f=>(IV P t f).bind fun f=>(kC P f.type).bind fun n=>(uj P f.type).bind fun g=>(eY x).map fun x=>.WZ f.offset (if g then n else 1) g x
 | .indexAddr t x i=>match OM P t i with
  | some off=>(eY x).map fun x=>.fa off x
  | none=>(R7 P t).bind fun e=>(kC P e).bind fun sz=>(eY x).bind fun x=>(eY i).map fun i=>.ia sz x i
 | .index t x i=>match P.underlying t with
  | some .string=>(eY x).bind fun x=>(eY i).map fun i=>.chr x i
  | some (.array n e)=>(kC P e).bind fun sz=>(uj P e).bind fun g=>if g = false ∧ sz ≠ 1 then none else (eY x).bind fun x=>(eY i).map fun i=>.idx (if g then sz else 1) n g x i
  | _=>none
 | .lookup t x k ok=>(y9 P t).bind fun m=>if X.eqs.contains m.1 then (wS P m.1).bind fun sh=>(Ui P m.2).bind fun z=>(eY x).bind fun x=>(eY k).map fun k=>.look sh z ok x k else none
 | .mapUpdate t m k x=>(y9 P t).bind fun mm=>if X.eqs.contains mm.1 then (wS P mm.1).bind fun sh=>(eY m).bind fun m=>(eY k).bind fun k=>(eY x).map fun x=>.wG sh m k x else none
 | .insert t m k x=>(y9 P t).bind fun mm=>if X.eqs.contains mm.1 then (wS P mm.1).bind fun sh=>(eY m).bind fun m=>(eY k).bind fun k=>(eY x).map fun x=>.wG sh m k x else none
 | .extract x i=>(eY x).map fun x=>.ext x i
 | .makeFunc (.func f) first caps=>if first.size = 0 then (Bc caps.toList).map fun l=>.OA f l else none
 | .call c=>match c.callee with
  | .value (.func f)=>if (P.funcs[f]?).any (fun fn=>fn.name != "runtime.NumGoroutine" && fn.body.isSome) then (Bc c.args.toList).map fun l=>.call false f l else none
  | .builtin .len=>match c.args.toList,c.argTypes.toList with
   | [x],[t]=>match P.underlying t with
    | some .string=>(eY x).map .wH
    | some (.slice _)=>(eY x).map .fV
    | some (.map _ _)=>(eY x).map .II
    | _=>none
   | _,_=>none
  | .builtin .append=>match c.args.toList,c.argTypes.toList with
   | [x,y],[t,u]=>if t = u then (R7 P t).bind fun e=>(kC P e).bind fun sz=>(OL P e).bind fun ER=>(zF P e).bind fun z=>if z.length = sz ∧ 0 < sz ∧ 0 < ER then (eY x).bind fun x=>(eY y).map fun y=>.app e sz ER x y else none else none
   | _,_=>none
  | .builtin .min=>match c.args.toList with
   | [x,y]=>(eY x).bind fun x=>(eY y).map fun y=>.mn x y
   | _=>none
  | .builtin .max=>match c.args.toList with
   | [x,y]=>(eY x).bind fun x=>(eY y).map fun y=>.mx x y
   | _=>none
  | .builtin .delete=>match c.args.toList,c.argTypes.toList with
   | [x,y],[t,k]=>(y9 P t).bind fun m=>if X.eqs.contains m.1 ∧ k = m.1 then (wS P m.1).bind fun sh=>(eY x).bind fun x=>(eY y).map fun y=>.del sh x y else none
   | _,_=>none
  | .builtin .clear=>match c.args.toList,c.argTypes.toList with
   | [x],[t]=>(R7 P t).bind fun e=>(kC P e).bind fun sz=>(zF P e).bind fun z=>(pR z).bind fun z=>if z.length = sz then (eY x).map fun x=>.R4 sz z x else none
   | _,_=>none
  | _=>none
 | _=>none
def Kw : I → Bool
 | .call _ _ _=>true
 | .yX _ _=>true
 | .dyn _ _=>true
 | _=>false
def rU (P:Program) (X:Hx) (o:Oper):Option I:=match o.op with
 | .call c=>match c.callee with
  | .value (.func f)=>match P.funcs[f]? with
   | some fn=>if (fn.name == "runtime.NumGoroutine") = false ∧ fn.body.isSome = true then (Bc c.args.toList).map fun l=>if X.co.contains (o.dst.getD 999) then .yX f l else .call (X.gv.contains f) f l else none
   | none=>none
  | .value (.tmp t)=>(Bc c.args.toList).map fun l=>.dyn (.t t) l
  | _=>none
 | _=>none
def rV (P:Program) (X:Hx) (o:Oper):Option I:=match rU P X o with
 | some i=>some i
 | none=>match jv P X o with
  | some i=>if Kw i then none else some i
  | none=>none
def rW (P:Program) (X:Hx) (ops:Array Oper) (nt:Nat → Bool) (o:Oper):Option G :=
 (rV P X o).bind fun i=>if o.dst.all nt then some ⟨o.dst,o.guard.map fun p=>((ops[p.1]?).bind (·.dst),p.2),i⟩ else none
def jG (P:Program) (X:Hx) (ops:Array Oper) (nt:Nat → Bool):List Oper → Option (List G)
 | []=>some []
 | o :: l=>(rW P X ops nt o).bind fun g=>(jG P X ops nt l).map fun r=>g :: r
end
section
open Go
structure kL (P:Program) (t:TypeId):Prop where
 key:∀ sh,wS P t = some sh → Mq.Key P t KV kQ (fun a=>a.ks = sh)
 eq:∀ sh,wS P t = some sh → ∀ (a b:KV) (w:World),a.ks = sh → b.ks = sh → (Op.equal t (kQ a) (kQ b)).run P w = .ok (decide (a = b)) w
 guard:∀ op x y,∀ (a b:Value) (w:World),(eqGuard op t x y a b).run P w = .ok () w
structure Good (aV:Nat → Prop) (w0:World) (aU:List Nat) (N:Fr) (q:Bool) (d:Nat) (Fz:Nat → Prop) (κ:Nat → Value) (σ:St) (a:Act) (w:World) (bg:Nat → Prop) (eF:Nat → Value) (σ':St) (w':World) (pv:PV) (v:Value):Prop where
 rel:Rel aV w0 aU N bg eF σ' a w'
 val:gW bg eF w' pv v
 f1:∀ b,Fz b → bg b
 e6:∀ k,k % 2 = 1 → eF k = κ k
section
variable {P : Program} {Γ:Env} {aV Fz:Nat → Prop} {w0 w:World} {aU:List Nat} {N:Fr} {d:Nat} {q:Bool} {κ:Nat → Value} {σ σ':St} {a:Act} {pv:PV}
theorem Good.pure (h:Rel aV w0 aU N Fz κ σ a w) {v:Value} (hv:gW Fz κ w pv v):Good aV w0 aU N q d Fz κ σ a w Fz κ σ w pv v where
 rel:=h
 val:=hv
 f1:=fun _ h=>h
 e6:=fun _ _=>rfl
theorem um {v:Value} {x:PL} (h:wQ v = some x):dW Fz κ w x v:=by
 unfold wQ at h
 split at h <;> cases h <;> simp [dW,eO]
theorem lW : ∀ {vs:List Value} {xs:List PL},pQ vs = some xs → aM Fz κ w xs vs
 | [],xs,h=>by cases h;trivial
 | v :: vs,xs,h=>by
  unfold pQ at h
  obtain ⟨x,h1,h2⟩:=zbm h
  obtain ⟨l,h3,h4⟩:=zmm h2
  subst h4
  exact ⟨um h1,lW h3⟩
theorem zG {v:Value} {x:CV} (h:EU v = some x):fJ Fz κ w x v:=by
 unfold EU at h
 split at h
 ·rename_i cs
  obtain ⟨l,h1,rfl⟩:=zmm h
  exact ⟨cs,rfl,lW h1⟩
 ·obtain ⟨l,h1,rfl⟩:=zmm h
  exact um h1
theorem Rel.eval (h:Rel aV w0 aU N Fz κ σ a w) {x:Operand} {y:dF} {v:CV} (ho:eY x = some y) (hv:Ev.val σ y = some v):fJ Fz κ w v (a.eval x):=by
 cases x with
 | tmp t =>
  cases ho
  simp only [Ev.val] at hv
  cases hg:get σ.tm t with
  | none=>rw [hg] at hv;cases hv
  | some p =>
   rw [hg] at hv
   cases p with
   | c c=>cases hv;exact h.val hg
   | tZ _=>cases hv
 | const c =>
  obtain ⟨l,h1,rfl⟩:=zmm ho
  cases hv
  exact zG h1
 | global g=>cases ho
 | func f=>cases ho
theorem Rel.Gw (h:Rel aV w0 aU N Fz κ σ a w) {x:Operand} {y:dF} {v:PV} (ho:eY x = some y) (hv:rF σ y = some v):gW Fz κ w v (a.eval x):=by
 cases x with
 | tmp t=>cases ho;exact h.val hv
 | const c =>
  obtain ⟨l,h1,rfl⟩:=zmm ho
  cases hv
  exact zG h1
 | global g=>cases ho
 | func f=>cases ho
theorem gM {v:CV} {p:IntKind × Int} {u:Value} (hi:int? v = some p) (h:fJ Fz κ w v u):u = .int p.1 p.2:=by
 unfold int? at hi
 split at hi
 ·cases hi;exact h
 ·cases hi
theorem Bf {v:CV} {b:Bool} {u:Value} (hi:bool? v = some b) (h:fJ Fz κ w v u):u = .bool b:=by
 unfold bool? at hi
 split at hi
 ·cases hi;exact h
 ·cases hi
theorem Gx {x:FV} {s:SV} {u:Value} (hi:uf x = some s) (h:eO Fz w x u):u = encS s:=by
 cases x <;> cases hi <;> exact h
theorem Da : ∀ {xs:List FV} {l:List SV} {us:List Value},ru xs = some l → bX Fz w xs us → us = l.map encS
 | [],l,us,hi,h=>by cases hi;cases us with | nil=>rfl | cons _ _=>exact h.elim
 | x :: xs,l,us,hi,h=>by
  unfold ru at hi
  obtain ⟨s,h1,h2⟩:=zbm hi
  obtain ⟨m,h3,rfl⟩:=zmm h2
  cases us with
  | nil=>exact h.elim
  | cons u us=>rw [Gx h1 h.1,Da h3 h.2];rfl
theorem zH : ∀ {xs:List PL} {l:List FV} {us:List Value},nJ xs = some l → aM Fz κ w xs us → bX Fz w l us
 | [],l,us,hi,h=>by cases hi;cases us with | nil=>trivial | cons _ _=>exact h.elim
 | x :: xs,l,us,hi,h=>by
  unfold nJ at hi
  obtain ⟨s,h1,h2⟩:=zbm hi
  obtain ⟨m,h3,rfl⟩:=zmm h2
  cases us with
  | nil=>exact h.elim
  | cons u us =>
   cases x <;> cases h1
   exact ⟨h.1,zH h3 h.2⟩
theorem wT {v:CV} {k:KV} {u:Value} (hi:keyOf v = some k) (h:fJ Fz κ w v u):u = kQ k:=by
 cases v with
 | one x =>
  obtain ⟨y,h1,h2⟩:=zbm hi
  obtain ⟨s,h3,rfl⟩:=zmm h2
  cases x <;> cases h1
  exact Gx h3 h
 | agg xs =>
  obtain ⟨y,h1,h2⟩:=zbm hi
  obtain ⟨s,h3,rfl⟩:=zmm h2
  obtain ⟨cs,rfl,h4⟩:=h
  have:=Da h3 (zH h1 h4)
  show Value.agg cs = .agg (List.map encS s).toArray
  rw [← this]
theorem aM.length : ∀ {xs:List PL} {us:List Value},aM Fz κ w xs us → us.length = xs.length
 | [],[],_=>rfl
 | x :: xs,u :: us,h=>by rw [List.length_cons,List.length_cons,aM.length h.2]
 | [],_ :: _,h=>h.elim
 | _ :: _,[],h=>h.elim
theorem bX.length : ∀ {xs:List FV} {us:List Value},bX Fz w xs us → us.length = xs.length
 | [],[],_=>rfl
 | x :: xs,u :: us,h=>by rw [List.length_cons,List.length_cons,bX.length h.2]
 | [],_ :: _,h=>h.elim
 | _ :: _,[],h=>h.elim
def Yi : Value → Prop
 | .agg _=>False
 | .tuple _=>False
 | _=>True
theorem eO.leaf {x:FV} {u:Value} (h:eO Fz w x u):Yi u:=by
 cases x with
 | int k n=>cases h;trivial
 | bool b=>cases h;trivial
 | str s=>cases h;trivial
 | sl rows=>simp only [eO] at h;obtain ⟨A,c,rfl,_⟩:=h;trivial
end
end
section
open Go
def Does (P:Program) (aV:Nat → Prop) (w0:World) (aU:List Nat) (N:Fr) (q:Bool) (d:Nat) (Fz:Nat → Prop) (κ:Nat → Value) (σ:St) (a:Act) (w:World) (s:Sem Next) (σ':St) (pv:PV):Prop :=
 ∃ r w' eF bg v,s.run P w = .ok r w' ∧ (r = .value v ∨ (r = .skip ∧ v = undef)) ∧ Good aV w0 aU N q d Fz κ σ a w bg eF σ' w' pv v
section
variable {P : Program} {Γ:Env} {aV Fz:Nat → Prop} {w0 w:World} {aU:List Nat} {N:Fr} {d:Nat} {q:Bool} {κ:Nat → Value} {σ σ':St} {a:Act} {pv:PV} {o:Oper}
theorem Does.pure (h:Rel aV w0 aU N Fz κ σ a w) {m:Sem Value} {v:Value} (hr:m.run P w = .ok v w) (hv:gW Fz κ w pv v):Does P aV w0 aU N q d Fz κ σ a w (do let x ← m;Pure.pure (.value x)) σ pv :=
 ⟨.value v,w,κ,Fz,v,by simp only [Sem.run_bind,hr,Result.andThen_ok,Sem.run_pure],.inl rfl,Good.pure h hv⟩
theorem iC {k:IntKind} {n:Int}:(asIntOf (.int k n)).run P w = .ok (k,n) w:=rfl
theorem EX {b:Bool}:(asBool (.bool b)).run P w = .ok b w:=rfl
theorem Yj (h:Rel aV w0 aU N Fz κ σ a w) {x:Operand} {y:dF} (hx:eY x = some y) (hE:bW Γ q σ d (.mv y) = some (pv,σ')):Does P aV w0 aU N q d Fz κ σ a w (Pure.pure (.value (a.eval x))) σ' pv:=by
 obtain ⟨v,h1,h2⟩:=zmm hE
 cases h2
 exact ⟨_,_,κ,Fz,a.eval x,rfl,.inl rfl,Good.pure h (h.Gw hx h1)⟩
theorem Uk (h:Rel aV w0 aU N Fz κ σ a w) {c x y:Operand} {c' x' y':dF} (hc:eY c = some c') (hx:eY x = some x') (hy:eY y = some y') (hE:bW Γ q σ d (.pick c' x' y') = some (pv,σ')) :
  Does P aV w0 aU N q d Fz κ σ a w (do Pure.pure (.value (if ← asBool (a.eval c) then a.eval x else a.eval y))) σ' pv:=by
 obtain ⟨v,h1,h2⟩:=zbm hE
 obtain ⟨t,h3,h4⟩:=zbm h2
 obtain ⟨u,h5,h6⟩:=zmm h4
 cases h6
 have hb:=Bf h3 (h.eval hc h1)
 refine ⟨_,w,κ,Fz,if t then a.eval x else a.eval y,by simp only [hb,Sem.run_bind,EX,Result.andThen_ok,Sem.run_pure],.inl rfl,Good.pure h ?_⟩
 cases t
 ·exact h.eval hy h5
 ·exact h.eval hx h5
theorem adM (h:Rel aV w0 aU N Fz κ σ a w) {x:Operand} {y:dF} (hx:eY x = some y) (hE:bW Γ q σ d (.no y) = some (pv,σ')):Does P aV w0 aU N q d Fz κ σ a w (do let v ← Op.unary .not (a.eval x);Pure.pure (.value v)) σ' pv:=by
 obtain ⟨v,h1,h2⟩:=zbm hE
 obtain ⟨t,h3,h4⟩:=zbm h2
 cases h4
 have hb:=Bf h3 (h.eval hx h1)
 refine Does.pure h (v:=.bool (!t)) ?_ rfl
 rw [hb];rfl
theorem adN (h:Rel aV w0 aU N Fz κ σ a w) {src dst:TypeId} {x:Operand} {y:dF} {k k':IntKind} (hs:P.underlying src = some (.int k')) (hd:P.underlying dst = some (.int k)) (hx:eY x = some y) (hE:bW Γ q σ d (.ci k y) = some (pv,σ')) :
  Does P aV w0 aU N q d Fz κ σ a w (do let v ← convert src dst (a.eval x);Pure.pure (.value v)) σ' pv:=by
 obtain ⟨v,h1,h2⟩:=zbm hE
 obtain ⟨t,h3,h4⟩:=zbm h2
 cases h4
 have hb:=gM h3 (h.eval hx h1)
 refine Does.pure h (v:=.int k (k.wrap t.2)) ?_ rfl
 rw [hb]
 unfold convert
 simp only [Sem.run_bind,run_underlying hs,run_underlying hd,Result.andThen_ok]
 rfl
theorem Yk (h:Rel aV w0 aU N Fz κ σ a w) {src dst:TypeId} {x:Operand} {y:dF} (hs:P.underlying src = some .string) (hd:P.underlying dst = some .string) (hx:eY x = some y) (hE:bW Γ q σ d (.mq y) = some (pv,σ')) :
  Does P aV w0 aU N q d Fz κ σ a w (do let v ← convert src dst (a.eval x);Pure.pure (.value v)) σ' pv:=by
 obtain ⟨v,h1,h2⟩:=zbm hE
 split at h2
 ·rename_i s
  cases h2
  have hb:=h.eval hx h1
  refine Does.pure h (v:=.string s) ?_ rfl
  rw [show a.eval x = .string s from hb]
  unfold convert
  simp only [Sem.run_bind,run_underlying hs,run_underlying hd,Result.andThen_ok]
  rfl
 ·cases h2
theorem zI {k:IntKind} {m n r:Int} {op:BinOp} {t:TypeId} {o:Ar} (ho:Xe op = some o) (hr:J6 o k m n = some r):(binOp op t (.int k m) (.int k n)).run P w = .ok (.int k r) w:=by
 cases op <;> cases ho
 ·cases hr;simp [binOp,Op.intArith]
 ·cases hr;simp [binOp,Op.intArith]
 ·cases hr;simp [binOp,Op.intArith]
 ·simp only [J6] at hr
  split at hr
  ·cases hr
  ·rename_i hn
   cases hr
   simp [binOp,Op.intDiv,hn]
 ·simp only [J6] at hr
  split at hr
  ·cases hr
  ·rename_i hn
   cases hr
   simp [binOp,Op.intDiv,hn]
theorem OO {k:IntKind} {m n:Int} {op:BinOp} {t:TypeId} {o:WY} (ho:Uj op = some o):(binOp op t (.int k m) (.int k n)).run P w = .ok (.bool (wL o m n)) w:=by
 cases op <;> cases ho <;> simp [binOp,Op.intCmp,wL] <;> rfl
theorem mW {op:BinOp} {t:TypeId} {x y:Operand} {k k':IntKind} {m n:Int}:(eqGuard op t x y (.int k m) (.int k' n)).run P w = .ok () w:=by
 unfold eqGuard
 cases op <;> rfl
theorem iU {op:BinOp} {t:TypeId} {x y:Operand} {u v r:Value} (hg:(eqGuard op t x y u v).run P w = .ok () w) (hb:(binOp op t u v).run P w = .ok r w):(do eqGuard op t x y u v;binOp op t u v:Sem Value).run P w = .ok r w:=by
 simp only [Sem.run_bind,hg,Result.andThen_ok,hb]
theorem adP (h:Rel aV w0 aU N Fz κ σ a w) {op:BinOp} {c:Ar} {t:TypeId} {x y:Operand} {x' y':dF} (ho:Xe op = some c) (hx:eY x = some x') (hy:eY y = some y') (hE:bW Γ q σ d (.ar c x' y') = some (pv,σ')) :
  Does P aV w0 aU N q d Fz κ σ a w (do let v ← (do eqGuard op t x y (a.eval x) (a.eval y);binOp op t (a.eval x) (a.eval y):Sem Value);Pure.pure (.value v)) σ' pv:=by
 obtain ⟨u,h1,h2⟩:=zbm hE
 obtain ⟨v,h3,h4⟩:=zbm h2
 obtain ⟨m,h5,h6⟩:=zbm h4
 obtain ⟨n,h7,h8⟩:=zbm h6
 split at h8
 ·rename_i hk
  obtain ⟨r,h9,h10⟩:=zbm h8
  cases h10
  have e1:=gM h5 (h.eval hx h1)
  have e2:=gM h7 (h.eval hy h3)
  obtain ⟨k,m⟩:=m
  obtain ⟨k',n⟩:=n
  simp only at hk e1 e2 h9
  subst hk
  refine Does.pure h (v:=.int k r) ?_ rfl
  rw [e1,e2]
  exact iU mW (zI ho h9)
 ·cases h8
theorem Yl (h:Rel aV w0 aU N Fz κ σ a w) {op:BinOp} {c:WY} {t:TypeId} {x y:Operand} {x' y':dF} (ho:Uj op = some c) (hx:eY x = some x') (hy:eY y = some y') (hE:bW Γ q σ d (.cmp c x' y') = some (pv,σ')) :
  Does P aV w0 aU N q d Fz κ σ a w (do let v ← (do eqGuard op t x y (a.eval x) (a.eval y);binOp op t (a.eval x) (a.eval y):Sem Value);Pure.pure (.value v)) σ' pv:=by
 obtain ⟨u,h1,h2⟩:=zbm hE
 obtain ⟨v,h3,h4⟩:=zbm h2
 obtain ⟨m,h5,h6⟩:=zbm h4
 obtain ⟨n,h7,h8⟩:=zbm h6
 split at h8
 ·rename_i hk
  cases h8
  have e1:=gM h5 (h.eval hx h1)
  have e2:=gM h7 (h.eval hy h3)
  obtain ⟨k,m⟩:=m
  obtain ⟨k',n⟩:=n
  simp only at hk e1 e2
  subst hk
  refine Does.pure h (v:=.bool (wL c m n)) ?_ rfl
  rw [e1,e2]
  exact iU mW (OO ho)
 ·cases h8
theorem Db (a b:ByteArray):(a.toList == b.toList) = decide (a = b):=by
 by_cases h:a = b
 ·subst h
  rw [ah0 rfl];exact beq_self_eq_true _
 ·rw [ah2 h]
  refine aji.mpr fun e=>h ?_
  rw [Lib.toList_data,Lib.toList_data] at e
  exact ajc (Array.toList_inj.mp e)
theorem Bg {a:KV} (h:a.ks = .one .str):∃ s,a = .one (.str s):=by
 cases a with
 | one x=>cases x <;> simp [KV.ks,SV.sk] at h;exact ⟨_,rfl⟩
 | agg xs=>simp [KV.ks] at h
theorem wm {a:KV} (h:a.ks = .one .bool):∃ s,a = .one (.bool s):=by
 cases a with
 | one x=>cases x <;> simp [KV.ks,SV.sk] at h;exact ⟨_,rfl⟩
 | agg xs=>simp [KV.ks] at h
def rX (P:Program) (t:TypeId) (x y:Operand) (sh:KS) (op:BinOp) (neg:Bool):Prop:=∀ (a b:KV) (w:World),a.ks = sh → b.ks = sh →
 (do eqGuard op t x y (kQ a) (kQ b);binOp op t (kQ a) (kQ b):Sem Value).run P w = .ok (.bool (if neg then !decide (a = b) else decide (a = b))) w
theorem zJ {t:TypeId} {x y:Operand}:rX P t x y (.one .str) .eql false ∧ rX P t x y (.one .str) .neq true:=by
 constructor
 ·intro a b w ha hb
  obtain ⟨s,rfl⟩:=Bg ha
  obtain ⟨s',rfl⟩:=Bg hb
  refine iU rfl ?_
  simp only [kQ,encS,binOp,Op.stringOp,Sem.run_pure,Db]
  simp
 ·intro a b w ha hb
  obtain ⟨s,rfl⟩:=Bg ha
  obtain ⟨s',rfl⟩:=Bg hb
  refine iU rfl ?_
  simp only [kQ,encS,binOp,Op.stringOp,Sem.run_pure,Db]
  simp
theorem Dc {t:TypeId} {x y:Operand} {sh:KS} (hk:kL P t) (hs:wS P t = some sh) (hag:∀ a:KV,a.ks = sh → ∃ cs,kQ a = .agg cs):rX P t x y sh .eql false ∧ rX P t x y sh .neq true:=by
 constructor
 ·intro a b w ha hb
  refine iU (hk.guard _ _ _ _ _ _) ?_
  have:=hk.eq sh hs a b w ha hb
  obtain ⟨c1,e1⟩:=hag a ha
  obtain ⟨c2,e2⟩:=hag b hb
  rw [e1,e2] at this ⊢
  simp only [binOp,Sem.run_bind,this,Result.andThen_ok,Sem.run_pure]
  simp
 ·intro a b w ha hb
  refine iU (hk.guard _ _ _ _ _ _) ?_
  have:=hk.eq sh hs a b w ha hb
  obtain ⟨c1,e1⟩:=hag a ha
  obtain ⟨c2,e2⟩:=hag b hb
  rw [e1,e2] at this ⊢
  simp only [binOp,Sem.run_bind,this,Result.andThen_ok,Sem.run_pure]
  simp
theorem wU {t:TypeId} {x y:Operand} (hu:P.underlying t = some .bool):rX P t x y (.one .bool) .eql false ∧ rX P t x y (.one .bool) .neq true:=by
 have key:∀ (s s':Bool) (w:World),(Op.equal t (.bool s) (.bool s')).run P w = .ok (decide (s = s')) w:=by
  intro s s' w
  unfold Op.equal Op.maxDepth Op.equalIn
  simp only [Sem.run_bind,run_underlying hu,Result.andThen_ok]
  cases s <;> cases s' <;> rfl
 constructor
 ·intro a b w ha hb
  obtain ⟨s,rfl⟩:=wm ha
  obtain ⟨s',rfl⟩:=wm hb
  refine iU rfl ?_
  simp only [kQ,encS,binOp,Sem.run_bind,key,Result.andThen_ok,Sem.run_pure]
  simp
 ·intro a b w ha hb
  obtain ⟨s,rfl⟩:=wm ha
  obtain ⟨s',rfl⟩:=wm hb
  refine iU rfl ?_
  simp only [kQ,encS,binOp,Sem.run_bind,key,Result.andThen_ok,Sem.run_pure]
  simp
theorem qH (h:Rel aV w0 aU N Fz κ σ a w) {op:BinOp} {t:TypeId} {sh:KS} {neg:Bool} {x y:Operand} {x' y':dF} (hr:rX P t x y sh op neg) (hx:eY x = some x') (hy:eY y = some y') (hE:bW Γ q σ d (.oG sh neg x' y') = some (pv,σ')) :
  Does P aV w0 aU N q d Fz κ σ a w (do let v ← (do eqGuard op t x y (a.eval x) (a.eval y);binOp op t (a.eval x) (a.eval y):Sem Value);Pure.pure (.value v)) σ' pv:=by
 obtain ⟨u,h1,h2⟩:=zbm hE
 obtain ⟨v,h3,h4⟩:=zbm h2
 obtain ⟨m,h5,h6⟩:=zbm h4
 obtain ⟨n,h7,h8⟩:=zbm h6
 split at h8
 ·rename_i hk
  cases h8
  have e1:=wT h5 (h.eval hx h1)
  have e2:=wT h7 (h.eval hy h3)
  refine Does.pure h (v:=.bool (if neg then !decide (m = n) else decide (m = n))) ?_ rfl
  rw [e1,e2]
  exact hr m n w hk.1 hk.2
 ·cases h8
theorem Ym (h:Rel aV w0 aU N Fz κ σ a w) {t:TypeId} {x y:Operand} {x' y':dF} (hx:eY x = some x') (hy:eY y = some y') (hE:bW Γ q σ d (.cat x' y') = some (pv,σ')) :
  Does P aV w0 aU N q d Fz κ σ a w (do let v ← (do eqGuard .add t x y (a.eval x) (a.eval y);binOp .add t (a.eval x) (a.eval y):Sem Value);Pure.pure (.value v)) σ' pv:=by
 obtain ⟨u,h1,h2⟩:=zbm hE
 obtain ⟨v,h3,h4⟩:=zbm h2
 split at h4
 ·rename_i s s'
  split at h4
  ·rename_i hz
   cases h4
   have e1:a.eval x = .string s:=h.eval hx h1
   have e2:a.eval y = .string s':=h.eval hy h3
   refine Does.pure h (v:=.string (s ++ s')) ?_ rfl
   rw [e1,e2]
   refine iU rfl ?_
   simp only [binOp,Op.stringOp]
   go_simp
   omega
  ·cases h4
 ·cases h4
theorem adQ (h:Rel aV w0 aU N Fz κ σ a w) {ts:Array TypeId} {u:TypeId} {x y:Operand} {x' y':dF} (hx:eY x = some x') (hy:eY y = some y') (hE:bW Γ q σ d (.mn x' y') = some (pv,σ')) :
  Does P aV w0 aU N q d Fz κ σ a w (do let v ← Builtin.min_ ts u #[a.eval x,a.eval y];Pure.pure (.value v)) σ' pv:=by
 obtain ⟨u,h1,h2⟩:=zbm hE
 obtain ⟨v,h3,h4⟩:=zbm h2
 obtain ⟨m,h5,h6⟩:=zbm h4
 obtain ⟨n,h7,h8⟩:=zbm h6
 split at h8
 ·rename_i hk
  cases h8
  have e1:=gM h5 (h.eval hx h1)
  have e2:=gM h7 (h.eval hy h3)
  refine Does.pure h (v:=.int m.1 (if n.2 < m.2 then n.2 else m.2)) ?_ rfl
  rw [e1,e2]
  rfl
 ·cases h8
theorem adR (h:Rel aV w0 aU N Fz κ σ a w) {ts:Array TypeId} {u:TypeId} {x y:Operand} {x' y':dF} (hx:eY x = some x') (hy:eY y = some y') (hE:bW Γ q σ d (.mx x' y') = some (pv,σ')) :
  Does P aV w0 aU N q d Fz κ σ a w (do let v ← Builtin.max_ ts u #[a.eval x,a.eval y];Pure.pure (.value v)) σ' pv:=by
 obtain ⟨u,h1,h2⟩:=zbm hE
 obtain ⟨v,h3,h4⟩:=zbm h2
 obtain ⟨m,h5,h6⟩:=zbm h4
 obtain ⟨n,h7,h8⟩:=zbm h6
 split at h8
 ·rename_i hk
  cases h8
  have e1:=gM h5 (h.eval hx h1)
  have e2:=gM h7 (h.eval hy h3)
  refine Does.pure h (v:=.int m.1 (if m.2 < n.2 then n.2 else m.2)) ?_ rfl
  rw [e1,e2]
  rfl
 ·cases h8
theorem Yn (h:Rel aV w0 aU N Fz κ σ a w) {x:Operand} {x':dF} {i:Nat} (hx:eY x = some x') (hE:bW Γ q σ d (.ext x' i) = some (pv,σ')) :
  Does P aV w0 aU N q d Fz κ σ a w (do let v ← Instr.extract (a.eval x) i;Pure.pure (.value v)) σ' pv:=by
 simp only [bW] at hE
 split at hE
 ·rename_i l hl
  obtain ⟨v,h1,h2⟩:=zmm hE
  cases h2
  obtain ⟨vs,e1,e2⟩:=h.Gw hx hl
  have key:∀ (l:List CV) (us:List Value) (i:Nat) (v:CV),dH Fz κ w l us → l[i]? = some v → ∃ u,us[i]? = some u ∧ fJ Fz κ w v u:=by
   intro l
   induction l with
   | nil=>intro us i v _ h;simp at h
   | cons x l ih =>
    intro us i v h h2
    cases us with
    | nil=>exact h.elim
    | cons u us =>
     cases i with
     | zero=>simp at h2;subst h2;exact ⟨u,rfl,h.1⟩
     | succ i=>simp at h2;exact ih us i v h.2 h2
  obtain ⟨u,h3,h4⟩:=key _ _ _ _ e2 h1
  refine Does.pure h (v:=u) ?_ h4
  rw [e1]
  rw [ai7] at h3
  simp [Instr.extract,h3]
 ·cases hE
theorem Yo (h:Rel aV w0 aU N Fz κ σ a w) {t:TypeId} (ht:P.underlying t = some .string) {x y:Operand} {x' y':dF} (hx:eY x = some x') (hy:eY y = some y') (hE:bW Γ q σ d (.chr x' y') = some (pv,σ')) :
  Does P aV w0 aU N q d Fz κ σ a w (do let v ← Instr.index t (a.eval x) (a.eval y);Pure.pure (.value v)) σ' pv:=by
 obtain ⟨u,h1,h2⟩:=zbm hE
 obtain ⟨v,h3,h4⟩:=zbm h2
 obtain ⟨m,h5,h6⟩:=zbm h4
 have e2:=gM h5 (h.eval hy h3)
 split at h6
 ·rename_i s
  split at h6
  ·rename_i h0
   obtain ⟨b,h7,h8⟩:=zbm h6
   cases h8
   have e1:a.eval x = .string s:=h.eval hx h1
   refine Does.pure h (v:=.int .u8 b.toNat) ?_ rfl
   rw [e1,e2]
   have h9:s[m.2.toNat]? = some b:=by
    obtain ⟨h10,h11⟩:=ai5.mp h7
    have h12:m.2.toNat < s.size:=h10
    rw [getElem?_pos s m.2.toNat h12]
    exact aio some h11
   unfold Instr.index
   simp only [Sem.run_bind,iC,run_underlying ht,Result.andThen_ok,ahX h0,h9,Sem.run_pure]
  ·cases h6
 ·cases h6
end
end
section
open Go
section
variable {P : Program} {Γ:Env} {aV Fz:Nat → Prop} {w0 w w':World} {aU:List Nat} {N:Fr} {d:Nat} {q:Bool} {κ:Nat → Value} {σ σ':St} {a:Act} {pv:PV} {o:Oper}
theorem lX (b off i:Nat):(⟨b,off,none⟩:Addr).add i = ⟨b,off + i,none⟩:=by
 unfold Addr.add
 split <;> simp_all
theorem uW (b o:Nat) (cs:List Value) (h:∀ j v,cs[j]? = some v → w.cell? ⟨b,o + j,none⟩ = some v):(loadCells ⟨b,o,none⟩ cs.length).run P w = .ok cs.toArray w :=
 run_loadCells_list w ⟨b,o,none⟩ cs (fun j v hj=>by rw [lX];exact h j v hj)
theorem lK {t:TypeId} {g:Bool} (h:uj P t = some g):(isAgg t).run P w = .ok g w:=by
 unfold uj at h
 unfold isAgg
 split at h
 ·rename_i fs hu;cases h;simp only [Sem.run_bind,run_underlying hu,Result.andThen_ok];rfl
 ·rename_i n e hu;cases h;simp only [Sem.run_bind,run_underlying hu,Result.andThen_ok];rfl
 ·rename_i u h1 h2 hu
  cases h
  simp only [Sem.run_bind,run_underlying hu,Result.andThen_ok]
  cases u <;> first | rfl | exact absurd rfl (h1 _) | exact absurd rfl (h2 _ _) | (exfalso;exact h1 _ hu) | (exfalso;exact h2 _ _ hu)
 ·cases h
theorem lY {t:TypeId} {n:Nat} (h:kC P t = some n):(sizeOf t).run P w = .ok n w:=by
 obtain ⟨i,h1,h2⟩:=zmm h
 have:=run_sizeOf (w:=w) h1
 rw [this]
 unfold Program.cellsOf
 rw [h1]
 simp [h2]
theorem mH {t:TypeId} {g:Bool} {n b o:Nat} {xs:List PL} {vs:List Value} {u:CV} (hg:uj P t = some g) (hn:kC P t = some n) (hx:aM Fz κ w xs vs) (hc:∀ j v,vs[j]? = some v → w.cell? ⟨b,o + j,none⟩ = some v)
  (hl:vs.length = if g then n else 1) (hm:mk g xs = some u):∃ v,(loadVar t ⟨b,o,none⟩).run P w = .ok v w ∧ fJ Fz κ w u v:=by
 unfold loadVar
 cases g with
 | true =>
  cases hm
  have:=uW (P:=P) b o vs hc
  rw [hl,ahX rfl] at this
  exact ⟨.agg vs.toArray,by simp only [Sem.run_bind,lK hg,lY hn,this,Result.andThen_ok,aiu,Sem.run_pure],vs.toArray,rfl,hx⟩
 | false =>
  simp only [mk,ais,aik] at hm
  split at hm
  ·rename_i x
   cases hm
   cases vs with
   | nil=>exact hx.elim
   | cons v vs =>
    have h1:=hc 0 v rfl
    rw [Nat.add_zero] at h1
    refine ⟨v,?_,hx.1⟩
    simp only [Sem.run_bind,lK hg,Result.andThen_ok,ais,aik]
    rw [run_load,h1]
  ·cases hm
theorem aM.seg : ∀ {xs l:List PL} {vs:List Value} {n off:Nat},aM Fz κ w xs vs → Ev.seg n off xs = some l → aM Fz κ w l ((vs.drop off).take n) ∧ ((vs.drop off).take n).length = n ∧ off + n ≤ vs.length:=by
 intro xs l vs n off h hs
 unfold Ev.seg at hs
 split at hs
 ·rename_i hle
  cases hs
  have hlen:=h.length
  refine ⟨?_,by rw [aia,aiv];omega,by omega⟩
  have drop:∀ (k:Nat) (xs:List PL) (vs:List Value),aM Fz κ w xs vs → aM Fz κ w (xs.drop k) (vs.drop k):=by
   intro k
   induction k with
   | zero=>intro xs vs h;exact h
   | succ k ih =>
    intro xs vs h
    cases xs with
    | nil=>cases vs with | nil=>trivial | cons _ _=>exact h.elim
    | cons x xs=>cases vs with | nil=>exact h.elim | cons v vs=>exact ih xs vs h.2
  have take:∀ (k:Nat) (xs:List PL) (vs:List Value),aM Fz κ w xs vs → aM Fz κ w (xs.take k) (vs.take k):=by
   intro k
   induction k with
   | zero=>intro xs vs h;simp only [List.take_zero];trivial
   | succ k ih =>
    intro xs vs h
    cases xs with
    | nil=>cases vs with | nil=>trivial | cons _ _=>exact h.elim
    | cons x xs=>cases vs with | nil=>exact h.elim | cons v vs=>exact ⟨h.1,ih xs vs h.2⟩
  exact take n _ _ (drop off _ _ h)
 ·cases hs
theorem dS.cells : ∀ {xs:List FV} {b o:Nat},dS Fz w b o xs → ∃ vs,bX Fz w xs vs ∧ ∀ j v,vs[j]? = some v → w.cell? ⟨b,o + j,none⟩ = some v
 | [],b,o,h=>⟨[],trivial,fun j v hj=>by simp at hj⟩
 | x :: xs,b,o,h=>by
  simp only [dS] at h
  obtain ⟨⟨u,h1,h2⟩,h3⟩:=h
  obtain ⟨vs,h4,h5⟩:=dS.cells h3
  refine ⟨u :: vs,⟨h2,h4⟩,fun j v hj=>?_⟩
  cases j with
  | zero=>simp at hj;subst hj;exact h1
  | succ j=>simp at hj;rw [show o + (j + 1) = o + 1 + j from by omega];exact h5 j v hj
theorem bX.Xf : ∀ {xs:List FV} {vs:List Value},bX Fz w xs vs → aM Fz κ w (xs.map .f) vs
 | [],[],_=>trivial
 | x :: xs,v :: vs,h=>⟨h.1,bX.Xf h.2⟩
 | [],_ :: _,h=>h.elim
 | _ :: _,[],h=>h.elim
theorem bX.take : ∀ {xs:List FV} {vs:List Value} (n:Nat),bX Fz w xs vs → bX Fz w (xs.take n) (vs.take n)
 | _,_,0,_=>by simp only [List.take_zero];trivial
 | [],[],n + 1,_=>trivial
 | x :: xs,v :: vs,n + 1,h=>⟨h.1,bX.take n h.2⟩
 | [],_ :: _,_ + 1,h=>h.elim
 | _ :: _,[],_ + 1,h=>h.elim
theorem bX.drop : ∀ {xs:List FV} {vs:List Value} (n:Nat),bX Fz w xs vs → bX Fz w (xs.drop n) (vs.drop n)
 | _,_,0,h=>h
 | [],[],n + 1,_=>trivial
 | x :: xs,v :: vs,n + 1,h=>bX.drop n h.2
 | [],_ :: _,_ + 1,h=>h.elim
 | _ :: _,[],_ + 1,h=>h.elim
theorem bX.seg {xs l:List FV} {vs:List Value} {n off:Nat} (h:bX Fz w xs vs) (hs:Ev.seg n off xs = some l):bX Fz w l ((vs.drop off).take n) ∧ ((vs.drop off).take n).length = n ∧ off + n ≤ vs.length:=by
 unfold Ev.seg at hs
 split at hs
 ·rename_i hle
  cases hs
  have hlen:=h.length
  exact ⟨bX.take n (bX.drop off h),by rw [aia,aiv];omega,by omega⟩
 ·cases hs
theorem kD {vs:List Value} {n off b o:Nat} (hc:∀ j v,vs[j]? = some v → w.cell? ⟨b,o + j,none⟩ = some v):∀ j v,((vs.drop off).take n)[j]? = some v → w.cell? ⟨b,o + off + j,none⟩ = some v:=by
 intro j v hj
 rw [aiI] at hj
 split at hj
 ·rw [aiS] at hj
  rw [show o + off + j = o + (off + j) from by omega]
  exact hc _ _ hj
 ·cases hj
theorem Gy {B key sz i:Nat} {rows:List (List FV)} {r:List FV} {b:Nat} {n c:Nat} (h:gZ B Fz κ w key (.row sz rows)) (hk:κ key = .slice (some ⟨b,0,none⟩) n c) (hr:rows[i]? = some r) :
  r.length = sz ∧ ∃ vs,bX Fz w r vs ∧ ∀ j v,vs[j]? = some v → w.cell? ⟨b,i * sz + j,none⟩ = some v:=by
 obtain ⟨h0,e,inner,A,c',h1,h2,h3⟩:=h
 obtain ⟨h4,h5⟩:=h2
 rcases h5 with ⟨h5,h6⟩ | ⟨g,cap,cur,h5,h6,h7,h8,h9,h10,h11⟩
 ·rw [hk] at h5;cases h5
 ·rw [hk] at h5
  injection h5 with e1 e2 e3
  injection e1 with e1
  injection e1 with e1
  subst e1
  have key:∀ (rows:List (List FV)) (inner:List Value) (i:Nat) (r:List FV),dX Fz w sz rows inner → rows[i]? = some r → r.length = sz ∧ bX Fz w r ((inner.drop (i * sz)).take sz):=by
   intro rows
   induction rows with
   | nil=>intro inner i r h hr;simp at hr
   | cons x rows ih =>
    intro inner i r h hr
    cases i with
    | zero=>simp at hr;subst hr;simp only [ai8,ai9];exact ⟨h.1,h.2.1⟩
    | succ i =>
     simp at hr
     have:=ih _ i r h.2.2 hr
     rw [List.drop_drop] at this
     rw [aiN,Nat.add_comm (i * sz) sz]
     exact this
  obtain ⟨h12,h13⟩:=key rows inner i r h3 hr
  refine ⟨h12,_,h13,fun j v hj=>?_⟩
  rw [aiI] at hj
  split at hj
  ·rw [aiS] at hj
   rw [← h11,aiI] at hj
   split at hj
   ·simp only [World.cell?,h7]
    simpa using hj
   ·cases hj
  ·cases hj
theorem Ul (h:Rel aV w0 aU N Fz κ σ a w) {t:TypeId} {x:Operand} {x':dF} {g:Bool} {n:Nat} (hg:uj P t = some g) (hn:kC P t = some n) (hx:eY x = some x') (hE:bW Γ q σ d (.load (if g then n else 1) g x') = some (pv,σ')) :
  Does P aV w0 aU N q d Fz κ σ a w (do let v ← Instr.loadAt t (a.eval x);Pure.pure (.value v)) σ' pv:=by
 obtain ⟨v,h1,h2⟩:=zbm hE
 have hv:=h.eval hx h1
 split at h2
 ·rename_i key off
  split at h2
  ·rename_i xs fK
   obtain ⟨l,h3,h4⟩:=zbm h2
   obtain ⟨u,h5,h6⟩:=zmm h4
   cases h6
   obtain ⟨b,e1,e2⟩:=hv
   obtain ⟨b',cs,e,e3,e4,e5⟩:=h.obj fK
   rw [e1] at e3
   cases e3
   obtain ⟨e6,e7,e8⟩:=e5.seg h3
   obtain ⟨r,e9,e10⟩:=mH (P:=P) (b:=b) (o:=off) hg hn e6 (fun j v hj=>by
    have:=kD (w:=w) (b:=b) (o:=0) (off:=off) (vs:=cs.toList) (n:=if g then n else 1) (fun j v hj=>by
     rw [aip]
     simp only [World.cell?,e4]
     simpa using hj) j v hj
    rwa [aip] at this) e7 h5
   refine Does.pure h (v:=r) ?_ e10
   rw [e2]
   exact e9
  ·cases h2
 ·rename_i cs
  obtain ⟨l,h3,h4⟩:=zbm h2
  obtain ⟨u,h5,h6⟩:=zmm h4
  cases h6
  obtain ⟨b,o,e1,e2,e3⟩:=hv
  obtain ⟨vs,e4,e5⟩:=e3.cells
  obtain ⟨e6,e7,e8⟩:=e4.seg h3
  obtain ⟨r,e9,e10⟩:=mH (P:=P) (b:=b) (o:=o) hg hn (e6.Xf (κ:=κ)) (fun j v hj=>by
    have:=kD (w:=w) (b:=b) (o:=o) (off:=0) e5 j v hj
    rwa [Nat.add_zero] at this) e7 h5
  refine Does.pure h (v:=r) ?_ e10
  rw [e1]
  exact e9
 ·rename_i key z i off
  split at h2
  ·rename_i sz rows fK
   split at h2
   ·cases h2
   ·rename_i hz
    obtain ⟨rr,h3,h4⟩:=zbm h2
    obtain ⟨l,h5,h6⟩:=zbm h4
    obtain ⟨u,h7,h8⟩:=zmm h6
    cases h8
    obtain ⟨b,n',c,e1,e2⟩:=hv
    obtain ⟨e3,vs,e4,e5⟩:=Gy (h.obj fK) e1 h3
    have hz':sz = z:=aiJ.mp hz
    subst hz'
    obtain ⟨e6,e7,e8⟩:=e4.seg h5
    obtain ⟨r,e9,e10⟩:=mH (P:=P) (b:=b) (o:=i * sz + off) hg hn (e6.Xf (κ:=κ)) (kD e5) e7 h7
    refine Does.pure h (v:=r) ?_ e10
    rw [e2]
    exact e9
  ·cases h2
 ·cases h2
end
end
section
open Go
section
variable {P : Program} {Γ:Env} {aV Fz:Nat → Prop} {w0 w w':World} {aU:List Nat} {N:Fr} {d:Nat} {q:Bool} {κ:Nat → Value} {σ σ':St} {a:Act} {pv:PV} {o:Oper}
theorem Um (h:Rel aV w0 aU N Fz κ σ a w) {x:Operand} {x':dF} (hx:eY x = some x') (hE:bW Γ q σ d (.gH x') = some (pv,σ')) (ho:o.op = .nilCheck x) :
  Does P aV w0 aU N q d Fz κ σ a w (execOp a.eval o) σ' pv:=by
 obtain ⟨v,h1,h2⟩:=zbm hE
 have hv:=h.eval hx h1
 have key:∀ ad,a.eval x = .pointer (some ad) → σ' = σ → pv = .c v → Does P aV w0 aU N q d Fz κ σ a w (execOp a.eval o) σ' pv:=by
  intro ad he e1 e2
  subst e1 e2
  refine ⟨.value (.pointer (some ad)),w,κ,Fz,_,?_,.inl rfl,Good.pure h (by rw [← he];exact hv)⟩
  unfold execOp
  simp only [ho,he]
  rfl
 split at h2
 ·cases h2;obtain ⟨b,_,e⟩:=hv;exact key _ e rfl rfl
 ·cases h2;obtain ⟨b,_,e,_⟩:=hv;exact key _ e rfl rfl
 ·cases h2;obtain ⟨b,_,_,_,e⟩:=hv;exact key _ e rfl rfl
 ·cases h2
theorem dS.drop : ∀ {xs:List FV} {b o:Nat} (n:Nat),dS Fz w b o xs → dS Fz w b (o + n) (xs.drop n)
 | xs,b,o,0,h=>h
 | [],b,o,n + 1,h=>by simp only [List.drop_nil];trivial
 | x :: xs,b,o,n + 1,h=>by
  simp only [dS] at h
  have:=dS.drop n h.2
  rw [show o + (n + 1) = o + 1 + n from by omega]
  exact this
theorem oL {f:Field} {n:Nat} (hn:kC P f.type = some n) (h0:n ≠ 0) (b o:Nat):(fieldPlace ⟨b,o,none⟩ f).run P w = .ok ⟨b,o + f.offset,none⟩ w:=by
 unfold fieldPlace
 simp only [Sem.run_bind,lY hn,Result.andThen_ok,ahY h0,Sem.run_pure]
 rw [lX]
theorem Bh {t:TypeId} {i:Nat} {f:Field} (h:IV P t i = some f):∃ fs,P.underlying t = some (.struct fs) ∧ fs[i]? = some f:=by
 unfold IV at h
 split at h
 ·rename_i fs hu;exact ⟨fs,hu,h⟩
 ·cases h
theorem adS (h:Rel aV w0 aU N Fz κ σ a w) {t:TypeId} {i n:Nat} {f:Field} {x:Operand} {x':dF} (hf:IV P t i = some f) (hn:kC P f.type = some n) (h0:n ≠ 0) (hx:eY x = some x') (hE:bW Γ q σ d (.fa f.offset x') = some (pv,σ')) :
  Does P aV w0 aU N q d Fz κ σ a w (do let v ← Instr.fieldAt t (a.eval x) i;Pure.pure (.value v)) σ' pv:=by
 obtain ⟨v,h1,h2⟩:=zbm hE
 have hv:=h.eval hx h1
 obtain ⟨fs,hu,hi⟩:=Bh hf
 have run:∀ b o,a.eval x = .pointer (some ⟨b,o,none⟩) → (Instr.fieldAt t (a.eval x) i).run P w = .ok (.pointer (some ⟨b,o + f.offset,none⟩)) w:=by
  intro b o he
  rw [he]
  unfold Instr.fieldAt
  simp only [Sem.run_bind,run_underlying hu,Result.andThen_ok,hi]
  simp only [Instr.sureAddr,Sem.run_bind,Sem.run_pure,Result.andThen_ok,oL hn h0]
 split at h2
 ·cases h2;obtain ⟨b,e1,e2⟩:=hv;exact Does.pure h (run _ _ e2) ⟨b,e1,rfl⟩
 ·cases h2;obtain ⟨b,o,e1,e2,e3⟩:=hv;exact Does.pure h (run _ _ e1) ⟨b,_,rfl,e2,e3.drop _⟩
 ·cases h2;obtain ⟨b,n',c,e1,e2⟩:=hv;exact Does.pure h (run _ _ e2) ⟨b,n',c,e1,by rw [Nat.add_assoc]⟩
 ·cases h2
theorem Yp (h:Rel aV w0 aU N Fz κ σ a w) {t:TypeId} {off:Nat} {x y:Operand} {x':dF} (ha:OM P t y = some off) (hx:eY x = some x') (hE:bW Γ q σ d (.fa off x') = some (pv,σ')) :
  Does P aV w0 aU N q d Fz κ σ a w (do let v ← Instr.indexAt t (a.eval x) (a.eval y);Pure.pure (.value v)) σ' pv:=by
 obtain ⟨v,h1,h2⟩:=zbm hE
 have hv:=h.eval hx h1
 unfold OM at ha
 split at ha
 ·rename_i kk k
  split at ha
  ·rename_i n e hu
   obtain ⟨sz,h3,h4⟩:=zbm ha
   split at h4
   ·rename_i hk
    cases h4
    have run:∀ b o,a.eval x = .pointer (some ⟨b,o,none⟩) → (Instr.indexAt t (a.eval x) (a.eval (.const (.int kk k)))).run P w = .ok (.pointer (some ⟨b,o + k.toNat * sz,none⟩)) w:=by
     intro b o he
     rw [he,show a.eval (.const (.int kk k)) = .int kk k from rfl]
     unfold Instr.indexAt
     simp only [Sem.run_bind,iC,run_underlying hu,Result.andThen_ok,Sem.run_pure,Instr.sureAddr]
     simp only [ahX hk,Sem.run_bind,lY h3,Result.andThen_ok,Sem.run_pure,lX]
    split at h2
    ·cases h2;obtain ⟨b,e1,e2⟩:=hv;exact Does.pure h (run _ _ e2) ⟨b,e1,rfl⟩
    ·cases h2;obtain ⟨b,o,e1,e2,e3⟩:=hv;exact Does.pure h (run _ _ e1) ⟨b,_,rfl,e2,e3.drop _⟩
    ·cases h2;obtain ⟨b,n',c,e1,e2⟩:=hv;exact Does.pure h (run _ _ e2) ⟨b,n',c,e1,by rw [Nat.add_assoc]⟩
    ·cases h2
   ·cases h4
  ·cases ha
 ·cases ha
theorem Df {t:TypeId} {g:Bool} {n off:Nat} {xs l:List PL} {cs:Array Value} {u:CV} (hg:uj P t = some g) (hn:kC P t = some n) (hx:aM Fz κ w xs cs.toList) (hs:seg (if g then n else 1) off xs = some l) (hm:mk g l = some u) :
  ∃ v,(part t cs off).run P w = .ok v w ∧ fJ Fz κ w u v:=by
 obtain ⟨e1,e2,e3⟩:=hx.seg hs
 unfold part
 cases g with
 | true =>
  cases hm
  refine ⟨.agg (cs.extract off (off + n)),by simp only [Sem.run_bind,lK hg,lY hn,Result.andThen_ok,aiu,Sem.run_pure],_,rfl,?_⟩
  have:(cs.extract off (off + n)).toList = (cs.toList.drop off).take n:=by
   rw [Array.toList_extract]
   show List.take (off + n - off) (List.drop off cs.toList) = _
   rw [show off + n - off = n from by omega]
  rw [this]
  exact e1
 | false =>
  simp only [mk,ais,aik] at hm
  split at hm
  ·rename_i x
   cases hm
   simp only [ais,aik] at e1 e2 e3
   have hlt:off < cs.size:=by rw [Array.length_toList] at e3;omega
   have e4:(cs.toList.drop off).take 1 = [cs[off]]:=by
    rw [ajz (by rw [Array.length_toList];exact hlt)]
    simp
   rw [e4] at e1
   refine ⟨cs[off],?_,e1.1⟩
   simp only [Sem.run_bind,lK hg,Result.andThen_ok,ais,aik,ait hlt]
   rfl
  ·cases hm
theorem Yq (h:Rel aV w0 aU N Fz κ σ a w) {t:TypeId} {i n:Nat} {f:Field} {g:Bool} {x:Operand} {x':dF} (hf:IV P t i = some f) (hn:kC P f.type = some n) (hg:uj P f.type = some g) (hx:eY x = some x') (hE:bW Γ q σ d (.WZ f.offset (if g then n else 1) g x') = some (pv,σ')) :
  Does P aV w0 aU N q d Fz κ σ a w (do let v ← Instr.field t (a.eval x) i;Pure.pure (.value v)) σ' pv:=by
 obtain ⟨v,h1,h2⟩:=zbm hE
 have hv:=h.eval hx h1
 obtain ⟨fs,hu,hi⟩:=Bh hf
 split at h2
 ·obtain ⟨l,h3,h4⟩:=zbm h2
  obtain ⟨u,h5,h6⟩:=zmm h4
  cases h6
  obtain ⟨cs,e1,e2⟩:=hv
  obtain ⟨r,e3,e4⟩:=Df (P:=P) hg hn e2 h3 h5
  refine Does.pure h (v:=r) ?_ e4
  rw [e1]
  unfold Instr.field
  simp only [Sem.run_bind,run_underlying hu,Result.andThen_ok,hi]
  simp only [asAgg,Sem.run_bind,Sem.run_pure,Result.andThen_ok,e3]
 ·cases h2
theorem Yr (h:Rel aV w0 aU N Fz κ σ a w) {t e:TypeId} {len n:Nat} {g:Bool} {x y:Operand} {x' y':dF} (hu:P.underlying t = some (.array len e)) (hn:kC P e = some n) (hg:uj P e = some g) (hn1:g = false → n = 1) (hx:eY x = some x') (hy:eY y = some y') (hE:bW Γ q σ d (.idx (if g then n else 1) len g x' y') = some (pv,σ')) :
  Does P aV w0 aU N q d Fz κ σ a w (do let v ← Instr.index t (a.eval x) (a.eval y);Pure.pure (.value v)) σ' pv:=by
 obtain ⟨v,h1,h2⟩:=zbm hE
 obtain ⟨j,h3,h4⟩:=zbm h2
 obtain ⟨p,h5,h6⟩:=zbm h4
 have hv:=h.eval hx h1
 have hj:=gM h5 (h.eval hy h3)
 split at h6
 ·rename_i hr
  split at h6
  ·obtain ⟨l,h7,h8⟩:=zbm h6
   obtain ⟨u,h9,h10⟩:=zmm h8
   cases h10
   obtain ⟨cs,e1,e2⟩:=hv
   obtain ⟨r,e3,e4⟩:=Df (P:=P) hg hn e2 h7 h9
   refine Does.pure h (v:=r) ?_ e4
   rw [e1,hj]
   unfold Instr.index
   have e5:p.2.toNat * n = p.2.toNat * (if g then n else 1):=by
    cases g with
    | true=>rfl
    | false=>rw [hn1 rfl];rfl
   simp only [Sem.run_bind,iC,run_underlying hu,Result.andThen_ok,ahX hr,lY hn,e5,e3]
  ·cases h6
 ·cases h6
theorem cO.get : ∀ {rows:List (List FV)} {sz b o i:Nat} {r:List FV},cO Fz w sz b o rows → rows[i]? = some r → r.length = sz ∧ dS Fz w b (o + i * sz) r
 | [],_,_,_,_,_,_,hr=>by simp at hr
 | x :: rows,sz,b,o,0,r,h,hr=>by
  simp only [cO] at h
  simp at hr
  subst hr
  rw [ai8,Nat.add_zero]
  exact ⟨h.1,h.2.1⟩
 | x :: rows,sz,b,o,i + 1,r,h,hr=>by
  simp only [cO] at h
  simp at hr
  have:=cO.get (i:=i) h.2.2 hr
  rw [show o + (i + 1) * sz = o + sz + i * sz from by rw [aiN];omega]
  exact this
theorem uo {t e:TypeId} (h:R7 P t = some e):P.underlying t = some (.slice e):=by
 unfold R7 at h
 split at h
 ·rename_i e' hu;cases h;exact hu
 ·cases h
theorem adT (h:Rel aV w0 aU N Fz κ σ a w) {t e:TypeId} {sz:Nat} {x y:Operand} {x' y':dF} (hu:R7 P t = some e) (hn:kC P e = some sz) (hx:eY x = some x') (hy:eY y = some y') (hE:bW Γ q σ d (.ia sz x' y') = some (pv,σ')) :
  Does P aV w0 aU N q d Fz κ σ a w (do let v ← Instr.indexAt t (a.eval x) (a.eval y);Pure.pure (.value v)) σ' pv:=by
 obtain ⟨v,h1,h2⟩:=zbm hE
 obtain ⟨j,h3,h4⟩:=zbm h2
 obtain ⟨p,h5,h6⟩:=zbm h4
 have hv:=h.eval hx h1
 have hj:=gM h5 (h.eval hy h3)
 have run:∀ b o len c,a.eval x = .slice (some ⟨b,o,none⟩) len c → 0 ≤ p.2 → p.2 < len → (Instr.indexAt t (a.eval x) (a.eval y)).run P w = .ok (.pointer (some ⟨b,o + p.2.toNat * sz,none⟩)) w:=by
  intro b o len c he h0 hl
  rw [he,hj]
  unfold Instr.indexAt
  simp only [Sem.run_bind,iC,run_underlying (uo hu),Result.andThen_ok,Sem.run_pure]
  simp only [ahX (And.intro h0 hl),Sem.run_bind,lY hn,Result.andThen_ok,Sem.run_pure,lX]
 split at h6
 ·rename_i h0
  split at h6
  ·rename_i rows
   obtain ⟨r,h7,h8⟩:=zbm h6
   split at h8
   ·rename_i hl
    cases h8
    simp only [fJ,dW,eO] at hv
    obtain ⟨A,c,e1,e2,e3,e4⟩:=hv
    rcases e4 with e4 | ⟨b,o,sz',rfl,e5,e6⟩
    ·subst e4;simp at h7
    ·obtain ⟨e7,e8⟩:=e6.get h7
     have hlt:p.2.toNat < rows.length:=(aiO.mp h7).1
     have:sz' = sz:=by omega
     subst this
     exact Does.pure h (run b o _ c e1 h0 (by omega)) ⟨b,_,rfl,e5,e8⟩
   ·cases h8
  ·rename_i key n
   split at h6
   ·rename_i sz' rows fK
    split at h6
    ·rename_i hc
     cases h6
     obtain ⟨e1,A,c,e2⟩:=hv
     obtain ⟨h00,e,inner,A',c',e3,e4,e5⟩:=h.obj fK
     obtain ⟨e6,e7⟩:=e4
     rcases e7 with ⟨e7,e8⟩ | ⟨g,cap,cur,e7,e8⟩
     ·exfalso
      rw [hc.2.2,e8] at hc
      have:=hc.2.1
      omega
     ·rw [e2] at e1
      rw [e7] at e1
      injection e1 with e9 e10 e11
      subst e9
      refine Does.pure h (run g 0 n c e2 h0 hc.2.1) ⟨g,_,_,e7,?_⟩
      simp
    ·cases h6
   ·cases h6
  ·cases h6
 ·cases h6
theorem Un (h:Rel aV w0 aU N Fz κ σ a w) {ts:Array TypeId} {t u:TypeId} {x:Operand} {x':dF} (ht:ts[0]? = some t) (hu:P.underlying t = some .string) (hx:eY x = some x') (hE:bW Γ q σ d (.wH x') = some (pv,σ')) :
  Does P aV w0 aU N q d Fz κ σ a w (do let v ← Builtin.len_ ts u #[a.eval x];Pure.pure (.value v)) σ' pv:=by
 obtain ⟨v,h1,h2⟩:=zbm hE
 have hv:=h.eval hx h1
 split at h2
 ·rename_i s
  cases h2
  have e:a.eval x = .string s:=hv
  refine Does.pure h (v:=.int .i64 s.size) ?_ rfl
  rw [e]
  unfold Builtin.len_
  simp only [ht,Sem.run_bind,run_underlying hu,Result.andThen_ok]
  simp [hu,run_underlying hu,goInt]
 ·cases h2
theorem Uo (h:Rel aV w0 aU N Fz κ σ a w) {ts:Array TypeId} {t u e:TypeId} {x:Operand} {x':dF} (ht:ts[0]? = some t) (hu:P.underlying t = some (.slice e)) (hx:eY x = some x') (hE:bW Γ q σ d (.fV x') = some (pv,σ')) :
  Does P aV w0 aU N q d Fz κ σ a w (do let v ← Builtin.len_ ts u #[a.eval x];Pure.pure (.value v)) σ' pv:=by
 obtain ⟨v,h1,h2⟩:=zbm hE
 have hv:=h.eval hx h1
 have run:∀ A n c,a.eval x = .slice A n c → (Builtin.len_ ts u #[a.eval x]).run P w = .ok (.int .i64 n) w:=by
  intro A n c e
  rw [e]
  unfold Builtin.len_
  simp [ht,Sem.run_bind,run_underlying hu,goInt]
 split at h2
 ·cases h2
  simp only [fJ,dW,eO] at hv
  obtain ⟨A,c,e1,_⟩:=hv
  exact Does.pure h (run _ _ _ e1) rfl
 ·cases h2;exact Does.pure h (run _ _ _ hv) rfl
 ·cases h2
  obtain ⟨_,A,c,e1⟩:=hv
  exact Does.pure h (run _ _ _ e1) rfl
 ·cases h2
theorem gY.len : ∀ {l:List (KV × FC)} {m:List (KV × Value)},gY Fz w l m → m.length = l.length
 | [],[],_=>rfl
 | p :: l,q :: m,h=>by rw [List.length_cons,List.length_cons,gY.len h.2.2]
 | [],_ :: _,h=>h.elim
 | _ :: _,[],h=>h.elim
theorem Uq (h:Rel aV w0 aU N Fz κ σ a w) {ts:Array TypeId} {t u k e:TypeId} {x:Operand} {x':dF} (ht:ts[0]? = some t) (hu:P.underlying t = some (.map k e)) (hx:eY x = some x') (hE:bW Γ q σ d (.II x') = some (pv,σ')) :
  Does P aV w0 aU N q d Fz κ σ a w (do let v ← Builtin.len_ ts u #[a.eval x];Pure.pure (.value v)) σ' pv:=by
 obtain ⟨v,h1,h2⟩:=zbm hE
 have hv:=h.eval hx h1
 split at h2
 ·cases h2
  have e1:a.eval x = .map none:=hv
  refine Does.pure h (v:=.int .i64 0) ?_ rfl
  rw [e1]
  unfold Builtin.len_
  simp [ht,Sem.run_bind,run_underlying hu,goInt]
 ·rename_i key
  split at h2
  ·rename_i sh ents fK
   cases h2
   obtain ⟨b,e1,l,e2,e3,e4⟩:=h.obj fK
   obtain ⟨es,clock,e5,e6⟩:=e2.len
   have e7:a.eval x = .map (some b):=hv.1.trans e1
   refine Does.pure h (v:=.int .i64 ents.length) ?_ rfl
   rw [e7]
   unfold Builtin.len_
   have:=MapKept.run_getObj_map (P:=P) e5
   simp [ht,Sem.run_bind,run_underlying hu,goInt,this,e6,e3.len]
  ·cases h2
 ·cases h2
theorem Bj (h:Rel aV w0 aU N Fz κ σ a w) {len:Nat} {lo hi:Option Operand} {lo' hi':Option dF} {l r:Nat} (hlo:wR lo = some lo') (hhi:wR hi = some hi') (hr:rng len σ lo' hi' = some (l,r)) :
  l ≤ r ∧ r ≤ len ∧ ∀ (isl:Bool) (cap:Nat),len ≤ cap → (Instr.sliceBounds isl len cap (lo.map a.eval) (hi.map a.eval) none).run P w = .ok (l,r,cap) w:=by
 obtain ⟨r',h1,h2⟩:=zbm hr
 obtain ⟨l',h3,h4⟩:=zmm h2
 cases h4
 have Ky:∀ {n:Nat} {x:Option dF} {dd m:Nat},dd ≤ n → bnd σ n x dd = some m → m ≤ n:=by
  intro n x dd m hd hb
  cases x with
  | none=>cases hb;exact hd
  | some x =>
   obtain ⟨v,h1,h2⟩:=zbm hb
   obtain ⟨p,h3,h4⟩:=zbm h2
   split at h4
   ·rename_i hc;cases h4;omega
   ·cases h4
 have hl:=Ky (aiy _) h3
 have hh:=Ky (ah1 _) h1
 refine ⟨hl,hh,fun isl cap hcap=>?_⟩
 have side:∀ {n y m dd:Nat} {x:Option Operand} {x':Option dF} {code:BoundsCode},wR x = some x' → bnd σ n x' dd = some m → n ≤ y → ∀ v,x.map a.eval = some v → (Instr.sliceBound v y code).run P w = .ok m w:=by
  intro n y m dd x x' code hx hb hy v hv
  cases x with
  | none=>cases hv
  | some x =>
   cases hv
   obtain ⟨x1,e1,rfl⟩:=zmm hx
   obtain ⟨c,h1,h2⟩:=zbm hb
   obtain ⟨p,h3,h4⟩:=zbm h2
   split at h4
   ·rename_i hc
    cases h4
    rw [gM h3 (h.eval e1 h1)]
    unfold Instr.sliceBound
    have hc':0 ≤ p.2 ∧ p.2 ≤ (y:Int):=⟨hc.1,by omega⟩
    simp only [Sem.run_bind,iC,Result.andThen_ok,ahX hc',Sem.run_pure]
   ·cases h4
 have hi2:∀ (v:Value),hi.map a.eval = some v → (Instr.sliceBound v cap (if isl then .sliceAcap else .sliceAlen)).run P w = .ok r w:=side hhi h1 hcap
 have lo2:∀ (v:Value),lo.map a.eval = some v → (Instr.sliceBound v r .sliceB).run P w = .ok l w:=side hlo h3 (ah1 _)
 have hi0:hi = none → r = len:=by intro e;subst e;cases hhi;cases h1;rfl
 have lo0:lo = none → l = 0:=by intro e;subst e;cases hlo;cases h3;rfl
 unfold Instr.sliceBounds
 cases lo with
 | none =>
  cases hi with
  | none=>rw [lo0 rfl,hi0 rfl];rfl
  | some hv =>
   rw [lo0 rfl]
   have:=hi2 _ rfl
   simp only [Option.map_some,Option.map_none,Sem.run_bind,Sem.run_pure,Result.andThen_ok,this]
 | some lv =>
  cases hi with
  | none =>
   have h5:=hi0 rfl
   subst h5
   have:=lo2 _ rfl
   simp only [Option.map_some,Option.map_none,Sem.run_bind,Sem.run_pure,Result.andThen_ok,Option.isSome_none,ais,aik,this]
  | some hv =>
   have e1:=hi2 _ rfl
   have e2:=lo2 _ rfl
   simp only [Option.map_some,Option.map_none,Sem.run_bind,Sem.run_pure,Result.andThen_ok,e1,Option.isSome_none,ais,aik,e2]
theorem Ur (h:Rel aV w0 aU N Fz κ σ a w) {t:TypeId} {x:Operand} {x':dF} {lo hi:Option Operand} {lo' hi':Option dF} (hu:P.underlying t = some .string) (hx:eY x = some x') (hlo:wR lo = some lo') (hhi:wR hi = some hi') (hE:bW Γ q σ d (.IG x' lo' hi') = some (pv,σ')) :
  Does P aV w0 aU N q d Fz κ σ a w (do let v ← Instr.sliceAt t (a.eval x) (lo.map a.eval) (hi.map a.eval) none;Pure.pure (.value v)) σ' pv:=by
 obtain ⟨v,h1,h2⟩:=zbm hE
 have hv:=h.eval hx h1
 split at h2
 ·rename_i s
  obtain ⟨p,h3,h4⟩:=zbm h2
  cases h4
  obtain ⟨e1,e2,e3⟩:=Bj (P:=P) h hlo hhi h3
  refine Does.pure h (v:=.string (s.extract p.1 p.2)) ?_ rfl
  rw [show a.eval x = .string s from hv]
  unfold Instr.sliceAt Instr.slice
  simp only [Sem.run_bind,run_underlying hu,Result.andThen_ok]
  simp [Sem.run_bind,run_underlying hu,e3 false s.size (ah1 _)]
 ·cases h2
theorem cO.sub : ∀ {rows:List (List FV)} {sz b o:Nat} (k:Nat),cO Fz w sz b o rows → cO Fz w sz b (o + k * sz) (rows.drop k)
 | rows,sz,b,o,0,h=>by rw [ai8,Nat.add_zero];exact h
 | [],sz,b,o,k + 1,h=>by simp only [List.drop_nil];trivial
 | x :: rows,sz,b,o,k + 1,h=>by
  simp only [cO] at h
  have:=cO.sub k h.2.2
  rw [show o + (k + 1) * sz = o + sz + k * sz from by rw [aiN];omega]
  exact this
theorem cO.head : ∀ {rows:List (List FV)} {sz b o:Nat} (k:Nat),cO Fz w sz b o rows → cO Fz w sz b o (rows.take k)
 | rows,sz,b,o,0,h=>by rw [List.take_zero];trivial
 | [],sz,b,o,k + 1,h=>by simp only [List.take_nil];trivial
 | x :: rows,sz,b,o,k + 1,h=>by
  simp only [cO,List.take_succ_cons] at h ⊢
  exact ⟨h.1,h.2.1,cO.head k h.2.2⟩
theorem oM {t e:TypeId} {sz:Nat} (hu:P.underlying t = some (.slice e)) (hn:kC P e = some sz) {A:Option Addr} {len cap l r:Nat} {lo hi:Option Value} (hb:(Instr.sliceBounds true len cap lo hi none).run P w = .ok (l,r,cap) w) :
  (Instr.sliceAt t (.slice A len cap) lo hi none).run P w = .ok (.slice (if cap = l then A else A.map (·.add (l * sz))) (r - l) (cap - l)) w:=by
 unfold Instr.sliceAt Instr.slice
 simp only [Sem.run_bind,run_underlying hu,Result.andThen_ok]
 simp only [Sem.run_bind,run_underlying hu,Result.andThen_ok,hb,lY hn,Sem.run_pure]
theorem Bl {sz:Nat} {rows:List (List FV)} {A:Option Addr} {c l r:Nat} (h1:rows.length ≤ c) (h1':rows.length ≤ 9223372036854775807) (h2:rows = [] ∨ ∃ b o sz,A = some ⟨b,o,none⟩ ∧ Fz b ∧ cO Fz w sz b o rows) (hs:rows.all (fun r=>r.length == sz) = true) (hl:l ≤ r) (hr:r ≤ rows.length) :
  eO Fz w (.sl ((rows.drop l).take (r - l))) (.slice (if c = l then A else A.map (·.add (l * sz))) (r - l) (c - l)):=by
 have hlen:((rows.drop l).take (r - l)).length = r - l:=by rw [aia,aiv];omega
 simp only [eO]
 refine ⟨_,c - l,by rw [hlen],by rw [hlen];omega,by rw [hlen];omega,?_⟩
 by_cases he:r - l = 0
 ·left;exact ajt (by omega)
 ·right
  rcases h2 with h2 | ⟨b,o,sz',rfl,h3,h4⟩
  ·subst h2;simp at hr;omega
  ·have:sz' = sz:=by
    cases rows with
    | nil=>simp at hr;omega
    | cons x rows =>
     simp only [cO] at h4
     simp only [List.all_cons,ah5,aiH] at hs
     omega
   subst this
   rw [ahY (by omega)]
   exact ⟨b,o + l * sz',sz',by rw [Option.map_some,lX],h3,(h4.sub l).head _⟩
end
end
section
open Go
section
variable {P : Program} {Γ:Env} {aV Fz bg:Nat → Prop} {w0 w w':World} {aU:List Nat} {N:Fr} {d:Nat} {q:Bool} {κ:Nat → Value} {σ σ':St} {a:Act} {pv:PV} {o:Oper}
theorem dW.sub {key:Nat} {y:PL} (hf:∀ b,Fz b → bg b) (hy:dW bg κ w y (κ key)) {x:PL} {v:Value} (h:dW Fz κ w x v):dW bg κ w (nI key y x) v:=by
 have hm:dW bg κ w x v:=dW.mono hf (fun _ _=>rfl) (fun _ _=>rfl) h
 cases x with
 | own k n =>
  simp only [nI]
  split
  ·rename_i hk;subst hk;rw [h.1];exact hy
  ·exact hm
 | rp k z i o =>
  simp only [nI]
  split
  ·trivial
  ·exact hm
 | f x=>exact hm
 | bK=>exact hm
 | ptr k o=>exact hm
 | fp cs=>exact hm
 | mp k=>exact hm
 | iw=>exact hm
 | eH=>exact hm
 | und=>exact hm
 | any=>exact hm
 | fn f cs=>exact hm
 | vw k z n l =>
  simp only [nI]
  split
  ·trivial
  ·exact hm
theorem aM.sub {key:Nat} {y:PL} (hf:∀ b,Fz b → bg b) (hy:dW bg κ w y (κ key)):∀ {xs:List PL} {vs:List Value},aM Fz κ w xs vs → aM bg κ w (xs.map (nI key y)) vs
 | [],[],_=>trivial
 | x :: xs,v :: vs,h=>⟨dW.sub hf hy h.1,aM.sub hf hy h.2⟩
 | [],_ :: _,h=>h.elim
 | _ :: _,[],h=>h.elim
theorem fJ.sub {key:Nat} {y:PL} (hf:∀ b,Fz b → bg b) (hy:dW bg κ w y (κ key)) {x:CV} {v:Value} (h:fJ Fz κ w x v):fJ bg κ w (ES key y x) v:=by
 cases x with
 | one x=>exact dW.sub hf hy h
 | agg xs=>obtain ⟨cs,rfl,h⟩:=h;exact ⟨cs,rfl,aM.sub hf hy h⟩
theorem dH.sub {key:Nat} {y:PL} (hf:∀ b,Fz b → bg b) (hy:dW bg κ w y (κ key)):∀ {xs:List CV} {vs:List Value},dH Fz κ w xs vs → dH bg κ w (xs.map (ES key y)) vs
 | [],[],_=>trivial
 | x :: xs,v :: vs,h=>⟨fJ.sub hf hy h.1,dH.sub hf hy h.2⟩
 | [],_ :: _,h=>h.elim
 | _ :: _,[],h=>h.elim
theorem gW.sub {key:Nat} {y:PL} (hf:∀ b,Fz b → bg b) (hy:dW bg κ w y (κ key)) {x:PV} {v:Value} (h:gW Fz κ w x v):gW bg κ w (OB key y x) v:=by
 cases x with
 | c x=>exact fJ.sub hf hy h
 | tZ xs=>obtain ⟨cs,rfl,h⟩:=h;exact ⟨cs,rfl,dH.sub hf hy h⟩
theorem gZ.sub {B key k:Nat} {y:PL} (hf:∀ b,Fz b → bg b) (hy:dW bg κ w y (κ key)) {x:Ob} (h:gZ B Fz κ w k x):gZ B bg κ w k (IJ key y x):=by
 cases x with
 | dM xs=>obtain ⟨b,cs,e,h1,h2,h3⟩:=h;exact ⟨b,cs,e,h1,h2,aM.sub hf hy h3⟩
 | row sz rows=>exact gZ.mono (o:=.row sz rows) hf (fun _ _=>rfl) (fun _ _=>rfl) (fun _ _=>rfl) h
 | map sh ents=>exact gZ.mono (o:=.map sh ents) hf (fun _ _=>rfl) (fun _ _=>rfl) (fun _ _=>rfl) h
theorem Gz {sz b:Nat} (hf:∀ b,Fz b → bg b):∀ {rows:List (List FV)} {inner:List Value} {o:Nat},dX Fz w sz rows inner → inner.length = rows.length * sz → (∀ j v,inner[j]? = some v → w.cell? ⟨b,o + j,none⟩ = some v) → cO bg w sz b o rows
 | [],inner,o,_,_,_=>trivial
 | r :: rows,inner,o,h,hl,hc=>by
  simp only [cO]
  have hrow:∀ {r:List FV} {vs:List Value} {o:Nat},bX Fz w r vs → (∀ j v,vs[j]? = some v → w.cell? ⟨b,o + j,none⟩ = some v) → dS bg w b o r:=by
   intro r
   induction r with
   | nil=>intro vs o _ _;trivial
   | cons x r ih =>
    intro vs o h hc
    cases vs with
    | nil=>exact h.elim
    | cons v vs =>
     refine ⟨⟨v,by have:=hc 0 v rfl;rwa [Nat.add_zero] at this,eO.mono hf (fun _ _=>rfl) x v h.1⟩,ih h.2 fun j u hj=>?_⟩
     rw [show o + 1 + j = o + (j + 1) from by omega]
     exact hc (j + 1) u (by simpa using hj)
  rw [List.length_cons,aiN] at hl
  refine ⟨h.1,hrow h.2.1 fun j v hj=>?_,Gz hf h.2.2 (by rw [aiv];omega) fun j v hj=>?_⟩
  ·rw [aiI] at hj
   split at hj
   ·exact hc j v hj
   ·cases hj
  ·rw [aiS] at hj
   rw [show o + sz + j = o + (sz + j) from by omega]
   exact hc _ v hj
theorem qR {B key sz:Nat} {rows:List (List FV)} (hf:∀ b,Fz b → bg b) (hb:∀ b,blk (κ key) = some b → bg b) (h:gZ B Fz κ w key (.row sz rows)):eO bg w (.sl rows) (κ key):=by
 obtain ⟨h0,e,inner,A,c,h1,⟨h4,h5⟩,h3⟩:=h
 simp only [eO]
 rcases h5 with ⟨h5,h6⟩ | ⟨g,cap,cur,h5,h6,h7,h8,h9,h10,h11⟩
 ·rw [h5]
  exact ⟨none,0,by rw [h6],by omega,by omega,.inl (ajt h6)⟩
 ·refine ⟨some ⟨g,0,none⟩,cap,h5,h8,by simp only [maxLen] at h9;omega,.inr ⟨g,0,sz,rfl,hb g (by rw [h5];rfl),?_⟩⟩
  refine Gz hf h3 h4 fun j v hj=>?_
  rw [← h11,aiI] at hj
  split at hj
  ·rw [aip]
   simp only [World.cell?,h7]
   simpa using hj
  ·cases hj
theorem Rel.Yt (h:Rel aV w0 aU N Fz κ σ a w) {key sz:Nat} {rows:List (List FV)} (hk:get σ.ob key = some (.row sz rows)) :
  ∃ bg,Rel aV w0 aU N bg κ (Ev.sub ⟨σ.tm,rem σ.ob key⟩ key (.f (.sl rows))) a w ∧ (∀ b,Fz b → bg b) ∧ eO bg w (.sl rows) (κ key) ∧ ∀ b,bg b ↔ Fz b ∨ blk (κ key) = some b:=by
 have hkm:=get_mem hk
 have hf:∀ b,Fz b → Fz b ∨ blk (κ key) = some b:=fun b h=>.inl h
 have hrep:=qR (bg:=fun b=>Fz b ∨ blk (κ key) = some b) hf (fun b hb=>.inr hb) (h.ob _ hkm)
 have R8:dW (fun b=>Fz b ∨ blk (κ key) = some b) κ w (.f (.sl rows)) (κ key):=hrep
 refine ⟨fun b=>Fz b ∨ blk (κ key) = some b,?_,hf,hrep,fun _=>ah6⟩
 have mo:∀ p ∈ (rem σ.ob key).map (fun p=>(p.1,IJ key (.f (.sl rows)) p.2)),∃ q ∈ σ.ob,q.1 = p.1 ∧ q.1 ≠ key:=by
  intro p hp
  obtain ⟨r,hr,rfl⟩:=aiq.mp hp
  obtain ⟨h1,h2⟩:=eB.mp hr
  exact ⟨r,h1,rfl,h2⟩
 refine ⟨fun p hp=>?_,h.sz,h.lJ,h.fs,fun p hp=>?_,fun p hp q hq b hne hb1 hb2=>?_,fun p hp b hb1=>?_,fun b hb=>?_,fun b hb=>.inl (h.yU b hb),h.big,h.ext,h.kp⟩
 ·obtain ⟨r,hr,rfl⟩:=aiq.mp hp
  exact gW.sub hf R8 (h.tm r hr)
 ·obtain ⟨r,hr,rfl⟩:=aiq.mp hp
  exact gZ.sub hf R8 (h.ob r (eB.mp hr).1)
 ·obtain ⟨p',hp',e1,_⟩:=mo p hp
  obtain ⟨q',hq',e2,_⟩:=mo q hq
  rw [← e1] at hb1 hne
  rw [← e2] at hb2 hne
  exact h.uh p' hp' q' hq' b hne hb1 hb2
 ·obtain ⟨p',hp',e1,e2⟩:=mo p hp
  rw [← e1] at hb1
  have:=h.pos p' hp' b hb1
  refine ⟨fun hor=>?_,this.2⟩
  rcases hor with h1 | h1
  ·exact this.1 h1
  ·exact h.uh p' hp' _ hkm b e2 hb1 h1
 ·rcases hb with hb | hb
  ·exact h.fz b hb
  ·have:=h.pos _ hkm b hb
   exact ⟨this.2.1,.inr this.2.2⟩
theorem Rel.frz (h:Rel aV w0 aU N Fz κ σ a w) {key sz:Nat} {rows:List (List FV)} (hk:get σ.ob key = some (.row sz rows)) :
  ∃ bg,Rel aV w0 aU N bg κ (Ev.sub ⟨σ.tm,rem σ.ob key⟩ key (.f (.sl rows))) a w ∧ (∀ b,Fz b → bg b) ∧ eO bg w (.sl rows) (κ key):=by
 obtain ⟨F,h1,h2,h3,_⟩:=h.Yt hk
 exact ⟨F,h1,h2,h3⟩
theorem Rel.yT (h:Rel aV w0 aU N Fz κ σ a w) {key sz:Nat} {rows:List (List FV)} (hk:get σ.ob key = some (.row sz rows)) (hs:Ev.yT σ key = some σ'):∃ bg,Rel aV w0 aU N bg κ σ' a w ∧ (∀ b,Fz b → bg b) ∧ eO bg w (.sl rows) (κ key):=by
 unfold Ev.yT at hs
 rw [hk] at hs
 cases hs
 exact h.frz hk
theorem Rel.uU (h:Rel aV w0 aU N Fz κ σ a w) {x:PL} {y:FV} {v:Value} (hx:dW Fz κ w x v) (hs:Ev.uU σ x = some (y,σ')):∃ bg,Rel aV w0 aU N bg κ σ' a w ∧ (∀ b,Fz b → bg b) ∧ eO bg w y v:=by
 cases x with
 | f x=>cases hs;exact ⟨Fz,h,fun _ h=>h,hx⟩
 | bK=>cases hs;exact ⟨Fz,h,fun _ h=>h,by simp only [eO];exact ⟨none,0,hx,ah1 _,by simp,.inl trivial⟩⟩
 | own key n =>
  simp only [Ev.uU] at hs
  split at hs
  ·rename_i sz rows hk
   obtain ⟨s,h1,h2⟩:=zmm hs
   cases h2
   obtain ⟨bg,e1,e2,e3⟩:=h.yT hk h1
   exact ⟨bg,e1,e2,by rw [hx.1];exact e3⟩
  ·cases hs
 | _=>cases hs
theorem Rel.jR : ∀ {xs:List PL} {ys:List FV} {vs:List Value} {Fz:Nat → Prop} {σ σ':St},Rel aV w0 aU N Fz κ σ a w → aM Fz κ w xs vs → Ev.jR σ xs = some (ys,σ') → ∃ bg,Rel aV w0 aU N bg κ σ' a w ∧ (∀ b,Fz b → bg b) ∧ bX bg w ys vs
 | [],ys,[],Fz,σ,σ',h,_,hs=>by cases hs;exact ⟨Fz,h,fun _ h=>h,trivial⟩
 | x :: xs,ys,v :: vs,Fz,σ,σ',h,hx,hs=>by
  obtain ⟨p,h1,h2⟩:=zbm hs
  obtain ⟨r,h3,h4⟩:=zmm h2
  cases h4
  obtain ⟨F1,e1,e2,e3⟩:=h.uU hx.1 h1
  obtain ⟨F2,e4,e5,e6⟩:=Rel.jR e1 (aM.mono e2 (fun _ _=>rfl) xs (fun _ _=>rfl) vs hx.2) h3
  exact ⟨F2,e4,fun b hb=>e5 b (e2 b hb),eO.mono e5 (fun _ _=>rfl) _ _ e3,e6⟩
 | [],_,_ :: _,_,_,_,_,h,_=>h.elim
 | _ :: _,_,[],_,_,_,_,h,_=>h.elim
theorem wV : ∀ {xs:List PL} {ys:List FV} {vs:List Value} {σ σ':St},aM Fz κ w xs vs → xs.any fP = false → Ev.jR σ xs = some (ys,σ') → σ' = σ ∧ bX Fz w ys vs
 | [],ys,[],σ,σ',_,_,hs=>by cases hs;exact ⟨rfl,trivial⟩
 | x :: xs,ys,v :: vs,σ,σ',hx,hn,hs=>by
  obtain ⟨p,h1,h2⟩:=zbm hs
  obtain ⟨r,h3,h4⟩:=zmm h2
  cases h4
  simp only [List.any_cons,ajI] at hn
  have key:p.2 = σ ∧ eO Fz w p.1 v:=by
   have hx1:=hx.1
   cases x with
   | f x=>cases h1;exact ⟨rfl,hx1⟩
   | bK=>cases h1;exact ⟨rfl,by simp only [eO];exact ⟨none,0,hx1,ah1 _,by simp,.inl trivial⟩⟩
   | own key n=>simp [fP] at hn
   | _=>cases h1
  rw [key.1] at h3
  obtain ⟨e1,e2⟩:=wV hx.2 hn.2 h3
  exact ⟨e1,key.2,e2⟩
 | [],_,_ :: _,_,_,h,_,_=>h.elim
 | _ :: _,_,[],_,_,h,_,_=>h.elim
theorem fJ.cells {x:CV} {v:Value} (h:fJ Fz κ w x v) (hu:(Ev.cells x).any oK = false):aM Fz κ w (Ev.cells x) v.cells.toList ∧ ∀ u ∈ v.cells.toList,u.oneCell' = true:=by
 have leaf:∀ {x:PL} {v:Value},dW Fz κ w x v → oK x = false → v.oneCell' = true:=by
  intro x v h hu
  cases x with
  | f x =>
   have:=eO.leaf h
   cases v <;> first | rfl | exact this.elim
  | bK=>cases h;rfl
  | own k n=>obtain ⟨_,A,c,rfl⟩:=h;rfl
  | ptr k o=>obtain ⟨b,_,rfl⟩:=h;rfl
  | fp cs=>obtain ⟨b,o,rfl,_⟩:=h;rfl
  | rp k z i o=>obtain ⟨b,_,_,_,rfl⟩:=h;rfl
  | mp k=>obtain ⟨_,b,rfl⟩:=h;rfl
  | iw=>cases h;rfl
  | eH=>cases h;rfl
  | und=>cases hu
  | any=>cases hu
  | fn f cs=>obtain ⟨_,rfl,_⟩:=h;rfl
  | vw k z n l=>obtain ⟨_,_,_,rfl⟩:=h;rfl
 cases x with
 | one x =>
  have h1:=leaf h (by simpa [Ev.cells] using hu)
  have:v.cells = #[v]:=by cases v <;> first | rfl | cases h1
  rw [this]
  exact ⟨⟨h,trivial⟩,fun u hu=>by simp at hu;subst hu;exact h1⟩
 | agg xs =>
  obtain ⟨cs,rfl,h⟩:=h
  refine ⟨h,fun u hu'=>?_⟩
  have all:∀ {xs:List PL} {vs:List Value},aM Fz κ w xs vs → xs.any oK = false → ∀ u ∈ vs,u.oneCell' = true:=by
   intro xs
   induction xs with
   | nil=>intro vs h _ u hu;cases vs with | nil=>simp at hu | cons _ _=>exact h.elim
   | cons x xs ih =>
    intro vs h hn u hu
    simp only [List.any_cons,ajI] at hn
    cases vs with
    | nil=>exact h.elim
    | cons v vs =>
     rcases aif.mp hu with rfl | hu
     ·exact leaf h.1 hn.1
     ·exact ih h.2 hn.2 u hu
  exact all h hu u hu'
theorem Good.new (h:Rel aV w0 aU N Fz κ σ a w) {ob:Ob} {s:St} {v:Value} {pl:PL} (hn:Ev.new σ (dw d) ob = some s) (hs:w.heap.size ≤ w'.heap.size) (hb:∀ b,b < w.heap.size → w'.heap[b]? = w.heap[b]?)
  (hv:∀ b,blk v = some b → w.heap.size ≤ b ∧ b < w'.heap.size) (hkp:Kp w w') (ho:gZ 0 Fz (oI κ (dw d) v) w' (dw d) ob) (hp:dW Fz (oI κ (dw d) v) w' pl v) :
  Good aV w0 aU N q d Fz κ σ a w Fz (oI κ (dw d) v) s w' (.c (.one pl)) v where
 rel:=h.new hn hs hb hv hkp ho
 val:=hp
 f1:=fun _ h=>h
 e6:=fun k hk=>dY (fun e=>by unfold dw at e;omega) v
theorem lM (w:World) (o:Obj):(w.alloc o).heap[w.heap.size]? = some o ∧ (∀ b,b < w.heap.size → (w.alloc o).heap[b]? = w.heap[b]?) ∧ (w.alloc o).heap.size = w.heap.size + 1:=by
 have e:(w.alloc o).heap = w.heap.push o:=rfl
 rw [e]
 refine ⟨by simp,fun b hb=>?_,by simp⟩
 rw [Array.getElem?_push,ahY (by omega)]
theorem aM.alloc (h:Rel aV w0 aU N Fz κ σ a w) {xs:List PL} {vs:List Value} (hx:aM Fz κ w xs vs) (ob:Obj) {v:Value} {key:Nat} (hm:xs.any (dR key) = false):aM Fz (oI κ key v) (w.alloc ob) xs vs :=
 aM.mono (fun _ h=>h) (fun b hb=>(lM w ob).2.1 b (h.fz b hb).1) xs (fun k hk=>dY (fun e=>by subst e;rw [hk] at hm;cases hm) v) vs hx
theorem Good.dM (h:Rel aV w0 aU N Fz κ σ a w) {xs:List PL} {cs:Array Value} {e:TypeId} {s:St} (hx:aM Fz κ w xs cs.toList) (hm:xs.any (dR (dw d)) = false) (hn:Ev.new σ (dw d) (.dM xs) = some s) :
  Good aV w0 aU N q d Fz κ σ a w Fz (oI κ (dw d) (.pointer (some ⟨w.heap.size,0,none⟩))) s (w.alloc (.cells cs e (0,0))) (.c (.one (.ptr (dw d) 0))) (.pointer (some ⟨w.heap.size,0,none⟩)):=by
 obtain ⟨e1,e2,e3⟩:=lM w (.cells cs e (0,0))
 refine Good.new h hn (by omega) e2 (fun b hb=>by cases hb;exact ⟨ah1 _,by show w.heap.size < _;omega⟩) ⟨rfl,rfl⟩ ⟨w.heap.size,cs,e,by rw [bL],e1,hx.alloc h _ hm⟩ ⟨w.heap.size,by rw [bL],rfl⟩
end
end
section
open Go
section
variable {P : Program} {Γ:Env} {aV Fz bg:Nat → Prop} {w0 w w':World} {aU:List Nat} {N:Fr} {d:Nat} {q:Bool} {κ:Nat → Value} {σ σ':St} {a:Act} {pv:PV} {o:Oper}
theorem any_false {α:Type} {l:List α} {p:α → Bool} (h:¬ l.any p = true):l.any p = false:=aiX.mpr h
theorem OP (h:Rel aV w0 aU N Fz κ σ a w) {e:TypeId} {z:List PL} (hz:zF P e = some z) (hE:bW Γ q σ d (.alloc e z) = some (pv,σ')) :
  Does P aV w0 aU N q d Fz κ σ a w (do let v ← Instr.alloc e true (.tuple #[]);Pure.pure (.value v)) σ' pv:=by
 simp only [bW] at hE
 split at hE
 ·cases hE
 ·rename_i hm
  obtain ⟨s,h1,h2⟩:=zmm hE
  cases h2
  obtain ⟨i,h3,h4⟩:=zbm hz
  obtain ⟨zv,h5,h6⟩:=zbm h4
  refine ⟨_,_,_,_,_,?_,.inl rfl,Good.dM (cs:=zv.cells) (e:=e) h (lW h6) (any_false hm) h1⟩
  unfold Instr.alloc
  simp only [Sem.run_bind,zeroValue,typeInfo]
  simp [h3,h5,newVar,newRow]
theorem Yu (h:Rel aV w0 aU N Fz κ σ a w) {e:TypeId} {x:Operand} {x':dF} (hx:eY x = some x') (hE:bW Γ q σ d (.box e x') = some (pv,σ')) :
  Does P aV w0 aU N q d Fz κ σ a w (do let v ← Instr.box e (a.eval x);Pure.pure (.value v)) σ' pv:=by
 obtain ⟨v,h1,h2⟩:=zbm hE
 split at h2
 ·cases h2
 ·rename_i hm
  obtain ⟨s,h3,h4⟩:=zmm h2
  cases h4
  simp only [aiV,not_or] at hm
  obtain ⟨e1,_⟩:=(h.eval hx h1).cells (any_false hm.1)
  refine ⟨_,_,_,_,_,?_,.inl rfl,Good.dM (cs:=(a.eval x).cells) (e:=e) h e1 (any_false hm.2) h3⟩
  simp [Instr.box,newVar,newRow]
theorem Kz : ∀ (l:List Value) (j off:Nat) (cs:Array Value),off + j + l.length ≤ cs.size →
  ((l.zipIdx j).foldl (fun cs p=>cs.setIfInBounds (off + p.2) p.1) cs).toList = cs.toList.take (off + j) ++ l ++ cs.toList.drop (off + j + l.length)
 | [],j,off,cs,_=>by simp
 | v :: l,j,off,cs,h=>by
  rw [List.length_cons] at h
  rw [List.zipIdx_cons,List.foldl_cons,Kz l (j + 1) off _ (by rw [Array.size_setIfInBounds];omega),Array.toList_setIfInBounds]
  have hl:off + j < cs.toList.length:=by rw [Array.length_toList];omega
  rw [show off + (j + 1) = off + j + 1 from by omega,List.take_succ_eq_append_getElem (by rw [ajA];exact hl),List.getElem_set_self,List.take_set_of_le (ah1 _),List.drop_set_of_lt (by omega),List.length_cons]
  rw [show off + j + 1 + l.length = off + j + (l.length + 1) from by omega]
  simp
theorem aM.lay {off:Nat} {ys xs l:List PL} {us vs:List Value} (hx:aM Fz κ w xs vs) (hy:aM Fz κ w ys us) (hl:Ev.lay off ys xs = some l):aM Fz κ w l (vs.take off ++ us ++ vs.drop (off + us.length)) ∧ off + us.length ≤ vs.length:=by
 unfold Ev.lay at hl
 split at hl
 ·rename_i hle
  cases hl
  have hlx:=hx.length
  have hly:=hy.length
  have app:∀ {xs ys:List PL} {us vs:List Value},aM Fz κ w xs us → aM Fz κ w ys vs → aM Fz κ w (xs ++ ys) (us ++ vs):=by
   intro xs
   induction xs with
   | nil=>intro ys us vs h h';cases us with | nil=>exact h' | cons _ _=>exact h.elim
   | cons x xs ih=>intro ys us vs h h';cases us with | nil=>exact h.elim | cons u us=>exact ⟨h.1,ih h.2 h'⟩
  have drop:∀ (k:Nat) (xs:List PL) (vs:List Value),aM Fz κ w xs vs → aM Fz κ w (xs.drop k) (vs.drop k):=by
   intro k
   induction k with
   | zero=>intro xs vs h;exact h
   | succ k ih =>
    intro xs vs h
    cases xs with
    | nil=>cases vs with | nil=>trivial | cons _ _=>exact h.elim
    | cons x xs=>cases vs with | nil=>exact h.elim | cons v vs=>exact ih xs vs h.2
  have take:∀ (k:Nat) (xs:List PL) (vs:List Value),aM Fz κ w xs vs → aM Fz κ w (xs.take k) (vs.take k):=by
   intro k
   induction k with
   | zero=>intro xs vs h;simp only [List.take_zero];trivial
   | succ k ih =>
    intro xs vs h
    cases xs with
    | nil=>cases vs with | nil=>trivial | cons _ _=>exact h.elim
    | cons x xs=>cases vs with | nil=>exact h.elim | cons v vs=>exact ⟨h.1,ih xs vs h.2⟩
  rw [hly]
  exact ⟨app (app (take _ _ _ hx) hy) (drop _ _ _ hx),by omega⟩
 ·cases hl
inductive Bo {α β:Type} (R:α → β → Prop):List α → List β → Prop
 | nil:Bo R [] []
 | cons {x:α} {y:β} {xs:List α} {ys:List β} (h:R x y) (t:Bo R xs ys):Bo R (x :: xs) (y :: ys)
theorem Bo.imp {α β:Type} {R S:α → β → Prop} (hi:∀ {x y},R x y → S x y) {xs:List α} {ys:List β} (h:Bo R xs ys):Bo S xs ys:=by
 induction h with
 | nil=>exact .nil
 | cons h _ ih=>exact .cons (hi h) ih
theorem mI (h:Rel aV w0 aU N Fz κ σ a w) {place:Nat → Option (Nat × Nat)}:∀ {ps:List (Nat × Operand)} {qs:List (Nat × Nat × dF)} {l:List (Nat × Nat × CV)} {z z':List PL} {cs:Array Value},
  (∀ (i:Nat),True) → Bo (fun p r=>place p.1 = some (r.1,r.2.1) ∧ eY p.2 = some r.2.2) ps qs → vals σ qs = some l → Ev.fill z l = some z' → aM Fz κ w z cs.toList →
  ∃ cs',Instr.fill place cs (ps.map fun p=>(p.1,a.eval p.2)) = some cs' ∧ aM Fz κ w z' cs'.toList ∧ cs'.size = cs.size
 | [],qs,l,z,z',cs,_,hp,hv,hf,hz=>by
  cases hp
  cases hv
  cases hf
  exact ⟨cs,rfl,hz,rfl⟩
 | p :: ps,qs,l,z,z',cs,ht,hp,hv,hf,hz=>by
  cases hp with
  | cons hpr hrest =>
   rename_i r rest
   obtain ⟨ro,rn,rx⟩:=r
   obtain ⟨v,h1,h2⟩:=zbm hv
   obtain ⟨m,h3,h4⟩:=zmm h2
   subst h4
   unfold Ev.fill at hf
   split at hf
   ·rename_i hc
    obtain ⟨z1,h5,h6⟩:=zbm hf
    obtain ⟨e1,_⟩:=(h.eval hpr.2 h1).cells hc.2
    obtain ⟨e2,e3⟩:=hz.lay e1 h5
    have hlen:=e1.length
    rw [Array.length_toList] at hlen e3
    have e4:((a.eval p.2).cells.zipIdx.foldl (fun cs x=>cs.setIfInBounds (ro + x.2) x.1) cs).toList = cs.toList.take ro ++ (a.eval p.2).cells.toList ++ cs.toList.drop (ro + (a.eval p.2).cells.toList.length):=by
     have:=Kz (a.eval p.2).cells.toList 0 ro cs (by rw [Array.length_toList] at *;omega)
     rw [← Array.foldl_toList,Array.toList_zipIdx]
     rw [Nat.add_zero] at this
     exact this
    obtain ⟨cs',e5,e6,e7⟩:=mI h (cs:=(a.eval p.2).cells.zipIdx.foldl (fun cs x=>cs.setIfInBounds (ro + x.2) x.1) cs) ht hrest h3 h6 (by rw [e4];exact e2)
    have hsz:((a.eval p.2).cells.zipIdx.foldl (fun cs x=>cs.setIfInBounds (ro + x.2) x.1) cs).size = cs.size:=by
     have:=aio List.length e4
     simp only [ah7,aia,aiv,Array.length_toList] at this
     rw [Array.length_toList] at e3
     omega
    refine ⟨cs',?_,e6,e7.trans hsz⟩
    simp only [ah8]
    unfold Instr.fill
    rw [hpr.1]
    simp only
    have hn:(a.eval p.2).cells.size = rn:=by omega
    rw [ahY (by rw [Array.length_toList] at e3;simp only [ne_eq,aiV,aii,not_or,aiJ];exact ⟨hn,by omega⟩)]
    exact e5
   ·cases hf
theorem wW {fs:Array Field}:∀ {ps:List (Nat × Operand)} {qs:List (Nat × Nat × dF)},parts P fs ps = some qs → Bo (fun p (r:Nat × Nat × dF)=>(fs[p.1]?.bind fun (f:Field)=>(kC P f.type).map fun n=>(f.offset,n)) = some (r.1,r.2.1) ∧ eY p.2 = some r.2.2) ps qs
 | [],qs,h=>by cases h;exact .nil
 | (i,x) :: ps,qs,h=>by
  obtain ⟨f,h1,h2⟩:=zbm h
  obtain ⟨n,h3,h4⟩:=zbm h2
  obtain ⟨y,h5,h6⟩:=zbm h4
  obtain ⟨l,h7,rfl⟩:=zmm h6
  exact .cons ⟨by simp [h1,h3],h5⟩ (wW h7)
theorem pU {sz:Nat}:∀ {ps:List (Nat × Operand)} {qs:List (Nat × Nat × dF)},nL sz ps = some qs → Bo (fun p (r:Nat × Nat × dF)=>(some (p.1 * sz,sz):Option (Nat × Nat)) = some (r.1,r.2.1) ∧ eY p.2 = some r.2.2) ps qs
 | [],qs,h=>by cases h;exact .nil
 | (i,x) :: ps,qs,h=>by
  obtain ⟨y,h5,h6⟩:=zbm h
  obtain ⟨l,h7,rfl⟩:=zmm h6
  exact .cons ⟨rfl,h5⟩ (pU h7)
theorem uq {e:TypeId} {z:List PL} (h:zF P e = some z):∃ i zv,P.info? e = some i ∧ i.zero = some zv ∧ aM Fz κ w z zv.cells.toList:=by
 obtain ⟨i,h3,h4⟩:=zbm h
 obtain ⟨zv,h5,h6⟩:=zbm h4
 exact ⟨i,zv,h3,h5,lW h6⟩
theorem OQ (h:Rel aV w0 aU N Fz κ σ a w) {t:TypeId} {fs:Array Field} {z:List PL} {ps:Array (Nat × Operand)} {l:List (Nat × Nat × dF)} (hu:P.underlying t = some (.struct fs)) (hall:fs.toList.all (fun (f:Field)=>(kC P f.type).isSome) = true) (hz:zF P t = some z) (hp:parts P fs ps.toList = some l) (hE:bW Γ q σ d (.build z l) = some (pv,σ')) :
  Does P aV w0 aU N q d Fz κ σ a w (do let v ← Instr.build t (ps.map fun (i,x)=>(i,a.eval x));Pure.pure (.value v)) σ' pv:=by
 obtain ⟨vs,h1,h2⟩:=zbm hE
 obtain ⟨z',h3,h4⟩:=zmm h2
 cases h4
 obtain ⟨i,zv,e1,e2,e3⟩:=uq (Fz:=Fz) (κ:=κ) (w:=w) hz
 have hpl:∃ places:List (Nat × Nat),fs.toList.mapM (fun (f:Field)=>(P.info? f.type).map fun i=>(f.offset,i.size)) = some places ∧ ∀ i:Nat,places.toArray[i]? = (fs[i]?.bind fun (f:Field)=>(kC P f.type).map fun n=>(f.offset,n)):=by
  have key:∀ (l:List Field),l.all (fun (f:Field)=>(kC P f.type).isSome) = true → ∃ places:List (Nat × Nat),l.mapM (fun (f:Field)=>(P.info? f.type).map fun i=>(f.offset,i.size)) = some places ∧ ∀ i:Nat,places[i]? = (l[i]?.bind fun (f:Field)=>(kC P f.type).map fun n=>(f.offset,n)):=by
   intro l
   induction l with
   | nil=>intro _;exact ⟨[],rfl,fun i=>by simp⟩
   | cons f l ih =>
    intro ha
    simp only [List.all_cons,ah5] at ha
    obtain ⟨pl,e1,e2⟩:=ih ha.2
    obtain ⟨n,hn⟩:=ajl.mp ha.1
    obtain ⟨inf,hi,hs⟩:=zmm hn
    refine ⟨(f.offset,n) :: pl,by simp [List.mapM_cons,hi,hs,e1],fun i=>?_⟩
    cases i with
    | zero=>simp [hn]
    | succ i=>simpa using e2 i
  obtain ⟨pl,e1,e2⟩:=key fs.toList hall
  exact ⟨pl,e1,fun i=>by have:=e2 i;simpa using this⟩
 obtain ⟨places,e4,e5⟩:=hpl
 obtain ⟨cs',e6,e7,_⟩:=mI h (place:=(places.toArray[·]?)) (ps:=ps.toList) (cs:=zv.cells) (fun _=>trivial) (by
  refine (wW hp).imp fun {p r} hpr=>⟨?_,hpr.2⟩
  rw [e5];exact hpr.1) h1 h3 e3
 refine Does.pure h (v:=.agg cs') (run_build w t _ cs' ?_) ⟨cs',rfl,e7⟩
 unfold Program.built
 rw [e1,hu]
 simp only [e2,e4]
 rw [aje]
 exact e6
theorem KA (h:Rel aV w0 aU N Fz κ σ a w) {t e:TypeId} {n sz:Nat} {z:List PL} {ps:Array (Nat × Operand)} {l:List (Nat × Nat × dF)} (hu:P.underlying t = some (.array n e)) (hn:kC P e = some sz) (hz:zF P t = some z) (hp:nL sz ps.toList = some l) (hE:bW Γ q σ d (.build z l) = some (pv,σ')) :
  Does P aV w0 aU N q d Fz κ σ a w (do let v ← Instr.build t (ps.map fun (i,x)=>(i,a.eval x));Pure.pure (.value v)) σ' pv:=by
 obtain ⟨vs,h1,h2⟩:=zbm hE
 obtain ⟨z',h3,h4⟩:=zmm h2
 cases h4
 obtain ⟨i,zv,e1,e2,e3⟩:=uq (Fz:=Fz) (κ:=κ) (w:=w) hz
 obtain ⟨ie,g1,g2⟩:=zmm hn
 obtain ⟨cs',e6,e7,_⟩:=mI h (place:=fun i=>some (i * sz,sz)) (ps:=ps.toList) (cs:=zv.cells) (fun _=>trivial) (pU hp) h1 h3 e3
 refine Does.pure h (v:=.agg cs') (run_build w t _ cs' ?_) ⟨cs',rfl,e7⟩
 unfold Program.built
 rw [e1,hu]
 simp only [e2,g1]
 rw [aje,g2]
 exact e6
end
end
section
open Go
section
variable {P : Program} {Γ:Env} {aV Fz bg:Nat → Prop} {w0 w w':World} {aU:List Nat} {N:Fr} {d:Nat} {q:Bool} {κ eF:Nat → Value} {σ σ1 σ':St} {a:Act} {pv:PV} {o:Oper}
theorem Dg {x:PL} {y:FV} (hs:Ev.uU σ x = some (y,σ')):(∀ p ∈ σ'.ob,∃ r ∈ σ.ob,r.1 = p.1) ∧ (fP x = false → σ' = σ):=by
 cases x with
 | f x=>cases hs;exact ⟨fun p hp=>⟨p,hp,rfl⟩,fun _=>rfl⟩
 | bK=>cases hs;exact ⟨fun p hp=>⟨p,hp,rfl⟩,fun _=>rfl⟩
 | own key n =>
  refine ⟨?_,fun h=>by cases h⟩
  simp only [Ev.uU] at hs
  split at hs
  ·rename_i sz rows hk
   obtain ⟨s,h1,h2⟩:=zmm hs
   cases h2
   unfold Ev.yT at h1
   rw [hk] at h1
   cases h1
   intro p hp
   obtain ⟨r,hr,rfl⟩:=aiq.mp hp
   exact ⟨r,(eB.mp hr).1,rfl⟩
  ·cases hs
 | _=>cases hs
theorem zK : ∀ {xs:List PL} {ys:List FV} {σ σ':St},Ev.jR σ xs = some (ys,σ') → (∀ p ∈ σ'.ob,∃ r ∈ σ.ob,r.1 = p.1) ∧ (xs.any fP = false → σ' = σ)
 | [],ys,σ,σ',hs=>by cases hs;exact ⟨fun p hp=>⟨p,hp,rfl⟩,fun _=>rfl⟩
 | x :: xs,ys,σ,σ',hs=>by
  obtain ⟨p,h1,h2⟩:=zbm hs
  obtain ⟨r,h3,h4⟩:=zmm h2
  cases h4
  obtain ⟨e1,e2⟩:=Dg h1
  obtain ⟨e3,e4⟩:=zK h3
  refine ⟨fun p hp=>?_,fun hn=>?_⟩
  ·obtain ⟨r1,hr1,e5⟩:=e3 p hp
   obtain ⟨r2,hr2,e6⟩:=e1 r1 hr1
   exact ⟨r2,hr2,e6.trans e5⟩
  ·simp only [List.any_cons,ajI] at hn
   rw [e4 hn.2,e2 hn.1]
theorem Good.after (hf:∀ b,Fz b → bg b) (hq:q = true → (∀ b,bg b → Fz b) ∧ σ1 = σ) (hk:∀ p ∈ σ1.ob,∃ p' ∈ σ.ob,p'.1 = p.1) {Fz2:Nat → Prop} {v:Value} (g:Good aV w0 aU N q d bg κ σ1 a w Fz2 eF σ' w' pv v):Good aV w0 aU N q d Fz κ σ a w Fz2 eF σ' w' pv v where
 rel:=g.rel
 val:=g.val
 f1:=fun b hb=>g.f1 b (hf b hb)
 e6:=g.e6
theorem Does.after (hf:∀ b,Fz b → bg b) (hq:q = true → (∀ b,bg b → Fz b) ∧ σ1 = σ) (hk:∀ p ∈ σ1.ob,∃ p' ∈ σ.ob,p'.1 = p.1) {s:Sem Next} (g:Does P aV w0 aU N q d bg κ σ1 a w s σ' pv):Does P aV w0 aU N q d Fz κ σ a w s σ' pv:=by
 obtain ⟨r,w',eF,Fz2,v,h1,h2,h3⟩:=g
 exact ⟨r,w',eF,Fz2,v,h1,h2,h3.after hf hq hk⟩
theorem Rel.OT {xs:List PL} {ys:List FV} {vs:List Value} (h:Rel aV w0 aU N Fz κ σ a w) (hx:aM Fz κ w xs vs) (hn:¬ (q && xs.any fP) = true) (hs:Ev.jR σ xs = some (ys,σ')) :
  ∃ bg,Rel aV w0 aU N bg κ σ' a w ∧ (∀ b,Fz b → bg b) ∧ bX bg w ys vs ∧ (q = true → (∀ b,bg b → Fz b) ∧ σ' = σ) ∧ ∀ p ∈ σ'.ob,∃ p' ∈ σ.ob,p'.1 = p.1:=by
 obtain ⟨e1,e2⟩:=zK hs
 cases q with
 | false =>
  obtain ⟨bg,e3,e4,e5⟩:=h.jR hx hs
  exact ⟨bg,e3,e4,e5,fun h=>(aiZ h).elim,e1⟩
 | true =>
  have hn':xs.any fP = false:=by cases hc:xs.any fP with | false=>rfl | true=>rw [hc] at hn;exact absurd rfl hn
  obtain ⟨e3,e4⟩:=wV hx hn' hs
  subst e3
  exact ⟨Fz,h,fun _ h=>h,e4,fun _=>⟨fun _ h=>h,rfl⟩,e1⟩
theorem zL {sz:Nat}:∀ {n:Nat} {xs:List FV} {vs:List Value},bX Fz w xs vs → xs.length = n * sz → dX Fz w sz (rowsOf sz n xs) vs
 | 0,xs,vs,h,hl=>by
  rw [ai8] at hl
  have:xs = []:=ajt hl
  subst this
  cases vs with
  | nil=>rfl
  | cons _ _=>exact h.elim
 | n + 1,xs,vs,h,hl=>by
  rw [aiN] at hl
  exact ⟨by rw [aia];omega,bX.take sz h,zL (bX.drop sz h) (by rw [aiv];omega)⟩
theorem qU {sz:Nat}:∀ {n:Nat} {xs:List FV},(rowsOf sz n xs).length = n
 | 0,_=>rfl
 | n + 1,xs=>by rw [rowsOf,List.length_cons,qU]
theorem bX.len : ∀ {xs:List FV} {vs:List Value},bX Fz w xs vs → vs.length = xs.length
 | [],[],_=>rfl
 | x :: xs,v :: vs,h=>by rw [List.length_cons,List.length_cons,bX.len h.2]
 | [],_ :: _,h=>h.elim
 | _ :: _,[],h=>h.elim
theorem gF {α:Type} {xs us:List α} {off:Nat} (h:off + us.length ≤ xs.length) (j:Nat):(xs.take off ++ us ++ xs.drop (off + us.length))[j]? = if j < off then xs[j]? else if j < off + us.length then us[j - off]? else xs[j]?:=by
 rw [aiP,ajJ,aia,ajK (by omega)]
 split
 ·rename_i h1;rw [aiI,ahX h1]
 ·rename_i h1
  rw [ajJ]
  split
  ·rename_i h2;rw [ahX (by omega)]
  ·rename_i h2
   rw [ahY (by omega),aiS]
   congr 1
   omega
theorem bX.lay {off:Nat} {ys xs l:List FV} {us vs:List Value} (hx:bX Fz w xs vs) (hy:bX Fz w ys us) (hl:Ev.lay off ys xs = some l):bX Fz w l (vs.take off ++ us ++ vs.drop (off + us.length)) ∧ off + us.length ≤ vs.length:=by
 unfold Ev.lay at hl
 split at hl
 ·rename_i hle
  cases hl
  have hlx:=hx.len
  have hly:=hy.len
  have app:∀ {xs ys:List FV} {us vs:List Value},bX Fz w xs us → bX Fz w ys vs → bX Fz w (xs ++ ys) (us ++ vs):=by
   intro xs
   induction xs with
   | nil=>intro ys us vs h h';cases us with | nil=>exact h' | cons _ _=>exact h.elim
   | cons x xs ih=>intro ys us vs h h';cases us with | nil=>exact h.elim | cons u us=>exact ⟨h.1,ih h.2 h'⟩
  rw [hly]
  exact ⟨app (app (bX.take _ hx) hy) (bX.drop _ hx),by omega⟩
 ·cases hl
theorem dX.len {sz:Nat}:∀ {rows:List (List FV)} {vs:List Value},dX Fz w sz rows vs → vs.length = rows.length * sz
 | [],vs,h=>by cases h;simp
 | r :: rs,vs,h=>by
  have h1:=h.2.1.len
  have h2:=dX.len h.2.2
  rw [aia,h.1] at h1
  rw [aiv] at h2
  rw [List.length_cons,aiN]
  omega
theorem dX.set {sz off:Nat} {ys:List FV} {us:List Value} (hy:bX Fz w ys us):∀ {rows:List (List FV)} {vs:List Value} {i:Nat} {r l:List FV},dX Fz w sz rows vs → rows[i]? = some r → Ev.lay off ys r = some l →
  dX Fz w sz (rows.set i l) (vs.take (i * sz + off) ++ us ++ vs.drop (i * sz + off + us.length)) ∧ off + us.length ≤ sz ∧ (i + 1) * sz ≤ vs.length
 | r0 :: rs,vs,0,r,l,h,hr,hl=>by
  cases hr
  obtain ⟨e1,e2⟩:=h.2.1.lay hy hl
  have h1:=h.2.1.len
  rw [aia,h.1] at h1
  rw [aia] at e2
  have hlen:=hl
  unfold Ev.lay at hlen
  have e3:off + us.length ≤ vs.length:=by omega
  simp only [ai8,aip,List.set_cons_zero,Nat.one_mul]
  refine ⟨⟨?_,?_,?_⟩,by omega,by omega⟩
  ·have:=e1.len
   rw [← this]
   simp only [ah7,aia,aiv]
   omega
  ·have:(vs.take off ++ us ++ vs.drop (off + us.length)).take sz = (vs.take sz).take off ++ us ++ (vs.take sz).drop (off + us.length):=by
    refine ai4 fun j=>?_
    rw [aiI,gF e3,gF (by rw [aia];omega),aiI]
    by_cases h1:j < off
    ·simp only [h1,aiu]
    ·by_cases h2:j < off + us.length
     ·simp only [h1,h2,aiu,aik];rw [ahX (by omega)]
     ·simp only [h1,h2,aik]
   rw [this];exact e1
  ·have:(vs.take off ++ us ++ vs.drop (off + us.length)).drop sz = vs.drop sz:=by
    refine ai4 fun j=>?_
    rw [aiS,gF e3,aiS,ahY (by omega),ahY (by omega)]
   rw [this];exact h.2.2
 | r0 :: rs,vs,i + 1,r,l,h,hr,hl=>by
  have hr':rs[i]? = some r:=by simpa using hr
  obtain ⟨e1,e2,e3⟩:=dX.set hy h.2.2 hr' hl
  have h1:=h.2.1.len
  rw [aia,h.1] at h1
  rw [aiv] at e3
  have hm:(i + 1) * sz = i * sz + sz:=aiN i sz
  have hm2:(i + 1 + 1) * sz = i * sz + sz + sz:=by rw [aiN,hm]
  rw [hm] at e3 ⊢
  rw [hm2]
  have e4:i * sz + sz + off + us.length ≤ vs.length:=by omega
  refine ⟨⟨h.1,?_,?_⟩,e2,by omega⟩
  ·have:(vs.take (i * sz + sz + off) ++ us ++ vs.drop (i * sz + sz + off + us.length)).take sz = vs.take sz:=by
    refine ai4 fun j=>?_
    rw [aiI,gF e4,aiI]
    by_cases h1:j < sz
    ·simp only [h1,aiu];rw [ahX (by omega)]
    ·simp only [h1,aik]
   rw [this];exact h.2.1
  ·have:(vs.take (i * sz + sz + off) ++ us ++ vs.drop (i * sz + sz + off + us.length)).drop sz = (vs.drop sz).take (i * sz + off) ++ us ++ (vs.drop sz).drop (i * sz + off + us.length):=by
    refine ai4 fun j=>?_
    rw [aiS,gF e4,gF (by rw [aiv];omega),aiS]
    by_cases h1:j < i * sz + off
    ·rw [ahX h1,ahX (by omega)]
    ·by_cases h2:j < i * sz + off + us.length
     ·rw [ahY h1,ahX h2,ahY (by omega),ahX (by omega)]
      congr 1;omega
     ·rw [ahY h1,ahY h2,ahY (by omega),ahY (by omega)]
   rw [this];exact e1
 | [],vs,i,r,l,h,hr,hl=>by simp at hr
end
end
end Go.Proofs.YtfokaoeinpnagaaGreat.Ev

/- A part of the proof of SeekZones: cut, joined and given short names by a program of this session (wip/tools/pack.py); Lean checks it. No condition. -/
import GoSem.Dispatch
import Derived.Laws.Entries
import Derived.WideMake
import Derived.WalkKit
import Derived.Below
import Derived.Laws.AppendOwn
import Derived.Maps.AppendAt
import Derived.Lib.Strings
import Derived.Laws.CopyRow
import Derived.Laws.Cells
import Derived.ChangeKeysEq
import Derived.WideShapes
import Derived.Laws.Tables
import Derived.Great.BuildSlice
set_option linter.unusedSectionVars false
set_option linter.unusedSimpArgs false
set_option linter.unusedVariables false
set_option maxHeartbeats 16000000
set_option maxRecDepth 100000
theorem zbm {α β : Type _} {o : Option α} {f : α → Option β} {b : β} : o.bind f = some b → ∃ a, o = some a ∧ f a = some b := Option.bind_eq_some_iff.mp
theorem zmm {α β : Type _} {o : Option α} {f : α → β} {b : β} : o.map f = some b → ∃ a, o = some a ∧ f a = b := Option.map_eq_some_iff.mp
theorem ajk : type_of% @List.map_cons := @List.map_cons
theorem akq : type_of% @List.cons.injEq := @List.cons.injEq
theorem akr : type_of% @List.mem_cons_self := @List.mem_cons_self
theorem ajB : type_of% @Bool.false_eq_true := @Bool.false_eq_true
theorem ajv : type_of% @if_false := @if_false
theorem ajY : type_of% @List.mem_cons_of_mem := @List.mem_cons_of_mem
theorem ajD : type_of% @Nat.zero_add := @Nat.zero_add
theorem aja : type_of% @decide_eq_true := @decide_eq_true
theorem ajc : type_of% @decide_eq_false := @decide_eq_false
theorem aj7 : type_of% @beq_eq_false_iff_ne := @beq_eq_false_iff_ne
theorem akd : type_of% @ByteArray.ext := @ByteArray.ext
theorem aks : type_of% @List.map_append := @List.map_append
theorem akA : type_of% @List.nodup_append := @List.nodup_append
theorem ajx : type_of% @List.mem_map := @List.mem_map
theorem ajn : type_of% @List.map_nil := @List.map_nil
theorem aj0 : type_of% @List.mem_singleton := @List.mem_singleton
theorem ajE : type_of% @List.mem_append := @List.mem_append
theorem akt : type_of% @List.findIdx?_eq_some_iff_getElem := @List.findIdx?_eq_some_iff_getElem
theorem ajb : type_of% @List.length_map := @List.length_map
theorem ajt : type_of% @decide_eq_true_eq := @decide_eq_true_eq
theorem akk : type_of% @List.getElem_map := @List.getElem_map
theorem ajo : type_of% @List.getElem?_eq_getElem := @List.getElem?_eq_getElem
theorem aku : type_of% @List.map_map := @List.map_map
theorem ajC : type_of% @congrArg := @congrArg
theorem ajf : type_of% @List.getElem?_map := @List.getElem?_map
theorem ajl : type_of% @Option.some.injEq := @Option.some.injEq
theorem ai8 : type_of% @if_pos := @if_pos
theorem akl : type_of% @List.ext_getElem? := @List.ext_getElem?
theorem ai9 : type_of% @if_neg := @if_neg
theorem ajF : type_of% @Array.getElem?_eq_getElem := @Array.getElem?_eq_getElem
theorem akv : type_of% @List.map_set := @List.map_set
theorem akQ : type_of% @List.Sublist.refl := @List.Sublist.refl
theorem ake : type_of% @Array.getElem?_eq_some_iff := @Array.getElem?_eq_some_iff
theorem ajr : type_of% @List.mem_cons := @List.mem_cons
theorem ajT : type_of% @Array.getD_eq_getD_getElem? := @Array.getD_eq_getD_getElem?
theorem akf : type_of% @Array.getElem?_setIfInBounds := @Array.getElem?_setIfInBounds
theorem ajK : type_of% @Nat.lt_of_lt_of_le := @Nat.lt_of_lt_of_le
theorem aju : type_of% @Nat.le_trans := @Nat.le_trans
theorem aj8 : type_of% @List.any_eq_true := @List.any_eq_true
theorem akB : type_of% @List.mem_filter := @List.mem_filter
theorem akm : type_of% @Array.getElem?_toList := @Array.getElem?_toList
theorem ajH : type_of% @if_true := @if_true
theorem ajq : type_of% @List.length_take := @List.length_take
theorem ajA : type_of% @List.length_drop := @List.length_drop
theorem ajU : type_of% @List.getElem?_take := @List.getElem?_take
theorem aj3 : type_of% @List.getElem?_drop := @List.getElem?_drop
theorem akg : type_of% @Nat.zero_mul := @Nat.zero_mul
theorem aj9 : type_of% @List.drop_zero := @List.drop_zero
theorem ajV : type_of% @Nat.succ_mul := @Nat.succ_mul
theorem ajQ : type_of% @Decidable.not_not := @Decidable.not_not
theorem akC : type_of% @List.drop_eq_getElem_cons := @List.drop_eq_getElem_cons
theorem aj1 : type_of% @List.getElem?_eq_some_iff := @List.getElem?_eq_some_iff
theorem ajO : type_of% @Nat.zero_le := @Nat.zero_le
theorem ajd : type_of% @Nat.le_refl := @Nat.le_refl
theorem akD : type_of% @List.eq_nil_of_length_eq_zero := @List.eq_nil_of_length_eq_zero
theorem ajg : type_of% @Bool.and_eq_true := @Bool.and_eq_true
theorem ajI : type_of% @beq_iff_eq := @beq_iff_eq
theorem aje : type_of% @Iff.rfl := @Iff.rfl
theorem akR : type_of% @Bool.or_eq_false_iff := @Bool.or_eq_false_iff
theorem ajP : type_of% @Bool.eq_false_iff := @Bool.eq_false_iff
theorem aj4 : type_of% @Bool.or_eq_true := @Bool.or_eq_true
theorem akK : type_of% @List.length_set := @List.length_set
theorem ajh : type_of% @List.length_append := @List.length_append
theorem akw : type_of% @Option.isSome_iff_exists := @Option.isSome_iff_exists
theorem akn : type_of% @Array.toList_map := @Array.toList_map
theorem aj6 : type_of% @Bool.false_ne_true := @Bool.false_ne_true
theorem ajW : type_of% @List.append_assoc := @List.append_assoc
theorem akS : type_of% @List.getElem?_append := @List.getElem?_append
theorem akT : type_of% @Nat.min_eq_left := @Nat.min_eq_left
theorem akL : type_of% @List.take_of_length_le := @List.take_of_length_le
theorem akx : type_of% @List.getElem?_eq_none := @List.getElem?_eq_none
theorem akU : type_of% @List.take_append_of_le_length := @List.take_append_of_le_length
theorem akV : type_of% @List.take_append_drop := @List.take_append_drop
theorem akb : type_of% @List.append_nil := @List.append_nil
theorem akE : type_of% @Nat.add_mul := @Nat.add_mul
theorem akF : type_of% @Nat.mul_le_mul_right := @Nat.mul_le_mul_right
theorem akM : type_of% @List.nodup_nil := @List.nodup_nil
theorem akN : type_of% @List.flatMap_cons := @List.flatMap_cons
theorem akG : type_of% @Bool.not_true := @Bool.not_true
theorem ajm : type_of% @Prod.mk.injEq := @Prod.mk.injEq
theorem ajL : type_of% @List.mem_range := @List.mem_range
theorem ajR : type_of% @Classical.byContradiction := @Classical.byContradiction
theorem ajp : type_of% @List.all_eq_true := @List.all_eq_true
theorem ajy : type_of% @List.getD_eq_getElem?_getD := @List.getD_eq_getElem?_getD
theorem akh : type_of% @Array.getElem?_eq_none := @Array.getElem?_eq_none
theorem ako : type_of% @Nat.lt_or_ge := @Nat.lt_or_ge
theorem aky : type_of% @List.length_range := @List.length_range
theorem akO : type_of% @List.getElem_range := @List.getElem_range
theorem ak1 : type_of% @List.mem_of_find?_eq_some := @List.mem_of_find?_eq_some
theorem ajw : type_of% @of_decide_eq_true := @of_decide_eq_true
theorem aj5 : type_of% @Bool.not_eq_true := @Bool.not_eq_true
theorem akp : type_of% @and_congr := @and_congr
theorem ajZ : type_of% @decide_eq_false_iff_not := @decide_eq_false_iff_not
theorem aki : type_of% @bne_iff_ne := @bne_iff_ne
theorem akP : type_of% @List.not_mem_nil := @List.not_mem_nil
theorem ajX : type_of% @List.take_add_one := @List.take_add_one
theorem akc : type_of% @List.mem_of_getElem? := @List.mem_of_getElem?
theorem ajS : type_of% @List.take_length := @List.take_length
theorem ajM : type_of% @congrFun := @congrFun
theorem akW : type_of% @List.mem_take_iff_getElem := @List.mem_take_iff_getElem
theorem akH : type_of% @List.findIdx?_eq_none_iff := @List.findIdx?_eq_none_iff
theorem aj2 : type_of% @Int.le_refl := @Int.le_refl
theorem akX : type_of% @List.foldl_append := @List.foldl_append
theorem akY : type_of% @not_false_eq_true := @not_false_eq_true
theorem aji : type_of% @List.forall_mem_cons := @List.forall_mem_cons
theorem akI : type_of% @Option.map_eq_some_iff := @Option.map_eq_some_iff
theorem akZ : type_of% @List.getElem?_append_left := @List.getElem?_append_left
theorem ajG : type_of% @List.map_toArray := @List.map_toArray
theorem ajz : type_of% @Option.some.inj := @Option.some.inj
theorem ak0 : type_of% @List.foldlM_cons := @List.foldlM_cons
theorem akJ : type_of% @ByteArray.data_append := @ByteArray.data_append
theorem ajJ : type_of% @ByteArray.size_extract := @ByteArray.size_extract
theorem ajs : type_of% @ByteArray.size_append := @ByteArray.size_append
theorem ak3 : type_of% @ByteArray.extract_zero_size := @ByteArray.extract_zero_size
theorem ak2 : type_of% @ByteArray.append_assoc := @ByteArray.append_assoc
theorem ajj : type_of% @eq_true := @eq_true
theorem ajN : type_of% @List.setIfInBounds_toArray := @List.setIfInBounds_toArray
theorem akz : type_of% @bne_eq_false_iff_eq := @bne_eq_false_iff_eq
theorem akj : type_of% @Array.size_push := @Array.size_push
namespace Go.Proofs.YtfokaoeinpnagaaGreat.Ev
open Go
inductive FV where
 | int (k:IntKind) (n:Int)
 | bool (b:Bool)
 | str (s:ByteArray)
 | sl (rows:List (List FV))
 deriving Inhabited
inductive PL where
 | f (x:FV)
 | bY
 | own (key n:Nat)
 | ptr (key off:Nat)
 | fp (cells:List FV)
 | rp (key sz i off:Nat)
 | mp (key:Nat)
 | iU
 | fA
 | und
 | any
 | fn (f:FuncId) (caps:List (List FV))
 | vw (key sz n lo:Nat)
 deriving Inhabited
inductive CV where
 | one (x:PL)
 | agg (xs:List PL)
 deriving Inhabited
inductive PV where
 | c (x:CV)
 | uM (xs:List CV)
 deriving Inhabited
inductive SV where
 | int (k:IntKind) (n:Int)
 | bool (b:Bool)
 | str (s:ByteArray)
 deriving DecidableEq,Inhabited
inductive KV where
 | one (x:SV)
 | agg (xs:List SV)
 deriving DecidableEq,Inhabited
inductive SK where
 | int (k:IntKind)
 | bool
 | str
 deriving DecidableEq,Inhabited
inductive KS where
 | one (k:SK)
 | agg (ks:List SK)
 deriving DecidableEq,Inhabited
def SV.sk : SV → SK
 | .int k _=>.int k
 | .bool _=>.bool
 | .str _=>.str
def KV.ks : KV → KS
 | .one x=>.one x.sk
 | .agg xs=>.agg (xs.map SV.sk)
inductive FC where
 | one (x:FV)
 | agg (xs:List FV)
 deriving Inhabited
inductive Ob where
 | eT (xs:List PL)
 | row (sz:Nat) (rows:List (List FV))
 | map (sh:KS) (ents:List (KV × FC))
 deriving Inhabited
structure St where
 tm:List (Nat × PV)
 ob:List (Nat × Ob)
 deriving Inhabited
inductive CL where
 | f (x:FV)
 | iU
 | fA
 | mp (sh:KS) (ents:List (KV × FC))
 | own (sz:Nat) (rows:List (List FV))
 deriving Inhabited
inductive TV where
 | f (x:FV)
 | iU
 | fA
 | ptr (cells:List CL)
 | mp (sh:KS) (ents:List (KV × FC))
 | own (sz:Nat) (rows:List (List FV))
 | fp (cells:List FV)
 | fn (f:FuncId) (caps:List (List FV))
 | any
 deriving Inhabited
inductive AV where
 | one (x:TV)
 | agg (xs:List TV)
 deriving Inhabited
def get {α:Type}:List (Nat × α) → Nat → Option α
 | [],_=>none
 | (k,v) :: l,i=>if k = i then some v else get l i
def rem {α:Type}:List (Nat × α) → Nat → List (Nat × α)
 | [],_=>[]
 | (k,u) :: l,i=>if k = i then rem l i else (k,u) :: rem l i
def put {α:Type}:List (Nat × α) → Nat → α → List (Nat × α)
 | [],i,v=>[(i,v)]
 | (k,u) :: l,i,v=>if k = i then (i,v) :: rem l i else (k,u) :: put l i v
def pick {α:Type} (ks:List Nat) (l:List (Nat × α)):List (Nat × α):=ks.filterMap fun i=>(get l i).map fun v=>(i,v)
inductive dM where
 | t (i:Nat)
 | k (x:CV)
 deriving Inhabited
inductive Yc where
 | eq | ne | lt | le | gt | ge
 deriving DecidableEq,Inhabited
inductive Ar where
 | add | sub | mul | quo | rem
 deriving DecidableEq,Inhabited
inductive I where
 | mv (x:dM)
 | pick (c a b:dM)
 | alloc (e:TypeId) (z:List PL)
 | box (e:TypeId) (x:dM)
 | build (z:List PL) (ps:List (Nat × Nat × dM))
 | zH (e:TypeId) (sz len:Nat) (z:List PL) (ps:List (Nat × Nat × dM))
 | PD (e:TypeId) (sz len:Nat) (z:List PL) (ps:List (Nat × Nat × dM))
 | load (n:Nat) (agg:Bool) (x:dM)
 | store (n:Nat) (x v:dM)
 | gZ (x:dM)
 | xq (neg:Bool) (x:dM)
 | ar (o:Ar) (x y:dM)
 | cmp (o:Yc) (x y:dM)
 | ru (sh:KS) (neg:Bool) (x y:dM)
 | cat (x y:dM)
 | no (x:dM)
 | ci (k:IntKind) (x:dM)
 | nA (x:dM)
 | pK (sh:KS)
 | JO (x:dM) (lo hi:Option dM)
 | cut (sz:Nat) (x:dM) (lo hi:Option dM)
 | fa (off:Nat) (x:dM)
 | Yd (off n:Nat) (agg:Bool) (x:dM)
 | ia (sz:Nat) (x i:dM)
 | idx (sz len:Nat) (agg:Bool) (x i:dM)
 | chr (x i:dM)
 | look (sh:KS) (z:FC) (ok:Bool) (x k:dM)
 | xu (sh:KS) (x k v:dM)
 | del (sh:KS) (x k:dM)
 | ext (x:dM) (i:Nat)
 | xw (x:dM)
 | iB (x:dM)
 | JQ (x:dM)
 | app (e:TypeId) (sz bytes:Nat) (x y:dM)
 | mn (x y:dM)
 | mx (x y:dM)
 | call (g:Bool) (f:FuncId) (args:List dM)
 | zK (f:FuncId) (args:List dM)
 | zL (neg:Bool) (x:dM)
 | bit (o:BinOp) (x y:dM)
 | Vd (l:Bool) (x y:dM)
 | PX (f:FuncId) (caps:List dM)
 | dyn (x:dM) (args:List dM)
 | DZ (sz:Nat) (x hi:dM)
 | cutV (sz:Nat) (x lo:dM)
 | TB (sz:Nat) (z:List FV) (x:dM)
 | Ye (x:dM)
 deriving Inhabited
structure G where
 dst:Option Nat
 gd:Option (Option Nat × Bool)
 i:I
 deriving Inhabited
inductive CC where
 | skip
 | reg (is:List G) (ks:List Nat)
 | sD (pre:List (G × List Nat)) (lY:List Nat) (jR rest:List G) (ks:List Nat)
 | any (gs:List G) (Zh:List (List Nat)) (ks mF:List Nat)
 | seq (a b:CC)
 | cond (c:dM) (a b:CC)
 | block (id:Nat) (c:CC)
 | loop (keep BO:List Nat) (rws:List (Nat × Nat)) (c:CC)
 | exit (id:Nat)
 | ret
 deriving Inhabited
inductive Rs where
 | t (i:Nat)
 | cell (i n:Nat) (agg:Bool)
 deriving Inhabited
structure CF where
 np:Nat
 res:List Rs
 ro:List (Option Nat)
 bo:List Nat
 body:CC
 deriving Inhabited
def val (σ:St):dM → Option CV
 | .t i=>match get σ.tm i with
  | some (.c x)=>some x
  | _=>none
 | .k x=>some x
def d9 (key:Nat):PL → Bool
 | .own k _=>k == key
 | .ptr k _=>k == key
 | .rp k _ _ _=>k == key
 | .mp k=>k == key
 | .vw k _ _ _=>k == key
 | _=>false
def vM (key:Nat):CV → Bool
 | .one x=>d9 key x
 | .agg xs=>xs.any (d9 key)
def rz (key:Nat):PV → Bool
 | .c x=>vM key x
 | .uM xs=>xs.any (vM key)
def mG (key:Nat):Ob → Bool
 | .eT xs=>xs.any (d9 key)
 | _=>false
def Yf (σ:St) (key:Nat):Option St :=
 if (rem σ.ob key).any (fun p=>mG key p.2) then none else some ⟨σ.tm.filter (fun p=>!rz key p.2),rem σ.ob key⟩
def new (σ:St) (key:Nat) (o:Ob):Option St:=(Yf σ key).map fun s=>⟨s.tm,(key,o) :: s.ob⟩
def oH (key:Nat) (y:PL):PL → PL
 | .own k n=>if k = key then y else .own k n
 | .rp k z i o=>if k = key then .any else .rp k z i o
 | .vw k z n l=>if k = key then .any else .vw k z n l
 | x=>x
def Gd (key:Nat) (y:PL):CV → CV
 | .one x=>.one (oH key y x)
 | .agg xs=>.agg (xs.map (oH key y))
def PY (key:Nat) (y:PL):PV → PV
 | .c x=>.c (Gd key y x)
 | .uM xs=>.uM (xs.map (Gd key y))
def JR (key:Nat) (y:PL):Ob → Ob
 | .eT xs=>.eT (xs.map (oH key y))
 | o=>o
def sub (σ:St) (key:Nat) (y:PL):St:=⟨σ.tm.map (fun p=>(p.1,PY key y p.2)),σ.ob.map (fun p=>(p.1,JR key y p.2))⟩
def zI (σ:St) (key:Nat):Option St:=match get σ.ob key with
 | some (.row _ rows)=>some (sub ⟨σ.tm,rem σ.ob key⟩ key (.f (.sl rows)))
 | _=>none
def vN (σ:St):PL → Option (FV × St)
 | .f x=>some (x,σ)
 | .bY=>some (.sl [],σ)
 | .own key _=>match get σ.ob key with
  | some (.row _ rows)=>(zI σ key).map fun s=>(.sl rows,s)
  | _=>none
 | _=>none
def D5 : PV → St → Option (PV × St)
 | .c (.one x),σ=>(vN σ x).map fun p=>(.c (.one (.f p.1)),p.2)
 | _,_=>none
def kJ : St → List PL → Option (List FV × St)
 | σ,[]=>some ([],σ)
 | σ,x :: xs=>(vN σ x).bind fun p=>(kJ p.2 xs).map fun q=>(p.1 :: q.1,q.2)
def Yg (σ:St):CV → Option (FC × St)
 | .one x=>(vN σ x).map fun p=>(.one p.1,p.2)
 | .agg xs=>(kJ σ xs).map fun p=>(.agg p.1,p.2)
def cells : CV → List PL
 | .one x=>[x]
 | .agg xs=>xs
def Ve : FC → List FV
 | .one x=>[x]
 | .agg xs=>xs
def pO : PL → Bool
 | .und=>true
 | .any=>true
 | _=>false
def mk (agg:Bool) (xs:List PL):Option CV:=if agg then some (.agg xs) else match xs with
 | [x]=>some (.one x)
 | _=>none
def seg {α:Type} (n off:Nat) (xs:List α):Option (List α):=if off + n ≤ xs.length then some ((xs.drop off).take n) else none
def lay {α:Type} (off:Nat) (ys xs:List α):Option (List α):=if off + ys.length ≤ xs.length then some (xs.take off ++ ys ++ xs.drop (off + ys.length)) else none
def sF : FV → Option SV
 | .int k n=>some (.int k n)
 | .bool b=>some (.bool b)
 | .str s=>some (.str s)
 | .sl _=>none
def sG : List FV → Option (List SV)
 | []=>some []
 | x :: xs=>(sF x).bind fun s=>(sG xs).map fun l=>s :: l
def Ii : PL → Option FV
 | .f x=>some x
 | _=>none
def oI : List PL → Option (List FV)
 | []=>some []
 | x :: xs=>(Ii x).bind fun s=>(oI xs).map fun l=>s :: l
def keyOf : CV → Option KV
 | .one x=>(Ii x).bind fun x=>(sF x).map .one
 | .agg xs=>(oI xs).bind fun xs=>(sG xs).map .agg
def xA (l:List (KV × FC)) (a:KV):Option Nat:=(l.map (·.1)).findIdx? (· = a)
def sH (l:List (KV × FC)) (a:KV):Option FC:=(xA l a).bind fun i=>l[i]?.map (·.2)
def xB (l:List (KV × FC)) (a:KV) (v:FC):List (KV × FC):=match xA l a with
 | some i=>l.set i (a,v)
 | none=>l ++ [(a,v)]
def BP (l:List (KV × FC)) (a:KV):List (KV × FC):=match xA l a with
 | some i=>l.eraseIdx i
 | none=>l
def xC : FC → CV
 | .one x=>.one (.f x)
 | .agg xs=>.agg (xs.map .f)
def Lf (o:Ar) (k:IntKind) (a b:Int):Option Int:=match o with
 | .add=>some (k.wrap (a + b))
 | .sub=>some (k.wrap (a - b))
 | .mul=>some (k.wrap (a * b))
 | .quo=>if b = 0 then none else some (k.wrap (a.tdiv b))
 | .rem=>if b = 0 then none else some (a.tmod b)
def xD (o:Yc) (a b:Int):Bool:=match o with
 | .eq=>decide (a = b)
 | .ne=>!decide (a = b)
 | .lt=>decide (a < b)
 | .le=>decide (a ≤ b)
 | .gt=>decide (b < a)
 | .ge=>decide (b ≤ a)
def TD : FV → Bool
 | .sl _=>true
 | _=>false
def fill : List PL → List (Nat × Nat × CV) → Option (List PL)
 | z,[]=>some z
 | z,(off,n,v) :: ps=>if (cells v).length = n ∧ (cells v).any pO = false then (lay off (cells v) z).bind fun z=>fill z ps else none
def vals (σ:St):List (Nat × Nat × dM) → Option (List (Nat × Nat × CV))
 | []=>some []
 | (o,n,x) :: ps=>(val σ x).bind fun v=>(vals σ ps).map fun l=>(o,n,v) :: l
def rowsOf (sz:Nat):Nat → List FV → List (List FV)
 | 0,_=>[]
 | n + 1,xs=>xs.take sz :: rowsOf sz n (xs.drop sz)
def dA (d:Nat):Nat:=20000 * (d + 1)
def gP (σ:St) (key:Nat) (o:Ob) (v:PL):Option (PV × St):=(new σ key o).map fun s=>(.c (.one v),s)
def int? : CV → Option (IntKind × Int)
 | .one (.f (.int k n))=>some (k,n)
 | _=>none
def bool? : CV → Option Bool
 | .one (.f (.bool b))=>some b
 | _=>none
def qx (σ:St):CV → Option (List (List FV))
 | .one .bY=>some []
 | .one (.f (.sl rows))=>some rows
 | .one (.own key _)=>match get σ.ob key with
  | some (.row _ rows)=>some rows
  | _=>none
 | _=>none
def one (x:FV) (σ:St):Option (PV × St):=some (.c (.one (.f x)),σ)
def bnd (σ:St) (len:Nat):Option dM → Nat → Option Nat
 | none,d=>some d
 | some x,_=>(val σ x).bind fun v=>(int? v).bind fun p=>if 0 ≤ p.2 ∧ p.2 ≤ len then some p.2.toNat else none
def jA (σ:St) (key:Nat) (o:Ob):St:=⟨σ.tm,put σ.ob key o⟩
def JU (σ:St):PL → Option (CL × St)
 | .f x=>some (.f x,σ)
 | .bY=>some (.f (.sl []),σ)
 | .iU=>some (.iU,σ)
 | .fA=>some (.fA,σ)
 | .own key n=>match get σ.ob key with
  | some (.row sz rows)=>some (.own sz rows,⟨σ.tm,rem σ.ob key⟩)
  | _=>none
 | .mp key=>match get σ.ob key with
  | some (.map sh ents)=>some (.mp sh ents,⟨σ.tm,rem σ.ob key⟩)
  | _=>none
 | _=>none
def zM : St → List PL → Option (List CL × St)
 | σ,[]=>some ([],σ)
 | σ,x :: xs=>(JU σ x).bind fun p=>(zM p.2 xs).map fun q=>(p.1 :: q.1,q.2)
def rT (gv:Bool) (σ:St):PL → Option (TV × St)
 | .f x=>some (.f x,σ)
 | .bY=>some (.f (.sl []),σ)
 | .fp cs=>some (.fp cs,σ)
 | .fn f cs=>some (.fn f cs,σ)
 | .own key _=>match get σ.ob key with
  | some (.row sz rows)=>if gv then some (.own sz rows,⟨σ.tm,rem σ.ob key⟩) else some (.f (.sl rows),σ)
  | _=>none
 | .iU=>some (.iU,σ)
 | .fA=>some (.fA,σ)
 | .ptr key 0=>match get σ.ob key with
  | some (.eT xs)=>(zM ⟨σ.tm,rem σ.ob key⟩ xs).map fun p=>(.ptr p.1,p.2)
  | _=>none
 | .mp key=>match get σ.ob key with
  | some (.map sh ents)=>some (.mp sh ents,⟨σ.tm,rem σ.ob key⟩)
  | _=>none
 | _=>none
def rU (gv:Bool):St → List PL → Option (List TV × St)
 | σ,[]=>some ([],σ)
 | σ,x :: xs=>(rT gv σ x).bind fun p=>(rU gv p.2 xs).map fun q=>(p.1 :: q.1,q.2)
def Lg (gv:Bool) (σ:St):CV → Option (AV × St)
 | .one x=>(rT gv σ x).map fun p=>(.one p.1,p.2)
 | .agg xs=>(rU gv σ xs).map fun p=>(.agg p.1,p.2)
def sI (gv:Bool):St → List CV → Option (List AV × St)
 | σ,[]=>some ([],σ)
 | σ,x :: xs=>(Lg gv σ x).bind fun p=>(sI gv p.2 xs).map fun q=>(p.1 :: q.1,q.2)
def newP (pend:List PL) (σ:St) (key:Nat) (o:Ob):Option St:=if pend.any (d9 key) then none else new σ key o
def qR (kf:Nat → Nat):Nat → List PL → St → List CL → Option (List PL × St)
 | _,_,σ,[]=>some ([],σ)
 | c,pend,σ,.f x :: xs=>(qR kf (c + 1) (.f x :: pend) σ xs).map fun p=>(.f x :: p.1,p.2)
 | c,pend,σ,.iU :: xs=>(qR kf (c + 1) (.iU :: pend) σ xs).map fun p=>(.iU :: p.1,p.2)
 | c,pend,σ,.fA :: xs=>(qR kf (c + 1) (.fA :: pend) σ xs).map fun p=>(.fA :: p.1,p.2)
 | c,pend,σ,.mp sh ents :: xs=>(newP pend σ (kf c) (.map sh ents)).bind fun s=>(qR kf (c + 1) (.mp (kf c) :: pend) s xs).map fun p=>(.mp (kf c) :: p.1,p.2)
 | c,pend,σ,.own sz rows :: xs=>(newP pend σ (kf c + kf c % 2) (.row sz rows)).bind fun s=>(qR kf (c + 1) (.own (kf c + kf c % 2) rows.length :: pend) s xs).map fun p=>(.own (kf c + kf c % 2) rows.length :: p.1,p.2)
def PZ (base c:Nat):Nat:=base + 2 * (c + 1)
def ow (key:Nat):Nat:=if key / 10000 % 2 = 0 then key + key % 2 else key
def DR (key:Nat) (pend:List PL) (σ:St):TV → Option (PL × St)
 | .f x=>some (.f x,σ)
 | .iU=>some (.iU,σ)
 | .fA=>some (.fA,σ)
 | .ptr cs=>(qR (PZ key) 0 pend σ cs).bind fun p=>if p.1.any (d9 key) then none else (newP pend p.2 key (.eT p.1)).map fun s=>(.ptr key 0,s)
 | .mp sh ents=>(newP pend σ key (.map sh ents)).map fun s=>(.mp key,s)
 | .own sz rows=>(newP pend σ (ow key) (.row sz rows)).map fun s=>(.own (ow key) rows.length,s)
 | .fp cs=>some (.fp cs,σ)
 | .fn f cs=>some (.fn f cs,σ)
 | .any=>some (.any,σ)
def xE (base:Nat):Nat → List PL → St → List TV → Option (List PL × St)
 | _,_,σ,[]=>some ([],σ)
 | j,pend,σ,x :: xs=>(DR (base + 200 * (j + 1)) pend σ x).bind fun p=>(xE base (j + 1) (p.1 :: pend) p.2 xs).map fun q=>(p.1 :: q.1,q.2)
def Lh (base:Nat) (pend:List PL) (σ:St):AV → Option (CV × St)
 | .one x=>(DR (base + 200) pend σ x).map fun p=>(.one p.1,p.2)
 | .agg xs=>(xE base 0 pend σ xs).map fun p=>(.agg p.1,p.2)
def xG (base:Nat):Nat → List PL → St → List AV → Option (List CV × St)
 | _,_,σ,[]=>some ([],σ)
 | i,pend,σ,x :: xs=>(Lh (base + 2000 * i) pend σ x).bind fun p=>(xG base (i + 1) (cells p.1 ++ pend) p.2 xs).map fun q=>(p.1 :: q.1,q.2)
def JV (base:Nat) (xs:List PL) (c:Nat):Nat:=match xs[c]? with
 | some (.mp k)=>if k % 2 = 0 then k else base + 2 * (c + 1)
 | some (.own k _)=>if k % 2 = 0 then k else base + 2 * (c + 1)
 | _=>base + 2 * (c + 1)
def DT (fI:St) (pend:List PL) (base:Nat) (σ:St):PL → TV → Option St
 | .ptr key _,.ptr cs=>match get fI.ob key with
  | some (.eT xs)=>(qR (JV base xs) 0 pend σ cs).map fun p=>jA p.2 key (.eT p.1)
  | _=>none
 | .mp key,.mp sh ents=>some (jA σ key (.map sh ents))
 | .own key _,.own sz rows=>some (jA σ key (.row sz rows))
 | .ptr _ _,_=>none
 | .mp _,_=>none
 | _,.ptr _=>none
 | _,.mp _ _=>none
 | _,_=>some σ
def BQ (fI:St) (pend:List PL):Nat → St → List PL → List TV → Option St
 | _,σ,[],[]=>some σ
 | base,σ,x :: xs,y :: ys=>(DT fI pend base σ x y).bind fun s=>BQ fI pend (base + 200) s xs ys
 | _,_,_,_=>none
def Zi (fI:St) (pend:List PL) (base:Nat) (σ:St):CV → AV → Option St
 | .one x,.one y=>DT fI pend base σ x y
 | .agg xs,.agg ys=>BQ fI pend base σ xs ys
 | _,_=>none
def zN (fI:St) (pend:List PL):Nat → St → List CV → List AV → Option St
 | _,σ,[],[]=>some σ
 | base,σ,x :: xs,y :: ys=>(Zi fI pend base σ x y).bind fun s=>zN fI pend (base + 1000) s xs ys
 | _,_,_,_=>none
def Lx : TV → Bool
 | .f x=>TD x
 | _=>true
def wH : AV → Bool
 | .one x=>Lx x
 | .agg xs=>xs.any Lx
def plain : TV → Bool
 | .ptr _=>false
 | .mp _ _=>false
 | .own _ _=>false
 | _=>true
def fJ : AV → Bool
 | .one x=>plain x
 | .agg xs=>xs.all plain
def xH : St → List PL → Option St
 | σ,[]=>some σ
 | σ,.own key _ :: xs=>(zI σ key).bind fun s=>xH s xs
 | σ,_ :: xs=>xH σ xs
def sJ : St → List CV → Option St
 | σ,[]=>some σ
 | σ,x :: xs=>(xH σ (cells x)).bind fun s=>sJ s xs
def gD : PL → Bool
 | .own _ _=>true
 | _=>false
def JW : List CV → PV
 | [x]=>.c x
 | xs=>.uM xs
abbrev Env := FuncId → List AV → Option (List AV × List AV)
def P5 : AV → AV
 | .one (.own _ rows)=>.one (.f (.sl rows))
 | x=>x
def Vf (q:Bool) (r:List AV × List AV):List AV × List AV:=if q then (r.1.map P5,r.2) else r
def kU (Γ:Env) (gv q:Bool) (σ:St) (d:Nat) (f:FuncId) (args:List CV):Option (PV × St) :=
 (sI gv σ args).bind fun p=>((Γ f p.1).map (Vf q)).bind fun r =>
  if q && !(p.1.all fJ && r.1.all fJ) then none else
  if q && ((r.1.any wH || !p.1.all fJ) && args.any (fun x=>(cells x).any gD)) then none else
  (if !gv && ((r.1.any wH || !p.1.all fJ) && args.any (fun x=>(cells x).any gD)) then sJ p.2 args else some p.2).bind fun s1 =>
  (if p.1.all fJ then some s1 else zN σ (args.flatMap cells) (dA d + 10000) s1 args r.2).bind fun s2 =>
  (xG (dA d) 0 [] s2 r.1).map fun u=>(JW u.1,u.2)
def avT : PL → Option TV
 | .f x=>some (.f x)
 | .bY=>some (.f (.sl []))
 | .fp cs=>some (.fp cs)
 | .fn f cs=>some (.fn f cs)
 | .iU=>some .iU
 | .fA=>some .fA
 | _=>none
def P6 : List PL → Option (List TV)
 | []=>some []
 | x :: xs=>(avT x).bind fun y=>(P6 xs).map fun ys=>y :: ys
def avC : CV → Option AV
 | .one x=>(avT x).map .one
 | .agg xs=>(P6 xs).map .agg
def LA : List CV → Option (List AV)
 | []=>some []
 | x :: xs=>(avC x).bind fun y=>(LA xs).map fun ys=>y :: ys
def Vg : List AV → Option (Nat × List (List FV))
 | [.one (.own sz rows)]=>some (sz,rows)
 | _=>none
def sK (Γ:Env) (σ:St) (d:Nat) (f:FuncId) (args:List CV):Option (PV × St) :=
 (LA args).bind fun dS=>(Γ f dS).bind fun r=>(Vg r.1).bind fun p=>(new σ (dA d) (.row p.1 p.2)).map fun s=>(.c (.one (.own (dA d) p.2.length)),s)
def LB (key:Nat) (cs:List FV):PL → PL
 | .ptr k o=>if k = key then .fp (cs.drop o) else .ptr k o
 | x=>x
def LC (g:PL → PL):CV → CV
 | .one x=>.one (g x)
 | .agg xs=>.agg (xs.map g)
def Vh (g:PL → PL):PV → PV
 | .c x=>.c (LC g x)
 | .uM xs=>.uM (xs.map (LC g))
def Vi (g:PL → PL):Ob → Ob
 | .eT xs=>.eT (xs.map g)
 | o=>o
def Vj (g:PL → PL) (σ:St):St:=⟨σ.tm.map (fun p=>(p.1,Vh g p.2)),σ.ob.map (fun p=>(p.1,Vi g p.2))⟩
def Yh (σ:St) (key:Nat):Option (List FV × St):=match get σ.ob key with
 | some (.eT xs)=>(kJ σ xs).bind fun p=>match get p.2.ob key with
  | some _=>some (p.1,Vj (LB key p.1) ⟨p.2.tm,rem p.2.ob key⟩)
  | none=>none
 | _=>none
def lZ (q:Bool):St → List CV → Option (List (List FV) × St)
 | σ,[]=>some ([],σ)
 | σ,.one (.fp cs) :: l=>(lZ q σ l).map fun r=>(cs :: r.1,r.2)
 | σ,.one (.ptr key 0) :: l=>if q then none else (Yh σ key).bind fun p=>(lZ q p.2 l).map fun r=>(p.1 :: r.1,r.2)
 | _,_=>none
def bytesOf : List (List FV) → Option ByteArray
 | []=>some ⟨#[]⟩
 | [.int .u8 n] :: l=>(bytesOf l).map fun s=>⟨#[UInt8.ofNat n.toNat] ++ s.data⟩
 | _=>none
def jw (σ:St):List dM → Option (List CV)
 | []=>some []
 | x :: xs=>(val σ x).bind fun v=>(jw σ xs).map fun l=>v :: l
def sM (σ:St):dM → Option PV
 | .t i=>get σ.tm i
 | .k x=>some (.c x)
def rng (len:Nat) (σ:St) (lo hi:Option dM):Option (Nat × Nat):=(bnd σ len hi len).bind fun h=>(bnd σ h lo 0).map fun l=>(l,h)
def bZ (Γ:Env) (q:Bool) (σ:St) (d:Nat):I → Option (PV × St)
 | .mv x=>(sM σ x).map fun v=>(v,σ)
 | .pick c a b=>(val σ c).bind fun v=>(bool? v).bind fun t=>(val σ (if t then a else b)).map fun u=>(.c u,σ)
 | .alloc _ z=>if z.any (d9 (dA d)) then none else gP σ (dA d) (.eT z) (.ptr (dA d) 0)
 | .box _ x=>(val σ x).bind fun v=>if (cells v).any pO || (cells v).any (d9 (dA d)) then none else gP σ (dA d) (.eT (cells v)) (.ptr (dA d) 0)
 | .build z ps=>(vals σ ps).bind fun l=>(fill z l).map fun z=>(.c (.agg z),σ)
 | .zH _ sz len z ps=>(vals σ ps).bind fun l=>(fill z l).bind fun z=>if q && z.any gD then none else (kJ σ z).bind fun p=>gP p.2 (dA d) (.row sz (rowsOf sz len p.1)) (.own (dA d) len)
 | .PD _ sz len z ps=>((vals σ ps).bind fun l=>(fill z l).bind fun z=>if q && z.any gD then none else (kJ σ z).bind fun p=>gP p.2 (dA d) (.row sz (rowsOf sz len p.1)) (.own (dA d) len)).bind fun r=>D5 r.1 r.2
 | .load n agg x=>(val σ x).bind fun v=>match v with
  | .one (.ptr key off)=>match get σ.ob key with
   | some (.eT xs)=>(seg n off xs).bind fun l=>(mk agg l).map fun u=>(.c u,σ)
   | _=>none
  | .one (.fp cs)=>(seg n 0 cs).bind fun l=>(mk agg (l.map .f)).map fun u=>(.c u,σ)
  | .one (.rp key z i off)=>match get σ.ob key with
   | some (.row sz rows)=>if sz ≠ z then none else rows[i]?.bind fun r=>(seg n off r).bind fun l=>(mk agg (l.map .f)).map fun u=>(.c u,σ)
   | _=>none
  | _=>none
 | .store n x y=>(val σ x).bind fun v=>(val σ y).bind fun u=>if (cells u).length = n ∧ (cells u).any pO = false then (match v with
  | .one (.ptr key off)=>match get σ.ob key with
   | some (.eT xs)=>(lay off (cells u) xs).map fun l=>(.c (.one .und),jA σ key (.eT l))
   | _=>none
  | .one (.rp key z i off)=>if q && (cells u).any gD then none else (kJ σ (cells u)).bind fun p=>match get p.2.ob key with
   | some (.row sz rows)=>if sz ≠ z then none else rows[i]?.bind fun r=>(lay off p.1 r).map fun l=>(.c (.one .und),jA p.2 key (.row sz (rows.set i l)))
   | _=>none
  | _=>none) else none
 | .gZ x=>(val σ x).bind fun v=>match v with
  | .one (.ptr _ _)=>some (.c v,σ)
  | .one (.fp _)=>some (.c v,σ)
  | .one (.rp _ _ _ _)=>some (.c v,σ)
  | _=>none
 | .xq neg x=>(val σ x).bind fun v=>match v with
  | .one .iU=>one (.bool (!neg)) σ
  | .one (.ptr _ _)=>one (.bool neg) σ
  | .one (.fp _)=>one (.bool neg) σ
  | .one (.rp _ _ _ _)=>one (.bool neg) σ
  | _=>none
 | .ar o x y=>(val σ x).bind fun u=>(val σ y).bind fun v=>(int? u).bind fun a=>(int? v).bind fun b=>if a.1 = b.1 then (Lf o a.1 a.2 b.2).bind fun n=>one (.int a.1 n) σ else none
 | .cmp o x y=>(val σ x).bind fun u=>(val σ y).bind fun v=>(int? u).bind fun a=>(int? v).bind fun b=>if a.1 = b.1 then one (.bool (xD o a.2 b.2)) σ else none
 | .ru sh neg x y=>(val σ x).bind fun u=>(val σ y).bind fun v=>(keyOf u).bind fun a=>(keyOf v).bind fun b=>if a.ks = sh ∧ b.ks = sh then one (.bool (if neg then !decide (a = b) else decide (a = b))) σ else none
 | .cat x y=>(val σ x).bind fun u=>(val σ y).bind fun v=>match u,v with
  | .one (.f (.str a)),.one (.f (.str b))=>if a.size + b.size ≤ 9223372036854775807 then one (.str (a ++ b)) σ else none
  | _,_=>none
 | .no x=>(val σ x).bind fun u=>(bool? u).bind fun b=>one (.bool (!b)) σ
 | .ci k x=>(val σ x).bind fun u=>(int? u).bind fun a=>one (.int k (k.wrap a.2)) σ
 | .nA x=>(val σ x).bind fun u=>match u with
  | .one (.f (.str s))=>one (.str s) σ
  | _=>none
 | .pK sh=>gP σ (dA d) (.map sh []) (.mp (dA d))
 | .JO x lo hi=>(val σ x).bind fun v=>match v with
  | .one (.f (.str s))=>(rng s.size σ lo hi).bind fun p=>one (.str (s.extract p.1 p.2)) σ
  | _=>none
 | .cut sz x lo hi=>(val σ x).bind fun v=>match v with
  | .one (.f (.sl rows))=>if rows.all (fun r=>r.length == sz) = false then none else (rng rows.length σ lo hi).bind fun p=>one (.sl ((rows.drop p.1).take (p.2 - p.1))) σ
  | .one .bY=>(rng 0 σ lo hi).bind fun p=>one (.sl []) σ
  | .one (.own key _)=>match get σ.ob key with
   | some (.row sz' rows)=>if sz' ≠ sz then none else (rng rows.length σ lo hi).bind fun p=>if q then none else (zI σ key).bind fun s=>one (.sl ((rows.drop p.1).take (p.2 - p.1))) s
   | _=>none
  | _=>none
 | .fa off x=>(val σ x).bind fun v=>match v with
  | .one (.ptr key o)=>some (.c (.one (.ptr key (o + off))),σ)
  | .one (.fp cs)=>some (.c (.one (.fp (cs.drop off))),σ)
  | .one (.rp key z i o)=>some (.c (.one (.rp key z i (o + off))),σ)
  | _=>none
 | .Yd off n agg x=>(val σ x).bind fun v=>match v with
  | .agg xs=>(seg n off xs).bind fun l=>(mk agg l).map fun u=>(.c u,σ)
  | _=>none
 | .ia sz x i=>(val σ x).bind fun v=>(val σ i).bind fun j=>(int? j).bind fun p=>if 0 ≤ p.2 then (match v with
  | .one (.f (.sl rows))=>rows[p.2.toNat]?.bind fun r=>if r.length = sz then some (.c (.one (.fp r)),σ) else none
  | .one (.own key n)=>match get σ.ob key with
   | some (.row sz' rows)=>if sz' = sz ∧ p.2 < n ∧ n = rows.length then some (.c (.one (.rp key sz p.2.toNat 0)),σ) else none
   | _=>none
  | _=>none) else none
 | .idx sz len agg x i=>(val σ x).bind fun v=>(val σ i).bind fun j=>(int? j).bind fun p=>if 0 ≤ p.2 ∧ p.2 < len then (match v with
  | .agg xs=>(seg sz (p.2.toNat * sz) xs).bind fun l=>(mk agg l).map fun u=>(.c u,σ)
  | _=>none) else none
 | .chr x i=>(val σ x).bind fun v=>(val σ i).bind fun j=>(int? j).bind fun p=>match v with
  | .one (.f (.str s))=>if 0 ≤ p.2 then s.data[p.2.toNat]?.bind fun b=>one (.int .u8 b.toNat) σ else none
  | _=>none
 | .look sh z ok x k=>(val σ x).bind fun v=>(val σ k).bind fun u=>(keyOf u).bind fun a=>if a.ks ≠ sh then none else
  (match v with
  | .one .fA=>some none
  | .one (.mp key)=>match get σ.ob key with
   | some (.map sh' ents)=>if sh' = sh then some (sH ents a) else none
   | _=>none
  | _=>none:Option (Option FC)).map fun r=>(if ok then .uM [xC (r.getD z),.one (.f (.bool r.isSome))] else .c (xC (r.getD z)),σ)
 | .xu sh x k y=>(val σ x).bind fun v=>(val σ k).bind fun u=>(keyOf u).bind fun a=>if a.ks ≠ sh then none else (val σ y).bind fun w=>if q && (cells w).any gD then none else (Yg σ w).bind fun p=>match v with
  | .one (.mp key)=>match get p.2.ob key with
   | some (.map sh' ents)=>if sh' = sh then some (.c (.one .und),jA p.2 key (.map sh (xB ents a p.1))) else none
   | _=>none
  | _=>none
 | .del sh x k=>(val σ x).bind fun v=>(val σ k).bind fun u=>(keyOf u).bind fun a=>if a.ks ≠ sh then none else match v with
  | .one .fA=>some (.uM [],σ)
  | .one (.mp key)=>match get σ.ob key with
   | some (.map sh' ents)=>if sh' = sh then some (.uM [],jA σ key (.map sh (BP ents a))) else none
   | _=>none
  | _=>none
 | .ext x i=>match sM σ x with
  | some (.uM l)=>l[i]?.map fun v=>(.c v,σ)
  | _=>none
 | .xw x=>(val σ x).bind fun v=>match v with
  | .one (.f (.str s))=>one (.int .i64 s.size) σ
  | _=>none
 | .iB x=>(val σ x).bind fun v=>match v with
  | .one (.f (.sl rows))=>one (.int .i64 rows.length) σ
  | .one .bY=>one (.int .i64 0) σ
  | .one (.own _ n)=>one (.int .i64 n) σ
  | _=>none
 | .JQ x=>(val σ x).bind fun v=>match v with
  | .one .fA=>one (.int .i64 0) σ
  | .one (.mp key)=>match get σ.ob key with
   | some (.map _ ents)=>one (.int .i64 ents.length) σ
   | _=>none
  | _=>none
 | .app _ sz bytes x y=>(val σ x).bind fun v=>(val σ y).bind fun u=>(qx σ u).bind fun new=>match v with
  | .one .bY=>if q = false ∧ new.length * bytes ≤ 140737488355328 ∧ new.all (fun r=>r.length == sz) then gP σ (dA d) (.row sz new) (.own (dA d) new.length) else none
  | .one (.own key n)=>match get σ.ob key with
   | some (.row sz' rows)=>if q = false ∧ (rows.length + new.length) * bytes ≤ 140737488355328 ∧ sz' = sz ∧ n = rows.length ∧ vM key u = false ∧ key % 2 = 0 ∧ new.all (fun r=>r.length == sz) then
     some (.c (.one (.own key (rows.length + new.length))),jA (sub σ key .any) key (.row sz (rows ++ new))) else none
   | _=>none
  | _=>none
 | .mn x y=>(val σ x).bind fun u=>(val σ y).bind fun v=>(int? u).bind fun a=>(int? v).bind fun b=>if a.1 = b.1 then one (.int a.1 (if b.2 < a.2 then b.2 else a.2)) σ else none
 | .mx x y=>(val σ x).bind fun u=>(val σ y).bind fun v=>(int? u).bind fun a=>(int? v).bind fun b=>if a.1 = b.1 then one (.int a.1 (if a.2 < b.2 then b.2 else a.2)) σ else none
 | .call gv f xs=>(jw σ xs).bind fun l=>kU Γ gv q σ d f l
 | .zK f xs=>(jw σ xs).bind fun l=>sK Γ σ d f l
 | .zL neg x=>(val σ x).bind fun v=>match v with
  | .one .bY=>one (.bool (!neg)) σ
  | .one (.f (.sl (_ :: _)))=>one (.bool neg) σ
  | _=>none
 | .bit o x y=>(val σ x).bind fun u=>(val σ y).bind fun v=>(int? u).bind fun a=>(int? v).bind fun b=>if a.1 = b.1 then one (.int a.1 (Go.bits o a.1 a.2 b.2)) σ else none
 | .Vd l x y=>(val σ x).bind fun u=>(val σ y).bind fun v=>(int? u).bind fun a=>(int? v).bind fun b=>if 0 ≤ b.2 then one (.int a.1 (if l then a.1.wrap (a.2 * 2 ^ (min b.2.toNat a.1.bits)) else a.2.fdiv (2 ^ (min b.2.toNat a.1.bits)))) σ else none
 | .PX f xs=>(jw σ xs).bind fun l=>(lZ q σ l).map fun p=>(.c (.one (.fn f p.1)),p.2)
 | .dyn x xs=>(val σ x).bind fun v=>match v with
  | .one (.fn f caps)=>(jw σ xs).bind fun l=>kU Γ false q σ d f (l ++ caps.map fun c=>.one (.fp c))
  | _=>none
 | .DZ sz x hi=>if q then none else (val σ x).bind fun v=>(val σ hi).bind fun j=>(int? j).bind fun p=>match v with
  | .one (.own key n)=>match get σ.ob key with
   | some (.row sz' rows)=>if sz' = sz ∧ key % 2 = 0 ∧ 0 ≤ p.2 ∧ p.2 ≤ rows.length then some (.c (.one (.own key p.2.toNat)),jA (sub σ key .any) key (.row sz (rows.take p.2.toNat))) else none
   | _=>none
  | _=>none
 | .cutV sz x lo=>(val σ x).bind fun v=>(val σ lo).bind fun j=>(int? j).bind fun p=>match v with
  | .one (.own key n)=>match get σ.ob key with
   | some (.row sz' rows)=>if sz' = sz ∧ 0 ≤ p.2 ∧ p.2 ≤ rows.length then some (.c (.one (.vw key sz rows.length p.2.toNat)),σ) else none
   | _=>none
  | _=>none
 | .TB sz z x=>(val σ x).bind fun v=>match v with
  | .one (.vw key z' n lo)=>match get σ.ob key with
   | some (.row sz' rows)=>if sz' = sz ∧ z' = sz ∧ z.length = sz ∧ n = rows.length ∧ lo ≤ n then some (.uM [],jA σ key (.row sz (rows.take lo ++ List.replicate (n - lo) z))) else none
   | _=>none
  | _=>none
 | .Ye x=>(val σ x).bind fun v=>match v with
  | .one (.f (.sl rows))=>(bytesOf rows).bind fun s=>one (.str s) σ
  | .one .bY=>one (.str ⟨#[]⟩) σ
  | .one (.own key _)=>match get σ.ob key with
   | some (.row sz rows)=>if sz = 1 then (bytesOf rows).bind fun s=>one (.str s) σ else none
   | _=>none
  | _=>none
def zO (σ:St):Option (Option Nat × Bool) → Option Bool
 | none=>some true
 | some (none,_)=>some false
 | some (some s,want)=>match get σ.tm s with
  | some (.c (.one (.f (.bool b))))=>some (b == want)
  | some (.c (.one .und))=>some false
  | _=>none
def qU (σ:St) (d:Option Nat) (v:PV):St:=match d with
 | some d=>⟨put σ.tm d v,σ.ob⟩
 | none=>σ
def mH (Γ:Env) (q:Bool) (σ:St) (g:G):Option (PV × St):=(zO σ g.gd).bind fun w =>
 if w then bZ Γ q σ (g.dst.getD 999) g.i else some (.c (.one .und),σ)
def PE (Γ:Env) (q:Bool) (σ:St) (g:G):Option St:=(mH Γ q σ g).map fun p=>qU p.2 g.dst p.1
def wI (Γ:Env) (q:Bool):List G → St → Option St
 | [],σ=>some σ
 | g :: l,σ=>(PE Γ q σ g).bind (wI Γ q l)
def gN : I → Bool
 | .alloc _ _=>true
 | .box _ _=>true
 | .zH _ _ _ _ _=>true
 | .zK _ _=>true
 | .pK _=>true
 | _=>false
def fresh (σ:St) (key:Nat):Bool:=σ.ob.all (fun p=>!(p.1 == key) && !mG key p.2) && σ.tm.all (fun p=>!rz key p.2)
def sN (d:Option Nat) (tm:List (Nat × PV)) (v:PV):List (Nat × PV):=match d with
 | some d=>put tm d v
 | none=>tm
def P7 (Γ:Env) (rA:List (Nat × Ob)):List (G × List Nat) → St → Option St
 | [],σ=>some σ
 | (g,nk) :: l,σ=>(mH Γ true ⟨σ.tm,rA⟩ g).bind fun p =>
  if nk.any (fun k=>rz k p.1 || (gN g.i && (p.2.ob.take 1).any (fun r=>r.1 == k || mG k r.2))) then none else
   P7 Γ rA l ⟨sN g.dst σ.tm p.1,if gN g.i then p.2.ob.take 1 ++ σ.ob else σ.ob⟩
def LD (Γ:Env) (tm:List (Nat × PV)):List G → List (Nat × Ob) → Option (List (Nat × Ob))
 | [],ob=>some ob
 | g :: l,ob=>match g.i with
  | .store n x y=>match val ⟨tm,ob⟩ x with
   | some (.one (.ptr _ _))=>(bZ Γ true ⟨tm,ob⟩ 999 (.store n x y)).bind fun p=>LD Γ tm l p.2.ob
   | _=>none
  | _=>none
def sO (tm:List (Nat × PV)) (g:G):List Nat:=match g.i with
 | .store _ x _=>match val ⟨tm,[]⟩ x with
  | some (.one (.ptr k _))=>[k]
  | _=>[]
 | _=>[]
def Yi (Γ:Env) (pre:List (G × List Nat)) (lY:List Nat) (jR rest:List G) (σ:St):Option St :=
 if pre.all (fun g=>!gN g.1.i || fresh σ (dA (g.1.dst.getD 999))) then (P7 Γ σ.ob pre σ).bind fun s =>
  if lY.all (fun j=>(mH Γ true ⟨pick (s.tm.map (·.1)) s.tm,σ.ob.filter (fun p=>!(jR.flatMap (sO (pick (s.tm.map (·.1)) s.tm))).contains p.1)⟩ (pre.getD j default).1).isSome) then
   (LD Γ (pick (s.tm.map (·.1)) s.tm) jR s.ob).bind fun ob=>wI Γ false rest ⟨pick (s.tm.map (·.1)) s.tm,ob⟩ else none
 else none
inductive Out where
 | jg
 | ext (id:Nat)
 | ret
 deriving DecidableEq,Inhabited
def iter (body:St → Option (Out × St)) (rs:St → St):Nat → St → Option (Out × St)
 | 0,_=>none
 | n + 1,σ=>(body (rs σ)).bind fun p=>match p.1 with
  | .jg=>iter body rs n p.2
  | o=>some (o,p.2)
def jg (σ:St):List (Nat × Nat) → St
 | []=>σ
 | (s,sz) :: l=>match get σ.tm s with
  | some (.c (.one .bY))=>if sz = 0 then jg σ l else (match new σ (dA s) (.row sz []) with
   | some t=>jg ⟨put t.tm s (.c (.one (.own (dA s) 0))),t.ob⟩ l
   | none=>jg σ l)
  | _=>jg σ l
def res (keep BO:List Nat) (rws:List (Nat × Nat)) (σ:St):St:=let τ:=jg σ rws;⟨pick keep τ.tm,pick BO τ.ob⟩
def kV (Γ:Env) (gs:List G) (ks mF:List Nat) (σ r:St):List (List Nat) → Prop
 | []=>True
 | o :: os=>(∃ s,wI Γ false (o.map fun i=>gs.getD i default) σ = some s ∧ (⟨pick ks s.tm,pick mF s.ob⟩:St) = r) ∧ kV Γ gs ks mF σ r os
open Classical in
noncomputable def evO (Γ:Env) (gs:List G) (ks mF:List Nat) (σ:St):List (List Nat) → Option (Out × St)
 | []=>none
 | o :: os=>(wI Γ false (o.map fun i=>gs.getD i default) σ).bind fun s =>
  if kV Γ gs ks mF σ ⟨pick ks s.tm,pick mF s.ob⟩ os then some (.jg,⟨pick ks s.tm,pick mF s.ob⟩) else none
noncomputable def ev (Γ:Env) (F:Nat):CC → St → Option (Out × St)
 | .skip,σ=>some (.jg,σ)
 | .reg is ks,σ=>(wI Γ false is σ).map fun s=>(.jg,⟨pick ks s.tm,s.ob⟩)
 | .sD pre lY jR rest ks,σ=>(Yi Γ pre lY jR rest σ).map fun s=>(.jg,⟨pick ks s.tm,s.ob⟩)
 | .any gs Zh ks mF,σ=>evO Γ gs ks mF σ Zh
 | .seq a b,σ=>(ev Γ F a σ).bind fun p=>match p.1 with
  | .jg=>ev Γ F b p.2
  | o=>some (o,p.2)
 | .cond c a b,σ=>(val σ c).bind fun v=>(bool? v).bind fun t=>if t then ev Γ F a σ else ev Γ F b σ
 | .block id c,σ=>(ev Γ F c σ).map fun p=>match p.1 with
  | .ext i=>if i = id then (.jg,p.2) else (.ext i,p.2)
  | o=>(o,p.2)
 | .loop keep BO rws c,σ=>iter (ev Γ F c) (res keep BO rws) F σ
 | .exit id,σ=>some (.ext id,σ)
 | .ret,σ=>some (.ret,σ)
def ab (bo:List Nat) (i:Nat):Nat:=if bo.contains i then dA i + 10001 else dA i + 1
def enter (bo:List Nat):Nat → List PL → St → List AV → Option (List CV × St)
 | _,_,σ,[]=>some ([],σ)
 | i,pend,σ,x :: xs=>(Lh (ab bo i) pend σ x).bind fun p=>(enter bo (i + 1) (cells p.1 ++ pend) ⟨put p.2.tm i (.c p.1),p.2.ob⟩ xs).map fun r=>(p.1 :: r.1,r.2)
def outT (σ:St):PL → Option (TV × St)
 | .f x=>some (.f x,σ)
 | .bY=>some (.f (.sl []),σ)
 | .fp cs=>some (.fp cs,σ)
 | .fn f cs=>some (.fn f cs,σ)
 | .own key n=>(vN σ (.own key n)).map fun p=>(.f p.1,p.2)
 | .iU=>some (.iU,σ)
 | .fA=>some (.fA,σ)
 | .ptr key 0=>match get σ.ob key with
  | some (.eT xs)=>(zM ⟨σ.tm,rem σ.ob key⟩ xs).map fun p=>(.ptr p.1,p.2)
  | _=>none
 | .mp key=>match get σ.ob key with
  | some (.map sh ents)=>some (.mp sh ents,⟨σ.tm,rem σ.ob key⟩)
  | _=>none
 | _=>none
def vO : St → List PL → Option (List TV × St)
 | σ,[]=>some ([],σ)
 | σ,x :: xs=>(outT σ x).bind fun p=>(vO p.2 xs).map fun q=>(p.1 :: q.1,q.2)
def P8 (σ:St):CV → Option (AV × St)
 | .one x=>(outT σ x).map fun p=>(.one p.1,p.2)
 | .agg xs=>(vO σ xs).map fun p=>(.agg p.1,p.2)
def BR (sz:Nat) (σ:St):PL → Option (TV × St)
 | .own key _=>match get σ.ob key with
  | some (.row z rows)=>if z = sz then some (.own sz rows,⟨σ.tm,rem σ.ob key⟩) else none
  | _=>none
 | .bY=>if sz = 0 then none else some (.own sz [],σ)
 | _=>none
def BS (fl:Option Nat) (σ:St) (x:CV):Option (AV × St):=match fl,x with
 | some sz,.one x=>(BR sz σ x).map fun p=>(.one p.1,p.2)
 | some _,.agg _=>none
 | none,x=>P8 σ x
def mI : List (Option Nat) → St → List CV → Option (List AV × St)
 | _,σ,[]=>some ([],σ)
 | fl,σ,x :: xs=>(BS (fl.headD none) σ x).bind fun p=>(mI fl.tail p.2 xs).map fun q=>(p.1 :: q.1,q.2)
def jS (σ:St):PL → TV → Option (TV × St)
 | .own key _,.own _ _=>if key % 2 = 1 then (match get σ.ob key with
  | some (.row z rows)=>some (.own z rows,⟨σ.tm,rem σ.ob key⟩)
  | _=>none) else some (.any,σ)
 | _,.own _ _=>some (.any,σ)
 | .ptr key 0,.ptr _=>if key % 2 = 1 then outT σ (.ptr key 0) else none
 | .mp key,.mp _ _=>if key % 2 = 1 then outT σ (.mp key) else none
 | _,.ptr _=>none
 | _,.mp _ _=>none
 | _,x=>some (x,σ)
def oJ : St → List PL → List TV → Option (List TV × St)
 | σ,[],[]=>some ([],σ)
 | σ,l :: ls,x :: xs=>(jS σ l x).bind fun p=>(oJ p.2 ls xs).map fun q=>(p.1 :: q.1,q.2)
 | _,_,_=>none
def xI (σ:St):CV → AV → Option (AV × St)
 | .one l,.one x=>(jS σ l x).map fun p=>(.one p.1,p.2)
 | .agg ls,.agg xs=>(oJ σ ls xs).map fun p=>(.agg p.1,p.2)
 | _,_=>none
def j6 : St → List CV → List AV → Option (List AV × St)
 | σ,[],[]=>some ([],σ)
 | σ,l :: ls,x :: xs=>(xI σ l x).bind fun p=>(j6 p.2 ls xs).map fun q=>(p.1 :: q.1,q.2)
 | _,_,_=>none
def slot (σ:St):Rs → Option CV
 | .t i=>val σ (.t i)
 | .cell i n agg=>match get σ.tm i with
  | some (.c (.one (.ptr key off)))=>match get σ.ob key with
   | some (.eT xs)=>(seg n off xs).bind (mk agg)
   | _=>none
  | _=>none
def slots (σ:St):List Rs → Option (List CV)
 | []=>some []
 | i :: l=>(slot σ i).bind fun x=>(slots σ l).map fun r=>x :: r
noncomputable def JX (Γ:Env) (F:Nat) (cf:CF) (dS:List AV):Option (List AV × List AV) :=
 if dS.length ≠ cf.np then none else (enter cf.bo 0 [] ⟨[],[]⟩ dS).bind fun e=>(ev Γ F cf.body e.2).bind fun p=>match p.1 with
  | .ext _=>none
  | _=>(j6 p.2 e.1 dS).bind fun b=>(slots b.2 cf.res).bind fun l=>(mI cf.ro b.2 l).map fun r=>(r.1,b.1)
end Go.Proofs.YtfokaoeinpnagaaGreat.Ev
namespace Go.Proofs.YtfokaoeinpnagaaGreat.Mq
open Go
structure Key (P:Program) (kt:TypeId) (α:Type) [DecidableEq α] (K:α → Value) (ok:α → Prop):Prop where
 check:∀ (e:Bool) (a:α) (w:World),ok a → (Instr.checkKey e 10000 kt (K a)).run P w = .ok () w
 find:∀ (a:α) (l:List MapEntry) (ks:List α) (w:World),ok a → (∀ k ∈ ks,ok k) → l.map (·.key) = ks.map K → (Instr.findKey kt (K a) l).run P w = .ok ((ks.findIdx? (· = a)).bind fun i=>l[i]?.map fun e=>(i,e.val)) w
 bits:∀ a:α,ok a → Instr.sameBits 10000 (K a) (K a) = true
section
variable {P : Program} {kt:TypeId} {α:Type} [DecidableEq α] {K:α → Value} {ok:α → Prop}
theorem asking (heq:∀ (a b:α) (w:World),ok a → ok b → (Op.equal kt (K a) (K b)).run P w = .ok (decide (a = b)) w) (a:α) (ha:ok a):∀ (l:List MapEntry) (ks:List α) (j:Nat) (w:World),(∀ k ∈ ks,ok k) → l.map (·.key) = ks.map K →
  (Instr.findAsking kt (K a) l j).run P w = .ok ((ks.findIdx? (· = a)).bind fun i=>l[i]?.map fun e=>(j + i,e.val)) w
 | [],ks,j,w,_,h=>by
  cases ks with
  | nil=>rfl
  | cons k ks=>simp at h
 | e :: l,[],j,w,_,h=>by simp at h
 | e :: l,k :: ks,j,w,hok,h=>by
  simp only [ajk,akq] at h
  obtain ⟨h1,h2⟩:=h
  unfold Instr.findAsking
  rw [h1]
  simp only [Sem.run_bind,heq a k w ha (hok k akr),Result.andThen]
  by_cases hk:a = k
  ·subst hk
   simp [List.findIdx?_cons]
  ·have hk':¬ k = a:=fun h=>hk h.symm
   simp only [hk,decide_false,ajB,ajv]
   rw [asking heq a ha l ks (j + 1) w (fun x hx=>hok x (ajY _ hx)) h2,List.findIdx?_cons]
   simp only [hk',decide_false,ajB,ajv]
   cases ks.findIdx? (· = a) with
   | none=>rfl
   | some i =>
    simp only [Option.bind_some,Option.map_some,List.getElem?_cons_succ]
    cases l[i]? with
    | none=>rfl
    | some x=>simp only [Option.map_some];rw [show j + 1 + i = j + (i + 1) from by omega]
theorem Key.LG {fs:Array Field} (hu:P.underlying kt = some (.struct fs)) (hc:∀ (e:Bool) (a:α) (w:World),ok a → (Instr.checkKey e 10000 kt (K a)).run P w = .ok () w) (heq:∀ (a b:α) (w:World),ok a → ok b → (Op.equal kt (K a) (K b)).run P w = .ok (decide (a = b)) w) (hb:∀ a:α,ok a → Instr.sameBits 10000 (K a) (K a) = true) (hag:∀ a:α,ok a → ∃ cs,K a = .agg cs):Key P kt α K ok where
 check:=hc
 bits:=hb
 find:=fun a l ks w ha hks h=>by
  unfold Instr.findKey
  simp only [Sem.run_bind,run_underlying hu,Result.andThen]
  cases l with
  | nil =>
   have:ks = []:=by cases ks with | nil=>rfl | cons k ks=>simp at h
   subst this
   simp [Instr.findNow]
  | cons e l =>
   have hn:Instr.findNow (.struct fs) (K a) (e :: l) 0 = none:=by
    obtain ⟨cs,hcs⟩:=hag a ha
    unfold Instr.findNow
    rw [hcs]
    cases e.key <;> rfl
   rw [hn]
   simp only
   rw [asking heq a ha (e :: l) ks 0 w hks h]
   simp only [ajD]
theorem uN (a b:ByteArray):(a == b) = decide (a = b):=by
 by_cases h:a = b
 ·subst h
  rw [aja rfl]
  show (a.data == a.data) = true
  exact beq_self_eq_true _
 ·rw [ajc h]
  show (a.data == b.data) = false
  refine aj7.mpr fun e=>h (akd e)
theorem LH {d:TypeDesc} (hs:∀ a b:α,ok a → ok b → Instr.sameNow d (K a) (K b) = some (decide (a = b))) (a:α) (ha:ok a):∀ (l:List MapEntry) (ks:List α) (j:Nat),(∀ k ∈ ks,ok k) → l.map (·.key) = ks.map K →
  Instr.findNow d (K a) l j = some ((ks.findIdx? (· = a)).bind fun i=>l[i]?.map fun e=>(j + i,e.val))
 | [],ks,j,_,h=>by
  cases ks with
  | nil=>rfl
  | cons k ks=>simp at h
 | e :: l,[],j,_,h=>by simp at h
 | e :: l,k :: ks,j,hok,h=>by
  simp only [ajk,akq] at h
  obtain ⟨h1,h2⟩:=h
  unfold Instr.findNow
  rw [h1,hs a k ha (hok k akr)]
  by_cases hk:a = k
  ·subst hk
   simp [List.findIdx?_cons]
  ·have hk':¬ k = a:=fun h=>hk h.symm
   simp only [ajc hk]
   rw [LH hs a ha l ks (j + 1) (fun x hx=>hok x (ajY _ hx)) h2,List.findIdx?_cons]
   simp only [hk',decide_false,ajB,ajv]
   cases ks.findIdx? (· = a) with
   | none=>rfl
   | some i =>
    simp only [Option.bind_some,Option.map_some,List.getElem?_cons_succ]
    cases l[i]? with
    | none=>rfl
    | some x=>simp only [Option.map_some];rw [show j + 1 + i = j + (i + 1) from by omega]
theorem Key.P9 {d:TypeDesc} (hu:P.underlying kt = some d) (hd:∀ a,ok a → MapKept.IsKey d (K a)) (hs:∀ a b:α,ok a → ok b → Instr.sameNow d (K a) (K b) = some (decide (a = b))) (hb:∀ a:α,ok a → Instr.sameBits 10000 (K a) (K a) = true):Key P kt α K ok where
 check:=fun e a w ha=>MapKept.run_checkKey hu (hd a ha) e 9999
 bits:=hb
 find:=fun a l ks w ha hks h=>by
  unfold Instr.findKey
  simp only [Sem.run_bind,run_underlying hu,Result.andThen]
  rw [LH hs a ha l ks 0 hks h]
  simp only [ajD]
  rfl
def Bn (es:Array MapEntry) (clock:Nat):Prop:=(es.toList.map (·.born)).Nodup ∧ ∀ e ∈ es.toList,e.born < clock
theorem Bn.push {es:Array MapEntry} {clock:Nat} (h:Bn es clock) (k v:Value):Bn (es.push { key:=k,val:=v,born:=clock }) (clock + 1):=by
 unfold Bn
 rw [Array.toList_push,aks]
 refine ⟨akA.mpr ⟨h.1,List.pairwise_singleton _ _,fun a ha b hb=>?_⟩,fun e he=>?_⟩
 ·obtain ⟨e,he,rfl⟩:=ajx.mp ha
  have:=h.2 e he
  simp only [ajk,ajn,aj0] at hb
  omega
 ·rcases ajE.mp he with he | he
  ·have:=h.2 e he;omega
  ·rw [aj0] at he;subst he;exact Nat.lt_succ_self _
theorem Bn.Ij {es es':Array MapEntry} {clock:Nat} (h:Bn es clock) (hs:(es'.toList.map (·.born)).Sublist (es.toList.map (·.born))):Bn es' clock:=by
 refine ⟨hs.nodup h.1,fun e he=>?_⟩
 obtain ⟨e',he',hb⟩:=ajx.mp (hs.subset (List.mem_map_of_mem (f:=(·.born)) he))
 have:=h.2 e' he'
 omega
structure At (w:World) (b:Nat) (K:α → Value) (l:List (α × Value)):Prop where
 ex:∃ es clock,w.heap[b]? = some (.map es clock) ∧ es.toList.map (·.key) = l.map (fun p=>K p.1) ∧ es.toList.map (·.val) = l.map (·.2) ∧ Bn es clock
def idx (l:List (α × Value)) (a:α):Option Nat:=(l.map (·.1)).findIdx? (· = a)
def sP (l:List (α × Value)) (a:α):Option Value:=(idx l a).bind fun i=>l[i]?.map (·.2)
theorem Gf {l:List (α × Value)} {a:α} {i:Nat} (h:idx l a = some i):i < l.length:=by
 unfold idx at h
 obtain ⟨h1,_⟩:=akt.mp h
 rwa [ajb] at h1
theorem Qa {l:List (α × Value)} {a:α} {i:Nat} (h:idx l a = some i):l[i]?.map (·.1) = some a:=by
 unfold idx at h
 obtain ⟨h1,h2,_⟩:=akt.mp h
 have:=ajt.mp h2
 rw [akk] at this
 have hl:i < l.length:=by rwa [ajb] at h1
 rw [ajo hl,Option.map_some,this]
theorem sQ (hk:Key P kt α K ok) {es:Array MapEntry} {l:List (α × Value)} (hl:∀ p ∈ l,ok p.1) (h1:es.toList.map (·.key) = l.map (fun p=>K p.1)) (h2:es.toList.map (·.val) = l.map (·.2)) (a:α) (ha:ok a) (w:World) :
  (Instr.findKey kt (K a) es.toList).run P w = .ok ((idx l a).bind fun i=>l[i]?.map fun p=>(i,p.2)) w:=by
 rw [hk.find a es.toList (l.map (·.1)) w ha (by intro k hx;obtain ⟨p,hp,rfl⟩:=ajx.mp hx;exact hl p hp) (by rw [h1,aku];rfl)]
 unfold idx
 congr 1
 cases hi:(l.map (·.1)).findIdx? (· = a) with
 | none=>rfl
 | some i =>
  simp only [Option.bind_some]
  have:=ajC (fun (x:List Value)=>x[i]?) h2
  simp only [ajf] at this
  cases he:es.toList[i]? with
  | none=>rw [he] at this;cases hp:l[i]? with
   | none=>rfl
   | some p=>rw [hp] at this;cases this
  | some e=>rw [he] at this;cases hp:l[i]? with
   | none=>rw [hp] at this;cases this
   | some p =>
    rw [hp] at this
    simp only [Option.map_some,ajl] at this ⊢
    rw [this]
theorem look (hk:Key P kt α K ok) {w:World} {b:Nat} {l:List (α × Value)} (h:At w b K l) (hl:∀ p ∈ l,ok p.1) (t et:TypeId) (hm:P.underlying t = some (.map kt et)) (z:Value) (hz:(zeroValue et).run P w = .ok z w) (a:α) (ha:ok a) (TF:Bool) :
  (Instr.lookup t (.map (some b)) (K a) TF).run P w = .ok (if TF then .tuple #[(sP l a).getD z,.bool (sP l a).isSome] else (sP l a).getD z) w:=by
 obtain ⟨es,clock,h0,h1,h2,h3⟩:=h.ex
 unfold Instr.lookup
 simp only [Sem.run_bind,run_underlying hm,Result.andThen,MapKept.run_getObj_map h0,hk.check _ a w ha,sQ hk hl h1 h2 a ha,Sem.run_pure]
 unfold sP
 cases hi:idx l a with
 | none=>cases TF <;> simp [hz]
 | some i =>
  have:=Gf hi
  simp only [Option.bind_some,ajo this,Option.map_some]
  cases TF <;> simp
theorem look_nil (hk:Key P kt α K ok) {w:World} (t et:TypeId) (hm:P.underlying t = some (.map kt et)) (z:Value) (hz:(zeroValue et).run P w = .ok z w) (a:α) (ha:ok a) (TF:Bool) :
  (Instr.lookup t (.map none) (K a) TF).run P w = .ok (if TF then .tuple #[z,.bool false] else z) w:=by
 unfold Instr.lookup
 have:=hk.find a [] [] w ha (by simp) rfl
 simp only [List.findIdx?_nil,Option.bind_none] at this
 cases TF <;> simp [Sem.run_bind,run_underlying hm,Result.andThen,hk.check _ a w ha,this,hz,Sem.run_pure]
def upd (l:List (α × Value)) (a:α) (v:Value):List (α × Value):=match idx l a with | some i=>l.set i (a,v) | none=>l ++ [(a,v)]
def del (l:List (α × Value)) (a:α):List (α × Value):=match idx l a with | some i=>l.eraseIdx i | none=>l
theorem sS {w:World} {v u:Value} (h:Instr.sameBits 10000 v u = true):(Instr.keyThatStays v u).run P w = .ok u w:=by
 unfold Instr.keyThatStays
 rw [ai8 h];rfl
theorem update (hk:Key P kt α K ok) {w:World} {b:Nat} {l:List (α × Value)} (h:At w b K l) (hl:∀ p ∈ l,ok p.1) (t et:TypeId) (hm:P.underlying t = some (.map kt et)) (a:α) (ha:ok a) (v:Value) :
  ∃ w',(Instr.mapUpdate t (.map (some b)) (K a) v).run P w = .ok () w' ∧ At w' b K (upd l a v) ∧ w.grownBy w' (some b):=by
 obtain ⟨es,clock,h0,h1,h2,h3⟩:=h.ex
 have hz:es.toList.length = l.length:=by have:=ajC List.length h1;simpa using this
 unfold upd
 cases hi:idx l a with
 | none =>
  refine ⟨{ w with heap:=w.heap.setIfInBounds b (.map (es.push { key:=K a,val:=v,born:=clock }) (clock + 1)) },?_,⟨⟨_,_,(MapKept.heap_set h0).1,?_,?_,?_⟩⟩,⟨rfl,rfl,rfl,by simp,fun i _ hi=>(MapKept.heap_set h0).2 i (fun e=>hi (by rw [e]))⟩⟩
  ·unfold Instr.mapUpdate
   simp only [Sem.run_bind,run_underlying hm,Result.andThen,MapKept.run_getObj_map h0,hk.check _ a w ha,sQ hk hl h1 h2 a ha,hi,Option.bind_none,MapKept.run_setObj_map _ h0]
  ·rw [Array.toList_push,aks,h1,aks];rfl
  ·rw [Array.toList_push,aks,h2,aks];rfl
  ·exact h3.push _ _
 | some i =>
  have hlt:=Gf hi
  have hlt2:i < es.size:=by rw [Array.length_toList] at hz;omega
  have hkey:es[i].key = K a:=by
   have:=ajC (fun (x:List Value)=>x[i]?) h1
   simp only [ajf] at this
   have h3:=Qa hi
   rw [ajo hlt] at h3 this
   rw [ajo (by rw [Array.length_toList];exact hlt2)] at this
   simp only [Option.map_some,ajl] at this h3
   rw [h3] at this
   simpa using this
  have hset:(es.modify i fun e=>{ e with key:=K a,val:=v }).toList = es.toList.set i { es[i] with key:=K a,val:=v }:=by
   rw [Array.toList_modify]
   refine akl fun j=>?_
   rw [List.getElem?_modify,List.getElem?_set]
   by_cases hj:i = j
   ·subst hj
    rw [ai8 rfl,ai8 (by rw [Array.length_toList];exact hlt2),ajo (by rw [Array.length_toList];exact hlt2)]
    simp
   ·rw [ai9 hj];simp [hj]
  refine ⟨{ w with heap:=w.heap.setIfInBounds b (.map (es.modify i fun e=>{ e with key:=K a,val:=v }) clock) },?_,⟨⟨_,_,(MapKept.heap_set h0).1,?_,?_,?_⟩⟩,⟨rfl,rfl,rfl,by simp,fun i _ hi=>(MapKept.heap_set h0).2 i (fun e=>hi (by rw [e]))⟩⟩
  ·unfold Instr.mapUpdate
   have hb:Instr.sameBits 10000 (((es[i]?).map (·.key)).getD (K a)) (K a) = true:=by
    rw [ajF hlt2]
    simp only [Option.map_some,Option.getD_some,hkey]
    exact hk.bits a ha
   simp only [Sem.run_bind,run_underlying hm,Result.andThen,MapKept.run_getObj_map h0,hk.check _ a w ha,sQ hk hl h1 h2 a ha,hi,Option.bind_some,ajo hlt,Option.map_some,sS hb,MapKept.run_setObj_map _ h0]
  ·rw [hset,akv,h1,akv]
  ·rw [hset,akv,h2,akv]
  ·refine h3.Ij ?_
   rw [hset,akv,show ({ es[i] with key:=K a,val:=v }:MapEntry).born = es[i].born from rfl]
   have:(es.toList.map (·.born)).set i es[i].born = es.toList.map (·.born):=by
    refine akl fun j=>?_
    rw [List.getElem?_set]
    by_cases hj:i = j
    ·subst hj
     rw [ai8 rfl,ai8 (by rw [ajb,Array.length_toList];exact hlt2),ajf,ajo (by rw [Array.length_toList];exact hlt2)]
     simp
    ·rw [ai9 hj]
   rw [this]
   exact akQ _
theorem nY {β γ:Type} (f:β → γ):∀ (l:List β) (i:Nat),(l.eraseIdx i).map f = (l.map f).eraseIdx i
 | [],i=>rfl
 | x :: l,0=>rfl
 | x :: l,i + 1=>by simp [nY f l i]
theorem delete (hk:Key P kt α K ok) {w:World} {b:Nat} {l:List (α × Value)} (h:At w b K l) (hl:∀ p ∈ l,ok p.1) (t et u:TypeId) (hm:P.underlying t = some (.map kt et)) (a:α) (ha:ok a) :
  ∃ w',(Builtin.delete_ #[t,kt] u #[.map (some b),K a]).run P w = .ok (.tuple #[]) w' ∧ At w' b K (del l a) ∧ w.grownBy w' (some b):=by
 obtain ⟨es,clock,h0,h1,h2,h3⟩:=h.ex
 have hz:es.toList.length = l.length:=by have:=ajC List.length h1;simpa using this
 unfold del
 cases hi:idx l a with
 | none =>
  refine ⟨{ w with heap:=w.heap.setIfInBounds b (.map es clock) },?_,⟨⟨_,_,(MapKept.heap_set h0).1,h1,h2,h3⟩⟩,⟨rfl,rfl,rfl,by simp,fun i _ hi=>(MapKept.heap_set h0).2 i (fun e=>hi (by rw [e]))⟩⟩
  unfold Builtin.delete_
  simp [Sem.run_bind,run_underlying hm,Result.andThen,MapKept.run_getObj_map h0,hk.check _ a w ha,sQ hk hl h1 h2 a ha,hi,MapKept.run_setObj_map _ h0]
 | some i =>
  have hlt:=Gf hi
  have hlt2:i < es.size:=by rw [Array.length_toList] at hz;omega
  have he:(es.eraseIdxIfInBounds i).toList = es.toList.eraseIdx i:=by simp [Array.eraseIdxIfInBounds,hlt2]
  refine ⟨{ w with heap:=w.heap.setIfInBounds b (.map (es.eraseIdxIfInBounds i) clock) },?_,⟨⟨_,_,(MapKept.heap_set h0).1,?_,?_,?_⟩⟩,⟨rfl,rfl,rfl,by simp,fun i _ hi=>(MapKept.heap_set h0).2 i (fun e=>hi (by rw [e]))⟩⟩
  ·unfold Builtin.delete_
   simp [Sem.run_bind,run_underlying hm,Result.andThen,MapKept.run_getObj_map h0,hk.check _ a w ha,sQ hk hl h1 h2 a ha,hi,ajo hlt,MapKept.run_setObj_map _ h0]
  ·rw [he,nY,h1,nY]
  ·rw [he,nY,h2,nY]
  ·exact h3.Ij (by rw [he];exact (List.eraseIdx_sublist ..).map _)
theorem At.len {w:World} {b:Nat} {l:List (α × Value)} (h:At w b K l):∃ es clock,w.heap[b]? = some (.map es clock) ∧ es.size = l.length:=by
 obtain ⟨es,clock,h0,h1,h2,h3⟩:=h.ex
 exact ⟨es,clock,h0,by have:=ajC List.length h1;simpa using this⟩
theorem At.move {w w':World} {b:Nat} {l:List (α × Value)} (h:At w b K l) (hb:w'.heap[b]? = w.heap[b]?):At w' b K l:=by
 obtain ⟨es,clock,h0,h1,h2,h3⟩:=h.ex
 exact ⟨es,clock,hb.trans h0,h1,h2,h3⟩
theorem At.lt {w:World} {b:Nat} {l:List (α × Value)} (h:At w b K l):b < w.heap.size:=by
 obtain ⟨es,clock,h0,_⟩:=h.ex
 exact (ake.1 h0).1
theorem At.made (w:World):At (w.alloc (.map #[] 0)) w.heap.size K ([]:List (α × Value)):=⟨#[],0,heap_alloc_new w _,rfl,rfl,by simp [Bn]⟩
end
end Go.Proofs.YtfokaoeinpnagaaGreat.Mq
namespace Go.Proofs.YtfokaoeinpnagaaGreat.Ev
section
open Go
theorem eU {α:Type} {l:List (Nat × α)} {i:Nat} {p:Nat × α}:p ∈ rem l i ↔ p ∈ l ∧ p.1 ≠ i:=by
 induction l with
 | nil=>simp [rem]
 | cons q l ih =>
  obtain ⟨k,u⟩:=q
  unfold rem
  by_cases h:k = i
  ·subst h
   rw [ai8 rfl,ih,ajr]
   constructor
   ·rintro ⟨h1,h2⟩;exact ⟨.inr h1,h2⟩
   ·rintro ⟨h1 | h1,h2⟩
    ·subst h1;exact absurd rfl h2
    ·exact ⟨h1,h2⟩
  ·rw [ai9 h,ajr,ajr,ih]
   constructor
   ·rintro (h1 | ⟨h1,h2⟩)
    ·subst h1;exact ⟨.inl rfl,h⟩
    ·exact ⟨.inr h1,h2⟩
   ·rintro ⟨h1 | h1,h2⟩
    ·exact .inl h1
    ·exact .inr ⟨h1,h2⟩
theorem iH {α:Type} {l:List (Nat × α)} {i:Nat} {v:α} {p:Nat × α} (h:p ∈ put l i v):p = (i,v) ∨ (p ∈ l ∧ p.1 ≠ i):=by
 induction l with
 | nil=>simp only [put,aj0] at h;exact .inl h
 | cons q l ih =>
  obtain ⟨k,u⟩:=q
  unfold put at h
  by_cases hk:k = i
  ·subst hk
   rw [ai8 rfl,ajr,eU] at h
   rcases h with h | h
   ·exact .inl h
   ·exact .inr ⟨ajY _ h.1,h.2⟩
  ·rw [ai9 hk,ajr] at h
   rcases h with h | h
   ·subst h;exact .inr ⟨akr,hk⟩
   ·rcases ih h with h | h
    ·exact .inl h
    ·exact .inr ⟨ajY _ h.1,h.2⟩
theorem get_mem {α:Type} {l:List (Nat × α)} {i:Nat} {v:α} (h:get l i = some v):(i,v) ∈ l:=by
 induction l with
 | nil=>simp [get] at h
 | cons q l ih =>
  obtain ⟨k,u⟩:=q
  unfold get at h
  by_cases hk:k = i
  ·subst hk
   rw [ai8 rfl] at h
   cases h
   exact akr
  ·rw [ai9 hk] at h
   exact ajY _ (ih h)
theorem kK {α:Type} {ks:List Nat} {l:List (Nat × α)} {p:Nat × α} (h:p ∈ pick ks l):p ∈ l:=by
 unfold pick at h
 obtain ⟨i,_,h2⟩:=List.mem_filterMap.mp h
 obtain ⟨v,h3,h4⟩:=zmm h2
 subst h4
 exact get_mem h3
mutual
def eY (Fz:Nat → Prop) (w:World):FV → Value → Prop
 | .int k n,v=>v = .int k n
 | .bool b,v=>v = .bool b
 | .str s,v=>v = .string s
 | .sl rows,v=>∃ A c,v = .slice A rows.length c ∧ rows.length ≤ c ∧ rows.length ≤ 9223372036854775807 ∧ (rows = [] ∨ ∃ b o sz,A = some ⟨b,o,none⟩ ∧ Fz b ∧ dn Fz w sz b o rows)
def dn (Fz:Nat → Prop) (w:World) (sz b o:Nat):List (List FV) → Prop
 | []=>True
 | r :: rs=>r.length = sz ∧ eu Fz w b o r ∧ dn Fz w sz b (o + sz) rs
def eu (Fz:Nat → Prop) (w:World) (b o:Nat):List FV → Prop
 | []=>True
 | x :: xs=>(∃ u,w.cell? ⟨b,o,none⟩ = some u ∧ eY Fz w x u) ∧ eu Fz w b (o + 1) xs
end
theorem cell_of {w w':World} {b o:Nat} (h:w'.heap[b]? = w.heap[b]?):w'.cell? ⟨b,o,none⟩ = w.cell? ⟨b,o,none⟩:=by
 simp only [World.cell?,h]
section
variable {Fz bD:Nat → Prop} {w w':World}
mutual
theorem eY.mono (hf:∀ b,Fz b → bD b) (hw:∀ b,Fz b → w'.heap[b]? = w.heap[b]?):∀ (x:FV) (v:Value),eY Fz w x v → eY bD w' x v
 | .int k n,v,h=>h
 | .bool b,v,h=>h
 | .str s,v,h=>h
 | .sl rows,v,h=>by
  simp only [eY] at h ⊢
  obtain ⟨A,c,h1,h2,h2',h3⟩:=h
  refine ⟨A,c,h1,h2,h2',?_⟩
  rcases h3 with h3 | ⟨b,o,sz,h4,h5,h6⟩
  ·exact .inl h3
  ·exact .inr ⟨b,o,sz,h4,hf b h5,dn.mono hf hw rows sz b o h5 h6⟩
theorem dn.mono (hf:∀ b,Fz b → bD b) (hw:∀ b,Fz b → w'.heap[b]? = w.heap[b]?):∀ (rows:List (List FV)) (sz b o:Nat),Fz b → dn Fz w sz b o rows → dn bD w' sz b o rows
 | [],_,_,_,_,h=>trivial
 | r :: rs,sz,b,o,hb,h=>by
  simp only [dn] at h ⊢
  exact ⟨h.1,eu.mono hf hw r b o hb h.2.1,dn.mono hf hw rs sz b (o + sz) hb h.2.2⟩
theorem eu.mono (hf:∀ b,Fz b → bD b) (hw:∀ b,Fz b → w'.heap[b]? = w.heap[b]?):∀ (r:List FV) (b o:Nat),Fz b → eu Fz w b o r → eu bD w' b o r
 | [],_,_,_,h=>trivial
 | x :: xs,b,o,hb,h=>by
  simp only [eu] at h ⊢
  obtain ⟨⟨u,h1,h2⟩,h3⟩:=h
  exact ⟨⟨u,(cell_of (hw b hb)).trans h1,eY.mono hf hw x u h2⟩,eu.mono hf hw xs b (o + 1) hb h3⟩
end
end
def blk : Value → Option Nat
 | .pointer (some a)=>some a.block
 | .slice (some a) _ _=>some a.block
 | .map (some b)=>some b
 | _=>none
def nR (Fz:Nat → Prop) (w:World):List (List FV) → List Value → Prop
 | [],[]=>True
 | c :: cs,v :: vs=>(∃ b o,v = .pointer (some ⟨b,o,none⟩) ∧ Fz b ∧ eu Fz w b o c) ∧ nR Fz w cs vs
 | _,_=>False
def eB (Fz:Nat → Prop) (κ:Nat → Value) (w:World):PL → Value → Prop
 | .f x,v=>eY Fz w x v
 | .bY,v=>v = .slice none 0 0
 | .own key n,v=>v = κ key ∧ ∃ A c,v = .slice A n c
 | .ptr key off,v=>∃ b,κ key = .pointer (some ⟨b,0,none⟩) ∧ v = .pointer (some ⟨b,off,none⟩)
 | .fp cs,v=>∃ b o,v = .pointer (some ⟨b,o,none⟩) ∧ Fz b ∧ eu Fz w b o cs
 | .rp key sz i off,v=>∃ b n c,κ key = .slice (some ⟨b,0,none⟩) n c ∧ v = .pointer (some ⟨b,i * sz + off,none⟩)
 | .mp key,v=>v = κ key ∧ ∃ b,v = .map (some b)
 | .iU,v=>v = .pointer none
 | .fA,v=>v = .map none
 | .und,v=>v = undef
 | .any,_=>True
 | .fn f caps,v=>∃ cs:List Value,v = .func (.func f) #[] cs.toArray ∧ nR Fz w caps cs
 | .vw key sz n lo,v=>∃ A c,κ key = .slice A n c ∧ v = .slice (if c = lo then A else A.map (·.add (lo * sz))) (n - lo) (c - lo)
def aT (Fz:Nat → Prop) (κ:Nat → Value) (w:World):List PL → List Value → Prop
 | [],[]=>True
 | x :: xs,v :: vs=>eB Fz κ w x v ∧ aT Fz κ w xs vs
 | _,_=>False
def cB (Fz:Nat → Prop) (w:World):List FV → List Value → Prop
 | [],[]=>True
 | x :: xs,v :: vs=>eY Fz w x v ∧ cB Fz w xs vs
 | _,_=>False
def fV (Fz:Nat → Prop) (κ:Nat → Value) (w:World):CV → Value → Prop
 | .one x,v=>eB Fz κ w x v
 | .agg xs,v=>∃ cs,v = .agg cs ∧ aT Fz κ w xs cs.toList
def dO (Fz:Nat → Prop) (κ:Nat → Value) (w:World):List CV → List Value → Prop
 | [],[]=>True
 | x :: xs,v :: vs=>fV Fz κ w x v ∧ dO Fz κ w xs vs
 | _,_=>False
def iK (Fz:Nat → Prop) (κ:Nat → Value) (w:World):PV → Value → Prop
 | .c x,v=>fV Fz κ w x v
 | .uM xs,v=>∃ vs,v = .tuple vs ∧ dO Fz κ w xs vs.toList
def lW (Fz:Nat → Prop) (w:World):FC → Value → Prop
 | .one x,v=>eY Fz w x v
 | .agg xs,v=>∃ cs,v = .agg cs ∧ cB Fz w xs cs.toList
def encS : SV → Value
 | .int k n=>.int k n
 | .bool b=>.bool b
 | .str s=>.string s
def nZ : KV → Value
 | .one x=>encS x
 | .agg xs=>.agg (xs.map encS).toArray
def iN (Fz:Nat → Prop) (w:World):List (KV × FC) → List (KV × Value) → Prop
 | [],[]=>True
 | p :: l,q :: m=>p.1 = q.1 ∧ lW Fz w p.2 q.2 ∧ iN Fz w l m
 | _,_=>False
def eD (Fz:Nat → Prop) (w:World) (sz:Nat):List (List FV) → List Value → Prop
 | [],cs=>cs = []
 | r :: rs,cs=>r.length = sz ∧ cB Fz w r (cs.take sz) ∧ eD Fz w sz rs (cs.drop sz)
def zP (Fz:Nat → Prop) (w:World) (sh:KS) (ents:List (KV × FC)) (b:Nat):Prop:=∃ l,Mq.At w b nZ l ∧ iN Fz w ents l ∧ ∀ p ∈ l,p.1.ks = sh
def iO (B:Nat) (Fz:Nat → Prop) (κ:Nat → Value) (w:World) (key:Nat):Ob → Prop
 | .eT xs=>∃ b cs e,κ key = .pointer (some ⟨b,0,none⟩) ∧ w.heap[b]? = some (.cells cs e (0,0)) ∧ aT Fz κ w xs cs.toList
 | .row sz rows=>0 < sz ∧ ∃ e inner A c,κ key = .slice A rows.length c ∧ w.ownsRow B e sz (κ key) rows.length inner ∧ eD Fz w sz rows inner
 | .map sh ents=>∃ b,κ key = .map (some b) ∧ zP Fz w sh ents b
section
variable {Fz bD:Nat → Prop} {w w':World} {κ eZ:Nat → Value}
theorem cB.mono (hf:∀ b,Fz b → bD b) (hw:∀ b,Fz b → w'.heap[b]? = w.heap[b]?):∀ (xs:List FV) (vs:List Value),cB Fz w xs vs → cB bD w' xs vs
 | [],[],_=>trivial
 | x :: xs,v :: vs,h=>⟨eY.mono hf hw x v h.1,cB.mono hf hw xs vs h.2⟩
 | [],_ :: _,h=>h.elim
 | _ :: _,[],h=>h.elim
theorem nR.mono (hf:∀ b,Fz b → bD b) (hw:∀ b,Fz b → w'.heap[b]? = w.heap[b]?):∀ {cs:List (List FV)} {vs:List Value},nR Fz w cs vs → nR bD w' cs vs
 | [],[],_=>trivial
 | c :: cs,v :: vs,⟨⟨b,o,h1,h2,h3⟩,h4⟩=>⟨⟨b,o,h1,hf b h2,eu.mono hf hw c b o h2 h3⟩,nR.mono hf hw h4⟩
 | [],_ :: _,h=>h.elim
 | _ :: _,[],h=>h.elim
theorem eB.mono (hf:∀ b,Fz b → bD b) (hw:∀ b,Fz b → w'.heap[b]? = w.heap[b]?) {x:PL} (hk:∀ key,d9 key x = true → eZ key = κ key) {v:Value} (h:eB Fz κ w x v):eB bD eZ w' x v:=by
 cases x with
 | f x=>exact eY.mono hf hw x v h
 | bY=>exact h
 | own key n=>simp only [eB] at h ⊢;rw [hk key (by simp [d9])];exact h
 | ptr key off=>simp only [eB] at h ⊢;rw [hk key (by simp [d9])];exact h
 | fp cs =>
  obtain ⟨b,o,h1,h2,h3⟩:=h
  exact ⟨b,o,h1,hf b h2,eu.mono hf hw cs b o h2 h3⟩
 | rp key sz i off=>simp only [eB] at h ⊢;rw [hk key (by simp [d9])];exact h
 | mp key=>simp only [eB] at h ⊢;rw [hk key (by simp [d9])];exact h
 | iU=>exact h
 | fA=>exact h
 | und=>exact h
 | any=>trivial
 | fn f caps=>obtain ⟨cs,h1,h2⟩:=h;exact ⟨cs,h1,h2.mono hf hw⟩
 | vw key sz n lo=>simp only [eB] at h ⊢;rw [hk key (by simp [d9])];exact h
theorem aT.mono (hf:∀ b,Fz b → bD b) (hw:∀ b,Fz b → w'.heap[b]? = w.heap[b]?):∀ (xs:List PL) (hk:∀ key,xs.any (d9 key) = true → eZ key = κ key) (vs:List Value),aT Fz κ w xs vs → aT bD eZ w' xs vs
 | [],_,[],_=>trivial
 | x :: xs,hk,v :: vs,h=>⟨eB.mono hf hw (fun key hx=>hk key (by simp [hx])) h.1,aT.mono hf hw xs (fun key hx=>hk key (by simp [hx])) vs h.2⟩
 | [],_,_ :: _,h=>h.elim
 | _ :: _,_,[],h=>h.elim
theorem fV.mono (hf:∀ b,Fz b → bD b) (hw:∀ b,Fz b → w'.heap[b]? = w.heap[b]?) {x:CV} (hk:∀ key,vM key x = true → eZ key = κ key) {v:Value} (h:fV Fz κ w x v):fV bD eZ w' x v:=by
 cases x with
 | one x=>exact eB.mono hf hw hk h
 | agg xs =>
  obtain ⟨cs,rfl,h⟩:=h
  exact ⟨cs,rfl,aT.mono hf hw xs hk _ h⟩
theorem dO.mono (hf:∀ b,Fz b → bD b) (hw:∀ b,Fz b → w'.heap[b]? = w.heap[b]?):∀ (xs:List CV) (hk:∀ key,xs.any (vM key) = true → eZ key = κ key) (vs:List Value),dO Fz κ w xs vs → dO bD eZ w' xs vs
 | [],_,[],_=>trivial
 | x :: xs,hk,v :: vs,h=>⟨fV.mono hf hw (fun key hx=>hk key (by simp [hx])) h.1,dO.mono hf hw xs (fun key hx=>hk key (by simp [hx])) vs h.2⟩
 | [],_,_ :: _,h=>h.elim
 | _ :: _,_,[],h=>h.elim
theorem iK.mono (hf:∀ b,Fz b → bD b) (hw:∀ b,Fz b → w'.heap[b]? = w.heap[b]?) {x:PV} (hk:∀ key,rz key x = true → eZ key = κ key) {v:Value} (h:iK Fz κ w x v):iK bD eZ w' x v:=by
 cases x with
 | c x=>exact fV.mono hf hw hk h
 | uM xs =>
  obtain ⟨cs,rfl,h⟩:=h
  exact ⟨cs,rfl,dO.mono hf hw xs hk _ h⟩
theorem lW.mono (hf:∀ b,Fz b → bD b) (hw:∀ b,Fz b → w'.heap[b]? = w.heap[b]?) {x:FC} {v:Value} (h:lW Fz w x v):lW bD w' x v:=by
 cases x with
 | one x=>exact eY.mono hf hw x v h
 | agg xs =>
  obtain ⟨cs,rfl,h⟩:=h
  exact ⟨cs,rfl,cB.mono hf hw xs _ h⟩
theorem iN.mono (hf:∀ b,Fz b → bD b) (hw:∀ b,Fz b → w'.heap[b]? = w.heap[b]?):∀ (l:List (KV × FC)) (m:List (KV × Value)),iN Fz w l m → iN bD w' l m
 | [],[],_=>trivial
 | p :: l,q :: m,h=>⟨h.1,lW.mono hf hw h.2.1,iN.mono hf hw l m h.2.2⟩
 | [],_ :: _,h=>h.elim
 | _ :: _,[],h=>h.elim
theorem eD.mono (hf:∀ b,Fz b → bD b) (hw:∀ b,Fz b → w'.heap[b]? = w.heap[b]?) (sz:Nat):∀ (rs:List (List FV)) (cs:List Value),eD Fz w sz rs cs → eD bD w' sz rs cs
 | [],_,h=>h
 | r :: rs,cs,h=>⟨h.1,cB.mono hf hw r _ h.2.1,eD.mono hf hw sz rs _ h.2.2⟩
theorem Ah {base:Nat} {e:TypeId} {size n:Nat} {v:Value} {xs:List Value} (h:w.ownsRow base e size v n xs) (hm:∀ k,v.ownBlock = some k → w'.heap[k]? = w.heap[k]?):w'.ownsRow base e size v n xs:=by
 obtain ⟨h1,h2⟩:=h
 refine ⟨h1,?_⟩
 rcases h2 with h2 | ⟨g,cap,cur,rfl,hg,hh,r⟩
 ·exact .inl h2
 ·exact .inr ⟨g,cap,cur,rfl,hg,(hm g (by simp [Value.ownBlock])).trans hh,r⟩
theorem BU {v:Value} {k:Nat} (h:v.ownBlock = some k):blk v = some k:=by
 cases v <;> simp [Value.ownBlock] at h
 rename_i a n c
 cases a <;> simp [Value.ownBlock] at h
 simp [blk,h]
theorem iO.mono {B:Nat} (hf:∀ b,Fz b → bD b) (hw:∀ b,Fz b → w'.heap[b]? = w.heap[b]?) {key:Nat} {o:Ob} (hk:∀ k,k = key ∨ mG k o = true → eZ k = κ k) (hb:∀ b,blk (κ key) = some b → w'.heap[b]? = w.heap[b]?) (h:iO B Fz κ w key o):iO B bD eZ w' key o:=by
 have hkk:=hk key (.inl rfl)
 cases o with
 | eT xs =>
  obtain ⟨b,cs,e,h1,h2,h3⟩:=h
  exact ⟨b,cs,e,hkk.trans h1,(hb b (by rw [h1];rfl)).trans h2,aT.mono hf hw xs (fun k hx=>hk k (.inr hx)) _ h3⟩
 | row sz rows =>
  obtain ⟨h0,e,inner,A,c,h1,h2,h3⟩:=h
  refine ⟨h0,e,inner,A,c,hkk.trans h1,?_,eD.mono hf hw sz rows inner h3⟩
  rw [hkk]
  exact Ah h2 (fun k hx=>hb k (BU hx))
 | map sh ents =>
  obtain ⟨b,h1,l,h2,h3,h4⟩:=h
  exact ⟨b,hkk.trans h1,l,h2.move (hb b (by rw [h1];rfl)),iN.mono hf hw ents l h3,h4⟩
end
end
section
open Go
structure Fr where
 n:Nat
 ds:List Deferred
 ok:Nat → Bool
 lt:∀ d,ok d = true → d < n
 vs:Nat → Value
def BX (n:Nat):Nat → Bool:=fun d=>decide (d < n)
def Fr.of (n:Nat):Fr:=⟨n,[],BX n,fun d h=>by simpa [BX] using h,fun _=>undef⟩
def Kp (w w':World):Prop:=w'.os = w.os ∧ w'.output = w.output
theorem Kp.trans {a b c:World} (h:Kp a b) (k:Kp b c):Kp a c:=⟨k.1.trans h.1,k.2.trans h.2⟩
structure Rel (bn:Nat → Prop) (w0:World) (bg:List Nat) (N:Fr) (Fz:Nat → Prop) (κ:Nat → Value) (σ:St) (a:Act) (w:World):Prop where
 tm:∀ p ∈ σ.tm,iK Fz κ w p.2 (a.tmps.getD p.1 undef)
 sz:a.tmps.size = N.n
 mh:a.defers = N.ds
 fs:∀ d,N.ok d = false → a.tmps.getD d undef = N.vs d
 ob:∀ p ∈ σ.ob,iO 0 Fz κ w p.1 p.2
 uO:∀ p ∈ σ.ob,∀ q ∈ σ.ob,∀ b,p.1 ≠ q.1 → blk (κ p.1) = some b → blk (κ q.1) ≠ some b
 pos:∀ p ∈ σ.ob,∀ b,blk (κ p.1) = some b → ¬ Fz b ∧ b < w.heap.size ∧ (b ∈ bg ∨ w0.heap.size ≤ b)
 fz:∀ b,Fz b → b < w.heap.size ∧ (bn b ∨ b ∈ bg ∨ w0.heap.size ≤ b)
 zJ:∀ b,bn b → Fz b
 big:w0.heap.size ≤ w.heap.size
 ext:∀ b,b < w0.heap.size → b ∉ bg → w.heap[b]? = w0.heap[b]?
 kp:Kp w0 w
section
variable {bn Fz bD:Nat → Prop} {w0 w w':World} {bg:List Nat} {N:Fr} {κ eZ:Nat → Value} {σ σ':St} {a:Act}
theorem Rel.less (h:Rel bn w0 bg N Fz κ σ a w) (ht:∀ p ∈ σ'.tm,p ∈ σ.tm) (ho:∀ p ∈ σ'.ob,p ∈ σ.ob):Rel bn w0 bg N Fz κ σ' a w where
 tm:=fun p hp=>h.tm p (ht p hp)
 sz:=h.sz
 mh:=h.mh
 fs:=h.fs
 ob:=fun p hp=>h.ob p (ho p hp)
 uO:=fun p hp q hq=>h.uO p (ho p hp) q (ho q hq)
 pos:=fun p hp=>h.pos p (ho p hp)
 fz:=h.fz
 zJ:=h.zJ
 big:=h.big
 ext:=h.ext
 kp:=h.kp
theorem Rel.res (h:Rel bn w0 bg N Fz κ σ a w) (ks os:List Nat):Rel bn w0 bg N Fz κ ⟨pick ks σ.tm,pick os σ.ob⟩ a w:=h.less (fun _ hp=>kK hp) (fun _ hp=>kK hp)
theorem Rel.put (h:Rel bn w0 bg N Fz κ σ a w) {d:Nat} (hd:N.ok d = true) {pv:PV} {v:Value} (hv:iK Fz κ w pv v):Rel bn w0 bg N Fz κ ⟨Ev.put σ.tm d pv,σ.ob⟩ (a.put (some d) v) w where
 tm:=fun p hp=>by
  rcases iH hp with rfl | ⟨hp,hne⟩
  ·simp only [Act.put,ajT,akf]
   rw [ai8 trivial,ai8 (by rw [h.sz];exact N.lt d hd)]
   exact hv
  ·have:=h.tm p hp
   simp only [Act.put,ajT,akf] at this ⊢
   rw [ai9 (fun e=>hne e.symm)]
   exact this
 sz:=by simp [Act.put,h.sz]
 mh:=h.mh
 fs:=fun d' hd'=>by
  have:=h.fs d' hd'
  simp only [Act.put,ajT,akf] at this ⊢
  rw [ai9 (fun e=>by subst e;rw [hd] at hd';cases hd')]
  exact this
 ob:=h.ob
 uO:=h.uO
 pos:=h.pos
 fz:=h.fz
 zJ:=h.zJ
 big:=h.big
 ext:=h.ext
 kp:=h.kp
theorem Rel.LJ (h:Rel bn w0 bg N Fz κ σ a w) (v:Value):Rel bn w0 bg N Fz κ σ (a.put none v) w:=h
theorem Rel.val (h:Rel bn w0 bg N Fz κ σ a w) {i:Nat} {pv:PV} (hg:get σ.tm i = some pv):iK Fz κ w pv (a.tmps.getD i undef):=h.tm _ (get_mem hg)
theorem Rel.obj (h:Rel bn w0 bg N Fz κ σ a w) {k:Nat} {o:Ob} (hg:get σ.ob k = some o):iO 0 Fz κ w k o:=h.ob _ (get_mem hg)
theorem Rel.grow (h:Rel bn w0 bg N Fz κ σ a w) (hs:w.heap.size ≤ w'.heap.size) (hb:∀ b,b < w.heap.size → w'.heap[b]? = w.heap[b]?) (hkp:Kp w w'):Rel bn w0 bg N Fz κ σ a w' where
 kp:=h.kp.trans hkp
 tm:=fun p hp=>iK.mono (fun _ h=>h) (fun b hb'=>hb b (h.fz b hb').1) (fun _ _=>rfl) (h.tm p hp)
 sz:=h.sz
 mh:=h.mh
 fs:=h.fs
 ob:=fun p hp=>iO.mono (fun _ h=>h) (fun b hb'=>hb b (h.fz b hb').1) (fun _ _=>rfl) (fun b hb'=>hb b (h.pos p hp b hb').2.1) (h.ob p hp)
 uO:=h.uO
 pos:=fun p hp b hb'=>⟨(h.pos p hp b hb').1,ajK (h.pos p hp b hb').2.1 hs,(h.pos p hp b hb').2.2⟩
 fz:=fun b hb'=>⟨ajK (h.fz b hb').1 hs,(h.fz b hb').2⟩
 zJ:=h.zJ
 big:=aju h.big hs
 ext:=fun b h1 h2=>(hb b (ajK h1 h.big)).trans (h.ext b h1 h2)
def pJ (κ:Nat → Value) (key:Nat) (v:Value):Nat → Value:=fun k=>if k = key then v else κ k
theorem bO (key:Nat) (v:Value):pJ κ key v key = v:=by simp [pJ]
theorem eF {key k:Nat} (h:k ≠ key) (v:Value):pJ κ key v k = κ k:=by simp [pJ,h]
theorem Rel.new (h:Rel bn w0 bg N Fz κ σ a w) {key:Nat} {o:Ob} {v:Value} (hn:new σ key o = some σ') (hs:w.heap.size ≤ w'.heap.size) (hb:∀ b,b < w.heap.size → w'.heap[b]? = w.heap[b]?)
  (hv:∀ b,blk v = some b → w.heap.size ≤ b ∧ b < w'.heap.size) (hkp:Kp w w') (ho:iO 0 Fz (pJ κ key v) w' key o):Rel bn w0 bg N Fz (pJ κ key v) σ' a w':=by
 have hg:=h.grow hs hb hkp
 unfold Ev.new Yf at hn
 split at hn
 ·cases hn
 ·rename_i hm
  simp only [Option.map_some,ajl] at hn
  subst hn
  have hm':∀ p ∈ rem σ.ob key,mG key p.2 = false:=by
   intro p hp
   cases he:mG key p.2 with
   | false=>rfl
   | true=>exact absurd (aj8.mpr ⟨p,hp,he⟩) hm
  refine ⟨fun p hp=>?_,h.sz,h.mh,h.fs,fun p hp=>?_,fun p hp q hq b hne hb1 hb2=>?_,fun p hp b hb1=>?_,hg.fz,h.zJ,hg.big,hg.ext,hg.kp⟩
  ·obtain ⟨h1,h2⟩:=akB.mp hp
   refine iK.mono (fun _ h=>h) (fun b hb'=>rfl) (fun k hk=>eF ?_ v) (hg.tm p h1)
   rintro rfl
   rw [hk] at h2;cases h2
  ·rcases ajr.mp hp with rfl | hp
   ·exact ho
   ·obtain ⟨h1,h2⟩:=eU.mp hp
    refine iO.mono (fun _ h=>h) (fun b hb'=>rfl) (fun k hk=>eF ?_ v) (fun b hb'=>rfl) (hg.ob p h1)
    rintro rfl
    rcases hk with hk | hk
    ·exact h2 hk.symm
    ·rw [hm' p hp] at hk;cases hk
  ·rcases ajr.mp hp with rfl | hp <;> rcases ajr.mp hq with rfl | hq
   ·exact hne rfl
   ·obtain ⟨h1,h2⟩:=eU.mp hq
    rw [bO] at hb1
    rw [eF h2] at hb2
    have h3:=(h.pos q h1 b hb2).2.1
    have h4:=(hv b hb1).1
    omega
   ·obtain ⟨h1,h2⟩:=eU.mp hp
    simp only [bO] at hb2
    rw [eF h2] at hb1
    have h3:=(h.pos p h1 b hb1).2.1
    have h4:=(hv b hb2).1
    omega
   ·obtain ⟨h1,h2⟩:=eU.mp hp
    obtain ⟨h3,h4⟩:=eU.mp hq
    rw [eF h2] at hb1
    rw [eF h4] at hb2
    exact h.uO p h1 q h3 b hne hb1 hb2
  ·rcases ajr.mp hp with rfl | hp
   ·simp only [bO] at hb1
    obtain ⟨h3,h4⟩:=hv b hb1
    refine ⟨fun hf=>?_,h4,.inr (aju h.big h3)⟩
    have:=(h.fz b hf).1
    omega
   ·obtain ⟨h1,h2⟩:=eU.mp hp
    rw [eF h2] at hb1
    exact hg.pos p h1 b hb1
theorem Rel.set (h:Rel bn w0 bg N Fz κ σ a w) {key:Nat} {o o':Ob} (hk:get σ.ob key = some o) (hs:w.heap.size ≤ w'.heap.size) (hb:∀ b,b < w.heap.size → blk (κ key) ≠ some b → w'.heap[b]? = w.heap[b]?)
  (hkp:Kp w w') (ho:iO 0 Fz κ w' key o'):Rel bn w0 bg N Fz κ (jA σ key o') a w':=by
 have hkm:=get_mem hk
 have hfz:∀ b,Fz b → w'.heap[b]? = w.heap[b]?:=fun b hf=>hb b (h.fz b hf).1 (fun e=>(h.pos _ hkm b e).1 hf)
 refine ⟨fun p hp=>iK.mono (fun _ h=>h) hfz (fun _ _=>rfl) (h.tm p hp),h.sz,h.mh,h.fs,fun p hp=>?_,fun p hp q hq b hne hb1 hb2=>?_,fun p hp b hb1=>?_,fun b hf=>⟨ajK (h.fz b hf).1 hs,(h.fz b hf).2⟩,h.zJ,aju h.big hs,fun b h1 h2=>?_,h.kp.trans hkp⟩
 ·rcases iH hp with rfl | ⟨hp,hne⟩
  ·exact ho
  ·exact iO.mono (fun _ h=>h) hfz (fun _ _=>rfl) (fun b hb1=>hb b (h.pos p hp b hb1).2.1 (fun e=>h.uO p hp _ hkm b hne hb1 e)) (h.ob p hp)
 ·have m:∀ p ∈ Ev.put σ.ob key o',∃ q ∈ σ.ob,q.1 = p.1:=by
   intro p hp
   rcases iH hp with rfl | ⟨hp,hne⟩
   ·exact ⟨_,hkm,rfl⟩
   ·exact ⟨p,hp,rfl⟩
  obtain ⟨p',hp',e1⟩:=m p hp
  obtain ⟨q',hq',e2⟩:=m q hq
  rw [← e1] at hb1 hne
  rw [← e2] at hb2 hne
  exact h.uO p' hp' q' hq' b hne hb1 hb2
 ·have m:∃ q ∈ σ.ob,q.1 = p.1:=by
   rcases iH hp with rfl | ⟨hp,hne⟩
   ·exact ⟨_,hkm,rfl⟩
   ·exact ⟨p,hp,rfl⟩
  obtain ⟨p',hp',e1⟩:=m
  rw [← e1] at hb1
  have:=h.pos p' hp' b hb1
  exact ⟨this.1,ajK this.2.1 hs,this.2.2⟩
 ·rw [hb b (ajK h1 h.big) (fun e=>?_)]
  ·exact h.ext b h1 h2
  ·rcases (h.pos _ hkm b e).2.2 with h3 | h3
   ·exact h2 h3
   ·omega
end
end
section
open Go
structure Hx where
 eqs:List TypeId
 co:List Nat
 cv:List Nat
 gv:List FuncId
def xJ : Value → Option PL
 | .int k n=>some (.f (.int k n))
 | .bool b=>some (.f (.bool b))
 | .string s=>some (.f (.str s))
 | .slice none 0 0=>some .bY
 | .pointer none=>some .iU
 | .map none=>some .fA
 | _=>none
def qz : List Value → Option (List PL)
 | []=>some []
 | v :: vs=>(xJ v).bind fun x=>(qz vs).map fun l=>x :: l
def Gg : Value → Option CV
 | .agg cs=>(qz cs.toList).map .agg
 | v=>(xJ v).map .one
def fC : Operand → Option dM
 | .tmp t=>some (.t t)
 | .const v=>(Gg v).map .k
 | _=>none
def BZ : List Operand → Option (List dM)
 | []=>some []
 | x :: xs=>(fC x).bind fun y=>(BZ xs).map fun l=>y :: l
def xK : Option Operand → Option (Option dM)
 | none=>some none
 | some x=>(fC x).map some
def Ai (P:Program) (e:TypeId):Option (List PL):=(P.info? e).bind fun i=>i.zero.bind fun z=>qz z.cells.toList
def Ca : PL → Option FV
 | .f x=>some x
 | .bY=>some (.sl [])
 | _=>none
def qA : List PL → Option (List FV)
 | []=>some []
 | x :: xs=>(Ca x).bind fun y=>(qA xs).map fun l=>y :: l
def Vk (P:Program) (e:TypeId):Option FC:=(P.info? e).bind fun i=>i.zero.bind fun z=>match z with
 | .agg cs=>((qz cs.toList).bind qA).map .agg
 | v=>((xJ v).bind Ca).map .one
def uP (P:Program) (t:TypeId):Option Bool:=match P.underlying t with
 | some (.struct _)=>some true
 | some (.array _ _)=>some true
 | some _=>some false
 | none=>none
def lJ (P:Program) (t:TypeId):Option Nat:=(P.info? t).map (·.size)
def Qb (P:Program) (t:TypeId):Option Nat:=(P.info? t).map (·.bytes)
def JY (P:Program) (t:TypeId) (f:Nat):Option Field:=match P.underlying t with
 | some (.struct fs)=>fs[f]?
 | _=>none
def parts (P:Program) (fs:Array Field):List (Nat × Operand) → Option (List (Nat × Nat × dM))
 | []=>some []
 | (i,x) :: ps=>fs[i]?.bind fun f=>(lJ P f.type).bind fun n=>(fC x).bind fun y=>(parts P fs ps).map fun l=>(f.offset,n,y) :: l
def oK (sz:Nat):List (Nat × Operand) → Option (List (Nat × Nat × dM))
 | []=>some []
 | (i,x) :: ps=>(fC x).bind fun y=>(oK sz ps).map fun l=>(i * sz,sz,y) :: l
def Gb (P:Program) (t:TypeId):Option SK:=match P.underlying t with
 | some (.int k)=>some (.int k)
 | some .bool=>some .bool
 | some .string=>some .str
 | _=>none
def JZ (P:Program):List Field → Option (List SK)
 | []=>some []
 | f :: fs=>(Gb P f.type).bind fun k=>(JZ P fs).map fun l=>k :: l
def xL (P:Program) (t:TypeId):Option KS:=match P.underlying t with
 | some (.array n e)=>(Gb P e).map fun k=>.agg (List.replicate n k)
 | some (.struct fs)=>(JZ P fs.toList).map .agg
 | _=>(Gb P t).map .one
def zQ (P:Program) (t:TypeId):Option (TypeId × TypeId):=match P.underlying t with
 | some (.map k e)=>some (k,e)
 | _=>none
def TG (P:Program) (t:TypeId):Option TypeId:=match P.underlying t with
 | some (.slice e)=>some e
 | _=>none
def Vl : BinOp → Option Yc
 | .eql=>some .eq
 | .neq=>some .ne
 | .lss=>some .lt
 | .leq=>some .le
 | .gtr=>some .gt
 | .geq=>some .ge
 | _=>none
def Yj : BinOp → Option Ar
 | .add=>some .add
 | .sub=>some .sub
 | .mul=>some .mul
 | .quo=>some .quo
 | .rem=>some .rem
 | _=>none
def LK : dM → Bool
 | .k (.one .iU)=>true
 | _=>false
def LM : dM → Bool
 | .k (.one .bY)=>true
 | _=>false
def Qc (P:Program) (t:TypeId):Operand → Option Nat
 | .const (.int _ k)=>match P.underlying t with
  | some (.array n e)=>(lJ P e).bind fun sz=>if 0 ≤ k ∧ k < n then some (k.toNat * sz) else none
  | _=>none
 | _=>none
def jM (P:Program) (X:Hx) (o:Oper):Option I:=match o.op with
 | .move x=>(fC x).map .mv
 | .assign x=>(fC x).map .mv
 | .pick c a b=>(fC c).bind fun c=>(fC a).bind fun a=>(fC b).map fun b=>.pick c a b
 | .alloc e=>(Ai P e).map fun z=>.alloc e z
 | .box e x=>(fC x).map fun x=>.box e x
 | .build t ps=>match P.underlying t with
  | some (.struct fs)=>if fs.toList.all (fun f=>(lJ P f.type).isSome) then (Ai P t).bind fun z=>(parts P fs ps.toList).map fun l=>.build z l else none
  | some (.array _ e)=>(lJ P e).bind fun sz=>(Ai P t).bind fun z=>(oK sz ps.toList).map fun l=>.build z l
  | _=>none
 | .buildSlice t len ps=>(TG P t).bind fun e=>(lJ P e).bind fun sz=>if sz = 0 ∨ len * sz > 16777216 then none else
   (Ai P e).bind fun z=>if z.length = sz then (oK sz ps.toList).map fun l=>if X.cv.contains (o.dst.getD 0) then .PD e sz len (List.replicate len z).flatten l else .zH e sz len (List.replicate len z).flatten l else none
 | .load t x=>(uP P t).bind fun g=>(lJ P t).bind fun n=>(fC x).map fun x=>.load (if g then n else 1) g x
 | .store t x v=>(lJ P t).bind fun n=>(fC x).bind fun x=>(fC v).map fun v=>.store n x v
 | .nilCheck x=>(fC x).map .gZ
 | .binOp op t x y _=>(fC x).bind fun x=>(fC y).bind fun y=>match P.underlying t with
  | some .string=>if op = .add then some (.cat x y) else if op = .eql then some (.ru (.one .str) false x y) else if op = .neq then some (.ru (.one .str) true x y) else none
  | some (.int _)=>match Yj op with
   | some a=>some (.ar a x y)
   | none=>if op = .or ∨ op = .and ∨ op = .xor then some (.bit op x y) else if op = .shl then some (.Vd true x y) else if op = .shr then some (.Vd false x y) else (Vl op).map fun c=>.cmp c x y
  | some .bool=>if op = .eql then some (.ru (.one .bool) false x y) else if op = .neq then some (.ru (.one .bool) true x y) else none
  | some (.pointer _)=>if LK y = true then (if op = .eql then some (.xq false x) else if op = .neq then some (.xq true x) else none) else none
  | some (.slice _)=>if LM y = true then (if op = .eql then some (.zL false x) else if op = .neq then some (.zL true x) else none) else none
  | some (.struct _)=>if X.eqs.contains t then (xL P t).bind fun sh=>if op = .eql then some (.ru sh false x y) else if op = .neq then some (.ru sh true x y) else none else none
  | some (.array _ _)=>if X.eqs.contains t then (xL P t).bind fun sh=>if op = .eql then some (.ru sh false x y) else if op = .neq then some (.ru sh true x y) else none else none
  | _=>none
 | .unOp .not _ x=>(fC x).map .no
 | .convert src dst x=>match P.underlying src,P.underlying dst with
  | some (.int _),some (.int k)=>(fC x).map fun x=>.ci k x
  | some .string,some .string=>(fC x).map .nA
  | some (.slice e),some .string=>match P.underlying e,lJ P e with
   | some (.int .u8),some 1=>(fC x).map .Ye
   | _,_=>none
  | _,_=>none
 | .makeMap t none=>(zQ P t).bind fun m=>(xL P m.1).map .pK
 | .slice t x lo hi none=>match P.underlying t with
  | some .string=>(fC x).bind fun x=>(xK lo).bind fun lo=>(xK hi).map fun hi=>.JO x lo hi
  | some (.slice e)=>(lJ P e).bind fun sz=>(fC x).bind fun x=>(xK lo).bind fun lo=>(xK hi).bind fun hi=>if X.co.contains (o.dst.getD 0) then (match lo,hi with
    | none,some hi=>some (.DZ sz x hi)
    | _,_=>none) else if X.cv.contains (o.dst.getD 0) then (match lo,hi with
    | some lo,none=>some (.cutV sz x lo)
    | _,_=>none) else some (.cut sz x lo hi)
  | _=>none
 | .fieldAddr t x f=>(JY P t f).bind fun f=>(lJ P f.type).bind fun n=>if n = 0 then none else (fC x).map fun x=>.fa f.offset x
 | .field t x f=>(JY P t f).bind fun f=>(lJ P f.type).bind fun n=>(uP P f.type).bind fun g=>(fC x).map fun x=>.Yd f.offset (if g then n else 1) g x
 | .indexAddr t x i=>match Qc P t i with
  | some off=>(fC x).map fun x=>.fa off x
  | none=>(TG P t).bind fun e=>(lJ P e).bind fun sz=>(fC x).bind fun x=>(fC i).map fun i=>.ia sz x i
 | .index t x i=>match P.underlying t with
  | some .string=>(fC x).bind fun x=>(fC i).map fun i=>.chr x i
  | some (.array n e)=>(lJ P e).bind fun sz=>(uP P e).bind fun g=>if g = false ∧ sz ≠ 1 then none else (fC x).bind fun x=>(fC i).map fun i=>.idx (if g then sz else 1) n g x i
  | _=>none
 | .lookup t x k ok=>(zQ P t).bind fun m=>if X.eqs.contains m.1 then (xL P m.1).bind fun sh=>(Vk P m.2).bind fun z=>(fC x).bind fun x=>(fC k).map fun k=>.look sh z ok x k else none
 | .mapUpdate t m k x=>(zQ P t).bind fun mm=>if X.eqs.contains mm.1 then (xL P mm.1).bind fun sh=>(fC m).bind fun m=>(fC k).bind fun k=>(fC x).map fun x=>.xu sh m k x else none
 | .insert t m k x=>(zQ P t).bind fun mm=>if X.eqs.contains mm.1 then (xL P mm.1).bind fun sh=>(fC m).bind fun m=>(fC k).bind fun k=>(fC x).map fun x=>.xu sh m k x else none
 | .extract x i=>(fC x).map fun x=>.ext x i
 | .makeFunc (.func f) first caps=>if first.size = 0 then (BZ caps.toList).map fun l=>.PX f l else none
 | .call c=>match c.callee with
  | .value (.func f)=>if (P.funcs[f]?).any (fun fn=>fn.name != "runtime.NumGoroutine" && fn.body.isSome) then (BZ c.args.toList).map fun l=>.call false f l else none
  | .builtin .len=>match c.args.toList,c.argTypes.toList with
   | [x],[t]=>match P.underlying t with
    | some .string=>(fC x).map .xw
    | some (.slice _)=>(fC x).map .iB
    | some (.map _ _)=>(fC x).map .JQ
    | _=>none
   | _,_=>none
  | .builtin .append=>match c.args.toList,c.argTypes.toList with
   | [x,y],[t,u]=>if t = u then (TG P t).bind fun e=>(lJ P e).bind fun sz=>(Qb P e).bind fun Gc=>(Ai P e).bind fun z=>if z.length = sz ∧ 0 < sz ∧ 0 < Gc then (fC x).bind fun x=>(fC y).map fun y=>.app e sz Gc x y else none else none
   | _,_=>none
  | .builtin .min=>match c.args.toList with
   | [x,y]=>(fC x).bind fun x=>(fC y).map fun y=>.mn x y
   | _=>none
  | .builtin .max=>match c.args.toList with
   | [x,y]=>(fC x).bind fun x=>(fC y).map fun y=>.mx x y
   | _=>none
  | .builtin .delete=>match c.args.toList,c.argTypes.toList with
   | [x,y],[t,k]=>(zQ P t).bind fun m=>if X.eqs.contains m.1 ∧ k = m.1 then (xL P m.1).bind fun sh=>(fC x).bind fun x=>(fC y).map fun y=>.del sh x y else none
   | _,_=>none
  | .builtin .clear=>match c.args.toList,c.argTypes.toList with
   | [x],[t]=>(TG P t).bind fun e=>(lJ P e).bind fun sz=>(Ai P e).bind fun z=>(qA z).bind fun z=>if z.length = sz then (fC x).map fun x=>.TB sz z x else none
   | _,_=>none
  | _=>none
 | _=>none
def LP : I → Bool
 | .call _ _ _=>true
 | .zK _ _=>true
 | .dyn _ _=>true
 | _=>false
def sU (P:Program) (X:Hx) (o:Oper):Option I:=match o.op with
 | .call c=>match c.callee with
  | .value (.func f)=>match P.funcs[f]? with
   | some fn=>if (fn.name == "runtime.NumGoroutine") = false ∧ fn.body.isSome = true then (BZ c.args.toList).map fun l=>if X.co.contains (o.dst.getD 999) then .zK f l else .call (X.gv.contains f) f l else none
   | none=>none
  | .value (.tmp t)=>(BZ c.args.toList).map fun l=>.dyn (.t t) l
  | _=>none
 | _=>none
def sV (P:Program) (X:Hx) (o:Oper):Option I:=match sU P X o with
 | some i=>some i
 | none=>match jM P X o with
  | some i=>if LP i then none else some i
  | none=>none
def sW (P:Program) (X:Hx) (ops:Array Oper) (nt:Nat → Bool) (o:Oper):Option G :=
 (sV P X o).bind fun i=>if o.dst.all nt then some ⟨o.dst,o.guard.map fun p=>((ops[p.1]?).bind (·.dst),p.2),i⟩ else none
def kg (P:Program) (X:Hx) (ops:Array Oper) (nt:Nat → Bool):List Oper → Option (List G)
 | []=>some []
 | o :: l=>(sW P X ops nt o).bind fun g=>(kg P X ops nt l).map fun r=>g :: r
end
section
open Go
structure lK (P:Program) (t:TypeId):Prop where
 key:∀ sh,xL P t = some sh → Mq.Key P t KV nZ (fun a=>a.ks = sh)
 eq:∀ sh,xL P t = some sh → ∀ (a b:KV) (w:World),a.ks = sh → b.ks = sh → (Op.equal t (nZ a) (nZ b)).run P w = .ok (decide (a = b)) w
 guard:∀ op x y,∀ (a b:Value) (w:World),(eqGuard op t x y a b).run P w = .ok () w
structure Good (bn:Nat → Prop) (w0:World) (bg:List Nat) (N:Fr) (q:Bool) (d:Nat) (Fz:Nat → Prop) (κ:Nat → Value) (σ:St) (a:Act) (w:World) (bD:Nat → Prop) (eZ:Nat → Value) (σ':St) (w':World) (pv:PV) (v:Value):Prop where
 rel:Rel bn w0 bg N bD eZ σ' a w'
 val:iK bD eZ w' pv v
 f1:∀ b,Fz b → bD b
 e6:∀ k,k % 2 = 1 → eZ k = κ k
section
variable {P : Program} {Γ:Env} {bn Fz:Nat → Prop} {w0 w:World} {bg:List Nat} {N:Fr} {d:Nat} {q:Bool} {κ:Nat → Value} {σ σ':St} {a:Act} {pv:PV}
theorem Good.pure (h:Rel bn w0 bg N Fz κ σ a w) {v:Value} (hv:iK Fz κ w pv v):Good bn w0 bg N q d Fz κ σ a w Fz κ σ w pv v where
 rel:=h
 val:=hv
 f1:=fun _ h=>h
 e6:=fun _ _=>rfl
theorem uQ {v:Value} {x:PL} (h:xJ v = some x):eB Fz κ w x v:=by
 unfold xJ at h
 split at h <;> cases h <;> simp [eB,eY]
theorem mJ : ∀ {vs:List Value} {xs:List PL},qz vs = some xs → aT Fz κ w xs vs
 | [],xs,h=>by cases h;trivial
 | v :: vs,xs,h=>by
  unfold qz at h
  obtain ⟨x,h1,h2⟩:=zbm h
  obtain ⟨l,h3,h4⟩:=zmm h2
  subst h4
  exact ⟨uQ h1,mJ h3⟩
theorem Aj {v:Value} {x:CV} (h:Gg v = some x):fV Fz κ w x v:=by
 unfold Gg at h
 split at h
 ·rename_i cs
  obtain ⟨l,h1,rfl⟩:=zmm h
  exact ⟨cs,rfl,mJ h1⟩
 ·obtain ⟨l,h1,rfl⟩:=zmm h
  exact uQ h1
theorem Rel.eval (h:Rel bn w0 bg N Fz κ σ a w) {x:Operand} {y:dM} {v:CV} (ho:fC x = some y) (hv:Ev.val σ y = some v):fV Fz κ w v (a.eval x):=by
 cases x with
 | tmp t =>
  cases ho
  simp only [Ev.val] at hv
  cases hg:get σ.tm t with
  | none=>rw [hg] at hv;cases hv
  | some p =>
   rw [hg] at hv
   cases p with
   | c c=>cases hv;exact h.val hg
   | uM _=>cases hv
 | const c =>
  obtain ⟨l,h1,rfl⟩:=zmm ho
  cases hv
  exact Aj h1
 | global g=>cases ho
 | func f=>cases ho
theorem Rel.Ik (h:Rel bn w0 bg N Fz κ σ a w) {x:Operand} {y:dM} {v:PV} (ho:fC x = some y) (hv:sM σ y = some v):iK Fz κ w v (a.eval x):=by
 cases x with
 | tmp t=>cases ho;exact h.val hv
 | const c =>
  obtain ⟨l,h1,rfl⟩:=zmm ho
  cases hv
  exact Aj h1
 | global g=>cases ho
 | func f=>cases ho
theorem iD {v:CV} {p:IntKind × Int} {u:Value} (hi:int? v = some p) (h:fV Fz κ w v u):u = .int p.1 p.2:=by
 unfold int? at hi
 split at hi
 ·cases hi;exact h
 ·cases hi
theorem Cb {v:CV} {b:Bool} {u:Value} (hi:bool? v = some b) (h:fV Fz κ w v u):u = .bool b:=by
 unfold bool? at hi
 split at hi
 ·cases hi;exact h
 ·cases hi
theorem Il {x:FV} {s:SV} {u:Value} (hi:sF x = some s) (h:eY Fz w x u):u = encS s:=by
 cases x <;> cases hi <;> exact h
theorem D6 : ∀ {xs:List FV} {l:List SV} {us:List Value},sG xs = some l → cB Fz w xs us → us = l.map encS
 | [],l,us,hi,h=>by cases hi;cases us with | nil=>rfl | cons _ _=>exact h.elim
 | x :: xs,l,us,hi,h=>by
  unfold sG at hi
  obtain ⟨s,h1,h2⟩:=zbm hi
  obtain ⟨m,h3,rfl⟩:=zmm h2
  cases us with
  | nil=>exact h.elim
  | cons u us=>rw [Il h1 h.1,D6 h3 h.2];rfl
theorem Ak : ∀ {xs:List PL} {l:List FV} {us:List Value},oI xs = some l → aT Fz κ w xs us → cB Fz w l us
 | [],l,us,hi,h=>by cases hi;cases us with | nil=>trivial | cons _ _=>exact h.elim
 | x :: xs,l,us,hi,h=>by
  unfold oI at hi
  obtain ⟨s,h1,h2⟩:=zbm hi
  obtain ⟨m,h3,rfl⟩:=zmm h2
  cases us with
  | nil=>exact h.elim
  | cons u us =>
   cases x <;> cases h1
   exact ⟨h.1,Ak h3 h.2⟩
theorem xM {v:CV} {k:KV} {u:Value} (hi:keyOf v = some k) (h:fV Fz κ w v u):u = nZ k:=by
 cases v with
 | one x =>
  obtain ⟨y,h1,h2⟩:=zbm hi
  obtain ⟨s,h3,rfl⟩:=zmm h2
  cases x <;> cases h1
  exact Il h3 h
 | agg xs =>
  obtain ⟨y,h1,h2⟩:=zbm hi
  obtain ⟨s,h3,rfl⟩:=zmm h2
  obtain ⟨cs,rfl,h4⟩:=h
  have:=D6 h3 (Ak h1 h4)
  show Value.agg cs = .agg (List.map encS s).toArray
  rw [← this]
theorem aT.length : ∀ {xs:List PL} {us:List Value},aT Fz κ w xs us → us.length = xs.length
 | [],[],_=>rfl
 | x :: xs,u :: us,h=>by rw [List.length_cons,List.length_cons,aT.length h.2]
 | [],_ :: _,h=>h.elim
 | _ :: _,[],h=>h.elim
theorem cB.length : ∀ {xs:List FV} {us:List Value},cB Fz w xs us → us.length = xs.length
 | [],[],_=>rfl
 | x :: xs,u :: us,h=>by rw [List.length_cons,List.length_cons,cB.length h.2]
 | [],_ :: _,h=>h.elim
 | _ :: _,[],h=>h.elim
def Zj : Value → Prop
 | .agg _=>False
 | .tuple _=>False
 | _=>True
theorem eY.leaf {x:FV} {u:Value} (h:eY Fz w x u):Zj u:=by
 cases x with
 | int k n=>cases h;trivial
 | bool b=>cases h;trivial
 | str s=>cases h;trivial
 | sl rows=>simp only [eY] at h;obtain ⟨A,c,rfl,_⟩:=h;trivial
end
end
section
open Go
def Does (P:Program) (bn:Nat → Prop) (w0:World) (bg:List Nat) (N:Fr) (q:Bool) (d:Nat) (Fz:Nat → Prop) (κ:Nat → Value) (σ:St) (a:Act) (w:World) (s:Sem Next) (σ':St) (pv:PV):Prop :=
 ∃ r w' eZ bD v,s.run P w = .ok r w' ∧ (r = .value v ∨ (r = .skip ∧ v = undef)) ∧ Good bn w0 bg N q d Fz κ σ a w bD eZ σ' w' pv v
section
variable {P : Program} {Γ:Env} {bn Fz:Nat → Prop} {w0 w:World} {bg:List Nat} {N:Fr} {d:Nat} {q:Bool} {κ:Nat → Value} {σ σ':St} {a:Act} {pv:PV} {o:Oper}
theorem Does.pure (h:Rel bn w0 bg N Fz κ σ a w) {m:Sem Value} {v:Value} (hr:m.run P w = .ok v w) (hv:iK Fz κ w pv v):Does P bn w0 bg N q d Fz κ σ a w (do let x ← m;Pure.pure (.value x)) σ pv :=
 ⟨.value v,w,κ,Fz,v,by simp only [Sem.run_bind,hr,Result.andThen_ok,Sem.run_pure],.inl rfl,Good.pure h hv⟩
theorem iX {k:IntKind} {n:Int}:(asIntOf (.int k n)).run P w = .ok (k,n) w:=rfl
theorem Gh {b:Bool}:(asBool (.bool b)).run P w = .ok b w:=rfl
theorem Zk (h:Rel bn w0 bg N Fz κ σ a w) {x:Operand} {y:dM} (hx:fC x = some y) (hE:bZ Γ q σ d (.mv y) = some (pv,σ')):Does P bn w0 bg N q d Fz κ σ a w (Pure.pure (.value (a.eval x))) σ' pv:=by
 obtain ⟨v,h1,h2⟩:=zmm hE
 cases h2
 exact ⟨_,_,κ,Fz,a.eval x,rfl,.inl rfl,Good.pure h (h.Ik hx h1)⟩
theorem Vm (h:Rel bn w0 bg N Fz κ σ a w) {c x y:Operand} {c' x' y':dM} (hc:fC c = some c') (hx:fC x = some x') (hy:fC y = some y') (hE:bZ Γ q σ d (.pick c' x' y') = some (pv,σ')) :
  Does P bn w0 bg N q d Fz κ σ a w (do Pure.pure (.value (if ← asBool (a.eval c) then a.eval x else a.eval y))) σ' pv:=by
 obtain ⟨v,h1,h2⟩:=zbm hE
 obtain ⟨t,h3,h4⟩:=zbm h2
 obtain ⟨u,h5,h6⟩:=zmm h4
 cases h6
 have hb:=Cb h3 (h.eval hc h1)
 refine ⟨_,w,κ,Fz,if t then a.eval x else a.eval y,by simp only [hb,Sem.run_bind,Gh,Result.andThen_ok,Sem.run_pure],.inl rfl,Good.pure h ?_⟩
 cases t
 ·exact h.eval hy h5
 ·exact h.eval hx h5
theorem aeL (h:Rel bn w0 bg N Fz κ σ a w) {x:Operand} {y:dM} (hx:fC x = some y) (hE:bZ Γ q σ d (.no y) = some (pv,σ')):Does P bn w0 bg N q d Fz κ σ a w (do let v ← Op.unary .not (a.eval x);Pure.pure (.value v)) σ' pv:=by
 obtain ⟨v,h1,h2⟩:=zbm hE
 obtain ⟨t,h3,h4⟩:=zbm h2
 cases h4
 have hb:=Cb h3 (h.eval hx h1)
 refine Does.pure h (v:=.bool (!t)) ?_ rfl
 rw [hb];rfl
theorem aeM (h:Rel bn w0 bg N Fz κ σ a w) {src dst:TypeId} {x:Operand} {y:dM} {k k':IntKind} (hs:P.underlying src = some (.int k')) (hd:P.underlying dst = some (.int k)) (hx:fC x = some y) (hE:bZ Γ q σ d (.ci k y) = some (pv,σ')) :
  Does P bn w0 bg N q d Fz κ σ a w (do let v ← convert src dst (a.eval x);Pure.pure (.value v)) σ' pv:=by
 obtain ⟨v,h1,h2⟩:=zbm hE
 obtain ⟨t,h3,h4⟩:=zbm h2
 cases h4
 have hb:=iD h3 (h.eval hx h1)
 refine Does.pure h (v:=.int k (k.wrap t.2)) ?_ rfl
 rw [hb]
 unfold convert
 simp only [Sem.run_bind,run_underlying hs,run_underlying hd,Result.andThen_ok]
 rfl
theorem Zl (h:Rel bn w0 bg N Fz κ σ a w) {src dst:TypeId} {x:Operand} {y:dM} (hs:P.underlying src = some .string) (hd:P.underlying dst = some .string) (hx:fC x = some y) (hE:bZ Γ q σ d (.nA y) = some (pv,σ')) :
  Does P bn w0 bg N q d Fz κ σ a w (do let v ← convert src dst (a.eval x);Pure.pure (.value v)) σ' pv:=by
 obtain ⟨v,h1,h2⟩:=zbm hE
 split at h2
 ·rename_i s
  cases h2
  have hb:=h.eval hx h1
  refine Does.pure h (v:=.string s) ?_ rfl
  rw [show a.eval x = .string s from hb]
  unfold convert
  simp only [Sem.run_bind,run_underlying hs,run_underlying hd,Result.andThen_ok]
  rfl
 ·cases h2
theorem Al {k:IntKind} {m n r:Int} {op:BinOp} {t:TypeId} {o:Ar} (ho:Yj op = some o) (hr:Lf o k m n = some r):(binOp op t (.int k m) (.int k n)).run P w = .ok (.int k r) w:=by
 cases op <;> cases ho
 ·cases hr;simp [binOp,Op.intArith]
 ·cases hr;simp [binOp,Op.intArith]
 ·cases hr;simp [binOp,Op.intArith]
 ·simp only [Lf] at hr
  split at hr
  ·cases hr
  ·rename_i hn
   cases hr
   simp [binOp,Op.intDiv,hn]
 ·simp only [Lf] at hr
  split at hr
  ·cases hr
  ·rename_i hn
   cases hr
   simp [binOp,Op.intDiv,hn]
theorem Qd {k:IntKind} {m n:Int} {op:BinOp} {t:TypeId} {o:Yc} (ho:Vl op = some o):(binOp op t (.int k m) (.int k n)).run P w = .ok (.bool (xD o m n)) w:=by
 cases op <;> cases ho <;> simp [binOp,Op.intCmp,xD] <;> rfl
theorem nS {op:BinOp} {t:TypeId} {x y:Operand} {k k':IntKind} {m n:Int}:(eqGuard op t x y (.int k m) (.int k' n)).run P w = .ok () w:=by
 unfold eqGuard
 cases op <;> rfl
theorem j4 {op:BinOp} {t:TypeId} {x y:Operand} {u v r:Value} (hg:(eqGuard op t x y u v).run P w = .ok () w) (hb:(binOp op t u v).run P w = .ok r w):(do eqGuard op t x y u v;binOp op t u v:Sem Value).run P w = .ok r w:=by
 simp only [Sem.run_bind,hg,Result.andThen_ok,hb]
theorem aeN (h:Rel bn w0 bg N Fz κ σ a w) {op:BinOp} {c:Ar} {t:TypeId} {x y:Operand} {x' y':dM} (ho:Yj op = some c) (hx:fC x = some x') (hy:fC y = some y') (hE:bZ Γ q σ d (.ar c x' y') = some (pv,σ')) :
  Does P bn w0 bg N q d Fz κ σ a w (do let v ← (do eqGuard op t x y (a.eval x) (a.eval y);binOp op t (a.eval x) (a.eval y):Sem Value);Pure.pure (.value v)) σ' pv:=by
 obtain ⟨u,h1,h2⟩:=zbm hE
 obtain ⟨v,h3,h4⟩:=zbm h2
 obtain ⟨m,h5,h6⟩:=zbm h4
 obtain ⟨n,h7,h8⟩:=zbm h6
 split at h8
 ·rename_i hk
  obtain ⟨r,h9,h10⟩:=zbm h8
  cases h10
  have e1:=iD h5 (h.eval hx h1)
  have e2:=iD h7 (h.eval hy h3)
  obtain ⟨k,m⟩:=m
  obtain ⟨k',n⟩:=n
  simp only at hk e1 e2 h9
  subst hk
  refine Does.pure h (v:=.int k r) ?_ rfl
  rw [e1,e2]
  exact j4 nS (Al ho h9)
 ·cases h8
theorem Zm (h:Rel bn w0 bg N Fz κ σ a w) {op:BinOp} {c:Yc} {t:TypeId} {x y:Operand} {x' y':dM} (ho:Vl op = some c) (hx:fC x = some x') (hy:fC y = some y') (hE:bZ Γ q σ d (.cmp c x' y') = some (pv,σ')) :
  Does P bn w0 bg N q d Fz κ σ a w (do let v ← (do eqGuard op t x y (a.eval x) (a.eval y);binOp op t (a.eval x) (a.eval y):Sem Value);Pure.pure (.value v)) σ' pv:=by
 obtain ⟨u,h1,h2⟩:=zbm hE
 obtain ⟨v,h3,h4⟩:=zbm h2
 obtain ⟨m,h5,h6⟩:=zbm h4
 obtain ⟨n,h7,h8⟩:=zbm h6
 split at h8
 ·rename_i hk
  cases h8
  have e1:=iD h5 (h.eval hx h1)
  have e2:=iD h7 (h.eval hy h3)
  obtain ⟨k,m⟩:=m
  obtain ⟨k',n⟩:=n
  simp only at hk e1 e2
  subst hk
  refine Does.pure h (v:=.bool (xD c m n)) ?_ rfl
  rw [e1,e2]
  exact j4 nS (Qd ho)
 ·cases h8
theorem D7 (a b:ByteArray):(a.toList == b.toList) = decide (a = b):=by
 by_cases h:a = b
 ·subst h
  rw [aja rfl];exact beq_self_eq_true _
 ·rw [ajc h]
  refine aj7.mpr fun e=>h ?_
  rw [Lib.toList_data,Lib.toList_data] at e
  exact akd (Array.toList_inj.mp e)
theorem Cc {a:KV} (h:a.ks = .one .str):∃ s,a = .one (.str s):=by
 cases a with
 | one x=>cases x <;> simp [KV.ks,SV.sk] at h;exact ⟨_,rfl⟩
 | agg xs=>simp [KV.ks] at h
theorem wU {a:KV} (h:a.ks = .one .bool):∃ s,a = .one (.bool s):=by
 cases a with
 | one x=>cases x <;> simp [KV.ks,SV.sk] at h;exact ⟨_,rfl⟩
 | agg xs=>simp [KV.ks] at h
def xO (P:Program) (t:TypeId) (x y:Operand) (sh:KS) (op:BinOp) (neg:Bool):Prop:=∀ (a b:KV) (w:World),a.ks = sh → b.ks = sh →
 (do eqGuard op t x y (nZ a) (nZ b);binOp op t (nZ a) (nZ b):Sem Value).run P w = .ok (.bool (if neg then !decide (a = b) else decide (a = b))) w
theorem Am {t:TypeId} {x y:Operand}:xO P t x y (.one .str) .eql false ∧ xO P t x y (.one .str) .neq true:=by
 constructor
 ·intro a b w ha hb
  obtain ⟨s,rfl⟩:=Cc ha
  obtain ⟨s',rfl⟩:=Cc hb
  refine j4 rfl ?_
  simp only [nZ,encS,binOp,Op.stringOp,Sem.run_pure,D7]
  simp
 ·intro a b w ha hb
  obtain ⟨s,rfl⟩:=Cc ha
  obtain ⟨s',rfl⟩:=Cc hb
  refine j4 rfl ?_
  simp only [nZ,encS,binOp,Op.stringOp,Sem.run_pure,D7]
  simp
theorem D8 {t:TypeId} {x y:Operand} {sh:KS} (hk:lK P t) (hs:xL P t = some sh) (hag:∀ a:KV,a.ks = sh → ∃ cs,nZ a = .agg cs):xO P t x y sh .eql false ∧ xO P t x y sh .neq true:=by
 constructor
 ·intro a b w ha hb
  refine j4 (hk.guard _ _ _ _ _ _) ?_
  have:=hk.eq sh hs a b w ha hb
  obtain ⟨c1,e1⟩:=hag a ha
  obtain ⟨c2,e2⟩:=hag b hb
  rw [e1,e2] at this ⊢
  simp only [binOp,Sem.run_bind,this,Result.andThen_ok,Sem.run_pure]
  simp
 ·intro a b w ha hb
  refine j4 (hk.guard _ _ _ _ _ _) ?_
  have:=hk.eq sh hs a b w ha hb
  obtain ⟨c1,e1⟩:=hag a ha
  obtain ⟨c2,e2⟩:=hag b hb
  rw [e1,e2] at this ⊢
  simp only [binOp,Sem.run_bind,this,Result.andThen_ok,Sem.run_pure]
  simp
theorem xP {t:TypeId} {x y:Operand} (hu:P.underlying t = some .bool):xO P t x y (.one .bool) .eql false ∧ xO P t x y (.one .bool) .neq true:=by
 have key:∀ (s s':Bool) (w:World),(Op.equal t (.bool s) (.bool s')).run P w = .ok (decide (s = s')) w:=by
  intro s s' w
  unfold Op.equal Op.maxDepth Op.equalIn
  simp only [Sem.run_bind,run_underlying hu,Result.andThen_ok]
  cases s <;> cases s' <;> rfl
 constructor
 ·intro a b w ha hb
  obtain ⟨s,rfl⟩:=wU ha
  obtain ⟨s',rfl⟩:=wU hb
  refine j4 rfl ?_
  simp only [nZ,encS,binOp,Sem.run_bind,key,Result.andThen_ok,Sem.run_pure]
  simp
 ·intro a b w ha hb
  obtain ⟨s,rfl⟩:=wU ha
  obtain ⟨s',rfl⟩:=wU hb
  refine j4 rfl ?_
  simp only [nZ,encS,binOp,Sem.run_bind,key,Result.andThen_ok,Sem.run_pure]
  simp
theorem vP (h:Rel bn w0 bg N Fz κ σ a w) {op:BinOp} {t:TypeId} {sh:KS} {neg:Bool} {x y:Operand} {x' y':dM} (hr:xO P t x y sh op neg) (hx:fC x = some x') (hy:fC y = some y') (hE:bZ Γ q σ d (.ru sh neg x' y') = some (pv,σ')) :
  Does P bn w0 bg N q d Fz κ σ a w (do let v ← (do eqGuard op t x y (a.eval x) (a.eval y);binOp op t (a.eval x) (a.eval y):Sem Value);Pure.pure (.value v)) σ' pv:=by
 obtain ⟨u,h1,h2⟩:=zbm hE
 obtain ⟨v,h3,h4⟩:=zbm h2
 obtain ⟨m,h5,h6⟩:=zbm h4
 obtain ⟨n,h7,h8⟩:=zbm h6
 split at h8
 ·rename_i hk
  cases h8
  have e1:=xM h5 (h.eval hx h1)
  have e2:=xM h7 (h.eval hy h3)
  refine Does.pure h (v:=.bool (if neg then !decide (m = n) else decide (m = n))) ?_ rfl
  rw [e1,e2]
  exact hr m n w hk.1 hk.2
 ·cases h8
theorem Zn (h:Rel bn w0 bg N Fz κ σ a w) {t:TypeId} {x y:Operand} {x' y':dM} (hx:fC x = some x') (hy:fC y = some y') (hE:bZ Γ q σ d (.cat x' y') = some (pv,σ')) :
  Does P bn w0 bg N q d Fz κ σ a w (do let v ← (do eqGuard .add t x y (a.eval x) (a.eval y);binOp .add t (a.eval x) (a.eval y):Sem Value);Pure.pure (.value v)) σ' pv:=by
 obtain ⟨u,h1,h2⟩:=zbm hE
 obtain ⟨v,h3,h4⟩:=zbm h2
 split at h4
 ·rename_i s s'
  split at h4
  ·rename_i hz
   cases h4
   have e1:a.eval x = .string s:=h.eval hx h1
   have e2:a.eval y = .string s':=h.eval hy h3
   refine Does.pure h (v:=.string (s ++ s')) ?_ rfl
   rw [e1,e2]
   refine j4 rfl ?_
   simp only [binOp,Op.stringOp]
   go_simp
   omega
  ·cases h4
 ·cases h4
theorem aeO (h:Rel bn w0 bg N Fz κ σ a w) {ts:Array TypeId} {u:TypeId} {x y:Operand} {x' y':dM} (hx:fC x = some x') (hy:fC y = some y') (hE:bZ Γ q σ d (.mn x' y') = some (pv,σ')) :
  Does P bn w0 bg N q d Fz κ σ a w (do let v ← Builtin.min_ ts u #[a.eval x,a.eval y];Pure.pure (.value v)) σ' pv:=by
 obtain ⟨u,h1,h2⟩:=zbm hE
 obtain ⟨v,h3,h4⟩:=zbm h2
 obtain ⟨m,h5,h6⟩:=zbm h4
 obtain ⟨n,h7,h8⟩:=zbm h6
 split at h8
 ·rename_i hk
  cases h8
  have e1:=iD h5 (h.eval hx h1)
  have e2:=iD h7 (h.eval hy h3)
  refine Does.pure h (v:=.int m.1 (if n.2 < m.2 then n.2 else m.2)) ?_ rfl
  rw [e1,e2]
  rfl
 ·cases h8
theorem aeP (h:Rel bn w0 bg N Fz κ σ a w) {ts:Array TypeId} {u:TypeId} {x y:Operand} {x' y':dM} (hx:fC x = some x') (hy:fC y = some y') (hE:bZ Γ q σ d (.mx x' y') = some (pv,σ')) :
  Does P bn w0 bg N q d Fz κ σ a w (do let v ← Builtin.max_ ts u #[a.eval x,a.eval y];Pure.pure (.value v)) σ' pv:=by
 obtain ⟨u,h1,h2⟩:=zbm hE
 obtain ⟨v,h3,h4⟩:=zbm h2
 obtain ⟨m,h5,h6⟩:=zbm h4
 obtain ⟨n,h7,h8⟩:=zbm h6
 split at h8
 ·rename_i hk
  cases h8
  have e1:=iD h5 (h.eval hx h1)
  have e2:=iD h7 (h.eval hy h3)
  refine Does.pure h (v:=.int m.1 (if m.2 < n.2 then n.2 else m.2)) ?_ rfl
  rw [e1,e2]
  rfl
 ·cases h8
theorem Zo (h:Rel bn w0 bg N Fz κ σ a w) {x:Operand} {x':dM} {i:Nat} (hx:fC x = some x') (hE:bZ Γ q σ d (.ext x' i) = some (pv,σ')) :
  Does P bn w0 bg N q d Fz κ σ a w (do let v ← Instr.extract (a.eval x) i;Pure.pure (.value v)) σ' pv:=by
 simp only [bZ] at hE
 split at hE
 ·rename_i l hl
  obtain ⟨v,h1,h2⟩:=zmm hE
  cases h2
  obtain ⟨vs,e1,e2⟩:=h.Ik hx hl
  have key:∀ (l:List CV) (us:List Value) (i:Nat) (v:CV),dO Fz κ w l us → l[i]? = some v → ∃ u,us[i]? = some u ∧ fV Fz κ w v u:=by
   intro l
   induction l with
   | nil=>intro us i v _ h;simp at h
   | cons x l ih =>
    intro us i v h h2
    cases us with
    | nil=>exact h.elim
    | cons u us =>
     cases i with
     | zero=>simp at h2;subst h2;exact ⟨u,rfl,h.1⟩
     | succ i=>simp at h2;exact ih us i v h.2 h2
  obtain ⟨u,h3,h4⟩:=key _ _ _ _ e2 h1
  refine Does.pure h (v:=u) ?_ h4
  rw [e1]
  rw [akm] at h3
  simp [Instr.extract,h3]
 ·cases hE
theorem Zp (h:Rel bn w0 bg N Fz κ σ a w) {t:TypeId} (ht:P.underlying t = some .string) {x y:Operand} {x' y':dM} (hx:fC x = some x') (hy:fC y = some y') (hE:bZ Γ q σ d (.chr x' y') = some (pv,σ')) :
  Does P bn w0 bg N q d Fz κ σ a w (do let v ← Instr.index t (a.eval x) (a.eval y);Pure.pure (.value v)) σ' pv:=by
 obtain ⟨u,h1,h2⟩:=zbm hE
 obtain ⟨v,h3,h4⟩:=zbm h2
 obtain ⟨m,h5,h6⟩:=zbm h4
 have e2:=iD h5 (h.eval hy h3)
 split at h6
 ·rename_i s
  split at h6
  ·rename_i h0
   obtain ⟨b,h7,h8⟩:=zbm h6
   cases h8
   have e1:a.eval x = .string s:=h.eval hx h1
   refine Does.pure h (v:=.int .u8 b.toNat) ?_ rfl
   rw [e1,e2]
   have h9:s[m.2.toNat]? = some b:=by
    obtain ⟨h10,h11⟩:=ake.mp h7
    have h12:m.2.toNat < s.size:=h10
    rw [getElem?_pos s m.2.toNat h12]
    exact ajC some h11
   unfold Instr.index
   simp only [Sem.run_bind,iX,run_underlying ht,Result.andThen_ok,ai8 h0,h9,Sem.run_pure]
  ·cases h6
 ·cases h6
end
end
section
open Go
section
variable {P : Program} {Γ:Env} {bn Fz:Nat → Prop} {w0 w w':World} {bg:List Nat} {N:Fr} {d:Nat} {q:Bool} {κ:Nat → Value} {σ σ':St} {a:Act} {pv:PV} {o:Oper}
theorem mK (b off i:Nat):(⟨b,off,none⟩:Addr).add i = ⟨b,off + i,none⟩:=by
 unfold Addr.add
 split <;> simp_all
theorem vQ (b o:Nat) (cs:List Value) (h:∀ j v,cs[j]? = some v → w.cell? ⟨b,o + j,none⟩ = some v):(loadCells ⟨b,o,none⟩ cs.length).run P w = .ok cs.toArray w :=
 run_loadCells_list w ⟨b,o,none⟩ cs (fun j v hj=>by rw [mK];exact h j v hj)
theorem mq {t:TypeId} {g:Bool} (h:uP P t = some g):(isAgg t).run P w = .ok g w:=by
 unfold uP at h
 unfold isAgg
 split at h
 ·rename_i fs hu;cases h;simp only [Sem.run_bind,run_underlying hu,Result.andThen_ok];rfl
 ·rename_i n e hu;cases h;simp only [Sem.run_bind,run_underlying hu,Result.andThen_ok];rfl
 ·rename_i u h1 h2 hu
  cases h
  simp only [Sem.run_bind,run_underlying hu,Result.andThen_ok]
  cases u <;> first | rfl | exact absurd rfl (h1 _) | exact absurd rfl (h2 _ _) | (exfalso;exact h1 _ hu) | (exfalso;exact h2 _ _ hu)
 ·cases h
theorem nT {t:TypeId} {n:Nat} (h:lJ P t = some n):(sizeOf t).run P w = .ok n w:=by
 obtain ⟨i,h1,h2⟩:=zmm h
 have:=run_sizeOf (w:=w) h1
 rw [this]
 unfold Program.cellsOf
 rw [h1]
 simp [h2]
theorem nH {t:TypeId} {g:Bool} {n b o:Nat} {xs:List PL} {vs:List Value} {u:CV} (hg:uP P t = some g) (hn:lJ P t = some n) (hx:aT Fz κ w xs vs) (hc:∀ j v,vs[j]? = some v → w.cell? ⟨b,o + j,none⟩ = some v)
  (hl:vs.length = if g then n else 1) (hm:mk g xs = some u):∃ v,(loadVar t ⟨b,o,none⟩).run P w = .ok v w ∧ fV Fz κ w u v:=by
 unfold loadVar
 cases g with
 | true =>
  cases hm
  have:=vQ (P:=P) b o vs hc
  rw [hl,ai8 rfl] at this
  exact ⟨.agg vs.toArray,by simp only [Sem.run_bind,mq hg,nT hn,this,Result.andThen_ok,ajH,Sem.run_pure],vs.toArray,rfl,hx⟩
 | false =>
  simp only [mk,ajB,ajv] at hm
  split at hm
  ·rename_i x
   cases hm
   cases vs with
   | nil=>exact hx.elim
   | cons v vs =>
    have h1:=hc 0 v rfl
    rw [Nat.add_zero] at h1
    refine ⟨v,?_,hx.1⟩
    simp only [Sem.run_bind,mq hg,Result.andThen_ok,ajB,ajv]
    rw [run_load,h1]
  ·cases hm
theorem aT.seg : ∀ {xs l:List PL} {vs:List Value} {n off:Nat},aT Fz κ w xs vs → Ev.seg n off xs = some l → aT Fz κ w l ((vs.drop off).take n) ∧ ((vs.drop off).take n).length = n ∧ off + n ≤ vs.length:=by
 intro xs l vs n off h hs
 unfold Ev.seg at hs
 split at hs
 ·rename_i hle
  cases hs
  have hlen:=h.length
  refine ⟨?_,by rw [ajq,ajA];omega,by omega⟩
  have drop:∀ (k:Nat) (xs:List PL) (vs:List Value),aT Fz κ w xs vs → aT Fz κ w (xs.drop k) (vs.drop k):=by
   intro k
   induction k with
   | zero=>intro xs vs h;exact h
   | succ k ih =>
    intro xs vs h
    cases xs with
    | nil=>cases vs with | nil=>trivial | cons _ _=>exact h.elim
    | cons x xs=>cases vs with | nil=>exact h.elim | cons v vs=>exact ih xs vs h.2
  have take:∀ (k:Nat) (xs:List PL) (vs:List Value),aT Fz κ w xs vs → aT Fz κ w (xs.take k) (vs.take k):=by
   intro k
   induction k with
   | zero=>intro xs vs h;simp only [List.take_zero];trivial
   | succ k ih =>
    intro xs vs h
    cases xs with
    | nil=>cases vs with | nil=>trivial | cons _ _=>exact h.elim
    | cons x xs=>cases vs with | nil=>exact h.elim | cons v vs=>exact ⟨h.1,ih xs vs h.2⟩
  exact take n _ _ (drop off _ _ h)
 ·cases hs
theorem eu.cells : ∀ {xs:List FV} {b o:Nat},eu Fz w b o xs → ∃ vs,cB Fz w xs vs ∧ ∀ j v,vs[j]? = some v → w.cell? ⟨b,o + j,none⟩ = some v
 | [],b,o,h=>⟨[],trivial,fun j v hj=>by simp at hj⟩
 | x :: xs,b,o,h=>by
  simp only [eu] at h
  obtain ⟨⟨u,h1,h2⟩,h3⟩:=h
  obtain ⟨vs,h4,h5⟩:=eu.cells h3
  refine ⟨u :: vs,⟨h2,h4⟩,fun j v hj=>?_⟩
  cases j with
  | zero=>simp at hj;subst hj;exact h1
  | succ j=>simp at hj;rw [show o + (j + 1) = o + 1 + j from by omega];exact h5 j v hj
theorem cB.Yk : ∀ {xs:List FV} {vs:List Value},cB Fz w xs vs → aT Fz κ w (xs.map .f) vs
 | [],[],_=>trivial
 | x :: xs,v :: vs,h=>⟨h.1,cB.Yk h.2⟩
 | [],_ :: _,h=>h.elim
 | _ :: _,[],h=>h.elim
theorem cB.take : ∀ {xs:List FV} {vs:List Value} (n:Nat),cB Fz w xs vs → cB Fz w (xs.take n) (vs.take n)
 | _,_,0,_=>by simp only [List.take_zero];trivial
 | [],[],n + 1,_=>trivial
 | x :: xs,v :: vs,n + 1,h=>⟨h.1,cB.take n h.2⟩
 | [],_ :: _,_ + 1,h=>h.elim
 | _ :: _,[],_ + 1,h=>h.elim
theorem cB.drop : ∀ {xs:List FV} {vs:List Value} (n:Nat),cB Fz w xs vs → cB Fz w (xs.drop n) (vs.drop n)
 | _,_,0,h=>h
 | [],[],n + 1,_=>trivial
 | x :: xs,v :: vs,n + 1,h=>cB.drop n h.2
 | [],_ :: _,_ + 1,h=>h.elim
 | _ :: _,[],_ + 1,h=>h.elim
theorem cB.seg {xs l:List FV} {vs:List Value} {n off:Nat} (h:cB Fz w xs vs) (hs:Ev.seg n off xs = some l):cB Fz w l ((vs.drop off).take n) ∧ ((vs.drop off).take n).length = n ∧ off + n ≤ vs.length:=by
 unfold Ev.seg at hs
 split at hs
 ·rename_i hle
  cases hs
  have hlen:=h.length
  exact ⟨cB.take n (cB.drop off h),by rw [ajq,ajA];omega,by omega⟩
 ·cases hs
theorem kW {vs:List Value} {n off b o:Nat} (hc:∀ j v,vs[j]? = some v → w.cell? ⟨b,o + j,none⟩ = some v):∀ j v,((vs.drop off).take n)[j]? = some v → w.cell? ⟨b,o + off + j,none⟩ = some v:=by
 intro j v hj
 rw [ajU] at hj
 split at hj
 ·rw [aj3] at hj
  rw [show o + off + j = o + (off + j) from by omega]
  exact hc _ _ hj
 ·cases hj
theorem Im {B key sz i:Nat} {rows:List (List FV)} {r:List FV} {b:Nat} {n c:Nat} (h:iO B Fz κ w key (.row sz rows)) (hk:κ key = .slice (some ⟨b,0,none⟩) n c) (hr:rows[i]? = some r) :
  r.length = sz ∧ ∃ vs,cB Fz w r vs ∧ ∀ j v,vs[j]? = some v → w.cell? ⟨b,i * sz + j,none⟩ = some v:=by
 obtain ⟨h0,e,inner,A,c',h1,h2,h3⟩:=h
 obtain ⟨h4,h5⟩:=h2
 rcases h5 with ⟨h5,h6⟩ | ⟨g,cap,cur,h5,h6,h7,h8,h9,h10,h11⟩
 ·rw [hk] at h5;cases h5
 ·rw [hk] at h5
  injection h5 with e1 e2 e3
  injection e1 with e1
  injection e1 with e1
  subst e1
  have key:∀ (rows:List (List FV)) (inner:List Value) (i:Nat) (r:List FV),eD Fz w sz rows inner → rows[i]? = some r → r.length = sz ∧ cB Fz w r ((inner.drop (i * sz)).take sz):=by
   intro rows
   induction rows with
   | nil=>intro inner i r h hr;simp at hr
   | cons x rows ih =>
    intro inner i r h hr
    cases i with
    | zero=>simp at hr;subst hr;simp only [akg,aj9];exact ⟨h.1,h.2.1⟩
    | succ i =>
     simp at hr
     have:=ih _ i r h.2.2 hr
     rw [List.drop_drop] at this
     rw [ajV,Nat.add_comm (i * sz) sz]
     exact this
  obtain ⟨h12,h13⟩:=key rows inner i r h3 hr
  refine ⟨h12,_,h13,fun j v hj=>?_⟩
  rw [ajU] at hj
  split at hj
  ·rw [aj3] at hj
   rw [← h11,ajU] at hj
   split at hj
   ·simp only [World.cell?,h7]
    simpa using hj
   ·cases hj
  ·cases hj
theorem Vn (h:Rel bn w0 bg N Fz κ σ a w) {t:TypeId} {x:Operand} {x':dM} {g:Bool} {n:Nat} (hg:uP P t = some g) (hn:lJ P t = some n) (hx:fC x = some x') (hE:bZ Γ q σ d (.load (if g then n else 1) g x') = some (pv,σ')) :
  Does P bn w0 bg N q d Fz κ σ a w (do let v ← Instr.loadAt t (a.eval x);Pure.pure (.value v)) σ' pv:=by
 obtain ⟨v,h1,h2⟩:=zbm hE
 have hv:=h.eval hx h1
 split at h2
 ·rename_i key off
  split at h2
  ·rename_i xs fZ
   obtain ⟨l,h3,h4⟩:=zbm h2
   obtain ⟨u,h5,h6⟩:=zmm h4
   cases h6
   obtain ⟨b,e1,e2⟩:=hv
   obtain ⟨b',cs,e,e3,e4,e5⟩:=h.obj fZ
   rw [e1] at e3
   cases e3
   obtain ⟨e6,e7,e8⟩:=e5.seg h3
   obtain ⟨r,e9,e10⟩:=nH (P:=P) (b:=b) (o:=off) hg hn e6 (fun j v hj=>by
    have:=kW (w:=w) (b:=b) (o:=0) (off:=off) (vs:=cs.toList) (n:=if g then n else 1) (fun j v hj=>by
     rw [ajD]
     simp only [World.cell?,e4]
     simpa using hj) j v hj
    rwa [ajD] at this) e7 h5
   refine Does.pure h (v:=r) ?_ e10
   rw [e2]
   exact e9
  ·cases h2
 ·rename_i cs
  obtain ⟨l,h3,h4⟩:=zbm h2
  obtain ⟨u,h5,h6⟩:=zmm h4
  cases h6
  obtain ⟨b,o,e1,e2,e3⟩:=hv
  obtain ⟨vs,e4,e5⟩:=e3.cells
  obtain ⟨e6,e7,e8⟩:=e4.seg h3
  obtain ⟨r,e9,e10⟩:=nH (P:=P) (b:=b) (o:=o) hg hn (e6.Yk (κ:=κ)) (fun j v hj=>by
    have:=kW (w:=w) (b:=b) (o:=o) (off:=0) e5 j v hj
    rwa [Nat.add_zero] at this) e7 h5
  refine Does.pure h (v:=r) ?_ e10
  rw [e1]
  exact e9
 ·rename_i key z i off
  split at h2
  ·rename_i sz rows fZ
   split at h2
   ·cases h2
   ·rename_i hz
    obtain ⟨rr,h3,h4⟩:=zbm h2
    obtain ⟨l,h5,h6⟩:=zbm h4
    obtain ⟨u,h7,h8⟩:=zmm h6
    cases h8
    obtain ⟨b,n',c,e1,e2⟩:=hv
    obtain ⟨e3,vs,e4,e5⟩:=Im (h.obj fZ) e1 h3
    have hz':sz = z:=ajQ.mp hz
    subst hz'
    obtain ⟨e6,e7,e8⟩:=e4.seg h5
    obtain ⟨r,e9,e10⟩:=nH (P:=P) (b:=b) (o:=i * sz + off) hg hn (e6.Yk (κ:=κ)) (kW e5) e7 h7
    refine Does.pure h (v:=r) ?_ e10
    rw [e2]
    exact e9
  ·cases h2
 ·cases h2
end
end
section
open Go
section
variable {P : Program} {Γ:Env} {bn Fz:Nat → Prop} {w0 w w':World} {bg:List Nat} {N:Fr} {d:Nat} {q:Bool} {κ:Nat → Value} {σ σ':St} {a:Act} {pv:PV} {o:Oper}
theorem Vo (h:Rel bn w0 bg N Fz κ σ a w) {x:Operand} {x':dM} (hx:fC x = some x') (hE:bZ Γ q σ d (.gZ x') = some (pv,σ')) (ho:o.op = .nilCheck x) :
  Does P bn w0 bg N q d Fz κ σ a w (execOp a.eval o) σ' pv:=by
 obtain ⟨v,h1,h2⟩:=zbm hE
 have hv:=h.eval hx h1
 have key:∀ ad,a.eval x = .pointer (some ad) → σ' = σ → pv = .c v → Does P bn w0 bg N q d Fz κ σ a w (execOp a.eval o) σ' pv:=by
  intro ad he e1 e2
  subst e1 e2
  refine ⟨.value (.pointer (some ad)),w,κ,Fz,_,?_,.inl rfl,Good.pure h (by rw [← he];exact hv)⟩
  unfold execOp
  simp only [ho,he]
  rfl
 split at h2
 ·cases h2;obtain ⟨b,_,e⟩:=hv;exact key _ e rfl rfl
 ·cases h2;obtain ⟨b,_,e,_⟩:=hv;exact key _ e rfl rfl
 ·cases h2;obtain ⟨b,_,_,_,e⟩:=hv;exact key _ e rfl rfl
 ·cases h2
theorem eu.drop : ∀ {xs:List FV} {b o:Nat} (n:Nat),eu Fz w b o xs → eu Fz w b (o + n) (xs.drop n)
 | xs,b,o,0,h=>h
 | [],b,o,n + 1,h=>by simp only [List.drop_nil];trivial
 | x :: xs,b,o,n + 1,h=>by
  simp only [eu] at h
  have:=eu.drop n h.2
  rw [show o + (n + 1) = o + 1 + n from by omega]
  exact this
theorem pQ {f:Field} {n:Nat} (hn:lJ P f.type = some n) (h0:n ≠ 0) (b o:Nat):(fieldPlace ⟨b,o,none⟩ f).run P w = .ok ⟨b,o + f.offset,none⟩ w:=by
 unfold fieldPlace
 simp only [Sem.run_bind,nT hn,Result.andThen_ok,ai9 h0,Sem.run_pure]
 rw [mK]
theorem Ce {t:TypeId} {i:Nat} {f:Field} (h:JY P t i = some f):∃ fs,P.underlying t = some (.struct fs) ∧ fs[i]? = some f:=by
 unfold JY at h
 split at h
 ·rename_i fs hu;exact ⟨fs,hu,h⟩
 ·cases h
theorem aeQ (h:Rel bn w0 bg N Fz κ σ a w) {t:TypeId} {i n:Nat} {f:Field} {x:Operand} {x':dM} (hf:JY P t i = some f) (hn:lJ P f.type = some n) (h0:n ≠ 0) (hx:fC x = some x') (hE:bZ Γ q σ d (.fa f.offset x') = some (pv,σ')) :
  Does P bn w0 bg N q d Fz κ σ a w (do let v ← Instr.fieldAt t (a.eval x) i;Pure.pure (.value v)) σ' pv:=by
 obtain ⟨v,h1,h2⟩:=zbm hE
 have hv:=h.eval hx h1
 obtain ⟨fs,hu,hi⟩:=Ce hf
 have run:∀ b o,a.eval x = .pointer (some ⟨b,o,none⟩) → (Instr.fieldAt t (a.eval x) i).run P w = .ok (.pointer (some ⟨b,o + f.offset,none⟩)) w:=by
  intro b o he
  rw [he]
  unfold Instr.fieldAt
  simp only [Sem.run_bind,run_underlying hu,Result.andThen_ok,hi]
  simp only [Instr.sureAddr,Sem.run_bind,Sem.run_pure,Result.andThen_ok,pQ hn h0]
 split at h2
 ·cases h2;obtain ⟨b,e1,e2⟩:=hv;exact Does.pure h (run _ _ e2) ⟨b,e1,rfl⟩
 ·cases h2;obtain ⟨b,o,e1,e2,e3⟩:=hv;exact Does.pure h (run _ _ e1) ⟨b,_,rfl,e2,e3.drop _⟩
 ·cases h2;obtain ⟨b,n',c,e1,e2⟩:=hv;exact Does.pure h (run _ _ e2) ⟨b,n',c,e1,by rw [Nat.add_assoc]⟩
 ·cases h2
theorem Zq (h:Rel bn w0 bg N Fz κ σ a w) {t:TypeId} {off:Nat} {x y:Operand} {x':dM} (ha:Qc P t y = some off) (hx:fC x = some x') (hE:bZ Γ q σ d (.fa off x') = some (pv,σ')) :
  Does P bn w0 bg N q d Fz κ σ a w (do let v ← Instr.indexAt t (a.eval x) (a.eval y);Pure.pure (.value v)) σ' pv:=by
 obtain ⟨v,h1,h2⟩:=zbm hE
 have hv:=h.eval hx h1
 unfold Qc at ha
 split at ha
 ·rename_i kk k
  split at ha
  ·rename_i n e hu
   obtain ⟨sz,h3,h4⟩:=zbm ha
   split at h4
   ·rename_i hk
    cases h4
    have run:∀ b o,a.eval x = .pointer (some ⟨b,o,none⟩) → (Instr.indexAt t (a.eval x) (a.eval (.const (.int kk k)))).run P w = .ok (.pointer (some ⟨b,o + k.toNat * sz,none⟩)) w:=by
     intro b o he
     rw [he,show a.eval (.const (.int kk k)) = .int kk k from rfl]
     unfold Instr.indexAt
     simp only [Sem.run_bind,iX,run_underlying hu,Result.andThen_ok,Sem.run_pure,Instr.sureAddr]
     simp only [ai8 hk,Sem.run_bind,nT h3,Result.andThen_ok,Sem.run_pure,mK]
    split at h2
    ·cases h2;obtain ⟨b,e1,e2⟩:=hv;exact Does.pure h (run _ _ e2) ⟨b,e1,rfl⟩
    ·cases h2;obtain ⟨b,o,e1,e2,e3⟩:=hv;exact Does.pure h (run _ _ e1) ⟨b,_,rfl,e2,e3.drop _⟩
    ·cases h2;obtain ⟨b,n',c,e1,e2⟩:=hv;exact Does.pure h (run _ _ e2) ⟨b,n',c,e1,by rw [Nat.add_assoc]⟩
    ·cases h2
   ·cases h4
  ·cases ha
 ·cases ha
theorem D9 {t:TypeId} {g:Bool} {n off:Nat} {xs l:List PL} {cs:Array Value} {u:CV} (hg:uP P t = some g) (hn:lJ P t = some n) (hx:aT Fz κ w xs cs.toList) (hs:seg (if g then n else 1) off xs = some l) (hm:mk g l = some u) :
  ∃ v,(part t cs off).run P w = .ok v w ∧ fV Fz κ w u v:=by
 obtain ⟨e1,e2,e3⟩:=hx.seg hs
 unfold part
 cases g with
 | true =>
  cases hm
  refine ⟨.agg (cs.extract off (off + n)),by simp only [Sem.run_bind,mq hg,nT hn,Result.andThen_ok,ajH,Sem.run_pure],_,rfl,?_⟩
  have:(cs.extract off (off + n)).toList = (cs.toList.drop off).take n:=by
   rw [Array.toList_extract]
   show List.take (off + n - off) (List.drop off cs.toList) = _
   rw [show off + n - off = n from by omega]
  rw [this]
  exact e1
 | false =>
  simp only [mk,ajB,ajv] at hm
  split at hm
  ·rename_i x
   cases hm
   simp only [ajB,ajv] at e1 e2 e3
   have hlt:off < cs.size:=by rw [Array.length_toList] at e3;omega
   have e4:(cs.toList.drop off).take 1 = [cs[off]]:=by
    rw [akC (by rw [Array.length_toList];exact hlt)]
    simp
   rw [e4] at e1
   refine ⟨cs[off],?_,e1.1⟩
   simp only [Sem.run_bind,mq hg,Result.andThen_ok,ajB,ajv,ajF hlt]
   rfl
  ·cases hm
theorem Zr (h:Rel bn w0 bg N Fz κ σ a w) {t:TypeId} {i n:Nat} {f:Field} {g:Bool} {x:Operand} {x':dM} (hf:JY P t i = some f) (hn:lJ P f.type = some n) (hg:uP P f.type = some g) (hx:fC x = some x') (hE:bZ Γ q σ d (.Yd f.offset (if g then n else 1) g x') = some (pv,σ')) :
  Does P bn w0 bg N q d Fz κ σ a w (do let v ← Instr.field t (a.eval x) i;Pure.pure (.value v)) σ' pv:=by
 obtain ⟨v,h1,h2⟩:=zbm hE
 have hv:=h.eval hx h1
 obtain ⟨fs,hu,hi⟩:=Ce hf
 split at h2
 ·obtain ⟨l,h3,h4⟩:=zbm h2
  obtain ⟨u,h5,h6⟩:=zmm h4
  cases h6
  obtain ⟨cs,e1,e2⟩:=hv
  obtain ⟨r,e3,e4⟩:=D9 (P:=P) hg hn e2 h3 h5
  refine Does.pure h (v:=r) ?_ e4
  rw [e1]
  unfold Instr.field
  simp only [Sem.run_bind,run_underlying hu,Result.andThen_ok,hi]
  simp only [asAgg,Sem.run_bind,Sem.run_pure,Result.andThen_ok,e3]
 ·cases h2
theorem Zt (h:Rel bn w0 bg N Fz κ σ a w) {t e:TypeId} {len n:Nat} {g:Bool} {x y:Operand} {x' y':dM} (hu:P.underlying t = some (.array len e)) (hn:lJ P e = some n) (hg:uP P e = some g) (hn1:g = false → n = 1) (hx:fC x = some x') (hy:fC y = some y') (hE:bZ Γ q σ d (.idx (if g then n else 1) len g x' y') = some (pv,σ')) :
  Does P bn w0 bg N q d Fz κ σ a w (do let v ← Instr.index t (a.eval x) (a.eval y);Pure.pure (.value v)) σ' pv:=by
 obtain ⟨v,h1,h2⟩:=zbm hE
 obtain ⟨j,h3,h4⟩:=zbm h2
 obtain ⟨p,h5,h6⟩:=zbm h4
 have hv:=h.eval hx h1
 have hj:=iD h5 (h.eval hy h3)
 split at h6
 ·rename_i hr
  split at h6
  ·obtain ⟨l,h7,h8⟩:=zbm h6
   obtain ⟨u,h9,h10⟩:=zmm h8
   cases h10
   obtain ⟨cs,e1,e2⟩:=hv
   obtain ⟨r,e3,e4⟩:=D9 (P:=P) hg hn e2 h7 h9
   refine Does.pure h (v:=r) ?_ e4
   rw [e1,hj]
   unfold Instr.index
   have e5:p.2.toNat * n = p.2.toNat * (if g then n else 1):=by
    cases g with
    | true=>rfl
    | false=>rw [hn1 rfl];rfl
   simp only [Sem.run_bind,iX,run_underlying hu,Result.andThen_ok,ai8 hr,nT hn,e5,e3]
  ·cases h6
 ·cases h6
theorem dn.get : ∀ {rows:List (List FV)} {sz b o i:Nat} {r:List FV},dn Fz w sz b o rows → rows[i]? = some r → r.length = sz ∧ eu Fz w b (o + i * sz) r
 | [],_,_,_,_,_,_,hr=>by simp at hr
 | x :: rows,sz,b,o,0,r,h,hr=>by
  simp only [dn] at h
  simp at hr
  subst hr
  rw [akg,Nat.add_zero]
  exact ⟨h.1,h.2.1⟩
 | x :: rows,sz,b,o,i + 1,r,h,hr=>by
  simp only [dn] at h
  simp at hr
  have:=dn.get (i:=i) h.2.2 hr
  rw [show o + (i + 1) * sz = o + sz + i * sz from by rw [ajV];omega]
  exact this
theorem uR {t e:TypeId} (h:TG P t = some e):P.underlying t = some (.slice e):=by
 unfold TG at h
 split at h
 ·rename_i e' hu;cases h;exact hu
 ·cases h
theorem aeR (h:Rel bn w0 bg N Fz κ σ a w) {t e:TypeId} {sz:Nat} {x y:Operand} {x' y':dM} (hu:TG P t = some e) (hn:lJ P e = some sz) (hx:fC x = some x') (hy:fC y = some y') (hE:bZ Γ q σ d (.ia sz x' y') = some (pv,σ')) :
  Does P bn w0 bg N q d Fz κ σ a w (do let v ← Instr.indexAt t (a.eval x) (a.eval y);Pure.pure (.value v)) σ' pv:=by
 obtain ⟨v,h1,h2⟩:=zbm hE
 obtain ⟨j,h3,h4⟩:=zbm h2
 obtain ⟨p,h5,h6⟩:=zbm h4
 have hv:=h.eval hx h1
 have hj:=iD h5 (h.eval hy h3)
 have run:∀ b o len c,a.eval x = .slice (some ⟨b,o,none⟩) len c → 0 ≤ p.2 → p.2 < len → (Instr.indexAt t (a.eval x) (a.eval y)).run P w = .ok (.pointer (some ⟨b,o + p.2.toNat * sz,none⟩)) w:=by
  intro b o len c he h0 hl
  rw [he,hj]
  unfold Instr.indexAt
  simp only [Sem.run_bind,iX,run_underlying (uR hu),Result.andThen_ok,Sem.run_pure]
  simp only [ai8 (And.intro h0 hl),Sem.run_bind,nT hn,Result.andThen_ok,Sem.run_pure,mK]
 split at h6
 ·rename_i h0
  split at h6
  ·rename_i rows
   obtain ⟨r,h7,h8⟩:=zbm h6
   split at h8
   ·rename_i hl
    cases h8
    simp only [fV,eB,eY] at hv
    obtain ⟨A,c,e1,e2,e3,e4⟩:=hv
    rcases e4 with e4 | ⟨b,o,sz',rfl,e5,e6⟩
    ·subst e4;simp at h7
    ·obtain ⟨e7,e8⟩:=e6.get h7
     have hlt:p.2.toNat < rows.length:=(aj1.mp h7).1
     have:sz' = sz:=by omega
     subst this
     exact Does.pure h (run b o _ c e1 h0 (by omega)) ⟨b,_,rfl,e5,e8⟩
   ·cases h8
  ·rename_i key n
   split at h6
   ·rename_i sz' rows fZ
    split at h6
    ·rename_i hc
     cases h6
     obtain ⟨e1,A,c,e2⟩:=hv
     obtain ⟨h00,e,inner,A',c',e3,e4,e5⟩:=h.obj fZ
     obtain ⟨e6,e7⟩:=e4
     rcases e7 with ⟨e7,e8⟩ | ⟨g,cap,cur,e7,e8⟩
     ·exfalso
      rw [hc.2.2,e8] at hc
      have:=hc.2.1
      omega
     ·rw [e2] at e1
      rw [e7] at e1
      injection e1 with e9 e10 e11
      subst e9
      refine Does.pure h (run g 0 n c e2 h0 hc.2.1) ⟨g,_,_,e7,?_⟩
      simp
    ·cases h6
   ·cases h6
  ·cases h6
 ·cases h6
theorem Vp (h:Rel bn w0 bg N Fz κ σ a w) {ts:Array TypeId} {t u:TypeId} {x:Operand} {x':dM} (ht:ts[0]? = some t) (hu:P.underlying t = some .string) (hx:fC x = some x') (hE:bZ Γ q σ d (.xw x') = some (pv,σ')) :
  Does P bn w0 bg N q d Fz κ σ a w (do let v ← Builtin.len_ ts u #[a.eval x];Pure.pure (.value v)) σ' pv:=by
 obtain ⟨v,h1,h2⟩:=zbm hE
 have hv:=h.eval hx h1
 split at h2
 ·rename_i s
  cases h2
  have e:a.eval x = .string s:=hv
  refine Does.pure h (v:=.int .i64 s.size) ?_ rfl
  rw [e]
  unfold Builtin.len_
  simp only [ht,Sem.run_bind,run_underlying hu,Result.andThen_ok]
  simp [hu,run_underlying hu,goInt]
 ·cases h2
theorem Vq (h:Rel bn w0 bg N Fz κ σ a w) {ts:Array TypeId} {t u e:TypeId} {x:Operand} {x':dM} (ht:ts[0]? = some t) (hu:P.underlying t = some (.slice e)) (hx:fC x = some x') (hE:bZ Γ q σ d (.iB x') = some (pv,σ')) :
  Does P bn w0 bg N q d Fz κ σ a w (do let v ← Builtin.len_ ts u #[a.eval x];Pure.pure (.value v)) σ' pv:=by
 obtain ⟨v,h1,h2⟩:=zbm hE
 have hv:=h.eval hx h1
 have run:∀ A n c,a.eval x = .slice A n c → (Builtin.len_ ts u #[a.eval x]).run P w = .ok (.int .i64 n) w:=by
  intro A n c e
  rw [e]
  unfold Builtin.len_
  simp [ht,Sem.run_bind,run_underlying hu,goInt]
 split at h2
 ·cases h2
  simp only [fV,eB,eY] at hv
  obtain ⟨A,c,e1,_⟩:=hv
  exact Does.pure h (run _ _ _ e1) rfl
 ·cases h2;exact Does.pure h (run _ _ _ hv) rfl
 ·cases h2
  obtain ⟨_,A,c,e1⟩:=hv
  exact Does.pure h (run _ _ _ e1) rfl
 ·cases h2
theorem iN.len : ∀ {l:List (KV × FC)} {m:List (KV × Value)},iN Fz w l m → m.length = l.length
 | [],[],_=>rfl
 | p :: l,q :: m,h=>by rw [List.length_cons,List.length_cons,iN.len h.2.2]
 | [],_ :: _,h=>h.elim
 | _ :: _,[],h=>h.elim
theorem Vr (h:Rel bn w0 bg N Fz κ σ a w) {ts:Array TypeId} {t u k e:TypeId} {x:Operand} {x':dM} (ht:ts[0]? = some t) (hu:P.underlying t = some (.map k e)) (hx:fC x = some x') (hE:bZ Γ q σ d (.JQ x') = some (pv,σ')) :
  Does P bn w0 bg N q d Fz κ σ a w (do let v ← Builtin.len_ ts u #[a.eval x];Pure.pure (.value v)) σ' pv:=by
 obtain ⟨v,h1,h2⟩:=zbm hE
 have hv:=h.eval hx h1
 split at h2
 ·cases h2
  have e1:a.eval x = .map none:=hv
  refine Does.pure h (v:=.int .i64 0) ?_ rfl
  rw [e1]
  unfold Builtin.len_
  simp [ht,Sem.run_bind,run_underlying hu,goInt]
 ·rename_i key
  split at h2
  ·rename_i sh ents fZ
   cases h2
   obtain ⟨b,e1,l,e2,e3,e4⟩:=h.obj fZ
   obtain ⟨es,clock,e5,e6⟩:=e2.len
   have e7:a.eval x = .map (some b):=hv.1.trans e1
   refine Does.pure h (v:=.int .i64 ents.length) ?_ rfl
   rw [e7]
   unfold Builtin.len_
   have:=MapKept.run_getObj_map (P:=P) e5
   simp [ht,Sem.run_bind,run_underlying hu,goInt,this,e6,e3.len]
  ·cases h2
 ·cases h2
theorem Cg (h:Rel bn w0 bg N Fz κ σ a w) {len:Nat} {lo hi:Option Operand} {lo' hi':Option dM} {l r:Nat} (hlo:xK lo = some lo') (hhi:xK hi = some hi') (hr:rng len σ lo' hi' = some (l,r)) :
  l ≤ r ∧ r ≤ len ∧ ∀ (isl:Bool) (cap:Nat),len ≤ cap → (Instr.sliceBounds isl len cap (lo.map a.eval) (hi.map a.eval) none).run P w = .ok (l,r,cap) w:=by
 obtain ⟨r',h1,h2⟩:=zbm hr
 obtain ⟨l',h3,h4⟩:=zmm h2
 cases h4
 have LQ:∀ {n:Nat} {x:Option dM} {dd m:Nat},dd ≤ n → bnd σ n x dd = some m → m ≤ n:=by
  intro n x dd m hd hb
  cases x with
  | none=>cases hb;exact hd
  | some x =>
   obtain ⟨v,h1,h2⟩:=zbm hb
   obtain ⟨p,h3,h4⟩:=zbm h2
   split at h4
   ·rename_i hc;cases h4;omega
   ·cases h4
 have hl:=LQ (ajO _) h3
 have hh:=LQ (ajd _) h1
 refine ⟨hl,hh,fun isl cap hcap=>?_⟩
 have side:∀ {n y m dd:Nat} {x:Option Operand} {x':Option dM} {code:BoundsCode},xK x = some x' → bnd σ n x' dd = some m → n ≤ y → ∀ v,x.map a.eval = some v → (Instr.sliceBound v y code).run P w = .ok m w:=by
  intro n y m dd x x' code hx hb hy v hv
  cases x with
  | none=>cases hv
  | some x =>
   cases hv
   obtain ⟨x1,e1,rfl⟩:=zmm hx
   obtain ⟨c,h1,h2⟩:=zbm hb
   obtain ⟨p,h3,h4⟩:=zbm h2
   split at h4
   ·rename_i hc
    cases h4
    rw [iD h3 (h.eval e1 h1)]
    unfold Instr.sliceBound
    have hc':0 ≤ p.2 ∧ p.2 ≤ (y:Int):=⟨hc.1,by omega⟩
    simp only [Sem.run_bind,iX,Result.andThen_ok,ai8 hc',Sem.run_pure]
   ·cases h4
 have hi2:∀ (v:Value),hi.map a.eval = some v → (Instr.sliceBound v cap (if isl then .sliceAcap else .sliceAlen)).run P w = .ok r w:=side hhi h1 hcap
 have lo2:∀ (v:Value),lo.map a.eval = some v → (Instr.sliceBound v r .sliceB).run P w = .ok l w:=side hlo h3 (ajd _)
 have hi0:hi = none → r = len:=by intro e;subst e;cases hhi;cases h1;rfl
 have lo0:lo = none → l = 0:=by intro e;subst e;cases hlo;cases h3;rfl
 unfold Instr.sliceBounds
 cases lo with
 | none =>
  cases hi with
  | none=>rw [lo0 rfl,hi0 rfl];rfl
  | some hv =>
   rw [lo0 rfl]
   have:=hi2 _ rfl
   simp only [Option.map_some,Option.map_none,Sem.run_bind,Sem.run_pure,Result.andThen_ok,this]
 | some lv =>
  cases hi with
  | none =>
   have h5:=hi0 rfl
   subst h5
   have:=lo2 _ rfl
   simp only [Option.map_some,Option.map_none,Sem.run_bind,Sem.run_pure,Result.andThen_ok,Option.isSome_none,ajB,ajv,this]
  | some hv =>
   have e1:=hi2 _ rfl
   have e2:=lo2 _ rfl
   simp only [Option.map_some,Option.map_none,Sem.run_bind,Sem.run_pure,Result.andThen_ok,e1,Option.isSome_none,ajB,ajv,e2]
theorem Vs (h:Rel bn w0 bg N Fz κ σ a w) {t:TypeId} {x:Operand} {x':dM} {lo hi:Option Operand} {lo' hi':Option dM} (hu:P.underlying t = some .string) (hx:fC x = some x') (hlo:xK lo = some lo') (hhi:xK hi = some hi') (hE:bZ Γ q σ d (.JO x' lo' hi') = some (pv,σ')) :
  Does P bn w0 bg N q d Fz κ σ a w (do let v ← Instr.sliceAt t (a.eval x) (lo.map a.eval) (hi.map a.eval) none;Pure.pure (.value v)) σ' pv:=by
 obtain ⟨v,h1,h2⟩:=zbm hE
 have hv:=h.eval hx h1
 split at h2
 ·rename_i s
  obtain ⟨p,h3,h4⟩:=zbm h2
  cases h4
  obtain ⟨e1,e2,e3⟩:=Cg (P:=P) h hlo hhi h3
  refine Does.pure h (v:=.string (s.extract p.1 p.2)) ?_ rfl
  rw [show a.eval x = .string s from hv]
  unfold Instr.sliceAt Instr.slice
  simp only [Sem.run_bind,run_underlying hu,Result.andThen_ok]
  simp [Sem.run_bind,run_underlying hu,e3 false s.size (ajd _)]
 ·cases h2
theorem dn.sub : ∀ {rows:List (List FV)} {sz b o:Nat} (k:Nat),dn Fz w sz b o rows → dn Fz w sz b (o + k * sz) (rows.drop k)
 | rows,sz,b,o,0,h=>by rw [akg,Nat.add_zero];exact h
 | [],sz,b,o,k + 1,h=>by simp only [List.drop_nil];trivial
 | x :: rows,sz,b,o,k + 1,h=>by
  simp only [dn] at h
  have:=dn.sub k h.2.2
  rw [show o + (k + 1) * sz = o + sz + k * sz from by rw [ajV];omega]
  exact this
theorem dn.head : ∀ {rows:List (List FV)} {sz b o:Nat} (k:Nat),dn Fz w sz b o rows → dn Fz w sz b o (rows.take k)
 | rows,sz,b,o,0,h=>by rw [List.take_zero];trivial
 | [],sz,b,o,k + 1,h=>by simp only [List.take_nil];trivial
 | x :: rows,sz,b,o,k + 1,h=>by
  simp only [dn,List.take_succ_cons] at h ⊢
  exact ⟨h.1,h.2.1,dn.head k h.2.2⟩
theorem pR {t e:TypeId} {sz:Nat} (hu:P.underlying t = some (.slice e)) (hn:lJ P e = some sz) {A:Option Addr} {len cap l r:Nat} {lo hi:Option Value} (hb:(Instr.sliceBounds true len cap lo hi none).run P w = .ok (l,r,cap) w) :
  (Instr.sliceAt t (.slice A len cap) lo hi none).run P w = .ok (.slice (if cap = l then A else A.map (·.add (l * sz))) (r - l) (cap - l)) w:=by
 unfold Instr.sliceAt Instr.slice
 simp only [Sem.run_bind,run_underlying hu,Result.andThen_ok]
 simp only [Sem.run_bind,run_underlying hu,Result.andThen_ok,hb,nT hn,Sem.run_pure]
theorem Ci {sz:Nat} {rows:List (List FV)} {A:Option Addr} {c l r:Nat} (h1:rows.length ≤ c) (h1':rows.length ≤ 9223372036854775807) (h2:rows = [] ∨ ∃ b o sz,A = some ⟨b,o,none⟩ ∧ Fz b ∧ dn Fz w sz b o rows) (hs:rows.all (fun r=>r.length == sz) = true) (hl:l ≤ r) (hr:r ≤ rows.length) :
  eY Fz w (.sl ((rows.drop l).take (r - l))) (.slice (if c = l then A else A.map (·.add (l * sz))) (r - l) (c - l)):=by
 have hlen:((rows.drop l).take (r - l)).length = r - l:=by rw [ajq,ajA];omega
 simp only [eY]
 refine ⟨_,c - l,by rw [hlen],by rw [hlen];omega,by rw [hlen];omega,?_⟩
 by_cases he:r - l = 0
 ·left;exact akD (by omega)
 ·right
  rcases h2 with h2 | ⟨b,o,sz',rfl,h3,h4⟩
  ·subst h2;simp at hr;omega
  ·have:sz' = sz:=by
    cases rows with
    | nil=>simp at hr;omega
    | cons x rows =>
     simp only [dn] at h4
     simp only [List.all_cons,ajg,ajI] at hs
     omega
   subst this
   rw [ai9 (by omega)]
   exact ⟨b,o + l * sz',sz',by rw [Option.map_some,mK],h3,(h4.sub l).head _⟩
end
end
section
open Go
section
variable {P : Program} {Γ:Env} {bn Fz bD:Nat → Prop} {w0 w w':World} {bg:List Nat} {N:Fr} {d:Nat} {q:Bool} {κ:Nat → Value} {σ σ':St} {a:Act} {pv:PV} {o:Oper}
theorem eB.sub {key:Nat} {y:PL} (hf:∀ b,Fz b → bD b) (hy:eB bD κ w y (κ key)) {x:PL} {v:Value} (h:eB Fz κ w x v):eB bD κ w (oH key y x) v:=by
 have hm:eB bD κ w x v:=eB.mono hf (fun _ _=>rfl) (fun _ _=>rfl) h
 cases x with
 | own k n =>
  simp only [oH]
  split
  ·rename_i hk;subst hk;rw [h.1];exact hy
  ·exact hm
 | rp k z i o =>
  simp only [oH]
  split
  ·trivial
  ·exact hm
 | f x=>exact hm
 | bY=>exact hm
 | ptr k o=>exact hm
 | fp cs=>exact hm
 | mp k=>exact hm
 | iU=>exact hm
 | fA=>exact hm
 | und=>exact hm
 | any=>exact hm
 | fn f cs=>exact hm
 | vw k z n l =>
  simp only [oH]
  split
  ·trivial
  ·exact hm
theorem aT.sub {key:Nat} {y:PL} (hf:∀ b,Fz b → bD b) (hy:eB bD κ w y (κ key)):∀ {xs:List PL} {vs:List Value},aT Fz κ w xs vs → aT bD κ w (xs.map (oH key y)) vs
 | [],[],_=>trivial
 | x :: xs,v :: vs,h=>⟨eB.sub hf hy h.1,aT.sub hf hy h.2⟩
 | [],_ :: _,h=>h.elim
 | _ :: _,[],h=>h.elim
theorem fV.sub {key:Nat} {y:PL} (hf:∀ b,Fz b → bD b) (hy:eB bD κ w y (κ key)) {x:CV} {v:Value} (h:fV Fz κ w x v):fV bD κ w (Gd key y x) v:=by
 cases x with
 | one x=>exact eB.sub hf hy h
 | agg xs=>obtain ⟨cs,rfl,h⟩:=h;exact ⟨cs,rfl,aT.sub hf hy h⟩
theorem dO.sub {key:Nat} {y:PL} (hf:∀ b,Fz b → bD b) (hy:eB bD κ w y (κ key)):∀ {xs:List CV} {vs:List Value},dO Fz κ w xs vs → dO bD κ w (xs.map (Gd key y)) vs
 | [],[],_=>trivial
 | x :: xs,v :: vs,h=>⟨fV.sub hf hy h.1,dO.sub hf hy h.2⟩
 | [],_ :: _,h=>h.elim
 | _ :: _,[],h=>h.elim
theorem iK.sub {key:Nat} {y:PL} (hf:∀ b,Fz b → bD b) (hy:eB bD κ w y (κ key)) {x:PV} {v:Value} (h:iK Fz κ w x v):iK bD κ w (PY key y x) v:=by
 cases x with
 | c x=>exact fV.sub hf hy h
 | uM xs=>obtain ⟨cs,rfl,h⟩:=h;exact ⟨cs,rfl,dO.sub hf hy h⟩
theorem iO.sub {B key k:Nat} {y:PL} (hf:∀ b,Fz b → bD b) (hy:eB bD κ w y (κ key)) {x:Ob} (h:iO B Fz κ w k x):iO B bD κ w k (JR key y x):=by
 cases x with
 | eT xs=>obtain ⟨b,cs,e,h1,h2,h3⟩:=h;exact ⟨b,cs,e,h1,h2,aT.sub hf hy h3⟩
 | row sz rows=>exact iO.mono (o:=.row sz rows) hf (fun _ _=>rfl) (fun _ _=>rfl) (fun _ _=>rfl) h
 | map sh ents=>exact iO.mono (o:=.map sh ents) hf (fun _ _=>rfl) (fun _ _=>rfl) (fun _ _=>rfl) h
theorem Io {sz b:Nat} (hf:∀ b,Fz b → bD b):∀ {rows:List (List FV)} {inner:List Value} {o:Nat},eD Fz w sz rows inner → inner.length = rows.length * sz → (∀ j v,inner[j]? = some v → w.cell? ⟨b,o + j,none⟩ = some v) → dn bD w sz b o rows
 | [],inner,o,_,_,_=>trivial
 | r :: rows,inner,o,h,hl,hc=>by
  simp only [dn]
  have hrow:∀ {r:List FV} {vs:List Value} {o:Nat},cB Fz w r vs → (∀ j v,vs[j]? = some v → w.cell? ⟨b,o + j,none⟩ = some v) → eu bD w b o r:=by
   intro r
   induction r with
   | nil=>intro vs o _ _;trivial
   | cons x r ih =>
    intro vs o h hc
    cases vs with
    | nil=>exact h.elim
    | cons v vs =>
     refine ⟨⟨v,by have:=hc 0 v rfl;rwa [Nat.add_zero] at this,eY.mono hf (fun _ _=>rfl) x v h.1⟩,ih h.2 fun j u hj=>?_⟩
     rw [show o + 1 + j = o + (j + 1) from by omega]
     exact hc (j + 1) u (by simpa using hj)
  rw [List.length_cons,ajV] at hl
  refine ⟨h.1,hrow h.2.1 fun j v hj=>?_,Io hf h.2.2 (by rw [ajA];omega) fun j v hj=>?_⟩
  ·rw [ajU] at hj
   split at hj
   ·exact hc j v hj
   ·cases hj
  ·rw [aj3] at hj
   rw [show o + sz + j = o + (sz + j) from by omega]
   exact hc _ v hj
theorem rV {B key sz:Nat} {rows:List (List FV)} (hf:∀ b,Fz b → bD b) (hb:∀ b,blk (κ key) = some b → bD b) (h:iO B Fz κ w key (.row sz rows)):eY bD w (.sl rows) (κ key):=by
 obtain ⟨h0,e,inner,A,c,h1,⟨h4,h5⟩,h3⟩:=h
 simp only [eY]
 rcases h5 with ⟨h5,h6⟩ | ⟨g,cap,cur,h5,h6,h7,h8,h9,h10,h11⟩
 ·rw [h5]
  exact ⟨none,0,by rw [h6],by omega,by omega,.inl (akD h6)⟩
 ·refine ⟨some ⟨g,0,none⟩,cap,h5,h8,by simp only [maxLen] at h9;omega,.inr ⟨g,0,sz,rfl,hb g (by rw [h5];rfl),?_⟩⟩
  refine Io hf h3 h4 fun j v hj=>?_
  rw [← h11,ajU] at hj
  split at hj
  ·rw [ajD]
   simp only [World.cell?,h7]
   simpa using hj
  ·cases hj
theorem Rel.Zu (h:Rel bn w0 bg N Fz κ σ a w) {key sz:Nat} {rows:List (List FV)} (hk:get σ.ob key = some (.row sz rows)) :
  ∃ bD,Rel bn w0 bg N bD κ (Ev.sub ⟨σ.tm,rem σ.ob key⟩ key (.f (.sl rows))) a w ∧ (∀ b,Fz b → bD b) ∧ eY bD w (.sl rows) (κ key) ∧ ∀ b,bD b ↔ Fz b ∨ blk (κ key) = some b:=by
 have hkm:=get_mem hk
 have hf:∀ b,Fz b → Fz b ∨ blk (κ key) = some b:=fun b h=>.inl h
 have hrep:=rV (bD:=fun b=>Fz b ∨ blk (κ key) = some b) hf (fun b hb=>.inr hb) (h.ob _ hkm)
 have TH:eB (fun b=>Fz b ∨ blk (κ key) = some b) κ w (.f (.sl rows)) (κ key):=hrep
 refine ⟨fun b=>Fz b ∨ blk (κ key) = some b,?_,hf,hrep,fun _=>aje⟩
 have mo:∀ p ∈ (rem σ.ob key).map (fun p=>(p.1,JR key (.f (.sl rows)) p.2)),∃ q ∈ σ.ob,q.1 = p.1 ∧ q.1 ≠ key:=by
  intro p hp
  obtain ⟨r,hr,rfl⟩:=ajx.mp hp
  obtain ⟨h1,h2⟩:=eU.mp hr
  exact ⟨r,h1,rfl,h2⟩
 refine ⟨fun p hp=>?_,h.sz,h.mh,h.fs,fun p hp=>?_,fun p hp q hq b hne hb1 hb2=>?_,fun p hp b hb1=>?_,fun b hb=>?_,fun b hb=>.inl (h.zJ b hb),h.big,h.ext,h.kp⟩
 ·obtain ⟨r,hr,rfl⟩:=ajx.mp hp
  exact iK.sub hf TH (h.tm r hr)
 ·obtain ⟨r,hr,rfl⟩:=ajx.mp hp
  exact iO.sub hf TH (h.ob r (eU.mp hr).1)
 ·obtain ⟨p',hp',e1,_⟩:=mo p hp
  obtain ⟨q',hq',e2,_⟩:=mo q hq
  rw [← e1] at hb1 hne
  rw [← e2] at hb2 hne
  exact h.uO p' hp' q' hq' b hne hb1 hb2
 ·obtain ⟨p',hp',e1,e2⟩:=mo p hp
  rw [← e1] at hb1
  have:=h.pos p' hp' b hb1
  refine ⟨fun hor=>?_,this.2⟩
  rcases hor with h1 | h1
  ·exact this.1 h1
  ·exact h.uO p' hp' _ hkm b e2 hb1 h1
 ·rcases hb with hb | hb
  ·exact h.fz b hb
  ·have:=h.pos _ hkm b hb
   exact ⟨this.2.1,.inr this.2.2⟩
theorem Rel.frz (h:Rel bn w0 bg N Fz κ σ a w) {key sz:Nat} {rows:List (List FV)} (hk:get σ.ob key = some (.row sz rows)) :
  ∃ bD,Rel bn w0 bg N bD κ (Ev.sub ⟨σ.tm,rem σ.ob key⟩ key (.f (.sl rows))) a w ∧ (∀ b,Fz b → bD b) ∧ eY bD w (.sl rows) (κ key):=by
 obtain ⟨F,h1,h2,h3,_⟩:=h.Zu hk
 exact ⟨F,h1,h2,h3⟩
theorem Rel.zI (h:Rel bn w0 bg N Fz κ σ a w) {key sz:Nat} {rows:List (List FV)} (hk:get σ.ob key = some (.row sz rows)) (hs:Ev.zI σ key = some σ'):∃ bD,Rel bn w0 bg N bD κ σ' a w ∧ (∀ b,Fz b → bD b) ∧ eY bD w (.sl rows) (κ key):=by
 unfold Ev.zI at hs
 rw [hk] at hs
 cases hs
 exact h.frz hk
theorem Rel.vN (h:Rel bn w0 bg N Fz κ σ a w) {x:PL} {y:FV} {v:Value} (hx:eB Fz κ w x v) (hs:Ev.vN σ x = some (y,σ')):∃ bD,Rel bn w0 bg N bD κ σ' a w ∧ (∀ b,Fz b → bD b) ∧ eY bD w y v:=by
 cases x with
 | f x=>cases hs;exact ⟨Fz,h,fun _ h=>h,hx⟩
 | bY=>cases hs;exact ⟨Fz,h,fun _ h=>h,by simp only [eY];exact ⟨none,0,hx,ajd _,by simp,.inl trivial⟩⟩
 | own key n =>
  simp only [Ev.vN] at hs
  split at hs
  ·rename_i sz rows hk
   obtain ⟨s,h1,h2⟩:=zmm hs
   cases h2
   obtain ⟨bD,e1,e2,e3⟩:=h.zI hk h1
   exact ⟨bD,e1,e2,by rw [hx.1];exact e3⟩
  ·cases hs
 | _=>cases hs
theorem Rel.kJ : ∀ {xs:List PL} {ys:List FV} {vs:List Value} {Fz:Nat → Prop} {σ σ':St},Rel bn w0 bg N Fz κ σ a w → aT Fz κ w xs vs → Ev.kJ σ xs = some (ys,σ') → ∃ bD,Rel bn w0 bg N bD κ σ' a w ∧ (∀ b,Fz b → bD b) ∧ cB bD w ys vs
 | [],ys,[],Fz,σ,σ',h,_,hs=>by cases hs;exact ⟨Fz,h,fun _ h=>h,trivial⟩
 | x :: xs,ys,v :: vs,Fz,σ,σ',h,hx,hs=>by
  obtain ⟨p,h1,h2⟩:=zbm hs
  obtain ⟨r,h3,h4⟩:=zmm h2
  cases h4
  obtain ⟨F1,e1,e2,e3⟩:=h.vN hx.1 h1
  obtain ⟨F2,e4,e5,e6⟩:=Rel.kJ e1 (aT.mono e2 (fun _ _=>rfl) xs (fun _ _=>rfl) vs hx.2) h3
  exact ⟨F2,e4,fun b hb=>e5 b (e2 b hb),eY.mono e5 (fun _ _=>rfl) _ _ e3,e6⟩
 | [],_,_ :: _,_,_,_,_,h,_=>h.elim
 | _ :: _,_,[],_,_,_,_,h,_=>h.elim
theorem xQ : ∀ {xs:List PL} {ys:List FV} {vs:List Value} {σ σ':St},aT Fz κ w xs vs → xs.any gD = false → Ev.kJ σ xs = some (ys,σ') → σ' = σ ∧ cB Fz w ys vs
 | [],ys,[],σ,σ',_,_,hs=>by cases hs;exact ⟨rfl,trivial⟩
 | x :: xs,ys,v :: vs,σ,σ',hx,hn,hs=>by
  obtain ⟨p,h1,h2⟩:=zbm hs
  obtain ⟨r,h3,h4⟩:=zmm h2
  cases h4
  simp only [List.any_cons,akR] at hn
  have key:p.2 = σ ∧ eY Fz w p.1 v:=by
   have hx1:=hx.1
   cases x with
   | f x=>cases h1;exact ⟨rfl,hx1⟩
   | bY=>cases h1;exact ⟨rfl,by simp only [eY];exact ⟨none,0,hx1,ajd _,by simp,.inl trivial⟩⟩
   | own key n=>simp [gD] at hn
   | _=>cases h1
  rw [key.1] at h3
  obtain ⟨e1,e2⟩:=xQ hx.2 hn.2 h3
  exact ⟨e1,key.2,e2⟩
 | [],_,_ :: _,_,_,h,_,_=>h.elim
 | _ :: _,_,[],_,_,h,_,_=>h.elim
theorem fV.cells {x:CV} {v:Value} (h:fV Fz κ w x v) (hu:(Ev.cells x).any pO = false):aT Fz κ w (Ev.cells x) v.cells.toList ∧ ∀ u ∈ v.cells.toList,u.oneCell' = true:=by
 have leaf:∀ {x:PL} {v:Value},eB Fz κ w x v → pO x = false → v.oneCell' = true:=by
  intro x v h hu
  cases x with
  | f x =>
   have:=eY.leaf h
   cases v <;> first | rfl | exact this.elim
  | bY=>cases h;rfl
  | own k n=>obtain ⟨_,A,c,rfl⟩:=h;rfl
  | ptr k o=>obtain ⟨b,_,rfl⟩:=h;rfl
  | fp cs=>obtain ⟨b,o,rfl,_⟩:=h;rfl
  | rp k z i o=>obtain ⟨b,_,_,_,rfl⟩:=h;rfl
  | mp k=>obtain ⟨_,b,rfl⟩:=h;rfl
  | iU=>cases h;rfl
  | fA=>cases h;rfl
  | und=>cases hu
  | any=>cases hu
  | fn f cs=>obtain ⟨_,rfl,_⟩:=h;rfl
  | vw k z n l=>obtain ⟨_,_,_,rfl⟩:=h;rfl
 cases x with
 | one x =>
  have h1:=leaf h (by simpa [Ev.cells] using hu)
  have:v.cells = #[v]:=by cases v <;> first | rfl | cases h1
  rw [this]
  exact ⟨⟨h,trivial⟩,fun u hu=>by simp at hu;subst hu;exact h1⟩
 | agg xs =>
  obtain ⟨cs,rfl,h⟩:=h
  refine ⟨h,fun u hu'=>?_⟩
  have all:∀ {xs:List PL} {vs:List Value},aT Fz κ w xs vs → xs.any pO = false → ∀ u ∈ vs,u.oneCell' = true:=by
   intro xs
   induction xs with
   | nil=>intro vs h _ u hu;cases vs with | nil=>simp at hu | cons _ _=>exact h.elim
   | cons x xs ih =>
    intro vs h hn u hu
    simp only [List.any_cons,akR] at hn
    cases vs with
    | nil=>exact h.elim
    | cons v vs =>
     rcases ajr.mp hu with rfl | hu
     ·exact leaf h.1 hn.1
     ·exact ih h.2 hn.2 u hu
  exact all h hu u hu'
theorem Good.new (h:Rel bn w0 bg N Fz κ σ a w) {ob:Ob} {s:St} {v:Value} {pl:PL} (hn:Ev.new σ (dA d) ob = some s) (hs:w.heap.size ≤ w'.heap.size) (hb:∀ b,b < w.heap.size → w'.heap[b]? = w.heap[b]?)
  (hv:∀ b,blk v = some b → w.heap.size ≤ b ∧ b < w'.heap.size) (hkp:Kp w w') (ho:iO 0 Fz (pJ κ (dA d) v) w' (dA d) ob) (hp:eB Fz (pJ κ (dA d) v) w' pl v) :
  Good bn w0 bg N q d Fz κ σ a w Fz (pJ κ (dA d) v) s w' (.c (.one pl)) v where
 rel:=h.new hn hs hb hv hkp ho
 val:=hp
 f1:=fun _ h=>h
 e6:=fun k hk=>eF (fun e=>by unfold dA at e;omega) v
theorem mD (w:World) (o:Obj):(w.alloc o).heap[w.heap.size]? = some o ∧ (∀ b,b < w.heap.size → (w.alloc o).heap[b]? = w.heap[b]?) ∧ (w.alloc o).heap.size = w.heap.size + 1:=by
 have e:(w.alloc o).heap = w.heap.push o:=rfl
 rw [e]
 refine ⟨by simp,fun b hb=>?_,by simp⟩
 rw [Array.getElem?_push,ai9 (by omega)]
theorem aT.alloc (h:Rel bn w0 bg N Fz κ σ a w) {xs:List PL} {vs:List Value} (hx:aT Fz κ w xs vs) (ob:Obj) {v:Value} {key:Nat} (hm:xs.any (d9 key) = false):aT Fz (pJ κ key v) (w.alloc ob) xs vs :=
 aT.mono (fun _ h=>h) (fun b hb=>(mD w ob).2.1 b (h.fz b hb).1) xs (fun k hk=>eF (fun e=>by subst e;rw [hk] at hm;cases hm) v) vs hx
theorem Good.eT (h:Rel bn w0 bg N Fz κ σ a w) {xs:List PL} {cs:Array Value} {e:TypeId} {s:St} (hx:aT Fz κ w xs cs.toList) (hm:xs.any (d9 (dA d)) = false) (hn:Ev.new σ (dA d) (.eT xs) = some s) :
  Good bn w0 bg N q d Fz κ σ a w Fz (pJ κ (dA d) (.pointer (some ⟨w.heap.size,0,none⟩))) s (w.alloc (.cells cs e (0,0))) (.c (.one (.ptr (dA d) 0))) (.pointer (some ⟨w.heap.size,0,none⟩)):=by
 obtain ⟨e1,e2,e3⟩:=mD w (.cells cs e (0,0))
 refine Good.new h hn (by omega) e2 (fun b hb=>by cases hb;exact ⟨ajd _,by show w.heap.size < _;omega⟩) ⟨rfl,rfl⟩ ⟨w.heap.size,cs,e,by rw [bO],e1,hx.alloc h _ hm⟩ ⟨w.heap.size,by rw [bO],rfl⟩
end
end
section
open Go
section
variable {P : Program} {Γ:Env} {bn Fz bD:Nat → Prop} {w0 w w':World} {bg:List Nat} {N:Fr} {d:Nat} {q:Bool} {κ:Nat → Value} {σ σ':St} {a:Act} {pv:PV} {o:Oper}
theorem any_false {α:Type} {l:List α} {p:α → Bool} (h:¬ l.any p = true):l.any p = false:=ajP.mpr h
theorem Qe (h:Rel bn w0 bg N Fz κ σ a w) {e:TypeId} {z:List PL} (hz:Ai P e = some z) (hE:bZ Γ q σ d (.alloc e z) = some (pv,σ')) :
  Does P bn w0 bg N q d Fz κ σ a w (do let v ← Instr.alloc e true (.tuple #[]);Pure.pure (.value v)) σ' pv:=by
 simp only [bZ] at hE
 split at hE
 ·cases hE
 ·rename_i hm
  obtain ⟨s,h1,h2⟩:=zmm hE
  cases h2
  obtain ⟨i,h3,h4⟩:=zbm hz
  obtain ⟨zv,h5,h6⟩:=zbm h4
  refine ⟨_,_,_,_,_,?_,.inl rfl,Good.eT (cs:=zv.cells) (e:=e) h (mJ h6) (any_false hm) h1⟩
  unfold Instr.alloc
  simp only [Sem.run_bind,zeroValue,typeInfo]
  simp [h3,h5,newVar,newRow]
theorem Zv (h:Rel bn w0 bg N Fz κ σ a w) {e:TypeId} {x:Operand} {x':dM} (hx:fC x = some x') (hE:bZ Γ q σ d (.box e x') = some (pv,σ')) :
  Does P bn w0 bg N q d Fz κ σ a w (do let v ← Instr.box e (a.eval x);Pure.pure (.value v)) σ' pv:=by
 obtain ⟨v,h1,h2⟩:=zbm hE
 split at h2
 ·cases h2
 ·rename_i hm
  obtain ⟨s,h3,h4⟩:=zmm h2
  cases h4
  simp only [aj4,not_or] at hm
  obtain ⟨e1,_⟩:=(h.eval hx h1).cells (any_false hm.1)
  refine ⟨_,_,_,_,_,?_,.inl rfl,Good.eT (cs:=(a.eval x).cells) (e:=e) h e1 (any_false hm.2) h3⟩
  simp [Instr.box,newVar,newRow]
theorem LU : ∀ (l:List Value) (j off:Nat) (cs:Array Value),off + j + l.length ≤ cs.size →
  ((l.zipIdx j).foldl (fun cs p=>cs.setIfInBounds (off + p.2) p.1) cs).toList = cs.toList.take (off + j) ++ l ++ cs.toList.drop (off + j + l.length)
 | [],j,off,cs,_=>by simp
 | v :: l,j,off,cs,h=>by
  rw [List.length_cons] at h
  rw [List.zipIdx_cons,List.foldl_cons,LU l (j + 1) off _ (by rw [Array.size_setIfInBounds];omega),Array.toList_setIfInBounds]
  have hl:off + j < cs.toList.length:=by rw [Array.length_toList];omega
  rw [show off + (j + 1) = off + j + 1 from by omega,List.take_succ_eq_append_getElem (by rw [akK];exact hl),List.getElem_set_self,List.take_set_of_le (ajd _),List.drop_set_of_lt (by omega),List.length_cons]
  rw [show off + j + 1 + l.length = off + j + (l.length + 1) from by omega]
  simp
theorem aT.lay {off:Nat} {ys xs l:List PL} {us vs:List Value} (hx:aT Fz κ w xs vs) (hy:aT Fz κ w ys us) (hl:Ev.lay off ys xs = some l):aT Fz κ w l (vs.take off ++ us ++ vs.drop (off + us.length)) ∧ off + us.length ≤ vs.length:=by
 unfold Ev.lay at hl
 split at hl
 ·rename_i hle
  cases hl
  have hlx:=hx.length
  have hly:=hy.length
  have app:∀ {xs ys:List PL} {us vs:List Value},aT Fz κ w xs us → aT Fz κ w ys vs → aT Fz κ w (xs ++ ys) (us ++ vs):=by
   intro xs
   induction xs with
   | nil=>intro ys us vs h h';cases us with | nil=>exact h' | cons _ _=>exact h.elim
   | cons x xs ih=>intro ys us vs h h';cases us with | nil=>exact h.elim | cons u us=>exact ⟨h.1,ih h.2 h'⟩
  have drop:∀ (k:Nat) (xs:List PL) (vs:List Value),aT Fz κ w xs vs → aT Fz κ w (xs.drop k) (vs.drop k):=by
   intro k
   induction k with
   | zero=>intro xs vs h;exact h
   | succ k ih =>
    intro xs vs h
    cases xs with
    | nil=>cases vs with | nil=>trivial | cons _ _=>exact h.elim
    | cons x xs=>cases vs with | nil=>exact h.elim | cons v vs=>exact ih xs vs h.2
  have take:∀ (k:Nat) (xs:List PL) (vs:List Value),aT Fz κ w xs vs → aT Fz κ w (xs.take k) (vs.take k):=by
   intro k
   induction k with
   | zero=>intro xs vs h;simp only [List.take_zero];trivial
   | succ k ih =>
    intro xs vs h
    cases xs with
    | nil=>cases vs with | nil=>trivial | cons _ _=>exact h.elim
    | cons x xs=>cases vs with | nil=>exact h.elim | cons v vs=>exact ⟨h.1,ih xs vs h.2⟩
  rw [hly]
  exact ⟨app (app (take _ _ _ hx) hy) (drop _ _ _ hx),by omega⟩
 ·cases hl
inductive Cj {α β:Type} (R:α → β → Prop):List α → List β → Prop
 | nil:Cj R [] []
 | cons {x:α} {y:β} {xs:List α} {ys:List β} (h:R x y) (t:Cj R xs ys):Cj R (x :: xs) (y :: ys)
theorem Cj.imp {α β:Type} {R S:α → β → Prop} (hi:∀ {x y},R x y → S x y) {xs:List α} {ys:List β} (h:Cj R xs ys):Cj S xs ys:=by
 induction h with
 | nil=>exact .nil
 | cons h _ ih=>exact .cons (hi h) ih
theorem nI (h:Rel bn w0 bg N Fz κ σ a w) {place:Nat → Option (Nat × Nat)}:∀ {ps:List (Nat × Operand)} {qs:List (Nat × Nat × dM)} {l:List (Nat × Nat × CV)} {z z':List PL} {cs:Array Value},
  (∀ (i:Nat),True) → Cj (fun p r=>place p.1 = some (r.1,r.2.1) ∧ fC p.2 = some r.2.2) ps qs → vals σ qs = some l → Ev.fill z l = some z' → aT Fz κ w z cs.toList →
  ∃ cs',Instr.fill place cs (ps.map fun p=>(p.1,a.eval p.2)) = some cs' ∧ aT Fz κ w z' cs'.toList ∧ cs'.size = cs.size
 | [],qs,l,z,z',cs,_,hp,hv,hf,hz=>by
  cases hp
  cases hv
  cases hf
  exact ⟨cs,rfl,hz,rfl⟩
 | p :: ps,qs,l,z,z',cs,ht,hp,hv,hf,hz=>by
  cases hp with
  | cons hpr hrest =>
   rename_i r rest
   obtain ⟨ro,rn,rx⟩:=r
   obtain ⟨v,h1,h2⟩:=zbm hv
   obtain ⟨m,h3,h4⟩:=zmm h2
   subst h4
   unfold Ev.fill at hf
   split at hf
   ·rename_i hc
    obtain ⟨z1,h5,h6⟩:=zbm hf
    obtain ⟨e1,_⟩:=(h.eval hpr.2 h1).cells hc.2
    obtain ⟨e2,e3⟩:=hz.lay e1 h5
    have hlen:=e1.length
    rw [Array.length_toList] at hlen e3
    have e4:((a.eval p.2).cells.zipIdx.foldl (fun cs x=>cs.setIfInBounds (ro + x.2) x.1) cs).toList = cs.toList.take ro ++ (a.eval p.2).cells.toList ++ cs.toList.drop (ro + (a.eval p.2).cells.toList.length):=by
     have:=LU (a.eval p.2).cells.toList 0 ro cs (by rw [Array.length_toList] at *;omega)
     rw [← Array.foldl_toList,Array.toList_zipIdx]
     rw [Nat.add_zero] at this
     exact this
    obtain ⟨cs',e5,e6,e7⟩:=nI h (cs:=(a.eval p.2).cells.zipIdx.foldl (fun cs x=>cs.setIfInBounds (ro + x.2) x.1) cs) ht hrest h3 h6 (by rw [e4];exact e2)
    have hsz:((a.eval p.2).cells.zipIdx.foldl (fun cs x=>cs.setIfInBounds (ro + x.2) x.1) cs).size = cs.size:=by
     have:=ajC List.length e4
     simp only [ajh,ajq,ajA,Array.length_toList] at this
     rw [Array.length_toList] at e3
     omega
    refine ⟨cs',?_,e6,e7.trans hsz⟩
    simp only [ajk]
    unfold Instr.fill
    rw [hpr.1]
    simp only
    have hn:(a.eval p.2).cells.size = rn:=by omega
    rw [ai9 (by rw [Array.length_toList] at e3;simp only [ne_eq,aj4,ajt,not_or,ajQ];exact ⟨hn,by omega⟩)]
    exact e5
   ·cases hf
theorem xR {fs:Array Field}:∀ {ps:List (Nat × Operand)} {qs:List (Nat × Nat × dM)},parts P fs ps = some qs → Cj (fun p (r:Nat × Nat × dM)=>(fs[p.1]?.bind fun (f:Field)=>(lJ P f.type).map fun n=>(f.offset,n)) = some (r.1,r.2.1) ∧ fC p.2 = some r.2.2) ps qs
 | [],qs,h=>by cases h;exact .nil
 | (i,x) :: ps,qs,h=>by
  obtain ⟨f,h1,h2⟩:=zbm h
  obtain ⟨n,h3,h4⟩:=zbm h2
  obtain ⟨y,h5,h6⟩:=zbm h4
  obtain ⟨l,h7,rfl⟩:=zmm h6
  exact .cons ⟨by simp [h1,h3],h5⟩ (xR h7)
theorem qB {sz:Nat}:∀ {ps:List (Nat × Operand)} {qs:List (Nat × Nat × dM)},oK sz ps = some qs → Cj (fun p (r:Nat × Nat × dM)=>(some (p.1 * sz,sz):Option (Nat × Nat)) = some (r.1,r.2.1) ∧ fC p.2 = some r.2.2) ps qs
 | [],qs,h=>by cases h;exact .nil
 | (i,x) :: ps,qs,h=>by
  obtain ⟨y,h5,h6⟩:=zbm h
  obtain ⟨l,h7,rfl⟩:=zmm h6
  exact .cons ⟨rfl,h5⟩ (qB h7)
theorem uS {e:TypeId} {z:List PL} (h:Ai P e = some z):∃ i zv,P.info? e = some i ∧ i.zero = some zv ∧ aT Fz κ w z zv.cells.toList:=by
 obtain ⟨i,h3,h4⟩:=zbm h
 obtain ⟨zv,h5,h6⟩:=zbm h4
 exact ⟨i,zv,h3,h5,mJ h6⟩
theorem Qf (h:Rel bn w0 bg N Fz κ σ a w) {t:TypeId} {fs:Array Field} {z:List PL} {ps:Array (Nat × Operand)} {l:List (Nat × Nat × dM)} (hu:P.underlying t = some (.struct fs)) (hall:fs.toList.all (fun (f:Field)=>(lJ P f.type).isSome) = true) (hz:Ai P t = some z) (hp:parts P fs ps.toList = some l) (hE:bZ Γ q σ d (.build z l) = some (pv,σ')) :
  Does P bn w0 bg N q d Fz κ σ a w (do let v ← Instr.build t (ps.map fun (i,x)=>(i,a.eval x));Pure.pure (.value v)) σ' pv:=by
 obtain ⟨vs,h1,h2⟩:=zbm hE
 obtain ⟨z',h3,h4⟩:=zmm h2
 cases h4
 obtain ⟨i,zv,e1,e2,e3⟩:=uS (Fz:=Fz) (κ:=κ) (w:=w) hz
 have hpl:∃ places:List (Nat × Nat),fs.toList.mapM (fun (f:Field)=>(P.info? f.type).map fun i=>(f.offset,i.size)) = some places ∧ ∀ i:Nat,places.toArray[i]? = (fs[i]?.bind fun (f:Field)=>(lJ P f.type).map fun n=>(f.offset,n)):=by
  have key:∀ (l:List Field),l.all (fun (f:Field)=>(lJ P f.type).isSome) = true → ∃ places:List (Nat × Nat),l.mapM (fun (f:Field)=>(P.info? f.type).map fun i=>(f.offset,i.size)) = some places ∧ ∀ i:Nat,places[i]? = (l[i]?.bind fun (f:Field)=>(lJ P f.type).map fun n=>(f.offset,n)):=by
   intro l
   induction l with
   | nil=>intro _;exact ⟨[],rfl,fun i=>by simp⟩
   | cons f l ih =>
    intro ha
    simp only [List.all_cons,ajg] at ha
    obtain ⟨pl,e1,e2⟩:=ih ha.2
    obtain ⟨n,hn⟩:=akw.mp ha.1
    obtain ⟨inf,hi,hs⟩:=zmm hn
    refine ⟨(f.offset,n) :: pl,by simp [List.mapM_cons,hi,hs,e1],fun i=>?_⟩
    cases i with
    | zero=>simp [hn]
    | succ i=>simpa using e2 i
  obtain ⟨pl,e1,e2⟩:=key fs.toList hall
  exact ⟨pl,e1,fun i=>by have:=e2 i;simpa using this⟩
 obtain ⟨places,e4,e5⟩:=hpl
 obtain ⟨cs',e6,e7,_⟩:=nI h (place:=(places.toArray[·]?)) (ps:=ps.toList) (cs:=zv.cells) (fun _=>trivial) (by
  refine (xR hp).imp fun {p r} hpr=>⟨?_,hpr.2⟩
  rw [e5];exact hpr.1) h1 h3 e3
 refine Does.pure h (v:=.agg cs') (run_build w t _ cs' ?_) ⟨cs',rfl,e7⟩
 unfold Program.built
 rw [e1,hu]
 simp only [e2,e4]
 rw [akn]
 exact e6
theorem LV (h:Rel bn w0 bg N Fz κ σ a w) {t e:TypeId} {n sz:Nat} {z:List PL} {ps:Array (Nat × Operand)} {l:List (Nat × Nat × dM)} (hu:P.underlying t = some (.array n e)) (hn:lJ P e = some sz) (hz:Ai P t = some z) (hp:oK sz ps.toList = some l) (hE:bZ Γ q σ d (.build z l) = some (pv,σ')) :
  Does P bn w0 bg N q d Fz κ σ a w (do let v ← Instr.build t (ps.map fun (i,x)=>(i,a.eval x));Pure.pure (.value v)) σ' pv:=by
 obtain ⟨vs,h1,h2⟩:=zbm hE
 obtain ⟨z',h3,h4⟩:=zmm h2
 cases h4
 obtain ⟨i,zv,e1,e2,e3⟩:=uS (Fz:=Fz) (κ:=κ) (w:=w) hz
 obtain ⟨ie,g1,g2⟩:=zmm hn
 obtain ⟨cs',e6,e7,_⟩:=nI h (place:=fun i=>some (i * sz,sz)) (ps:=ps.toList) (cs:=zv.cells) (fun _=>trivial) (qB hp) h1 h3 e3
 refine Does.pure h (v:=.agg cs') (run_build w t _ cs' ?_) ⟨cs',rfl,e7⟩
 unfold Program.built
 rw [e1,hu]
 simp only [e2,g1]
 rw [akn,g2]
 exact e6
end
end
section
open Go
section
variable {P : Program} {Γ:Env} {bn Fz bD:Nat → Prop} {w0 w w':World} {bg:List Nat} {N:Fr} {d:Nat} {q:Bool} {κ eZ:Nat → Value} {σ σ1 σ':St} {a:Act} {pv:PV} {o:Oper}
theorem Ea {x:PL} {y:FV} (hs:Ev.vN σ x = some (y,σ')):(∀ p ∈ σ'.ob,∃ r ∈ σ.ob,r.1 = p.1) ∧ (gD x = false → σ' = σ):=by
 cases x with
 | f x=>cases hs;exact ⟨fun p hp=>⟨p,hp,rfl⟩,fun _=>rfl⟩
 | bY=>cases hs;exact ⟨fun p hp=>⟨p,hp,rfl⟩,fun _=>rfl⟩
 | own key n =>
  refine ⟨?_,fun h=>by cases h⟩
  simp only [Ev.vN] at hs
  split at hs
  ·rename_i sz rows hk
   obtain ⟨s,h1,h2⟩:=zmm hs
   cases h2
   unfold Ev.zI at h1
   rw [hk] at h1
   cases h1
   intro p hp
   obtain ⟨r,hr,rfl⟩:=ajx.mp hp
   exact ⟨r,(eU.mp hr).1,rfl⟩
  ·cases hs
 | _=>cases hs
theorem Ao : ∀ {xs:List PL} {ys:List FV} {σ σ':St},Ev.kJ σ xs = some (ys,σ') → (∀ p ∈ σ'.ob,∃ r ∈ σ.ob,r.1 = p.1) ∧ (xs.any gD = false → σ' = σ)
 | [],ys,σ,σ',hs=>by cases hs;exact ⟨fun p hp=>⟨p,hp,rfl⟩,fun _=>rfl⟩
 | x :: xs,ys,σ,σ',hs=>by
  obtain ⟨p,h1,h2⟩:=zbm hs
  obtain ⟨r,h3,h4⟩:=zmm h2
  cases h4
  obtain ⟨e1,e2⟩:=Ea h1
  obtain ⟨e3,e4⟩:=Ao h3
  refine ⟨fun p hp=>?_,fun hn=>?_⟩
  ·obtain ⟨r1,hr1,e5⟩:=e3 p hp
   obtain ⟨r2,hr2,e6⟩:=e1 r1 hr1
   exact ⟨r2,hr2,e6.trans e5⟩
  ·simp only [List.any_cons,akR] at hn
   rw [e4 hn.2,e2 hn.1]
theorem Good.after (hf:∀ b,Fz b → bD b) (hq:q = true → (∀ b,bD b → Fz b) ∧ σ1 = σ) (hk:∀ p ∈ σ1.ob,∃ p' ∈ σ.ob,p'.1 = p.1) {Fz2:Nat → Prop} {v:Value} (g:Good bn w0 bg N q d bD κ σ1 a w Fz2 eZ σ' w' pv v):Good bn w0 bg N q d Fz κ σ a w Fz2 eZ σ' w' pv v where
 rel:=g.rel
 val:=g.val
 f1:=fun b hb=>g.f1 b (hf b hb)
 e6:=g.e6
theorem Does.after (hf:∀ b,Fz b → bD b) (hq:q = true → (∀ b,bD b → Fz b) ∧ σ1 = σ) (hk:∀ p ∈ σ1.ob,∃ p' ∈ σ.ob,p'.1 = p.1) {s:Sem Next} (g:Does P bn w0 bg N q d bD κ σ1 a w s σ' pv):Does P bn w0 bg N q d Fz κ σ a w s σ' pv:=by
 obtain ⟨r,w',eZ,Fz2,v,h1,h2,h3⟩:=g
 exact ⟨r,w',eZ,Fz2,v,h1,h2,h3.after hf hq hk⟩
theorem Rel.Qg {xs:List PL} {ys:List FV} {vs:List Value} (h:Rel bn w0 bg N Fz κ σ a w) (hx:aT Fz κ w xs vs) (hn:¬ (q && xs.any gD) = true) (hs:Ev.kJ σ xs = some (ys,σ')) :
  ∃ bD,Rel bn w0 bg N bD κ σ' a w ∧ (∀ b,Fz b → bD b) ∧ cB bD w ys vs ∧ (q = true → (∀ b,bD b → Fz b) ∧ σ' = σ) ∧ ∀ p ∈ σ'.ob,∃ p' ∈ σ.ob,p'.1 = p.1:=by
 obtain ⟨e1,e2⟩:=Ao hs
 cases q with
 | false =>
  obtain ⟨bD,e3,e4,e5⟩:=h.kJ hx hs
  exact ⟨bD,e3,e4,e5,fun h=>(aj6 h).elim,e1⟩
 | true =>
  have hn':xs.any gD = false:=by cases hc:xs.any gD with | false=>rfl | true=>rw [hc] at hn;exact absurd rfl hn
  obtain ⟨e3,e4⟩:=xQ hx hn' hs
  subst e3
  exact ⟨Fz,h,fun _ h=>h,e4,fun _=>⟨fun _ h=>h,rfl⟩,e1⟩
theorem Ap {sz:Nat}:∀ {n:Nat} {xs:List FV} {vs:List Value},cB Fz w xs vs → xs.length = n * sz → eD Fz w sz (rowsOf sz n xs) vs
 | 0,xs,vs,h,hl=>by
  rw [akg] at hl
  have:xs = []:=akD hl
  subst this
  cases vs with
  | nil=>rfl
  | cons _ _=>exact h.elim
 | n + 1,xs,vs,h,hl=>by
  rw [ajV] at hl
  exact ⟨by rw [ajq];omega,cB.take sz h,Ap (cB.drop sz h) (by rw [ajA];omega)⟩
theorem rW {sz:Nat}:∀ {n:Nat} {xs:List FV},(rowsOf sz n xs).length = n
 | 0,_=>rfl
 | n + 1,xs=>by rw [rowsOf,List.length_cons,rW]
theorem cB.len : ∀ {xs:List FV} {vs:List Value},cB Fz w xs vs → vs.length = xs.length
 | [],[],_=>rfl
 | x :: xs,v :: vs,h=>by rw [List.length_cons,List.length_cons,cB.len h.2]
 | [],_ :: _,h=>h.elim
 | _ :: _,[],h=>h.elim
theorem gX {α:Type} {xs us:List α} {off:Nat} (h:off + us.length ≤ xs.length) (j:Nat):(xs.take off ++ us ++ xs.drop (off + us.length))[j]? = if j < off then xs[j]? else if j < off + us.length then us[j - off]? else xs[j]?:=by
 rw [ajW,akS,ajq,akT (by omega)]
 split
 ·rename_i h1;rw [ajU,ai8 h1]
 ·rename_i h1
  rw [akS]
  split
  ·rename_i h2;rw [ai8 (by omega)]
  ·rename_i h2
   rw [ai9 (by omega),aj3]
   congr 1
   omega
theorem cB.lay {off:Nat} {ys xs l:List FV} {us vs:List Value} (hx:cB Fz w xs vs) (hy:cB Fz w ys us) (hl:Ev.lay off ys xs = some l):cB Fz w l (vs.take off ++ us ++ vs.drop (off + us.length)) ∧ off + us.length ≤ vs.length:=by
 unfold Ev.lay at hl
 split at hl
 ·rename_i hle
  cases hl
  have hlx:=hx.len
  have hly:=hy.len
  have app:∀ {xs ys:List FV} {us vs:List Value},cB Fz w xs us → cB Fz w ys vs → cB Fz w (xs ++ ys) (us ++ vs):=by
   intro xs
   induction xs with
   | nil=>intro ys us vs h h';cases us with | nil=>exact h' | cons _ _=>exact h.elim
   | cons x xs ih=>intro ys us vs h h';cases us with | nil=>exact h.elim | cons u us=>exact ⟨h.1,ih h.2 h'⟩
  rw [hly]
  exact ⟨app (app (cB.take _ hx) hy) (cB.drop _ hx),by omega⟩
 ·cases hl
theorem eD.len {sz:Nat}:∀ {rows:List (List FV)} {vs:List Value},eD Fz w sz rows vs → vs.length = rows.length * sz
 | [],vs,h=>by cases h;simp
 | r :: rs,vs,h=>by
  have h1:=h.2.1.len
  have h2:=eD.len h.2.2
  rw [ajq,h.1] at h1
  rw [ajA] at h2
  rw [List.length_cons,ajV]
  omega
theorem eD.set {sz off:Nat} {ys:List FV} {us:List Value} (hy:cB Fz w ys us):∀ {rows:List (List FV)} {vs:List Value} {i:Nat} {r l:List FV},eD Fz w sz rows vs → rows[i]? = some r → Ev.lay off ys r = some l →
  eD Fz w sz (rows.set i l) (vs.take (i * sz + off) ++ us ++ vs.drop (i * sz + off + us.length)) ∧ off + us.length ≤ sz ∧ (i + 1) * sz ≤ vs.length
 | r0 :: rs,vs,0,r,l,h,hr,hl=>by
  cases hr
  obtain ⟨e1,e2⟩:=h.2.1.lay hy hl
  have h1:=h.2.1.len
  rw [ajq,h.1] at h1
  rw [ajq] at e2
  have hlen:=hl
  unfold Ev.lay at hlen
  have e3:off + us.length ≤ vs.length:=by omega
  simp only [akg,ajD,List.set_cons_zero,Nat.one_mul]
  refine ⟨⟨?_,?_,?_⟩,by omega,by omega⟩
  ·have:=e1.len
   rw [← this]
   simp only [ajh,ajq,ajA]
   omega
  ·have:(vs.take off ++ us ++ vs.drop (off + us.length)).take sz = (vs.take sz).take off ++ us ++ (vs.take sz).drop (off + us.length):=by
    refine akl fun j=>?_
    rw [ajU,gX e3,gX (by rw [ajq];omega),ajU]
    by_cases h1:j < off
    ·simp only [h1,ajH]
    ·by_cases h2:j < off + us.length
     ·simp only [h1,h2,ajH,ajv];rw [ai8 (by omega)]
     ·simp only [h1,h2,ajv]
   rw [this];exact e1
  ·have:(vs.take off ++ us ++ vs.drop (off + us.length)).drop sz = vs.drop sz:=by
    refine akl fun j=>?_
    rw [aj3,gX e3,aj3,ai9 (by omega),ai9 (by omega)]
   rw [this];exact h.2.2
 | r0 :: rs,vs,i + 1,r,l,h,hr,hl=>by
  have hr':rs[i]? = some r:=by simpa using hr
  obtain ⟨e1,e2,e3⟩:=eD.set hy h.2.2 hr' hl
  have h1:=h.2.1.len
  rw [ajq,h.1] at h1
  rw [ajA] at e3
  have hm:(i + 1) * sz = i * sz + sz:=ajV i sz
  have hm2:(i + 1 + 1) * sz = i * sz + sz + sz:=by rw [ajV,hm]
  rw [hm] at e3 ⊢
  rw [hm2]
  have e4:i * sz + sz + off + us.length ≤ vs.length:=by omega
  refine ⟨⟨h.1,?_,?_⟩,e2,by omega⟩
  ·have:(vs.take (i * sz + sz + off) ++ us ++ vs.drop (i * sz + sz + off + us.length)).take sz = vs.take sz:=by
    refine akl fun j=>?_
    rw [ajU,gX e4,ajU]
    by_cases h1:j < sz
    ·simp only [h1,ajH];rw [ai8 (by omega)]
    ·simp only [h1,ajv]
   rw [this];exact h.2.1
  ·have:(vs.take (i * sz + sz + off) ++ us ++ vs.drop (i * sz + sz + off + us.length)).drop sz = (vs.drop sz).take (i * sz + off) ++ us ++ (vs.drop sz).drop (i * sz + off + us.length):=by
    refine akl fun j=>?_
    rw [aj3,gX e4,gX (by rw [ajA];omega),aj3]
    by_cases h1:j < i * sz + off
    ·rw [ai8 h1,ai8 (by omega)]
    ·by_cases h2:j < i * sz + off + us.length
     ·rw [ai9 h1,ai8 h2,ai9 (by omega),ai8 (by omega)]
      congr 1;omega
     ·rw [ai9 h1,ai9 h2,ai9 (by omega),ai9 (by omega)]
   rw [this];exact e1
 | [],vs,i,r,l,h,hr,hl=>by simp at hr
end
end
end Go.Proofs.YtfokaoeinpnagaaGreat.Ev

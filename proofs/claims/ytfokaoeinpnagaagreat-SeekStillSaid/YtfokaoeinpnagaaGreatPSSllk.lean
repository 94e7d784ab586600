/- A part of the proof of SeekStill: cut, joined and given short names by a program of this session (wip/tools/pack.py); Lean checks it. No condition. -/
import Derived.Test.YtfokaoeinpnagaaGreatPSSllj
import Derived.Test.YtfokaoeinpnagaaGreatPSSllf
import Derived.Test.YtfokaoeinpnagaaGreatPSSlli
import Derived.Test.YtfokaoeinpnagaaGreatPSSllg
import Derived.Test.YtfokaoeinpnagaaGreatPSSllh
import Derived.KernelRfl
import Derived.Test.YtfokaoeinpnagaaGreatPSSlld
set_option linter.unusedSectionVars false
set_option linter.unusedSimpArgs false
set_option linter.unusedVariables false
set_option maxHeartbeats 16000000
set_option maxRecDepth 100000
namespace Go.Proofs.YtfokaoeinpnagaaGreat.Ev
open Go
section
variable {Γ : Env} {F s c1 c2:Nat} {ca cb cc:CC} {D:St → Option St} {cf:CF} {dV:List AV} {σ:St}
@[go_sem ↓] theorem afa {k:List AV × List AV → Prop} {u:Tok k}:W k u (Mg Γ F ca cb s D cf dV) ↔ dV.length = cf.np ∧ W (fun e=>W (fun p=>p.1 = .iK ∧ W (fun t=>W (fun q=>(∀ id,q.1 ≠ .ext id) ∧ W (fun t=>W (fun b=>W (fun l=>W (fun r=>k (r.1,b.1)) ⟨⟩ (lV cf.ro b.2 l)) ⟨⟩ (slots b.2 cf.res)) ⟨⟩ (jF t e.1 dV)) ⟨⟩ (D q.2)) ⟨⟩ (ev Γ F cb t)) ⟨⟩ (some ⟨put p.2.tm s (.c (.one .any)),p.2.ob⟩)) ⟨⟩ (ev Γ F ca e.2)) ⟨⟩ (enter cf.bo 0 [] ⟨[],[]⟩ dV):=by
 simp only [Mg,dL,cZ,aJ,aZ,ne_eq,aiJ]
 refine ajg ah6 (bZ fun e=>bZ fun p=>?_)
 obtain ⟨o,σ'⟩:=p
 cases o with
 | iK =>
  simp only [true_and,aJ]
  refine bZ fun q=>?_
  obtain ⟨o,σ'⟩:=q
  cases o with
  | ext i=>simp [jc]
  | iK=>simp only [reduceCtorEq,ajO,implies_true,true_and,aJ,bQ]
  | ret=>simp only [reduceCtorEq,ajO,implies_true,true_and,aJ,bQ]
 | ext i=>simp [jc]
 | ret=>simp [jc]
def ds0 (ob:List (Nat × Ob)):Option PV → Option PV → Option St
 | some x,some y=>some ⟨[(0,x),(1,y)],ob⟩
 | _,_=>none
@[go_sem] theorem aay {ob:List (Nat × Ob)} {x y:PV}:ds0 ob (some x) (some y) = some ⟨[(0,x),(1,y)],ob⟩:=rfl
@[go_sem ↓] theorem agW {k:St → Prop} {u:Tok k}:W k u (Dcl Γ F cc c1 c2 σ) ↔ W (fun t=>W (fun p=>(∀ id,p.1 ≠ .ext id) ∧ W (fun z=>k ⟨[(c1,z)],p.2.ob⟩) ⟨⟩ (get p.2.tm 0)) ⟨⟩ (ev Γ F cc t)) ⟨⟩ (ds0 σ.ob (get σ.tm c1) (get σ.tm c2)):=by
 unfold Dcl ds0
 cases h1:get σ.tm c1 with
 | none=>simp only [dL,jc]
 | some x =>
  cases h2:get σ.tm c2 with
  | none=>simp only [dL,jc,aZ]
  | some y =>
   simp only [dL,aZ,aJ]
   refine bZ fun p=>?_
   obtain ⟨o,σ'⟩:=p
   cases o with
   | ext i=>simp [jc]
   | iK=>simp only [ne_eq,reduceCtorEq,ajO,implies_true,true_and,bQ]
   | ret=>simp only [ne_eq,reduceCtorEq,ajO,implies_true,true_and,bQ]
end
end Go.Proofs.YtfokaoeinpnagaaGreat.Ev
namespace Go.Proofs.YtfokaoeinpnagaaGreat.Kc
attribute [local go_sem_proc] Nat.reduceAdd Nat.reduceMul Nat.reduceEqDiff Nat.reduceBEq Nat.reduceMod Nat.reduceDiv reduceCtorEq
attribute [local go_sem_proc ↓] reduceIte
open Go Ev
variable {ext : Env} {F n:Nat} {θ:Th}
def pA : CC:=(.seq (.reg [⟨(some 4),none,(.box 27 (.t 0))⟩,⟨(some 6),none,(.box 42 (.t 2))⟩,⟨(some 8),none,(.alloc 118 [(.f (.int .i64 0))])⟩] [1,3,4,6,8]) (.oH [⟨⟨(some 14),none,(.load 5 true (.t 6))⟩,[200000]⟩,⟨⟨(some 15),none,(.mv (.t 1))⟩,[200000]⟩,⟨⟨(some 16),none,(.fa 4 (.t 6))⟩,[200000]⟩,⟨⟨(some 17),none,(.load 1 false (.t 16))⟩,[200000]⟩,⟨⟨(some 18),none,(.call false 82 [(.t 15),(.t 17)])⟩,[200000]⟩,⟨⟨(some 19),none,(.mv (.t 3))⟩,[200000]⟩,⟨⟨(some 20),none,(.build [(.f (.str ⟨#[]⟩)),(.f (.int .i64 0)),(.f (.int .i64 0)),.bK,(.f (.int .i64 0)),(.f (.int .i64 0)),(.f (.int .i64 0))] [⟨0,⟨5,(.t 14)⟩⟩,⟨5,⟨1,(.t 18)⟩⟩,⟨6,⟨1,(.t 19)⟩⟩])⟩,[200000]⟩,⟨⟨(some 9),none,(.alloc 106 [(.f (.str ⟨#[]⟩)),(.f (.int .i64 0)),(.f (.int .i64 0)),.bK,(.f (.int .i64 0)),(.f (.int .i64 0)),(.f (.int .i64 0))])⟩,[]⟩] [] [] [⟨none,none,(.store 7 (.t 9) (.t 20))⟩] [1,4,6,8,9]))
def pB : CC:=(.seq (.seq (.reg [⟨(some 22),none,(.load 1 false (.t 4))⟩,⟨(some 23),none,(.mv (.t 1))⟩,⟨(some 24),none,(.load 7 true (.t 9))⟩,⟨(some 25),none,(.call false 84 [(.t 22),(.t 23),(.t 24)])⟩,⟨none,none,(.store 1 (.t 8) (.t 25))⟩] [4,6,8,9]) (.seq (.reg [⟨(some 26),none,(.load 1 false (.t 8))⟩,⟨(some 27),none,(.cmp .ne (.t 26) (.k (.one (.f (.int .i64 0)))))⟩] [4,6,8,9,27]) (.cond (.t 27) (.seq (.reg [⟨(some 28),none,(.load 1 false (.t 8))⟩,⟨none,none,(.store 1 (.t 8) (.t 28))⟩] [4,8]) .ret) .skip))) (.seq (.oH [⟨⟨(some 29),none,(.load 1 false (.t 4))⟩,[]⟩,⟨⟨(some 30),none,(.gH (.t 29))⟩,[]⟩,⟨⟨(some 31),none,(.fa 1 (.t 30))⟩,[]⟩,⟨⟨(some 32),none,(.load 1 false (.t 31))⟩,[]⟩,⟨⟨(some 33),none,(.fa 0 (.t 6))⟩,[]⟩,⟨⟨(some 34),none,(.load 3 true (.t 33))⟩,[]⟩,⟨⟨(some 35),none,(.load 7 true (.t 9))⟩,[]⟩,⟨⟨(some 36),none,(.call false 79 [(.t 35)])⟩,[]⟩] [] [] [⟨none,none,(.wG (.agg [.str,(.int .i64),(.int .i64)]) (.t 32) (.t 34) (.t 36))⟩] [4,6,8]) (.seq (.oH [⟨⟨(some 38),none,(.load 1 false (.t 4))⟩,[]⟩,⟨⟨(some 39),none,(.gH (.t 38))⟩,[]⟩,⟨⟨(some 40),none,(.fa 2 (.t 39))⟩,[]⟩,⟨⟨(some 41),none,(.load 1 false (.t 40))⟩,[]⟩,⟨⟨(some 42),none,(.fa 0 (.t 6))⟩,[]⟩,⟨⟨(some 43),none,(.load 3 true (.t 42))⟩,[]⟩,⟨⟨(some 44),none,(.call false 86 [(.t 41),(.t 43)])⟩,[]⟩,⟨⟨(some 45),none,(.load 1 false (.t 4))⟩,[]⟩,⟨⟨(some 46),none,(.gH (.t 45))⟩,[]⟩,⟨⟨(some 47),none,(.fa 0 (.t 46))⟩,[]⟩,⟨⟨(some 48),none,(.load 1 false (.t 47))⟩,[]⟩,⟨⟨(some 49),none,(.call false 85 [(.t 44),(.t 48)])⟩,[]⟩,⟨⟨(some 37),none,(.mv (.t 49))⟩,[]⟩,⟨⟨(some 50),none,(.ext (.t 37) 0)⟩,[]⟩,⟨⟨(some 51),none,(.ext (.t 37) 1)⟩,[]⟩,⟨⟨(some 10),none,(.mv (.t 50))⟩,[]⟩] [] [] [⟨(some 11),none,(.mv (.t 51))⟩] [4,8,10,11]) (.seq (.seq (.reg [⟨(some 52),none,(.mv (.t 11))⟩,⟨(some 53),none,(.fV (.t 52))⟩,⟨(some 54),none,(.mv (.k (.one (.f (.int .i64 0)))))⟩] [4,8,10,52,53,54]) (.block 0 (.loop [4,8,10,52,53,54] [20201,20205,20208,100000,180000,530002,530004,530006,530008,530010,530012,530014,530016,530202,530204,530206,530208,530210,530212,530214,530216,530402,530404,530406,530408,530410,530412,530414,530416,530602,530604,530606,530608,530610,530612,530614,530616,530802,530804,530806,530808,530810,530812,530814,530816,531002,531004,531006,531008,531010,531012,531014,531016,1000200,1002200] [] (.seq (.reg [⟨(some 55),none,(.cmp .lt (.t 54) (.t 53))⟩] [4,8,10,52,53,54,55]) (.seq (.cond (.t 55) .skip (.exit 0)) (.seq (.block 1 (.seq (.reg [⟨(some 56),none,(.ia 3 (.t 52) (.t 54))⟩,⟨(some 57),none,(.load 3 true (.t 56))⟩,⟨(some 13),none,(.alloc 24 [(.f (.str ⟨#[]⟩)),(.f (.int .i64 0)),(.f (.int .i64 0))])⟩,⟨none,none,(.store 3 (.t 13) (.t 57))⟩] [4,8,10,13,52,53,54]) (.oH [⟨⟨(some 58),none,(.load 1 false (.t 4))⟩,[]⟩,⟨⟨(some 59),none,(.gH (.t 58))⟩,[]⟩,⟨⟨(some 60),none,(.fa 1 (.t 59))⟩,[]⟩,⟨⟨(some 61),none,(.load 1 false (.t 60))⟩,[]⟩,⟨⟨(some 62),none,(.load 3 true (.t 13))⟩,[]⟩] [] [] [⟨none,none,(.del (.agg [.str,(.int .i64),(.int .i64)]) (.t 61) (.t 62))⟩] [4,8,10,52,53,54]))) (.reg [⟨(some 63),none,(.ar .add (.t 54) (.k (.one (.f (.int .i64 1)))))⟩,⟨(some 54),none,(.mv (.t 63))⟩] [4,8,10,52,53,54]))))))) (.seq (.reg [⟨(some 64),none,(.load 1 false (.t 4))⟩,⟨(some 65),none,(.mv (.t 10))⟩,⟨(some 66),none,(.gH (.t 64))⟩,⟨(some 67),none,(.fa 2 (.t 66))⟩,⟨none,none,(.store 1 (.t 67) (.t 65))⟩] [4,8]) (.seq (.reg [⟨none,none,(.store 1 (.t 8) (.k (.one (.f (.int .i64 0)))))⟩] [4,8]) .ret))))))
def MI : CF:=⟨4,[(.cell 8 1 false)],[],[],.skip⟩
def cDf : CF:=⟨2,[],[],[],(.seq (.reg [⟨(some 2),none,(.load 1 false (.t 0))⟩,⟨(some 3),none,(.cmp .eq (.t 2) (.k (.one (.f (.int .i64 0)))))⟩] [0,1,3]) (.cond (.t 3) (.reg [⟨(some 4),none,(.load 1 false (.t 1))⟩,⟨(some 5),none,(.gH (.t 4))⟩,⟨(some 6),none,(.fa 3 (.t 5))⟩,⟨(some 7),none,(.load 1 false (.t 6))⟩,⟨(some 8),none,(.ar .add (.t 7) (.k (.one (.f (.int .i64 1)))))⟩,⟨(some 9),none,(.gH (.t 4))⟩,⟨(some 10),none,(.fa 3 (.t 9))⟩,⟨none,none,(.store 1 (.t 10) (.t 8))⟩] [0]) .skip))⟩
noncomputable abbrev vo (ext:Env) (F n:Nat):List AV → Option (List AV × List AV):=Mg (G ext F n) F pA pB 21 (Dcl (G ext F n) F cDf.body 8 4) MI
theorem MJ (now:Int) (x:Se) (r:Int):vo ext F (n + 9) [.one .iw,vi now,x.v,vi r] = some ([vi 1],[.one .iw,vi now,x.v,vi r]):=by
 refine I8 ?_
 have hu:=fun n=>xH (ext:=ext) (F:=F) (n:=n) now x.ttl
 have hm:=fun n=>Ma (ext:=ext) (F:=F) (n:=n) now (x.it (fD now x.ttl) r)
 simp only [vo,pA,pB,MI,cDf,hu,hm,Int.reduceEq,go_sem]
theorem MK {rb:Bool} (T:θ.CU rb ext) (C:lq ext) (s:Sv) (now:Int) (x:Se) (r:Int) (hF:200000000000001 ≤ F) (h1:0 ≤ s.room ∧ s.room ≤ 1000000) (h2:0 ≤ s.ch ∧ s.ch ≤ 1000000000000) (h3:s.o.length ≤ 100000) (h4:x.q.size ≤ 1000000) (h5:x.d.length ≤ 1000000) (h6:∀ y ∈ x.d,y.size ≤ 1000000):vo ext F (n + 9) [s.v,vi now,x.v,vi r] = some ([vi (uF θ s now x r).2],[(uF θ s now x r).1.v,vi now,x.v,vi r]):=by
 refine I8 ?_
 have hu:=fun n=>xH (ext:=ext) (F:=F) (n:=n) now x.ttl
 have hm:=fun n=>VL (F:=F) (n:=n) T s now (x.it (fD now x.ttl) r) hF h4 h5 h6
 by_cases h0:Jc θ s now (x.it (fD now x.ttl) r) = 0
 ·have hw:IntKind.i64.wrap (s.ch + 1) = s.ch + 1:=oD (by omega) (by omega)
  have hcl:=fun n=>D5 (ext:=ext) (F:=F) (n:=n) C (x.it (fD now x.ttl) r) h5
  have hq:=@sJ s.o x.k
  have ht:=fun n=>DY (ext:=ext) (F:=F) (n:=n) C s.o x.k (by omega) hF
  have hc:=fun n=>L8 (ext:=ext) (F:=F) (n:=n) C (CW s.o x.k ++ [x.k]) s.room (by simp;omega) (by omega) hF
  have hup:=xL s.m (x.it (fD now x.ttl) r)
  simp only [kq,rI] at hup
  rw [h0] at hm
  have he:uF θ s now x r = (⟨s.room,((CW s.o x.k ++ [x.k]).take ((CW s.o x.k ++ [x.k]).length - s.room.toNat)).foldl rid (upd s.m (x.it (fD now x.ttl) r)),(CW s.o x.k ++ [x.k]).drop ((CW s.o x.k ++ [x.k]).length - s.room.toNat),s.ch + 1⟩,0):=by
   unfold uF
   simp only [ne_eq,h0,not_true_eq_false,aik]
  rw [he]
  generalize Yx:CW s.o x.k ++ [x.k] = t at ht hc ⊢
  generalize t.drop (t.length - s.room.toNat) = td at hc ⊢
  generalize htt:t.take (t.length - s.room.toNat) = tt at hc ⊢
  have htl:tt.length ≤ 1000000:=by rw [← htt,aia,← Yx,ah7,List.length_singleton];omega
  generalize hM:upd s.m (x.it (fD now x.ttl) r) = M at hup ⊢
  simp only [vo,pA,pB,MI,cDf,hu,hm,Int.reduceEq,hcl,ht,hc,hup,hw,go_sem]
  refine jH tt.length (fun i=>⟨[(4,PV.c (CV.one (PL.ptr 100000 0))),(8,PV.c (CV.one (PL.ptr 180000 0))),(10,PV.c (CV.one (PL.f (FV.sl (List.map rQ td))))),(52,PV.c (CV.one (PL.f (FV.sl (List.map rQ tt))))),(53,PV.c (CV.one (PL.f (FV.int IntKind.i64 ↑(List.map rQ tt).length)))),(54,PV.c (CV.one (PL.f (FV.int IntKind.i64 i))))],[(20201,Ob.dM [PL.f (FV.int IntKind.i64 s.room),PL.mp 530004,PL.f (FV.sl (List.map rQ s.o)),PL.f (FV.int IntKind.i64 s.ch)]),(100000,Ob.dM [PL.ptr 20201 0]),(180000,Ob.dM [PL.f (FV.int IntKind.i64 0)]),(530004,Ob.map kJ (((tt.take i).foldl rid M).map ent))]⟩) (fun _=>True) (by omega) rfl trivial (fun i hi _=>?_) (fun _=>?_)
  ·obtain ⟨k,hx,hlt,hit,h00⟩:=at_ hi
   have hn':=nx hi (by omega)
   have hdl:=xK ((tt.take i).foldl rid M) k
   have hfo:(tt.take (i + 1)).foldl rid M = rid ((tt.take i).foldl rid M) k:=by rw [aiL,hx,ajN];rfl
   simp only [ahZ,ah3,hlt,hx,hit,h00,hn',rQ,hdl,go_sem]
   rw [hfo]
  ·have hd:=@end_ _ tt
   simp only [ahZ,hd,hw,aiC,Int.reduceEq,go_sem]
   done
 ·have he:uF θ s now x r = (s,Jc θ s now (x.it (fD now x.ttl) r)):=by
   unfold uF
   simp only [ne_eq,h0,ajO,aiu]
  rw [he]
  simp only [vo,pA,pB,MI,cDf,hu,hm,Int.reduceEq,h0,go_sem]
end Go.Proofs.YtfokaoeinpnagaaGreat.Kc
namespace Go.Proofs.YtfokaoeinpnagaaGreat.Kc
section
open Go Go.Proofs Ev
theorem e48 : iX Tryz.prog 48 c48:=⟨Tryz.f48,_,⟨[3,9,24],[],[],[125,134]⟩,[⟨[0],[],[]⟩,⟨[0,8],[],[]⟩,⟨[2],[],[]⟩,⟨[2],[],[]⟩],[],by kernel_rfl,by kernel_rfl,rfl,eqs,by kernel_rfl,by kernel_rfl,by decide⟩
theorem e43 : iX Tryz.prog 43 Z0:=⟨Tryz.f43,_,⟨[3,9,24],[],[],[125,134]⟩,[⟨[0,1,5,6],[],[]⟩,⟨[0,1,5,6,11],[],[]⟩,⟨[6,7],[],[]⟩,⟨[1,6,8,9],[],[]⟩,⟨[6,8,30],[],[]⟩,⟨[6,7],[],[]⟩,⟨[6,7],[],[]⟩],[],by kernel_rfl,by kernel_rfl,rfl,eqs,by kernel_rfl,by kernel_rfl,by decide⟩
theorem afb : iX Tryz.prog 107 c107:=⟨Tryz.f107,_,⟨[3,9,24],[],[],[125,134]⟩,[⟨[2,3],[],[]⟩,⟨[4],[],[]⟩],[],by kernel_rfl,by kernel_rfl,rfl,eqs,by kernel_rfl,by kernel_rfl,by decide⟩
theorem e45 : iX Tryz.prog 45 c45:=⟨Tryz.f45,_,⟨[3,9,24],[],[],[125,134]⟩,[⟨[1],[],[]⟩,⟨[1,3],[],[]⟩,⟨[1,3],[20802,40000],[]⟩,⟨[1,3,8],[],[]⟩,⟨[1,3,23],[],[]⟩,⟨[2],[],[]⟩,⟨[1,3],[],[]⟩,⟨[2],[],[]⟩],[],by kernel_rfl,by kernel_rfl,rfl,eqs,by kernel_rfl,by kernel_rfl,by decide⟩
theorem e82 : iX Tryz.prog 82 c82:=⟨Tryz.f82,_,⟨[3,9,24],[],[],[125,134]⟩,[⟨[0,1],[],[]⟩,⟨[0,1,11],[],[]⟩,⟨[4],[],[]⟩,⟨[4],[],[]⟩],[],by kernel_rfl,by kernel_rfl,rfl,eqs,by kernel_rfl,by kernel_rfl,by decide⟩
theorem e84 : iX Tryz.prog 84 VD:=⟨Tryz.f84,_,⟨[3,9,24],[],[],[125,134]⟩,[⟨[0,1,5],[],[]⟩,⟨[0,1,5,31],[],[]⟩,⟨[6],[],[]⟩,⟨[0,1,5,36],[],[]⟩,⟨[6],[],[]⟩,⟨[1,5,7,8],[],[]⟩,⟨[60],[],[]⟩,⟨[6],[],[]⟩,⟨[6],[],[]⟩],[],by kernel_rfl,by kernel_rfl,rfl,eqs,by kernel_rfl,by kernel_rfl,by decide⟩
theorem e79 : iX Tryz.prog 79 c79:=⟨Tryz.f79,_,⟨[3,9,24],[],[],[125,134]⟩,[⟨[1,2],[],[]⟩,⟨[1,2],[],[]⟩,⟨[2],[],[]⟩],[],by kernel_rfl,by kernel_rfl,rfl,eqs,by kernel_rfl,by kernel_rfl,by decide⟩
theorem e85 : iX Tryz.prog 85 c85:=⟨Tryz.f85,_,⟨[3,9,24],[],[],[125,134]⟩,[⟨[0,1],[],[]⟩,⟨[0,6],[],[]⟩,⟨[4,5],[],[]⟩],[],by kernel_rfl,by kernel_rfl,rfl,eqs,by kernel_rfl,by kernel_rfl,by decide⟩
theorem e86 : iX Tryz.prog 86 c86:=⟨Tryz.f86,_,⟨[3,9,24],[7],[],[125,134]⟩,[⟨[0,3],[],[]⟩,⟨[4],[],[]⟩],[],by kernel_rfl,by kernel_rfl,rfl,eqs,by kernel_rfl,by kernel_rfl,by decide⟩
theorem e78 : iX Tryz.prog 78 c78:=⟨Tryz.f78,_,⟨[3,9,24],[],[],[125,134]⟩,[⟨[0,1],[],[]⟩,⟨[4],[],[]⟩],[],by kernel_rfl,by kernel_rfl,rfl,eqs,by kernel_rfl,by kernel_rfl,by decide⟩
theorem e116 : iX Tryz.prog 116 c116:=⟨Tryz.f116,_,⟨[3,9,24],[],[],[125,134]⟩,[⟨[0,3],[],[]⟩,⟨[4],[],[]⟩],[],by kernel_rfl,by kernel_rfl,rfl,eqs,by kernel_rfl,by kernel_rfl,by decide⟩
theorem e38 : iX Tryz.prog 38 Ow:=⟨Tryz.f38,_,⟨[3,9,24],[],[],[125,134]⟩,[⟨[0,1],[],[]⟩,⟨[0,1,10],[],[]⟩,⟨[4],[],[]⟩,⟨[0,1,5],[],[]⟩,⟨[0,1,5],[20202,40202],[]⟩,⟨[0,1,5,14],[],[]⟩,⟨[0,1,5,25],[],[]⟩,⟨[4],[],[]⟩,⟨[0,1,5],[],[]⟩,⟨[4],[],[]⟩],[],by kernel_rfl,by kernel_rfl,rfl,eqs,by kernel_rfl,by kernel_rfl,by decide⟩
theorem afc : iX Tryz.prog 113 PW:=⟨Tryz.f113,_,⟨[3,9,24],[],[],[125,134]⟩,[⟨[1],[],[]⟩,⟨[1,3],[],[]⟩,⟨[1,3,37],[],[]⟩,⟨[2],[],[]⟩,⟨[1,3,39,40,41],[],[]⟩,⟨[1,3,39,40,41],[20802,40000,80000],[]⟩,⟨[1,3,39,40,41,42],[],[]⟩,⟨[1,3,4,5,39,40,41],[],[]⟩,⟨[1,3,39,40,41,66],[],[]⟩,⟨[2],[],[]⟩,⟨[1,3,39,40,41],[],[]⟩,⟨[2],[],[]⟩],[],by kernel_rfl,by kernel_rfl,rfl,eqs,by kernel_rfl,by kernel_rfl,by decide⟩
theorem afd : iX Tryz.prog 111 PX:=⟨Tryz.f111,_,⟨[3,9,24],[],[],[125,134]⟩,[⟨[0,1],[],[]⟩,⟨[4],[],[]⟩],[],by kernel_rfl,by kernel_rfl,rfl,eqs,by kernel_rfl,by kernel_rfl,by decide⟩
theorem afe : iX Tryz.prog 114 PY:=⟨Tryz.f114,_,⟨[3,9,24],[],[],[125,134]⟩,[⟨[0,1,2],[],[]⟩,⟨[6],[],[]⟩],[],by kernel_rfl,by kernel_rfl,rfl,eqs,by kernel_rfl,by kernel_rfl,by decide⟩
theorem aff : iX Tryz.prog 134 PZ:=⟨Tryz.f134,_,⟨[3,9,24],[41],[38],[125,134]⟩,[⟨[0,1],[],[]⟩,⟨[0,1,5],[],[]⟩,⟨[0,1,5,12],[],[]⟩,⟨[4],[],[]⟩,⟨[0,1,5,6],[],[]⟩,⟨[0,1,5,6],[20202],[]⟩,⟨[0,1,5,6,19],[],[]⟩,⟨[0,1,5,6,7],[],[]⟩,⟨[0,1,5,6,7,29],[],[]⟩,⟨[0,1,5,6],[],[]⟩,⟨[0,1,5,6],[],[]⟩,⟨[0,1,5,6],[],[]⟩,⟨[0,5],[],[]⟩,⟨[4],[],[]⟩],[],by kernel_rfl,by kernel_rfl,rfl,eqs,by kernel_rfl,by kernel_rfl,by decide⟩
theorem afg : iX Tryz.prog 135 P5:=⟨Tryz.f135,_,⟨[3,9,24],[],[],[125,134]⟩,[⟨[1,2],[],[]⟩,⟨[3],[],[]⟩],[],by kernel_rfl,by kernel_rfl,rfl,eqs,by kernel_rfl,by kernel_rfl,by decide⟩
theorem afh : iX Tryz.prog 131 c131:=⟨Tryz.f131,_,⟨[3,9,24],[],[],[125,134]⟩,[⟨[0,1],[],[]⟩,⟨[4],[],[]⟩],[],by kernel_rfl,by kernel_rfl,rfl,eqs,by kernel_rfl,by kernel_rfl,by decide⟩
theorem afi : iX Tryz.prog 133 P6:=⟨Tryz.f133,_,⟨[3,9,24],[],[],[125,134]⟩,[⟨[0,1],[],[]⟩,⟨[4],[],[]⟩],[],by kernel_rfl,by kernel_rfl,rfl,eqs,by kernel_rfl,by kernel_rfl,by decide⟩
theorem afj : iX Tryz.prog 122 P7:=⟨Tryz.f122,_,⟨[3,9,24],[],[],[125,134]⟩,[⟨[0,1],[],[]⟩,⟨[4],[],[]⟩],[],by kernel_rfl,by kernel_rfl,rfl,eqs,by kernel_rfl,by kernel_rfl,by decide⟩
theorem afk : iX Tryz.prog 149 P8:=⟨Tryz.f149,_,⟨[3,9,24],[],[],[125,134]⟩,[⟨[0,1],[],[]⟩,⟨[0,1,7,8],[],[]⟩,⟨[0,1,7,8],[20202],[]⟩,⟨[0,1,7,8,9],[],[]⟩,⟨[0,1,5,7,8],[],[]⟩,⟨[0,1,5,7,8,16],[],[]⟩,⟨[4],[],[]⟩,⟨[0,1,7,8],[],[]⟩,⟨[4],[],[]⟩],[],by kernel_rfl,by kernel_rfl,rfl,eqs,by kernel_rfl,by kernel_rfl,by decide⟩
theorem afl : iX Tryz.prog 148 c148:=⟨Tryz.f148,_,⟨[3,9,24],[],[],[125,134]⟩,[⟨[0,1],[],[]⟩,⟨[0,1,7,8],[],[]⟩,⟨[0,1,7,8],[20202],[]⟩,⟨[0,1,7,8,9],[],[]⟩,⟨[0,1,5,7,8],[],[]⟩,⟨[0,1,5,7,8,16],[],[]⟩,⟨[4],[],[]⟩,⟨[0,1,7,8],[],[]⟩,⟨[4],[],[]⟩],[],by kernel_rfl,by kernel_rfl,rfl,eqs,by kernel_rfl,by kernel_rfl,by decide⟩
theorem e49 : iX Tryz.prog 49 c49:=⟨Tryz.f49,_,⟨[3,9,24],[],[],[125,134]⟩,[⟨[0],[],[]⟩,⟨[0,8],[],[]⟩,⟨[2],[],[]⟩,⟨[2],[],[]⟩],[],by kernel_rfl,by kernel_rfl,rfl,eqs,by kernel_rfl,by kernel_rfl,by decide⟩
theorem e87 : iX Tryz.prog 87 c87:=⟨Tryz.f87,_,⟨[3,9,24],[],[],[125,134]⟩,[⟨[1],[],[]⟩,⟨[1,15],[],[]⟩,⟨[2,3],[],[]⟩,⟨[1,4],[],[]⟩,⟨[1,5],[],[]⟩,⟨[2,3],[],[]⟩],[],by kernel_rfl,by kernel_rfl,rfl,eqs,by kernel_rfl,by kernel_rfl,by decide⟩
theorem e51 : iX Tryz.prog 51 c51:=⟨Tryz.f51,_,⟨[3,9,24],[],[],[125,134]⟩,[⟨[0,1,3,7,9],[],[]⟩,⟨[0,1,3,7,9,11,12],[],[]⟩,⟨[0,1,3,7,9,12,13],[],[]⟩,⟨[0,1,3,7,9,13,26],[],[]⟩,⟨[10],[],[]⟩,⟨[0,3,7,9,13,42],[],[]⟩,⟨[10],[],[]⟩,⟨[0,3,7,9,13,47],[],[]⟩,⟨[0,3,7,9,13],[],[]⟩,⟨[0,7],[],[]⟩,⟨[0,14,15],[],[]⟩,⟨[0,14,75,76,77],[],[]⟩,⟨[0,14,75,76,77],[20201,20205,20208,1460200,1462200],[]⟩,⟨[0,14,75,76,77,78],[],[]⟩,⟨[0,14,17,75,76,77],[],[]⟩,⟨[0,14,75,76,77],[],[]⟩,⟨[0,14,75,76,77],[],[]⟩,⟨[0],[],[]⟩,⟨[],[],[]⟩,⟨[10],[],[]⟩],[],by kernel_rfl,by kernel_rfl,rfl,eqs,by kernel_rfl,by kernel_rfl,by decide⟩
theorem afm : iX Tryz.prog 103 P9:=⟨Tryz.f103,_,⟨[3,9,24],[],[],[125,134]⟩,[⟨[0,1,5,6],[],[]⟩,⟨[0,1,5,6,13],[],[]⟩,⟨[6,7],[],[]⟩,⟨[0,1,6,18,19,20],[],[]⟩,⟨[0,1,6,18,19,20],[20201,20205,20208,140000,380000,841600],[]⟩,⟨[0,1,6,18,19,20,21],[],[]⟩,⟨[0,1,6,9,18,19,20],[],[]⟩,⟨[0,1,6,10,11,18,19,20],[],[]⟩,⟨[0,1,6,10,18,19,20,39],[],[]⟩,⟨[6,7],[],[]⟩,⟨[0,1,6,18,19,20],[],[]⟩,⟨[6,7],[],[]⟩],[],by kernel_rfl,by kernel_rfl,rfl,eqs,by kernel_rfl,by kernel_rfl,by decide⟩
theorem e88 : iX Tryz.prog 88 c88:=⟨Tryz.f88,_,⟨[3,9,24],[],[],[125,134]⟩,[⟨[1],[],[]⟩,⟨[2],[],[]⟩],[],by kernel_rfl,by kernel_rfl,rfl,eqs,by kernel_rfl,by kernel_rfl,by decide⟩
theorem e89 : iX Tryz.prog 89 c89:=⟨Tryz.f89,_,⟨[3,9,24],[],[],[125,134]⟩,[⟨[1,2],[],[]⟩,⟨[1,2],[],[]⟩,⟨[2],[],[]⟩],[],by kernel_rfl,by kernel_rfl,rfl,eqs,by kernel_rfl,by kernel_rfl,by decide⟩
theorem e90 : iX Tryz.prog 90 c90:=⟨Tryz.f90,_,⟨[3,9,24],[],[],[125,134]⟩,[⟨[1,2],[],[]⟩,⟨[1,2],[],[]⟩,⟨[2],[],[]⟩],[],by kernel_rfl,by kernel_rfl,rfl,eqs,by kernel_rfl,by kernel_rfl,by decide⟩
theorem e10 : iX Tryz.prog 10 c10:=⟨Tryz.f10,_,⟨[3,9,24],[],[],[125,134]⟩,[⟨[0,1],[],[]⟩,⟨[0,1,5],[],[]⟩,⟨[0,1,5],[20202],[]⟩,⟨[0,1,5,9],[],[]⟩,⟨[0,1,5,28],[],[]⟩,⟨[4],[],[]⟩,⟨[0,1,5],[],[]⟩,⟨[32],[],[]⟩,⟨[4],[],[]⟩,⟨[4],[],[]⟩],[],by kernel_rfl,by kernel_rfl,rfl,eqs,by kernel_rfl,by kernel_rfl,by decide⟩
theorem e12 : iX Tryz.prog 12 c12:=⟨Tryz.f12,_,⟨[3,9,24],[],[],[125,134]⟩,[⟨[0],[],[]⟩,⟨[0,4],[],[]⟩,⟨[0,4,5],[],[]⟩,⟨[0,4,5,6],[],[]⟩,⟨[0,4,5,6],[30201,160200,160204,160206,180200,180204,180206],[]⟩,⟨[0,4,5,6,12],[],[]⟩,⟨[0,4,5,6,20],[],[]⟩,⟨[0,4,5,6],[],[]⟩,⟨[0,4,5,6],[],[]⟩,⟨[0,4,5,6],[],[]⟩,⟨[2,3],[],[]⟩],[],by kernel_rfl,by kernel_rfl,rfl,eqs,by kernel_rfl,by kernel_rfl,by decide⟩
theorem e17 : iX Tryz.prog 17 c17:=⟨Tryz.f17,_,⟨[3,9,24],[],[],[125,134]⟩,[⟨[1,2],[],[]⟩,⟨[1,2,3],[],[]⟩,⟨[1,2,3,4],[],[]⟩,⟨[1,2,3,4],[20202,21402,40000,60000,80000,560000],[]⟩,⟨[1,2,3,4,16],[],[]⟩,⟨[1,2,3,4],[],[]⟩,⟨[1,2,3,4],[],[]⟩,⟨[2],[],[]⟩],[],by kernel_rfl,by kernel_rfl,rfl,eqs,by kernel_rfl,by kernel_rfl,by decide⟩
theorem e47 : iX Tryz.prog 47 VE:=⟨Tryz.f47,_,⟨[3,9,24],[],[],[125,134]⟩,[⟨[1],[],[]⟩,⟨[1,14],[],[]⟩,⟨[2,3],[],[]⟩,⟨[4],[],[]⟩,⟨[4,22],[],[]⟩,⟨[2,3],[],[]⟩,⟨[2,3],[],[]⟩],[],by kernel_rfl,by kernel_rfl,rfl,eqs,by kernel_rfl,by kernel_rfl,by decide⟩
theorem e56 : iX Tryz.prog 56 X6:=⟨Tryz.f56,_,⟨[3,9,24],[],[],[125,134]⟩,[⟨[2,3,4],[],[]⟩,⟨[2,4,6,7],[],[]⟩,⟨[2,4,6,24],[],[]⟩,⟨[4,5],[],[]⟩,⟨[4,5],[],[]⟩],[],by kernel_rfl,by kernel_rfl,rfl,eqs,by kernel_rfl,by kernel_rfl,by decide⟩
theorem e57 : iX Tryz.prog 57 Z4:=⟨Tryz.f57,_,⟨[3,9,24],[],[],[125,134]⟩,[⟨[2,3,4],[],[]⟩,⟨[2,3,4,13],[],[]⟩,⟨[4,5,6],[],[]⟩,⟨[2,3,4],[],[]⟩,⟨[4,7],[],[]⟩,⟨[4,7,9,10],[],[]⟩,⟨[4,5,6],[],[]⟩],[],by kernel_rfl,by kernel_rfl,rfl,eqs,by kernel_rfl,by kernel_rfl,by decide⟩
theorem e58 : iX Tryz.prog 58 Z5:=⟨Tryz.f58,_,⟨[3,9,24],[],[],[125,134]⟩,[⟨[3,4,5,6],[],[]⟩,⟨[3,4,6,7,8],[],[]⟩,⟨[3,4,6,7,19],[],[]⟩,⟨[4,6],[],[]⟩,⟨[6],[],[]⟩,⟨[3,4,6,7,24],[],[]⟩,⟨[3,4,6,7],[],[]⟩,⟨[3,4,6,7],[],[]⟩,⟨[4,6],[],[]⟩,⟨[6],[],[]⟩],[],by kernel_rfl,by kernel_rfl,rfl,eqs,by kernel_rfl,by kernel_rfl,by decide⟩
theorem e14 : iX Tryz.prog 14 c14:=⟨Tryz.f14,_,⟨[3,9,24],[],[],[125,134]⟩,[⟨[0,1,2,7,8],[],[]⟩,⟨[7,8,9],[],[]⟩,⟨[7,8,9,10],[],[]⟩,⟨[7,8,9,10,11],[],[]⟩,⟨[7,8,9,10,11],[20201,20205,20208,40201,40205,40208,160000,180000,200000,220000,440000,690002,690004,690006,690008,690010,690012,690014,690016,690202,690204,690206,690208,690210,690212,690214,690216,690402,690404,690406,690408,690410,690412,690414,690416,690602,690604,690606,690608,690610,690612,690614,690616,690802,690804,690806,690808,690810,690812,690814,690816,691002,691004,691006,691008,691010,691012,691014,691016,840000,960800,970002,970004,970006,970008,970010,970012,970014,970016,970202,970204,970206,970208,970210,970212,970214,970216,970402,970404,970406,970408,970410,970412,970414,970416,970602,970604,970606,970608,970610,970612,970614,970616,970802,970804,970806,970808,970810,970812,970814,970816,971002,971004,971006,971008,971010,971012,971014,971016,1140200,1141400,1150002,1150004,1150006,1150008,1150010,1150012,1150014,1150016,1150202,1150204,1150206,1150208,1150210,1150212,1150214,1150216,1150402,1150404,1150406,1150408,1150410,1150412,1150414,1150416,1150602,1150604,1150606,1150608,1150610,1150612,1150614,1150616,1150802,1150804,1150806,1150808,1150810,1150812,1150814,1150816,1151002,1151004,1151006,1151008,1151010,1151012,1151014,1151016,1240000],[]⟩,⟨[7,8,9,10,11],[],[]⟩,⟨[7,8,9,10,11],[],[]⟩,⟨[7,8,9,10,11,12,13],[],[]⟩,⟨[7,8,9,10,11,12,36],[],[]⟩,⟨[8,10],[],[]⟩,⟨[8],[],[]⟩,⟨[7,8,9,10,11,14,15,16],[],[]⟩,⟨[7,8,9,10,11,14,15,52],[],[]⟩,⟨[8],[],[]⟩,⟨[7,8,9,10,11,15],[],[]⟩,⟨[7,8,9,10,11,15,72],[],[]⟩,⟨[8,10],[],[]⟩,⟨[8],[],[]⟩,⟨[7,8,9,10,11],[],[]⟩],[],by kernel_rfl,by kernel_rfl,rfl,eqs,by kernel_rfl,by kernel_rfl,by decide⟩
theorem e63 : iX Tryz.prog 63 c63:=⟨Tryz.f63,_,⟨[3,9,24],[],[],[125,134]⟩,[⟨[2,3],[],[]⟩,⟨[4],[],[]⟩],[],by kernel_rfl,by kernel_rfl,rfl,eqs,by kernel_rfl,by kernel_rfl,by decide⟩
theorem e16 : iX Tryz.prog 16 c16:=⟨Tryz.f16,_,⟨[3,9,24],[],[],[125,134]⟩,[⟨[2,3],[],[]⟩,⟨[2,3,34],[],[]⟩,⟨[4],[],[]⟩,⟨[2,3,5],[],[]⟩,⟨[2,3,5],[20202,21402,40202,41402,60000,80000],[]⟩,⟨[2,3,5,39],[],[]⟩,⟨[2,3,5,53],[],[]⟩,⟨[4],[],[]⟩,⟨[2,3,5],[],[]⟩,⟨[4],[],[]⟩],[],by kernel_rfl,by kernel_rfl,rfl,eqs,by kernel_rfl,by kernel_rfl,by decide⟩
theorem afn : iX Tryz.prog 102 Lv:=⟨Tryz.f102,_,⟨[3,9,24],[],[],[125,134]⟩,[⟨[0,1],[],[]⟩,⟨[0,1,8],[],[]⟩,⟨[4],[],[]⟩,⟨[4],[],[]⟩],[],by kernel_rfl,by kernel_rfl,rfl,eqs,by kernel_rfl,by kernel_rfl,by decide⟩
theorem afo : iX Tryz.prog 101 Qa:=⟨Tryz.f101,_,⟨[3,9,24],[],[],[125,134]⟩,[⟨[0],[],[]⟩,⟨[2],[],[]⟩],[],by kernel_rfl,by kernel_rfl,rfl,eqs,by kernel_rfl,by kernel_rfl,by decide⟩
theorem ents : ∀ p ∈ oz,iX Tryz.prog p.1 p.2:=ah4.2 ⟨e48,ah4.2 ⟨e43,ah4.2 ⟨afb,ah4.2 ⟨e45,ah4.2 ⟨e82,ah4.2 ⟨e84,ah4.2 ⟨e79,ah4.2 ⟨e85,ah4.2 ⟨e86,ah4.2 ⟨e78,ah4.2 ⟨e116,ah4.2 ⟨e38,ah4.2 ⟨afc,ah4.2 ⟨afd,ah4.2 ⟨afe,ah4.2 ⟨aff,ah4.2 ⟨afg,ah4.2 ⟨afh,ah4.2 ⟨afi,ah4.2 ⟨afj,ah4.2 ⟨afk,ah4.2 ⟨afl,ah4.2 ⟨e49,ah4.2 ⟨e87,ah4.2 ⟨e51,ah4.2 ⟨afm,ah4.2 ⟨e88,ah4.2 ⟨e89,ah4.2 ⟨e90,ah4.2 ⟨e10,ah4.2 ⟨e12,ah4.2 ⟨e17,ah4.2 ⟨e47,ah4.2 ⟨e56,ah4.2 ⟨e57,ah4.2 ⟨e58,ah4.2 ⟨e14,ah4.2 ⟨e63,ah4.2 ⟨e16,ah4.2 ⟨afn,ah4.2 ⟨afo,fun _ h=>nomatch h⟩⟩⟩⟩⟩⟩⟩⟩⟩⟩⟩⟩⟩⟩⟩⟩⟩⟩⟩⟩⟩⟩⟩⟩⟩⟩⟩⟩⟩⟩⟩⟩⟩⟩⟩⟩⟩⟩⟩⟩⟩
end
section
open Go Go.Proofs Ev
theorem QK {ext:Env} (h1:gL Tryz.prog ext) (h2:dG Tryz.prog ext) (F n:Nat):Sat Tryz.prog 50 (vo ext F n):=by
 obtain ⟨g1,g2⟩:=zY (oz:=oz) (F:=F) mixed ents h1 h2 n
 have hf:Tryz.prog.funcs[50]? = some Tryz.f50:=by kernel_rfl
 have hg:Tryz.prog.funcs[83]? = some Tryz.f83:=by kernel_rfl
 have hD:=VN (X:=⟨[3,9,24],[],[],[125,134]⟩) (c1:=8) (c2:=4) (h1:=[⟨[0,1,3],[],[]⟩,⟨[0],[],[]⟩]) (h2:=[]) (cc:=cDf.body) mixed eqs g1 g2 hg rfl (by kernel_rfl) rfl (by decide) F
 exact FL (X:=⟨[3,9,24],[],[],[125,134]⟩) (ha:=[⟨[1,3,4,6,8],[],[]⟩,⟨[1,4,6,8,9],[],[]⟩]) (hb':=[⟨[4,6,8,9],[],[]⟩,⟨[4,6,8,9,27],[],[]⟩,⟨[4,8],[],[]⟩,⟨[4,6,8],[],[]⟩,⟨[4,8,10,11],[],[]⟩,⟨[4,8,10,52,53,54],[],[]⟩,⟨[4,8,10,52,53,54],[20201,20205,20208,100000,180000,530002,530004,530006,530008,530010,530012,530014,530016,530202,530204,530206,530208,530210,530212,530214,530216,530402,530404,530406,530408,530410,530412,530414,530416,530602,530604,530606,530608,530610,530612,530614,530616,530802,530804,530806,530808,530810,530812,530814,530816,531002,531004,531006,531008,531010,531012,531014,531016,1000200,1002200],[]⟩,⟨[4,8,10,52,53,54,55],[],[]⟩,⟨[4,8,10,13,52,53,54],[],[]⟩,⟨[4,8,10,52,53,54],[],[]⟩,⟨[4,8,10,52,53,54],[],[]⟩,⟨[4,8],[],[]⟩,⟨[4,8],[],[]⟩]) (ra:=[]) (rb:=[]) (ca:=pA) (cb:=pB) (cf:=MI) mixed eqs g1 g2 hf rfl hg (by kernel_rfl) (by kernel_rfl) (by kernel_rfl) (by kernel_rfl) (by kernel_rfl) (by decide) (by decide) (by decide) (by decide) hD F
end
section
open Go Go.RowKit Ev
open Go.Proofs.YtfokaoeinpnagaaGreatW.aX in
theorem yJ {Fz:Nat → Prop} {w:World}:∀ {r:List ByteArray} {inner:List Value},(inner.length = r.length * 1 ∧ ∀ j p,r[j]? = some p → (inner.drop (j * 1)).take 1 = [.string p]) → dX Fz w 1 (r.map aY) inner
 | [],inner,h=>by
  show inner = []
  exact ajt (by simpa using h.1)
 | x :: r,inner,h=>by
  have h0:=h.2 0 x rfl
  rw [ai8,ai9] at h0
  refine ⟨rfl,by rw [h0];exact ⟨rfl,trivial⟩,yJ ⟨by have:=h.1;simp at this ⊢;omega,fun j p hj=>?_⟩⟩
  have:=h.2 (j + 1) p (by simpa using hj)
  rw [List.drop_drop,show 1 + j * 1 = (j + 1) * 1 from by omega]
  exact this
def gNm (g:Int → ByteArray → List ByteArray) (dV:List AV):Option (List AV × List AV):=match dV with
 | [.one (.f (.int .i64 k)),.one (.f (.str q))]=>if q.size ≤ 1000000 then some ([vl ((g k q).map aY)],dV) else none
 | _=>none
open Go.Proofs.YtfokaoeinpnagaaGreatW.aX in
theorem RG {f:FuncId} {g:Int → ByteArray → List ByteArray} (h:∀ k q w,q.size ≤ 1000000 → Calls Tryz.prog f #[.int .i64 k,.string q] w fun e w'=>∃ v:Value,e = .returned v ∧ Kd.R Kd.string 9 w' w.heap.size (fun _=>True) v (g k q) ∧ Below w.heap.size w w'):Sat Tryz.prog f (gNm g):=by
 intro dV rs oP hg Fz w vals bs ha hnd hap hfz
 unfold gNm at hg
 split at hg
 ·rename_i k q
  split at hg
  ·rename_i hq
   cases hg
   obtain ⟨e1,e2⟩:=sH (l:=[.int .i64 k,.str q]) ha
   subst e1;subst e2
   refine (h k q w hq).mono fun e w' ⟨v,he,hv,hb⟩=>?_
   subst he
   obtain ⟨-,inner,ho,hr⟩:=hv
   have hr':inner.length = (g k q).length * 1 ∧ ∀ j p,(g k q)[j]? = some p → (inner.drop (j * 1)).take 1 = [.string p]:=hr
   have hbl:∀ b ∈ Ev.oq v,w.heap.size ≤ b ∧ b < w'.heap.size:=fun b hb'=>by
    rcases ho.2 with ⟨rfl,_⟩ | ⟨y,cap,cur,rfl,hy,hh, -⟩
    ·exact absurd hb' (by simp [Ev.oq,Ev.blk])
    ·have e1:b = y:=by simpa [Ev.oq,Ev.blk] using hb'
     subst e1
     exact ⟨hy,(ai5.mp hh).1⟩
   have hsl:∃ A c,v = .slice A ((g k q).map aY).length c:=by
    rw [ahZ]
    rcases ho.2 with ⟨rfl,hn⟩ | ⟨y,cap,cur,rfl,_⟩
    ·exact ⟨none,0,by rw [hn]⟩
    ·exact ⟨_,_,rfl⟩
   obtain ⟨A,c,hv⟩:=hsl
   have hro:iP Fz w' 1 ((g k q).map aY) v (Ev.oq v):=⟨by decide,9,inner,A,c,hv,by rw [ahZ];exact ⟨ho.1,ho.2.imp id (fun ⟨y,cap,cur,h1,_,h3⟩=>⟨y,cap,cur,h1,aiy _,h3⟩)⟩,yJ hr',rfl⟩
   refine ⟨fun b=>Fz b ∨ (w.heap.size ≤ b ∧ b < w'.heap.size),[v],[],[],rfl,fun b h=>.inl h,fun b hb'=>?_,hb.size,fun b hb' _=>hb.block b hb',⟨hb.os,hb.output⟩,pz (l:=[.int .i64 k,.str q]),?_,by simp,fun b hb'=>by simp at hb'⟩
   ·rcases hb' with h1 | h1
    ·exact ⟨aiz (hfz b h1) hb.size,.inl h1⟩
    ·exact ⟨h1.2,.inr (.inr h1.1)⟩
   ·exact ⟨[],[],⟨hro.fz (fun b h=>.inl h) (fun b hb'=>.inr (hbl b hb')),rfl⟩,rfl,rfl⟩
  ·cases hg
 ·cases hg
end
section
open Go Go.RowKit Ev
abbrev AG := List AV → Option (List AV × List AV)
def Yc (g:ByteArray → SV):AG:=fun dV=>match dV with
 | [.one (.f (.str q))]=>if q.size ≤ 1000000 then some (BP [g q],BP [.str q]) else none
 | _=>none
def Yd (g:Int → ByteArray → SV):AG:=fun dV=>match dV with
 | [.one (.f (.int .i64 k)),.one (.f (.str q))]=>if q.size ≤ 1000000 then some (BP [g k q],BP [.int .i64 k,.str q]) else none
 | _=>none
theorem Il {f:FuncId} {g:ByteArray → SV} (h:∀ q w,q.size ≤ 1000000 → Calls Tryz.prog f #[.string q] w fun e w'=>e = .returned (encS (g q)) ∧ Below w.heap.size w w'):Sat Tryz.prog f (Yc g):=by
 refine Sat.uf fun dV r he=>?_
 unfold Yc at he
 split at he
 ·split at he
  ·cases he;rename_i q hq;exact ⟨[.str q],[g q],rfl,rfl,fun w=>h q w hq⟩
  ·cases he
 ·cases he
theorem Im {f:FuncId} {g:Int → ByteArray → SV} (h:∀ k q w,q.size ≤ 1000000 → Calls Tryz.prog f #[.int .i64 k,.string q] w fun e w'=>e = .returned (encS (g k q)) ∧ Below w.heap.size w w'):Sat Tryz.prog f (Yd g):=by
 refine Sat.uf fun dV r he=>?_
 unfold Yd at he
 split at he
 ·split at he
  ·cases he;rename_i k q hq;exact ⟨[.int .i64 k,.str q],[g k q],rfl,rfl,fun w=>h k q w hq⟩
  ·cases he
 ·cases he
def gS3 (g:ByteArray → Int → Int → Int × Bool):AG:=fun dV=>match dV with
 | [.one (.f (.str q)),.one (.f (.int .i64 a)),.one (.f (.int .i64 z))]=>if q.size ≤ 1000000 then some (BP [.int .i64 (g q a z).1,.bool (g q a z).2],BP [.str q,.int .i64 a,.int .i64 z]) else none
 | _=>none
theorem RH {f:FuncId} {g:ByteArray → Int → Int → Int × Bool} (h:∀ q a z w,q.size ≤ 1000000 → Calls Tryz.prog f #[.string q,.int .i64 a,.int .i64 z] w fun e w'=>e = .returned (.tuple #[.int .i64 (g q a z).1,.bool (g q a z).2]) ∧ Below w.heap.size w w'):Sat Tryz.prog f (gS3 g):=by
 refine Sat.uf fun dV r he=>?_
 unfold gS3 at he
 split at he
 ·split at he
  ·cases he;rename_i q a z hq;exact ⟨[.str q,.int .i64 a,.int .i64 z],[.int .i64 (g q a z).1,.bool (g q a z).2],rfl,rfl,fun w=>h q a z w hq⟩
  ·cases he
 ·cases he
def EC (s:ByteArray) (a z:Int):Int × Bool:=if ZQ.jO s a z then (ZQ.gP z.toNat s a,true) else (0,false)
def RI (q:ByteArray):ByteArray:=if B.jL q = true then B.vV q else ⟨#[]⟩
def yK : Th:=⟨B.jL,RI,ZQ.CS,ZQ.lw⟩
def nm₀ (k:Int) (q:ByteArray):List ByteArray:=(ZQ.prt k q).2.2.1
theorem Cw {α:Type} (sz:Nat) (own:Bool) (l:List α) (f:α → List FV) (hf:∀ x,(f x).length = sz) (h:l.length ≤ 1000000):LH sz own [vl (l.map f)] = some ([.one (if own then .own sz (l.map f) else .f (.sl (l.map f)))],[vl (l.map f)]):=by
 have h1:((l.map f).all fun r=>r.length == sz) = true:=by
  rw [aib];intro r hr;obtain ⟨x, -,rfl⟩:=aiq.mp hr;exact aiH.mpr (hf x)
 show (if (l.map f).length ≤ 1000000 ∧ _ then _ else _) = _
 rw [ahX ⟨by rw [ahZ];exact h,h1⟩]
theorem abf (l:List ByteArray) (h:l.length ≤ 1000000):LH 1 false [vl (l.map aY)] = some ([vl (l.map aY)],[vl (l.map aY)]):=Cw 1 false l aY (fun _=>rfl) h
theorem abg (l:List Qn) (h:l.length ≤ 1000000):LH 3 true [vl (l.map rQ)] = some ([.one (.own 3 (l.map rQ))],[vl (l.map rQ)]):=Cw 3 true l rQ (fun _=>rfl) h
end
section
open Go Ev
variable {nm : Int → ByteArray → List ByteArray}
def sub (d:Int) (h:nu):nu:=⟨h.s,h.left - d⟩
theorem abh {m:List Ne.Nt} {a:Int} {k:Qn} {y:Ne.Nt} (h:Ne.nof m a k = some y):y ∈ m ∧ jr a y.u = true ∧ Ne.old m k = some y:=by
 unfold Ne.nof at h
 cases ho:Ne.old m k with
 | none=>rw [ho] at h;cases h
 | some x =>
  rw [ho] at h
  dsimp only at h
  cases hl:jr a x.u with
  | false=>rw [hl] at h;cases h
  | true=>rw [hl] at h;cases h;exact ⟨(Ne.jD ho).2,hl,rfl⟩
end
section
attribute [local go_sem_proc] Nat.reduceAdd Nat.reduceMul Nat.reduceEqDiff Nat.reduceBEq Nat.reduceMod Nat.reduceDiv reduceCtorEq
attribute [local go_sem_proc ↓] reduceIte
open Go Ev
variable {ext : Env} {F n:Nat} {θ:Th} {nm:Int → ByteArray → List ByteArray} {gt:ByteArray → Int → Int → Int × Bool}
theorem Gj (l:List Pt) (m:Int) (hl:l.length ≤ 200000000000000) (hd:∀ x ∈ l,x.s.d.length ≤ 200000000000000) (hF:200000000000001 ≤ F):G ext F (n + 2) 10 [vl (l.map rP),vi m] = some ([vi (if kF l = true ∧ (l.length:Int) ≤ m then 1 else 0)],[vl (l.map rP),vi m]):=by
 refine cK (cf:=c10) rfl ?_
 dsimp only [c10,ak,bU,aR,bD,aD,bq,dB,dU,cB,aC,bP,bV,bI,aN];simp only [go_sem]
 refine jH l.length (fun i=>⟨[(0,PV.c (CV.one (PL.f (FV.sl (l.map rP))))),(1,PV.c (CV.one (PL.f (FV.int .i64 m)))),(5,PV.c (CV.one (PL.f (FV.int .i64 i))))],[]⟩) (fun i=>kF (l.take i) = true) (by omega) rfl (by simp [kF]) (fun i hi hP=>?_) (fun hP=>?_)
 ·obtain ⟨x,hx,hlt,ht,h0⟩:=at_ hi
  have hn:=nx hi (aij hl (by decide))
  have hs:=fun n=>LM (ext:=ext) (F:=F) (n:=n) x.s.q x.s.t x.s.c x.s.d x.s.ttl (hd x (ai2 hx)) hF
  cases h1:mX x.s.q x.s.d with
  | false =>
   simp only [ahZ,ah3,hlt,hx,ht,h0,rP,hs,h1,go_sem]
   rw [HV hx (by rw [h1];rfl)];rfl
  | true =>
   by_cases h3:x.k.q.size ≤ 300
   ·have h3':decide ((300:Int) < (x.k.q.size:Int)) = false:=ah2 (by omega)
    simp only [ahZ,ah3,hlt,hx,ht,h0,hn,rP,hs,h1,h3',go_sem]
    rw [Jg hx,hP,h1,ah0 h3];rfl
   ·have h3':decide ((300:Int) < (x.k.q.size:Int)) = true:=ah0 (by omega)
    simp only [ahZ,ah3,hlt,hx,ht,h0,hn,rP,hs,h1,h3',go_sem]
    rw [HV hx (by rw [h1,ah2 h3];rfl)];rfl
 ·have hd:=@end_ _ l
  rw [aiC] at hP
  by_cases hm:(l.length:Int) ≤ m
  ·have hm':decide (m < (l.length:Int)) = false:=ah2 (by omega)
   simp only [ahZ,hd,hm',go_sem]
   rw [ahX ⟨hP,hm⟩]
  ·have hm':decide (m < (l.length:Int)) = true:=ah0 (by omega)
   simp only [ahZ,hd,hm',go_sem]
   rw [ahY (fun h=>hm h.2)]
theorem mI {rb:Bool} (T:θ.CU rb ext) {rg:Bool} (O:Ne.uZ rg gt ext) (C:lq ext) (Q:Aa θ ext) (hF:200000000000001 ≤ F) (l:List Pt) (hl:l.length ≤ 1000) (hf:kF l = true):G ext F (n + 7) 12 [vl (l.map rP)] = some ([(mD θ gt l).1.v,(mD θ gt l).2.v],[vl (l.map rP)]):=by
 refine cK (cf:=c12) rfl ?_
 have hn:=fun n=>L9 (ext:=ext) (F:=F) (n:=n) 50
 have hm:=fun n=>Ne.Hr (ext:=ext) (F:=F) (n:=n) 50
 rw [ahY (by decide),DZ] at hn
 rw [ahY (by decide),Ne.D6] at hm
 dsimp only [c12,ak,bU,aR,bD,aD,bq,dB,dU,cB,aC,bP,bV,bI,aN];simp only [hn,hm,go_sem]
 refine jH l.length (fun i=>⟨[(0,PV.c (CV.one (PL.f (FV.sl (List.map rP l))))),(4,PV.c (CV.one (PL.ptr 160200 0))),(5,PV.c (CV.one (PL.ptr 180200 0))),(6,PV.c (CV.one (PL.f (FV.int IntKind.i64 i))))],[(160200,Ob.dM [PL.f (FV.int IntKind.i64 (mD θ gt (l.take i)).1.room),PL.mp 160204,PL.f (FV.sl ((mD θ gt (l.take i)).1.o.map rQ)),PL.f (FV.int IntKind.i64 (mD θ gt (l.take i)).1.ch)]),(160204,Ob.map kJ ((mD θ gt (l.take i)).1.m.map ent)),(180200,Ob.dM [PL.f (FV.int IntKind.i64 (mD θ gt (l.take i)).2.room),PL.mp 180204,PL.f (FV.sl ((mD θ gt (l.take i)).2.o.map rQ)),PL.f (FV.int IntKind.i64 (mD θ gt (l.take i)).2.ch)]),(180204,Ob.map Ne.kJ ((mD θ gt (l.take i)).2.m.map Ne.ent))]⟩) (fun i=>True) (by omega) rfl trivial (fun i hi hP=>?_) (fun hP=>?_)
 ·obtain ⟨x,hx,hlt,ht,h0⟩:=at_ hi
  have hn:=nx hi (aij hl (by decide))
  have hI:=fi (θ:=θ) (gt:=gt) l i (by omega)
  rw [xR hx]
  generalize mD θ gt (l.take i) = a at hI ⊢
  obtain ⟨s,m⟩:=a
  have hz:=sM hf (ai2 hx)
  have hsr:=hI.s.r
  have hsc:=hI.s.c
  have hso:=hI.s.o
  have hsm:=hI.s.m
  have hnr:=hI.n.r
  have hnc:=hI.n.c
  have hno:=hI.n.o
  simp only at hsr hsc hso hsm hnr hnc hno
  unfold qZ
  by_cases hr:0 < x.r
  ·rw [ahX hr]
   have hr':decide (0 < x.r) = true:=ah0 hr
   have p1:=fun n=>Mc (F:=F) (n:=n) Q s x.now x.s x.r (by omega) (by omega) (by omega) (by omega) hz.2.1 hz.2.2.1 hz.2.2.2
   simp only [Sv.v,Se.v,oF] at p1
   simp only [ahZ,ah3,hlt,hx,ht,h0,hn,rP,hr',p1,go_sem]
   done
  ·rw [ahY hr]
   have hr':decide (0 < x.r) = false:=ah2 hr
   have p1:=fun n=>Ne.Ht (F:=F) (n:=n) T O C m x.now x.k (decide (x.r < 0)) x.s hF (by omega) (by omega) (by omega) hz.1 hz.2.1 hz.2.2.1 hz.2.2.2
   simp only [Ne.Nv.v,Se.v,oF] at p1
   simp only [ahZ,ah3,hlt,hx,ht,h0,hn,rP,hr',p1,go_sem]
   done
 ·have hd:=@end_ _ l
  rw [aiC]
  simp only [ahZ,hd,go_sem]
  done
end
section
attribute [local go_sem_proc] Nat.reduceAdd Nat.reduceMul Nat.reduceEqDiff Nat.reduceBEq Nat.reduceMod Nat.reduceDiv reduceCtorEq
attribute [local go_sem_proc ↓] reduceIte
open Go Ev
variable {ext : Env} {F n:Nat} {θ:Th} {nm:Int → ByteArray → List ByteArray} {gt:ByteArray → Int → Int → Int × Bool}
theorem NQ {rb:Bool} (T:θ.CU rb ext) {rg:Bool} (O:Ne.uZ rg gt ext) (C:lq ext) (Q:Aa θ ext) (hF:200000000000001 ≤ F) (l:List Pt) (hl:l.length ≤ 1000) (hf:kF l = true):G ext F (n + 7) 12 [.one (.own 10 (l.map rP))] = some ([(mD θ gt l).1.v,(mD θ gt l).2.v],[.one (.own 10 (l.map rP))]):=by
 refine cK (cf:=c12) rfl ?_
 have hn:=fun n=>L9 (ext:=ext) (F:=F) (n:=n) 50
 have hm:=fun n=>Ne.Hr (ext:=ext) (F:=F) (n:=n) 50
 rw [ahY (by decide),DZ] at hn
 rw [ahY (by decide),Ne.D6] at hm
 dsimp only [c12,ak,bU,aR,bD,aD,bq,dB,dU,cB,aC,bP,bV,bI,aN];simp only [hn,hm,go_sem]
 refine jH l.length (fun i=>⟨[(0,PV.c (CV.one (PL.own 30201 (List.map rP l).length))),(4,PV.c (CV.one (PL.ptr 160200 0))),(5,PV.c (CV.one (PL.ptr 180200 0))),(6,PV.c (CV.one (PL.f (FV.int IntKind.i64 i))))],[(30201,Ob.row 10 (List.map rP l)),(160200,Ob.dM [PL.f (FV.int IntKind.i64 (mD θ gt (l.take i)).1.room),PL.mp 160204,PL.f (FV.sl ((mD θ gt (l.take i)).1.o.map rQ)),PL.f (FV.int IntKind.i64 (mD θ gt (l.take i)).1.ch)]),(160204,Ob.map kJ ((mD θ gt (l.take i)).1.m.map ent)),(180200,Ob.dM [PL.f (FV.int IntKind.i64 (mD θ gt (l.take i)).2.room),PL.mp 180204,PL.f (FV.sl ((mD θ gt (l.take i)).2.o.map rQ)),PL.f (FV.int IntKind.i64 (mD θ gt (l.take i)).2.ch)]),(180204,Ob.map Ne.kJ ((mD θ gt (l.take i)).2.m.map Ne.ent))]⟩) (fun i=>True) (by omega) rfl trivial (fun i hi hP=>?_) (fun hP=>?_)
 ·obtain ⟨x,hx,hlt,ht,h0⟩:=at_ hi
  have hn:=nx hi (aij hl (by decide))
  have hI:=fi (θ:=θ) (gt:=gt) l i (by omega)
  rw [xR hx]
  generalize mD θ gt (l.take i) = a at hI ⊢
  obtain ⟨s,m⟩:=a
  have hz:=sM hf (ai2 hx)
  have hsr:=hI.s.r
  have hsc:=hI.s.c
  have hso:=hI.s.o
  have hsm:=hI.s.m
  have hnr:=hI.n.r
  have hnc:=hI.n.c
  have hno:=hI.n.o
  simp only at hsr hsc hso hsm hnr hnc hno
  unfold qZ
  by_cases hr:0 < x.r
  ·rw [ahX hr]
   have hr':decide (0 < x.r) = true:=ah0 hr
   have p1:=fun n=>Mc (F:=F) (n:=n) Q s x.now x.s x.r (by omega) (by omega) (by omega) (by omega) hz.2.1 hz.2.2.1 hz.2.2.2
   simp only [Sv.v,Se.v,oF] at p1
   simp only [ahZ,ah3,hlt,hx,ht,h0,hn,rP,hr',p1,go_sem]
   omega
  ·rw [ahY hr]
   have hr':decide (0 < x.r) = false:=ah2 hr
   have p1:=fun n=>Ne.Ht (F:=F) (n:=n) T O C m x.now x.k (decide (x.r < 0)) x.s hF (by omega) (by omega) (by omega) hz.1 hz.2.1 hz.2.2.1 hz.2.2.2
   simp only [Ne.Nv.v,Se.v,oF] at p1
   simp only [ahZ,ah3,hlt,hx,ht,h0,hn,rP,hr',p1,go_sem]
   omega
 ·have hd:=@end_ _ l
  rw [aiC]
  simp only [ahZ,hd,go_sem]
  done
end
section
open Go Ev
variable {ext : Env} {F:Nat} {θ:Th} {nm:Int → ByteArray → List ByteArray} {gt:ByteArray → Int → Int → Int × Bool}
theorem afJ (C:lq ext) (s:Sv) (now:Int) (k:Qn) (hd:∀ x ∈ s.m,x.d.length ≤ 1000000):G ext F 40 43 [s.v,vi now,k.v] = some ([(bA s now k).1.v,vb (bA s now k).2],[s.v,vi now,k.v]):=by
 have h:=Hq (ext:=ext) (F:=F) (n:=40 - 3) C s now k hd
 rw [show 40 - 3 + 3 = 40 from rfl] at h
 exact h
theorem afK {rm:Bool} (O:xP rm nm ext) (C:lq ext) (hF:200000000000001 ≤ F) (s:Sv) (m:Ne.Nv) (now:Int) (q:Qn) (hw:FW (s,m)):G ext F 40 14 [s.v,m.v,vi now,q.v] = some ([(wz nm (bA s now) (Ne.fE m now) now q).v],[s.v,m.v,vi now,q.v]):=by
 have h:=Jf (ext:=ext) (F:=F) (n:=40 - 6) O C hF s m now q hw.hd hw.hu hw.hy hw.hd2 hw.hu2
 rw [show 40 - 6 + 6 = 40 from rfl] at h
 exact h
theorem afL {rb:Bool} (T:θ.CU rb ext) {rg:Bool} (O:Ne.uZ rg gt ext) (C:lq ext) (Q:Aa θ ext) (hF:200000000000001 ≤ F) (l:List Pt) (hl:l.length ≤ 1000) (hf:kF l = true):G ext F 40 12 [vl (l.map rP)] = some ([(mD θ gt l).1.v,(mD θ gt l).2.v],[vl (l.map rP)]):=by
 have h:=mI (ext:=ext) (F:=F) (n:=40 - 7) T O C Q hF l hl hf
 rw [show 40 - 7 + 7 = 40 from rfl] at h
 exact h
theorem afM {rb:Bool} (T:θ.CU rb ext) {rg:Bool} (O:Ne.uZ rg gt ext) (C:lq ext) (Q:Aa θ ext) (hF:200000000000001 ≤ F) (l:List Pt) (hl:l.length ≤ 1000) (hf:kF l = true):G ext F 40 12 [.one (.own 10 (l.map rP))] = some ([(mD θ gt l).1.v,(mD θ gt l).2.v],[.one (.own 10 (l.map rP))]):=by
 have h:=NQ (ext:=ext) (F:=F) (n:=40 - 7) T O C Q hF l hl hf
 rw [show 40 - 7 + 7 = 40 from rfl] at h
 exact h
theorem afN {rb:Bool} (T:θ.CU rb ext) (q:ByteArray) (h:q.size ≤ 1000000):G ext F 40 68 [vs q] = some ([vs (θ.low q)],[vs q]):=LU (n:=39) T q h
theorem afO {rm:Bool} (M:xP rm nm ext) (k:Int) (q:ByteArray) (h:q.size ≤ 1000000):G ext F 40 81 [vi k,vs q] = some ([vl ((nm k q).map aY)],[vi k,vs q]):=Tq (n:=39) M k q h
theorem afP (C:lq ext) (l:List ByteArray) (h:l.length ≤ 1000000):G ext F 40 72 [vl (l.map aY)] = some ([vl (l.map aY)],[vl (l.map aY)]):=LZ (n:=39) C l h
theorem afQ (l:List Pt) (m:Int) (hl:l.length ≤ 200000000000000) (hd:∀ x ∈ l,x.s.d.length ≤ 200000000000000) (hF:200000000000001 ≤ F):G ext F 40 10 [vl (l.map rP),vi m] = some ([vi (if kF l = true ∧ (l.length:Int) ≤ m then 1 else 0)],[vl (l.map rP),vi m]):=by
 have h:=Gj (ext:=ext) (F:=F) (n:=40 - 2) l m hl hd hF
 rw [show 40 - 2 + 2 = 40 from rfl] at h
 exact h
end
end Go.Proofs.YtfokaoeinpnagaaGreat.Kc
namespace Go.Proofs.YtfokaoeinpnagaaGreat.Kd
section
open Go Go.RowKit Ev Kc
def gU1 (g:ByteArray → ByteArray × Bool):AG:=fun dV=>match dV with
 | [.one (.f (.str q))]=>if q.size ≤ 1000000 then some (BP [.str (g q).1,.bool (g q).2],BP [.str q]) else none
 | _=>none
theorem RJ {f:FuncId} {g:ByteArray → ByteArray × Bool} (h:∀ q w,q.size ≤ 1000000 → Calls Tryz.prog f #[.string q] w fun e w'=>e = .returned (.tuple #[.string (g q).1,.bool (g q).2]) ∧ Below w.heap.size w w'):Sat Tryz.prog f (gU1 g):=by
 refine Sat.uf fun dV r he=>?_
 unfold gU1 at he
 split at he
 ·split at he
  ·cases he;rename_i q hq;exact ⟨[.str q],[.str (g q).1,.bool (g q).2],rfl,rfl,fun w=>h q w hq⟩
  ·cases he
 ·cases he
def kW : List (FuncId × AG):=[(72,LH 1 false),(115,LH 3 true),(109,Yc fun q=>.bool (B.jL q)),(68,Yc fun q=>.str (RI q)),(71,gU1 B.up),(128,Yd fun k q=>.bool (ZQ.CS k q)),(132,Yd fun k q=>.str (ZQ.lw k q)),(81,gNm nm₀),(117,gS3 EC)]
theorem AA : ∀ p ∈ kW,Sat Tryz.prog p.1 p.2:=by
 have hk:∀ q:ByteArray,q.size ≤ 1000000 → q.size ≤ 1000000000:=fun q h=>by omega
 intro p hp
 simp only [kW,aif,ajF,or_false] at hp
 rcases hp with rfl | rfl | rfl | rfl | rfl | rfl | rfl | rfl | rfl
 ·exact Qi
 ·exact Qj
 ·exact Il fun q w hq=>ZQ.fH.calls 600 q _ w (ZQ.yx 600 (ah1 _) q (hk q hq))
 ·exact Il fun q w hq=>ZQ.l9.calls 600 q _ w (ZQ.vJ 600 (ah1 _) q (hk q hq))
 ·exact RJ fun q w hq=>ZQ.tL.calls 600 q _ _ w (ZQ.aaP 600 (ah1 _) q (hk q hq))
 ·exact Im fun k q w hq=>ZQ.iJ.calls _ k q _ w (ZQ.Ay (ZQ.K0 + 20) (by omega) k q)
 ·exact Im fun k q w hq=>ZQ.d9.calls _ k q _ w (ZQ.RF (ZQ.K0 + 20) (by omega) k q)
 ·exact RG fun k q w hq=>ZQ.mh.calls _ k q _ w (ZQ.NP (ZQ.K0 + 20) (by omega) k q)
 ·exact RH fun q a z w hq=>(ZQ.aH.calls 9 q a z _ _ w (ZQ.get_eq 9 (ah1 _) q a z (by omega))).mono fun e w' hh=>⟨hh.1,hh.2.below⟩
theorem vK : ∀ p ∈ kW,∃ fn,Tryz.prog.funcs[p.1]? = some fn ∧ (fn.name == "runtime.NumGoroutine") = false ∧ fn.body.isSome = true:=by
 intro p hp
 simp only [kW,aif,ajF,or_false] at hp
 rcases hp with rfl | rfl | rfl | rfl | rfl | rfl | rfl | rfl | rfl
 ·exact ⟨Tryz.f72,by kernel_rfl,by kernel_rfl,by kernel_rfl⟩
 ·exact ⟨Tryz.f115,by kernel_rfl,by kernel_rfl,by kernel_rfl⟩
 ·exact ⟨Tryz.f109,by kernel_rfl,by kernel_rfl,by kernel_rfl⟩
 ·exact ⟨Tryz.f68,by kernel_rfl,by kernel_rfl,by kernel_rfl⟩
 ·exact ⟨Tryz.f71,by kernel_rfl,by kernel_rfl,by kernel_rfl⟩
 ·exact ⟨Tryz.f128,by kernel_rfl,by kernel_rfl,by kernel_rfl⟩
 ·exact ⟨Tryz.f132,by kernel_rfl,by kernel_rfl,by kernel_rfl⟩
 ·exact ⟨Tryz.f81,by kernel_rfl,by kernel_rfl,by kernel_rfl⟩
 ·exact ⟨Tryz.f117,by kernel_rfl,by kernel_rfl,by kernel_rfl⟩
def yL : Env:=jd kW
theorem NR : gL Tryz.prog yL:=sI AA
theorem Gn : dG Tryz.prog yL:=nO vK
noncomputable def Cx : List (FuncId × AG):=(50,vo yL 200000000000001 9) :: kW
theorem RL : ∀ p ∈ Cx,Sat Tryz.prog p.1 p.2:=by
 intro p hp
 rcases aif.mp hp with rfl | hp
 ·exact QK NR Gn _ _
 ·exact AA p hp
theorem JN : ∀ p ∈ Cx,∃ fn,Tryz.prog.funcs[p.1]? = some fn ∧ (fn.name == "runtime.NumGoroutine") = false ∧ fn.body.isSome = true:=by
 intro p hp
 rcases aif.mp hp with rfl | hp
 ·exact ⟨Tryz.f50,by kernel_rfl,by kernel_rfl,by kernel_rfl⟩
 ·exact vK p hp
noncomputable def kP : Env:=jd Cx
theorem ED : gL Tryz.prog kP:=sI RL
theorem yM : dG Tryz.prog kP:=nO JN
theorem WI : yK.CU false yL:=by
 constructor <;> intros <;> simp_all [yL,kW,jd,Yc,Yd,BP,Ti,yK,vs,vb,vi]
theorem Cy : yK.CU false kP:=by
 constructor <;> intros <;> simp_all [kP,Cx,kW,jd,Yc,Yd,BP,Ti,yK,vs,vb,vi]
theorem WJ : lq yL:=⟨fun l h=>abg l h,fun l h=>abf l h⟩
theorem tT : lq kP:=⟨fun l h=>abg l h,fun l h=>abf l h⟩
theorem AB (dV:List AV):kP 50 dV = vo yL 200000000000001 (0 + 9) dV:=by
 unfold kP Cx jd;rw [ahX rfl]
theorem EF : Aa yK kP where
 p0 now x r:=by rw [AB];exact MJ now x r
 p1 s now x r h1 h2 h3 _ h4 h5 h6:=by rw [AB];exact MK WI WJ s now x r (ah1 _) h1 h2 h3 h4 h5 h6
theorem Io : Ne.uZ false EC kP:=by
 constructor
 ·intros;simp_all [kP,Cx,kW,jd,gS3,BP,Ti,vs,vb,vi]
 ·intros;simp_all [kP,Cx,kW,jd,gS3,BP,Ti,vs,vb,vi]
 ·intro s a z
  unfold EC
  split
  ·exact (ZQ.nU _ _ _).1
  ·exact aiU _
theorem Ip : xP false nm₀ kP:=by
 constructor <;> intros <;> simp_all [kP,Cx,kW,jd,gNm,vs,vi]
noncomputable abbrev Cz : List (FuncId × AG):=[(125,frG),(65,LH 5 true)]
theorem RN : ∀ p ∈ Cz,Sat Tryz.prog p.1 p.2:=by
 intro p hp
 simp only [aif,ajF,or_false] at hp
 rcases hp with rfl | rfl
 ·exact QJ
 ·exact QH
theorem JO : ∀ p ∈ Cz,∃ fn,Tryz.prog.funcs[p.1]? = some fn ∧ (fn.name == "runtime.NumGoroutine") = false ∧ fn.body.isSome = true:=by
 intro p hp
 simp only [aif,ajF,or_false] at hp
 rcases hp with rfl | rfl
 ·exact ⟨Tryz.f125,by kernel_rfl,by kernel_rfl,by kernel_rfl⟩
 ·exact ⟨Tryz.f65,by kernel_rfl,by kernel_rfl,by kernel_rfl⟩
noncomputable def zC : Env:=vk Cz (G kP 200000000000001 40)
theorem RO : gL Tryz.prog zC:=MF RN (zY mixed Kc.ents ED yM 40).1
theorem JQ : dG Tryz.prog zC:=FP JO (zY mixed Kc.ents ED yM 40).2
theorem e2 {f:FuncId} (h1:125 ≠ f) (h2:65 ≠ f) (dV:List AV):zC f dV = G kP 200000000000001 40 f dV:=by
 unfold zC vk
 rw [show jd Cz f dV = none from by unfold Cz jd;rw [ahY h1];unfold jd;rw [ahY h2];rfl]
theorem e3 {f:FuncId} (h1:125 ≠ f) (h2:65 ≠ f) (h3:Ev.look Kc.oz f = none) (dV:List AV):zC f dV = kP f dV:=(e2 h1 h2 dV).trans (aiD (gN h3) _)
theorem abj (k:Int) (q:ByteArray):(nm₀ k q).length ≤ 2 ∧ ∀ x ∈ nm₀ k q,x.size ≤ 255:=⟨ZQ.uQ.2,fun x hx=>by obtain ⟨l, -, -,h⟩:=B.wC.mp (ZQ.uQ.1 x hx);exact h⟩
theorem TN : Sk yK nm₀ EC B.up zC where
 pk s now q h:=(e2 (by decide) (by decide) _).trans (afJ tT s now q h)
 fw s m now q h:=(e2 (by decide) (by decide) _).trans (afK Ip tT (ah1 _) s m now q h)
 lo q h:=(e2 (by decide) (by decide) _).trans (afN Cy q h)
 xup q h:=(e3 (by decide) (by decide) rfl _).trans (by simp [kP,Cx,kW,jd,gU1,BP,Ti,h,vs,vb])
 xnm k q h:=(e2 (by decide) (by decide) _).trans (afO Ip k q h)
 cs l h:=(e2 (by decide) (by decide) _).trans (afP tT l h)
 cg l h:=by
  have h1:jd Cz 65 [vl (l.map rG)] = some ([.one (.own 5 (l.map rG))],[vl (l.map rG)]):=by
   unfold Cz jd;rw [ahY (by decide)];unfold jd;rw [ahX rfl];exact Cw 5 true l rG (fun _=>rfl) h
  unfold zC vk
  rw [h1]
 fr l n names h1 h2:=by
  have h3:jd Cz 125 [.agg [.own 5 (l.map rG),.f (.int .i64 n)],vl (names.map aY)] = some ([vs (qC l names).1,vb (qC l names).2],[.agg [.own 5 (l.map rG),.f (.int .i64 n)],vl (names.map aY)]):=by
   unfold Cz jd;rw [ahX rfl];exact VX l n names h1 h2
  unfold zC vk
  rw [h3]
 fl l h1 h2:=(e2 (by decide) (by decide) _).trans (afL Cy Io tT EF (ah1 _) l h1 h2)
 fo l h1 h2:=(e2 (by decide) (by decide) _).trans (afM Cy Io tT EF (ah1 _) l h1 h2)
 nl:=abj
 us q h:=by
  obtain ⟨x,l,e,hok, -,h2⟩:=B.QX h
  rw [h2,e,B.pI,aiw,aiw,B.nT];omega
 ls q:=by
  show (RI q).size ≤ q.size
  unfold RI
  split
  ·exact Nat.le_of_eq (ZQ.Ap q)
  ·exact aiy _
end
section
attribute [local go_sem_proc] Nat.reduceAdd Nat.reduceMul Nat.reduceEqDiff Nat.reduceBEq Nat.reduceMod Nat.reduceDiv reduceCtorEq
attribute [local go_sem_proc ↓] reduceIte
open Go Ev Kc
variable {θ : Th} {nm:Int → ByteArray → List ByteArray} {gt:ByteArray → Int → Int → Int × Bool} {up:ByteArray → ByteArray × Bool} {ext:Env} {F n:Nat}
def adO (w:Wd) (l:List ByteArray) (b:Bool) (i:Nat) (a:List ByteArray × List ByteArray):St:=match b with
 | false=>⟨[(2,PV.c (CV.one (PL.ptr 60000 0))),(6,PV.c (CV.one (PL.own 140000 a.1.length))),(7,PV.c (CV.one (PL.own 160000 a.2.length))),(14,PV.c (CV.one (PL.f (FV.sl (l.map aY))))),(15,PV.c (CV.one (PL.f (FV.int .i64 (l.length:Nat))))),(16,PV.c (CV.one (PL.f (FV.int .i64 i))))],[(20201,Ob.dM [PL.f (FV.int IntKind.i64 w.s.room),PL.mp 20205,PL.f (FV.sl (List.map rQ w.s.o)),PL.f (FV.int IntKind.i64 w.s.ch)]),(20205,Ob.map kJ (List.map ent w.s.m)),(20401,Ob.dM [PL.f (FV.int IntKind.i64 w.m.room),PL.mp 20405,PL.f (FV.sl (List.map rQ w.m.o)),PL.f (FV.int IntKind.i64 w.m.ch)]),(20405,Ob.map Ne.kJ (List.map Ne.ent w.m.m)),(60000,Ob.dM [PL.ptr 20201 0,PL.ptr 20401 0,PL.f (FV.int IntKind.i64 w.now),PL.f (FV.sl (List.map aY w.roots)),PL.f (FV.int IntKind.i64 w.work)]),(140000,Ob.row 1 (a.1.map aY)),(160000,Ob.row 1 (a.2.map aY))]⟩
 | true=>⟨[(2,PV.c (CV.one (PL.ptr 60000 0))),(6,PV.c (CV.one (PL.own 140000 a.1.length))),(7,PV.c (CV.one (PL.own 160000 a.2.length))),(14,PV.c (CV.one (PL.f (FV.sl (l.map aY))))),(15,PV.c (CV.one (PL.f (FV.int .i64 (l.length:Nat))))),(16,PV.c (CV.one (PL.f (FV.int .i64 i))))],[(20201,Ob.dM [PL.f (FV.int IntKind.i64 w.s.room),PL.mp 630004,PL.f (FV.sl (List.map rQ w.s.o)),PL.f (FV.int IntKind.i64 w.s.ch)]),(20401,Ob.dM [PL.f (FV.int IntKind.i64 w.m.room),PL.mp 630204,PL.f (FV.sl (List.map rQ w.m.o)),PL.f (FV.int IntKind.i64 w.m.ch)]),(60000,Ob.dM [PL.ptr 20201 0,PL.ptr 20401 0,PL.f (FV.int IntKind.i64 w.now),PL.f (FV.sl (List.map aY w.roots)),PL.f (FV.int IntKind.i64 w.work)]),(140000,Ob.row 1 (a.1.map aY)),(160000,Ob.row 1 (a.2.map aY)),(630004,Ob.map kJ (List.map ent w.s.m)),(630204,Ob.map Ne.kJ (List.map Ne.ent w.m.m))]⟩
theorem TP (w:Wd) (l:List ByteArray) (i:Nat) (a:List ByteArray × List ByteArray):adO w l false i a = ⟨[(2,PV.c (CV.one (PL.ptr 60000 0))),(6,PV.c (CV.one (PL.own 140000 a.1.length))),(7,PV.c (CV.one (PL.own 160000 a.2.length))),(14,PV.c (CV.one (PL.f (FV.sl (l.map aY))))),(15,PV.c (CV.one (PL.f (FV.int .i64 (l.length:Nat))))),(16,PV.c (CV.one (PL.f (FV.int .i64 i))))],[(20201,Ob.dM [PL.f (FV.int IntKind.i64 w.s.room),PL.mp 20205,PL.f (FV.sl (List.map rQ w.s.o)),PL.f (FV.int IntKind.i64 w.s.ch)]),(20205,Ob.map kJ (List.map ent w.s.m)),(20401,Ob.dM [PL.f (FV.int IntKind.i64 w.m.room),PL.mp 20405,PL.f (FV.sl (List.map rQ w.m.o)),PL.f (FV.int IntKind.i64 w.m.ch)]),(20405,Ob.map Ne.kJ (List.map Ne.ent w.m.m)),(60000,Ob.dM [PL.ptr 20201 0,PL.ptr 20401 0,PL.f (FV.int IntKind.i64 w.now),PL.f (FV.sl (List.map aY w.roots)),PL.f (FV.int IntKind.i64 w.work)]),(140000,Ob.row 1 (a.1.map aY)),(160000,Ob.row 1 (a.2.map aY))]⟩:=rfl
theorem TQ (w:Wd) (l:List ByteArray) (i:Nat) (a:List ByteArray × List ByteArray):adO w l true i a = ⟨[(2,PV.c (CV.one (PL.ptr 60000 0))),(6,PV.c (CV.one (PL.own 140000 a.1.length))),(7,PV.c (CV.one (PL.own 160000 a.2.length))),(14,PV.c (CV.one (PL.f (FV.sl (l.map aY))))),(15,PV.c (CV.one (PL.f (FV.int .i64 (l.length:Nat))))),(16,PV.c (CV.one (PL.f (FV.int .i64 i))))],[(20201,Ob.dM [PL.f (FV.int IntKind.i64 w.s.room),PL.mp 630004,PL.f (FV.sl (List.map rQ w.s.o)),PL.f (FV.int IntKind.i64 w.s.ch)]),(20401,Ob.dM [PL.f (FV.int IntKind.i64 w.m.room),PL.mp 630204,PL.f (FV.sl (List.map rQ w.m.o)),PL.f (FV.int IntKind.i64 w.m.ch)]),(60000,Ob.dM [PL.ptr 20201 0,PL.ptr 20401 0,PL.f (FV.int IntKind.i64 w.now),PL.f (FV.sl (List.map aY w.roots)),PL.f (FV.int IntKind.i64 w.work)]),(140000,Ob.row 1 (a.1.map aY)),(160000,Ob.row 1 (a.2.map aY)),(630004,Ob.map kJ (List.map ent w.s.m)),(630204,Ob.map Ne.kJ (List.map Ne.ent w.m.m))]⟩:=rfl
def adI (w:Wd) (l:List ByteArray) (b:Bool) (i:Nat) (a:List ByteArray × List ByteArray) (ns:List ByteArray) (j:Nat):St:=match b with
 | false=>⟨[(2,PV.c (CV.one (PL.ptr 60000 0))),(6,PV.c (CV.one (PL.own 140000 a.1.length))),(7,PV.c (CV.one (PL.own 160000 a.2.length))),(14,PV.c (CV.one (PL.f (FV.sl (l.map aY))))),(15,PV.c (CV.one (PL.f (FV.int .i64 (l.length:Nat))))),(16,PV.c (CV.one (PL.f (FV.int .i64 i)))),(21,PV.c (CV.one (PL.f (FV.sl (ns.map aY))))),(22,PV.c (CV.one (PL.f (FV.int .i64 (ns.length:Nat))))),(23,PV.c (CV.one (PL.f (FV.int .i64 j))))],[(20201,Ob.dM [PL.f (FV.int IntKind.i64 w.s.room),PL.mp 20205,PL.f (FV.sl (List.map rQ w.s.o)),PL.f (FV.int IntKind.i64 w.s.ch)]),(20205,Ob.map kJ (List.map ent w.s.m)),(20401,Ob.dM [PL.f (FV.int IntKind.i64 w.m.room),PL.mp 20405,PL.f (FV.sl (List.map rQ w.m.o)),PL.f (FV.int IntKind.i64 w.m.ch)]),(20405,Ob.map Ne.kJ (List.map Ne.ent w.m.m)),(60000,Ob.dM [PL.ptr 20201 0,PL.ptr 20401 0,PL.f (FV.int IntKind.i64 w.now),PL.f (FV.sl (List.map aY w.roots)),PL.f (FV.int IntKind.i64 w.work)]),(140000,Ob.row 1 (a.1.map aY)),(160000,Ob.row 1 (a.2.map aY))]⟩
 | true=>⟨[(2,PV.c (CV.one (PL.ptr 60000 0))),(6,PV.c (CV.one (PL.own 140000 a.1.length))),(7,PV.c (CV.one (PL.own 160000 a.2.length))),(14,PV.c (CV.one (PL.f (FV.sl (l.map aY))))),(15,PV.c (CV.one (PL.f (FV.int .i64 (l.length:Nat))))),(16,PV.c (CV.one (PL.f (FV.int .i64 i)))),(21,PV.c (CV.one (PL.f (FV.sl (ns.map aY))))),(22,PV.c (CV.one (PL.f (FV.int .i64 (ns.length:Nat))))),(23,PV.c (CV.one (PL.f (FV.int .i64 j))))],[(20201,Ob.dM [PL.f (FV.int IntKind.i64 w.s.room),PL.mp 630004,PL.f (FV.sl (List.map rQ w.s.o)),PL.f (FV.int IntKind.i64 w.s.ch)]),(20401,Ob.dM [PL.f (FV.int IntKind.i64 w.m.room),PL.mp 630204,PL.f (FV.sl (List.map rQ w.m.o)),PL.f (FV.int IntKind.i64 w.m.ch)]),(60000,Ob.dM [PL.ptr 20201 0,PL.ptr 20401 0,PL.f (FV.int IntKind.i64 w.now),PL.f (FV.sl (List.map aY w.roots)),PL.f (FV.int IntKind.i64 w.work)]),(140000,Ob.row 1 (a.1.map aY)),(160000,Ob.row 1 (a.2.map aY)),(630004,Ob.map kJ (List.map ent w.s.m)),(630204,Ob.map Ne.kJ (List.map Ne.ent w.m.m))]⟩
theorem AJ (w:Wd) (l:List ByteArray) (i:Nat) (a:List ByteArray × List ByteArray) (ns:List ByteArray) (j:Nat):adI w l false i a ns j = ⟨[(2,PV.c (CV.one (PL.ptr 60000 0))),(6,PV.c (CV.one (PL.own 140000 a.1.length))),(7,PV.c (CV.one (PL.own 160000 a.2.length))),(14,PV.c (CV.one (PL.f (FV.sl (l.map aY))))),(15,PV.c (CV.one (PL.f (FV.int .i64 (l.length:Nat))))),(16,PV.c (CV.one (PL.f (FV.int .i64 i)))),(21,PV.c (CV.one (PL.f (FV.sl (ns.map aY))))),(22,PV.c (CV.one (PL.f (FV.int .i64 (ns.length:Nat))))),(23,PV.c (CV.one (PL.f (FV.int .i64 j))))],[(20201,Ob.dM [PL.f (FV.int IntKind.i64 w.s.room),PL.mp 20205,PL.f (FV.sl (List.map rQ w.s.o)),PL.f (FV.int IntKind.i64 w.s.ch)]),(20205,Ob.map kJ (List.map ent w.s.m)),(20401,Ob.dM [PL.f (FV.int IntKind.i64 w.m.room),PL.mp 20405,PL.f (FV.sl (List.map rQ w.m.o)),PL.f (FV.int IntKind.i64 w.m.ch)]),(20405,Ob.map Ne.kJ (List.map Ne.ent w.m.m)),(60000,Ob.dM [PL.ptr 20201 0,PL.ptr 20401 0,PL.f (FV.int IntKind.i64 w.now),PL.f (FV.sl (List.map aY w.roots)),PL.f (FV.int IntKind.i64 w.work)]),(140000,Ob.row 1 (a.1.map aY)),(160000,Ob.row 1 (a.2.map aY))]⟩:=rfl
theorem qO (w:Wd) (l:List ByteArray) (i:Nat) (a:List ByteArray × List ByteArray) (ns:List ByteArray) (j:Nat):adI w l true i a ns j = ⟨[(2,PV.c (CV.one (PL.ptr 60000 0))),(6,PV.c (CV.one (PL.own 140000 a.1.length))),(7,PV.c (CV.one (PL.own 160000 a.2.length))),(14,PV.c (CV.one (PL.f (FV.sl (l.map aY))))),(15,PV.c (CV.one (PL.f (FV.int .i64 (l.length:Nat))))),(16,PV.c (CV.one (PL.f (FV.int .i64 i)))),(21,PV.c (CV.one (PL.f (FV.sl (ns.map aY))))),(22,PV.c (CV.one (PL.f (FV.int .i64 (ns.length:Nat))))),(23,PV.c (CV.one (PL.f (FV.int .i64 j))))],[(20201,Ob.dM [PL.f (FV.int IntKind.i64 w.s.room),PL.mp 630004,PL.f (FV.sl (List.map rQ w.s.o)),PL.f (FV.int IntKind.i64 w.s.ch)]),(20401,Ob.dM [PL.f (FV.int IntKind.i64 w.m.room),PL.mp 630204,PL.f (FV.sl (List.map rQ w.m.o)),PL.f (FV.int IntKind.i64 w.m.ch)]),(60000,Ob.dM [PL.ptr 20201 0,PL.ptr 20401 0,PL.f (FV.int IntKind.i64 w.now),PL.f (FV.sl (List.map aY w.roots)),PL.f (FV.int IntKind.i64 w.work)]),(140000,Ob.row 1 (a.1.map aY)),(160000,Ob.row 1 (a.2.map aY)),(630004,Ob.map kJ (List.map ent w.s.m)),(630204,Ob.map Ne.kJ (List.map Ne.ent w.m.m))]⟩:=rfl
theorem WK {s:Sv} {now:Int} {q:Qn} (hd:∀ x ∈ s.m,x.d.length ≤ 1000000):(bA s now q).1.d.length ≤ 1000000:=by
 unfold bA
 split
 ·rename_i x ho
  split
  ·exact hd x (jD ho).2
  ·exact aiy _
 ·exact aiy _
theorem RP (S:Sk θ nm gt up ext) (w:Wd) (hd:∀ x ∈ w.s.m,x.d.length ≤ 1000000) (hF:200000000000001 ≤ F) (l:List ByteArray) (hl:l.length ≤ 1000000) (hl2:∀ y ∈ l,y.size ≤ 1000000):G2 ext F (n + 3) 70 [w.v,vl (l.map aY)] = some ([vl ((Ya nm (bA w.s w.now) l).1.map aY),vl ((Ya nm (bA w.s w.now) l).2.map aY)],[w.v,vl (l.map aY)]):=by
 refine cK (cf:=c70) rfl ?_
 dsimp only [c70,ak,bU,aR,bD,aD,bq,dB,dU,cB,aC,bP,bV,bI,aN];simp only [ahZ,go_sem]
 refine uY l.length (fun x:Nat × Bool × List ByteArray × List ByteArray=>adO w l x.2.1 x.1 x.2.2) (fun i x=>x.1 = i ∧ x.2.2 = (l.take i).foldl (vQ nm (bA w.s w.now)) ([],[]) ∧ x.2.2.1.length ≤ 2000000 * i ∧ x.2.2.2.length ≤ 2 * i) (by omega) (0,false,[],[]) rfl ⟨rfl,rfl,by simp,by simp⟩ (fun i x hi hP=>?_) (fun x hP=>?_)
 ·obtain ⟨i',b,a⟩:=x
  obtain ⟨rfl,ha,hz1,hz2⟩:=hP
  simp only at ha hz1 hz2 hi ⊢
  obtain ⟨d,hx,hlt,ht,h0⟩:=at_ hi
  have hn:=nx hi (by omega)
  have hnm:=fun n=>ae1 (F:=F) (n:=n) S 2 d (hl2 d (ai2 hx))
  obtain ⟨hn2,hn3⟩:=S.nl 2 d
  have hfin:(l.take (i' + 1)).foldl (vQ nm (bA w.s w.now)) ([],[]) = (nm 2 d).foldl (kG (bA w.s w.now)) a:=by rw [aiL,hx,ajN,← ha];rfl
  generalize nm 2 d = ns at hnm hn2 hn3 hfin
  have inner:∀ (x:Nat × Bool × List ByteArray × List ByteArray),(x.1 = ns.length ∧ x.2.2 = (ns.take ns.length).foldl (kG (bA w.s w.now)) a ∧ x.2.2.1.length ≤ 2000000 * i' + 1000000 * ns.length ∧ x.2.2.2.length ≤ 2 * i' + ns.length) → x.2.2 = (l.take (i' + 1)).foldl (vQ nm (bA w.s w.now)) ([],[]) ∧ x.2.2.1.length ≤ 2000000 * (i' + 1) ∧ x.2.2.2.length ≤ 2 * (i' + 1):=fun x h=>by
   rw [hfin,h.2.1,aiC]
   refine ⟨rfl,?_,?_⟩
   ·have:=h.2.2.1;rw [h.2.1,aiC] at this;omega
   ·have:=h.2.2.2;rw [h.2.1,aiC] at this;omega
  cases b with
  | false =>
   rw [TP]
   simp only [ahZ,ah3,hx,hlt,ht,h0,aY,hnm,go_sem]
   refine uY ns.length (fun x:Nat × Bool × List ByteArray × List ByteArray=>adI w l x.2.1 i' x.2.2 ns x.1) (fun j x=>x.1 = j ∧ x.2.2 = (ns.take j).foldl (kG (bA w.s w.now)) a ∧ x.2.2.1.length ≤ 2000000 * i' + 1000000 * j ∧ x.2.2.2.length ≤ 2 * i' + j) (by omega) (0,false,a) rfl ⟨rfl,rfl,by omega,by omega⟩ (fun j x hj hQ=>?_) (fun x hQ=>?_)
   ·obtain ⟨j',b',c⟩:=x
    obtain ⟨rfl,hc,hc1,hc2⟩:=hQ
    simp only at hc hc1 hc2 hj ⊢
    obtain ⟨y,hy,hlt2,ht2,h02⟩:=at_ hj
    have NS:=nx hj (by omega)
    have hof:=fun n=>Mv (F:=F) (n:=n) S w hd y 1
    have hpd:=WK (now:=w.now) (q:=⟨y,1,1⟩) hd
    have hst:(ns.take (j' + 1)).foldl (kG (bA w.s w.now)) a = kG (bA w.s w.now) c y:=by rw [aiL,hy,ajN,← hc];rfl
    cases hv:(bA w.s w.now ⟨y,1,1⟩).2 with
    | true =>
     rw [hv] at hof
     have had:kG (bA w.s w.now) c y = (c.1 ++ (bA w.s w.now ⟨y,1,1⟩).1.d,c.2):=by unfold kG;rw [ahX hv]
     have hsz:(c.1.length + (bA w.s w.now ⟨y,1,1⟩).1.d.length) * 16 ≤ 140737488355328:=by omega
     cases b'
     all_goals
      first | rw [AJ] | rw [qO]
      simp only [ahZ,ah3,hy,hlt2,ht2,h02,aY,hof,NS,hsz,LV,go_sem]
      refine ⟨(j' + 1,true,c.1 ++ (bA w.s w.now ⟨y,1,1⟩).1.d,c.2),?_,rfl,by rw [hst,had],by simp;omega,by simp;omega⟩
      rw [qO]
      simp
    | false =>
     rw [hv] at hof
     have had:kG (bA w.s w.now) c y = (c.1,c.2 ++ [y]):=by unfold kG;rw [ahY (by rw [hv];decide)]
     have hsz:(c.2.length + 1) * 16 ≤ 140737488355328:=by omega
     cases b'
     all_goals
      first | rw [AJ] | rw [qO]
      simp only [ahZ,ah3,hy,hlt2,ht2,h02,aY,hof,NS,hsz,go_sem]
      refine ⟨(j' + 1,true,c.1,c.2 ++ [y]),?_,rfl,by rw [hst,had],by simp;omega,by simp;omega⟩
      rw [qO]
      simp [aY]
   ·obtain ⟨j',b',c⟩:=x
    obtain ⟨e1,e2,e3⟩:=inner _ hQ
    obtain ⟨rfl, -, -, -⟩:=hQ
    simp only at e1 e2 e3 ⊢
    have WL:=@end_ _ ns
    cases b'
    all_goals
     first | rw [AJ] | rw [qO]
     simp only [ahZ,WL,hn,go_sem]
     first | exact ⟨(i' + 1,false,c),rfl,rfl,e1,e2,e3⟩ | exact ⟨(i' + 1,true,c),rfl,rfl,e1,e2,e3⟩
  | true =>
   rw [TQ]
   simp only [ahZ,ah3,hx,hlt,ht,h0,aY,hnm,go_sem]
   refine uY ns.length (fun x:Nat × Bool × List ByteArray × List ByteArray=>adI w l x.2.1 i' x.2.2 ns x.1) (fun j x=>x.1 = j ∧ x.2.2 = (ns.take j).foldl (kG (bA w.s w.now)) a ∧ x.2.2.1.length ≤ 2000000 * i' + 1000000 * j ∧ x.2.2.2.length ≤ 2 * i' + j) (by omega) (0,true,a) rfl ⟨rfl,rfl,by omega,by omega⟩ (fun j x hj hQ=>?_) (fun x hQ=>?_)
   ·obtain ⟨j',b',c⟩:=x
    obtain ⟨rfl,hc,hc1,hc2⟩:=hQ
    simp only at hc hc1 hc2 hj ⊢
    obtain ⟨y,hy,hlt2,ht2,h02⟩:=at_ hj
    have NS:=nx hj (by omega)
    have hof:=fun n=>Mv (F:=F) (n:=n) S w hd y 1
    have hpd:=WK (now:=w.now) (q:=⟨y,1,1⟩) hd
    have hst:(ns.take (j' + 1)).foldl (kG (bA w.s w.now)) a = kG (bA w.s w.now) c y:=by rw [aiL,hy,ajN,← hc];rfl
    cases hv:(bA w.s w.now ⟨y,1,1⟩).2 with
    | true =>
     rw [hv] at hof
     have had:kG (bA w.s w.now) c y = (c.1 ++ (bA w.s w.now ⟨y,1,1⟩).1.d,c.2):=by unfold kG;rw [ahX hv]
     have hsz:(c.1.length + (bA w.s w.now ⟨y,1,1⟩).1.d.length) * 16 ≤ 140737488355328:=by omega
     cases b'
     all_goals
      first | rw [AJ] | rw [qO]
      simp only [ahZ,ah3,hy,hlt2,ht2,h02,aY,hof,NS,hsz,LV,go_sem]
      refine ⟨(j' + 1,true,c.1 ++ (bA w.s w.now ⟨y,1,1⟩).1.d,c.2),?_,rfl,by rw [hst,had],by simp;omega,by simp;omega⟩
      rw [qO]
      simp
    | false =>
     rw [hv] at hof
     have had:kG (bA w.s w.now) c y = (c.1,c.2 ++ [y]):=by unfold kG;rw [ahY (by rw [hv];decide)]
     have hsz:(c.2.length + 1) * 16 ≤ 140737488355328:=by omega
     cases b'
     all_goals
      first | rw [AJ] | rw [qO]
      simp only [ahZ,ah3,hy,hlt2,ht2,h02,aY,hof,NS,hsz,go_sem]
      refine ⟨(j' + 1,true,c.1,c.2 ++ [y]),?_,rfl,by rw [hst,had],by simp;omega,by simp;omega⟩
      rw [qO]
      simp [aY]
   ·obtain ⟨j',b',c⟩:=x
    obtain ⟨e1,e2,e3⟩:=inner _ hQ
    obtain ⟨rfl, -, -, -⟩:=hQ
    simp only at e1 e2 e3 ⊢
    have WL:=@end_ _ ns
    cases b'
    all_goals
     first | rw [AJ] | rw [qO]
     simp only [ahZ,WL,hn,go_sem]
     first | exact ⟨(i' + 1,false,c),rfl,rfl,e1,e2,e3⟩ | exact ⟨(i' + 1,true,c),rfl,rfl,e1,e2,e3⟩
 ·obtain ⟨i',b,a⟩:=x
  obtain ⟨rfl,ha,hz1,hz2⟩:=hP
  have hde:=@end_ _ l
  rw [aiC] at ha
  have ha':a = Ya nm (bA w.s w.now) l:=ha
  subst ha'
  cases b
  all_goals
   first | rw [TP] | rw [TQ]
   simp only [ahZ,hde,go_sem]
end
section
attribute [local go_sem_proc] Nat.reduceAdd Nat.reduceMul Nat.reduceEqDiff Nat.reduceBEq Nat.reduceMod Nat.reduceDiv reduceCtorEq
attribute [local go_sem_proc ↓] reduceIte
open Go Ev Kc
variable {θ : Th} {nm:Int → ByteArray → List ByteArray} {gt:ByteArray → Int → Int → Int × Bool} {up:ByteArray → ByteArray × Bool} {ext:Env} {F n:Nat}
def cuT (w:Wd) (b:Bool) (z:ByteArray):St:=match b with
 | false=>⟨[(2,PV.c (CV.one (PL.ptr 60000 0))),(7,PV.c (CV.one (PL.f (FV.str z)))),(8,PV.c (CV.one (PL.f (FV.bool true))))],[(20201,Ob.dM [PL.f (FV.int IntKind.i64 w.s.room),PL.mp 20205,PL.f (FV.sl (List.map rQ w.s.o)),PL.f (FV.int IntKind.i64 w.s.ch)]),(20205,Ob.map kJ (List.map ent w.s.m)),(20401,Ob.dM [PL.f (FV.int IntKind.i64 w.m.room),PL.mp 20405,PL.f (FV.sl (List.map rQ w.m.o)),PL.f (FV.int IntKind.i64 w.m.ch)]),(20405,Ob.map Ne.kJ (List.map Ne.ent w.m.m)),(60000,Ob.dM [PL.ptr 20201 0,PL.ptr 20401 0,PL.f (FV.int IntKind.i64 w.now),PL.f (FV.sl (List.map aY w.roots)),PL.f (FV.int IntKind.i64 w.work)])]⟩
 | true=>⟨[(2,PV.c (CV.one (PL.ptr 60000 0))),(7,PV.c (CV.one (PL.f (FV.str z)))),(8,PV.c (CV.one (PL.f (FV.bool true))))],[(20201,Ob.dM [PL.f (FV.int IntKind.i64 w.s.room),PL.mp 450004,PL.f (FV.sl (List.map rQ w.s.o)),PL.f (FV.int IntKind.i64 w.s.ch)]),(20401,Ob.dM [PL.f (FV.int IntKind.i64 w.m.room),PL.mp 450204,PL.f (FV.sl (List.map rQ w.m.o)),PL.f (FV.int IntKind.i64 w.m.ch)]),(60000,Ob.dM [PL.ptr 20201 0,PL.ptr 20401 0,PL.f (FV.int IntKind.i64 w.now),PL.f (FV.sl (List.map aY w.roots)),PL.f (FV.int IntKind.i64 w.work)]),(450004,Ob.map kJ (List.map ent w.s.m)),(450204,Ob.map Ne.kJ (List.map Ne.ent w.m.m))]⟩
theorem NT (w:Wd) (z:ByteArray):cuT w false z = ⟨[(2,PV.c (CV.one (PL.ptr 60000 0))),(7,PV.c (CV.one (PL.f (FV.str z)))),(8,PV.c (CV.one (PL.f (FV.bool true))))],[(20201,Ob.dM [PL.f (FV.int IntKind.i64 w.s.room),PL.mp 20205,PL.f (FV.sl (List.map rQ w.s.o)),PL.f (FV.int IntKind.i64 w.s.ch)]),(20205,Ob.map kJ (List.map ent w.s.m)),(20401,Ob.dM [PL.f (FV.int IntKind.i64 w.m.room),PL.mp 20405,PL.f (FV.sl (List.map rQ w.m.o)),PL.f (FV.int IntKind.i64 w.m.ch)]),(20405,Ob.map Ne.kJ (List.map Ne.ent w.m.m)),(60000,Ob.dM [PL.ptr 20201 0,PL.ptr 20401 0,PL.f (FV.int IntKind.i64 w.now),PL.f (FV.sl (List.map aY w.roots)),PL.f (FV.int IntKind.i64 w.work)])]⟩:=rfl
theorem NU (w:Wd) (z:ByteArray):cuT w true z = ⟨[(2,PV.c (CV.one (PL.ptr 60000 0))),(7,PV.c (CV.one (PL.f (FV.str z)))),(8,PV.c (CV.one (PL.f (FV.bool true))))],[(20201,Ob.dM [PL.f (FV.int IntKind.i64 w.s.room),PL.mp 450004,PL.f (FV.sl (List.map rQ w.s.o)),PL.f (FV.int IntKind.i64 w.s.ch)]),(20401,Ob.dM [PL.f (FV.int IntKind.i64 w.m.room),PL.mp 450204,PL.f (FV.sl (List.map rQ w.m.o)),PL.f (FV.int IntKind.i64 w.m.ch)]),(60000,Ob.dM [PL.ptr 20201 0,PL.ptr 20401 0,PL.f (FV.int IntKind.i64 w.now),PL.f (FV.sl (List.map aY w.roots)),PL.f (FV.int IntKind.i64 w.work)]),(450004,Ob.map kJ (List.map ent w.s.m)),(450204,Ob.map Ne.kJ (List.map Ne.ent w.m.m))]⟩:=rfl
theorem afR {s:Sv} {now:Int} {q:Qn} (hy:∀ x ∈ s.m,∀ y ∈ x.d,y.size ≤ 1000000):∀ y ∈ (bA s now q).1.d,y.size ≤ 1000000:=by
 unfold bA
 split
 ·rename_i x ho
  split
  ·exact hy x (jD ho).2
  ·intro y h;cases h
 ·intro y h;cases h
theorem WM (S:Sk θ nm gt up ext) (w:Wd) (hd:∀ x ∈ w.s.m,x.d.length ≤ 1000000) (hy:∀ x ∈ w.s.m,∀ y ∈ x.d,y.size ≤ 1000000) (hr:w.roots.length ≤ 1000000) (hF:200000000000001 ≤ F) (q:ByteArray) (hq:q.size ≤ 1000000) (R:ByteArray × List ByteArray × List ByteArray) (hR:cut θ nm up (bA w.s w.now) w.roots q = R):G2 ext F (n + 4) 36 [w.v,vs q] = some ([vs R.1,vl (R.2.1.map aY),vl (R.2.2.map aY)],[w.v,vs q]):=by
 refine cK (cf:=c36) rfl ?_
 have lo:=fun n=>aaj (F:=F) (n:=n) S q hq
 have hls:=S.ls q
 unfold cut at hR
 generalize θ.low q = z0 at lo hls hR
 by_cases h0:z0 = ⟨#[]⟩
 ·rw [ahX h0] at hR
  subst hR
  have h0':decide (z0 = ⟨#[]⟩) = true:=ah0 h0
  dsimp only [c36,ak,bU,aR,bD,aD,bq,dB,dU,cB,aC,bP,bV,bI,aN];simp only [lo,h0',go_sem]
  try rfl
 ·rw [ahY h0] at hR
  have h0':decide (z0 = ⟨#[]⟩) = false:=ah2 h0
  have cs:=fun n=>ae2 (F:=F) (n:=n) S w.roots hr
  dsimp only [c36,ak,bU,aR,bD,aD,bq,dB,dU,cB,aC,bP,bV,bI,aN];simp only [lo,h0',go_sem]
  refine uY (z0.size + 1) (fun x:Bool × ByteArray=>cuT w x.1 x.2) (fun i x=>x.2.size + i ≤ z0.size ∧ sN nm up (bA w.s w.now) w.roots (z0.size + 1 - i) x.2 = R) (by omega) (false,z0) rfl ⟨by simp,hR⟩ (fun i x hi hP=>?_) (fun x hP=>absurd hP.1 (by omega))
  obtain ⟨b,z⟩:=x
  obtain ⟨hz,hf⟩:=hP
  simp only at hz hf ⊢
  obtain ⟨f,hff⟩:∃ f,z0.size + 1 - i = f + 1:=⟨z0.size - i,by omega⟩
  rw [hff] at hf
  unfold sN at hf
  have of_:=fun n=>Mv (F:=F) (n:=n) S w hd z 2
  have hup:=fun n=>ae0 (F:=F) (n:=n) S z (by omega)
  have hus:=S.us z
  have ad:=fun n=>RP (F:=F) (n:=n) S w hd hF (bA w.s w.now ⟨z,2,1⟩).1.d (WK hd) (afR hy)
  cases hv:(bA w.s w.now ⟨z,2,1⟩).2 with
  | true =>
   rw [hv] at of_
   rw [ahX hv] at hf
   subst hf
   cases b
   all_goals
    first | rw [NT] | rw [NU]
    simp only [of_,ad,go_sem]
    try rfl
  | false =>
   rw [hv] at of_
   rw [ahY (by rw [hv];decide)] at hf
   cases hu:(up z).2 with
   | false =>
    rw [hu] at hup
    rw [ahY (by rw [hu];decide)] at hf
    subst hf
    cases b
    all_goals
     first | rw [NT] | rw [NU]
     simp only [of_,hup,cs,go_sem]
     try rfl
   | true =>
    have hlt:=hus hu
    rw [hu] at hup
    rw [ahX hu] at hf
    cases b
    all_goals
     first | rw [NT] | rw [NU]
     simp only [of_,hup,go_sem]
     refine ⟨(true,(up z).1),rfl,by show (up z).1.size + (i + 1) ≤ _;omega,?_⟩
     rw [show z0.size + 1 - (i + 1) = f from by omega]
     exact hf
end
section
attribute [local go_sem_proc] Nat.reduceAdd Nat.reduceMul Nat.reduceEqDiff Nat.reduceBEq Nat.reduceMod Nat.reduceDiv reduceCtorEq
attribute [local go_sem_proc ↓] reduceIte
open Go Ev Kc
variable {θ : Th} {nm:Int → ByteArray → List ByteArray} {gt:ByteArray → Int → Int → Int × Bool} {up:ByteArray → ByteArray × Bool} {ext:Env} {F n:Nat}
theorem abk {α:Type} (A:List α) (x:α):(A ++ [x])[A.length]? = some x:=by simp
theorem afS {α:Type} (A:List α) (x y:α):(A ++ [x]).set A.length y = A ++ [y]:=by simp
def lI (z:ByteArray) (g:Gl):Gl:=if z = g.zone then g else ⟨g.q,z,0⟩
def srv (l:List ByteArray) (t:Int):ByteArray:=l.getD (t.tmod l.length).toNat ⟨#[]⟩
def JR (c:ByteArray × List ByteArray × List ByteArray) (work:Int) (init:List Gl) (g0:Gl) (sends:Int) (n:ByteArray):(Stp × Bool) × Tk :=
 let g:=lI c.1 g0
 if c.2.1 = [] then match Ox (init ++ [g]) c.2.2 with
  | none=>((zk,true),⟨init ++ [g],sends⟩)
  | some x=>if 3 < (init ++ [g]).length then ((zk,true),⟨init ++ [g],sends⟩) else ((aai,false),⟨init ++ [g] ++ [⟨⟨x,1,1⟩,⟨#[]⟩,0⟩],sends⟩)
 else if g.tries < 0 ∨ 2 * (c.2.1.length:Int) ≤ g.tries ∨ work ≤ sends then ((zk,true),⟨init ++ [g],sends⟩)
 else ((⟨0,ch0,srv c.2.1 g.tries,⟨n,g.q.t,g.q.c⟩,c.1⟩,true),⟨init ++ [⟨g.q,g.zone,g.tries + 1⟩],sends + 1⟩)
theorem Gp (S:Sk θ nm gt up ext) (w:Wd) (hd:∀ x ∈ w.s.m,x.d.length ≤ 1000000) (hy:∀ x ∈ w.s.m,∀ y ∈ x.d,y.size ≤ 1000000) (hr:w.roots.length ≤ 1000000) (hF:200000000000001 ≤ F) (q:ByteArray) (hq:q.size ≤ 1000000) (R:ByteArray × List ByteArray × List ByteArray) (hR:cut θ nm up (bA w.s w.now) w.roots q = R) (hR2:R.2.1.length ≤ 100000000) (RB:R.2.2.length ≤ 100000000) (init:List Gl) (g:Gl) (sends:Int) (hi:init.length ≤ 1000) (hs:sends ≤ 9223372036854775807) (hw:w.work ≤ 9223372036854775807) (hs2:-9223372036854775808 ≤ sends) (M:(Stp × Bool) × Tk) (hM:JR R w.work init g sends q = M) :
  G2 ext F (n + 5) 108 [w.v,Tk.pv ⟨init ++ [g],sends⟩,vs q] = some ([M.1.1.v,vb M.1.2],[w.v,M.2.pv,vs q]):=by
 refine cK (cf:=q8) rfl ?_
 have cu:=fun n=>WM (F:=F) (n:=n) S w hd hy hr hF q hq R hR
 have hw1:IntKind.i64.wrap (((init.length + 1:Nat):Int) - 1) = (init.length:Int):=by rw [oD (by omega) (by omega)];omega
 have hge:∀ y,(init.map rG ++ [y])[init.length]? = some y:=fun y=>by have:=abk (init.map rG) y;rwa [ahZ] at this
 have hset:∀ x y,(init.map rG ++ [x]).set init.length y = init.map rG ++ [y]:=fun x y=>by have:=afS (init.map rG) x y;rwa [ahZ] at this
 rw [show Tk.pv ⟨init ++ [g],sends⟩ = .one (.ptr [.own 5 (init.map rG ++ [[FV.str g.q.q,FV.int .i64 g.q.t,FV.int .i64 g.q.c,FV.str g.zone,FV.int .i64 g.tries]]),.f (.int .i64 sends)]) by simp [Tk.pv,rG]]
 by_cases hz:R.1 = g.zone
 ·have hz':decide (R.1 = g.zone) = true:=ah0 hz
  have hgs:lI R.1 g = g:=by unfold lI;rw [ahX hz]
  unfold JR at hM
  rw [hgs] at hM
  have fr:=fun n=>aak (F:=F) (n:=n) S (init ++ [g]) sends R.2.2 (by simp;omega) RB
  rw [show ((init ++ [g]).map rG) = init.map rG ++ [[FV.str g.q.q,FV.int .i64 g.q.t,FV.int .i64 g.q.c,FV.str g.zone,FV.int .i64 g.tries]] by simp [rG]] at fr
  by_cases hz1:R.2.1 = []
  ·have hl0:decide ((R.2.1.length:Int) = 0) = true:=by rw [hz1];rfl
   simp only [hz1,aiu] at hM
   unfold qC at fr
   cases hfr:Ox (init ++ [g]) R.2.2 with
   | none =>
    rw [hfr] at fr hM
    simp only at fr hM
    subst hM
    rw [show Tk.pv ⟨init ++ [g],sends⟩ = .one (.ptr [.own 5 (init.map rG ++ [[FV.str g.q.q,FV.int .i64 g.q.t,FV.int .i64 g.q.c,FV.str g.zone,FV.int .i64 g.tries]]),.f (.int .i64 sends)]) by simp [Tk.pv,rG]]
    dsimp only [q8,ak,bU,aR,bD,aD,bq,dB,dU,cB,aC,bP,bV,bI,aN];simp only [cu,ah7,ahZ,List.length_singleton,List.length_cons,List.length_nil,hw1,hge,hset,Int.toNat_natCast,hz',hl0,fr,go_sem]
    exact ⟨by omega,by omega,rfl⟩
   | some x =>
    rw [hfr] at fr hM
    simp only at fr hM
    by_cases h4:3 < (init ++ [g]).length
    ·rw [ahX h4] at hM
     have h4':decide ((3:Int) < ((init.length + 1:Nat):Int)) = true:=ah0 (by simp at h4;omega)
     subst hM
     rw [show Tk.pv ⟨init ++ [g],sends⟩ = .one (.ptr [.own 5 (init.map rG ++ [[FV.str g.q.q,FV.int .i64 g.q.t,FV.int .i64 g.q.c,FV.str g.zone,FV.int .i64 g.tries]]),.f (.int .i64 sends)]) by simp [Tk.pv,rG]]
     dsimp only [q8,ak,bU,aR,bD,aD,bq,dB,dU,cB,aC,bP,bV,bI,aN];simp only [cu,ah7,ahZ,List.length_singleton,List.length_cons,List.length_nil,hw1,hge,hset,Int.toNat_natCast,hz',hl0,fr,h4',go_sem]
     exact ⟨by omega,by omega,rfl⟩
    ·rw [ahY h4] at hM
     have h4':decide ((3:Int) < ((init.length + 1:Nat):Int)) = false:=ah2 (by simp at h4;omega)
     subst hM
     rw [show Tk.pv ⟨init ++ [g] ++ [⟨⟨x,1,1⟩,⟨#[]⟩,0⟩],sends⟩ = .one (.ptr [.own 5 (init.map rG ++ [[FV.str g.q.q,FV.int .i64 g.q.t,FV.int .i64 g.q.c,FV.str g.zone,FV.int .i64 g.tries]] ++ [[FV.str x,FV.int .i64 1,FV.int .i64 1,FV.str ⟨#[]⟩,FV.int .i64 0]]),.f (.int .i64 sends)]) by simp [Tk.pv,rG]]
     have hsz:(init.length + 1 + 1) * 56 ≤ 140737488355328:=by omega
     dsimp only [q8,ak,bU,aR,bD,aD,bq,dB,dU,cB,aC,bP,bV,bI,aN];simp only [cu,ah7,ahZ,List.length_singleton,List.length_cons,List.length_nil,hw1,hge,hset,Int.toNat_natCast,hz',hl0,fr,h4',hsz,go_sem]
     exact ⟨by omega,by omega,rfl⟩
  ·have hpos:=List.length_pos_iff.mpr hz1
   have hl0:decide ((R.2.1.length:Int) = 0) = false:=ah2 (by omega)
   rw [ahY hz1] at hM
   have hw2:IntKind.i64.wrap (2 * (R.2.1.length:Int)) = 2 * (R.2.1.length:Int):=oD (by omega) (by omega)
   by_cases t1:g.tries < 0
   ·have t1':decide (g.tries < 0) = true:=ah0 t1
    rw [ahX (.inl t1)] at hM
    subst hM
    rw [show Tk.pv ⟨init ++ [g],sends⟩ = .one (.ptr [.own 5 (init.map rG ++ [[FV.str g.q.q,FV.int .i64 g.q.t,FV.int .i64 g.q.c,FV.str g.zone,FV.int .i64 g.tries]]),.f (.int .i64 sends)]) by simp [Tk.pv,rG]]
    dsimp only [q8,ak,bU,aR,bD,aD,bq,dB,dU,cB,aC,bP,bV,bI,aN];simp only [cu,ah7,ahZ,List.length_singleton,List.length_cons,List.length_nil,hw1,hge,hset,Int.toNat_natCast,hz',hl0,hw2,t1',go_sem]
    exact ⟨by omega,by omega,rfl⟩
   have t1':decide (g.tries < 0) = false:=ah2 t1
   by_cases t2:2 * (R.2.1.length:Int) ≤ g.tries
   ·have t2':decide (2 * (R.2.1.length:Int) ≤ g.tries) = true:=ah0 t2
    rw [ahX (.inr (.inl t2))] at hM
    subst hM
    rw [show Tk.pv ⟨init ++ [g],sends⟩ = .one (.ptr [.own 5 (init.map rG ++ [[FV.str g.q.q,FV.int .i64 g.q.t,FV.int .i64 g.q.c,FV.str g.zone,FV.int .i64 g.tries]]),.f (.int .i64 sends)]) by simp [Tk.pv,rG]]
    dsimp only [q8,ak,bU,aR,bD,aD,bq,dB,dU,cB,aC,bP,bV,bI,aN];simp only [cu,ah7,ahZ,List.length_singleton,List.length_cons,List.length_nil,hw1,hge,hset,Int.toNat_natCast,hz',hl0,hw2,t1',t2',go_sem]
    exact ⟨by omega,by omega,rfl⟩
   have t2':decide (2 * (R.2.1.length:Int) ≤ g.tries) = false:=ah2 t2
   by_cases t3:w.work ≤ sends
   ·have WO:decide (w.work ≤ sends) = true:=ah0 t3
    rw [ahX (.inr (.inr t3))] at hM
    subst hM
    rw [show Tk.pv ⟨init ++ [g],sends⟩ = .one (.ptr [.own 5 (init.map rG ++ [[FV.str g.q.q,FV.int .i64 g.q.t,FV.int .i64 g.q.c,FV.str g.zone,FV.int .i64 g.tries]]),.f (.int .i64 sends)]) by simp [Tk.pv,rG]]
    dsimp only [q8,ak,bU,aR,bD,aD,bq,dB,dU,cB,aC,bP,bV,bI,aN];simp only [cu,ah7,ahZ,List.length_singleton,List.length_cons,List.length_nil,hw1,hge,hset,Int.toNat_natCast,hz',hl0,hw2,t1',t2',WO,go_sem]
    exact ⟨by omega,by omega,rfl⟩
   have WO:decide (w.work ≤ sends) = false:=ah2 t3
   rw [ahY (by rintro (h | h | h);exact t1 h;exact t2 h;exact t3 h)] at hM
   subst hM
   have hm1:0 ≤ (g.tries).tmod (R.2.1.length:Int) ∧ (g.tries).tmod (R.2.1.length:Int) < R.2.1.length:=⟨Int.tmod_nonneg _ (by omega),Int.tmod_lt_of_pos _ (by omega)⟩
   have hsv:(R.2.1.map aY)[((g.tries).tmod (R.2.1.length:Int)).toNat]? = some [.str (srv R.2.1 g.tries)]:=by
    unfold srv
    rw [ah3,aix,aic (by omega)]
    rfl
   have hm2:decide ((g.tries).tmod (R.2.1.length:Int) < (R.2.1.length:Int)) = true:=ah0 hm1.2
   have hm3:=hm1.1
   have hw3:IntKind.i64.wrap (g.tries + 1) = g.tries + 1:=oD (by omega) (by omega)
   have hw4:IntKind.i64.wrap (sends + 1) = sends + 1:=oD (by omega) (by omega)
   rw [show Tk.pv ⟨init ++ [⟨(g).q,(g).zone,(g).tries + 1⟩],sends + 1⟩ = .one (.ptr [.own 5 (init.map rG ++ [[FV.str g.q.q,FV.int .i64 g.q.t,FV.int .i64 g.q.c,FV.str g.zone,FV.int .i64 (g.tries + 1)]]),.f (.int .i64 (sends + 1))]) by simp [Tk.pv,rG]]
   dsimp only [q8,ak,bU,aR,bD,aD,bq,dB,dU,cB,aC,bP,bV,bI,aN];simp only [cu,ah7,ahZ,List.length_singleton,List.length_cons,List.length_nil,hw1,hge,hset,Int.toNat_natCast,hz',hl0,hw2,t1',t2',WO,hsv,hm2,hm3,hw3,hw4,go_sem]
   exact ⟨by omega,by omega,by omega,rfl⟩
 ·have hz':decide (R.1 = g.zone) = false:=ah2 hz
  have hgs:lI R.1 g = (⟨g.q,R.1,0⟩:Gl):=by unfold lI;rw [ahY hz]
  unfold JR at hM
  rw [hgs] at hM
  have fr:=fun n=>aak (F:=F) (n:=n) S (init ++ [(⟨g.q,R.1,0⟩:Gl)]) sends R.2.2 (by simp;omega) RB
  rw [show ((init ++ [(⟨g.q,R.1,0⟩:Gl)]).map rG) = init.map rG ++ [[FV.str g.q.q,FV.int .i64 g.q.t,FV.int .i64 g.q.c,FV.str R.1,FV.int .i64 0]] by simp [rG]] at fr
  by_cases hz1:R.2.1 = []
  ·have hl0:decide ((R.2.1.length:Int) = 0) = true:=by rw [hz1];rfl
   simp only [hz1,aiu] at hM
   unfold qC at fr
   cases hfr:Ox (init ++ [(⟨g.q,R.1,0⟩:Gl)]) R.2.2 with
   | none =>
    rw [hfr] at fr hM
    simp only at fr hM
    subst hM
    rw [show Tk.pv ⟨init ++ [(⟨g.q,R.1,0⟩:Gl)],sends⟩ = .one (.ptr [.own 5 (init.map rG ++ [[FV.str g.q.q,FV.int .i64 g.q.t,FV.int .i64 g.q.c,FV.str R.1,FV.int .i64 0]]),.f (.int .i64 sends)]) by simp [Tk.pv,rG]]
    dsimp only [q8,ak,bU,aR,bD,aD,bq,dB,dU,cB,aC,bP,bV,bI,aN];simp only [cu,ah7,ahZ,List.length_singleton,List.length_cons,List.length_nil,hw1,hge,hset,Int.toNat_natCast,hz',hl0,fr,go_sem]
    exact ⟨by omega,by omega,rfl⟩
   | some x =>
    rw [hfr] at fr hM
    simp only at fr hM
    by_cases h4:3 < (init ++ [(⟨g.q,R.1,0⟩:Gl)]).length
    ·rw [ahX h4] at hM
     have h4':decide ((3:Int) < ((init.length + 1:Nat):Int)) = true:=ah0 (by simp at h4;omega)
     subst hM
     rw [show Tk.pv ⟨init ++ [(⟨g.q,R.1,0⟩:Gl)],sends⟩ = .one (.ptr [.own 5 (init.map rG ++ [[FV.str g.q.q,FV.int .i64 g.q.t,FV.int .i64 g.q.c,FV.str R.1,FV.int .i64 0]]),.f (.int .i64 sends)]) by simp [Tk.pv,rG]]
     dsimp only [q8,ak,bU,aR,bD,aD,bq,dB,dU,cB,aC,bP,bV,bI,aN];simp only [cu,ah7,ahZ,List.length_singleton,List.length_cons,List.length_nil,hw1,hge,hset,Int.toNat_natCast,hz',hl0,fr,h4',go_sem]
     exact ⟨by omega,by omega,rfl⟩
    ·rw [ahY h4] at hM
     have h4':decide ((3:Int) < ((init.length + 1:Nat):Int)) = false:=ah2 (by simp at h4;omega)
     subst hM
     rw [show Tk.pv ⟨init ++ [(⟨g.q,R.1,0⟩:Gl)] ++ [⟨⟨x,1,1⟩,⟨#[]⟩,0⟩],sends⟩ = .one (.ptr [.own 5 (init.map rG ++ [[FV.str g.q.q,FV.int .i64 g.q.t,FV.int .i64 g.q.c,FV.str R.1,FV.int .i64 0]] ++ [[FV.str x,FV.int .i64 1,FV.int .i64 1,FV.str ⟨#[]⟩,FV.int .i64 0]]),.f (.int .i64 sends)]) by simp [Tk.pv,rG]]
     have hsz:(init.length + 1 + 1) * 56 ≤ 140737488355328:=by omega
     dsimp only [q8,ak,bU,aR,bD,aD,bq,dB,dU,cB,aC,bP,bV,bI,aN];simp only [cu,ah7,ahZ,List.length_singleton,List.length_cons,List.length_nil,hw1,hge,hset,Int.toNat_natCast,hz',hl0,fr,h4',hsz,go_sem]
     exact ⟨by omega,by omega,rfl⟩
  ·have hpos:=List.length_pos_iff.mpr hz1
   have hl0:decide ((R.2.1.length:Int) = 0) = false:=ah2 (by omega)
   rw [ahY hz1] at hM
   have hw2:IntKind.i64.wrap (2 * (R.2.1.length:Int)) = 2 * (R.2.1.length:Int):=oD (by omega) (by omega)
   have t1':decide ((0:Int) < 0) = false:=rfl
   have t2':decide (2 * (R.2.1.length:Int) ≤ 0) = false:=ah2 (by omega)
   by_cases t3:w.work ≤ sends
   ·have WO:decide (w.work ≤ sends) = true:=ah0 t3
    rw [ahX (.inr (.inr t3))] at hM
    subst hM
    rw [show Tk.pv ⟨init ++ [(⟨g.q,R.1,0⟩:Gl)],sends⟩ = .one (.ptr [.own 5 (init.map rG ++ [[FV.str g.q.q,FV.int .i64 g.q.t,FV.int .i64 g.q.c,FV.str R.1,FV.int .i64 0]]),.f (.int .i64 sends)]) by simp [Tk.pv,rG]]
    dsimp only [q8,ak,bU,aR,bD,aD,bq,dB,dU,cB,aC,bP,bV,bI,aN];simp only [cu,ah7,ahZ,List.length_singleton,List.length_cons,List.length_nil,hw1,hge,hset,Int.toNat_natCast,hz',hl0,hw2,t1',t2',WO,go_sem]
    exact ⟨by omega,by omega,rfl⟩
   have WO:decide (w.work ≤ sends) = false:=ah2 t3
   rw [ahY (by rintro (h | h | h);exact absurd h (by show ¬ (0:Int) < 0;omega);exact absurd h (by show ¬ 2 * (R.2.1.length:Int) ≤ 0;omega);exact t3 h)] at hM
   subst hM
   have hm1:0 ≤ ((0:Int)).tmod (R.2.1.length:Int) ∧ ((0:Int)).tmod (R.2.1.length:Int) < R.2.1.length:=⟨Int.tmod_nonneg _ (by omega),Int.tmod_lt_of_pos _ (by omega)⟩
   have hsv:(R.2.1.map aY)[(((0:Int)).tmod (R.2.1.length:Int)).toNat]? = some [.str (srv R.2.1 (0:Int))]:=by
    unfold srv
    rw [ah3,aix,aic (by omega)]
    rfl
   have hm2:decide (((0:Int)).tmod (R.2.1.length:Int) < (R.2.1.length:Int)) = true:=ah0 hm1.2
   have hm3:=hm1.1
   have hw3:IntKind.i64.wrap ((0:Int) + 1) = (0:Int) + 1:=oD (by omega) (by omega)
   have hw4:IntKind.i64.wrap (sends + 1) = sends + 1:=oD (by omega) (by omega)
   rw [show Tk.pv ⟨init ++ [⟨((⟨g.q,R.1,0⟩:Gl)).q,((⟨g.q,R.1,0⟩:Gl)).zone,((⟨g.q,R.1,0⟩:Gl)).tries + 1⟩],sends + 1⟩ = .one (.ptr [.own 5 (init.map rG ++ [[FV.str g.q.q,FV.int .i64 g.q.t,FV.int .i64 g.q.c,FV.str R.1,FV.int .i64 ((0:Int) + 1)]]),.f (.int .i64 (sends + 1))]) by simp [Tk.pv,rG]]
   dsimp only [q8,ak,bU,aR,bD,aD,bq,dB,dU,cB,aC,bP,bV,bI,aN];simp only [cu,ah7,ahZ,List.length_singleton,List.length_cons,List.length_nil,hw1,hge,hset,Int.toNat_natCast,hz',hl0,hw2,t1',t2',WO,hsv,hm2,hm3,hw3,hw4,go_sem]
   exact ⟨by omega,by omega,by omega,rfl⟩
end
section
attribute [local go_sem_proc] Nat.reduceAdd Nat.reduceMul Nat.reduceEqDiff Nat.reduceBEq Nat.reduceMod Nat.reduceDiv reduceCtorEq
attribute [local go_sem_proc ↓] reduceIte
open Go Ev Kc
variable {θ : Th} {nm:Int → ByteArray → List ByteArray} {gt:ByteArray → Int → Int → Int × Bool} {up:ByteArray → ByteArray × Bool} {ext:Env} {F n:Nat}
structure Wk (θ:Th) (nm:Int → ByteArray → List ByteArray) (up:ByteArray → ByteArray × Bool) (w:Wd):Prop where
 fw:FW (w.s,w.m)
 hd:∀ x ∈ w.s.m,x.d.length ≤ 1000000
 hy:∀ x ∈ w.s.m,∀ y ∈ x.d,y.size ≤ 1000000
 hr:w.roots.length ≤ 1000000
 hw:w.work ≤ 9223372036854775807
 hc:∀ q,(cut θ nm up (bA w.s w.now) w.roots q).2.1.length ≤ 100000000 ∧ (cut θ nm up (bA w.s w.now) w.roots q).2.2.length ≤ 100000000
 hn:∀ q:Qn,q.q.size ≤ 1000000 → (wz nm (bA w.s w.now) (Ne.fE w.m w.now) w.now q).nm.size ≤ 1000000
def yN (θ:Th) (nm:Int → ByteArray → List ByteArray) (up:ByteArray → ByteArray × Bool) (w:Wd) (init:List Gl) (g:Gl) (sends:Int):(Stp × Bool) × Tk :=
 let c:=wz nm (bA w.s w.now) (Ne.fE w.m w.now) w.now g.q
 if c.e = 3 then JR (cut θ nm up (bA w.s w.now) w.roots c.nm) w.work init g sends c.nm
 else if c.e ≠ 4 ∧ init = [] then ((⟨1,c,⟨#[]⟩,⟨⟨#[]⟩,0,0⟩,⟨#[]⟩⟩,true),⟨init ++ [g],sends⟩)
 else if c.e = 0 ∧ c.hits.length = 1 then ((aai,false),⟨init,sends⟩)
 else ((zk,true),⟨init ++ [g],sends⟩)
theorem step_ok (S:Sk θ nm gt up ext) (w:Wd) (K:Wk θ nm up w) (hF:200000000000001 ≤ F) (init:List Gl) (g:Gl) (sends:Int) (hi:init.length ≤ 1000) (hs:sends ≤ 9223372036854775807) (hs2:-9223372036854775808 ≤ sends) (hg:g.q.q.size ≤ 1000000) (M:(Stp × Bool) × Tk) (hM:yN θ nm up w init g sends = M) :
  G2 ext F (n + 6) 66 [w.v,Tk.pv ⟨init ++ [g],sends⟩] = some ([M.1.1.v,vb M.1.2],[w.v,M.2.pv]):=by
 refine cK (cf:=Kg) rfl ?_
 have fw:=fun n=>aeZ (F:=F) (n:=n) S w.s w.m w.now g.q K.fw
 have hcn:=K.hn g.q hg
 have hcc:=K.hc (wz nm (bA w.s w.now) (Ne.fE w.m w.now) w.now g.q).nm
 have hw1:IntKind.i64.wrap (((init.length + 1:Nat):Int) - 1) = (init.length:Int):=by rw [oD (by omega) (by omega)];omega
 have hge:∀ y,(init.map rG ++ [y])[init.length]? = some y:=fun y=>by have:=abk (init.map rG) y;rwa [ahZ] at this
 have htk:∀ y,(init.map rG ++ [y]).take init.length = init.map rG:=fun y=>by rw [ajL (by simp),ajB (by simp)]
 have ms:=fun n=>Gp (F:=F) (n:=n) S w K.hd K.hy K.hr hF (wz nm (bA w.s w.now) (Ne.fE w.m w.now) w.now g.q).nm hcn _ rfl hcc.1 hcc.2 init g sends hi hs K.hw hs2 _ rfl
 have hz0:decide (((init.length + 1:Nat):Int) = 0) = false:=ah2 (by omega)
 unfold yN at hM
 generalize wz nm (bA w.s w.now) (Ne.fE w.m w.now) w.now g.q = c at *
 simp only at hM
 have hv:Tk.pv ⟨init ++ [g],sends⟩ = .one (.ptr [.own 5 (init.map rG ++ [[FV.str g.q.q,FV.int .i64 g.q.t,FV.int .i64 g.q.c,FV.str g.zone,FV.int .i64 g.tries]]),.f (.int .i64 sends)]):=by simp [Tk.pv,rG]
 by_cases h3:c.e = 3
 ·have h3':decide (c.e = 3) = true:=ah0 h3
  rw [ahX h3] at hM
  rw [hM] at ms
  rw [hv] at ms ⊢
  dsimp only [Kg,ak,bU,aR,bD,aD,bq,dB,dU,cB,aC,bP,bV,bI,aN];simp only [ah7,ahZ,List.length_cons,List.length_nil,hz0,hw1,hge,htk,Int.toNat_natCast,fw,h3',ms,go_sem]
  first | exact ⟨by omega,by omega,by omega,rfl⟩ | omega
 ·have h3':decide (c.e = 3) = false:=ah2 h3
  rw [ahY h3] at hM
  clear ms
  by_cases h1:init = []
  ·have h7:decide (((init.length + 1:Nat):Int) = 1) = true:=ah0 (by rw [h1];rfl)
   by_cases h4:c.e = 4
   ·rw [ahY (fun h=>h.1 h4),ahY (fun h=>by rw [h4] at h;exact absurd h.1 (by decide))] at hM
    subst hM
    have h5:decide (c.e = 4) = true:=ah0 h4
    have h6:decide (c.e = 0) = false:=ah2 (by omega)
    rw [hv]
    dsimp only [Kg,ak,bU,aR,bD,aD,bq,dB,dU,cB,aC,bP,bV,bI,aN];simp only [ah7,ahZ,List.length_cons,List.length_nil,hz0,hw1,hge,htk,Int.toNat_natCast,fw,h3',h5,h6,h7,go_sem]
    first | exact ⟨by omega,by omega,by omega,rfl⟩ | omega
   ·rw [ahX ⟨h4,h1⟩] at hM
    subst hM
    have h5:decide (c.e = 4) = false:=ah2 h4
    rw [hv]
    dsimp only [Kg,ak,bU,aR,bD,aD,bq,dB,dU,cB,aC,bP,bV,bI,aN];simp only [ah7,ahZ,List.length_cons,List.length_nil,hz0,hw1,hge,htk,Int.toNat_natCast,fw,h3',h5,h7,go_sem]
    first | exact ⟨by omega,by omega,by omega,rfl⟩ | omega
  ·have h7:decide (((init.length + 1:Nat):Int) = 1) = false:=ah2 (by have:=List.length_pos_iff.mpr h1;omega)
   rw [ahY (fun h=>h1 h.2)] at hM
   by_cases h4:c.e = 4
   ·rw [ahY (fun h=>by rw [h4] at h;exact absurd h.1 (by decide))] at hM
    subst hM
    have h5:decide (c.e = 4) = true:=ah0 h4
    have h6:decide (c.e = 0) = false:=ah2 (by omega)
    rw [hv]
    dsimp only [Kg,ak,bU,aR,bD,aD,bq,dB,dU,cB,aC,bP,bV,bI,aN];simp only [ah7,ahZ,List.length_cons,List.length_nil,hz0,hw1,hge,htk,Int.toNat_natCast,fw,h3',h5,h6,h7,go_sem]
    first | exact ⟨by omega,by omega,by omega,rfl⟩ | omega
   ·have h5:decide (c.e = 4) = false:=ah2 h4
    by_cases h6:c.e = 0
    ·have h6':decide (c.e = 0) = true:=ah0 h6
     by_cases h8:c.hits.length = 1
     ·rw [ahX ⟨h6,h8⟩] at hM
      subst hM
      have h9:decide ((c.hits.length:Int) = 1) = true:=ah0 (by omega)
      rw [hv]
      dsimp only [Kg,ak,bU,aR,bD,aD,bq,dB,dU,cB,aC,bP,bV,bI,aN];simp only [ah7,ahZ,List.length_cons,List.length_nil,hz0,hw1,hge,htk,Int.toNat_natCast,fw,h3',h5,h6',h7,h9,go_sem]
      exact ⟨by omega,by omega,by omega,by omega,rfl⟩
     ·rw [ahY (fun h=>h8 h.2)] at hM
      subst hM
      have h9:decide ((c.hits.length:Int) = 1) = false:=ah2 (by omega)
      rw [hv]
      dsimp only [Kg,ak,bU,aR,bD,aD,bq,dB,dU,cB,aC,bP,bV,bI,aN];simp only [ah7,ahZ,List.length_cons,List.length_nil,hz0,hw1,hge,htk,Int.toNat_natCast,fw,h3',h5,h6',h7,h9,go_sem]
      first | exact ⟨by omega,by omega,by omega,rfl⟩ | omega
    ·have h6':decide (c.e = 0) = false:=ah2 h6
     rw [ahY (fun h=>h6 h.1)] at hM
     subst hM
     rw [hv]
     dsimp only [Kg,ak,bU,aR,bD,aD,bq,dB,dU,cB,aC,bP,bV,bI,aN];simp only [ah7,ahZ,List.length_cons,List.length_nil,hz0,hw1,hge,htk,Int.toNat_natCast,fw,h3',h5,h6',h7,go_sem]
     first | exact ⟨by omega,by omega,by omega,rfl⟩ | omega
end
section
attribute [local go_sem_proc] Nat.reduceAdd Nat.reduceMul Nat.reduceEqDiff Nat.reduceBEq Nat.reduceMod Nat.reduceDiv reduceCtorEq
attribute [local go_sem_proc ↓] reduceIte
open Go Ev Kc
variable {θ : Th} {nm:Int → ByteArray → List ByteArray} {gt:ByteArray → Int → Int → Int × Bool} {up:ByteArray → ByteArray × Bool} {ext:Env} {F n:Nat}
def qZ (θ:Th) (nm:Int → ByteArray → List ByteArray) (up:ByteArray → ByteArray × Bool) (w:Wd) (t:Tk):(Stp × Bool) × Tk :=
 match t.goals.getLast? with
 | none=>((zk,true),t)
 | some g=>yN θ nm up w t.goals.dropLast g t.sends
def AL (θ:Th) (nm:Int → ByteArray → List ByteArray) (up:ByteArray → ByteArray × Bool) (w:Wd):Nat → Tk → Stp × Tk
 | 0,t=>(zk,t)
 | f + 1,t=>if (qZ θ nm up w t).1.2 = true then ((qZ θ nm up w t).1.1,(qZ θ nm up w t).2) else AL θ nm up w f (qZ θ nm up w t).2
theorem mU {w:Wd} {init:List Gl} {g:Gl} {s:Int}:qZ θ nm up w ⟨init ++ [g],s⟩ = yN θ nm up w init g s:=by simp [qZ]
theorem CB {w:Wd} {s:Int}:qZ θ nm up w ⟨[],s⟩ = ((zk,true),⟨[],s⟩):=rfl
theorem EG {l:List Gl} (h:l ≠ []):∃ init g,l = init ++ [g]:=⟨l.dropLast,l.getLast h,(List.dropLast_concat_getLast h).symm⟩
structure abl (t:Tk):Prop where
 g:∀ g ∈ t.goals,g.q.q.size ≤ 1000000
 lo:-9223372036854775808 ≤ t.sends
 hi:t.sends ≤ 9223372036854775807
theorem NV (w:Wd) (sends:Int):G2 ext F (n + 6) 66 [w.v,Tk.pv ⟨[],sends⟩] = some ([zk.v,vb true],[w.v,Tk.pv ⟨[],sends⟩]):=by
 refine cK (cf:=Kg) rfl ?_
 rw [show Tk.pv ⟨[],sends⟩ = .one (.ptr [.own 5 [],.f (.int .i64 sends)]) from rfl]
 have hz:decide (((0:Nat):Int) = 0) = true:=rfl
 dsimp only [Kg,ak,bU,aR,bD,aD,bq,dB,dU,cB,aC,bP,bV,bI,aN];simp only [List.length_nil,hz,go_sem]
 try rfl
theorem NW (S:Sk θ nm gt up ext) (w:Wd) (K:Wk θ nm up w) (hF:200000000000001 ≤ F) (t:Tk) (ht:t.goals.length ≤ 1000) (h:abl t) (M:(Stp × Bool) × Tk) (hM:qZ θ nm up w t = M) :
  G2 ext F (n + 6) 66 [w.v,t.pv] = some ([M.1.1.v,vb M.1.2],[w.v,M.2.pv]):=by
 obtain ⟨l,s⟩:=t
 by_cases h0:l = []
 ·subst h0
  rw [CB] at hM
  subst hM
  exact NV w s
 ·obtain ⟨init,g,rfl⟩:=EG h0
  rw [mU] at hM
  simp only [ah7,List.length_singleton] at ht
  exact step_ok S w K hF init g s (by omega) h.hi h.lo (h.g g (by simp)) M hM
theorem EH {pk:Qn → It × Bool} {fd:Qn → Ne.Nt × Bool} {now:Int}:∀ (f:Nat) (met:List ByteArray) (hits:List nu) (q:Qn),(xO nm pk fd now f met hits q).e = 0 → hits.length < (xO nm pk fd now f met hits q).hits.length
 | 0,met,hits,q,h=>absurd h (by simp [xO])
 | f + 1,met,hits,q,h=>by
  cases h1:tl pk now q with
  | some x=>simp only [xO,h1];simp
  | none =>
   cases h2:al nm pk now q with
   | none =>
    simp only [xO,h1,h2] at h
    unfold Kc.fin at h
    split at h
    ·simp only at h
     split at h <;> exact absurd h (by decide)
    ·simp only at h
     exact absurd h (by decide)
   | some p =>
    obtain ⟨x,ZZ8⟩:=p
    simp only [xO,h1,h2] at h ⊢
    split
    ·rename_i h3;rw [ahX h3] at h;simp only at h;exact absurd h (by decide)
    ·rename_i h3
     rw [ahY h3] at h
     have:=EH f _ _ _ h
     simp only [ah7,List.length_singleton] at this
     omega
theorem RQ {pk:Qn → It × Bool} {fd:Qn → Ne.Nt × Bool} {now:Int} {q:Qn} (h0:(wz nm pk fd now q).e = 0) (h1:(wz nm pk fd now q).hits.length = 1):(pk q).2 = true:=by
 unfold wz at h0 h1
 cases hp:tl pk now q with
 | some x =>
  unfold tl at hp
  split at hp
  ·rename_i hh;exact hh.1
  ·cases hp
 | none =>
  cases ha:al nm pk now q with
  | none =>
   simp only [xO,hp,ha] at h1
   unfold Kc.fin at h1
   split at h1 <;> cases h1
  | some p =>
   obtain ⟨x,ZZ8⟩:=p
   rw [show (9:Nat) = 8 + 1 from rfl] at h0 h1
   rw [xO,hp,ha] at h0 h1
   simp only at h0 h1
   split at h0
   ·simp only at h0;exact absurd h0 (by decide)
   ·rename_i h3
    rw [ahY h3] at h1
    have:=EH _ _ _ _ h0
    simp only [ah7,List.length_singleton,List.length_nil] at this
    omega
theorem Iq {pk:Qn → It × Bool}:∀ (l:List ByteArray) (a:List ByteArray × List ByteArray),(∀ x ∈ a.2,(pk ⟨x,1,1⟩).2 = false) → ∀ x ∈ (l.foldl (kG pk) a).2,(pk ⟨x,1,1⟩).2 = false
 | [],a,h=>h
 | y :: l,a,h=>Iq l _ (by
  unfold kG
  split
  ·exact h
  ·rename_i hy
   intro x hx
   rcases air.mp hx with hx | hx
   ·exact h x hx
   ·rw [aiR.mp hx];exact aiX.mpr hy)
theorem WQ {pk:Qn → It × Bool} {l:List ByteArray}:∀ x ∈ (Ya nm pk l).2,(pk ⟨x,1,1⟩).2 = false:=by
 have key:∀ (l:List ByteArray) (a:List ByteArray × List ByteArray),(∀ x ∈ a.2,(pk ⟨x,1,1⟩).2 = false) → ∀ x ∈ (l.foldl (vQ nm pk) a).2,(pk ⟨x,1,1⟩).2 = false:=by
  intro l
  induction l with
  | nil=>intro a h;exact h
  | cons d l ih=>intro a h;exact ih _ (Iq _ _ h)
 exact key l _ (fun x hx=>by simp at hx)
theorem Ir {pk:Qn → It × Bool} {roots:List ByteArray}:∀ (f:Nat) (z:ByteArray),∀ x ∈ (sN nm up pk roots f z).2.2,(pk ⟨x,1,1⟩).2 = false
 | 0,z,x,h=>by simp [sN] at h
 | f + 1,z,x,h=>by
  unfold sN at h
  split at h
  ·exact WQ x h
  ·split at h
   ·exact Ir f _ x h
   ·simp at h
theorem WR {pk:Qn → It × Bool} {roots:List ByteArray} {q:ByteArray}:∀ x ∈ (cut θ nm up pk roots q).2.2,(pk ⟨x,1,1⟩).2 = false:=by
 intro x h
 unfold cut at h
 split at h
 ·simp at h
 ·exact Ir _ _ x h
def WS (nm:Int → ByteArray → List ByteArray) (w:Wd) (g:Gl):Bool:=decide ((wz nm (bA w.s w.now) (Ne.fE w.m w.now) w.now g.q).e = 0 ∧ (wz nm (bA w.s w.now) (Ne.fE w.m w.now) w.now g.q).hits.length = 1)
def rk (nm:Int → ByteArray → List ByteArray) (w:Wd) (t:Tk):Nat:=match t.goals.getLast? with
 | none=>0
 | some g=>if WS nm w g = true then t.goals.length + 5 else 4 - t.goals.length
theorem NY {w:Wd} {init:List Gl} {g:Gl} {s:Int}:rk nm w ⟨init ++ [g],s⟩ = if WS nm w g = true then init.length + 6 else 3 - init.length:=by
 simp only [rk,List.getLast?_concat,ah7,List.length_singleton]
 split <;> omega
theorem NZ {w:Wd} {t:Tk}:rk nm w t ≤ t.goals.length + 5:=by
 unfold rk
 split
 ·omega
 ·split <;> omega
theorem Iu {l:List Gl} {ns:List ByteArray} {x:ByteArray} (h:Ox l ns = some x):x ∈ ns:=ajS h
theorem N7 {w:Wd} {t:Tk} (h:(qZ θ nm up w t).1.2 = false):rk nm w (qZ θ nm up w t).2 < rk nm w t:=by
 obtain ⟨l,s⟩:=t
 by_cases h0:l = []
 ·subst h0;rw [CB] at h;cases h
 ·obtain ⟨init,g,rfl⟩:=EG h0
  rw [mU] at h ⊢
  rw [NY]
  unfold yN at h ⊢
  simp only at h ⊢
  split
  ·rename_i h3
   rw [ahX h3] at h
   have hno:¬ WS nm w g = true:=fun hk=>by unfold WS at hk;have:=aiB hk;omega
   rw [ahY hno]
   have hcn:=@WR θ nm up (bA w.s w.now) w.roots (wz nm (bA w.s w.now) (Ne.fE w.m w.now) w.now g.q).nm
   generalize cut θ nm up (bA w.s w.now) w.roots _ = R at h hcn ⊢
   unfold JR at h ⊢
   simp only at h ⊢
   split
   ·rename_i h4
    rw [ahX h4] at h
    cases hf:Ox (init ++ [lI R.1 g]) R.2.2 with
    | none=>rw [hf] at h;cases h
    | some x =>
     rw [hf] at h
     simp only at h ⊢
     split
     ·rename_i h5;rw [ahX h5] at h;cases h
     ·rename_i h5
      rw [NY]
      have hx:=hcn x (Iu hf)
      have afT:¬ WS nm w ⟨⟨x,1,1⟩,⟨#[]⟩,0⟩ = true:=fun hk=>by
       unfold WS at hk
       obtain ⟨k1,k2⟩:=aiB hk
       have:=RQ k1 k2
       rw [hx] at this;cases this
      rw [ahY afT]
      simp only [ah7,List.length_singleton] at h5 ⊢
      omega
   ·rename_i h4
    rw [ahY h4] at h
    split at h <;> cases h
  ·rename_i h3
   rw [ahY h3] at h
   split
   ·rename_i h4;rw [ahX h4] at h;cases h
   ·rename_i h4
    rw [ahY h4] at h
    split
    ·rename_i h5
     have hok:WS nm w g = true:=ah0 h5
     rw [ahX hok]
     have:=@NZ nm w ⟨init,s⟩
     simp only at this
     show rk nm w ⟨init,s⟩ < _
     omega
    ·rename_i h5;rw [ahY h5] at h;cases h
end
section
attribute [local go_sem_proc] Nat.reduceAdd Nat.reduceMul Nat.reduceEqDiff Nat.reduceBEq Nat.reduceMod Nat.reduceDiv reduceCtorEq
attribute [local go_sem_proc ↓] reduceIte
open Go Ev Kc
variable {θ : Th} {nm:Int → ByteArray → List ByteArray} {gt:ByteArray → Int → Int → Int × Bool} {up:ByteArray → ByteArray × Bool} {ext:Env} {F n:Nat}
theorem EI {pk:Qn → It × Bool} {Q:ByteArray → Prop}:∀ (l:List ByteArray) (a:List ByteArray × List ByteArray),(∀ x ∈ l,Q x) → (∀ x ∈ a.2,Q x) → ∀ x ∈ (l.foldl (kG pk) a).2,Q x
 | [],a,_,h=>h
 | y :: l,a,hl,h=>EI l _ (fun x hx=>hl x (by simp [hx])) (by
  unfold kG
  split
  ·exact h
  ·intro x hx
   rcases air.mp hx with hx | hx
   ·exact h x hx
   ·rw [aiR.mp hx];exact hl y (by simp))
theorem Iw {pk:Qn → It × Bool} {Q:ByteArray → Prop} (hn:∀ d,∀ x ∈ nm 2 d,Q x):∀ (l:List ByteArray) (a:List ByteArray × List ByteArray),(∀ x ∈ a.2,Q x) → ∀ x ∈ (l.foldl (vQ nm pk) a).2,Q x
 | [],a,h=>h
 | d :: l,a,h=>Iw hn l _ (EI _ _ (hn d) h)
theorem RS {pk:Qn → It × Bool} {roots:List ByteArray} {q:ByteArray} {Q:ByteArray → Prop} (hn:∀ d,∀ x ∈ nm 2 d,Q x):∀ x ∈ (cut θ nm up pk roots q).2.2,Q x:=by
 have hF:∀ (f:Nat) (z:ByteArray),∀ x ∈ (sN nm up pk roots f z).2.2,Q x:=by
  intro f
  induction f with
  | zero=>intro z x h;simp [sN] at h
  | succ f ih =>
   intro z x h
   unfold sN at h
   split at h
   ·exact Iw hn _ _ (fun y hy=>by simp at hy) x h
   ·split at h
    ·exact ih _ x h
    ·simp at h
 intro x h
 unfold cut at h
 split at h
 ·simp at h
 ·exact hF _ _ x h
structure N8 (t:Tk) (N:Nat):Prop extends abl t where
 len:t.goals.length ≤ N
theorem uR {z:ByteArray} {g:Gl}:(lI z g).q = g.q:=by unfold lI;split <;> rfl
theorem Gq (S:Sk θ nm gt up ext) {w:Wd} (hw:w.work ≤ 9223372036854775807) {t:Tk} {N:Nat} (hN:4 ≤ N) (h:N8 t N):N8 (qZ θ nm up w t).2 N:=by
 obtain ⟨l,s⟩:=t
 obtain ⟨⟨h1,h2,h3⟩,h4⟩:=h
 simp only at h1 h2 h3 h4
 by_cases h0:l = []
 ·subst h0;rw [CB];exact ⟨⟨h1,h2,h3⟩,h4⟩
 obtain ⟨init,g,rfl⟩:=EG h0
 rw [ah7,List.length_singleton] at h4
 rw [mU]
 have hg:=h1 g (by simp)
 have hi:=fun x hx=>h1 x (air.mpr (.inl hx))
 have same:N8 ⟨init ++ [g],s⟩ N:=⟨⟨h1,h2,h3⟩,by simpa using h4⟩
 unfold yN
 simp only
 split
 ·have hc:=@RS θ nm up (bA w.s w.now) w.roots (wz nm (bA w.s w.now) (Ne.fE w.m w.now) w.now g.q).nm (fun x=>x.size ≤ 1000000) (fun d x hx=>by have:=(S.nl 2 d).2 x hx;omega)
  generalize cut θ nm up (bA w.s w.now) w.roots _ = R at hc ⊢
  have same':∀ g':Gl,g'.q = g.q → ∀ s', -9223372036854775808 ≤ s' → s' ≤ 9223372036854775807 → N8 ⟨init ++ [g'],s'⟩ N:=fun g' e s' a b=>⟨⟨fun x hx=>by
   rcases air.mp hx with hx | hx
   ·exact hi x hx
   ·rw [aiR.mp hx,e];exact hg,a,b⟩,by simpa using h4⟩
  unfold JR
  simp only
  split
  ·cases hf:Ox (init ++ [lI R.1 g]) R.2.2 with
   | none=>exact same' _ uR _ h2 h3
   | some x =>
    simp only
    split
    ·exact same' _ uR _ h2 h3
    ·rename_i h5
     rw [ah7,List.length_singleton] at h5
     refine ⟨⟨fun y hy=>?_,h2,h3⟩,by simp;omega⟩
     rcases air.mp hy with hy | hy
     ·exact (same' (lI R.1 g) uR s h2 h3).g y hy
     ·rw [aiR.mp hy];exact hc x (Iu hf)
  ·split
   ·exact same' _ uR _ h2 h3
   ·rename_i h6
    exact same' ⟨(lI R.1 g).q,(lI R.1 g).zone,(lI R.1 g).tries + 1⟩ uR _ (by omega) (by omega)
 ·split
  ·exact same
  ·split
   ·exact ⟨⟨hi,h2,h3⟩,by show init.length ≤ N;omega⟩
   ·exact same
theorem EJ (S:Sk θ nm gt up ext) (q:Qn) (hq:q.q.size ≤ 1000000):G2 ext F (n + 2) 34 [q.v] = some ([(Tk.v ⟨[⟨⟨θ.low q.q,q.t,q.c⟩,⟨#[]⟩,0⟩],0⟩)],[q.v]):=by
 refine cK (cf:=c34) rfl ?_
 have h1:=fun n=>aaj (F:=F) (n:=n) S q.q hq
 dsimp only [c34,ak,bU,aR,bD,aD,bq,dB,dU,cB,aC,bP,bV,bI,aN];simp only [h1,go_sem]
 rfl
structure Cs where
 l:List Pt
 now:Int
 roots:List ByteArray
 work:Int
def rC (c:Cs):List FV:=[.sl (c.l.map rP),.int .i64 c.now,.sl (c.roots.map aY),.int .i64 c.work]
abbrev Cs.v (c:Cs):AV:=.agg [.f (.sl (c.l.map rP)),.f (.int .i64 c.now),.f (.sl (c.roots.map aY)),.f (.int .i64 c.work)]
abbrev Cs.ov (c:Cs):AV:=.agg [.own 10 (c.l.map rP),.f (.int .i64 c.now),.f (.sl (c.roots.map aY)),.f (.int .i64 c.work)]
def Cs.w (θ:Th) (gt:ByteArray → Int → Int → Int × Bool) (c:Cs):Wd:=⟨(mD θ gt c.l).1,(mD θ gt c.l).2,c.now,c.roots,c.work⟩
theorem EK (S:Sk θ nm gt up ext) (c:Cs) (hl:c.l.length ≤ 1000) (hf:kF c.l = true):G2 ext F (n + 2) 25 [c.v] = some ([(c.w θ gt).v],[c.v]):=by
 refine cK (cf:=Mt) rfl ?_
 have h1:=fun n=>ae4 (F:=F) (n:=n) S c.l hl hf
 unfold Cs.w
 generalize (mD θ gt c.l).1 = s at h1 ⊢
 generalize (mD θ gt c.l).2 = m at h1 ⊢
 dsimp only [Mt,ak,bU,aR,bD,aD,bq,dB,dU,cB,aC,bP,bV,bI,aN];simp only [h1,go_sem]
 done
theorem uS (S:Sk θ nm gt up ext) (c:Cs) (hl:c.l.length ≤ 1000) (hf:kF c.l = true):G2 ext F (n + 2) 25 [c.ov] = some ([(c.w θ gt).v],[c.ov]):=by
 refine cK (cf:=Mt) rfl ?_
 have h1:=fun n=>ae5 (F:=F) (n:=n) S c.l hl hf
 unfold Cs.w
 generalize (mD θ gt c.l).1 = s at h1 ⊢
 generalize (mD θ gt c.l).2 = m at h1 ⊢
 dsimp only [Mt,ak,bU,aR,bD,aD,bq,dB,dU,cB,aC,bP,bV,bI,aN];simp only [h1,go_sem]
 done
theorem yO (a:ByteArray) (k:Int) (d:ByteArray):G2 ext F (n + 1) 64 [vs a,vi k,vs d] = some ([(Se.v ⟨a,k,1,[d],99⟩)],[vs a,vi k,vs d]):=by
 refine cK (cf:=c64) rfl ?_
 dsimp only [c64,ak,bU,aR,bD,aD,bq,dB,dU,cB,aC,bP,bV,bI,aN];simp only [go_sem]
 try rfl
end
section
attribute [local go_sem_proc] Nat.reduceAdd Nat.reduceMul Nat.reduceEqDiff Nat.reduceBEq Nat.reduceMod Nat.reduceDiv reduceCtorEq
attribute [local go_sem_proc ↓] reduceIte
open Go Ev Kc
variable {θ : Th} {nm:Int → ByteArray → List ByteArray} {gt:ByteArray → Int → Int → Int × Bool} {up:ByteArray → ByteArray × Bool} {ext:Env} {F n:Nat}
def nxT (w:Wd) (b:Bool) (x:Tk):St:=match b with
 | false=>⟨[(2,PV.c (CV.one (PL.ptr 60000 0))),(3,PV.c (CV.one (PL.ptr 80000 0))),(4,PV.c (CV.one (PL.ptr 100000 0))),(5,PV.c (CV.one (PL.ptr 120000 0)))],[(20201,Ob.dM [PL.f (FV.int IntKind.i64 w.s.room),PL.mp 20205,PL.f (FV.sl (List.map rQ w.s.o)),PL.f (FV.int IntKind.i64 w.s.ch)]),(20205,Ob.map kJ (List.map ent w.s.m)),(20401,Ob.dM [PL.f (FV.int IntKind.i64 w.m.room),PL.mp 20405,PL.f (FV.sl (List.map rQ w.m.o)),PL.f (FV.int IntKind.i64 w.m.ch)]),(20405,Ob.map Ne.kJ (List.map Ne.ent w.m.m)),(60000,Ob.dM [PL.ptr 20201 0,PL.ptr 20401 0,PL.f (FV.int IntKind.i64 w.now),PL.f (FV.sl (List.map aY w.roots)),PL.f (FV.int IntKind.i64 w.work)]),(80000,Ob.dM [PL.own 220200 (List.map rG x.goals).length,PL.f (FV.int IntKind.i64 x.sends)]),(100000,Ob.dM [PL.bK,PL.f (FV.int IntKind.i64 0)]),(120000,Ob.dM [PL.f (FV.int IntKind.i64 0),PL.bK,PL.f (FV.int IntKind.i64 0),PL.f (FV.str ⟨#[]⟩),PL.f (FV.str ⟨#[]⟩),PL.f (FV.int IntKind.i64 0),PL.f (FV.int IntKind.i64 0),PL.bK,PL.f (FV.int IntKind.i64 0),PL.f (FV.int IntKind.i64 0),PL.f (FV.str ⟨#[]⟩),PL.f (FV.str ⟨#[]⟩),PL.f (FV.int IntKind.i64 0),PL.f (FV.int IntKind.i64 0),PL.f (FV.str ⟨#[]⟩)]),(220200,Ob.row 5 (List.map rG x.goals))]⟩
 | true=>⟨[(2,PV.c (CV.one (PL.ptr 60000 0))),(3,PV.c (CV.one (PL.ptr 80000 0))),(4,PV.c (CV.one (PL.ptr 100000 0))),(5,PV.c (CV.one (PL.ptr 120000 0)))],[(20201,Ob.dM [PL.f (FV.int IntKind.i64 w.s.room),PL.mp 310004,PL.f (FV.sl (List.map rQ w.s.o)),PL.f (FV.int IntKind.i64 w.s.ch)]),(20401,Ob.dM [PL.f (FV.int IntKind.i64 w.m.room),PL.mp 310204,PL.f (FV.sl (List.map rQ w.m.o)),PL.f (FV.int IntKind.i64 w.m.ch)]),(60000,Ob.dM [PL.ptr 20201 0,PL.ptr 20401 0,PL.f (FV.int IntKind.i64 w.now),PL.f (FV.sl (List.map aY w.roots)),PL.f (FV.int IntKind.i64 w.work)]),(80000,Ob.dM [PL.own 220200 (List.map rG x.goals).length,PL.f (FV.int IntKind.i64 x.sends)]),(100000,Ob.dM [PL.bK,PL.f (FV.int IntKind.i64 0)]),(120000,Ob.dM [PL.f (FV.int IntKind.i64 0),PL.bK,PL.f (FV.int IntKind.i64 0),PL.f (FV.str ⟨#[]⟩),PL.f (FV.str ⟨#[]⟩),PL.f (FV.int IntKind.i64 0),PL.f (FV.int IntKind.i64 0),PL.bK,PL.f (FV.int IntKind.i64 0),PL.f (FV.int IntKind.i64 0),PL.f (FV.str ⟨#[]⟩),PL.f (FV.str ⟨#[]⟩),PL.f (FV.int IntKind.i64 0),PL.f (FV.int IntKind.i64 0),PL.f (FV.str ⟨#[]⟩)]),(220200,Ob.row 5 (List.map rG x.goals)),(310004,Ob.map kJ (List.map ent w.s.m)),(310204,Ob.map Ne.kJ (List.map Ne.ent w.m.m))]⟩
theorem TR (w:Wd) (x:Tk):nxT w false x = ⟨[(2,PV.c (CV.one (PL.ptr 60000 0))),(3,PV.c (CV.one (PL.ptr 80000 0))),(4,PV.c (CV.one (PL.ptr 100000 0))),(5,PV.c (CV.one (PL.ptr 120000 0)))],[(20201,Ob.dM [PL.f (FV.int IntKind.i64 w.s.room),PL.mp 20205,PL.f (FV.sl (List.map rQ w.s.o)),PL.f (FV.int IntKind.i64 w.s.ch)]),(20205,Ob.map kJ (List.map ent w.s.m)),(20401,Ob.dM [PL.f (FV.int IntKind.i64 w.m.room),PL.mp 20405,PL.f (FV.sl (List.map rQ w.m.o)),PL.f (FV.int IntKind.i64 w.m.ch)]),(20405,Ob.map Ne.kJ (List.map Ne.ent w.m.m)),(60000,Ob.dM [PL.ptr 20201 0,PL.ptr 20401 0,PL.f (FV.int IntKind.i64 w.now),PL.f (FV.sl (List.map aY w.roots)),PL.f (FV.int IntKind.i64 w.work)]),(80000,Ob.dM [PL.own 220200 (List.map rG x.goals).length,PL.f (FV.int IntKind.i64 x.sends)]),(100000,Ob.dM [PL.bK,PL.f (FV.int IntKind.i64 0)]),(120000,Ob.dM [PL.f (FV.int IntKind.i64 0),PL.bK,PL.f (FV.int IntKind.i64 0),PL.f (FV.str ⟨#[]⟩),PL.f (FV.str ⟨#[]⟩),PL.f (FV.int IntKind.i64 0),PL.f (FV.int IntKind.i64 0),PL.bK,PL.f (FV.int IntKind.i64 0),PL.f (FV.int IntKind.i64 0),PL.f (FV.str ⟨#[]⟩),PL.f (FV.str ⟨#[]⟩),PL.f (FV.int IntKind.i64 0),PL.f (FV.int IntKind.i64 0),PL.f (FV.str ⟨#[]⟩)]),(220200,Ob.row 5 (List.map rG x.goals))]⟩:=rfl
theorem TS (w:Wd) (x:Tk):nxT w true x = ⟨[(2,PV.c (CV.one (PL.ptr 60000 0))),(3,PV.c (CV.one (PL.ptr 80000 0))),(4,PV.c (CV.one (PL.ptr 100000 0))),(5,PV.c (CV.one (PL.ptr 120000 0)))],[(20201,Ob.dM [PL.f (FV.int IntKind.i64 w.s.room),PL.mp 310004,PL.f (FV.sl (List.map rQ w.s.o)),PL.f (FV.int IntKind.i64 w.s.ch)]),(20401,Ob.dM [PL.f (FV.int IntKind.i64 w.m.room),PL.mp 310204,PL.f (FV.sl (List.map rQ w.m.o)),PL.f (FV.int IntKind.i64 w.m.ch)]),(60000,Ob.dM [PL.ptr 20201 0,PL.ptr 20401 0,PL.f (FV.int IntKind.i64 w.now),PL.f (FV.sl (List.map aY w.roots)),PL.f (FV.int IntKind.i64 w.work)]),(80000,Ob.dM [PL.own 220200 (List.map rG x.goals).length,PL.f (FV.int IntKind.i64 x.sends)]),(100000,Ob.dM [PL.bK,PL.f (FV.int IntKind.i64 0)]),(120000,Ob.dM [PL.f (FV.int IntKind.i64 0),PL.bK,PL.f (FV.int IntKind.i64 0),PL.f (FV.str ⟨#[]⟩),PL.f (FV.str ⟨#[]⟩),PL.f (FV.int IntKind.i64 0),PL.f (FV.int IntKind.i64 0),PL.bK,PL.f (FV.int IntKind.i64 0),PL.f (FV.int IntKind.i64 0),PL.f (FV.str ⟨#[]⟩),PL.f (FV.str ⟨#[]⟩),PL.f (FV.int IntKind.i64 0),PL.f (FV.int IntKind.i64 0),PL.f (FV.str ⟨#[]⟩)]),(220200,Ob.row 5 (List.map rG x.goals)),(310004,Ob.map kJ (List.map ent w.s.m)),(310204,Ob.map Ne.kJ (List.map Ne.ent w.m.m))]⟩:=rfl
theorem CG (S:Sk θ nm gt up ext) (w:Wd) (K:Wk θ nm up w) (hF:200000000000001 ≤ F) (t:Tk) (ht:N8 t 900) (R:Stp × Tk) (hR:AL θ nm up w (t.goals.length + 6) t = R) :
  G2 ext F (n + 7) 26 [w.v,t.v] = some ([R.2.v,R.1.v],[w.v,t.v]):=by
 refine cK (cf:=c26) rfl ?_
 have cg:=fun n=>ae3 (F:=F) (n:=n) S t.goals (by have:=ht.len;omega)
 have htl:=ht.len
 dsimp only [c26,ak,bU,aR,bD,aD,bq,dB,dU,cB,aC,bP,bV,bI,aN];simp only [cg,go_sem]
 refine uY (t.goals.length + 6) (fun x:Bool × Tk=>nxT w x.1 x.2) (fun i x=>N8 x.2 900 ∧ rk nm w x.2 + i < t.goals.length + 6 ∧ AL θ nm up w (t.goals.length + 6 - i) x.2 = R) (by omega) (false,t) rfl ⟨ht,by have:=@NZ nm w t;show rk nm w t + 0 < _;omega,hR⟩ (fun i x hi hP=>?_) (fun x hP=>absurd hP.2.1 (by omega))
 obtain ⟨b,x⟩:=x
 obtain ⟨h1,h2,h3⟩:=hP
 simp only at h1 h2 h3 ⊢
 have st:=fun n=>NW (F:=F) (n:=n) S w K hF x (by have:=h1.len;omega) h1.toabl _ rfl
 have hb:=Gq S K.hw (N:=900) (by decide) h1
 obtain ⟨f,hff⟩:∃ f,t.goals.length + 6 - i = f + 1:=⟨t.goals.length + 5 - i,by omega⟩
 rw [hff] at h3
 unfold AL at h3
 have hrk:=@N7 θ nm up w x
 generalize qZ θ nm up w x = M at st hb h3 hrk
 obtain ⟨⟨M1,M2⟩,M3⟩:=M
 simp only at st hb h3 hrk
 cases M2 with
 | true =>
  rw [ahX rfl] at h3
  subst h3
  cases b
  all_goals
   first | rw [TR] | rw [TS]
   simp only [st,go_sem]
   try rfl
 | false =>
  rw [ahY aiZ] at h3
  have hlt:=hrk rfl
  cases b
  all_goals
   first | rw [TR] | rw [TS]
   simp only [st,go_sem]
   exact ⟨(true,M3),rfl,hb,by show rk nm w M3 + (i + 1) < _;omega,by rw [show t.goals.length + 6 - (i + 1) = f from by omega];exact h3⟩
end
section
open Go Ev Kc
variable {θ : Th} {nm:Int → ByteArray → List ByteArray} {gt:ByteArray → Int → Int → Int × Bool} {up:ByteArray → ByteArray × Bool} {ext:Env} {F n:Nat}
theorem EL {pk:Qn → It × Bool} (hp:∀ q,(pk q).1.d.length ≤ 60):∀ (l:List ByteArray) (a:List ByteArray × List ByteArray),(l.foldl (kG pk) a).1.length ≤ a.1.length + 60 * l.length ∧ (l.foldl (kG pk) a).2.length ≤ a.2.length + l.length
 | [],a=>by simp
 | y :: l,a=>by
  have:=EL hp l (kG pk a y)
  have h2:(kG pk a y).1.length ≤ a.1.length + 60 ∧ (kG pk a y).2.length ≤ a.2.length + 1:=by
   have:=hp ⟨y,1,1⟩
   unfold kG
   split
   ·simp only [ah7];omega
   ·simp only [ah7,List.length_singleton];omega
  simp only [List.foldl_cons,List.length_cons]
  omega
theorem Iy {pk:Qn → It × Bool} (hp:∀ q,(pk q).1.d.length ≤ 60) (hn:∀ d,(nm 2 d).length ≤ 2):∀ (l:List ByteArray) (a:List ByteArray × List ByteArray),(l.foldl (vQ nm pk) a).1.length ≤ a.1.length + 120 * l.length ∧ (l.foldl (vQ nm pk) a).2.length ≤ a.2.length + 2 * l.length
 | [],a=>by simp
 | y :: l,a=>by
  have h1:=Iy hp hn l (vQ nm pk a y)
  have h2:=EL hp (nm 2 y) a
  have h3:=hn y
  have h4:(vQ nm pk a y).1.length ≤ a.1.length + 120 ∧ (vQ nm pk a y).2.length ≤ a.2.length + 2:=by
   unfold vQ;omega
  simp only [List.foldl_cons,List.length_cons]
  omega
theorem RU {pk:Qn → It × Bool} (hp:∀ q,(pk q).1.d.length ≤ 60) (hn:∀ d,(nm 2 d).length ≤ 2) {roots:List ByteArray} (hr:roots.length ≤ 1000000) (q:ByteArray):(cut θ nm up pk roots q).2.1.length ≤ 1000000 ∧ (cut θ nm up pk roots q).2.2.length ≤ 1000000:=by
 have hF:∀ (f:Nat) (z:ByteArray),(sN nm up pk roots f z).2.1.length ≤ 1000000 ∧ (sN nm up pk roots f z).2.2.length ≤ 1000000:=by
  intro f
  induction f with
  | zero=>intro z;exact ⟨hr,by simp [sN]⟩
  | succ f ih =>
   intro z
   unfold sN
   split
   ·have h1:=Iy hp hn (pk ⟨z,2,1⟩).1.d ([],[])
    have h2:=hp ⟨z,2,1⟩
    simp only [List.length_nil] at h1
    unfold Ya
    simp only
    omega
   ·split
    ·exact ih _
    ·exact ⟨hr,by simp⟩
 unfold cut
 split
 ·simp
 ·exact hF _ _
theorem Oa {pk:Qn → It × Bool} {fd:Qn → Ne.Nt × Bool} {now:Int} (hn:∀ d,∀ x ∈ nm 5 d,x.size ≤ 255):∀ (f:Nat) (met:List ByteArray) (hits:List nu) (q:Qn),q.q.size ≤ 1000000 → (xO nm pk fd now f met hits q).nm.size ≤ 1000000
 | 0,met,hits,q,h=>h
 | f + 1,met,hits,q,h=>by
  cases h1:tl pk now q with
  | some x=>simp only [xO,h1];exact h
  | none =>
   cases h2:al nm pk now q with
   | none =>
    simp only [xO,h1,h2]
    unfold Kc.fin
    split <;> exact h
   | some p =>
    obtain ⟨x,ZZ8⟩:=p
    simp only [xO,h1,h2]
    split
    ·exact h
    ·refine Oa hn f _ _ _ ?_
     unfold al at h2
     split at h2
     ·cases h2
     ·obtain ⟨y,hy,h3⟩:=zbm h2
      obtain ⟨z,hz,h4⟩:=zmm h3
      cases h4
      unfold tg at hz
      split at hz
      ·obtain ⟨d, -,hd⟩:=zbm hz
       have:=hn d ZZ8 (List.mem_of_mem_head? hd)
       show ZZ8.size ≤ 1000000
       omega
      ·cases hz
theorem WT {pk:Qn → It × Bool} {fd:Qn → Ne.Nt × Bool} {now:Int} (hn:∀ d,∀ x ∈ nm 5 d,x.size ≤ 255) (q:Qn) (h:q.q.size ≤ 1000000):(wz nm pk fd now q).nm.size ≤ 1000000:=Oa hn 9 _ _ q h
theorem abm {s:Sv} {now:Int} (h:∀ x ∈ s.m,x.d.length ≤ 60) (q:Qn):(bA s now q).1.d.length ≤ 60:=by
 unfold bA
 split
 ·rename_i x ho
  split
  ·exact h x (jD ho).2
  ·exact aiy _
 ·exact aiy _
theorem WU {l:List Pt} (hf:kF l = true):∀ x ∈ (mD θ gt l).1.m,x.d.length ≤ 60:=fun x hx=>by
 obtain ⟨p,hp, -,rfl⟩:=(fiA (θ:=θ) (gt:=gt) l).s.it x hx
 have:=aib.mp hf p hp
 rw [ah5] at this
 exact (Ac this.1).2.1
theorem TT (S:Sk θ nm gt up ext) (c:Cs) (hf:kF c.l = true) (hr:c.roots.length ≤ 1000000) (hw:c.work ≤ 9223372036854775807):Wk θ nm up (c.w θ gt):=by
 have W:=(fiA (θ:=θ) (gt:=gt) c.l).w hf
 refine ⟨W,W.hd,W.hy,hr,hw,fun q=>?_,fun q h=>WT (fun d x hx=>(S.nl 5 d).2 x hx) q h⟩
 have:=RU (θ:=θ) (nm:=nm) (up:=up) (pk:=bA (c.w θ gt).s (c.w θ gt).now) (abm (WU hf)) (fun d=>(S.nl 2 d).1) (roots:=c.roots) hr q
 exact ⟨aij this.1 (by decide),aij this.2 (by decide)⟩
end
section
attribute [local go_sem_proc] Nat.reduceAdd Nat.reduceMul Nat.reduceEqDiff Nat.reduceBEq Nat.reduceMod Nat.reduceDiv reduceCtorEq
attribute [local go_sem_proc ↓] reduceIte
open Go Ev Kc
variable {θ : Th} {nm:Int → ByteArray → List ByteArray} {gt:ByteArray → Int → Int → Int × Bool} {up:ByteArray → ByteArray × Bool} {ext:Env} {F n:Nat}
abbrev Oc (c:Cs):Prop:=(kF c.l = true ∧ (c.l.length:Int) ≤ 40) ∧ (c.roots.length:Int) ≤ 20
theorem Gr (hs:∀ (l:List Pt) (m:Int),l.length ≤ 200000000000000 → (∀ x ∈ l,x.s.d.length ≤ 200000000000000) → ext 10 [vl (l.map rP),vi m] = some ([vi (if kF l = true ∧ (l.length:Int) ≤ m then 1 else 0)],[vl (l.map rP),vi m])) (c:Cs) (hl:c.l.length ≤ 200000000000000) (hd:∀ x ∈ c.l,x.s.d.length ≤ 200000000000000) (hr:c.roots.length ≤ 200000000000000):G2 ext F (n + 2) 23 [c.v] = some ([vb (decide (Oc c))],[c.v]):=by
 refine cK (cf:=c23) rfl ?_
 have h1:=fun n=>(aiD (gN (oz:=oz) (ext:=ext) (F:=F) (n:=n) (f:=10) rfl) _).trans (hs c.l 40 hl hd)
 by_cases h:kF c.l = true ∧ (c.l.length:Int) ≤ 40
 ·rw [ahX h] at h1
  have z1:decide ((1:Int) = 1) = true:=rfl
  by_cases h2:(c.roots.length:Int) ≤ 20
  ·have h2':decide ((c.roots.length:Int) ≤ 20) = true:=ah0 h2
   rw [ah0 (show Oc c from ⟨h,h2⟩)]
   dsimp only [c23,ak,bU,aR,bD,aD,bq,dB,dU,cB,aC,bP,bV,bI,aN];simp only [h1,z1,h2',ahZ,go_sem]
   try rfl
  ·have h2':decide ((c.roots.length:Int) ≤ 20) = false:=ah2 h2
   rw [ah2 (show ¬ Oc c from fun x=>h2 x.2)]
   dsimp only [c23,ak,bU,aR,bD,aD,bq,dB,dU,cB,aC,bP,bV,bI,aN];simp only [h1,z1,h2',ahZ,go_sem]
   try rfl
 ·rw [ahY h] at h1
  have z1:decide ((0:Int) = 1) = false:=rfl
  rw [ah2 (show ¬ Oc c from fun x=>h x.1)]
  dsimp only [c23,ak,bU,aR,bD,aD,bq,dB,dU,cB,aC,bP,bV,bI,aN];simp only [h1,z1,go_sem]
  try rfl
end
section
open Go Ev Kc
variable {θ : Th} {nm:Int → ByteArray → List ByteArray} {up:ByteArray → ByteArray × Bool}
theorem abn {z:ByteArray} {g:Gl}:lI z (lI z g) = lI z g:=by
 unfold lI
 by_cases h:z = g.zone
 ·simp [h]
 ·simp [h]
theorem JU {R:ByteArray × List ByteArray × List ByteArray} {work:Int} {init:List Gl} {g:Gl} {s:Int} {q:ByteArray} (h:(JR R work init g s q).1.2 = true) (hk:(JR R work init g s q).1.1.kind ≠ 0) :
  (JR R work init g s q).1 = (zk,true) ∧ (JR R work init g s q).2 = ⟨init ++ [lI R.1 g],s⟩ ∧ JR R work init (lI R.1 g) s q = ((zk,true),⟨init ++ [lI R.1 g],s⟩):=by
 unfold JR at h hk ⊢
 simp only [abn] at h hk ⊢
 by_cases h4:R.2.1 = []
 ·simp only [h4,aiu] at h hk ⊢
  cases hf:Ox (init ++ [lI R.1 g]) R.2.2 with
  | none=>first | exact ⟨rfl,rfl,rfl⟩ | simp
  | some x =>
   rw [hf] at h hk
   simp only at h hk ⊢
   by_cases h5:3 < (init ++ [lI R.1 g]).length
   ·simp only [h5,aiu];first | exact ⟨rfl,rfl,rfl⟩ | simp
   ·rw [ahY h5] at h;cases h
 ·simp only [ahY h4] at h hk ⊢
  by_cases h5:(lI R.1 g).tries < 0 ∨ 2 * (R.2.1.length:Int) ≤ (lI R.1 g).tries ∨ work ≤ s
  ·simp only [ahX h5];first | exact ⟨rfl,rfl,rfl⟩ | simp
  ·simp only [ahY h5] at hk;exact absurd rfl hk
theorem JV {w:Wd} {t:Tk} (h:(qZ θ nm up w t).1.2 = true) (hk:(qZ θ nm up w t).1.1.kind ≠ 0):qZ θ nm up w (qZ θ nm up w t).2 = qZ θ nm up w t:=by
 obtain ⟨l,s⟩:=t
 by_cases h0:l = []
 ·subst h0;rfl
 obtain ⟨init,g,rfl⟩:=EG h0
 rw [mU] at h hk ⊢
 unfold yN at h hk ⊢
 simp only at h hk ⊢
 by_cases h3:(wz nm (bA w.s w.now) (Ne.fE w.m w.now) w.now g.q).e = 3
 ·rw [ahX h3] at h hk ⊢
  obtain ⟨e1,e2,e3⟩:=JU h hk
  rw [e2,mU]
  unfold yN
  simp only [uR,ahX h3]
  rw [e3]
  exact Prod.ext e1.symm e2.symm
 ·rw [ahY h3] at h hk ⊢
  split
  ·rename_i h4
   rw [mU];unfold yN;simp only [ahY h3,ahX h4]
  ·rename_i h4
   rw [ahY h4] at h hk
   split
   ·rename_i h5;rw [ahX h5] at h;cases h
   ·rename_i h5
    rw [mU];unfold yN;simp only [ahY h3,ahY h4,ahY h5]
theorem AO {w:Wd}:∀ (f:Nat) (t:Tk),rk nm w t < f → (AL θ nm up w f t).1.kind ≠ 0 → ∀ k,AL θ nm up w (k + 1) (AL θ nm up w f t).2 = AL θ nm up w f t
 | 0,t,h,_,_=>absurd h (by omega)
 | f + 1,t,h,hk,k=>by
  unfold AL at hk
  rw [show AL θ nm up w (f + 1) t = if (qZ θ nm up w t).1.2 = true then ((qZ θ nm up w t).1.1,(qZ θ nm up w t).2) else AL θ nm up w f (qZ θ nm up w t).2 from rfl]
  cases he:(qZ θ nm up w t).1.2 with
  | true =>
   rw [ahX he] at hk
   rw [ahX rfl]
   simp only at hk ⊢
   have:=JV he hk
   unfold AL
   rw [this,ahX he]
  | false =>
   rw [ahY (by rw [he];exact aiZ)] at hk
   rw [ahY aiZ]
   exact AO f _ (by have:=N7 he;omega) hk k
end
section
attribute [local go_sem_proc] Nat.reduceAdd Nat.reduceMul Nat.reduceEqDiff Nat.reduceBEq Nat.reduceMod Nat.reduceDiv reduceCtorEq
attribute [local go_sem_proc ↓] reduceIte
open Go Ev Kc
variable {θ : Th} {nm:Int → ByteArray → List ByteArray} {gt:ByteArray → Int → Int → Int × Bool} {up:ByteArray → ByteArray × Bool} {ext:Env} {F n:Nat}
def toT (t:Tk) (i:Nat) (gs:List Gl):St:=match gs with
 | []=>⟨[(1,PV.c (CV.one (PL.ptr 40000 0))),(2,PV.c (CV.one (PL.ptr 60000 0))),(3,PV.c (CV.one (PL.ptr 80000 0))),(4,PV.c (CV.one (PL.f (FV.int IntKind.i64 i))))],[(40000,Ob.dM [PL.f (FV.sl (t.goals.map rG)),PL.f (FV.int .i64 t.sends)]),(60000,Ob.dM [PL.bK,PL.f (FV.int .i64 0)]),(80000,Ob.dM [PL.bK,PL.f (FV.int .i64 t.sends)])]⟩
 | _=>⟨[(1,PV.c (CV.one (PL.ptr 40000 0))),(2,PV.c (CV.one (PL.ptr 60000 0))),(3,PV.c (CV.one (PL.ptr 80000 0))),(4,PV.c (CV.one (PL.f (FV.int IntKind.i64 i))))],[(40000,Ob.dM [PL.f (FV.sl (t.goals.map rG)),PL.f (FV.int .i64 t.sends)]),(60000,Ob.dM [PL.bK,PL.f (FV.int .i64 0)]),(80000,Ob.dM [PL.own 480000 (gs.map rG).length,PL.f (FV.int .i64 t.sends)]),(480000,Ob.row 5 (gs.map rG))]⟩
theorem Od (t:Tk) (i:Nat):toT t i [] = ⟨[(1,PV.c (CV.one (PL.ptr 40000 0))),(2,PV.c (CV.one (PL.ptr 60000 0))),(3,PV.c (CV.one (PL.ptr 80000 0))),(4,PV.c (CV.one (PL.f (FV.int IntKind.i64 i))))],[(40000,Ob.dM [PL.f (FV.sl (t.goals.map rG)),PL.f (FV.int .i64 t.sends)]),(60000,Ob.dM [PL.bK,PL.f (FV.int .i64 0)]),(80000,Ob.dM [PL.bK,PL.f (FV.int .i64 t.sends)])]⟩:=rfl
theorem CJ (t:Tk) (i:Nat) (gs:List Gl) (h:gs ≠ []):toT t i gs = ⟨[(1,PV.c (CV.one (PL.ptr 40000 0))),(2,PV.c (CV.one (PL.ptr 60000 0))),(3,PV.c (CV.one (PL.ptr 80000 0))),(4,PV.c (CV.one (PL.f (FV.int IntKind.i64 i))))],[(40000,Ob.dM [PL.f (FV.sl (t.goals.map rG)),PL.f (FV.int .i64 t.sends)]),(60000,Ob.dM [PL.bK,PL.f (FV.int .i64 0)]),(80000,Ob.dM [PL.own 480000 (gs.map rG).length,PL.f (FV.int .i64 t.sends)]),(480000,Ob.row 5 (gs.map rG))]⟩:=by
 cases gs with
 | nil=>exact absurd rfl h
 | cons a l=>rfl
theorem Oe {α:Type} (l:List α):l = [] ∨ l ≠ []:=by by_cases h:l = [] <;> simp [h]
theorem JW (t:Tk) (hl:t.goals.length ≤ 1000000) (hF:200000000000001 ≤ F):G2 ext F (n + 1) 31 [t.v] = some ([t.v],[t.v]):=by
 refine cK (cf:=c31) rfl ?_
 dsimp only [c31,ak,bU,aR,bD,aD,bq,dB,dU,cB,aC,bP,bV,bI,aN];simp only [go_sem]
 refine jH t.goals.length (fun i=>toT t i (t.goals.take i)) (fun i=>True) (by omega) rfl trivial (fun i hi hP=>?_) (fun hP=>?_)
 ·obtain ⟨x,hx,hlt,ht,h0⟩:=at_ hi
  have hn:=nx hi (by omega)
  have hsx:(t.goals.take (i + 1)).map rG = (t.goals.take i).map rG ++ [[.str x.q.q,.int .i64 x.q.t,.int .i64 x.q.c,.str x.zone,.int .i64 x.tries]]:=by rw [aiL,hx];simp [rG]
  have hg:t.goals.take (i + 1) ≠ []:=by
   intro e
   have hle:(t.goals.take (i + 1)).length = i + 1:=by rw [aia];omega
   rw [e] at hle
   cases hle
  have hszz:(((t.goals.take i).map rG).length + 1) * 56 ≤ 140737488355328:=by simp;omega
  rw [CJ _ _ _ hg]
  rcases Oe (t.goals.take i) with hz0 | hz0
  ·rw [hsx,hz0,Od]
   simp only [ahZ,ah3,hlt,hx,ht,h0,rG,hn,go_sem]
   try decide
  ·rw [hsx,CJ _ _ _ hz0]
   simp only [ah3,hlt,hx,ht,h0,rG,hn,hszz,ahZ,go_sem]
   simp
   omega
 ·have hde:=@end_ _ t.goals
  rw [aiC]
  rcases Oe t.goals with hz0 | hz0
  ·obtain ⟨gs,s⟩:=t
   obtain rfl:gs = []:=hz0
   rw [Od]
   simp only [Tk.v,ail,List.length_nil] at hde ⊢
   simp only [hde,List.length_nil,go_sem]
   try rfl
  ·rw [CJ _ _ _ hz0]
   simp only [hde,ahZ,go_sem]
   try rfl
structure ExT (ext:Env):Prop where
 sm:∀ (l:List Pt) (m:Int),l.length ≤ 200000000000000 → (∀ x ∈ l,x.s.d.length ≤ 200000000000000) → ext 10 [vl (l.map rP),vi m] = some ([vi (if kF l = true ∧ (l.length:Int) ≤ m then 1 else 0)],[vl (l.map rP),vi m])
 td:∀ k:Ch,k.hits.length ≤ 1000000 → ext 17 [k.v] = some ([k.v],[k.v])
 sa:∀ k:Ch,k.hits.length ≤ 1000000 → (∀ h ∈ k.hits,h.s.d.length ≤ 1000000000000) → k.iB.s.d.length ≤ 1000000000000 → ext 16 [k.v,k.v] = some ([vb true],[k.v,k.v])
theorem zz {f:FuncId} (h:Ev.look oz f = none) (dV:List AV) (r) (he:ext f dV = some r) (n:Nat):G2 ext F (n + 1) f dV = some r:=(aiD (gN h) _).trans he
theorem JX (E:ExT ext) (x:Stp) (hx:x.ch.hits.length ≤ 1000000):G2 ext F (n + 2) 33 [x.v] = some ([x.v],[x.v]):=by
 refine cK (cf:=c33) rfl ?_
 have h1:=fun n=>zz (F:=F) (f:=17) rfl _ _ (E.td x.ch hx) n
 dsimp only [c33,ak,bU,aR,bD,aD,bq,dB,dU,cB,aC,bP,bV,bI,aN];simp only [h1,go_sem]
 try rfl
structure ChB (k:Ch):Prop where
 a:k.hits.length ≤ 1000000
 b:∀ h ∈ k.hits,h.s.d.length ≤ 1000000000000
 c:k.iB.s.d.length ≤ 1000000000000
theorem EM (E:ExT ext) (x:Stp) (hx:ChB x.ch):G2 ext F (n + 2) 32 [x.v,x.v] = some ([vb true],[x.v,x.v]):=by
 refine cK (cf:=c32) rfl ?_
 have h1:=fun n=>zz (F:=F) (f:=16) rfl _ _ (E.sa x.ch hx.a hx.b hx.c) n
 dsimp only [c32,ak,bU,aR,bD,aD,bq,dB,dU,cB,aC,bP,bV,bI,aN];simp only [h1,decide_true,go_sem]
 try rfl
theorem EN (t:Tk) (hl:t.goals.length ≤ 1000000) (hF:200000000000001 ≤ F):G2 ext F (n + 1) 30 [t.v,t.v] = some ([vb true],[t.v,t.v]):=by
 refine cK (cf:=c30) rfl ?_
 dsimp only [c30,ak,bU,aR,bD,aD,bq,dB,dU,cB,aC,bP,bV,bI,aN];simp only [ahZ,decide_true,go_sem]
 refine jH t.goals.length (fun i=>⟨[(2,PV.c (CV.one (PL.ptr 60000 0))),(3,PV.c (CV.one (PL.ptr 80000 0))),(5,PV.c (CV.one (PL.f (FV.int .i64 i))))],[(60000,Ob.dM [PL.f (FV.sl (t.goals.map rG)),PL.f (FV.int .i64 t.sends)]),(80000,Ob.dM [PL.f (FV.sl (t.goals.map rG)),PL.f (FV.int .i64 t.sends)])]⟩) (fun i=>True) (by omega) rfl trivial (fun i hi hP=>?_) (fun hP=>?_)
 ·obtain ⟨x,hx,hlt,ht,h0⟩:=at_ hi
  have hn:=nx hi (by omega)
  simp only [ahZ,ah3,hlt,hx,ht,h0,rG,hn,decide_true,go_sem]
  try rfl
 ·have hde:=@end_ _ t.goals
  simp only [ahZ,hde,go_sem]
  try rfl
theorem Og {w:Wd}:∀ (f:Nat) (t:Tk),(AL θ nm up w f t).1.ch = ch0 ∨ ∃ q,(AL θ nm up w f t).1.ch = wz nm (bA w.s w.now) (Ne.fE w.m w.now) w.now q
 | 0,t=>.inl rfl
 | f + 1,t=>by
  unfold AL
  split
  ·obtain ⟨l,s⟩:=t
   by_cases h0:l = []
   ·subst h0;exact .inl rfl
   obtain ⟨init,g,rfl⟩:=EG h0
   rw [mU]
   unfold yN
   simp only
   split
   ·unfold JR
    simp only
    split
    ·split
     ·exact .inl rfl
     ·split
      ·exact .inl rfl
      ·exact .inl rfl
    ·split
     ·exact .inl rfl
     ·exact .inl rfl
   ·split
    ·exact .inr ⟨_,rfl⟩
    ·split
     ·exact .inl rfl
     ·exact .inl rfl
  ·exact Og f _
end
end Go.Proofs.YtfokaoeinpnagaaGreat.Kd
namespace Go.Proofs.YtfokaoeinpnagaaGreat.Kc
section
open Go Ev
variable {nm : Int → ByteArray → List ByteArray} {pk:Qn → It × Bool} {fd:Qn → Ne.Nt × Bool} {now:Int}
inductive Path (nm:Int → ByteArray → List ByteArray) (c:Int) (a:ByteArray):List nu → ByteArray → Prop
 | nil:Path nm c a [] a
 | snoc {hits:List nu} {b ZZ8:ByteArray} {h:nu}:Path nm c a hits b → h.s.q = b → h.s.t = 5 → h.s.c = c → 1 ≤ h.left → tg nm h.s = some ZZ8 → Path nm c a (hits ++ [h]) ZZ8
structure Oh (pk:Qn → It × Bool) (now:Int):Prop where
 key:∀ q,(pk q).2 = true → (pk q).1.q = q.q ∧ (pk q).1.t = q.t ∧ (pk q).1.c = q.c
 live:∀ q,(pk q).2 = true → jr now (pk q).1.u = true
theorem Oi {now u:Int} (h:jr now u = true):1 ≤ qL now u:=by
 unfold qL
 rw [ahX h]
 unfold jr at h
 rw [ah5,aii] at h
 split <;> omega
theorem TU (hp:Oh pk now) {q:Qn} {h:nu} (ht:tl pk now q = some h):h.s.q = q.q ∧ h.s.t = q.t ∧ h.s.c = q.c ∧ 1 ≤ h.left:=by
 unfold tl at ht
 split at ht
 ·rename_i hc
  cases ht
  obtain ⟨k1,k2,k3⟩:=hp.key q hc.1
  exact ⟨k1,k2,k3,Oi (hp.live q hc.1)⟩
 ·cases ht
theorem abo (hp:Oh pk now) {q:Qn} {h:nu} {ZZ8:ByteArray} (ht:al nm pk now q = some (h,ZZ8)):q.t ≠ 5 ∧ h.s.q = q.q ∧ h.s.t = 5 ∧ h.s.c = q.c ∧ 1 ≤ h.left ∧ tg nm h.s = some ZZ8:=by
 unfold al at ht
 split at ht
 ·cases ht
 rename_i h5
 obtain ⟨h',h1,h2⟩:=zbm ht
 obtain ⟨to',h3,h4⟩:=zmm h2
 cases h4
 obtain ⟨k1,k2,k3,k4⟩:=TU hp h1
 exact ⟨h5,k1,k2,k3,k4,h3⟩
structure Lnk (nm:Int → ByteArray → List ByteArray) (q:Qn) (c:Ch):Prop where
 len:c.hits.length ≤ 9
 e:0 ≤ c.e ∧ c.e ≤ 4
 found:c.e = 0 → ∃ hits h,c.hits = hits ++ [h] ∧ Path nm q.c q.q hits c.nm ∧ h.s.q = c.nm ∧ h.s.t = q.t ∧ h.s.c = q.c ∧ 1 ≤ h.left ∧ (hits ≠ [] → q.t ≠ 5)
 long:c.e = 4 → q.t ≠ 5 ∧ c.hits ≠ [] ∧ ∃ ZZ8,Path nm q.c q.q c.hits ZZ8
 rest:c.e ≠ 0 → c.e ≠ 4 → Path nm q.c q.q c.hits c.nm ∧ (c.hits ≠ [] → q.t ≠ 5)
theorem Iz (hp:Oh pk now) (q0:Qn):∀ (f:Nat) (met:List ByteArray) (hits:List nu) (q:Qn),hits.length + f = 9 → 1 ≤ f → q.t = q0.t → q.c = q0.c → Path nm q0.c q0.q hits q.q → (hits ≠ [] → q0.t ≠ 5) → Lnk nm q0 (xO nm pk fd now f met hits q)
 | 0,_,_,_,_,h,_,_,_,_=>by omega
 | f + 1,met,hits,q,hl,_,ht,hc,hP,hn=>by
  unfold xO
  cases h1:tl pk now q with
  | some h =>
   obtain ⟨k1,k2,k3,k4⟩:=TU hp h1
   refine ⟨by show (hits ++ [h]).length ≤ 9;simp;omega,by show (0:Int) ≤ 0 ∧ (0:Int) ≤ 4;omega,fun _=>⟨hits,h,rfl,hP,k1,by rw [k2,ht],by rw [k3,hc],k4,hn⟩,fun e=>(by cases e),fun e=>absurd rfl e⟩
  | none =>
   cases h2:al nm pk now q with
   | none =>
    dsimp only
    unfold fin
    split
    ·refine ⟨by show hits.length ≤ 9;omega,?_,fun e=>?_,fun e=>?_,fun _ _=>⟨hP,hn⟩⟩
     ·show 0 ≤ (if _ then (2:Int) else 1) ∧ (if _ then (2:Int) else 1) ≤ 4
      split <;> omega
     ·exfalso
      have e':(if (fd q).1.nx = true then (2:Int) else 1) = 0:=e
      split at e' <;> omega
     ·exfalso
      have e':(if (fd q).1.nx = true then (2:Int) else 1) = 4:=e
      split at e' <;> omega
    ·exact ⟨by show hits.length ≤ 9;omega,by show (0:Int) ≤ 3 ∧ (3:Int) ≤ 4;omega,fun e=>absurd (show (3:Int) = 0 from e) (by decide),fun e=>absurd (show (3:Int) = 4 from e) (by decide),fun _ _=>⟨hP,hn⟩⟩
   | some p =>
    obtain ⟨h,ZZ8⟩:=p
    obtain ⟨k0,k1,k2,k3,k4,k5⟩:=abo hp h2
    have hP':Path nm q0.c q0.q (hits ++ [h]) ZZ8:=.snoc hP k1 k2 (by rw [k3,hc]) k4 k5
    have hn':q0.t ≠ 5:=by rw [← ht];exact k0
    dsimp only
    split
    ·exact ⟨by show (hits ++ [h]).length ≤ 9;simp;omega,by show (0:Int) ≤ 4 ∧ (4:Int) ≤ 4;omega,fun e=>absurd (show (4:Int) = 0 from e) (by decide),fun _=>⟨hn',by simp,ZZ8,hP'⟩,fun _ e=>absurd rfl e⟩
    ·rename_i hm
     have h8:hits.length < 8:=by
      have:¬ 8 ≤ hits.length:=fun h=>hm (.inl h)
      omega
     exact Iz hp q0 f (met ++ [ZZ8]) (hits ++ [h]) ⟨ZZ8,q.t,q.c⟩ (by simp;omega) (by omega) ht hc hP' (fun _=>hn')
theorem RV (hp:Oh pk now) (q:Qn):Lnk nm q (wz nm pk fd now q):=Iz hp q 9 [q.q] [] q rfl (by omega) rfl rfl .nil (fun h=>absurd rfl h)
end
section
open Go Ev
variable {nm : Int → ByteArray → List ByteArray}
def TW (nm:Int → ByteArray → List ByteArray) (a:ByteArray) (hits:List nu):Nat → ByteArray
 | 0=>a
 | i + 1=>match hits[i]? with
  | some h=>(yV nm h.s).1
  | none=>⟨#[]⟩
theorem yP {a:ByteArray} {hits:List nu} {i:Nat}:TW nm a hits (i + 1) = match hits[i]? with | some h=>(yV nm h.s).1 | none=>⟨#[]⟩:=rfl
theorem tV {a:ByteArray} {hits:List nu} {h:nu}:∀ {i:Nat},i ≤ hits.length → TW nm a (hits ++ [h]) i = TW nm a hits i
 | 0,_=>rfl
 | i + 1,hi=>by
  rw [yP,yP,ajp (by omega)]
theorem IB {c:Int} {a b:ByteArray} {hits:List nu} (hP:Path nm c a hits b):(∀ i h,hits[i]? = some h → h.s.q = TW nm a hits i ∧ h.s.t = 5 ∧ h.s.c = c ∧ 1 ≤ h.left ∧ (yV nm h.s).2 = true) ∧ TW nm a hits hits.length = b:=by
 induction hP with
 | nil=>exact ⟨fun i h hi=>by simp at hi,rfl⟩
 | snoc hP h1 h2 h3 h4 h5 ih =>
  rename_i hits b ZZ8 h
  have ht:yV nm h.s = (ZZ8,true):=by unfold yV;rw [h5]
  refine ⟨fun i x hx=>?_,?_⟩
  ·by_cases hi:i < hits.length
   ·rw [ajp hi] at hx
    rw [tV (by omega)]
    exact ih.1 i x hx
   ·have hl:=(aiO.mp hx).1
    rw [ah7,List.length_singleton] at hl
    obtain rfl:i = hits.length:=by omega
    rw [ajG (ah1 _),Nat.sub_self] at hx
    cases hx
    rw [tV (ah1 _),ih.2]
    exact ⟨h1,h2,h3,h4,by rw [ht]⟩
  ·rw [ah7,List.length_singleton,yP]
   rw [ajG (ah1 _),Nat.sub_self]
   show (yV nm h.s).1 = _
   rw [ht]
def nmv (nm:Int → ByteArray → List ByteArray) (a:ByteArray) (c:Ch) (i:Nat):ByteArray:=if i = c.hits.length ∧ c.e = 0 then TW nm a c.hits (i - 1) else TW nm a c.hits i
structure abp (nm:Int → ByteArray → List ByteArray) (q:Qn) (c:Ch):Prop where
 len:c.hits.length ≤ 9
 e:0 ≤ c.e ∧ c.e ≤ 4
 key:∀ i h,c.hits[i]? = some h → h.s.q = TW nm q.q c.hits i ∧ h.s.c = q.c ∧ 1 ≤ h.left
 last:∀ i h,c.hits[i]? = some h → i + 1 = c.hits.length → c.e = 0 → h.s.t = q.t
 mid:∀ i h,c.hits[i]? = some h → ¬ (i + 1 = c.hits.length ∧ c.e = 0) → h.s.t = 5 ∧ (yV nm h.s).2 = true ∧ q.t ≠ 5
 found:c.e = 0 → c.hits ≠ []
 long:c.e = 4 → c.hits ≠ []
 name:c.e ≠ 4 → c.nm = nmv nm q.q c c.hits.length
theorem abq {q:Qn} {c:Ch} (h:Lnk nm q c):abp nm q c:=by
 by_cases h0:c.e = 0
 ·obtain ⟨hits,x,e1,hP,k1,k2,k3,k4,k5⟩:=h.found h0
  obtain ⟨p1,p2⟩:=IB hP
  have hl:c.hits.length = hits.length + 1:=by rw [e1];simp
  have Gs:∀ i y,c.hits[i]? = some y → (i < hits.length ∧ hits[i]? = some y) ∨ (i = hits.length ∧ y = x):=fun i y hy=>by
   have hb:=(aiO.mp hy).1
   rw [e1] at hy
   by_cases hi:i < hits.length
   ·rw [ajp hi] at hy;exact .inl ⟨hi,hy⟩
   ·obtain rfl:i = hits.length:=by omega
    rw [ajG (ah1 _),Nat.sub_self] at hy
    cases hy
    exact .inr ⟨rfl,rfl⟩
  refine ⟨h.len,h.e,fun i y hy=>?_,fun i y hy hi _=>?_,fun i y hy hi=>?_,fun _=>by rw [e1];simp,fun e=>by omega,fun _=>?_⟩
  ·rcases Gs i y hy with ⟨hi,hy'⟩ | ⟨rfl,rfl⟩
   ·obtain ⟨g1,g2,g3,g4,g5⟩:=p1 i y hy'
    rw [e1,tV (by omega)]
    exact ⟨g1,g3,g4⟩
   ·rw [e1,tV (ah1 _),p2]
    exact ⟨k1,k3,k4⟩
  ·rcases Gs i y hy with ⟨hi',hy'⟩ | ⟨rfl,rfl⟩
   ·omega
   ·exact k2
  ·rcases Gs i y hy with ⟨hi',hy'⟩ | ⟨rfl,rfl⟩
   ·obtain ⟨g1,g2,g3,g4,g5⟩:=p1 i y hy'
    exact ⟨g2,g5,k5 (by intro e;rw [e] at hi';simp at hi')⟩
   ·exact absurd ⟨hl.symm,h0⟩ hi
  ·unfold nmv
   rw [ahX ⟨rfl,h0⟩,hl,Nat.add_sub_cancel,e1,tV (ah1 _),p2]
 ·have main:∃ b,Path nm q.c q.q c.hits b ∧ (c.hits ≠ [] → q.t ≠ 5) ∧ (c.e ≠ 4 → b = c.nm) ∧ (c.e = 4 → c.hits ≠ []):=by
   by_cases h4:c.e = 4
   ·obtain ⟨g1,g2,ZZ8,g3⟩:=h.long h4
    exact ⟨ZZ8,g3,fun _=>g1,fun e=>absurd h4 e,fun _=>g2⟩
   ·obtain ⟨g1,g2⟩:=h.rest h0 h4
    exact ⟨_,g1,g2,fun _=>rfl,fun e=>absurd e h4⟩
  obtain ⟨b,hP,g1,g2,g3⟩:=main
  obtain ⟨p1,p2⟩:=IB hP
  refine ⟨h.len,h.e,fun i y hy=>?_,fun i y hy hi e=>absurd e h0,fun i y hy hi=>?_,fun e=>absurd e h0,g3,fun e=>?_⟩
  ·obtain ⟨k1,k2,k3,k4,k5⟩:=p1 i y hy
   exact ⟨k1,k3,k4⟩
  ·obtain ⟨k1,k2,k3,k4,k5⟩:=p1 i y hy
   exact ⟨k2,k5,g1 (by intro e;rw [e] at hy;simp at hy)⟩
  ·unfold nmv
   rw [ahY (fun x=>h0 x.2),p2,g2 e]
theorem abr (s:Sv) (now:Int):Oh (bA s now) now where
 key q h:=by
  obtain ⟨-,h1, -⟩:=BU h
  exact ⟨aio Qn.q h1,aio Qn.t h1,aio Qn.c h1⟩
 live q h:=(BU h).2.2
theorem abt (s:Sv) (fd:Qn → Ne.Nt × Bool) (now:Int) (q:Qn):abp nm q (wz nm (bA s now) fd now q):=abq (RV (abr s now) q)
theorem abu {s:Sv} {now:Int} {q:Qn} {h:nu} (hy:∀ x ∈ s.m,x.d.length ≤ 1000000) (ht:tl (bA s now) now q = some h):h.s.d.length ≤ 1000000000000:=by
 unfold tl at ht
 split at ht
 ·rename_i hc
  cases ht
  have:=hy _ (BU hc.1).1
  show (bA s now q).1.d.length ≤ _
  omega
 ·cases ht
theorem TY {a:Sv × Ne.Nv} {now:Int} (W:FW a):∀ (f:Nat) (met:List ByteArray) (hits:List nu) (q:Qn),(∀ h ∈ hits,h.s.d.length ≤ 1000000000000) → (∀ h ∈ (xO nm (bA a.1 now) (Ne.fE a.2 now) now f met hits q).hits,h.s.d.length ≤ 1000000000000) ∧ (xO nm (bA a.1 now) (Ne.fE a.2 now) now f met hits q).iB.s.d.length ≤ 1000000000000
 | 0,met,hits,q,hh=>by unfold xO;exact ⟨hh,aiy _⟩
 | f + 1,met,hits,q,hh=>by
  have app:∀ x:nu,x.s.d.length ≤ 1000000000000 → ∀ h ∈ hits ++ [x],h.s.d.length ≤ 1000000000000:=fun x hx h hm=>by
   rcases air.mp hm with hm | hm
   ·exact hh h hm
   ·rw [aiR] at hm;subst hm;exact hx
  unfold xO
  cases h1:tl (bA a.1 now) now q with
  | some x=>exact ⟨app x (abu W.hd h1),aiy _⟩
  | none =>
   cases h2:al nm (bA a.1 now) now q with
   | none =>
    dsimp only
    unfold fin
    split
    ·rename_i hf
     refine ⟨hh,?_⟩
     show (Ne.fE a.2 now q).1.s.d.length ≤ _
     have h9:∀ b y,Ne.nof a.2.m now b = some y → y.s.d.length ≤ 1000000000000:=fun b y hy=>by
      have:=W.hd2 y (abh hy).1
      omega
     unfold Ne.fE
     split
     ·rename_i y hy;exact h9 _ _ hy
     ·unfold Ne.ofR
      split
      ·rename_i y hy;exact h9 _ _ hy
      ·exact aiy _
    ·exact ⟨hh,aiy _⟩
   | some p =>
    obtain ⟨x,ZZ8⟩:=p
    have hx:x.s.d.length ≤ 1000000000000:=by
     unfold al at h2
     split at h2
     ·cases h2
     obtain ⟨z,g1,g2⟩:=zbm h2
     obtain ⟨v,g3,g4⟩:=zmm g2
     cases g4
     exact abu W.hd g1
    dsimp only
    split
    ·exact ⟨app x hx,aiy _⟩
    ·exact TY W f _ _ _ (app x hx)
theorem WV {a:Sv × Ne.Nv} {now:Int} {q:Qn} (W:FW a):(∀ h ∈ (wz nm (bA a.1 now) (Ne.fE a.2 now) now q).hits,h.s.d.length ≤ 1000000000000) ∧ (wz nm (bA a.1 now) (Ne.fE a.2 now) now q).iB.s.d.length ≤ 1000000000000:=TY W 9 _ _ _ (by simp)
end
end Go.Proofs.YtfokaoeinpnagaaGreat.Kc
namespace Go.Proofs.YtfokaoeinpnagaaGreat.Kd
section
attribute [local go_sem_proc] Nat.reduceAdd Nat.reduceMul Nat.reduceEqDiff Nat.reduceBEq Nat.reduceMod Nat.reduceDiv reduceCtorEq
attribute [local go_sem_proc ↓] reduceIte
open Go Ev Kc
variable {θ : Th} {nm:Int → ByteArray → List ByteArray} {gt:ByteArray → Int → Int → Int × Bool} {up:ByteArray → ByteArray × Bool} {ext:Env} {F n:Nat}
theorem Oj (S:Sk θ nm gt up ext) {w:Wd} (hw:w.work ≤ 9223372036854775807) {N:Nat} (hN:4 ≤ N):∀ (f:Nat) (t:Tk),N8 t N → N8 (AL θ nm up w f t).2 N
 | 0,t,h=>h
 | f + 1,t,h=>by
  unfold AL
  split
  ·exact Gq S hw hN h
  ·exact Oj S hw hN f _ (Gq S hw hN h)
theorem CK (S:Sk θ nm gt up ext) (hv:∀ n,G2 ext F (n + 8) 24 [] = some ([vb true],[])) (E:ExT ext) (hF:200000000000001 ≤ F) (c:Cs) (q:Qn) (hl:c.l.length ≤ 200000000000000) (hd:∀ x ∈ c.l,x.s.d.length ≤ 200000000000000) (hr:c.roots.length ≤ 200000000000000) (hw:c.work ≤ 9223372036854775807):G2 ext F (n + 9) 9 [c.v,q.v] = some ([vb true],[c.v,q.v]):=by
 refine cK (cf:=c9) rfl ?_
 have hs:=fun n=>Gr (F:=F) (n:=n) E.sm c hl hd hr
 by_cases h1:Oc c
 case neg =>
  rw [ah2 h1] at hs
  dsimp only [c9,ak,bU,aR,bD,aD,bq,dB,dU,cB,aC,bP,bV,bI,aN];simp only [hs,hv,go_sem]
  try rfl
 rw [ah0 h1] at hs
 by_cases h3:q.q.size ≤ 300
 case neg =>
  have h3':decide ((300:Int) < (q.q.size:Int)) = true:=ah0 (by omega)
  dsimp only [c9,ak,bU,aR,bD,aD,bq,dB,dU,cB,aC,bP,bV,bI,aN];simp only [hs,hv,h3',go_sem]
  try rfl
 have h3':decide ((300:Int) < (q.q.size:Int)) = false:=ah2 (by omega)
 have K:=TT S c h1.1.1 (by omega) hw
 have wd:=fun n=>EK (F:=F) (n:=n) (gt:=gt) S c (by omega) h1.1.1
 have st:=fun n=>EJ (F:=F) (n:=n) S q (by omega)
 have hls:=S.ls q.q
 have t0:N8 ⟨[⟨⟨θ.low q.q,q.t,q.c⟩,⟨#[]⟩,0⟩],0⟩ 4:=⟨⟨fun g hg=>by rw [aiR.mp hg];show (θ.low q.q).size ≤ 1000000;omega,by show (-9223372036854775808:Int) ≤ 0;decide,by show (0:Int) ≤ 9223372036854775807;decide⟩,by simp⟩
 generalize ht0:(⟨[⟨⟨θ.low q.q,q.t,q.c⟩,⟨#[]⟩,0⟩],0⟩:Tk) = tk at st t0
 have hAd:=fun q'=>WV (nm:=nm) (q:=q') (now:=(c.w θ gt).now) K.fw
 have hAl:=fun q'=>(abt (nm:=nm) (c.w θ gt).s (Ne.fE (c.w θ gt).m (c.w θ gt).now) (c.w θ gt).now q').len
 generalize c.w θ gt = w at *
 dsimp only [c9,ak,bU,aR,bD,aD,bq,dB,dU,cB,aC,bP,bV,bI,aN];simp only [hs,h3',wd,st,go_sem]
 refine uY 60 (fun x:Nat × Tk=>⟨[(5,PV.c (CV.one (PL.ptr 120000 0))),(6,PV.c (CV.one (PL.ptr 140000 0))),(7,PV.c (CV.one (PL.f (FV.int IntKind.i64 x.1))))],[(120000,Ob.dM [PL.ptr 480200 0,PL.ptr 480400 0,PL.f (FV.int IntKind.i64 w.now),PL.f (FV.sl (List.map aY w.roots)),PL.f (FV.int IntKind.i64 w.work)]),(140000,Ob.dM [PL.f (FV.sl (List.map rG x.2.goals)),PL.f (FV.int IntKind.i64 x.2.sends)]),(480200,Ob.dM [PL.f (FV.int IntKind.i64 w.s.room),PL.mp 480204,PL.f (FV.sl (List.map rQ w.s.o)),PL.f (FV.int IntKind.i64 w.s.ch)]),(480204,Ob.map kJ (List.map ent w.s.m)),(480400,Ob.dM [PL.f (FV.int IntKind.i64 w.m.room),PL.mp 480404,PL.f (FV.sl (List.map rQ w.m.o)),PL.f (FV.int IntKind.i64 w.m.ch)]),(480404,Ob.map Ne.kJ (List.map Ne.ent w.m.m))]⟩) (fun i x=>x.1 = i ∧ N8 x.2 4) (by omega) (0,tk) rfl ⟨rfl,t0⟩ (fun i x hi hP=>?_) (fun x hP=>?_)
 ·obtain ⟨k,t⟩:=x
  obtain ⟨rfl,hb⟩:=hP
  simp only at hb hi ⊢
  have hbl:=hb.len
  have nx:=fun n=>CG (F:=F) (n:=n) S w K hF t ⟨hb.toabl,by omega⟩ _ rfl
  have hB:=Oj S (w:=w) K.hw (N:=4) (by decide) (t.goals.length + 6) t hb
  have hag:=AO (θ:=θ) (nm:=nm) (up:=up) (w:=w) (t.goals.length + 6) t (by have:=@NZ nm w t;omega)
  have hch:=Og (θ:=θ) (nm:=nm) (up:=up) (w:=w) (t.goals.length + 6) t
  have hBl:=hB.len
  have nx2:=fun n=>CG (F:=F) (n:=n) S w K hF (AL θ nm up w (t.goals.length + 6) t).2 ⟨hB.toabl,by omega⟩ _ rfl
  generalize AL θ nm up w (t.goals.length + 6) t = R at *
  have RX:decide ((k:Int) < 60) = true:=ah0 (by omega)
  have hk1:IntKind.i64.wrap ((k:Int) + 1) = ((k + 1:Nat):Int):=by rw [oD (by omega) (by omega)];omega
  by_cases hk:R.1.kind = 0
  ·have e2:decide (R.1.kind = 0) = true:=ah0 hk
   simp only [RX,nx,e2,hk1,go_sem]
   exact ⟨(k + 1,R.2),rfl,rfl,hB⟩
  ·have e2:decide (R.1.kind = 0) = false:=ah2 hk
   rw [hag hk (R.2.goals.length + 5)] at nx2
   have hcb:ChB R.1.ch:=by
    rcases hch with h | ⟨q',h⟩
    ·rw [h];exact ⟨by decide,(fun y hy=>by cases hy),by decide⟩
    ·have h9:=hAl q'
     rw [h];exact ⟨by omega,(hAd q').1,(hAd q').2⟩
   have s1:=fun n=>JX (F:=F) (n:=n) E R.1 hcb.a
   have s2:=fun n=>EM (F:=F) (n:=n) E R.1 hcb
   have s3:=fun n=>JW (ext:=ext) (F:=F) (n:=n) R.2 (by omega) hF
   have s4:=fun n=>EN (ext:=ext) (F:=F) (n:=n) R.2 (by omega) hF
   simp only [RX,nx,nx2,e2,s1,s2,s3,s4,hv,go_sem]
   try rfl
 ·obtain ⟨k,t⟩:=x
  obtain ⟨hk, -⟩:=hP
  simp only at hk
  subst hk
  have RX:decide (((60:Nat):Int) < 60) = false:=rfl
  simp only [RX,hv,go_sem]
  try rfl
end
section
attribute [local go_sem_proc] Nat.reduceAdd Nat.reduceMul Nat.reduceEqDiff Nat.reduceBEq Nat.reduceMod Nat.reduceDiv reduceCtorEq
attribute [local go_sem_proc ↓] reduceIte
open Go Ev Kc
variable {θ : Th} {nm:Int → ByteArray → List ByteArray} {gt:ByteArray → Int → Int → Int × Bool} {up:ByteArray → ByteArray × Bool} {ext:Env} {F n:Nat}
def JY (Γ:Env) (gs:List G) (ks lS:List Nat) (σ r:St) (os:List (List Nat)):Prop:=ku Γ gs ks lS σ r os
theorem WW {k:Out × St → Prop} {u:Tok k} {Γ:Env} {σ:St} {gs:List G} {o:List Nat} {os:List (List Nat)} {ks lS:List Nat}:W k u (ev Γ F (.any gs (o :: os) ks lS) σ) ↔ W (fun s=>W (fun r=>JY Γ gs ks lS σ r os ∧ W k ⟨⟩ (some (.iK,r))) ⟨⟩ (some (⟨pick ks s.tm,pick lS s.ob⟩:St))) ⟨⟩ (vN Γ false (o.map fun i=>gs.getD i default) σ):=Y7
abbrev n_X : ByteArray:=⟨#[1,88,1,97,0]⟩
abbrev n_x : ByteArray:=⟨#[1,120,1,97,0]⟩
abbrev n_a : ByteArray:=⟨#[1,97,0]⟩
abbrev Ye : ByteArray:=⟨#[1,110,0]⟩
abbrev WX : ByteArray:=⟨#[48,48,48,48]⟩
abbrev r_1 : ByteArray:=⟨#[48,48,48,49]⟩
abbrev a_1 : ByteArray:=⟨#[49,49,49,49]⟩
abbrev a_2 : ByteArray:=⟨#[50,50,50,50]⟩
abbrev q00 : Qn:=⟨⟨#[]⟩,0,0⟩
abbrev t_x : Tk:=⟨[⟨⟨n_x,1,1⟩,⟨#[]⟩,0⟩],0⟩
abbrev p_1 : Pt:=⟨0,⟨n_a,2,1,[Ye],99⟩,1,q00⟩
abbrev p_2 : Pt:=⟨0,⟨Ye,1,1,[a_1],99⟩,1,q00⟩
abbrev p_3 : Pt:=⟨0,⟨n_x,1,1,[a_2],99⟩,5,q00⟩
abbrev Kj : Cs:=⟨[],0,[WX,r_1],5⟩
abbrev T9 : Cs:=⟨[],0,[WX],0⟩
abbrev Oz : Cs:=⟨[p_1],0,[WX],5⟩
abbrev RY : Cs:=⟨[p_1,p_2],0,[WX],5⟩
abbrev RZ : Cs:=⟨[p_1,p_2,p_3],0,[WX],5⟩
abbrev nX (θ:Th) (nm:Int → ByteArray → List ByteArray) (gt:ByteArray → Int → Int → Int × Bool) (up:ByteArray → ByteArray × Bool) (c:Cs):Stp × Tk:=AL θ nm up (c.w θ gt) 7 t_x
structure Ua (θ:Th) (nm:Int → ByteArray → List ByteArray) (gt:ByteArray → Int → Int → Int × Bool) (up:ByteArray → ByteArray × Bool):Prop where
 lo:θ.low n_X = n_x
 a1:(nX θ nm gt up Kj).1.kind = 0
 a2:(nX θ nm gt up Kj).1.server = WX
 a3:(nX θ nm gt up Kj).1.zone = rt0
 a4:(nX θ nm gt up Kj).2.goals.map (fun g=>g.tries) = [1]
 a5:(nX θ nm gt up Kj).2.sends = 1
 y1:(nX θ nm gt up T9).1.kind = 2
 z1:(nX θ nm gt up Oz).1.kind = 0
 z2:(nX θ nm gt up Oz).1.q.q = Ye
 b1:(nX θ nm gt up Oz).2.goals.map (fun g=>g.q.t) = [1,1]
 u1:(nX θ nm gt up RY).1.server = a_1
 u2:(nX θ nm gt up RY).1.zone = n_a
 v1:(nX θ nm gt up RZ).1.kind = 1
 v2:(nX θ nm gt up RZ).1.ch.hits.length = 1
theorem abv : N8 t_x 900:=⟨⟨fun g hg=>by rw [aiR.mp hg];decide,by decide,by decide⟩,by decide⟩
theorem JZ (S:Sk θ nm gt up ext) (L:Ua θ nm gt up) (hF:200000000000001 ≤ F):G2 ext F (n + 8) 24 [] = some ([vb true],[]):=by
 refine cK (cf:=c24) rfl ?_
 have st:=fun n=>EJ (F:=F) (n:=n) S ⟨n_X,1,1⟩ (by decide)
 rw [L.lo] at st
 have wd:=fun n c h1 h2=>EK (F:=F) (n:=n) (gt:=gt) S c h1 h2
 have nx:=fun n c h1 h2 h3=>CG (F:=F) (n:=n) S (Cs.w θ gt c) (TT S c h1 h2 h3) hF t_x abv _ rfl
 have wa:=fun n=>wd n Kj (by decide) (by decide)
 have wy:=fun n=>wd n T9 (by decide) (by decide)
 have wb:=fun n=>uS (F:=F) (n:=n) (gt:=gt) S Oz (by decide) (by decide)
 have wc:=fun n=>uS (F:=F) (n:=n) (gt:=gt) S RY (by decide) (by decide)
 have we:=fun n=>uS (F:=F) (n:=n) (gt:=gt) S RZ (by decide) (by decide)
 have xa:=fun n=>nx n Kj (by decide) (by decide) (by decide)
 have xy:=fun n=>nx n T9 (by decide) (by decide) (by decide)
 have xb:=fun n=>nx n Oz (by decide) (by decide) (by decide)
 have xc:=fun n=>nx n RY (by decide) (by decide) (by decide)
 have xd:=fun n=>nx n RZ (by decide) (by decide) (by decide)
 clear nx wd
 obtain ⟨-,a1,a2,a3,a4,a5,y1,z1,z2,b1,u1,u2,v1,v2⟩:=L
 change ∀ n,_ = some ([(nX θ nm gt up Kj).2.v,(nX θ nm gt up Kj).1.v],_) at xa
 change ∀ n,_ = some ([(nX θ nm gt up T9).2.v,(nX θ nm gt up T9).1.v],_) at xy
 change ∀ n,_ = some ([(nX θ nm gt up Oz).2.v,(nX θ nm gt up Oz).1.v],_) at xb
 change ∀ n,_ = some ([(nX θ nm gt up RY).2.v,(nX θ nm gt up RY).1.v],_) at xc
 change ∀ n,_ = some ([(nX θ nm gt up RZ).2.v,(nX θ nm gt up RZ).1.v],_) at xd
 generalize nX θ nm gt up Kj = Ra at *
 generalize nX θ nm gt up T9 = Ry at *
 generalize nX θ nm gt up Oz = Rb at *
 generalize nX θ nm gt up RY = Rc at *
 generalize nX θ nm gt up RZ = Rd at *
 generalize Cs.w θ gt Kj = Wa at *
 generalize Cs.w θ gt T9 = Wy at *
 generalize Cs.w θ gt Oz = Wb at *
 generalize Cs.w θ gt RY = Wc at *
 generalize Cs.w θ gt RZ = We at *
 obtain ⟨⟨ka,cha,sva,qa,za⟩,⟨ga,na⟩⟩:=Ra
 obtain ⟨⟨ky,chy,svy,qy,zy⟩,⟨gy,ny⟩⟩:=Ry
 obtain ⟨⟨kb,chb,svb,⟨qb,qbt,qbc⟩,zb⟩,⟨gb,nb⟩⟩:=Rb
 obtain ⟨⟨kc,chc,svc,qc,zc⟩,⟨gc,nc⟩⟩:=Rc
 obtain ⟨⟨kd,chd,svd,qd,zd⟩,⟨gd,nd⟩⟩:=Rd
 simp only at a1 a2 a3 a4 a5 y1 z1 z2 b1 u1 u2 v1 v2
 subst a1 a2 a3 a5 y1 z1 z2 u1 u2 v1
 obtain ⟨q1,z1,rfl⟩:∃ q z,ga = [⟨q,z,1⟩]:=by
  match ga,a4 with
  | [⟨q,z,r⟩],h=>simp only [ah8,ail,ai3,and_true] at h;subst h;exact ⟨q,z,rfl⟩
 obtain ⟨q2,c2,z2,r2,q3,c3,z3,r3,rfl⟩:∃ q c z r q' c' z' r',gb = [⟨⟨q,1,c⟩,z,r⟩,⟨⟨q',1,c'⟩,z',r'⟩]:=by
  match gb,b1 with
  | [⟨⟨q,t,c⟩,z,r⟩,⟨⟨q',t',c'⟩,z',r'⟩],h=>simp only [ah8,ail,ai3,and_true] at h;obtain ⟨rfl,rfl⟩:=h;exact ⟨_,_,_,_,_,_,_,_,rfl⟩
 have hv:((chd.hits.length:Nat):Int) = 1:=by omega
 have s1:=fun n=>yO (ext:=ext) (F:=F) (n:=n) n_a 2 Ye
 have s2:=fun n=>yO (ext:=ext) (F:=F) (n:=n) Ye 1 a_1
 have s3:=fun n=>yO (ext:=ext) (F:=F) (n:=n) n_x 1 a_2
 simp only [Kj,T9,Oz,RY,RZ,p_1,p_2,p_3,t_x,q00,n_X,n_x,n_a,Ye,WX,r_1,a_1,a_2,rt0,Cs.v,Cs.ov,Tk.v,Qn.v,Se.v,oF,ah8,ail,rG,rP,aY] at st wa wy wb wc we xa xy xb xc xd s1 s2 s3
 dsimp only [c24,ak,bU,aR,bD,aD,bq,dB,dU,cB,aC,bP,bV,bI,aN];simp (maxSteps:=100000000) only [↓WW,st,wa,wy,wb,wc,we,xa,xy,xb,xc,xd,s1,s2,s3,ahZ,hv,decide_true,go_sem]
 refine ⟨?_,?_,?_,by decide,?_,by decide,?_,?_⟩
 ·unfold JY;as_aux_lemma=>simp (maxSteps:=100000000) only [wa,xa,go_sem]
 ·unfold JY;as_aux_lemma=>simp (maxSteps:=100000000) only [wy,xy,go_sem]
 ·unfold JY;as_aux_lemma=>simp (maxSteps:=100000000) only [wb,xb,go_sem]
 ·unfold JY;as_aux_lemma=>simp (maxSteps:=100000000) only [wc,xc,go_sem]
 ·unfold JY;as_aux_lemma=>simp (maxSteps:=100000000) only [we,xd,go_sem]
 have d1:decide (((1:Nat):Int) = 1) = true:=rfl
 have d2:decide (((2:Nat):Int) = 2) = true:=rfl
 have d3:decide ((0:Int) < ((1:Nat):Int)) = true:=rfl
 have d4:decide ((1:Int) < ((2:Nat):Int)) = true:=rfl
 have d5:decide ((0:Int) < ((2:Nat):Int)) = true:=rfl
 have i1:(1:Int).toNat = 1:=rfl
 have d6:decide (((chd.hits.length:Nat):Int) = 1) = true:=ah0 hv
 simp only [d1,d2,d3,d4,d5,d6,i1,ahZ,Int.toNat_zero,List.getElem?_cons_zero,List.getElem?_cons_succ,decide_true,go_sem]
 first | exact ⟨by decide,by decide,by decide,rfl⟩ | exact ⟨by decide,by decide,by decide⟩ | decide | omega
end
section
open Go Ev Kc
theorem abw : Ua yK nm₀ EC B.up:=by constructor <;> decide +kernel
end
end Go.Proofs.YtfokaoeinpnagaaGreat.Kd
namespace Go.Proofs.YtfokaoeinpnagaaGreat.Kc
section
attribute [local go_sem_proc] Nat.reduceAdd Nat.reduceMul Nat.reduceEqDiff Nat.reduceBEq Nat.reduceMod Nat.reduceDiv reduceCtorEq
attribute [local go_sem_proc ↓] reduceIte
open Go Ev
variable {ext : Env} {F n:Nat} {θ:Th} {nm:Int → ByteArray → List ByteArray} {gt:ByteArray → Int → Int → Int × Bool}
theorem IC (x:nu) (hl:x.s.d.length ≤ 1000000000000) (hF:200000000000001 ≤ F):G ext F (n + 3) 63 [x.v,x.v] = some ([vb true],[x.v,x.v]):=by
 refine cK (cf:=c63) rfl ?_
 have h1:=fun n=>Qm (ext:=ext) (F:=F) (n:=n) x.s.q x.s.t x.s.c x.s.d x.s.ttl x.s.q x.s.t x.s.c x.s.d x.s.ttl hl hF
 rw [show LP x.s.q x.s.t x.s.c x.s.d x.s.ttl x.s.q x.s.t x.s.c x.s.d x.s.ttl = true from ah0 ⟨rfl,rfl,rfl,rfl,rfl⟩] at h1
 dsimp only [c63,ak,bU,aR,bD,aD,bq,dB,dU,cB,aC,bP,bV,bI,aN];simp only [h1,decide_true,go_sem]
theorem Ol (c:Ch) (hl:c.hits.length ≤ 1000000) (hd:∀ h ∈ c.hits,h.s.d.length ≤ 1000000000000) (hs:c.iB.s.d.length ≤ 1000000000000) (hF:200000000000001 ≤ F):G ext F (n + 4) 16 [c.v,c.v] = some ([vb true],[c.v,c.v]):=by
 refine cK (cf:=c16) rfl ?_
 have h1:=fun n=>IC (ext:=ext) (F:=F) (n:=n) c.iB hs hF
 dsimp only [c16,ak,bU,aR,bD,aD,bq,dB,dU,cB,aC,bP,bV,bI,aN];simp only [h1,ahZ,decide_true,go_sem]
 refine jH c.hits.length (fun i=>⟨[(2,PV.c (CV.one (PL.ptr 60000 0))),(3,PV.c (CV.one (PL.ptr 80000 0))),(5,PV.c (CV.one (PL.f (FV.int .i64 i))))],[(60000,Ob.dM [PL.f (FV.sl (c.hits.map rH)),PL.f (FV.int .i64 c.e),PL.f (FV.str c.nm),PL.f (FV.str c.iB.s.q),PL.f (FV.int .i64 c.iB.s.t),PL.f (FV.int .i64 c.iB.s.c),PL.f (FV.sl (c.iB.s.d.map aY)),PL.f (FV.int .i64 c.iB.s.ttl),PL.f (FV.int .i64 c.iB.left)]),(80000,Ob.dM [PL.f (FV.sl (c.hits.map rH)),PL.f (FV.int .i64 c.e),PL.f (FV.str c.nm),PL.f (FV.str c.iB.s.q),PL.f (FV.int .i64 c.iB.s.t),PL.f (FV.int .i64 c.iB.s.c),PL.f (FV.sl (c.iB.s.d.map aY)),PL.f (FV.int .i64 c.iB.s.ttl),PL.f (FV.int .i64 c.iB.left)])]⟩) (fun i=>True) (by omega) rfl trivial (fun i hi hP=>?_) (fun hP=>?_)
 ·obtain ⟨x,hx,hlt,ht,h0⟩:=at_ hi
  have hn:=nx hi (by omega)
  have h2:=fun n=>IC (ext:=ext) (F:=F) (n:=n) x (hd x (ai2 hx)) hF
  simp only [ahZ,ah3,hlt,hx,ht,h0,hn,rH,h2,go_sem]
  try rfl
 ·have hde:=@end_ _ c.hits
  simp only [ahZ,hde,go_sem]
def tdT (c:Ch) (i:Nat) (hs:List nu):St:=match hs with
 | []=>⟨[(1,PV.c (CV.one (PL.ptr 40000 0))),(2,PV.c (CV.one (PL.ptr 60000 0))),(3,PV.c (CV.one (PL.ptr 80000 0))),(4,PV.c (CV.one (PL.f (FV.int IntKind.i64 i))))],[(40000,Ob.dM [PL.f (FV.sl (c.hits.map rH)),PL.f (FV.int .i64 c.e),PL.f (FV.str c.nm),PL.f (FV.str c.iB.s.q),PL.f (FV.int .i64 c.iB.s.t),PL.f (FV.int .i64 c.iB.s.c),PL.f (FV.sl (c.iB.s.d.map aY)),PL.f (FV.int .i64 c.iB.s.ttl),PL.f (FV.int .i64 c.iB.left)]),(60000,Ob.dM [PL.bK,PL.f (FV.int .i64 0),PL.f (FV.str ⟨#[]⟩),PL.f (FV.str ⟨#[]⟩),PL.f (FV.int .i64 0),PL.f (FV.int .i64 0),PL.bK,PL.f (FV.int .i64 0),PL.f (FV.int .i64 0)]),(80000,Ob.dM [PL.bK,PL.f (FV.int .i64 c.e),PL.f (FV.str c.nm),PL.f (FV.str c.iB.s.q),PL.f (FV.int .i64 c.iB.s.t),PL.f (FV.int .i64 c.iB.s.c),PL.f (FV.sl (c.iB.s.d.map aY)),PL.f (FV.int .i64 c.iB.s.ttl),PL.f (FV.int .i64 c.iB.left)])]⟩
 | _=>⟨[(1,PV.c (CV.one (PL.ptr 40000 0))),(2,PV.c (CV.one (PL.ptr 60000 0))),(3,PV.c (CV.one (PL.ptr 80000 0))),(4,PV.c (CV.one (PL.f (FV.int IntKind.i64 i))))],[(40000,Ob.dM [PL.f (FV.sl (c.hits.map rH)),PL.f (FV.int .i64 c.e),PL.f (FV.str c.nm),PL.f (FV.str c.iB.s.q),PL.f (FV.int .i64 c.iB.s.t),PL.f (FV.int .i64 c.iB.s.c),PL.f (FV.sl (c.iB.s.d.map aY)),PL.f (FV.int .i64 c.iB.s.ttl),PL.f (FV.int .i64 c.iB.left)]),(60000,Ob.dM [PL.bK,PL.f (FV.int .i64 0),PL.f (FV.str ⟨#[]⟩),PL.f (FV.str ⟨#[]⟩),PL.f (FV.int .i64 0),PL.f (FV.int .i64 0),PL.bK,PL.f (FV.int .i64 0),PL.f (FV.int .i64 0)]),(80000,Ob.dM [PL.own 560000 (hs.map rH).length,PL.f (FV.int .i64 c.e),PL.f (FV.str c.nm),PL.f (FV.str c.iB.s.q),PL.f (FV.int .i64 c.iB.s.t),PL.f (FV.int .i64 c.iB.s.c),PL.f (FV.sl (c.iB.s.d.map aY)),PL.f (FV.int .i64 c.iB.s.ttl),PL.f (FV.int .i64 c.iB.left)]),(560000,Ob.row 6 (hs.map rH))]⟩
theorem Om (c:Ch) (i:Nat):tdT c i [] = ⟨[(1,PV.c (CV.one (PL.ptr 40000 0))),(2,PV.c (CV.one (PL.ptr 60000 0))),(3,PV.c (CV.one (PL.ptr 80000 0))),(4,PV.c (CV.one (PL.f (FV.int IntKind.i64 i))))],[(40000,Ob.dM [PL.f (FV.sl (c.hits.map rH)),PL.f (FV.int .i64 c.e),PL.f (FV.str c.nm),PL.f (FV.str c.iB.s.q),PL.f (FV.int .i64 c.iB.s.t),PL.f (FV.int .i64 c.iB.s.c),PL.f (FV.sl (c.iB.s.d.map aY)),PL.f (FV.int .i64 c.iB.s.ttl),PL.f (FV.int .i64 c.iB.left)]),(60000,Ob.dM [PL.bK,PL.f (FV.int .i64 0),PL.f (FV.str ⟨#[]⟩),PL.f (FV.str ⟨#[]⟩),PL.f (FV.int .i64 0),PL.f (FV.int .i64 0),PL.bK,PL.f (FV.int .i64 0),PL.f (FV.int .i64 0)]),(80000,Ob.dM [PL.bK,PL.f (FV.int .i64 c.e),PL.f (FV.str c.nm),PL.f (FV.str c.iB.s.q),PL.f (FV.int .i64 c.iB.s.t),PL.f (FV.int .i64 c.iB.s.c),PL.f (FV.sl (c.iB.s.d.map aY)),PL.f (FV.int .i64 c.iB.s.ttl),PL.f (FV.int .i64 c.iB.left)])]⟩:=rfl
theorem CO (c:Ch) (i:Nat) (hs:List nu) (h:hs ≠ []):tdT c i hs = ⟨[(1,PV.c (CV.one (PL.ptr 40000 0))),(2,PV.c (CV.one (PL.ptr 60000 0))),(3,PV.c (CV.one (PL.ptr 80000 0))),(4,PV.c (CV.one (PL.f (FV.int IntKind.i64 i))))],[(40000,Ob.dM [PL.f (FV.sl (c.hits.map rH)),PL.f (FV.int .i64 c.e),PL.f (FV.str c.nm),PL.f (FV.str c.iB.s.q),PL.f (FV.int .i64 c.iB.s.t),PL.f (FV.int .i64 c.iB.s.c),PL.f (FV.sl (c.iB.s.d.map aY)),PL.f (FV.int .i64 c.iB.s.ttl),PL.f (FV.int .i64 c.iB.left)]),(60000,Ob.dM [PL.bK,PL.f (FV.int .i64 0),PL.f (FV.str ⟨#[]⟩),PL.f (FV.str ⟨#[]⟩),PL.f (FV.int .i64 0),PL.f (FV.int .i64 0),PL.bK,PL.f (FV.int .i64 0),PL.f (FV.int .i64 0)]),(80000,Ob.dM [PL.own 560000 (hs.map rH).length,PL.f (FV.int .i64 c.e),PL.f (FV.str c.nm),PL.f (FV.str c.iB.s.q),PL.f (FV.int .i64 c.iB.s.t),PL.f (FV.int .i64 c.iB.s.c),PL.f (FV.sl (c.iB.s.d.map aY)),PL.f (FV.int .i64 c.iB.s.ttl),PL.f (FV.int .i64 c.iB.left)]),(560000,Ob.row 6 (hs.map rH))]⟩:=by
 cases hs with
 | nil=>exact absurd rfl h
 | cons a l=>rfl
theorem J2 (k:Ch) (hl:k.hits.length ≤ 1000000) (hF:200000000000001 ≤ F):G ext F (n + 1) 17 [k.v] = some ([k.v],[k.v]):=by
 refine cK (cf:=c17) rfl ?_
 dsimp only [c17,ak,bU,aR,bD,aD,bq,dB,dU,cB,aC,bP,bV,bI,aN];simp only [go_sem]
 refine jH k.hits.length (fun i=>tdT k i (k.hits.take i)) (fun i=>True) (by omega) rfl trivial (fun i hi hP=>?_) (fun hP=>?_)
 ·obtain ⟨x,hx,hlt,ht,h0⟩:=at_ hi
  have hn:=nx hi (by omega)
  have hsx:(k.hits.take (i + 1)).map rH = (k.hits.take i).map rH ++ [[.str x.s.q,.int .i64 x.s.t,.int .i64 x.s.c,.sl (x.s.d.map aY),.int .i64 x.s.ttl,.int .i64 x.left]]:=by rw [aiL,hx];simp [rH]
  have hg:k.hits.take (i + 1) ≠ []:=by
   intro e
   have hle:(k.hits.take (i + 1)).length = i + 1:=by rw [aia];omega
   rw [e] at hle
   cases hle
  have hszz:(((k.hits.take i).map rH).length + 1) * 72 ≤ 140737488355328:=by simp;omega
  rw [CO _ _ _ hg]
  rcases xQ (k.hits.take i) with hz0 | hz0
  ·rw [hsx,hz0,Om]
   simp only [ahZ,ah3,hlt,hx,ht,h0,rH,hn,go_sem]
   try decide
  ·rw [hsx,CO _ _ _ hz0]
   simp only [ah3,hlt,hx,ht,h0,rH,hn,hszz,ahZ,go_sem]
   simp
   omega
 ·have hde:=@end_ _ k.hits
  rw [aiC]
  rcases xQ k.hits with hz0 | hz0
  ·obtain ⟨hits,e,nm',iB⟩:=k
   obtain rfl:hits = []:=hz0
   rw [Om]
   simp only [Ch.v,ail,List.length_nil] at hde ⊢
   simp only [hde,List.length_nil,go_sem]
   done
  ·rw [CO _ _ _ hz0]
   simp only [hde,ahZ,go_sem]
   done
end
section
open Go Ev
variable {ext : Env} {F:Nat}
theorem afU (k:Ch) (hl:k.hits.length ≤ 1000000) (hF:200000000000001 ≤ F):G ext F 40 17 [k.v] = some ([k.v],[k.v]):=by
 have h:=J2 (ext:=ext) (F:=F) (n:=40 - 1) k hl hF
 rw [show 40 - 1 + 1 = 40 from rfl] at h
 exact h
theorem afV (c:Ch) (hl:c.hits.length ≤ 1000000) (hd:∀ h ∈ c.hits,h.s.d.length ≤ 1000000000000) (hs:c.iB.s.d.length ≤ 1000000000000) (hF:200000000000001 ≤ F):G ext F 40 16 [c.v,c.v] = some ([vb true],[c.v,c.v]):=by
 have h:=Ol (ext:=ext) (F:=F) (n:=40 - 4) c hl hd hs hF
 rw [show 40 - 4 + 4 = 40 from rfl] at h
 exact h
end
end Go.Proofs.YtfokaoeinpnagaaGreat.Kc
namespace Go.Proofs.YtfokaoeinpnagaaGreat.Kd
open Go Go.RowKit Ev Kc
theorem exT : ExT zC where
 sm l m h1 h2:=(e2 (by decide) (by decide) _).trans (afQ l m h1 h2 (ah1 _))
 td k h:=(e2 (by decide) (by decide) _).trans (afU k h (ah1 _))
 sa k h1 h2 h3:=(e2 (by decide) (by decide) _).trans (afV k h1 h2 h3 (ah1 _))
theorem hv2 (n:Nat):G2 zC 200000000000001 (n + 8) 24 [] = some ([vb true],[]):=JZ TN abw (ah1 _)
end Go.Proofs.YtfokaoeinpnagaaGreat.Kd
namespace Go.Proofs.YtfokaoeinpnagaaGreat.Kc
open Go Ev
theorem opQ : Gt Tryz.prog 24 rQ (fun _=>True) :=
 tY (fun p:ByteArray × Int × Int=>⟨p.1,p.2.1,p.2.2⟩) (by exact fun _=>rfl) (by exact fun _ _=>trivial) (oh Tryz.underlying24 (by kernel_rfl) (iO (sz:=1) (sz':=2) (IE Tryz.underlying9) (by kernel_rfl) (iO (sz:=1) (sz':=1) (nZ Tryz.underlying3) (by kernel_rfl) (qx (nZ Tryz.underlying3) (by kernel_rfl)))))
theorem opD : Gt Tryz.prog 40 (fun d:List ByteArray=>[.sl (d.map aY)]) (fun d=>d.length ≤ 140737488351232) :=
 tY (fun d:List ByteArray=>d) (by exact fun _=>rfl) (by exact fun _ h=>h.1) (AQ 1 Tryz.underlying40 (by kernel_rfl) (by decide) (fun _=>rfl) (by kernel_rfl) (IE Tryz.underlying9))
theorem opS : Gt Tryz.prog 42 rS (fun x=>x.d.length ≤ 140737488351232) :=
 tY (fun p:Qn × List ByteArray × Int=>⟨p.1.q,p.1.t,p.1.c,p.2.1,p.2.2⟩) (by exact fun _=>rfl) (by exact fun _ h=>h.2.1) (oh Tryz.underlying42 (by kernel_rfl) (iO (sz:=3) (sz':=2) opQ (by kernel_rfl) (iO (sz:=1) (sz':=1) opD (by kernel_rfl) (qx (nZ Tryz.underlying3) (by kernel_rfl)))))
theorem opP : Gt Tryz.prog 113 rP (fun x=>x.s.d.length ≤ 140737488351232) :=
 tY (fun p:Int × Se × Int × Qn=>⟨p.1,p.2.1,p.2.2.1,p.2.2.2⟩) (by exact fun _=>rfl) (by exact fun _ h=>h.2.1) (oh Tryz.underlying113 (by kernel_rfl) (iO (sz:=1) (sz':=9) (nZ Tryz.underlying3) (by kernel_rfl) (iO (sz:=5) (sz':=4) opS (by kernel_rfl) (iO (sz:=1) (sz':=3) (nZ Tryz.underlying3) (by kernel_rfl) (qx opQ (by kernel_rfl))))))
theorem afW : Gt Tryz.prog 22 (fun l:List Pt=>[.sl (l.map rP)]) (fun l=>l.length ≤ 140737488351232 ∧ ∀ x ∈ l,x.s.d.length ≤ 140737488351232) :=
 AQ 10 Tryz.underlying22 (by kernel_rfl) (by decide) (fun _=>rfl) (by kernel_rfl) opP
end Go.Proofs.YtfokaoeinpnagaaGreat.Kc
namespace Go.Proofs.YtfokaoeinpnagaaGreat.Kd
open Go Ev Kc
theorem opC : Gt Tryz.prog 63 rC (fun c=>(c.l.length ≤ 140737488351232 ∧ ∀ x ∈ c.l,x.s.d.length ≤ 140737488351232) ∧ c.roots.length ≤ 140737488351232 ∧ (Lit.int .i64 c.work).wf = true) :=
 tY (fun p:List Pt × Int × List ByteArray × Int=>⟨p.1,p.2.1,p.2.2.1,p.2.2.2⟩) (by exact fun _=>rfl) (by exact fun _ h=>⟨h.1,h.2.2.1,h.2.2.2⟩) (oh Tryz.underlying63 (by kernel_rfl) (iO (sz:=1) (sz':=3) afW (by kernel_rfl) (iO (sz:=1) (sz':=2) (nZ Tryz.underlying3) (by kernel_rfl) (iO (sz:=1) (sz':=1) opD (by kernel_rfl) (qx (nZ Tryz.underlying3) (by kernel_rfl))))))
theorem abx {n:Int} (h:(Lit.int .i64 n).wf = true):-9223372036854775808 ≤ n ∧ n ≤ 9223372036854775807:=by
 unfold Lit.wf at h
 rw [ah5,aii,aii] at h
 exact ⟨h.1,h.2⟩
end Go.Proofs.YtfokaoeinpnagaaGreat.Kd

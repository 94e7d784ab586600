/- A part of the proof of ChainAlias: cut, joined and given short names by a program of this session (wip/tools/pack.py); Lean checks it. No condition. -/
import Derived.Test.YtfokaoeinpnagaaPCAasi
import Derived.Below
import Derived.Deep.Draws
import Derived.Deep.AppendLies
import Derived.Maps.AppendAt
import Derived.OwnWalk
import Derived.Laws.BytesArg
import Derived.Laws.MakeOwn
import Derived.Laws.OwnMore
import Derived.Deep.OwnRows
import Derived.Tactics
import Derived.Lib.ConvBytes
import Derived.Laws.Slices
import Derived.WalkKit
import Derived.KernelRfl
import Derived.RowKit3
import Derived.Deep.LoopGhost
import Derived.Deep.QuietTactic
import Derived.BigQuiet
import Derived.WideLaws
import Derived.Deep.DeepCutAuto
import Derived.Deep.CutBlock
import Derived.Deep.RegionHeld3
import Derived.Laws.Rows
import Derived.Lib.AppendStr
import Derived.ArgAppend
import Derived.Laws.IdiomCopy
import Derived.RowKit
import Derived.OrdersHeld
import Derived.Laws.BitsLemmas
import Derived.ChangeKeysEq
import Derived.Lib.Strings
import Derived.Laws.World
import Derived.Laws.Entries
import Derived.Test.YtfokaoeinpnagaaProg
import Derived.Laws.StructEq
import Derived.Test.YtfokaoeinpnagaaPCAasd
set_option linter.unusedSectionVars false
set_option linter.unusedSimpArgs false
set_option linter.unusedVariables false
set_option maxRecDepth 100000
namespace Go.Proofs.Ytfokaoeinpnagaa.Kc
open Go Go.Proofs Ev
theorem e31 : kT Try.prog 31 c31:=⟨Try.f31,_,⟨[3,9,24],[],[],[85]⟩,[⟨[0],[],[]⟩,⟨[0,8],[],[]⟩,⟨[2],[],[]⟩,⟨[2],[],[]⟩],[],by kernel_rfl,by kernel_rfl,rfl,eqs,by kernel_rfl,by kernel_rfl,by decide⟩
theorem e60 : kT Try.prog 60 VR:=⟨Try.f60,_,⟨[3,9,24],[],[],[85]⟩,[⟨[0,1,5,6],[],[]⟩,⟨[0,1,5,6,11],[],[]⟩,⟨[6,7],[],[]⟩,⟨[1,6,8,9],[],[]⟩,⟨[6,8,30],[],[]⟩,⟨[6,7],[],[]⟩,⟨[6,7],[],[]⟩],[],by kernel_rfl,by kernel_rfl,rfl,eqs,by kernel_rfl,by kernel_rfl,by decide⟩
theorem e12 : kT Try.prog 12 c12:=⟨Try.f12,_,⟨[3,9,24],[],[],[85]⟩,[⟨[0,1],[],[]⟩,⟨[0,1,10],[],[]⟩,⟨[4],[],[]⟩,⟨[0,1,5],[],[]⟩,⟨[0,1,5],[20202,40202],[]⟩,⟨[0,1,5,14],[],[]⟩,⟨[0,1,5,25],[],[]⟩,⟨[4],[],[]⟩,⟨[0,1,5],[],[]⟩,⟨[4],[],[]⟩],[],by kernel_rfl,by kernel_rfl,rfl,eqs,by kernel_rfl,by kernel_rfl,by decide⟩
theorem e8 : kT Try.prog 8 c8:=⟨Try.f8,_,⟨[3,9,24],[],[],[85]⟩,[⟨[1],[],[]⟩,⟨[1,3],[],[]⟩,⟨[1,3],[20802,40000],[]⟩,⟨[1,3,8],[],[]⟩,⟨[1,3,23],[],[]⟩,⟨[2],[],[]⟩,⟨[1,3],[],[]⟩,⟨[2],[],[]⟩],[],by kernel_rfl,by kernel_rfl,rfl,eqs,by kernel_rfl,by kernel_rfl,by decide⟩
theorem e39 : kT Try.prog 39 OB:=⟨Try.f39,_,⟨[3,9,24],[],[],[85]⟩,[⟨[0,1],[],[]⟩,⟨[0,1,11],[],[]⟩,⟨[4],[],[]⟩,⟨[4],[],[]⟩],[],by kernel_rfl,by kernel_rfl,rfl,eqs,by kernel_rfl,by kernel_rfl,by decide⟩
theorem e41 : kT Try.prog 41 JI:=⟨Try.f41,_,⟨[3,9,24],[],[],[85]⟩,[⟨[0,1,5],[],[]⟩,⟨[0,1,5,31],[],[]⟩,⟨[6],[],[]⟩,⟨[0,1,5,36],[],[]⟩,⟨[6],[],[]⟩,⟨[1,5,7,8],[],[]⟩,⟨[60],[],[]⟩,⟨[6],[],[]⟩,⟨[6],[],[]⟩],[],by kernel_rfl,by kernel_rfl,rfl,eqs,by kernel_rfl,by kernel_rfl,by decide⟩
theorem e42 : kT Try.prog 42 c42:=⟨Try.f42,_,⟨[3,9,24],[],[],[85]⟩,[⟨[1,2],[],[]⟩,⟨[1,2],[],[]⟩,⟨[2],[],[]⟩],[],by kernel_rfl,by kernel_rfl,rfl,eqs,by kernel_rfl,by kernel_rfl,by decide⟩
theorem e43 : kT Try.prog 43 c43:=⟨Try.f43,_,⟨[3,9,24],[],[],[85]⟩,[⟨[0,1],[],[]⟩,⟨[0,6],[],[]⟩,⟨[4,5],[],[]⟩],[],by kernel_rfl,by kernel_rfl,rfl,eqs,by kernel_rfl,by kernel_rfl,by decide⟩
theorem e44 : kT Try.prog 44 FE:=⟨Try.f44,_,⟨[3,9,24],[7],[],[85]⟩,[⟨[0,3],[],[]⟩,⟨[4],[],[]⟩],[],by kernel_rfl,by kernel_rfl,rfl,eqs,by kernel_rfl,by kernel_rfl,by decide⟩
theorem e57 : kT Try.prog 57 c57:=⟨Try.f57,_,⟨[3,9,24],[],[],[85]⟩,[⟨[0,1],[],[]⟩,⟨[4],[],[]⟩],[],by kernel_rfl,by kernel_rfl,rfl,eqs,by kernel_rfl,by kernel_rfl,by decide⟩
theorem e69 : kT Try.prog 69 c69:=⟨Try.f69,_,⟨[3,9,24],[],[],[85]⟩,[⟨[0,3],[],[]⟩,⟨[4],[],[]⟩],[],by kernel_rfl,by kernel_rfl,rfl,eqs,by kernel_rfl,by kernel_rfl,by decide⟩
theorem e66 : kT Try.prog 66 c66:=⟨Try.f66,_,⟨[3,9,24],[],[],[85]⟩,[⟨[1],[],[]⟩,⟨[1,3],[],[]⟩,⟨[1,3,37],[],[]⟩,⟨[2],[],[]⟩,⟨[1,3,39,40,41],[],[]⟩,⟨[1,3,39,40,41],[20802,40000,80000],[]⟩,⟨[1,3,39,40,41,42],[],[]⟩,⟨[1,3,4,5,39,40,41],[],[]⟩,⟨[1,3,39,40,41,66],[],[]⟩,⟨[2],[],[]⟩,⟨[1,3,39,40,41],[],[]⟩,⟨[2],[],[]⟩],[],by kernel_rfl,by kernel_rfl,rfl,eqs,by kernel_rfl,by kernel_rfl,by decide⟩
theorem e20 : kT Try.prog 20 c20:=⟨Try.f20,_,⟨[3,9,24],[],[],[85]⟩,[⟨[1],[],[]⟩,⟨[2],[],[]⟩],[],by kernel_rfl,by kernel_rfl,rfl,eqs,by kernel_rfl,by kernel_rfl,by decide⟩
theorem e65 : kT Try.prog 65 c65:=⟨Try.f65,_,⟨[3,9,24],[],[],[85]⟩,[⟨[0,1],[],[]⟩,⟨[4],[],[]⟩],[],by kernel_rfl,by kernel_rfl,rfl,eqs,by kernel_rfl,by kernel_rfl,by decide⟩
theorem e67 : kT Try.prog 67 c67:=⟨Try.f67,_,⟨[3,9,24],[],[],[85]⟩,[⟨[0,1,2],[],[]⟩,⟨[6],[],[]⟩],[],by kernel_rfl,by kernel_rfl,rfl,eqs,by kernel_rfl,by kernel_rfl,by decide⟩
theorem e85 : kT Try.prog 85 c85:=⟨Try.f85,_,⟨[3,9,24],[41],[38],[85]⟩,[⟨[0,1],[],[]⟩,⟨[0,1,5],[],[]⟩,⟨[0,1,5,12],[],[]⟩,⟨[4],[],[]⟩,⟨[0,1,5,6],[],[]⟩,⟨[0,1,5,6],[20202],[]⟩,⟨[0,1,5,6,19],[],[]⟩,⟨[0,1,5,6,7],[],[]⟩,⟨[0,1,5,6,7,29],[],[]⟩,⟨[0,1,5,6],[],[]⟩,⟨[0,1,5,6],[],[]⟩,⟨[0,1,5,6],[],[]⟩,⟨[0,5],[],[]⟩,⟨[4],[],[]⟩],[],by kernel_rfl,by kernel_rfl,rfl,eqs,by kernel_rfl,by kernel_rfl,by decide⟩
theorem e86 : kT Try.prog 86 c86:=⟨Try.f86,_,⟨[3,9,24],[],[],[85]⟩,[⟨[1,2],[],[]⟩,⟨[3],[],[]⟩],[],by kernel_rfl,by kernel_rfl,rfl,eqs,by kernel_rfl,by kernel_rfl,by decide⟩
theorem e82 : kT Try.prog 82 c82:=⟨Try.f82,_,⟨[3,9,24],[],[],[85]⟩,[⟨[0,1],[],[]⟩,⟨[4],[],[]⟩],[],by kernel_rfl,by kernel_rfl,rfl,eqs,by kernel_rfl,by kernel_rfl,by decide⟩
theorem e84 : kT Try.prog 84 c84:=⟨Try.f84,_,⟨[3,9,24],[],[],[85]⟩,[⟨[0,1],[],[]⟩,⟨[4],[],[]⟩],[],by kernel_rfl,by kernel_rfl,rfl,eqs,by kernel_rfl,by kernel_rfl,by decide⟩
theorem e38 : kT Try.prog 38 Ec:=⟨Try.f38,_,⟨[3,9,24],[],[],[85]⟩,[⟨[0],[],[]⟩,⟨[2],[],[]⟩],[],by kernel_rfl,by kernel_rfl,rfl,eqs,by kernel_rfl,by kernel_rfl,by decide⟩
theorem e81 : kT Try.prog 81 c81:=⟨Try.f81,_,⟨[3,9,24],[],[],[85]⟩,[⟨[0,1],[],[]⟩,⟨[4],[],[]⟩],[],by kernel_rfl,by kernel_rfl,rfl,eqs,by kernel_rfl,by kernel_rfl,by decide⟩
theorem e98 : kT Try.prog 98 c98:=⟨Try.f98,_,⟨[3,9,24],[],[],[85]⟩,[⟨[0,1],[],[]⟩,⟨[0,1,7,8],[],[]⟩,⟨[0,1,7,8],[20202],[]⟩,⟨[0,1,7,8,9],[],[]⟩,⟨[0,1,5,7,8],[],[]⟩,⟨[0,1,5,7,8,16],[],[]⟩,⟨[4],[],[]⟩,⟨[0,1,7,8],[],[]⟩,⟨[4],[],[]⟩],[],by kernel_rfl,by kernel_rfl,rfl,eqs,by kernel_rfl,by kernel_rfl,by decide⟩
theorem e97 : kT Try.prog 97 c97:=⟨Try.f97,_,⟨[3,9,24],[],[],[85]⟩,[⟨[0,1],[],[]⟩,⟨[0,1,7,8],[],[]⟩,⟨[0,1,7,8],[20202],[]⟩,⟨[0,1,7,8,9],[],[]⟩,⟨[0,1,5,7,8],[],[]⟩,⟨[0,1,5,7,8,16],[],[]⟩,⟨[4],[],[]⟩,⟨[0,1,7,8],[],[]⟩,⟨[4],[],[]⟩],[],by kernel_rfl,by kernel_rfl,rfl,eqs,by kernel_rfl,by kernel_rfl,by decide⟩
theorem e32 : kT Try.prog 32 c32:=⟨Try.f32,_,⟨[3,9,24],[],[],[85]⟩,[⟨[0],[],[]⟩,⟨[0,8],[],[]⟩,⟨[2],[],[]⟩,⟨[2],[],[]⟩],[],by kernel_rfl,by kernel_rfl,rfl,eqs,by kernel_rfl,by kernel_rfl,by decide⟩
theorem e55 : kT Try.prog 55 Yc:=⟨Try.f55,_,⟨[3,9,24],[],[],[85]⟩,[⟨[1],[],[]⟩,⟨[1,15],[],[]⟩,⟨[2,3],[],[]⟩,⟨[1,4],[],[]⟩,⟨[1,5],[],[]⟩,⟨[2,3],[],[]⟩],[],by kernel_rfl,by kernel_rfl,rfl,eqs,by kernel_rfl,by kernel_rfl,by decide⟩
theorem e33 : kT Try.prog 33 Gf:=⟨Try.f33,_,⟨[3,9,24],[],[],[85]⟩,[⟨[0,1,3,7,9],[],[]⟩,⟨[0,1,3,7,9,11,12],[],[]⟩,⟨[0,1,3,7,9,12,13],[],[]⟩,⟨[0,1,3,7,9,13,26],[],[]⟩,⟨[10],[],[]⟩,⟨[0,3,7,9,13,42],[],[]⟩,⟨[10],[],[]⟩,⟨[0,3,7,9,13,47],[],[]⟩,⟨[0,3,7,9,13],[],[]⟩,⟨[0,7],[],[]⟩,⟨[0,14,15],[],[]⟩,⟨[0,14,75,76,77],[],[]⟩,⟨[0,14,75,76,77],[20201,20205,20208,1460200,1462200],[]⟩,⟨[0,14,75,76,77,78],[],[]⟩,⟨[0,14,17,75,76,77],[],[]⟩,⟨[0,14,75,76,77],[],[]⟩,⟨[0,14,75,76,77],[],[]⟩,⟨[0],[],[]⟩,⟨[],[],[]⟩,⟨[10],[],[]⟩],[],by kernel_rfl,by kernel_rfl,rfl,eqs,by kernel_rfl,by kernel_rfl,by decide⟩
theorem e63 : kT Try.prog 63 Yd:=⟨Try.f63,_,⟨[3,9,24],[],[],[85]⟩,[⟨[0,1,5,6],[],[]⟩,⟨[0,1,5,6,13],[],[]⟩,⟨[6,7],[],[]⟩,⟨[0,1,6,18,19,20],[],[]⟩,⟨[0,1,6,18,19,20],[20201,20205,20208,140000,380000,841600],[]⟩,⟨[0,1,6,18,19,20,21],[],[]⟩,⟨[0,1,6,9,18,19,20],[],[]⟩,⟨[0,1,6,10,11,18,19,20],[],[]⟩,⟨[0,1,6,10,18,19,20,39],[],[]⟩,⟨[6,7],[],[]⟩,⟨[0,1,6,18,19,20],[],[]⟩,⟨[6,7],[],[]⟩],[],by kernel_rfl,by kernel_rfl,rfl,eqs,by kernel_rfl,by kernel_rfl,by decide⟩
theorem e56 : kT Try.prog 56 c56:=⟨Try.f56,_,⟨[3,9,24],[],[],[85]⟩,[⟨[1],[],[]⟩,⟨[2],[],[]⟩],[],by kernel_rfl,by kernel_rfl,rfl,eqs,by kernel_rfl,by kernel_rfl,by decide⟩
theorem e58 : kT Try.prog 58 c58:=⟨Try.f58,_,⟨[3,9,24],[],[],[85]⟩,[⟨[1,2],[],[]⟩,⟨[1,2],[],[]⟩,⟨[2],[],[]⟩],[],by kernel_rfl,by kernel_rfl,rfl,eqs,by kernel_rfl,by kernel_rfl,by decide⟩
theorem e59 : kT Try.prog 59 c59:=⟨Try.f59,_,⟨[3,9,24],[],[],[85]⟩,[⟨[1,2],[],[]⟩,⟨[1,2],[],[]⟩,⟨[2],[],[]⟩],[],by kernel_rfl,by kernel_rfl,rfl,eqs,by kernel_rfl,by kernel_rfl,by decide⟩
theorem e3 : kT Try.prog 3 c3:=⟨Try.f3,_,⟨[3,9,24],[],[],[85]⟩,[⟨[2,3],[],[]⟩,⟨[2,3,19],[],[]⟩,⟨[4],[],[]⟩,⟨[2,3,5],[],[]⟩,⟨[2,3,5,6],[],[]⟩,⟨[2,3,5,6],[20202,21402,40802,60000,80000,120000,880000],[]⟩,⟨[2,3,5,6,32],[],[]⟩,⟨[2,3,5,6],[],[]⟩,⟨[2,3,5,6],[],[]⟩,⟨[2,3,5,7,8],[],[]⟩,⟨[2,5,7,8,9,10],[],[]⟩,⟨[4],[1],[]⟩],[],by kernel_rfl,by kernel_rfl,rfl,eqs,by kernel_rfl,by kernel_rfl,by decide⟩
theorem e6 : kT Try.prog 6 c6:=⟨Try.f6,_,⟨[3,9,24],[],[],[85]⟩,[⟨[0,1,5],[],[]⟩,⟨[0,1,5,25],[],[]⟩,⟨[6],[],[]⟩,⟨[1,5,7,8],[],[]⟩,⟨[1,5,7,8,37],[],[]⟩,⟨[6],[],[]⟩,⟨[1,5,7,8,9],[],[]⟩,⟨[5,7,9,10],[],[]⟩,⟨[5,7,9,10,11],[],[]⟩,⟨[5,7,9,10,11,12],[],[]⟩,⟨[5,7,9,10,11,12],[120000,220000,600200,600204,600206,602200,602204,602206,800200,900200,901400],[]⟩,⟨[5,7,9,10,11,12,51],[],[]⟩,⟨[5,7,9,10,11,12,13],[],[]⟩,⟨[5,7,9,10,11,12,13,14],[],[]⟩,⟨[5,7,9,10,11,12,13,14,95],[],[]⟩,⟨[6],[],[]⟩,⟨[5,7,9,10,11,12,13,101],[],[]⟩,⟨[5,7,9,10,11,12,106],[],[]⟩,⟨[6],[],[]⟩,⟨[5,7,9,10,12,15,16],[],[]⟩,⟨[5,7,9,10,12,15,123],[],[]⟩,⟨[6],[],[]⟩,⟨[5,7,9,10,11,12],[],[]⟩,⟨[5,7,9,10,11,12],[],[]⟩,⟨[7,9,10,133],[],[]⟩,⟨[6],[],[]⟩,⟨[6],[],[]⟩],[],by kernel_rfl,by kernel_rfl,rfl,eqs,by kernel_rfl,by kernel_rfl,by decide⟩
theorem e4 : kT Try.prog 4 c4:=⟨Try.f4,_,⟨[3,9,24],[],[],[85]⟩,[⟨[0,4,5],[],[]⟩,⟨[0,4,5,41],[],[]⟩,⟨[6],[],[]⟩,⟨[0,4,5,7],[],[]⟩,⟨[0,4,5,7],[20202,100000,120000],[]⟩,⟨[0,4,5,7,46],[],[]⟩,⟨[0,4,5,7,56],[],[]⟩,⟨[6],[],[]⟩,⟨[0,4,5,7],[],[]⟩,⟨[4,5,8,9],[],[]⟩,⟨[4,5,8,9,10],[],[]⟩,⟨[4,10,11],[],[]⟩,⟨[4,10,11,92],[],[]⟩,⟨[6],[],[]⟩,⟨[4,10,11,114],[],[]⟩,⟨[6],[],[]⟩,⟨[4,10,11,12],[],[]⟩,⟨[4,10,11,12],[100000,220000,240000,1380200,1381400,1560200,1561400],[]⟩,⟨[4,10,11,12,119],[],[]⟩,⟨[4,10,11,12,154],[],[]⟩,⟨[6],[],[]⟩,⟨[4,10,11,12],[],[]⟩,⟨[6],[],[]⟩],[],by kernel_rfl,by kernel_rfl,rfl,eqs,by kernel_rfl,by kernel_rfl,by decide⟩
theorem e5 : kT Try.prog 5 c5:=⟨Try.f5,_,⟨[3,9,24],[],[],[85]⟩,[⟨[0,1,5],[],[]⟩,⟨[0,1,5,46],[],[]⟩,⟨[6],[],[]⟩,⟨[0,1,5,7],[],[]⟩,⟨[0,1,5,7,8],[],[]⟩,⟨[0,1,5,7,8],[20202,120000],[]⟩,⟨[0,1,5,7,8,51],[],[]⟩,⟨[0,1,5,7,8,78],[],[]⟩,⟨[6],[],[]⟩,⟨[0,1,5,7,8,9],[],[]⟩,⟨[0,1,5,7,8,9],[20202,120000],[]⟩,⟨[0,1,5,7,8,9,88],[],[]⟩,⟨[0,1,5,7,8,9,101],[],[]⟩,⟨[6],[],[]⟩,⟨[0,1,5,7,8,9],[],[]⟩,⟨[0,1,5,7,8],[],[]⟩,⟨[1,5,7,10,11],[],[]⟩,⟨[1,5,7,10,11,119],[],[]⟩,⟨[6],[],[]⟩,⟨[1,5,7,10,11,12],[],[]⟩,⟨[1,7,10,11,12,13],[],[]⟩,⟨[1,7,10,11,12,13],[],[]⟩,⟨[7,12,14],[],[]⟩,⟨[12,14,147],[],[]⟩,⟨[6],[],[]⟩,⟨[12,14,156],[],[]⟩,⟨[6],[],[]⟩,⟨[6],[],[]⟩],[],by kernel_rfl,by kernel_rfl,rfl,eqs,by kernel_rfl,by kernel_rfl,by decide⟩
theorem e17 : kT Try.prog 17 c17:=⟨Try.f17,_,⟨[3,9,24],[],[],[85]⟩,[⟨[0,1],[],[]⟩,⟨[0,1,5],[],[]⟩,⟨[0,1,5],[20202],[]⟩,⟨[0,1,5,9],[],[]⟩,⟨[0,1,5,28],[],[]⟩,⟨[4],[],[]⟩,⟨[0,1,5],[],[]⟩,⟨[32],[],[]⟩,⟨[4],[],[]⟩,⟨[4],[],[]⟩],[],by kernel_rfl,by kernel_rfl,rfl,eqs,by kernel_rfl,by kernel_rfl,by decide⟩
theorem e18 : kT Try.prog 18 c18:=⟨Try.f18,_,⟨[3,9,24],[],[],[85]⟩,[⟨[0],[],[]⟩,⟨[0,4],[],[]⟩,⟨[0,4,5],[],[]⟩,⟨[0,4,5,6],[],[]⟩,⟨[0,4,5,6],[20202,160200,160204,160206,180200,180204,180206],[]⟩,⟨[0,4,5,6,12],[],[]⟩,⟨[0,4,5,6,20],[],[]⟩,⟨[0,4,5,6],[],[]⟩,⟨[0,4,5,6],[],[]⟩,⟨[0,4,5,6],[],[]⟩,⟨[2,3],[],[]⟩],[],by kernel_rfl,by kernel_rfl,rfl,eqs,by kernel_rfl,by kernel_rfl,by decide⟩
theorem e22 : kT Try.prog 22 KP:=⟨Try.f22,_,⟨[3,9,24],[],[],[85]⟩,[⟨[0,1,4],[],[]⟩,⟨[4],[],[]⟩],[],by kernel_rfl,by kernel_rfl,rfl,eqs,by kernel_rfl,by kernel_rfl,by decide⟩
theorem e9 : kT Try.prog 9 c9:=⟨Try.f9,_,⟨[3,9,24],[],[],[85]⟩,[⟨[],[],[]⟩,⟨[1],[],[]⟩,⟨[2,3],[500200,500204,500206,502200,502204,502206],[]⟩,⟨[2,3,4],[],[]⟩,⟨[2,3,4,5],[],[]⟩,⟨[4,5,6],[],[]⟩,⟨[4,5,6,7,8],[],[]⟩,⟨[0],[],[]⟩],[],by kernel_rfl,by kernel_rfl,rfl,eqs,by kernel_rfl,by kernel_rfl,by decide⟩
theorem e10 : kT Try.prog 10 c10:=⟨Try.f10,_,⟨[3,9,24],[],[],[85]⟩,[⟨[1],[],[]⟩,⟨[1,14],[],[]⟩,⟨[2,3],[],[]⟩,⟨[4],[],[]⟩,⟨[4,22],[],[]⟩,⟨[2,3],[],[]⟩,⟨[2,3],[],[]⟩],[],by kernel_rfl,by kernel_rfl,rfl,eqs,by kernel_rfl,by kernel_rfl,by decide⟩
theorem e34 : kT Try.prog 34 c34:=⟨Try.f34,_,⟨[3,9,24],[],[],[85]⟩,[⟨[2,3,4],[],[]⟩,⟨[2,4,6,7],[],[]⟩,⟨[2,4,6,24],[],[]⟩,⟨[4,5],[],[]⟩,⟨[4,5],[],[]⟩],[],by kernel_rfl,by kernel_rfl,rfl,eqs,by kernel_rfl,by kernel_rfl,by decide⟩
theorem e35 : kT Try.prog 35 TB:=⟨Try.f35,_,⟨[3,9,24],[],[],[85]⟩,[⟨[2,3,4],[],[]⟩,⟨[2,3,4,13],[],[]⟩,⟨[4,5,6],[],[]⟩,⟨[2,3,4],[],[]⟩,⟨[4,7],[],[]⟩,⟨[4,7,9,10],[],[]⟩,⟨[4,5,6],[],[]⟩],[],by kernel_rfl,by kernel_rfl,rfl,eqs,by kernel_rfl,by kernel_rfl,by decide⟩
theorem e36 : kT Try.prog 36 VT:=⟨Try.f36,_,⟨[3,9,24],[],[],[85]⟩,[⟨[3,4,5,6],[],[]⟩,⟨[3,4,6,7,8],[],[]⟩,⟨[3,4,6,7,19],[],[]⟩,⟨[4,6],[],[]⟩,⟨[6],[],[]⟩,⟨[3,4,6,7,24],[],[]⟩,⟨[3,4,6,7],[],[]⟩,⟨[3,4,6,7],[],[]⟩,⟨[4,6],[],[]⟩,⟨[6],[],[]⟩],[],by kernel_rfl,by kernel_rfl,rfl,eqs,by kernel_rfl,by kernel_rfl,by decide⟩
theorem e19 : kT Try.prog 19 c19:=⟨Try.f19,_,⟨[3,9,24],[],[],[85]⟩,[⟨[0,1,2,7,8],[],[]⟩,⟨[7,8,9],[],[]⟩,⟨[7,8,9,10],[],[]⟩,⟨[7,8,9,10,11],[],[]⟩,⟨[7,8,9,10,11],[20201,20205,20208,40201,40205,40208,160000,180000,200000,220000,440000,690002,690004,690006,690008,690010,690012,690014,690016,690202,690204,690206,690208,690210,690212,690214,690216,690402,690404,690406,690408,690410,690412,690414,690416,690602,690604,690606,690608,690610,690612,690614,690616,690802,690804,690806,690808,690810,690812,690814,690816,691002,691004,691006,691008,691010,691012,691014,691016,840000,960800,970002,970004,970006,970008,970010,970012,970014,970016,970202,970204,970206,970208,970210,970212,970214,970216,970402,970404,970406,970408,970410,970412,970414,970416,970602,970604,970606,970608,970610,970612,970614,970616,970802,970804,970806,970808,970810,970812,970814,970816,971002,971004,971006,971008,971010,971012,971014,971016,1140200,1141400,1150002,1150004,1150006,1150008,1150010,1150012,1150014,1150016,1150202,1150204,1150206,1150208,1150210,1150212,1150214,1150216,1150402,1150404,1150406,1150408,1150410,1150412,1150414,1150416,1150602,1150604,1150606,1150608,1150610,1150612,1150614,1150616,1150802,1150804,1150806,1150808,1150810,1150812,1150814,1150816,1151002,1151004,1151006,1151008,1151010,1151012,1151014,1151016,1240000],[]⟩,⟨[7,8,9,10,11],[],[]⟩,⟨[7,8,9,10,11],[],[]⟩,⟨[7,8,9,10,11,12,13],[],[]⟩,⟨[7,8,9,10,11,12,36],[],[]⟩,⟨[8,10],[],[]⟩,⟨[8],[],[]⟩,⟨[7,8,9,10,11,14,15,16],[],[]⟩,⟨[7,8,9,10,11,14,15,52],[],[]⟩,⟨[8],[],[]⟩,⟨[7,8,9,10,11,15],[],[]⟩,⟨[7,8,9,10,11,15,72],[],[]⟩,⟨[8,10],[],[]⟩,⟨[8],[],[]⟩,⟨[7,8,9,10,11],[],[]⟩],[],by kernel_rfl,by kernel_rfl,rfl,eqs,by kernel_rfl,by kernel_rfl,by decide⟩
theorem e13 : kT Try.prog 13 c13:=⟨Try.f13,_,⟨[3,9,24],[],[],[85]⟩,[⟨[1],[],[]⟩,⟨[1,3],[],[]⟩,⟨[3,7,8,9],[],[]⟩,⟨[3,7,8,9],[20202,21402,80000],[(3,3)]⟩,⟨[3,7,8,9,10],[],[]⟩,⟨[3,5,7,8,9],[],[]⟩,⟨[3,7,8,9],[],[]⟩,⟨[3,7,8,9],[],[]⟩,⟨[2],[],[]⟩],[],by kernel_rfl,by kernel_rfl,rfl,eqs,by kernel_rfl,by kernel_rfl,by decide⟩
theorem e15 : kT Try.prog 15 c15:=⟨Try.f15,_,⟨[3,9,24],[],[],[85]⟩,[⟨[1],[],[]⟩,⟨[1,3],[],[]⟩,⟨[1,3,10,11,12],[],[]⟩,⟨[1,3,10,11,12],[20202,21402,40000,80000,720000],[(3,1)]⟩,⟨[1,3,10,11,12,13],[],[]⟩,⟨[1,3,5,10,11,12],[],[]⟩,⟨[1,3,10,11,12],[],[]⟩,⟨[1,3,10,11,12],[],[]⟩,⟨[1,3,29],[],[]⟩,⟨[3],[],[]⟩,⟨[3,38],[],[]⟩,⟨[2],[],[]⟩,⟨[3,6],[],[]⟩,⟨[6,42,43,44],[],[]⟩,⟨[6,42,43,44],[80000,720000],[]⟩,⟨[6,42,43,44,45],[],[]⟩,⟨[6,8,42,43,44],[],[]⟩,⟨[6,42,43,44],[],[]⟩,⟨[6,42,43,44],[],[]⟩,⟨[2],[],[]⟩],[],by kernel_rfl,by kernel_rfl,rfl,eqs,by kernel_rfl,by kernel_rfl,by decide⟩
theorem e11 : kT Try.prog 11 c11:=⟨Try.f11,_,⟨[3,9,24],[],[],[85]⟩,[⟨[1],[],[]⟩,⟨[1,14],[],[]⟩,⟨[2,3],[],[]⟩,⟨[4],[],[]⟩,⟨[4,22],[],[]⟩,⟨[2,3],[],[]⟩,⟨[2,3],[],[]⟩],[],by kernel_rfl,by kernel_rfl,rfl,eqs,by kernel_rfl,by kernel_rfl,by decide⟩
theorem e14 : kT Try.prog 14 c14:=⟨Try.f14,_,⟨[3,9,24],[],[],[85]⟩,[⟨[1],[],[]⟩,⟨[1,3],[],[]⟩,⟨[1,3,4],[],[]⟩,⟨[1,3,4],[20202,21402,40000,80000],[(3,3)]⟩,⟨[1,3,4,9],[],[]⟩,⟨[1,3,4],[],[]⟩,⟨[1,3,4],[],[]⟩,⟨[2],[],[]⟩],[],by kernel_rfl,by kernel_rfl,rfl,eqs,by kernel_rfl,by kernel_rfl,by decide⟩
theorem e16 : kT Try.prog 16 c16:=⟨Try.f16,_,⟨[3,9,24],[],[],[85]⟩,[⟨[1],[],[]⟩,⟨[1,3],[],[]⟩,⟨[1,3,4],[],[]⟩,⟨[1,3,4],[20202,21402,40000,80000,740000],[(3,1)]⟩,⟨[1,3,4,11],[],[]⟩,⟨[1,3,4],[],[]⟩,⟨[1,3,4],[],[]⟩,⟨[1,3,30],[],[]⟩,⟨[3],[],[]⟩,⟨[3,5],[],[]⟩,⟨[3,5,6],[],[]⟩,⟨[3,5,6],[80000,740000],[]⟩,⟨[3,5,6,40],[],[]⟩,⟨[3,5,6,52],[],[]⟩,⟨[3,5,6],[],[]⟩,⟨[3,5,6],[],[]⟩,⟨[2],[],[]⟩],[],by kernel_rfl,by kernel_rfl,rfl,eqs,by kernel_rfl,by kernel_rfl,by decide⟩
theorem e62 : kT Try.prog 62 Z8:=⟨Try.f62,_,⟨[3,9,24],[],[],[85]⟩,[⟨[0,1],[],[]⟩,⟨[0,1,8],[],[]⟩,⟨[4],[],[]⟩,⟨[4],[],[]⟩],[],by kernel_rfl,by kernel_rfl,rfl,eqs,by kernel_rfl,by kernel_rfl,by decide⟩
theorem e61 : kT Try.prog 61 c61:=⟨Try.f61,_,⟨[3,9,24],[],[],[85]⟩,[⟨[0],[],[]⟩,⟨[2],[],[]⟩],[],by kernel_rfl,by kernel_rfl,rfl,eqs,by kernel_rfl,by kernel_rfl,by decide⟩
theorem ents : ∀ p ∈ yJ,kT Try.prog p.1 p.2:=List.forall_mem_cons.2 ⟨e31,List.forall_mem_cons.2 ⟨e60,List.forall_mem_cons.2 ⟨e12,List.forall_mem_cons.2 ⟨e8,List.forall_mem_cons.2 ⟨e39,List.forall_mem_cons.2 ⟨e41,List.forall_mem_cons.2 ⟨e42,List.forall_mem_cons.2 ⟨e43,List.forall_mem_cons.2 ⟨e44,List.forall_mem_cons.2 ⟨e57,List.forall_mem_cons.2 ⟨e69,List.forall_mem_cons.2 ⟨e66,List.forall_mem_cons.2 ⟨e20,List.forall_mem_cons.2 ⟨e65,List.forall_mem_cons.2 ⟨e67,List.forall_mem_cons.2 ⟨e85,List.forall_mem_cons.2 ⟨e86,List.forall_mem_cons.2 ⟨e82,List.forall_mem_cons.2 ⟨e84,List.forall_mem_cons.2 ⟨e38,List.forall_mem_cons.2 ⟨e81,List.forall_mem_cons.2 ⟨e98,List.forall_mem_cons.2 ⟨e97,List.forall_mem_cons.2 ⟨e32,List.forall_mem_cons.2 ⟨e55,List.forall_mem_cons.2 ⟨e33,List.forall_mem_cons.2 ⟨e63,List.forall_mem_cons.2 ⟨e56,List.forall_mem_cons.2 ⟨e58,List.forall_mem_cons.2 ⟨e59,List.forall_mem_cons.2 ⟨e3,List.forall_mem_cons.2 ⟨e6,List.forall_mem_cons.2 ⟨e4,List.forall_mem_cons.2 ⟨e5,List.forall_mem_cons.2 ⟨e17,List.forall_mem_cons.2 ⟨e18,List.forall_mem_cons.2 ⟨e22,List.forall_mem_cons.2 ⟨e9,List.forall_mem_cons.2 ⟨e10,List.forall_mem_cons.2 ⟨e34,List.forall_mem_cons.2 ⟨e35,List.forall_mem_cons.2 ⟨e36,List.forall_mem_cons.2 ⟨e19,List.forall_mem_cons.2 ⟨e13,List.forall_mem_cons.2 ⟨e15,List.forall_mem_cons.2 ⟨e11,List.forall_mem_cons.2 ⟨e14,List.forall_mem_cons.2 ⟨e16,List.forall_mem_cons.2 ⟨e62,List.forall_mem_cons.2 ⟨e61,fun _ h=>nomatch h⟩⟩⟩⟩⟩⟩⟩⟩⟩⟩⟩⟩⟩⟩⟩⟩⟩⟩⟩⟩⟩⟩⟩⟩⟩⟩⟩⟩⟩⟩⟩⟩⟩⟩⟩⟩⟩⟩⟩⟩⟩⟩⟩⟩⟩⟩⟩⟩⟩⟩
end Go.Proofs.Ytfokaoeinpnagaa.Kc
set_option maxRecDepth 100000
namespace Go.Proofs.Ytfokaoeinpnagaa.Kc
open Go Go.Proofs Ev
theorem Qx {ext:Env} (h1:iN Try.prog ext) (h2:eD Try.prog ext) (F n:Nat):Sat Try.prog 21 (wh ext F n):=by
 obtain ⟨g1,g2⟩:=LZ (yJ:=yJ) (F:=F) mixed ents h1 h2 n
 have hf:Try.prog.funcs[21]? = some Try.f21:=by kernel_rfl
 have hg:Try.prog.funcs[40]? = some Try.f40:=by kernel_rfl
 have hD:=V5 (X:=⟨[3,9,24],[],[],[85]⟩) (c1:=8) (c2:=4) (h1:=[⟨[0,1,3],[],[]⟩,⟨[0],[],[]⟩]) (h2:=[]) (cc:=cDf.body) mixed eqs g1 g2 hg rfl (by kernel_rfl) rfl (by decide) F
 exact Gq (X:=⟨[3,9,24],[],[],[85]⟩) (ha:=[⟨[1,3,4,6,8],[],[]⟩,⟨[1,4,6,8,9],[],[]⟩]) (hb':=[⟨[4,6,8,9],[],[]⟩,⟨[4,6,8,9,27],[],[]⟩,⟨[4,8],[],[]⟩,⟨[4,6,8],[],[]⟩,⟨[4,8,10,11],[],[]⟩,⟨[4,8,10,52,53,54],[],[]⟩,⟨[4,8,10,52,53,54],[20201,20205,20208,100000,180000,530002,530004,530006,530008,530010,530012,530014,530016,530202,530204,530206,530208,530210,530212,530214,530216,530402,530404,530406,530408,530410,530412,530414,530416,530602,530604,530606,530608,530610,530612,530614,530616,530802,530804,530806,530808,530810,530812,530814,530816,531002,531004,531006,531008,531010,531012,531014,531016,1000200,1002200],[]⟩,⟨[4,8,10,52,53,54,55],[],[]⟩,⟨[4,8,10,13,52,53,54],[],[]⟩,⟨[4,8,10,52,53,54],[],[]⟩,⟨[4,8,10,52,53,54],[],[]⟩,⟨[4,8],[],[]⟩,⟨[4,8],[],[]⟩]) (ra:=[]) (rb:=[]) (ca:=pA) (cb:=pB) (cf:=MZ) mixed eqs g1 g2 hf rfl hg (by kernel_rfl) (by kernel_rfl) (by kernel_rfl) (by kernel_rfl) (by kernel_rfl) (by decide) (by decide) (by decide) (by decide) hD F
end Go.Proofs.Ytfokaoeinpnagaa.Kc
namespace Go.Proofs.YtfokaoeinpnagaaW.bE
open Go.RowKit
structure aj (p:Prop):Prop where mk :: (out:p)
structure aW (w w':World):Prop where mk :: (out:∃ n,w' = w.drewN n)
theorem aW.refl (w:World):aW w w:=⟨⟨0,rfl⟩⟩
theorem aW.step {w w':World} (h:aW w w') (n:Nat):aW w (w'.drewN n):=by
 obtain ⟨m,rfl⟩:=h
 exact ⟨⟨m + n,World.drewN_drewN ..⟩⟩
theorem aW.grown {w w':World} (h:aW w w'):Grown w w':=by
 obtain ⟨n,rfl⟩:=h
 induction n with
 | zero=>exact Grown.refl _
 | succ n ih=>rw [← World.drew_drewN];exact Grown.drew ih
theorem aW.below {w w':World} (h:aW w w'):Below w.heap.size w w':=by
 obtain ⟨n,rfl⟩:=h
 induction n with
 | zero=>exact Below.refl _ _
 | succ n ih=>rw [← World.drew_drewN];exact ih.drew
def rd (xs:List Int) (i:Int):Int:=xs.getD i.toNat 0
def bt (s:ByteArray) (i:Int):Int:=if h:i.toNat < s.size then ((s[i.toNat]'h).toNat:Int) else 0
theorem nW (s:ByteArray) (i:Int):∀ h:i.toNat < s.size,((s[i.toNat]'h).toNat:Int) = bt s i:=fun h=>by simp [bt,h]
theorem gB (s:ByteArray) (i:Int):0 ≤ bt s i ∧ bt s i ≤ 255:=by
 unfold bt
 split
 ·rename_i h
  have:=(s[i.toNat]'h).toNat_lt
  omega
 ·omega
theorem ak {w W:World} (h:Below w.heap.size w W) (o:Obj):Below w.heap.size w (W.alloc o):=h.alloc h.size o
theorem jw {B:Nat} {w W:World} (h:Below B w W):Below B w W.drew:=⟨h.os,h.tape,h.output,h.size,h.block⟩
theorem ah {B:Nat} {w W:World} (h:Below B w W) (n:Nat):Below B w (W.drewN n):=⟨h.os,h.tape,h.output,h.size,h.block⟩
theorem Gx {B:Nat} {w w1 w2:World} (h:Below B w w1) (hB:B ≤ w1.heap.size) (k:Below w1.heap.size w1 w2):Below B w w2 :=
 h.trans ⟨k.os,k.tape,k.output,k.size,fun i hi=>k.block i (Nat.lt_of_lt_of_le hi hB)⟩
theorem yR {w w1:World} (h:Below w.heap.size w w1) (row:Option Nat):w.grownBy w1 row:=⟨h.os,h.tape,h.output,h.size,fun i hi _=>h.block i hi⟩
theorem nM {w w1:World} (h:Below w.heap.size w w1) {a:Addr} {v:Value} (hc:w.cell? a = some v):w1.cell? a = some v:=(h.cell (World.block_lt_of_cell? w a hc)).trans hc
theorem add_plain (g j:Nat):(⟨g,0,none⟩:Addr).add j = ⟨g,j,none⟩:=by unfold Addr.add;split <;> simp_all
def gK (w:World) (k:IntKind) (A:Option Addr) (n:Nat) (xs:List Int):Prop :=
 xs.length = n ∧ n ≤ 9223372036854775807 ∧ (0 < n → ∃ ad,A = some ad ∧ ∀ j,j < n → w.cell? (ad.add j) = some (.int k (xs.getD j 0)))
theorem gK.at_ {w:World} {k:IntKind} {A:Option Addr} {n:Nat} {xs:List Int} (h:gK w k A n xs) (i:Int) (h0:0 ≤ i) (h1:i < n):∃ ad,A = some ad ∧ w.cell? (ad.add i.toNat) = some (.int k (rd xs i)):=by
 obtain ⟨ad,e,hc⟩:=h.2.2 (by omega)
 exact ⟨ad,e,hc _ (by omega)⟩
theorem gK.below {w w1:World} {k:IntKind} {A:Option Addr} {n:Nat} {xs:List Int} (h:gK w k A n xs) (hb:Below w.heap.size w w1):gK w1 k A n xs :=
 ⟨h.1,h.2.1,fun hn=>by
  obtain ⟨ad,e,hc⟩:=h.2.2 hn
  exact ⟨ad,e,fun j hj=>nM hb (hc j hj)⟩⟩
theorem Qy (W:World) (base:Nat) (e:TypeId) (size:Nat):W.ownsRow base e size (.slice none 0 0) 0 []:=⟨by simp,.inl ⟨rfl,rfl⟩⟩
theorem tV {w:World} {base:Nat} {e:TypeId} {size n:Nat} {v:Value} {xs:List Value} (h:w.ownsRow base e size v n xs) (k:Nat) (hk:v.ownBlock = some k):base ≤ k:=by
 rcases h.2 with ⟨rfl,_⟩ | ⟨g,cap,cur,rfl,hb,_⟩
 ·simp [Value.ownBlock] at hk
 ·have:g = k:=by simpa [Value.ownBlock] using hk
  omega
theorem Wn {w:World} {base:Nat} {e:TypeId} {size n:Nat} {v:Value} {xs:List Value} (h:w.ownsRow base e size v n xs) (k:Nat) (hk:v.ownBlock = some k):k < w.heap.size:=by
 rcases h.2 with ⟨rfl,_⟩ | ⟨g,cap,cur,rfl,hb,hh,_⟩
 ·simp [Value.ownBlock] at hk
 ·have:g = k:=by simpa [Value.ownBlock] using hk
  subst this
  exact (Array.getElem?_eq_some_iff.1 hh).1
theorem tX {w w1:World} {base:Nat} {e:TypeId} {size n:Nat} {v:Value} {xs:List Value} (h:w.ownsRow base e size v n xs) (hb:Below w.heap.size w w1):w1.ownsRow base e size v n xs :=
 h.kept (yR hb none) (by cases v.ownBlock <;> simp)
theorem JX {w w1:World} {base:Nat} {e:TypeId} {size n:Nat} {v:Value} {xs:List Value} (h:w.ownsRow base e size v n xs) {row:Option Nat} (hg:w.grownBy w1 row) (hne:v.ownBlock = none ∨ v.ownBlock ≠ row):w1.ownsRow base e size v n xs:=h.kept hg hne
section
variable {P : Program} {ops:Array Oper} {rest:List Oper} {o:Oper} {a:Act} {Q:Exit → Act → World → Prop}
end
section
variable {P : Program}
end
section
variable {P : Program} {ops:Array Oper} {rest:List Oper} {o:Oper} {a:Act} {Q:Exit → Act → World → Prop}
end
def bytesOf (s:ByteArray):List Int:=s.data.toList.map fun b=>(b.toNat:Int)
theorem gK.EB {w:World} {k:IntKind} {A:Option Addr} {n:Nat} {xs:List Int} (h:gK w k A n xs) (i:Nat) (hi:i ≤ n):gK w k A i (xs.take i):=by
 refine ⟨by rw [List.length_take,h.1];omega,by have:=h.2.1;omega,fun hp=>?_⟩
 obtain ⟨ad,e,hc⟩:=h.2.2 (by omega)
 refine ⟨ad,e,fun j hj=>?_⟩
 rw [hc j (by omega)]
 simp [List.getD_eq_getElem?_getD,hj]
def lg {α:Type} (a b:Option α):Prop:=∀ r,a = some r → b = some r
theorem lg.refl {α:Type} (a:Option α):lg a a:=fun _ h=>h
theorem lg.none {α:Type} (b:Option α):lg Option.none b:=fun _ h=>by cases h
theorem lg.trans {α:Type} {a b c:Option α} (h:lg a b) (k:lg b c):lg a c:=fun r hr=>k r (h r hr)
theorem lg.ite {α:Type} {c:Prop} [Decidable c] {a a' b b':Option α} (h:lg a a') (k:lg b b'):lg (if c then a else b) (if c then a' else b'):=by
 split
 ·exact h
 ·exact k
theorem lg.bind {α β:Type} {a a':Option α} {f f':α → Option β} (h:lg a a') (k:∀ x,lg (f x) (f' x)):lg (a.bind f) (a'.bind f'):=by
 intro r hr
 obtain ⟨x,hx,hf⟩:=Option.bind_eq_some_iff.1 hr
 exact Option.bind_eq_some_iff.2 ⟨x,h x hx,k x r hf⟩
theorem lg.map {α β:Type} {a a':Option α} (f:α → β) (h:lg a a'):lg (a.map f) (a'.map f):=by
 intro r hr
 obtain ⟨x,hx,hf⟩:=Option.map_eq_some_iff.1 hr
 exact Option.map_eq_some_iff.2 ⟨x,h x hx,hf⟩
theorem wm {α:Type} {g:Nat → Option α} (h:∀ k,lg (g k) (g (k + 1))) (k:Nat):∀ j,lg (g k) (g (k + j))
 | 0=>lg.refl _
 | j + 1=>(wm h k j).trans (h (k + j))
theorem vD {α:Type} {g:Nat → Option α} (h:∀ k,lg (g k) (g (k + 1))) {k k':Nat} (hk:k ≤ k') {r:α} (hr:g k = some r):g k' = some r:=by
 have:=wm h k (k' - k) r hr
 rwa [Nat.add_sub_cancel' hk] at this
def fQ {α:Type} (R:α → List Value → Prop) (size:Nat) (ps:List α) (cs:List Value):Prop :=
 cs.length = ps.length * size ∧ ∀ j p,ps[j]? = some p → R p ((cs.drop (j * size)).take size)
theorem fQ.none {α:Type} (R:α → List Value → Prop) (size:Nat):fQ R size [] []:=⟨by simp,fun j p h=>by simp at h⟩
theorem fQ.snoc {α:Type} {R:α → List Value → Prop} {size:Nat} {ps:List α} {cs c:List Value} {p:α} (h:fQ R size ps cs) (hp:R p c) (hc:c.length = size):fQ R size (ps ++ [p]) (cs ++ c):=by
 refine ⟨by rw [List.length_append,h.1,hc,List.length_append,List.length_singleton,Nat.add_mul,Nat.one_mul],fun j q hq=>?_⟩
 rcases Nat.lt_or_ge j ps.length with hj | hj
 ·rw [List.getElem?_append_left hj] at hq
  have h1:j * size + size ≤ cs.length:=by rw [h.1,← Nat.succ_mul];exact Nat.mul_le_mul_right _ hj
  have h2:=h.2 j q hq
  rw [List.drop_append_of_le_length (by omega),List.take_append_of_le_length (by rw [List.length_drop];omega)]
  exact h2
 ·have hj':j = ps.length:=by
   have:=(List.getElem?_eq_some_iff.1 hq).1
   rw [List.length_append,List.length_singleton] at this
   omega
  subst hj'
  have hq':p = q:=by simpa using hq
  subst hq'
  rw [← h.1,List.drop_left,← hc,List.take_length]
  exact hp
theorem fQ.zX {α:Type} {R R':α → List Value → Prop} {size:Nat} {ps:List α} {cs:List Value} (h:fQ R size ps cs) (hR:∀ p c,R p c → R' p c):fQ R' size ps cs:=⟨h.1,fun j p hj=>hR _ _ (h.2 j p hj)⟩
def mJ {α:Type} (R:α → List Value → Prop) (size:Nat) (w:World) (A:Option Addr) (n:Nat) (ps:List α):Prop :=
 ps.length = n ∧ n ≤ 9223372036854775807 ∧ (0 < n → ∃ ad,A = some ad ∧ ∀ j p,ps[j]? = some p → ∃ c,c.length = size ∧ R p c ∧ ∀ i u,c[i]? = some u → w.cell? (ad.add (j * size + i)) = some u)
theorem mJ.zX {α:Type} {R R':α → List Value → Prop} {size:Nat} {w w1:World} {A:Option Addr} {n:Nat} {ps:List α} (h:mJ R size w A n ps) (hb:Below w.heap.size w w1) (hR:∀ p c,R p c → R' p c):mJ R' size w1 A n ps :=
 ⟨h.1,h.2.1,fun hn=>by
  obtain ⟨ad,e,hc⟩:=h.2.2 hn
  refine ⟨ad,e,fun j p hj=>?_⟩
  obtain ⟨c,hs,hr,hcell⟩:=hc j p hj
  exact ⟨c,hs,hR _ _ hr,fun i u hu=>nM hb (hcell i u hu)⟩⟩
theorem zY {α:Type} {R:α → List Value → Prop} {w:World} {base n size:Nat} {e:TypeId} {v:Value} {ps:List α} {cs:List Value} (h:w.ownsRow base e size v n cs) (hR:fQ R size ps cs) (hn:ps.length = n) :
  ∃ A c,v = .slice A n c ∧ mJ R size w A n ps:=by
 rcases Nat.eq_zero_or_pos n with h0 | h0
 ·rcases h.2 with ⟨rfl,rfl⟩ | ⟨g,cap,cur,rfl,_⟩
  ·exact ⟨none,0,rfl,hn,by omega,fun hp=>absurd hp (by omega)⟩
  ·exact ⟨_,cap,rfl,hn,by omega,fun hp=>absurd hp (by omega)⟩
 ·obtain ⟨g,cap,rfl,_,_⟩:=h.form h0
  have hm:n ≤ 9223372036854775807:=by
   rcases h.2 with ⟨_,h1⟩ | ⟨g',cap',cur,he,_,_,h1,h2,_⟩
   ·omega
   ·simp only [maxLen] at h2
    omega
  refine ⟨_,cap,rfl,hn,hm,fun _=>⟨_,rfl,fun j p hj=>⟨(cs.drop (j * size)).take size,?_,hR.2 j p hj,fun i u hu=>?_⟩⟩⟩
  ·have hjl:=(List.getElem?_eq_some_iff.1 hj).1
   have h1:j * size + size ≤ cs.length:=by rw [hR.1,← Nat.succ_mul];exact Nat.mul_le_mul_right _ hjl
   rw [List.length_take,List.length_drop]
   omega
  ·refine h.cells (g:=g) rfl _ u ?_
   rw [List.getElem?_take] at hu
   split at hu
   ·rw [List.getElem?_drop] at hu
    exact hu
   ·cases hu
section
variable {P : Program} {ops:Array Oper} {rest:List Oper} {o:Oper} {a:Act} {Q:Exit → Act → World → Prop}
theorem mK {w0 W:World} (base:Nat) (hgd:o.guard = none) (s x:Operand) (t e:TypeId) (z:Value) (size bytes:Nat)
  (ho:o.op = .call { callee:=.builtin .append,args:=#[s,x],argTypes:=#[t,t] })
  (ht:P.underlying t = some (.slice e)) (hinfo:(P.info? e).map (fun i=>(i.zero,i.size,i.bytes)) = some (some z,size,bytes)) (hz:z.cells.size = size) (hs0:0 < size) (hb0:0 < bytes)
  (v:Value) (n:Nat) (xs ys:List Value) (hs:a.eval s = v) (hx:a.eval x = .slice (some ⟨W.heap.size,0,none⟩) 1 1) (hys:ys.length = size) (h1:∀ u ∈ ys,u.oneCell' = true)
  (HO:W.ownsRow base e size v n xs) (HB:Below base w0 W) (hbase:base ≤ W.heap.size) (hl:(n + 1) * bytes ≤ 140737488355328)
  (h:∀ v1 w1,w1.ownsRow base e size v1 (n + 1) (xs ++ ys) → Below base w0 w1 → W.grownBy w1 v.ownBlock → (v1.ownBlock = v.ownBlock ∨ ∃ b,v1.ownBlock = some b ∧ W.heap.size ≤ b) → wpList P ops Q rest (a.put o.dst v1) w1) :
  wpList P ops Q (o :: rest) a (W.alloc (.cells ys.toArray e)):=by
 obtain ⟨i0,hi,hzz⟩:=Option.map_eq_some_iff.1 hinfo
 simp only [Prod.mk.injEq] at hzz
 obtain ⟨hz0,hz1,hz2⟩:=hzz
 have hlen:n + 1 ≤ 140737488355328:=Nat.le_trans (Nat.le_mul_of_pos_right _ hb0) hl
 refine wpList_append_own_at (W.alloc (.cells ys.toArray e)) hgd s x t ho base e i0 z size bytes ht hi hz0 hz1 hz2 hz hs0 v n xs hs (HO.alloc _) ⟨W.heap.size,0,none⟩ 1 1 ys hx (by rw [hys];simp)
  (by simpa using World.news_of_block (cs:=ys.toArray) (t:=e) (fr:=(0,0)) (heap_alloc_new W (.cells ys.toArray e))) h1 (by simp only [maxLen];omega) hl (by simp;omega) ?_
 intro v1 w1 hown hg _ hat
 refine h v1 w1 hown ((HB.alloc hbase _).grown hg (by simp;omega) (tV HO)) (World.grownBy.trans (World.grownBy_alloc W _ _) hg) ?_
 rcases hat with hat | hat
 ·exact .inl hat
 ·exact .inr ⟨_,hat,by simp⟩
end
theorem own_ne {w:World} {base:Nat} {e t:TypeId} {size n g:Nat} {v:Value} {xs:List Value} {cs:Array Value} (h:w.ownsRow base e size v n xs) (hg:w.heap[g]? = some (.cells cs t (0,0))) (hne:e ≠ t):some g ≠ v.ownBlock:=by
 rcases h.2 with ⟨rfl,_⟩ | ⟨g',cap,cur,rfl,_,hh,_⟩
 ·simp [Value.ownBlock]
 ·intro he
  have:g = g':=by simpa [Value.ownBlock] using he
  subst this
  rw [hg] at hh
  injection hh with hh
  injection hh with _ ht
  exact hne ht.symm
theorem Qz {w:World} {g:Nat} {t:TypeId} {cs:Array Value} (h:w.heap[g]? = some (.cells cs t (0,0))) (i:Nat) (u:Value):(w.setCell ⟨g,i,none⟩ u).heap[g]? = some (.cells (cs.setIfInBounds i u) t (0,0)):=by
 simp [World.setCell,Array.getElem?_modify,h]
theorem oJ {w:World} {g:Nat} {t:TypeId} {cs:Array Value} (h:w.heap[g]? = some (.cells cs t (0,0))) {p:Addr} (hp:g ≠ p.block) (u:Value):(w.setCell p u).heap[g]? = some (.cells cs t (0,0)):=(Below.heap_setCell w p u g hp).trans h
theorem jO {w:World} {g:Nat} {o:Obj} (h:w.heap[g]? = some o):g < w.heap.size:=(Array.getElem?_eq_some_iff.1 h).1
theorem aK {w:World} {g:Nat} {t:TypeId} {cs:Array Value} (h:w.heap[g]? = some (.cells cs t (0,0))) (i:Nat):w.cell? ⟨g,i,none⟩ = cs[i]?:=cell_of_row w g i cs t (0,0) h
theorem aA {w:World} {g:Nat} {t:TypeId} {cs:Array Value} (h:w.heap[g]? = some (.cells cs t (0,0))) (i:Nat):w.frozen? ⟨g,i,none⟩ = false:=by simp [World.frozen?,h]
theorem qF {w w1:World} {g:Nat} {o:Obj} {row:Option Nat} (h:w.heap[g]? = some o) (hg:w.grownBy w1 row) (hne:some g ≠ row):w1.heap[g]? = some o:=(hg.block g (jO h) hne).trans h
theorem Wo {w:World} {g g':Nat} {t t':TypeId} {cs cs':Array Value} (h:w.heap[g]? = some (.cells cs t (0,0))) (h':w.heap[g']? = some (.cells cs' t' (0,0))) (hne:t ≠ t'):g ≠ g':=by
 rintro rfl
 rw [h] at h'
 injection h' with h'
 injection h' with _ ht
 exact hne ht
def gZ (w w':World) (g:Nat) (row:Option Nat):Prop:=w.heap.size ≤ w'.heap.size ∧ ∀ i,i < w.heap.size → i ≠ g → some i ≠ row → w'.heap[i]? = w.heap[i]?
theorem gZ.refl (w:World) (g:Nat) (row:Option Nat):gZ w w g row:=⟨Nat.le_refl _,fun _ _ _ _=>rfl⟩
theorem gZ.of_below {w w1:World} (h:Below w.heap.size w w1) (g:Nat) (row:Option Nat):gZ w w1 g row:=⟨h.size,fun i hi _ _=>h.block i hi⟩
theorem gZ.trans {w w1 w2:World} {g:Nat} {row fD:Option Nat} (h:gZ w w1 g row) (k:gZ w1 w2 g fD) (hr:fD = row ∨ ∃ b,fD = some b ∧ w.heap.size ≤ b):gZ w w2 g row :=
 ⟨Nat.le_trans h.1 k.1,fun i hi hg hn=>by
  refine (k.2 i (Nat.lt_of_lt_of_le hi h.1) hg ?_).trans (h.2 i hi hg hn)
  rcases hr with rfl | ⟨b,rfl,hb⟩
  ·exact hn
  ·intro e
   injection e with e
   omega⟩
theorem gZ.blk {w w1:World} {g g':Nat} {row:Option Nat} {o:Obj} (h:gZ w w1 g row) (hb:w.heap[g']? = some o) (hg:g' ≠ g) (hr:some g' ≠ row):w1.heap[g']? = some o:=(h.2 g' (jO hb) hg hr).trans hb
theorem gZ.own {w w1:World} {g:Nat} {row:Option Nat} {base:Nat} {e:TypeId} {size n:Nat} {v:Value} {xs:List Value} (h:gZ w w1 g row) (ho:w.ownsRow base e size v n xs) (hg:v.ownBlock ≠ some g) (hr:v.ownBlock = none ∨ v.ownBlock ≠ row):w1.ownsRow base e size v n xs:=by
 obtain ⟨h1,h2⟩:=ho
 refine ⟨h1,?_⟩
 rcases h2 with h2 | ⟨b,cap,cur,rfl,hb,hh,r⟩
 ·exact .inl h2
 ·refine .inr ⟨b,cap,cur,rfl,hb,h.blk hh ?_ ?_,r⟩
  ·intro e
   exact hg (by rw [← e];rfl)
  ·rcases hr with hr | hr
   ·simp [Value.ownBlock] at hr
   ·exact hr
def Ev {α:Type} (g:Nat → Option α) (r:α):Prop:=∃ K,∀ k,K ≤ k → g k = some r
theorem Ev.of {α:Type} {g:Nat → Option α} {r:α} (hg:∀ k,lg (g k) (g (k + 1))) {k:Nat} (h:g k = some r):Ev g r:=⟨k,fun _ hk=>vD hg hk h⟩
theorem Ev.now {α:Type} (r:α):Ev (fun _=>some r) r:=⟨0,fun _ _=>rfl⟩
theorem Ev.rounds {α:Type} {g:Nat → Option α} {r:α} (h:Ev g r):∃ k,g k = some r:=by
 obtain ⟨K,h⟩:=h
 exact ⟨K,h K (Nat.le_refl _)⟩
theorem Ev.bind {α β:Type} {g:Nat → Option α} {f:Nat → α → Option β} {a:α} {r:β} (h:Ev g a) (k:Ev (fun n=>f n a) r):Ev (fun n=>(g n).bind (f n)) r:=by
 obtain ⟨K,h⟩:=h
 obtain ⟨K',k⟩:=k
 refine ⟨max K K',fun n hn=>?_⟩
 have h1:=h n (by omega)
 have h2:=k n (by omega)
 simp only [h1,Option.bind_some]
 exact h2
theorem Ev.step {α:Type} {g f:Nat → Option α} {r:α} (h:∀ k,g (k + 1) = f k) (k:Ev f r):Ev g r:=by
 obtain ⟨K,k⟩:=k
 refine ⟨K + 1,fun n hn=>?_⟩
 obtain ⟨m,rfl⟩:∃ m,n = m + 1:=⟨n - 1,by omega⟩
 rw [h]
 exact k m (by omega)
theorem Ev.congr {α:Type} {g f:Nat → Option α} {r:α} (h:∀ k,g k = f k) (k:Ev f r):Ev g r:=by
 obtain ⟨K,k⟩:=k
 exact ⟨K,fun n hn=>(h n).trans (k n hn)⟩
section
variable {P : Program} {ops:Array Oper} {o:Oper} {a:Act} {Q:Exit → Act → World → Prop} {K:Act → World → Prop}
theorem tY {w0 W:World} (base:Nat) (hw:Region.wanted o (yielded ops a.tmps) = true) (s x:Operand) (t e:TypeId) (z:Value) (size bytes:Nat)
  (ho:o.op = .call { callee:=.builtin .append,args:=#[s,x],argTypes:=#[t,t] })
  (ht:P.underlying t = some (.slice e)) (hinfo:(P.info? e).map (fun i=>(i.zero,i.size,i.bytes)) = some (some z,size,bytes)) (hz:z.cells.size = size) (hs0:0 < size) (hb0:0 < bytes)
  (v:Value) (n:Nat) (xs ys:List Value) (hs:a.eval s = v) (hx:a.eval x = .slice (some ⟨W.heap.size,0,none⟩) 1 1) (hys:ys.length = size) (h1:∀ u ∈ ys,u.oneCell' = true)
  (HO:W.ownsRow base e size v n xs) (HB:Below base w0 W) (hbase:base ≤ W.heap.size) (hl:(n + 1) * bytes ≤ 140737488355328)
  (h:∀ v1 w1,w1.ownsRow base e size v1 (n + 1) (xs ++ ys) → Below base w0 w1 → W.grownBy w1 v.ownBlock → (v1.ownBlock = v.ownBlock ∨ ∃ b,v1.ownBlock = some b ∧ W.heap.size ≤ b) → K (a.put o.dst v1) w1) :
  if Region.wanted o (yielded ops a.tmps) = true then Oper.wp P o a (W.alloc (.cells ys.toArray e)) K Q else K (a.put o.dst undef) (W.alloc (.cells ys.toArray e)):=by
 obtain ⟨i0,hi,hzz⟩:=Option.map_eq_some_iff.1 hinfo
 simp only [Prod.mk.injEq] at hzz
 obtain ⟨hz0,hz1,hz2⟩:=hzz
 have hlen:n + 1 ≤ 140737488355328:=Nat.le_trans (Nat.le_mul_of_pos_right _ hb0) hl
 rw [if_pos hw]
 obtain ⟨v1,w1,hr,hown,hg,_,hat⟩:=run_append_own_at (P:=P) (W.alloc (.cells ys.toArray e)) base t o.type e i0 z size bytes ht hi hz0 hz1 hz2 hz hs0 v n xs (HO.alloc _) ⟨W.heap.size,0,none⟩ 1 1 ys (by rw [hys];simp)
  (by simpa using World.news_of_block (cs:=ys.toArray) (t:=e) (fr:=(0,0)) (heap_alloc_new W (.cells ys.toArray e))) h1 (by simp only [maxLen];omega) hl (by simp;omega)
 unfold Oper.wp execOp
 simp only [ho,resolve,invoke,builtin,Sem.run_bind,Sem.run_pure,Result.andThen_ok,List.map_toArray,List.map_cons,List.map_nil,hs,hx,hr]
 refine h v1 w1 hown ((HB.alloc hbase _).grown hg (by simp;omega) (tV HO)) (World.grownBy.trans (World.grownBy_alloc W _ _) hg) ?_
 rcases hat with hat | hat
 ·exact .inl hat
 ·exact .inr ⟨_,hat,by simp⟩
end
theorem Gy {w:World} {base base':Nat} {e:TypeId} {size n:Nat} {v:Value} {xs:List Value} (h:w.ownsRow base e size v n xs) (hb:base' ≤ base):w.ownsRow base' e size v n xs:=by
 obtain ⟨h1,h2⟩:=h
 refine ⟨h1,?_⟩
 rcases h2 with h2 | ⟨g,cap,cur,rfl,hg,r⟩
 ·exact .inl h2
 ·exact .inr ⟨g,cap,cur,rfl,Nat.le_trans hb hg,r⟩
section
variable {α : Type} {enc:α → Value} {d:α}
def encs (enc:α → Value) (xs:List α):List Value:=xs.map enc
def Gz (d:α) (xs:List α) (i:Int):α:=xs.getD i.toNat d
theorem wo (xs:List α):(encs enc xs).length = xs.length:=by simp [encs]
theorem M9 (xs:List α) (j:Nat) (h:j < xs.length):(encs enc xs)[j]? = some (enc (xs.getD j d)):=by
 simp [encs,List.getElem?_eq_getElem h,List.getD_eq_getElem?_getD]
def gP (enc:α → Value) (d:α) (w:World) (A:Option Addr) (n:Nat) (xs:List α):Prop :=
 xs.length = n ∧ n ≤ 9223372036854775807 ∧ (0 < n → ∃ ad,A = some ad ∧ ∀ j,j < n → w.cell? (ad.add j) = some (enc (xs.getD j d)))
theorem gP.at_ {w:World} {A:Option Addr} {n:Nat} {xs:List α} (h:gP enc d w A n xs) (i:Int) (h0:0 ≤ i) (h1:i < n):∃ ad,A = some ad ∧ w.cell? (ad.add i.toNat) = some (enc (Gz d xs i)):=by
 obtain ⟨ad,e,hc⟩:=h.2.2 (by omega)
 exact ⟨ad,e,hc _ (by omega)⟩
theorem gP.below {w w1:World} {A:Option Addr} {n:Nat} {xs:List α} (h:gP enc d w A n xs) (hb:Below w.heap.size w w1):gP enc d w1 A n xs :=
 ⟨h.1,h.2.1,fun hn=>by
  obtain ⟨ad,e,hc⟩:=h.2.2 hn
  exact ⟨ad,e,fun j hj=>nM hb (hc j hj)⟩⟩
theorem gP.EB {w:World} {A:Option Addr} {n:Nat} {xs:List α} (h:gP enc d w A n xs) (i:Nat) (hi:i ≤ n):gP enc d w A i (xs.take i):=by
 refine ⟨by rw [List.length_take,h.1];omega,by have:=h.2.1;omega,fun hp=>?_⟩
 obtain ⟨ad,e,hc⟩:=h.2.2 (by omega)
 refine ⟨ad,e,fun j hj=>?_⟩
 rw [hc j (by omega)]
 simp [List.getD_eq_getElem?_getD,hj]
theorem JY {W:World} {base g n cap:Nat} {e:TypeId} {xs:List α} (h:W.ownsRow base e 1 (.slice (some ⟨g,0,none⟩) n cap) n (encs enc xs)) (i:Int) (h0:0 ≤ i) (h1:i < n) :
  W.cell? ⟨g,i.toNat,none⟩ = some (enc (Gz d xs i)) ∧ W.frozen? ⟨g,i.toNat,none⟩ = false:=by
 have hl:xs.length = n:=by have:=h.1;simp [encs] at this;exact this
 constructor
 ·have hc:=h.cells (g:=g) rfl i.toNat _ (M9 (d:=d) xs i.toNat (by omega))
  rwa [add_plain] at hc
 ·rcases h.2 with ⟨h',_⟩ | ⟨g',cap',cur,h',_,hh,_⟩
  ·cases h'
  ·have:g = g':=by injection h' with h';injection h' with h';injection h' with h'
   subst this
   simp [World.frozen?,hh]
theorem Cv {W:World} {base g n cap:Nat} {e:TypeId} {xs:List α} (h:W.ownsRow base e 1 (.slice (some ⟨g,0,none⟩) n cap) n (encs enc xs)) (i:Int) (x:α) :
  (W.setCell ⟨g,i.toNat,none⟩ (enc x)).ownsRow base e 1 (.slice (some ⟨g,0,none⟩) n cap) n (encs enc (xs.set i.toNat x)) ∧ W.grownBy (W.setCell ⟨g,i.toNat,none⟩ (enc x)) (some g):=by
 have hs:=h.stored i.toNat (enc x)
 have he:(encs enc xs).set i.toNat (enc x) = encs enc (xs.set i.toNat x):=by simp [encs,List.map_set]
 rwa [he] at hs
end
section
variable {α : Type} {P:Program} {ops:Array Oper} {rest:List Oper} {o:Oper} {a:Act} {Q:Exit → Act → World → Prop}
end
theorem aD {w:World} {g:Nat} {o:Obj} (h:w.heap[g]? = some o) (o':Obj):(w.alloc o').heap[g]? = some o:=(Below.heap_alloc w o' g (jO h)).trans h
theorem aH {w:World} {g:Nat} {o:Obj} (h:w.heap[g]? = some o):w.drew.heap[g]? = some o:=h
theorem aG {w:World} {g:Nat} {o:Obj} (h:w.heap[g]? = some o) (n:Nat):(w.drewN n).heap[g]? = some o:=h
theorem dS {w w1:World} {g:Nat} {o:Obj} (h:w.heap[g]? = some o) (hb:Below w.heap.size w w1):w1.heap[g]? = some o:=(hb.block g (jO h)).trans h
theorem tZ (w:World) (o:Obj):(w.alloc o).heap[w.heap.size]? = some o:=heap_alloc_new w o
section
variable {P : Program}
theorem j3 {fn:Func} {p u:Tmp} {ty:TypeId} (h:fn.results = #[.cell p ty,.tmp u]) (tmps:Array Value) (w:World) (g:Nat) (t:TypeId) (cs:Array Value) (fr:Nat × Nat) (d:TypeDesc)
  (hp:tmps.getD p undef = .pointer (some ⟨g,0,none⟩)) (hg:w.heap[g]? = some (.cells cs t fr))
  (hu:P.underlying ty = some d) (hd:(match d with | .struct _ | .array _ _=>true | _=>false) = true) (hi:(P.info? ty).map (·.size) = some cs.size) :
  (results fn tmps).run P w = .ok (.tuple #[.agg cs,tmps.getD u undef]) w:=by
 have hp':tmps[p]?.getD undef = .pointer (some ⟨g,0,none⟩):=by simpa using hp
 simp [results,h,hp',asAddr,run_loadVar_row w g t ty cs fr d hg hu hd hi]
end
theorem Wp {w:World} {base n m c size:Nat} {e:TypeId} {A:Option Addr} {xs:List Value} (h:w.ownsRow base e size (.slice A m c) n xs):m ≤ c:=by
 rcases h.2 with ⟨he,_⟩ | ⟨g,cap,cur,he,_,_,hnc,_⟩
 ·injection he with _ h2 h3
  omega
 ·injection he with _ h2 h3
  omega
def gq {α:Type} (R:α → List Value → Prop) (e:TypeId) (size:Nat) (w:World) (base:Nat) (v:Value) (ps:List α):Prop :=
 ∃ inner,w.ownsRow base e size v ps.length inner ∧ fQ R size ps inner
section
variable {α : Type} {R R':α → List Value → Prop} {e:TypeId} {size:Nat} {w w1:World} {base:Nat} {v:Value} {ps:List α}
theorem gq.none_ (R:α → List Value → Prop) (e:TypeId) (size:Nat) (w:World) (base:Nat):gq R e size w base (.slice none 0 0) []:=⟨[],Qy _ _ _ _,fQ.none _ _⟩
theorem gq.zX (h:gq R e size w base v ps) (hR:∀ p c,R p c → R' p c):gq R' e size w base v ps:=by
 obtain ⟨inner,ho,hr⟩:=h
 exact ⟨inner,ho,hr.zX hR⟩
theorem gq.below (h:gq R e size w base v ps) (hb:Below w.heap.size w w1):gq R e size w1 base v ps:=by
 obtain ⟨inner,ho,hr⟩:=h
 exact ⟨inner,tX ho hb,hr⟩
theorem gq.other (h:gq R e size w base v ps) {row:Option Nat} (hg:w.grownBy w1 row) (hne:v.ownBlock = none ∨ v.ownBlock ≠ row):gq R e size w1 base v ps:=by
 obtain ⟨inner,ho,hr⟩:=h
 exact ⟨inner,JX ho hg hne,hr⟩
theorem gq.keep (h:gq R e size w base v ps) {g:Nat} {t:TypeId} {cells:Array Value} (hb:w.heap[g]? = some (.cells cells t (0,0))) (ht:e ≠ t) (hk:gZ w w1 g none):gq R e size w1 base v ps:=by
 obtain ⟨inner,ho,hr⟩:=h
 exact ⟨inner,hk.own ho (Ne.symm (own_ne ho hb ht)) (by cases v.ownBlock <;> simp),hr⟩
theorem gq.reads (h:gq R e size w base v ps):∃ A c,v = .slice A ps.length c ∧ ps.length ≤ c ∧ mJ R size w A ps.length ps:=by
 obtain ⟨inner,ho,hr⟩:=h
 obtain ⟨A,c,rfl,hrow⟩:=zY ho hr rfl
 exact ⟨A,c,rfl,Wp ho,hrow⟩
theorem gq.Na (h:gq R e size w base v ps) {g:Nat} {t:TypeId} {cells:Array Value} (hb:w.heap[g]? = some (.cells cells t (0,0))) (ht:e ≠ t):some g ≠ v.ownBlock:=by
 obtain ⟨inner,ho,hr⟩:=h
 exact own_ne ho hb ht
theorem gq.lit (W:World) (base:Nat) {inner:List Value} (hr:fQ R size ps inner) (hb:base ≤ W.heap.size) (hm:ps.length ≤ 9223372036854775807) :
  gq R e size (W.alloc (.cells inner.toArray e)) base (.slice (some ⟨W.heap.size,0,none⟩) ps.length ps.length) ps:=by
 have h:=World.ownsRow_lit (base:=base) (e:=e) (size:=size) W inner.toArray ps.length hb (by simpa [maxLen] using hm) (by simpa using hr.1)
 exact ⟨inner,by simpa using h,hr⟩
end
section
variable {P : Program} {ops:Array Oper} {rest:List Oper} {o:Oper} {a:Act} {Q:Exit → Act → World → Prop} {α:Type} {R:α → List Value → Prop}
theorem gq.append {w0 W:World} (base:Nat) (hgd:o.guard = none) (s x:Operand) (t e:TypeId) (z:Value) (size bytes:Nat)
  (ho:o.op = .call { callee:=.builtin .append,args:=#[s,x],argTypes:=#[t,t] })
  (ht:P.underlying t = some (.slice e)) (hinfo:(P.info? e).map (fun i=>(i.zero,i.size,i.bytes)) = some (some z,size,bytes)) (hz:z.cells.size = size) (hs0:0 < size) (hb0:0 < bytes)
  (v:Value) (ps:List α) (p:α) (cs:List Value) (hs:a.eval s = v) (hx:a.eval x = .slice (some ⟨W.heap.size,0,none⟩) 1 1) (hp:R p cs) (hcs:cs.length = size) (h1:∀ u ∈ cs,u.oneCell' = true)
  (HO:gq R e size W base v ps) (HB:Below base w0 W) (hbase:base ≤ W.heap.size) (hl:(ps.length + 1) * bytes ≤ 140737488355328)
  (h:∀ v1 w1,gq R e size w1 base v1 (ps ++ [p]) → Below base w0 w1 → W.grownBy w1 v.ownBlock → (v1.ownBlock = v.ownBlock ∨ ∃ b,v1.ownBlock = some b ∧ W.heap.size ≤ b) → wpList P ops Q rest (a.put o.dst v1) w1) :
  wpList P ops Q (o :: rest) a (W.alloc (.cells cs.toArray e)):=by
 obtain ⟨inner,hown,hr⟩:=HO
 refine mK base hgd s x t e z size bytes ho ht hinfo hz hs0 hb0 v ps.length inner cs hs hx hcs h1 hown HB hbase hl ?_
 intro v1 w1 hown1 hb1 hg1 GA
 exact h v1 w1 ⟨inner ++ cs,by rw [List.length_append,List.length_singleton];exact hown1,hr.snoc hp hcs⟩ hb1 hg1 GA
end
section
variable {P : Program} {ops:Array Oper} {o:Oper} {a:Act} {Q:Exit → Act → World → Prop} {K:Act → World → Prop} {α:Type} {R:α → List Value → Prop}
end
section
variable {α : Type} {P:Program}
theorem gP.len_ {enc:α → Value} {d:α} {w:World} {A:Option Addr} {n:Nat} {xs:List α} (h:gP enc d w A n xs):gP enc d w A xs.length xs:=by rw [h.1];exact h
end
section
variable {P : Program} {ops:Array Oper} {rest:List Oper} {o:Oper} {a:Act} {Q:Exit → Act → World → Prop}
end
structure Kd (α:Type) where
 sz:Nat
 E:List Nat
 K:World → α → List Value → Prop
 M:World → Nat → (Nat → Prop) → α → List Value → Prop
 oV:∀ {w x cs},K w x cs → cs.length = sz
 p9:∀ {w x cs},K w x cs → ∀ u ∈ cs,u.oneCell' = true
 l6:∀ {w w1:World} {x cs},Below w.heap.size w w1 → K w x cs → K w1 x cs
 jy:∀ {w base ok x cs},M w base ok x cs → K w x cs
 kE:∀ {w base ok ok' x cs},(∀ k,ok k → ok' k) → M w base ok x cs → M w base ok' x cs
 kF:∀ {w:World} {base ok x cs},M w base ok x cs → M w base (fun k=>ok k ∧ base ≤ k ∧ k < w.heap.size ∧ ∃ q,q ∈ E ∧ ∃ cells,w.heap[k]? = some (.cells cells q (0,0))) x cs
 mM:∀ {w w1:World} {base ok x cs},(∀ k,ok k → w1.heap[k]? = w.heap[k]?) → M w base ok x cs → M w1 base ok x cs
 l7:∀ {w base base' ok x cs},base' ≤ base → M w base ok x cs → M w base' ok x cs
theorem Nb {w w1:World} {base:Nat} {e:TypeId} {size n:Nat} {v:Value} {xs:List Value} (h:w.ownsRow base e size v n xs) (hm:∀ k,v.ownBlock = some k → w1.heap[k]? = w.heap[k]?):w1.ownsRow base e size v n xs:=by
 obtain ⟨h1,h2⟩:=h
 refine ⟨h1,?_⟩
 rcases h2 with h2 | ⟨g,cap,cur,rfl,hg,hh,r⟩
 ·exact .inl h2
 ·exact .inr ⟨g,cap,cur,rfl,hg,(hm g (by simp [Value.ownBlock])).trans hh,r⟩
theorem AQ {w:World} {base:Nat} {e:TypeId} {size n:Nat} {v:Value} {xs:List Value} (h:w.ownsRow base e size v n xs) (k:Nat) (hk:v.ownBlock = some k):∃ cells,w.heap[k]? = some (.cells cells e (0,0)):=by
 rcases h.2 with ⟨rfl,_⟩ | ⟨g,cap,cur,rfl,hg,hh,r⟩
 ·simp [Value.ownBlock] at hk
 ·have:g = k:=by simpa [Value.ownBlock] using hk
  subst this
  exact ⟨cur,hh⟩
namespace Kd
def C {α:Type} (d:Kd α) (w:World) (A:Option Addr) (n:Nat) (xs:List α):Prop:=mJ (d.K w) d.sz w A n xs
def R {α:Type} (d:Kd α) (e:Nat) (w:World) (base:Nat) (ok:Nat → Prop) (v:Value) (xs:List α):Prop :=
 (∀ k,v.ownBlock = some k → ok k) ∧ gq (d.M w base (fun k=>ok k ∧ some k ≠ v.ownBlock)) e d.sz w base v xs
section
variable {α : Type} {d:Kd α} {e:Nat} {w w1:World} {base:Nat} {ok ok':Nat → Prop} {v:Value} {xs:List α}
theorem QA {A:Option Addr} {n:Nat} (h:d.C w A n xs) (hb:Below w.heap.size w w1):d.C w1 A n xs:=mJ.zX h hb (fun _ _ hp=>d.l6 hb hp)
theorem jM (d:Kd α) (e:Nat) (w:World) (base:Nat) (ok:Nat → Prop):d.R e w base ok (.slice none 0 0) []:=⟨fun k hk=>by simp [Value.ownBlock] at hk,gq.none_ _ _ _ _ _⟩
theorem qb (h:d.R e w base ok v xs) (hok:∀ k,ok k → ok' k):d.R e w base ok' v xs:=⟨fun k hk=>hok k (h.1 k hk),h.2.zX (fun _ _ hp=>d.kE (fun k hk=>⟨hok k hk.1,hk.2⟩) hp)⟩
theorem Cw (h:d.R e w base ok v xs):d.R e w base (fun k=>ok k ∧ base ≤ k ∧ k < w.heap.size ∧ ∃ q,q ∈ e :: d.E ∧ ∃ cells,w.heap[k]? = some (.cells cells q (0,0))) v xs:=by
 obtain ⟨h0,inner,ho,hr⟩:=h
 refine ⟨fun k hk=>?_,inner,ho,hr.zX (fun _ _ hp=>d.kE (fun k hk=>?_) (d.kF hp))⟩
 ·obtain ⟨cells,hc⟩:=AQ ho k hk
  exact ⟨h0 k hk,tV ho k hk,Wn ho k hk,e,List.mem_cons_self,cells,hc⟩
 ·obtain ⟨⟨h1,h2⟩,h3,h4,q,hq,hc⟩:=hk
  exact ⟨⟨h1,h3,h4,q,List.mem_cons_of_mem _ hq,hc⟩,h2⟩
theorem Nc (h:d.R e w base ok v xs) (hm:∀ k,ok k → w1.heap[k]? = w.heap[k]?):d.R e w1 base ok v xs:=by
 obtain ⟨h0,inner,ho,hr⟩:=h
 exact ⟨h0,inner,Nb ho (fun k hk=>hm k (h0 k hk)),hr.zX (fun _ _ hp=>d.mM (fun k hk=>hm k hk.1) hp)⟩
theorem uf {base':Nat} (h:d.R e w base ok v xs) (hb:base' ≤ base):d.R e w base' ok v xs:=by
 obtain ⟨h0,inner,ho,hr⟩:=h
 exact ⟨h0,inner,Gy ho hb,hr.zX (fun _ _ hp=>d.l7 hb hp)⟩
theorem Nf (h:d.R e w base ok v xs) (hm:∀ k,ok k → k < w.heap.size → w1.heap[k]? = w.heap[k]?):d.R e w1 base ok v xs :=
 qb (Nc (Cw h) (fun k hk=>hm k hk.1 hk.2.2.1)) (fun _ hk=>hk.1)
theorem Wq {x:α} {cs:List Value} (h:d.M w base ok x cs) (hm:∀ k,ok k → k < w.heap.size → w1.heap[k]? = w.heap[k]?):d.M w1 base ok x cs :=
 d.kE (fun _ hk=>hk.1) (d.mM (fun k hk=>hm k hk.1 hk.2.2.1) (d.kF h))
theorem l8 (h:d.R e w base ok v xs) (hb:Below w.heap.size w w1):d.R e w1 base ok v xs:=Nf h (fun k _ hk=>hb.block k hk)
theorem ug (h:d.R e w base ok v xs) {p:Addr} (hok:∀ k,ok k → k ≠ p.block) (u:Value):d.R e (w.setCell p u) base ok v xs:=Nf h (fun k ho _=>Below.heap_setCell w p u k (hok k ho))
theorem uh (h:d.R e w base ok v xs) {g t:Nat} {cells:Array Value} (hb:w.heap[g]? = some (.cells cells t (0,0))) (ht:∀ q,q ∈ e :: d.E → q ≠ t):d.R e w base (fun k=>ok k ∧ k ≠ g) v xs :=
 qb (Cw h) (fun k hk=>⟨hk.1,by
  obtain ⟨_,_,_,q,hq,cells',hc⟩:=hk
  rintro rfl
  rw [hc] at hb
  injection hb with hb
  injection hb with _ hb
  exact ht q hq hb⟩)
theorem Ng (h:d.R e w base ok v xs) {g t:Nat} {cells:Array Value} (hb:w.heap[g]? = some (.cells cells t (0,0))) (ht:∀ q,q ∈ e :: d.E → q ≠ t) (j:Nat) (u:Value):d.R e (w.setCell ⟨g,j,none⟩ u) base ok v xs :=
 qb (ug (p:=⟨g,j,none⟩) (uh h hb ht) (fun _ hk=>hk.2) u) (fun _ hk=>hk.1)
theorem Cx (h:d.R e w base ok v xs):∃ A c,v = .slice A xs.length c ∧ xs.length ≤ c ∧ d.C w A xs.length xs:=by
 obtain ⟨A,c,he,hl,hr⟩:=gq.reads h.2
 exact ⟨A,c,he,hl,hr.zX (Below.refl _ _) (fun _ _ hp=>d.jy hp)⟩
theorem Cy (h:d.R e w base ok v xs):∃ A c,v = .slice A xs.length c:=by
 obtain ⟨A,c,he,_⟩:=Cx h
 exact ⟨A,c,he⟩
theorem TQ (h:d.R e w base ok v xs):∃ inner,w.ownsRow base e d.sz v xs.length inner:=by
 obtain ⟨_,inner,ho,_⟩:=h
 exact ⟨inner,ho⟩
theorem QB (h:d.R e w base ok v xs) {g t:Nat} {cells:Array Value} (hb:w.heap[g]? = some (.cells cells t (0,0))) (ht:e ≠ t):some g ≠ v.ownBlock:=gq.Na h.2 hb ht
end
def scalar {α:Type} (enc:α → Value) (h1:∀ x,(enc x).oneCell' = true):Kd α where
 sz:=1
 E:=[]
 K:=fun _ x cs=>cs = [enc x]
 M:=fun _ _ _ x cs=>cs = [enc x]
 oV:=fun h=>by rw [h];rfl
 p9:=fun h u hu=>by
  rw [h] at hu
  rw [List.mem_singleton.1 hu]
  exact h1 _
 l6:=fun _ h=>h
 jy:=fun h=>h
 kE:=fun _ h=>h
 kF:=fun h=>h
 mM:=fun _ h=>h
 l7:=fun _ h=>h
def int (k:IntKind):Kd Int:=scalar (Value.int k) (fun _=>rfl)
def bool : Kd Bool:=scalar Value.bool (fun _=>rfl)
def string : Kd ByteArray:=scalar Value.string (fun _=>rfl)
def slice {α:Type} (e:Nat) (d:Kd α):Kd (List α) where
 sz:=1
 E:=e :: d.E
 K:=fun w xs cs=>∃ A c,cs = [.slice A xs.length c] ∧ xs.length ≤ c ∧ d.C w A xs.length xs
 M:=fun w base ok xs cs=>∃ v,cs = [v] ∧ d.R e w base ok v xs
 oV:=by
  rintro w x cs ⟨A,c,rfl,_⟩
  rfl
 p9:=by
  rintro w x cs ⟨A,c,rfl,_⟩ u hu
  rw [List.mem_singleton.1 hu]
  rfl
 l6:=by
  rintro w w1 x cs hb ⟨A,c,rfl,hl,hr⟩
  exact ⟨A,c,rfl,hl,QA hr hb⟩
 jy:=by
  rintro w base ok x cs ⟨v,rfl,h⟩
  obtain ⟨A,c,rfl,hl,hr⟩:=Cx h
  exact ⟨A,c,rfl,hl,hr⟩
 kE:=by
  rintro w base ok ok' x cs hok ⟨v,rfl,h⟩
  exact ⟨v,rfl,qb h hok⟩
 kF:=by
  rintro w base ok x cs ⟨v,rfl,h⟩
  exact ⟨v,rfl,Cw h⟩
 mM:=by
  rintro w w1 base ok x cs hm ⟨v,rfl,h⟩
  exact ⟨v,rfl,Nc h hm⟩
 l7:=by
  rintro w base base' ok x cs hb ⟨v,rfl,h⟩
  exact ⟨v,rfl,uf h hb⟩
def bot {α:Type} (sz:Nat) (E:List Nat):Kd α where
 sz:=sz
 E:=E
 K:=fun _ _ _=>False
 M:=fun _ _ _ _ _=>False
 oV:=fun h=>h.elim
 p9:=fun h=>h.elim
 l6:=fun _ h=>h
 jy:=fun h=>h
 kE:=fun _ h=>h
 kF:=fun h=>h
 mM:=fun _ h=>h
 l7:=fun _ h=>h
def upto {α:Type} (F:Kd α → Kd α) (sz:Nat) (E:List Nat):Nat → Kd α
 | 0=>bot sz E
 | n + 1=>F (upto F sz E n)
theorem yS {α:Type} {d:Kd α} {e base:Nat} {ok JZ:Nat → Prop} {W w1:World} {v v1:Value} {xs:List α} {p:α} {inner cs:List Value} (h0:∀ k,v.ownBlock = some k → ok k) (hr:fQ (d.M W base (fun k=>ok k ∧ some k ≠ v.ownBlock)) d.sz xs inner) (hp:d.M W base JZ p cs) (Nh:∀ k,JZ k → ok k ∧ some k ≠ v.ownBlock) (hfresh:∀ k,W.heap.size ≤ k → ok k)
  (hown:w1.ownsRow base e d.sz v1 (xs.length + 1) (inner ++ cs)) (hg:W.grownBy w1 v.ownBlock) (hat:v1.ownBlock = v.ownBlock ∨ ∃ b,v1.ownBlock = some b ∧ W.heap.size ≤ b):d.R e w1 base ok v1 (xs ++ [p]):=by
 have hne:∀ k,some k ≠ v.ownBlock → k < W.heap.size → some k ≠ v1.ownBlock:=by
  intro k hk hlt
  rcases hat with hat | ⟨b,hb,hle⟩
  ·rw [hat];exact hk
  ·rw [hb]
   intro he
   injection he with he
   omega
 have step:∀ {q:α} {c:List Value} {o:Nat → Prop},d.M W base o q c → (∀ k,o k → ok k ∧ some k ≠ v.ownBlock) → d.M w1 base (fun k=>ok k ∧ some k ≠ v1.ownBlock) q c:=by
  intro q c o hq ho
  have h1:=d.mM (w1:=w1) (fun k hk=>hg.block k hk.2.2.1 (ho k hk.1).2) (d.kF hq)
  exact d.kE (fun k hk=>⟨(ho k hk.1).1,hne k (ho k hk.1).2 hk.2.2.1⟩) h1
 refine ⟨fun k hk=>?_,inner ++ cs,by rw [List.length_append,List.length_singleton];exact hown,?_⟩
 ·rcases hat with hat | ⟨b,hb,hle⟩
  ·exact h0 k (hat ▸ hk)
  ·rw [hb] at hk
   injection hk with hk
   exact hfresh k (by omega)
 ·exact (hr.zX (fun _ _ hq=>step hq (fun _ hk=>hk))).snoc (step hp Nh) (d.oV (d.jy hp))
section
variable {P : Program} {ops:Array Oper} {rest:List Oper} {o:Oper} {a:Act} {Q:Exit → Act → World → Prop} {α:Type}
theorem yT (d:Kd α) {w0 W:World} (base:Nat) (hgd:o.guard = none) (s x:Operand) (t e:TypeId) (z:Value) (bytes:Nat)
  (ho:o.op = .call { callee:=.builtin .append,args:=#[s,x],argTypes:=#[t,t] })
  (ht:P.underlying t = some (.slice e)) (hinfo:(P.info? e).map (fun i=>(i.zero,i.size,i.bytes)) = some (some z,d.sz,bytes)) (hz:z.cells.size = d.sz) (hs0:0 < d.sz) (hb0:0 < bytes)
  (v:Value) (xs:List α) (p:α) (cs:List Value) (ok JZ:Nat → Prop) (hs:a.eval s = v) (hx:a.eval x = .slice (some ⟨W.heap.size,0,none⟩) 1 1) (hp:d.M W base JZ p cs) (Nh:∀ k,JZ k → ok k ∧ some k ≠ v.ownBlock) (hfresh:∀ k,W.heap.size ≤ k → ok k)
  (HO:d.R e W base ok v xs) (HB:Below base w0 W) (hbase:base ≤ W.heap.size) (hl:(xs.length + 1) * bytes ≤ 140737488355328)
  (h:∀ v1 w1,d.R e w1 base ok v1 (xs ++ [p]) → Below base w0 w1 → W.grownBy w1 v.ownBlock → (v1.ownBlock = v.ownBlock ∨ ∃ b,v1.ownBlock = some b ∧ W.heap.size ≤ b) → wpList P ops Q rest (a.put o.dst v1) w1) :
  wpList P ops Q (o :: rest) a (W.alloc (.cells cs.toArray e)):=by
 obtain ⟨h0,inner,hown,hr⟩:=HO
 refine mK base hgd s x t e z d.sz bytes ho ht hinfo hz hs0 hb0 v xs.length inner cs hs hx (d.oV (d.jy hp)) (d.p9 (d.jy hp)) hown HB hbase hl ?_
 intro v1 w1 hown1 hb1 hg1 GA
 exact h v1 w1 (yS h0 hr hp Nh hfresh hown1 hg1 GA) hb1 hg1 GA
end
section
variable {P : Program} {ops:Array Oper} {o:Oper} {a:Act} {Q:Exit → Act → World → Prop} {Kc:Act → World → Prop} {α:Type}
theorem zZ (d:Kd α) {w0 W:World} (base:Nat) (hw:Region.wanted o (yielded ops a.tmps) = true) (s x:Operand) (t e:TypeId) (z:Value) (bytes:Nat)
  (ho:o.op = .call { callee:=.builtin .append,args:=#[s,x],argTypes:=#[t,t] })
  (ht:P.underlying t = some (.slice e)) (hinfo:(P.info? e).map (fun i=>(i.zero,i.size,i.bytes)) = some (some z,d.sz,bytes)) (hz:z.cells.size = d.sz) (hs0:0 < d.sz) (hb0:0 < bytes)
  (v:Value) (xs:List α) (p:α) (cs:List Value) (ok JZ:Nat → Prop) (hs:a.eval s = v) (hx:a.eval x = .slice (some ⟨W.heap.size,0,none⟩) 1 1) (hp:d.M W base JZ p cs) (Nh:∀ k,JZ k → ok k ∧ some k ≠ v.ownBlock) (hfresh:∀ k,W.heap.size ≤ k → ok k)
  (HO:d.R e W base ok v xs) (HB:Below base w0 W) (hbase:base ≤ W.heap.size) (hl:(xs.length + 1) * bytes ≤ 140737488355328)
  (h:∀ v1 w1,d.R e w1 base ok v1 (xs ++ [p]) → Below base w0 w1 → W.grownBy w1 v.ownBlock → (v1.ownBlock = v.ownBlock ∨ ∃ b,v1.ownBlock = some b ∧ W.heap.size ≤ b) → Kc (a.put o.dst v1) w1) :
  if Region.wanted o (yielded ops a.tmps) = true then Oper.wp P o a (W.alloc (.cells cs.toArray e)) Kc Q else Kc (a.put o.dst undef) (W.alloc (.cells cs.toArray e)):=by
 obtain ⟨h0,inner,hown,hr⟩:=HO
 refine tY base hw s x t e z d.sz bytes ho ht hinfo hz hs0 hb0 v xs.length inner cs hs hx (d.oV (d.jy hp)) (d.p9 (d.jy hp)) hown HB hbase hl ?_
 intro v1 w1 hown1 hb1 hg1 GA
 exact h v1 w1 (yS h0 hr hp Nh hfresh hown1 hg1 GA) hb1 hg1 GA
end
theorem EC {α:Type} {enc:α → Value} (xs:List α):fQ (fun (x:α) (cs:List Value)=>cs = [enc x]) 1 xs (encs enc xs):=by
 refine ⟨by simp [encs],fun j p hj=>?_⟩
 obtain ⟨hl,hp⟩:=List.getElem?_eq_some_iff.1 hj
 have hl':j < (encs enc xs).length:=by rw [wo];exact hl
 rw [Nat.mul_one,List.drop_eq_getElem_cons hl']
 simp [encs,hp]
theorem Ni {α:Type} {enc:α → Value} {h1:∀ x,(enc x).oneCell' = true} {e:Nat} {w:World} {base:Nat} {ok:Nat → Prop} {v:Value} {xs:List α} (ho:w.ownsRow base e 1 v xs.length (encs enc xs)) (hok:∀ k,v.ownBlock = some k → ok k):(scalar enc h1).R e w base ok v xs:=⟨hok,encs enc xs,ho,EC xs⟩
theorem uj {α:Type} {enc:α → Value} {h1:∀ x,(enc x).oneCell' = true} {e:Nat} {w:World} {base:Nat} {ok:Nat → Prop} {v:Value} {xs:List α} (h:(scalar enc h1).R e w base ok v xs):w.ownsRow base e 1 v xs.length (encs enc xs):=by
 obtain ⟨_,inner,ho,hr⟩:=h
 have:inner = encs enc xs:=by
  apply List.ext_getElem?
  intro j
  rcases Nat.lt_or_ge j xs.length with hj | hj
  ·have h2:=hr.2 j _ (List.getElem?_eq_getElem hj)
   have hl:j < inner.length:=by have:=hr.1;simp [scalar] at this;omega
   have h3:(inner.drop (j * 1)).take 1 = [enc xs[j]]:=h2
   rw [Nat.mul_one,List.drop_eq_getElem_cons hl] at h3
   have h4:inner[j] = enc xs[j]:=by
    have h5:=congrArg List.head? h3
    rw [List.take_succ_cons] at h5
    exact Option.some.inj h5
   rw [List.getElem?_eq_getElem hl,h4]
   simp [encs,List.getElem?_eq_getElem hj]
  ·have h3:inner.length = xs.length:=by have:=hr.1;simp [scalar] at this;omega
   rw [List.getElem?_eq_none (by omega),List.getElem?_eq_none (by rw [wo];omega)]
 rw [← this]
 exact ho
end Kd
namespace Kd
section
variable {α : Type} {F:Kd α → Kd α} {sz:Nat} {E:List Nat} {hs:∀ n,(upto F sz E n).sz = sz} {hE:∀ n q,q ∈ (upto F sz E n).E → q ∈ E}
end
end Kd
namespace Kd
end Kd
namespace Kd
section
variable {α β:Type} {d:Kd α} {d':Kd β} {e e':Nat} {w w1 W:World} {base b b':Nat} {ok ok' okv oku:Nat → Prop} {v u:Value} {xs:List α} {ys:List β}
theorem fJ (h:d.R e w base ok v xs) (o:Obj):d.R e (w.alloc o) base ok v xs:=l8 h (ak (Below.refl _ _) o)
theorem gI (h:d.R e w base ok v xs):d.R e w.drew base ok v xs:=l8 h (jw (Below.refl _ _))
theorem gy (h:d.R e w base ok v xs) (m:Nat):d.R e (w.drewN m) base ok v xs:=l8 h (ah (Below.refl _ _) m)
theorem aar (d:Kd α) (w:World):d.C w none ([]:List α).length []:=⟨rfl,by simp,fun h=>absurd h (Nat.lt_irrefl 0)⟩
theorem aas {A:Option Addr} {n:Nat} (h:d.C w A n xs):n ≤ 9223372036854775807:=h.2.1
theorem yU {A:Option Addr} {n c:Nat} (h:d.R e w base ok (.slice A n c) xs):n = xs.length ∧ n ≤ c ∧ d.C w A xs.length xs:=by
 obtain ⟨A',c',he,hl,hr⟩:=Cx h
 injection he with h1 h2 h3
 subst h1
 exact ⟨h2,by omega,hr⟩
theorem Ws (h:d.R e w base ok v xs):∀ k,v.ownBlock = some k → base ≤ k:=by
 obtain ⟨inner,ho⟩:=TQ h
 exact tV ho
theorem Wt (h:d.R e w base ok v xs) (hp:0 < xs.length):∃ g cap,v = .slice (some ⟨g,0,none⟩) xs.length cap ∧ base ≤ g ∧ g < w.heap.size ∧ ∃ cells,w.heap[g]? = some (.cells cells e (0,0)):=by
 obtain ⟨inner,ho⟩:=TQ h
 obtain ⟨g,cap,he,hb,hl⟩:=ho.form hp
 obtain ⟨cells,hc⟩:=AQ ho g (by rw [he];simp [Value.ownBlock])
 exact ⟨g,cap,he,hb,hl,cells,hc⟩
end
section
variable {w W:World} {A:Option Addr} {n:Nat}
variable {α : Type} {enc:α → Value} {h1:∀ x,(enc x).oneCell' = true} {e base g cap:Nat} {ok:Nat → Prop} {xs:List α}
theorem Nj (d:α) (h:(scalar enc h1).R e W base ok (.slice (some ⟨g,0,none⟩) xs.length cap) xs) (i:Int) (h0:0 ≤ i) (hi:i < xs.length):W.cell? ⟨g,i.toNat,none⟩ = some (enc (Gz d xs i)) ∧ W.frozen? ⟨g,i.toNat,none⟩ = false:=JY (uj h) i h0 hi
theorem aat (h:(scalar enc h1).R e W base ok (.slice (some ⟨g,0,none⟩) xs.length cap) xs) (i:Int) (x:α):(scalar enc h1).R e (W.setCell ⟨g,i.toNat,none⟩ (enc x)) base ok (.slice (some ⟨g,0,none⟩) xs.length cap) (xs.set i.toNat x) ∧ W.grownBy (W.setCell ⟨g,i.toNat,none⟩ (enc x)) (some g):=by
 obtain ⟨ho,hg⟩:=Cv (uj h) i x
 exact ⟨Ni (by rw [List.length_set];exact ho) h.1,hg⟩
end
section
variable {P : Program} {ops:Array Oper} {rest:List Oper} {o:Oper} {a:Act} {Q:Exit → Act → World → Prop}
theorem J2 {W w1:World} {v:Value} (hgd:o.guard = none) (hrun:(execOp a.eval o).run P W = .ok (.value v) w1) (h:wpList P ops Q rest (a.put o.dst v) w1):wpList P ops Q (o :: rest) a W:=by
 refine wpList_plain hgd fun K hK=>?_
 unfold Oper.wp
 rw [hrun]
 exact hK _ _ h
variable {α : Type}
end
end Kd
section
variable {P : Program}
end
def aau (w:World) (base:Nat) (e:TypeId) (size:Nat) (v:Value) (n:Nat) (xs:List Value):Prop :=
 xs.length = n * size ∧
 ((n = 0 ∧ ∃ A,v = .slice A 0 0 ∧ ∀ a,A = some a → base ≤ a.block ∧ ∃ cur,w.heap[a.block]? = some (.cells cur e (0,0))) ∨
 ∃ g off cap cur,v = .slice (some ⟨g,off * size,none⟩) n cap ∧ base ≤ g ∧ w.heap[g]? = some (.cells cur e (0,0)) ∧ n ≤ cap ∧ off + cap ≤ maxLen ∧ cur.size = (off + cap) * size ∧ (cur.toList.drop (off * size)).take (n * size) = xs)
section
variable {w w1:World} {base n size:Nat} {e:TypeId} {v:Value} {xs:List Value}
theorem Nk (h:w.ownsRow base e size v n xs):aau w base e size v n xs:=by
 obtain ⟨h1,h2⟩:=h
 refine ⟨h1,?_⟩
 rcases h2 with ⟨rfl,h0⟩ | ⟨g,cap,cur,rfl,hb,hh,hnc,hcm,hcs,ht⟩
 ·exact .inl ⟨h0,none,rfl,fun a ha=>by cases ha⟩
 ·exact .inr ⟨g,0,cap,cur,by rw [Nat.zero_mul],hb,hh,hnc,by rw [Nat.zero_add];exact hcm,by rw [Nat.zero_add];exact hcs,by rw [Nat.zero_mul,List.drop_zero];exact ht⟩
end
section
variable {P : Program}
end
namespace Kd
def Q {α:Type} (d:Kd α) (e:Nat) (w:World) (base:Nat) (ok:Nat → Prop) (v:Value) (xs:List α):Prop :=
 (∀ k,v.ownBlock = some k → ok k) ∧ ∃ inner,aau w base e d.sz v xs.length inner ∧ fQ (d.M w base (fun k=>ok k ∧ some k ≠ v.ownBlock)) d.sz xs inner
section
variable {α : Type} {d:Kd α} {e:Nat} {w w1 W:World} {base:Nat} {ok ok':Nat → Prop} {v:Value} {xs:List α}
theorem Wu (h:d.R e w base ok v xs):d.Q e w base ok v xs:=by
 obtain ⟨h0,inner,ho,hr⟩:=h
 exact ⟨h0,inner,Nk ho,hr⟩
theorem lu (d:Kd α) (e:Nat) (w:World) (base:Nat) (ok:Nat → Prop):d.Q e w base ok (.slice none 0 0) []:=Wu (jM d e w base ok)
end
section
variable {P : Program} {ops:Array Oper} {rest:List Oper} {o:Oper} {a:Act} {Q':Exit → Act → World → Prop} {Kc:Act → World → Prop} {α:Type}
end
end Kd
namespace Kd
section
variable {α : Type} {d:Kd α} {e e':Nat} {w w1 W:World} {base:Nat} {ok:Nat → Prop} {u v:Value} {xs:List α}
end
end Kd
namespace Kd
section
variable {α : Type} {d:Kd α} {e base g n cap:Nat} {ok JZ:Nat → Prop} {W:World} {xs:List α}
end
end Kd
namespace Kd
section
variable {α : Type} {F:Kd α → Kd α} {sz:Nat} {E:List Nat} {hs:∀ n,(upto F sz E n).sz = sz} {hE:∀ n q,q ∈ (upto F sz E n).E → q ∈ E}
end
end Kd
namespace Kd
section
variable {P : Program} {ops:Array Oper} {rest:List Oper} {o:Oper} {a:Act} {Q:Exit → Act → World → Prop} {α:Type}
end
end Kd
namespace Kd
section
variable {P : Program} {ops:Array Oper} {rest:List Oper} {o:Oper} {a:Act} {Q:Exit → Act → World → Prop} {α:Type}
end
end Kd
namespace Kd
section
variable {α : Type} {k:Kd α} {w:World} {A:Option Addr} {xs:List α} {m c:Nat}
end
end Kd
section
variable {P : Program}
end
theorem bK {w W:World} (h:Below w.heap.size w W):w.heap.size ≤ W.heap.size:=h.size
theorem bI {w W w2:World} (h:Below w.heap.size w W) (k:Below W.heap.size W w2):Below w.heap.size w w2:=Gx h h.size k
theorem gK.nil (W:World) (k:IntKind):gK W k none ([]:List Int).length []:=⟨rfl,by simp,fun h=>absurd h (Nat.lt_irrefl 0)⟩
theorem gK.drewN {W:World} {k:IntKind} {A:Option Addr} {n:Nat} {xs:List Int} (h:gK W k A n xs) (m:Nat):gK (W.drewN m) k A n xs:=h
theorem aT {w W:World} {g j:Nat} {v:Value} (h:Below w.heap.size w W) (hg:w.heap.size ≤ g):Below w.heap.size w (W.setCell ⟨g,j,none⟩ v):=h.setCell hg _
theorem AU {w W:World} {g:Nat} (h:gZ w W g none) {a:Addr} {v:Value} (hc:w.cell? a = some v) (hne:a.block ≠ g):W.cell? a = some v:=by
 have:=h.2 a.block (World.block_lt_of_cell? w a hc) hne (by simp)
 simpa [World.cell?,this] using hc
theorem add_block (a:Addr) (i:Nat):(a.add i).block = a.block:=by unfold Addr.add;split <;> rfl
theorem gP.nil {α:Type} (enc:α → Value) (d:α) (W:World):gP enc d W none ([]:List α).length []:=⟨rfl,by simp,fun h=>absurd h (Nat.lt_irrefl 0)⟩
theorem gP.drewN {α:Type} {enc:α → Value} {d:α} {W:World} {A:Option Addr} {n:Nat} {xs:List α} (h:gP enc d W A n xs) (m:Nat):gP enc d (W.drewN m) A n xs:=h
theorem gK.keep {w W:World} {k:IntKind} {A:Option Addr} {n g:Nat} {xs:List Int} (h:gK w k A n xs) (hk:gZ w W g none) (hf:∀ ad,A = some ad → 0 < n → ad.block ≠ g):gK W k A n xs :=
 ⟨h.1,h.2.1,fun hn=>by
  obtain ⟨ad,e,hc⟩:=h.2.2 hn
  exact ⟨ad,e,fun j hj=>AU hk (hc j hj) (by rw [add_block];exact hf ad e hn)⟩⟩
theorem gP.keep {α:Type} {enc:α → Value} {d:α} {w W:World} {A:Option Addr} {n g:Nat} {xs:List α} (h:gP enc d w A n xs) (hk:gZ w W g none) (hf:∀ ad,A = some ad → 0 < n → ad.block ≠ g):gP enc d W A n xs :=
 ⟨h.1,h.2.1,fun hn=>by
  obtain ⟨ad,e,hc⟩:=h.2.2 hn
  exact ⟨ad,e,fun j hj=>AU hk (hc j hj) (by rw [add_block];exact hf ad e hn)⟩⟩
theorem cell_far {W:World} {p a:Addr} (h:a.block ≠ p.block) (u:Value):(W.setCell p u).cell? a = W.cell? a:=by
 have:=Below.heap_setCell W p u a.block h
 simp [World.cell?,this]
theorem bU {w:World} {g:Nat} {t:TypeId} {cs cs':Array Value} (h:w.heap[g]? = some (.cells cs t (0,0))) (i:Nat) (u:Value) (e:cs.setIfInBounds i u = cs'):(w.setCell ⟨g,i,none⟩ u).heap[g]? = some (.cells cs' t (0,0)):=e ▸ Qz h i u
theorem sZ {W:World} {base n c:Nat} {e:TypeId} {size g:Nat} {ad:Addr} {xs:List Value} (_:W.ownsRow base e size (.slice (some ad) n c) n xs) (hne:some g ≠ (Value.slice (some ad) n c).ownBlock):ad.block ≠ g:=by
 rintro rfl
 exact hne (by simp [Value.ownBlock])
theorem au {base:Nat} {w W:World} (h:Below base w W):Below base w W.drew:=h.drew
namespace Kd
section
variable {α β:Type} {d:Kd α} {d':Kd β} {e e' base base' n:Nat} {ok ok':Nat → Prop} {w W w1 W1:World} {v u:Value} {xs:List α} {ys:List β} {A:Option Addr} {c:Nat}
theorem sZ {ad:Addr} {g:Nat} (hne:some g ≠ (Value.slice (some ad) n c).ownBlock):ad.block ≠ g:=by
 rintro rfl
 exact hne (by simp [Value.ownBlock])
end
section
variable {α : Type} {enc:α → Value} {h1:∀ x,(enc x).oneCell' = true} {w W:World} {A:Option Addr} {n g:Nat} {xs:List α}
end
end Kd
namespace Kd
section
variable {α : Type} {d:Kd α} {e base g:Nat} {ok:Nat → Prop} {w w1:World} {v:Value} {xs:List α} {o:Obj}
end
end Kd
section
variable {P : Program} {ops:Array Oper} {rest:List Oper} {o:Oper} {a:Act} {Q:Exit → Act → World → Prop}
theorem fU {W:World} (hgd:o.guard = none) {N:Tmp} (_hd:o.dst = some N) {cs:Array Value} {t:TypeId}
  (hrun:(execOp a.eval o).run P W = .ok (.value (.pointer (some ⟨W.heap.size,0,none⟩))) (W.alloc (.cells cs t (0,0))))
  (h:∀ g,g = W.heap.size → ∀ w1,w1.heap[g]? = some (.cells cs t (0,0)) → Below W.heap.size W w1 → wpList P ops Q rest (a.put o.dst (.pointer (some ⟨g,0,none⟩))) w1):wpList P ops Q (o :: rest) a W :=
 Kd.J2 hgd hrun (h _ rfl _ (tZ W _) (ak (Below.refl _ _) _))
end
namespace Kd
section
variable {α : Type} {enc:α → Value} {h1:∀ x,(enc x).oneCell' = true} {e base g n cap:Nat} {ok:Nat → Prop} {W:World} {xs:List α}
theorem Cz (d:α) (h:(scalar enc h1).R e W base ok (.slice (some ⟨g,0,none⟩) n cap) xs) (i:Int) (h0:0 ≤ i) (hi:i < n):W.cell? ⟨g,i.toNat,none⟩ = some (enc (Gz d xs i)) ∧ W.frozen? ⟨g,i.toNat,none⟩ = false:=by
 obtain ⟨rfl,_⟩:=yU h
 exact Nj d h i h0 hi
end
end Kd
section
variable {P : Program} {ops:Array Oper} {rest:List Oper} {o:Oper} {a:Act} {Q:Exit → Act → World → Prop}
end
namespace Kd
section
variable {α : Type} {enc:α → Value} {h1:∀ x,(enc x).oneCell' = true} {e base g n cap:Nat} {ok:Nat → Prop} {W:World} {xs:List α}
theorem Wv (h:(scalar enc h1).R e W base ok (.slice (some ⟨g,0,none⟩) n cap) xs) (i:Int) (x:α):(scalar enc h1).R e (W.setCell ⟨g,i.toNat,none⟩ (enc x)) base ok (.slice (some ⟨g,0,none⟩) n cap) (xs.set i.toNat x) ∧ W.grownBy (W.setCell ⟨g,i.toNat,none⟩ (enc x)) (some g):=by
 obtain ⟨rfl,_⟩:=yU h
 exact aat h i x
end
end Kd
section
variable {P : Program} {ops:Array Oper} {rest:List Oper} {o:Oper} {a:Act} {Q:Exit → Act → World → Prop} {W:World}
theorem gL {N:Tmp} (_hN:o.dst = some N) (h:wpList P ops Q (o :: rest) a W):wpList P ops Q (o :: rest) a W:=h
end
section
variable {P : Program} {ops:Array Oper} {o:Oper} {a:Act} {Q:Exit → Act → World → Prop} {Kc:Act → World → Prop}
namespace Kd
variable {α : Type}
end Kd
end
section
variable {P : Program} {tmps:Array Value} {w:World}
end
namespace Kd
section
variable {P : Program} {α:Type}
end
section
variable {P : Program} {ops:Array Oper} {rest:List Oper} {o:Oper} {a:Act} {Q:Exit → Act → World → Prop} {Kc:Act → World → Prop} {α:Type}
end
end Kd
end Go.Proofs.YtfokaoeinpnagaaW.bE
namespace Go.Proofs.YtfokaoeinpnagaaW.dB
section
variable {P : Program} {ops:Array Oper} {Q:Exit → Act → World → Prop} {md:Region.Mode} {S:World → Prop} {ds:List Nat}
def Region.lQ (md:Region.Mode) (ops:Array Oper) (i:Nat):Nat → Nat → Bool
 | 0,_=>false
 | fuel + 1,d=>match ops[d]? with
  | some o=>o.after.any fun e=>Region.binds md e && (e.on == i || Region.lQ md ops i fuel e.on)
  | none=>false
def Region.um (md:Region.Mode) (ops:Array Oper) (listed:Array Bool):Bool :=
 (List.range ops.size).all fun j=>!listed.getD j false || match ops[j]? with
  | some o=>o.after.all fun e=>!Region.binds md e || listed.getD e.on false
  | none=>true
def Region.lastB (md:Region.Mode) (ops:Array Oper) (listed:Array Bool) (ds:List Nat) (i:Nat):Bool :=
 ds.all fun d=>listed.getD d true || Region.lQ md ops i ops.size d
def iP (md:Region.Mode) (ops:Array Oper) (listed:Array Bool):Prop :=
 ∀ j oj,ops[j]? = some oj → listed.getD j false = true → ∀ e ∈ oj.after,Region.binds md e = true → listed.getD e.on false = true
theorem Region.CB {listed:Array Bool} (h:Region.um md ops listed = true):iP md ops listed:=by
 intro j oj hj hl e he hb
 have hlt:j < ops.size:=(Array.getElem?_eq_some_iff.1 hj).1
 have h1:=List.all_eq_true.1 h j (List.mem_range.2 hlt)
 simp only [hl,hj,Bool.not_true,Bool.false_or] at h1
 have h2:=Array.all_eq_true_iff_forall_mem.1 h1 e he
 simpa [hb] using h2
theorem iP.set {listed:Array Bool} {i:Nat} (h:iP md ops listed) (hi:i ∈ Region.ready md ops listed):iP md ops (listed.setIfInBounds i true):=by
 obtain ⟨_,oi,hoi,hall⟩:=mem_ready.1 hi
 intro j oj hj hl e he hb
 by_cases hij:i = j
 ·subst hij
  have:oj = oi:=Option.some.inj (hj.symm.trans hoi)
  subst this
  exact getD_set_true (hall e he hb)
 ·rw [getD_set_ne false hij] at hl
  exact getD_set_true (h j oj hj hl e he hb)
theorem Region.uo {listed:Array Bool} {i:Nat} (hc:iP md ops listed):∀ (fuel d:Nat),Region.lQ md ops i fuel d = true → listed.getD d false = true → listed.getD i false = true
 | 0,_,h,_=>by simp [Region.lQ] at h
 | fuel + 1,d,h,hl=>by
  unfold Region.lQ at h
  cases ho:ops[d]? with
  | none=>rw [ho] at h;simp at h
  | some o =>
   rw [ho] at h
   obtain ⟨e,he,h1⟩:=Array.any_eq_true'.1 h
   simp only [Bool.and_eq_true,Bool.or_eq_true,beq_iff_eq] at h1
   have hle:=hc d o ho hl e he h1.1
   rcases h1.2 with h2 | h2
   ·rw [← h2];exact hle
   ·exact Region.uo hc fuel e.on h2 hle
theorem Region.wR {listed:Array Bool} {i d fuel:Nat} (hc:iP md ops listed) (hr:Region.lQ md ops i fuel d = true) (hun:listed.getD i true = false):d ∉ Region.ready md ops listed:=by
 intro hd
 obtain ⟨_,o,ho,hall⟩:=mem_ready.1 hd
 have hi:listed.getD i false = true:=by
  cases fuel with
  | zero=>simp [Region.lQ] at hr
  | succ n =>
   unfold Region.lQ at hr
   rw [ho] at hr
   obtain ⟨e,he,h1⟩:=Array.any_eq_true'.1 hr
   simp only [Bool.and_eq_true,Bool.or_eq_true,beq_iff_eq] at h1
   have hle:=hall e he h1.1
   rcases h1.2 with h2 | h2
   ·rw [← h2];exact hle
   ·exact Region.uo hc n e.on h2 hle
 rcases Nat.lt_or_ge i listed.size with h' | h'
 ·simp [h'] at hun hi
  rw [hun] at hi
  cases hi
 ·simp [Array.getElem?_eq_none h'] at hun
def dh (P:Program) (md:Region.Mode) (ops:Array Oper) (Q:Exit → Act → World → Prop) (S:World → Prop) (ds:List Nat):Nat → Array Bool → Act → World → Prop
 | 0,listed,a,w=>Region.ready md ops listed = [] ∧ Q .normal a w
 | fuel + 1,listed,a,w =>
  (Region.ready md ops listed = [] → Q .normal a w) ∧
  ∀ i ∈ Region.ready md ops listed,wpOp P ops Q i (fun a' w'=>(i ∉ ds → S w → S w') ∧ dh P md ops Q S ds fuel (listed.setIfInBounds i true) a' w') a w
theorem rE : ∀ (fuel:Nat) (listed:Array Bool) (a:Act) (w:World),dh P md ops Q S ds fuel listed a w → wpAny P md ops Q fuel listed a w
 | 0,_,_,_,h=>h
 | fuel + 1,_,_,_,h=>⟨h.1,fun i hi=>wpOp_mono (fun a' w' h'=>rE fuel _ a' w' h'.2) (h.2 i hi)⟩
theorem wS {i:Nat} {oi:Oper} {v:Value} (hi:ops[i]? = some oi) (hsel:∀ (j:Nat) (o:Oper) cs b,ops[j]? = some o → o.op ≠ .select cs b)
  (hQ:∀ c a w,Q (.panic c) (a.put oi.dst v) w → Q (.panic c) a w) (n:Nat) :
  ∀ (fuel:Nat) (listed:Array Bool) (a:Act) (w:World),
   (∀ j oj,ops[j]? = some oj → j ≠ i → listed.getD j true = false → (∀ e ∈ oj.after,Region.binds md e = true → e.on ≠ i) → oi.apart ops oj = true) →
   iP md ops listed → (∀ d ∈ ds,listed.getD d true = false → Region.lQ md ops i n d = true) →
   i ∈ Region.ready md ops listed → YieldsIf P ops S oi v a → S w →
   dh P md ops Q S ds fuel (listed.setIfInBounds i true) (a.put oi.dst v) w → dh P md ops Q S ds (fuel + 1) listed a w:=by
 intro fuel
 induction fuel with
 | zero =>
  intro listed a w _ _ _ hr hy hS H
  refine ⟨fun h=>(by rw [h] at hr;cases hr),fun j hj=>?_⟩
  by_cases hji:j = i
  ·subst hji;exact hy.wpOp hi hS ⟨fun _ h=>h,H⟩
  ·have:=ready_mono hj hji
   rw [H.1] at this
   cases this
 | succ fuel ih =>
  intro listed a w hfree hc hd hr hy hS H
  refine ⟨fun h=>(by rw [h] at hr;cases hr),fun j hj=>?_⟩
  by_cases hji:j = i
  ·subst hji;exact hy.wpOp hi hS ⟨fun _ h=>h,H⟩
  ·have h1:=H.2 j (ready_mono hj hji)
   obtain ⟨hjun,oj,hoj,hall⟩:=mem_ready.1 hj
   have J3:=(mem_ready.1 hr).1
   have hnot:∀ e ∈ oj.after,Region.binds md e = true → e.on ≠ i:=fun e he hb heq=>by
    have h1:=hall e he hb
    rw [heq] at h1
    rcases Nat.lt_or_ge i listed.size with h' | h'
    ·simp [h'] at J3 h1;rw [J3] at h1;cases h1
    ·simp [Array.getElem?_eq_none h'] at h1
   have hjd:j ∉ ds:=fun hm=>Region.wR hc (hd j hm hjun) J3 hj
   have h2:=wpOp_putIf hoj (hfree j oj hoj hji hjun hnot) (fun cs b=>hsel i oi cs b hi) (fun cs b=>hsel j oj cs b hoj) hQ hy h1
   have hfree':∀ k ok,ops[k]? = some ok → k ≠ i → (listed.setIfInBounds j true).getD k true = false →
     (∀ e ∈ ok.after,Region.binds md e = true → e.on ≠ i) → oi.apart ops ok = true:=fun k ok hk hki hun hno=>by
    refine hfree k ok hk hki ?_ hno
    by_cases hjk:j = k
    ·subst hjk;exact hjun
    ·rw [getD_set_ne true hjk] at hun;exact hun
   have hd':∀ d ∈ ds,(listed.setIfInBounds j true).getD d true = false → Region.lQ md ops i n d = true:=fun d hm hun=>by
    refine hd d hm ?_
    by_cases hjk:j = d
    ·subst hjk;exact hjun
    ·rw [getD_set_ne true hjk] at hun;exact hun
   refine wpOp_mono (fun a' w' h3=>⟨h3.2.1,ih (listed.setIfInBounds j true) a' w' hfree' (hc.set hj) hd' (ready_mono hr (Ne.symm hji)) h3.1 (h3.2.1 hjd hS) ?_⟩) h2
   rw [Array.setIfInBounds_comm _ _ hji]
   exact h3.2.2
theorem z8 {i:Nat} {oi:Oper} {v:Value} (hi:ops[i]? = some oi) (hsel:∀ (j:Nat) (o:Oper) cs b,ops[j]? = some o → o.op ≠ .select cs b)
  (hQ:∀ c a w,Q (.panic c) (a.put oi.dst v) w → Q (.panic c) a w) :
  ∀ (fuel:Nat) (listed:Array Bool) (a:Act) (w:World),
   (∀ j oj,ops[j]? = some oj → j ≠ i → listed.getD j true = false → (∀ e ∈ oj.after,Region.binds md e = true → e.on ≠ i) → oi.apart ops oj = true) →
   i ∈ Region.ready md ops listed → Yields P ops oi v a →
   dh P md ops Q S ds fuel (listed.setIfInBounds i true) (a.put oi.dst v) w → dh P md ops Q S ds (fuel + 1) listed a w:=by
 intro fuel
 induction fuel with
 | zero =>
  intro listed a w _ hr hy H
  refine ⟨fun h=>(by rw [h] at hr;cases hr),fun j hj=>?_⟩
  by_cases hji:j = i
  ·subst hji;exact (hy.yieldsIf (S:=fun _=>True)).wpOp hi trivial ⟨fun _ h=>h,H⟩
  ·have:=ready_mono hj hji
   rw [H.1] at this
   cases this
 | succ fuel ih =>
  intro listed a w hfree hr hy H
  refine ⟨fun h=>(by rw [h] at hr;cases hr),fun j hj=>?_⟩
  by_cases hji:j = i
  ·subst hji;exact (hy.yieldsIf (S:=fun _=>True)).wpOp hi trivial ⟨fun _ h=>h,H⟩
  ·have h1:=H.2 j (ready_mono hj hji)
   obtain ⟨hjun,oj,hoj,hall⟩:=mem_ready.1 hj
   have J3:=(mem_ready.1 hr).1
   have hnot:∀ e ∈ oj.after,Region.binds md e = true → e.on ≠ i:=fun e he hb heq=>by
    have h1:=hall e he hb
    rw [heq] at h1
    rcases Nat.lt_or_ge i listed.size with h' | h'
    ·simp [h'] at J3 h1;rw [J3] at h1;cases h1
    ·simp [Array.getElem?_eq_none h'] at h1
   have h2:=wpOp_put hoj (hfree j oj hoj hji hjun hnot) (fun cs b=>hsel i oi cs b hi) (fun cs b=>hsel j oj cs b hoj) hQ hy h1
   have hfree':∀ k ok,ops[k]? = some ok → k ≠ i → (listed.setIfInBounds j true).getD k true = false →
     (∀ e ∈ ok.after,Region.binds md e = true → e.on ≠ i) → oi.apart ops ok = true:=fun k ok hk hki hun hno=>by
    refine hfree k ok hk hki ?_ hno
    by_cases hjk:j = k
    ·subst hjk;exact hjun
    ·rw [getD_set_ne true hjk] at hun;exact hun
   refine wpOp_mono (fun a' w' h3=>⟨h3.2.1,ih (listed.setIfInBounds j true) a' w' hfree' (ready_mono hr (Ne.symm hji)) h3.1 ?_⟩) h2
   rw [Array.setIfInBounds_comm _ _ hji]
   exact h3.2.2
theorem yV {i:Nat} {oi:Oper} {v:Value} {fuel:Nat} {listed:Array Bool} {a:Act} {w:World} (hi:ops[i]? = some oi)
  (hs:Region.noSelect ops = true) (hf:Region.free md ops listed i = true) (hr:(Region.ready md ops listed).contains i = true)
  (hc:Region.um md ops listed = true) (hl:Region.lastB md ops listed ds i = true)
  (hQ:∀ c a w,Q (.panic c) (a.put oi.dst v) w → Q (.panic c) a w) (hy:YieldsIf P ops S oi v a) (hS:S w)
  (h:dh P md ops Q S ds fuel (listed.setIfInBounds i true) (a.put oi.dst v) w):dh P md ops Q S ds (fuel + 1) listed a w :=
 wS hi (Region.noSelect_spec hs) hQ ops.size fuel listed a w (Region.free_spec hi hf) (Region.CB hc)
  (fun d hm hun=>by have:=List.all_eq_true.1 hl d hm;rw [hun] at this;simpa using this) (by simpa using hr) hy hS h
theorem Aa {rs:List Nat} {fuel:Nat} {listed:Array Bool} {a:Act} {w:World} (hr:Region.ready md ops listed = rs) (hne:rs ≠ [])
  (h:∀ i ∈ rs,wpOp P ops Q i (fun a' w'=>(i ∉ ds → S w → S w') ∧ dh P md ops Q S ds fuel (listed.setIfInBounds i true) a' w') a w):dh P md ops Q S ds (fuel + 1) listed a w :=
 ⟨fun h0=>absurd (hr ▸ h0) hne,hr ▸ h⟩
theorem yX {listed:Array Bool} {a:Act} {w:World} (hr:Region.ready md ops listed = []) (h:Q .normal a w) :
  ∀ fuel,dh P md ops Q S ds fuel listed a w
 | 0=>⟨hr,h⟩
 | _ + 1=>⟨fun _=>h,by rw [hr];simp⟩
theorem yY {id:Nat} {a:Act} {w:World} (hm:P.follows .mixedOrders = true)
  (h:dh P .any ops Q S ds ops.size (Array.replicate ops.size false) a { w with drawn:=w.drawn + 1 }):(Code.region id ops true).wp P Q a w :=
 wp_region_any hm (rE _ _ _ _ h)
end
section
variable {P : Program} {ops:Array Oper} {Q:Exit → Act → World → Prop} {md:Region.Mode} {S:World → Prop} {ds:List Nat}
def j5 (P:Program) (md:Region.Mode) (ops:Array Oper) (Q:Exit → Act → World → Prop) (S:World → Prop) (ds:List Nat) (fuel:Nat) (listed:Array Bool) (a:Act) (w:World) (rs:List Nat):Prop :=
 ∀ i ∈ rs,wpOp P ops Q i (fun a' w'=>(i ∉ ds → S w → S w') ∧ dh P md ops Q S ds fuel (listed.setIfInBounds i true) a' w') a w
theorem j5.nil {fuel:Nat} {listed:Array Bool} {a:Act} {w:World}:j5 P md ops Q S ds fuel listed a w []:=fun _ h=>by cases h
theorem j5.cons {fuel:Nat} {listed:Array Bool} {a:Act} {w:World} {i:Nat} {o:Oper} {rs:List Nat} (ho:ops[i]? = some o) (hd:i ∉ ds)
  (h:∀ K':Act → World → Prop,Shut (∀ a w,S w → (S w → dh P md ops Q S ds fuel (listed.setIfInBounds i true) a w) → K' a w) → if Region.wanted o (yielded ops a.tmps) = true then Oper.wp P o a w K' Q else K' (a.put o.dst undef) w)
  (hs:j5 P md ops Q S ds fuel listed a w rs):j5 P md ops Q S ds fuel listed a w (i :: rs):=fun j hj=>by
 rcases List.mem_cons.1 hj with rfl | hj
 ·exact wpOp_step ho (fun K' hK=>h K' (fun a w hS hW=>hK a w ⟨fun _ _=>hS,hW hS⟩))
 ·exact hs j hj
theorem wT {rs:List Nat} {fuel:Nat} {listed:Array Bool} {a:Act} {w:World} (hr:Region.ready md ops listed = rs) (hne:rs ≠ [])
  (h:j5 P md ops Q S ds fuel listed a w rs):dh P md ops Q S ds (fuel + 1) listed a w:=Aa hr hne h
theorem Nl {id n:Nat} {a:Act} {w:World} (l:Array Bool) (hm:P.follows .mixedOrders = true) (hn:ops.size = n) (hl:Array.replicate n false = l) (hS:S w.drew)
  (h:S w.drew → dh P .any ops Q S ds n l a w.drew):(Code.region id ops true).wp P Q a w:=by
 subst hn
 subst hl
 exact yY hm (h hS)
def takeB (md:Region.Mode) (ops:Array Oper) (ds:List Nat) (l l':Array Bool) (i:Nat):Bool :=
 Region.noSelect ops && Region.free md ops l i && (Region.ready md ops l).contains i && Region.um md ops l && Region.lastB md ops l ds i && (l.setIfInBounds i true == l')
theorem EB {i:Nat} {N:Option Tmp} {oi:Oper} {v:Value} {fuel:Nat} {l:Array Bool} {a:Act} {w:World} (l':Array Bool) (hi:ops[i]? = some oi) (hN:oi.dst = N) (hc:takeB md ops ds l l' i = true)
  (hQ:∀ c a w,Q (.panic c) (a.put oi.dst v) w → Q (.panic c) a w) (hy:YieldsIf P ops S oi v a) (hS:S w) {a':Act} (ha:a.put N v = a')
  (h:dh P md ops Q S ds fuel l' a' w):dh P md ops Q S ds (fuel + 1) l a w:=by
 subst ha
 subst hN
 simp only [takeB,Bool.and_eq_true,beq_iff_eq] at hc
 obtain ⟨⟨⟨⟨⟨h1,h2⟩,h3⟩,h4⟩,h5⟩,h6⟩:=hc
 subst h6
 exact yV hi h1 h2 h3 h4 h5 hQ hy hS h
def QC (md:Region.Mode) (ops:Array Oper) (l l':Array Bool) (i:Nat):Bool :=
 Region.noSelect ops && Region.free md ops l i && (Region.ready md ops l).contains i && (l.setIfInBounds i true == l')
theorem lU {i:Nat} {N:Option Tmp} {oi:Oper} {v:Value} {fuel:Nat} {l:Array Bool} {a:Act} {w:World} (l':Array Bool) (hi:ops[i]? = some oi) (hN:oi.dst = N) (hc:QC md ops l l' i = true)
  (hQ:∀ c a w,Q (.panic c) (a.put oi.dst v) w → Q (.panic c) a w) (hy:Yields P ops oi v a) {a':Act} (ha:a.put N v = a')
  (h:dh P md ops Q S ds fuel l' a' w):dh P md ops Q S ds (fuel + 1) l a w:=by
 subst ha
 subst hN
 simp only [QC,Bool.and_eq_true,beq_iff_eq] at hc
 obtain ⟨⟨⟨h1,h2⟩,h3⟩,h6⟩:=hc
 subst h6
 exact z8 hi (Region.noSelect_spec h1) hQ fuel l a w (Region.free_spec hi h2) (by simpa using h3) hy h
def CG (md:Region.Mode) (ops:Array Oper) (l l':Array Bool) (i:Nat):Bool:=(Region.ready md ops l == [i]) && (l.setIfInBounds i true == l')
theorem Ww {i:Nat} {N:Option Tmp} {oi:Oper} {fuel:Nat} {l:Array Bool} {a:Act} {w:World} (l':Array Bool) (hi:ops[i]? = some oi) (hN:oi.dst = N) (hc:CG md ops l l' i = true) (hd:i ∉ ds)
  (h:∀ K:Act → World → Prop,Shut (∀ a' w',S w' → (S w' → dh P md ops Q S ds fuel l' a' w') → K a' w') → if Region.wanted oi (yielded ops a.tmps) = true then Oper.wp P oi a w K Q else K (a.put N undef) w) :
  dh P md ops Q S ds (fuel + 1) l a w:=by
 subst hN
 simp only [CG,Bool.and_eq_true,beq_iff_eq] at hc
 obtain ⟨h1,h2⟩:=hc
 subst h2
 exact wT h1 (by simp) (j5.cons hi hd (fun K hK=>h K hK) j5.nil)
theorem TR {l:Array Bool} {a:Act} {w:World} {n:Nat} (hr:(Region.ready md ops l == []) = true) (h:Q .normal a w):dh P md ops Q S ds n l a w:=yX (by simpa using hr) h n
theorem TS {fuel:Nat} {l:Array Bool} {a a':Act} {w:World} (ha:a = a') (h:dh P md ops Q S ds fuel l a' w):dh P md ops Q S ds fuel l a w:=by
 subst ha
 exact h
theorem QD {f:FuncId} {fn:Func} (hf:P.funcs[f]? = some fn) (hname:(fn.name == "runtime.NumGoroutine") = false) (hb:fn.body.isSome = true) (args:Array Value) (w:World):(callFunc f args).run P w = .ok (.enter f args) w:=by
 have h1:fn.name ≠ "runtime.NumGoroutine" := by simpa using hname
 obtain ⟨c,hc⟩:=Option.isSome_iff_exists.1 hb
 simp [callFunc,hf,h1,hc]
theorem bP {rest:List Oper} {oi:Oper} {a:Act} {w:World} (N:Option Tmp) (hd:oi.dst = N) (hg:oi.guard = none) {f:FuncId} {fn:Func} {ZZ9:Array Operand} {ts:Array TypeId} (hf:P.funcs[f]? = some fn) (hname:(fn.name == "runtime.NumGoroutine") = false) (hb:fn.body.isSome = true) (args:Array Value)
  (hop:oi.op = .call { callee:=.value (.func f),args:=ZZ9,argTypes:=ts }) (hargs:ZZ9.map a.eval = args)
  (h:Calls P f args w fun e w'=>∃ v,e = .returned v ∧ wpList P ops Q rest (a.put N v) w'):wpList P ops Q (oi :: rest) a w:=by
 refine wpList_plain hg fun K hK=>?_
 have he:=QD hf hname hb args w
 have hrun:(execOp a.eval oi).run P w = .ok (.enter f args) w:=by
  unfold execOp
  simp [hop,resolve,Deferred.ofValue,invoke,Act.eval,hargs,he]
 unfold Oper.wp
 rw [hrun,Oper.upon_enter]
 refine h.mono fun e w'' hh=>?_
 obtain ⟨v,rfl,hk⟩:=hh
 subst hd
 exact hK _ _ hk
theorem Wx {oi:Oper} {N:Option Tmp} {a:Act} {w w1:World} {v:Value} {K:Act → World → Prop} (hw:Region.wanted oi (yielded ops a.tmps) = true) (hN:oi.dst = N) (hrun:(execOp a.eval oi).run P w = .ok (.value v) w1)
  (h:K (a.put N v) w1):if Region.wanted oi (yielded ops a.tmps) = true then Oper.wp P oi a w K Q else K (a.put N undef) w:=by
 rw [if_pos hw]
 subst hN
 unfold Oper.wp
 rw [hrun]
 exact h
theorem aav {oi:Oper} {a:Act} {w w1:World} {K:Act → World → Prop} (hw:Region.wanted oi (yielded ops a.tmps) = true) (hN:oi.dst = none) (hrun:(execOp a.eval oi).run P w = .ok .skip w1)
  (h:K a w1):if Region.wanted oi (yielded ops a.tmps) = true then Oper.wp P oi a w K Q else K (a.put none undef) w:=by
 rw [if_pos hw]
 unfold Oper.wp
 rw [hrun]
 show K (a.put oi.dst undef) w1
 rw [hN]
 exact h
theorem gV (n:Int):IntKind.i64.wrap n = Go.RowKit.wrap64 n:=by unfold Go.RowKit.wrap64;exact IntKind.wrap_i64 n
theorem iB (n:Int):IntKind.i32.wrap n = Go.RowKit.wrap32 n:=by unfold Go.RowKit.wrap32;exact IntKind.wrap_i32 n
end
end Go.Proofs.YtfokaoeinpnagaaW.dB
namespace Go.Proofs.YtfokaoeinpnagaaW.bE
open Go.RowKit
namespace Kd
def tag {α:Type} (f:Nat → Nat) (d:Kd α):Kd (α × Nat) where
 sz:=d.sz
 E:=d.E
 K:=fun w x cs=>d.K w x.1 cs
 M:=fun w base ok x cs=>d.M w base (fun k=>ok k ∧ f k = x.2) x.1 cs
 oV:=fun h=>d.oV h
 p9:=fun h=>d.p9 h
 l6:=fun hb h=>d.l6 hb h
 jy:=fun h=>d.jy h
 kE:=fun hok h=>d.kE (fun k hk=>⟨hok k hk.1,hk.2⟩) h
 kF:=fun h=>d.kE (fun _ hk=>⟨⟨hk.1.1,hk.2⟩,hk.1.2⟩) (d.kF h)
 mM:=fun hm h=>d.mM (fun k hk=>hm k hk.1) h
 l7:=fun hb h=>d.l7 hb h
def raw (sz:Nat):Kd (List Value) where
 sz:=sz
 E:=[]
 K:=fun _ x cs=>cs = x ∧ cs.length = sz ∧ ∀ u ∈ cs,u.oneCell' = true
 M:=fun _ _ _ x cs=>cs = x ∧ cs.length = sz ∧ ∀ u ∈ cs,u.oneCell' = true
 oV:=fun h=>h.2.1
 p9:=fun h=>h.2.2
 l6:=fun _ h=>h
 jy:=fun h=>h
 kE:=fun _ h=>h
 kF:=fun h=>h
 mM:=fun _ h=>h
 l7:=fun _ h=>h
def S {α:Type} (d:Kd α) (e:Nat) (w:World) (base:Nat) (ok:Nat → Prop) (v:Value) (xs:List α):Prop:=∃ f,(tag f d).R e w base ok v xs.zipIdx
section
variable {α β:Type} {d:Kd α} {d':Kd β} {e e':Nat} {w w1 W:World} {base b:Nat} {ok ok' okv oku:Nat → Prop} {u v:Value} {xs:List α} {ys:List β}
theorem lC (d:Kd α) (e:Nat) (w:World) (base:Nat) (ok:Nat → Prop):S d e w base ok (.slice none 0 0) []:=⟨fun _=>0,jM _ _ _ _ _⟩
end
section
variable {α β:Type} {d:Kd α} {d':Kd β} {e e' g:Nat} {w w1 W:World} {base b:Nat} {ok ok' okv oku:Nat → Prop} {u v:Value} {xs:List α} {ys:List β}
end
section
open Classical in
variable {P : Program} {ops:Array Oper} {rest:List Oper} {o:Oper} {a:Act} {Q:Exit → Act → World → Prop} {Kc:Act → World → Prop} {α:Type}
end
def gap {α:Type} (f:Nat → Nat) (d:Kd α) (i:Nat) (c:List Value):Kd (α × Nat) where
 sz:=d.sz
 E:=d.E
 K:=fun w x cs=>(x.2 = i → cs = c ∧ cs.length = d.sz ∧ ∀ u ∈ cs,u.oneCell' = true) ∧ (x.2 ≠ i → d.K w x.1 cs)
 M:=fun w base ok x cs=>(x.2 = i → cs = c ∧ cs.length = d.sz ∧ ∀ u ∈ cs,u.oneCell' = true) ∧ (x.2 ≠ i → d.M w base (fun k=>ok k ∧ f k = x.2) x.1 cs)
 oV:=fun {w x cs} h=>by
  by_cases hx:x.2 = i
  ·exact (h.1 hx).2.1
  ·exact d.oV (h.2 hx)
 p9:=fun {w x cs} h=>by
  by_cases hx:x.2 = i
  ·exact (h.1 hx).2.2
  ·exact d.p9 (h.2 hx)
 l6:=fun hb h=>⟨h.1,fun hx=>d.l6 hb (h.2 hx)⟩
 jy:=fun h=>⟨h.1,fun hx=>d.jy (h.2 hx)⟩
 kE:=fun hok h=>⟨h.1,fun hx=>d.kE (fun k hk=>⟨hok k hk.1,hk.2⟩) (h.2 hx)⟩
 kF:=fun h=>⟨h.1,fun hx=>d.kE (fun _ hk=>⟨⟨hk.1.1,hk.2⟩,hk.1.2⟩) (d.kF (h.2 hx))⟩
 mM:=fun hm h=>⟨h.1,fun hx=>d.mM (fun k hk=>hm k hk.1) (h.2 hx)⟩
 l7:=fun hb h=>⟨h.1,fun hx=>d.l7 hb (h.2 hx)⟩
def H {α:Type} (d:Kd α) (e:Nat) (w:World) (base:Nat) (ok:Nat → Prop) (v:Value) (xs:List α) (i:Int) (oki:Nat → Prop) (c:List Value):Prop :=
 (∀ k,oki k → ok k) ∧ ∃ f,(gap f d i.toNat c).R e w base (fun k=>ok k ∧ ¬ oki k) v xs.zipIdx
section
variable {α β:Type} {d:Kd α} {e e' g n cap:Nat} {w w1 W:World} {base:Nat} {ok ok' oki JZ:Nat → Prop} {u v:Value} {xs:List α} {i:Int} {c:List Value}
open Classical in
end
section
variable {P : Program} {ops:Array Oper} {rest:List Oper} {o:Oper} {a:Act} {Q:Exit → Act → World → Prop} {α:Type}
end
end Kd
end Go.Proofs.YtfokaoeinpnagaaW.bE
namespace Go.Proofs.YtfokaoeinpnagaaW.bE
open Go.RowKit
namespace Kd
structure Heap {α:Type} (d:Kd α):Prop where
 K:∀ {w w1:World} {x:α} {cs:List Value},(∀ k,k < w.heap.size → w1.heap[k]? = w.heap[k]?) → d.K w x cs → d.K w1 x cs
theorem J4 {w w1:World} (hb:∀ k,k < w.heap.size → w1.heap[k]? = w.heap[k]?) {a:Addr} {v:Value} (h:w.cell? a = some v):w1.cell? a = some v:=by
 have:=hb a.block (World.block_lt_of_cell? w a h)
 simpa [World.cell?,this] using h
theorem Heap.C {α:Type} {d:Kd α} (hd:Heap d) {w w1:World} {A:Option Addr} {n:Nat} {xs:List α} (hb:∀ k,k < w.heap.size → w1.heap[k]? = w.heap[k]?) (h:d.C w A n xs):d.C w1 A n xs :=
 ⟨h.1,h.2.1,fun hn=>by
  obtain ⟨ad,e,hc⟩:=h.2.2 hn
  refine ⟨ad,e,fun j p hj=>?_⟩
  obtain ⟨c,hs,hr,hcell⟩:=hc j p hj
  exact ⟨c,hs,hd.K hb hr,fun i u hu=>J4 hb (hcell i u hu)⟩⟩
section
variable {α : Type} {d:Kd α} {e base g n c:Nat} {ok:Nat → Prop} {w w0 W:World} {A:Option Addr} {xs:List α}
end
end Kd
end Go.Proofs.YtfokaoeinpnagaaW.bE
namespace Go.Proofs.YtfokaoeinpnagaaW.bE
open Go.RowKit
def Kept (w W:World) (S:Nat → Prop):Prop:=w.heap.size ≤ W.heap.size ∧ ∀ i,i < w.heap.size → ¬ S i → W.heap[i]? = w.heap[i]?
section
variable {w W W2:World} {S S2 S':Nat → Prop}
theorem Kept.refl (w:World) (S:Nat → Prop):Kept w w S:=⟨Nat.le_refl _,fun _ _ _=>rfl⟩
theorem Kept.of_below (h:Below w.heap.size w W) (S:Nat → Prop):Kept w W S:=⟨h.size,fun i hi _=>h.block i hi⟩
theorem Kept.mono (h:Kept w W S) (hs:∀ k,S k → S' k):Kept w W S':=⟨h.1,fun i hi hn=>h.2 i hi (fun hk=>hn (hs i hk))⟩
theorem Kept.then_ (h:Kept w W S) (k:Kept W W2 S2) (hs:∀ k,S2 k → S k ∨ w.heap.size ≤ k):Kept w W2 S :=
 ⟨Nat.le_trans h.1 k.1,fun i hi hn=>(k.2 i (Nat.lt_of_lt_of_le hi h.1) (fun h2=>(hs i h2).elim hn (fun h3=>by omega))).trans (h.2 i hi hn)⟩
theorem Kept.below (h:Kept w W S) (hb:Below W.heap.size W W2):Kept w W2 S:=h.then_ (Kept.of_below hb (fun _=>False)) (fun _ hk=>hk.elim)
theorem Kept.alloc (h:Kept w W S) (o:Obj):Kept w (W.alloc o) S:=h.below (ak (Below.refl _ _) o)
theorem Kept.drew (h:Kept w W S):Kept w W.drew S:=h
theorem Kept.drewN (h:Kept w W S) (m:Nat):Kept w (W.drewN m) S:=h
theorem Kept.setCell (h:Kept w W S) {p:Addr} (hp:S p.block ∨ w.heap.size ≤ p.block) (u:Value):Kept w (W.setCell p u) S :=
 h.then_ (S2:=fun k=>k = p.block) ⟨by simp [World.setCell],fun i _ hn=>Below.heap_setCell W p u i hn⟩ (fun k hk=>by rw [hk];exact hp)
theorem Kept.keep {g:Nat} (h:gZ w W g none) (k:Kept W W2 S2) (hs:∀ k,S2 k → w.heap.size ≤ k):gZ w W2 g none :=
 ⟨Nat.le_trans h.1 k.1,fun i hi hg hr=>(k.2 i (Nat.lt_of_lt_of_le hi h.1) (fun h2=>by have:=hs i h2;omega)).trans (h.2 i hi hg hr)⟩
end
namespace Kd
section
variable {α : Type} {d:Kd α} {e base n c:Nat} {ok oki S S2:Nat → Prop} {w w0 W W1 W2:World} {v:Value} {A:Option Addr} {xs:List α} {i:Int} {cs:List Value}
end
end Kd
end Go.Proofs.YtfokaoeinpnagaaW.bE
namespace Go.Proofs.YtfokaoeinpnagaaW.bE
open Go.RowKit
def su (P:World → Prop) (W:World) (ok:Nat → Prop):Prop:=∀ W':World,(∀ k,ok k → k < W.heap.size → W'.heap[k]? = W.heap[k]?) → P W'
theorem QE {W W1:World} {k:Nat} (h:W1.heap[k]? = W.heap[k]?) (hlt:k < W.heap.size):k < W1.heap.size:=by
 rw [Array.getElem?_eq_getElem hlt] at h
 exact (Array.getElem?_eq_some_iff.1 h).1
namespace su
variable {P Q:World → Prop} {W W1:World} {ok ok':Nat → Prop}
theorem now (h:su P W ok):P W:=h W (fun _ _ _=>rfl)
theorem mono (h:su P W ok) (hok:∀ k,ok k → ok' k):su P W ok':=fun W' hW=>h W' (fun k hk hlt=>hW k (hok k hk) hlt)
theorem bound (h:su P W ok):su P W (fun k=>ok k ∧ k < W.heap.size):=fun W' hW=>h W' (fun k hk hlt=>hW k ⟨hk,hlt⟩ hlt)
theorem step (h:su P W ok) (hm:∀ k,ok k → k < W.heap.size → W1.heap[k]? = W.heap[k]?):su P W1 ok:=fun W' hW=>h W' (fun k hk hlt=>(hW k hk (QE (hm k hk hlt) hlt)).trans (hm k hk hlt))
theorem imp (h:su P W ok) (hi:∀ W',P W' → Q W'):su Q W ok:=fun W' hW=>hi W' (h W' hW)
theorem old (h:su P W ok) (hb:Below W.heap.size W W1):su P W1 (fun k=>ok k ∧ k < W.heap.size):=(h.bound).step (fun k _ hlt=>hb.block k hlt)
end su
namespace Kd
def F {α:Type} (d:Kd α) (W:World) (ok:Nat → Prop) (A:Option Addr) (n:Nat) (xs:List α):Prop:=su (fun W=>d.C W A n xs) W ok
def FK {α:Type} (d:Kd α) (W:World) (ok:Nat → Prop) (x:α) (c:List Value):Prop:=su (fun W=>d.K W x c) W ok
section
variable {α β:Type} {d:Kd α} {e base n n' cc g N:Nat} {ok ok' JZ S:Nat → Prop} {w w0 w1 W W1:World} {A A':Option Addr} {u v v1:Value} {xs:List α} {xs':List β} {d':Kd β} {x:α} {c:List Value}
theorem aaw (d:Kd α) (W:World) (ok:Nat → Prop):F d W ok none ([]:List α).length []:=fun W' _=>aar d W'
theorem QF (h:d.M W base ok x c):FK d W ok x c:=fun _ hW=>d.jy (Wq h hW)
end
end Kd
end Go.Proofs.YtfokaoeinpnagaaW.bE
namespace Go.Proofs.YtfokaoeinpnagaaW.bE
open Go.RowKit
namespace Kd
def chunks (sz:Nat) (n:Nat) (inner:List Value):List (List Value):=(List.range n).map fun j=>(inner.drop (j * sz)).take sz
theorem jT (sz n:Nat) (inner:List Value):(chunks sz n inner).length = n:=by simp [chunks]
theorem J5 {sz n:Nat} {inner:List Value} {j:Nat} (hj:j < n):(chunks sz n inner)[j]? = some ((inner.drop (j * sz)).take sz):=by simp [chunks,hj]
theorem yZ {sz n:Nat} {inner:List Value} {j:Nat} {c:List Value} (h:(chunks sz n inner)[j]? = some c):c = (inner.drop (j * sz)).take sz:=by
 have hj:j < n:=by have:=(List.getElem?_eq_some_iff.1 h).1;rwa [jT] at this
 rw [J5 hj] at h
 injection h with h
 exact h.symm
theorem Nn {α:Type} {Rr:α → List Value → Prop} {sz:Nat} {xs:List α} {inner:List Value} (h:fQ Rr sz xs inner) (hR:∀ x c,Rr x c → c.length = sz ∧ ∀ u ∈ c,u.oneCell' = true):fQ (fun x cs=>cs = x ∧ cs.length = sz ∧ ∀ u ∈ cs,u.oneCell' = true) sz (chunks sz xs.length inner) inner:=by
 refine ⟨by rw [jT];exact h.1,fun j p hj=>?_⟩
 have hjl:j < xs.length:=by have:=(List.getElem?_eq_some_iff.1 hj).1;rwa [jT] at this
 have hp:=yZ hj
 exact ⟨hp.symm,hR _ _ (h.2 j _ (List.getElem?_eq_getElem hjl))⟩
section
variable {α : Type} {d:Kd α} {e base n cc g:Nat} {ok ok' JZ S:Nat → Prop} {w w1 W W1:World} {A:Option Addr} {u v v1:Value} {xs:List α} {x:α} {c:List Value}
def N {α:Type} (d:Kd α) (e:Nat) (w:World) (base:Nat) (ok:Nat → Prop) (v:Value) (xs:List α):Prop :=
 (∀ k,v.ownBlock = some k → ok k) ∧ ∃ rows:List (List Value),rows.length = xs.length ∧ (raw d.sz).R e w base (fun k=>some k = v.ownBlock) v rows ∧ ∀ (j:Nat) (x:α) (c:List Value),xs[j]? = some x → rows[j]? = some c → FK d w (fun k=>ok k ∧ some k ≠ v.ownBlock) x c
theorem R_N (h:d.R e w base ok v xs):N d e w base ok v xs:=by
 obtain ⟨h0,inner,ho,hr⟩:=h
 refine ⟨h0,chunks d.sz xs.length inner,jT _ _ _,⟨fun k hk=>hk.symm,inner,by rw [jT];exact ho,Nn hr (fun x c hp=>⟨d.oV (d.jy hp),d.p9 (d.jy hp)⟩)⟩,fun j x c hx hc=>?_⟩
 rw [yZ hc]
 exact QF (hr.2 j x hx)
theorem lD (d:Kd α) (e:Nat) (w:World) (base:Nat) (ok:Nat → Prop):N d e w base ok (.slice none 0 0) []:=R_N (jM _ _ _ _ _)
end
end Kd
end Go.Proofs.YtfokaoeinpnagaaW.bE
namespace Go.Proofs.YtfokaoeinpnagaaW.dU
open Go.RowKit Go.Proofs.YtfokaoeinpnagaaW.bE
namespace Kd
open Go.Proofs.YtfokaoeinpnagaaW.bE.Kd
end Kd
namespace Kd
open Go.Proofs.YtfokaoeinpnagaaW.bE.Kd
section
variable {α : Type} {d:Kd α} {e base g N:Nat} {ok:Nat → Prop} {W w1:World} {u v:Value} {xs:List α}
end
end Kd
theorem jA (k k':IntKind) (x y:Int):Builtin.max2 (.int k x) (.int k' y) = pure (.int k (if x < y then y else x)):=by simp only [Builtin.max2,gt_iff_lt]
theorem jB (k k':IntKind) (x y:Int):Builtin.min2 (.int k x) (.int k' y) = pure (.int k (if y < x then y else x)):=by simp only [Builtin.min2]
theorem kG (ats:Array TypeId) (ty:TypeId) (a b:Value):Builtin.max_ ats ty #[a,b] = (Builtin.max2 a b >>= fun s=>pure s):=by simp only [Builtin.max_,List.foldlM_cons,List.foldlM_nil]
theorem kH (ats:Array TypeId) (ty:TypeId) (a b:Value):Builtin.min_ ats ty #[a,b] = (Builtin.min2 a b >>= fun s=>pure s):=by simp only [Builtin.min_,List.foldlM_cons,List.foldlM_nil]
theorem iI (ats:Array TypeId) (ty:TypeId) (a b c:Value):Builtin.max_ ats ty #[a,b,c] = (Builtin.max2 a b >>= fun s=>Builtin.max2 s c >>= fun s=>pure s):=by simp only [Builtin.max_,List.foldlM_cons,List.foldlM_nil]
theorem iJ (ats:Array TypeId) (ty:TypeId) (a b c:Value):Builtin.min_ ats ty #[a,b,c] = (Builtin.min2 a b >>= fun s=>Builtin.min2 s c >>= fun s=>pure s):=by simp only [Builtin.min_,List.foldlM_cons,List.foldlM_nil]
theorem jC (ats:Array TypeId) (ty:TypeId) (a b c d:Value):Builtin.max_ ats ty #[a,b,c,d] = (Builtin.max2 a b >>= fun s=>Builtin.max2 s c >>= fun s=>Builtin.max2 s d >>= fun s=>pure s):=by simp only [Builtin.max_,List.foldlM_cons,List.foldlM_nil]
theorem jD (ats:Array TypeId) (ty:TypeId) (a b c d:Value):Builtin.min_ ats ty #[a,b,c,d] = (Builtin.min2 a b >>= fun s=>Builtin.min2 s c >>= fun s=>Builtin.min2 s d >>= fun s=>pure s):=by simp only [Builtin.min_,List.foldlM_cons,List.foldlM_nil]
end Go.Proofs.YtfokaoeinpnagaaW.dU
namespace Go.Proofs.YtfokaoeinpnagaaW.bE
open Go.RowKit
section
variable {P : Program} {ops:Array Oper} {rest:List Oper} {o:Oper} {a:Act} {Q:Exit → Act → World → Prop} {W:World}
theorem aU {f:FuncId} {ZZ9:Array Operand} {ts:Array TypeId} (_ho:o.op = .call { callee:=.value (.func f),args:=ZZ9,argTypes:=ts }) (h:wpList P ops Q (o :: rest) a W):wpList P ops Q (o :: rest) a W:=h
theorem oK {b:Builtin} {xs:Array Operand} {ts:Array TypeId} (_ho:o.op = .call { callee:=.builtin b,args:=xs,argTypes:=ts }) (h:wpList P ops Q (o :: rest) a W):wpList P ops Q (o :: rest) a W:=h
end
def mx (a b:Int):Int:=if a < b then b else a
def mn (a b:Int):Int:=if b < a then b else a
def shl (k:IntKind) (x y:Int):Int:=k.wrap (x * 2 ^ min y.toNat k.bits)
def shr (k:IntKind) (x y:Int):Int:=x / 2 ^ min y.toNat k.bits
namespace Kd
section
variable {α : Type} {d:Kd α} {e base:Nat} {ok:Nat → Prop} {W w1:World} {v:Value} {xs:List α}
end
section
variable {α : Type} {d:Kd α} {e base g n cap:Nat} {ok oki JZ:Nat → Prop} {W:World} {xs:List α} {i:Int} {c:List Value}
end
section
variable {α : Type} {d:Kd α} {e base b b' g N:Nat} {ok ok1:Nat → Prop} {W W2 w1:World} {u v:Value} {xs ys:List α} {S:Nat → Prop}
end
end Kd
end Go.Proofs.YtfokaoeinpnagaaW.bE
namespace Go.Proofs.YtfokaoeinpnagaaW.bE
open Go.RowKit
namespace Kd
def V {α:Type} (d:Kd α) (_e:Nat) (W:World) (_base:Nat) (ok:Nat → Prop) (v:Value) (xs:List α):Prop:=∃ A c,v = .slice A xs.length c ∧ xs.length ≤ c ∧ F d W ok A xs.length xs
section
variable {α β:Type} {d:Kd α} {e base base' n m c g N' lo hi:Nat} {ok ok' S:Nat → Prop} {w W w1:World} {A:Option Addr} {ad:Addr} {u v v1:Value} {xs:List α}
theorem bX (h:V d e W base ok v xs) (hF:∀ A,F d W ok A xs.length xs → F d w1 ok' A xs.length xs):V d e w1 base' ok' v xs:=by
 obtain ⟨A,c,hv,hl,hf⟩:=h
 exact ⟨A,c,hv,hl,hF A hf⟩
theorem lF (d:Kd α) (e:Nat) (W:World) (base:Nat) (ok:Nat → Prop):V d e W base ok (.slice none 0 0) []:=⟨none,0,rfl,Nat.le_refl _,aaw d W ok⟩
end
end Kd
end Go.Proofs.YtfokaoeinpnagaaW.bE
namespace Go.Proofs.Ytfokaoeinpnagaa.B
open Go.RowKit Go.Proofs.YtfokaoeinpnagaaW.bE
theorem dX {n:Int} (h0:-9223372036854775808 ≤ n) (h1:n ≤ 9223372036854775807):wrap64 n = n:=by unfold wrap64;omega
theorem toList_inj {s t:ByteArray}:s.toList = t.toList ↔ s = t:=by
 constructor
 ·intro h
  rw [Lib.toList_data,Lib.toList_data] at h
  exact ByteArray.ext (Array.toList_inj.mp h)
 ·rintro rfl;rfl
theorem toList_nil {s:ByteArray}:s.toList = ([]:List UInt8) ↔ s.size = 0:=by
 rw [Lib.toList_data]
 constructor
 ·intro h
  show s.data.size = 0
  rw [← Array.length_toList,h];rfl
 ·intro h
  have h':s.data.size = 0:=h
  rw [← Array.length_toList] at h'
  exact List.eq_nil_of_length_eq_zero h'
theorem eq_empty {s:ByteArray} (h:s.size = 0):s = ⟨#[]⟩:=toList_inj.mp ((toList_nil.mpr h).trans (toList_nil.mpr rfl).symm)
theorem mO (s:ByteArray) (i:Int):bt s i = ((s.data.toList[i.toNat]?.getD 0).toNat:Int):=by
 unfold bt
 by_cases h:i.toNat < s.size
 ·rw [dif_pos h]
  have h':i.toNat < s.data.toList.length:=by rw [Array.length_toList];exact h
  rw [List.getElem?_eq_getElem h']
  rfl
 ·rw [dif_neg h]
  have h':¬ i.toNat < s.data.toList.length:=by rw [Array.length_toList];exact h
  rw [List.getElem?_eq_none (by omega)]
  rfl
theorem qc {a b:ByteArray} {i:Int} (h0:0 ≤ i) (h:i < (a.size:Int)):bt (a ++ b) i = bt a i:=by
 rw [mO,mO,ByteArray.data_append,Array.toList_append,List.getElem?_append_left]
 rw [Array.length_toList];show i.toNat < a.size;omega
theorem wU {a b:ByteArray} {i:Int} (h:(a.size:Int) ≤ i):bt (a ++ b) i = bt b (i - a.size):=by
 have e:a.data.toList.length = a.size:=by rw [Array.length_toList];rfl
 rw [mO,mO,ByteArray.data_append,Array.toList_append,List.getElem?_append_right (by rw [e];omega),e]
 rw [show i.toNat - a.size = (i - (a.size:Int)).toNat from by omega]
theorem mP {s:ByteArray} {a b:Nat} {j:Int} (hj:0 ≤ j) (h:j < ((s.extract a b).size:Int)):bt (s.extract a b) j = bt s (a + j):=by
 have h':=h
 simp only [ByteArray.size_extract] at h'
 rw [mO,mO,Lib.extract_data,List.getElem?_take,if_pos (by omega),List.getElem?_drop]
 rw [show a + j.toNat = ((a:Int) + j).toNat from by omega]
theorem CJ {s t:ByteArray} (hz:s.size = t.size) (h:∀ i:Int,0 ≤ i → i < (s.size:Int) → bt s i = bt t i):s = t:=by
 have es:s.data.toList.length = s.size:=by rw [Array.length_toList];rfl
 have et:t.data.toList.length = t.size:=by rw [Array.length_toList];rfl
 refine ByteArray.ext (Array.toList_inj.mp (List.ext_getElem (by omega) fun i h1 h2=>?_))
 have:=h i (by omega) (by omega)
 rw [mO,mO] at this
 have e:((i:Int)).toNat = i:=by omega
 rw [e,List.getElem?_eq_getElem h1,List.getElem?_eq_getElem h2] at this
 exact UInt8.toNat_inj.mp (Int.ofNat.inj this)
theorem QG (xs:List Int) (i:Int) (h:∀ x ∈ xs,0 ≤ x ∧ x ≤ 255):bt (strOfNums xs) i = xs[i.toNat]?.getD 0:=by
 rw [mO,strOfNums_data,List.getElem?_map]
 by_cases hi:i.toNat < xs.length
 ·rw [List.getElem?_eq_getElem hi]
  have:=h _ (List.getElem_mem hi)
  simp [UInt8.toNat_ofNat']
  omega
 ·rw [List.getElem?_eq_none (by omega)]
  rfl
theorem nX (a b:ByteArray):(a ++ b).extract 0 a.size = a:=by
 rw [ByteArray.extract_append]
 simp [ByteArray.extract_zero_size]
theorem kI (a b:ByteArray):(a ++ b).extract a.size (a ++ b).size = b:=by
 rw [ByteArray.extract_append]
 have e:a.extract a.size (a ++ b).size = ⟨#[]⟩:=eq_empty (by simp only [ByteArray.size_extract];omega)
 rw [e,ByteArray.size_append,show a.size - a.size = 0 from by omega,show a.size + b.size - a.size = b.size from by omega,ByteArray.extract_zero_size]
 exact ByteArray.ext (by rw [ByteArray.data_append];simp)
theorem empty_append (s:ByteArray):(⟨#[]⟩:ByteArray) ++ s = s:=by
 refine ByteArray.ext ?_
 rw [ByteArray.data_append];simp
theorem append_empty (s:ByteArray):s ++ (⟨#[]⟩:ByteArray) = s:=by
 refine ByteArray.ext ?_
 rw [ByteArray.data_append];simp
theorem ED : (⟨#[]⟩:ByteArray).size = 0:=rfl
theorem size_ext {s:ByteArray} {i n:Int} (h0:0 ≤ i) (hn:0 ≤ n) (hs:i + n ≤ (s.size:Int)):((s.extract i.toNat (i + n).toNat).size:Int) = n:=by
 simp only [ByteArray.size_extract];omega
theorem Np {s:ByteArray} {i n j:Int} (h0:0 ≤ i) (hj:0 ≤ j) (hn:j < n) (hs:i + n ≤ (s.size:Int)):bt (s.extract i.toNat (i + n).toNat) j = bt s (i + j):=by
 rw [mP hj (by rw [size_ext h0 (by omega) hs];exact hn)]
 congr 1
 omega
theorem aX (a b:Bool):(a == !b) = (a != b):=by cases a <;> cases b <;> rfl
theorem aY (a b:Bool):(a != !b) = (a == b):=by cases a <;> cases b <;> rfl
section
open Go
variable {P : Program} {d c j:Nat} {e:TypeId} {xs ys:Array Value} {js:List Nat} {a b:Value} {r s:Bool} {w:World}
theorem Nq (ha:(part e xs (j * c)).run P w = .ok a w) (hb:(part e ys (j * c)).run P w = .ok b w) (he:(Op.equalIn d e a b).run P w = .ok r w):(Op.eqItems d e c xs ys [j]).run P w = .ok r w:=by
 simp only [Op.eqItems,Sem.run_bind,ha,hb,he,Result.andThen_ok]
 cases r <;> simp
theorem EF (ha:(part e xs (j * c)).run P w = .ok a w) (hb:(part e ys (j * c)).run P w = .ok b w) (he:(Op.equalIn d e a b).run P w = .ok r w) (hr:(Op.eqItems d e c xs ys js).run P w = .ok s w):(Op.eqItems d e c xs ys (j :: js)).run P w = .ok (r && s) w:=by
 rw [Op.eqItems]
 simp only [Sem.run_bind,ha,hb,he,Result.andThen_ok]
 cases r
 ·simp
 ·simpa using hr
theorem Nr {t:TypeId} {n:Nat} (hu:P.underlying t = some (.array n e)) (hi:(P.info? e).isSome = true) (hc:P.cellsOf e = 1) (h:(Op.eqItems d e 1 xs ys (List.range n)).run P w = .ok r w):(Op.equalIn (d + 1) t (.agg xs) (.agg ys)).run P w = .ok r w:=by
 obtain ⟨i,hi⟩:=Option.isSome_iff_exists.mp hi
 rw [run_equalIn_array (P:=P) w d xs ys hu hi,hc]
 exact h
end
end Go.Proofs.Ytfokaoeinpnagaa.B
namespace Go.Proofs.Ytfokaoeinpnagaa.B
open Go.RowKit Go.Proofs.YtfokaoeinpnagaaW.bE
def wu (w:World) (g:Nat) (xs:List Int):Prop:=∀ j,j < xs.length → w.cell? ⟨g,j,none⟩ = some (.int .u8 (xs.getD j 0)) ∧ w.frozen? ⟨g,j,none⟩ = false
def iC (c:Int):Int:=if 65 ≤ c ∧ c ≤ 90 then c + 32 else c
def numsOf (s:ByteArray):List Int:=s.data.toList.map fun b=>(b.toNat:Int)
theorem numsOf_length (s:ByteArray):(numsOf s).length = s.size:=by simp [numsOf]
theorem numsOf_at (s:ByteArray) (j:Nat):(numsOf s).getD j 0 = bt s j:=by
 rw [mO,numsOf,List.getD_eq_getElem?_getD,List.getElem?_map]
 rw [show ((j:Int)).toNat = j from by omega]
 cases s.data.toList[j]? <;> rfl
def jU (s:ByteArray):ByteArray:=strOfNums ((numsOf s).map iC)
def iW (k:Nat) (xs:List Int):List Int:=(xs.take k).map iC ++ xs.drop k
theorem gQ (k:Nat) (xs:List Int):(iW k xs).length = xs.length:=by simp [iW];omega
theorem y5 (xs:List Int):iW 0 xs = xs:=by simp [iW]
theorem AX (xs:List Int):iW xs.length xs = xs.map iC:=by simp [iW]
theorem EG (k:Nat) (xs:List Int) (h:k < xs.length):(iW k xs).getD k 0 = xs.getD k 0:=by
 simp only [iW,List.getD_eq_getElem?_getD]
 rw [List.getElem?_append_right (by simp;omega)]
 simp only [List.length_map,List.length_take,List.getElem?_drop]
 congr 2
 omega
theorem vE (k:Nat) (xs:List Int) (h:k < xs.length):(iW k xs).set k (iC (xs.getD k 0)) = iW (k + 1) xs:=by
 apply List.ext_getElem?
 intro i
 rw [List.getElem?_set]
 have hl:=gQ k xs
 by_cases e:k = i
 ·subst e
  rw [if_pos rfl,if_pos (by omega)]
  simp only [iW]
  rw [List.getElem?_append_left (by simp;omega),List.getElem?_map,List.getElem?_take,if_pos (by omega),List.getD_eq_getElem?_getD,List.getElem?_eq_getElem h]
  rfl
 ·rw [if_neg e]
  simp only [iW]
  by_cases h2:i < k
  ·rw [List.getElem?_append_left (by simp;omega),List.getElem?_append_left (by simp;omega),List.getElem?_map,List.getElem?_map,List.getElem?_take,List.getElem?_take,if_pos h2,if_pos (by omega)]
  ·by_cases h3:i < xs.length
   ·rw [List.getElem?_append_right (by simp;omega),List.getElem?_append_right (by simp;omega),List.getElem?_drop,List.getElem?_drop]
    congr 1
    simp only [List.length_map,List.length_take]
    omega
   ·rw [List.getElem?_eq_none (by simp;omega),List.getElem?_eq_none (by simp;omega)]
theorem AY (s:ByteArray) (k:Nat):0 ≤ bt s k ∧ bt s k ≤ 255:=gB s k
theorem y7 (w:World) (e:TypeId) (s:ByteArray):wu (Lib.bytesWorld w e s) w.heap.size (numsOf s):=by
 intro j hj
 rw [numsOf_length] at hj
 refine ⟨?_,?_⟩
 ·rw [Lib.bytesWorld_cell w e s j hj,numsOf_at,mO,List.getD_eq_getElem?_getD]
  rfl
 ·have hlt:j < (Lib.bytesCells w e s).size:=by
   have:s.size ≤ (Lib.bytesCells w e s).size:=by simp [Lib.bytesCells]
   omega
  simp [World.frozen?,Lib.bytesWorld_at_new]
  omega
theorem rowAt_set {w:World} {g:Nat} {xs:List Int} (h:wu w g xs) (k:Nat) (v:Int) (hk:k < xs.length):wu (w.setCell ⟨g,k,none⟩ (.int .u8 v)) g (xs.set k v):=by
 intro j hj
 rw [List.length_set] at hj
 obtain ⟨h1,h2⟩:=h j hj
 refine ⟨?_,by rw [World.frozen?_setCell];exact h2⟩
 by_cases e:j = k
 ·subst e
  rw [World.cell?_setCell_same w _ _ h1]
  simp [List.getD_eq_getElem?_getD,hj]
 ·rw [World.cell?_setCell_other w _ _ _ (by intro hc;injection hc with _ h3 _;exact e h3.symm),h1]
  simp [List.getD_eq_getElem?_getD,List.getElem?_set,Ne.symm e]
theorem y8 {B:Nat} {a w:World} (h:Below B a w) (hB:B ≤ w.heap.size) (e:TypeId) (s:ByteArray):Below B a (Lib.bytesWorld w e s) :=
 ⟨h.os,h.tape,h.output,by rw [Lib.bytesWorld_size];have:=h.size;omega,fun k hk=>(Lib.bytesWorld_at_old w e s k (by omega)).trans (h.block k hk)⟩
end Go.Proofs.Ytfokaoeinpnagaa.B
namespace Go.Proofs.Ytfokaoeinpnagaa.B
open Go.RowKit Go.Proofs.YtfokaoeinpnagaaW.bE
def sg (b:Int):ByteArray:=strOfNums [b]
def root : ByteArray:=⟨#[0]⟩
theorem jI (b:Int):(sg b).size = 1:=by unfold sg;rw [strOfNums_size];rfl
theorem iK : root.size = 1:=rfl
theorem EH (b:Int) (h:0 ≤ b ∧ b ≤ 255):bt (sg b) 0 = b:=by
 unfold sg;rw [QG [b] 0 (by simpa using h)];rfl
theorem CK : bt root 0 = 0:=by decide
def iD : List ByteArray → ByteArray
 | []=>⟨#[]⟩
 | x :: l=>sg x.size ++ x ++ iD l
def enc (l:List ByteArray):ByteArray:=iD l ++ root
def zJ (x:ByteArray):Prop:=1 ≤ x.size ∧ x.size ≤ 63
instance (x : ByteArray):Decidable (zJ x):=by unfold zJ;infer_instance
theorem xD : enc [] = root:=empty_append _
theorem nY (x:ByteArray) (l:List ByteArray):enc (x :: l) = sg x.size ++ x ++ enc l:=by unfold enc;rw [iD,ByteArray.append_assoc]
theorem EI (l m:List ByteArray):iD (l ++ m) = iD l ++ iD m:=by
 induction l with
 | nil=>simp only [List.nil_append,iD];exact (empty_append _).symm
 | cons x l ih=>simp only [List.cons_append,iD,ih,ByteArray.append_assoc]
theorem oL (l:List ByteArray):1 ≤ (enc l).size:=by unfold enc;rw [ByteArray.size_append,iK];omega
theorem mQ (x:ByteArray) (l:List ByteArray):(iD (x :: l)).size = 1 + x.size + (iD l).size:=by simp only [iD,ByteArray.size_append,jI]
theorem EJ (l:List ByteArray):(enc l).size = (iD l).size + 1:=by unfold enc;rw [ByteArray.size_append,iK]
theorem Wy {b:Int} {x r:ByteArray} (h:0 ≤ b ∧ b ≤ 255):bt (sg b ++ x ++ r) 0 = b:=by
 rw [ByteArray.append_assoc,qc (by omega) (by rw [jI];omega),EH b h]
theorem J6 {b:Int} {x r:ByteArray}:(sg b ++ x ++ r).extract 1 (1 + x.size) = x:=by
 rw [ByteArray.append_assoc,show (1:Nat) = (sg b).size + 0 from by rw [jI],show (sg b).size + 0 + x.size = (sg b).size + x.size from by omega,ByteArray.extract_append_size_add,ByteArray.extract_append_eq_left rfl]
theorem Ns {b:Int} {x r:ByteArray}:(sg b ++ x ++ r).extract (1 + x.size) (sg b ++ x ++ r).size = r:=by
 have:(sg b ++ x).size = 1 + x.size:=by rw [ByteArray.size_append,jI]
 have h:=kI (sg b ++ x) r
 rw [this] at h
 exact h
theorem nZ {b:Int} {x r:ByteArray}:(sg b ++ x ++ r).size = 1 + x.size + r.size:=by simp only [ByteArray.size_append,jI]
theorem aax (n:ByteArray) (k:Nat) (hk:(k:Int) = bt n 0) (hlt:1 + k ≤ n.size):n = sg k ++ n.extract 1 (1 + k) ++ n.extract (1 + k) n.size:=by
 have h1:n.extract 0 1 = sg k:=by
  have hz:(n.extract 0 1).size = 1:=by rw [ByteArray.size_extract];omega
  refine CJ (by rw [hz,jI]) fun i h0 hi=>?_
  have:i = 0:=by omega
  subst this
  have hr:=gB n 0
  rw [mP (by omega) (by rw [hz];omega),EH _ (by omega),hk]
  rfl
 rw [← h1,ByteArray.extract_append_extract,show min 0 1 = 0 from rfl,show max 1 (1 + k) = 1 + k from by omega,ByteArray.extract_append_extract]
 rw [show min 0 (1 + k) = 0 from by omega,show max (1 + k) n.size = n.size from by omega,ByteArray.extract_zero_size]
def jV : Nat → ByteArray → Option (List ByteArray)
 | 0,_=>none
 | k + 1,n =>
  if n.size = 0 then none
  else if n = root then some []
  else if 1 ≤ bt n 0 ∧ bt n 0 ≤ 63 ∧ bt n 0 + 1 < (n.size:Int) then
   (jV k (n.extract (1 + (bt n 0).toNat) n.size)).map (n.extract 1 (1 + (bt n 0).toNat) :: ·)
  else none
theorem lG : ∀ (k:Nat) (n:ByteArray) (l:List ByteArray),jV k n = some l → n = enc l ∧ ∀ x ∈ l,zJ x
 | 0,_,_,h=>by simp [jV] at h
 | k + 1,n,l,h=>by
  rw [jV] at h
  split at h
  ·cases h
  ·split at h
   ·rename_i hr
    cases h
    exact ⟨by rw [xD];exact hr,by simp⟩
   ·split at h
    ·rename_i hc
     obtain ⟨m,hm,rfl⟩:=zmm h
     obtain ⟨e,hok⟩:=lG k _ m hm
     have hz:(n.extract 1 (1 + (bt n 0).toNat)).size = (bt n 0).toNat:=by rw [ByteArray.size_extract];omega
     refine ⟨?_,?_⟩
     ·rw [nY,hz,← e]
      exact aax n _ (by omega) (by omega)
     ·intro x hx
      rcases List.mem_cons.mp hx with rfl | hx
      ·unfold zJ;omega
      ·exact hok x hx
    ·cases h
theorem EK (x:ByteArray) (l:List ByteArray) (h:zJ x):enc (x :: l) ≠ root:=by
 intro e
 have:=congrArg ByteArray.size e
 have h2:=oL l
 have h1:=h.1
 rw [nY,nZ,iK] at this
 omega
theorem qG : ∀ (k:Nat) (l:List ByteArray),(∀ x ∈ l,zJ x) → (enc l).size ≤ k → jV k (enc l) = some l
 | 0,l,_,hk=>by have:=oL l;omega
 | k + 1,[],_,_=>by
  rw [jV,xD,if_neg (by rw [iK];omega),if_pos rfl]
 | k + 1,x :: l,hok,hk=>by
  have hx:=hok x (by simp)
  have h1:=oL l
  have hr:=EK x l hx
  obtain ⟨hx1,hx2⟩:=hx
  rw [nY] at hk hr ⊢
  rw [nZ] at hk
  rw [jV,if_neg (by rw [nZ];omega),if_neg hr,Wy (by omega),nZ,if_pos (by omega)]
  have e:((x.size:Int)).toNat = x.size:=by omega
  have hc:=@Ns (x.size:Int) x (enc l)
  rw [nZ] at hc
  rw [e,J6,hc,qG k l (fun y hy=>hok y (by simp [hy])) (by omega)]
  rfl
def uq (n:ByteArray):Option (List ByteArray):=if n.size ≤ 255 then jV 255 n else none
theorem J7 {n:ByteArray} {l:List ByteArray} (h:uq n = some l):n = enc l ∧ (∀ x ∈ l,zJ x) ∧ n.size ≤ 255:=by
 unfold uq at h
 split at h
 ·exact ⟨(lG _ _ _ h).1,(lG _ _ _ h).2,by assumption⟩
 ·cases h
theorem Nu {l:List ByteArray} (hok:∀ x ∈ l,zJ x) (hz:(enc l).size ≤ 255):uq (enc l) = some l:=by
 unfold uq
 rw [if_pos hz,qG _ _ hok hz]
theorem y9 : ∀ (k:Nat) (n:ByteArray),n.size ≤ k → jV k n = jV n.size n:=by
 intro k n hk
 cases h:jV k n with
 | some l =>
  obtain ⟨e,hok⟩:=lG _ _ _ h
  subst e
  exact (qG _ _ hok (Nat.le_refl _)).symm
 | none =>
  cases h2:jV n.size n with
  | none=>rfl
  | some l =>
   obtain ⟨e,hok⟩:=lG _ _ _ h2
   rw [e] at h hk
   rw [qG k l hok hk] at h
   cases h
theorem za {n:ByteArray} (h:1 ≤ n.size):jV n.size n = if n = root then some [] else if 1 ≤ bt n 0 ∧ bt n 0 ≤ 63 ∧ bt n 0 + 1 < (n.size:Int) then
   (jV (n.extract (1 + (bt n 0).toNat) n.size).size (n.extract (1 + (bt n 0).toNat) n.size)).map (n.extract 1 (1 + (bt n 0).toNat) :: ·) else none:=by
 obtain ⟨k,hk⟩:∃ k,n.size = k + 1:=⟨n.size - 1,by omega⟩
 conv=>lhs;rw [hk,jV]
 rw [if_neg (by omega)]
 split
 ·rfl
 ·split
  ·rw [y9 k _ (by rw [ByteArray.size_extract];omega)]
  ·rfl
def jc (n:ByteArray):Bool:=(uq n).isSome
def up (n:ByteArray):ByteArray × Bool:=match uq n with
 | some (_ :: l)=>(enc l,true)
 | _=>(⟨#[]⟩,false)
def same (a b:ByteArray):Bool:=jc a && jc b && decide (jU a = jU b)
theorem uw {n:ByteArray}:jc n = true ↔ ∃ l,n = enc l ∧ (∀ x ∈ l,zJ x) ∧ n.size ≤ 255:=by
 unfold jc
 constructor
 ·intro h
  obtain ⟨l,hl⟩:=Option.isSome_iff_exists.mp h
  exact ⟨l,J7 hl⟩
 ·rintro ⟨l,rfl,h1,h2⟩
  rw [Nu h1 h2];rfl
end Go.Proofs.Ytfokaoeinpnagaa.B
namespace Go.Proofs.YtfokaoeinpnagaaW.dB
open Go.Proofs.YtfokaoeinpnagaaW.bE (aj)
def qH (md:Region.Mode) (o:Oper):List Nat:=(o.after.toList.filter (fun e=>Region.binds md e)).map (fun e=>e.on)
def CO (md:Region.Mode) (ops:Array Oper) (i:Nat) (oi:Oper):List Nat:=(List.range ops.size).filter fun j=>!(j == i) && match ops[j]? with
 | some oj=>!(oj.after.any (fun e=>Region.binds md e && e.on == i) || oi.apart ops oj)
 | none=>false
def ng (md:Region.Mode) (ops:Array Oper):Bool × List (List Nat × List Nat):=(Region.noSelect ops,(List.range ops.size).map fun i=>match ops[i]? with
 | some o=>(qH md o,CO md ops i o)
 | none=>([],[]))
def nC (T:List (List Nat × List Nat)) (l:List Bool) (i:Nat):Bool:=!l.getD i true && match T[i]? with
 | some r=>r.1.all (fun j=>l.getD j false)
 | none=>false
def ze (T:List (List Nat × List Nat)) (l:List Bool):List Nat:=(List.range T.length).filter (nC T l)
def EL (T:List (List Nat × List Nat)) (l:List Bool) (i:Nat):Bool:=match T[i]? with
 | some r=>r.2.all (fun j=>l.getD j true)
 | none=>false
def xE (T:List (List Nat × List Nat)) (l:List Bool):Bool:=(List.range T.length).all fun j=>!l.getD j false || match T[j]? with
 | some r=>r.1.all (fun k=>l.getD k false)
 | none=>true
def vF (T:List (List Nat × List Nat)) (i:Nat):Nat → Nat → Bool
 | 0,_=>false
 | fuel + 1,d=>match T[d]? with
  | some r=>r.1.any fun j=>j == i || vF T i fuel j
  | none=>false
def lastT (T:List (List Nat × List Nat)) (l:List Bool) (ds:List Nat) (i:Nat):Bool:=ds.all fun d=>l.getD d true || vF T i T.length d
section
variable {md : Region.Mode} {ops:Array Oper} {T:Bool × List (List Nat × List Nat)} {l l' li lj lk:Array Bool} {ds:List Nat} {i j k:Nat}
theorem gd (l:Array Bool) (j:Nat) (b:Bool):l.getD j b = l.toList.getD j b:=by simp [Array.getD_eq_getD_getElem?,List.getD_eq_getElem?_getD]
theorem AZ (o:Oper) (p:Nat → Bool):o.after.all (fun e=>!Region.binds md e || p e.on) = (qH md o).all p:=by
 unfold qH
 rw [← Array.all_toList]
 induction o.after.toList with
 | nil=>rfl
 | cons e r ih =>
  rw [List.all_cons,ih,List.filter_cons]
  cases h:Region.binds md e <;> simp
theorem J8 (o:Oper) (p:Nat → Bool):o.after.any (fun e=>Region.binds md e && p e.on) = (qH md o).any p:=by
 unfold qH
 rw [← Array.any_toList]
 induction o.after.toList with
 | nil=>rfl
 | cons e r ih =>
  rw [List.any_cons,ih,List.filter_cons]
  cases h:Region.binds md e <;> simp
theorem nD : (ng md ops).2.length = ops.size:=by simp [ng]
theorem qI {o:Oper} (h:ops[i]? = some o):(ng md ops).2[i]? = some (qH md o,CO md ops i o):=by
 have hi:=(Array.getElem?_eq_some_iff.1 h).1
 unfold ng
 rw [List.getElem?_map,List.getElem?_range hi,Option.map_some,h]
theorem qJ (h:ops[i]? = none):(ng md ops).2[i]? = none:=by
 have hi:ops.size ≤ i:=Array.getElem?_eq_none_iff.1 h
 exact List.getElem?_eq_none (by rw [nD];exact hi)
theorem GD : nC (ng md ops).2 l.toList i = (!l.getD i true && ((ops[i]?).map (·.after.all fun e=>!Region.binds md e || l.getD e.on false)).getD false):=by
 unfold nC
 rw [gd]
 cases h:ops[i]? with
 | none=>rw [qJ h];rfl
 | some o =>
  rw [qI h]
  simp only [Option.map_some,Option.getD_some]
  rw [← AZ]
  simp only [gd]
theorem ready_eq : Region.ready md ops l = ze (ng md ops).2 l.toList:=by
 unfold Region.ready ze
 rw [nD]
 refine List.filter_congr (fun i _=>?_)
 rw [GD]
theorem free_eq : Region.free md ops l i = EL (ng md ops).2 l.toList i:=by
 unfold Region.free EL
 cases h:ops[i]? with
 | none=>rw [qJ h]
 | some oi =>
  rw [qI h]
  simp only [CO]
  rw [List.all_filter]
  congr 1
  funext j
  rw [gd]
  cases hj:ops[j]? with
  | none=>cases (j == i) <;> cases (l.toList.getD j true) <;> simp
  | some oj =>
   cases (j == i) <;> cases (l.toList.getD j true) <;> cases (oj.after.any (fun e=>Region.binds md e && e.on == i) || oi.apart ops oj) <;> simp_all
theorem J9 : Region.um md ops l = xE (ng md ops).2 l.toList:=by
 unfold Region.um xE
 rw [nD]
 congr 1
 funext j
 rw [gd]
 cases h:ops[j]? with
 | none=>rw [qJ h]
 | some o =>
  rw [qI h]
  simp only
  rw [← AZ]
  simp only [gd]
theorem EM : ∀ (fuel d:Nat),Region.lQ md ops i fuel d = vF (ng md ops).2 i fuel d
 | 0,_=>rfl
 | fuel + 1,d=>by
  unfold Region.lQ vF
  cases h:ops[d]? with
  | none=>rw [qJ h]
  | some o =>
   rw [qI h]
   simp only
   rw [← J8]
   congr 1
   funext e
   rw [EM fuel]
theorem QH : Region.lastB md ops l ds i = lastT (ng md ops).2 l.toList ds i:=by
 unfold Region.lastB lastT
 rw [nD]
 congr 1
 funext d
 rw [gd,EM]
theorem wz (h:nC T.2 l.toList i = true) (hT:ng md ops = T):(Region.ready md ops l).contains i = true:=by
 subst hT
 rw [ready_eq]
 unfold ze
 rw [List.contains_iff_mem,List.mem_filter,List.mem_range]
 refine ⟨?_,h⟩
 unfold nC at h
 rw [Bool.and_eq_true] at h
 cases hq:(ng md ops).2[i]? with
 | none=>rw [hq] at h;simp at h
 | some r=>exact (List.getElem?_eq_some_iff.1 hq).1
theorem GH (h:(l.toList.set i true == l'.toList) = true):(l.setIfInBounds i true == l') = true:=by
 rw [beq_iff_eq] at h ⊢
 apply Array.ext'
 rw [Array.toList_setIfInBounds]
 exact h
def aay (T:Bool × List (List Nat × List Nat)) (l l':List Bool) (i:Nat):Bool:=T.1 && EL T.2 l i && nC T.2 l i && (l.set i true == l')
theorem jP (hT:ng md ops = T) (h:aay T l.toList l'.toList i = true):QC md ops l l' i = true:=by
 simp only [aay,Bool.and_eq_true] at h
 obtain ⟨⟨⟨h1,h2⟩,h3⟩,h4⟩:=h
 have h5:=wz h3 hT
 have h6:=GH h4
 subst hT
 simp only [QC,Bool.and_eq_true]
 exact ⟨⟨⟨h1,by rw [free_eq];exact h2⟩,h5⟩,h6⟩
def Nw (T:Bool × List (List Nat × List Nat)) (ds:List Nat) (l l':List Bool) (i:Nat):Bool:=T.1 && EL T.2 l i && nC T.2 l i && xE T.2 l && lastT T.2 l ds i && (l.set i true == l')
theorem QI (hT:ng md ops = T) (h:Nw T ds l.toList l'.toList i = true):takeB md ops ds l l' i = true:=by
 simp only [Nw,Bool.and_eq_true] at h
 obtain ⟨⟨⟨⟨⟨h1,h2⟩,h3⟩,h4⟩,h5⟩,h6⟩:=h
 have h7:=wz h3 hT
 have h8:=GH h6
 subst hT
 simp only [takeB,Bool.and_eq_true]
 exact ⟨⟨⟨⟨⟨h1,by rw [free_eq];exact h2⟩,h7⟩,by rw [J9];exact h4⟩,by rw [QH];exact h5⟩,h8⟩
theorem GI (hT:ng md ops = T) (h:(ze T.2 l.toList == [i] && l.toList.set i true == l'.toList) = true):CG md ops l l' i = true:=by
 simp only [Bool.and_eq_true] at h
 obtain ⟨h1,h2⟩:=h
 subst hT
 simp only [CG,Bool.and_eq_true]
 exact ⟨by rw [ready_eq];exact h1,GH h2⟩
theorem Iw (hT:ng md ops = T) (h:(ze T.2 l.toList == []) = true):(Region.ready md ops l == []) = true:=by
 subst hT
 rw [ready_eq]
 exact h
def Wz (B:List Nat) (d:Nat):List Nat → Nat
 | []=>0
 | n :: r=>(2 ^ n ||| (if n < d then B.getD n 0 else 0)) ||| Wz B d r
def qK (T:List (List Nat × List Nat)) (B:List Nat):Bool:=(List.range T.length).all fun d=>match T[d]? with
 | some r=>(B.getD d 0 ||| Wz B d r.1) == Wz B d r.1
 | none=>false
theorem Iy {B:List Nat} {d i:Nat}:∀ {ns:List Nat},(Wz B d ns).testBit i = true → ∃ n ∈ ns,n = i ∨ (n < d ∧ (B.getD n 0).testBit i = true)
 | [],h=>by simp [Wz] at h
 | n :: r,h=>by
  unfold Wz at h
  rw [Nat.testBit_or,Nat.testBit_or,Bool.or_eq_true,Bool.or_eq_true] at h
  rcases h with (h | h) | h
  ·rw [Nat.testBit_two_pow] at h
   exact ⟨n,List.mem_cons_self,.inl (by simpa using h)⟩
  ·by_cases hn:n < d
   ·rw [if_pos hn] at h
    exact ⟨n,List.mem_cons_self,.inr ⟨hn,h⟩⟩
   ·rw [if_neg hn] at h
    simp at h
  ·obtain ⟨m,hm,h2⟩:=Iy h
   exact ⟨m,List.mem_cons_of_mem _ hm,h2⟩
theorem A8 {T:List (List Nat × List Nat)} {B:List Nat} (hB:qK T B = true):∀ (fuel d:Nat),d < fuel → d < T.length → (B.getD d 0).testBit i = true → vF T i fuel d = true
 | 0,d,h,_,_=>by omega
 | fuel + 1,d,h,hd,hb=>by
  have h1:=List.all_eq_true.1 hB d (List.mem_range.2 hd)
  cases hr:T[d]? with
  | none=>rw [hr] at h1;simp at h1
  | some r =>
   rw [hr] at h1
   simp only [beq_iff_eq] at h1
   have h2:(Wz B d r.1).testBit i = true:=by rw [← h1,Nat.testBit_or,hb,Bool.true_or]
   obtain ⟨n,hn,h3⟩:=Iy h2
   unfold vF
   rw [hr]
   simp only
   rw [List.any_eq_true]
   refine ⟨n,hn,?_⟩
   rcases h3 with rfl | ⟨h4,h5⟩
   ·simp
   ·rw [A8 hB fuel n (by omega) (by omega) h5,Bool.or_true]
def TT (T:List (List Nat × List Nat)) (B:List Nat) (l:List Bool) (ds:List Nat) (i:Nat):Bool:=ds.all fun d=>l.getD d true || (decide (d < T.length) && (B.getD d 0).testBit i)
def TU (T:Bool × List (List Nat × List Nat)) (B:List Nat) (ds:List Nat) (l l':List Bool) (i:Nat):Bool:=T.1 && EL T.2 l i && nC T.2 l i && xE T.2 l && TT T.2 B l ds i && (l.set i true == l')
theorem zf {B:List Nat} (hT:ng md ops = T) (hB:qK T.2 B = true) (h:TU T B ds l.toList l'.toList i = true):takeB md ops ds l l' i = true:=by
 refine QI hT ?_
 simp only [TU,Nw,Bool.and_eq_true] at h ⊢
 obtain ⟨⟨⟨⟨⟨h1,h2⟩,h3⟩,h4⟩,h5⟩,h6⟩:=h
 refine ⟨⟨⟨⟨⟨h1,h2⟩,h3⟩,h4⟩,?_⟩,h6⟩
 unfold TT at h5
 unfold lastT
 rw [List.all_eq_true] at h5 ⊢
 intro d hd
 have h7:=h5 d hd
 rw [Bool.or_eq_true,Bool.and_eq_true,decide_eq_true_eq] at h7
 rcases h7 with h7 | ⟨h8,h9⟩
 ·rw [h7,Bool.true_or]
 ·rw [A8 hB _ d h8 h8 h9,Bool.or_true]
theorem A9 {P:Program} {Q:Exit → Act → World → Prop} {S:World → Prop} {n:Nat} {a:Act} {w:World} {B:List Nat} (hT:ng md ops = T) (hB:qK T.2 B = true) (h:aj (ng md ops = T) → aj (qK T.2 B = true) → dh P md ops Q S ds n l a w):dh P md ops Q S ds n l a w:=h ⟨hT⟩ ⟨hB⟩
end
def rF : Code → Nat → Option (Array Oper)
 | .region id ops _,k=>if id == k then some ops else none
 | .seq a b,k=>match rF a k with
  | some o=>some o
  | none=>rF b k
 | .cond _ a b,k=>match rF a k with
  | some o=>some o
  | none=>rF b k
 | .block _ c,k=>rF c k
 | .loop c,k=>rF c k
 | .scope c,k=>rF c k
 | .rangeFunc _ _ a b,k=>match rF a k with
  | some o=>some o
  | none=>rF b k
 | _,_=>none
def opsOf (f:Func) (k:Nat):Array Oper:=((f.body.bind fun c=>rF c k)).getD #[]
end Go.Proofs.YtfokaoeinpnagaaW.dB
namespace Go.Proofs.YtfokaoeinpnagaaW.bE
theorem fQ.one {α:Type} {R:α → List Value → Prop} {ps:List α} {cs:List Value} {p:α} {v:Value} (hp:R p [v]) (h:fQ R 1 ps cs):fQ R 1 (p :: ps) (v :: cs):=by
 refine ⟨by simp [h.1],fun j q hq=>?_⟩
 cases j with
 | zero =>
  simp only [List.getElem?_cons_zero,Option.some.injEq] at hq
  subst hq
  simpa using hp
 | succ j =>
  simp only [List.getElem?_cons_succ] at hq
  have h1:=h.2 j q hq
  simpa [Nat.mul_one] using h1
theorem fQ.front {α:Type} {R:α → List Value → Prop} {size:Nat} {ps:List α} {cs c all:List Value} {p:α} (hp:R p c) (hc:c.length = size) (h:fQ R size ps cs) (ha:c ++ cs = all):fQ R size (p :: ps) all:=by
 subst ha
 refine ⟨by rw [List.length_append,hc,h.1,List.length_cons,Nat.succ_mul,Nat.add_comm],fun j q hq=>?_⟩
 cases j with
 | zero =>
  simp only [List.getElem?_cons_zero,Option.some.injEq] at hq
  subst hq
  rw [Nat.zero_mul,List.drop_zero,List.take_append_of_le_length (by omega),List.take_of_length_le (by omega)]
  exact hp
 | succ j =>
  simp only [List.getElem?_cons_succ] at hq
  have h1:=h.2 j q hq
  rw [Nat.succ_mul,List.drop_append,List.drop_of_length_le (by rw [hc];exact Nat.le_add_left _ _),List.nil_append,hc,Nat.add_sub_cancel]
  exact h1
theorem fQ.c2 {α:Type} {R:α → List Value → Prop} {ps:List α} {cs:List Value} {p:α} {va vb:Value} (hp:R p [va,vb]) (h:fQ R 2 ps cs):fQ R 2 (p :: ps) (va :: vb :: cs):=fQ.front hp rfl h rfl
theorem fQ.c3 {α:Type} {R:α → List Value → Prop} {ps:List α} {cs:List Value} {p:α} {va vb vc:Value} (hp:R p [va,vb,vc]) (h:fQ R 3 ps cs):fQ R 3 (p :: ps) (va :: vb :: vc :: cs):=fQ.front hp rfl h rfl
theorem fQ.c4 {α:Type} {R:α → List Value → Prop} {ps:List α} {cs:List Value} {p:α} {va vb vc vd:Value} (hp:R p [va,vb,vc,vd]) (h:fQ R 4 ps cs):fQ R 4 (p :: ps) (va :: vb :: vc :: vd :: cs):=fQ.front hp rfl h rfl
theorem fQ.c5 {α:Type} {R:α → List Value → Prop} {ps:List α} {cs:List Value} {p:α} {va vb vc vd ve:Value} (hp:R p [va,vb,vc,vd,ve]) (h:fQ R 5 ps cs):fQ R 5 (p :: ps) (va :: vb :: vc :: vd :: ve :: cs):=fQ.front hp rfl h rfl
theorem fQ.c6 {α:Type} {R:α → List Value → Prop} {ps:List α} {cs:List Value} {p:α} {va vb vc vd ve vf:Value} (hp:R p [va,vb,vc,vd,ve,vf]) (h:fQ R 6 ps cs):fQ R 6 (p :: ps) (va :: vb :: vc :: vd :: ve :: vf :: cs):=fQ.front hp rfl h rfl
theorem fQ.c7 {α:Type} {R:α → List Value → Prop} {ps:List α} {cs:List Value} {p:α} {va vb vc vd ve vf vg:Value} (hp:R p [va,vb,vc,vd,ve,vf,vg]) (h:fQ R 7 ps cs):fQ R 7 (p :: ps) (va :: vb :: vc :: vd :: ve :: vf :: vg :: cs):=fQ.front hp rfl h rfl
theorem fQ.c8 {α:Type} {R:α → List Value → Prop} {ps:List α} {cs:List Value} {p:α} {va vb vc vd ve vf vg vh:Value} (hp:R p [va,vb,vc,vd,ve,vf,vg,vh]) (h:fQ R 8 ps cs):fQ R 8 (p :: ps) (va :: vb :: vc :: vd :: ve :: vf :: vg :: vh :: cs):=fQ.front hp rfl h rfl
theorem fQ.c9 {α:Type} {R:α → List Value → Prop} {ps:List α} {cs:List Value} {p:α} {va vb vc vd ve vf vg vh vi:Value} (hp:R p [va,vb,vc,vd,ve,vf,vg,vh,vi]) (h:fQ R 9 ps cs):fQ R 9 (p :: ps) (va :: vb :: vc :: vd :: ve :: vf :: vg :: vh :: vi :: cs):=fQ.front hp rfl h rfl
theorem fQ.c10 {α:Type} {R:α → List Value → Prop} {ps:List α} {cs:List Value} {p:α} {va vb vc vd ve vf vg vh vi vj:Value} (hp:R p [va,vb,vc,vd,ve,vf,vg,vh,vi,vj]) (h:fQ R 10 ps cs):fQ R 10 (p :: ps) (va :: vb :: vc :: vd :: ve :: vf :: vg :: vh :: vi :: vj :: cs):=fQ.front hp rfl h rfl
end Go.Proofs.YtfokaoeinpnagaaW.bE
namespace Go.Proofs.YtfokaoeinpnagaaW.dB
def up (b:Nat → Bool) (i:Nat):Nat → Bool:=fun j=>if j = i then true else b j
section
variable {P : Program} {ops:Array Oper} {Q:Exit → Act → World → Prop} {md:Region.Mode} {T:Bool × List (List Nat × List Nat)} {B:List Nat} {O:List Nat} {b:Nat → Bool} {i j n:Nat}
end
end Go.Proofs.YtfokaoeinpnagaaW.dB
namespace Go.Proofs.YtfokaoeinpnagaaW.bE
open Go.RowKit
section
variable {P : Program} {ops:Array Oper} {rest:List Oper} {o:Oper} {a:Act} {Q:Exit → Act → World → Prop} {W:World}
theorem jE (hw:Region.wanted o (yielded ops a.tmps) = true) (h:wpList P ops Q ({ o with guard:=none } :: rest) a W):wpList P ops Q (o :: rest) a W:=by
 have h1:Region.wanted { o with guard:=none } (yielded ops a.tmps) = true:=rfl
 unfold wpList at h ⊢
 rw [if_pos h1] at h
 rw [if_pos hw]
 exact h
end
end Go.Proofs.YtfokaoeinpnagaaW.bE
namespace Go.Proofs.Ytfokaoeinpnagaa.ZQ
open Go.RowKit Go.Proofs.YtfokaoeinpnagaaW.bE Go.Proofs.YtfokaoeinpnagaaW.dB Go.Proofs.YtfokaoeinpnagaaW.dU
attribute [local go_sem] jA jB kG kH iI iJ jC jD
def aaz : Option Int → Value
 | none=>.nilIface
 | some c=>.iface 0 (.int .i64 c)
theorem aI : aaz none = .nilIface:=rfl
theorem aJ (c:Int):aaz (some c) = .iface 0 (.int .i64 c):=rfl
theorem Iz : (Try.prog.info? 9).map (fun i=>(i.zero,i.size,i.bytes)) = some (some (.string ⟨#[]⟩),1,16):=by kernel_rfl
end Go.Proofs.Ytfokaoeinpnagaa.ZQ

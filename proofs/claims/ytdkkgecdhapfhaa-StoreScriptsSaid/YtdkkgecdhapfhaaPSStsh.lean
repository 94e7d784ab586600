/- A part of the proof of StoreScripts: cut, joined and given short names by a program of this session (wip/tools/pack.py); Lean checks it. No condition. -/
import Derived.Test.YtdkkgecdhapfhaaPSStsg
import Derived.Test.YtdkkgecdhapfhaaPSStsf
import Derived.Below
import Derived.Defers
import Derived.Test.YtdkkgecdhapfhaaPSStsd
import Derived.Laws.StructEq
set_option linter.unusedSectionVars false
set_option linter.unusedSimpArgs false
set_option linter.unusedVariables false
namespace Go.Proofs.Ytdkkgecdhapfhaa.Ka
open Go Ev
variable {ext : Env} {F n:Nat}
noncomputable abbrev G (ext:Env) (F n:Nat):Env:=Gm xY ext F n
theorem F6 {x:Int} (h1:-9223372036854775808 ≤ x) (h2:x ≤ 9223372036854775807):IntKind.i64.wrap x = x:=by
  rw [IntKind.wrap_i64];omega
abbrev vi (x:Int):AV:=.one (.f (.int .i64 x))
abbrev vb (b:Bool):AV:=.one (.f (.bool b))
abbrev vs (s:ByteArray):AV:=.one (.f (.str s))
abbrev vl (l:List (List FV)):AV:=.one (.f (.sl l))
def fU (s:ByteArray):List FV:=[.str s]
abbrev vq (q:ByteArray) (t c:Int):AV:=.agg [.f (.str q),.f (.int .i64 t),.f (.int .i64 c)]
abbrev wz (q:ByteArray) (t c:Int) (d:List ByteArray) (ttl:Int):AV:=.agg [.f (.str q),.f (.int .i64 t),.f (.int .i64 c),.f (.sl (d.map fU)),.f (.int .i64 ttl)]
theorem Ea (x:Int):G ext F (n + 1) 102 [vi x] = some ([vb (decide (0 ≤ x ∧ x ≤ 65535))],[vi x]):=by
  refine d9 (cf:=OP) rfl ?_
  simp only [OP,go_sem,Nat.reduceAdd,Nat.reduceMul,Nat.reduceEqDiff,Nat.reduceBEq,Nat.reduceMod,Nat.reduceDiv,↓reduceIte,reduceCtorEq]
  repeat' (refine bN (fun h=>?_) (fun h=>?_) <;> simp only [h,go_sem,Nat.reduceAdd,Nat.reduceMul,Nat.reduceEqDiff,Nat.reduceBEq,Nat.reduceMod,Nat.reduceDiv,↓reduceIte,reduceCtorEq])
  all_goals (simp only [decide_eq_true_eq,decide_eq_false_iff_not] at *;simp;try omega)
theorem R5 (x m:Int):G ext F (n + 1) 93 [vi x,vi m] = some ([vb (decide (0 ≤ x ∧ x ≤ m))],[vi x,vi m]):=by
  refine d9 (cf:=c93) rfl ?_
  simp only [c93,go_sem,Nat.reduceAdd,Nat.reduceMul,Nat.reduceEqDiff,Nat.reduceBEq,Nat.reduceMod,Nat.reduceDiv,↓reduceIte,reduceCtorEq]
  repeat' (refine bN (fun h=>?_) (fun h=>?_) <;> simp only [h,go_sem,Nat.reduceAdd,Nat.reduceMul,Nat.reduceEqDiff,Nat.reduceBEq,Nat.reduceMod,Nat.reduceDiv,↓reduceIte,reduceCtorEq])
  all_goals (simp only [decide_eq_true_eq,decide_eq_false_iff_not] at *;simp;try omega)
theorem qg (x m:Int):G ext F (n + 1) 86 [vi x,vi m] = some ([vb (decide (0 ≤ x ∧ x ≤ m))],[vi x,vi m]):=by
  refine d9 (cf:=c86) rfl ?_
  simp only [c86,go_sem,Nat.reduceAdd,Nat.reduceMul,Nat.reduceEqDiff,Nat.reduceBEq,Nat.reduceMod,Nat.reduceDiv,↓reduceIte,reduceCtorEq]
  repeat' (refine bN (fun h=>?_) (fun h=>?_) <;> simp only [h,go_sem,Nat.reduceAdd,Nat.reduceMul,Nat.reduceEqDiff,Nat.reduceBEq,Nat.reduceMod,Nat.reduceDiv,↓reduceIte,reduceCtorEq])
  all_goals (simp only [decide_eq_true_eq,decide_eq_false_iff_not] at *;simp;try omega)
theorem LG (x m:Int):G ext F (n + 1) 107 [vi x,vi m] = some ([vb (decide (m ≤ x ∧ x ≤ 5))],[vi x,vi m]):=by
  refine d9 (cf:=c107) rfl ?_
  simp only [c107,go_sem,Nat.reduceAdd,Nat.reduceMul,Nat.reduceEqDiff,Nat.reduceBEq,Nat.reduceMod,Nat.reduceDiv,↓reduceIte,reduceCtorEq]
  repeat' (refine bN (fun h=>?_) (fun h=>?_) <;> simp only [h,go_sem,Nat.reduceAdd,Nat.reduceMul,Nat.reduceEqDiff,Nat.reduceBEq,Nat.reduceMod,Nat.reduceDiv,↓reduceIte,reduceCtorEq])
  all_goals (simp only [decide_eq_true_eq,decide_eq_false_iff_not] at *;simp;try omega)
def zC (x:Int):Bool:=decide (0 ≤ x ∧ x ≤ 1099511627776)
def dz (now ttl:Int):Int:=if zC now = true ∧ 0 ≤ ttl then now + (if ttl ≤ 604800 then ttl else 604800) else -1
def fE (now u:Int):Bool:=zC now && decide (now < u)
def lG (old:Int) (l:Bool) (now:Int):Bool:=decide (1 ≤ now ∧ now ≤ 5) && (!l || decide (old ≤ now))
theorem mP (x:Int):G ext F (n + 1) 55 [vi x] = some ([vb (zC x)],[vi x]):=by
  refine d9 (cf:=c55) rfl ?_
  simp only [c55,go_sem,Nat.reduceAdd,Nat.reduceMul,Nat.reduceEqDiff,Nat.reduceBEq,Nat.reduceMod,Nat.reduceDiv,↓reduceIte,reduceCtorEq]
  repeat' (refine bN (fun h=>?_) (fun h=>?_) <;> simp only [h,go_sem,Nat.reduceAdd,Nat.reduceMul,Nat.reduceEqDiff,Nat.reduceBEq,Nat.reduceMod,Nat.reduceDiv,↓reduceIte,reduceCtorEq])
  all_goals (simp only [decide_eq_true_eq,decide_eq_false_iff_not] at *;simp [zC];try omega)
theorem tH (x u:Int):G ext F (n + 2) 68 [vi x,vi u] = some ([vb (fE x u)],[vi x,vi u]):=by
  refine d9 (cf:=c68) rfl ?_
  simp only [c68,qg,go_sem,Nat.reduceAdd,Nat.reduceMul,Nat.reduceEqDiff,Nat.reduceBEq,Nat.reduceMod,Nat.reduceDiv,↓reduceIte,reduceCtorEq]
  repeat' (refine bN (fun h=>?_) (fun h=>?_) <;> simp only [h,qg,go_sem,Nat.reduceAdd,Nat.reduceMul,Nat.reduceEqDiff,Nat.reduceBEq,Nat.reduceMod,Nat.reduceDiv,↓reduceIte,reduceCtorEq])
  all_goals (simp only [decide_eq_true_eq,decide_eq_false_iff_not] at *;simp [zC,fE];try omega)
theorem nL (x u:Int):G ext F (n + 2) 58 [vi x,vi u] = some ([vb (fE x u)],[vi x,vi u]):=by
  refine d9 (cf:=c58) rfl ?_
  simp only [c58,mP,go_sem,Nat.reduceAdd,Nat.reduceMul,Nat.reduceEqDiff,Nat.reduceBEq,Nat.reduceMod,Nat.reduceDiv,↓reduceIte,reduceCtorEq]
  repeat' (refine bN (fun h=>?_) (fun h=>?_) <;> simp only [h,mP,go_sem,Nat.reduceAdd,Nat.reduceMul,Nat.reduceEqDiff,Nat.reduceBEq,Nat.reduceMod,Nat.reduceDiv,↓reduceIte,reduceCtorEq])
  all_goals (simp_all [fE])
theorem OU {x t:Int} (h:0 ≤ x ∧ x ≤ 1099511627776) (ht:0 ≤ t):IntKind.i64.wrap (x + if 604800 < t then 604800 else t) = x + if t ≤ 604800 then t else 604800:=by
  have e:(if 604800 < t then (604800:Int) else t) = if t ≤ 604800 then t else 604800:=by split <;> split <;> omega
  rw [e]
  refine F6 ?_ ?_ <;> split <;> omega
theorem Aj {x t:Int} (h:0 ≤ x ∧ x ≤ 1099511627776) (ht:¬ t < 0):dz x t = IntKind.i64.wrap (x + if 604800 < t then 604800 else t):=by
  rw [OU h (by omega)]
  simp only [dz,zC,decide_eq_true_eq]
  rw [if_pos (show (0 ≤ x ∧ x ≤ 1099511627776) ∧ 0 ≤ t from ⟨h,by omega⟩)]
theorem Eb {x t:Int} (h:¬ ((0 ≤ x ∧ x ≤ 1099511627776) ∧ 0 ≤ t)):dz x t = -1:=by
  simp only [dz,zC,decide_eq_true_eq]
  rw [if_neg h]
theorem Ec (x t:Int):G ext F (n + 2) 62 [vi x,vi t] = some ([vi (dz x t)],[vi x,vi t]):=by
  refine d9 (cf:=c62) rfl ?_
  simp only [c62,qg,go_sem,Nat.reduceAdd,Nat.reduceMul,Nat.reduceEqDiff,Nat.reduceBEq,Nat.reduceMod,Nat.reduceDiv,↓reduceIte,reduceCtorEq]
  repeat' (refine bN (fun h=>?_) (fun h=>?_) <;> simp only [h,qg,go_sem,Nat.reduceAdd,Nat.reduceMul,Nat.reduceEqDiff,Nat.reduceBEq,Nat.reduceMod,Nat.reduceDiv,↓reduceIte,reduceCtorEq])
  all_goals (simp only [zC,decide_eq_true_eq,decide_eq_false_iff_not] at *;first | rw [Aj (by assumption) (by omega)] | rw [Eb (by omega)])
theorem qh (x t:Int):G ext F (n + 2) 57 [vi x,vi t] = some ([vi (dz x t)],[vi x,vi t]):=by
  refine d9 (cf:=c57) rfl ?_
  simp only [c57,mP,go_sem,Nat.reduceAdd,Nat.reduceMul,Nat.reduceEqDiff,Nat.reduceBEq,Nat.reduceMod,Nat.reduceDiv,↓reduceIte,reduceCtorEq]
  repeat' (refine bN (fun h=>?_) (fun h=>?_) <;> simp only [h,mP,go_sem,Nat.reduceAdd,Nat.reduceMul,Nat.reduceEqDiff,Nat.reduceBEq,Nat.reduceMod,Nat.reduceDiv,↓reduceIte,reduceCtorEq])
  all_goals (simp only [zC,decide_eq_true_eq,decide_eq_false_iff_not] at *;first | rw [Aj (by assumption) (by omega)] | rw [Eb (by omega)])
theorem Hl (o x:Int) (l:Bool):G ext F (n + 2) 87 [vi o,vb l,vi x] = some ([vb (lG o l x)],[vi o,vb l,vi x]):=by
  refine d9 (cf:=c87) rfl ?_
  simp only [c87,LG,go_sem,Nat.reduceAdd,Nat.reduceMul,Nat.reduceEqDiff,Nat.reduceBEq,Nat.reduceMod,Nat.reduceDiv,↓reduceIte,reduceCtorEq]
  repeat' (refine bN (fun h=>?_) (fun h=>?_) <;> simp only [h,LG,go_sem,Nat.reduceAdd,Nat.reduceMul,Nat.reduceEqDiff,Nat.reduceBEq,Nat.reduceMod,Nat.reduceDiv,↓reduceIte,reduceCtorEq])
  all_goals (simp only [decide_eq_true_eq,decide_eq_false_iff_not] at *;simp_all [lG];try omega)
theorem Ed (o x:Int) (l:Bool):G ext F (n + 1) 60 [vi o,vb l,vi x] = some ([vb (lG o l x)],[vi o,vb l,vi x]):=by
  refine d9 (cf:=c60) rfl ?_
  simp only [c60,go_sem,Nat.reduceAdd,Nat.reduceMul,Nat.reduceEqDiff,Nat.reduceBEq,Nat.reduceMod,Nat.reduceDiv,↓reduceIte,reduceCtorEq]
  repeat' (refine bN (fun h=>?_) (fun h=>?_) <;> simp only [h,go_sem,Nat.reduceAdd,Nat.reduceMul,Nat.reduceEqDiff,Nat.reduceBEq,Nat.reduceMod,Nat.reduceDiv,↓reduceIte,reduceCtorEq])
  all_goals (simp only [decide_eq_true_eq,decide_eq_false_iff_not] at *;simp_all [lG];try omega)
end Go.Proofs.Ytdkkgecdhapfhaa.Ka
namespace Go.Proofs.Ytdkkgecdhapfhaa.Ka
open Go Ev
variable {ext : Env} {F n:Nat}
theorem at_ {α:Type} {l:List α} {i:Nat} (h:i < l.length):∃ x,l[i]? = some x ∧ decide ((i:Int) < (l.length:Int)) = true ∧ ((i:Int).toNat = i) ∧ (0:Int) ≤ i:=⟨_,List.getElem?_eq_getElem h,by simpa using h,by simp,by omega⟩
theorem end_ {α:Type} {l:List α}:decide ((l.length:Int) < (l.length:Int)) = false:=by simp
theorem nx {i N:Nat} (h:i < N) (hN:N ≤ 200000000000000):IntKind.i64.wrap ((i:Int) + 1) = ((i + 1:Nat):Int):=by rw [F6 (by omega) (by omega)];omega
def Ee (l:List ByteArray) (s:ByteArray):Bool:=l.any fun x=>decide (x = s)
theorem Ef {l:List ByteArray} {s x:ByteArray} {i:Nat} (h:l[i]? = some x):Ee (l.take (i + 1)) s = (Ee (l.take i) s || decide (x = s)):=by
  unfold Ee
  have hi:=(List.getElem?_eq_some_iff.mp h)
  rw [List.take_add_one,h,List.any_append]
  simp
theorem LH {l:List ByteArray} {s x:ByteArray} {i:Nat} (h:l[i]? = some x) (hx:x = s):Ee l s = true:=by
  unfold Ee
  exact List.any_eq_true.mpr ⟨x,List.mem_of_getElem? h,by simpa using hx⟩
theorem Ho {l:List ByteArray} {s:ByteArray} (h:Ee (l.take l.length) s = false):Ee l s = false:=by rwa [List.take_length] at h
theorem YQ (l:List ByteArray) (s:ByteArray) (hl:l.length ≤ 1000000000000) (hF:200000000000001 ≤ F):G ext F (n + 1) 85 [vl (l.map fU),vs s] = some ([vb (Ee l s)],[vl (l.map fU),vs s]):=by
  refine d9 (cf:=c85) rfl ?_
  simp only [c85,go_sem,Nat.reduceAdd,Nat.reduceMul,Nat.reduceEqDiff,Nat.reduceBEq,Nat.reduceMod,Nat.reduceDiv,↓reduceIte,reduceCtorEq]
  refine D6 l.length (fun i=>⟨[(0,PV.c (CV.one (PL.f (FV.sl (l.map fU))))),(1,PV.c (CV.one (PL.f (FV.str s)))),(5,PV.c (CV.one (PL.f (FV.int .i64 i))))],[]⟩) (fun i=>Ee (l.take i) s = false) (by omega) rfl (fun i hi hP=>?_) (fun hP=>?_)
  · obtain ⟨x,hx,hd,ht,h0⟩:=at_ hi
    have hn:=nx hi (Nat.le_trans hl (by decide))
    have hs:=Ef (s:=s) hx
    simp only [List.length_map,List.getElem?_map,hd,hx,ht,h0,fU,go_sem,Nat.reduceAdd,Nat.reduceMul,Nat.reduceEqDiff,Nat.reduceBEq,Nat.reduceMod,Nat.reduceDiv,↓reduceIte,reduceCtorEq]
    repeat' (refine bN (fun h=>?_) (fun h=>?_) <;> simp only [h,List.length_map,List.getElem?_map,hd,hx,ht,h0,hn,fU,go_sem,Nat.reduceAdd,Nat.reduceMul,Nat.reduceEqDiff,Nat.reduceBEq,Nat.reduceMod,Nat.reduceDiv,↓reduceIte,reduceCtorEq])
    · rw [LH hx (by simp at h;first | exact h | exact h.symm)]
    · rw [hs,hP];simp at h ⊢;first | exact h | exact fun e=>h e.symm
  · have hd:=@end_ _ l
    simp only [List.length_map,hd,go_sem,Nat.reduceAdd,Nat.reduceMul,Nat.reduceEqDiff,Nat.reduceBEq,Nat.reduceMod,Nat.reduceDiv,↓reduceIte,reduceCtorEq]
    repeat' (refine bN (fun h=>?_) (fun h=>?_) <;> simp only [h,List.length_map,hd,go_sem,Nat.reduceAdd,Nat.reduceMul,Nat.reduceEqDiff,Nat.reduceBEq,Nat.reduceMod,Nat.reduceDiv,↓reduceIte,reduceCtorEq])
    simp only [Ho hP]
theorem OV (l:List ByteArray) (s:ByteArray) (hl:l.length ≤ 1000000000000) (hF:200000000000001 ≤ F):∃ z:Int,(decide (0 ≤ z) = Ee l s) ∧ G ext F (n + 1) 114 [vl (l.map fU),vs s] = some ([vi z],[vl (l.map fU),vs s]):=by
  suffices h:W (fun r=>∃ z:Int,(decide (0 ≤ z) = Ee l s) ∧ r = ([vi z],[vl (l.map fU),vs s])) ⟨⟩ (G ext F (n + 1) 114 [vl (l.map fU),vs s]) by
    obtain ⟨r,h1,z,h2,h3⟩:=h
    exact ⟨z,h2,by rw [h1,h3]⟩
  show W _ _ (Kq _ F OT _)
  simp only [OT,go_sem,Nat.reduceAdd,Nat.reduceMul,Nat.reduceEqDiff,Nat.reduceBEq,Nat.reduceMod,Nat.reduceDiv,↓reduceIte,reduceCtorEq]
  refine D6 l.length (fun i=>⟨[(0,PV.c (CV.one (PL.f (FV.sl (l.map fU))))),(1,PV.c (CV.one (PL.f (FV.str s)))),(7,PV.c (CV.one (PL.f (FV.int .i64 (l.map fU).length)))),(8,PV.c (CV.one (PL.f (FV.int .i64 i))))],[]⟩) (fun i=>Ee (l.take i) s = false) (by omega) rfl (fun i hi hP=>?_) (fun hP=>?_)
  · obtain ⟨x,hx,hd,ht,h0⟩:=at_ hi
    have hn:=nx hi (Nat.le_trans hl (by decide))
    have hs:=Ef (s:=s) hx
    simp only [List.length_map,List.getElem?_map,hd,hx,ht,h0,fU,go_sem,Nat.reduceAdd,Nat.reduceMul,Nat.reduceEqDiff,Nat.reduceBEq,Nat.reduceMod,Nat.reduceDiv,↓reduceIte,reduceCtorEq]
    repeat' (refine bN (fun h=>?_) (fun h=>?_) <;> simp only [h,List.length_map,List.getElem?_map,hd,hx,ht,h0,hn,fU,go_sem,Nat.reduceAdd,Nat.reduceMul,Nat.reduceEqDiff,Nat.reduceBEq,Nat.reduceMod,Nat.reduceDiv,↓reduceIte,reduceCtorEq])
    · exact ⟨i,by rw [LH hx (by simp at h;first | exact h | exact h.symm)];simp,rfl⟩
    · rw [hs,hP];simp at h ⊢;first | exact h | exact fun e=>h e.symm
  · have hd:=@end_ _ l
    simp only [List.length_map,hd,go_sem,Nat.reduceAdd,Nat.reduceMul,Nat.reduceEqDiff,Nat.reduceBEq,Nat.reduceMod,Nat.reduceDiv,↓reduceIte,reduceCtorEq]
    repeat' (refine bN (fun h=>?_) (fun h=>?_) <;> simp only [h,List.length_map,hd,go_sem,Nat.reduceAdd,Nat.reduceMul,Nat.reduceEqDiff,Nat.reduceBEq,Nat.reduceMod,Nat.reduceDiv,↓reduceIte,reduceCtorEq])
    exact ⟨-1,by rw [Ho hP];rfl,rfl⟩
theorem Eh (l:List ByteArray) (s:ByteArray) (hl:l.length ≤ 1000000000000) (hF:200000000000001 ≤ F):G ext F (n + 2) 96 [vl (l.map fU),vs s] = some ([vb (Ee l s)],[vl (l.map fU),vs s]):=by
  refine d9 (cf:=c96) rfl ?_
  obtain ⟨z,hz,h⟩:=OV (ext:=ext) (F:=F) (n:=n) l s hl hF
  simp only [c96,h,go_sem,Nat.reduceAdd,Nat.reduceMul,Nat.reduceEqDiff,Nat.reduceBEq,Nat.reduceMod,Nat.reduceDiv,↓reduceIte,reduceCtorEq]
  repeat' (refine bN (fun h=>?_) (fun h=>?_) <;> simp only [h,h,go_sem,Nat.reduceAdd,Nat.reduceMul,Nat.reduceEqDiff,Nat.reduceBEq,Nat.reduceMod,Nat.reduceDiv,↓reduceIte,reduceCtorEq])
  rw [← hz]
theorem LJ (l m:List ByteArray) (hl:l.length ≤ 1000000000000) (hF:200000000000001 ≤ F):G ext F (n + 1) 71 [vl (l.map fU),vl (m.map fU)] = some ([vb (decide (l = m))],[vl (l.map fU),vl (m.map fU)]):=by
  refine d9 (cf:=c71) rfl ?_
  simp only [c71,List.length_map,go_sem,Nat.reduceAdd,Nat.reduceMul,Nat.reduceEqDiff,Nat.reduceBEq,Nat.reduceMod,Nat.reduceDiv,↓reduceIte,reduceCtorEq]
  repeat' (refine bN (fun h=>?_) (fun h=>?_) <;> simp only [h,List.length_map,go_sem,Nat.reduceAdd,Nat.reduceMul,Nat.reduceEqDiff,Nat.reduceBEq,Nat.reduceMod,Nat.reduceDiv,↓reduceIte,reduceCtorEq])
  · have hlen:l.length = m.length:=by simp at h;omega
    refine D6 l.length (fun i=>⟨[(0,PV.c (CV.one (PL.f (FV.sl (l.map fU))))),(1,PV.c (CV.one (PL.f (FV.sl (m.map fU))))),(5,PV.c (CV.one (PL.f (FV.int .i64 i))))],[]⟩) (fun i=>l.take i = m.take i) (by omega) rfl (fun i hi hP=>?_) (fun hP=>?_)
    · obtain ⟨x,hx,hd,ht,h0⟩:=at_ hi
      obtain ⟨y,hy,_⟩:=at_ (l:=m) (i:=i) (by omega)
      have hn:=nx hi (Nat.le_trans hl (by decide))
      simp only [List.length_map,List.getElem?_map,hd,hx,hy,ht,h0,fU,go_sem,Nat.reduceAdd,Nat.reduceMul,Nat.reduceEqDiff,Nat.reduceBEq,Nat.reduceMod,Nat.reduceDiv,↓reduceIte,reduceCtorEq]
      repeat' (refine bN (fun h=>?_) (fun h=>?_) <;> simp only [h,List.length_map,List.getElem?_map,hd,hx,hy,ht,h0,hn,fU,go_sem,Nat.reduceAdd,Nat.reduceMul,Nat.reduceEqDiff,Nat.reduceBEq,Nat.reduceMod,Nat.reduceDiv,↓reduceIte,reduceCtorEq])
      · rw [List.take_add_one,List.take_add_one,hP,hx,hy]
        simp at h
        rw [h]
      · have:l ≠ m:=by rintro rfl;rw [hx] at hy;cases hy;simp at h
        simp [this]
    · have hd:=@end_ _ l
      simp only [List.length_map,hd,go_sem,Nat.reduceAdd,Nat.reduceMul,Nat.reduceEqDiff,Nat.reduceBEq,Nat.reduceMod,Nat.reduceDiv,↓reduceIte,reduceCtorEq]
      repeat' (refine bN (fun h=>?_) (fun h=>?_) <;> simp only [h,List.length_map,hd,go_sem,Nat.reduceAdd,Nat.reduceMul,Nat.reduceEqDiff,Nat.reduceBEq,Nat.reduceMod,Nat.reduceDiv,↓reduceIte,reduceCtorEq])
      have:l = m:=by rw [← List.take_length (l:=l),hP,hlen,List.take_length]
      simp [this]
  · have:l ≠ m:=by rintro rfl;simp at h
    simp [this]
end Go.Proofs.Ytdkkgecdhapfhaa.Ka
namespace Go.Proofs.Ytdkkgecdhapfhaa.Ka
open Go Ev
variable {ext : Env} {F n:Nat}
structure Qn where
  q:ByteArray
  t:Int
  c:Int
  deriving DecidableEq
structure It where
  q:ByteArray
  t:Int
  c:Int
  d:List ByteArray
  ttl:Int
  u:Int
  r:Int
  deriving DecidableEq
structure Op where
  o:Int
  now:Int
  q:ByteArray
  t:Int
  c:Int
  d:List ByteArray
  ttl:Int
  r:Int
def rQ (x:Qn):List FV:=[.str x.q,.int .i64 x.t,.int .i64 x.c]
def rI (x:It):List FV:=[.str x.q,.int .i64 x.t,.int .i64 x.c,.sl (x.d.map fU),.int .i64 x.ttl,.int .i64 x.u,.int .i64 x.r]
def rO (x:Op):List FV:=[.int .i64 x.o,.int .i64 x.now,.str x.q,.int .i64 x.t,.int .i64 x.c,.sl (x.d.map fU),.int .i64 x.ttl,.int .i64 x.r]
abbrev OW (q:ByteArray) (t c:Int) (d:List ByteArray) (ttl u r:Int):AV:=.agg [.f (.str q),.f (.int .i64 t),.f (.int .i64 c),.f (.sl (d.map fU)),.f (.int .i64 ttl),.f (.int .i64 u),.f (.int .i64 r)]
def Ei (k:Nat) (l:List ByteArray):Bool:=l.all fun x=>decide (x.size ≤ 2000) && decide (k ≤ 60)
theorem Jp {k:Nat} {l:List ByteArray} {x:ByteArray} {i:Nat} (h:l[i]? = some x):Ei k (l.take (i + 1)) = (Ei k (l.take i) && (decide (x.size ≤ 2000) && decide (k ≤ 60))):=by
  unfold Ei
  rw [List.take_add_one,h,List.all_append]
  simp
theorem Hq {k:Nat} {l:List ByteArray} {x:ByteArray} {i:Nat} (h:l[i]? = some x) (hx:¬ (x.size ≤ 2000 ∧ k ≤ 60)):Ei k l = false:=by
  unfold Ei
  refine Bool.eq_false_iff.mpr fun ha=>hx ?_
  have:=List.all_eq_true.mp ha x (List.mem_of_getElem? h)
  simpa using this
def pq (q:ByteArray) (d:List ByteArray):Bool:=Ei d.length d && decide (q.size ≤ 300)
theorem LK (q:ByteArray) (t c:Int) (d:List ByteArray) (ttl:Int) (hl:d.length ≤ 200000000000000) (hF:200000000000001 ≤ F):G ext F (n + 1) 35 [wz q t c d ttl] = some ([vb (pq q d)],[wz q t c d ttl]):=by
  refine d9 (cf:=c35) rfl ?_
  simp only [c35,go_sem,Nat.reduceAdd,Nat.reduceMul,Nat.reduceEqDiff,Nat.reduceBEq,Nat.reduceMod,Nat.reduceDiv,↓reduceIte,reduceCtorEq]
  refine D6 d.length (fun i=>⟨[(1,PV.c (CV.one (PL.ptr 40000 0))),(3,PV.c (CV.one (PL.f (FV.int .i64 i))))],[(40000,.lU [.f (.str q),.f (.int .i64 t),.f (.int .i64 c),.f (.sl (d.map fU)),.f (.int .i64 ttl)])]⟩) (fun i=>Ei d.length (d.take i) = true) (by omega) rfl (fun i hi hP=>?_) (fun hP=>?_)
  · obtain ⟨x,hx,hd,ht,h0⟩:=at_ hi
    have hn:=nx hi (Nat.le_trans hl (by decide))
    simp only [List.length_map,List.getElem?_map,hd,hx,ht,h0,fU,go_sem,Nat.reduceAdd,Nat.reduceMul,Nat.reduceEqDiff,Nat.reduceBEq,Nat.reduceMod,Nat.reduceDiv,↓reduceIte,reduceCtorEq]
    repeat' (refine bN (fun h=>?_) (fun h=>?_) <;> simp only [h,List.length_map,List.getElem?_map,hd,hx,ht,h0,hn,fU,go_sem,Nat.reduceAdd,Nat.reduceMul,Nat.reduceEqDiff,Nat.reduceBEq,Nat.reduceMod,Nat.reduceDiv,↓reduceIte,reduceCtorEq])
    all_goals simp only [decide_eq_true_eq,decide_eq_false_iff_not] at *
    · simp [pq,Hq hx (k:=d.length) (by omega)]
    · simp [pq,Hq hx (k:=d.length) (by omega)]
    · rw [Jp hx,hP];simp;omega
  · have hd:=@end_ _ d
    rw [List.take_length] at hP
    simp only [List.length_map,hd,go_sem,Nat.reduceAdd,Nat.reduceMul,Nat.reduceEqDiff,Nat.reduceBEq,Nat.reduceMod,Nat.reduceDiv,↓reduceIte,reduceCtorEq]
    repeat' (refine bN (fun h=>?_) (fun h=>?_) <;> simp only [h,List.length_map,hd,go_sem,Nat.reduceAdd,Nat.reduceMul,Nat.reduceEqDiff,Nat.reduceBEq,Nat.reduceMod,Nat.reduceDiv,↓reduceIte,reduceCtorEq])
    simp [pq,hP]
    try omega
def zD (l:List Op):Bool:=l.all fun x=>pq x.q x.d
theorem Jq {l:List Op} {x:Op} {i:Nat} (h:l[i]? = some x):zD (l.take (i + 1)) = (zD (l.take i) && pq x.q x.d):=by
  unfold zD
  rw [List.take_add_one,h,List.all_append]
  simp
theorem OX {l:List Op} {x:Op} {i:Nat} (h:l[i]? = some x) (hx:pq x.q x.d = false):zD l = false:=by
  unfold zD
  refine Bool.eq_false_iff.mpr fun ha=>?_
  rw [List.all_eq_true.mp ha x (List.mem_of_getElem? h)] at hx
  cases hx
theorem F7 (l:List Op) (m:Int) (hl:l.length ≤ 200000000000000) (hd:∀ x ∈ l,x.d.length ≤ 200000000000000) (hF:200000000000001 ≤ F):G ext F (n + 2) 14 [vl (l.map rO),vi m] = some ([vb (zD l && decide ((l.length:Int) ≤ m))],[vl (l.map rO),vi m]):=by
  refine d9 (cf:=c14) rfl ?_
  simp only [c14,go_sem,Nat.reduceAdd,Nat.reduceMul,Nat.reduceEqDiff,Nat.reduceBEq,Nat.reduceMod,Nat.reduceDiv,↓reduceIte,reduceCtorEq]
  refine D6 l.length (fun i=>⟨[(0,PV.c (CV.one (PL.f (FV.sl (l.map rO))))),(1,PV.c (CV.one (PL.f (FV.int .i64 m)))),(5,PV.c (CV.one (PL.f (FV.int .i64 i))))],[]⟩) (fun i=>zD (l.take i) = true) (by omega) rfl (fun i hi hP=>?_) (fun hP=>?_)
  · obtain ⟨x,hx,hlt,ht,h0⟩:=at_ hi
    have hn:=nx hi (Nat.le_trans hl (by decide))
    have hs:=fun n=>LK (ext:=ext) (F:=F) (n:=n) x.q x.t x.c x.d x.ttl (hd x (List.mem_of_getElem? hx)) hF
    simp only [List.length_map,List.getElem?_map,hlt,hx,ht,h0,rO,hs,go_sem,Nat.reduceAdd,Nat.reduceMul,Nat.reduceEqDiff,Nat.reduceBEq,Nat.reduceMod,Nat.reduceDiv,↓reduceIte,reduceCtorEq]
    repeat' (refine bN (fun h=>?_) (fun h=>?_) <;> simp only [h,List.length_map,List.getElem?_map,hlt,hx,ht,h0,hn,rO,hs,go_sem,Nat.reduceAdd,Nat.reduceMul,Nat.reduceEqDiff,Nat.reduceBEq,Nat.reduceMod,Nat.reduceDiv,↓reduceIte,reduceCtorEq])
    · rw [Jq hx,hP,h];rfl
    · rw [OX hx h];rfl
  · have hd:=@end_ _ l
    rw [List.take_length] at hP
    simp only [List.length_map,hd,go_sem,Nat.reduceAdd,Nat.reduceMul,Nat.reduceEqDiff,Nat.reduceBEq,Nat.reduceMod,Nat.reduceDiv,↓reduceIte,reduceCtorEq]
    repeat' (refine bN (fun h=>?_) (fun h=>?_) <;> simp only [h,List.length_map,hd,go_sem,Nat.reduceAdd,Nat.reduceMul,Nat.reduceEqDiff,Nat.reduceBEq,Nat.reduceMod,Nat.reduceDiv,↓reduceIte,reduceCtorEq])
    simp [hP]
def LM (a:ByteArray) (t c:Int) (d:List ByteArray) (ttl:Int) (a':ByteArray) (t' c':Int) (d':List ByteArray) (zF:Int):Bool:=decide (a = a' ∧ t = t' ∧ c = c' ∧ ttl = zF ∧ d = d')
theorem OY (a:ByteArray) (t c:Int) (d:List ByteArray) (ttl:Int) (a':ByteArray) (t' c':Int) (d':List ByteArray) (zF:Int) (hl:d.length ≤ 1000000000000) (hF:200000000000001 ≤ F):G ext F (n + 2) 32 [wz a t c d ttl,wz a' t' c' d' zF] = some ([vb (LM a t c d ttl a' t' c' d' zF)],[wz a t c d ttl,wz a' t' c' d' zF]):=by
  refine d9 (cf:=c32) rfl ?_
  have ht:=fun n=>LJ (ext:=ext) (F:=F) (n:=n) d d' hl hF
  simp only [c32,ht,go_sem,Nat.reduceAdd,Nat.reduceMul,Nat.reduceEqDiff,Nat.reduceBEq,Nat.reduceMod,Nat.reduceDiv,↓reduceIte,reduceCtorEq]
  repeat' (refine bN (fun h=>?_) (fun h=>?_) <;> simp only [h,ht,go_sem,Nat.reduceAdd,Nat.reduceMul,Nat.reduceEqDiff,Nat.reduceBEq,Nat.reduceMod,Nat.reduceDiv,↓reduceIte,reduceCtorEq])
  all_goals (simp [LM] at *)
  all_goals (try simp_all)
theorem UQ (a:ByteArray) (t c:Int) (d:List ByteArray) (ttl u r:Int) (a':ByteArray) (t' c':Int) (d':List ByteArray) (zF u' r':Int) (hl:d.length ≤ 1000000000000) (hF:200000000000001 ≤ F):G ext F (n + 3) 22 [OW a t c d ttl u r,OW a' t' c' d' zF u' r'] = some ([vb (decide ((⟨a,t,c,d,ttl,u,r⟩:It) = ⟨a',t',c',d',zF,u',r'⟩))],[OW a t c d ttl u r,OW a' t' c' d' zF u' r']):=by
  refine d9 (cf:=Dc) rfl ?_
  have ht:=fun n=>OY (ext:=ext) (F:=F) (n:=n) a t c d ttl a' t' c' d' zF hl hF
  simp only [Dc,ht,go_sem,Nat.reduceAdd,Nat.reduceMul,Nat.reduceEqDiff,Nat.reduceBEq,Nat.reduceMod,Nat.reduceDiv,↓reduceIte,reduceCtorEq]
  repeat' (refine bN (fun h=>?_) (fun h=>?_) <;> simp only [h,ht,go_sem,Nat.reduceAdd,Nat.reduceMul,Nat.reduceEqDiff,Nat.reduceBEq,Nat.reduceMod,Nat.reduceDiv,↓reduceIte,reduceCtorEq])
  all_goals (simp [LM] at *)
  all_goals (try simp_all)
  all_goals (intro ha hb hc hd hz;exact absurd hd (h ha hb hc hz))
theorem OZ (a:ByteArray) (t c:Int) (d:List ByteArray) (ttl u r:Int):G ext F (n + 1) 23 [OW a t c d ttl u r] = some ([OW a t c d ttl u r],[OW a t c d ttl u r]):=by
  refine d9 (cf:=c23) rfl ?_
  simp only [c23,go_sem,Nat.reduceAdd,Nat.reduceMul,Nat.reduceEqDiff,Nat.reduceBEq,Nat.reduceMod,Nat.reduceDiv,↓reduceIte,reduceCtorEq]
end Go.Proofs.Ytdkkgecdhapfhaa.Ka
namespace Go.Proofs.Ytdkkgecdhapfhaa.Ka
open Go Ev
variable {ext : Env} {F n:Nat}
theorem nY {body:St → Option (Out × St)} {rs:St → St} {k:Out × St → Prop} {u:Tok k} {F:Nat} {σ:St} (N:Nat) (T:Nat → St) (P:Nat → Prop) (hF:N < F) (hs:rs σ = T 0) (h0:P 0)
    (step:∀ i,i < N → P i → W (fun p=>match p.1 with
      | .jv=>rs p.2 = T (i + 1) ∧ P (i + 1)
      | o=>k (o,p.2)) ⟨⟩ (body (T i)))
    (last:P N → W (fun p=>match p.1 with
      | .jv=>False
      | o=>k (o,p.2)) ⟨⟩ (body (T N))):W k u (iter body rs F σ):=by
  refine BP (fun m σ=>∃ i,i ≤ N ∧ m = N - i ∧ rs σ = T i ∧ P i) ?_ F N σ hF ⟨0,Nat.zero_le _,rfl,hs,h0⟩
  rintro m σ ⟨i,hi,rfl,hr,hP⟩
  rw [hr]
  by_cases hlt:i < N
  · refine u7 (step i hlt hP) fun p hp=>?_
    obtain ⟨o,s⟩:=p
    cases o with
    | jv=>exact ⟨N - (i + 1),by omega,i + 1,by omega,rfl,hp.1,hp.2⟩
    | ext j=>exact hp
    | ret=>exact hp
  · have:i = N:=by omega
    subst this
    refine u7 (last hP) fun p hp=>?_
    obtain ⟨o,s⟩:=p
    cases o with
    | jv=>exact hp.elim
    | ext j=>exact hp
    | ret=>exact hp
def nr2 (s:Nat) (l:List (Nat × Nat)) (σ:St):Option St → St
  | some t=>jv ⟨put t.tm s (.c (.one (.own (dF s) 0))),t.ob⟩ l
  | none=>jv σ l
def YR (σ:St) (s sz:Nat) (l:List (Nat × Nat)):Option PV → St
  | some (.c (.one .fC))=>if sz = 0 then jv σ l else nr2 s l σ (new σ (dF s) (.row sz []))
  | _=>jv σ l
@[go_sem] theorem YS {σ:St} {s sz:Nat} {l:List (Nat × Nat)}:jv σ ((s,sz) :: l) = YR σ s sz l (get σ.tm s):=by
  unfold YR nr2
  rw [jv]
  split <;> first | rfl | (split <;> first | rfl | (split <;> simp_all))
@[go_sem] theorem abZ {σ:St} {s sz key n:Nat} {l:List (Nat × Nat)}:YR σ s sz l (some (.c (.one (.own key n)))) = jv σ l:=rfl
@[go_sem] theorem af2 {σ:St} {s sz:Nat} {l:List (Nat × Nat)} {x:FV}:YR σ s sz l (some (.c (.one (.f x)))) = jv σ l:=rfl
@[go_sem] theorem ab0 {σ:St} {s sz:Nat} {l:List (Nat × Nat)}:YR σ s sz l (some (.c (.one .fC))) = if sz = 0 then jv σ l else nr2 s l σ (new σ (dF s) (.row sz [])):=rfl
@[go_sem] theorem YT {σ τ:St} {s:Nat} {l:List (Nat × Nat)}:nr2 s l σ (some τ) = jv ⟨put τ.tm s (.c (.one (.own (dF s) 0))),τ.ob⟩ l:=rfl
abbrev It.k (x:It):Qn:=⟨x.q,x.t,x.c⟩
abbrev Kw (room:Int) (l:List It) (ch:Int):AV:=.agg [.f (.int .i64 room),.f (.sl (l.map rI)),.f (.int .i64 ch)]
def Jr (l:List It) (k:Qn):Int:=match l.findIdx? fun x=>decide (x.k = k) with | some i=>i | none=>-1
theorem O1 {l:List It} {k:Qn} (h:∀ x ∈ l,x.k ≠ k):Jr l k = -1:=by
  have:l.findIdx? (fun x=>decide (x.k = k)) = none:=List.findIdx?_eq_none_iff.mpr fun x hx=>by simpa using h x hx
  simp [Jr,this]
theorem UR {l:List It} {k:Qn} {i:Nat} {x:It} (h:∀ x ∈ l.take i,x.k ≠ k) (hx:l[i]? = some x) (hk:x.k = k):Jr l k = i:=by
  have hi:=(List.getElem?_eq_some_iff.mp hx)
  have:l.findIdx? (fun x=>decide (x.k = k)) = some i:=by
    refine List.findIdx?_eq_some_iff_getElem.mpr ⟨hi.1,by simp [hi.2,hk],fun j hj=>?_⟩
    have:=h (l[j]'(by have:=hi.1;omega)) (by rw [List.mem_take_iff_getElem];exact ⟨j,by have:=hi.1;omega,rfl⟩)
    simpa using this
  simp [Jr,this]
theorem all_succ {α:Type} {P:α → Prop} {l:List α} {i:Nat} {x:α} (h:∀ y ∈ l.take i,P y) (hx:l[i]? = some x) (hp:P x):∀ y ∈ l.take (i + 1),P y:=by
  intro y hy
  rw [List.take_add_one,hx] at hy
  rcases List.mem_append.mp hy with hy | hy
  · exact h y hy
  · simp at hy;subst hy;exact hp
theorem tJ (room:Int) (l:List It) (ch:Int) (q:ByteArray) (t c:Int) (hl:l.length ≤ 1000000000000) (hF:200000000000001 ≤ F):G ext F (n + 1) 59 [Kw room l ch,vq q t c] = some ([vi (Jr l ⟨q,t,c⟩)],[Kw room l ch,vq q t c]):=by
  refine d9 (cf:=c59) rfl ?_
  simp only [c59,go_sem,Nat.reduceAdd,Nat.reduceMul,Nat.reduceEqDiff,Nat.reduceBEq,Nat.reduceMod,Nat.reduceDiv,↓reduceIte,reduceCtorEq]
  refine nY l.length (fun i=>⟨[(2,PV.c (CV.one (PL.ptr 60000 0))),(3,PV.c (CV.one (PL.ptr 80000 0))),(5,PV.c (CV.one (PL.f (FV.int .i64 i))))],[(60000,Ob.lU [PL.f (FV.int IntKind.i64 room),PL.f (FV.sl (List.map rI l)),PL.f (FV.int IntKind.i64 ch)]),(80000,Ob.lU [PL.f (FV.str q),PL.f (FV.int IntKind.i64 t),PL.f (FV.int IntKind.i64 c)])]⟩) (fun i=>∀ x ∈ l.take i,x.k ≠ ⟨q,t,c⟩) (by omega) rfl (by simp) (fun i hi hP=>?_) (fun hP=>?_)
  · obtain ⟨x,hx,hd,ht,h0⟩:=at_ hi
    have hn:=nx hi (Nat.le_trans hl (by decide))
    simp only [List.length_map,List.getElem?_map,hd,hx,ht,h0,rI,go_sem,Nat.reduceAdd,Nat.reduceMul,Nat.reduceEqDiff,Nat.reduceBEq,Nat.reduceMod,Nat.reduceDiv,↓reduceIte,reduceCtorEq]
    repeat' (refine bN (fun h=>?_) (fun h=>?_) <;> simp only [h,List.length_map,List.getElem?_map,hd,hx,ht,h0,hn,rI,go_sem,Nat.reduceAdd,Nat.reduceMul,Nat.reduceEqDiff,Nat.reduceBEq,Nat.reduceMod,Nat.reduceDiv,↓reduceIte,reduceCtorEq])
    · rw [UR hP hx (by simpa using h)]
    · exact all_succ hP hx (by simpa using h)
  · have hd:=@end_ _ l
    simp only [List.length_map,hd,go_sem,Nat.reduceAdd,Nat.reduceMul,Nat.reduceEqDiff,Nat.reduceBEq,Nat.reduceMod,Nat.reduceDiv,↓reduceIte,reduceCtorEq]
    repeat' (refine bN (fun h=>?_) (fun h=>?_) <;> simp only [h,List.length_map,hd,go_sem,Nat.reduceAdd,Nat.reduceMul,Nat.reduceEqDiff,Nat.reduceBEq,Nat.reduceMod,Nat.reduceDiv,↓reduceIte,reduceCtorEq])
    rw [List.take_length] at hP
    rw [O1 hP]
def wo (l:List It) (k:Int):List It:=if 0 ≤ k then l.eraseIdx k.toNat else l
theorem O4 {l:List It} {k:Int} {i:Nat} {x:It} (h:l[i]? = some x):wo (l.take (i + 1)) k = wo (l.take i) k ++ if (i:Int) = k then [] else [x]:=by
  have hi:=(List.getElem?_eq_some_iff.mp h)
  have hlen:(l.take i).length = i:=by have:=hi.1;simp;omega
  unfold wo
  rw [List.take_add_one,h]
  by_cases h0:0 ≤ k
  · rw [if_pos h0,if_pos h0]
    by_cases h1:(i:Int) = k
    · rw [if_pos h1,List.eraseIdx_append_of_length_le (by omega),hlen]
      have:k.toNat = i:=by omega
      rw [this,List.eraseIdx_of_length_le (l:=List.take i l) (by omega)]
      simp
    · rw [if_neg h1]
      by_cases h2:k.toNat < i
      · rw [List.eraseIdx_append_of_lt_length (by omega)];simp
      · rw [List.eraseIdx_append_of_length_le (by omega),List.eraseIdx_of_length_le (l:=List.take i l) (by omega),hlen,List.eraseIdx_of_length_le (by simp;omega)]
        simp
  · rw [if_neg h0,if_neg h0,if_neg (by omega)];simp
theorem UU {l:List It} {k:Int}:(wo l k).length ≤ l.length:=by
  unfold wo
  split
  · exact List.length_eraseIdx_le ..
  · exact Nat.le_refl _
theorem rM (l:List It) (k:Int) (hl:l.length ≤ 1000000000000) (hF:200000000000001 ≤ F):G ext F (n + 1) 61 [vl (l.map rI),vi k] = some ([.one (.own 7 ((wo l k).map rI))],[vl (l.map rI),vi k]):=by
  refine d9 (cf:=c61) rfl ?_
  simp only [c61,go_sem,Nat.reduceAdd,Nat.reduceMul,Nat.reduceEqDiff,Nat.reduceBEq,Nat.reduceMod,Nat.reduceDiv,↓reduceIte,reduceCtorEq]
  refine nY l.length (fun i=>⟨[(0,PV.c (CV.one (PL.f (FV.sl (List.map rI l))))),(1,PV.c (CV.one (PL.f (FV.int IntKind.i64 k)))),(5,PV.c (CV.one (PL.own 120000 ((wo (l.take i) k).map rI).length))),(6,PV.c (CV.one (PL.f (FV.int IntKind.i64 i))))],[(120000,Ob.row 7 ((wo (l.take i) k).map rI))]⟩) (fun i=>True) (by omega) (by rw [show wo (List.take 0 l) k = [] by simp [wo]];rfl) trivial (fun i hi hP=>?_) (fun hP=>?_)
  · obtain ⟨x,hx,hd,ht,h0⟩:=at_ hi
    have hn:=nx hi (Nat.le_trans hl (by decide))
    have hw:(wo (l.take i) k).length ≤ i:=Nat.le_trans UU (by simp;omega)
    simp only [List.length_map,List.getElem?_map,hd,hx,ht,h0,rI,go_sem,Nat.reduceAdd,Nat.reduceMul,Nat.reduceEqDiff,Nat.reduceBEq,Nat.reduceMod,Nat.reduceDiv,↓reduceIte,reduceCtorEq]
    repeat' (refine bN (fun h=>?_) (fun h=>?_) <;> simp only [h,List.length_map,List.getElem?_map,hd,hx,ht,h0,hn,rI,go_sem,Nat.reduceAdd,Nat.reduceMul,Nat.reduceEqDiff,Nat.reduceBEq,Nat.reduceMod,Nat.reduceDiv,↓reduceIte,reduceCtorEq])
    all_goals (rw [O4 hx];simp only [decide_eq_true_eq,decide_eq_false_iff_not] at h)
    · simp [h]
    · rw [if_neg h,List.map_append,List.length_append];exact ⟨by omega,rfl⟩
  · have hd:=@end_ _ l
    simp only [List.length_map,hd,go_sem,Nat.reduceAdd,Nat.reduceMul,Nat.reduceEqDiff,Nat.reduceBEq,Nat.reduceMod,Nat.reduceDiv,↓reduceIte,reduceCtorEq]
    repeat' (refine bN (fun h=>?_) (fun h=>?_) <;> simp only [h,List.length_map,hd,go_sem,Nat.reduceAdd,Nat.reduceMul,Nat.reduceEqDiff,Nat.reduceBEq,Nat.reduceMod,Nat.reduceDiv,↓reduceIte,reduceCtorEq])
    rw [List.take_length]
theorem Ej (l m:List Qn) (hl:l.length ≤ 1000000000000) (hF:200000000000001 ≤ F):G ext F (n + 1) 28 [vl (l.map rQ),vl (m.map rQ)] = some ([vb (decide (l = m))],[vl (l.map rQ),vl (m.map rQ)]):=by
  refine d9 (cf:=c28) rfl ?_
  simp only [c28,List.length_map,go_sem,Nat.reduceAdd,Nat.reduceMul,Nat.reduceEqDiff,Nat.reduceBEq,Nat.reduceMod,Nat.reduceDiv,↓reduceIte,reduceCtorEq]
  repeat' (refine bN (fun h=>?_) (fun h=>?_) <;> simp only [h,List.length_map,go_sem,Nat.reduceAdd,Nat.reduceMul,Nat.reduceEqDiff,Nat.reduceBEq,Nat.reduceMod,Nat.reduceDiv,↓reduceIte,reduceCtorEq])
  · have hlen:l.length = m.length:=by simp at h;omega
    refine nY l.length (fun i=>⟨[(0,PV.c (CV.one (PL.f (FV.sl (l.map rQ))))),(1,PV.c (CV.one (PL.f (FV.sl (m.map rQ))))),(5,PV.c (CV.one (PL.f (FV.int .i64 i))))],[]⟩) (fun i=>l.take i = m.take i) (by omega) rfl rfl (fun i hi hP=>?_) (fun hP=>?_)
    · obtain ⟨x,hx,hd,ht,h0⟩:=at_ hi
      obtain ⟨y,hy,_⟩:=at_ (l:=m) (i:=i) (by omega)
      have hn:=nx hi (Nat.le_trans hl (by decide))
      simp only [List.length_map,List.getElem?_map,hd,hx,hy,ht,h0,rQ,go_sem,Nat.reduceAdd,Nat.reduceMul,Nat.reduceEqDiff,Nat.reduceBEq,Nat.reduceMod,Nat.reduceDiv,↓reduceIte,reduceCtorEq]
      repeat' (refine bN (fun h=>?_) (fun h=>?_) <;> simp only [h,List.length_map,List.getElem?_map,hd,hx,hy,ht,h0,hn,rQ,go_sem,Nat.reduceAdd,Nat.reduceMul,Nat.reduceEqDiff,Nat.reduceBEq,Nat.reduceMod,Nat.reduceDiv,↓reduceIte,reduceCtorEq])
      · rw [List.take_add_one,List.take_add_one,hP,hx,hy]
        have:x = y:=by cases x;cases y;simpa using h
        rw [this]
      · have:l ≠ m:=by rintro rfl;rw [hx] at hy;cases hy;simp at h
        simp [this]
    · have hd:=@end_ _ l
      simp only [List.length_map,hd,go_sem,Nat.reduceAdd,Nat.reduceMul,Nat.reduceEqDiff,Nat.reduceBEq,Nat.reduceMod,Nat.reduceDiv,↓reduceIte,reduceCtorEq]
      repeat' (refine bN (fun h=>?_) (fun h=>?_) <;> simp only [h,List.length_map,hd,go_sem,Nat.reduceAdd,Nat.reduceMul,Nat.reduceEqDiff,Nat.reduceBEq,Nat.reduceMod,Nat.reduceDiv,↓reduceIte,reduceCtorEq])
      have:l = m:=by rw [← List.take_length (l:=l),hP,hlen,List.take_length]
      simp [this]
  · have:l ≠ m:=by rintro rfl;simp at h
    simp [this]
theorem Hr (room:Int) (l:List It) (ch:Int) (hl:l.length ≤ 1000000000000) (hF:200000000000001 ≤ F):G ext F (n + 1) 30 [Kw room l ch] = some ([.one (.f (.sl ((l.map It.k).map rQ)))],[Kw room l ch]):=by
  refine d9 (cf:=c30) rfl ?_
  simp only [c30,go_sem,Nat.reduceAdd,Nat.reduceMul,Nat.reduceEqDiff,Nat.reduceBEq,Nat.reduceMod,Nat.reduceDiv,↓reduceIte,reduceCtorEq]
  refine nY l.length (fun i=>⟨[(1,PV.c (CV.one (PL.ptr 40000 0))),(3,PV.c (CV.one (PL.own 80000 (((l.take i).map It.k).map rQ).length))),(4,PV.c (CV.one (PL.f (FV.int IntKind.i64 i))))],[(40000,Ob.lU [PL.f (FV.int IntKind.i64 room),PL.f (FV.sl (List.map rI l)),PL.f (FV.int IntKind.i64 ch)]),(80000,Ob.row 3 (((l.take i).map It.k).map rQ))]⟩) (fun i=>True) (by omega) rfl trivial (fun i hi hP=>?_) (fun hP=>?_)
  · obtain ⟨x,hx,hd,ht,h0⟩:=at_ hi
    have hn:=nx hi (Nat.le_trans hl (by decide))
    have hw:(l.take i).length = i:=by simp;omega
    have hs:((l.take (i + 1)).map It.k).map rQ = ((l.take i).map It.k).map rQ ++ [[.str x.q,.int .i64 x.t,.int .i64 x.c]]:=by rw [List.take_add_one,hx];simp [rQ]
    simp only [List.length_map,List.getElem?_map,hd,hx,ht,h0,rI,hw,go_sem,Nat.reduceAdd,Nat.reduceMul,Nat.reduceEqDiff,Nat.reduceBEq,Nat.reduceMod,Nat.reduceDiv,↓reduceIte,reduceCtorEq]
    repeat' (refine bN (fun h=>?_) (fun h=>?_) <;> simp only [h,List.length_map,List.getElem?_map,hd,hx,ht,h0,hn,rI,hw,go_sem,Nat.reduceAdd,Nat.reduceMul,Nat.reduceEqDiff,Nat.reduceBEq,Nat.reduceMod,Nat.reduceDiv,↓reduceIte,reduceCtorEq])
    rw [hs]
    have hn':IntKind.i64.wrap ((i:Int) + 1) = i + 1:=by rw [hn];omega
    exact ⟨by omega,by simp [hw];omega⟩
  · have hd:=@end_ _ l
    simp only [List.length_map,hd,go_sem,Nat.reduceAdd,Nat.reduceMul,Nat.reduceEqDiff,Nat.reduceBEq,Nat.reduceMod,Nat.reduceDiv,↓reduceIte,reduceCtorEq]
    repeat' (refine bN (fun h=>?_) (fun h=>?_) <;> simp only [h,List.length_map,hd,go_sem,Nat.reduceAdd,Nat.reduceMul,Nat.reduceEqDiff,Nat.reduceBEq,Nat.reduceMod,Nat.reduceDiv,↓reduceIte,reduceCtorEq])
    rw [List.take_length]
structure Se where
  q:ByteArray
  t:Int
  c:Int
  d:List ByteArray
  ttl:Int
  deriving DecidableEq
abbrev Se.k (x:Se):Qn:=⟨x.q,x.t,x.c⟩
abbrev Se.v (x:Se):AV:=wz x.q x.t x.c x.d x.ttl
def rS (x:Se):List FV:=[.str x.q,.int .i64 x.t,.int .i64 x.c,.sl (x.d.map fU),.int .i64 x.ttl]
def nw (k:Qn) (l:List Se):Option Se:=l.foldl (fun a x=>if x.k = k then some x else a) none
end Go.Proofs.Ytdkkgecdhapfhaa.Ka
namespace Go.Proofs.Ytdkkgecdhapfhaa.Ka
open Go Ev
variable {ext : Env} {F n:Nat}
structure Th where
  jB:ByteArray → Bool
  low:ByteArray → ByteArray
  wB:Int → ByteArray → Bool
  lw:Int → ByteArray → ByteArray
structure Th.Ok (θ:Th) (ext:Env):Prop where
  nc:∀ q,q.size ≤ 1000000 → ext 91 [vs q] = some ([vb (θ.jB q)],[vs q])
  nl:∀ q,q.size ≤ 1000000 → ext 92 [vs q] = some ([vs (θ.low q)],[vs q])
  rc:∀ q,q.size ≤ 1000000 → ext 100 [vs q] = some ([vb (θ.jB q)],[vs q])
  rl:∀ q,q.size ≤ 1000000 → ext 101 [vs q] = some ([vs (θ.low q)],[vs q])
  dc:∀ k q,q.size ≤ 1000000 → ext 94 [vi k,vs q] = some ([vb (θ.wB k q)],[vi k,vs q])
  dl:∀ k q,q.size ≤ 1000000 → ext 95 [vi k,vs q] = some ([vs (θ.lw k q)],[vi k,vs q])
  ec:∀ k q,q.size ≤ 1000000 → ext 83 [vi k,vs q] = some ([vb (θ.wB k q)],[vi k,vs q])
  el:∀ k q,q.size ≤ 1000000 → ext 84 [vi k,vs q] = some ([vs (θ.lw k q)],[vi k,vs q])
variable {θ : Th}
theorem YU (T:θ.Ok ext) (q:ByteArray) (h:q.size ≤ 1000000):G ext F (n + 1) 91 [vs q] = some ([vb (θ.jB q)],[vs q]):=(congrFun (lC rfl) _).trans (T.nc q h)
theorem YV (T:θ.Ok ext) (q:ByteArray) (h:q.size ≤ 1000000):G ext F (n + 1) 92 [vs q] = some ([vs (θ.low q)],[vs q]):=(congrFun (lC rfl) _).trans (T.nl q h)
theorem YW (T:θ.Ok ext) (q:ByteArray) (h:q.size ≤ 1000000):G ext F (n + 1) 100 [vs q] = some ([vb (θ.jB q)],[vs q]):=(congrFun (lC rfl) _).trans (T.rc q h)
theorem YX (T:θ.Ok ext) (q:ByteArray) (h:q.size ≤ 1000000):G ext F (n + 1) 101 [vs q] = some ([vs (θ.low q)],[vs q]):=(congrFun (lC rfl) _).trans (T.rl q h)
theorem YZ (T:θ.Ok ext) (k:Int) (q:ByteArray) (h:q.size ≤ 1000000):G ext F (n + 1) 94 [vi k,vs q] = some ([vb (θ.wB k q)],[vi k,vs q]):=(congrFun (lC rfl) _).trans (T.dc k q h)
theorem Y0 (T:θ.Ok ext) (k:Int) (q:ByteArray) (h:q.size ≤ 1000000):G ext F (n + 1) 95 [vi k,vs q] = some ([vs (θ.lw k q)],[vi k,vs q]):=(congrFun (lC rfl) _).trans (T.dl k q h)
theorem Y1 (T:θ.Ok ext) (k:Int) (q:ByteArray) (h:q.size ≤ 1000000):G ext F (n + 1) 83 [vi k,vs q] = some ([vb (θ.wB k q)],[vi k,vs q]):=(congrFun (lC rfl) _).trans (T.ec k q h)
theorem Y2 (T:θ.Ok ext) (k:Int) (q:ByteArray) (h:q.size ≤ 1000000):G ext F (n + 1) 84 [vi k,vs q] = some ([vs (θ.lw k q)],[vi k,vs q]):=(congrFun (lC rfl) _).trans (T.el k q h)
def Th.key (θ:Th) (q:ByteArray) (t c:Int):Bool:=decide (θ.jB q = true ∧ θ.low q = q ∧ (0 ≤ t ∧ t ≤ 65535) ∧ (0 ≤ c ∧ c ≤ 65535))
def Th.dat (θ:Th) (t:Int) (d:List ByteArray):Bool:=decide ((∀ x ∈ d,θ.wB t x = true ∧ θ.lw t x = x) ∧ d.Nodup)
def Th.set (θ:Th) (q:ByteArray) (t c:Int) (d:List ByteArray) (ttl:Int):Bool:=decide (θ.key q t c = true ∧ θ.dat t d = true ∧ (0 ≤ ttl ∧ ttl < 2147483648) ∧ d ≠ [])
theorem Ht {l:List ByteArray} {s:ByteArray}:Ee l s = true ↔ s ∈ l:=by
  unfold Ee
  rw [List.any_eq_true]
  simp
theorem R6 {l:List ByteArray}:((l.map fU).all fun r=>r.length == 1) = true:=by
  rw [List.all_eq_true]
  intro r hr
  obtain ⟨x, -,rfl⟩:=List.mem_map.mp hr
  rfl
theorem El {t:Int} {d:List ByteArray} {i:Nat} {x:ByteArray} (hx:d[i]? = some x) (h:θ.dat t (d.take i) = true) (hc:θ.wB t x = true) (hw:θ.lw t x = x) (hi:Ee (d.take i) x = false):θ.dat t (d.take (i + 1)) = true:=by
  unfold Th.dat at *
  have hi:¬ x ∈ d.take i:=fun h=>by rw [Ht.mpr h] at hi;cases hi
  rw [decide_eq_true_eq] at *
  refine ⟨all_succ h.1 hx ⟨hc,hw⟩,?_⟩
  rw [List.take_add_one,hx,Option.toList_some]
  refine List.nodup_append.mpr ⟨h.2,List.pairwise_singleton _ _,fun a ha b hb=>?_⟩
  rw [List.mem_singleton] at hb;subst hb;rintro rfl;exact hi ha
theorem vk {t:Int} {d:List ByteArray} {i:Nat} {x:ByteArray} (hx:d[i]? = some x) (h:θ.wB t x = false ∨ θ.lw t x ≠ x ∨ Ee (d.take i) x = true):θ.dat t d = false:=by
  unfold Th.dat
  rw [decide_eq_false_iff_not]
  rintro ⟨h1,h2⟩
  have hm:=h1 x (List.mem_of_getElem? hx)
  rcases h with h | h | h
  · rw [h] at hm;simp at hm
  · exact h hm.2
  · rw [Ht,List.mem_take_iff_getElem] at h
    obtain ⟨j,hj,he⟩:=h
    have h3:=List.getElem?_eq_some_iff.mp hx
    exact List.pairwise_iff_getElem.mp h2 j i (by omega) h3.1 (by omega) (by rw [he,h3.2])
theorem LP (T:θ.Ok ext) (q:ByteArray) (t c:Int) (hq:q.size ≤ 1000000):G ext F (n + 2) 76 [vq q t c] = some ([vb (θ.key q t c)],[vq q t c]):=by
  refine d9 (cf:=c76) rfl ?_
  have h1:=fun n=>YW (F:=F) (n:=n) T q hq
  have h2:=fun n=>YX (F:=F) (n:=n) T q hq
  simp only [c76,h1,h2,Ea,go_sem,Nat.reduceAdd,Nat.reduceMul,Nat.reduceEqDiff,Nat.reduceBEq,Nat.reduceMod,Nat.reduceDiv,↓reduceIte,reduceCtorEq]
  repeat' (refine bN (fun h=>?_) (fun h=>?_) <;> simp only [h,h1,h2,Ea,go_sem,Nat.reduceAdd,Nat.reduceMul,Nat.reduceEqDiff,Nat.reduceBEq,Nat.reduceMod,Nat.reduceDiv,↓reduceIte,reduceCtorEq])
  all_goals (simp [Th.key];try simp_all)
  all_goals (try omega)
theorem Js (T:θ.Ok ext) (q:ByteArray) (t c:Int) (d:List ByteArray) (ttl:Int) (hl:d.length ≤ 1000000000000) (hF:200000000000001 ≤ F) (hq:q.size ≤ 1000000) (hd:∀ x ∈ d,x.size ≤ 1000000):G ext F (n + 3) 56 [wz q t c d ttl] = some ([vb (θ.set q t c d ttl)],[wz q t c d ttl]):=by
  refine d9 (cf:=c56) rfl ?_
  simp only [c56,go_sem,Nat.reduceAdd,Nat.reduceMul,Nat.reduceEqDiff,Nat.reduceBEq,Nat.reduceMod,Nat.reduceDiv,↓reduceIte,reduceCtorEq]
  refine nY d.length (fun i=>⟨[(1,PV.c (CV.one (PL.ptr 40000 0))),(3,PV.c (CV.one (PL.f (FV.int .i64 i))))],[(40000,.lU [.f (.str q),.f (.int .i64 t),.f (.int .i64 c),.f (.sl (d.map fU)),.f (.int .i64 ttl)])]⟩) (fun i=>θ.dat t (d.take i) = true) (by omega) rfl (by simp [Th.dat]) (fun i hi hP=>?_) (fun hP=>?_)
  · obtain ⟨x,hx,hlt,ht,h0⟩:=at_ hi
    have hn:=nx hi (Nat.le_trans hl (by decide))
    have h1:=fun n=>Y1 (F:=F) (n:=n) T t x (hd x (List.mem_of_getElem? hx))
    have h2:=fun n=>Y2 (F:=F) (n:=n) T t x (hd x (List.mem_of_getElem? hx))
    have h3:=fun n=>YQ (ext:=ext) (F:=F) (n:=n) (d.take i) x (by simp;omega) hF
    have hle:(i:Int) ≤ (d.length:Int):=by omega
    have hrw:=@R6 d
    have hcut:(0:Int) ≤ i ∧ (i:Int) ≤ d.length:=by omega
    simp only [List.length_map,List.getElem?_map,hlt,hx,ht,h0,fU,h1,h2,h3,go_sem,Nat.reduceAdd,Nat.reduceMul,Nat.reduceEqDiff,Nat.reduceBEq,Nat.reduceMod,Nat.reduceDiv,↓reduceIte,reduceCtorEq]
    repeat' (refine bN (fun h=>?_) (fun h=>?_) <;> simp only [h,List.length_map,List.getElem?_map,hlt,hx,ht,h0,hn,fU,h1,h2,h3,hle,hrw,← List.map_take,List.drop_zero,Nat.sub_zero,hcut,go_sem,Nat.reduceAdd,Nat.reduceMul,Nat.reduceEqDiff,Nat.reduceBEq,Nat.reduceMod,Nat.reduceDiv,↓reduceIte,reduceCtorEq])
    · simp [Th.set,vk hx (.inr (.inr h))]
    · exact El hx hP (by assumption) (of_decide_eq_true (by assumption)) h
    · simp [Th.set,vk hx (.inr (.inl (of_decide_eq_false h)))]
    · simp [Th.set,vk hx (.inl h)]
  · have hd:=@end_ _ d
    rw [List.take_length] at hP
    have h1:=fun n=>LP (F:=F) (n:=n) T q t c hq
    simp only [List.length_map,hd,h1,go_sem,Nat.reduceAdd,Nat.reduceMul,Nat.reduceEqDiff,Nat.reduceBEq,Nat.reduceMod,Nat.reduceDiv,↓reduceIte,reduceCtorEq]
    repeat' (refine bN (fun h=>?_) (fun h=>?_) <;> simp only [h,List.length_map,hd,h1,go_sem,Nat.reduceAdd,Nat.reduceMul,Nat.reduceEqDiff,Nat.reduceBEq,Nat.reduceMod,Nat.reduceDiv,↓reduceIte,reduceCtorEq])
    all_goals (simp [Th.set,hP];try simp_all)
    all_goals (try omega)
    all_goals (cases d <;> simp)
theorem Jt (T:θ.Ok ext) (q:ByteArray) (t c:Int) (d:List ByteArray) (ttl:Int) (hl:d.length ≤ 1000000000000) (hF:200000000000001 ≤ F) (hq:q.size ≤ 1000000) (hd:∀ x ∈ d,x.size ≤ 1000000):G ext F (n + 3) 73 [wz q t c d ttl] = some ([vb (θ.set q t c d ttl)],[wz q t c d ttl]):=by
  refine d9 (cf:=c73) rfl ?_
  have h1:=fun n=>YU (F:=F) (n:=n) T q hq
  have h2:=fun n=>YV (F:=F) (n:=n) T q hq
  simp only [c73,h1,h2,R5,go_sem,Nat.reduceAdd,Nat.reduceMul,Nat.reduceEqDiff,Nat.reduceBEq,Nat.reduceMod,Nat.reduceDiv,↓reduceIte,reduceCtorEq]
  repeat' (refine bN (fun h=>?_) (fun h=>?_) <;> simp only [h,h1,h2,R5,go_sem,Nat.reduceAdd,Nat.reduceMul,Nat.reduceEqDiff,Nat.reduceBEq,Nat.reduceMod,Nat.reduceDiv,↓reduceIte,reduceCtorEq])
  · refine nY d.length (fun i=>⟨[(1,PV.c (CV.one (PL.ptr 40000 0))),(3,PV.c (CV.one (PL.ptr 80000 0))),(39,PV.c (CV.one (PL.f (FV.sl (List.map fU d))))),(40,PV.c (CV.one (PL.f (FV.int IntKind.i64 (List.map fU d).length)))),(41,PV.c (CV.one (PL.f (FV.int .i64 i))))],[(40000,.lU [.f (.str q),.f (.int .i64 t),.f (.int .i64 c),.f (.sl (d.map fU)),.f (.int .i64 ttl)]),(80000,Ob.lU [PL.f (FV.str q),PL.f (FV.int IntKind.i64 t),PL.f (FV.int IntKind.i64 c)])]⟩) (fun i=>θ.dat t (d.take i) = true) (by omega) rfl (by simp [Th.dat]) (fun i hi hP=>?_) (fun hP=>?_)
    · obtain ⟨x,hx,hlt,ht,h0⟩:=at_ hi
      have hn:=nx hi (Nat.le_trans hl (by decide))
      have h1:=fun n=>YZ (F:=F) (n:=n) T t x (hd x (List.mem_of_getElem? hx))
      have h2:=fun n=>Y0 (F:=F) (n:=n) T t x (hd x (List.mem_of_getElem? hx))
      have h3:=fun n=>Eh (ext:=ext) (F:=F) (n:=n) (d.take i) x (by simp;omega) hF
      have hle:(i:Int) ≤ (d.length:Int):=by omega
      have hrw:=@R6 d
      have hcut:(0:Int) ≤ i ∧ (i:Int) ≤ d.length:=by omega
      simp only [List.length_map,List.getElem?_map,hlt,hx,ht,h0,fU,h1,h2,h3,go_sem,Nat.reduceAdd,Nat.reduceMul,Nat.reduceEqDiff,Nat.reduceBEq,Nat.reduceMod,Nat.reduceDiv,↓reduceIte,reduceCtorEq]
      repeat' (refine bN (fun h=>?_) (fun h=>?_) <;> simp only [h,List.length_map,List.getElem?_map,hlt,hx,ht,h0,hn,fU,h1,h2,h3,hle,hrw,← List.map_take,List.drop_zero,Nat.sub_zero,hcut,go_sem,Nat.reduceAdd,Nat.reduceMul,Nat.reduceEqDiff,Nat.reduceBEq,Nat.reduceMod,Nat.reduceDiv,↓reduceIte,reduceCtorEq])
      · simp [Th.set,vk hx (.inr (.inr h))]
      · exact El hx hP (by assumption) (of_decide_eq_true (by assumption)) h
      · simp [Th.set,vk hx (.inr (.inl (of_decide_eq_false h)))]
      · simp [Th.set,vk hx (.inl h)]
    · have hd:=@end_ _ d
      rw [List.take_length] at hP
      simp only [List.length_map,hd,go_sem,Nat.reduceAdd,Nat.reduceMul,Nat.reduceEqDiff,Nat.reduceBEq,Nat.reduceMod,Nat.reduceDiv,↓reduceIte,reduceCtorEq]
      repeat' (refine bN (fun h=>?_) (fun h=>?_) <;> simp only [h,List.length_map,hd,go_sem,Nat.reduceAdd,Nat.reduceMul,Nat.reduceEqDiff,Nat.reduceBEq,Nat.reduceMod,Nat.reduceDiv,↓reduceIte,reduceCtorEq])
      all_goals (simp [Th.set,Th.key,hP];simp_all)
      all_goals (cases d <;> simp <;> omega)
  all_goals (simp [Th.set,Th.key];try simp_all)
  all_goals (try omega)
end Go.Proofs.Ytdkkgecdhapfhaa.Ka
set_option maxRecDepth 4000
namespace Go.Proofs.Ytdkkgecdhapfhaa.Ka
open Go Ev
variable {ext : Env} {F n:Nat} {θ:Th}
structure Sr where
  room:Int
  l:List It
  ch:Int
abbrev Sr.v (s:Sr):AV:=Kw s.room s.l s.ch
abbrev It.v (x:It):AV:=OW x.q x.t x.c x.d x.ttl x.u x.r
def Df : It:=⟨⟨#[]⟩,0,0,[],0,0,0⟩
def old (l:List It) (k:Qn):Option It:=l.find? fun x=>decide (x.k = k)
def rid (l:List It) (k:Qn):List It:=l.eraseP fun x=>decide (x.k = k)
def lH (s:Sr) (now:Int) (k:Qn):It × Bool:=match old s.l k with
  | some x=>if fE now x.u then (x,true) else (Df,false)
  | none=>(Df,false)
def lN (s:Sr) (now:Int) (k:Qn):Sr × It × Bool:=match old s.l k with
  | some x=>if fE now x.u then (⟨s.room,rid s.l k ++ [x],s.ch⟩,x,true) else (s,Df,false)
  | none=>(s,Df,false)
def mQ (s:Sr) (k:Qn):Sr × Bool:=match old s.l k with
  | some _=>(⟨s.room,rid s.l k,s.ch + 1⟩,true)
  | none=>(s,false)
def tK (room:Int) (l:List It):List It:=if room < l.length then l.drop 1 else l
def ni (θ:Th) (s:Sr) (now:Int) (x:Se) (r:Int):Sr × Int :=
  if s.room = 0 ∨ zC now = false ∨ θ.set x.q x.t x.c x.d x.ttl = false ∨ r < 1 ∨ 5 < r then (s,1)
  else if fE now (dz now x.ttl) = false then (s,14)
  else match old s.l x.k with
    | some o=>if lG o.r (fE now o.u) r = false then (s,10) else (⟨s.room,tK s.room (rid s.l x.k ++ [⟨x.q,x.t,x.c,x.d,x.ttl,dz now x.ttl,r⟩]),s.ch + 1⟩,0)
    | none=>(⟨s.room,tK s.room (rid s.l x.k ++ [⟨x.q,x.t,x.c,x.d,x.ttl,dz now x.ttl,r⟩]),s.ch + 1⟩,0)
theorem F8 {l:List It} {k:Qn}:wo l (Jr l k) = rid l k:=by
  unfold wo Jr rid
  rw [List.eraseP_eq_eraseIdx]
  cases l.findIdx? fun x=>decide (x.k = k) with
  | none=>rfl
  | some i=>simp
theorem BQ (l:List It) (k:Qn):(Jr l k = -1 ∧ old l k = none) ∨ ∃ (i:Nat) (x:It),Jr l k = (i:Int) ∧ l[i]? = some x ∧ old l k = some x ∧ x.k = k:=by
  have hf:old l k = (l.findIdx? fun x=>decide (x.k = k)).bind fun i=>l[i]?:=List.find?_eq_bind_findIdx?_getElem? ..
  have hp:Jr l k = match l.findIdx? fun x=>decide (x.k = k) with | some i=>(i:Int) | none=>-1:=rfl
  cases h:l.findIdx? fun x=>decide (x.k = k) with
  | none =>
    rw [h] at hf hp
    exact .inl ⟨hp,hf⟩
  | some i =>
    rw [h] at hf hp
    obtain ⟨hi,hx, -⟩:=List.findIdx?_eq_some_iff_getElem.mp h
    refine .inr ⟨i,l[i],hp,List.getElem?_eq_getElem hi,hf.trans (List.getElem?_eq_getElem hi),by simpa using hx⟩
theorem UW (i:Nat):decide ((i:Int) < 0) = false ∧ (if (i:Int) < 0 then (0:Int) else i) = i ∧ (i:Int).toNat = i ∧ (0:Int) ≤ i:=⟨by simp,by rw [if_neg (by omega)],by simp,by omega⟩
theorem yc {s:Sr} {now:Int} {k:Qn} (h:old s.l k = none):lH s now k = (Df,false):=by unfold lH;rw [h]
theorem yg {s:Sr} {now:Int} {k:Qn} {x:It} (h:old s.l k = some x) (hv:fE now x.u = false):lH s now k = (Df,false):=by unfold lH;rw [h];simp [hv]
theorem yh {s:Sr} {now:Int} {k:Qn} {x:It} (h:old s.l k = some x) (hv:fE now x.u = true):lH s now k = (x,true):=by unfold lH;rw [h];simp [hv]
theorem Hu {s:Sr} {now:Int} {k:Qn} (h:old s.l k = none):lN s now k = (s,Df,false):=by unfold lN;rw [h]
theorem Ju {s:Sr} {now:Int} {k:Qn} {x:It} (h:old s.l k = some x) (hv:fE now x.u = false):lN s now k = (s,Df,false):=by unfold lN;rw [h];simp [hv]
theorem Jv {s:Sr} {now:Int} {k:Qn} {x:It} (h:old s.l k = some x) (hv:fE now x.u = true):lN s now k = (⟨s.room,rid s.l k ++ [x],s.ch⟩,x,true):=by unfold lN;rw [h];simp [hv]
theorem O5 (room:Int):G ext F (n + 1) 17 [vi room] = some ([Kw (if room < 1 ∨ 1000 < room then 0 else room) [] 0],[vi room]):=by
  refine d9 (cf:=c17) rfl ?_
  simp only [c17,go_sem,Nat.reduceAdd,Nat.reduceMul,Nat.reduceEqDiff,Nat.reduceBEq,Nat.reduceMod,Nat.reduceDiv,↓reduceIte,reduceCtorEq]
  repeat' (refine bN (fun h=>?_) (fun h=>?_) <;> simp only [h,go_sem,Nat.reduceAdd,Nat.reduceMul,Nat.reduceEqDiff,Nat.reduceBEq,Nat.reduceMod,Nat.reduceDiv,↓reduceIte,reduceCtorEq])
  all_goals (simp only [decide_eq_true_eq,decide_eq_false_iff_not] at *)
  all_goals first | rw [if_pos (by omega)] | rw [if_neg (by omega)]
  all_goals rfl
theorem yj (s:Sr) (now:Int) (k:Qn) (hl:s.l.length ≤ 1000000000000) (hF:200000000000001 ≤ F):G ext F (n + 3) 24 [s.v,vi now,vq k.q k.t k.c] = some ([(lH s now k).1.v,vb (lH s now k).2],[s.v,vi now,vq k.q k.t k.c]):=by
  refine d9 (cf:=c24) rfl ?_
  have h1:=fun n=>tJ (ext:=ext) (F:=F) (n:=n) s.room s.l s.ch k.q k.t k.c hl hF
  rcases BQ s.l k with ⟨hp,ho⟩ | ⟨i,x,hp,hx,ho,hk⟩
  · rw [hp] at h1
    rw [yc ho]
    have hd:decide ((-1:Int) < 0) = true:=by decide
    simp only [c24,h1,hd,go_sem,Nat.reduceAdd,Nat.reduceMul,Nat.reduceEqDiff,Nat.reduceBEq,Nat.reduceMod,Nat.reduceDiv,↓reduceIte,reduceCtorEq]
    rfl
  · rw [hp] at h1
    obtain ⟨hd,hg,ht,h0⟩:=UW i
    cases hv:fE now x.u with
    | false =>
      rw [yg ho hv]
      simp only [c24,h1,hd,hg,ht,h0,List.getElem?_map,hx,rI,nL,Option.map_some,hv,go_sem,Nat.reduceAdd,Nat.reduceMul,Nat.reduceEqDiff,Nat.reduceBEq,Nat.reduceMod,Nat.reduceDiv,↓reduceIte,reduceCtorEq]
      rfl
    | true =>
      rw [yh ho hv]
      simp only [c24,h1,hd,hg,ht,h0,List.getElem?_map,hx,rI,nL,Option.map_some,hv,go_sem,Nat.reduceAdd,Nat.reduceMul,Nat.reduceEqDiff,Nat.reduceBEq,Nat.reduceMod,Nat.reduceDiv,↓reduceIte,reduceCtorEq]
theorem Hw (s:Sr) (now:Int) (k:Qn) (hl:s.l.length ≤ 1000000000000) (hF:200000000000001 ≤ F):G ext F (n + 4) 20 [s.v,vi now,vq k.q k.t k.c] = some ([(lN s now k).1.v,(lN s now k).2.1.v,vb (lN s now k).2.2],[s.v,vi now,vq k.q k.t k.c]):=by
  refine d9 (cf:=c20) rfl ?_
  have h1:=fun n=>tJ (ext:=ext) (F:=F) (n:=n) s.room s.l s.ch k.q k.t k.c hl hF
  have h2:=fun n=>yj (ext:=ext) (F:=F) (n:=n) s now k hl hF
  have h3:=fun n=>rM (ext:=ext) (F:=F) (n:=n) s.l (Jr s.l k) hl hF
  rw [F8] at h3
  have hr:(rid s.l k).length ≤ s.l.length:=by unfold rid;exact (List.eraseP_sublist ..).length_le
  rcases BQ s.l k with ⟨hp,ho⟩ | ⟨i,x,hp,hx,ho,hk⟩
  · rw [yc ho] at h2
    rw [Hu ho]
    simp only [c20,h1,h2,h3,go_sem,Nat.reduceAdd,Nat.reduceMul,Nat.reduceEqDiff,Nat.reduceBEq,Nat.reduceMod,Nat.reduceDiv,↓reduceIte,reduceCtorEq]
    done
  · cases hv:fE now x.u with
    | false =>
      rw [yg ho hv] at h2
      rw [Ju ho hv]
      simp only [c20,h1,h2,h3,go_sem,Nat.reduceAdd,Nat.reduceMul,Nat.reduceEqDiff,Nat.reduceBEq,Nat.reduceMod,Nat.reduceDiv,↓reduceIte,reduceCtorEq]
    | true =>
      rw [yh ho hv] at h2
      rw [Jv ho hv]
      simp only [c20,h1,h2,h3,List.length_map,go_sem,Nat.reduceAdd,Nat.reduceMul,Nat.reduceEqDiff,Nat.reduceBEq,Nat.reduceMod,Nat.reduceDiv,↓reduceIte,reduceCtorEq]
      exact ⟨by omega,by simp [rI]⟩
theorem Em (s:Sr) (k:Qn) (hl:s.l.length ≤ 1000000000000) (hF:200000000000001 ≤ F) (hc:0 ≤ s.ch ∧ s.ch ≤ 1000000000000):G ext F (n + 2) 26 [s.v,vq k.q k.t k.c] = some ([(mQ s k).1.v,vb (mQ s k).2],[s.v,vq k.q k.t k.c]):=by
  refine d9 (cf:=YP) rfl ?_
  have h1:=fun n=>tJ (ext:=ext) (F:=F) (n:=n) s.room s.l s.ch k.q k.t k.c hl hF
  have h3:=fun n=>rM (ext:=ext) (F:=F) (n:=n) s.l (Jr s.l k) hl hF
  rw [F8] at h3
  have hw:IntKind.i64.wrap (s.ch + 1) = s.ch + 1:=F6 (by omega) (by omega)
  unfold mQ
  rcases BQ s.l k with ⟨hp,ho⟩ | ⟨i,x,hp,hx,ho,hk⟩
  · rw [hp] at h1
    rw [ho]
    have hd:decide ((-1:Int) < 0) = true:=by decide
    simp only [YP,h1,hd,go_sem,Nat.reduceAdd,Nat.reduceMul,Nat.reduceEqDiff,Nat.reduceBEq,Nat.reduceMod,Nat.reduceDiv,↓reduceIte,reduceCtorEq]
  · rw [hp] at h1 h3
    rw [ho]
    obtain ⟨hd,hg,ht,h0⟩:=UW i
    simp only [YP,h1,h3,hd,hg,ht,h0,hw,go_sem,Nat.reduceAdd,Nat.reduceMul,Nat.reduceEqDiff,Nat.reduceBEq,Nat.reduceMod,Nat.reduceDiv,↓reduceIte,reduceCtorEq]
    done
abbrev Th.arg (θ:Th) (s:Sr) (now:Int) (x:Se) (r:Int):Prop:=s.room = 0 ∨ zC now = false ∨ θ.set x.q x.t x.c x.d x.ttl = false ∨ r < 1 ∨ 5 < r
theorem kM {s:Sr} {now:Int} {x:Se} {r:Int} (h:θ.arg s now x r):ni θ s now x r = (s,1):=by unfold ni;exact if_pos h
theorem wP {s:Sr} {now:Int} {x:Se} {r:Int} (h:¬ θ.arg s now x r) (h2:fE now (dz now x.ttl) = false):ni θ s now x r = (s,14):=by
  unfold ni;rw [if_neg h,if_pos h2]
theorem BR {s:Sr} {now:Int} {x:Se} {r:Int} {o:It} (h:¬ θ.arg s now x r) (h2:fE now (dz now x.ttl) = true) (ho:old s.l x.k = some o) (h3:lG o.r (fE now o.u) r = false):ni θ s now x r = (s,10):=by
  unfold ni;rw [if_neg h,if_neg (by rw [h2];decide),ho];exact if_pos h3
theorem qj {s:Sr} {now:Int} {x:Se} {r:Int} {l:List It} (h:¬ θ.arg s now x r) (h2:fE now (dz now x.ttl) = true) (h3:∀ o,old s.l x.k = some o → lG o.r (fE now o.u) r = true) (hl:tK s.room (rid s.l x.k ++ [⟨x.q,x.t,x.c,x.d,x.ttl,dz now x.ttl,r⟩]) = l):ni θ s now x r = (⟨s.room,l,s.ch + 1⟩,0):=by
  subst hl
  unfold ni;rw [if_neg h,if_neg (by rw [h2];decide)]
  cases ho:old s.l x.k with
  | none=>rfl
  | some o=>exact if_neg (by rw [h3 o ho];decide)
theorem En {a:List (List FV)} {b:List FV} {n:Nat} (h:a.length = n):List.take (n + 1 - Int.toNat 1) (List.drop (Int.toNat 1) (a ++ [b])) = (a ++ [b]).drop 1:=by
  rw [show Int.toNat 1 = 1 from rfl,List.take_of_length_le (by simp [h])]
theorem LQ {room:Int} {l:List It} {x:It} (h:room < ((l.length + 1:Nat):Int)):tK room (l ++ [x]) = (l ++ [x]).drop 1:=by
  unfold tK;rw [if_pos (by simpa using h)]
theorem LU {room:Int} {l:List It} {x:It} (h:¬ room < ((l.length + 1:Nat):Int)):tK room (l ++ [x]) = l ++ [x]:=by
  unfold tK;rw [if_neg (by simpa using h)]
theorem Hy (T:θ.Ok ext) (s:Sr) (now:Int) (x:Se) (r:Int) (hl:s.l.length ≤ 1000000) (hF:200000000000001 ≤ F) (hc:0 ≤ s.ch ∧ s.ch ≤ 1000000000000) (hq:x.q.size ≤ 1000000) (hn:x.d.length ≤ 1000000) (hd:∀ y ∈ x.d,y.size ≤ 1000000):G ext F (n + 4) 18 [s.v,vi now,x.v,vi r] = some ([(ni θ s now x r).1.v,vi (ni θ s now x r).2],[s.v,vi now,x.v,vi r]):=by
  refine d9 (cf:=c18) rfl ?_
  have h1:=fun n=>tJ (ext:=ext) (F:=F) (n:=n) s.room s.l s.ch x.q x.t x.c (by omega) hF
  have h2:=fun n=>Js (F:=F) (n:=n) T x.q x.t x.c x.d x.ttl (by omega) hF hq hd
  have h3:=fun n=>rM (ext:=ext) (F:=F) (n:=n) s.l (Jr s.l x.k) (by omega) hF
  rw [F8] at h3
  have hr:(rid s.l x.k).length ≤ s.l.length:=by unfold rid;exact (List.eraseP_sublist ..).length_le
  have hw:IntKind.i64.wrap (s.ch + 1) = s.ch + 1:=F6 (by omega) (by omega)
  have hsz:((rid s.l x.k).length + 1) * 80 ≤ 140737488355328:=by omega
  rcases BQ s.l x.k with ⟨hp,ho⟩ | ⟨i,o,hp,hx,ho,hk⟩
  · rw [hp] at h1 h3
    have hd:decide ((0:Int) ≤ -1) = false:=by decide
    simp only [c18,h1,h2,h3,mP,hd,qh,nL,go_sem,Nat.reduceAdd,Nat.reduceMul,Nat.reduceEqDiff,Nat.reduceBEq,Nat.reduceMod,Nat.reduceDiv,↓reduceIte,reduceCtorEq]
    repeat' (refine bN (fun h=>?_) (fun h=>?_) <;> simp only [h,h1,h2,h3,mP,hd,qh,nL,List.length_append,List.length_map,hw,hsz,go_sem,Nat.reduceAdd,Nat.reduceMul,Nat.reduceEqDiff,Nat.reduceBEq,Nat.reduceMod,Nat.reduceDiv,↓reduceIte,reduceCtorEq])
    all_goals clear h1 h2 h3
    all_goals simp only [decide_eq_true_eq,decide_eq_false_iff_not] at *
    · have ha:θ.arg s now x r:=by unfold Th.arg;simp [*]
      rw [kM ha]
    · have ha:θ.arg s now x r:=by unfold Th.arg;simp [*]
      rw [kM ha]
    · have ha:θ.arg s now x r:=by unfold Th.arg;simp [*]
      rw [kM ha]
    · have ha:¬ θ.arg s now x r:=by unfold Th.arg;simp [*]
      rw [qj ha (by assumption) (fun y hy=>by rw [ho] at hy;cases hy) (LQ (by omega))]
      refine ⟨by omega,?_⟩
      rw [En (List.length_map _)]
      simp [rI]
    · have ha:¬ θ.arg s now x r:=by unfold Th.arg;simp [*]
      rw [qj ha (by assumption) (fun y hy=>by rw [ho] at hy;cases hy) (LU (by omega))]
      simp [rI]
    · have ha:¬ θ.arg s now x r:=by unfold Th.arg;simp [*]
      rw [wP ha (by assumption)]
    · have ha:θ.arg s now x r:=by unfold Th.arg;simp [*]
      rw [kM ha]
    · have ha:θ.arg s now x r:=by unfold Th.arg;simp [*]
      rw [kM ha]
  · rw [hp] at h1 h3
    obtain ⟨hd,hg,ht,h0⟩:=UW i
    have hd:decide ((0:Int) ≤ i) = true:=by simp
    simp only [c18,h1,h2,h3,mP,hd,qh,nL,Ed,List.getElem?_map,hx,rI,ht,h0,go_sem,Nat.reduceAdd,Nat.reduceMul,Nat.reduceEqDiff,Nat.reduceBEq,Nat.reduceMod,Nat.reduceDiv,↓reduceIte,reduceCtorEq]
    repeat' (refine bN (fun h=>?_) (fun h=>?_) <;> simp only [h,h1,h2,h3,mP,hd,qh,nL,Ed,List.length_append,List.length_map,hw,List.getElem?_map,hx,rI,ht,h0,hsz,go_sem,Nat.reduceAdd,Nat.reduceMul,Nat.reduceEqDiff,Nat.reduceBEq,Nat.reduceMod,Nat.reduceDiv,↓reduceIte,reduceCtorEq])
    all_goals clear h1 h2 h3
    all_goals simp only [decide_eq_true_eq,decide_eq_false_iff_not] at *
    · have ha:θ.arg s now x r:=by unfold Th.arg;simp [*]
      rw [kM ha]
    · have ha:θ.arg s now x r:=by unfold Th.arg;simp [*]
      rw [kM ha]
    · have ha:θ.arg s now x r:=by unfold Th.arg;simp [*]
      rw [kM ha]
    · have ha:¬ θ.arg s now x r:=by unfold Th.arg;simp [*]
      rw [qj ha (by assumption) (fun y hy=>by rw [ho] at hy;cases hy;assumption) (LQ (by omega))]
      refine ⟨by omega,?_⟩
      rw [En (List.length_map _)]
      simp [rI]
    · have ha:¬ θ.arg s now x r:=by unfold Th.arg;simp [*]
      rw [qj ha (by assumption) (fun y hy=>by rw [ho] at hy;cases hy;assumption) (LU (by omega))]
      simp [rI]
    · have ha:¬ θ.arg s now x r:=by unfold Th.arg;simp [*]
      rw [BR ha (by assumption) ho (by assumption)]
    · have ha:¬ θ.arg s now x r:=by unfold Th.arg;simp [*]
      rw [wP ha (by assumption)]
    · have ha:θ.arg s now x r:=by unfold Th.arg;simp [*]
      rw [kM ha]
    · have ha:θ.arg s now x r:=by unfold Th.arg;simp [*]
      rw [kM ha]
end Go.Proofs.Ytdkkgecdhapfhaa.Ka
set_option maxRecDepth 4000
namespace Go.Proofs.Ytdkkgecdhapfhaa.Ka
open Go Ev
variable {ext : Env} {F n:Nat}
theorem LV {α:Type} {body:St → Option (Out × St)} {rs:St → St} {k:Out × St → Prop} {u:Tok k} {F:Nat} {σ:St} (N:Nat) (T:α → St) (P:Nat → α → Prop) (hF:N < F) (x:α) (hs:rs σ = T x) (h0:P 0 x)
    (step:∀ i x,i < N → P i x → W (fun p=>match p.1 with
      | .jv=>∃ y,rs p.2 = T y ∧ P (i + 1) y
      | o=>k (o,p.2)) ⟨⟩ (body (T x)))
    (last:∀ x,P N x → W (fun p=>match p.1 with
      | .jv=>False
      | o=>k (o,p.2)) ⟨⟩ (body (T x))):W k u (iter body rs F σ):=by
  refine BP (fun m σ=>∃ i x,i ≤ N ∧ m = N - i ∧ rs σ = T x ∧ P i x) ?_ F N σ hF ⟨0,x,Nat.zero_le _,rfl,hs,h0⟩
  rintro m σ ⟨i,x,hi,rfl,hr,hP⟩
  rw [hr]
  by_cases hlt:i < N
  · refine u7 (step i x hlt hP) fun p hp=>?_
    obtain ⟨o,s⟩:=p
    cases o with
    | jv =>
      obtain ⟨y,h1,h2⟩:=hp
      exact ⟨N - (i + 1),by omega,i + 1,y,by omega,rfl,h1,h2⟩
    | ext j=>exact hp
    | ret=>exact hp
  · have:i = N:=by omega
    subst this
    refine u7 (last x hP) fun p hp=>?_
    obtain ⟨o,s⟩:=p
    cases o with
    | jv=>exact hp.elim
    | ext j=>exact hp
    | ret=>exact hp
abbrev Qn.f (k:Qn):List FV:=[.str k.q,.int .i64 k.t,.int .i64 k.c]
abbrev fnQ (k:Qn):AV:=.one (.fn 90 [k.f])
theorem LW (x k:Qn):G ext F (n + 1) 90 [vq x.q x.t x.c,.one (.fp k.f)] = some ([vb (decide (x = k))],[vq x.q x.t x.c,.one (.fp k.f)]):=by
  refine d9 (cf:=c90) rfl ?_
  simp only [c90,go_sem,Nat.reduceAdd,Nat.reduceMul,Nat.reduceEqDiff,Nat.reduceBEq,Nat.reduceMod,Nat.reduceDiv,↓reduceIte,reduceCtorEq]
  cases x;cases k;simp
def R7 (l:List Qn) (k:Qn):Int:=match l.findIdx? fun x=>decide (x = k) with | some i=>i | none=>-1
theorem UY {l:List Qn} {k:Qn} (h:∀ x ∈ l,x ≠ k):R7 l k = -1:=by
  have:l.findIdx? (fun x=>decide (x = k)) = none:=List.findIdx?_eq_none_iff.mpr fun x hx=>by simpa using h x hx
  simp [R7,this]
theorem UZ {l:List Qn} {k:Qn} {i:Nat} {x:Qn} (h:∀ x ∈ l.take i,x ≠ k) (hx:l[i]? = some x) (hk:x = k):R7 l k = i:=by
  have hi:=(List.getElem?_eq_some_iff.mp hx)
  have:l.findIdx? (fun x=>decide (x = k)) = some i:=by
    refine List.findIdx?_eq_some_iff_getElem.mpr ⟨hi.1,by simp [hi.2,hk],fun j hj=>?_⟩
    have:=h (l[j]'(by have:=hi.1;omega)) (by rw [List.mem_take_iff_getElem];exact ⟨j,by have:=hi.1;omega,rfl⟩)
    simpa using this
  simp [R7,this]
theorem U0 (l:List Qn) (k:Qn):(R7 l k = -1 ∧ ∀ x ∈ l,x ≠ k) ∨ ∃ (i:Nat),R7 l k = (i:Int) ∧ ∃ h:i < l.length,(∀ x ∈ l.take i,x ≠ k) ∧ l[i] = k:=by
  have hp:R7 l k = match l.findIdx? fun x=>decide (x = k) with | some i=>(i:Int) | none=>-1:=rfl
  cases h:l.findIdx? fun x=>decide (x = k) with
  | none =>
    rw [h] at hp
    exact .inl ⟨hp,fun x hx=>by simpa using List.findIdx?_eq_none_iff.mp h x hx⟩
  | some i =>
    rw [h] at hp
    obtain ⟨hi,hx,hb⟩:=List.findIdx?_eq_some_iff_getElem.mp h
    refine .inr ⟨i,hp,hi,fun x hx=>?_,by simpa using hx⟩
    obtain ⟨j,hj,rfl⟩:=List.mem_take_iff_getElem.mp hx
    have:=hb j (by omega)
    simpa using this
theorem BS (l:List Qn) (k:Qn) (hl:l.length ≤ 1000000000000) (hF:200000000000001 ≤ F):G ext F (n + 2) 108 [vl (l.map rQ),fnQ k] = some ([vi (R7 l k)],[vl (l.map rQ),fnQ k]):=by
  refine d9 (cf:=OQ) rfl ?_
  simp only [OQ,go_sem,Nat.reduceAdd,Nat.reduceMul,Nat.reduceEqDiff,Nat.reduceBEq,Nat.reduceMod,Nat.reduceDiv,↓reduceIte,reduceCtorEq]
  refine nY l.length (fun i=>⟨[(0,PV.c (CV.one (PL.f (FV.sl (l.map rQ))))),(1,PV.c (CV.one (PL.fn 90 [k.f]))),(7,PV.c (CV.one (PL.f (FV.int .i64 (l.map rQ).length)))),(8,PV.c (CV.one (PL.f (FV.int .i64 i))))],[]⟩) (fun i=>∀ x ∈ l.take i,x ≠ k) (by omega) rfl (by simp) (fun i hi hP=>?_) (fun hP=>?_)
  · obtain ⟨x,hx,hd,ht,h0⟩:=at_ hi
    have hn:=nx hi (Nat.le_trans hl (by decide))
    have hq:=fun n=>LW (ext:=ext) (F:=F) (n:=n) x k
    simp only [List.length_map,List.getElem?_map,hd,hx,ht,h0,rQ,hq,go_sem,Nat.reduceAdd,Nat.reduceMul,Nat.reduceEqDiff,Nat.reduceBEq,Nat.reduceMod,Nat.reduceDiv,↓reduceIte,reduceCtorEq]
    repeat' (refine bN (fun h=>?_) (fun h=>?_) <;> simp only [h,List.length_map,List.getElem?_map,hd,hx,ht,h0,hn,rQ,hq,go_sem,Nat.reduceAdd,Nat.reduceMul,Nat.reduceEqDiff,Nat.reduceBEq,Nat.reduceMod,Nat.reduceDiv,↓reduceIte,reduceCtorEq])
    · rw [UZ hP hx (by simpa using h)]
    · exact all_succ hP hx (by simpa using h)
  · have hd:=@end_ _ l
    simp only [List.length_map,hd,go_sem,Nat.reduceAdd,Nat.reduceMul,Nat.reduceEqDiff,Nat.reduceBEq,Nat.reduceMod,Nat.reduceDiv,↓reduceIte,reduceCtorEq]
    repeat' (refine bN (fun h=>?_) (fun h=>?_) <;> simp only [h,List.length_map,hd,go_sem,Nat.reduceAdd,Nat.reduceMul,Nat.reduceEqDiff,Nat.reduceBEq,Nat.reduceMod,Nat.reduceDiv,↓reduceIte,reduceCtorEq])
    rw [List.take_length] at hP
    rw [UY hP]
theorem O6 {l:List Qn} {k x:Qn} {i:Nat} (h:l[i]? = some x):(l.take (i + 1)).filter (fun y=>decide (y ≠ k)) = (l.take i).filter (fun y=>decide (y ≠ k)) ++ if x = k then [] else [x]:=by
  rw [List.take_add_one,List.filter_append,h]
  by_cases hx:x = k <;> simp [hx]
theorem zG (l:List Qn) (k:Qn) (hl:l.length ≤ 1000000000000) (hF:200000000000001 ≤ F):G ext F (n + 3) 89 [.one (.own 3 (l.map rQ)),fnQ k] = some ([.one (.own 3 ((l.filter fun x=>decide (x ≠ k)).map rQ))],[.one .any,fnQ k]):=by
  refine d9 (cf:=c89) rfl ?_
  have h1:=fun n=>BS (ext:=ext) (F:=F) (n:=n) l k hl hF
  simp only [c89,h1,go_sem,Nat.reduceAdd,Nat.reduceMul,Nat.reduceEqDiff,Nat.reduceBEq,Nat.reduceMod,Nat.reduceDiv,↓reduceIte,reduceCtorEq]
  rcases U0 l k with ⟨hp,hno⟩ | ⟨i0,hp,hi0,hpre,hat⟩
  · rw [hp]
    simp only [show decide ((-1:Int) = -1) = true from rfl,go_sem,Nat.reduceAdd,Nat.reduceMul,Nat.reduceEqDiff,Nat.reduceBEq,Nat.reduceMod,Nat.reduceDiv,↓reduceIte,reduceCtorEq]
    rw [List.filter_eq_self.mpr (fun x hx=>by simpa using hno x hx)]
  · rw [hp]
    have hne:decide ((i0:Int) = -1) = false:=by simp
    simp only [hne,nx hi0 (Nat.le_trans hl (by decide)),List.length_map,go_sem,Nat.reduceAdd,Nat.reduceMul,Nat.reduceEqDiff,Nat.reduceBEq,Nat.reduceMod,Nat.reduceDiv,↓reduceIte,reduceCtorEq]
    refine LV (l.length - (i0 + 1)) (fun x:List Qn × Nat × Nat=>⟨[(0,PV.c (CV.one (PL.own 20202 x.1.length))),(1,PV.c (CV.one (PL.fn 90 [k.f]))),(5,PV.c (CV.one (PL.f (FV.int IntKind.i64 x.2.1)))),(6,PV.c (CV.one (PL.f (FV.int IntKind.i64 x.2.2))))],[(20202,Ob.row 3 (x.1.map rQ))]⟩) (fun r x=>x.2.2 = i0 + 1 + r ∧ x.2.1 < x.2.2 ∧ x.1.length = l.length ∧ x.1.take x.2.1 = (l.take x.2.2).filter (fun y=>decide (y ≠ k)) ∧ x.1.drop x.2.2 = l.drop x.2.2) (by omega) (l,i0,i0 + 1) rfl ⟨rfl,Nat.lt_succ_self _,rfl,?_,rfl⟩ (fun r x hr hP=>?_) (fun x hP=>?_)
    · rw [List.take_add_one,List.filter_append,List.filter_eq_self.mpr (fun x hx=>by simpa using hpre x hx),List.getElem?_eq_getElem hi0]
      simp [hat]
    · obtain ⟨R,c,j⟩:=x
      obtain ⟨rfl,hc,hlen,htk,hdr⟩:=hP
      simp only at hc hlen htk hdr ⊢
      have hj:i0 + 1 + r < R.length:=by omega
      obtain ⟨x,hx,hd,ht,h0⟩:=at_ hj
      have hn:=nx hj (by omega)
      have hq:=fun n=>LW (ext:=ext) (F:=F) (n:=n) x k
      have hlt:((i0 + 1 + r:Nat):Int) < (R.length:Int):=by omega
      have hcR:c < R.length:=by omega
      obtain ⟨y,hy,hcd,hct,hc0⟩:=at_ hcR
      have hcl:(c:Int) < (R.length:Int):=by omega
      have hcn:=nx hcR (by omega)
      simp only [List.length_map,List.getElem?_map,hd,hx,ht,h0,rQ,hq,hlt,go_sem,Nat.reduceAdd,Nat.reduceMul,Nat.reduceEqDiff,Nat.reduceBEq,Nat.reduceMod,Nat.reduceDiv,↓reduceIte,reduceCtorEq]
      repeat' (refine bN (fun h=>?_) (fun h=>?_) <;> simp only [h,List.length_map,List.getElem?_map,hd,hx,ht,h0,hn,rQ,hq,hlt,hy,hct,hc0,hcl,hcn,go_sem,Nat.reduceAdd,Nat.reduceMul,Nat.reduceEqDiff,Nat.reduceBEq,Nat.reduceMod,Nat.reduceDiv,↓reduceIte,reduceCtorEq])
      all_goals
        have hxl:l[i0 + 1 + r]? = some x:=by
          have:=congrArg (fun z:List Qn=>z[0]?) hdr
          simp only [List.getElem?_drop,Nat.add_zero,hx] at this
          exact this.symm
        have hdr':List.drop (i0 + 1 + r + 1) R = List.drop (i0 + 1 + r + 1) l:=by
          have:=congrArg (List.drop 1) hdr
          simpa only [List.drop_drop] using this
        have hft:=O6 (k:=k) hxl
      · simp only [decide_eq_true_eq] at h
        rw [if_pos h,List.append_nil] at hft
        exact ⟨(R,c,i0 + 1 + r + 1),rfl,rfl,by show c < i0 + 1 + r + 1;omega,hlen,by rw [hft];exact htk,hdr'⟩
      · simp only [decide_eq_false_iff_not] at h
        rw [if_neg h] at hft
        refine ⟨(R.set c x,c + 1,i0 + 1 + r + 1),?_,rfl,by show c + 1 < i0 + 1 + r + 1;omega,by simp [hlen],?_,?_⟩
        · simp [List.map_set,rQ]
        · show List.take (c + 1) (R.set c x) = _
          rw [hft,List.take_add_one,List.take_set,List.set_eq_of_length_le (by simp;omega),htk,List.getElem?_set_self hcR]
          rfl
        · show List.drop _ (R.set c x) = _
          rw [List.drop_set_of_lt (show c < i0 + 1 + r + 1 by omega)]
          exact hdr'
    · obtain ⟨R,c,j⟩:=x
      obtain ⟨rfl,hc,hlen,htk,hdr⟩:=hP
      simp only at hc hlen htk hdr ⊢
      have hj:i0 + 1 + (l.length - (i0 + 1)) = R.length:=by omega
      rw [hj]
      rw [hj,List.take_of_length_le (l:=l) (i:=R.length) (by omega)] at htk
      have hd:=@end_ _ R
      have hct:(c:Int).toNat = c:=by simp
      have htt:List.take c (List.take c (List.map rQ R) ++ List.replicate (R.length - c) [FV.str ⟨#[]⟩,FV.int IntKind.i64 0,FV.int IntKind.i64 0]) = (l.filter fun y=>decide (y ≠ k)).map rQ:=by
        rw [List.take_append_of_le_length (by simp;omega),List.take_take,Nat.min_self,← List.map_take,htk]
      simp only [List.length_map,hd,go_sem,Nat.reduceAdd,Nat.reduceMul,Nat.reduceEqDiff,Nat.reduceBEq,Nat.reduceMod,Nat.reduceDiv,↓reduceIte,reduceCtorEq]
      repeat' (refine bN (fun h=>?_) (fun h=>?_) <;> simp only [h,List.length_map,hd,go_sem,Nat.reduceAdd,Nat.reduceMul,Nat.reduceEqDiff,Nat.reduceBEq,Nat.reduceMod,Nat.reduceDiv,↓reduceIte,reduceCtorEq])
      rw [hct]
      exact ⟨by omega,by omega,⟨by omega,by simp;omega⟩,by rw [htt]⟩
structure rP (ext:Env):Prop where
  cq:∀ l:List Qn,l.length ≤ 1000000 → ext 70 [vl (l.map rQ)] = some ([.one (.own 3 (l.map rQ))],[vl (l.map rQ)])
  cs:∀ l:List ByteArray,l.length ≤ 1000000 → ext 88 [vl (l.map fU)] = some ([vl (l.map fU)],[vl (l.map fU)])
theorem Hz (C:rP ext) (l:List Qn) (h:l.length ≤ 1000000):G ext F (n + 1) 70 [vl (l.map rQ)] = some ([.one (.own 3 (l.map rQ))],[vl (l.map rQ)]):=(congrFun (lC rfl) _).trans (C.cq l h)
theorem Y3 (C:rP ext) (l:List ByteArray) (h:l.length ≤ 1000000):G ext F (n + 1) 88 [vl (l.map fU)] = some ([vl (l.map fU)],[vl (l.map fU)]):=(congrFun (lC rfl) _).trans (C.cs l h)
def rR (l:List Qn) (k:Qn):List Qn:=l.filter fun x=>decide (x ≠ k)
theorem tL {l:List Qn} {k:Qn}:(rR l k).length ≤ l.length:=List.length_filter_le ..
theorem Eo (C:rP ext) (l:List Qn) (k:Qn) (hl:l.length ≤ 1000000) (hF:200000000000001 ≤ F):G ext F (n + 4) 69 [vl (l.map rQ),vq k.q k.t k.c] = some ([.one (.own 3 ((rR l k).map rQ))],[vl (l.map rQ),vq k.q k.t k.c]):=by
  refine d9 (cf:=c69) rfl ?_
  have h1:=fun n=>Hz (F:=F) (n:=n) C l hl
  have h2:=fun n=>zG (ext:=ext) (F:=F) (n:=n) l k (by omega) hF
  simp only [c69,h1,h2,go_sem,Nat.reduceAdd,Nat.reduceMul,Nat.reduceEqDiff,Nat.reduceBEq,Nat.reduceMod,Nat.reduceDiv,↓reduceIte,reduceCtorEq]
  rfl
theorem Ep (C:rP ext) (l:List Qn) (k:Qn) (hl:l.length ≤ 1000000) (hF:200000000000001 ≤ F):G ext F (n + 5) 67 [vl (l.map rQ),vq k.q k.t k.c] = some ([vl ((rR l k ++ [k]).map rQ)],[vl (l.map rQ),vq k.q k.t k.c]):=by
  refine d9 (cf:=c67) rfl ?_
  have h1:=fun n=>Eo (ext:=ext) (F:=F) (n:=n) C l k hl hF
  have hl2:=@tL l k
  simp only [c67,h1,List.length_map,go_sem,Nat.reduceAdd,Nat.reduceMul,Nat.reduceEqDiff,Nat.reduceBEq,Nat.reduceMod,Nat.reduceDiv,↓reduceIte,reduceCtorEq]
  have hsz:((rR l k).length + 1) * 32 ≤ 140737488355328:=by omega
  simp [rQ,hsz]
theorem Y4 (l:List Qn):((l.map rQ).all fun r=>r.length == 3) = true:=by
  rw [List.all_eq_true]
  intro r hr
  obtain ⟨x, -,rfl⟩:=List.mem_map.mp hr
  rfl
theorem U1 (C:rP ext) (l:List Qn) (most:Int) (hl:l.length ≤ 1000000) (hm:0 ≤ most ∧ most ≤ 1000000000000) (hF:200000000000001 ≤ F):G ext F (n + 2) 66 [vl (l.map rQ),vi most] = some ([vl ((l.drop (l.length - most.toNat)).map rQ),vl ((l.take (l.length - most.toNat)).map rQ)],[vl (l.map rQ),vi most]):=by
  refine d9 (cf:=c66) rfl ?_
  have h1:=fun n=>Hz (F:=F) (n:=n) C (l.drop (l.length - most.toNat)) (by simp;omega)
  have h2:=fun n=>Hz (F:=F) (n:=n) C (l.take (l.length - most.toNat)) (by simp;omega)
  obtain ⟨a,ha⟩:∃ a,a = l.length - most.toNat:=⟨_,rfl⟩
  rw [← ha] at h1 h2 ⊢
  have hc:IntKind.i64.wrap ((l.length:Int) - if (if (l.length:Int) < most then (l.length:Int) else most) < 0 then 0 else if (l.length:Int) < most then (l.length:Int) else most) = (a:Int):=by
    rw [F6 (by split <;> split <;> omega) (by split <;> split <;> omega)]
    split <;> split <;> omega
  have hat:(a:Int).toNat = a:=by simp
  have hc1:(0:Int) ≤ a ∧ (a:Int) ≤ (l.length:Int):=by omega
  have hk1:List.take (l.length - a) (List.drop a (l.map rQ)) = (l.drop a).map rQ:=by rw [List.take_of_length_le (by simp),List.map_drop]
  have hk2:List.take a (l.map rQ) = (l.take a).map rQ:=List.map_take.symm
  simp only [c66,List.length_map,hc,hat,hc1,hk1,hk2,h1,h2,Y4 l,List.drop_zero,Nat.sub_zero,go_sem,Nat.reduceAdd,Nat.reduceMul,Nat.reduceEqDiff,Nat.reduceBEq,Nat.reduceMod,Nat.reduceDiv,↓reduceIte,reduceCtorEq]
end Go.Proofs.Ytdkkgecdhapfhaa.Ka
set_option maxRecDepth 4000
namespace Go.Proofs.Ytdkkgecdhapfhaa.Ka
open Go Ev
variable {ext : Env} {F n:Nat} {θ:Th}
abbrev shQ : KS:=.agg [.str,.int .i64,.int .i64]
abbrev kq (k:Qn):KV:=.agg [.str k.q,.int .i64 k.t,.int .i64 k.c]
def ent (x:It):KV × FC:=(kq x.k,.agg (rI x))
structure Sv where
  room:Int
  m:List It
  o:List Qn
  ch:Int
abbrev Sv.v (s:Sv):AV:=.one (.ptr [.f (.int .i64 s.room),.mp shQ (s.m.map ent),.f (.sl (s.o.map rQ)),.f (.int .i64 s.ch)])
def U2 : Option Sv → AV
  | some s=>s.v
  | none=>.one .iK
theorem tN (s:Sv):U2 (some s) = s.v:=rfl
theorem tO : U2 none = .one .iK:=rfl
theorem U3 {a b:Qn}:kq a = kq b ↔ a = b:=by
  constructor
  · intro h;simp only [kq,KV.agg.injEq,List.cons.injEq,SV.str.injEq,SV.int.injEq] at h
    cases a;cases b;simp_all
  · rintro rfl;rfl
theorem yt (l:List It) (k:Qn):Fw (l.map ent) (kq k) = l.findIdx? fun x=>decide (x.k = k):=by
  unfold Fw
  rw [List.map_map,List.findIdx?_map]
  refine congrArg (fun p=>List.findIdx? p l) (funext fun x=>?_)
  simp only [Function.comp,ent]
  by_cases h:x.k = k
  · simp [h]
  · have:¬ kq x.k = kq k:=fun e=>h (U3.mp e)
    simp only [this,h,decide_false]
theorem yu (l:List It) (k:Qn):Di (l.map ent) (kq k) = (old l k).map fun x=>.agg (rI x):=by
  have hf:old l k = (l.findIdx? fun x=>decide (x.k = k)).bind fun i=>l[i]?:=List.find?_eq_bind_findIdx?_getElem? ..
  unfold Di
  rw [yt,hf]
  cases l.findIdx? fun x=>decide (x.k = k) with
  | none=>rfl
  | some i=>simp only [Option.bind_some,List.getElem?_map];cases l[i]? <;> rfl
theorem Er (l:List It) (k:Qn):Fy (l.map ent) (kq k) = (rid l k).map ent:=by
  unfold Fy rid
  rw [yt,List.eraseP_eq_eraseIdx]
  cases l.findIdx? fun x=>decide (x.k = k) with
  | none=>rfl
  | some i=>simp [List.eraseIdx_eq_take_drop_succ,List.map_take,List.map_drop]
def upd (l:List It) (x:It):List It:=match l.findIdx? fun y=>decide (y.k = x.k) with
  | some i=>l.set i x
  | none=>l ++ [x]
theorem LX (l:List It) (x:It):Fx (l.map ent) (kq x.k) (.agg (rI x)) = (upd l x).map ent:=by
  unfold Fx upd
  rw [yt]
  cases l.findIdx? fun y=>decide (y.k = x.k) with
  | none=>simp [ent]
  | some i=>simp [List.map_set,ent]
theorem BU (room:Int):G ext F (n + 1) 16 [vi room] = some ([U2 (if room < 1 ∨ 1000 < room then none else some ⟨room,[],[],0⟩)],[vi room]):=by
  refine d9 (cf:=c16) rfl ?_
  simp only [c16,go_sem,Nat.reduceAdd,Nat.reduceMul,Nat.reduceEqDiff,Nat.reduceBEq,Nat.reduceMod,Nat.reduceDiv,↓reduceIte,reduceCtorEq]
  repeat' (refine bN (fun h=>?_) (fun h=>?_) <;> simp only [h,go_sem,Nat.reduceAdd,Nat.reduceMul,Nat.reduceEqDiff,Nat.reduceBEq,Nat.reduceMod,Nat.reduceDiv,↓reduceIte,reduceCtorEq])
  all_goals (simp only [decide_eq_true_eq,decide_eq_false_iff_not] at *)
  all_goals first | rw [if_pos (by omega)] | rw [if_neg (by omega)]
  all_goals rfl
theorem og (o:Option Sv):G ext F (n + 1) 31 [U2 o] = some ([vi (match o with | some s=>s.ch | none=>0)],[U2 o]):=by
  refine d9 (cf:=c31) rfl ?_
  cases o with
  | none =>
    rw [tO]
    simp only [c31,go_sem,Nat.reduceAdd,Nat.reduceMul,Nat.reduceEqDiff,Nat.reduceBEq,Nat.reduceMod,Nat.reduceDiv,↓reduceIte,reduceCtorEq]
  | some s =>
    rw [tN]
    simp only [c31,go_sem,Nat.reduceAdd,Nat.reduceMul,Nat.reduceEqDiff,Nat.reduceBEq,Nat.reduceMod,Nat.reduceDiv,↓reduceIte,reduceCtorEq]
theorem yw (C:rP ext) (o:Option Sv) (ho:∀ s,o = some s → s.o.length ≤ 1000000):G ext F (n + 2) 29 [U2 o] = some ([vl ((match o with | some s=>s.o | none=>[]).map rQ)],[U2 o]):=by
  refine d9 (cf:=Jo) rfl ?_
  cases o with
  | none =>
    rw [tO]
    simp only [Jo,go_sem,Nat.reduceAdd,Nat.reduceMul,Nat.reduceEqDiff,Nat.reduceBEq,Nat.reduceMod,Nat.reduceDiv,↓reduceIte,reduceCtorEq]
  | some s =>
    rw [tN]
    have h1:=fun n=>Hz (F:=F) (n:=n) C s.o (ho s rfl)
    simp only [Jo,h1,go_sem,Nat.reduceAdd,Nat.reduceMul,Nat.reduceEqDiff,Nat.reduceBEq,Nat.reduceMod,Nat.reduceDiv,↓reduceIte,reduceCtorEq]
theorem Es (C:rP ext) (x:It) (hx:x.d.length ≤ 1000000):G ext F (n + 2) 65 [x.v] = some ([x.v],[x.v]):=by
  refine d9 (cf:=c65) rfl ?_
  have h1:=fun n=>Y3 (F:=F) (n:=n) C x.d hx
  simp only [c65,h1,go_sem,Nat.reduceAdd,Nat.reduceMul,Nat.reduceEqDiff,Nat.reduceBEq,Nat.reduceMod,Nat.reduceDiv,↓reduceIte,reduceCtorEq]
def oF (s:Sv) (now:Int) (k:Qn):It × Bool:=match old s.m k with
  | some x=>if fE now x.u then (x,true) else (Df,false)
  | none=>(Df,false)
theorem Ak (now:Int) (k:Qn):G ext F (n + 3) 25 [.one .iK,vi now,vq k.q k.t k.c] = some ([Df.v,vb false],[.one .iK,vi now,vq k.q k.t k.c]):=by
  refine d9 (cf:=Kv) rfl ?_
  simp only [Kv,go_sem,Nat.reduceAdd,Nat.reduceMul,Nat.reduceEqDiff,Nat.reduceBEq,Nat.reduceMod,Nat.reduceDiv,↓reduceIte,reduceCtorEq]
  rfl
theorem wQ (C:rP ext) (s:Sv) (now:Int) (k:Qn) (hd:∀ x ∈ s.m,x.d.length ≤ 1000000):G ext F (n + 3) 25 [s.v,vi now,vq k.q k.t k.c] = some ([(oF s now k).1.v,vb (oF s now k).2],[s.v,vi now,vq k.q k.t k.c]):=by
  refine d9 (cf:=Kv) rfl ?_
  have hk:=yu s.m k
  unfold oF
  cases ho:old s.m k with
  | none =>
    rw [ho] at hk
    simp only [Kv,hk,Option.map_none,Option.isSome_none,go_sem,Nat.reduceAdd,Nat.reduceMul,Nat.reduceEqDiff,Nat.reduceBEq,Nat.reduceMod,Nat.reduceDiv,↓reduceIte,reduceCtorEq]
    rfl
  | some x =>
    rw [ho] at hk
    have h1:=fun n=>Es (F:=F) (n:=n) C x (hd x (List.mem_of_find?_eq_some ho))
    cases hv:fE now x.u
    all_goals
      simp only [Kv,hk,Option.map_some,Option.isSome_some,rI,tH,hv,h1,go_sem,Nat.reduceAdd,Nat.reduceMul,Nat.reduceEqDiff,Nat.reduceBEq,Nat.reduceMod,Nat.reduceDiv,↓reduceIte,reduceCtorEq]
    rfl
def tQ (s:Sv) (now:Int) (k:Qn):Sv × It × Bool:=match old s.m k with
  | some x=>if fE now x.u then (⟨s.room,s.m,rR s.o k ++ [k],s.ch⟩,x,true) else (s,Df,false)
  | none=>(s,Df,false)
theorem LY (now:Int) (k:Qn):G ext F (n + 6) 21 [.one .iK,vi now,vq k.q k.t k.c] = some ([Df.v,vb false],[.one .iK,vi now,vq k.q k.t k.c]):=by
  refine d9 (cf:=c21) rfl ?_
  have h1:=fun n=>Ak (ext:=ext) (F:=F) (n:=n) now k
  simp only [c21,h1,go_sem,Nat.reduceAdd,Nat.reduceMul,Nat.reduceEqDiff,Nat.reduceBEq,Nat.reduceMod,Nat.reduceDiv,↓reduceIte,reduceCtorEq]
theorem LZ (C:rP ext) (s:Sv) (now:Int) (k:Qn) (hd:∀ x ∈ s.m,x.d.length ≤ 1000000) (ho:s.o.length ≤ 1000000) (hF:200000000000001 ≤ F):G ext F (n + 6) 21 [s.v,vi now,vq k.q k.t k.c] = some ([(tQ s now k).2.1.v,vb (tQ s now k).2.2],[(tQ s now k).1.v,vi now,vq k.q k.t k.c]):=by
  refine d9 (cf:=c21) rfl ?_
  have h1:=fun n=>wQ (ext:=ext) (F:=F) (n:=n) C s now k hd
  have h2:=fun n=>Ep (ext:=ext) (F:=F) (n:=n) C s.o k ho hF
  unfold oF at h1
  unfold tQ
  cases hold:old s.m k with
  | none =>
    simp only [hold] at h1
    simp only [c21,h1,h2,go_sem,Nat.reduceAdd,Nat.reduceMul,Nat.reduceEqDiff,Nat.reduceBEq,Nat.reduceMod,Nat.reduceDiv,↓reduceIte,reduceCtorEq]
  | some x =>
    cases hv:fE now x.u
    all_goals simp only [hold,hv,if_true,if_false,Bool.false_eq_true] at h1
    all_goals
      simp only [c21,h1,h2,go_sem,Nat.reduceAdd,Nat.reduceMul,Nat.reduceEqDiff,Nat.reduceBEq,Nat.reduceMod,Nat.reduceDiv,↓reduceIte,reduceCtorEq]
    all_goals simp [hv]
def nM (s:Sv) (k:Qn):Sv × Bool:=match old s.m k with
  | some _=>(⟨s.room,rid s.m k,rR s.o k,s.ch + 1⟩,true)
  | none=>(s,false)
theorem Jw (k:Qn):G ext F (n + 5) 27 [.one .iK,vq k.q k.t k.c] = some ([vb false],[.one .iK,vq k.q k.t k.c]):=by
  refine d9 (cf:=UO) rfl ?_
  simp only [UO,go_sem,Nat.reduceAdd,Nat.reduceMul,Nat.reduceEqDiff,Nat.reduceBEq,Nat.reduceMod,Nat.reduceDiv,↓reduceIte,reduceCtorEq]
theorem BX (C:rP ext) (s:Sv) (k:Qn) (hc:0 ≤ s.ch ∧ s.ch ≤ 1000000000000) (ho:s.o.length ≤ 1000000) (hF:200000000000001 ≤ F):G ext F (n + 5) 27 [s.v,vq k.q k.t k.c] = some ([vb (nM s k).2],[(nM s k).1.v,vq k.q k.t k.c]):=by
  refine d9 (cf:=UO) rfl ?_
  have hk:=yu s.m k
  have hk2:=Er s.m k
  have h1:=fun n=>Eo (ext:=ext) (F:=F) (n:=n) C s.o k ho hF
  have hw:IntKind.i64.wrap (s.ch + 1) = s.ch + 1:=F6 (by omega) (by omega)
  unfold nM
  cases hold:old s.m k with
  | none =>
    rw [hold] at hk
    simp only [UO,hk,Option.map_none,Option.isSome_none,go_sem,Nat.reduceAdd,Nat.reduceMul,Nat.reduceEqDiff,Nat.reduceBEq,Nat.reduceMod,Nat.reduceDiv,↓reduceIte,reduceCtorEq]
  | some x =>
    rw [hold] at hk
    simp only [UO,hk,hk2,Option.map_some,Option.isSome_some,rI,h1,hw,go_sem,Nat.reduceAdd,Nat.reduceMul,Nat.reduceEqDiff,Nat.reduceBEq,Nat.reduceMod,Nat.reduceDiv,↓reduceIte,reduceCtorEq]
def nN (θ:Th) (s:Sv) (now:Int) (x:It):Int :=
  if x.u < 0 ∨ θ.set x.q x.t x.c x.d x.ttl = false ∨ x.r < 1 ∨ 5 < x.r then 1
  else if fE now x.u = false then 14
  else match old s.m x.k with
    | some o=>if lG o.r (fE now o.u) x.r = false then 10 else 0
    | none=>0
theorem L6 (now:Int) (x:It):G ext F (n + 4) 64 [.one .iK,vi now,x.v] = some ([vi 1],[.one .iK,vi now,x.v]):=by
  refine d9 (cf:=c64) rfl ?_
  simp only [c64,go_sem,Nat.reduceAdd,Nat.reduceMul,Nat.reduceEqDiff,Nat.reduceBEq,Nat.reduceMod,Nat.reduceDiv,↓reduceIte,reduceCtorEq]
theorem U4 (T:θ.Ok ext) (s:Sv) (now:Int) (x:It) (hF:200000000000001 ≤ F) (hq:x.q.size ≤ 1000000) (hn:x.d.length ≤ 1000000) (hd:∀ y ∈ x.d,y.size ≤ 1000000):G ext F (n + 4) 64 [s.v,vi now,x.v] = some ([vi (nN θ s now x)],[s.v,vi now,x.v]):=by
  refine d9 (cf:=c64) rfl ?_
  have hk:=yu s.m x.k
  have h1:=fun n=>Jt (ext:=ext) (F:=F) (n:=n) T x.q x.t x.c x.d x.ttl (by omega) hF hq hd
  unfold nN
  cases hold:old s.m x.k with
  | none =>
    rw [hold] at hk
    simp only [c64,h1,hk,tH,Option.map_none,Option.isSome_none,go_sem,Nat.reduceAdd,Nat.reduceMul,Nat.reduceEqDiff,Nat.reduceBEq,Nat.reduceMod,Nat.reduceDiv,↓reduceIte,reduceCtorEq]
    repeat' (refine bN (fun h=>?_) (fun h=>?_) <;> simp only [h,h1,hk,tH,Option.map_none,Option.isSome_none,go_sem,Nat.reduceAdd,Nat.reduceMul,Nat.reduceEqDiff,Nat.reduceBEq,Nat.reduceMod,Nat.reduceDiv,↓reduceIte,reduceCtorEq])
    all_goals clear h1 hk
    all_goals simp only [decide_eq_true_eq,decide_eq_false_iff_not] at *
    all_goals simp [*]
  | some o =>
    rw [hold] at hk
    simp only [c64,h1,hk,tH,Hl,Option.map_some,Option.isSome_some,rI,go_sem,Nat.reduceAdd,Nat.reduceMul,Nat.reduceEqDiff,Nat.reduceBEq,Nat.reduceMod,Nat.reduceDiv,↓reduceIte,reduceCtorEq]
    repeat' (refine bN (fun h=>?_) (fun h=>?_) <;> simp only [h,h1,hk,tH,Hl,Option.map_some,Option.isSome_some,rI,go_sem,Nat.reduceAdd,Nat.reduceMul,Nat.reduceEqDiff,Nat.reduceBEq,Nat.reduceMod,Nat.reduceDiv,↓reduceIte,reduceCtorEq])
    all_goals clear h1 hk
    all_goals simp only [decide_eq_true_eq,decide_eq_false_iff_not] at *
    all_goals simp [*]
end Go.Proofs.Ytdkkgecdhapfhaa.Ka
set_option maxRecDepth 4000
namespace Go.Proofs.Ytdkkgecdhapfhaa.Ka
open Go Ev
variable {ext : Env} {F n:Nat} {θ:Th}
abbrev Se.it (x:Se) (u r:Int):It:=⟨x.q,x.t,x.c,x.d,x.ttl,u,r⟩
def gT (θ:Th) (s:Sv) (now:Int) (x:Se) (r:Int):Sv × Int :=
  let it:=x.it (dz now x.ttl) r
  if nN θ s now it ≠ 0 then (s,nN θ s now it)
  else
    let t:=rR s.o x.k ++ [x.k]
    (⟨s.room,(t.take (t.length - s.room.toNat)).foldl rid (upd s.m it),t.drop (t.length - s.room.toNat),s.ch + 1⟩,0)
structure Et (θ:Th) (ext:Env):Prop where
  p0:∀ now x r,ext 19 [.one .iK,vi now,Se.v x,vi r] = some ([vi 1],[.one .iK,vi now,x.v,vi r])
  p1:∀ (s:Sv) now (x:Se) r,0 ≤ s.room ∧ s.room ≤ 1000000 → 0 ≤ s.ch ∧ s.ch ≤ 1000000000000 → s.o.length ≤ 100000 → s.m.length ≤ 100000 → x.q.size ≤ 1000000 → x.d.length ≤ 1000000 → (∀ y ∈ x.d,y.size ≤ 1000000) →
    ext 19 [s.v,vi now,x.v,vi r] = some ([vi (gT θ s now x r).2],[(gT θ s now x r).1.v,vi now,x.v,vi r])
theorem rT (Q:Et θ ext) (s:Sv) (now:Int) (x:Se) (r:Int) (h1:0 ≤ s.room ∧ s.room ≤ 1000000) (h2:0 ≤ s.ch ∧ s.ch ≤ 1000000000000) (h3:s.o.length ≤ 100000) (h3':s.m.length ≤ 100000) (h4:x.q.size ≤ 1000000) (h5:x.d.length ≤ 1000000) (h6:∀ y ∈ x.d,y.size ≤ 1000000):G ext F (n + 1) 19 [s.v,vi now,x.v,vi r] = some ([vi (gT θ s now x r).2],[(gT θ s now x r).1.v,vi now,x.v,vi r]):=(congrFun (lC rfl) _).trans (Q.p1 s now x r h1 h2 h3 h3' h4 h5 h6)
theorem O7 (Q:Et θ ext) (now:Int) (x:Se) (r:Int):G ext F (n + 1) 19 [.one .iK,vi now,x.v,vi r] = some ([vi 1],[.one .iK,vi now,x.v,vi r]):=(congrFun (lC rfl) _).trans (Q.p0 now x r)
abbrev na : ByteArray:=⟨#[1,97,0]⟩
abbrev nb : ByteArray:=⟨#[1,98,0]⟩
abbrev Y5 : ByteArray:=⟨#[1,99,0]⟩
abbrev dd : ByteArray:=⟨#[49,49,49,49]⟩
structure Th.Live (θ:Th):Prop where
  a1:θ.jB na = true
  a2:θ.low na = na
  b1:θ.jB nb = true
  b2:θ.low nb = nb
  c1:θ.jB Y5 = true
  c2:θ.low Y5 = Y5
  e1:θ.wB 1 dd = true
  e2:θ.lw 1 dd = dd
abbrev sa : Se:=⟨na,1,1,[dd],5⟩
abbrev sb : Se:=⟨nb,1,1,[dd],5⟩
abbrev sc : Se:=⟨Y5,1,1,[dd],5⟩
abbrev sz : Se:=⟨na,1,1,[dd],0⟩
abbrev t0 : Sv:=⟨2,[],[],0⟩
abbrev t1 : Sv:=⟨2,[sa.it 6 5],[sa.k],1⟩
abbrev t2 : Sv:=⟨2,[sa.it 6 5,sb.it 6 3],[sa.k,sb.k],2⟩
abbrev t3 : Sv:=⟨2,[sa.it 6 5,sb.it 6 3],[sb.k,sa.k],2⟩
abbrev t4 : Sv:=⟨2,[sa.it 6 5,sc.it 7 1],[sa.k,sc.k],3⟩
abbrev t5 : Sv:=⟨2,[sc.it 7 1],[sc.k],4⟩
theorem L8 (L:θ.Live) (ttl:Int) (h:0 ≤ ttl ∧ ttl < 2147483648):θ.set na 1 1 [dd] ttl = true:=by simp [Th.set,Th.key,Th.dat,L.a1,L.a2,L.e1,L.e2,h]
theorem Y6 (L:θ.Live):θ.set nb 1 1 [dd] 5 = true:=by simp [Th.set,Th.key,Th.dat,L.b1,L.b2,L.e1,L.e2]
theorem Y7 (L:θ.Live):θ.set Y5 1 1 [dd] 5 = true:=by simp [Th.set,Th.key,Th.dat,L.c1,L.c2,L.e1,L.e2]
theorem lv1 (L:θ.Live):gT θ t0 1 sa 5 = (t1,0):=by simp [gT,nN,L8 L 5 (by decide),dz,zC,fE,old,upd,rR]
theorem lv2 (L:θ.Live):gT θ t1 1 sb 3 = (t2,0):=by simp [gT,nN,Y6 L,dz,zC,fE,old,upd,rR,List.findIdx?_cons]
theorem lv3 (L:θ.Live):gT θ t2 2 sa 4 = (t2,10):=by simp [gT,nN,L8 L 5 (by decide),dz,zC,fE,old,lG]
theorem lv4 : tQ t2 2 sa.k = (t3,sa.it 6 5,true):=by simp [tQ,old,fE,zC,rR]
theorem lv5 (L:θ.Live):gT θ t3 2 sc 1 = (t4,0):=by simp [gT,nN,Y7 L,dz,zC,fE,old,upd,rR,rid,List.findIdx?_cons,List.eraseP_cons]
theorem lv6 : oF t4 2 sb.k = (Df,false):=by simp [oF,old]
theorem lv7 : oF t4 6 sa.k = (Df,false):=by simp [oF,old,fE,zC]
theorem lv8 (L:θ.Live):gT θ t4 2 sz 5 = (t4,14):=by simp [gT,nN,L8 L 0 (by decide),dz,zC,fE]
theorem lv9 : nM t4 sa.k = (t5,true):=by simp [nM,old,rid,rR,List.eraseP_cons]
theorem aeE : nM t5 sa.k = (t5,false):=by simp [nM,old]
theorem aeF (L:θ.Live):gT θ t5 (-1) sa 5 = (t5,1):=by simp [gT,nN,dz,zC]
theorem L9 (Q:Et θ ext) (C:rP ext) (L:θ.Live) (hF:200000000000001 ≤ F):G ext F (n + 7) 15 [] = some ([vb true],[]):=by
  refine d9 (cf:=c15) rfl ?_
  have n2:∀ n,G ext F (n + 1) 16 [vi 2] = some ([t0.v],[vi 2]):=fun n=>BU 2
  have n0:∀ n,G ext F (n + 1) 16 [vi 0] = some ([.one .iK],[vi 0]):=fun n=>BU 0
  have n1:∀ n,G ext F (n + 1) 16 [vi 1001] = some ([.one .iK],[vi 1001]):=fun n=>BU 1001
  have p1:=fun n=>rT (F:=F) (n:=n) Q t0 1 sa 5 (by decide) (by decide) (by decide) (by decide) (by decide) (by decide) (by decide)
  have p2:=fun n=>rT (F:=F) (n:=n) Q t1 1 sb 3 (by decide) (by decide) (by decide) (by decide) (by decide) (by decide) (by decide)
  have p3:=fun n=>rT (F:=F) (n:=n) Q t2 2 sa 4 (by decide) (by decide) (by decide) (by decide) (by decide) (by decide) (by decide)
  have p4:=fun n=>LZ (F:=F) (n:=n) C t2 2 sa.k (by decide) (by decide) hF
  have p5:=fun n=>rT (F:=F) (n:=n) Q t3 2 sc 1 (by decide) (by decide) (by decide) (by decide) (by decide) (by decide) (by decide)
  have p6:=fun n=>wQ (F:=F) (n:=n) C t4 2 sb.k (by decide)
  have p7:=fun n=>wQ (F:=F) (n:=n) C t4 6 sa.k (by decide)
  have p8:=fun n=>rT (F:=F) (n:=n) Q t4 2 sz 5 (by decide) (by decide) (by decide) (by decide) (by decide) (by decide) (by decide)
  have p9:=fun n=>BX (F:=F) (n:=n) C t4 sa.k (by decide) (by decide) hF
  have p10:=fun n=>BX (F:=F) (n:=n) C t5 sa.k (by decide) (by decide) hF
  have p11:=fun n=>rT (F:=F) (n:=n) Q t5 (-1) sa 5 (by decide) (by decide) (by decide) (by decide) (by decide) (by decide) (by decide)
  have c4:=fun n=>og (ext:=ext) (F:=F) (n:=n) (some t4)
  have c5:=fun n=>og (ext:=ext) (F:=F) (n:=n) (some t5)
  have k4:=fun n=>yw (ext:=ext) (F:=F) (n:=n) C (some t4) (by rintro s ⟨⟩;decide)
  rw [lv1 L] at p1
  rw [lv2 L] at p2
  rw [lv3 L] at p3
  rw [lv4] at p4
  rw [lv5 L] at p5
  rw [lv6] at p6
  rw [lv7] at p7
  rw [lv8 L] at p8
  rw [lv9] at p9
  rw [aeE] at p10
  rw [aeF L] at p11
  simp only [tN,List.map_cons,List.map_nil,fU,ent,rI,rQ,Sv.v,Se.v,It.v,wz,OW,Se.it,Se.k,kq] at n2 p1 p2 p3 p4 p5 p6 p7 p8 p9 p10 p11 c4 c5 k4
  simp only [c15,n2,n0,n1,p1,p2,p3,p4,p5,p6,p7,p8,p9,p10,p11,c4,c5,k4,show ((2:Nat):Int) = 2 from rfl,go_sem,Nat.reduceAdd,Nat.reduceMul,Nat.reduceEqDiff,Nat.reduceBEq,Nat.reduceMod,Nat.reduceDiv,↓reduceIte,reduceCtorEq]
end Go.Proofs.Ytdkkgecdhapfhaa.Ka
namespace Go.Proofs.Ytdkkgecdhapfhaa.Ka
open Go Ev
variable {θ : Th}
abbrev ks (l:List It):List Qn:=l.map It.k
theorem O8 {b:Qn}:old [] b = none:=rfl
theorem tT {x:It} {l:List It} {b:Qn}:old (x :: l) b = if x.k = b then some x else old l b:=by
  unfold old;rw [List.find?_cons];by_cases h:x.k = b <;> simp [h]
theorem BZ {l:List It} {b:Qn} (h:b ∉ ks l):old l b = none:=by
  unfold old;rw [List.find?_eq_none]
  intro x hx;simp only [decide_eq_true_eq];rintro rfl;exact h (List.mem_map_of_mem hx)
theorem Ca {l:List It} {b:Qn} {x:It} (h:old l b = some x):x.k = b ∧ x ∈ l:=⟨by simpa using List.find?_some h,List.mem_of_find?_eq_some h⟩
theorem Eu {x:It} {l:List It} {a:Qn}:rid (x :: l) a = if x.k = a then l else x :: rid l a:=by
  unfold rid;rw [List.eraseP_cons];by_cases h:x.k = a <;> simp [h]
theorem wR {l:List It} {a:Qn}:(rid l a).Sublist l:=List.eraseP_sublist ..
theorem lV {l:List It} {a:Qn} (h:(ks l).Nodup):(ks (rid l a)).Nodup:=(wR.map _).nodup h
theorem mR {l:List It} {a b:Qn} (h:(ks l).Nodup):old (rid l a) b = if b = a then none else old l b:=by
  induction l with
  | nil=>simp [rid,O8]
  | cons x l ih =>
    have hc:=List.nodup_cons.mp h
    rw [Eu]
    by_cases hx:x.k = a
    · rw [if_pos hx]
      by_cases hb:b = a
      · rw [if_pos hb];exact BZ (by rw [hb,← hx];exact hc.1)
      · rw [if_neg hb,tT,if_neg (by rw [hx];exact fun e=>hb e.symm)]
    · rw [if_neg hx,tT,tT,ih hc.2]
      by_cases hb:b = a
      · subst hb;rw [if_neg hx,if_pos rfl,if_pos rfl]
      · rw [if_neg hb,if_neg hb]
theorem F9 {l:List It} {a:Qn} (h:(ks l).Nodup):ks (rid l a) = rR (ks l) a:=by
  induction l with
  | nil=>rfl
  | cons x l ih =>
    have hc:=List.nodup_cons.mp h
    rw [Eu]
    by_cases hx:x.k = a
    · rw [if_pos hx]
      have:rR (ks l) a = ks l:=List.filter_eq_self.mpr fun y hy=>by
        simp only [decide_eq_true_eq];rintro rfl;rw [← hx] at hy;exact hc.1 hy
      simp only [ks,List.map_cons,rR,List.filter_cons,hx,ne_eq,decide_not] at this ⊢
      simp [this]
    · rw [if_neg hx]
      simp only [ks,List.map_cons,rR,List.filter_cons] at ih ⊢
      rw [ih hc.2];simp [hx]
theorem tV {l:List It} {x:It} {b:Qn} (h:x.k ∉ ks l):old (l ++ [x]) b = if b = x.k then some x else old l b:=by
  unfold old;rw [List.find?_append]
  by_cases hb:b = x.k
  · subst hb
    have:=BZ h;unfold old at this
    rw [this];simp
  · have:¬ x.k = b:=fun e=>hb e.symm
    simp [hb,this]
theorem Cb (l:List It) (x:It):(x.k ∉ ks l ∧ upd l x = l ++ [x]) ∨ ∃ a y b,l = a ++ y :: b ∧ y.k = x.k ∧ x.k ∉ ks a ∧ upd l x = a ++ x :: b:=by
  unfold upd
  cases h:l.findIdx? fun y=>decide (y.k = x.k) with
  | none =>
    refine .inl ⟨fun hm=>?_,rfl⟩
    obtain ⟨y,hy,hk⟩:=List.mem_map.mp hm
    have:=List.findIdx?_eq_none_iff.mp h y hy
    simp [hk] at this
  | some i =>
    obtain ⟨hi,hx,hb⟩:=List.findIdx?_eq_some_iff_getElem.mp h
    refine .inr ⟨l.take i,l[i],l.drop (i + 1),?_,by simpa using hx,fun hm=>?_,?_⟩
    · rw [List.getElem_cons_drop,List.take_append_drop]
    · obtain ⟨y,hy,hk⟩:=List.mem_map.mp hm
      obtain ⟨j,hj,rfl⟩:=List.mem_take_iff_getElem.mp hy
      have:=hb j (by omega)
      simp [hk] at this
    · simp only [List.set_eq_take_append_cons_drop,hi,if_true]
theorem HV {l:List It} {x:It} {b:Qn}:old (upd l x) b = if b = x.k then some x else old l b:=by
  rcases Cb l x with ⟨h,hu⟩ | ⟨a,y,c,rfl,hy,ha,hu⟩
  · rw [hu,tV h]
  · rw [hu]
    have hno:=BZ ha
    unfold old at hno ⊢
    rw [List.find?_append,List.find?_append,List.find?_cons,List.find?_cons]
    by_cases hb:b = x.k
    · subst hb;rw [hno];simp
    · have h1:¬ x.k = b:=fun e=>hb e.symm
      have h2:¬ y.k = b:=fun e=>hb (by rw [← hy,e])
      simp [hb,h1,h2]
theorem ql {l:List It} {x:It} (h:(ks l).Nodup):(ks (upd l x)).Nodup:=by
  rcases Cb l x with ⟨hn,hu⟩ | ⟨a,y,c,rfl,hy,ha,hu⟩
  · rw [hu]
    simp only [ks,List.map_append,List.map_cons,List.map_nil]
    refine List.nodup_append.mpr ⟨h,List.pairwise_singleton _ _,fun p hp q hq=>?_⟩
    rw [List.mem_singleton] at hq;subst hq;rintro rfl;exact hn hp
  · rw [hu]
    have:ks (a ++ x :: c) = ks (a ++ y :: c):=by simp [ks,hy]
    rw [this];exact h
structure Rl (s:Sv) (k:Sr):Prop where
  room:s.room = k.room
  ch:s.ch = k.ch
  ord:s.o = ks k.l
  kG:(ks k.l).Nodup
  Ga:(ks s.m).Nodup
  old:∀ b,old s.m b = old k.l b
  len:(k.l.length:Int) ≤ k.room
theorem Cc {l:List It} {a:Qn}:(rid l a).length ≤ l.length:=wR.length_le
theorem Ma {s:Sv} {k:Sr} (h:Rl s k) (now:Int) (b:Qn):oF s now b = lH k now b:=by
  unfold oF lH;rw [h.old b]
  all_goals (cases Ka.old k.l b <;> rfl)
theorem O9 {l:List It} {x:It} (hx:old l x.k = some x) (h:(ks l).Nodup):(ks (rid l x.k ++ [x])).Nodup:=by
  simp only [ks,List.map_append,List.map_cons,List.map_nil]
  refine List.nodup_append.mpr ⟨lV h,List.pairwise_singleton _ _,fun p hp q hq=>?_⟩
  rw [List.mem_singleton] at hq;subst hq;rintro rfl
  have h1:=mR (b:=x.k) (a:=x.k) h
  rw [if_pos rfl] at h1
  obtain ⟨y,hy,hk⟩:=List.mem_map.mp hp
  have:=List.find?_eq_none.mp h1 y hy
  simp [hk] at this
theorem qm {l:List It} {a:Qn} (h:(ks l).Nodup):a ∉ ks (rid l a):=fun hp=>by
  have h1:=mR (b:=a) (a:=a) h
  rw [if_pos rfl] at h1
  obtain ⟨y,hy,hk⟩:=List.mem_map.mp hp
  have:=List.find?_eq_none.mp h1 y hy
  simp [hk] at this
theorem Jy {l:List It} {x:It} (h:(ks l).Nodup) (hn:x.k ∉ ks l):(ks (l ++ [x])).Nodup:=by
  simp only [ks,List.map_append,List.map_cons,List.map_nil]
  refine List.nodup_append.mpr ⟨h,List.pairwise_singleton _ _,fun p hp q hq=>?_⟩
  rw [List.mem_singleton] at hq;subst hq;rintro rfl;exact hn hp
theorem U5 {l:List It} {a:Qn} {x:It} (h:old l a = some x):(rid l a).length + 1 = l.length:=by
  obtain ⟨hk,hm⟩:=Ca h
  have:=List.length_eraseP_of_mem (p:=fun y:It=>decide (y.k = a)) hm (by simp [hk])
  have hp:0 < l.length:=List.length_pos_of_mem hm
  unfold rid;omega
theorem H6 {s:Sv} {k:Sr} (h:Rl s k) (now:Int) (b:Qn):(tQ s now b).2 = (lN k now b).2 ∧ Rl (tQ s now b).1 (lN k now b).1:=by
  unfold tQ lN;rw [h.old b]
  cases hb:Ka.old k.l b with
  | none=>exact ⟨rfl,h⟩
  | some x =>
    obtain ⟨hk,hm⟩:=Ca hb
    subst hk
    dsimp only
    split
    · refine ⟨rfl,h.room,h.ch,?_,O9 hb h.kG,h.Ga,fun c=>?_,?_⟩
      · show rR s.o x.k ++ [x.k] = ks (rid k.l x.k ++ [x])
        rw [h.ord,← F9 h.kG];simp [ks]
      · show old s.m c = old (rid k.l x.k ++ [x]) c
        rw [tV (qm h.kG),h.old c,mR h.kG]
        by_cases hc:c = x.k
        · rw [if_pos hc,hc,hb]
        · rw [if_neg hc,if_neg hc]
      · have:=U5 hb;have:=h.len
        show (((rid k.l x.k ++ [x]).length:Nat):Int) ≤ k.room
        simp;omega
    · exact ⟨rfl,h⟩
theorem Mc {s:Sv} {k:Sr} (h:Rl s k) (b:Qn):(nM s b).2 = (mQ k b).2 ∧ Rl (nM s b).1 (mQ k b).1:=by
  unfold nM mQ;rw [h.old b]
  cases hb:Ka.old k.l b with
  | none=>exact ⟨rfl,h⟩
  | some x =>
    refine ⟨rfl,h.room,by show s.ch + 1 = k.ch + 1;rw [h.ch],?_,lV h.kG,lV h.Ga,fun c=>?_,?_⟩
    · show rR s.o b = ks (rid k.l b)
      rw [h.ord,F9 h.kG]
    · show old (rid s.m b) c = old (rid k.l b) c
      rw [mR h.kG,mR h.Ga,h.old c]
    · have:=@Cc k.l b;have:=h.len
      show (((rid k.l b).length:Nat):Int) ≤ k.room
      omega
theorem Jz {now ttl:Int}:dz now ttl < 0 ↔ zC now = false ∨ ttl < 0:=by
  unfold dz zC
  split
  · rename_i h
    simp only [decide_eq_true_eq] at h
    simp only [decide_eq_false_iff_not]
    constructor
    · intro h1;split at h1 <;> omega
    · rintro (h1 | h1) <;> omega
  · rename_i h
    simp only [decide_eq_true_eq] at h
    simp only [decide_eq_false_iff_not]
    constructor
    · intro _;omega
    · intro _;decide
theorem H7 {s:Sv} {k:Sr} (h:Rl s k) (hr:1 ≤ k.room) {now:Int} {x:Se} {r:Int}:(dz now x.ttl < 0 ∨ θ.set x.q x.t x.c x.d x.ttl = false ∨ r < 1 ∨ 5 < r) ↔ θ.arg k now x r:=by
  unfold Th.arg
  rw [Jz]
  constructor
  · rintro ((h1 | h1) | h1)
    · exact .inr (.inl h1)
    · exact .inr (.inr (.inl (by unfold Th.set;rw [decide_eq_false_iff_not];rintro ⟨-, -,h2, -⟩;omega)))
    · exact .inr (.inr h1)
  · rintro (h1 | h1 | h1)
    · omega
    · exact .inl (.inl h1)
    · exact .inr h1
theorem H8 {s:Sv} {k:Sr} (h:Rl s k) (hr:1 ≤ k.room) (now:Int) (x:Se) (r:Int):(gT θ s now x r).2 = (ni θ k now x r).2 ∧ Rl (gT θ s now x r).1 (ni θ k now x r).1:=by
  have hold:=h.old x.k
  by_cases ha:θ.arg k now x r
  · have hm:nN θ s now (x.it (dz now x.ttl) r) = 1:=by unfold nN;exact if_pos ((H7 h hr).mpr ha)
    have hs:gT θ s now x r = (s,1):=by unfold gT;simp only [hm];rfl
    rw [hs,kM ha];exact ⟨rfl,h⟩
  have ha':=fun e=>ha ((H7 (θ:=θ) h hr).mp e)
  cases hl:fE now (dz now x.ttl) with
  | false =>
    have hm:nN θ s now (x.it (dz now x.ttl) r) = 14:=by unfold nN;rw [if_neg ha',if_pos hl]
    have hs:gT θ s now x r = (s,14):=by unfold gT;simp only [hm];rfl
    rw [hs,wP ha hl];exact ⟨rfl,h⟩
  | true =>
  by_cases hov:∃ o,old k.l x.k = some o ∧ lG o.r (fE now o.u) r = false
  · obtain ⟨o,ho,hov⟩:=hov
    have hm:nN θ s now (x.it (dz now x.ttl) r) = 10:=by
      unfold nN;rw [if_neg ha',if_neg (by rw [hl];decide)]
      show (match old s.m x.k with | some o=>if lG o.r (fE now o.u) r = false then (10:Int) else 0 | none=>0) = 10
      rw [hold,ho];exact if_pos hov
    have hs:gT θ s now x r = (s,10):=by unfold gT;simp only [hm];rfl
    rw [hs,BR ha hl ho hov];exact ⟨rfl,h⟩
  have Y8:∀ o,old k.l x.k = some o → lG o.r (fE now o.u) r = true:=fun o ho=>by
    cases hv:lG o.r (fE now o.u) r with
    | true=>rfl
    | false=>exact absurd ⟨o,ho,hv⟩ hov
  have hm:nN θ s now (x.it (dz now x.ttl) r) = 0:=by
    unfold nN;rw [if_neg ha',if_neg (by rw [hl];decide)]
    show (match old s.m x.k with | some o=>if lG o.r (fE now o.u) r = false then (10:Int) else 0 | none=>0) = 0
    rw [hold]
    cases ho:old k.l x.k with
    | none=>rfl
    | some o=>exact if_neg (by rw [Y8 o ho];decide)
  rw [qj ha hl Y8 rfl]
  have hs:gT θ s now x r = (⟨s.room,((rR s.o x.k ++ [x.k]).take ((rR s.o x.k ++ [x.k]).length - s.room.toNat)).foldl rid (upd s.m (x.it (dz now x.ttl) r)),(rR s.o x.k ++ [x.k]).drop ((rR s.o x.k ++ [x.k]).length - s.room.toNat),s.ch + 1⟩,0):=by unfold gT;simp only [hm];rfl
  rw [hs]
  refine ⟨rfl,?_⟩
  generalize hit:x.it (dz now x.ttl) r = it
  have hkx:it.k = x.k:=by rw [← hit]
  have hit':(⟨x.q,x.t,x.c,x.d,x.ttl,dz now x.ttl,r⟩:It) = it:=hit
  rw [hit']
  have ht:rR s.o x.k ++ [x.k] = ks (rid k.l x.k ++ [it]):=by rw [h.ord,← F9 h.kG];simp [ks,hkx]
  rw [ht]
  have hnd:(ks (rid k.l x.k ++ [it])).Nodup:=Jy (lV h.kG) (by rw [hkx];exact qm h.kG)
  have hm1:∀ c,old (upd s.m it) c = old (rid k.l x.k ++ [it]) c:=fun c=>by
    rw [HV,tV (by rw [hkx];exact qm h.kG),hkx,mR h.kG,h.old c]
    by_cases hc:c = x.k <;> simp [hc]
  have hlen:=h.len
  have hl2:=@Cc k.l x.k
  generalize hL:rid k.l x.k ++ [it] = L at ht hnd hm1 ⊢
  have hLl:L.length = (rid k.l x.k).length + 1:=by rw [← hL];simp
  have hkl:(ks L).length = L.length:=by simp [ks]
  rw [hkl,h.room]
  by_cases hc:k.room < (L.length:Int)
  · have h1:L.length - k.room.toNat = 1:=by omega
    rw [h1]
    have hcut:tK k.room L = L.drop 1:=by unfold tK;exact if_pos hc
    rw [hcut]
    cases L with
    | nil=>simp at hLl
    | cons y L =>
      have hn:=List.nodup_cons.mp hnd
      refine ⟨h.room ▸ rfl,by show s.ch + 1 = k.ch + 1;rw [h.ch],rfl,hn.2,lV (ql h.Ga),fun c=>?_,?_⟩
      · show old (rid (upd s.m it) y.k) c = old L c
        rw [mR (ql h.Ga),hm1 c,tT]
        by_cases hy:c = y.k
        · subst hy;rw [if_pos rfl,BZ hn.1]
        · rw [if_neg hy,if_neg (fun e=>hy e.symm)]
      · simp only [List.length_cons] at hLl
        show ((L.length:Nat):Int) ≤ k.room
        omega
  · have h1:L.length - k.room.toNat = 0:=by omega
    rw [h1]
    have hcut:tK k.room L = L:=by unfold tK;exact if_neg hc
    rw [hcut]
    refine ⟨h.room ▸ rfl,by show s.ch + 1 = k.ch + 1;rw [h.ch],rfl,hnd,ql h.Ga,hm1,by show (L.length:Int) ≤ k.room;omega⟩
end Go.Proofs.Ytdkkgecdhapfhaa.Ka
set_option maxRecDepth 4000
namespace Go.Proofs.Ytdkkgecdhapfhaa.Ka
open Go Ev
variable {ext : Env} {F n:Nat} {θ:Th}
abbrev Op.v (o:Op):AV:=.agg [.f (.int .i64 o.o),.f (.int .i64 o.now),.f (.str o.q),.f (.int .i64 o.t),.f (.int .i64 o.c),.f (.sl (o.d.map fU)),.f (.int .i64 o.ttl),.f (.int .i64 o.r)]
abbrev Op.se (o:Op):Se:=⟨o.q,o.t,o.c,o.d,o.ttl⟩
end Go.Proofs.Ytdkkgecdhapfhaa.Ka
set_option maxRecDepth 4000
namespace Go.Proofs.Ytdkkgecdhapfhaa.Ka
open Go Ev
variable {ext : Env} {F n:Nat} {θ:Th}
structure Sz (i:Nat) (s:Sv):Prop where
  r:0 ≤ s.room ∧ s.room ≤ 1000000
  c:0 ≤ s.ch ∧ s.ch ≤ i
  o:s.o.length ≤ i
  m:s.m.length ≤ i
  d:∀ x ∈ s.m,x.d.length ≤ 1000000
theorem Pb {l:List It} {x:It}:(upd l x).length ≤ l.length + 1:=by
  rcases Cb l x with ⟨-,hu⟩ | ⟨a,y,c,rfl, -, -,hu⟩ <;> rw [hu] <;> simp
theorem Pf {l:List It} {x y:It} (h:y ∈ upd l x):y = x ∨ y ∈ l:=by
  rcases Cb l x with ⟨-,hu⟩ | ⟨a,z,c,rfl, -, -,hu⟩ <;> rw [hu] at h <;> simp at h ⊢
  · rcases h with h | h <;> simp [h]
  · rcases h with h | h | h <;> simp [h]
theorem yx : ∀ {g:List Qn} {l:List It},(g.foldl rid l).Sublist l
  | [],l=>List.Sublist.refl _
  | a :: g,l=>(yx (g:=g)).trans wR
theorem Sz.put {i:Nat} {s:Sv} (h:Sz i s) (now:Int) (x:Se) (r:Int) (hx:x.d.length ≤ 1000000):Sz (i + 1) (gT θ s now x r).1:=by
  have hc:=h.c
  have hq:=@tL s.o x.k
  have ho:=h.o
  have hm:=h.m
  have hu:=@Pb s.m (x.it (dz now x.ttl) r)
  unfold gT
  dsimp only
  split
  · exact ⟨h.r,by show 0 ≤ s.ch ∧ s.ch ≤ _;omega,by show s.o.length ≤ _;omega,by show s.m.length ≤ _;omega,h.d⟩
  · refine ⟨h.r,by show 0 ≤ s.ch + 1 ∧ s.ch + 1 ≤ _;omega,?_,?_,fun y hy=>?_⟩
    · show (List.drop _ _).length ≤ _
      rw [List.length_drop,List.length_append,List.length_singleton];omega
    · exact Nat.le_trans yx.length_le (by omega)
    · rcases Pf (yx.subset hy) with rfl | h1
      · exact hx
      · exact h.d y h1
theorem Md {l:List Op} {x:Op} (h:zD l = true) (hx:x ∈ l):x.q.size ≤ 1000000 ∧ x.d.length ≤ 1000000 ∧ ∀ y ∈ x.d,y.size ≤ 1000000:=by
  have h1:=List.all_eq_true.mp h x hx
  unfold pq Ei at h1
  rw [Bool.and_eq_true,List.all_eq_true,decide_eq_true_eq] at h1
  refine ⟨by omega,?_,fun y hy=>?_⟩
  · cases hd:x.d with
    | nil=>simp
    | cons y d =>
      have:=h1.1 y (by rw [hd];simp)
      simp only [Bool.and_eq_true,decide_eq_true_eq] at this
      rw [hd] at this;omega
  · have:=h1.1 y hy
    simp only [Bool.and_eq_true,decide_eq_true_eq] at this
    omega
end Go.Proofs.Ytdkkgecdhapfhaa.Ka
set_option maxRecDepth 4000
namespace Go.Proofs.Ytdkkgecdhapfhaa.Ka
open Go Ev
variable {ext : Env} {F n:Nat} {θ:Th}
theorem Ew : ∀ {g:List Qn} {l:List It} {b:Qn} {x:It},(ks l).Nodup → old (g.foldl rid l) b = some x → old l b = some x
  | [],_,_,_,_,h=>h
  | a :: g,l,b,x,hn,h=>by
    have h1:=Ew (g:=g) (lV hn) h
    rw [mR hn] at h1
    split at h1
    · cases h1
    · exact h1
theorem U6 {b:Qn} {l:List Se} {x:Se}:nw b (l ++ [x]) = if x.k = b then some x else nw b l:=by
  unfold nw;rw [List.foldl_append];rfl
abbrev It.se (x:It):Se:=⟨x.q,x.t,x.c,x.d,x.ttl⟩
structure Bd (room:Int) (last:List Se) (s:Sv):Prop where
  rl:∃ k,Rl s k ∧ k.room = room
  r1:1 ≤ room
  fit:∀ b x,old s.m b = some x → nw b last = some x.se
theorem U7 {s:Sv} {now:Int} {x:Se} {r:Int}:((gT θ s now x r).2 ≠ 0 ∧ (gT θ s now x r).1 = s) ∨ ((gT θ s now x r).2 = 0 ∧ ∃ g:List Qn,(gT θ s now x r).1.m = g.foldl rid (upd s.m (x.it (dz now x.ttl) r))):=by
  unfold gT
  dsimp only
  split
  · rename_i h;exact .inl ⟨h,rfl⟩
  · exact .inr ⟨rfl,_,rfl⟩
theorem JA {room:Int} {l:List It} {x:It} (hr:1 ≤ room) (h:x.k ∉ ks l):old (tK room (l ++ [x])) x.k = some x:=by
  unfold tK
  split
  · rename_i hc
    cases l with
    | nil=>simp at hc;omega
    | cons y l =>
      simp only [List.cons_append,List.drop_succ_cons,List.drop_zero]
      rw [tV (fun hm=>h (List.mem_cons_of_mem _ hm)),if_pos rfl]
  · rw [tV h,if_pos rfl]
theorem Me {k:Sr} {now:Int} {x:Se} {r:Int} (h:(ni θ k now x r).2 = 0):fE now (dz now x.ttl) = true ∧ (ni θ k now x r).1.l = tK k.room (rid k.l x.k ++ [x.it (dz now x.ttl) r]):=by
  by_cases ha:θ.arg k now x r
  · rw [kM ha] at h;cases h
  cases hl:fE now (dz now x.ttl) with
  | false=>rw [wP ha hl] at h;cases h
  | true =>
    refine ⟨rfl,?_⟩
    by_cases hov:∃ o,old k.l x.k = some o ∧ lG o.r (fE now o.u) r = false
    · obtain ⟨o,ho,hov⟩:=hov
      rw [BR ha hl ho hov] at h;cases h
    · rw [qj ha hl (fun o ho=>by
        cases hv:lG o.r (fE now o.u) r with
        | true=>rfl
        | false=>exact absurd ⟨o,ho,hv⟩ hov) rfl]
theorem Bd.put {room:Int} {last:List Se} {s:Sv} (h:Bd room last s) (now:Int) (x:Se) (r:Int) :
    ((gT θ s now x r).2 ≠ 0 ∧ (gT θ s now x r).1 = s) ∨ ((gT θ s now x r).2 = 0 ∧ Bd room (last ++ [x]) (gT θ s now x r).1 ∧ oF (gT θ s now x r).1 now x.k = (x.it (dz now x.ttl) r,true)):=by
  rcases U7 (θ:=θ) (s:=s) (now:=now) (x:=x) (r:=r) with h1 | ⟨h1,g,hg⟩
  · exact .inl h1
  · refine .inr ⟨h1,?_,?_⟩
    all_goals obtain ⟨k,hk,hkr⟩:=h.rl
    all_goals obtain ⟨e1,e2⟩:=H8 (θ:=θ) hk (by rw [hkr];exact h.r1) now x r
    · refine ⟨⟨_,e2,?_⟩,h.r1,fun b y hy=>?_⟩
      · rw [h1] at e1
        have h3:=Me e1.symm
        rw [← hkr]
        unfold ni
        split
        · rfl
        · split
          · rfl
          · split <;> first | rfl | (split <;> rfl)
      · rw [hg] at hy
        have h2:=Ew (ql hk.Ga) hy
        rw [HV] at h2
        rw [U6]
        split at h2
        · rename_i hb
          cases h2
          subst hb
          rw [if_pos rfl]
        · rename_i hb
          rw [if_neg (fun e=>hb e.symm)]
          exact h.fit b y h2
    · rw [h1] at e1
      obtain ⟨h2,h3⟩:=Me e1.symm
      have h4:old (gT θ s now x r).1.m x.k = some (x.it (dz now x.ttl) r):=by
        rw [e2.old,h3]
        exact JA (x:=x.it (dz now x.ttl) r) (by rw [hkr];exact h.r1) (qm hk.kG)
      unfold oF
      rw [h4]
      simp [h2]
theorem Bd.get {room:Int} {last:List Se} {s:Sv} (h:Bd room last s) (now:Int) (b:Qn):Bd room last (tQ s now b).1:=by
  obtain ⟨k,hk,hkr⟩:=h.rl
  refine ⟨⟨_,(H6 hk now b).2,?_⟩,h.r1,fun c x hx=>h.fit c x ?_⟩
  · rw [← hkr];unfold lN;split
    · split <;> rfl
    · rfl
  · unfold tQ at hx
    split at hx
    · split at hx <;> exact hx
    · exact hx
theorem Bd.o {room:Int} {last:List Se} {s:Sv} (h:Bd room last s):s.o.Nodup ∧ (s.o.length:Int) ≤ room:=by
  obtain ⟨k,hk,hkr⟩:=h.rl
  rw [hk.ord]
  exact ⟨hk.kG,by have:=hk.len;rw [hkr] at this;simpa [ks] using this⟩
theorem Sz.get {i:Nat} {s:Sv} (h:Sz i s) (now:Int) (b:Qn):Sz (i + 1) (tQ s now b).1:=by
  have hc:=h.c
  have hq:=@tL s.o b
  have ho:=h.o
  have hm:=h.m
  have same:Sz (i + 1) s:=⟨h.r,by omega,by omega,by omega,h.d⟩
  unfold tQ
  split
  · split
    · exact ⟨h.r,by show 0 ≤ s.ch ∧ s.ch ≤ _;omega,by show (rR s.o b ++ [b]).length ≤ _;rw [List.length_append,List.length_singleton];omega,by show s.m.length ≤ _;omega,h.d⟩
    · exact same
  · exact same
end Go.Proofs.Ytdkkgecdhapfhaa.Ka
set_option maxRecDepth 4000
namespace Go.Proofs.Ytdkkgecdhapfhaa.Ka
open Go Ev
variable {ext : Env} {F n:Nat} {θ:Th}
theorem Sz.up {i:Nat} {s:Sv} (h:Sz i s):Sz (i + 1) s:=by
  have hc:=h.c
  have ho:=h.o
  have hm:=h.m
  exact ⟨h.r,by omega,by omega,by omega,h.d⟩
theorem Sz.drop {i:Nat} {s:Sv} (h:Sz i s) (b:Qn):Sz (i + 1) (nM s b).1:=by
  have hc:=h.c
  have hq:=@tL s.o b
  have ho:=h.o
  have hm:=h.m
  have hr:=@Cc s.m b
  unfold nM
  split
  · exact ⟨h.r,by show 0 ≤ s.ch + 1 ∧ s.ch + 1 ≤ _;omega,by show (rR s.o b).length ≤ _;omega,by show (rid s.m b).length ≤ _;omega,fun x hx=>h.d x (wR.subset hx)⟩
  · exact h.up
theorem yA (x:It):G ext F (n + 1) 23 [x.v] = some ([x.v],[x.v]):=OZ x.q x.t x.c x.d x.ttl x.u x.r
theorem Ce (x:It) (h:x.d.length ≤ 1000000) (hF:200000000000001 ≤ F):G ext F (n + 3) 22 [x.v,x.v] = some ([vb true],[x.v,x.v]):=by
  have:=UQ (ext:=ext) (F:=F) (n:=n) x.q x.t x.c x.d x.ttl x.u x.r x.q x.t x.c x.d x.ttl x.u x.r (by omega) hF
  simpa using this
set_option maxHeartbeats 16000000 in
theorem Gb (T:θ.Ok ext) (Q:Et θ ext) (C:rP ext) (L:θ.Live) (hF:200000000000001 ≤ F) (room:Int) (l:List Op) (hl:l.length ≤ 200000000000000) (hd:∀ x ∈ l,x.d.length ≤ 200000000000000):G ext F (n + 8) 3 [vi room,vl (l.map rO)] = some ([vb true],[vi room,vl (l.map rO)]):=by
  refine d9 (cf:=c3) rfl ?_
  have hs:=fun n=>F7 (ext:=ext) (F:=F) (n:=n) l 60 hl hd hF
  have hv:=fun n=>L9 (F:=F) (n:=n) Q C L hF
  have hn:=fun n=>BU (ext:=ext) (F:=F) (n:=n) room
  have hrn:=fun n=>O5 (ext:=ext) (F:=F) (n:=n) room
  cases hf:zD l && decide ((l.length:Int) ≤ 60) with
  | false =>
    rw [hf] at hs
    simp only [c3,hs,hv,go_sem,Nat.reduceAdd,Nat.reduceMul,Nat.reduceEqDiff,Nat.reduceBEq,Nat.reduceMod,Nat.reduceDiv,↓reduceIte,reduceCtorEq]
  | true =>
    rw [hf] at hs
    have Y9:zD l = true ∧ l.length ≤ 60:=by
      rw [Bool.and_eq_true,decide_eq_true_eq] at hf
      exact ⟨hf.1,by omega⟩
    by_cases hr:room < 1 ∨ 1000 < room
    · rw [if_pos hr,tO] at hn
      rw [if_pos hr] at hrn
      simp only [c3,hs,hv,hn,hrn,go_sem,Nat.reduceAdd,Nat.reduceMul,Nat.reduceEqDiff,Nat.reduceBEq,Nat.reduceMod,Nat.reduceDiv,↓reduceIte,reduceCtorEq]
      refine LV l.length (fun x:Nat=>⟨[(1,PV.c (CV.one (PL.f (FV.sl (List.map rO l))))),(5,PV.c (CV.one PL.iK)),(6,PV.c (CV.one (PL.ptr 140000 0))),(7,PV.c (CV.one (PL.f (FV.int IntKind.i64 x))))],[(140000,Ob.lU [PL.f (FV.int IntKind.i64 0),PL.f (FV.sl []),PL.f (FV.int IntKind.i64 0)])]⟩) (fun i x=>x = i) (by omega) 0 rfl rfl (fun i x hi hP=>?_) (fun x hP=>?_)
      · subst hP
        obtain ⟨x,hx,hlt,ht,h0⟩:=at_ hi
        have hn':=nx hi (Nat.le_trans hl (by decide))
        obtain ⟨z1,z2,z3⟩:=Md Y9.1 (List.mem_of_getElem? hx)
        have k1:=fun n=>yw (ext:=ext) (F:=F) (n:=n) C none (by rintro s ⟨⟩)
        have k2:=fun n=>og (ext:=ext) (F:=F) (n:=n) none
        have k3:=fun n=>Hr (ext:=ext) (F:=F) (n:=n) 0 [] 0 (by decide) hF
        have k4:=fun n=>Ej (ext:=ext) (F:=F) (n:=n) [] [] (by decide) hF
        have p1:=fun n=>O7 (F:=F) (n:=n) Q x.now x.se x.r
        have p2:=fun n=>Hy (F:=F) (n:=n) T ⟨0,[],0⟩ x.now x.se x.r (by decide) hF (by decide) z1 z2 z3
        have g1:=fun n=>LY (ext:=ext) (F:=F) (n:=n) x.now x.se.k
        have g2:=fun n=>Hw (ext:=ext) (F:=F) (n:=n) ⟨0,[],0⟩ x.now x.se.k (by decide) hF
        have e1:=fun n=>Ak (ext:=ext) (F:=F) (n:=n) x.now x.se.k
        have e2:=fun n=>yj (ext:=ext) (F:=F) (n:=n) ⟨0,[],0⟩ x.now x.se.k (by decide) hF
        have d1:=fun n=>Jw (ext:=ext) (F:=F) (n:=n) x.se.k
        have d2:=fun n=>Em (ext:=ext) (F:=F) (n:=n) ⟨0,[],0⟩ x.se.k (by decide) hF (by decide)
        have t1:=fun n=>yA (ext:=ext) (F:=F) (n:=n) Df
        have t2:=fun n=>Ce (ext:=ext) (F:=F) (n:=n) Df (by decide) hF
        rw [kM (show θ.arg ⟨0,[],0⟩ x.now x.se x.r from .inl rfl)] at p2
        rw [Hu (by rfl)] at g2
        rw [yc (by rfl)] at e2
        rw [show mQ ⟨0,[],0⟩ x.se.k = (⟨0,[],0⟩,false) from rfl] at d2
        rw [tO] at k1 k2
        simp only [List.map_nil,decide_true,Sr.v,Kw] at k1 k3 k4 p2 g2 e2 d2
        have hz:decide ((1:Int) = 1) = true:=rfl
        by_cases c0:x.o = 0
        · have c0':decide (x.o = 0) = true:=decide_eq_true c0
          simp only [List.length_map,List.getElem?_map,hlt,hx,ht,h0,hn',rO,k1,k2,k3,k4,p1,p2,c0',go_sem,Nat.reduceAdd,Nat.reduceMul,Nat.reduceEqDiff,Nat.reduceBEq,Nat.reduceMod,Nat.reduceDiv,↓reduceIte,reduceCtorEq]
          exact ⟨_,rfl,rfl⟩
        by_cases c1:x.o = 1
        · have c0':decide (x.o = 0) = false:=decide_eq_false c0
          have c1':decide (x.o = 1) = true:=decide_eq_true c1
          simp only [List.length_map,List.getElem?_map,hlt,hx,ht,h0,hn',rO,k1,k2,k3,k4,g1,g2,t1,t2,c0',c1',go_sem,Nat.reduceAdd,Nat.reduceMul,Nat.reduceEqDiff,Nat.reduceBEq,Nat.reduceMod,Nat.reduceDiv,↓reduceIte,reduceCtorEq]
          exact ⟨_,rfl,rfl⟩
        by_cases c2:x.o = 2
        · have c0':decide (x.o = 0) = false:=decide_eq_false c0
          have c1':decide (x.o = 1) = false:=decide_eq_false c1
          have c2':decide (x.o = 2) = true:=decide_eq_true c2
          simp only [List.length_map,List.getElem?_map,hlt,hx,ht,h0,hn',rO,k1,k2,k3,k4,e1,e2,t1,t2,c0',c1',c2',go_sem,Nat.reduceAdd,Nat.reduceMul,Nat.reduceEqDiff,Nat.reduceBEq,Nat.reduceMod,Nat.reduceDiv,↓reduceIte,reduceCtorEq]
          exact ⟨_,rfl,rfl⟩
        by_cases c3:x.o = 3
        · have c0':decide (x.o = 0) = false:=decide_eq_false c0
          have c1':decide (x.o = 1) = false:=decide_eq_false c1
          have c2':decide (x.o = 2) = false:=decide_eq_false c2
          have c3':decide (x.o = 3) = true:=decide_eq_true c3
          simp only [List.length_map,List.getElem?_map,hlt,hx,ht,h0,hn',rO,k1,k2,k3,k4,d1,d2,c0',c1',c2',c3',go_sem,Nat.reduceAdd,Nat.reduceMul,Nat.reduceEqDiff,Nat.reduceBEq,Nat.reduceMod,Nat.reduceDiv,↓reduceIte,reduceCtorEq]
          exact ⟨_,rfl,rfl⟩
        · have c0':decide (x.o = 0) = false:=decide_eq_false c0
          have c1':decide (x.o = 1) = false:=decide_eq_false c1
          have c2':decide (x.o = 2) = false:=decide_eq_false c2
          have c3':decide (x.o = 3) = false:=decide_eq_false c3
          simp only [List.length_map,List.getElem?_map,hlt,hx,ht,h0,hn',rO,k1,k2,k3,k4,c0',c1',c2',c3',go_sem,Nat.reduceAdd,Nat.reduceMul,Nat.reduceEqDiff,Nat.reduceBEq,Nat.reduceMod,Nat.reduceDiv,↓reduceIte,reduceCtorEq]
          exact ⟨_,rfl,rfl⟩
      · subst hP
        have hd':=@end_ _ l
        simp only [List.length_map,hd',hv,go_sem,Nat.reduceAdd,Nat.reduceMul,Nat.reduceEqDiff,Nat.reduceBEq,Nat.reduceMod,Nat.reduceDiv,↓reduceIte,reduceCtorEq]
    · rw [if_neg hr,tN] at hn
      rw [if_neg hr] at hrn
      have h0:decide (room = 0) = false:=by simp;omega
      simp only [c3,hs,hv,hn,hrn,h0,go_sem,Nat.reduceAdd,Nat.reduceMul,Nat.reduceEqDiff,Nat.reduceBEq,Nat.reduceMod,Nat.reduceDiv,↓reduceIte,reduceCtorEq]
      refine LV l.length (fun x:Nat × Sv × Sr=>⟨[(1,PV.c (CV.one (PL.f (FV.sl (List.map rO l))))),(5,PV.c (CV.one (PL.ptr 560200 0))),(6,PV.c (CV.one (PL.ptr 140000 0))),(7,PV.c (CV.one (PL.f (FV.int IntKind.i64 x.1))))],[(140000,Ob.lU [PL.f (FV.int IntKind.i64 x.2.2.room),PL.f (FV.sl (x.2.2.l.map rI)),PL.f (FV.int IntKind.i64 x.2.2.ch)]),(560200,Ob.lU [PL.f (FV.int IntKind.i64 x.2.1.room),PL.mp 560204,PL.f (FV.sl (x.2.1.o.map rQ)),PL.f (FV.int IntKind.i64 x.2.1.ch)]),(560204,Ob.map shQ (x.2.1.m.map ent))]⟩) (fun i x=>x.1 = i ∧ Sz i x.2.1 ∧ Rl x.2.1 x.2.2 ∧ 1 ≤ x.2.2.room) (by omega) (0,⟨room,[],[],0⟩,⟨room,[],0⟩) rfl ⟨rfl,⟨by show 0 ≤ room ∧ room ≤ _;omega,⟨Int.le_refl _,Int.le_refl _⟩,Nat.le_refl _,Nat.le_refl _,by simp⟩,⟨rfl,rfl,rfl,List.nodup_nil,List.nodup_nil,fun _=>rfl,by simp;omega⟩,by show 1 ≤ room;omega⟩ (fun i x hi hP=>?_) (fun x hP=>?_)
      · obtain ⟨i',s,k⟩:=x
        obtain ⟨rfl,hsz,hrl,hk1⟩:=hP
        obtain ⟨x,hx,hlt,ht,h0⟩:=at_ hi
        have hn':=nx hi (Nat.le_trans hl (by decide))
        obtain ⟨z1,z2,z3⟩:=Md Y9.1 (List.mem_of_getElem? hx)
        have hc:=hsz.c
        have ho:=hsz.o
        have hm:=hsz.m
        simp only at hsz hrl hk1 hc ho hm hi hlt ht h0 hn' ⊢
        have lk:∀ {s' k'},Rl s' k' → k'.l.length = s'.o.length:=fun h=>by rw [h.ord];simp [ks]
        have hkl:=lk hrl
        have hkc:0 ≤ k.ch ∧ k.ch ≤ 1000000000000:=by rw [← hrl.ch];omega
        have hkd:∀ y,old k.l x.se.k = some y → y.d.length ≤ 1000000:=fun y hy=>hsz.d y (Ca ((hrl.old x.se.k).trans hy)).2
        have after:∀ s' k',Sz (i' + 1) s' → Rl s' k' → (∀ n,G ext F (n + 2) 29 [s'.v] = some ([vl (s'.o.map rQ)],[s'.v])) ∧ (∀ n,G ext F (n + 1) 31 [s'.v] = some ([vi k'.ch],[s'.v])) ∧ (∀ n,G ext F (n + 1) 30 [k'.v] = some ([vl (s'.o.map rQ)],[k'.v])) ∧ (∀ n,G ext F (n + 1) 28 [vl (s'.o.map rQ),vl (s'.o.map rQ)] = some ([vb true],[vl (s'.o.map rQ),vl (s'.o.map rQ)])):=by
          intro s' k' h1 h2
          have h4:=h1.o
          refine ⟨fun n=>yw C (some s') (by rintro _ ⟨⟩;omega),fun n=>?_,fun n=>?_,fun n=>?_⟩
          · have:=og (ext:=ext) (F:=F) (n:=n) (some s')
            rw [← h2.ch];exact this
          · have:=Hr (ext:=ext) (F:=F) (n:=n) k'.room k'.l k'.ch (by have:=lk h2;omega) hF
            rw [h2.ord];exact this
          · have:=Ej (ext:=ext) (F:=F) (n:=n) s'.o s'.o (by omega) hF
            rwa [decide_eq_true rfl] at this
        have cc:∀ c:Int,x.o ≠ c → decide (x.o = c) = false:=fun c h=>decide_eq_false h
        by_cases c0:x.o = 0
        · have c0':decide (x.o = 0) = true:=decide_eq_true c0
          obtain ⟨e1,e2⟩:=H8 (θ:=θ) hrl hk1 x.now x.se x.r
          have hz:=hsz.put (θ:=θ) x.now x.se x.r z2
          obtain ⟨k1,k2,k3,k4⟩:=after _ _ hz e2
          have p1:=fun n=>rT (F:=F) (n:=n) Q s x.now x.se x.r hsz.r (by omega) (by omega) (by omega) z1 z2 z3
          have p2:=fun n=>Hy (F:=F) (n:=n) T k x.now x.se x.r (by omega) hF hkc z1 z2 z3
          rw [e1] at p1
          have hr2:1 ≤ (ni θ k x.now x.se x.r).1.room:=by rw [← e2.room,show (gT θ s x.now x.se x.r).1.room = s.room from by unfold gT;dsimp only;split <;> rfl,hrl.room];exact hk1
          have b1:decide ((ni θ k x.now x.se x.r).2 = (ni θ k x.now x.se x.r).2) = true:=decide_eq_true rfl
          have b2:decide ((ni θ k x.now x.se x.r).1.ch = (ni θ k x.now x.se x.r).1.ch) = true:=decide_eq_true rfl
          have hch:=e2.ch
          simp only [Sv.v,Sr.v,Kw,hch] at p1 p2 k1 k2 k3
          simp only [List.length_map,List.getElem?_map,hlt,hx,ht,h0,hn',rO,k1,k2,k3,k4,p1,p2,c0',b1,b2,go_sem,Nat.reduceAdd,Nat.reduceMul,Nat.reduceEqDiff,Nat.reduceBEq,Nat.reduceMod,Nat.reduceDiv,↓reduceIte,reduceCtorEq]
          exact ⟨(i' + 1,(gT θ s x.now x.se x.r).1,(ni θ k x.now x.se x.r).1),by simp [hch],rfl,hz,e2,hr2⟩
        by_cases c1:x.o = 1
        · have c0':=cc 0 c0
          have c1':decide (x.o = 1) = true:=decide_eq_true c1
          obtain ⟨e1,e2⟩:=H6 hrl x.now x.se.k
          have hz:=hsz.get x.now x.se.k
          obtain ⟨k1,k2,k3,k4⟩:=after _ _ hz e2
          have g1:=fun n=>LZ (F:=F) (n:=n) C s x.now x.se.k hsz.d (by omega) hF
          have g2:=fun n=>Hw (ext:=ext) (F:=F) (n:=n) k x.now x.se.k (by omega) hF
          rw [e1] at g1
          have hit:(lN k x.now x.se.k).2.1.d.length ≤ 1000000:=by
            unfold lN
            cases hy:old k.l x.se.k with
            | none=>show (0:Nat) ≤ _;omega
            | some y=>dsimp only;split;exact hkd y hy;show (0:Nat) ≤ _;omega
          have hr2:1 ≤ (lN k x.now x.se.k).1.room:=by unfold lN;split;split <;> exact hk1;exact hk1
          have t1:=fun n=>yA (ext:=ext) (F:=F) (n:=n) (lN k x.now x.se.k).2.1
          have t2:=fun n=>Ce (ext:=ext) (F:=F) (n:=n) (lN k x.now x.se.k).2.1 hit hF
          have b1:decide ((lN k x.now x.se.k).2.2 = (lN k x.now x.se.k).2.2) = true:=decide_eq_true rfl
          have b2:decide ((lN k x.now x.se.k).1.ch = (lN k x.now x.se.k).1.ch) = true:=decide_eq_true rfl
          have hch:=e2.ch
          simp only [Sv.v,Sr.v,Kw,hch] at g1 g2 k1 k2 k3
          simp only [List.length_map,List.getElem?_map,hlt,hx,ht,h0,hn',rO,k1,k2,k3,k4,g1,g2,t1,t2,c0',c1',b1,b2,go_sem,Nat.reduceAdd,Nat.reduceMul,Nat.reduceEqDiff,Nat.reduceBEq,Nat.reduceMod,Nat.reduceDiv,↓reduceIte,reduceCtorEq]
          exact ⟨(i' + 1,(tQ s x.now x.se.k).1,(lN k x.now x.se.k).1),by simp [hch],rfl,hz,e2,hr2⟩
        by_cases c2:x.o = 2
        · have c0':=cc 0 c0
          have c1':=cc 1 c1
          have c2':decide (x.o = 2) = true:=decide_eq_true c2
          have e1:=Ma hrl x.now x.se.k
          have hz:=hsz.up
          obtain ⟨k1,k2,k3,k4⟩:=after _ _ hz hrl
          have g1:=fun n=>wQ (F:=F) (n:=n) C s x.now x.se.k hsz.d
          have g2:=fun n=>yj (ext:=ext) (F:=F) (n:=n) k x.now x.se.k (by omega) hF
          rw [e1] at g1
          have hit:(lH k x.now x.se.k).1.d.length ≤ 1000000:=by
            unfold lH
            cases hy:old k.l x.se.k with
            | none=>show (0:Nat) ≤ _;omega
            | some y=>dsimp only;split;exact hkd y hy;show (0:Nat) ≤ _;omega
          have t1:=fun n=>yA (ext:=ext) (F:=F) (n:=n) (lH k x.now x.se.k).1
          have t2:=fun n=>Ce (ext:=ext) (F:=F) (n:=n) (lH k x.now x.se.k).1 hit hF
          have b1:decide ((lH k x.now x.se.k).2 = (lH k x.now x.se.k).2) = true:=decide_eq_true rfl
          have b2:decide (k.ch = k.ch) = true:=decide_eq_true rfl
          have hch:=hrl.ch
          simp only [Sv.v,Sr.v,Kw,hch] at g1 g2 k1 k2 k3
          simp only [List.length_map,List.getElem?_map,hlt,hx,ht,h0,hn',rO,k1,k2,k3,k4,g1,g2,t1,t2,c0',c1',c2',b1,b2,hch,go_sem,Nat.reduceAdd,Nat.reduceMul,Nat.reduceEqDiff,Nat.reduceBEq,Nat.reduceMod,Nat.reduceDiv,↓reduceIte,reduceCtorEq]
          exact ⟨(i' + 1,s,k),by simp [hch],rfl,hz,hrl,hk1⟩
        by_cases c3:x.o = 3
        · have c0':=cc 0 c0
          have c1':=cc 1 c1
          have c2':=cc 2 c2
          have c3':decide (x.o = 3) = true:=decide_eq_true c3
          obtain ⟨e1,e2⟩:=Mc hrl x.se.k
          have hz:=hsz.drop x.se.k
          obtain ⟨k1,k2,k3,k4⟩:=after _ _ hz e2
          have g1:=fun n=>BX (F:=F) (n:=n) C s x.se.k (by omega) (by omega) hF
          have g2:=fun n=>Em (ext:=ext) (F:=F) (n:=n) k x.se.k (by omega) hF hkc
          rw [e1] at g1
          have hr2:1 ≤ (mQ k x.se.k).1.room:=by unfold mQ;split <;> exact hk1
          have b1:decide ((mQ k x.se.k).2 = (mQ k x.se.k).2) = true:=decide_eq_true rfl
          have b2:decide ((mQ k x.se.k).1.ch = (mQ k x.se.k).1.ch) = true:=decide_eq_true rfl
          have hch:=e2.ch
          simp only [Sv.v,Sr.v,Kw,hch] at g1 g2 k1 k2 k3
          simp only [List.length_map,List.getElem?_map,hlt,hx,ht,h0,hn',rO,k1,k2,k3,k4,g1,g2,c0',c1',c2',c3',b1,b2,go_sem,Nat.reduceAdd,Nat.reduceMul,Nat.reduceEqDiff,Nat.reduceBEq,Nat.reduceMod,Nat.reduceDiv,↓reduceIte,reduceCtorEq]
          exact ⟨(i' + 1,(nM s x.se.k).1,(mQ k x.se.k).1),by simp [hch],rfl,hz,e2,hr2⟩
        · have c0':=cc 0 c0
          have c1':=cc 1 c1
          have c2':=cc 2 c2
          have c3':=cc 3 c3
          have hz:=hsz.up
          obtain ⟨k1,k2,k3,k4⟩:=after _ _ hz hrl
          have hch:=hrl.ch
          simp only [Sv.v,Sr.v,Kw,hch] at k1 k2 k3
          simp only [List.length_map,List.getElem?_map,hlt,hx,ht,h0,hn',rO,k1,k2,k3,k4,c0',c1',c2',c3',hch,go_sem,Nat.reduceAdd,Nat.reduceMul,Nat.reduceEqDiff,Nat.reduceBEq,Nat.reduceMod,Nat.reduceDiv,↓reduceIte,reduceCtorEq]
          exact ⟨(i' + 1,s,k),by simp [hch],rfl,hz,hrl,hk1⟩
      · obtain ⟨i',s,k⟩:=x
        obtain ⟨rfl,hsz,hrl,hk1⟩:=hP
        have hd':=@end_ _ l
        simp only [List.length_map,hd',hv,go_sem,Nat.reduceAdd,Nat.reduceMul,Nat.reduceEqDiff,Nat.reduceBEq,Nat.reduceMod,Nat.reduceDiv,↓reduceIte,reduceCtorEq]
end Go.Proofs.Ytdkkgecdhapfhaa.Ka
namespace Go.Proofs.Ytdkkgecdhapfhaa.Ev
open Go Go.RowKit
def Za : SV → TV
  | .int k n=>.f (.int k n)
  | .bool b=>.f (.bool b)
  | .str s=>.f (.str s)
def Mf (l:List SV):List AV:=l.map fun x=>.one (Za x)
section
variable {P : Program} {Fz:Nat → Prop} {w:World}
theorem H9 {x:SV} {v:Value} {bs:List Nat}:nJ Fz w (Za x) v bs ↔ v = encS x ∧ bs = []:=by
  cases x <;> simp only [Za,nJ,fu,encS]
theorem Ey : ∀ {l:List SV} {vs:List Value} {bs:List Nat},fP Fz w (Mf l) vs bs → vs = l.map encS ∧ bs = []
  | [],[],_,h=>⟨rfl,h⟩
  | [],_ :: _,_,h=>h.elim
  | _ :: _,[],_,h=>h.elim
  | x :: l,v :: vs,_,⟨b1,b2,h1,h2,e⟩=>by
    obtain ⟨e1,e2⟩:=H9.mp h1
    obtain ⟨e3,e4⟩:=Ey (l:=l) h2
    subst e1;subst e2;subst e3;subst e4
    exact ⟨rfl,by rw [e];rfl⟩
theorem yB : ∀ {l:List SV},fP Fz w (Mf l) (l.map encS) []
  | []=>rfl
  | x :: l=>⟨[],[],H9.mpr ⟨rfl,rfl⟩,yB (l:=l),rfl⟩
theorem Sat.xg {f:FuncId} {g:List AV → Option (List AV × List AV)} (h:∀ gK r,g gK = some r → ∃ ZZ9 rs:List SV,gK = Mf ZZ9 ∧ r = (Mf rs,Mf ZZ9) ∧
    ∀ w:World,Calls P f (ZZ9.map encS).toArray w fun e w'=>e = .returned (ret (rs.map encS)) ∧ Below w.heap.size w w'):Sat P f g:=by
  intro gK rs sw hg Fz w vals bs ha hnd hap hfz
  obtain ⟨ZZ9,rs',rfl,e,hc⟩:=h gK _ hg
  cases e
  obtain ⟨rfl,rfl⟩:=Ey ha
  refine (hc w).mono fun e w' ⟨h1,hb'⟩=>?_
  exact ⟨Fz,rs'.map encS,[],[],h1,fun _ h=>h,fun b hb=>⟨Nat.lt_of_lt_of_le (hfz b hb) hb'.size,.inl hb⟩,hb'.size,fun b hb _=>hb'.block b hb,⟨hb'.os,hb'.output⟩,yB,yB,by simp,fun b hb=>by simp at hb⟩
def q8 : List (FuncId × (List AV → Option (List AV × List AV))) → Env
  | []=>fun _ _=>none
  | (k,g) :: l=>fun f gK=>if k = f then g gK else q8 l f gK
theorem yC : ∀ {l:List (FuncId × (List AV → Option (List AV × List AV)))},(∀ p ∈ l,Sat P p.1 p.2) → iT P (q8 l)
  | [],_=>fun f gK rs sw h=>by cases h
  | (k,g) :: l,h=>fun f gK rs sw he=>by
    unfold q8 at he
    split at he
    · rename_i e;subst e;exact h (k,g) (by simp) gK rs sw he
    · exact yC (fun p hp=>h p (List.mem_cons_of_mem _ hp)) f gK rs sw he
theorem rU : ∀ {l:List (FuncId × (List AV → Option (List AV × List AV)))},(∀ p ∈ l,∃ fn,P.funcs[p.1]? = some fn ∧ (fn.name == "runtime.NumGoroutine") = false ∧ fn.body.isSome = true) → eT P (q8 l)
  | [],_=>fun f gK r h=>by cases h
  | (k,g) :: l,h=>fun f gK r he=>by
    unfold q8 at he
    split at he
    · rename_i e;subst e;exact h (k,g) (by simp)
    · exact rU (fun p hp=>h p (List.mem_cons_of_mem _ hp)) f gK r he
end
end Go.Proofs.Ytdkkgecdhapfhaa.Ev
namespace Go.Proofs.Ytdkkgecdhapfhaa.Ev
open Go
def R8 (n:Nat) (ks:List Nat):Nat → Bool:=fun d=>decide (d < n) && !ks.contains d
noncomputable def Mg (Γ:Env) (F:Nat) (ca cb:CC) (s:Nat) (D:St → Option St) (cf:CF) (gK:List AV):Option (List AV × List AV) :=
  if gK.length ≠ cf.np then none else (enter cf.bo 0 [] ⟨[],[]⟩ gK).bind fun e=>(ev Γ F ca e.2).bind fun p=>match p.1 with
    | .jv=>(ev Γ F cb ⟨put p.2.tm s (.c (.one .any)),p.2.ob⟩).bind fun q=>match q.1 with
      | .ext _=>none
      | _=>(D q.2).bind fun t=>(kK t e.1 gK).bind fun b=>(slots b.2 cf.res).bind fun l=>(nE cf.ro b.2 l).map fun r=>(r.1,b.1)
    | _=>none
section
variable {P : Program} {Γ:Env} {bI Fz bK:Nat → Prop} {w0 w w':World} {bH bs:List Nat} {N:Fr} {F:Nat} {κ jy:Nat → Value} {σ fK σ':St} {a:Act} {X:Hx}
theorem Ok.reN (h:Ok bI w0 bH N jy σ a w) (N':Fr) (hn:N'.n = N.n) (hfs:∀ d,N'.ok d = false → a.tmps.getD d undef = N'.vs d):Ok bI w0 bH N' jy σ { a with defers:=N'.ds } w:=by
  obtain ⟨Fz,κ,h,hk⟩:=h
  exact ⟨Fz,κ,⟨h.tm,h.sz.trans hn.symm,rfl,hfs,h.ob,h.vO,h.pos,h.fz,h.zm,h.big,h.ext,h.kp⟩,hk⟩
theorem Gc (hm:P.follows .mixedOrders = true) (heq:∀ t ∈ X.eqs,lM P t) (mI:iT P Γ) (hC:eT P Γ) {f g:FuncId} {fn gn:Func} {a1 a2 r:Code} {id s c1 c2 t1 t2:Nat} {p1 p2:String} {F4 F5:Array Edge} (hf:P.funcs[f]? = some fn)
    (hb:fn.body = some (.seq a1 (.seq a2 (.seq (.region id #[{ dst:=some s,op:=.makeFunc (.func g) #[] #[.tmp c1,.tmp c2],type:=t1,pos:=p1,after:=F4,guard:=none },{ dst:=none,op:=.defer { callee:=.value (.tmp s),args:=#[],argTypes:=#[] },type:=t2,pos:=p2,after:=F5,guard:=none }] false) r))))
    (hg:P.funcs[g]? = some gn) (hgn:(gn.name == "runtime.NumGoroutine") = false) (hgb:gn.body.isSome = true) {cf:CF} {ca cb:CC} {ha hb' ra rb:List Hi}
    (hca:comp P X (Te fn.ntmps) (.seq a1 a2) ha = some (ca,ra)) (hcb:comp P X (R8 fn.ntmps [c1,c2]) r hb' = some (cb,rb)) (hr:mO P fn.results.toList = some cf.res) (hnp:cf.np ≤ fn.ntmps) (hs:s < fn.ntmps) (hs1:c1 ≠ s) (hs2:c2 ≠ s) {D:St → Option St}
    (hD:∀ (bI:Nat → Prop) (w0:World) (bH:List Nat) (N:Fr) (jy:Nat → Value) (σ σ':St) (a:Act) (w:World),Ok bI w0 bH N jy σ a w → D σ = some σ' → CallsD P g #[a.tmps.getD c1 undef,a.tmps.getD c2 undef] .returning w fun e u w'=>u = .returning ∧ (∃ v,e = .returned v) ∧ Ok bI w0 bH N jy σ' a w')
    (F:Nat):Sat P f (Mg Γ F ca cb s D cf):=by
  intro gK rs sw hE Fz w vals bs V4 hnd hap hfz
  unfold Mg at hE
  split at hE
  · cases hE
  rename_i hlen
  have hlen':gK.length = cf.np:=Decidable.not_not.mp hlen
  have hvl:vals.length = gK.length:=V4.len
  obtain ⟨e,h1,hE⟩:=zbm hE
  obtain ⟨p,h2,hE⟩:=zbm hE
  refine calls_of_wp_defers hf hb ?_
  have hsz:(vals.toArray ++ Array.replicate (fn.ntmps - vals.toArray.size) undef).size = fn.ntmps:=by simp;omega
  obtain ⟨jy,hok,g2⟩:=entered (bo:=cf.bo) V4 hnd hap hfz hsz h1
  cases hp:p.1 with
  | ext i=>rw [hp] at hE;cases hE
  | ret=>rw [hp] at hE;cases hE
  | jv =>
  rw [hp] at hE
  obtain ⟨q,h3,hEq⟩:=zbm hE
  obtain ⟨x1,hx1,hx2⟩:=zbm hca
  obtain ⟨x2,hx3,hx4⟩:=zmm hx2
  cases hx4
  obtain ⟨y1,hy1,hy2⟩:=zbm h2
  have hyn:y1.1 = .jv ∧ ev Γ F x2.1 y1.2 = some p:=by
    cases hy:y1.1 with
    | jv=>rw [hy] at hy2;exact ⟨rfl,hy2⟩
    | ext i=>rw [hy] at hy2;cases hy2;cases hp
    | ret=>rw [hy] at hy2;cases hy2;cases hp
  obtain ⟨hy3,hy4⟩:=hyn
  refine wp_seq (DW hm heq mI hC a1 hx1 hok hy1 fun b1 u1 k1=>?_)
  rw [hy3]
  refine wp_seq (DW hm heq mI hC a2 hx3 k1 hy4 fun b2 u2 k2=>?_)
  rw [hp]
  refine wp_seq ?_
  have hmk:∀ v1 v2:Value,(Instr.makeFunc (.func g) #[] #[v1,v2]).run P u2 = .ok (.func (.func g) #[] #[v1,v2]) u2:=fun _ _=>rfl
  obtain ⟨v1,hv1⟩:∃ v,v = b2.tmps.getD c1 undef:=⟨_,rfl⟩
  obtain ⟨v2,hv2⟩:∃ v,v = b2.tmps.getD c2 undef:=⟨_,rfl⟩
  obtain ⟨b3,hb3⟩:∃ b,b = b2.put (some s) (.func (.func g) #[] #[v1,v2]):=⟨_,rfl⟩
  have hdef:b2.defers = []:=by obtain ⟨_,_,hr2,_⟩:=k2;exact hr2.kG
  have hsz2:b2.tmps.size = fn.ntmps:=by obtain ⟨_,_,hr2,_⟩:=k2;exact hr2.sz
  have hk3:Ok Fz w bs (Fr.of fn.ntmps) jy ⟨put p.2.tm s (.c (.one .any)),p.2.ob⟩ b3 u2:=by
    obtain ⟨F2,FJ,hr2,hk2⟩:=k2
    rw [hb3]
    exact ⟨F2,FJ,hr2.put (by simpa [Fr.of,Te] using hs) (pv:=.c (.one .any)) trivial,hk2⟩
  have hts:∀ d,d ≠ s → b3.tmps.getD d undef = b2.tmps.getD d undef:=fun d hd=>by
    rw [hb3]
    simp only [Act.put,Array.getD_eq_getD_getElem?,Array.getElem?_setIfInBounds]
    rw [if_neg (fun e=>hd e.symm)]
  obtain ⟨N1,hN1⟩:∃ N:Fr,N = ⟨fn.ntmps,[{ target:=.fn (.func g) #[v1,v2],args:=#[] }],R8 fn.ntmps [c1,c2],fun d h=>by simp [R8] at h;omega,fun d=>b3.tmps.getD d undef⟩:=⟨_,rfl⟩
  have hk4:=hk3.reN N1 (by rw [hN1];rfl) (fun d _=>by rw [hN1])
  refine wp_region_lit (l:=[_,_]) ?_
  unfold wpList
  rw [if_pos (show Region.wanted _ _ = true from rfl)]
  left
  have r1:(execOp b2.eval { dst:=some s,op:=.makeFunc (.func g) #[] #[.tmp c1,.tmp c2],type:=t1,pos:=p1,after:=F4,guard:=none }).run P u2 = .ok (.value (.func (.func g) #[] #[v1,v2])) u2:=by
    unfold execOp
    simp [Act.eval,hmk,← hv1,← hv2]
  unfold Oper.wp
  rw [r1]
  show wpList P _ _ _ (b2.put (some s) _) u2
  rw [← hb3]
  unfold wpList
  rw [if_pos (show Region.wanted _ _ = true from rfl)]
  left
  have r2:(execOp b3.eval { dst:=none,op:=.defer { callee:=.value (.tmp s),args:=#[],argTypes:=#[] },type:=t2,pos:=p2,after:=F5,guard:=none }).run P u2 = .ok (.defer { target:=.fn (.func g) #[v1,v2],args:=#[] }) u2:=by
    have hvs:b3.eval (.tmp s) = .func (.func g) #[] #[v1,v2]:=by
      rw [hb3]
      simp only [Act.eval,Act.put,Array.getD_eq_getD_getElem?,Array.getElem?_setIfInBounds]
      rw [if_pos trivial,if_pos (by rw [hsz2];exact hs)]
      rfl
    unfold execOp resolve
    simp only [hvs]
    simp [Deferred.ofValue]
  unfold Oper.wp
  rw [r2]
  show wpList P _ _ _ { b3 with defers:={ target:=.fn (.func g) #[v1,v2],args:=#[] } :: b3.defers } u2
  unfold wpList
  show r.wp P _ _ _
  have hd3:b3.defers = []:=by rw [hb3];exact hdef
  rw [hd3]
  rw [hN1] at hk4
  refine DW hm heq mI hC r hcb hk4 h3 fun b4 u4 k4=>?_
  have hkeep:∀ d,(d = c1 ∨ d = c2) → b4.tmps.getD d undef = b3.tmps.getD d undef:=fun d hd=>by
    obtain ⟨_,_,hr4,_⟩:=k4
    exact hr4.fs d (by simp [R8];rcases hd with rfl | rfl <;> simp)
  have hds:b4.defers = [{ target:=.fn (.func g) #[v1,v2],args:=#[] }]:=by obtain ⟨_,_,hr4,_⟩:=k4;exact hr4.kG
  have fin:(∃ t,D q.2 = some t ∧ ((kK t e.1 gK).bind fun b=>(slots b.2 cf.res).bind fun l=>(nE cf.ro b.2 l).map fun r=>(r.1,b.1)) = some (rs,sw)) → Leaves P fn b4.tmps (fun e w'=>∃ bK uZ b1 b2,e = .returned (ret uZ) ∧ Post Fz w vals bs rs sw bK w' uZ b1 b2) b4.defers .returning u4:=by
    rintro ⟨t,d1,d2⟩
    rw [hds]
    refine leaves_cons (f:=g) (args:=#[v1,v2]) (by simp) ?_ ?_
    · show (callFunc g (#[] ++ #[v1,v2])).run P u4 = _
      rw [oD hg hgn hgb]
      simp
    · have hcd:=hD Fz w bs _ jy q.2 t b4 u4 k4 d1
      rw [hkeep c1 (.inl rfl),hkeep c2 (.inr rfl),hts c1 hs1,hts c2 hs2,← hv1,← hv2] at hcd
      refine hcd.mono ?_
      rintro e' u' w' ⟨rfl,⟨v,rfl⟩,k5⟩
      show Leaves P fn b4.tmps _ [] (settle .returning) w'
      obtain ⟨_,v',g3,g4⟩:=Lr hr V4 hap hfz g2 b4 w' k5 d2
      exact ⟨v',g3,g4⟩
  cases hq:q.1 with
  | ext i=>rw [hq] at hEq;cases hEq
  | jv =>
    rw [hq] at hEq
    obtain ⟨t,d1,d2⟩:=zbm hEq
    exact fin ⟨t,d1,d2⟩
  | ret =>
    rw [hq] at hEq
    obtain ⟨t,d1,d2⟩:=zbm hEq
    exact fin ⟨t,d1,d2⟩
noncomputable def Zb (Γ:Env) (F:Nat) (cc:CC) (c1 c2:Nat) (σ:St):Option St:=match get σ.tm c1,get σ.tm c2 with
  | some x,some y=>(ev Γ F cc ⟨[(0,x),(1,y)],σ.ob⟩).bind fun p=>match p.1 with
    | .ext _=>none
    | _=>(get p.2.tm 0).map fun z=>⟨[(c1,z)],p.2.ob⟩
  | _,_=>none
theorem U8 (hm:P.follows .mixedOrders = true) (heq:∀ t ∈ X.eqs,lM P t) (mI:iT P Γ) (hC:eT P Γ) {g:FuncId} {gn:Func} {c:Code} {cc:CC} {h1 h2:List Hi} {c1 c2:Nat} (hg:P.funcs[g]? = some gn) (hb:gn.body = some c) (hc:comp P X (R8 gn.ntmps [0]) c h1 = some (cc,h2)) (hr:gn.results = #[]) (hn:2 ≤ gn.ntmps) (F:Nat)
    (bI:Nat → Prop) (w0:World) (bH:List Nat) (N:Fr) (jy:Nat → Value) (σ σ':St) (a:Act) (w:World) (hO:Ok bI w0 bH N jy σ a w) (hd:Zb Γ F cc c1 c2 σ = some σ') :
    CallsD P g #[a.tmps.getD c1 undef,a.tmps.getD c2 undef] .returning w fun e u w'=>u = .returning ∧ (∃ v,e = .returned v) ∧ Ok bI w0 bH N jy σ' a w':=by
  unfold Zb at hd
  split at hd
  · rename_i x y hx hy
    obtain ⟨p,h3,hd⟩:=zbm hd
    obtain ⟨b0,hb0⟩:∃ b:Act,b = { tmps:=#[a.tmps.getD c1 undef,a.tmps.getD c2 undef] ++ Array.replicate (gn.ntmps - 2) undef,defers:=[] }:=⟨_,rfl⟩
    have e0:b0.tmps.getD 0 undef = a.tmps.getD c1 undef:=by rw [hb0];simp [Array.getD_eq_getD_getElem?,Array.getElem?_append]
    have e1:b0.tmps.getD 1 undef = a.tmps.getD c2 undef:=by rw [hb0];simp [Array.getD_eq_getD_getElem?,Array.getElem?_append]
    obtain ⟨N',hN'⟩:∃ N:Fr,N = ⟨gn.ntmps,[],R8 gn.ntmps [0],fun d h=>by simp [R8] at h;omega,fun d=>b0.tmps.getD d undef⟩:=⟨_,rfl⟩
    have DV:Ok bI w0 bH N' jy ⟨[(0,x),(1,y)],σ.ob⟩ b0 w:=by
      obtain ⟨Fz,κ,hr,hk⟩:=hO
      refine ⟨Fz,κ,⟨fun p hp=>?_,by rw [hb0,hN'];simp;omega,by rw [hb0,hN'],fun d _=>by rw [hN'],hr.ob,hr.vO,hr.pos,hr.fz,hr.zm,hr.big,hr.ext,hr.kp⟩,hk⟩
      simp only [List.mem_cons,List.not_mem_nil,or_false] at hp
      rcases hp with rfl | rfl
      · rw [e0];exact hr.val hx
      · rw [e1];exact hr.val hy
    have main:∀ b u,Ok bI w0 bH N' jy p.2 b u → (∃ z,get p.2.tm 0 = some z ∧ σ' = ⟨[(c1,z)],p.2.ob⟩) → b.defers = [] ∧ ∃ v,(results gn b.tmps).run P u = .ok v u ∧ (∃ v',Ending.returned v = .returned v') ∧ Ok bI w0 bH N jy σ' a u:=by
      rintro b u ⟨Fz,κ,hr2,hk2⟩ ⟨z,hz,rfl⟩
      refine ⟨by have:=hr2.kG;rw [this,hN'],.tuple #[],?_,⟨_,rfl⟩,?_⟩
      · unfold results
        rw [hr]
        simp
      · obtain ⟨_,_,hr,_⟩:=hO
        refine ⟨Fz,κ,⟨fun p hp=>?_,hr.sz,hr.kG,hr.fs,hr2.ob,hr2.vO,hr2.pos,hr2.fz,hr2.zm,hr2.big,hr2.ext,hr2.kp⟩,hk2⟩
        simp only [List.mem_cons,List.not_mem_nil,or_false] at hp
        subst hp
        have h5:b.tmps.getD 0 undef = N'.vs 0:=hr2.fs 0 (by rw [hN'];simp [R8])
        have h6:N'.vs 0 = a.tmps.getD c1 undef:=by rw [hN'];exact e0
        show jw Fz κ u z (a.tmps.getD c1 undef)
        rw [← h6,← h5]
        exact hr2.val hz
    refine callsD_of_wp hg hb ?_
    have hst:({ tmps:=#[a.tmps.getD c1 undef,a.tmps.getD c2 undef] ++ Array.replicate (gn.ntmps - (#[a.tmps.getD c1 undef,a.tmps.getD c2 undef]:Array Value).size) undef,defers:=[] }:Act) = b0:=by rw [hb0];rfl
    rw [hst]
    rw [hN'] at DV
    refine DW hm heq mI hC c hc DV h3 fun b u hk=>?_
    rw [← hN'] at hk
    cases hp:p.1 with
    | ext i=>rw [hp] at hd;cases hd
    | jv =>
      rw [hp] at hd
      obtain ⟨z,hz,rfl⟩:=zmm hd
      exact main b u hk ⟨z,hz,rfl⟩
    | ret =>
      rw [hp] at hd
      obtain ⟨z,hz,rfl⟩:=zmm hd
      exact main b u hk ⟨z,hz,rfl⟩
  · cases hd
end
end Go.Proofs.Ytdkkgecdhapfhaa.Ev
set_option maxRecDepth 4000
namespace Go.Proofs.Ytdkkgecdhapfhaa.Ev
open Go
section
variable {Γ : Env} {F s c1 c2:Nat} {ca cb cc:CC} {D:St → Option St} {cf:CF} {gK:List AV} {σ:St}
@[go_sem ↓] theorem aeG {k:List AV × List AV → Prop} {u:Tok k}:W k u (Mg Γ F ca cb s D cf gK) ↔ gK.length = cf.np ∧ W (fun e=>W (fun p=>p.1 = .jv ∧ W (fun t=>W (fun q=>(∀ id,q.1 ≠ .ext id) ∧ W (fun t=>W (fun b=>W (fun l=>W (fun r=>k (r.1,b.1)) ⟨⟩ (nE cf.ro b.2 l)) ⟨⟩ (slots b.2 cf.res)) ⟨⟩ (kK t e.1 gK)) ⟨⟩ (D q.2)) ⟨⟩ (ev Γ F cb t)) ⟨⟩ (some ⟨put p.2.tm s (.c (.one .any)),p.2.ob⟩)) ⟨⟩ (ev Γ F ca e.2)) ⟨⟩ (enter cf.bo 0 [] ⟨[],[]⟩ gK):=by
  simp only [Mg,dU,dH,bB,bJ,ne_eq,Decidable.not_not]
  refine and_congr Iff.rfl (dI fun e=>dI fun p=>?_)
  obtain ⟨o,σ'⟩:=p
  cases o with
  | jv =>
    simp only [true_and,bB]
    refine dI fun q=>?_
    obtain ⟨o,σ'⟩:=q
    cases o with
    | ext i=>simp [jX]
    | jv=>simp only [reduceCtorEq,not_false_eq_true,implies_true,true_and,bB,bZ]
    | ret=>simp only [reduceCtorEq,not_false_eq_true,implies_true,true_and,bB,bZ]
  | ext i=>simp [jX]
  | ret=>simp [jX]
def ds0 (ob:List (Nat × Ob)):Option PV → Option PV → Option St
  | some x,some y=>some ⟨[(0,x),(1,y)],ob⟩
  | _,_=>none
@[go_sem] theorem Zc {ob:List (Nat × Ob)} {x y:PV}:ds0 ob (some x) (some y) = some ⟨[(0,x),(1,y)],ob⟩:=rfl
@[go_sem ↓] theorem af3 {k:St → Prop} {u:Tok k}:W k u (Zb Γ F cc c1 c2 σ) ↔ W (fun t=>W (fun p=>(∀ id,p.1 ≠ .ext id) ∧ W (fun z=>k ⟨[(c1,z)],p.2.ob⟩) ⟨⟩ (get p.2.tm 0)) ⟨⟩ (ev Γ F cc t)) ⟨⟩ (ds0 σ.ob (get σ.tm c1) (get σ.tm c2)):=by
  unfold Zb ds0
  cases h1:get σ.tm c1 with
  | none=>simp only [dU,jX]
  | some x =>
    cases h2:get σ.tm c2 with
    | none=>simp only [dU,jX,bJ]
    | some y =>
      simp only [dU,bJ,bB]
      refine dI fun p=>?_
      obtain ⟨o,σ'⟩:=p
      cases o with
      | ext i=>simp [jX]
      | jv=>simp only [ne_eq,reduceCtorEq,not_false_eq_true,implies_true,true_and,bZ]
      | ret=>simp only [ne_eq,reduceCtorEq,not_false_eq_true,implies_true,true_and,bZ]
end
end Go.Proofs.Ytdkkgecdhapfhaa.Ev
namespace Go.Proofs.Ytdkkgecdhapfhaa.Ka
open Go Ev
variable {ext : Env} {F n:Nat} {θ:Th}
def pA : CC:=(.seq (.reg [⟨(some 4),none,(.box 25 (.t 0))⟩,⟨(some 6),none,(.box 35 (.t 2))⟩,⟨(some 8),none,(.alloc 38 [(.f (.int .i64 0))])⟩] [1,3,4,6,8]) (.qR [⟨⟨(some 14),none,(.load 5 true (.t 6))⟩,[200000]⟩,⟨⟨(some 15),none,(.mv (.t 1))⟩,[200000]⟩,⟨⟨(some 16),none,(.fa 4 (.t 6))⟩,[200000]⟩,⟨⟨(some 17),none,(.load 1 false (.t 16))⟩,[200000]⟩,⟨⟨(some 18),none,(.call false 62 [(.t 15),(.t 17)])⟩,[200000]⟩,⟨⟨(some 19),none,(.mv (.t 3))⟩,[200000]⟩,⟨⟨(some 20),none,(.build [(.f (.str ⟨#[]⟩)),(.f (.int .i64 0)),(.f (.int .i64 0)),.fC,(.f (.int .i64 0)),(.f (.int .i64 0)),(.f (.int .i64 0))] [⟨0,⟨5,(.t 14)⟩⟩,⟨5,⟨1,(.t 18)⟩⟩,⟨6,⟨1,(.t 19)⟩⟩])⟩,[200000]⟩,⟨⟨(some 9),none,(.alloc 46 [(.f (.str ⟨#[]⟩)),(.f (.int .i64 0)),(.f (.int .i64 0)),.fC,(.f (.int .i64 0)),(.f (.int .i64 0)),(.f (.int .i64 0))])⟩,[]⟩] [] [] [⟨none,none,(.store 7 (.t 9) (.t 20))⟩] [1,4,6,8,9]))
def pB : CC:=(.seq (.seq (.reg [⟨(some 22),none,(.load 1 false (.t 4))⟩,⟨(some 23),none,(.mv (.t 1))⟩,⟨(some 24),none,(.load 7 true (.t 9))⟩,⟨(some 25),none,(.call false 64 [(.t 22),(.t 23),(.t 24)])⟩,⟨none,none,(.store 1 (.t 8) (.t 25))⟩] [4,6,8,9]) (.seq (.reg [⟨(some 26),none,(.load 1 false (.t 8))⟩,⟨(some 27),none,(.cmp .ne (.t 26) (.k (.one (.f (.int .i64 0)))))⟩] [4,6,8,9,27]) (.cond (.t 27) (.seq (.reg [⟨(some 28),none,(.load 1 false (.t 8))⟩,⟨none,none,(.store 1 (.t 8) (.t 28))⟩] [4,8]) .ret) .skip))) (.seq (.qR [⟨⟨(some 29),none,(.load 1 false (.t 4))⟩,[]⟩,⟨⟨(some 30),none,(.lg (.t 29))⟩,[]⟩,⟨⟨(some 31),none,(.fa 1 (.t 30))⟩,[]⟩,⟨⟨(some 32),none,(.load 1 false (.t 31))⟩,[]⟩,⟨⟨(some 33),none,(.fa 0 (.t 6))⟩,[]⟩,⟨⟨(some 34),none,(.load 3 true (.t 33))⟩,[]⟩,⟨⟨(some 35),none,(.load 7 true (.t 9))⟩,[]⟩,⟨⟨(some 36),none,(.call false 65 [(.t 35)])⟩,[]⟩] [] [] [⟨none,none,(.Bc (.agg [.str,(.int .i64),(.int .i64)]) (.t 32) (.t 34) (.t 36))⟩] [4,6,8]) (.seq (.qR [⟨⟨(some 38),none,(.load 1 false (.t 4))⟩,[]⟩,⟨⟨(some 39),none,(.lg (.t 38))⟩,[]⟩,⟨⟨(some 40),none,(.fa 2 (.t 39))⟩,[]⟩,⟨⟨(some 41),none,(.load 1 false (.t 40))⟩,[]⟩,⟨⟨(some 42),none,(.fa 0 (.t 6))⟩,[]⟩,⟨⟨(some 43),none,(.load 3 true (.t 42))⟩,[]⟩,⟨⟨(some 44),none,(.call false 67 [(.t 41),(.t 43)])⟩,[]⟩,⟨⟨(some 45),none,(.load 1 false (.t 4))⟩,[]⟩,⟨⟨(some 46),none,(.lg (.t 45))⟩,[]⟩,⟨⟨(some 47),none,(.fa 0 (.t 46))⟩,[]⟩,⟨⟨(some 48),none,(.load 1 false (.t 47))⟩,[]⟩,⟨⟨(some 49),none,(.call false 66 [(.t 44),(.t 48)])⟩,[]⟩,⟨⟨(some 37),none,(.mv (.t 49))⟩,[]⟩,⟨⟨(some 50),none,(.ext (.t 37) 0)⟩,[]⟩,⟨⟨(some 51),none,(.ext (.t 37) 1)⟩,[]⟩,⟨⟨(some 10),none,(.mv (.t 50))⟩,[]⟩] [] [] [⟨(some 11),none,(.mv (.t 51))⟩] [4,8,10,11]) (.seq (.seq (.reg [⟨(some 52),none,(.mv (.t 11))⟩,⟨(some 53),none,(.iB (.t 52))⟩,⟨(some 54),none,(.mv (.k (.one (.f (.int .i64 0)))))⟩] [4,8,10,52,53,54]) (.block 0 (.loop [4,8,10,52,53,54] [20201,20205,20208,100000,180000,530002,530004,530006,530008,530010,530012,530014,530016,530202,530204,530206,530208,530210,530212,530214,530216,530402,530404,530406,530408,530410,530412,530414,530416,530602,530604,530606,530608,530610,530612,530614,530616,530802,530804,530806,530808,530810,530812,530814,530816,531002,531004,531006,531008,531010,531012,531014,531016,1000200,1002200] [] (.seq (.reg [⟨(some 55),none,(.cmp .lt (.t 54) (.t 53))⟩] [4,8,10,52,53,54,55]) (.seq (.cond (.t 55) .skip (.exit 0)) (.seq (.block 1 (.seq (.reg [⟨(some 56),none,(.ia 3 (.t 52) (.t 54))⟩,⟨(some 57),none,(.load 3 true (.t 56))⟩,⟨(some 13),none,(.alloc 32 [(.f (.str ⟨#[]⟩)),(.f (.int .i64 0)),(.f (.int .i64 0))])⟩,⟨none,none,(.store 3 (.t 13) (.t 57))⟩] [4,8,10,13,52,53,54]) (.qR [⟨⟨(some 58),none,(.load 1 false (.t 4))⟩,[]⟩,⟨⟨(some 59),none,(.lg (.t 58))⟩,[]⟩,⟨⟨(some 60),none,(.fa 1 (.t 59))⟩,[]⟩,⟨⟨(some 61),none,(.load 1 false (.t 60))⟩,[]⟩,⟨⟨(some 62),none,(.load 3 true (.t 13))⟩,[]⟩] [] [] [⟨none,none,(.del (.agg [.str,(.int .i64),(.int .i64)]) (.t 61) (.t 62))⟩] [4,8,10,52,53,54]))) (.reg [⟨(some 63),none,(.ar .add (.t 54) (.k (.one (.f (.int .i64 1)))))⟩,⟨(some 54),none,(.mv (.t 63))⟩] [4,8,10,52,53,54]))))))) (.seq (.reg [⟨(some 64),none,(.load 1 false (.t 4))⟩,⟨(some 65),none,(.mv (.t 10))⟩,⟨(some 66),none,(.lg (.t 64))⟩,⟨(some 67),none,(.fa 2 (.t 66))⟩,⟨none,none,(.store 1 (.t 67) (.t 65))⟩] [4,8]) (.seq (.reg [⟨none,none,(.store 1 (.t 8) (.k (.one (.f (.int .i64 0)))))⟩] [4,8]) .ret))))))
def Mh : CF:=⟨4,[(.cell 8 1 false)],[],[],.skip⟩
def Zd : CF:=⟨2,[],[],[],(.seq (.reg [⟨(some 2),none,(.load 1 false (.t 0))⟩,⟨(some 3),none,(.cmp .eq (.t 2) (.k (.one (.f (.int .i64 0)))))⟩] [0,1,3]) (.cond (.t 3) (.reg [⟨(some 4),none,(.load 1 false (.t 1))⟩,⟨(some 5),none,(.lg (.t 4))⟩,⟨(some 6),none,(.fa 3 (.t 5))⟩,⟨(some 7),none,(.load 1 false (.t 6))⟩,⟨(some 8),none,(.ar .add (.t 7) (.k (.one (.f (.int .i64 1)))))⟩,⟨(some 9),none,(.lg (.t 4))⟩,⟨(some 10),none,(.fa 3 (.t 9))⟩,⟨none,none,(.store 1 (.t 10) (.t 8))⟩] [0]) .skip))⟩
noncomputable abbrev vR (ext:Env) (F n:Nat):List AV → Option (List AV × List AV):=Mg (G ext F n) F pA pB 21 (Zb (G ext F n) F Zd.body 8 4) Mh
theorem Mj (now:Int) (x:Se) (r:Int):vR ext F (n + 9) [.one .iK,vi now,x.v,vi r] = some ([vi 1],[.one .iK,vi now,x.v,vi r]):=by
  refine Lv ?_
  have hu:=fun n=>Ec (ext:=ext) (F:=F) (n:=n) now x.ttl
  have hm:=fun n=>L6 (ext:=ext) (F:=F) (n:=n) now (x.it (dz now x.ttl) r)
  simp only [vR,pA,pB,Mh,Zd,hu,hm,Int.reduceEq,go_sem,Nat.reduceAdd,Nat.reduceMul,Nat.reduceEqDiff,Nat.reduceBEq,Nat.reduceMod,Nat.reduceDiv,↓reduceIte,reduceCtorEq]
theorem Mk (T:θ.Ok ext) (C:rP ext) (s:Sv) (now:Int) (x:Se) (r:Int) (hF:200000000000001 ≤ F) (h1:0 ≤ s.room ∧ s.room ≤ 1000000) (h2:0 ≤ s.ch ∧ s.ch ≤ 1000000000000) (h3:s.o.length ≤ 100000) (h4:x.q.size ≤ 1000000) (h5:x.d.length ≤ 1000000) (h6:∀ y ∈ x.d,y.size ≤ 1000000):vR ext F (n + 9) [s.v,vi now,x.v,vi r] = some ([vi (gT θ s now x r).2],[(gT θ s now x r).1.v,vi now,x.v,vi r]):=by
  refine Lv ?_
  have hu:=fun n=>Ec (ext:=ext) (F:=F) (n:=n) now x.ttl
  have hm:=fun n=>U4 (F:=F) (n:=n) T s now (x.it (dz now x.ttl) r) hF h4 h5 h6
  by_cases h0:nN θ s now (x.it (dz now x.ttl) r) = 0
  · have hw:IntKind.i64.wrap (s.ch + 1) = s.ch + 1:=F6 (by omega) (by omega)
    have hcl:=fun n=>Es (ext:=ext) (F:=F) (n:=n) C (x.it (dz now x.ttl) r) h5
    have hq:=@tL s.o x.k
    have ht:=fun n=>Ep (ext:=ext) (F:=F) (n:=n) C s.o x.k (by omega) hF
    have hc:=fun n=>U1 (ext:=ext) (F:=F) (n:=n) C (rR s.o x.k ++ [x.k]) s.room (by simp;omega) (by omega) hF
    have hup:=LX s.m (x.it (dz now x.ttl) r)
    simp only [kq,rI] at hup
    rw [h0] at hm
    have he:gT θ s now x r = (⟨s.room,((rR s.o x.k ++ [x.k]).take ((rR s.o x.k ++ [x.k]).length - s.room.toNat)).foldl rid (upd s.m (x.it (dz now x.ttl) r)),(rR s.o x.k ++ [x.k]).drop ((rR s.o x.k ++ [x.k]).length - s.room.toNat),s.ch + 1⟩,0):=by
      unfold gT
      simp only [ne_eq,h0,not_true_eq_false,if_false]
    rw [he]
    generalize hqt:rR s.o x.k ++ [x.k] = t at ht hc ⊢
    generalize t.drop (t.length - s.room.toNat) = td at hc ⊢
    generalize htt:t.take (t.length - s.room.toNat) = tt at hc ⊢
    have htl:tt.length ≤ 1000000:=by rw [← htt,List.length_take,← hqt,List.length_append,List.length_singleton];omega
    generalize hM:upd s.m (x.it (dz now x.ttl) r) = M at hup ⊢
    simp only [vR,pA,pB,Mh,Zd,hu,hm,Int.reduceEq,hcl,ht,hc,hup,hw,go_sem,Nat.reduceAdd,Nat.reduceMul,Nat.reduceEqDiff,Nat.reduceBEq,Nat.reduceMod,Nat.reduceDiv,↓reduceIte,reduceCtorEq]
    refine nY tt.length (fun i=>⟨[(4,PV.c (CV.one (PL.ptr 100000 0))),(8,PV.c (CV.one (PL.ptr 180000 0))),(10,PV.c (CV.one (PL.f (FV.sl (List.map rQ td))))),(52,PV.c (CV.one (PL.f (FV.sl (List.map rQ tt))))),(53,PV.c (CV.one (PL.f (FV.int IntKind.i64 ↑(List.map rQ tt).length)))),(54,PV.c (CV.one (PL.f (FV.int IntKind.i64 i))))],[(20201,Ob.lU [PL.f (FV.int IntKind.i64 s.room),PL.mp 530004,PL.f (FV.sl (List.map rQ s.o)),PL.f (FV.int IntKind.i64 s.ch)]),(100000,Ob.lU [PL.ptr 20201 0]),(180000,Ob.lU [PL.f (FV.int IntKind.i64 0)]),(530004,Ob.map shQ (((tt.take i).foldl rid M).map ent))]⟩) (fun _=>True) (by omega) rfl trivial (fun i hi _=>?_) (fun _=>?_)
    · obtain ⟨k,hx,hlt,hit,h00⟩:=at_ hi
      have hn':=nx hi (by omega)
      have hdl:=Er ((tt.take i).foldl rid M) k
      have hfo:(tt.take (i + 1)).foldl rid M = rid ((tt.take i).foldl rid M) k:=by rw [List.take_add_one,hx,List.foldl_append];rfl
      simp only [List.length_map,List.getElem?_map,hlt,hx,hit,h00,hn',rQ,hdl,go_sem,Nat.reduceAdd,Nat.reduceMul,Nat.reduceEqDiff,Nat.reduceBEq,Nat.reduceMod,Nat.reduceDiv,↓reduceIte,reduceCtorEq]
      rw [hfo]
    · have hd:=@end_ _ tt
      simp only [List.length_map,hd,hw,List.take_length,Int.reduceEq,go_sem,Nat.reduceAdd,Nat.reduceMul,Nat.reduceEqDiff,Nat.reduceBEq,Nat.reduceMod,Nat.reduceDiv,↓reduceIte,reduceCtorEq]
      done
  · have he:gT θ s now x r = (s,nN θ s now (x.it (dz now x.ttl) r)):=by
      unfold gT
      simp only [ne_eq,h0,not_false_eq_true,if_true]
    rw [he]
    simp only [vR,pA,pB,Mh,Zd,hu,hm,Int.reduceEq,h0,go_sem,Nat.reduceAdd,Nat.reduceMul,Nat.reduceEqDiff,Nat.reduceBEq,Nat.reduceMod,Nat.reduceDiv,↓reduceIte,reduceCtorEq]
end Go.Proofs.Ytdkkgecdhapfhaa.Ka
namespace Go.Proofs.Ytdkkgecdhapfhaa.Ev
open Go
def Gd (P:Program):List Field → Nat → Bool
  | [],_=>true
  | f :: fs,i=>(f.name != "_") && (f.offset == i) && (Fp P f.type).isSome && Gd P fs (i + 1)
def okT (P:Program) (t:TypeId):Bool:=!P.eqGuardType P.depth t && match P.underlying t with
  | some (.struct fs)=>!P.stoodInHeld t && Gd P fs.toList 0
  | some (.int _)=>true
  | some .string=>true
  | some .bool=>true
  | _=>false
section
variable {P : Program} {t:TypeId} {w:World}
theorem vo {k:SK} (h:Fp P t = some k):(∃ i,P.underlying t = some (.int i) ∧ k = .int i) ∨ (P.underlying t = some .bool ∧ k = .bool) ∨ (P.underlying t = some .string ∧ k = .str):=by
  unfold Fp at h
  split at h <;> simp_all
theorem R9 {d:Nat} {k:SK} (h:Fp P t = some k) {a b:SV} (ha:a.sk = k) (hb:b.sk = k):(Op.equalIn (d + 1) t (encS a) (encS b)).run P w = .ok (decide (a = b)) w:=by
  rcases vo h with ⟨i,hu,rfl⟩ | ⟨hu,rfl⟩ | ⟨hu,rfl⟩
  · cases a <;> cases b <;> simp_all [SV.sk,encS,Op.equalIn,run_underlying hu]
    rw [Bool.eq_iff_iff];simp
  · cases a <;> cases b <;> simp_all [SV.sk,encS,Op.equalIn,run_underlying hu]
    rw [Bool.eq_iff_iff];simp
  · cases a <;> cases b <;> simp_all [SV.sk,encS,Op.equalIn,run_underlying hu]
    exact Mq.uT _ _
theorem Cg {k:SK} (h:Fp P t = some k) {xs:Array Value} {o:Nat} {v:Value} (hx:xs[o]? = some v):(part t xs o).run P w = .ok v w:=by
  rcases vo h with ⟨i,hu,rfl⟩ | ⟨hu,rfl⟩ | ⟨hu,rfl⟩ <;> simp [part,isAgg,run_underlying hu,hx]
theorem Al {d:Nat} {xs ys:Array Value}:∀ {fs:List Field} {i:Nat} {ks:List SK} {ZZ9 bs:List SV},Gd P fs i = true → Jf P fs = some ks → ZZ9.map SV.sk = ks → bs.map SV.sk = ks → (∀ j:Nat,xs[i + j]? = ZZ9[j]?.map encS) → (∀ j:Nat,ys[i + j]? = bs[j]?.map encS) →
    (Op.eqFields (d + 1) xs ys fs).run P w = .ok (decide (ZZ9 = bs)) w
  | [],i,ks,ZZ9,bs,_,hk,ha,hb,_,_=>by
    cases hk
    simp only [List.map_eq_nil_iff] at ha hb
    subst ha;subst hb
    simp [Op.eqFields]
  | f :: fs,i,ks,ZZ9,bs,hf,hk,ha,hb,hx,hy=>by
    obtain ⟨k,h1,h2⟩:=zbm hk
    obtain ⟨l,h3,rfl⟩:=zmm h2
    unfold Gd at hf
    simp only [Bool.and_eq_true,bne_iff_ne,ne_eq,beq_iff_eq] at hf
    obtain ⟨⟨⟨f1,f2⟩,f3⟩,f4⟩:=hf
    cases ZZ9 with
    | nil=>simp at ha
    | cons a ZZ9 =>
    cases bs with
    | nil=>simp at hb
    | cons b bs =>
    simp only [List.map_cons,List.cons.injEq] at ha hb
    have ex:xs[f.offset]? = some (encS a):=by rw [f2];simpa using hx 0
    have ey:ys[f.offset]? = some (encS b):=by rw [f2];simpa using hy 0
    have ih:=Al (d:=d) f4 h3 ha.2 hb.2 (fun j=>by have:=hx (j + 1);rw [show i + 1 + j = i + (j + 1) from by omega];simpa using this) (fun j=>by have:=hy (j + 1);rw [show i + 1 + j = i + (j + 1) from by omega];simpa using this)
    unfold Op.eqFields
    rw [if_pos f1]
    simp only [Sem.run_bind,Cg h1 ex,Cg h1 ey,Result.andThen_ok,R9 h1 ha.1 hb.1,List.cons.injEq]
    by_cases hab:a = b
    · subst hab;simp [ih]
    · simp [hab]
theorem Pg {e:Bool} {n:Nat} {k:SK} (h:Fp P t = some k) {a:SV} (ha:a.sk = k):(Instr.checkKey e (n + 1) t (encS a)).run P w = .ok () w:=by
  rcases vo h with ⟨i,hu,rfl⟩ | ⟨hu,rfl⟩ | ⟨hu,rfl⟩ <;> cases a <;> simp_all [SV.sk,encS,Instr.checkKey,run_underlying hu]
theorem Ez {e:Bool} {n:Nat} {cs:Array Value}:∀ {fs:List Field} {i:Nat} {ks:List SK} {ZZ9:List SV},Gd P fs i = true → Jf P fs = some ks → ZZ9.map SV.sk = ks → (∀ j:Nat,cs[i + j]? = ZZ9[j]?.map encS) →
    (forIn fs PUnit.unit (fun (f:Field) (_:PUnit)=>(do
      if f.name ≠ "_" then Instr.checkKey e (n + 1) f.type (← part f.type cs f.offset)
      pure (ForInStep.yield PUnit.unit):Sem (ForInStep PUnit)))).run P w = .ok PUnit.unit w
  | [],i,ks,ZZ9,_,_,_,_=>by simp
  | f :: fs,i,ks,ZZ9,hf,hk,ha,hx=>by
    obtain ⟨k,h1,h2⟩:=zbm hk
    obtain ⟨l,h3,rfl⟩:=zmm h2
    unfold Gd at hf
    simp only [Bool.and_eq_true,bne_iff_ne,ne_eq,beq_iff_eq] at hf
    obtain ⟨⟨⟨f1,f2⟩,f3⟩,f4⟩:=hf
    cases ZZ9 with
    | nil=>simp at ha
    | cons a ZZ9 =>
    simp only [List.map_cons,List.cons.injEq] at ha
    have ex:cs[f.offset]? = some (encS a):=by rw [f2];simpa using hx 0
    have ih:=Ez (e:=e) (n:=n) f4 h3 ha.2 (fun j=>by have:=hx (j + 1);rw [show i + 1 + j = i + (j + 1) from by omega];simpa using this)
    rw [List.forIn_cons]
    simp only [if_pos f1,Sem.run_bind,Cg h1 ex,Result.andThen_ok,Pg h1 ha.1,Sem.run_pure]
    exact ih
theorem Ph {e:Bool} {n:Nat} {fs:Array Field} {ks:List SK} {ZZ9:List SV} (hu:P.underlying t = some (.struct fs)) (hf:Gd P fs.toList 0 = true) (hk:Jf P fs.toList = some ks) (ha:ZZ9.map SV.sk = ks):(Instr.checkKey e (n + 2) t (.agg (ZZ9.map encS).toArray)).run P w = .ok () w:=by
  have:=Ez (w:=w) (e:=e) (n:=n) hf hk ha (cs:=(ZZ9.map encS).toArray) (fun j=>by simp)
  unfold Instr.checkKey
  simp only [Sem.run_bind,run_underlying hu,Result.andThen_ok]
  rw [← Array.forIn_toList]
  simp only [ne_eq,ite_not] at this ⊢
  simp at this ⊢
  rw [this]
  rfl
theorem Pj {n:Nat} {ZZ9:List SV} (hs:∀ (n:Nat) (a:SV),Instr.sameBits n (encS a) (encS a) = true):Instr.sameBits (n + 1) (.agg (ZZ9.map encS).toArray) (.agg (ZZ9.map encS).toArray) = true:=by
  unfold Instr.sameBits
  simp only [beq_self_eq_true,Bool.true_and,List.all_eq_true]
  intro p hp
  have:∀ (l:List Value) (p:Value × Value),p ∈ l.zip l → p.1 = p.2 ∧ p.1 ∈ l:=by
    intro l
    induction l with
    | nil=>intro p hp;simp at hp
    | cons x l ih =>
      intro p hp
      rcases List.mem_cons.mp hp with rfl | hp
      · exact ⟨rfl,by simp⟩
      · exact ⟨(ih p hp).1,List.mem_cons_of_mem _ (ih p hp).2⟩
  obtain ⟨h1,h2⟩:=this _ _ hp
  obtain ⟨x,y⟩:=p
  simp only at h1 h2
  subst h1
  simp only [List.mem_map] at h2
  obtain ⟨s,_,rfl⟩:=h2
  exact hs _ s
theorem Ia {n:Nat} (a:SV):Instr.sameBits n (encS a) (encS a) = true:=by
  cases a <;> simp [encS,Instr.sameBits]
  rw [Mq.uT];simp
theorem EA {ks:List SK} {a:KV} (h:a.ks = .agg ks):∃ ZZ9,a = .agg ZZ9 ∧ ZZ9.map SV.sk = ks:=by
  cases a with
  | one x=>cases h
  | agg ZZ9=>exact ⟨ZZ9,rfl,by simpa [KV.ks] using h⟩
theorem Am {k:SK} {a:KV} (h:a.ks = .one k):∃ x,a = .one x ∧ x.sk = k:=by
  cases a with
  | one x=>exact ⟨x,rfl,by simpa [KV.ks] using h⟩
  | agg ZZ9=>cases h
theorem Pk {n:Nat} {d:TypeDesc} (hu:P.underlying t = some d) (hd:∀ ms,d ≠ .interface ms):(Op.eqGuardIn (n + 1) t .nilIface .nilIface).run P w = .ok false w:=by
  unfold Op.eqGuardIn
  simp only [Sem.run_bind,run_underlying hu,Result.andThen_ok]
  cases d <;> first | rfl | exact absurd rfl (hd _)
theorem Ch {d:TypeDesc} (hu:P.underlying t = some d) (hd:∀ ms,d ≠ .interface ms) (w:World):(Op.eqGuardIn Op.maxDepth t .nilIface .nilIface).run P w = .ok false w:=by
  unfold Op.maxDepth
  exact Pk hu hd
set_option maxHeartbeats 2000000 in
theorem U9 (h:okT P t = true):lM P t:=by
  unfold okT at h
  rw [Bool.and_eq_true] at h
  obtain ⟨hg,h⟩:=h
  have hg':P.eqGuardType P.depth t = false:=by simpa using hg
  have gd:(∀ w,(Op.eqGuardIn Op.maxDepth t .nilIface .nilIface).run P w = .ok false w) → ∀ op x y,∀ (a b:Value) (w:World),(eqGuard op t x y a b).run P w = .ok () w:=by
    intro hn op x y a b w
    have key:(Sem.run P (match a,b with
      | .nilIface,.nilIface=>do
        if (x matches .const _) || (y matches .const _) then return
        if ← Op.eqGuardIn Op.maxDepth t a b then unsupported (.noEntry "binop/eql: two nil values of an interface type with methods, neither of them the literal nil")
      | .agg _,.agg _=>do
        if !(← program).eqGuardType (← program).depth t then return
        if ← Op.eqGuardIn Op.maxDepth t a b then unsupported (.noEntry "binop/eql: two nil values of an interface type with methods, in a part of a struct or an array")
      | _,_=>pure ()) w) = .ok () w:=by
      cases a <;> cases b <;> first | rfl | (simp only [Sem.run_bind,run_program,Result.andThen_ok,hg'];rfl) | skip
      cases x <;> cases y <;> first | rfl | simp [hn]
    unfold eqGuard
    split
    · exact key
    · exact key
    · rfl
  cases hu:P.underlying t with
  | none=>rw [hu] at h;cases h
  | some d =>
    rw [hu] at h
    have sc:∀ k,Fp P t = some k → xG P t = some (.one k) → (∀ w,(Op.eqGuardIn Op.maxDepth t .nilIface .nilIface).run P w = .ok false w) → (∀ a:SV,a.sk = k → MapKept.IsKey d (encS a)) → (∀ a b:SV,a.sk = k → b.sk = k → Instr.sameNow d (encS a) (encS b) = some (decide (a = b))) → lM P t:=by
      intro k hk hks hn h1 h2
      have hcase:∀ {sh},xG P t = some sh → sh = .one k:=fun e=>by rw [hks] at e;cases e;rfl
      refine ⟨fun sh e=>?_,fun sh e a b w ha hb=>?_,gd hn⟩
      · obtain rfl:=hcase e
        refine Mq.Key.NU hu (fun a ha=>?_) (fun a b ha hb=>?_) (fun a ha=>?_)
        · obtain ⟨x,rfl,hx⟩:=Am ha;exact h1 x hx
        · obtain ⟨x,rfl,hx⟩:=Am ha
          obtain ⟨y,rfl,hy⟩:=Am hb
          simp only [nH,KV.one.injEq]
          exact h2 x y hx hy
        · obtain ⟨x,rfl,hx⟩:=Am ha;exact Ia x
      · obtain rfl:=hcase e
        obtain ⟨x,rfl,hx⟩:=Am ha
        obtain ⟨y,rfl,hy⟩:=Am hb
        simp only [nH,KV.one.injEq]
        unfold Op.equal Op.maxDepth
        exact R9 hk hx hy
    cases d with
    | int i =>
      refine sc (.int i) (by simp [Fp,hu]) (by simp [xG,Fp,hu]) (Ch hu (fun _ h=>by cases h)) (fun a ha=>?_) (fun a b ha hb=>?_)
      · cases a <;> simp_all [SV.sk,encS,MapKept.IsKey]
      · cases a <;> cases b <;> simp_all [SV.sk,encS,Instr.sameNow]
        rw [Bool.eq_iff_iff];simp
    | bool =>
      refine sc .bool (by simp [Fp,hu]) (by simp [xG,Fp,hu]) (Ch hu (fun _ h=>by cases h)) (fun a ha=>?_) (fun a b ha hb=>?_)
      · cases a <;> simp_all [SV.sk,encS,MapKept.IsKey]
      · cases a <;> cases b <;> simp_all [SV.sk,encS,Instr.sameNow]
        rw [Bool.eq_iff_iff];simp
    | string =>
      refine sc .str (by simp [Fp,hu]) (by simp [xG,Fp,hu]) (Ch hu (fun _ h=>by cases h)) (fun a ha=>?_) (fun a b ha hb=>?_)
      · cases a <;> simp_all [SV.sk,encS,MapKept.IsKey]
      · cases a <;> cases b <;> simp_all [SV.sk,encS,Instr.sameNow]
        exact Mq.uT _ _
    | struct fs =>
      simp only [Bool.and_eq_true,Bool.not_eq_true'] at h
      have hcase:∀ {sh},xG P t = some sh → ∃ ks,Jf P fs.toList = some ks ∧ sh = .agg ks:=fun e=>by
        unfold xG at e
        rw [hu] at e
        obtain ⟨ks,h1,h2⟩:=zmm e
        exact ⟨ks,h1,h2.symm⟩
      have idx:∀ (ZZ9:List SV) (j:Nat),((ZZ9.map encS).toArray)[0 + j]? = ZZ9[j]?.map encS:=fun ZZ9 j=>by simp
      have heq:∀ sh,xG P t = some sh → ∀ (a b:KV) (w:World),a.ks = sh → b.ks = sh → (Op.equal t (nH a) (nH b)).run P w = .ok (decide (a = b)) w:=by
        intro sh e a b w ha hb
        obtain ⟨ks,hks,rfl⟩:=hcase e
        obtain ⟨ZZ9,rfl,ha1⟩:=EA ha
        obtain ⟨bs,rfl,hb1⟩:=EA hb
        have hf:P.fieldsOf t = fs:=by simp [Program.fieldsOf,hu]
        unfold Op.equal Op.maxDepth
        simp only [nH,KV.agg.injEq]
        rw [run_equalIn_struct (P:=P) w _ t _ _ (by rw [hf];exact hu) h.1,hf]
        exact Al h.2 hks ha1 hb1 (idx ZZ9) (idx bs)
      refine ⟨fun sh e=>?_,heq,gd (Ch hu (fun _ h=>by cases h))⟩
      · obtain ⟨ks,hks,rfl⟩:=hcase e
        refine Mq.Key.KG hu (fun e' a w ha=>?_) (fun a b w ha hb=>heq _ e a b w ha hb) (fun a ha=>?_) (fun a ha=>?_)
        · obtain ⟨ZZ9,rfl,ha1⟩:=EA ha
          exact Ph (n:=9998) hu h.2 hks ha1
        · obtain ⟨ZZ9,rfl,ha1⟩:=EA ha
          exact Pj (n:=9999) (fun n a=>Ia a)
        · obtain ⟨ZZ9,rfl,ha1⟩:=EA ha
          exact ⟨_,rfl⟩
    | _=>simp at h
end
end Go.Proofs.Ytdkkgecdhapfhaa.Ev

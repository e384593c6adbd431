/- A part of the proof; no condition of its own. -/
import Derived.Test.YtoebbafmopdfbaaGreatDoorEnV
set_option linter.unusedSimpArgs false
set_option linter.unusedVariables false
/- EnY: The engine's laws: a snap's small functions. -/
namespace Go.Ab.En
open Go Go.Conc Go.RowKit Go.Ab
set_option maxRecDepth 10000
structure Pr where
 key : Str
 val : Str
 deriving DecidableEq
def prD (p : Pr) : DV:=.agg [.str p.key,.str p.val]
noncomputable def b79 : Code:=(Go.Proofs.Tryz.f79.body).getD .skip
theorem hb79 : Go.Proofs.Tryz.f79.body = some b79:=by kernel_rfl
def pairsL (k v : Str) (ok : Bool) : List Pr:=if ok then [⟨k,v⟩] else []
def SPairs : Spec:=fun H args K => ∃ (k v : Str) (ok : Bool),args = [.str k,.str v,.bool ok]∧K H (.sl true 2 ((pairsL k v ok).map prD))
theorem appPairs {H : List HObj} {K : List HObj→DV→Prop} {k v : Str} {ok : Bool} (h : K H (.sl true 2 ((pairsL k v ok).map prD))) : app SPairs H [.str k,.str v,.bool ok] K:=⟨k,v,ok,rfl,h⟩
theorem rcPairs {I : Jd pp} (hI : ∀ w e,I.Ok w e) : RC I 79 SPairs:=by
 refine rc_of_code (isObj:=noO) (Γ:=envOf []) (rs:=[6]) mixed hI (envOf_rc (by simp)) Go.Proofs.Tryz.func79 (by kernel_rfl) hb79 Go.Proofs.Tryz.results79 Go.Proofs.Tryz.ntmps79 (by decide) ?_
 rintro H args K ⟨k,v,ok,rfl,hK⟩
 refine ⟨by simp,rfl,?_⟩
 unfold b79 Go.Proofs.Tryz.f79
 cases ok
 ·simp only [Option.getD_some,argSlots,BZ2,BQ,Nat.reduceAdd,w_seq,BZ1,constDV,Proofs.Tryz.underlying64,cn96,dropLk,Nat.reduceLT,movK,Nat.reduceBEq,BP,cd_t]
  exact hK
 ·simp only [Option.getD_some,argSlots,BZ2,BQ,Nat.reduceAdd,w_seq,BZ1,constDV,Proofs.Tryz.underlying64,cn96,dropLk,Nat.reduceLT,movK,Nat.reduceBEq,BP,cd_f,bd96,bd96_0,takK,BZ3,Nat.reduceLeDiff,bd96_1,bs64_1,isO_eq,List.map_cons,List.map_nil]
  exact hK
noncomputable def b145 : Code:=(Go.Proofs.Tryz.f145.body).getD .skip
theorem hb145 : Go.Proofs.Tryz.f145.body = some b145:=by kernel_rfl
def SEq : Spec:=fun H args K => ∃ (o1 o2 : Bool) (l1 l2 : List Pr),args = [.sl o1 2 (l1.map prD),.sl o2 2 (l2.map prD)]∧l1.length < 100000000∧l2.length < 100000000∧K H (.bool (decide (l1 = l2)))
theorem appEq {H : List HObj} {K : List HObj→DV→Prop} {o1 o2 : Bool} {l1 l2 : List Pr} (h1 : l1.length < 100000000) (h2 : l2.length < 100000000) (h : K H (.bool (decide (l1 = l2)))) : app SEq H [.sl o1 2 (l1.map prD),.sl o2 2 (l2.map prD)] K:=⟨o1,o2,l1,l2,rfl,h1,h2,h⟩
def MEq (H : List HObj) (l1 l2 : List Pr) (m : Nat) (st : St) : Prop:=∃ i : Nat,i≤l1.length∧m = l1.length - i∧l1.take i = l2.take i ∧
 st = mk 26 [(0,.sl false 2 (l1.map prD)),(1,.sl false 2 (l2.map prD)),(12,.int .i64 l1.length),(13,.int .i64 i)] [] H []
theorem prD_get {l : List Pr} {i : Nat} (h : i < l.length) : (l.map prD).getD i .undef = .agg [.str (l[i]).key,.str (l[i]).val]:=by simp [List.getD,h,prD]
set_option maxHeartbeats 2000000 in
theorem rcEq {I : Jd pp} (hI : ∀ w e,I.Ok w e) : RC I 145 SEq:=by
 refine rc_of_code (isObj:=noO) (Γ:=envOf []) (rs:=[4]) mixed hI (envOf_rc (by simp)) Go.Proofs.Tryz.func145 (by kernel_rfl) hb145 Go.Proofs.Tryz.results145 Go.Proofs.Tryz.ntmps145 (by decide) ?_
 rintro H args K ⟨o1,o2,l1,l2,rfl,b1,b2,hK⟩
 refine ⟨by simp,rfl,?_⟩
 unfold b145 Go.Proofs.Tryz.f145
 by_cases hl : l1.length = l2.length
 ·have q : ((l1.length : Nat) : Int) = l2.length:=by omega
  simp only [Option.getD_some,argSlots,BZ2,BQ,w_seq,BZ1,constDV,dropLk,Nat.reduceLT,movK,Nat.reduceBEq,lkGet,dl64,List.length_map,q,BP,b_neq,ne_eq,cd_f,if_false]
  rw [← q]
  refine w_loop [0,1,12,13] (MEq H l1 l2) l1.length ?_ ?_
  ·exact ⟨0,by omega,by omega,by simp,by simp only [BZ3,BZ1,BZ2,mk_put?_some,mk_put?_none,List.map_cons,Nat.reduceBEq,List.map_nil]; try rfl⟩
  ·rintro m st ⟨i,hi,rfl,ht,rfl⟩
   by_cases e : i < l1.length
   ·have e1 : (i : Int) < l1.length:=by omega
    have e2 : (0 : Int)≤i:=by omega
    have e3 : i < l2.length:=by omega
    have e4 : (i : Int) < l2.length:=by omega
    have wi : IntKind.i64.wrap ((i : Int) + 1) = ((i + 1 : Nat) : Int):=by rw [wrap_i64 (by omega) (by omega)]; omega
    have hx:=prD_get e
    have hy:=prD_get e3
    have hst : l1.take (i + 1) = l2.take (i + 1) ↔ l1[i] = l2[i]:=by
     rw [List.take_succ_eq_append_getElem e,List.take_succ_eq_append_getElem e3,ht]
     exact ⟨fun h => by have:=List.append_cancel_left h; simpa using this,fun h => by rw [h]⟩
    have hne : l1[i] ≠ l2[i]→¬ l1 = l2:=by rintro h rfl; exact h rfl
    obtain ⟨⟨xk,xv⟩,hxx⟩ : ∃ x,l1[i] = x:=⟨_,rfl⟩
    obtain ⟨⟨yk,yv⟩,hyy⟩ : ∃ x,l2[i] = x:=⟨_,rfl⟩
    rw [hxx] at hx hst hne
    rw [hyy] at hy hst hne
    simp only [w_seq,BZ1,BZ2,BQ,Nat.reduceLT,Nat.reduceBEq,e1,BP,dropLk,cd_t,movK,takK,if_false]
    refine w_draw [] (.quiet 0 (.quiet 1 (.quiet 2 (.quiet 3 (.quiet 4 (.quiet 5 (.quiet 6 (.quiet 7 (.quiet 8 (.done)))))))))) (by decide) (by kernel_rfl) ?_
    by_cases hk : xk = yk
    ·by_cases hv : xv = yv
     ·simp only [BZ1,BZ2,Nat.reduceLT,Nat.reduceBEq,dropLk,BP,ix64,e2,List.length_map,e1,BQ,hx,hk,hv,BZ3,la96,Nat.reduceAdd,Nat.reduceLeDiff,List.map_cons,List.map_nil,e4,hy,eneq96,cd_f,constDV,wi,movK,if_false]
      refine ⟨_,?_,i + 1,by omega,rfl,hst.2 (by simp [hk,hv]),rfl⟩
      omega
     ·simp only [BZ1,BZ2,Nat.reduceLT,Nat.reduceBEq,dropLk,BP,ix64,e2,List.length_map,e1,BQ,hx,hk,BZ3,la96,Nat.reduceAdd,Nat.reduceLeDiff,List.map_cons,List.map_nil,e4,hy,eneq96,hv,Bool.and_false,cd_t,w_seq,constDV]
      have:=hne (by simp [hv])
      simpa [this] using hK
    ·simp only [BZ1,BZ2,Nat.reduceLT,Nat.reduceBEq,dropLk,BP,ix64,e2,List.length_map,e1,BQ,hx,BZ3,la96,Nat.reduceAdd,Nat.reduceLeDiff,List.map_cons,List.map_nil,e4,hy,eneq96,hk,Bool.false_and,cd_t,w_seq,constDV]
     have:=hne (by simp [hk])
     simpa [this] using hK
   ·obtain rfl : i = l1.length:=by omega
    have e1 : ¬ (l1.length : Int) < l1.length:=by omega
    simp only [w_seq,BZ1,BZ2,BQ,Nat.reduceLT,Nat.reduceBEq,e1,BP,dropLk,cd_f,constDV,if_true,if_false]
    rw [List.take_length,hl,List.take_length] at ht
    simpa [ht] using hK
 ·have q : ¬ ((l1.length : Nat) : Int) = l2.length:=by omega
  simp only [Option.getD_some,argSlots,BZ2,BQ,w_seq,BZ1,constDV,dropLk,Nat.reduceLT,movK,Nat.reduceBEq,lkGet,dl64,List.length_map,BP,b_neq,ne_eq,q,cd_t,if_false]
  have : ¬ l1 = l2:=by rintro rfl; exact hl rfl
  simpa [this] using hK
noncomputable def b78 : Code:=(Go.Proofs.Tryz.f78.body).getD .skip
theorem hb78 : Go.Proofs.Tryz.f78.body = some b78:=by kernel_rfl
def SChg : Spec:=fun H args K => ∃ (o1 o2 o3 : Bool) (l1 l2 : List Pr),args = [.sl o1 2 (l1.map prD),.sl o2 2 (l2.map prD),.sl o3 1 [.int .i64 0]]∧l1.length < 100000000∧l2.length < 100000000∧K H (.tup [.bool (!decide (l1 = l2)),.int .i64 0])
theorem rcChg {I : Jd pp} (hI : ∀ w e,I.Ok w e) : RC I 78 SChg:=by
 refine rc_of_code (isObj:=noO) (Γ:=envOf [(145,SEq)]) (rs:=[6,7]) mixed hI (envOf_rc (by simpa using rcEq hI)) Go.Proofs.Tryz.func78 (by kernel_rfl) hb78 Go.Proofs.Tryz.results78 Go.Proofs.Tryz.ntmps78 (by decide) ?_
 rintro H args K ⟨o1,o2,o3,l1,l2,rfl,b1,b2,hK⟩
 refine ⟨by simp,rfl,?_⟩
 unfold b78 Go.Proofs.Tryz.f78
 simp only [Option.getD_some,argSlots,BZ2,BQ,Nat.reduceAdd,w_seq,BZ1,constDV,dropLk,BZ3,Nat.reduceLT,movK,Nat.reduceBEq,lkGet,dl202,BP]
 refine w_unroll 2 ?_
 simp only [lw_succ,w_seq,BZ1,BZ2,BQ,Nat.reduceLT,Nat.reduceBEq,Int.reduceLT,BP,dropLk,cd_t,ix202,Int.reduceLE,BZ3,Int.reduceToNat,la24,takK,movK,constDV,Int.reduceAdd,Int.reduceNeg,cd_f,lkGet,if_true,List.map_cons,List.map_nil,if_false,reduceCtorEq]
 refine appEq b1 b2 ?_
 simp only [BZ1,BZ2,Pos.isHp,BQ,BP,dropLk,Nat.reduceLT,takK,constDV,ret_two,Nat.reduceBEq]
 exact hK
end Go.Ab.En
/- EnZ: The engine's laws: what is held; a snap is made. -/
namespace Go.Ab.En
open Go Go.Conc Go.RowKit Go.Ab
set_option maxRecDepth 10000
def isN : ObjT:=fun t => t == 128
theorem isN_eq {t : TypeId} : isN t = (t == 128):=_root_.id rfl
abbrev Hd:=List (Int × Int)
def encI (hd : Hd) : List (DV × DV):=hd.map fun x => (.int .i64 x.1,.int .i64 x.2)
def getI (hd : Hd) (k : Int) : Option Int:=match hd with
 | [] => none
 | (x,v) :: r => if k = x then some v else getI r k
def setI (k v : Int) : Hd→Hd
 | [] => [(k,v)]
 | (x,u) :: r => if k = x then (k,v) :: r else (x,u) :: setI k v r
def delI (k : Int) : Hd→Hd
 | [] => []
 | (x,u) :: r => if k = x then r else (x,u) :: delI k r
theorem find_encI (k : Int) : ∀ hd,findKeyD (.int .i64 k) (encI hd) = some ((getI hd k).map (DV.int .i64))
 | [] => rfl
 | (x,v) :: r => by
  have:=find_encI k r
  simp only [encI,List.map_cons,findKeyD,keyEq,getI] at this ⊢
  by_cases h : k = x
  ·simp [h]
  ·simp [h]; assumption
theorem set_encI (k v : Int) : ∀ hd,mapSet (.int .i64 k) (.int .i64 v) (encI hd) = encI (setI k v hd)
 | [] => rfl
 | (x,u) :: r => by
  have:=set_encI k v r
  simp only [encI,List.map_cons,mapSet,keyEq,setI] at this ⊢
  by_cases h : k = x
  ·simp [h]
  ·simp [h]; assumption
theorem del_encI (k : Int) : ∀ hd,mapDel (.int .i64 k) (encI hd) = encI (delI k hd)
 | [] => rfl
 | (x,u) :: r => by
  have:=del_encI k r
  simp only [encI,List.map_cons,mapDel,keyEq,delI] at this ⊢
  by_cases h : k = x
  ·simp [h]
  ·simp [h]; assumption
theorem all_encI (k : Int) (hd : Hd) : ((encI hd).all fun e => (keyEq (.int .i64 k) e.1).isSome) = true:=by
 simp [encI,List.all_eq_true,keyEq]
theorem mroI {o : Option Int} : (Option.map DV.ro (Option.map (DV.int .i64) o)).getD (.int .i64 0) = .int .i64 (o.getD 0):=by cases o <;> rfl
def cntI (hd : Hd) (n : Int) : Int:=(getI hd n).getD 0
def holdH (hd : Hd) (n : Int) : Hd:=setI n (cntI hd n + 1) hd
def freeH (hd : Hd) (n : Int) : Hd:=if cntI hd n - 1≤0 then delI n (setI n (cntI hd n - 1) hd) else setI n (cntI hd n - 1) hd
theorem getI_set (k v : Int) : ∀ hd,getI (setI k v hd) k = some v
 | [] => by simp [setI,getI]
 | (x,u) :: r => by
  simp only [setI]
  split
  ·simp [getI]
  ·rename_i h; simp [getI,h,getI_set k v r]
theorem EngS.At.heldUp {E : EngS} {H H' : List HObj} {held' : List (DV × DV)} (h : E.At H) (f : Fr [E.hm] H H') (g : H'[E.hm]? = some (.map held')) : EngS.At { E with held:=held' } H':=by
 have nd:=h.nodup
 have hm : ∀ y∈E.S,y ≠ E.hm:=fun y hy e => h.apart y hy (by rw [e]; simp [EngS.parts])
 simp [EngS.parts] at nd
 refine ⟨f.get h.top (by simp; omega),h.shelf.fr f (by simp; omega) (by simp; omega) (by simp; omega),h.heap.fr f fun x hx => by simpa using hm x hx,f.get h.sheet (by simp; omega),f.get h.tabs (by simp; omega),g,h.nodup,h.apart⟩
theorem EngS.At.fr0 {E : EngS} {H H' : List HObj} (h : E.At H) (f : Fr [] H H') : E.At H' :=
 ⟨f.get h.top (by simp),h.shelf.fr f (by simp) (by simp) (by simp),h.heap.fr f (by simp),f.get h.sheet (by simp),f.get h.tabs (by simp),f.get h.held (by simp),h.nodup,h.apart⟩
def EngS.all (E : EngS) : List Nat:=E.parts ++ E.S
theorem EngS.At.allLt {E : EngS} {H : List HObj} (h : E.At H) : ∀ x∈E.all,x < H.length:=fun x hx => by
 rcases List.mem_append.1 hx with hx | hx
 ·exact h.lt x hx
 ·exact h.heap.lt x hx
theorem EngS.At.frs {E : EngS} {H H' : List HObj} {S : List Nat} (h : E.At H) (f : Fr S H H') (hS : ∀ y∈S,y ∉ E.all) : E.At H':=by
 have p : ∀ y∈E.all,y ∉ S:=fun y hy hs => hS y hs hy
 have q : ∀ y∈E.parts,y ∉ S:=fun y hy => p y (List.mem_append_left _ hy)
 exact ⟨f.get h.top (q _ (by simp [EngS.parts])),h.shelf.fr f (q _ (by simp [EngS.parts])) (q _ (by simp [EngS.parts])) (q _ (by simp [EngS.parts])),h.heap.fr f (fun x hx => p x (List.mem_append_right _ hx)),f.get h.sheet (q _ (by simp [EngS.parts])),f.get h.tabs (q _ (by simp [EngS.parts])),f.get h.held (q _ (by simp [EngS.parts])),h.nodup,h.apart⟩
noncomputable def b54 : Code:=(Go.Proofs.Tryz.f54.body).getD .skip
theorem hb54 : Go.Proofs.Tryz.f54.body = some b54:=by kernel_rfl
def SHold : Spec:=fun H args K => ∃ (E : EngS) (hd : Hd) (n : Int),args = [.ptr E.x 0,.int .i64 n]∧E.At H∧E.held = encI hd∧0≤cntI hd n∧cntI hd n < 1000000000∧∀ H',Fr [E.hm] H H'→H'.length = H.length→EngS.At { E with held:=encI (holdH hd n) } H'→K H' (.tup [])
theorem rcHold {I : Jd pp} (hI : ∀ w e,I.Ok w e) : RC I 54 SHold:=by
 refine rc_of_code (isObj:=noO) (Γ:=envOf []) (rs:=[]) mixed hI (envOf_rc (by simp)) Go.Proofs.Tryz.func54 (by kernel_rfl) hb54 Go.Proofs.Tryz.results54 Go.Proofs.Tryz.ntmps54 (by decide) ?_
 rintro H args K ⟨E,hd,n,rfl,h1,hh,c0,c1,hK⟩
 refine ⟨by simp,rfl,?_⟩
 unfold b54 Go.Proofs.Tryz.f54
 have hheld:=h1.held
 rw [hh] at hheld
 have w0 : IntKind.i64.wrap ((getI hd n).getD 0 + 1) = (getI hd n).getD 0 + 1:=wrap_i64 (by unfold cntI at c0; omega) (by unfold cntI at c1; omega)
 simp only [Option.getD_some,argSlots,BZ2,BQ,BZ1,Nat.reduceLT,movK,dropLk,dnil,BP,fp114_6,h1.top,la112,BZ3,Nat.reduceBEq,DV.plain,lk_h Go.Proofs.Tryz.underlying112,hheld,kt3,lf3,find_encI,mroI,constDV,w0,mu_h Go.Proofs.Tryz.underlying112,Pos.inHp,all_encI,set_encI,if_false]
 exact hK _ (Fr.set _ _ _) (by simp) (h1.heldUp (Fr.set _ _ _) (List.getElem?_set_self (List.getElem?_eq_some_iff.1 hheld).1))
noncomputable def b55 : Code:=(Go.Proofs.Tryz.f55.body).getD .skip
theorem hb55 : Go.Proofs.Tryz.f55.body = some b55:=by kernel_rfl
def SFree : Spec:=fun H args K => ∃ (E : EngS) (hd : Hd) (n : Int),args = [.ptr E.x 0,.int .i64 n]∧E.At H∧E.held = encI hd∧0≤cntI hd n∧cntI hd n < 1000000000∧∀ H',Fr [E.hm] H H'→H'.length = H.length→EngS.At { E with held:=encI (freeH hd n) } H'→K H' (.tup [])
theorem rcFree {I : Jd pp} (hI : ∀ w e,I.Ok w e) : RC I 55 SFree:=by
 refine rc_of_code (isObj:=noO) (Γ:=envOf []) (rs:=[]) mixed hI (envOf_rc (by simp)) Go.Proofs.Tryz.func55 (by kernel_rfl) hb55 Go.Proofs.Tryz.results55 Go.Proofs.Tryz.ntmps55 (by decide) ?_
 rintro H args K ⟨E,hd,n,rfl,h1,hh,c0,c1,hK⟩
 refine ⟨by simp,rfl,?_⟩
 unfold b55 Go.Proofs.Tryz.f55
 have hheld:=h1.held
 rw [hh] at hheld
 have nd:=h1.nodup
 simp [EngS.parts] at nd
 have hxm : E.hm ≠ E.x:=by omega
 have hlm : E.hm < H.length:=(List.getElem?_eq_some_iff.1 hheld).1
 have w0 : IntKind.i64.wrap ((getI hd n).getD 0 - 1) = (getI hd n).getD 0 - 1:=wrap_i64 (by unfold cntI at c0; omega) (by unfold cntI at c1; omega)
 have g1 : ∀ X,(H.set E.hm X)[E.x]? = H[E.x]?:=fun X => List.getElem?_set_ne hxm
 have g2 : ∀ X,(H.set E.hm X)[E.hm]? = some X:=fun X => List.getElem?_set_self hlm
 have g3 : ∀ v,getI (setI n v hd) n = some v:=fun v => getI_set n v hd
 by_cases hc : (getI hd n).getD 0 - 1≤0
 ·simp only [Option.getD_some,argSlots,BZ2,BQ,w_seq,BZ1,Nat.reduceLT,movK,dropLk,dnil,BP,fp114_6,h1.top,la112,BZ3,Nat.reduceBEq,DV.plain,lk_h Go.Proofs.Tryz.underlying112,hheld,kt3,lf3,find_encI,mroI,constDV,w0,mu_h Go.Proofs.Tryz.underlying112,Pos.inHp,all_encI,set_encI,g1,g2,g3,hc,cd_t,md_h Go.Proofs.Tryz.underlying112,del_encI,if_false]
  have:=hK (H.set E.hm (.map (encI (freeH hd n)))) (Fr.set _ _ _) (by simp) (h1.heldUp (Fr.set _ _ _) (List.getElem?_set_self hlm))
  simpa [freeH,cntI,hc] using this
 ·simp only [Option.getD_some,argSlots,BZ2,BQ,w_seq,BZ1,Nat.reduceLT,movK,dropLk,dnil,BP,fp114_6,h1.top,la112,BZ3,Nat.reduceBEq,DV.plain,lk_h Go.Proofs.Tryz.underlying112,hheld,kt3,lf3,find_encI,mroI,constDV,w0,mu_h Go.Proofs.Tryz.underlying112,Pos.inHp,all_encI,set_encI,g1,g2,g3,hc,cd_f,if_false]
  have:=hK (H.set E.hm (.map (encI (freeH hd n)))) (Fr.set _ _ _) (by simp) (h1.heldUp (Fr.set _ _ _) (List.getElem?_set_self hlm))
  simpa [freeH,cntI,hc] using this
def SnapAt (H : List HObj) (s x : Nat) (n : Int) (over : Bool) : Prop:=H[s]? = some (.cells [.ptr x 0,.int .i64 n,.bool over])
noncomputable def b19 : Code:=(Go.Proofs.Tryz.f19.body).getD .skip
theorem hb19 : Go.Proofs.Tryz.f19.body = some b19:=by kernel_rfl
def SOf : Spec:=fun H args K => ∃ (E : EngS) (hd : Hd),args = [.ptr E.x 0]∧E.At H∧E.held = encI hd∧0≤cntI hd E.seq∧cntI hd E.seq < 1000000000∧∀ H' s,Fr [E.hm] H H'→EngS.At { E with held:=encI (holdH hd E.seq) } H'→SnapAt H' s E.x E.seq false→H.length≤s→K H' (.ptr s 0)
theorem rcOf {I : Jd pp} (hI : ∀ w e,I.Ok w e) : RC I 19 SOf:=by
 refine rc_of_code (isObj:=isN) (Γ:=envOf [(25,SSeq),(54,SHold)]) (rs:=[2]) mixed hI (envOf_rc (by simpa using ⟨rcSeq hI,rcHold hI⟩)) Go.Proofs.Tryz.func19 (by kernel_rfl) hb19 Go.Proofs.Tryz.results19 Go.Proofs.Tryz.ntmps19 (by decide) ?_
 rintro H args K ⟨E,hd,rfl,h1,hh,c0,c1,hK⟩
 refine ⟨by simp,rfl,?_⟩
 unfold b19 Go.Proofs.Tryz.f19
 simp only [Option.getD_some,argSlots,BZ2,w_seq,BZ1,constDV,dropLk,Nat.reduceLT,movK,Nat.reduceBEq,Nat.reduceEqDiff,if_false,if_true,BQ,List.map_cons,List.map_nil]
 refine appSeq h1 ?_
 simp only [BZ1,BZ2,Pos.isHp,BQ,BP,dropLk,Nat.reduceLT,Nat.reduceBEq,Nat.reduceEqDiff,if_true,if_false,List.map_cons,List.map_nil]
 refine ⟨E,hd,E.seq,rfl,h1,hh,c0,c1,fun H1 f1 l1 a1 => ?_⟩
 simp only [BZ1,BZ2,Pos.isHp,BQ,BP,dropLk,w_seq,Nat.reduceLT,movK,Nat.reduceBEq,Nat.reduceEqDiff,if_false,if_true,List.map_cons,List.map_nil]
 refine appSeq (E:={ E with held:=encI (holdH hd E.seq) }) a1 ?_
 simp only [BZ1,BZ2,Pos.isHp,BQ,BP,dropLk,bd128,bd128_0,Nat.reduceLT,takK,Nat.reduceBEq,BZ3,Nat.reduceAdd,Nat.reduceLeDiff,bd128_1,bd128_2,constDV,List.map_cons,vro1_ptr,List.map_nil,isN_eq,bgen_eq,if_true]
 exact hK _ H1.length ((f1.trans (Fr.app [] _ _)).mono (by simp)) (a1.fr0 (Fr.app [] _ _)) (by simp [SnapAt]) (by omega)
end Go.Ab.En

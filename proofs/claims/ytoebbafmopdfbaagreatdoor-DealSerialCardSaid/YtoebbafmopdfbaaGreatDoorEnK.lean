/- A part of the proof; no condition of its own. -/
import Derived.Test.YtoebbafmopdfbaaGreatDoorEnP
set_option linter.unusedSimpArgs false
set_option linter.unusedVariables false
/- EnJ: The engine's laws: the newest entry of a key in memory. -/
namespace Go.Ab.En
open Go Go.Conc Go.RowKit Go.Ab
set_option maxRecDepth 10000
noncomputable def b147 : Code:=(Go.Proofs.Tryz.f147.body).getD .skip
theorem hb147 : Go.Proofs.Tryz.f147.body = some b147:=by kernel_rfl
def getE (es : List Ent) (k : Str) (n : Int) : Option Ent:=match es[firstE es k n]? with
 | some e => if e.key = k then some e else none
 | none => none
def optD : Option Ent→DV
 | some e => .agg e.cells
 | none => .agg [.str [],.int .i64 0,.bool false,.str []]
def SHGet : Spec:=fun H args K => ∃ (hp : Nat) (S : List Nat) (es : List Ent) (k : Str) (n : Int),args = [.ptr hp 0,.str k,.int .i64 n]∧HeapAt H hp S es∧es.length < 100000000∧∀ H',Fr [] H H'→K H' (.tup [optD (getE es k n),.bool (getE es k n).isSome])
theorem appHGet {H : List HObj} {K : List HObj→DV→Prop} {hp : Nat} {S : List Nat} {es : List Ent} {k : Str} {n : Int} (h1 : HeapAt H hp S es) (h2 : es.length < 100000000) (h : ∀ H',Fr [] H H'→K H' (.tup [optD (getE es k n),.bool (getE es k n).isSome])) : app SHGet H [.ptr hp 0,.str k,.int .i64 n] K:=⟨hp,S,es,k,n,rfl,h1,h2,h⟩
set_option maxHeartbeats 2000000 in
theorem rcHGet {I : Jd pp} (hI : ∀ w e,I.Ok w e) (hC : RC I 135 SCs) : RC I 147 SHGet:=by
 refine rc_of_mix (isObj:=noO) (Γ:=envOf [(166,SFirst)]) (r:=6) (t:=138) (rs:=[7]) mixed hI (envOf_rc (by simpa using rcFirst hI hC)) Go.Proofs.Tryz.func147 (by kernel_rfl) hb147 (mix1 Go.Proofs.Tryz.results147) Go.Proofs.Tryz.ntmps147 ?_
 rintro H args K ⟨hp,S,es,k,n,rfl,⟨id,cap,b,h1,h2,h3,h4,h5,rfl,h7⟩,hl,hK⟩
 refine ⟨by simp,rfl,?_⟩
 unfold b147 Go.Proofs.Tryz.f147
 simp only [Option.getD_some,argSlots,BZ2,BQ,Nat.reduceAdd,w_seq,BZ1,al138,isO_eq,dropLk,bgen_eq,if_false,constDV,Nat.reduceLT,movK,Nat.reduceBEq,dnil,BP,fp189_0,h1,la125,lo_hsl,if_true,List.map_cons,List.map_nil]
 refine appFirst es (.inr ⟨id,0,cap,rfl,h2.row⟩) h7 (by omega) fun H1 f1 => ?_
 have g1:=f1.get h1 (by simp)
 have hfi:=firstE_le es k n
 have hge : getE es k n = match es[firstE es k n]? with
  | some e => if e.key = k then some e else none
  | none => none:=rfl
 generalize firstE es k n = i at hfi hge
 have c0 : (0 : Int)≤i:=by omega
 have:=hK _ f1
 by_cases hi : i = es.length
 ·subst hi
  rw [List.getElem?_eq_none (Nat.le_refl _)] at hge
  simp only [BZ1,BZ2,Pos.isHp,BQ,BP,dropLk,Nat.reduceLT,takK,w_seq,movK,Nat.reduceBEq,dnil,fp189_0,g1,la125,BZ3,dlh125,gs2_tf,constDV,List.map_nil,if_true,cd_t,bd138,List.map_cons,Proofs.Tryz.underlying138,Nat.reduceAdd,cn138,Nat.reduceLeDiff,Pos.inBox,ret_mix1,la138,if_false]
  rw [hge] at this
  exact this
 ·have hlt : i < es.length:=by omega
  have c1 : (i : Int) < es.length:=by omega
  have c2 : ¬ (i : Int) = es.length:=by omega
  obtain ⟨cs,k1,k2⟩:=h2.row.2 (by rintro rfl; simp at hlt)
  have k3:=f1.get k1 (by simp)
  obtain ⟨r,d1⟩:=hrow_cells k2 hlt
  obtain ⟨x,hx⟩ : ∃ x,es[i] = x:=⟨_,rfl⟩
  rw [hx,Nat.zero_add] at d1
  simp only [Ent.cells,List.cons_append,List.nil_append] at d1
  rw [List.getElem?_eq_getElem hlt,hx] at hge
  by_cases hk : x.key = k
  ·have hge : getE es k n = some x:=by rw [hge]; exact if_pos hk
   rw [hge] at this
   simp only [BZ1,BZ2,Pos.isHp,BQ,BP,dropLk,Nat.reduceLT,takK,w_seq,movK,Nat.reduceBEq,dnil,fp189_0,g1,la125,BZ3,dlh125,c2,gs2_ff,ixh125,c0,c1,fp138_0,k3,d1,hk,la9,ne_eq,constDV,if_false,cd_f,la138,Nat.reduceLeDiff,List.map_cons,List.map_nil,if_true,Proofs.Tryz.underlying138,Nat.reduceAdd,cn138,Pos.inBox,ret_mix1]
   simp only [optD,Ent.cells,hk] at this
   exact this
  ·have hge : getE es k n = none:=by rw [hge]; exact if_neg hk
   rw [hge] at this
   simp only [BZ1,BZ2,Pos.isHp,BQ,BP,dropLk,Nat.reduceLT,takK,w_seq,movK,Nat.reduceBEq,dnil,fp189_0,g1,la125,BZ3,dlh125,c2,gs2_ff,ixh125,c0,c1,fp138_0,k3,d1,la9,ne_eq,hk,constDV,if_false,cd_t,bd138,List.map_cons,List.map_nil,if_true,Proofs.Tryz.underlying138,Nat.reduceAdd,cn138,Nat.reduceLeDiff,Pos.inBox,ret_mix1,la138]
   exact this
end Go.Ab.En
/- EnK: The engine's laws: what is seen of entries in order. -/
namespace Go.Ab.En
open Go Go.Conc Go.RowKit Go.Ab
set_option maxRecDepth 10000
theorem rowD_len (es : List Ent) : (rowD es).length = es.length:=by simp [rowD]
theorem rowD_get {es : List Ent} {i : Nat} (h : i < es.length) : (rowD es).getD i .undef = .agg [.str (es[i]).key,.int .i64 (es[i]).seq,.bool (es[i]).del,.str (es[i]).val]:=by simp [rowD,List.getD,h,Ent.cells]
noncomputable def b168 : Code:=(Go.Proofs.Tryz.f168.body).getD .skip
theorem hb168 : Go.Proofs.Tryz.f168.body = some b168:=by kernel_rfl
def newE (g : List Ent) (n : Int) : Nat:=(g.takeWhile fun e => decide (¬ e.seq≤n)).length
def SNewest : Spec:=fun H args K => ∃ (own : Bool) (g : List Ent) (n : Int),args = [.sl own 4 (rowD g),.int .i64 n]∧g.length < 4611686018427387904∧K H (.int .i64 (newE g n))
theorem appNewest {H : List HObj} {K : List HObj→DV→Prop} {own : Bool} {g : List Ent} {n : Int} (h1 : g.length < 4611686018427387904) (h : K H (.int .i64 (newE g n))) : app SNewest H [.sl own 4 (rowD g),.int .i64 n] K:=⟨own,g,n,rfl,h1,h⟩
def MNw (H : List HObj) (g : List Ent) (n : Int) (m : Nat) (st : St) : Prop:=∃ (i : Nat) (B : List (Nat × Nat × List DV)),i≤g.length∧m = g.length - i∧(∀ k (h : k < g.length),k < i→decide (¬ g[k].seq≤n) = true)∧(B = []∨∃ g c,B = [(6,g,c)]) ∧
 st = mk 22 [(0,.sl false 4 (rowD g)),(1,.int .i64 n),(7,.sl false 4 (rowD g)),(8,.int .i64 g.length),(9,.int .i64 i)] B H []
set_option maxHeartbeats 2000000 in
theorem rcNewest {I : Jd pp} (hI : ∀ w e,I.Ok w e) : RC I 168 SNewest:=by
 refine rc_of_code (isObj:=noO) (Γ:=envOf []) (rs:=[4]) mixed hI (envOf_rc (by simp)) Go.Proofs.Tryz.func168 (by kernel_rfl) hb168 Go.Proofs.Tryz.results168 Go.Proofs.Tryz.ntmps168 (by decide) ?_
 rintro H args K ⟨own,g,n,rfl,hl,hK⟩
 refine ⟨by simp,rfl,?_⟩
 unfold b168 Go.Proofs.Tryz.f168
 simp only [Option.getD_some,argSlots,BZ3,BZ1,BZ2,BP,BQ,w_seq,constDV,dropLk,Nat.reduceLT,movK,Nat.reduceBEq,lkGet,dl125,rowD_len]
 refine w_loop [0,1,7,8,9] (MNw H g n) g.length ?_ ?_
 ·exact ⟨0,[],by omega,by omega,by intro k _ hk; omega,.inl rfl,by simp only [BZ3,BZ1,BZ2,mk_put?_some,mk_put?_none,List.map_cons,Nat.reduceBEq,List.map_nil]; try rfl⟩
 ·rintro m st ⟨i,B,hi,rfl,hall,hB,rfl⟩
  obtain ⟨g',hb2,hb1⟩:=box1 hB
  by_cases e : i < g.length
  ·have e1 : (i : Int) < g.length:=by omega
   have e2 : (0 : Int)≤i:=by omega
   have wi : IntKind.i64.wrap ((i : Int) + 1) = ((i + 1 : Nat) : Int):=by rw [wrap_i64 (by omega) (by omega)]; omega
   have hx:=rowD_get e
   obtain ⟨x,hx'⟩ : ∃ x,g[i] = x:=⟨_,rfl⟩
   rw [hx'] at hx
   by_cases hq : x.seq≤n
   ·simp only [w_seq,BZ1,BZ2,BQ,Nat.reduceLT,Nat.reduceBEq,e1,BP,dropLk,cd_t,movK,ix125,e2,rowD_len,hx,la138,Nat.reduceAdd,Nat.reduceLeDiff,List.map_cons,List.map_nil,al138,isO_eq,hb2,hb1,if_false,takK,if_true,Proofs.Tryz.underlying138,cn138,Pos.inBox,fl138_1,la3,b_leq,hq]
    have : newE g n = i:=takeWhile_len _ g i hi hall fun h => by rw [hx']; simp [hq]
    rw [this] at hK
    exact hK
   ·simp only [w_seq,BZ1,BZ2,BQ,Nat.reduceLT,Nat.reduceBEq,e1,BP,dropLk,cd_t,movK,ix125,e2,rowD_len,hx,la138,Nat.reduceAdd,Nat.reduceLeDiff,List.map_cons,List.map_nil,al138,isO_eq,hb2,hb1,if_false,takK,if_true,Proofs.Tryz.underlying138,cn138,Pos.inBox,fl138_1,la3,b_leq,hq,cd_f,constDV,wi]
    refine ⟨_,?_,i + 1,_,by omega,rfl,fun k h hk => ?_,.inr ⟨_,_,rfl⟩,rfl⟩
    ·omega
    ·by_cases hki : k = i
     ·subst hki; rw [hx']; simp [hq]
     ·exact hall k h (by omega)
  ·obtain rfl : i = g.length:=by omega
   have e1 : ¬ (g.length : Int) < g.length:=by omega
   simp only [w_seq,BZ1,BZ2,BQ,Nat.reduceLT,Nat.reduceBEq,e1,BP,dropLk,cd_f,movK,lkGet,dl125,rowD_len,takK,if_true,if_false]
   have : newE g n = g.length:=takeWhile_len _ g _ hi hall fun h => by omega
   rw [this] at hK
   exact hK
noncomputable def b167 : Code:=(Go.Proofs.Tryz.f167.body).getD .skip
theorem hb167 : Go.Proofs.Tryz.f167.body = some b167:=by kernel_rfl
def gE : Nat→List Ent→List (List Ent)
 | 0,_ => []
 | _ + 1,[] => []
 | f + 1,e :: r => ((e :: r).takeWhile fun x => decide (x.key = e.key)) :: gE f ((e :: r).dropWhile fun x => decide (x.key = e.key))
def groupsE (es : List Ent) : List (List Ent):=gE es.length es
def grpD (gs : List (List Ent)) : List DV:=gs.map fun g => .sl false 4 (rowD g)
def SGroups : Spec:=fun H args K => ∃ (own : Bool) (es : List Ent),args = [.sl own 4 (rowD es)]∧es.length < 100000000∧K H (.sl true 1 (grpD (groupsE es)))
theorem appGroups {H : List HObj} {K : List HObj→DV→Prop} {own : Bool} {es : List Ent} (h1 : es.length < 100000000) (h : K H (.sl true 1 (grpD (groupsE es)))) : app SGroups H [.sl own 4 (rowD es)] K:=⟨own,es,rfl,h1,h⟩
def MGr (H : List HObj) (es : List Ent) (m : Nat) (st : St) : Prop:=∃ (f : Nat) (done : List (List Ent)) (rest : List Ent),m = rest.length∧rest.length≤f∧done.length + f≤es.length∧groupsE es = done ++ gE f rest ∧
 st = mk 34 [(0,.sl false 4 (rowD rest)),(3,.sl true 1 (grpD done))] [] H []
def MGi (H : List HObj) (done : List (List Ent)) (e : Ent) (r : List Ent) (m : Nat) (st : St) : Prop:=∃ n : Nat,n≤(e :: r).length∧m = (e :: r).length - n∧(∀ k (h : k < (e :: r).length),k < n→decide ((e :: r)[k].key = e.key) = true) ∧
 st = mk 34 [(0,.sl false 4 (rowD (e :: r))),(3,.sl true 1 (grpD done)),(4,.int .i64 n)] [] H []
set_option maxHeartbeats 2000000 in
theorem rcGroups {I : Jd pp} (hI : ∀ w e,I.Ok w e) : RC I 167 SGroups:=by
 refine rc_of_code (isObj:=noO) (Γ:=envOf []) (rs:=[2]) mixed hI (envOf_rc (by simp)) Go.Proofs.Tryz.func167 (by kernel_rfl) hb167 Go.Proofs.Tryz.results167 Go.Proofs.Tryz.ntmps167 (by decide) ?_
 rintro H args K ⟨own,es,rfl,hl,hK⟩
 refine ⟨by simp,rfl,?_⟩
 unfold b167 Go.Proofs.Tryz.f167
 simp only [Option.getD_some,argSlots,BZ3,BZ1,BZ2,BP,w_seq,constDV,Proofs.Tryz.underlying154,cn125,dropLk]
 refine w_loop [0,3] (MGr H es) es.length ?_ ?_
 ·exact ⟨es.length,[],es,rfl,Nat.le_refl _,by simp,rfl,by simp only [BZ3,BZ1,BZ2,mk_put?_some,mk_put?_none,List.map_cons,Nat.reduceBEq,List.map_nil,grpD]; try rfl⟩
 ·rintro m st ⟨f,done,rest,rfl,hf,hdf,hg,rfl⟩
  cases rest with
  | nil =>
   simp only [BQ,w_seq,BZ1,Nat.reduceLT,movK,lkGet,dropLk,BZ2,dl125,rowD_len,BZ3,BP,constDV,Int.reduceLT,cd_f,Nat.reduceBEq,Nat.reduceEqDiff,if_false,takK,if_true,Pos.atSlot]
   have : gE f [] = []:=by cases f <;> rfl
   rw [this,List.append_nil] at hg
   rw [hg] at hK
   exact hK
  | cons e r =>
   have c0 : (0 : Int) < ((r.length + 1 : Nat) : Int):=by omega
   simp only [List.length_cons] at hf
   obtain ⟨f,rfl⟩ : ∃ f',f = f' + 1:=⟨f - 1,by omega⟩
   simp only [BQ,w_seq,BZ1,Nat.reduceLT,movK,lkGet,dropLk,BZ2,dl125,rowD_len,BP,constDV,BZ3,c0,cd_t,if_false]
   refine w_loop [0,3,4] (MGi H done e r) (e :: r).length ?_ ?_
   ·exact ⟨0,by omega,by omega,by intro k _ hk; omega,by simp only [BZ3,BZ1,BZ2,mk_put?_some,mk_put?_none,List.map_cons,Nat.reduceBEq,List.map_nil]; try rfl⟩
   ·rintro m st ⟨n,hn,rfl,hall,rfl⟩
    have ex : ∀ (hend : ∀ h : n < (e :: r).length,decide ((e :: r)[n].key = e.key) = false),(e :: r).takeWhile (fun x => decide (x.key = e.key)) = (e :: r).take n∧(e :: r).dropWhile (fun x => decide (x.key = e.key)) = (e :: r).drop n∧1≤n:=by
     intro hend
     have h1:=takeWhile_eq (fun x => decide (x.key = e.key)) (e :: r) n hn hall hend
     have h2:=List.takeWhile_append_dropWhile (p:=fun x => decide (x.key = e.key)) (l:=e :: r)
     refine ⟨h1,?_,?_⟩
     ·rw [h1] at h2
      have h3:=List.take_append_drop n (e :: r)
      exact List.append_cancel_left (h2.trans h3.symm)
     ·rcases Nat.eq_zero_or_pos n with rfl | h
      ·have:=hend (by simp)
       simp at this
      ·exact h
    have hn' : n≤r.length + 1:=by simpa using hn
    have n0 : (0 : Int)≤n:=by omega
    have n1 : (n : Int)≤((r.length + 1 : Nat) : Int):=by omega
    have z1 : (0 : Int) < ((r.length + 1 : Nat) : Int):=by omega
    have s1 : (rowD (e :: r)).take n = rowD ((e :: r).take n):=by simp [rowD]
    have s2 : ((rowD (e :: r)).take (r.length + 1)).drop n = rowD ((e :: r).drop n):=by
     rw [List.take_of_length_le (by simp [rowD])]; simp [rowD]
    have gl : (grpD done).length = done.length:=by simp [grpD]
    have happ : grpD done ++ [.sl false 4 (rowD ((e :: r).take n))] = grpD (done ++ [(e :: r).take n]):=by simp [grpD]
    by_cases hlt : n < (e :: r).length
    ·have hlt' : n < r.length + 1:=by simpa using hlt
     have e1 : (n : Int) < ((r.length + 1 : Nat) : Int):=by omega
     have wi : IntKind.i64.wrap ((n : Int) + 1) = ((n + 1 : Nat) : Int):=by rw [wrap_i64 (by omega) (by omega)]; omega
     have hx:=rowD_get hlt
     have hx0 : (rowD (e :: r)).getD 0 .undef = .agg [.str e.key,.int .i64 e.seq,.bool e.del,.str e.val]:=rowD_get (es:=e :: r) (i:=0) (by simp)
     obtain ⟨x,hx'⟩ : ∃ x,(e :: r)[n] = x:=⟨_,rfl⟩
     rw [hx'] at hx
     by_cases hq : x.key = e.key
     ·simp only [BQ,w_seq,BZ1,Nat.reduceLT,movK,Nat.reduceBEq,dropLk,lkGet,BZ2,dl125,rowD_len,BP,e1,cd_t,if_false]
      refine w_draw [] (.quiet 0 (.quiet 1 (.quiet 2 (.quiet 3 (.quiet 4 (.quiet 5 (.quiet 6 (.quiet 7 (.quiet 8 (.quiet 9 (.done))))))))))) (by decide) (by kernel_rfl) ?_
      simp only [BZ1,BZ2,Nat.reduceLT,Nat.reduceBEq,dropLk,BP,ix125,n0,rowD_len,BQ,e1,hx,hq,BZ3,fv138_0,la9,constDV,Int.reduceLE,z1,Int.reduceToNat,hx0,ne_eq,cd_f,movK,wi,takK,List.map_cons,List.map_nil,if_false]
      refine ⟨_,?_,n + 1,by simp only [List.length_cons]; omega,rfl,fun k h hk => ?_,rfl⟩
      ·simp only [List.length_cons]; omega
      ·by_cases hki : k = n
       ·subst hki; rw [hx']; simp [hq]
       ·exact hall k h (by omega)
     ·simp only [BQ,w_seq,BZ1,Nat.reduceLT,movK,Nat.reduceBEq,dropLk,lkGet,BZ2,dl125,rowD_len,BP,e1,cd_t,if_false]
      refine w_draw [] (.quiet 0 (.quiet 1 (.quiet 2 (.quiet 3 (.quiet 4 (.quiet 5 (.quiet 6 (.quiet 7 (.quiet 8 (.quiet 9 (.done))))))))))) (by decide) (by kernel_rfl) ?_
      simp only [BZ1,BZ2,Nat.reduceLT,Nat.reduceBEq,dropLk,BP,ix125,n0,rowD_len,BQ,e1,hx,BZ3,fv138_0,la9,constDV,Int.reduceLE,z1,Int.reduceToNat,hx0,ne_eq,hq,cd_t,Nat.reduceEqDiff,List.map_cons,List.map_nil,w_seq,movK,if_false,lkGet,reduceCtorEq,Pos.atSlot,sc125,dbound,n1,s1,bs154_1,isO_eq,apo154_154,takK,if_true,ap154_154,Nat.reduceLeDiff,s2]
      obtain ⟨x1,x2,x3⟩:=ex (fun h => by rw [hx']; simp [hq])
      refine ⟨by rw [gl]; omega,by rw [gl]; omega,_,?_,f,done ++ [(e :: r).take n],(e :: r).drop n,rfl,by rw [List.length_drop]; simp only [List.length_cons] at hn ⊢; omega,by rw [List.length_append,List.length_singleton]; omega,?_,?_⟩
      ·rw [List.length_drop]; simp only [List.length_cons]; omega
      ·rw [hg,gE,x1,x2,List.append_assoc]; rfl
      ·rw [← happ]
    ·obtain rfl : n = r.length + 1:=by simp only [List.length_cons] at hlt; omega
     have e1 : ¬ ((r.length + 1 : Nat) : Int) < ((r.length + 1 : Nat) : Int):=by omega
     have s3 : (rowD (e :: r)).take (r.length + 1) = rowD (e :: r):=List.take_of_length_le (by simp [rowD])
     have s4 : (rowD (e :: r)).drop (r.length + 1) = rowD []:=by rw [List.drop_eq_nil_of_le (by simp [rowD])]; rfl
     obtain ⟨x1,x2,x3⟩:=ex (fun h => by simp only [List.length_cons] at h; omega)
     have y1 : (e :: r).take (r.length + 1) = e :: r:=List.take_of_length_le (by simp)
     have y2 : (e :: r).drop (r.length + 1) = []:=List.drop_eq_nil_of_le (by simp)
     rw [y1] at x1 happ
     rw [y2] at x2
     simp only [BQ,w_seq,BZ1,Nat.reduceLT,movK,Nat.reduceBEq,dropLk,lkGet,BZ2,dl125,rowD_len,BP,e1,cd_f,Nat.reduceEqDiff,if_false,reduceCtorEq,Pos.atSlot,BZ3,sc125,dbound,n0,n1,s3,bs154_1,isO_eq,apo154_154,takK,if_true,ap154_154,Nat.reduceLeDiff,happ,s4,List.map_cons,List.map_nil]
     refine ⟨by rw [gl]; omega,by rw [gl]; omega,_,?_,f,done ++ [e :: r],[],rfl,by simp,by rw [List.length_append,List.length_singleton]; omega,?_,rfl⟩
     ·simp
     ·rw [hg,gE,x1,x2,List.append_assoc]; rfl
noncomputable def b103 : Code:=(Go.Proofs.Tryz.f103.body).getD .skip
theorem hb103 : Go.Proofs.Tryz.f103.body = some b103:=by kernel_rfl
def visG (n : Int) (g : List Ent) : Option Ent:=match g[newE g n]? with
 | some e => if e.del then none else some e
 | none => none
def visE (es : List Ent) (n : Int) : List Ent:=(groupsE es).filterMap (visG n)
def SVis : Spec:=fun H args K => ∃ (own : Bool) (es : List Ent) (n : Int),args = [.sl own 4 (rowD es),.int .i64 n]∧Sorted es∧es.length < 100000000∧K H (.sl true 4 (rowD (visE es n)))
theorem appVis {H : List HObj} {K : List HObj→DV→Prop} {own : Bool} {es : List Ent} {n : Int} (h1 : Sorted es) (h2 : es.length < 100000000) (h : K H (.sl true 4 (rowD (visE es n)))) : app SVis H [.sl own 4 (rowD es),.int .i64 n] K:=⟨own,es,n,rfl,h1,h2,h⟩
theorem gE_len : ∀ (f : Nat) (es : List Ent),(gE f es).length≤es.length∧∀ g∈gE f es,g.length≤es.length
 | 0,_ => by simp [gE]
 | _ + 1,[] => by simp [gE]
 | f + 1,e :: r => by
  have ih:=gE_len f ((e :: r).dropWhile fun x => decide (x.key = e.key))
  have hd : ((e :: r).dropWhile fun x => decide (x.key = e.key)).length≤r.length:=by
   simp only [List.dropWhile_cons,decide_true,if_true]
   exact (List.dropWhile_suffix _).length_le
  refine ⟨by simp only [gE,List.length_cons]; omega,fun g hg => ?_⟩
  rcases List.mem_cons.1 (by simpa only [gE] using hg) with rfl | hg
  ·exact (List.takeWhile_prefix _).length_le
  ·have:=ih.2 g hg
   simp only [List.length_cons]; omega
def MVs (H : List HObj) (es : List Ent) (n : Int) (gs : List (List Ent)) (m : Nat) (st : St) : Prop:=∃ i : Nat,i≤gs.length∧m = gs.length - i ∧
 st = mk 43 [(1,.int .i64 n),(5,.sl true 4 (rowD ((gs.take i).filterMap (visG n)))),(13,.sl true 1 (grpD gs)),(14,.int .i64 gs.length),(15,.int .i64 i)] [] H []
set_option maxHeartbeats 2000000 in
theorem rcVis {I : Jd pp} (hI : ∀ w e,I.Ok w e) (hC : RC I 135 SCs) : RC I 103 SVis:=by
 refine rc_of_code (isObj:=noO) (Γ:=envOf [(163,SSorted),(167,SGroups),(168,SNewest)]) (rs:=[4]) mixed hI (envOf_rc (by simpa using ⟨rcSorted hI hC,rcGroups hI,rcNewest hI⟩)) Go.Proofs.Tryz.func103 (by kernel_rfl) hb103 Go.Proofs.Tryz.results103 Go.Proofs.Tryz.ntmps103 (by decide) ?_
 rintro H args K ⟨own,es,n,rfl,hs,hl,hK⟩
 refine ⟨by simp,rfl,?_⟩
 unfold b103 Go.Proofs.Tryz.f103
 simp only [Option.getD_some,argSlots,BZ2,BQ,w_seq,BZ1,constDV,Proofs.Tryz.underlying125,cn138,dropLk,Nat.reduceLT,movK,Nat.reduceBEq,lkGet,Nat.reduceEqDiff,if_false,if_true,List.map_cons,List.map_nil]
 refine appSorted es (.inl ⟨_,rfl⟩) hs (by omega) ?_
 simp only [BZ1,BZ2,Pos.isHp,BQ,BP,dropLk,Nat.reduceLT,cd_f,w_seq,constDV,Proofs.Tryz.underlying125,cn138,movK,Nat.reduceBEq,lkGet,Nat.reduceEqDiff,if_false,if_true,List.map_cons,List.map_nil]
 refine appGroups hl ?_
 have hgl:=gE_len es.length es
 have hgs : groupsE es = gE es.length es:=rfl
 have hvis : visE es n = (groupsE es).filterMap (visG n):=rfl
 rw [← hgs] at hgl
 generalize groupsE es = gs at hgl hvis
 have gl : (grpD gs).length = gs.length:=by simp [grpD]
 simp only [hold_app2,mk_called,Pos.isHp,BQ,BP,dropLk,hold_app,tS_cons,g_none,o_len,Nat.reduceLT,rho_tmp,look_hit,dl154,gl,o_move,move_const,constDV,vroA_int,tS_nil,w_block]
 refine w_loop [1,5,13,14,15] (MVs H es n gs) gs.length ?_ ?_
 ·exact ⟨0,by omega,by omega,by simp only [rowD,BZ3,BZ1,BZ2,BP,List.map_cons,Nat.reduceBEq,List.map_nil,BQ,List.filterMap_nil]; try rfl⟩
 ·rintro m st ⟨i,hi,rfl,rfl⟩
  by_cases e : i < gs.length
  ·have e1 : (i : Int) < gs.length:=by omega
   have e2 : (0 : Int)≤i:=by omega
   have wi : IntKind.i64.wrap ((i : Int) + 1) = ((i + 1 : Nat) : Int):=by rw [wrap_i64 (by omega) (by omega)]; omega
   obtain ⟨g,hg⟩ : ∃ g,gs[i] = g:=⟨_,rfl⟩
   have hgm:=hgl.2 _ (List.getElem_mem e)
   rw [hg] at hgm
   have hx : (grpD gs).getD i .undef = .sl false 4 (rowD g):=by simp [grpD,List.getD,e,hg]
   simp only [w_seq,BZ1,BZ2,BQ,Nat.reduceLT,Nat.reduceBEq,e1,BP,dropLk,cd_t,ix154,e2,gl,hx,la125,addrPos,takK,lkGet,movK,Nat.reduceEqDiff,if_true,if_false,List.map_cons,List.map_nil]
   refine appNewest (by omega) ?_
   have hst : (gs.take (i + 1)).filterMap (visG n) = (gs.take i).filterMap (visG n) ++ (visG n g).toList:=by
    rw [List.take_succ_eq_append_getElem e,hg,List.filterMap_append]
    cases h : visG n g <;> simp [h]
   have hvg : visG n g = match g[newE g n]? with
    | some e => if e.del then none else some e
    | none => none:=rfl
   have hln : newE g n≤g.length:=(List.takeWhile_prefix _).length_le
   have hrl : ((gs.take i).filterMap (visG n)).length≤100000000:=by
    have h1:=List.length_filterMap_le (visG n) (gs.take i)
    rw [List.length_take] at h1
    omega
   generalize newE g n = q at hvg hln
   generalize (gs.take i).filterMap (visG n) = acc at hst hrl
   have q0 : (0 : Int)≤q:=by omega
   by_cases hq : q < g.length
   ·have q1 : (q : Int) < g.length:=by omega
    have hxq:=rowD_get hq
    obtain ⟨x,hx'⟩ : ∃ x,g[q] = x:=⟨_,rfl⟩
    rw [hx'] at hxq
    rw [List.getElem?_eq_getElem hq,hx'] at hvg
    cases hd : x.del
    ·rw [hd] at hxq
     simp only [BZ1,BZ2,Pos.isHp,BQ,BP,dropLk,Nat.reduceLT,takK,w_seq,movK,Nat.reduceBEq,lkGet,dl125,rowD_len,q1,gs2_tt,ix125,q0,hxq,fv138_2,la4,BZ3,constDV,if_true,cd_t,Nat.reduceEqDiff,if_false,Pos.atSlot,la138,Nat.reduceAdd,Nat.reduceLeDiff,List.map_cons,List.map_nil,bs125_1,isO_eq,apo125_125,ap125_125,wi]
     refine ⟨by omega,by omega,_,?_,i + 1,by omega,rfl,?_⟩
     ·omega
     ·rw [hst,hvg]
      simp [rowD,Ent.cells,hd]
    ·rw [hd] at hxq
     simp only [BZ1,BZ2,Pos.isHp,BQ,BP,dropLk,Nat.reduceLT,takK,w_seq,movK,Nat.reduceBEq,lkGet,dl125,rowD_len,q1,gs2_tt,ix125,q0,hxq,fv138_2,la4,BZ3,constDV,if_true,cd_f,wi,List.map_cons,List.map_nil,if_false]
     refine ⟨_,?_,i + 1,by omega,rfl,?_⟩
     ·omega
     ·rw [hst,hvg]
      simp [hd]
   ·have q1 : ¬ (q : Int) < g.length:=by omega
    rw [List.getElem?_eq_none (by omega)] at hvg
    simp only [BZ1,BZ2,Pos.isHp,BQ,BP,dropLk,Nat.reduceLT,takK,w_seq,movK,Nat.reduceBEq,lkGet,dl125,rowD_len,q1,gs2_ft,BZ3,constDV,List.map_nil,if_false,cd_f,wi,List.map_cons]
    refine ⟨_,?_,i + 1,by omega,rfl,?_⟩
    ·omega
    ·rw [hst,hvg]
     simp
  ·obtain rfl : i = gs.length:=by omega
   have e1 : ¬ (gs.length : Int) < gs.length:=by omega
   simp only [w_seq,BZ1,BZ2,BQ,Nat.reduceLT,Nat.reduceBEq,e1,BP,dropLk,cd_f,movK,Nat.reduceEqDiff,if_false,takK,lkGet,if_true,BZ3,Pos.atSlot]
   rw [List.take_length,← hvis]
   exact hK
end Go.Ab.En

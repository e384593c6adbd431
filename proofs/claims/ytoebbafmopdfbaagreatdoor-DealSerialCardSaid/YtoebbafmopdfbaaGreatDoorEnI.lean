/- A part of the proof; no condition of its own. -/
import Derived.Test.YtoebbafmopdfbaaGreatDoorEnG
set_option linter.unusedSimpArgs false
set_option linter.unusedVariables false
/- EnI: The engine's laws: batches as bytes,as entries. -/
namespace Go.Ab.En
open Go Go.Conc Go.RowKit Go.Ab
set_option maxRecDepth 10000
theorem textB_len (s : Str) : (textB s).length≤s.length + 9:=by
 have:=numB_len s.length
 simp [textB]; omega
theorem valB_len (d : Bool) (v : Str) : (valB d v).length≤v.length + 10:=by
 have:=textB_len v
 cases d <;> simp [valB] <;> omega
noncomputable def b138 : Code:=(Go.Proofs.Tryz.f138.body).getD .skip
theorem hb138 : Go.Proofs.Tryz.f138.body = some b138:=by kernel_rfl
def wrB (w : Wr) : Str:=textB w.key ++ valB w.del w.val
def wordsB (ws : List Wr) : Str:=numB ws.length ++ ws.flatMap wrB
def SmW (ws : List Wr) : Prop:=ws.length < 1000000000∧∀ w∈ws,w.key.length≤100∧w.val.length≤100
theorem words_len {ws : List Wr} (h : ∀ w∈ws,w.key.length≤100∧w.val.length≤100) : (ws.flatMap wrB).length≤300 * ws.length:=by
 induction ws with
 | nil => simp
 | cons w r ih =>
  have h1:=ih fun x hx => h x (by simp [hx])
  have h2:=h w (by simp)
  have h3:=textB_len w.key
  have h4:=valB_len w.del w.val
  simp only [List.flatMap_cons,List.length_append,wrB,List.length_cons] at *
  omega
def SWords : Spec:=fun H args K => ∃ (v : DV) (ws : List Wr),args = [v]∧RowW H v ws∧SmW ws∧K H (.str (wordsB ws))
theorem appWords {H : List HObj} {K : List HObj→DV→Prop} {v : DV} (ws : List Wr) (h1 : RowW H v ws) (h2 : SmW ws) (h : K H (.str (wordsB ws))) : app SWords H [v] K:=⟨v,ws,rfl,h1,h2,h⟩
def MWd (H : List HObj) (v : DV) (ws : List Wr) (m : Nat) (st : St) : Prop:=∃ (i : Nat) (B : List (Nat × Nat × List DV)),i≤ws.length∧m = ws.length - i∧(B = []∨∃ g c,B = [(5,g,c)]) ∧
 st = mk 28 [(3,.str (numB ws.length ++ (ws.take i).flatMap wrB)),(9,v),(10,.int .i64 ws.length),(11,.int .i64 i)] B H []
set_option maxHeartbeats 8000000 in
theorem rcWords {I : Jd pp} (hI : ∀ w e,I.Ok w e) : RC I 138 SWords:=by
 refine rc_of_code (isObj:=noO) (Γ:=envOf [(137,SNum),(183,SText),(206,SVal)]) (rs:=[2]) mixed hI (envOf_rc (by simpa using ⟨rcNum hI,rcText hI,rcVal hI⟩)) Go.Proofs.Tryz.func138 (by kernel_rfl) hb138 Go.Proofs.Tryz.results138 Go.Proofs.Tryz.ntmps138 (by decide) ?_
 rintro H args K ⟨v,ws,rfl,hv,⟨hl,hsm⟩,hK⟩
 rcases hv with ⟨own,rfl⟩ | ⟨id,off,cap,rfl,hr⟩
 ·skip
  refine ⟨by simp,rfl,?_⟩
  unfold b138 Go.Proofs.Tryz.f138
  simp only [Option.getD_some,argSlots,BZ2,w_seq,BZ1,constDV,dropLk,Nat.reduceLT,movK,Nat.reduceBEq,lkGet,dl33,List.length_map,BP,Nat.reduceEqDiff,if_false,if_true,BQ,List.map_cons,List.map_nil]
  refine appNum (by omega) ?_
  simp only [BZ1,BZ2,Pos.isHp,BQ,BP,dropLk,Nat.reduceLT,takK,w_seq,movK,Nat.reduceBEq,lkGet,dl33,List.length_map,constDV]
  refine w_loop [3,9,10,11] (MWd H (.sl false 3 (ws.map wrD)) ws) ws.length ?_ ?_
  ·exact ⟨0,[],by omega,by omega,.inl rfl,by simp only [BZ3,BZ1,BZ2,BP,List.map_cons,Nat.reduceBEq,List.map_nil,BQ]; try rfl⟩
  ·rintro m st ⟨i,B,hi,rfl,hB,rfl⟩
   obtain ⟨g,hb2,hb1⟩:=box1 hB
   by_cases e : i < ws.length
   ·have e1 : (i : Int) < ws.length:=by omega
    have e2 : (0 : Int)≤i:=by omega
    have wi : IntKind.i64.wrap ((i : Int) + 1) = ((i + 1 : Nat) : Int):=by rw [wrap_i64 (by omega) (by omega)]; omega
    have hin:=hsm _ (List.getElem_mem e)
    have hx:=wrD_get e
    obtain ⟨x,hx'⟩ : ∃ x,ws[i] = x:=⟨_,rfl⟩
    rw [hx'] at hin hx
    have hacc : (numB ws.length ++ (ws.take i).flatMap wrB).length≤9 + 300 * ws.length:=by
     have h1:=numB_len ws.length
     have h2:=words_len (ws:=ws.take i) fun w hw => hsm w (List.mem_of_mem_take hw)
     rw [List.length_take] at h2
     rw [List.length_append]; omega
    have hstep : (numB ws.length ++ (ws.take i).flatMap wrB) ++ (textB x.key ++ valB x.del x.val) = numB ws.length ++ (ws.take (i + 1)).flatMap wrB:=by
     rw [List.take_succ_eq_append_getElem e,hx',List.flatMap_append]
     simp [wrB]
    have ht:=textB_len x.key
    have hvl:=valB_len x.del x.val
    generalize numB ws.length ++ (ws.take i).flatMap wrB = acc at hacc hstep ⊢
    simp only [w_seq,BZ1,BZ2,BQ,Nat.reduceLT,Nat.reduceBEq,e1,BP,dropLk,cd_t,ix33,e2,List.length_map,hx,la32,Nat.reduceAdd,Nat.reduceLeDiff,List.map_cons,List.map_nil,al32,isO_eq,hb2,hb1,if_false,takK,if_true,Proofs.Tryz.underlying32,cn32,Pos.inBox]
    refine w_draw [3,8,11] (.quiet 0 (.quiet 1 (.quiet 2 (.quiet 4 (.quiet 5 (.quiet 6 (.quiet 7 (.acts [(3,[7,6,5,4,0],.acts [(8,[0],.quiet 9 (.quiet 10 (.acts [(11,[],.done)])))])])))))))) (by decide) (by kernel_rfl) ?_
    simp only [BZ1,BZ2,Nat.reduceLT,Nat.reduceBEq,dropLk,BZ3,fl32_0,BQ,if_true,la9,fl32_1,la4,fl32_2,Nat.reduceEqDiff,if_false,List.map_cons,List.map_nil]
    refine appText (by omega) ?_
    simp only [BZ1,BZ2,Pos.isHp,BQ,BP,dropLk,BZ3,Nat.reduceLT,Nat.reduceBEq,if_true,la9,fl32_2,la4,fl32_1,dropLks,Nat.reduceEqDiff,if_false,List.map_cons,List.map_nil]
    refine appVal (by omega) ?_
    simp only [BZ1,BZ2,Pos.isHp,BQ,BP,dropLk,BZ3,Nat.reduceLT,Nat.reduceBEq,dropLks,ex_and,hstep,takK,constDV,wi,movK,List.map_cons,List.map_nil,if_false]
    refine ⟨by omega,by rw [List.length_append]; omega,_,?_,i + 1,_,by omega,rfl,.inr ⟨_,_,rfl⟩,rfl⟩
    omega
   ·obtain rfl : i = ws.length:=by omega
    have e1 : ¬ (ws.length : Int) < ws.length:=by omega
    simp only [w_seq,BZ1,BZ2,BQ,Nat.reduceLT,Nat.reduceBEq,e1,BP,dropLk,cd_f,movK,takK,if_true,if_false]
    rw [List.take_length]
    exact hK
 ·skip
  refine ⟨by simp,rfl,?_⟩
  unfold b138 Go.Proofs.Tryz.f138
  simp only [Option.getD_some,argSlots,BZ2,w_seq,BZ1,constDV,dropLk,Nat.reduceLT,movK,Nat.reduceBEq,dlh33,BP,Nat.reduceEqDiff,if_false,if_true,BQ,List.map_cons,List.map_nil]
  refine appNum (by omega) ?_
  simp only [BZ1,BZ2,Pos.isHp,BQ,BP,dropLk,Nat.reduceLT,takK,w_seq,movK,Nat.reduceBEq,dlh33,constDV]
  refine w_loop [3,9,10,11] (MWd H (.hsl id 3 off ws.length cap) ws) ws.length ?_ ?_
  ·exact ⟨0,[],by omega,by omega,.inl rfl,by simp only [BZ3,BZ1,BZ2,BP,List.map_cons,Nat.reduceBEq,List.map_nil,BQ]; try rfl⟩
  ·rintro m st ⟨i,B,hi,rfl,hB,rfl⟩
   obtain ⟨g,hb2,hb1⟩:=box1 hB
   by_cases e : i < ws.length
   ·have e1 : (i : Int) < ws.length:=by omega
    have e2 : (0 : Int)≤i:=by omega
    have wi : IntKind.i64.wrap ((i : Int) + 1) = ((i + 1 : Nat) : Int):=by rw [wrap_i64 (by omega) (by omega)]; omega
    have hin:=hsm _ (List.getElem_mem e)
    obtain ⟨cs,k1,k2⟩:=hr.2 (by rintro rfl; simp at e)
    obtain ⟨r,d1⟩:=hroww_cells k2 e
    obtain ⟨x,hx'⟩ : ∃ x,ws[i] = x:=⟨_,rfl⟩
    rw [hx'] at hin d1
    have hacc : (numB ws.length ++ (ws.take i).flatMap wrB).length≤9 + 300 * ws.length:=by
     have h1:=numB_len ws.length
     have h2:=words_len (ws:=ws.take i) fun w hw => hsm w (List.mem_of_mem_take hw)
     rw [List.length_take] at h2
     rw [List.length_append]; omega
    have hstep : (numB ws.length ++ (ws.take i).flatMap wrB) ++ (textB x.key ++ valB x.del x.val) = numB ws.length ++ (ws.take (i + 1)).flatMap wrB:=by
     rw [List.take_succ_eq_append_getElem e,hx',List.flatMap_append]
     simp [wrB]
    have ht:=textB_len x.key
    have hvl:=valB_len x.del x.val
    generalize numB ws.length ++ (ws.take i).flatMap wrB = acc at hacc hstep ⊢
    simp only [w_seq,BZ1,BZ2,BQ,Nat.reduceLT,Nat.reduceBEq,e1,BP,dropLk,cd_t,ixh33,e2,k1,d1,la32,Nat.reduceLeDiff,List.map_cons,List.map_nil,al32,isO_eq,hb2,hb1,if_false,takK,if_true,Proofs.Tryz.underlying32,Nat.reduceAdd,cn32,Pos.inBox]
    refine w_draw [3,8,11] (.quiet 0 (.quiet 1 (.quiet 2 (.quiet 4 (.quiet 5 (.quiet 6 (.quiet 7 (.acts [(3,[7,6,5,4,0],.acts [(8,[0],.quiet 9 (.quiet 10 (.acts [(11,[],.done)])))])])))))))) (by decide) (by kernel_rfl) ?_
    simp only [BZ1,BZ2,Nat.reduceLT,Nat.reduceBEq,dropLk,BZ3,fl32_0,BQ,if_true,la9,fl32_1,la4,fl32_2,Nat.reduceEqDiff,if_false,List.map_cons,List.map_nil]
    refine appText (by omega) ?_
    simp only [BZ1,BZ2,Pos.isHp,BQ,BP,dropLk,BZ3,Nat.reduceLT,Nat.reduceBEq,if_true,la9,fl32_2,la4,fl32_1,dropLks,Nat.reduceEqDiff,if_false,List.map_cons,List.map_nil]
    refine appVal (by omega) ?_
    simp only [BZ1,BZ2,Pos.isHp,BQ,BP,dropLk,BZ3,Nat.reduceLT,Nat.reduceBEq,dropLks,ex_and,hstep,takK,constDV,wi,movK,List.map_cons,List.map_nil,if_false]
    refine ⟨by omega,by rw [List.length_append]; omega,_,?_,i + 1,_,by omega,rfl,.inr ⟨_,_,rfl⟩,rfl⟩
    omega
   ·obtain rfl : i = ws.length:=by omega
    have e1 : ¬ (ws.length : Int) < ws.length:=by omega
    simp only [w_seq,BZ1,BZ2,BQ,Nat.reduceLT,Nat.reduceBEq,e1,BP,dropLk,cd_f,movK,takK,if_true,if_false]
    rw [List.take_length]
    exact hK
noncomputable def b77 : Code:=(Go.Proofs.Tryz.f77.body).getD .skip
theorem hb77 : Go.Proofs.Tryz.f77.body = some b77:=by kernel_rfl
def entsB (n : Int) (ws : List Wr) : List Ent:=ws.map fun w => ⟨w.key,n,w.del,w.val⟩
def SEnts : Spec:=fun H args K => ∃ (v : DV) (ws : List Wr) (n : Int),args = [.int .i64 n,v]∧RowW H v ws∧isBatch ws = true∧K H (.sl true 4 (rowD (entsB n ws)))
theorem appEnts {H : List HObj} {K : List HObj→DV→Prop} {v : DV} {n : Int} (ws : List Wr) (h1 : RowW H v ws) (h2 : isBatch ws = true) (h : K H (.sl true 4 (rowD (entsB n ws)))) : app SEnts H [.int .i64 n,v] K:=⟨v,ws,n,rfl,h1,h2,h⟩
theorem batch_le {ws : List Wr} (h : isBatch ws = true) : ws.length≤8:=by
 simp only [isBatch,Bool.and_eq_true,decide_eq_true_eq] at h
 omega
def MEn (H : List HObj) (v : DV) (ws : List Wr) (n : Int) (m : Nat) (st : St) : Prop:=∃ (i : Nat) (B : List (Nat × Nat × List DV)),i≤ws.length∧m = ws.length - i∧(B = []∨∃ g c,B = [(7,g,c)]) ∧
 st = mk 30 [(0,.int .i64 n),(5,.sl true 4 (rowD (entsB n (ws.take i)))),(11,v),(12,.int .i64 ws.length),(13,.int .i64 i)] B H []
set_option maxHeartbeats 8000000 in
theorem rcEnts {I : Jd pp} (hI : ∀ w e,I.Ok w e) : RC I 77 SEnts:=by
 refine rc_of_code (isObj:=noO) (Γ:=envOf [(71,SBIs)]) (rs:=[4]) mixed hI (envOf_rc (by simpa using rcBIs hI)) Go.Proofs.Tryz.func77 (by kernel_rfl) hb77 Go.Proofs.Tryz.results77 Go.Proofs.Tryz.ntmps77 (by decide) ?_
 rintro H args K ⟨v,ws,n,rfl,hv,hbt,hK⟩
 have hle:=batch_le hbt
 rcases hv with ⟨own,rfl⟩ | ⟨id,off,cap,rfl,hr⟩
 ·skip
  refine ⟨by simp,rfl,?_⟩
  unfold b77 Go.Proofs.Tryz.f77
  simp only [Option.getD_some,argSlots,BZ2,BQ,w_seq,BZ1,constDV,Proofs.Tryz.underlying125,cn138,dropLk,Nat.reduceLT,movK,Nat.reduceBEq,lkGet,if_true,List.map_cons,List.map_nil]
  refine appBIs ws (.inl ⟨_,rfl⟩) (by omega) ?_
  simp only [hbt,BZ1,BZ2,Pos.isHp,BQ,BP,dropLk,Nat.reduceLT,cd_f,w_seq,constDV,Proofs.Tryz.underlying125,cn138,movK,Nat.reduceBEq,lkGet,dl33,List.length_map]
  refine w_loop [0,5,11,12,13] (MEn H (.sl false 3 (ws.map wrD)) ws n) ws.length ?_ ?_
  ·exact ⟨0,[],by omega,by omega,.inl rfl,by simp only [BZ3,BZ1,BZ2,mk_put?_some,mk_put?_none,List.map_cons,Nat.reduceBEq,List.map_nil,rowD,entsB,List.take_zero]; try rfl⟩
  ·rintro m st ⟨i,B,hi,rfl,hB,rfl⟩
   obtain ⟨g,hb2,hb1⟩:=box1 hB
   by_cases e : i < ws.length
   ·have e1 : (i : Int) < ws.length:=by omega
    have e2 : (0 : Int)≤i:=by omega
    have wi : IntKind.i64.wrap ((i : Int) + 1) = ((i + 1 : Nat) : Int):=by rw [wrap_i64 (by omega) (by omega)]; omega
    have hx:=wrD_get e
    obtain ⟨x,hx'⟩ : ∃ x,ws[i] = x:=⟨_,rfl⟩
    rw [hx'] at hx
    have hrl : (rowD (entsB n (ws.take i))).length = i:=by simp [rowD,entsB]; omega
    have ht : rowD (entsB n (ws.take i)) ++ [.agg [.str x.key,.int .i64 n,.bool x.del,.str x.val]] = rowD (entsB n (ws.take (i + 1))):=by
     rw [List.take_succ_eq_append_getElem e,hx']; simp [rowD,entsB,Ent.cells]
    simp only [w_seq,BZ1,BZ2,BQ,Nat.reduceLT,Nat.reduceBEq,e1,BP,dropLk,cd_t,ix33,e2,List.length_map,hx,la32,Nat.reduceAdd,Nat.reduceLeDiff,List.map_cons,List.map_nil,al32,isO_eq,hb2,hb1,if_false,takK,if_true,Proofs.Tryz.underlying32,cn32,Pos.inBox,movK,Nat.reduceEqDiff,fl32_0,Pos.atSlot,la9,fl32_1,la4,BZ3,fl32_2,bd138,bd138_0,bd138_1,bd138_2,bd138_3,bs125_1,apo125_125,lkGet,ap125_125,hrl,ht,constDV,wi]
    refine ⟨by omega,by omega,_,?_,i + 1,_,by omega,rfl,.inr ⟨_,_,rfl⟩,rfl⟩
    omega
   ·obtain rfl : i = ws.length:=by omega
    have e1 : ¬ (ws.length : Int) < ws.length:=by omega
    simp only [w_seq,BZ1,BZ2,BQ,Nat.reduceLT,Nat.reduceBEq,e1,BP,dropLk,cd_f,movK,Nat.reduceEqDiff,if_false,takK,lkGet,if_true,BZ3,Pos.atSlot]
    rw [List.take_length]
    exact hK
 ·skip
  refine ⟨by simp,rfl,?_⟩
  unfold b77 Go.Proofs.Tryz.f77
  simp only [Option.getD_some,argSlots,BZ2,BQ,w_seq,BZ1,constDV,Proofs.Tryz.underlying125,cn138,dropLk,Nat.reduceLT,movK,Nat.reduceBEq,if_true,List.map_cons,List.map_nil]
  refine appBIs ws (.inr ⟨id,off,cap,rfl,hr⟩) (by omega) ?_
  simp only [hbt,BZ1,BZ2,Pos.isHp,BQ,BP,dropLk,Nat.reduceLT,cd_f,w_seq,constDV,Proofs.Tryz.underlying125,cn138,movK,Nat.reduceBEq,dlh33]
  refine w_loop [0,5,11,12,13] (MEn H (.hsl id 3 off ws.length cap) ws n) ws.length ?_ ?_
  ·exact ⟨0,[],by omega,by omega,.inl rfl,by simp only [BZ3,BZ1,BZ2,mk_put?_some,mk_put?_none,List.map_cons,Nat.reduceBEq,List.map_nil,rowD,entsB,List.take_zero]; try rfl⟩
  ·rintro m st ⟨i,B,hi,rfl,hB,rfl⟩
   obtain ⟨g,hb2,hb1⟩:=box1 hB
   by_cases e : i < ws.length
   ·have e1 : (i : Int) < ws.length:=by omega
    have e2 : (0 : Int)≤i:=by omega
    have wi : IntKind.i64.wrap ((i : Int) + 1) = ((i + 1 : Nat) : Int):=by rw [wrap_i64 (by omega) (by omega)]; omega
    obtain ⟨cs,k1,k2⟩:=hr.2 (by rintro rfl; simp at e)
    obtain ⟨r,d1⟩:=hroww_cells k2 e
    obtain ⟨x,hx'⟩ : ∃ x,ws[i] = x:=⟨_,rfl⟩
    rw [hx'] at d1
    have hrl : (rowD (entsB n (ws.take i))).length = i:=by simp [rowD,entsB]; omega
    have ht : rowD (entsB n (ws.take i)) ++ [.agg [.str x.key,.int .i64 n,.bool x.del,.str x.val]] = rowD (entsB n (ws.take (i + 1))):=by
     rw [List.take_succ_eq_append_getElem e,hx']; simp [rowD,entsB,Ent.cells]
    simp only [w_seq,BZ1,BZ2,BQ,Nat.reduceLT,Nat.reduceBEq,e1,BP,dropLk,cd_t,ixh33,e2,k1,d1,la32,Nat.reduceLeDiff,List.map_cons,List.map_nil,al32,isO_eq,hb2,hb1,if_false,takK,if_true,Proofs.Tryz.underlying32,Nat.reduceAdd,cn32,Pos.inBox,movK,Nat.reduceEqDiff,fl32_0,Pos.atSlot,la9,fl32_1,la4,BZ3,fl32_2,bd138,bd138_0,bd138_1,bd138_2,bd138_3,bs125_1,apo125_125,lkGet,ap125_125,hrl,ht,constDV,wi]
    refine ⟨by omega,by omega,_,?_,i + 1,_,by omega,rfl,.inr ⟨_,_,rfl⟩,rfl⟩
    omega
   ·obtain rfl : i = ws.length:=by omega
    have e1 : ¬ (ws.length : Int) < ws.length:=by omega
    simp only [w_seq,BZ1,BZ2,BQ,Nat.reduceLT,Nat.reduceBEq,e1,BP,dropLk,cd_f,movK,Nat.reduceEqDiff,if_false,takK,lkGet,if_true,BZ3,Pos.atSlot]
    rw [List.take_length]
    exact hK
noncomputable def b72 : Code:=(Go.Proofs.Tryz.f72.body).getD .skip
theorem hb72 : Go.Proofs.Tryz.f72.body = some b72:=by kernel_rfl
def batchB (n : Nat) (ws : List Wr) : Str:=sealB (numB n ++ wordsB ws)
theorem batch_small {ws : List Wr} (h : isBatch ws = true) : SmW ws:=by
 refine ⟨by have:=batch_le h; omega,?_⟩
 have h1 : okB [] ws = true:=by simp only [isBatch,Bool.and_eq_true] at h; exact h.1
 have : ∀ (a : Str) (l : List Wr),okB a l = true→∀ w∈l,w.key.length≤100∧w.val.length≤100:=by
  intro a l
  induction l generalizing a with
  | nil => simp
  | cons w r ih =>
   intro h2 x hx
   simp only [okB,Bool.and_eq_true] at h2
   rcases List.mem_cons.1 hx with rfl | hx
   ·have:=h2.1
    simp only [isWr,Bool.and_eq_true,decide_eq_true_eq] at this
    omega
   ·exact ih _ h2.2.2 x hx
 exact this _ _ h1
theorem sealB_len (s : Str) : (sealB s).length≤s.length + 13:=by
 have:=numB_len s.length
 have h4 : (bytes4 (sumF s)).length = 4:=rfl
 simp only [sealB,List.length_append]; omega
theorem batchB_len {n : Nat} {ws : List Wr} (h : isBatch ws = true) : (batchB n ws).length≤2500:=by
 have h1:=sealB_len (numB n ++ wordsB ws)
 have h2:=numB_len n
 have h3:=numB_len ws.length
 have h4:=words_len (batch_small h).2
 have h5:=batch_le h
 simp only [batchB,wordsB,List.length_append] at *
 omega
def SBBytes : Spec:=fun H args K => ∃ (v : DV) (ws : List Wr) (n : Nat),args = [.int .i64 n,v]∧RowW H v ws∧isBatch ws = true∧1≤n∧n≤1000000∧∀ H',Fr [] H H'→K H' (.tup [.str (batchB n ws),.int .i64 0])
theorem appBBytes {H : List HObj} {K : List HObj→DV→Prop} {v : DV} {n : Nat} (ws : List Wr) (h1 : RowW H v ws) (h2 : isBatch ws = true) (h3 : 1≤n) (h4 : n≤1000000) (h : ∀ H',Fr [] H H'→K H' (.tup [.str (batchB n ws),.int .i64 0])) : app SBBytes H [.int .i64 n,v] K:=⟨v,ws,n,rfl,h1,h2,h3,h4,h⟩
set_option maxHeartbeats 8000000 in
theorem rcBBytes {I : Jd pp} (hI : ∀ w e,I.Ok w e) : RC I 72 SBBytes:=by
 refine rc_of_code (isObj:=noO) (Γ:=envOf [(71,SBIs),(137,SNum),(138,SWords),(139,SSeal)]) (rs:=[4,5]) mixed hI (envOf_rc (by simpa using ⟨rcBIs hI,rcNum hI,rcWords hI,rcSeal hI⟩)) Go.Proofs.Tryz.func72 (by kernel_rfl) hb72 Go.Proofs.Tryz.results72 Go.Proofs.Tryz.ntmps72 (by decide) ?_
 rintro H args K ⟨v,ws,n,rfl,hv,hbt,h1,h2,hK⟩
 have hle:=batch_le hbt
 have q1 : ¬ (n : Int) < 1:=by omega
 have q2 : ¬ (1000000 : Int) < n:=by omega
 have hlen : (numB n ++ wordsB ws).length≤2487:=by
  have h2:=numB_len n
  have h3:=numB_len ws.length
  have h4:=words_len (batch_small hbt).2
  simp only [wordsB,List.length_append] at *
  omega
 rcases hv with ⟨own,rfl⟩ | ⟨id,off,cap,rfl,hr⟩
 ·skip
  refine ⟨by simp,rfl,?_⟩
  unfold b72 Go.Proofs.Tryz.f72
  simp only [Option.getD_some,argSlots,BZ2,BQ,w_seq,BZ1,constDV,dropLk,Nat.reduceLT,movK,Nat.reduceBEq,lkGet,Nat.reduceEqDiff,if_false,if_true,List.map_cons,List.map_nil]
  refine appBIs ws (.inl ⟨_,rfl⟩) (by omega) ?_
  simp only [hbt,BZ1,BZ2,Pos.isHp,BQ,BP,dropLk,Nat.reduceLT,movK,gs2_ff,Nat.reduceBEq,constDV,q1,BZ3,if_false,q2,cd_f,w_seq,Nat.reduceEqDiff,if_true,List.map_cons,List.map_nil]
  refine appNum (by omega) ?_
  simp only [BZ1,BZ2,Pos.isHp,BQ,BP,dropLk,Nat.reduceLT,movK,Nat.reduceBEq,lkGet,Nat.reduceEqDiff,if_false,if_true,List.map_cons,List.map_nil]
  refine appWords ws (.inl ⟨_,rfl⟩) (batch_small hbt) ?_
  simp only [BZ1,BZ2,Pos.isHp,BQ,BP,dropLk,Nat.reduceLT,Nat.reduceBEq,s_add,takK,w_seq,movK,Nat.reduceEqDiff,if_true,if_false,List.map_cons,List.map_nil]
  refine ⟨by rw [List.length_append] at hlen; omega,?_⟩
  refine appSeal (by omega) fun H' f => ?_
  simp only [BZ1,BZ2,Pos.isHp,BQ,BP,dropLk,Nat.reduceLT,takK,constDV,ret_two,Nat.reduceBEq]
  exact hK H' f
 ·skip
  refine ⟨by simp,rfl,?_⟩
  unfold b72 Go.Proofs.Tryz.f72
  simp only [Option.getD_some,argSlots,BZ2,BQ,w_seq,BZ1,constDV,dropLk,Nat.reduceLT,movK,Nat.reduceBEq,Nat.reduceEqDiff,if_false,if_true,List.map_cons,List.map_nil]
  refine appBIs ws (.inr ⟨id,off,cap,rfl,hr⟩) (by omega) ?_
  simp only [hbt,BZ1,BZ2,Pos.isHp,BQ,BP,dropLk,Nat.reduceLT,movK,gs2_ff,Nat.reduceBEq,constDV,q1,BZ3,if_false,q2,cd_f,w_seq,Nat.reduceEqDiff,if_true,List.map_cons,List.map_nil]
  refine appNum (by omega) ?_
  simp only [BZ1,BZ2,Pos.isHp,BQ,BP,dropLk,Nat.reduceLT,movK,Nat.reduceBEq,Nat.reduceEqDiff,if_false,if_true,List.map_cons,List.map_nil]
  refine appWords ws (.inr ⟨id,off,cap,rfl,hr⟩) (batch_small hbt) ?_
  simp only [BZ1,BZ2,Pos.isHp,BQ,BP,dropLk,Nat.reduceLT,Nat.reduceBEq,s_add,takK,w_seq,movK,Nat.reduceEqDiff,if_true,if_false,List.map_cons,List.map_nil]
  refine ⟨by rw [List.length_append] at hlen; omega,?_⟩
  refine appSeal (by omega) fun H' f => ?_
  simp only [BZ1,BZ2,Pos.isHp,BQ,BP,dropLk,Nat.reduceLT,takK,constDV,ret_two,Nat.reduceBEq]
  exact hK H' f
end Go.Ab.En

/- A part of the proof; no condition of its own. -/
import Derived.Test.YtoebbafmopdfbaaGreatDoorEnH
set_option linter.unusedSimpArgs false
set_option linter.unusedVariables false
/- EnG: The engine's laws: batches. -/
namespace Go.Ab.En
open Go Go.Conc Go.RowKit Go.Ab
set_option maxRecDepth 10000
def wrD (w : Wr) : DV:=.agg [.str w.key,.bool w.del,.str w.val]
def flatW (ws : List Wr) : List DV:=ws.flatMap Wr.cells
def HRowW (H : List HObj) (id off cap : Nat) (ws : List Wr) : Prop:=ws.length≤cap∧(ws ≠ []→∃ cs,H[id]? = some (.cells cs)∧(cs.drop off).take (ws.length * 3) = flatW ws)
def RowW (H : List HObj) (v : DV) (ws : List Wr) : Prop:=(∃ own,v = .sl own 3 (ws.map wrD))∨∃ id off cap,v = .hsl id 3 off ws.length cap∧HRowW H id off cap ws
theorem RowW.fr {S : List Nat} {H H' : List HObj} {v : DV} {ws : List Wr} (h : RowW H v ws) (f : Fr S H H') (hd : ∀ id z o l c,v = .hsl id z o l c→id ∉ S) : RowW H' v ws:=by
 rcases h with h | ⟨id,off,cap,rfl,h1,h2⟩
 ·exact .inl h
 ·exact .inr ⟨id,off,cap,rfl,h1,fun he => by obtain ⟨cs,a,b⟩:=h2 he; exact ⟨cs,f.get a (hd _ _ _ _ _ rfl),b⟩⟩
theorem flatW_len : ∀ ws : List Wr,(flatW ws).length = ws.length * 3
 | [] => rfl
 | e :: r => by
  have:=flatW_len r
  simp only [flatW,List.flatMap_cons,List.length_append,List.length_cons] at this ⊢
  rw [this]
  simp [Wr.cells]; omega
theorem flatW_drop : ∀ (ws : List Wr) (i : Nat),(flatW ws).drop (i * 3) = flatW (ws.drop i)
 | ws,0 => by simp
 | [],i + 1 => by simp [flatW]
 | e :: r,i + 1 => by
  have h:=flatW_drop r i
  have e1 : (i + 1) * 3 = i * 3 + 3:=by omega
  have e2 : flatW (e :: r) = e.cells ++ flatW r:=by simp [flatW]
  rw [e1,Nat.add_comm,← List.drop_drop,e2,List.drop_left' (by simp [Wr.cells]),h]
  rfl
theorem hroww_cells {cs : List DV} {off i : Nat} {ws : List Wr} (h : (cs.drop off).take (ws.length * 3) = flatW ws) (hi : i < ws.length) : ∃ r,cs.drop (off + i * 3) = .str (ws[i]).key :: .bool (ws[i]).del :: .str (ws[i]).val :: r:=by
 refine ⟨(cs.drop (off + i * 3)).drop 3,?_⟩
 have e2 : ∀ (x : Wr) (r : List Wr),flatW (x :: r) = x.cells ++ flatW r:=fun x r => by simp [flatW]
 have h1 : (((cs.drop off).take (ws.length * 3)).drop (i * 3)).take 3 = (ws[i]).cells:=by
  rw [h,flatW_drop,List.drop_eq_getElem_cons hi,e2,List.take_left' (by simp [Wr.cells])]
 rw [List.drop_take,List.take_take,List.drop_drop,Nat.min_eq_left (by omega)] at h1
 have h2:=List.take_append_drop 3 (cs.drop (off + i * 3))
 rw [h1] at h2
 exact h2.symm
theorem wrD_get {ws : List Wr} {i : Nat} (h : i < ws.length) : (ws.map wrD).getD i .undef = .agg [.str (ws[i]).key,.bool (ws[i]).del,.str (ws[i]).val]:=by simp [List.getD,h,wrD]
noncomputable def b71 : Code:=(Go.Proofs.Tryz.f71.body).getD .skip
theorem hb71 : Go.Proofs.Tryz.f71.body = some b71:=by kernel_rfl
def leS (x y : Str) : Bool:=Op.bytesLess x y || decide (x = y)
def okB : Str→List Wr→Bool
 | _,[] => true
 | a,w :: r => isWr w && (!leS w.key a && okB w.key r)
def isBatch (ws : List Wr) : Bool:=okB [] ws && decide ((ws.length : Int)≤8)
def SBIs : Spec:=fun H args K => ∃ (v : DV) (ws : List Wr),args = [v]∧RowW H v ws∧ws.length < 4611686018427387904∧K H (.bool (isBatch ws))
theorem appBIs {H : List HObj} {K : List HObj→DV→Prop} {v : DV} (ws : List Wr) (h1 : RowW H v ws) (h2 : ws.length < 4611686018427387904) (h : K H (.bool (isBatch ws))) : app SBIs H [v] K:=⟨v,ws,rfl,h1,h2,h⟩
def MBIs (H : List HObj) (v : DV) (ws : List Wr) (m : Nat) (st : St) : Prop:=∃ (i : Nat) (a : Str) (B : List (Nat × Nat × List DV)),i≤ws.length∧m = ws.length - i∧okB [] ws = okB a (ws.drop i)∧(B = []∨∃ g c,B = [(5,g,c)]) ∧
 st = mk 27 [(0,v),(3,.str a),(6,v),(7,.int .i64 ws.length),(8,.int .i64 i)] B H []
set_option maxHeartbeats 8000000 in
theorem rcBIs {I : Jd pp} (hI : ∀ w e,I.Ok w e) : RC I 71 SBIs:=by
 refine rc_of_code (isObj:=noO) (Γ:=envOf [(136,SIw)]) (rs:=[2]) mixed hI (envOf_rc (by simpa using rcIw hI)) Go.Proofs.Tryz.func71 (by kernel_rfl) hb71 Go.Proofs.Tryz.results71 Go.Proofs.Tryz.ntmps71 (by decide) ?_
 rintro H args K ⟨v,ws,rfl,hv,hl,hK⟩
 rcases hv with ⟨own,rfl⟩ | ⟨id,off,cap,rfl,hr⟩
 ·skip
  refine ⟨by simp,rfl,?_⟩
  unfold b71 Go.Proofs.Tryz.f71
  simp only [Option.getD_some,argSlots,BZ3,BZ1,BZ2,BP,w_seq,constDV,dropLk,Nat.reduceLT,movK,Nat.reduceBEq,lkGet,dl33,List.length_map]
  refine w_loop [0,3,6,7,8] (MBIs H (.sl false 3 (ws.map wrD)) ws) ws.length ?_ ?_
  ·exact ⟨0,[],[],by omega,by omega,by simp,.inl rfl,by simp only [BZ3,BZ1,BZ2,mk_put?_some,mk_put?_none,List.map_cons,Nat.reduceBEq,List.map_nil]; try rfl⟩
  ·rintro m st ⟨i,a,B,hi,rfl,hok,hB,rfl⟩
   obtain ⟨g,hb2,hb1⟩:=box1 hB
   by_cases e : i < ws.length
   ·have e1 : (i : Int) < ws.length:=by omega
    have e2 : (0 : Int)≤i:=by omega
    have wi : IntKind.i64.wrap ((i : Int) + 1) = ((i + 1 : Nat) : Int):=by rw [wrap_i64 (by omega) (by omega)]; omega
    rw [List.drop_eq_getElem_cons e,okB] at hok
    have hx:=wrD_get e
    obtain ⟨x,hx'⟩ : ∃ x,ws[i] = x:=⟨_,rfl⟩
    rw [hx'] at hok hx
    simp only [w_seq,BZ1,BZ2,BQ,Nat.reduceLT,Nat.reduceBEq,e1,BP,dropLk,cd_t,ix33,e2,List.length_map,hx,la32,Nat.reduceAdd,Nat.reduceLeDiff,List.map_cons,List.map_nil,al32,isO_eq,hb2,hb1,if_false,takK,if_true,Proofs.Tryz.underlying32,cn32,Pos.inBox]
    refine appIw ?_
    have hxx : isWr ⟨x.key,x.del,x.val⟩ = isWr x:=rfl
    cases hw : isWr x
    ·simp only [BZ1,BZ2,Pos.isHp,BQ,BP,dropLk,Nat.reduceLT,movK,gs2_tf,Nat.reduceBEq,BZ3,constDV,List.map_nil,if_true,cd_t,w_seq]
     simp only [hw,Bool.false_and] at hok
     simpa only [isBatch,hok,Bool.false_and] using hK
    ·cases hA : Op.bytesLess x.key a
     ·by_cases hE : x.key = a
      ·have hle : leS x.key a = true:=by simp [leS,hE]
       simp only [BZ1,hE,BZ2,Pos.isHp,BQ,BP,dropLk,Nat.reduceLT,movK,gs2_ff,Nat.reduceBEq,fl32_0,if_true,la9,o_pick,constDV,if_false,cd_t,w_seq]
       simp only [hw,hle,Bool.true_and,Bool.not_true,Bool.false_and] at hok
       simpa only [isBatch,hok,Bool.false_and] using hK
      ·have hle : leS x.key a = false:=by simp [leS,hA,hE]
       simp only [BZ1,BZ2,Pos.isHp,BQ,BP,dropLk,Nat.reduceLT,movK,gs2_ff,Nat.reduceBEq,fl32_0,if_true,la9,hA,hE,o_pick,constDV,if_false,cd_f,takK,wi,List.map_cons,List.map_nil]
       refine ⟨_,?_,i + 1,x.key,_,by omega,rfl,?_,.inr ⟨_,_,rfl⟩,rfl⟩
       ·omega
       ·rw [hok,hw,hle]; simp
     ·have hle : leS x.key a = true:=by simp [leS,hA]
      simp only [BZ1,BZ2,Pos.isHp,BQ,BP,dropLk,Nat.reduceLT,movK,gs2_ff,Nat.reduceBEq,fl32_0,if_true,la9,hA,o_pick,constDV,if_false,cd_t,w_seq]
      simp only [hw,hle,Bool.true_and,Bool.not_true,Bool.false_and] at hok
      simpa only [isBatch,hok,Bool.false_and] using hK
   ·obtain rfl : i = ws.length:=by omega
    have e1 : ¬ (ws.length : Int) < ws.length:=by omega
    simp only [w_seq,BZ1,BZ2,BQ,Nat.reduceLT,Nat.reduceBEq,e1,BP,dropLk,cd_f,movK,lkGet,dl33,List.length_map,constDV,b_leq,takK,if_false,if_true]
    rw [List.drop_length] at hok
    have h1 : okB [] ws = true:=hok
    simpa only [isBatch,h1,Bool.true_and] using hK
 ·skip
  refine ⟨by simp,rfl,?_⟩
  unfold b71 Go.Proofs.Tryz.f71
  simp only [Option.getD_some,argSlots,BZ3,BZ2,BZ1,w_seq,BP,constDV,dropLk,Nat.reduceLT,movK,Nat.reduceBEq,dlh33]
  refine w_loop [0,3,6,7,8] (MBIs H (.hsl id 3 off ws.length cap) ws) ws.length ?_ ?_
  ·exact ⟨0,[],[],by omega,by omega,by simp,.inl rfl,by simp only [BZ3,BZ1,BZ2,mk_put?_some,mk_put?_none,List.map_cons,Nat.reduceBEq,List.map_nil]; try rfl⟩
  ·rintro m st ⟨i,a,B,hi,rfl,hok,hB,rfl⟩
   obtain ⟨g,hb2,hb1⟩:=box1 hB
   by_cases e : i < ws.length
   ·have e1 : (i : Int) < ws.length:=by omega
    have e2 : (0 : Int)≤i:=by omega
    have wi : IntKind.i64.wrap ((i : Int) + 1) = ((i + 1 : Nat) : Int):=by rw [wrap_i64 (by omega) (by omega)]; omega
    rw [List.drop_eq_getElem_cons e,okB] at hok
    obtain ⟨cs,k1,k2⟩:=hr.2 (by rintro rfl; simp at e)
    obtain ⟨r,d1⟩:=hroww_cells k2 e
    obtain ⟨x,hx'⟩ : ∃ x,ws[i] = x:=⟨_,rfl⟩
    rw [hx'] at hok d1
    simp only [w_seq,BZ1,BZ2,BQ,Nat.reduceLT,Nat.reduceBEq,e1,BP,dropLk,cd_t,ixh33,e2,k1,d1,la32,Nat.reduceLeDiff,List.map_cons,List.map_nil,al32,isO_eq,hb2,hb1,if_false,takK,if_true,Proofs.Tryz.underlying32,Nat.reduceAdd,cn32,Pos.inBox]
    refine appIw ?_
    have hxx : isWr ⟨x.key,x.del,x.val⟩ = isWr x:=rfl
    cases hw : isWr x
    ·simp only [BZ1,BZ2,Pos.isHp,BQ,BP,dropLk,Nat.reduceLT,movK,gs2_tf,Nat.reduceBEq,BZ3,constDV,List.map_nil,if_true,cd_t,w_seq]
     simp only [hw,Bool.false_and] at hok
     simpa only [isBatch,hok,Bool.false_and] using hK
    ·cases hA : Op.bytesLess x.key a
     ·by_cases hE : x.key = a
      ·have hle : leS x.key a = true:=by simp [leS,hE]
       simp only [BZ1,hE,BZ2,Pos.isHp,BQ,BP,dropLk,Nat.reduceLT,movK,gs2_ff,Nat.reduceBEq,fl32_0,if_true,la9,o_pick,constDV,if_false,cd_t,w_seq]
       simp only [hw,hle,Bool.true_and,Bool.not_true,Bool.false_and] at hok
       simpa only [isBatch,hok,Bool.false_and] using hK
      ·have hle : leS x.key a = false:=by simp [leS,hA,hE]
       simp only [BZ1,BZ2,Pos.isHp,BQ,BP,dropLk,Nat.reduceLT,movK,gs2_ff,Nat.reduceBEq,fl32_0,if_true,la9,hA,hE,o_pick,constDV,if_false,cd_f,takK,wi,List.map_cons,List.map_nil]
       refine ⟨_,?_,i + 1,x.key,_,by omega,rfl,?_,.inr ⟨_,_,rfl⟩,rfl⟩
       ·omega
       ·rw [hok,hw,hle]; simp
     ·have hle : leS x.key a = true:=by simp [leS,hA]
      simp only [BZ1,BZ2,Pos.isHp,BQ,BP,dropLk,Nat.reduceLT,movK,gs2_ff,Nat.reduceBEq,fl32_0,if_true,la9,hA,o_pick,constDV,if_false,cd_t,w_seq]
      simp only [hw,hle,Bool.true_and,Bool.not_true,Bool.false_and] at hok
      simpa only [isBatch,hok,Bool.false_and] using hK
   ·obtain rfl : i = ws.length:=by omega
    have e1 : ¬ (ws.length : Int) < ws.length:=by omega
    simp only [w_seq,BZ1,BZ2,BQ,Nat.reduceLT,Nat.reduceBEq,e1,BP,dropLk,cd_f,movK,dlh33,constDV,b_leq,takK,if_false,if_true]
    rw [List.drop_length] at hok
    have h1 : okB [] ws = true:=hok
    simpa only [isBatch,h1,Bool.true_and] using hK
end Go.Ab.En

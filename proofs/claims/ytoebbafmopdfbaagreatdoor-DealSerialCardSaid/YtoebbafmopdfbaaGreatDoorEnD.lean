/- A part of the proof; no condition of its own. -/
import Derived.Test.YtoebbafmopdfbaaGreatDoorEnC
set_option linter.unusedSimpArgs false
set_option linter.unusedVariables false
/- EnD: The engine's laws: an entry put into a row. -/
namespace Go.Ab.En
open Go Go.Conc Go.RowKit Go.Ab
set_option maxRecDepth 10000
theorem env_nil {f : FuncId} : envOf [] f = none:=_root_.id rfl
def isI : ObjT:=fun t => t == 125
theorem isI_eq {t : TypeId} : isI t = (t == 125):=_root_.id rfl
def HRowF (H : List HObj) (id cap : Nat) (es : List Ent) : Prop:=es.length≤cap∧(cap ≠ 0→∃ sp,H[id]? = some (.cells (flatE es ++ sp))∧sp.length = (cap - es.length) * 4)
theorem HRowF.row {H : List HObj} {id cap : Nat} {es : List Ent} (h : HRowF H id cap es) : HRow H id 0 cap es:=by
 refine ⟨h.1,fun he => ?_⟩
 have : cap ≠ 0:=by rintro rfl; have:=h.1; simp at this; exact he this
 obtain ⟨sp,h1,h2⟩:=h.2 this
 exact ⟨_,h1,by rw [List.drop_zero,List.take_left' (flatE_len es)]⟩
noncomputable def b213 : Code:=(Go.Proofs.Tryz.f213.body).getD .skip
theorem hb213 : Go.Proofs.Tryz.f213.body = some b213:=by kernel_rfl
def SIns : Spec:=fun H args K => ∃ (id cap vid i : Nat) (es : List Ent) (e : Ent),args = [.hsl id 4 0 es.length cap,.int .i64 i,.hsl vid 4 0 1 1]∧i≤es.length∧HRowF H id cap es∧H[vid]? = some (.cells e.cells)∧(cap ≠ 0→id ≠ vid)∧es.length < 1000000000 ∧
 ∀ H' id' cap',Fr (if cap = 0 then [] else [id]) H H'→HRowF H' id' cap' (es.take i ++ e :: es.drop i)→(cap ≠ 0∧id' = id∨H.length≤id'∧id' < H'.length)→K H' (.hsl id' 4 0 (es.length + 1) cap')
theorem rcIns {I : Jd pp} (hI : ∀ w e,I.Ok w e) : RC I 213 SIns:=by
 refine rc_of_code (isObj:=isI) (Γ:=envOf []) (rs:=[6]) mixed hI (envOf_rc (by simp)) Go.Proofs.Tryz.func213 (by kernel_rfl) hb213 Go.Proofs.Tryz.results213 Go.Proofs.Tryz.ntmps213 (by decide) ?_
 rintro H args K ⟨id,cap,vid,i,es,e,rfl,hi,hr,hv,hne,hl,hK⟩
 refine ⟨by simp,rfl,?_⟩
 unfold b213 Go.Proofs.Tryz.f213
 have hle:=hr.1
 have c1 : (0 : Int)≤i:=by omega
 have c2 : (i : Int)≤es.length:=by omega
 have dv : (List.drop 0 e.cells).take (1 * 4) = e.cells:=by simp [Ent.cells]
 have dl : e.cells.length = 4:=by simp [Ent.cells]
 have da : e.cells.all DV.scalar = true:=by simp [Ent.cells,DV.scalar]
 have dt : e.cells.take 4 = e.cells:=by simp [Ent.cells]
 have q1 : ¬ (1 : Int) = 0:=by omega
 by_cases hc0 : cap = 0
 ·subst hc0
  obtain rfl : es = []:=List.eq_nil_of_length_eq_zero (by omega)
  obtain rfl : i = 0:=by simpa using hi
  simp only [BQ,Option.getD_some,argSlots,BZ2,BZ3,Nat.reduceAdd,w_seq,BZ1,constDV,Proofs.Tryz.underlying125,cn138,dropLk,Nat.reduceLT,movK,Nat.reduceBEq,sch125,dbound,Int.reduceLE,Int.reduceToNat,Nat.sub_zero,BP,dlh125,takK,Int.reduceEq,cd,isI_eq,aph125_125,ne_eq,srcC_h Go.Proofs.Tryz.underlying125,hv,Nat.reduceMul,dl,Nat.reduceLeDiff,dt,da,reduceCtorEq,cells_ro1,if_true,Int.reduceAdd,Int.reduceNeg,Int.reduceLT,o_cap,cap_h Go.Proofs.Tryz.underlying125,Int.reduceSub,apz125_3,apZ_h,if_false,Nat.reduceSub,env_nil,dcl_none,extD_two,ov256,overD_h,cp_h Go.Proofs.Tryz.underlying125 us138 (by decide : 0 < 4) cn138]
  refine fun c hc => ?_
  refine hK _ _ c (Fr.app _ _ _) ⟨by simpa using hc,fun h0 => ⟨List.replicate ((c - 1) * 4) .undef,by simp [flatE],by simp⟩⟩ (.inr (by simp))
 obtain ⟨sp,ho,hsp⟩:=hr.2 hc0
 have hfl:=flatE_len es
 have hlen : (flatE es ++ sp).length = cap * 4:=by rw [List.length_append,hfl,hsp]; omega
 by_cases hin : i = es.length
 ·subst hin
  have t1 : (flatE es ++ sp).take (es.length * 4) = flatE es:=by rw [List.take_left' hfl]
  have l1 : es.length * 4≤(flatE es ++ sp).length:=by omega
  simp only [BQ,Option.getD_some,argSlots,BZ2,Nat.reduceAdd,w_seq,BZ1,constDV,Proofs.Tryz.underlying125,cn138,dropLk,Nat.reduceLT,movK,Nat.reduceBEq,BZ3,sch125,dbound,c1,c2,BP,dlh125,takK,Int.reduceEq,cd,isI_eq,aph125_125,hc0,ne_eq,srcC_h Go.Proofs.Tryz.underlying125,hv,Nat.reduceMul,dl,Nat.le_refl,dt,da,Nat.reduceLeDiff,reduceCtorEq,cells_ro1,ho,apH_some,l1,t1,flatE_sca,Pos.inHp,flatE_ro,if_true,o_cap,cap_h Go.Proofs.Tryz.underlying125,Nat.sub_zero,apz125_3,apZ_h,azH_some,cp_h Go.Proofs.Tryz.underlying125 us138 (by decide : 0 < 4) cn138,cpH_some,ap_set0,srcS_h,if_false,env_nil,dcl_none,extD_two,ov256,overD_h]
  have fe : flatE (List.take es.length es ++ e :: List.drop es.length es) = flatE es ++ e.cells:=by
   rw [List.take_length,List.drop_length,flatE_app]; simp [flatE]
  have fl : (List.take es.length es ++ e :: List.drop es.length es).length = es.length + 1:=by simp
  refine ⟨by omega,by omega,fun h => ⟨by omega,hK _ id cap ?_ ⟨by omega,fun _ => ⟨sp.drop 4,?_,?_⟩⟩ (.inl ⟨hc0,rfl⟩)⟩,fun h q hq => hK _ _ q (Fr.app _ _ _) ⟨by omega,fun _ => ⟨List.replicate ((q - (es.length + 1)) * 4) .undef,?_,?_⟩⟩ (.inr (by simp))⟩
  ·rw [if_neg hc0]; exact Fr.set _ _ _
  ·have e2 : List.drop (es.length * 4 + 4) (flatE es ++ sp) = sp.drop 4:=by rw [← hfl,← List.drop_drop,List.drop_left]
   rw [e2,fe,List.getElem?_set_self (List.getElem?_eq_some_iff.1 ho).1,List.append_assoc]
  ·rw [fl,List.length_drop,hsp]; omega
  ·rw [fe]; simp
  ·rw [fl,List.length_replicate]
 ·have hlt : i < es.length:=by omega
  have q2 : ¬ (i : Int) = es.length:=by omega
  have w1 : IntKind.i64.wrap ((es.length : Int) + 1) = ((es.length + 1 : Nat) : Int):=by rw [wrap_i64 (by omega) (by omega)]; omega
  have w2 : IntKind.i64.wrap (((es.length + 1 : Nat) : Int) - i) = ((es.length + 1 - i : Nat) : Int):=by rw [wrap_i64 (by omega) (by omega)]; omega
  have w3 : IntKind.i64.wrap ((i : Int) + 1) = ((i + 1 : Nat) : Int):=by rw [wrap_i64 (by omega) (by omega)]; omega
  have ic : (i : Int)≤cap:=by omega
  by_cases hg : cap < es.length + 1
  ·have q3 : (cap : Int) < ((es.length + 1 : Nat) : Int):=by omega
   simp only [BQ,Option.getD_some,argSlots,BZ2,Nat.reduceAdd,w_seq,BZ1,constDV,Proofs.Tryz.underlying125,cn138,dropLk,Nat.reduceLT,movK,Nat.reduceBEq,BZ3,sch125,dbound,c1,c2,BP,dlh125,takK,Int.reduceEq,cd,q2,isI_eq,aph125_125,hc0,ne_eq,srcC_h Go.Proofs.Tryz.underlying125,hv,Nat.reduceMul,Nat.reduceLeDiff,reduceCtorEq,ho,apH_some,Pos.inHp,if_true,w1,o_cap,cap_h Go.Proofs.Tryz.underlying125,q3,ic,Nat.sub_zero,w2,apz125_3,apZ_h,azH_some,cp_h Go.Proofs.Tryz.underlying125 us138 (by decide : 0 < 4) cn138,cpH_some,ap_set0,srcS_h,if_false,w3,env_nil,dcl_none,extD_two,ov256,overD_h]
   have n1 : i + (es.length + 1 - i) = es.length + 1:=by omega
   have t2 : (flatE es ++ sp).take (i * 4) = flatE (es.take i):=by rw [List.take_append_of_le_length (by omega),flatE_take]
   have g1 : ∀ X,(H ++ [X])[vid]? = some (.cells e.cells):=fun X => by rw [List.getElem?_append_left (List.getElem?_eq_some_iff.1 hv).1]; exact hv
   have g2 : ∀ X,(H ++ [X])[H.length]? = some X:=fun X => by simp
   have g3 : ∀ X,(H ++ [X])[id]? = some (.cells (flatE es ++ sp)):=fun X => by rw [List.getElem?_append_left (List.getElem?_eq_some_iff.1 ho).1]; exact ho
   have g4 : ∀ X Y,(H ++ [X]).set H.length Y = H ++ [Y]:=fun X Y => by simp
   refine ⟨by omega,by omega,by omega,by omega,by omega,by omega,fun q hq => ⟨by omega,?_⟩⟩
   simp only [n1,t2,flatE_ro]
   have hUl : (List.replicate ((q - (es.length + 1)) * 4) DV.undef).length = (q - (es.length + 1)) * 4:=by simp
   generalize List.replicate ((q - (es.length + 1)) * 4) DV.undef = U at hUl ⊢
   have hZl : (List.replicate (es.length + 1 - i) [DV.str [],DV.int IntKind.i64 0,DV.bool false,DV.str []]).flatten.length = (es.length + 1 - i) * 4:=by simp
   generalize (List.replicate (es.length + 1 - i) [DV.str [],DV.int IntKind.i64 0,DV.bool false,DV.str []]).flatten = Z at hZl ⊢
   have hA : (flatE (es.take i)).length = i * 4:=by rw [flatE_len,List.length_take]; congr 1; omega
   have m1 : min 1 (es.length + 1 - i) = 1:=by omega
   have lc : i * 4 + 4≤(flatE (es.take i) ++ (Z ++ U)).length:=by simp only [List.length_append,hA,hZl,hUl]; omega
   have tc : (flatE (es.take i) ++ (Z ++ U)).take (i * 4) = flatE (es.take i):=List.take_left' hA
   have dc : (flatE (es.take i) ++ (Z ++ U)).drop (i * 4 + 4) = Z.drop 4 ++ U:=by
    rw [← hA,← List.drop_drop,List.drop_left,List.drop_append_of_le_length (by omega)]
   simp only [tc,g1,vfla_any,lo_any,ret_mix1,ret_mix2,ret_three,BP,dcl_none,extD_two,overD_h,apZ_h,azH_some,nz_t,nz_f,Nat.reduceMul,BQ,dl,Nat.reduceLeDiff,m1,dt,da,lc,BZ2,BZ3,BZ1,cells_ro1,dc]
   have k1 : ((i + 1 : Nat) : Int)≤((es.length + 1 : Nat) : Int):=by omega
   have k2 : (0 : Int)≤((i + 1 : Nat) : Int):=by omega
   have hB : (flatE (es.take i) ++ e.cells).length = (i + 1) * 4:=by rw [List.length_append,hA,dl]; omega
   have hS : (List.drop (i * 4) (flatE es ++ sp)).take ((es.length - i) * 4) = flatE (es.drop i):=by
    rw [List.drop_append_of_le_length (by omega),flatE_drop,List.take_left' (by rw [flatE_len,List.length_drop])]
   have hSl : (flatE (es.drop i)).length = (es.length - i) * 4:=by rw [flatE_len,List.length_drop]
   have m2 : es.length + 1 - (i + 1) = es.length - i:=by omega
   have lc2 : i * 4 + (es.length - i) * 4≤(flatE es ++ sp).length:=by omega
   refine w_draw [4,7,8] (.quiet 0 (.quiet 1 (.quiet 2 (.quiet 3 (.quiet 5 (.quiet 6 (.acts [(4,[6,5],.acts [(7,[3,2,1,0],.acts [(8,[],.done)])]),(7,[3,2,1,0],.acts [(4,[6,5],.acts [(8,[],.done)])])]))))))) (by decide) (by kernel_rfl) ?_
   simp only [BZ1,BZ2,Nat.reduceLT,Nat.reduceBEq,dropLk,BZ3,w3,BQ,sch125,dbound,k2,k1,m2,BP,dropLks,c1,c2,cp_h Go.Proofs.Tryz.underlying125 us138 (by decide : 0 < 4) cn138,g2,cpH_some,g4,Pos.inHp,w_seq,movK,takK,srcS_h,g3,lc2,Nat.min_self,hS,flatE_sca,flatE_ro]
   have hfin : (List.take ((i + 1) * 4) (flatE (List.take i es) ++ (e.cells ++ (List.drop 4 Z ++ U))) ++ (List.take ((es.length - i) * 4) (flatE (List.drop i es)) ++
         List.drop ((i + 1) * 4 + (List.take ((es.length - i) * 4) (flatE (List.drop i es))).length) (flatE (List.take i es) ++ (e.cells ++ (List.drop 4 Z ++ U))))) = flatE (es.take i ++ e :: es.drop i) ++ U:=by
    rw [List.take_of_length_le (by omega : (flatE (List.drop i es)).length≤(es.length - i) * 4),hSl,← List.append_assoc (flatE (List.take i es)),List.take_left' hB,← List.drop_drop,List.drop_left' hB,List.drop_left' (by rw [List.length_drop,hZl]; omega),flatE_app]
    simp [flatE]
   have hlen2 : (i + 1) * 4 + (es.length - i) * 4≤(flatE (List.take i es) ++ (e.cells ++ (List.drop 4 Z ++ U))).length:=by
    simp only [List.length_append,List.length_drop,hA,hZl,hUl,dl]; omega
   have hfl2 : (es.take i ++ e :: es.drop i).length = es.length + 1:=by simp; omega
   rw [hfin]
   have:=hK _ H.length q (Fr.app _ H [.cells (flatE (es.take i ++ e :: es.drop i) ++ U)]) ⟨by omega,fun _ => ⟨U,by simp,by rw [hfl2,hUl]⟩⟩ (.inr (by simp))
   exact ⟨⟨hlen2,this⟩,hlen2,this⟩
  ·have q3 : ¬ (cap : Int) < ((es.length + 1 : Nat) : Int):=by omega
   have k0 : ((es.length + 1 : Nat) : Int)≤cap:=by omega
   have k1 : ((i + 1 : Nat) : Int)≤((es.length + 1 : Nat) : Int):=by omega
   have k2 : (0 : Int)≤((i + 1 : Nat) : Int):=by omega
   have k3 : (0 : Int)≤((es.length + 1 : Nat) : Int):=by omega
   have k4 : (i : Int)≤((es.length + 1 : Nat) : Int):=by omega
   simp only [BQ,Option.getD_some,argSlots,BZ2,Nat.reduceAdd,w_seq,BZ1,constDV,Proofs.Tryz.underlying125,cn138,dropLk,Nat.reduceLT,movK,Nat.reduceBEq,BZ3,sch125,dbound,c1,c2,BP,dlh125,takK,Int.reduceEq,cd,q2,isI_eq,aph125_125,hc0,ne_eq,srcC_h Go.Proofs.Tryz.underlying125,hv,Nat.reduceMul,Nat.reduceLeDiff,reduceCtorEq,ho,apH_some,Pos.inHp,if_true,w1,o_cap,cap_h Go.Proofs.Tryz.underlying125,q3,ic,Nat.sub_zero,w2,apz125_3,apZ_h,azH_some,cp_h Go.Proofs.Tryz.underlying125 us138 (by decide : 0 < 4) cn138,cpH_some,ap_set0,srcS_h,if_false,k3,k0,w3,k2,k1,env_nil,dcl_none,extD_two,ov256,overD_h,k4]
   have hsp1 : 4≤sp.length:=by omega
   refine ⟨fun h => hne hc0 h.symm,by omega,⟨_,rfl⟩,⟨_,rfl,fun h0 => by rw [h0] at hlen; simp at hlen; omega⟩,?_⟩
   have m2 : es.length + 1 - (i + 1) = es.length - i:=by omega
   have m3 : min (es.length + 1 - i) (es.length - i) = es.length - i:=by omega
   refine w_draw [4,7,8] (.quiet 0 (.quiet 1 (.quiet 2 (.quiet 3 (.quiet 5 (.quiet 6 (.acts [(4,[6,5],.acts [(7,[3,2,1,0],.acts [(8,[],.done)])]),(7,[3,2,1,0],.acts [(4,[6,5],.acts [(8,[],.done)])])]))))))) (by decide) (by kernel_rfl) ?_
   have hn1 : id ≠ vid:=hne hc0
   have hidl : id < H.length:=(List.getElem?_eq_some_iff.1 ho).1
   have g1 : ∀ X,(H.set id X)[vid]? = some (.cells e.cells):=fun X => by rw [List.getElem?_set_ne hn1]; exact hv
   have g2 : ∀ X,(H.set id X)[id]? = some X:=fun X => List.getElem?_set_self hidl
   have hA : (flatE (es.take i)).length = i * 4:=by rw [flatE_len,List.length_take]; congr 1; omega
   have hSl : (flatE (es.drop i)).length = (es.length - i) * 4:=by rw [flatE_len,List.length_drop]
   have lc2 : i * 4 + (es.length + 1 - i) * 4≤(flatE es ++ sp).length:=by omega
   have hS : ((List.drop (i * 4) (flatE es ++ sp)).take ((es.length + 1 - i) * 4)) = flatE (es.drop i) ++ sp.take 4:=by
    rw [List.drop_append_of_le_length (by omega),flatE_drop]
    have : (es.length + 1 - i) * 4 = (flatE (es.drop i)).length + 4:=by rw [hSl]; omega
    rw [this,List.take_length_add_append]
   have hS2 : (List.drop (i * 4) (flatE es ++ sp)).take ((es.length - i) * 4) = flatE (es.drop i):=by
    rw [List.drop_append_of_le_length (by omega),flatE_drop,List.take_left' hSl]
   have hM : (List.map DV.ro1 (flatE (es.drop i) ++ sp.take 4)).take ((es.length - i) * 4) = flatE (es.drop i):=by
    rw [List.map_append,flatE_ro,List.take_left' hSl]
   have m1 : min 1 (es.length + 1 - i) = 1:=by omega
   have hX : (List.take ((i + 1) * 4) (flatE es ++ sp)).length = (i + 1) * 4:=by rw [List.length_take]; omega
   have hd1 : List.drop ((i + 1) * 4 + (es.length - i) * 4) (flatE es ++ sp) = sp.drop 4:=by
    have : (i + 1) * 4 + (es.length - i) * 4 = (flatE es).length + 4:=by omega
    rw [this,← List.drop_drop,List.drop_left]
   have hc1 : List.take (i * 4) (List.take ((i + 1) * 4) (flatE es ++ sp) ++ (flatE (es.drop i) ++ sp.drop 4)) = flatE (es.take i):=by
    rw [List.take_append_of_le_length (by omega),List.take_take,Nat.min_eq_left (by omega),List.take_append_of_le_length (by omega),flatE_take]
   have hc2 : List.drop (i * 4 + 4) (List.take ((i + 1) * 4) (flatE es ++ sp) ++ (flatE (es.drop i) ++ sp.drop 4)) = flatE (es.drop i) ++ sp.drop 4:=by
    rw [List.drop_left' (by omega)]
   have lc3 : (i + 1) * 4 + (es.length - i) * 4≤(flatE es ++ sp).length:=by omega
   have lc4 : i * 4 + 4≤(List.take ((i + 1) * 4) (flatE es ++ sp) ++ (flatE (es.drop i) ++ sp.drop 4)).length:=by rw [List.length_append,hX]; omega
   simp only [m2,BZ1,BZ2,Nat.reduceLT,Nat.reduceBEq,dropLk,BZ3,w3,BQ,sch125,dbound,k2,k1,BP,dropLks,c1,k4,cp_h Go.Proofs.Tryz.underlying125 us138 (by decide : 0 < 4) cn138,ho,cpH_some,Pos.inHp,w_seq,movK,g2,takK,srcS_h,g1,Nat.reduceMul,dl,Nat.reduceLeDiff,m1,dt,da,cells_ro1,lc2,m3,hS2,flatE_sca,lc3,hS,hM,hSl,hd1,lc4,hc1,hc2]
   have fe : flatE (es.take i) ++ (e.cells ++ (flatE (es.drop i) ++ sp.drop 4)) = flatE (es.take i ++ e :: es.drop i) ++ sp.drop 4:=by
    rw [flatE_app]; simp [flatE]
   have hfl2 : (es.take i ++ e :: es.drop i).length = es.length + 1:=by simp; omega
   rw [fe]
   have:=hK (H.set id (.cells (flatE (es.take i ++ e :: es.drop i) ++ sp.drop 4))) id cap (by rw [if_neg hc0]; exact Fr.set _ _ _) ⟨by omega,fun _ => ⟨sp.drop 4,by rw [List.getElem?_set_self hidl],by rw [hfl2,List.length_drop,hsp]; omega⟩⟩ (.inl ⟨hc0,rfl⟩)
   exact ⟨this,this⟩
end Go.Ab.En

/- A part of the proof; no condition of its own. -/
import Derived.Test.YtoebbafmopdfbaaGreatDoorEnBA
set_option linter.unusedSimpArgs false
set_option linter.unusedVariables false
/- EnBB: The engine's laws: a batch made neat: the last write of each key,in order. -/
namespace Go.Ab.En
open Go Go.Conc Go.RowKit Go.Ab
set_option maxRecDepth 10000
theorem rho_fn {P : Program} {st : St} {t : TypeId} {f : FuncId} : rho P st t (.func f) = .fn f []:=_root_.id rfl
def lastW : List Wr→List Wr
 | [] => []
 | x :: r => if r.any (fun o => decide (o.key = x.key)) then lastW r else x :: lastW r
def neatW (ws : List Wr) : List Wr:=sortW (lastW ws)
theorem lastW_sub : ∀ ws,(lastW ws).Sublist ws
 | [] => .slnil
 | x :: r => by
  simp only [lastW]
  split
  ·exact (lastW_sub r).cons _
  ·exact (lastW_sub r).cons_cons _
theorem lastW_nodup : ∀ ws,((lastW ws).map (·.key)).Nodup
 | [] => by simp [lastW]
 | x :: r => by
  simp only [lastW]
  split
  ·exact lastW_nodup r
  ·rename_i h
   rw [List.map_cons,List.nodup_cons]
   refine ⟨fun hm => h ?_,lastW_nodup r⟩
   obtain ⟨y,hy,e⟩:=List.mem_map.1 hm
   exact List.any_eq_true.2 ⟨y,(lastW_sub r).subset hy,by simpa using e⟩
theorem lastW_len (ws : List Wr) : (lastW ws).length≤ws.length:=(lastW_sub ws).length_le
theorem neatW_len (ws : List Wr) : (neatW ws).length≤ws.length:=by
 unfold neatW; rw [(sortW_perm _).length_eq]; exact lastW_len ws
def HRowFW (H : List HObj) (id cap : Nat) (ws : List Wr) : Prop:=ws.length≤cap∧(cap ≠ 0→∃ sp,H[id]? = some (.cells (flatW ws ++ sp))∧sp.length = (cap - ws.length) * 3)
theorem HRowFW.row {H : List HObj} {id cap : Nat} {ws : List Wr} (h : HRowFW H id cap ws) : HRowW H id 0 cap ws:=by
 refine ⟨h.1,fun he => ?_⟩
 have : cap ≠ 0:=by rintro rfl; have:=h.1; simp at this; exact he this
 obtain ⟨sp,h1,h2⟩:=h.2 this
 exact ⟨_,h1,by rw [List.drop_zero,List.take_left' (flatW_len ws)]⟩
def isW : ObjT:=fun t => t == 33
theorem isW_eq {t : TypeId} : isW t = (t == 33):=_root_.id rfl
theorem box57 {B : List (Nat × Nat × List DV)} {s s2 : Nat} (h : B = []∨(∃ g c,B = [(s,g,c)])∨∃ g c g2 c2,B = [(s,g,c),(s2,g2,c2)]) : ∃ g T,bgen s B = g∧(∀ cs,bset s g cs B = (s,g,cs) :: T)∧(T = []∨∃ g2 c2,T = [(s2,g2,c2)]):=by
 rcases h with rfl | ⟨g,c,rfl⟩ | ⟨g,c,g2,c2,rfl⟩
 ·exact ⟨0,[],rfl,fun _ => rfl,.inl rfl⟩
 ·exact ⟨g + 1,[],by simp [bgen,bget],fun _ => by simp [bset],.inl rfl⟩
 ·exact ⟨g + 1,_,by simp [bgen,bget],fun _ => by simp [bset],.inr ⟨g2,c2,rfl⟩⟩
theorem box7 {T : List (Nat × Nat × List DV)} {s s2 g : Nat} {cs : List DV} (hn : s ≠ s2) (h : T = []∨∃ g2 c2,T = [(s2,g2,c2)]) : ∃ g2,bgen s2 ((s,g,cs) :: T) = g2∧∀ c2,bset s2 g2 c2 ((s,g,cs) :: T) = [(s,g,cs),(s2,g2,c2)]:=by
 have hn' : ¬ s2 = s:=fun e => hn e.symm
 have hn2 : ¬ s = s2:=hn
 rcases h with rfl | ⟨g2,c2,rfl⟩
 ·exact ⟨0,by simp [bgen,bget,hn,hn'],fun _ => by simp [bset,hn,hn']⟩
 ·exact ⟨g2 + 1,by simp [bgen,bget,hn,hn'],fun _ => by simp [bset,hn,hn']⟩
def B57 (s s2 : Nat) (B : List (Nat × Nat × List DV)) : Prop:=B = []∨(∃ g c,B = [(s,g,c)])∨∃ g c g2 c2,B = [(s,g,c),(s2,g2,c2)]
theorem B57.of {s s2 g : Nat} {c : List DV} {T : List (Nat × Nat × List DV)} (h : T = []∨∃ g2 c2,T = [(s2,g2,c2)]) : B57 s s2 ((s,g,c) :: T):=by
 rcases h with rfl | ⟨g2,c2,rfl⟩
 ·exact .inr (.inl ⟨_,_,rfl⟩)
 ·exact .inr (.inr ⟨_,_,_,_,rfl⟩)
noncomputable def b70 : Code:=(Go.Proofs.Tryz.f70.body).getD .skip
theorem hb70 : Go.Proofs.Tryz.f70.body = some b70:=by kernel_rfl
def OutW (H H' : List HObj) (v : DV) (ws : List Wr) : Prop:=(v = .sl true 3 []∧ws = [])∨∃ id cap,v = .hsl id 3 0 ws.length cap∧cap ≠ 0∧HRowFW H' id cap ws∧H.length≤id
theorem OutW.row {H H' : List HObj} {v : DV} {ws : List Wr} (h : OutW H H' v ws) : RowW H' v ws:=by
 rcases h with ⟨rfl,rfl⟩ | ⟨id,cap,rfl,_,h,_⟩
 ·exact .inl ⟨true,rfl⟩
 ·exact .inr ⟨id,0,cap,rfl,h.row⟩
def SNeat : Spec:=fun H args K => ∃ (v : DV) (ws : List Wr),args = [v]∧RowW H v ws∧ws.length < 1000000∧∀ H' v',Fr [] H H'→OutW H H' v' (neatW ws)→K H' v'
theorem appNeat {H : List HObj} {K : List HObj→DV→Prop} {v : DV} (ws : List Wr) (h1 : RowW H v ws) (h2 : ws.length < 1000000) (h : ∀ H' v',Fr [] H H'→OutW H H' v' (neatW ws)→K H' v') : app SNeat H [v] K:=⟨v,ws,rfl,h1,h2,h⟩
def MNt (H : List HObj) (v : DV) (ws : List Wr) (m : Nat) (st : St) : Prop:=∃ (i : Nat) (ov : DV) (done : List Wr) (H' : List HObj) (B : List (Nat × Nat × List DV)),i≤ws.length∧m = ws.length - i∧lastW ws = done ++ lastW (ws.drop i)∧Fr [] H H'∧OutW H H' ov done∧B57 5 7 B ∧
 st = mk 38 [(0,v),(3,ov),(8,v),(9,.int .i64 ws.length),(10,.int .i64 i)] B H' []
def MNi (H' : List HObj) (v v2 ov : DV) (ws : List Wr) (i : Nat) (g : Nat) (c : List DV) (m : Nat) (st : St) : Prop:=∃ (j : Nat) (T : List (Nat × Nat × List DV)),j≤ws.length - (i + 1)∧m = ws.length - (i + 1) - j∧(∀ k (h : i + 1 + k < ws.length),k < j→¬ ws[i + 1 + k].key = (ws[i]'(by omega)).key)∧(T = []∨∃ g2 c2,T = [(7,g2,c2)]) ∧
 st = mk 38 [(0,v),(3,ov),(5,.lptr 5 g 0),(8,v),(9,.int .i64 ws.length),(10,.int .i64 i),(18,v2),(19,.int .i64 ((ws.length - (i + 1) : Nat) : Int)),(20,.int .i64 j)] ((5,g,c) :: T) H' []
theorem last_yes {ws : List Wr} {i : Nat} (e : i < ws.length) (h : ∃ j,∃ h : i + 1 + j < ws.length,ws[i + 1 + j].key = ws[i].key) : lastW (ws.drop i) = lastW (ws.drop (i + 1)):=by
 rw [List.drop_eq_getElem_cons e,lastW,if_pos]
 obtain ⟨j,h,hk⟩:=h
 exact List.any_eq_true.2 ⟨ws[i + 1 + j],List.mem_iff_getElem.2 ⟨j,by rw [List.length_drop]; omega,by rw [List.getElem_drop]⟩,by simpa using hk⟩
theorem last_no {ws : List Wr} {i : Nat} (e : i < ws.length) (h : ∀ k (h : i + 1 + k < ws.length),k < ws.length - (i + 1)→¬ ws[i + 1 + k].key = ws[i].key) : lastW (ws.drop i) = ws[i] :: lastW (ws.drop (i + 1)):=by
 rw [List.drop_eq_getElem_cons e,lastW,if_neg]
 intro ha
 obtain ⟨x,hx,hk⟩:=List.any_eq_true.1 ha
 obtain ⟨k,hk2,rfl⟩:=List.mem_iff_getElem.1 hx
 rw [List.length_drop] at hk2
 rw [List.getElem_drop] at hk
 exact h k (by omega) (by omega) (by simpa using hk)
theorem flatW_app (a b : List Wr) : flatW (a ++ b) = flatW a ++ flatW b:=by simp [flatW]
theorem flatW_ro : ∀ ws : List Wr,(flatW ws).map DV.ro1 = flatW ws
 | [] => rfl
 | w :: r => by
  have:=flatW_ro r
  simp only [flatW,List.flatMap_cons,List.map_append] at this ⊢
  rw [this]; rfl
theorem HRowFW.put {H : List HObj} {id cap : Nat} {ws : List Wr} {w : Wr} {sp : List DV} (h : H[id]? = some (.cells (flatW ws ++ sp))) (hs : sp.length = (cap - ws.length) * 3) (hc : ws.length + 1≤cap) : HRowFW (H.set id (.cells (flatW ws ++ (w.cells ++ sp.drop 3)))) id cap (ws ++ [w]):=by
 refine ⟨by simp; omega,fun _ => ⟨sp.drop 3,?_,by simp; omega⟩⟩
 rw [List.getElem?_set_self (List.getElem?_eq_some_iff.1 h).1,flatW_app]
 simp [flatW]
theorem HRowFW.new {H : List HObj} {cap : Nat} {ws : List Wr} {w : Wr} {U : List DV} (hs : U.length = (cap - (ws.length + 1)) * 3) (hc : ws.length + 1≤cap) : HRowFW (H ++ [.cells (flatW ws ++ (w.cells ++ U))]) H.length cap (ws ++ [w]):=by
 refine ⟨by simp; omega,fun _ => ⟨U,?_,by simp; omega⟩⟩
 rw [flatW_app]
 simp [flatW]
theorem flatW_sca : ∀ ws : List Wr,(flatW ws).all DV.scalar = true
 | [] => rfl
 | w :: r => by
  have:=flatW_sca r
  simp only [flatW,List.flatMap_cons,List.all_append,Bool.and_eq_true] at this ⊢
  exact ⟨rfl,this⟩
theorem Fr.setNew {H H1 : List HObj} {id : Nat} {Y : HObj} (f : Fr [] H H1) (h : H.length≤id) : Fr [] H (H1.set id Y):=⟨by simpa using f.1,fun j hj hn => by rw [List.getElem?_set_ne (by omega)]; exact f.2 j hj hn⟩
set_option maxHeartbeats 8000000 in
theorem rcNeat {I : Jd pp} (hI : ∀ w e,I.Ok w e) (hS : RC I 133 SSortW) : RC I 70 SNeat:=by
 refine rc_of_code (isObj:=isW) (Γ:=envOf [(133,SSortW)]) (rs:=[2]) mixed hI (envOf_rc (by simpa using hS)) Go.Proofs.Tryz.func70 (by kernel_rfl) hb70 Go.Proofs.Tryz.results70 Go.Proofs.Tryz.ntmps70 (by decide) ?_
 rintro H args K ⟨v,ws,rfl,hv,hl,hK⟩
 rcases hv with ⟨own,rfl⟩ | ⟨id0,off,cap0,rfl,hr⟩
 ·skip
  refine ⟨by simp,rfl,?_⟩
  unfold b70 Go.Proofs.Tryz.f70
  simp only [Option.getD_some,argSlots,BZ3,BZ1,BZ2,BP,w_seq,constDV,Proofs.Tryz.underlying33,cn32,dropLk,Nat.reduceLT,movK,Nat.reduceBEq,lkGet,dl33,List.length_map]
  refine w_loop [0,3,8,9,10] (MNt H (.sl false 3 (ws.map wrD)) ws) ws.length ?_ ?_
  ·exact ⟨0,_,[],H,[],by omega,by omega,by simp,Fr.refl _ _,.inl ⟨rfl,rfl⟩,.inl rfl,by simp only [BZ3,BZ1,BZ2,mk_put?_some,mk_put?_none,List.map_cons,Nat.reduceBEq,List.map_nil]; try rfl⟩
  ·rintro m st ⟨i,ov,done,H',B,hi,rfl,hla,fr1,hov,hB,rfl⟩
   obtain ⟨g,T,hb1,hb2,hT⟩:=box57 hB
   have hdl : done.length≤ws.length:=by have:=congrArg List.length hla; have:=lastW_len ws; simp at *; omega
   by_cases e : i < ws.length
   ·have e1 : (i : Int) < ws.length:=by omega
    have e2 : (0 : Int)≤i:=by omega
    have e3 : ((i + 1 : Nat) : Int)≤ws.length:=by omega
    have e4 : (0 : Int)≤((i + 1 : Nat) : Int):=by omega
    have wi : IntKind.i64.wrap ((i : Int) + 1) = ((i + 1 : Nat) : Int):=by rw [wrap_i64 (by omega) (by omega)]; omega
    have wn : ws.length - (i + 1) < 1000000:=by omega
    have hx:=wrD_get e
    have tl : (ws.map wrD).take ws.length = ws.map wrD:=List.take_of_length_le (by simp)
    simp only [w_seq,BZ1,BZ2,BQ,Nat.reduceLT,Nat.reduceBEq,e1,BP,dropLk,cd_t,movK,ix33,e2,List.length_map,hx,la32,Nat.reduceAdd,Nat.reduceLeDiff,List.map_cons,List.map_nil,al32,isW_eq,hb1,hb2,if_false,takK,if_true,Proofs.Tryz.underlying32,cn32,Pos.inBox,lkGet,constDV,wi,o_slice,sc33,dbound,e4,e3,tl,dl33,List.length_drop]
    refine w_loop [0,3,5,8,9,10,18,19,20] (MNi H' (.sl false 3 (ws.map wrD)) (.sl false 3 ((ws.map wrD).drop (i + 1))) ov ws i g [.str ws[i].key,.bool ws[i].del,.str ws[i].val]) (ws.length - (i + 1)) ?_ ?_
    ·refine ⟨0,T,by omega,by omega,fun k h hk => absurd hk (by omega),hT,?_⟩
     simp only [BZ3,BZ1,BZ2,mk_put?_some,mk_put?_none,List.map_cons,Nat.reduceBEq,List.map_nil]; try rfl
    ·rintro m st ⟨j,T2,hj,rfl,hno,hT2,rfl⟩
     obtain ⟨g2,hb3,hb4⟩:=box7 (s:=5) (g:=g) (cs:=[.str ws[i].key,.bool ws[i].del,.str ws[i].val]) (by decide) hT2
     by_cases f : j < ws.length - (i + 1)
     ·have f1 : (j : Int) < ((ws.length - (i + 1) : Nat) : Int):=by omega
      have f2 : (0 : Int)≤j:=by omega
      have f3 : i + 1 + j < ws.length:=by omega
      have wj : IntKind.i64.wrap ((j : Int) + 1) = ((j + 1 : Nat) : Int):=by rw [wrap_i64 (by omega) (by omega)]; omega
      have hy : ((ws.map wrD).drop (i + 1)).getD j .undef = .agg [.str (ws[i + 1 + j]).key,.bool (ws[i + 1 + j]).del,.str (ws[i + 1 + j]).val]:=by
       simp [List.getD,f3,wrD]
      by_cases hk : ws[i + 1 + j].key = ws[i].key
      ·simp only [w_seq,BZ1,BZ2,BQ,Nat.reduceLT,Nat.reduceBEq,f1,BP,dropLk,cd_t,ix33,f2,List.length_drop,List.length_map,hy,hk,la32,Nat.reduceAdd,Nat.reduceLeDiff,List.map_cons,List.map_nil,al32,isW_eq,hb3,hb4,if_false,takK,Nat.reduceEqDiff,if_true,Proofs.Tryz.underlying32,cn32,Pos.inBox,fl32_0,la9,BZ3,constDV,wj,movK,lkGet,wi,reduceCtorEq,rho_fn]
       refine ⟨_,?_,i + 1,ov,done,H',_,by omega,rfl,by rw [hla,last_yes e ⟨j,f3,hk⟩],fr1,hov,.inr (.inr ⟨_,_,_,_,rfl⟩),rfl⟩
       omega
      ·simp only [w_seq,BZ1,BZ2,BQ,Nat.reduceLT,Nat.reduceBEq,f1,BP,dropLk,cd_t,ix33,f2,List.length_drop,List.length_map,hy,la32,Nat.reduceAdd,Nat.reduceLeDiff,List.map_cons,List.map_nil,al32,isW_eq,hb3,hb4,if_false,takK,Nat.reduceEqDiff,if_true,Proofs.Tryz.underlying32,cn32,Pos.inBox,fl32_0,la9,s_eql,hk,cd_f,constDV,wj,movK]
       refine ⟨_,?_,j + 1,_,by omega,rfl,fun k h hk2 => ?_,.inr ⟨_,_,rfl⟩,rfl⟩
       ·omega
       ·by_cases hkj : k = j
        ·subst hkj; exact hk
        ·exact hno k h (by omega)
     ·obtain rfl : j = ws.length - (i + 1):=by omega
      have f1 : ¬ ((ws.length - (i + 1) : Nat) : Int) < ((ws.length - (i + 1) : Nat) : Int):=by omega
      have hla2 : lastW ws = (done ++ [ws[i]]) ++ lastW (ws.drop (i + 1)):=by rw [hla,last_no e fun k h hk => hno k h hk]; simp
      rcases hov with ⟨rfl,rfl⟩ | ⟨id,cap,rfl,hc0,hrow,hid⟩
      ·simp only [w_seq,BZ1,BZ2,BQ,Nat.reduceLT,Nat.reduceBEq,f1,BP,dropLk,cd_f,movK,Nat.reduceEqDiff,if_false,if_true,la32,Nat.reduceAdd,Nat.reduceLeDiff,List.map_cons,List.map_nil,Pos.atSlot,bs33_1,isW_eq,BZ3,aph33_33,takK,lkGet,apdO_new,constDV,wi,ne_eq,srcC_h Go.Proofs.Tryz.underlying33,Nat.reduceMul,reduceCtorEq,rho_fn]
       intro q hq
       refine ⟨_,?_,i + 1,_,[ws[i]],_,_,by omega,rfl,hla2,(fr1.trans (Fr.app [] _ _)).mono (by simp),.inr ⟨H'.length + 1,q,rfl,by omega,⟨by simp; omega,fun _ => ⟨List.replicate ((q - 1) * 3) .undef,by simp [flatW,Wr.cells],by simp⟩⟩,by have:=fr1.1; omega⟩,B57.of hT2,rfl⟩
       omega
      ·obtain ⟨hrl,hrc⟩:=hrow
       obtain ⟨sp,ho,hsp⟩:=hrc hc0
       have hfl:=flatW_len done
       have l1 : done.length * 3≤(flatW done ++ sp).length:=by rw [List.length_append]; omega
       have t1 : (flatW done ++ sp).take (done.length * 3) = flatW done:=List.take_left' hfl
       have hil : id < H'.length:=(List.getElem?_eq_some_iff.1 ho).1
       have g1 : ∀ X,(H' ++ [X])[id]? = some (.cells (flatW done ++ sp)):=fun X => by rw [List.getElem?_append_left hil]; exact ho
       have g2 : ∀ X,(H' ++ [X])[H'.length]? = some X:=fun X => by simp
       have hdr : List.drop (done.length * 3 + 3) (flatW done ++ sp) = sp.drop 3:=by rw [← hfl,← List.drop_drop,List.drop_left]
       simp only [w_seq,BZ1,BZ2,BQ,Nat.reduceLT,Nat.reduceBEq,f1,BP,dropLk,cd_f,movK,if_true,la32,Nat.reduceAdd,Nat.reduceLeDiff,List.map_cons,List.map_nil,bs33_1,isW_eq,BZ3,aph33_33,takK,hc0,constDV,wi,if_false,ne_eq,srcC_h Go.Proofs.Tryz.underlying33,g2,Nat.reduceMul,reduceCtorEq,g1,apH_some,l1,t1,Pos.inHp,flatW_ro,hdr,Nat.reduceEqDiff,rho_fn]
       refine ⟨flatW_sca _,by omega,by omega,fun hle => ⟨by rw [List.length_append,hfl]; omega,_,?_,i + 1,_,done ++ [ws[i]],_,_,by omega,rfl,hla2,((fr1.trans (Fr.app [] _ _)).mono (by simp)).setNew hid,.inr ⟨id,cap,by simp,hc0,HRowFW.put (g1 _) hsp hle,hid⟩,B57.of hT2,rfl⟩,fun hle q hq => ⟨_,?_,i + 1,_,done ++ [ws[i]],_,_,by omega,rfl,hla2,(fr1.trans (Fr.app [] _ _)).mono (by simp),.inr ⟨H'.length + 1,q,by simp,by omega,⟨by simp; omega,fun _ => ⟨List.replicate ((q - (done.length + 1)) * 3) .undef,by simp [flatW,Wr.cells],by simp⟩⟩,by have:=fr1.1; omega⟩,B57.of hT2,rfl⟩⟩
       ·omega
       ·omega
   ·obtain rfl : i = ws.length:=by omega
    have e1 : ¬ (ws.length : Int) < ws.length:=by omega
    rw [List.drop_length] at hla
    simp only [lastW,List.append_nil] at hla
    subst hla
    rcases hov with ⟨rfl,hd⟩ | ⟨id,cap,rfl,hc0,hrow,hid⟩
    ·simp only [w_seq,BZ1,BZ2,BQ,Nat.reduceLT,Nat.reduceBEq,e1,BP,dropLk,cd_f,movK,Nat.reduceEqDiff,if_false,rho_fn,if_true,BZ3,List.map_cons,List.map_nil]
     refine .inl ⟨_,rfl,?_⟩
     simp only [BZ1,BZ2,Pos.isHp,BQ,if_true,BP,dropLk,Nat.reduceBEq,Pos.atSlot,if_false,w_seq,Nat.reduceLT,movK,Nat.reduceEqDiff,takK,lkGet,BZ3]
     exact hK _ _ fr1 (.inl ⟨rfl,by unfold neatW; rw [hd]; rfl⟩)
    ·obtain ⟨hrl,hrc⟩:=hrow
     obtain ⟨sp,ho,hsp⟩:=hrc hc0
     have hnl : (neatW ws).length = (lastW ws).length:=by unfold neatW; exact (sortW_perm _).length_eq
     simp only [w_seq,BZ1,BZ2,BQ,Nat.reduceLT,Nat.reduceBEq,e1,BP,dropLk,cd_f,movK,rho_fn,if_true,BZ3,List.map_cons,List.map_nil,if_false]
     refine .inr ⟨id,cap,lastW ws,sp,rfl,fun _ => ho,by omega,lastW_nodup ws,fun hd => ?_,fun hd => ?_⟩
     ·simp only [BZ1,BZ2,Pos.isHp,List.filter_nil,mk_put?_some,dropLk,w_seq,Nat.reduceLT,movK,Nat.reduceBEq,takK,true_and]
      have:=hK _ (.hsl id 3 0 (neatW ws).length cap) fr1 (.inr ⟨id,cap,rfl,hc0,⟨by omega,fun _ => ⟨sp,by unfold neatW; rw [hd] at ho ⊢; exact ho,by rw [hnl]; exact hsp⟩⟩,hid⟩)
      rw [hnl] at this
      exact this
     ·simp only [BZ1,BZ2,Pos.isHp,List.filter_nil,mk_put?_some,dropLk,w_seq,Nat.reduceLT,movK,Nat.reduceBEq,takK,true_and]
      have hil : id < H'.length:=(List.getElem?_eq_some_iff.1 ho).1
      have:=hK (H'.set id (.cells (flatW (neatW ws) ++ sp))) (.hsl id 3 0 (neatW ws).length cap) ⟨by simpa using fr1.1,fun j hj hjn => by rw [List.getElem?_set_ne (by omega)]; exact fr1.2 j hj hjn⟩ (.inr ⟨id,cap,rfl,hc0,⟨by omega,fun _ => ⟨sp,List.getElem?_set_self hil,by rw [hnl]; exact hsp⟩⟩,hid⟩)
      rw [hnl] at this
      exact this
 ·skip
  refine ⟨by simp,rfl,?_⟩
  unfold b70 Go.Proofs.Tryz.f70
  simp only [Option.getD_some,argSlots,BZ3,BZ2,BZ1,w_seq,BP,constDV,Proofs.Tryz.underlying33,cn32,dropLk,Nat.reduceLT,movK,Nat.reduceBEq,dlh33]
  refine w_loop [0,3,8,9,10] (MNt H (.hsl id0 3 off ws.length cap0) ws) ws.length ?_ ?_
  ·exact ⟨0,_,[],H,[],by omega,by omega,by simp,Fr.refl _ _,.inl ⟨rfl,rfl⟩,.inl rfl,by simp only [BZ3,BZ1,BZ2,mk_put?_some,mk_put?_none,List.map_cons,Nat.reduceBEq,List.map_nil]; try rfl⟩
  ·rintro m st ⟨i,ov,done,H',B,hi,rfl,hla,fr1,hov,hB,rfl⟩
   obtain ⟨g,T,hb1,hb2,hT⟩:=box57 hB
   have hdl : done.length≤ws.length:=by have:=congrArg List.length hla; have:=lastW_len ws; simp at *; omega
   by_cases e : i < ws.length
   ·have e1 : (i : Int) < ws.length:=by omega
    have e2 : (0 : Int)≤i:=by omega
    have e3 : ((i + 1 : Nat) : Int)≤ws.length:=by omega
    have e4 : (0 : Int)≤((i + 1 : Nat) : Int):=by omega
    have wi : IntKind.i64.wrap ((i : Int) + 1) = ((i + 1 : Nat) : Int):=by rw [wrap_i64 (by omega) (by omega)]; omega
    have wn : ws.length - (i + 1) < 1000000:=by omega
    obtain ⟨cs,k1,k2⟩:=hr.2 (by rintro rfl; simp at e)
    have hid0 : id0 < H.length:=(List.getElem?_eq_some_iff.1 k1).1
    obtain ⟨r,d1⟩:=hroww_cells k2 e
    have k3:=fr1.get k1 (by simp)
    have hcap:=hr.1
    simp only [w_seq,BZ1,BZ2,BQ,Nat.reduceLT,Nat.reduceBEq,e1,BP,dropLk,cd_t,movK,ixh33,e2,k3,d1,la32,Nat.reduceLeDiff,List.map_cons,List.map_nil,al32,isW_eq,hb1,hb2,if_false,takK,if_true,Proofs.Tryz.underlying32,Nat.reduceAdd,cn32,Pos.inBox,constDV,wi,o_slice,sch33,dbound,e4,e3,dlh33]
    refine w_loop [0,3,5,8,9,10,18,19,20] (MNi H' (.hsl id0 3 off ws.length cap0) (.hsl id0 3 (off + (i + 1) * 3) (ws.length - (i + 1)) (cap0 - (i + 1))) ov ws i g [.str ws[i].key,.bool ws[i].del,.str ws[i].val]) (ws.length - (i + 1)) ?_ ?_
    ·refine ⟨0,T,by omega,by omega,fun k h hk => absurd hk (by omega),hT,?_⟩
     simp only [BZ3,BZ1,BZ2,mk_put?_some,mk_put?_none,List.map_cons,Nat.reduceBEq,List.map_nil]; try rfl
    ·rintro m st ⟨j,T2,hj,rfl,hno,hT2,rfl⟩
     obtain ⟨g2,hb3,hb4⟩:=box7 (s:=5) (g:=g) (cs:=[.str ws[i].key,.bool ws[i].del,.str ws[i].val]) (by decide) hT2
     by_cases f : j < ws.length - (i + 1)
     ·have f1 : (j : Int) < ((ws.length - (i + 1) : Nat) : Int):=by omega
      have f2 : (0 : Int)≤j:=by omega
      have f3 : i + 1 + j < ws.length:=by omega
      have wj : IntKind.i64.wrap ((j : Int) + 1) = ((j + 1 : Nat) : Int):=by rw [wrap_i64 (by omega) (by omega)]; omega
      obtain ⟨r2,d2⟩:=hroww_cells k2 f3
      have d3 : off + (i + 1) * 3 + j * 3 = off + (i + 1 + j) * 3:=by omega
      rw [← d3] at d2
      by_cases hk : ws[i + 1 + j].key = ws[i].key
      ·simp only [w_seq,BZ1,BZ2,BQ,Nat.reduceLT,Nat.reduceBEq,f1,BP,dropLk,cd_t,ixh33,f2,k3,d2,hk,la32,Nat.reduceLeDiff,List.map_cons,List.map_nil,al32,isW_eq,hb3,hb4,if_false,takK,Nat.reduceEqDiff,if_true,Proofs.Tryz.underlying32,Nat.reduceAdd,cn32,Pos.inBox,fl32_0,la9,BZ3,constDV,wj,movK,lkGet,wi,reduceCtorEq,rho_fn]
       refine ⟨_,?_,i + 1,ov,done,H',_,by omega,rfl,by rw [hla,last_yes e ⟨j,f3,hk⟩],fr1,hov,.inr (.inr ⟨_,_,_,_,rfl⟩),rfl⟩
       omega
      ·simp only [w_seq,BZ1,BZ2,BQ,Nat.reduceLT,Nat.reduceBEq,f1,BP,dropLk,cd_t,ixh33,f2,k3,d2,la32,Nat.reduceLeDiff,List.map_cons,List.map_nil,al32,isW_eq,hb3,hb4,if_false,takK,Nat.reduceEqDiff,if_true,Proofs.Tryz.underlying32,Nat.reduceAdd,cn32,Pos.inBox,fl32_0,la9,s_eql,hk,cd_f,constDV,wj,movK]
       refine ⟨_,?_,j + 1,_,by omega,rfl,fun k h hk2 => ?_,.inr ⟨_,_,rfl⟩,rfl⟩
       ·omega
       ·by_cases hkj : k = j
        ·subst hkj; exact hk
        ·exact hno k h (by omega)
     ·obtain rfl : j = ws.length - (i + 1):=by omega
      have f1 : ¬ ((ws.length - (i + 1) : Nat) : Int) < ((ws.length - (i + 1) : Nat) : Int):=by omega
      have hla2 : lastW ws = (done ++ [ws[i]]) ++ lastW (ws.drop (i + 1)):=by rw [hla,last_no e fun k h hk => hno k h hk]; simp
      rcases hov with ⟨rfl,rfl⟩ | ⟨id,cap,rfl,hc0,hrow,hid⟩
      ·simp only [w_seq,BZ1,BZ2,BQ,Nat.reduceLT,Nat.reduceBEq,f1,BP,dropLk,cd_f,movK,Nat.reduceEqDiff,if_false,if_true,la32,Nat.reduceAdd,Nat.reduceLeDiff,List.map_cons,List.map_nil,Pos.atSlot,bs33_1,isW_eq,BZ3,aph33_33,takK,lkGet,apdO_new,constDV,wi,ne_eq,srcC_h Go.Proofs.Tryz.underlying33,Nat.reduceMul,reduceCtorEq,rho_fn]
       intro q hq
       refine ⟨_,?_,i + 1,_,[ws[i]],_,_,by omega,rfl,hla2,(fr1.trans (Fr.app [] _ _)).mono (by simp),.inr ⟨H'.length + 1,q,rfl,by omega,⟨by simp; omega,fun _ => ⟨List.replicate ((q - 1) * 3) .undef,by simp [flatW,Wr.cells],by simp⟩⟩,by have:=fr1.1; omega⟩,B57.of hT2,rfl⟩
       omega
      ·obtain ⟨hrl,hrc⟩:=hrow
       obtain ⟨sp,ho,hsp⟩:=hrc hc0
       have hfl:=flatW_len done
       have l1 : done.length * 3≤(flatW done ++ sp).length:=by rw [List.length_append]; omega
       have t1 : (flatW done ++ sp).take (done.length * 3) = flatW done:=List.take_left' hfl
       have hil : id < H'.length:=(List.getElem?_eq_some_iff.1 ho).1
       have g1 : ∀ X,(H' ++ [X])[id]? = some (.cells (flatW done ++ sp)):=fun X => by rw [List.getElem?_append_left hil]; exact ho
       have g2 : ∀ X,(H' ++ [X])[H'.length]? = some X:=fun X => by simp
       have hdr : List.drop (done.length * 3 + 3) (flatW done ++ sp) = sp.drop 3:=by rw [← hfl,← List.drop_drop,List.drop_left]
       simp only [w_seq,BZ1,BZ2,BQ,Nat.reduceLT,Nat.reduceBEq,f1,BP,dropLk,cd_f,movK,if_true,la32,Nat.reduceAdd,Nat.reduceLeDiff,List.map_cons,List.map_nil,bs33_1,isW_eq,BZ3,aph33_33,takK,hc0,constDV,wi,if_false,ne_eq,srcC_h Go.Proofs.Tryz.underlying33,g2,Nat.reduceMul,reduceCtorEq,g1,apH_some,l1,t1,Pos.inHp,flatW_ro,hdr,Nat.reduceEqDiff,rho_fn]
       refine ⟨flatW_sca _,by omega,by omega,fun hle => ⟨by rw [List.length_append,hfl]; omega,_,?_,i + 1,_,done ++ [ws[i]],_,_,by omega,rfl,hla2,((fr1.trans (Fr.app [] _ _)).mono (by simp)).setNew hid,.inr ⟨id,cap,by simp,hc0,HRowFW.put (g1 _) hsp hle,hid⟩,B57.of hT2,rfl⟩,fun hle q hq => ⟨_,?_,i + 1,_,done ++ [ws[i]],_,_,by omega,rfl,hla2,(fr1.trans (Fr.app [] _ _)).mono (by simp),.inr ⟨H'.length + 1,q,by simp,by omega,⟨by simp; omega,fun _ => ⟨List.replicate ((q - (done.length + 1)) * 3) .undef,by simp [flatW,Wr.cells],by simp⟩⟩,by have:=fr1.1; omega⟩,B57.of hT2,rfl⟩⟩
       ·omega
       ·omega
   ·obtain rfl : i = ws.length:=by omega
    have e1 : ¬ (ws.length : Int) < ws.length:=by omega
    rw [List.drop_length] at hla
    simp only [lastW,List.append_nil] at hla
    subst hla
    rcases hov with ⟨rfl,hd⟩ | ⟨id,cap,rfl,hc0,hrow,hid⟩
    ·simp only [w_seq,BZ1,BZ2,BQ,Nat.reduceLT,Nat.reduceBEq,e1,BP,dropLk,cd_f,movK,Nat.reduceEqDiff,if_false,rho_fn,if_true,BZ3,List.map_cons,List.map_nil]
     refine .inl ⟨_,rfl,?_⟩
     simp only [BZ1,BZ2,Pos.isHp,BQ,if_true,BP,dropLk,Nat.reduceBEq,Pos.atSlot,if_false,w_seq,Nat.reduceLT,movK,Nat.reduceEqDiff,takK,lkGet,BZ3]
     exact hK _ _ fr1 (.inl ⟨rfl,by unfold neatW; rw [hd]; rfl⟩)
    ·obtain ⟨hrl,hrc⟩:=hrow
     obtain ⟨sp,ho,hsp⟩:=hrc hc0
     have hnl : (neatW ws).length = (lastW ws).length:=by unfold neatW; exact (sortW_perm _).length_eq
     simp only [w_seq,BZ1,BZ2,BQ,Nat.reduceLT,Nat.reduceBEq,e1,BP,dropLk,cd_f,movK,rho_fn,if_true,BZ3,List.map_cons,List.map_nil,if_false]
     refine .inr ⟨id,cap,lastW ws,sp,rfl,fun _ => ho,by omega,lastW_nodup ws,fun hd => ?_,fun hd => ?_⟩
     ·simp only [BZ1,BZ2,Pos.isHp,List.filter_nil,mk_put?_some,dropLk,w_seq,Nat.reduceLT,movK,Nat.reduceBEq,takK,true_and]
      have:=hK _ (.hsl id 3 0 (neatW ws).length cap) fr1 (.inr ⟨id,cap,rfl,hc0,⟨by omega,fun _ => ⟨sp,by unfold neatW; rw [hd] at ho ⊢; exact ho,by rw [hnl]; exact hsp⟩⟩,hid⟩)
      rw [hnl] at this
      exact this
     ·simp only [BZ1,BZ2,Pos.isHp,List.filter_nil,mk_put?_some,dropLk,w_seq,Nat.reduceLT,movK,Nat.reduceBEq,takK,true_and]
      have hil : id < H'.length:=(List.getElem?_eq_some_iff.1 ho).1
      have:=hK (H'.set id (.cells (flatW (neatW ws) ++ sp))) (.hsl id 3 0 (neatW ws).length cap) ⟨by simpa using fr1.1,fun j hj hjn => by rw [List.getElem?_set_ne (by omega)]; exact fr1.2 j hj hjn⟩ (.inr ⟨id,cap,rfl,hc0,⟨by omega,fun _ => ⟨sp,List.getElem?_set_self hil,by rw [hnl]; exact hsp⟩⟩,hid⟩)
      rw [hnl] at this
      exact this
end Go.Ab.En

/- A part of the proof; no condition of its own. -/
import Derived.Test.YtoebbafmopdfbaaGreatDoorEnA
set_option linter.unusedSimpArgs false
set_option linter.unusedVariables false
/- EnB: The engine's laws: numbers,texts,sums as bytes. -/
namespace Go.Ab.En
open Go Go.Conc Go.RowKit Go.Ab
set_option maxRecDepth 10000
def byD (l : Str) : List DV:=l.map fun c => .int .u8 c.toNat
theorem bytesOf_byD : ∀ l : Str,bytesOf (byD l) = some l
 | [] => rfl
 | c :: r => by
  have:=bytesOf_byD r
  simp only [byD,List.map_cons,bytesOf] at this ⊢
  rw [this]
  simp
theorem byD_length (l : Str) : (byD l).length = l.length:=by simp [byD]
theorem byD_append (l r : Str) : byD (l ++ r) = byD l ++ byD r:=by simp [byD]
def digs : Nat→Nat→Str
 | 0,_ => []
 | f + 1,n => if n = 0 then [] else UInt8.ofNat (n % 256) :: digs f (n / 256)
theorem digs_len : ∀ f n,(digs f n).length≤f
 | 0,_ => by simp [digs]
 | f + 1,n => by
  have:=digs_len f (n / 256)
  simp only [digs]
  split <;> simp <;> omega
def numB (n : Nat) : Str:=UInt8.ofNat (digs 8 n).length :: (digs 8 n).reverse
def textB (s : Str) : Str:=numB s.length ++ s
theorem numB_len (n : Nat) : (numB n).length≤9:=by
 have:=digs_len 8 n
 simp [numB]; omega
theorem u8mod (n : Nat) : IntKind.u8.wrap (Int.tmod (n : Int) 256) = ((UInt8.ofNat (n % 256)).toNat : Int):=by
 rw [Int.tmod_eq_emod_of_nonneg (by omega),wrap_u8 (by omega) (by omega)]
 simp
noncomputable def b137 : Code:=(Go.Proofs.Tryz.f137.body).getD .skip
theorem hb137 : Go.Proofs.Tryz.f137.body = some b137:=by kernel_rfl
def SNum : Spec:=fun H args K => ∃ n : Nat,args = [.int .i64 n]∧n < 9223372036854775808∧K H (.str (numB n))
theorem appNum {H : List HObj} {K : List HObj→DV→Prop} {n : Nat} (h1 : n < 9223372036854775808) (h : K H (.str (numB n))) : app SNum H [.int .i64 n] K:=⟨n,rfl,h1,h⟩
def MNum1 (H : List HObj) (n0 : Nat) (m : Nat) (st : St) : Prop:=∃ (f n : Nat) (xs : Str),m = f∧xs.length + f = 8∧n < 256 ^ f∧n < 9223372036854775808∧digs 8 n0 = xs ++ digs f n∧st = mk 38 [(0,.int .i64 n),(3,.sl true 1 (byD xs))] [] H []
def MNum2 (H : List HObj) (xs : Str) (m : Nat) (st : St) : Prop:=∃ i : Nat,i≤xs.length∧m = i∧st = mk 38 [(3,.sl true 1 (byD xs)),(4,.sl true 1 (byD (UInt8.ofNat xs.length :: (xs.drop i).reverse))),(5,.int .i64 ((i : Int) - 1))] [] H []
theorem rcNum {I : Jd pp} (hI : ∀ w e,I.Ok w e) : RC I 137 SNum:=by
 refine rc_of_code (isObj:=noO) (Γ:=envOf []) (rs:=[2]) mixed hI (envOf_rc (by simp)) Go.Proofs.Tryz.func137 (by kernel_rfl) hb137 Go.Proofs.Tryz.results137 Go.Proofs.Tryz.ntmps137 (by decide) ?_
 rintro H args K ⟨n,rfl,hn,hK⟩
 refine ⟨by simp,rfl,?_⟩
 unfold b137 Go.Proofs.Tryz.f137
 have hm : (if (n : Int) < 0 then 0 else (n : Int)) = n:=if_neg (by omega)
 simp only [Option.getD_some,argSlots,BZ2,w_seq,BZ1,constDV,dropLk,Proofs.Tryz.underlying36,cn5,Nat.reduceLT,movK,Nat.reduceBEq,BZ3,hm,BP,takK]
 refine w_loop [0,3] (MNum1 H n) 8 ?_ ?_
 ·exact ⟨8,n,[],rfl,rfl,by omega,hn,by simp,by simp only [BZ3,BZ1,BZ2,mk_put?_some,mk_put?_none,List.map_cons,Nat.reduceBEq,List.map_nil,byD]; try rfl⟩
 ·rintro m st ⟨f,k,xs,rfl,hf,hk,hk2,hd,rfl⟩
  simp only [w_seq,BZ1,Nat.reduceLT,movK,dropLk,BZ2,BQ,constDV,BZ3,BP,cd,Nat.reduceBEq,Nat.reduceEqDiff,if_false,Pos.atSlot,ne_eq,Int.reduceEq,cv3_5,bs36_1,isO_eq,apo36_36,takK,lkGet,if_true,ap36_36,Nat.reduceLeDiff,List.map_cons,List.map_nil,dl36]
  refine ⟨fun h => ?_,fun h => ?_⟩
  ·have h0 : 0 < k:=by have:=of_decide_eq_true h; omega
   obtain ⟨f,rfl⟩ : ∃ f,m = f + 1:=⟨m - 1,by cases m with | zero => simp at hk; omega | succ f => simp⟩
   have e1 : IntKind.i64.wrap (Int.tdiv (k : Int) 256) = ((k / 256 : Nat) : Int):=by
    have e : Int.tdiv (k : Int) 256 = ((k / 256 : Nat) : Int):=rfl
    rw [e,wrap_i64 (by omega) (by omega)]
   rw [byD_length,e1,u8mod]
   refine ⟨by omega,by omega,f,by omega,f,k / 256,xs ++ [UInt8.ofNat (k % 256)],rfl,by simp; omega,?_,by omega,?_,?_⟩
   ·rw [Nat.pow_succ] at hk; exact Nat.div_lt_of_lt_mul (by omega)
   ·rw [hd,digs,if_neg (by omega)]; simp
   ·simp [byD_append,byD]
  ·have h0 : k = 0:=by have:=of_decide_eq_false h; omega
   subst h0
   have hxs : digs 8 n = xs:=by rw [hd]; cases m <;> simp [digs]
   have hxl : xs.length≤8:=by omega
   have e2 : IntKind.i64.wrap (((byD xs).length : Int) - 1) = (xs.length : Int) - 1:=by rw [byD_length,wrap_i64 (by omega) (by omega)]
   have e3 : IntKind.u8.wrap ((byD xs).length : Int) = ((UInt8.ofNat xs.length).toNat : Int):=by
    rw [byD_length,wrap_u8 (by omega) (by omega)]
    simp; omega
   refine w_loop [3,4,5] (MNum2 H xs) xs.length ?_ ?_
   ·exact ⟨xs.length,Nat.le_refl _,rfl,by simp only [e2,e3,BZ2,BZ3,BZ1,Int.reduceLT,BQ,BP,List.map_cons,Nat.reduceBEq,List.map_nil,List.drop_length,List.reverse_nil]; rfl⟩
   ·rintro i st ⟨_,hi,rfl,rfl⟩
    by_cases hi0 : i = 0
    ·subst hi0
     have q : ¬ (0 : Int)≤((0 : Nat) : Int) - 1:=by omega
     simp only [BQ,BZ3,Int.reduceSub,Int.reduceNeg,w_seq,BZ1,Nat.reduceLT,movK,Nat.reduceBEq,dropLk,BZ2,constDV,Int.reduceLE,BP,cd,Nat.reduceEqDiff,if_false,Pos.atSlot,ix36,Int.reduceToNat,cv36_9,takK,if_true]
     refine ⟨_,bytesOf_byD _,?_⟩
     simpa only [numB,hxs,List.drop_zero] using hK
    ·have q : (0 : Int)≤(i : Int) - 1:=by omega
     have q2 : (i : Int) - 1 < (byD xs).length:=by rw [byD_length]; omega
     have q3 : (byD xs).getD ((i : Int) - 1).toNat .undef = .int .u8 (xs[i - 1]'(by omega)).toNat:=by
      have : ((i : Int) - 1).toNat = i - 1:=by omega
      rw [this]
      have h : i - 1 < xs.length:=by omega
      simp [byD,List.getD,h]
     have q4 : IntKind.i64.wrap ((i : Int) - 1 - 1) = ((i - 1 : Nat) : Int) - 1:=by rw [wrap_i64 (by omega) (by omega)]; omega
     simp only [w_seq,BZ1,Nat.reduceLT,movK,Nat.reduceBEq,dropLk,BZ2,BQ,constDV,BZ3,q,BP,cd,Nat.reduceEqDiff,if_false,Pos.atSlot,ix36,q2,q3,la5,bs36_1,isO_eq,apo36_36,takK,lkGet,if_true,ap36_36,Nat.reduceLeDiff,q4,List.map_cons,List.map_nil,cv36_9]
     refine ⟨by simp [byD_length]; omega,by simp [byD_length]; omega,i - 1,by omega,i - 1,by omega,rfl,?_⟩
     have q5 : xs.drop (i - 1) = xs[i - 1]'(by omega) :: xs.drop i:=by
      rw [List.drop_eq_getElem_cons (by omega)]
      congr 2; omega
     rw [q5,List.reverse_cons,← List.cons_append,byD_append]
     rfl
noncomputable def b183 : Code:=(Go.Proofs.Tryz.f183.body).getD .skip
theorem hb183 : Go.Proofs.Tryz.f183.body = some b183:=by kernel_rfl
def SText : Spec:=fun H args K => ∃ s : Str,args = [.str s]∧s.length < 4611686018427387904∧K H (.str (textB s))
theorem appText {H : List HObj} {K : List HObj→DV→Prop} {s : Str} (h1 : s.length < 4611686018427387904) (h : K H (.str (textB s))) : app SText H [.str s] K:=⟨s,rfl,h1,h⟩
theorem rcText {I : Jd pp} (hI : ∀ w e,I.Ok w e) : RC I 183 SText:=by
 refine rc_of_code (isObj:=noO) (Γ:=envOf [(137,SNum)]) (rs:=[2]) mixed hI (envOf_rc (by simpa using rcNum hI)) Go.Proofs.Tryz.func183 (by kernel_rfl) hb183 Go.Proofs.Tryz.results183 Go.Proofs.Tryz.ntmps183 (by decide) ?_
 rintro H args K ⟨s,rfl,hs,hK⟩
 refine ⟨by simp,rfl,?_⟩
 unfold b183 Go.Proofs.Tryz.f183
 simp only [Option.getD_some,argSlots,BZ2,w_seq,BZ1,constDV,dropLk,Nat.reduceLT,movK,Nat.reduceBEq,dl9,BP,if_true,BQ,List.map_cons,List.map_nil]
 refine appNum (by omega) ?_
 have:=numB_len s.length
 simp only [BZ1,BZ2,Pos.isHp,BQ,BP,dropLk,Nat.reduceLT,movK,Nat.reduceBEq,s_add,takK,if_false]
 exact ⟨by omega,hK⟩
noncomputable def b206 : Code:=(Go.Proofs.Tryz.f206.body).getD .skip
theorem hb206 : Go.Proofs.Tryz.f206.body = some b206:=by kernel_rfl
def valB (d : Bool) (v : Str) : Str:=if d then [1] else 0 :: textB v
def SVal : Spec:=fun H args K => ∃ d v,args = [.bool d,.str v]∧v.length < 4000000000000000000∧K H (.str (valB d v))
theorem appVal {H : List HObj} {K : List HObj→DV→Prop} {d : Bool} {v : Str} (h1 : v.length < 4000000000000000000) (h : K H (.str (valB d v))) : app SVal H [.bool d,.str v] K:=⟨d,v,rfl,h1,h⟩
theorem rcVal {I : Jd pp} (hI : ∀ w e,I.Ok w e) : RC I 206 SVal:=by
 refine rc_of_code (isObj:=noO) (Γ:=envOf [(183,SText)]) (rs:=[4]) mixed hI (envOf_rc (by simpa using rcText hI)) Go.Proofs.Tryz.func206 (by kernel_rfl) hb206 Go.Proofs.Tryz.results206 Go.Proofs.Tryz.ntmps206 (by decide) ?_
 rintro H args K ⟨d,v,rfl,hs,hK⟩
 refine ⟨by simp,rfl,?_⟩
 unfold b206 Go.Proofs.Tryz.f206
 have:=numB_len v.length
 cases d
 ·simp only [Option.getD_some,argSlots,BZ2,BQ,w_seq,BZ1,constDV,dropLk,Nat.reduceLT,movK,Nat.reduceBEq,cd,if_true,List.map_cons,List.map_nil]
  refine appText (by omega) ?_
  simp only [BZ1,BZ2,Pos.isHp,BQ,BP,dropLk,constDV,Nat.reduceLT,s_add,takK,if_false]
  refine ⟨by simp [textB]; omega,?_⟩
  exact hK
 ·simp only [Option.getD_some,argSlots,BZ2,BQ,w_seq,BZ1,constDV,dropLk,Nat.reduceLT,movK,Nat.reduceBEq,cd,if_true,List.map_cons,List.map_nil]
  exact hK
noncomputable def b187 : Code:=(Go.Proofs.Tryz.f187.body).getD .skip
theorem hb187 : Go.Proofs.Tryz.f187.body = some b187:=by kernel_rfl
def sumStep (p : Nat × Nat) (c : UInt8) : Nat × Nat:=((p.1 + c.toNat) % 65521,(p.2 + (p.1 + c.toNat) % 65521) % 65521)
def sumP (s : Str) : Nat × Nat:=s.foldl sumStep (1,0)
def sumF (s : Str) : Int:=bitsOp .or .u32 (IntKind.u32.wrap ((sumP s).2 * 65536)) (sumP s).1
def SSum : Spec:=fun H args K => ∃ s : Str,args = [.str s]∧s.length < 4611686018427387904∧K H (.int .u32 (sumF s))
theorem appSum {H : List HObj} {K : List HObj→DV→Prop} {s : Str} (h1 : s.length < 4611686018427387904) (h : K H (.int .u32 (sumF s))) : app SSum H [.str s] K:=⟨s,rfl,h1,h⟩
theorem wrap_u32 {x : Int} (h1 : 0≤x) (h2 : x < 4294967296) : IntKind.u32.wrap x = x:=by
 simp [IntKind.wrap,IntKind.bits,IntKind.signed]
 omega
def MSum (H : List HObj) (s : Str) (m : Nat) (st : St) : Prop:=∃ i : Nat,i≤s.length∧m = s.length - i∧(sumP (s.take i)).1 < 65521∧(sumP (s.take i)).2 < 65521∧st = mk 27 [(0,.str s),(3,.int .u32 (sumP (s.take i)).1),(4,.int .u32 (sumP (s.take i)).2),(7,.int .i64 s.length),(8,.int .i64 i)] [] H []
theorem rcSum {I : Jd pp} (hI : ∀ w e,I.Ok w e) : RC I 187 SSum:=by
 refine rc_of_code (isObj:=noO) (Γ:=envOf []) (rs:=[2]) mixed hI (envOf_rc (by simp)) Go.Proofs.Tryz.func187 (by kernel_rfl) hb187 Go.Proofs.Tryz.results187 Go.Proofs.Tryz.ntmps187 (by decide) ?_
 rintro H args K ⟨s,rfl,hl,hK⟩
 refine ⟨by simp,rfl,?_⟩
 unfold b187 Go.Proofs.Tryz.f187
 simp only [Option.getD_some,argSlots,BZ3,BZ1,BZ2,BP,w_seq,constDV,dropLk,Nat.reduceLT,movK,Nat.reduceBEq,dl9]
 refine w_loop [0,3,4,7,8] (MSum H s) s.length ?_ ?_
 ·exact ⟨0,by omega,by omega,by simp [sumP],by simp [sumP],by simp only [BZ3,BZ1,BZ2,mk_put?_some,mk_put?_none,List.map_cons,Nat.reduceBEq,List.map_nil,List.take_zero]; try rfl⟩
 ·rintro m st ⟨i,hi,rfl,ha,hb,rfl⟩
  generalize hp : sumP (s.take i) = p at ha hb
  obtain ⟨a,b⟩:=p
  simp only at ha hb
  by_cases e : i < s.length
  ·have e1 : (i : Int) < s.length:=by omega
   have e2 : (0 : Int)≤i:=by omega
   have hx : s.getD i 0 = s[i]:=by simp [List.getD,e]
   have hc : (s[i]).toNat < 256:=s[i].toNat_lt
   have w0 : IntKind.u32.wrap ((s[i]).toNat : Int) = ((s[i]).toNat : Int):=wrap_u32 (by omega) (by omega)
   have w1 : IntKind.u32.wrap ((a : Int) + ((s[i]).toNat : Int)) = ((a + (s[i]).toNat : Nat) : Int):=by rw [wrap_u32 (by omega) (by omega)]; omega
   have w2 : Int.tmod ((a + (s[i]).toNat : Nat) : Int) 65521 = (((a + (s[i]).toNat) % 65521 : Nat) : Int):=rfl
   have w3 : IntKind.u32.wrap ((b : Int) + (((a + (s[i]).toNat) % 65521 : Nat) : Int)) = ((b + (a + (s[i]).toNat) % 65521 : Nat) : Int):=by rw [wrap_u32 (by omega) (by omega)]; omega
   have w4 : Int.tmod ((b + (a + (s[i]).toNat) % 65521 : Nat) : Int) 65521 = (((b + (a + (s[i]).toNat) % 65521) % 65521 : Nat) : Int):=rfl
   have wi : IntKind.i64.wrap ((i : Int) + 1) = ((i + 1 : Nat) : Int):=by rw [wrap_i64 (by omega) (by omega)]; omega
   simp only [w_seq,BZ1,BZ2,BQ,Nat.reduceLT,Nat.reduceBEq,e1,BP,dropLk,cd,movK,takK,BZ3,ix9,e2,hx,cv5_243,w0,w1,constDV,ne_eq,Int.reduceEq,w2,w3,w4,wi,List.map_cons,List.map_nil,if_false,b_shl16,b_or,if_true]
   have hq : sumP (s.take (i + 1)) = ((a + (s[i]).toNat) % 65521,(b + (a + (s[i]).toNat) % 65521) % 65521):=by
    rw [List.take_succ_eq_append_getElem e,sumP,List.foldl_append]
    show sumStep (sumP (s.take i)) s[i] = _
    rw [hp]; rfl
   refine ⟨_,?_,i + 1,by omega,rfl,?_,?_,?_⟩
   ·omega
   ·rw [hq]; exact Nat.mod_lt _ (by omega)
   ·rw [hq]; exact Nat.mod_lt _ (by omega)
   ·rw [hq]
  ·obtain rfl : i = s.length:=by omega
   have e1 : ¬ (s.length : Int) < s.length:=by omega
   simp only [w_seq,BZ1,BZ2,BQ,Nat.reduceLT,Nat.reduceBEq,e1,BP,dropLk,cd,movK,takK,BZ3,ix9,cv5_243,constDV,ne_eq,Int.reduceEq,List.map_cons,List.map_nil,if_false,b_shl16,b_or,if_true]
   rw [List.take_length] at hp
   simpa only [sumF,hp] using hK
end Go.Ab.En

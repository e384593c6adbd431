/- A part of the proof; no condition of its own. -/
import Derived.Test.YtoebbafmopdfbaaGreatDoorEnB
set_option linter.unusedSimpArgs false
set_option linter.unusedVariables false
/- EnO: The engine's laws: texts and entries in order. -/
namespace Go.Ab.En
open Go Go.Conc Go.RowKit Go.Ab
theorem cmpS_range : ∀ a b : Str,cmpS a b = -1∨cmpS a b = 0∨cmpS a b = 1
 | [],[] => by simp [cmpS,Lib.compareBytes]
 | [],_ :: _ => by simp [cmpS,Lib.compareBytes]
 | _ :: _,[] => by simp [cmpS,Lib.compareBytes]
 | a :: xs,b :: ys => by
  have:=cmpS_range xs ys
  simp only [cmpS,Lib.compareBytes] at this ⊢
  split
  ·simp
  ·split
   ·simp
   ·exact this
theorem cmpS_refl : ∀ a : Str,cmpS a a = 0
 | [] => rfl
 | a :: xs => by
  have:=cmpS_refl xs
  simp only [cmpS,Lib.compareBytes] at this ⊢
  rw [if_neg (by simp),if_neg (by simp)]; exact this
theorem cmpS_eq : ∀ a b : Str,cmpS a b = 0→a = b
 | [],[],_ => rfl
 | [],_ :: _,h => by simp [cmpS,Lib.compareBytes] at h
 | _ :: _,[],h => by simp [cmpS,Lib.compareBytes] at h
 | a :: xs,b :: ys,h => by
  simp only [cmpS,Lib.compareBytes] at h
  split at h
  ·simp at h
  ·split at h
   ·simp at h
   ·rename_i h1 h2
    have e : a = b:=by
     rw [UInt8.lt_iff_toNat_lt] at h1 h2
     exact UInt8.toNat_inj.1 (by omega)
    rw [e,cmpS_eq xs ys h]
theorem cmpS_eq_iff {a b : Str} : cmpS a b = 0 ↔ a = b:=⟨cmpS_eq a b,fun h => by rw [h,cmpS_refl]⟩
theorem cmpS_swap : ∀ a b : Str,cmpS b a = - cmpS a b
 | [],[] => rfl
 | [],_ :: _ => rfl
 | _ :: _,[] => rfl
 | a :: xs,b :: ys => by
  have:=cmpS_swap xs ys
  simp only [cmpS,Lib.compareBytes] at this ⊢
  by_cases h1 : a < b
  ·have h2 : ¬ b < a:=by rw [UInt8.lt_iff_toNat_lt] at h1 ⊢; omega
   simp [h1,h2]
  ·by_cases h2 : b < a
   ·simp [h1,h2]
   ·simp [h1,h2,this]
theorem cmpS_trans : ∀ a b c : Str,cmpS a b < 0→cmpS b c < 0→cmpS a c < 0
 | [],[],_,h,_ => by simp [cmpS,Lib.compareBytes] at h
 | [],_ :: _,[],_,h => by simp [cmpS,Lib.compareBytes] at h
 | [],_ :: _,_ :: _,_,_ => by simp [cmpS,Lib.compareBytes]
 | _ :: _,[],_,h,_ => by simp [cmpS,Lib.compareBytes] at h
 | _ :: _,_ :: _,[],_,h => by simp [cmpS,Lib.compareBytes] at h
 | a :: xs,b :: ys,c :: zs,h1,h2 => by
  have:=cmpS_trans xs ys zs
  simp only [cmpS,Lib.compareBytes,UInt8.lt_iff_toNat_lt] at this h1 h2 ⊢
  split at h1
  ·rename_i h3
   split at h2
   ·rename_i h4
    rw [if_pos (by omega)]; simp
   ·split at h2
    ·simp at h2
    ·rw [if_pos (by omega)]; simp
  ·split at h1
   ·simp at h1
   ·split at h2
    ·rw [if_pos (by omega)]; simp
    ·split at h2
     ·simp at h2
     ·rw [if_neg (by omega),if_neg (by omega)]
      exact this h1 h2
theorem bytesLess_cmp : ∀ a b : Str,Op.bytesLess a b = decide (cmpS a b < 0)
 | [],[] => by simp [cmpS,Lib.compareBytes,Op.bytesLess]
 | [],_ :: _ => by simp [cmpS,Lib.compareBytes,Op.bytesLess]
 | _ :: _,[] => by simp [cmpS,Lib.compareBytes,Op.bytesLess]
 | a :: xs,b :: ys => by
  have:=bytesLess_cmp xs ys
  simp only [cmpS,Lib.compareBytes,Op.bytesLess] at this ⊢
  by_cases h1 : a < b
  ·simp [h1]
  ·by_cases h2 : b < a
   ·have : a ≠ b:=by rintro rfl; exact h1 h2
    simp [h1,h2,this]
   ·have e : a = b:=by
     rw [UInt8.lt_iff_toNat_lt] at h1 h2
     exact UInt8.toNat_inj.1 (by omega)
    simp [e,this]
    exact decide_eq_decide.2 Iff.rfl
theorem cmpI_neg {a b : Int} : cmpI a b < 0 ↔ a < b:=by
 simp only [cmpI]
 by_cases h1 : a < b
 ·simp [h1]
 ·by_cases h2 : b < a <;> simp [h1,h2]
theorem ltE_iff {a b : Ent} : ltE a b = true ↔ cmpS a.key b.key < 0∨a.key = b.key∧b.seq < a.seq:=by
 unfold ltE
 rw [decide_eq_true_eq]
 unfold cmpE
 by_cases h : a.key = b.key
 ·rw [if_pos (cmpS_eq_iff.2 h)]
  simp only [h,cmpS_refl,cmpI_neg]
  simp
 ·rw [if_neg (fun e => h (cmpS_eq_iff.1 e))]
  simp [h]
theorem ltE_trans {a b c : Ent} (h1 : ltE a b = true) (h2 : ltE b c = true) : ltE a c = true:=by
 rw [ltE_iff] at *
 rcases h1 with h1 | ⟨h1,k1⟩ <;> rcases h2 with h2 | ⟨h2,k2⟩
 ·exact .inl (cmpS_trans _ _ _ h1 h2)
 ·rw [h2] at h1; exact .inl h1
 ·rw [← h1] at h2; exact .inl h2
 ·exact .inr ⟨h1.trans h2,by omega⟩
def Sorted (es : List Ent) : Prop:=es.Pairwise fun a b => ltE a b = true
def firstE (es : List Ent) (k : Str) (n : Int) : Nat:=(es.takeWhile fun e => ltE e ⟨k,n,false,[]⟩).length
theorem takeWhile_len {α : Type} (p : α→Bool) : ∀ (l : List α) (i : Nat),i≤l.length→(∀ j (h : j < l.length),j < i→p l[j] = true)→(∀ h : i < l.length,p l[i] = false)→(l.takeWhile p).length = i
 | [],i,h,_,_ => by simp at h; simp [h]
 | a :: r,0,_,_,h2 => by
  have:=h2 (by simp)
  simp at this
  simp [this]
 | a :: r,i + 1,h,h1,h2 => by
  have ha:=h1 0 (by simp) (by omega)
  simp at ha
  simp only [List.takeWhile_cons,ha,if_true,List.length_cons]
  rw [takeWhile_len p r i (by simpa using h) (fun j hj hji => by have:=h1 (j + 1) (by simpa using hj) (by omega); simpa using this) (fun hi => by have:=h2 (by simpa using hi); simpa using this)]
theorem firstE_of {es : List Ent} {k : Str} {n : Int} {i : Nat} (h0 : i≤es.length) (h1 : ∀ j (h : j < es.length),j < i→ltE es[j] ⟨k,n,false,[]⟩ = true) (h2 : ∀ h : i < es.length,ltE es[i] ⟨k,n,false,[]⟩ = false) : firstE es k n = i :=
 takeWhile_len _ es i h0 h1 h2
theorem firstE_le (es : List Ent) (k : Str) (n : Int) : firstE es k n≤es.length:=(List.takeWhile_prefix _).length_le
def rowD (es : List Ent) : List DV:=es.map fun e => .agg e.cells
def flatE (es : List Ent) : List DV:=es.flatMap Ent.cells
theorem flatE_len : ∀ es : List Ent,(flatE es).length = es.length * 4
 | [] => rfl
 | e :: r => by
  have:=flatE_len r
  simp only [flatE,List.flatMap_cons,List.length_append,List.length_cons] at this ⊢
  rw [this]
  simp [Ent.cells]; omega
theorem flatE_app (a b : List Ent) : flatE (a ++ b) = flatE a ++ flatE b:=by simp [flatE]
theorem flatE_drop : ∀ (es : List Ent) (i : Nat),(flatE es).drop (i * 4) = flatE (es.drop i)
 | es,0 => by simp
 | [],i + 1 => by simp [flatE]
 | e :: r,i + 1 => by
  have h:=flatE_drop r i
  have e1 : (i + 1) * 4 = i * 4 + 4:=by omega
  have e2 : flatE (e :: r) = e.cells ++ flatE r:=by simp [flatE]
  rw [e1,Nat.add_comm,← List.drop_drop,e2,List.drop_left' (by simp [Ent.cells]),h]
  rfl
theorem flatE_take : ∀ (es : List Ent) (i : Nat),(flatE es).take (i * 4) = flatE (es.take i)
 | es,0 => by simp [flatE]
 | [],i + 1 => by simp [flatE]
 | e :: r,i + 1 => by
  have h:=flatE_take r i
  have e1 : (i + 1) * 4 = 4 + i * 4:=by omega
  have e2 : flatE (e :: r) = e.cells ++ flatE r:=by simp [flatE]
  have e4 : flatE (e :: r.take i) = e.cells ++ flatE (r.take i):=by simp [flatE]
  have : e.cells.length = 4:=by simp [Ent.cells]
  have e3 : 4 + i * 4 - 4 = i * 4:=by omega
  rw [e1,e2,List.take_append,List.take_succ_cons,e4,List.take_of_length_le (by omega),this,e3,h]
theorem flatE_get {es : List Ent} {i : Nat} (h : i < es.length) : ((flatE es).drop (i * 4)).take 4 = (es[i]).cells:=by
 have e2 : ∀ (x : Ent) (r : List Ent),flatE (x :: r) = x.cells ++ flatE r:=fun x r => by simp [flatE]
 rw [flatE_drop,List.drop_eq_getElem_cons h,e2,List.take_left' (by simp [Ent.cells])]
theorem flatE_sca (es : List Ent) : (flatE es).all DV.scalar = true:=by
 simp [flatE,List.all_eq_true,Ent.cells,DV.scalar]
theorem flatE_ro (es : List Ent) : (flatE es).map DV.ro1 = flatE es:=by
 simp only [flatE,List.map_flatMap]
 rfl
def HRow (H : List HObj) (id off cap : Nat) (es : List Ent) : Prop:=es.length≤cap∧(es ≠ []→∃ cs,H[id]? = some (.cells cs)∧(cs.drop off).take (es.length * 4) = flatE es)
def RowV (H : List HObj) (v : DV) (es : List Ent) : Prop:=(∃ own,v = .sl own 4 (rowD es))∨∃ id off cap,v = .hsl id 4 off es.length cap∧HRow H id off cap es
def Fr (S : List Nat) (H H' : List HObj) : Prop:=H.length≤H'.length∧∀ j,j < H.length→j ∉ S→H'[j]? = H[j]?
theorem Fr.refl (S : List Nat) (H : List HObj) : Fr S H H:=⟨Nat.le_refl _,fun _ _ _ => rfl⟩
theorem Fr.app (S : List Nat) (H l : List HObj) : Fr S H (H ++ l):=⟨by simp,fun j hj _ => by rw [List.getElem?_append_left hj]⟩
theorem Fr.trans {S T : List Nat} {H H' H'' : List HObj} (h : Fr S H H') (k : Fr T H' H'') : Fr (S ++ T) H H'' :=
 ⟨Nat.le_trans h.1 k.1,fun j hj hn => by rw [List.mem_append,not_or] at hn; rw [k.2 j (Nat.lt_of_lt_of_le hj h.1) hn.2,h.2 j hj hn.1]⟩
theorem Fr.mono {S T : List Nat} {H H' : List HObj} (h : Fr S H H') (hs : ∀ j,j < H.length→j∈S→j∈T) : Fr T H H':=⟨h.1,fun j hj hn => h.2 j hj fun hm => hn (hs j hj hm)⟩
theorem Fr.set (H : List HObj) (i : Nat) (x : HObj) : Fr [i] H (H.set i x):=⟨by simp,fun j _ hn => by rw [List.getElem?_set_ne (by simpa [eq_comm] using hn)]⟩
theorem Fr.get {S : List Nat} {H H' : List HObj} (h : Fr S H H') {i : Nat} {x : HObj} (hi : H[i]? = some x) (hn : i ∉ S) : H'[i]? = some x:=by
 rw [h.2 i (List.getElem?_eq_some_iff.1 hi).1 hn,hi]
theorem HRow.fr {S : List Nat} {H H' : List HObj} {id off cap : Nat} {es : List Ent} (h : HRow H id off cap es) (f : Fr S H H') (hn : id ∉ S) : HRow H' id off cap es :=
 ⟨h.1,fun he => by obtain ⟨cs,h1,h2⟩:=h.2 he; exact ⟨cs,f.get h1 hn,h2⟩⟩
theorem RowV.fr0 {H H' : List HObj} {v : DV} {es : List Ent} (h : RowV H v es) (f : Fr [] H H') : RowV H' v es:=by
 rcases h with h | ⟨id,off,cap,rfl,h⟩
 ·exact .inl h
 ·exact .inr ⟨id,off,cap,rfl,h.fr f (by simp)⟩
end Go.Ab.En

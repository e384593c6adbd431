/- A part of the proof; no condition of its own. -/
import Derived.Shelf.SlSortCmp.NoneTotal
import Derived.WalkKit
import Derived.ProofKit
import Derived.Test.YtoebbafmopdfbaaGreatDoorEnI
set_option linter.unusedSimpArgs false
set_option linter.unusedVariables false
namespace Go.Proofs
open Go.Shelf Go.RowKit Go.Lib Go.Sort Go.Ab.En
instance : Inhabited Wr:=⟨⟨[],false,[]⟩⟩
def encW (w : Wr) : List Value:=[.string ⟨w.key.toArray⟩,.bool w.del,.string ⟨w.val.toArray⟩]
set_option maxRecDepth 100000 in
set_option maxHeartbeats 2000000 in
theorem closureW (x y : Wr) (W : World) : Calls Tryz.prog 134 #[.agg #[.string ⟨x.key.toArray⟩,.bool x.del,.string ⟨x.val.toArray⟩],.agg #[.string ⟨y.key.toArray⟩,.bool y.del,.string ⟨y.val.toArray⟩]] W fun e w' => e = .returned (.int .i64 (cmpS x.key y.key))∧∃ q os',w' = grow (W.drewN q) os':=by
 have hcon:=fun W' => Tryz.strings_Compare ⟨x.key.toArray⟩ ⟨y.key.toArray⟩ W'
 have hc : Lib.compareBytes (ByteArray.mk x.key.toArray).data.toList (ByteArray.mk y.key.toArray).data.toList = cmpS x.key y.key:=rfl
 simp only [hc] at hcon
 generalize cmpS x.key y.key = r at hcon ⊢
 go_enter Tryz.func134,Tryz.ntmps134
 go_wp2_with (go_at_call 135; refine (hcon _).mono ?_; rintro e w' ⟨rfl,rfl⟩)
 go_ret
 exact ⟨rfl,0,_,by rw [alloc_eq_grow,alloc_eq_grow,grow_grow]; rfl⟩
set_option maxRecDepth 100000 in
set_option maxHeartbeats 2000000 in
theorem closureW2 (x y : Wr) (W : World) : Calls Tryz.prog 151 #[.agg #[.string ⟨x.key.toArray⟩,.bool x.del,.string ⟨x.val.toArray⟩],.agg #[.string ⟨y.key.toArray⟩,.bool y.del,.string ⟨y.val.toArray⟩]] W fun e w' => e = .returned (.int .i64 (cmpS x.key y.key))∧∃ q os',w' = grow (W.drewN q) os':=by
 have hcon:=fun W' => Tryz.strings_Compare ⟨x.key.toArray⟩ ⟨y.key.toArray⟩ W'
 have hc : Lib.compareBytes (ByteArray.mk x.key.toArray).data.toList (ByteArray.mk y.key.toArray).data.toList = cmpS x.key y.key:=rfl
 simp only [hc] at hcon
 generalize cmpS x.key y.key = r at hcon ⊢
 go_enter Tryz.func151,Tryz.ntmps151
 go_wp2_with (go_at_call 135; refine (hcon _).mono ?_; rintro e w' ⟨rfl,rfl⟩)
 go_ret
 exact ⟨rfl,0,_,by rw [alloc_eq_grow,alloc_eq_grow,grow_grow]; rfl⟩
def isCloW (f : Nat) : Prop:=f = 134∨f = 151
theorem cmpLaysW {f : Nat} (hf : isCloW f) (blk off size : Nat) (w : World) : CmpLays Tryz.prog f #[] encW 3 (fun x y => cmpS x.key y.key) blk off size w:=by
 rcases hf with rfl | rfl
 ·exact fun _ _ _ _ x y => closureW x y _
 ·exact fun _ _ _ _ x y => closureW2 x y _
theorem swoW : SWO (ltOf fun x y : Wr => cmpS x.key y.key) where
 irrefl x:=by simp [ltOf,cmpS_refl]
 trans x y z h1 h2:=by simp only [ltOf,decide_eq_true_eq] at *; exact cmpS_trans _ _ _ h1 h2
 ntrans x y z h1 h2:=by
  simp only [ltOf,decide_eq_false_iff_not] at *
  intro h3
  rcases cmpS_range x.key y.key with h | h | h
  ·omega
  ·rw [cmpS_eq_iff.1 h] at h3; exact h2 h3
  ·have h4:=cmpS_swap x.key y.key
   have:=cmpS_trans y.key x.key z.key (by omega) h3
   exact h2 this
end Go.Proofs
namespace Go.Ab.En
open Go Go.Conc Go.RowKit Go.Ab
def insW (w : Wr) : List Wr→List Wr
 | [] => [w]
 | x :: r => if cmpS w.key x.key < 0 then w :: x :: r else x :: insW w r
def sortW (l : List Wr) : List Wr:=l.foldr insW []
theorem insW_perm (w : Wr) : ∀ l,(insW w l).Perm (w :: l)
 | [] => .refl _
 | x :: r => by
  simp only [insW]
  split
  ·exact .refl _
  ·exact (List.Perm.cons x (insW_perm w r)).trans (List.Perm.swap w x r)
theorem sortW_perm : ∀ l,(sortW l).Perm l
 | [] => .refl _
 | x :: r => (insW_perm x (sortW r)).trans (List.Perm.cons x (sortW_perm r))
def SortedW (l : List Wr) : Prop:=l.Pairwise fun a b => ¬ cmpS b.key a.key < 0
theorem insW_sorted (w : Wr) : ∀ l,SortedW l→SortedW (insW w l)
 | [],_ => by simp [insW,SortedW]
 | x :: r,h => by
  simp only [insW]
  have h1:=List.pairwise_cons.1 h
  split
  ·rename_i hc
   refine List.pairwise_cons.2 ⟨fun y hy => ?_,h⟩
   have:=cmpS_swap w.key x.key
   rcases List.mem_cons.1 hy with rfl | hy
   ·omega
   ·intro h2
    have:=h1.1 y hy
    exact this (cmpS_trans _ _ _ h2 hc)
  ·rename_i hc
   refine List.pairwise_cons.2 ⟨fun y hy => ?_,insW_sorted w r h1.2⟩
   rcases List.mem_cons.1 ((insW_perm w r).subset hy) with rfl | hy
   ·exact hc
   ·exact h1.1 y hy
theorem sortW_sorted : ∀ l,SortedW (sortW l)
 | [] => .nil
 | x :: r => insW_sorted x _ (sortW_sorted r)
theorem sortW_unique {a b : List Wr} (hp : a.Perm b) (ha : SortedW a) (hb : SortedW b) (hn : (a.map (·.key)).Nodup) : a = b:=by
 refine hp.eq_of_pairwise (le:=fun (x y : Wr) => ¬ cmpS y.key x.key < 0) (fun x y hx hy h1 h2 => ?_) ha hb
 have h3:=cmpS_swap x.key y.key
 have he : x.key = y.key:=by
  rcases cmpS_range x.key y.key with h | h | h
  ·exact absurd (show cmpS x.key y.key < 0 by omega) h2
  ·exact cmpS_eq_iff.1 h
  ·exact absurd (show cmpS y.key x.key < 0 by omega) h1
 obtain ⟨i,hi,rfl⟩:=List.getElem_of_mem hx
 obtain ⟨j,hj,rfl⟩:=List.getElem_of_mem (hp.symm.subset hy)
 have:=(List.nodup_iff_pairwise_ne.1 hn)
 by_cases e : i = j
 ·subst e; rfl
 ·rcases Nat.lt_or_gt_of_ne e with hlt | hlt
  ·have:=List.pairwise_iff_getElem.1 this i j (by simpa using hi) (by simpa using hj) hlt
   simp at this; exact absurd he this
  ·have:=List.pairwise_iff_getElem.1 this j i (by simpa using hj) (by simpa using hi) hlt
   simp at this; exact absurd he.symm this
theorem flat3_get {α β : Type} (f : α→List β) (hf : ∀ x,(f x).length = 3) : ∀ (l : List α) (j : Nat),(l.flatMap f)[j]? = (l[j / 3]?).bind fun x => (f x)[j % 3]?
 | [],j => by simp
 | x :: r,j => by
  rw [List.flatMap_cons]
  by_cases h : j < 3
  ·rw [List.getElem?_append_left (by rw [hf]; exact h),Nat.div_eq_of_lt h,Nat.mod_eq_of_lt h]; rfl
  ·rw [List.getElem?_append_right (by rw [hf]; omega),hf,flat3_get f hf r (j - 3)]
   have e1 : j / 3 = (j - 3) / 3 + 1:=by omega
   have e2 : j % 3 = (j - 3) % 3:=by omega
   rw [e1,e2]; rfl
theorem flat3_len {α β : Type} (f : α→List β) (hf : ∀ x,(f x).length = 3) (l : List α) : (l.flatMap f).length = l.length * 3:=by
 induction l with
 | nil => rfl
 | cons x r ih => rw [List.flatMap_cons,List.length_append,hf,ih,List.length_cons]; omega
theorem flatK_list (d : Array Wr) : (Go.Sort.flatK Go.Proofs.encW 3 d).toList = d.toList.flatMap Go.Proofs.encW:=by
 refine List.ext_getElem? fun j => ?_
 rw [flat3_get _ (fun _ => rfl)]
 by_cases h : j < d.size * 3
 ·have hj : j / 3 < d.size:=by omega
  rw [Array.getElem?_toList,Array.getElem?_eq_getElem (by simpa using h)]
  have:=Go.Sort.get_flatK Go.Proofs.encW 3 d j h
  rw [getElem!_pos _ j (by simpa using h)] at this
  rw [this,Array.getElem?_toList,Array.getElem?_eq_getElem hj,getElem!_pos d _ hj]
  have hm : j % 3 < 3:=Nat.mod_lt _ (by omega)
  simp only [Option.bind_some]
  rw [List.getElem?_eq_getElem (by simpa [Go.Proofs.encW] using hm),getElem!_pos _ _ (by simpa [Go.Proofs.encW] using hm)]
 ·rw [List.getElem?_eq_none (by simpa using h),Array.getElem?_toList,Array.getElem?_eq_none (by omega)]; rfl
theorem wrCell {G : Gh} {w : World} {a : Wr} {j : Nat} {c : DV} {v : Value} (hc : a.cells[j]? = some c) (h : VP G w c v) : (Go.Proofs.encW a)[j]? = some v:=by
 match j,hc with
 | 0,hc => simp [Wr.cells] at hc; subst hc; rw [SV.str (d:=0) h]; rfl
 | 1,hc => simp [Wr.cells] at hc; subst hc; cases h; rfl
 | 2,hc => simp [Wr.cells] at hc; subst hc; rw [SV.str (d:=0) h]; rfl
theorem wrCell2 {G : Gh} {w : World} {a : Wr} {j : Nat} {c : DV} {v : Value} (hc : a.cells[j]? = some c) (h : (Go.Proofs.encW a)[j]? = some v) : VP G w c v∧∀ sz xs,c ≠ .sl true sz xs:=by
 match j,hc with
 | 0,hc => simp [Wr.cells] at hc; subst hc; simp [Go.Proofs.encW] at h; subst h; exact ⟨.str _,by simp⟩
 | 1,hc => simp [Wr.cells] at hc; subst hc; simp [Go.Proofs.encW] at h; subst h; exact ⟨.bool _,by simp⟩
 | 2,hc => simp [Wr.cells] at hc; subst hc; simp [Go.Proofs.encW] at h; subst h; exact ⟨.str _,by simp⟩
def SSortF (f : Nat) : Spec:=fun H args K => (∃ own : Bool,args = [.sl own 3 [],.fn f []]∧K H (.tup []))∨∃ (id q : Nat) (l : List Wr) (r : List DV),args = [.hsl id 3 0 l.length q,.fn f []]∧(l ≠ []→H[id]? = some (.cells (flatW l ++ r)))∧l.length < 4611686018427387904∧(l.map (·.key)).Nodup ∧
 (l = []→K H (.tup []))∧(l ≠ []→K (H.set id (.cells (flatW (sortW l) ++ r))) (.tup []))
abbrev SSortW : Spec:=SSortF 134
theorem rcSortF {f : Nat} (hf : Go.Proofs.isCloW f) : RC (loneJ pp) 133 (SSortF f):=by
 refine rc_of_calls ⟨_,Go.Proofs.Tryz.func133,by kernel_rfl,by kernel_rfl⟩ fun N0 w0 d G w H args vs K hS hW hF => ?_
 have fnEq : ∀ y,VP G w (.fn f []) y→y = .func (.func f) #[] #[]:=fun y hy => by
  cases hy with
  | @fn _ _ us h1 h2 =>
   obtain rfl : us = #[]:=Array.eq_empty_of_size_eq_zero h1.symm
   rfl
 rcases hS with ⟨own,rfl,hK⟩ | ⟨id,q,l,r,rfl,hl,hlen,hnd,hK0,hK⟩
 ·have hsz : vs.size = 2:=hF.1.symm
  obtain ⟨x,y,rfl⟩ : ∃ x y,vs = #[x,y]:=by
   match vs,hsz with
   | ⟨[x,y]⟩,_ => exact ⟨x,y,rfl⟩
  have hx : VP G w (.sl own 3 []) x:=hF.2 0 _ _ rfl rfl
  obtain rfl:=fnEq y (hF.2 1 _ _ rfl rfl)
  obtain ⟨p,q,rfl⟩ : ∃ p q,x = .slice p 0 q:=by
   cases hx with
   | sl0 => exact ⟨_,_,rfl⟩
   | sl f h1 h2 h3 h4 h5 h6 => subst h1; exact ⟨_,_,rfl⟩
  refine (Go.Proofs.AnyF.slices_SortFunc_none { Go.Proofs.Tryz.sortW_lay with } p q _ w).mono fun e w' ⟨he,hw⟩ => ?_
  subst he hw
  exact ⟨_,rfl,G,H,.tup [],hK,Ext.refl _ _ _,hW,⟨#[],rfl,rfl,by simp⟩,sown_of_noOwn rfl⟩
 have hsz : vs.size = 2:=hF.1.symm
 obtain ⟨x,y,rfl⟩ : ∃ x y,vs = #[x,y]:=by
  match vs,hsz with
  | ⟨[x,y]⟩,_ => exact ⟨x,y,rfl⟩
 have hx : VP G w (.hsl id 3 0 l.length q) x:=hF.2 0 _ _ rfl rfl
 have hy : VP G w (.fn f []) y:=hF.2 1 _ _ rfl rfl
 obtain rfl:=fnEq y hy
 by_cases hl0 : l = []
 ·subst hl0
  obtain ⟨p,rfl⟩ : ∃ p,x = .slice p 0 q:=by
   cases hx with
   | hsl h1 h2 h3 => exact ⟨_,rfl⟩
   | hsl0 => exact ⟨_,rfl⟩
  refine (Go.Proofs.AnyF.slices_SortFunc_none { Go.Proofs.Tryz.sortW_lay with } p q _ w).mono fun e w' ⟨he,hw⟩ => ?_
  subst he hw
  exact ⟨_,rfl,G,H,.tup [],hK0 rfl,Ext.refl _ _ _,hW,⟨#[],rfl,rfl,by simp⟩,sown_of_noOwn rfl⟩
 have hpos : 0 < l.length:=List.length_pos_iff.2 hl0
 obtain ⟨b,rfl,hb,hq⟩ : ∃ b,x = .slice (some ⟨b,0,none⟩) l.length q∧G.bl id = some b∧l.length≤q:=by
  generalize l.length = n at hx hpos
  cases hx with
  | hsl h1 h2 h3 =>
   rcases h3 with h3 | rfl
   ·omega
   ·exact ⟨_,rfl,h1,h2⟩
  | hsl0 => exact absurd rfl (Nat.ne_of_gt hpos)
 obtain ⟨b',us,e,g1,g2,g3,g4,g5⟩:=hW.objs id _ (hl hl0)
 obtain rfl : b = b':=by rw [hb] at g1; exact Option.some.inj g1
 have hbl : b < w.heap.size:=(Array.getElem?_eq_some_iff.1 g3).1
 have fl : (flatW l).length = l.length * 3:=flat3_len Wr.cells (fun _ => rfl) l
 have hus : l.length * 3 + r.length = us.size:=by rw [← g4,List.length_append,fl]
 have hcell : ∀ j,j < l.length * 3→us[j]? = (l.flatMap Go.Proofs.encW)[j]?:=by
  intro j hj
  have hju : j < us.size:=by omega
  have hj3 : j / 3 < l.length:=by omega
  have h1 : (flatW l)[j]? = (l[j / 3]).cells[j % 3]?:=by
   unfold flatW
   rw [flat3_get Wr.cells (fun _ => rfl),List.getElem?_eq_getElem hj3]; rfl
  have hm : j % 3 < (l[j / 3]).cells.length:=by simp [Wr.cells]; omega
  have h2:=(g5 j ((l[j / 3]).cells[j % 3]) us[j] (by rw [List.getElem?_append_left (by omega),h1,List.getElem?_eq_getElem hm]) (Array.getElem?_eq_getElem hju)).1
  rw [Array.getElem?_eq_getElem hju,flat3_get _ (fun _ => rfl),List.getElem?_eq_getElem hj3,Option.bind_some]
  exact (wrCell (List.getElem?_eq_getElem hm) h2).symm
 have hfl:=flatK_list l.toArray
 have hH : Go.Sort.HoldsK Go.Proofs.encW 3 w b 0 l.toArray:=by
  intro j hj
  rw [Go.Sort.size_flatK] at hj
  have hj2 : j < l.length * 3:=by simpa using hj
  have h1:=hcell j hj2
  have h2 : (Go.Sort.flatK Go.Proofs.encW 3 l.toArray)[j]? = (l.flatMap Go.Proofs.encW)[j]?:=by rw [← Array.getElem?_toList,hfl]
  have h3 : (Go.Sort.flatK Go.Proofs.encW 3 l.toArray)[j]! = (Go.Sort.flatK Go.Proofs.encW 3 l.toArray)[j]'(by simpa using hj):=getElem!_pos _ j (by simpa using hj)
  rw [Array.getElem?_eq_getElem (by simpa using hj)] at h2
  have h4 : us[j]? = some (Go.Sort.flatK Go.Proofs.encW 3 l.toArray)[j]!:=by rw [h1,← h2,h3]
  refine ⟨?_,?_⟩
  ·unfold World.cell?
   simp only [g3,Option.isSome_none,Bool.false_eq_true,if_false,Nat.zero_add]
   simpa using h4
  ·unfold World.frozen?
   simp [g3]
 have ent : Go.Proofs.Enters Go.Proofs.Tryz.prog f:=by
  rcases hf with rfl | rfl
  ·exact Go.Proofs.enters_of Go.Proofs.Tryz.func134 (by kernel_rfl) rfl
  ·exact Go.Proofs.enters_of Go.Proofs.Tryz.func151 (by kernel_rfl) rfl
 have hcon:=Go.Proofs.AnyQ.slices_SortFunc Go.Proofs.Tryz.sortW_lay 3 Go.Proofs.Tryz.isAgg32 Go.Proofs.Tryz.sizeOf32 Go.Proofs.encW (fun _ => rfl) (fun x v hv => by simp [Go.Proofs.encW] at hv; rcases hv with rfl | rfl | rfl <;> rfl) (fun x y => cmpS x.key y.key) Go.Proofs.swoW f #[] b 0 q l.toArray w ent (Go.Proofs.cmpLaysW hf b 0 l.toArray.size w) hH hbl (by simpa using hlen)
 refine Calls.mono (P:=Go.Proofs.Tryz.prog) hcon fun e2 w' ⟨he,d',n,os,hp,hs,hw⟩ => ?_
 have hds : d'.size = l.length:=by have:=hp.1; simpa using this
 have hp2 : d'.toList.Perm l:=by
  obtain ⟨hsz,_,hperm⟩:=hp
  have e1 : d'.extract 0 l.toArray.size = d':=by rw [← hsz]; exact Array.extract_size
  rw [e1,Array.extract_size] at hperm
  exact hperm
 have hso : SortedW d'.toList:=List.pairwise_iff_getElem.2 fun i j hi hj hij => by
  have hi' : i < d'.size:=by simpa using hi
  have hj' : j < d'.size:=by simpa using hj
  have:=hs i j (Nat.zero_le _) hij (by simp; omega)
  rw [getElem!_pos d' j hj',getElem!_pos d' i hi'] at this
  simp only [Go.Proofs.ltOf,decide_eq_false_iff_not] at this
  simpa using this
 have hd : d'.toList = sortW l:=sortW_unique (hp2.trans (sortW_perm l).symm) hso (sortW_sorted l) ((hp2.map _).nodup_iff.2 hnd)
 have hfl2:=flatK_list d'
 rw [hd] at hfl2
 have hsl : (sortW l).length = l.length:=(sortW_perm l).length_eq
 generalize hw1 : Go.Sort.putRowK Go.Proofs.encW 3 (Go.Sort.ahead w n) b 0 d' = w1 at *
 have hw2 : w' = Go.Sort.grow w1 os:=by rw [hw,← hw1]; rfl
 have hb1 : w1.heap[b]? = some (.cells (Go.Sort.putCells _root_.id 0 (Go.Sort.flatK Go.Proofs.encW 3 d') us) e (0,0)):=by
  rw [← hw1]
  simp only [Go.Sort.putRowK,Go.Sort.putRow,Go.Sort.mapBlock,Go.Sort.ahead]
  rw [Array.getElem?_modify,if_pos rfl,g3]
  rfl
 have hm : Mod b G w G w1:=by
  rw [← hw1]
  refine ⟨rfl,rfl,rfl,?_,hbl,fun x hx => ⟨?_,rfl⟩,rfl,rfl,⟨fun x o v h => ?_,fun _ _ h => h⟩⟩
  ·simp [Go.Sort.putRowK,Go.Sort.putRow,Go.Sort.mapBlock,Go.Sort.ahead]
  ·simp [Go.Sort.putRowK,Go.Sort.putRow,Go.Sort.mapBlock,Go.Sort.ahead,Array.getElem?_modify,Ne.symm hx]
  ·have hne : x ≠ b:=by rintro rfl; exact not_still_obj _ _ (g2 ▸ h.1)
   refine ⟨h.1,?_⟩
   have:=h.2
   rw [Go.Sort.cell?_putRowK_other _ _ _ _ _ _ _ hne]
   exact this
 have hput : ∀ j v,(Go.Sort.putCells _root_.id 0 (Go.Sort.flatK Go.Proofs.encW 3 d') us)[j]? = some v→(j < l.length * 3∧((sortW l).flatMap Go.Proofs.encW)[j]? = some v)∨(l.length * 3≤j∧us[j]? = some v):=by
  intro j v hv
  unfold Go.Sort.putCells at hv
  rw [Array.getElem?_mapIdx] at hv
  obtain ⟨u,hu,hv⟩:=Option.map_eq_some_iff.1 hv
  rw [Go.Sort.size_flatK,hds] at hv
  by_cases h : j < l.length * 3
  ·rw [if_pos ⟨by omega,by omega⟩] at hv
   refine .inl ⟨h,?_⟩
   rw [← hfl2,Array.getElem?_toList,Array.getElem?_eq_getElem (by simpa [hds] using h)]
   rw [Nat.sub_zero,getElem!_pos _ j (by simpa [hds] using h)] at hv
   exact congrArg some hv
  ·rw [if_neg (by omega)] at hv
   exact .inr ⟨by omega,by rw [hu,hv]⟩
 have fl2 : (flatW (sortW l)).length = l.length * 3:=by rw [show (flatW (sortW l)).length = (sortW l).length * 3 from flat3_len Wr.cells (fun _ => rfl) _,hsl]
 have hnarr : ∀ o wm,G.role b ≠ .arr o wm:=fun o wm h => by rw [g2] at h; cases h
 have hW1 : WRel N0 w0 G w1 (H.set id (.cells (flatW (sortW l) ++ r))):=by
  refine hW.mod hm (by rw [g2]; exact ⟨by simp,by simp⟩) (by simp) fun i ob hi => ?_
  by_cases e' : i = id
  ·subst e'
   have hil : i < H.length:=by simpa using (List.getElem?_eq_some_iff.1 hi).1
   rw [List.getElem?_set_self hil] at hi
   obtain rfl:=Option.some.inj hi
   refine ⟨b,_,e,hb,g2,hb1,by rw [List.length_append,fl2,hus]; simp [Go.Sort.putCells],fun j c v hc hv => ?_⟩
   rcases hput j v hv with ⟨hj,h⟩ | ⟨hj,h⟩
   ·have hj3 : j / 3 < (sortW l).length:=by omega
    rw [List.getElem?_append_left (by omega)] at hc
    unfold flatW at hc
    rw [flat3_get Wr.cells (fun _ => rfl),List.getElem?_eq_getElem hj3] at hc
    rw [flat3_get _ (fun _ => rfl),List.getElem?_eq_getElem hj3] at h
    obtain ⟨k1,k2⟩:=wrCell2 (G:=G) (w:=w1) hc h
    exact ⟨k1,fun sz xs e => absurd e (k2 sz xs)⟩
   ·rw [List.getElem?_append_right (by omega),fl2] at hc
    have:=g5 j c v (by rw [List.getElem?_append_right (by omega),fl]; exact hc) h
    exact ⟨this.1.keep hm.keep,this.2.mod hm (hnarr _)⟩
  ·rw [List.getElem?_set_ne (Ne.symm e')] at hi
   exact (hW.objs i ob hi).mod hm (fun h => e' (by rw [g2] at h; exact (Role.obj.inj h).symm)) (fun _ _ => hnarr _ _)
 have hn : Neu G w1 G w':=by
  rw [hw2]
  refine ⟨rfl,rfl,rfl,by simp [Go.Sort.grow],fun x hx => ⟨?_,rfl⟩,rfl,rfl,fun h x hx => h x ?_⟩
  ·simp [Go.Sort.grow,Array.getElem?_append_left hx]
  ·simp [Go.Sort.grow] at hx; omega
 subst he
 exact ⟨_,rfl,G,_,.tup [],hK hl0,(hm.ext _ (fun _ _ _ h => by rw [g2] at h; cases h) (fun _ _ _ => hnarr _ _)).trans (hn.ext hW1.fresh _),hW1.neu hn,⟨#[],rfl,rfl,by simp⟩,sown_of_noOwn rfl⟩
theorem rcSortW : RC (loneJ pp) 133 SSortW:=rcSortF (.inl rfl)
end Go.Ab.En

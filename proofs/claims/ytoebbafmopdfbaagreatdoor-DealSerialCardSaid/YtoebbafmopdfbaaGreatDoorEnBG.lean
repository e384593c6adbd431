/- A part of the proof; no condition of its own. -/
import Derived.Test.YtoebbafmopdfbaaGreatDoorEnBD
set_option linter.unusedSimpArgs false
set_option linter.unusedVariables false
/- EnBE: The engine's laws: what a road of few batches keeps. -/
namespace Go.Ab.En
open Go Go.Conc Go.RowKit Go.Ab
theorem usedF_set {nm u v : Str} : ∀ {fs : Files},getF fs nm = some v→usedF (setF nm u fs) + v.length = usedF fs + u.length
 | [],h => by simp [getF] at h
 | (x,y) :: r,h => by
  simp only [getF] at h
  simp only [setF,usedF]
  split at h
  ·rename_i e
   obtain rfl:=Option.some.inj h
   rw [if_pos e]
   simp only [usedF]; omega
  ·rename_i e
   rw [if_neg e]
   have:=usedF_set (u:=u) h
   simp only [usedF]; omega
theorem getF_set (nm u : Str) : ∀ fs : Files,getF (setF nm u fs) nm = some u
 | [] => by simp [setF,getF]
 | (x,y) :: r => by
  simp only [setF]
  split
  ·simp [getF]
  ·rename_i e; simp [getF,e,getF_set nm u r]
structure EngS.Good (E : EngS) (m : Nat) : Prop where
 seq : E.seq = m
 log : E.log = 1
 file : (getF E.now (fileF logN 1)).isSome = true
 used : usedF E.now≤100 + 2500 * m
 room : E.room = 1000000
 acts : E.acts.length≤10 + m
 len : E.es.length≤8 * m
 old : ∀ x∈E.es,x.seq≤m
theorem EngS.Good.fit {E : EngS} {m : Nat} (h : E.Good m) (hm : m < 300) : E.Fit:=by
 have h1:=h.used
 have h2:=h.acts
 have h3:=h.len
 exact ⟨by rw [h.seq]; omega,by rw [h.log]; omega,by omega,by rw [h.room]; omega,by rw [h.room]; omega,by omega,by omega,fun x hx => by rw [h.seq]; exact h.old x hx⟩
theorem EngS.Good.add {E : EngS} {m : Nat} (h : E.Good m) (hm : m < 300) {ws : List Wr} (hb : isBatch ws = true) : addC E.now E.room (fileF logN E.log) (E.bat ws) = 0:=by
 have h1:=h.used
 have h2:=batchB_len (n:=E.seq + 1) hb
 have e : E.log = 1:=h.log
 rw [e]
 unfold addC EngS.bat
 rw [if_neg (by rw [h.file]; simp),if_neg]
 rw [h.room]
 omega
theorem EngS.Good.does {E : EngS} {m : Nat} (h : E.Good m) {ws : List Wr} (hb : isBatch ws = true) (keep : Bool) (S' : List Nat) (k' : Nat) : (doE E ws keep S' k').Good (m + 1):=by
 have h1:=h.used
 have h2:=batchB_len (n:=E.seq + 1) hb
 have e : E.log = 1:=h.log
 obtain ⟨v,hv⟩:=Option.isSome_iff_exists.1 h.file
 have hd : doesF (E.act ws) E.now = setF (fileF logN 1) (v ++ E.bat ws) E.now:=by
  unfold EngS.act doesF
  rw [e]
  simp [hv]
 have hu:=usedF_set (u:=v ++ E.bat ws) hv
 rw [List.length_append] at hu
 have hw : ws.length≤8:=by
  simp only [isBatch,Bool.and_eq_true,decide_eq_true_eq] at hb
  omega
 refine ⟨by simp only [doE]; rw [h.seq],h.log,by simp only [doE]; rw [hd,getF_set]; rfl,?_,h.room,?_,?_,?_⟩
 ·simp only [doE]; rw [hd]; unfold EngS.bat at hu ⊢; omega
 ·have:=h.acts
  simp only [doE]
  split
  ·simp
  ·simp; omega
 ·simp only [doE]
  rw [fold_len]
  have:=h.len
  simp only [entsB,List.length_map]; omega
 ·intro x hx
  simp only [doE] at hx
  rcases fold_mem.1 hx with hx | hx
  ·obtain ⟨w,_,rfl⟩:=List.mem_map.1 hx
   simp only []
   rw [h.seq]; omega
  ·have:=h.old x hx; omega
theorem NewE.good {E : EngS} {sid n : Nat} (h : NewE E sid n 1000000) : E.Good 0:=by
 obtain ⟨_,⟨e1,_,e2,e3⟩,⟨e4,e5,e6⟩,_⟩:=h
 refine ⟨e5,e6,by rw [e1,log1]; decide +kernel,?_,e3,by rw [e2]; simp,by rw [e4]; simp,by rw [e4]; simp⟩
 rw [e1]
 have:=editB_len 1 0
 simp [newF,usedF]; omega
theorem EngS.At.sorted {E : EngS} {H : List HObj} (h : E.At H) : Sorted E.es:=by
 obtain ⟨id,cap,b,_,_,_,_,_,_,h7⟩:=h.heap
 exact h7
theorem doE_all {E : EngS} {ws : List Wr} {keep : Bool} {S' : List Nat} {k' N : Nat} (hS : ∀ x∈S',x∈E.S∨N≤x) (hk : k' = E.k∨N≤k') : ∀ x∈(doE E ws keep S' k').all,x∈E.all∨N≤x:=by
 intro x hx
 rcases List.mem_append.1 hx with hx | hx
 ·simp only [EngS.parts,doE,List.mem_cons,List.not_mem_nil,or_false] at hx
  rcases hx with rfl | rfl | rfl | rfl | rfl | rfl | rfl
  all_goals first
   | (left; simp [EngS.all,EngS.parts]; done)
   | skip
  rcases hk with rfl | hk
  ·left; simp [EngS.all,EngS.parts]
  ·exact .inr hk
 ·rcases hS x hx with h | h
  ·exact .inl (List.mem_append_right _ h)
  ·exact .inr h
end Go.Ab.En
/- EnBF: The engine's laws: what SnapRanges tells,in plain words. -/
namespace Go.Ab.En
open Go Go.Conc Go.RowKit Go.Ab
def ws0 : List Wr:=[⟨[99],false,[49]⟩,⟨[102],false,[49]⟩,⟨[104],false,[49]⟩]
def es0 : List Ent:=(entsB 1 ws0).foldl putE []
def wrC (k : Str) (del same : Bool) : Wr:=⟨k,del,if del then [] else if same then [49] else [50]⟩
def es1 (k : Str) (del same : Bool) : List Ent:=(entsB 2 [wrC k del same]).foldl putE es0
end Go.Ab.En
/- EnBG: The engine's laws: the engine's and the snaps' contracts,as the laws use them. -/
namespace Go.Ab.En
open Go Go.Conc Go.RowKit Go.Ab
section
variable {H : List HObj} {K : List HObj→DV→Prop} {E : EngS} {x m s : Nat} {n : Int}
theorem appDoX {v : DV} {keep : Bool} (ws : List Wr) (hx : E.x = x) (h1 : E.At H) (hg : E.Good m) (hm : m < 300) (hv : RowW H v ws) (hl : ws.length < 1000000) (hb : isBatch (neatW ws) = true)
  (h : ∀ H' (E' : EngS),Fr E.all H H'→E'.x = x→E'.At H'→E'.Good (m + 1)→E'.es = (entsB ((m + 1 : Nat) : Int) (neatW ws)).foldl putE E.es→E'.held = E.held→(∀ y∈E'.all,y∈E.all∨H.length≤y)→K H' (.tup [.int .i64 ((m + 1 : Nat) : Int),.int .i64 0])) : app SDo H [.ptr x 0,v,.bool keep] K:=by
 subst hx
 have hs:=hg.seq
 refine ⟨E,v,ws,keep,rfl,h1,hg.fit hm,hv,hl,fun h0 => ?_,fun _ _ H' S' k' f hS hk a => ?_,fun _ h0 => absurd (hg.add hm hb) h0⟩
 ·rw [hb] at h0; cases h0
 ·rw [hs]
  refine h H' (doE E (neatW ws) keep S' k') f rfl a (hg.does hb keep S' k') ?_ rfl (doE_all hS hk)
  simp only [doE]; rw [hs]
theorem EngS.Good.held {held' : List (DV × DV)} (hg : E.Good m) : EngS.Good { E with held:=held' } m:=⟨hg.seq,hg.log,hg.file,hg.used,hg.room,hg.acts,hg.len,hg.old⟩
theorem appOfX {hd : Hd} (hx : E.x = x) (h1 : E.At H) (hg : E.Good m) (hh : E.held = encI hd) (c0 : 0≤cntI hd m) (c1 : cntI hd m < 1000000000)
  (h : ∀ H' (E' : EngS) s,Fr E.all H H'→E'.x = x→E'.At H'→E'.Good m→E'.es = E.es→E'.held = encI (holdH hd m)→E'.all = E.all→SnapAt H' s x m false→H.length≤s→s < H'.length→K H' (.ptr s 0)) : app SOf H [.ptr x 0] K:=by
 subst hx
 have hs:=hg.seq
 refine ⟨E,hd,rfl,h1,hh,by rw [hs]; exact c0,by rw [hs]; exact c1,fun H' s f a sn hl => ?_⟩
 rw [hs] at sn
 exact h H' { E with held:=encI (holdH hd E.seq) } s (f.mono fun j _ hj => by simp at hj; subst hj; simp [EngS.all,EngS.parts]) rfl a hg.held rfl (by rw [hs]) rfl sn hl (List.getElem?_eq_some_iff.1 sn).1
theorem appSnGetX {k : Str} (hx : E.x = x) (h0 : SnapAt H s x n false) (h1 : E.At H) (hg : E.Good m) (hm : m < 300)
  (h : ∀ H' v,Fr [] H H'→((seenE E.es k (min n m)).isSome = true→seenE E.es k (min n m) = some v)→K H' (.tup [.str v,.bool (seenE E.es k (min n m)).isSome,.int .i64 0])) : app SSnGet H [.ptr s 0,.str k] K:=by
 subst hx
 rw [← hg.seq] at h
 exact appSnGet0 h0 h1 (by have:=hg.len; omega) h
theorem appSnScanX {a b : Str} (hx : E.x = x) (h0 : SnapAt H s x n false) (h1 : E.At H) (hg : E.Good m) (hm : m < 300)
  (h : ∀ H',Fr [] H H'→K H' (.tup [.sl false 2 ((scanE E.es a b (min n m)).map prD),.int .i64 0])) : app SSnScan H [.ptr s 0,.str a,.str b] K:=by
 subst hx
 rw [← hg.seq] at h
 exact appSnScan0 h0 h1 (by have:=hg.len; omega) h1.sorted h
theorem appSnChgX {k : Str} (hx : E.x = x) (h0 : SnapAt H s x n false) (h1 : E.At H) (hg : E.Good m) (hm : m < 300)
  (h : ∀ H',Fr [] H H'→K H' (.tup [.bool (!decide (seenE E.es k (min n m) = seenE E.es k m)),.int .i64 0])) : app SSnChg H [.ptr s 0,.str k] K:=by
 subst hx
 rw [← hg.seq] at h
 exact ⟨E,s,n,false,k,rfl,h0,h1,by have:=hg.len; omega,(by intro h; cases h),fun _ => h⟩
theorem appSnMovX {a b : Str} (hx : E.x = x) (h0 : SnapAt H s x n false) (h1 : E.At H) (hg : E.Good m) (hm : m < 300)
  (h : ∀ H',Fr [] H H'→K H' (.tup [.bool (!decide (scanE E.es a b (min n m) = scanE E.es a b m)),.int .i64 0])) : app SSnMov H [.ptr s 0,.str a,.str b] K:=by
 subst hx
 rw [← hg.seq] at h
 exact ⟨E,s,n,false,a,b,rfl,h0,h1,by have:=hg.len; omega,h1.sorted,(by intro h; cases h),fun _ => h⟩
theorem appSnCloseX {hd : Hd} (hx : E.x = x) (h0 : SnapAt H s x n false) (h1 : E.At H) (hg : E.Good m) (hs : s ∉ E.all) (hh : E.held = encI hd) (c0 : 0≤cntI hd n) (c1 : cntI hd n < 1000000000)
  (h : ∀ H' (E' : EngS),Fr (E.all ++ [s]) H H'→E'.x = x→E'.At H'→E'.Good m→E'.es = E.es→E'.held = encI (freeH hd n)→E'.all = E.all→SnapAt H' s x n true→K H' (.tup [])) : app SSnClose H [.ptr s 0] K:=by
 subst hx
 refine ⟨E,hd,s,n,false,rfl,h0,h1,hs,hh,c0,c1,(by intro h; cases h),fun _ H' f a sn => ?_⟩
 exact h H' { E with held:=encI (freeH hd n) } (f.mono fun j _ hj => by simp at hj; rcases hj with rfl | rfl <;> simp [EngS.all,EngS.parts]) rfl a hg.held rfl rfl rfl sn
theorem appMadeX {sid k n : Nat} {kept : Files} {room : Int} (h1 : ShelfAt H sid k n kept [] [] room) (hr : room = 1000000) (h : ∀ H' (E : EngS),Fr [sid,n] H H'→E.At H'→E.Good 0→E.es = []→E.held = encI []→K H' (.tup [.ptr E.x 0,.int .i64 0])) : app SMade H [.ptr sid 0] K:=by
 subst hr
 exact ⟨sid,k,n,kept,1000000,rfl,h1,by decide,by decide,fun H' E f e a => h H' E f a e.good e.e3.1 (by rw [e.e4.2.2.2]; rfl)⟩
end
end Go.Ab.En

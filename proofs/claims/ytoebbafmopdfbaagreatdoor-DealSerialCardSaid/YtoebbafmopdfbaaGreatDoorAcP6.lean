/- A part of the proof; no condition of its own. -/
import Derived.Test.YtoebbafmopdfbaaGreatDoorAcP5
set_option linter.unusedSimpArgs false
set_option linter.unusedVariables false
/- AcP6: Each operation,on: maps. -/
namespace Go.Ab
open Go Go.Conc Go.RowKit
variable {P : Program} {isObj : ObjT} {N0 : Nat} {w0 : World} {d : Nat} {G : Gh} {w : World} {st : St} {a : Act} {K : St→Prop}
theorem Rel.setMap {tmps : Array Value} (h : Rel N0 w0 d G w st tmps) {id b : Nat} {es es' : List (DV × DV)} {ms ms' : Array MapEntry} {ck ck' : Nat} (ho : st.H[id]? = some (.map es)) (hb : G.bl id = some b) (hw : w.heap[b]? = some (.map ms ck)) (hm' : MapRel G w es' ms' ck') :
  Rel N0 w0 d G (w.setO b (.map ms' ck')) (st.setH id (.map es')) tmps∧Ext d G w G (w.setO b (.map ms' ck')):=by
 obtain ⟨b',ms0,ck0,h1,h2,h3,h4⟩:=h.heap.objs _ _ ho
 obtain rfl : b = b':=by rw [hb] at h1; exact Option.some.inj h1
 have hm : Mod b G w G (w.setO b (.map ms' ck')):=Mod.setO hw (by rw [h2]; exact not_still_obj id)
 have hno : ∀ o wm,G.role b ≠ .arr o wm:=by intro o wm; rw [h2]; simp
 refine ⟨⟨h.len,fun s dv v hs hv => ⟨(h.slots s dv v hs hv).1.mod hm,(h.slots s dv v hs hv).2.mod hm fun i j => hno _⟩,fun s g cs' hbx => ?_,h.nobox,fun t p v hlk ht => ?_,h.heap.mod hm (by rw [h2]; simp) (by simp [St.setH]) fun id' ob hob => ?_⟩,
  hm.ext d (by intro e s _; rw [h2]; simp) (by intro o wm _; rw [h2]; simp)⟩
 ·obtain ⟨b',vs',e',a1,a2,a3,a4⟩:=h.boxes s g cs' hbx
  have hne : b' ≠ b:=by rintro rfl; rw [h2] at a2; cases a2
  exact ⟨b',vs',e',a1,a2,hm.heap hne a3,a4.mod hm fun j => hno _⟩
 ·simp only [St.setH,List.mem_filter] at hlk
  refine posVal_mod hm (h.links t p v hlk.1 ht) (fun _ _ => rfl) ?_
  cases p with
  | slot s i => trivial
  | box s' g' o => rintro x hx hr rfl; rw [h2] at hr; cases hr
  | hp i o =>
   rintro x hx hr rfl
   rw [h2] at hr
   cases hr
   simp [Pos.inHp] at hlk
 ·simp only [St.setH] at hob
  by_cases e : id = id'
  ·subst e
   rw [List.getElem?_set] at hob
   simp only [if_true] at hob
   split at hob
   ·cases hob
    refine ⟨b,ms',ck',hb,h2,?_,hm'.1,fun i e m he hm2 => ⟨(hm'.2.1 i e m he hm2).1.keep hm.keep,(hm'.2.1 i e m he hm2).2.1.keep hm.keep,(hm'.2.1 i e m he hm2).2.2⟩,hm'.2.2⟩
    simp [World.setO,lt_of_heap hw]
   ·cases hob
  ·rw [List.getElem?_set_ne e] at hob
   exact (h.heap.objs id' ob hob).mod hm (by rw [h2]; simp; exact e) fun j => hno _
theorem keyEq_same {k x : DV} {vk vx : Value} (h : keyEq k x = some true) (hk : VP G w k vk) (hx : VP G w x vx) : vk = vx∧k = x:=by
 unfold keyEq at h
 split at h
 ·split at h
  ·rename_i hkk
   subst hkk
   simp at h
   subst h
   cases hk; cases hx
   exact ⟨rfl,rfl⟩
  ·cases h
 ·simp at h
  subst h
  cases hk; cases hx
  exact ⟨rfl,rfl⟩
 ·cases h
theorem findNow_idx {ds : TypeDesc} {k : DV} {vk : Value} : ∀ (es : List (DV × DV)) (ms : List MapEntry) (i : Nat),es.length = ms.length →
  (∀ (j : Nat) (e : DV × DV) (m : MapEntry),es[j]? = some e→ms[j]? = some m→Instr.sameNow ds vk m.key = keyEq k e.1) →
  (match findKeyD k es with
   | some (some v) => ∃ j x,Instr.findNow ds vk ms i = some (some (i + j,x))∧j < es.length∧(∃ e,es[j]? = some e∧keyEq k e.1 = some true)∧(∀ u,mapSet k u es = es.set j (k,u))∧mapDel k es = es.eraseIdx j
   | some none => Instr.findNow ds vk ms i = some none∧(∀ u,mapSet k u es = es ++ [(k,u)])∧mapDel k es = es
   | none => True)
 | [],ms,i,hl,_ => by
  match ms,hl with
  | [],_ => exact ⟨rfl,fun _ => rfl,rfl⟩
 | (x,u) :: er,ms,i,hl,hs => by
  match ms,hl with
  | m :: mr,hl =>
   have h0 : Instr.sameNow ds vk m.key = keyEq k x:=hs 0 (x,u) m rfl rfl
   have ih:=findNow_idx er mr (i + 1) (by simpa using hl) (fun j e m' a b => hs (j + 1) e m' (by simpa using a) (by simpa using b))
   simp only [findKeyD]
   cases hk : keyEq k x with
   | none => trivial
   | some t =>
    cases t with
    | true =>
     simp only []
     exact ⟨0,m.val,by simp [Instr.findNow,h0,hk],by simp,⟨(x,u),rfl,hk⟩,fun v => by simp [mapSet,hk],by simp [mapDel,hk]⟩
    | false =>
     simp only []
     cases hf : findKeyD k er with
     | none => trivial
     | some r =>
      rw [hf] at ih
      cases r with
      | none =>
       obtain ⟨a1,a2,a3⟩:=ih
       exact ⟨by simp [Instr.findNow,h0,hk,a1],fun v => by simp [mapSet,hk,a2],by simp [mapDel,hk,a3]⟩
      | some v =>
       obtain ⟨j,y,a1,a2,a3,a4,a5⟩:=ih
       refine ⟨j + 1,y,?_,by simp; omega,by simpa using a3,fun v => by simp [mapSet,hk,a4],by simp [mapDel,hk,a5]⟩
       simp only [Instr.findNow,h0,hk]
       rw [a1]
       congr 3
       omega
theorem sameNow_keyEq {kt : TypeId} {k : DV} {vk : Value} (hk : VP G w k vk) (ht : keyT P kt k) : ∃ ds,P.underlying kt = some ds∧∀ (x : DV) (vx : Value),VP G w x vx→(keyEq k x).isSome = true→Instr.sameNow ds vk vx = keyEq k x:=by
 unfold keyT at ht
 split at ht
 ·rename_i s hu
  cases hk
  refine ⟨_,hu,fun x vx hx hs => ?_⟩
  cases x <;> simp [keyEq] at hs
  cases hx
  simp only [Instr.sameNow,keyEq]
  rw [byteBeq]
 ·rename_i j j' n hu
  subst ht
  cases hk
  refine ⟨_,hu,fun x vx hx hs => ?_⟩
  cases x <;> simp [keyEq] at hs
  subst hs
  cases hx
  simp only [Instr.sameNow,keyEq,if_true]
  congr 1
 ·exact ht.elim
theorem findKeyD_isSome {k : DV} : ∀ {es : List (DV × DV)},(es.all fun e => (keyEq k e.1).isSome) = true→∃ r,findKeyD k es = some r
 | [],_ => ⟨none,rfl⟩
 | (x,u) :: r,h => by
  simp only [List.all_cons,Bool.and_eq_true] at h
  obtain ⟨h1,h2⟩:=h
  obtain ⟨t,ht⟩:=Option.isSome_iff_exists.1 h1
  obtain ⟨q,hq⟩:=findKeyD_isSome h2
  simp only [findKeyD,ht]
  cases t with
  | true => exact ⟨_,rfl⟩
  | false => exact ⟨_,hq⟩
theorem mapUpd_sound {tmps : Array Value} (hR : Rel N0 w0 d G w st tmps) {mt : TypeId} {m k v : DV} {vm vk vv : Value} (hm : SV G w d m vm) (hk : VP G w k vk) (hv : SV G w d v vv) (h : mapUpdD P st mt m k v K) :
  ∃ w' st',(Instr.mapUpdate mt vm vk vv).run P w = .ok () w'∧K st'∧Rel N0 w0 d G w' st' tmps∧Ext d G w G w':=by
 unfold mapUpdD at h
 split at h
 ·rename_i kt et hu
  obtain ⟨ht,h⟩:=h
  split at h
  ·rename_i id
   obtain ⟨b,hb,rfl⟩:=hm.map
   split at h
   ·rename_i es ho
    obtain ⟨hall,hvv,h⟩:=h
    obtain ⟨b',ms,ck,h1,h2,h3,h4,h5,h6⟩:=hR.heap.objs _ _ ho
    obtain rfl : b = b':=by rw [hb] at h1; exact Option.some.inj h1
    have hg : (getObj b).run P w = .ok (.map ms ck) w:=by simp [getObj,Sem.run,h3]
    have hso : ∀ o,(setObj b o).run P w = .ok () (w.setO b o):=by intro o; simp [setObj,Sem.run,h3,World.setO]
    have hvp : VP G w v.ro vv:=by
     cases v <;> first | exact False.elim hvv | exact VP.ro hv
    obtain ⟨ds,hds,hsame⟩:=sameNow_keyEq (P:=P) hk ht
    have hkeys : ∀ (j : Nat) (e : DV × DV) (m : MapEntry),es[j]? = some e→ms.toList[j]? = some m→Instr.sameNow ds vk m.key = keyEq k e.1:=by
     intro j e m he hme
     rw [List.all_eq_true] at hall
     exact hsame e.1 m.key (h5 j e m he (by simpa using hme)).1 (hall e (List.mem_of_getElem? he))
    have hfn:=findNow_idx es ms.toList 0 (by simpa using h4) hkeys
    obtain ⟨r,hr⟩:=findKeyD_isSome hall
    rw [hr] at hfn
    have hck:=dlookup_key (P:=P) (w:=w) hk ht 9999 false
    cases r with
    | some x =>
     obtain ⟨j,y,f1,f2,⟨e,f3,f4⟩,f5,f6⟩:=hfn
     have hj : j < ms.size:=by rw [← h4]; exact f2
     have hkk:=keyEq_same f4 hk (h5 j e ms[j] f3 (by simp [hj])).1
     have hkey : ((ms[j]?).map (·.key)).getD vk = vk:=by simp [hj,hkk.1]
     have hst : (Instr.keyThatStays vk vk).run P w = .ok vk w:=by
      have : Instr.sameBits 10000 vk vk = true:=by
       unfold keyT at ht
       split at ht
       ·cases hk; simp [Instr.sameBits,byteBeq]
       ·subst ht; cases hk; simp [Instr.sameBits,byteBeq]
       ·exact ht.elim
      simp [Instr.keyThatStays,this]
     have hrun : (Instr.mapUpdate mt (.map (some b)) vk vv).run P w = .ok () (w.setO b (.map (ms.modify j fun e => { e with key:=vk,val:=vv }) ck)):=by
      have hf : (Instr.findKey kt vk ms.toList).run P w = .ok (some (j,y)) w:=by simp [Instr.findKey,run_underlying hds,f1]
      simp only [Instr.mapUpdate,Sem.run_bind,run_underlying hu,Result.andThen_ok,hg,hck,hf,hkey,hst,hso]
     have hnew:=hR.setMap (es':=mapSet k v.ro es) (ms':=ms.modify j fun e => { e with key:=vk,val:=vv }) (ck':=ck) ho hb h3 (by
      rw [f5]
      refine ⟨by simpa using h4,fun i e' m' he hm' => ?_,fun i1 i2 m1 m2 hm1 hm2 hb' => ?_⟩
      ·rw [Array.getElem?_modify] at hm'
       by_cases e0 : j = i
       ·subst e0
        rw [List.getElem?_set_self f2] at he
        simp only [if_true] at hm'
        cases he
        simp [hj] at hm'
        subst hm'
        exact ⟨hk,hvp,(h5 j e ms[j] f3 (by simp [hj])).2.2⟩
       ·rw [List.getElem?_set_ne e0] at he
        rw [if_neg e0] at hm'
        exact h5 i e' m' he hm'
      ·have key : ∀ (i : Nat) (m' : MapEntry),(ms.modify j fun e => { e with key:=vk,val:=vv })[i]? = some m'→∃ m0 : MapEntry,ms[i]? = some m0∧m0.born = m'.born:=by
        intro i m' hm'
        rw [Array.getElem?_modify] at hm'
        split at hm'
        ·obtain ⟨m0,hm0,rfl⟩:=Option.map_eq_some_iff.1 hm'
         exact ⟨m0,hm0,rfl⟩
        ·exact ⟨m',hm',rfl⟩
       obtain ⟨a1,b1,c1⟩:=key i1 m1 hm1
       obtain ⟨a2,b2,c2⟩:=key i2 m2 hm2
       exact h6 i1 i2 a1 a2 b1 b2 (by rw [c1,c2]; exact hb'))
     exact ⟨_,_,hrun,h,hnew.1,hnew.2⟩
    | none =>
     obtain ⟨f1,f2,f3⟩:=hfn
     have hrun : (Instr.mapUpdate mt (.map (some b)) vk vv).run P w = .ok () (w.setO b (.map (ms.push { key:=vk,val:=vv,born:=ck }) (ck + 1))):=by
      have hf : (Instr.findKey kt vk ms.toList).run P w = .ok none w:=by simp [Instr.findKey,run_underlying hds,f1]
      simp only [Instr.mapUpdate,Sem.run_bind,run_underlying hu,Result.andThen_ok,hg,hck,hf,hso]
     have hnew:=hR.setMap (es':=mapSet k v.ro es) (ms':=ms.push { key:=vk,val:=vv,born:=ck }) (ck':=ck + 1) ho hb h3 (by
      rw [f2]
      refine ⟨by simp [h4],fun i e' m' he hm' => ?_,fun i1 i2 m1 m2 hm1 hm2 hb' => ?_⟩
      ·rw [List.getElem?_append] at he
       rw [Array.getElem?_push] at hm'
       split at he
       ·rename_i hlt
        rw [if_neg (by omega)] at hm'
        obtain ⟨q1,q2,q3⟩:=h5 i e' m' he hm'
        exact ⟨q1,q2,by omega⟩
       ·rename_i hlt
        have : i = es.length:=by
         have:=(List.getElem?_eq_some_iff.1 he).1
         simp at this
         omega
        subst this
        simp at he
        subst he
        rw [if_pos h4] at hm'
        cases hm'
        exact ⟨hk,hvp,by simp⟩
      ·rw [Array.getElem?_push] at hm1 hm2
       have hlt : ∀ (i : Nat) (m : MapEntry),ms[i]? = some m→m.born < ck:=by
        intro i m hm
        have hi : i < es.length:=by rw [h4]; exact (Array.getElem?_eq_some_iff.1 hm).1
        exact (h5 i es[i] m (by simp [hi]) hm).2.2
       split at hm1
       ·split at hm2
        ·omega
        ·cases hm1
         have:=hlt _ _ hm2
         simp at hb'; omega
       ·split at hm2
        ·cases hm2
         have:=hlt _ _ hm1
         simp at hb'; omega
        ·exact h6 i1 i2 m1 m2 hm1 hm2 hb')
     exact ⟨_,_,hrun,h,hnew.1,hnew.2⟩
   ·exact h.elim
  ·exact h.elim
 ·exact h.elim
theorem mapDel_sound {tmps : Array Value} (hR : Rel N0 w0 d G w st tmps) {mt t2 ty : TypeId} {m k : DV} {vm vk : Value} (hm : SV G w d m vm) (hk : VP G w k vk) (h : mapDelD P st mt m k K) :
  ∃ w' st',(Builtin.delete_ #[mt,t2] ty #[vm,vk]).run P w = .ok (.tuple #[]) w'∧K st'∧Rel N0 w0 d G w' st' tmps∧Ext d G w G w':=by
 unfold mapDelD at h
 split at h
 ·rename_i kt et hu
  obtain ⟨ht,h⟩:=h
  have hck:=fun b => dlookup_key (P:=P) (w:=w) hk ht 9999 b
  split at h
  ·obtain rfl:=hm.nilmap
   exact ⟨w,st,by simp [Builtin.delete_,run_underlying hu,hck],h,hR,.refl _ _ _⟩
  ·rename_i id
   obtain ⟨b,hb,rfl⟩:=hm.map
   split at h
   ·rename_i es ho
    obtain ⟨hall,h⟩:=h
    obtain ⟨b',ms,ck,h1,h2,h3,h4,h5,h6⟩:=hR.heap.objs _ _ ho
    obtain rfl : b = b':=by rw [hb] at h1; exact Option.some.inj h1
    have hg : (getObj b).run P w = .ok (.map ms ck) w:=by simp [getObj,Sem.run,h3]
    have hso : ∀ o,(setObj b o).run P w = .ok () (w.setO b o):=by intro o; simp [setObj,Sem.run,h3,World.setO]
    obtain ⟨ds,hds,hsame⟩:=sameNow_keyEq (P:=P) hk ht
    have hkeys : ∀ (j : Nat) (e : DV × DV) (m : MapEntry),es[j]? = some e→ms.toList[j]? = some m→Instr.sameNow ds vk m.key = keyEq k e.1:=by
     intro j e m he hme
     rw [List.all_eq_true] at hall
     exact hsame e.1 m.key (h5 j e m he (by simpa using hme)).1 (hall e (List.mem_of_getElem? he))
    have hfn:=findNow_idx es ms.toList 0 (by simpa using h4) hkeys
    obtain ⟨r,hr⟩:=findKeyD_isSome hall
    rw [hr] at hfn
    cases r with
    | some x =>
     obtain ⟨j,y,f1,f2,⟨e,f3,f4⟩,f5,f6⟩:=hfn
     have hj : j < ms.size:=by rw [← h4]; exact f2
     have hrun : (Builtin.delete_ #[mt,t2] ty #[.map (some b),vk]).run P w = .ok (.tuple #[]) (w.setO b (.map (ms.eraseIdxIfInBounds j) ck)):=by
      have hf : (Instr.findKey kt vk ms.toList).run P w = .ok (some (j,y)) w:=by simp [Instr.findKey,run_underlying hds,f1]
      simp only [Builtin.delete_,List.getElem?_toArray,List.getElem?_cons_zero,List.getElem?_cons_succ,Sem.run_bind,run_underlying hu,Result.andThen_ok,hg,hck,hf,hso,Sem.run_pure]
     have hnew:=hR.setMap (es':=mapDel k es) (ms':=ms.eraseIdxIfInBounds j) (ck':=ck) ho hb h3 (by
      rw [f6]
      have hget : ∀ i,(ms.eraseIdxIfInBounds j)[i]? = if i < j then ms[i]? else ms[i + 1]?:=by
       intro i
       rw [Array.eraseIdxIfInBounds,dif_pos hj,Array.getElem?_eraseIdx]
      refine ⟨by rw [List.length_eraseIdx_of_lt f2,Array.eraseIdxIfInBounds,dif_pos hj,Array.size_eraseIdx]; omega,fun i e' m' he hm' => ?_,fun i1 i2 m1 m2 hm1 hm2 hb' => ?_⟩
      ·rw [hget] at hm'
       rw [List.getElem?_eraseIdx] at he
       split at he
       ·rename_i hlt; rw [if_pos hlt] at hm'; exact h5 i e' m' he hm'
       ·rename_i hlt; rw [if_neg hlt] at hm'; exact h5 (i + 1) e' m' he hm'
      ·rw [hget] at hm1 hm2
       split at hm1
       ·split at hm2
        ·exact h6 i1 i2 m1 m2 hm1 hm2 hb'
        ·have:=h6 i1 (i2 + 1) m1 m2 hm1 hm2 hb'; omega
       ·split at hm2
        ·have:=h6 (i1 + 1) i2 m1 m2 hm1 hm2 hb'; omega
        ·have:=h6 (i1 + 1) (i2 + 1) m1 m2 hm1 hm2 hb'; omega)
     exact ⟨_,_,hrun,h,hnew.1,hnew.2⟩
    | none =>
     obtain ⟨f1,f2,f3⟩:=hfn
     have hrun : (Builtin.delete_ #[mt,t2] ty #[.map (some b),vk]).run P w = .ok (.tuple #[]) (w.setO b (.map ms ck)):=by
      have hf : (Instr.findKey kt vk ms.toList).run P w = .ok none w:=by simp [Instr.findKey,run_underlying hds,f1]
      simp only [Builtin.delete_,List.getElem?_toArray,List.getElem?_cons_zero,List.getElem?_cons_succ,Sem.run_bind,run_underlying hu,Result.andThen_ok,hg,hck,hf,hso,Sem.run_pure]
     have hnew:=hR.setMap (es':=mapDel k es) (ms':=ms) (ck':=ck) ho hb h3 (by rw [f3]; exact ⟨h4,h5,h6⟩)
     exact ⟨_,_,hrun,h,hnew.1,hnew.2⟩
   ·exact h.elim
  ·exact h.elim
 ·exact h.elim
end Go.Ab

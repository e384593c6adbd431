/- A part of the proof; no condition of its own. -/
import Derived.Test.YtoebbafmopdfbaaGreatDoorAcP6
set_option linter.unusedSimpArgs false
set_option linter.unusedVariables false
/- AcP7: An append whose row becomes an object. -/
namespace Go.Ab
open Go Go.Conc Go.RowKit
variable {P : Program} {isObj : ObjT} {N0 : Nat} {w0 : World} {d : Nat} {G : Gh} {w : World} {st : St} {a : Act} {K : St→Prop}
theorem flat_idx {sz : Nat} : ∀ (ys : List DV),(∀ x∈ys,x.cells.length = sz)→∀ (m : Nat) (c : DV),(ys.flatMap DV.cells)[m]? = some c→∃ i j x,ys[i]? = some x∧x.cells[j]? = some c∧m = i * sz + j
 | [],_,m,c,h => by simp at h
 | y :: r,hl,m,c,h => by
  have hy:=hl y (by simp)
  rw [List.flatMap_cons,List.getElem?_append] at h
  split at h
  ·exact ⟨0,m,y,rfl,h,by omega⟩
  ·rename_i hge
   obtain ⟨i,j,x,h1,h2,h3⟩:=flat_idx r (fun x hx => hl x (by simp [hx])) _ c h
   refine ⟨i + 1,j,x,by simpa using h1,h2,?_⟩
   rw [Nat.add_mul]
   omega
theorem flat_len' {sz : Nat} : ∀ (ys : List DV),(∀ x∈ys,x.cells.length = sz)→(ys.flatMap DV.cells).length = ys.length * sz
 | [],_ => by simp
 | y :: r,hl => by
  rw [List.flatMap_cons,List.length_append,hl y (by simp),flat_len' r fun x hx => hl x (by simp [hx]),List.length_cons,Nat.add_mul]
  omega
theorem rowCells {sz k : Nat} {ys : List DV} {news rest : List Value} (hy : ∀ (i : Nat) (x : DV),ys[i]? = some x→x.cells.length = sz∧x.cells.all DV.scalar = true) (hnl : news.length = ys.length * sz) (hk : rest.length = k)
  (hyc : ∀ (i j : Nat) (x c : DV),ys[i]? = some x→x.cells[j]? = some c→∃ u,news[i * sz + j]? = some u∧VP G w c u) :
  ((ys.flatMap DV.cells).map DV.ro1 ++ List.replicate k DV.undef).length = (news ++ rest).toArray.size∧∀ (j : Nat) (c : DV) (v : Value),((ys.flatMap DV.cells).map DV.ro1 ++ List.replicate k DV.undef)[j]? = some c→(news ++ rest).toArray[j]? = some v→VP G w c v:=by
 have hl : ∀ x∈ys,x.cells.length = sz:=fun x hx => by
  obtain ⟨i,hi⟩:=List.mem_iff_getElem?.1 hx
  exact (hy i x hi).1
 have hfl:=flat_len' ys hl
 refine ⟨by simp only [List.length_append,List.length_map,List.length_replicate,List.size_toArray,hfl,hnl,hk],fun j c v hc hv => ?_⟩
 rw [List.getElem?_toArray] at hv
 rw [List.getElem?_append] at hc
 split at hc
 ·rename_i hlt
  rw [List.getElem?_map] at hc
  obtain ⟨c0,hc0,rfl⟩:=Option.map_eq_some_iff.1 hc
  obtain ⟨i,j',x,h1,h2,h3⟩:=flat_idx ys hl j c0 hc0
  obtain ⟨u,h4,h5⟩:=hyc i j' x c0 h1 h2
  rw [← h3] at h4
  have hjl:=(List.getElem?_eq_some_iff.1 h4).1
  rw [List.getElem?_append_left hjl,h4] at hv
  cases hv
  exact h5.ro1
 ·have:=(List.mem_replicate.1 (List.mem_of_getElem? hc)).2
  subst this
  exact .undef _
theorem cellRow {k : Nat} {cells : List DV} {news rest : List Value} (hcl : cells.length = news.length) (hk : rest.length = k) (hyv : ∀ (j : Nat) (c : DV) (u : Value),cells[j]? = some c→news[j]? = some u→VP G w c u) :
  (cells ++ List.replicate k DV.undef).length = (news ++ rest).toArray.size∧∀ (j : Nat) (c : DV) (v : Value),(cells ++ List.replicate k DV.undef)[j]? = some c→(news ++ rest).toArray[j]? = some v→VP G w c v:=by
 refine ⟨by simp [hcl,hk],fun j c v hc hv => ?_⟩
 rw [List.getElem?_toArray] at hv
 rw [List.getElem?_append] at hc hv
 split at hc
 ·rename_i hlt
  rw [if_pos (by omega)] at hv
  exact hyv j c v hc hv
 ·have:=(List.mem_replicate.1 (List.mem_of_getElem? hc)).2
  subst this
  exact .undef _
theorem no_own_row {cells : List DV} (h : ∀ c∈cells,∀ sz xs,c ≠ .sl true sz xs) (k : Nat) : ∀ c∈cells ++ List.replicate k DV.undef,∀ sz xs,c ≠ .sl true sz xs:=by
 intro c hc sz xs e
 rcases List.mem_append.1 hc with h1 | h1
 ·exact h c h1 sz xs e
 ·have:=(List.mem_replicate.1 h1).2
  subst this
  cases e
theorem ro1_no_own {l : List DV} : ∀ c∈l.map DV.ro1,∀ sz xs,c ≠ .sl true sz xs:=by
 intro c hc sz xs e
 obtain ⟨c0,_,rfl⟩:=List.mem_map.1 hc
 have:=own1_ro1 c0
 rw [e] at this
 simp [DV.own1] at this
theorem hslAt {st : St} {tmps : Array Value} (hR : Rel N0 w0 d G w st tmps) {id sz off len cap : Nat} {v : Value} {cs : List DV} (hv : SV G w d (.hsl id sz off len cap) v) (ho : st.H[id]? = some (.cells cs)) (hfit : off + len * sz≤cs.length) :
  (v = .slice none 0 0∧len = 0∧cap = 0)∨∃ b off' vs te,v = .slice (some ⟨b,off',none⟩) len cap∧len≤cap∧(cap = 0∨off' = off)∧G.bl id = some b∧w.heap[b]? = some (.cells vs te (0,0))∧cs.length = vs.size∧G.role b = .obj id ∧
   (∀ (j : Nat) (c : DV) (u : Value),cs[j]? = some c→vs[j]? = some u→VP G w c u) ∧
   (∀ (j : Nat) (u : Value),((vs.toList.drop off).take (len * sz))[j]? = some u→w.cell? ((⟨b,off',none⟩ : Addr).add j) = some u)∧((vs.toList.drop off).take (len * sz)).length = len * sz:=by
 cases (hv : VP G w (.hsl ..) v) with
 | hsl0 => exact .inl ⟨rfl,rfl,rfl⟩
 | hsl h2 h3 h4 =>
  refine .inr ?_
  rename_i off' b
  obtain ⟨b',vs,te,k1,k2,k3,k4⟩:=hR.heap.objs _ _ ho
  obtain rfl : b = b':=by rw [h2] at k1; exact Option.some.inj k1
  have hsz : cs.length = vs.size:=k4.1
  have hlen : ((vs.toList.drop off).take (len * sz)).length = len * sz:=by simp; omega
  refine ⟨b,off',vs,te,rfl,h3,h4,h2,k3,hsz,k2,fun j c u hc hu => (k4.2 j c u hc hu).1,fun j u hj => ?_,hlen⟩
  rw [add_none]
  have hj' : j < len * sz:=by have:=(List.getElem?_eq_some_iff.1 hj).1; omega
  have hpos : 0 < len:=Nat.pos_of_ne_zero fun e => by rw [e,Nat.zero_mul] at hj'; omega
  have hoff : off' = off:=by rcases h4 with h4 | h4; omega; exact h4
  subst hoff
  rw [List.getElem?_take,if_pos hj',List.getElem?_drop] at hj
  simp only [World.cell?,k3]
  simpa using hj
theorem srcD_gen {t2 : TypeId} {y : DV} {vy : Value} {sz : Nat} {st : St} {Q : Nat→List DV→Prop} (hpos : 0 < sz) (hy : SV G w d y vy) (h : srcD P st t2 y sz (fun ys => Q ys.length ((ys.flatMap DV.cells).map DV.ro1))) :
  ∃ (n : Nat) (cells : List DV) (news : List Value) (ds2 : TypeDesc),Q n cells∧P.underlying t2 = some ds2∧(∀ k,ds2 ≠ .int k)∧(∀ w',(∀ x,w'.cell? x = w.cell? x)→Src P w' sz vy n news)∧news.length = n * sz∧cells.length = news.length∧(∀ u∈news,u.oneCell' = true) ∧
   (∀ c∈cells,∀ sz xs,c ≠ .sl true sz xs)∧∀ (j : Nat) (c : DV) (u : Value),cells[j]? = some c→news[j]? = some u→VP G w c u:=by
 obtain ⟨ys,news,ds2,hQ,hu2,hni,hsrc,hnl,hone,hyc,hyv⟩:=src_sound (P:=P) hpos hy h
 have hl : ∀ x∈ys,x.cells.length = sz:=fun x hx => by
  obtain ⟨i,hi⟩:=List.mem_iff_getElem?.1 hx
  exact (hyc i x hi).1
 have hfl:=flat_len' ys hl
 exact ⟨ys.length,_,news,ds2,hQ,hu2,hni,hsrc,hnl,by rw [List.length_map,hfl,hnl],hone,ro1_no_own,fun j c u hc hu => by
  rw [List.getElem?_map] at hc
  obtain ⟨c0,hc0,rfl⟩:=Option.map_eq_some_iff.1 hc
  obtain ⟨i,j',x,h1,h2,h3⟩:=flat_idx ys hl j c0 hc0
  obtain ⟨u',h4,h5⟩:=hyv i j' x c0 h1 h2
  rw [← h3,hu] at h4
  cases h4
  exact h5.ro1⟩
theorem srcC_sound {st : St} {tmps : Array Value} (hR : Rel N0 w0 d G w st tmps) {t2 : TypeId} {y : DV} {vy : Value} {sz : Nat} {Q : Nat→List DV→Prop} (hpos : 0 < sz) (hy : SV G w d y vy) (h : srcC P st t2 y sz Q) :
  ∃ (n : Nat) (cells : List DV) (news : List Value) (ds2 : TypeDesc),Q n cells∧P.underlying t2 = some ds2∧(∀ k,ds2 ≠ .int k)∧(∀ w',(∀ x,w'.cell? x = w.cell? x)→Src P w' sz vy n news)∧news.length = n * sz∧cells.length = news.length∧(∀ u∈news,u.oneCell' = true) ∧
   (∀ c∈cells,∀ sz xs,c ≠ .sl true sz xs)∧∀ (j : Nat) (c : DV) (u : Value),cells[j]? = some c→news[j]? = some u→VP G w c u:=by
 cases y
 case hsl id sz' off len cap =>
  obtain ⟨⟨e,hu⟩,rfl,h⟩:=h
  split at h
  ·rename_i cs ho
   obtain ⟨hfit,hsc,hQ⟩:=h
   rcases hslAt hR hy ho hfit with ⟨rfl,rfl,rfl⟩ | ⟨b,off',vs,te,rfl,h3,h4,h5,h6,h7,h8,h9,h10,h11⟩
   ·exact ⟨0,_,[],_,hQ,hu,by simp,fun w' _ => ⟨rfl,by simp [Builtin.firstCells]⟩,by simp,by simp,by simp,by simp,by simp⟩
   have hgetc : ∀ (j : Nat) (c : DV) (u : Value),((cs.drop off).take (len * sz'))[j]? = some c→((vs.toList.drop off).take (len * sz'))[j]? = some u→VP G w c u:=by
    intro j c u hc hu
    rw [List.getElem?_take] at hc hu
    split at hc
    ·rename_i hj
     rw [if_pos hj] at hu
     rw [List.getElem?_drop] at hc hu
     exact h9 _ c u hc (by simpa using hu)
    ·cases hc
   refine ⟨len,_,_,_,hQ,hu,by simp,fun w' hw' => ⟨rfl,run_firstCells_some (P:=P) w' sz' len ⟨b,off',none⟩ len cap _ h11 fun j u hj => by rw [hw']; exact h10 j u hj⟩,h11,by rw [List.length_map,h11]; simp; omega,fun u hu' => ?_,ro1_no_own,fun j c u hc hu' => ?_⟩
   ·obtain ⟨j,hj⟩:=List.mem_iff_getElem?.1 hu'
    have hjl:=(List.getElem?_eq_some_iff.1 hj).1
    rw [h11] at hjl
    have hjc : j < ((cs.drop off).take (len * sz')).length:=by simp; omega
    refine (hgetc j _ u (List.getElem?_eq_getElem hjc) hj).oneCell ?_
    rw [List.all_eq_true] at hsc
    exact hsc _ (List.getElem_mem hjc)
   ·rw [List.getElem?_map] at hc
    obtain ⟨c0,hc0,rfl⟩:=Option.map_eq_some_iff.1 hc
    exact (hgetc j c0 u hc0 hu').ro1
  ·obtain ⟨rfl,hQ⟩:=h
   cases (hy : VP G w (.hsl ..) vy) with
   | hsl0 => exact ⟨0,[],[],_,hQ,hu,by simp,fun w' _ => ⟨rfl,by simp [Builtin.firstCells]⟩,by simp,by simp,by simp,by simp,by simp⟩
   | hsl h2 h3 h4 => exact ⟨0,[],[],_,hQ,hu,by simp,fun w' _ => ⟨rfl,run_firstCells_some (P:=P) w' sz' 0 ⟨_,_,none⟩ 0 cap [] (by simp) fun j u hj => by simp at hj⟩,by simp,by simp,by simp,by simp,by simp⟩
 all_goals exact srcD_gen (st:=st) hpos hy h
theorem Rel.appendObjIn {N0 : Nat} {w0 : World} {st : St} {tmps : Array Value} (h : Rel N0 w0 d G w st tmps) {s sz b cap n : Nat} {cells : List DV} {news : List Value} {cur : Array Value} {te : TypeId}
  (hr : G.role b = .arr (.ret d 0 0) 0) (hg : w.heap[b]? = some (.cells cur te (0,0))) (hcur : cur.size = cap * sz) (hroom : n≤cap) (hnl : news.length = n * sz) (hcl : cells.length = news.length)
  (hno1 : ∀ c∈cells,∀ sz xs,c ≠ .sl true sz xs) (hyv : ∀ (j : Nat) (c : DV) (u : Value),cells[j]? = some c→news[j]? = some u→VP G w c u) :
  ∃ G',Rel N0 w0 d G' (w.setRow b (news ++ cur.toList.drop news.length).toArray) ({ st with H:=st.H ++ [HObj.cells (cells ++ List.replicate ((cap - n) * sz) DV.undef)] }.put s (.hsl st.H.length sz 0 n cap)) (tmps.setIfInBounds s (.slice (some ⟨b,0,none⟩) n cap)) ∧
   Ext d G w G' (w.setRow b (news ++ cur.toList.drop news.length).toArray):=by
 have hmul : n * sz≤cap * sz:=Nat.mul_le_mul_right sz hroom
 have hsub : (cap - n) * sz = cap * sz - n * sz:=Nat.sub_mul _ _ _
 have hrow:=cellRow (G:=G) (w:=w) (k:=(cap - n) * sz) (rest:=cur.toList.drop news.length) hcl (by simp; omega) hyv
 have hno2:=no_own_row hno1 ((cap - n) * sz)
 generalize hcs : (news ++ cur.toList.drop news.length).toArray = cs' at *
 have hm : Mod b G w (G.setRole b (.obj st.H.length)) (w.setRow b cs'):=by
  refine ⟨rfl,rfl,rfl,by simp,lt_of_heap hg,fun x hx => ⟨setRow_other w b x cs' hx,G.setRole_ne _ hx⟩,rfl,rfl,fun x o v hi => ?_,fun _ _ x => x⟩
  by_cases e : x = b
  ·subst e
   rcases hi.1 with hi1 | ⟨ow,wm,hi1,hi2⟩
   ·rw [hr] at hi1; cases hi1
   ·rw [hr] at hi1
    cases hi1
    omega
  ·refine ⟨by rw [G.setRole_ne _ e]; exact hi.1,?_⟩
   have:=hi.2
   simp only [World.cell?] at this ⊢
   rw [setRow_other w b x cs' e]; exact this
 have hno : ∀ o wm,(∀ i j,o ≠ .ret d i j)→G.role b ≠ .arr o wm:=by
  intro o wm ho e
  rw [hr] at e
  cases e
  exact ho 0 0 rfl
 have hrel : Rel N0 w0 d (G.setRole b (.obj st.H.length)) (w.setRow b cs') st tmps:=by
  refine ⟨h.len,fun s dv v hs hv => ⟨(h.slots s dv v hs hv).1.mod hm,(h.slots s dv v hs hv).2.mod hm fun i j wm => hno _ wm (by simp)⟩,fun s g cs' hbx => ?_,h.nobox,fun t p v hlk ht => ?_,h.heap.mod hm (by rw [hr]; simp) rfl fun id ob hob => (h.heap.objs id ob hob).mod hm (by rw [hr]; simp) fun j wm => hno _ wm (by simp)⟩
  ·obtain ⟨b',vs',e',a1,a2,a3,a4⟩:=h.boxes s g cs' hbx
   have hne : b' ≠ b:=by rintro rfl; rw [hr] at a2; cases a2
   exact ⟨b',vs',e',a1,by rw [(hm.block b' hne).2]; exact a2,hm.heap hne a3,a4.mod hm fun j wm => hno _ wm (by simp)⟩
  ·refine posVal_mod hm (h.links t p v hlk ht) (fun x hx => (hm.block x hx).2) ?_
   cases p with
   | slot s i => trivial
   | box s' g' o => rintro x hx hrx rfl; rw [hr] at hrx; cases hrx
   | hp i o => rintro x hx hrx rfl; rw [hr] at hrx; cases hrx
 have hk:=hm.keep.trans (keep_setBl hrel.heap b)
 have h3:=hrel.addObj (n:=b) (ob:=.cells (cells ++ List.replicate ((cap - n) * sz) DV.undef)) (G.setRole_same _ _)
  ⟨b,cs',te,by simp [Gh.setBl],G.setRole_same _ _,setRow_heap w b cur cs' te (0,0) hg,hrow.1,fun j c v a b => ⟨(hrow.2 j c v a b).keep hk,fun sz xs e => absurd e (hno2 c (List.mem_of_getElem? a) sz xs)⟩⟩
 refine ⟨_,h3.put (s:=s) (dv:=.hsl st.H.length sz 0 n cap) (v:=.slice (some ⟨b,0,none⟩) n cap) (VP.hsl (by simp [Gh.setBl]) hroom (.inr rfl)) (sown_of_noOwn rfl),?_⟩
 exact (hm.ext d (by intro e s _; rw [hr]; simp) (by intro o wm ho e; rw [hr] at e; cases e; simp [Owner.outer] at ho)).trans (ext_setBl hrel.heap b)
theorem srcS_sound {st : St} {tmps : Array Value} (hR : Rel N0 w0 d G w st tmps) {y : DV} {vy : Value} {sz : Nat} {Q : Nat→List DV→Prop} (hpos : 0 < sz) (hy : SV G w d y vy) {lim : Nat} (h : srcS st y sz lim Q) :
  ∃ (n : Nat) (cells : List DV) (news : List Value),Q n cells∧((vy = .slice none 0 0∧n = 0)∨∃ ad c,vy = .slice (some ad) n c∧∀ (j : Nat) (u : Value),news[j]? = some u→w.cell? (ad.add j) = some u)∧news.length = n * sz∧cells.length = news.length∧(∀ u∈news.take (min n lim * sz),u.oneCell' = true) ∧
   (∀ c∈cells,∀ sz xs,c ≠ .sl true sz xs)∧∀ (j : Nat) (c : DV) (u : Value),cells[j]? = some c→news[j]? = some u→VP G w c u:=by
 unfold srcS at h
 split at h
 ·rename_i id sz' off len cap
  obtain ⟨rfl,h⟩:=h
  split at h
  ·rename_i cs ho
   obtain ⟨hfit,hsc,hQ⟩:=h
   rcases hslAt hR hy ho hfit with ⟨rfl,rfl,rfl⟩ | ⟨b,off',vs,te,rfl,h3,h4,h5,h6,h7,h8,h9,h10,h11⟩
   ·exact ⟨0,_,[],hQ,.inl ⟨rfl,rfl⟩,by simp,by simp,by simp,by simp,by simp⟩
   have hgetc : ∀ (j : Nat) (c : DV) (u : Value),((cs.drop off).take (len * sz'))[j]? = some c→((vs.toList.drop off).take (len * sz'))[j]? = some u→VP G w c u:=by
    intro j c u hc hu
    rw [List.getElem?_take] at hc hu
    split at hc
    ·rename_i hj
     rw [if_pos hj] at hu
     rw [List.getElem?_drop] at hc hu
     exact h9 _ c u hc (by simpa using hu)
    ·cases hc
   refine ⟨len,_,_,hQ,.inr ⟨_,_,rfl,h10⟩,h11,by rw [List.length_map,h11]; simp; omega,fun u hu' => ?_,ro1_no_own,fun j c u hc hu' => ?_⟩
   ·obtain ⟨j,hj⟩:=List.mem_iff_getElem?.1 hu'
    rw [List.getElem?_take] at hj
    split at hj
    ·rename_i hjm
     have hmm : min len lim * sz'≤len * sz':=Nat.mul_le_mul_right _ (Nat.min_le_left _ _)
     have hjc : j < ((cs.drop off).take (len * sz')).length:=by simp; omega
     have hjc2 : j < ((cs.drop off).take (min len lim * sz')).length:=by simp; omega
     refine (hgetc j _ u (List.getElem?_eq_getElem hjc) hj).oneCell ?_
     rw [List.all_eq_true] at hsc
     have:=hsc _ (List.getElem_mem hjc2)
     simpa using this
    ·cases hj
   ·rw [List.getElem?_map] at hc
    obtain ⟨c0,hc0,rfl⟩:=Option.map_eq_some_iff.1 hc
    exact (hgetc j c0 u hc0 hu').ro1
  ·exact h.elim
 ·rename_i own sz' ys
  obtain ⟨rfl,hQ⟩:=h
  have hvp : VP G w (.sl own sz' ys) vy:=hy
  obtain ⟨cs,h1,h2,h3,h4⟩:=sl_cells hvp hpos
  have hyc:=sl_elems hvp
  have hl : ∀ x∈ys,x.cells.length = sz':=fun x hx => by
   obtain ⟨i,hi⟩:=List.mem_iff_getElem?.1 hx
   exact (hyc i x hi).1
  have hfl:=flat_len' ys hl
  refine ⟨ys.length,_,cs,hQ,?_,h1,by rw [List.length_map,hfl,h1],fun u hu => h2 u (List.mem_of_mem_take hu),ro1_no_own,fun j c u hc hu => ?_⟩
  ·rcases VP.slAt hvp with ⟨rfl,rfl⟩ | ⟨b,off,cap,rfl,_⟩
   ·exact .inl ⟨rfl,rfl⟩
   ·refine .inr ⟨_,_,rfl,fun j u hj => ?_⟩
    rw [add_none]
    exact (h4 b off _ cap rfl j u hj).2
  ·rw [List.getElem?_map] at hc
   obtain ⟨c0,hc0,rfl⟩:=Option.map_eq_some_iff.1 hc
   obtain ⟨i,j',x,e1,e2,e3⟩:=flat_idx ys hl j c0 hc0
   obtain ⟨u',e4,e5⟩:=h3 i j' x c0 e1 e2
   rw [← e3,hu] at e4
   cases e4
   exact e5.ro1
 ·exact h.elim
theorem op_appendObj {o : Oper} {x y : Operand} {t t2 : TypeId} (ho : o.op = .call { callee:=.builtin .append,args:=#[x,y],argTypes:=#[t,t2] }) (hR : Rel N0 w0 d G w st a.tmps) {s : Nat} (hd : o.dst = some s)
  (h : appendObjD0 P st s t t2 x (rho P st t2 y) K) : OpTo P N0 w0 d G w a o K:=by
 unfold appendObjD0 at h
 split at h
 ·rename_i e hu
  obtain ⟨he,hpos,hz,h⟩:=h
  obtain ⟨dse,he'⟩:=Option.isSome_iff_exists.1 he
  obtain ⟨i,hi⟩:=info_of_underlying he'
  have hcs : P.cellsOf e = i.size:=by simp [Program.cellsOf,hi]
  have hbs : P.bytesOf e = i.bytes:=by simp [Program.bytesOf,hi]
  obtain ⟨z,hzr,_⟩:=zeroOk_sound (G:=G) (w:=w) hz
  have hzz : i.zero = some z:=by
   simp only [zeroValue,typeInfo,Sem.run_bind,run_program,Result.andThen_ok,hi,Sem.run_pure] at hzr
   cases hiz : i.zero with
   | none => rw [hiz] at hzr; simp at hzr
   | some z' => rw [hiz] at hzr; simp at hzr; rw [hzr]
  have hzs : z.cells.size = i.size:=by
   unfold zeroOk at hz
   simp only [hi,hzz,Bool.and_eq_true,beq_iff_eq] at hz
   exact hz.1.1.2
  have hexec : (execOp a.eval o).run P w = ((Builtin.append_ #[t,t2] o.type #[a.eval x,a.eval y]).run P w).andThen fun v w' => .ok (.value v) w':=by
   simp [execOp,ho,resolve,invoke,builtin]
  obtain ⟨f,hf,h1,h2,h3,_⟩:=take_sound (P:=P) hR t x
  have hyv:=(hR.rho (P:=P) t2 y).ren (f:=f)
  have grow : ∀ (sLen cap n : Nat) (base : Option Addr) (oldc cells : List DV) (olds news : List Value) (ds2 : TypeDesc),P.underlying t2 = some ds2→(∀ k,ds2 ≠ .int k)→a.eval x = .slice base sLen cap→cap < sLen + n→(sLen + n) * P.bytesOf e≤140737488355328→sLen + n≤4611686018427387904 →
    (∀ w',(∀ x,w'.cell? x = w.cell? x)→Src P w' (P.cellsOf e) (a.eval y) n news)→((Builtin.firstCells i.size sLen (.slice base sLen cap)).run P w.drew = .ok olds.toArray w.drew)→olds.length = sLen * P.cellsOf e→news.length = n * P.cellsOf e →
    oldc.length = olds.length→cells.length = news.length→(∀ c∈oldc ++ cells,∀ sz xs,c ≠ .sl true sz xs)→(∀ (j : Nat) (c : DV) (u : Value),oldc[j]? = some c→olds[j]? = some u→VP (G.ren f) w c u)→(∀ (j : Nat) (c : DV) (u : Value),cells[j]? = some c→news[j]? = some u→VP (G.ren f) w c u) →
    newRowK (take P st t x).2 s (P.cellsOf e) (sLen + n) (oldc ++ cells) K→OpTo P N0 w0 d G w a o K:=by
   intro sLen cap n base oldc cells olds news ds2 hu2 hni hev hgr hb hlim hsrc hfo hol hnl hoc hcl hno hov hcv hK
   have hrun:=run_append_out (P:=P) (w:=w) (ty:=o.type) hu hu2 hni hi hzz (base:=base) (sLen:=sLen) (sCap:=cap) (n:=n) (olds:=olds) (news:=news) (by rw [← hcs]; exact hsrc w.drew fun _ => rfl) hfo (hsrc w fun _ => rfl).len hgr (by omega)
    (growslice_fits hgr (by rw [← hbs]; exact hb))
   have hge:=grownCap_ge w (sLen + n) cap e
   have hnd:=h1.neu (Neu.drew (G.ren f) w)
   have hkd:=(Neu.drew (G.ren f) w).keep
   have hrow:=cellRow (G:=G.ren f) (w:=w.drew) (k:=(grownCap w (sLen + n) cap e - (sLen + n)) * P.cellsOf e) (cells:=oldc ++ cells) (news:=olds ++ news) (rest:=(Builtin.zeroCells z.cells (grownCap w (sLen + n) cap e - (sLen + n))).toList) (by simp; omega)
    (by rw [Array.length_toList,size_zeroCells,hzs,hcs])
    (fun j c u hc hu' => by
     rw [List.getElem?_append] at hc hu'
     split at hc
     ·rename_i hlt
      rw [if_pos (by omega)] at hu'
      exact (hov j c u hc hu').keep hkd
     ·rename_i hlt
      rw [if_neg (by omega),← hoc] at hu'
      exact (hcv _ c u hc hu').keep hkd)
   have hvs : (olds.toArray ++ news.toArray ++ Builtin.zeroCells z.cells (grownCap w (sLen + n) cap e - (sLen + n))) = ((olds ++ news) ++ (Builtin.zeroCells z.cells (grownCap w (sLen + n) cap e - (sLen + n))).toList).toArray:=by
    apply Array.toList_inj.1
    simp
   obtain ⟨G',n1,n2⟩:=hnd.newRowObj (s:=s) (sz:=P.cellsOf e) (len:=sLen + n) (cap:=grownCap w (sLen + n) cap e) (cs:=(oldc ++ cells) ++ List.replicate ((grownCap w (sLen + n) cap e - (sLen + n)) * P.cellsOf e) DV.undef)
    (vs:=(olds.toArray ++ news.toArray ++ Builtin.zeroCells z.cells (grownCap w (sLen + n) cap e - (sLen + n)))) e hge (by rw [hvs]; exact hrow.1) (by rw [hvs]; exact hrow.2) (no_own_row hno _)
   refine ⟨_,_,G',_,.inl ?_,hK _ hge,(ext_ren hf).trans (((Neu.drew (G.ren f) w).ext h1.heap.fresh d).trans n2),by rw [hd]; exact n1⟩
   rw [hexec,hev,hrun]
   rfl
  split at h
  ·rename_i sz hx
   obtain ⟨rfl,h⟩:=h
   rw [hx] at h2 h3
   obtain ⟨n,cells,news,ds2,⟨hb,hlim,hK0,hK⟩,hu2,hni,hsrc,hnl,hcl,hone,hno,hcv⟩:=srcC_sound (P:=P) h1 hpos hyv h
   have hown:=sown_at h2 h3
   have hvp : VP (G.ren f) w (.sl true (P.cellsOf e) []) (a.eval x):=h2
   have grow0 : ∀ base cap,a.eval x = .slice base 0 cap→cap < n→OpTo P N0 w0 d G w a o K:=by
    intro base cap hev hgr
    have hfo : (Builtin.firstCells i.size 0 (.slice base 0 cap)).run P w.drew = .ok ([] : List Value).toArray w.drew:=by
     rcases VP.slAt hvp with ⟨e1,_⟩ | ⟨b,off,cap',e1,_⟩
     ·rw [hev] at e1
      cases e1
      simp [Builtin.firstCells]
     ·rw [hev] at e1
      cases e1
      refine run_firstCells_some (P:=P) w.drew i.size 0 ⟨b,off,none⟩ 0 cap [] (by simp) fun j v hv => ?_
      simp at hv
    exact grow 0 cap n base [] cells [] news ds2 hu2 hni hev (by omega) (by simpa using hb) (by omega) hsrc hfo (by simp) hnl rfl hcl hno (by intro j c u hc; simp at hc) hcv (by simpa using hK (by omega))
   rcases hown with hnil | ⟨b,len,cap,cur,te,e1,e2,e3,e4,e5⟩
   ·
    by_cases hy0 : n = 0
    ·subst hy0
     have hn0 : news = []:=List.eq_nil_of_length_eq_zero (by simpa using hnl)
     subst hn0
     have hs0:=hsrc w fun _ => rfl
     have hrun : (Builtin.append_ #[t,t2] o.type #[a.eval x,a.eval y]).run P w = .ok (.slice none 0 0) w:=by
      have hzz2 : (match ds2 with | .int _ => true | _ => false) = false:=by cases ds2 <;> first | rfl | exact absurd rfl (hni _)
      have hl0 : (Builtin.lenOf (a.eval y)).run P w = .ok 0 w:=hs0.len
      have hf0 : (Builtin.firstCells (P.cellsOf e) 0 (a.eval y)).run P w = .ok #[] w:=hs0.first
      rw [hnil]
      simp only [Builtin.append_,List.getElem?_toArray,List.getElem?_cons_zero,List.getElem?_cons_succ,Sem.run_bind,run_underlying hu,run_underlying hu2,Result.andThen_ok,run_sizeOf' he',Sem.run_pure,hzz2,Bool.false_eq_true,if_false,hl0,Nat.le_refl,Nat.add_zero,if_true,Bool.not_false,hf0]
     have hput:=h1.put (s:=s) (dv:=.sl true (P.cellsOf e) []) (v:=.slice none 0 0) (SV.of_vp .sl0) (sown_sl .sl0 (.inl rfl))
     exact ⟨_,_,_,_,.inl (by rw [hexec,hrun]; rfl),hK0 rfl,ext_ren hf,by rw [hd]; exact hput⟩
    ·exact grow0 none 0 hnil (by omega)
   ·have hlen : len = 0:=by
     rcases VP.slAt hvp with ⟨q,_⟩ | ⟨b',off,cap',q,_⟩
     ·rw [e1] at q; cases q
     ·rw [e1] at q; cases q; rfl
    subst hlen
    simp only [Nat.zero_mul] at e2
    by_cases hroom : n≤cap
    ·have hmul : n * P.cellsOf e≤cap * P.cellsOf e:=Nat.mul_le_mul_right _ hroom
     have hrun:=run_append_in (P:=P) (w:=w) (ty:=o.type) hu hu2 hni ⟨_,he'⟩ (hsrc w fun _ => rfl) e3 hone (show 0 + n≤cap by omega) (by omega)
     by_cases hy0 : n = 0
     ·subst hy0
      have hn0 : news = []:=List.eq_nil_of_length_eq_zero (by simpa using hnl)
      subst hn0
      obtain ⟨G',n1,n2⟩:=h1.appendIn (s:=s) (ys:=[]) (news:=[]) (xs:=[]) (by rw [e1] at hvp; exact hvp) (by simpa using e2) e3 e4 (by simp) (by simp) (by intro i x h; simp at h) (by intro i j x c h; simp at h)
      refine ⟨_,_,G',_,.inl ?_,hK0 rfl,(ext_ren hf).trans n2,by rw [hd]; exact n1⟩
      rw [hexec,e1,hrun]
      rfl
     ·obtain ⟨G',n1,n2⟩:=h1.appendObjIn (s:=s) (sz:=P.cellsOf e) e2 e3 e4 hroom hnl hcl hno hcv
      refine ⟨_,_,G',_,.inl ?_,hK hy0 cap hroom,(ext_ren hf).trans n2,by rw [hd]; exact n1⟩
      rw [hexec,e1,hrun]
      simp
    ·exact grow0 (some ⟨b,0,none⟩) cap e1 (by omega)
  ·rename_i id sz off len cap hx
   obtain ⟨rfl,hzero,h⟩:=h
   rw [hx] at h2 h3
   by_cases hc0 : cap = 0
   ·have h:=hzero hc0
    obtain ⟨n,cells,news,ds2,⟨hb,hlim,hK0,hK⟩,hu2,hni,hsrc,hnl,hcl,hone,hno,hcv⟩:=srcC_sound (P:=P) h1 hpos hyv h
    obtain ⟨base,hev,hl0⟩ : ∃ base,a.eval x = .slice base 0 0∧len = 0:=by
     generalize a.eval x = vx at h2
     cases (h2 : VP _ _ (.hsl ..) vx) with
     | hsl0 => exact ⟨_,rfl,rfl⟩
     | hsl _ h3 _ =>
      have : len = 0:=by omega
      subst this hc0
      exact ⟨_,rfl,rfl⟩
    subst hl0 hc0
    by_cases hy0 : n = 0
    ·subst hy0
     have hnn : news = []:=List.eq_nil_of_length_eq_zero (by simpa using hnl)
     subst hnn
     have hs0:=hsrc w fun _ => rfl
     have hrun : (Builtin.append_ #[t,t2] o.type #[a.eval x,a.eval y]).run P w = .ok (.slice base 0 0) w:=by
      have hzz2 : (match ds2 with | .int _ => true | _ => false) = false:=by cases ds2 <;> first | rfl | exact absurd rfl (hni _)
      have hl0 : (Builtin.lenOf (a.eval y)).run P w = .ok 0 w:=hs0.len
      have hf0 : (Builtin.firstCells (P.cellsOf e) 0 (a.eval y)).run P w = .ok #[] w:=hs0.first
      rw [hev]
      cases base with
      | none => simp only [Builtin.append_,List.getElem?_toArray,List.getElem?_cons_zero,List.getElem?_cons_succ,Sem.run_bind,run_underlying hu,run_underlying hu2,Result.andThen_ok,run_sizeOf' he',Sem.run_pure,hzz2,Bool.false_eq_true,if_false,hl0,Nat.le_refl,Nat.add_zero,if_true,Bool.not_false,hf0]
      | some ad =>
       simp only [Builtin.append_,List.getElem?_toArray,List.getElem?_cons_zero,List.getElem?_cons_succ,Sem.run_bind,run_underlying hu,run_underlying hu2,Result.andThen_ok,run_sizeOf' he',Sem.run_pure,hzz2,Bool.false_eq_true,if_false,hl0,Nat.le_refl,Nat.add_zero,if_true,Bool.not_false,hf0]
       rfl
     have hput:=h1.put (s:=s) (dv:=.hsl id (P.cellsOf e) off 0 0) (v:=.slice base 0 0) (by rw [hev] at h2; exact h2) (sown_of_noOwn rfl)
     exact ⟨_,_,_,_,.inl (by rw [hexec,hrun]; rfl),hK0 rfl,ext_ren hf,by rw [hd]; exact hput⟩
    ·have hfo : (Builtin.firstCells i.size 0 (.slice base 0 0)).run P w.drew = .ok ([] : List Value).toArray w.drew:=by
      cases base with
      | none => simp [Builtin.firstCells]
      | some ad => exact run_firstCells_some (P:=P) w.drew i.size 0 ad 0 0 [] (by simp) fun j v hv => by simp at hv
     exact grow 0 0 n base [] cells [] news ds2 hu2 hni hev (by omega) (by simpa using hb) (by omega) hsrc hfo (by simp) hnl rfl hcl hno (by intro j c u hc; simp at hc) hcv (by simpa using hK hy0)
   have h:=h hc0
   split at h
   ·rename_i cs hcs0
    obtain ⟨hfit,hsc,h⟩:=h
    obtain ⟨n,cells,news,ds2,⟨hb,hlim,hin,hout⟩,hu2,hni,hsrc,hnl,hcl,hone,hno,hcv⟩:=srcC_sound (P:=P) h1 hpos hyv h
    rcases hslAt h1 h2 hcs0 hfit with ⟨_,_,hz0⟩ | ⟨b,off',vs,te,hev,k3,k4,k5,k6,k7,k8,k9,k10,k11⟩
    ·exact absurd hz0 hc0
    by_cases hroom : len + n≤cap
    ·obtain ⟨rfl,hfit2,hK⟩:=hin hroom
     have hmul : (len + n) * P.cellsOf e = len * P.cellsOf e + n * P.cellsOf e:=Nat.add_mul _ _ _
     have hoff : off' = 0:=by rcases k4 with k4 | k4; omega; exact k4
     subst hoff
     have hrun:=run_append_in (P:=P) (w:=w) (ty:=o.type) hu hu2 hni ⟨_,he'⟩ (hsrc w fun _ => rfl) k6 hone hroom (by omega)
     have h5:=h1.storeH (id:=id) (b:=b) (off:=len * P.cellsOf e) (ds:=cells) (us:=news) hcs0 k5 k6 hcl (by omega) (fun j c u hc hu' => ⟨hcv j c u hc hu',fun sz xs e => absurd e (hno c (List.mem_of_getElem? hc) sz xs)⟩)
     have hput:=h5.1.put (s:=s) (dv:=.hsl id (P.cellsOf e) 0 (len + n) cap) (v:=.slice (some ⟨b,0,none⟩) (len + n) cap) (SV.of_vp (VP.hsl k5 hroom (.inr rfl))) (sown_of_noOwn rfl)
     refine ⟨_,_,_,_,.inl ?_,hK,(ext_ren hf).trans h5.2,by rw [hd]; exact hput⟩
     rw [hexec,hev,hrun]
     rfl
    ·have hgc : ∀ (j : Nat) (c : DV) (u : Value),(((cs.drop off).take (len * P.cellsOf e)).map DV.ro1)[j]? = some c→((vs.toList.drop off).take (len * P.cellsOf e))[j]? = some u→VP (G.ren f) w c u:=by
      intro j c u hc hu'
      rw [List.getElem?_map] at hc
      obtain ⟨c0,hc0,rfl⟩:=Option.map_eq_some_iff.1 hc
      rw [List.getElem?_take] at hc0 hu'
      split at hc0
      ·rename_i hj
       rw [if_pos hj] at hu'
       rw [List.getElem?_drop] at hc0 hu'
       exact (k9 _ c0 u hc0 (by simpa using hu')).ro1
      ·cases hc0
     refine grow len cap n (some ⟨b,off',none⟩) _ cells _ news ds2 hu2 hni hev (by omega) hb hlim hsrc (by rw [← hcs]; exact run_firstCells_some (P:=P) w.drew (P.cellsOf e) len ⟨b,off',none⟩ len cap _ k11 fun j u hj => k10 j u hj) k11 hnl (by rw [List.length_map,k11]; simp; omega) hcl (fun c hc sz xs => ?_) hgc hcv (hout (by omega))
     rcases List.mem_append.1 hc with hc | hc
     ·exact ro1_no_own c hc sz xs
     ·exact hno c hc sz xs
   ·exact h.elim
  ·exact h.elim
 ·exact h.elim
theorem op_copy {o : Oper} {x y : Operand} {t t2 : TypeId} (ho : o.op = .call { callee:=.builtin .copy,args:=#[x,y],argTypes:=#[t,t2] }) (hR : Rel N0 w0 d G w st a.tmps)
  (h : copyD P st t (rho P st t x) (rho P st t2 y) fun n st' => K (st'.put? o.dst (.int .i64 n))) : OpTo P N0 w0 d G w a o K:=by
 have hx:=hR.rho (P:=P) t x
 have hy:=hR.rho (P:=P) t2 y
 have hexec : (execOp a.eval o).run P w = ((Builtin.copy_ #[t,t2] o.type #[a.eval x,a.eval y]).run P w).andThen fun v w' => .ok (.value v) w':=by
  simp [execOp,ho,resolve,invoke,builtin]
 unfold copyD at h
 split at h
 ·rename_i e id sz off len cap hu hxr
  obtain ⟨he,hpos,rfl,h⟩:=h
  obtain ⟨dse,he'⟩:=Option.isSome_iff_exists.1 he
  rw [hxr] at hx
  split at h
  ·rename_i cs hcs0
   obtain ⟨n,cells,news,⟨hfit,hK⟩,hsrc,hnl,hcl,hone,hno,hcv⟩:=srcS_sound hR hpos hy h
   cases hxe : a.eval x with
   | slice base l c =>
    rw [hxe] at hx
    cases (hx : VP G w (.hsl ..) _) with
    | hsl0 =>
     have hl0 : (Builtin.lenOf (a.eval y)).run P w = .ok n w:=by
      rcases hsrc with ⟨e,rfl⟩ | ⟨ad,c,e,_⟩ <;> rw [e] <;> rfl
     have hm : ∀ p q : Nat,Nat.min p q = min p q:=fun _ _ => rfl
     have hsub : (Builtin.firstCells (P.cellsOf e) 0 (a.eval y)).run P w = .ok #[] w:=by
      rcases hsrc with ⟨e,rfl⟩ | ⟨ad,c,e,hc⟩
      ·rw [e]; simp [Builtin.firstCells]
      ·rw [e]
       exact run_firstCells_some (P:=P) w _ _ ad n c [] (by simp) fun j u hj => by simp at hj
     have hrun : (Builtin.copy_ #[t,t2] o.type #[.slice none 0 0,a.eval y]).run P w = .ok (.int .i64 (0 : Nat)) w:=by
      simp only [Builtin.copy_,List.getElem?_toArray,List.getElem?_cons_zero,List.getElem?_cons_succ,Sem.run_bind,run_underlying hu,Result.andThen_ok,run_sizeOf' he',Sem.run_pure,hl0,hm,Nat.min_zero,hsub,goInt]
     have e1 : putAt cs off (cells.take (min n 0 * P.cellsOf e)) = cs:=by simp [putAt]
     rw [e1] at hK
     have e2 : st.H.set id (.cells cs) = st.H:=by
      apply List.ext_getElem?
      intro j
      rw [List.getElem?_set]
      split
      ·rename_i e3
       subst e3
       split
       ·exact hcs0.symm
       ·rename_i hlt
        exact absurd (List.getElem?_eq_some_iff.1 hcs0).1 hlt
      ·rfl
     have hR' : Rel N0 w0 d G w (st.setH id (.cells cs)) a.tmps:=⟨hR.len,hR.slots,hR.boxes,hR.nobox,fun t p v hl => hR.links t p v (List.mem_filter.1 hl).1,by
      have:=hR.heap
      simp only [St.setH,e2]
      exact this⟩
     refine ⟨_,_,_,_,.inl ?_,hK,Ext.refl _ _ _,hR'.put? (VP.int _ _) rfl⟩
     rw [hexec,hxe,hrun]
     simp
    | hsl h2 h3 h4 =>
     rename_i off' b
     obtain ⟨b',vs,te,k1,k2,k3,k4⟩:=hR.heap.objs _ _ hcs0
     obtain rfl : b = b':=by rw [h2] at k1; exact Option.some.inj k1
     have hsz : cs.length = vs.size:=k4.1
     have hmn : min n len * P.cellsOf e≤n * P.cellsOf e:=Nat.mul_le_mul_right _ (Nat.min_le_left _ _)
     have hl0 : (Builtin.lenOf (a.eval y)).run P w = .ok n w:=by
      rcases hsrc with ⟨e,rfl⟩ | ⟨ad,c,e,_⟩ <;> rw [e] <;> rfl
     have hsub : (Builtin.firstCells (P.cellsOf e) (min n len) (a.eval y)).run P w = .ok (news.take (min n len * P.cellsOf e)).toArray w:=by
      rcases hsrc with ⟨e,rfl⟩ | ⟨ad,c,e,hc⟩
      ·rw [e]; simp [Builtin.firstCells]
      ·rw [e]
       refine run_firstCells_some (P:=P) w _ _ ad n c _ (by simp; omega) fun j u hj => ?_
       rw [List.getElem?_take] at hj
       split at hj
       ·exact hc j u hj
       ·cases hj
     have hus : (news.take (min n len * P.cellsOf e)).length = min n len * P.cellsOf e:=by simp; omega
     have hst : (storeCells ⟨b,off',none⟩ (news.take (min n len * P.cellsOf e))).run P w = .ok () (w.setRow b (vs.toList.take off ++ news.take (min n len * P.cellsOf e) ++ vs.toList.drop (off + (news.take (min n len * P.cellsOf e)).length)).toArray):=by
      by_cases hz : min n len * P.cellsOf e = 0
      ·rw [hz,List.take_zero]
       have:=setRow_self w b vs te (0,0) k3
       simp only [List.append_nil,List.length_nil,Nat.add_zero,List.take_append_drop]
       rw [this]; rfl
      ·have hoff : off' = off:=by
        rcases h4 with h4 | h4
        ·have : len = 0:=by omega
         rw [this] at hz; simp at hz
        ·exact h4
       subst hoff
       have:=run_storeCells_at P b off' te (news.take (min n len * P.cellsOf e)) 0 vs w k3 (by simp; omega) hone
       simpa using this
     have hrun : (Builtin.copy_ #[t,t2] o.type #[.slice (some ⟨b,off',none⟩) len cap,a.eval y]).run P w = .ok (.int .i64 (min n len : Nat)) (w.setRow b (vs.toList.take off ++ news.take (min n len * P.cellsOf e) ++ vs.toList.drop (off + (news.take (min n len * P.cellsOf e)).length)).toArray):=by
      have hm : ∀ p q : Nat,Nat.min p q = min p q:=fun _ _ => rfl
      simp only [Builtin.copy_,List.getElem?_toArray,List.getElem?_cons_zero,List.getElem?_cons_succ,Sem.run_bind,run_underlying hu,Result.andThen_ok,run_sizeOf' he',Sem.run_pure,hl0,hm,hsub,hst,goInt]
     have h5:=hR.storeH (id:=id) (b:=b) (off:=off) (ds:=cells.take (min n len * P.cellsOf e)) (us:=news.take (min n len * P.cellsOf e)) hcs0 h2 k3 (by simp; omega) (by simp; omega)
      (fun j c u hc hu' => by
       rw [List.getElem?_take] at hc hu'
       split at hc
       ·rename_i hj
        rw [if_pos hj] at hu'
        exact ⟨hcv j c u hc hu',fun sz xs e => absurd e (hno c (List.mem_of_getElem? hc) sz xs)⟩
       ·cases hc)
     refine ⟨_,_,_,_,.inl ?_,hK,h5.2,h5.1.put? (VP.int _ _) rfl⟩
     rw [hexec,hxe,hrun]
     rfl
   | _ => rw [hxe] at hx; cases (hx : VP G w (.hsl ..) _)
  ·exact h.elim
 ·exact h.elim
theorem zeroOk_cells {t : TypeId} {zs : List DV} (h : zeroOk P t zs = true) : ∃ i z,P.info? t = some i∧i.zero = some z∧z.cells.size = i.size∧zs.length = i.size∧∀ (j : Nat) (c : DV) (v : Value),zs[j]? = some c→z.cells[j]? = some v→VP G w c v:=by
 unfold zeroOk at h
 split at h
 ·rename_i i hi
  split at h
  ·rename_i z hz
   simp only [Bool.and_eq_true,beq_iff_eq] at h
   obtain ⟨⟨⟨h1,h2⟩,h3⟩,h4⟩:=h
   have hv : ∀ c v,vpc c v = true→VP G w c v:=by
    intro c v hcv
    unfold vpc at hcv
    split at hcv
    ·simp at hcv; subst hcv; exact .bool _
    ·simp at hcv; obtain ⟨rfl,rfl⟩:=hcv; exact .int _ _
    ·rename_i s r
     simp at hcv
     subst hcv
     exact .str _
    ·exact .nilp
    ·exact .sl0
    ·exact .nilmap
    ·exact .hsl0
    ·exact .any _
    ·cases hcv
   refine ⟨i,z,hi,hz,h2,by omega,fun j c v hc hvv => ?_⟩
   rw [List.all_eq_true] at h3
   refine hv c v (h3 (c,v) ?_)
   have : (zs.zip z.cells.toList)[j]? = some (c,v):=by
    rw [List.getElem?_zip_eq_some]
    exact ⟨hc,by simpa using hvv⟩
   exact List.mem_of_getElem? this
  ·cases h
 ·cases h
theorem List.length_flatten_replicate' {α : Type} (n : Nat) (l : List α) : (List.replicate n l).flatten.length = n * l.length:=by simp
theorem flatten_replicate_get {α : Type} (n : Nat) (l : List α) : ∀ (j : Nat) (c : α),(List.replicate n l).flatten[j]? = some c→j < n * l.length∧l[j % l.length]? = some c:=by
 induction n with
 | zero => intro j c h; simp at h
 | succ n ih =>
  intro j c h
  rw [List.replicate_succ,List.flatten_cons,List.getElem?_append] at h
  split at h
  ·rename_i hj
   refine ⟨by rw [Nat.succ_mul]; omega,?_⟩
   rw [Nat.mod_eq_of_lt hj]; exact h
  ·rename_i hj
   obtain ⟨h1,h2⟩:=ih _ c h
   refine ⟨by rw [Nat.succ_mul]; omega,?_⟩
   rw [← h2]
   congr 1
   rw [Nat.mod_eq_sub_mod (by omega)]
theorem Nat.mul_add_mod_of_lt' {a b c : Nat} (h : c < b) : (a * b + c) % b = c:=by
 rw [Nat.add_comm,Nat.add_mul_mod_self_right,Nat.mod_eq_of_lt h]
theorem zeroOk_one {t : TypeId} {zs : List DV} (h : zeroOk P t zs = true) (ha : isAggT P t = false) : zs.length = 1:=by
 unfold zeroOk at h
 split at h
 ·rename_i i hi
  split at h
  ·rename_i z hz
   simp only [Bool.and_eq_true,beq_iff_eq] at h
   obtain ⟨⟨⟨h1,h2⟩,h3⟩,h4⟩:=h
   rw [ha] at h4
   have hcells : z.cells = #[z]:=by
    cases z with
    | agg cs => simp at h4
    | _ => rfl
   rw [h1,hcells]; rfl
  ·cases h
 ·cases h
theorem zeroOk_flat {t : TypeId} {x : DV} (h : zeroOk P t (zeroDV P 4 t) = true) (ha : isAggT P t = false) (hx : zeroDV P 4 t = [x]) : (match x with | .agg _ => False | _ => True):=by
 rw [hx] at h
 unfold zeroOk at h
 split at h
 ·split at h
  ·rename_i z hz
   simp only [Bool.and_eq_true,beq_iff_eq] at h
   obtain ⟨⟨⟨h1,h2⟩,h3⟩,h4⟩:=h
   rw [ha] at h4
   have hcells : z.cells.toList = [z]:=by
    cases z with
    | agg cs => simp at h4
    | _ => rfl
   rw [hcells] at h3
   simp only [List.zip_cons_cons,List.zip_nil_left,List.all_cons,List.all_nil,Bool.and_true] at h3
   cases x <;> first | trivial | (simp [vpc] at h3)
  ·cases h
 ·cases h
theorem ofCells_ro {e : TypeId} {i : TypeInfo} (hz : zeroOk P e (zeroDV P 4 e) = true) (hsc : (zeroDV P 4 e).all DV.scalar = true) (hzl : (zeroDV P 4 e).length = i.size) (hcs : P.cellsOf e = i.size) :
  (ofCells P e ((zeroDV P 4 e).map DV.ro1)).cells.length = P.cellsOf e∧(ofCells P e ((zeroDV P 4 e).map DV.ro1)).cells.all DV.scalar = true:=by
 have hsr : ∀ c : DV,c.scalar = true→c.ro1.scalar = true:=fun c h => by cases c <;> exact h
 have hall : ((zeroDV P 4 e).map DV.ro1).all DV.scalar = true:=by
  rw [List.all_eq_true] at hsc ⊢
  intro c hc
  obtain ⟨c0,h0,rfl⟩:=List.mem_map.1 hc
  exact hsr _ (hsc _ h0)
 unfold ofCells
 split
 ·exact ⟨by simp only [DV.cells,List.length_map,hzl,hcs],hall⟩
 ·rename_i ha
  have h1 : i.size = 1:=by rw [← hzl]; exact zeroOk_one hz (by simpa using ha)
  obtain ⟨x,hx⟩ : ∃ x,zeroDV P 4 e = [x]:=List.length_eq_one_iff.1 (by omega)
  rw [hx] at hall ⊢
  simp only [List.map_cons,List.map_nil,List.getD_cons_zero,List.all_cons,List.all_nil,Bool.and_true] at hall ⊢
  have hc1 : x.ro1.cells = [x.ro1]:=by
   cases hxx : x.ro1 <;> first | rfl | (rw [hxx] at hall; simp [DV.scalar] at hall)
  rw [hc1]
  exact ⟨by simp [hcs,h1],by simpa using hall⟩
theorem ofCells_get {e : TypeId} {q : Nat} {c : DV} (hz : zeroOk P e (zeroDV P 4 e) = true) (h : (ofCells P e ((zeroDV P 4 e).map DV.ro1)).cells[q]? = some c) : ∃ c0,(zeroDV P 4 e)[q]? = some c0∧c = c0.ro1:=by
 unfold ofCells at h
 split at h
 ·simp only [DV.cells,List.getElem?_map] at h
  obtain ⟨c0,h0,rfl⟩:=Option.map_eq_some_iff.1 h
  exact ⟨c0,h0,rfl⟩
 ·rename_i ha
  obtain ⟨x,hx⟩ : ∃ x,zeroDV P 4 e = [x]:=List.length_eq_one_iff.1 (zeroOk_one hz (by simpa using ha))
  have hv:=zeroOk_flat hz (by simpa using ha) hx
  rw [hx] at h ⊢
  simp only [List.map_cons,List.map_nil,List.getD_cons_zero] at h
  have hc1 : x.ro1.cells = [x.ro1]:=by cases x <;> first | rfl | simp at hv
  rw [hc1] at h
  cases q with
  | zero => simp at h; exact ⟨x,rfl,h.symm⟩
  | succ q => simp at h
theorem op_made {o : Oper} {t : TypeId} {l c : Operand} {n : Int} {k1 k2 : IntKind} (ho : o.op = .makeSlice t l c) (hR : Rel N0 w0 d G w st a.tmps) {s : Nat} (hd : o.dst = some s)
  (hl : rho P st 3 l = .int k1 n) (hc : rho P st 3 c = .int k2 n) (h0 : 0≤n) (h1 : n≤9223372036854775807) (h : madeD P isObj st s t n.toNat K) : OpTo P N0 w0 d G w a o K:=by
 unfold madeD at h
 split at h
 ·rename_i e hu
  obtain ⟨hpos,hz,hby,hsc,h⟩:=h
  have el:=hR.rho (P:=P) 3 l
  have ec:=hR.rho (P:=P) 3 c
  rw [hl] at el
  rw [hc] at ec
  have el:=el.int
  have ec:=ec.int
  obtain ⟨i,z,hi,hzz,hzs,hzl,hzv⟩:=zeroOk_cells (G:=G) (w:=w) hz
  have hcs : P.cellsOf e = i.size:=by simp [Program.cellsOf,hi]
  have hbs : P.bytesOf e = i.bytes:=by simp [Program.bytesOf,hi]
  rw [hbs] at hby
  have hrun:=run_make (P:=P) w t e i z hu hi hzz k1 k2 n n h0 (Int.le_refl _) (by
   have : ((n.toNat * i.bytes : Nat) : Int)≤281474976710656:=by omega
   rw [Int.natCast_mul] at this
   rw [Int.mul_comm]
   have e2 : ((n.toNat : Nat) : Int) = n:=by omega
   rw [e2] at this; exact this) h1
  have hcell : ∀ j,j < n.toNat * i.size→(madeCells z.cells (n.toNat * i.size))[j]? = z.cells[j % i.size]?:=by
   intro j hj
   have hip : 0 < i.size:=by omega
   have hm : j % i.size < z.cells.size:=by rw [hzs]; exact Nat.mod_lt _ hip
   simp only [madeCells,Array.getElem?_map]
   rw [Array.getElem?_eq_getElem (by simpa using hj)]
   simp [hzs]
   rw [getElem!_pos z.cells _ hm,Array.getElem?_eq_getElem hm]
  have hexec : ∀ v w',(Instr.makeSlice t (a.eval l) (a.eval c)).run P w = .ok v w'→(execOp a.eval o).run P w = .ok (.value v) w':=fun v w' e => by
   rw [exec_v (s:=Instr.makeSlice t (a.eval l) (a.eval c)) (by simp only [execOp,ho]),e]; rfl
  split at h
  ·obtain ⟨G',h2,h3⟩:=hR.newRowObj (s:=s) (sz:=P.cellsOf e) (len:=n.toNat) (cap:=n.toNat) (cs:=(List.replicate n.toNat ((zeroDV P 4 e).map DV.ro1)).flatten) (vs:=madeCells z.cells (n.toNat * i.size)) e (Nat.le_refl _)
    (by rw [size_madeCells,List.length_flatten_replicate']; rw [List.length_map,hzl])
    (fun j c v hc hv => by
     obtain ⟨hjl,hjm⟩:=flatten_replicate_get n.toNat _ j c hc
     rw [List.length_map,hzl] at hjl hjm
     rw [hcell j hjl] at hv
     rw [List.getElem?_map] at hjm
     obtain ⟨c0,hc0,rfl⟩:=Option.map_eq_some_iff.1 hjm
     exact (hzv _ c0 v hc0 hv).ro1)
    (fun c hc => by
     obtain ⟨l,hl,hcl⟩:=List.mem_flatten.1 hc
     obtain ⟨_,rfl⟩:=List.mem_replicate.1 hl
     exact ro1_no_own c hcl)
   exact ⟨_,_,G',_,.inl (hexec _ _ (by rw [el,ec,hrun])),h,h3,by rw [hd]; exact h2⟩
  ·obtain ⟨G',h2,h3⟩:=hR.newRow (s:=s) (sz:=P.cellsOf e) (len:=n.toNat) (cap:=n.toNat) (xs:=List.replicate n.toNat (ofCells P e ((zeroDV P 4 e).map DV.ro1))) (cs:=madeCells z.cells (n.toNat * i.size)) e (by simp) (Nat.le_refl _)
    (by unfold maxLen; omega) (by rw [size_madeCells,hcs])
    (fun j x hx => by
     obtain ⟨_,rfl⟩:=List.mem_replicate.1 (List.mem_of_getElem? hx)
     exact ofCells_ro hz hsc hzl hcs)
    (fun j q x c hx hj => by
     have hlt : j < n.toNat:=by
      have:=(List.getElem?_eq_some_iff.1 hx).1
      simpa using this
     obtain ⟨_,rfl⟩:=List.mem_replicate.1 (List.mem_of_getElem? hx)
     obtain ⟨c0,hc0,rfl⟩:=ofCells_get hz hj
     have hq : q < i.size:=by rw [← hzl]; exact (List.getElem?_eq_some_iff.1 hc0).1
     have hqz : q < z.cells.size:=by omega
     have hjq : j * i.size + q < n.toNat * i.size:=by
      have : (j + 1) * i.size≤n.toNat * i.size:=Nat.mul_le_mul_right _ hlt
      rw [Nat.add_mul] at this; omega
     refine ⟨z.cells[q],?_,(hzv q c0 _ hc0 (by simp [hqz])).ro1⟩
     rw [hcs,hcell _ hjq,Nat.mul_add_mod_of_lt' hq]
     simp [hqz])
   exact ⟨_,_,G',_,.inl (hexec _ _ (by rw [el,ec,hrun])),h,h3,by rw [hd]; exact h2⟩
 ·exact h.elim
theorem dcap_sound {t : TypeId} {x : DV} {vx : Value} {ty : TypeId} {K : DV→Prop} (hx : SV G w d x vx) (h : dcap P t x K) : PR P G w d K (Builtin.cap_ #[t] ty #[vx]):=by
 unfold dcap at h
 split at h
 ·rename_i e own sz xs hu
  rcases VP.slAt hx with ⟨rfl,rfl⟩ | ⟨b,off,cap,rfl,h1,h2,_⟩
  ·exact ⟨_,.int .i64 (0 : Nat),h 0 (by simp) (by omega),by simp [Builtin.cap_,run_underlying hu,goInt],VP.int _ _,rfl⟩
  ·exact ⟨_,.int .i64 cap,h cap h1 (by unfold maxLen at h2; omega),by simp [Builtin.cap_,run_underlying hu,goInt],VP.int _ _,rfl⟩
 ·rename_i e id sz off len cap hu
  obtain ⟨b,rfl⟩ : ∃ b,vx = .slice b len cap:=by cases (hx : VP G w (.hsl ..) vx) <;> exact ⟨_,rfl⟩
  exact ⟨_,.int .i64 cap,h,by simp [Builtin.cap_,run_underlying hu,goInt],VP.int _ _,rfl⟩
 ·exact h.elim
theorem op_makeChan {o : Oper} {t e : TypeId} {dr : ChanDir} {x : Operand} {n : Int} {k1 : IntKind} (ho : o.op = .makeChan t x) (hR : Rel N0 w0 d G w st a.tmps) {s : Nat} (hd : o.dst = some s) (hu : P.underlying t = some (.chan dr e))
  (hx : rho P st 3 x = .int k1 n) (hi : (P.info? e).isSome = true) (h0 : 0≤n) (h1 : n≤9223372036854775807) (hb : P.bytesOf e * n.toNat≤281474976710544) (h : K (st.put s .any)) : OpTo P N0 w0 d G w a o K:=by
 have ex:=hR.rho (P:=P) 3 x
 rw [hx] at ex
 have ex:=ex.int
 obtain ⟨i,hi⟩:=Option.isSome_iff_exists.1 hi
 have hbs : P.bytesOf e = i.bytes:=by simp [Program.bytesOf,hi]
 rw [hbs] at hb
 have hn:=Neu.alloc G w (.chan n.toNat #[] false 0 0 false) .no
 have hput:=(hR.neu hn).put (s:=s) (dv:=.any) (v:=.chan (some w.heap.size)) (VP.any _) (sown_of_noOwn rfl)
 refine ⟨.chan (some w.heap.size),_,_,_,.inl ?_,h,hn.ext hR.heap.fresh d,by rw [hd]; exact hput⟩
 have hbb : ((i.bytes * n.toNat : Nat) : Int)≤281474976710544:=by omega
 have e2 : ((n.toNat : Nat) : Int) = n:=by omega
 rw [Int.natCast_mul,e2] at hbb
 have hc : ¬ (n < 0∨9223372036854775807 < n∨281474976710544 < (i.bytes : Int) * n):=by omega
 rw [exec_v (s:=Instr.makeChan t (a.eval x)) (by simp only [execOp,ho]),ex]
 simp [Instr.makeChan,asIntOf,asInt,run_underlying hu,typeInfo,hi,hc]
theorem op_buildSliceObj {o : Oper} {t e : TypeId} {len : Nat} {parts : Array (Nat × Operand)} (ho : o.op = .buildSlice t len parts) (hR : Rel N0 w0 d G w st a.tmps) {s : Nat} (hd : o.dst = some s) (hu : P.underlying t = some (.slice e))
  (he : (P.underlying e).isSome = true) (hpos : 0 < P.cellsOf e) (hsm : len * P.cellsOf e≤16777216) (hz : (P.info? e).any (·.zero.isSome) = true) (hparts : parts.toList.map (·.1) = List.range len)
  (hc : ∀ x∈parts.toList,(rho P st e x.2).ro.cells.length = P.cellsOf e∧(rho P st e x.2).ro.cells.all DV.scalar = true)
  (h : K ({ st with H:=st.H ++ [HObj.cells (((parts.toList.map fun x : Nat × Operand => (rho P st e x.2).ro).flatMap DV.cells).map DV.ro1)] }.put s (.hsl st.H.length (P.cellsOf e) 0 len len))) : OpTo P N0 w0 d G w a o K:=by
 have hlen : parts.toList.length = len:=by have:=congrArg List.length hparts; simpa using this
 have hvp : ∀ x∈parts.toList,VP G w (rho P st e x.2).ro (a.eval x.2):=fun x hx => vp_of_sv (hR.rho e x.2).ro (hc x hx).2
 have hvs : ((parts.map fun (i,x) => (i,a.eval x))) = (((parts.toList.map fun x : Nat × Operand => a.eval x.2).zipIdx 0).map fun x => (x.2,x.1)).toArray:=by
  apply Array.toList_inj.1
  rw [Array.toList_map]
  apply List.ext_getElem?
  intro i
  simp only [List.getElem?_map,List.getElem?_zipIdx,List.getElem?_toArray,Nat.zero_add]
  cases hi : parts.toList[i]? with
  | none => simp [hi]
  | some x =>
   have h1 : (parts.toList.map (·.1))[i]? = some x.1:=by rw [List.getElem?_map,hi]; rfl
   rw [hparts] at h1
   have h2 : x.1 = i:=by
    have:=(List.getElem?_eq_some_iff.1 h1)
    obtain ⟨hl,he⟩:=this
    simp at he
    exact he.symm
   simp [hi,h2]
 have h1 : ∀ v∈parts.toList.map fun x : Nat × Operand => a.eval x.2,v.cells.size = P.cellsOf e:=by
  intro v hv
  obtain ⟨x,hx,rfl⟩:=List.mem_map.1 hv
  rw [← (vp_cells (hvp x hx) (hc x hx).2).1]; exact (hc x hx).1
 have hrun:=run_buildSlice' (P:=P) (w:=w) t e len (parts.toList.map fun x : Nat × Operand => a.eval x.2) hu he hz hpos hsm (by simpa using hlen) h1
 have hyc : ∀ (i : Nat) (x : DV),(parts.toList.map fun x : Nat × Operand => (rho P st e x.2).ro)[i]? = some x→x.cells.length = P.cellsOf e∧x.cells.all DV.scalar = true:=fun i x hx => by
  rw [List.getElem?_map] at hx
  obtain ⟨y,hy,rfl⟩:=Option.map_eq_some_iff.1 hx
  exact hc y (List.mem_of_getElem? hy)
 have hsz : ((parts.toList.map fun x : Nat × Operand => a.eval x.2).flatMap fun v => v.cells.toList).length = (parts.toList.map fun x : Nat × Operand => (rho P st e x.2).ro).length * P.cellsOf e:=by
  rw [List.length_map,hlen,List.length_flatMap]
  have : ((parts.toList.map fun x : Nat × Operand => a.eval x.2).map fun v => v.cells.toList.length) = List.replicate len (P.cellsOf e):=by
   rw [List.eq_replicate_iff]
   refine ⟨by simpa using hlen,fun b hb => ?_⟩
   obtain ⟨v,hv,rfl⟩:=List.mem_map.1 hb
   simpa using h1 v hv
  rw [this]
  clear this h1 hvs hrun hparts hlen hsm h ho
  induction len with
  | zero => simp
  | succ n ih => rw [List.replicate_succ,List.sum_cons,ih,Nat.succ_mul]; omega
 have hrow:=rowCells (G:=G) (w:=w) (k:=0) (ys:=parts.toList.map fun x : Nat × Operand => (rho P st e x.2).ro) (news:=(parts.toList.map fun x : Nat × Operand => a.eval x.2).flatMap fun v => v.cells.toList) (rest:=[]) hyc hsz rfl
  (fun i j x c hx hj => by
   rw [List.getElem?_map] at hx
   obtain ⟨y,hy,rfl⟩:=Option.map_eq_some_iff.1 hx
   have hm:=List.mem_of_getElem? hy
   obtain ⟨hl,hcc⟩:=vp_cells (hvp y hm) (hc y hm).2
   have hjl : j < (a.eval y.2).cells.size:=by rw [← hl]; exact (List.getElem?_eq_some_iff.1 hj).1
   refine ⟨(a.eval y.2).cells[j],?_,hcc j c _ hj (by simp [hjl])⟩
   exact flat_get' hpos _ h1 i j (a.eval y.2) _ (by rw [List.getElem?_map,hy]; rfl) (by simp [hjl]))
 simp only [List.append_nil,List.replicate_zero] at hrow
 obtain ⟨G',h2,h3⟩:=hR.newRowObj (s:=s) (sz:=P.cellsOf e) (len:=len) (cap:=len) (cs:=((parts.toList.map fun x : Nat × Operand => (rho P st e x.2).ro).flatMap DV.cells).map DV.ro1) (vs:=((parts.toList.map fun x : Nat × Operand => a.eval x.2).flatMap fun v => v.cells.toList).toArray) e (Nat.le_refl _)
  hrow.1 hrow.2
  (fun c hc sz xs e => by
   subst e
   obtain ⟨c0,_,e⟩:=List.mem_map.1 hc
   have:=own1_ro1 c0
   rw [e] at this
   simp [DV.own1] at this)
 refine ⟨_,_,G',_,.inl ?_,h,h3,by rw [hd]; exact h2⟩
 rw [exec_v (s:=Instr.buildSlice t len (parts.map fun (i,x) => (i,a.eval x))) (by simp only [execOp,ho]),hvs,hrun]
 rfl
theorem op_allocF {o : Oper} {e : TypeId} (ho : o.op = .alloc e) (hR : Rel N0 w0 d G w st a.tmps) {s : Nat} (hd : o.dst = some s) (hf : funT P e = true) (h : K ({ st with H:=st.H ++ [HObj.cells [.undef]] }.put s (.ptr st.H.length 0))) : OpTo P N0 w0 d G w a o K:=by
 obtain ⟨i,hi,hz⟩ : ∃ i,P.info? e = some i∧i.zero = some .nilFunc:=by
  unfold funT at hf
  cases hi : P.info? e with
  | none => simp [hi] at hf
  | some i =>
   simp only [hi,Option.bind_some] at hf
   refine ⟨i,rfl,?_⟩
   split at hf
   ·assumption
   ·cases hf
 have hzr : (zeroValue e).run P w = .ok .nilFunc w:=by simp [zeroValue,typeInfo,hi,hz]
 have hn:=Neu.alloc G w (.cells #[.nilFunc] e) (.obj st.H.length)
 have h2:=hR.neu hn
 have h3:=h2.addObj (n:=w.heap.size) (ob:=.cells [.undef]) (by simp) ⟨w.heap.size,#[.nilFunc],e,by simp [Gh.setBl],by simp,heap_new w _,rfl,fun j c v a b => by
  match j with
  | 0 => cases a; cases b; exact ⟨.undef _,fun sz xs e => by cases e⟩
  | n + 1 => simp at a⟩
 refine ⟨.pointer (some ⟨w.heap.size,0,none⟩),_,_,_,.inl ?_,h,(hn.ext hR.heap.fresh d).trans (ext_setBl h2.heap _),by rw [hd]; exact h3.put (s:=s) (dv:=.ptr st.H.length 0) (v:=.pointer (some ⟨w.heap.size,0,none⟩)) (VP.ptr (by simp [Gh.setBl])) (sown_of_noOwn rfl)⟩
 simp [execOp,ho,Instr.alloc,hzr,newVar,Go.newRow,Value.cells]
end Go.Ab

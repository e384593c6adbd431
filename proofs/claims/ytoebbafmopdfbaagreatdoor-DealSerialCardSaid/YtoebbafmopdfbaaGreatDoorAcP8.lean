/- A part of the proof; no condition of its own. -/
import Derived.Lib.Overlaps
import Derived.Test.YtoebbafmopdfbaaGreatDoorAcP7
set_option linter.unusedSimpArgs false
set_option linter.unusedVariables false
/- AcP8: Zero elements behind a slice of an object's; slices.overlaps. -/
namespace Go.Ab
open Go Go.Conc Go.RowKit
variable {P : Program} {isObj : ObjT} {N0 : Nat} {w0 : World} {d : Nat} {G : Gh} {w : World} {st : St} {a : Act} {K : St→Prop}
theorem run_append_zout {t t2 ty e : TypeId} {k2 k : IntKind} {i : TypeInfo} {z : Value} (ht : P.underlying t = some (.slice e)) (ht2 : P.underlying t2 = some (.int k2)) (hi : P.info? e = some i) (hz : i.zero = some z)
  {base : Option Addr} {sLen sCap n : Nat} {olds : List Value} (ho : (Builtin.firstCells i.size sLen (.slice base sLen sCap)).run P w.drew = .ok olds.toArray w.drew)
  (hgr : sCap < sLen + n) (h63 : sLen + n≤9223372036854775807) (hfit : Builtin.nextslicecap (sLen + n) sCap * i.bytes≤281474976710656) (hn0 : n * i.size ≠ 0) (hb : n * i.bytes≤281474976710656) :
  (Builtin.append_ #[t,t2] ty #[.slice base sLen sCap,.int k (n : Nat)]).run P w =
   .ok (.slice (some ⟨w.heap.size,0,none⟩) (sLen + n) (grownCap w (sLen + n) sCap e))
    (w.drew.alloc (.cells (olds.toArray ++ Builtin.zeroCells z.cells n ++ Builtin.zeroCells z.cells (grownCap w (sLen + n) sCap e - (sLen + n))) e)):=by
 have hn : ¬ (sLen + n≤sCap):=by omega
 have h48' : ¬ (281474976710656 < Builtin.nextslicecap (sLen + n) sCap * i.bytes):=by omega
 have h63'' : ¬ ((9223372036854775807 : Int) < ((sLen : Int) + (n : Int))):=by omega
 have hw : IntKind.i64.wrap (n : Int) = n:=by rw [IntKind.wrap_i64]; omega
 have hneg : ¬ ((n : Int) < 0):=by omega
 have hbb : ¬ ((281474976710656 : Int) < (n : Int) * (i.bytes : Int)):=by
  have : ((n * i.bytes : Nat) : Int)≤281474976710656:=by omega
  rw [Int.natCast_mul] at this
  omega
 simp [Builtin.append_,run_underlying ht,run_underlying ht2,sizeOf,typeInfo,zeroValue,hi,hz,asInt,asIntOf,hw,hneg,hbb,hn,h63'',h48',Question.forced,ho,hn0,newRow,grownCap]
 all_goals (congr 2; apply Array.ext'; simp [List.append_assoc])
theorem zeroCells_get (z : Array Value) (n j : Nat) (hj : j < n * z.size) : (Builtin.zeroCells z n)[j]? = z[j % z.size]?:=by
 have hp : 0 < z.size:=Nat.pos_of_ne_zero fun e => by rw [e] at hj; omega
 have hm : j % z.size < z.size:=Nat.mod_lt _ hp
 simp only [Builtin.zeroCells,Array.getElem?_map]
 rw [Array.getElem?_eq_getElem (by simpa using hj)]
 simp
 rw [getElem!_pos z _ hm,Array.getElem?_eq_getElem hm]
theorem op_appendZ {o : Oper} {x y : Operand} {t t2 : TypeId} (ho : o.op = .call { callee:=.builtin .append,args:=#[x,y],argTypes:=#[t,t2] }) (hR : Rel N0 w0 d G w st a.tmps) {s : Nat} (hd : o.dst = some s)
  (h : appendZD P st s t t2 x (rho P st t2 y) K) : OpTo P N0 w0 d G w a o K:=by
 unfold appendZD at h
 split at h
 ·rename_i e k n id sz off len cap hu hyv hx
  obtain ⟨⟨k2,hu2⟩,h0,he,hpos,hz,hsc,rfl,hlc,hgr,hby,hlim,h⟩:=h
  obtain ⟨i,z,hi,hzz,hzs,hzl,hzv⟩:=zeroOk_cells (G:=G) (w:=w) hz
  have hcs : P.cellsOf e = i.size:=by simp [Program.cellsOf,hi]
  have hbs : P.bytesOf e = i.bytes:=by simp [Program.bytesOf,hi]
  have hy:=hR.rho (P:=P) t2 y
  rw [hyv] at hy
  have hy:=hy.int
  obtain ⟨m,rfl⟩ : ∃ m : Nat,n = m:=⟨n.toNat,by omega⟩
  simp only [Int.toNat_natCast] at hgr hby hlim h
  obtain ⟨f,hf,h1,h2,h3,_⟩:=take_sound (P:=P) hR t x
  rw [hx] at h2
  split at h
  ·rename_i cs hcs0
   obtain ⟨hfit,hK⟩:=h
   have hexec : (execOp a.eval o).run P w = ((Builtin.append_ #[t,t2] o.type #[a.eval x,a.eval y]).run P w).andThen fun v w' => .ok (.value v) w':=by
    simp [execOp,ho,resolve,invoke,builtin]
   have hm0 : 0 < m:=by omega
   have hzn : m * i.size ≠ 0:=by
    have : 0 < m * i.size:=Nat.mul_pos hm0 (by omega)
    omega
   have hold : ∃ (base : Option Addr) (olds : List Value),a.eval x = .slice base len cap∧(Builtin.firstCells i.size len (.slice base len cap)).run P w.drew = .ok olds.toArray w.drew∧olds.length = len * P.cellsOf e ∧
     ∀ (j : Nat) (c : DV) (u : Value),(((cs.drop off).take (len * P.cellsOf e)).map DV.ro1)[j]? = some c→olds[j]? = some u→VP (G.ren f) w c u:=by
    rcases hslAt h1 h2 hcs0 hfit with ⟨e1,rfl,rfl⟩ | ⟨b,off',vs,te,hev,k3,k4,k5,k6,k7,k8,k9,k10,k11⟩
    ·exact ⟨none,[],e1,by simp [Builtin.firstCells],by simp,by simp⟩
    ·refine ⟨some ⟨b,off',none⟩,_,hev,by rw [← hcs]; exact run_firstCells_some (P:=P) w.drew (P.cellsOf e) len ⟨b,off',none⟩ len cap _ k11 fun j u hj => k10 j u hj,k11,?_⟩
     intro j c u hc hu'
     rw [List.getElem?_map] at hc
     obtain ⟨c0,hc0,rfl⟩:=Option.map_eq_some_iff.1 hc
     rw [List.getElem?_take] at hc0 hu'
     split at hc0
     ·rename_i hj
      rw [if_pos hj] at hu'
      rw [List.getElem?_drop] at hc0 hu'
      exact (k9 _ c0 u hc0 (by simpa using hu')).ro1
     ·cases hc0
   obtain ⟨base,olds,hev,hfo,hol,hov⟩:=hold
   have hoc : (((cs.drop off).take (len * P.cellsOf e)).map DV.ro1).length = olds.length:=by rw [List.length_map,hol]; simp; omega
   have hrun:=run_append_zout (P:=P) (w:=w) (ty:=o.type) (k:=k) hu hu2 hi hzz (base:=base) (sLen:=len) (sCap:=cap) (n:=m) (olds:=olds) hfo hgr (by omega) (growslice_fits hgr (by rw [← hbs]; exact hby)) hzn
    (by
     have : m * i.bytes≤(len + m) * i.bytes:=Nat.mul_le_mul_right _ (by omega)
     rw [← hbs] at this ⊢; omega)
   have hge:=grownCap_ge w (len + m) cap e
   have hnd:=h1.neu (Neu.drew (G.ren f) w)
   have hkd:=(Neu.drew (G.ren f) w).keep
   have hzlen : (List.replicate m ((zeroDV P 4 e).map DV.ro1)).flatten.length = (Builtin.zeroCells z.cells m).toList.length:=by
    rw [List.length_flatten_replicate',List.length_map,hzl,Array.length_toList,size_zeroCells,hzs]
   have hrow:=cellRow (G:=G.ren f) (w:=w.drew) (k:=(grownCap w (len + m) cap e - (len + m)) * P.cellsOf e) (cells:=((cs.drop off).take (len * P.cellsOf e)).map DV.ro1 ++ (List.replicate m ((zeroDV P 4 e).map DV.ro1)).flatten) (news:=olds ++ (Builtin.zeroCells z.cells m).toList) (rest:=(Builtin.zeroCells z.cells (grownCap w (len + m) cap e - (len + m))).toList)
    (by rw [List.length_append,List.length_append,hoc,hzlen])
    (by rw [Array.length_toList,size_zeroCells,hzs,hcs])
    (fun j c u hc hu' => by
     rw [List.getElem?_append] at hc hu'
     split at hc
     ·rename_i hlt
      rw [if_pos (by omega)] at hu'
      exact (hov j c u hc hu').keep hkd
     ·rename_i hlt
      rw [if_neg (by omega),← hoc] at hu'
      generalize j - (((cs.drop off).take (len * P.cellsOf e)).map DV.ro1).length = q at hc hu'
      obtain ⟨hjl,hjm⟩:=flatten_replicate_get m _ _ c hc
      rw [List.length_map,hzl] at hjl hjm
      rw [Array.getElem?_toList,zeroCells_get _ _ _ (by rw [hzs]; exact hjl),hzs] at hu'
      rw [List.getElem?_map] at hjm
      obtain ⟨c0,hc0,rfl⟩:=Option.map_eq_some_iff.1 hjm
      have hvv:=hzv _ c0 u hc0 hu'
      exact (hvv.keep keep_ren).ro1.keep hkd)
   have hvs : (olds.toArray ++ Builtin.zeroCells z.cells m ++ Builtin.zeroCells z.cells (grownCap w (len + m) cap e - (len + m))) = ((olds ++ (Builtin.zeroCells z.cells m).toList) ++ (Builtin.zeroCells z.cells (grownCap w (len + m) cap e - (len + m))).toList).toArray:=by
    apply Array.toList_inj.1
    simp
   obtain ⟨G',n1,n2⟩:=hnd.newRowObj (s:=s) (sz:=P.cellsOf e) (len:=len + m) (cap:=grownCap w (len + m) cap e) (cs:=(((cs.drop off).take (len * P.cellsOf e)).map DV.ro1 ++ (List.replicate m ((zeroDV P 4 e).map DV.ro1)).flatten) ++ List.replicate ((grownCap w (len + m) cap e - (len + m)) * P.cellsOf e) DV.undef)
    (vs:=(olds.toArray ++ Builtin.zeroCells z.cells m ++ Builtin.zeroCells z.cells (grownCap w (len + m) cap e - (len + m)))) e hge (by rw [hvs]; exact hrow.1) (by rw [hvs]; exact hrow.2) (no_own_row (fun c hc sz xs => by
     rcases List.mem_append.1 hc with hc | hc
     ·exact ro1_no_own c hc sz xs
     ·obtain ⟨l,hl,hcl⟩:=List.mem_flatten.1 hc
      obtain ⟨_,rfl⟩:=List.mem_replicate.1 hl
      exact ro1_no_own c hcl sz xs) _)
   refine ⟨_,_,G',_,.inl ?_,hK _ hge,(ext_ren hf).trans (((Neu.drew (G.ren f) w).ext h1.heap.fresh d).trans n2),by rw [hd]; exact n1⟩
   rw [hexec,hev,hy,hrun]
   rfl
  ·exact h.elim
 ·exact h.elim
theorem op_over {o : Oper} {f : FuncId} {x y : Operand} {ats : Array TypeId} (ho : o.op = .call { callee:=.value (.func f),args:=#[x,y],argTypes:=ats }) (hR : Rel N0 w0 d G w st a.tmps)
  (hf : isOver P f) (h : overD st.H (rho P st 0 x) (rho P st 0 y) (st.laid o.dst K)) : OpTo P N0 w0 d G w a o K:=by
 obtain ⟨fn,t,r,e,f1,f2,f3,f4,f5,f6,f7⟩:=hf
 have hx:=hR.rho (P:=P) 0 x
 have hy:=hR.rho (P:=P) 0 y
 unfold overD at h
 split at h
 ·rename_i ix sx ox lx cx iy sy oy ly cy hxe hye
  obtain ⟨hne,hcx,hcy,⟨c1,hc1⟩,⟨c2,hc2,hc20⟩,hK⟩:=h
  rw [hxe] at hx
  rw [hye] at hy
  obtain ⟨dse,hde⟩:=Option.isSome_iff_exists.1 f7
  have hsz : ∀ w : World,(Go.sizeOf e).run P w = .ok (P.cellsOf e) w:=fun w => run_sizeOf' hde
  have hexec : (execOp a.eval o).run P w = (callFunc f #[a.eval x,a.eval y]).run P w:=by
   simp [execOp,ho,resolve,Deferred.ofValue,invoke,Act.eval]
  have hfin : (Extern.SlicesOverlaps.overlaps #[t,t] #[r] #[a.eval x,a.eval y]).run P w = .ok (.bool false) w→OpTo P N0 w0 d G w a o K:=fun hr => by
   refine ⟨.bool false,w,G,_,.inl ?_,hK,Ext.refl _ _ _,hR.put? (VP.bool _) rfl⟩
   rw [hexec,run_callFunc_extern f1 f2 f3 f4 f5,hr]
   rfl
  generalize a.eval x = vx at hx hfin
  generalize a.eval y = vy at hy hfin
  cases (hx : VP G w (.hsl ..) vx) with
  | hsl0 => exact absurd rfl hcx
  | hsl k1 k2 k3 =>
   rename_i ox' bx
   cases (hy : VP G w (.hsl ..) vy) with
   | hsl0 => exact absurd rfl hcy
   | hsl q1 q2 q3 =>
    rename_i oy' by'
    obtain ⟨b1,v1,t1,g1,g2,g3,g4⟩:=hR.heap.objs _ _ hc1
    obtain rfl : bx = b1:=by rw [k1] at g1; exact Option.some.inj g1
    obtain ⟨b2,v2,t2,j1,j2,j3,j4⟩:=hR.heap.objs _ _ hc2
    obtain rfl : by' = b2:=by rw [q1] at j1; exact Option.some.inj j1
    have hbb : bx ≠ by':=by rintro rfl; rw [g2] at j2; cases j2; exact hne rfl
    apply hfin
    refine Lib.run_overlaps_apart w t r e f6 (P.cellsOf e) hsz ⟨bx,ox',none⟩ ⟨by',oy',none⟩ lx cx ly cy hbb t1 t2 v1.size v2.size (by simp [World.shape?,g3]) (by simp [World.shape?,j3]) ?_ (by simp [World.frozen?,g3]) (by simp [World.frozen?,g3])
    rw [← j4.1]
    intro e
    exact hc20 (List.eq_nil_of_length_eq_zero e)
 ·exact h.elim
theorem setH_same {st : St} {id : Nat} {cs : List DV} (h : st.H[id]? = some (.cells cs)) : st.H.set id (.cells cs) = st.H:=by
 apply List.ext_getElem?
 intro j
 rw [List.getElem?_set]
 split
 ·rename_i e3
  subst e3
  split
  ·exact h.symm
  ·rename_i hlt
   exact absurd (List.getElem?_eq_some_iff.1 h).1 hlt
 ·rfl
theorem op_clear {o : Oper} {x : Operand} {t : TypeId} (ho : o.op = .call { callee:=.builtin .clear,args:=#[x],argTypes:=#[t] }) (hR : Rel N0 w0 d G w st a.tmps)
  (h : clearD P st t (rho P st t x) fun st' => K (st'.put? o.dst (.tup []))) : OpTo P N0 w0 d G w a o K:=by
 have hx:=hR.rho (P:=P) t x
 have hexec : (execOp a.eval o).run P w = ((Builtin.clear_ #[t] o.type #[a.eval x]).run P w).andThen fun v w' => .ok (.value v) w':=by
  simp [execOp,ho,resolve,invoke,builtin]
 unfold clearD at h
 split at h
 ·rename_i e id sz off len cap hu hxr
  obtain ⟨he,hpos,rfl,hz,hsc,h⟩:=h
  rw [hxr] at hx
  split at h
  ·rename_i cs hcs0
   obtain ⟨hfit,hK⟩:=h
   have ptup : ∀ {G' : Gh} {w' : World},SV G' w' d (.tup []) (.tuple #[]):=⟨#[],rfl,rfl,by intro j c x hc; simp at hc⟩
   cases hxe : a.eval x with
   | slice base l c =>
    rw [hxe] at hx
    by_cases hl0 : l = 0
    ·have hlen : len = 0:=by
      cases (hx : VP G w (.hsl ..) _) with
      | hsl0 => rfl
      | hsl h2 h3 h4 => exact hl0
     subst hl0 hlen
     have e1 : putAt cs off (List.replicate 0 ((zeroDV P 4 e).map DV.ro1)).flatten = cs:=by simp [putAt]
     rw [e1] at hK
     have hR' : Rel N0 w0 d G w (st.setH id (.cells cs)) a.tmps:=⟨hR.len,hR.slots,hR.boxes,hR.nobox,fun t p v hl => hR.links t p v (List.mem_filter.1 hl).1,by
      have:=hR.heap
      simp only [St.setH,setH_same hcs0]
      exact this⟩
     have hrun : (Builtin.clear_ #[t] o.type #[.slice base 0 c]).run P w = .ok (.tuple #[]) w:=by
      cases base <;> simp only [Builtin.clear_,List.getElem?_toArray,List.getElem?_cons_zero,Sem.run_bind,run_underlying hu,Result.andThen_ok,Sem.run_pure]
     refine ⟨_,_,_,_,.inl ?_,hK,Ext.refl _ _ _,hR'.put? ptup rfl⟩
     rw [hexec,hxe,hrun]
     rfl
    ·generalize hlen' : len = len' at *
     cases (hx : VP G w (.hsl ..) _) with
     | hsl0 => exact absurd rfl hl0
     | hsl h2 h3 h4 =>
      subst hlen'
      rename_i off' b
      obtain ⟨b',vs,te,k1,k2,k3,k4⟩:=hR.heap.objs _ _ hcs0
      obtain rfl : b = b':=by rw [h2] at k1; exact Option.some.inj k1
      have hsz : cs.length = vs.size:=k4.1
      have hoff : off' = off:=by rcases h4 with h4 | h4; omega; exact h4
      subst hoff
      obtain ⟨i,z,hi,hzz,hzs,hzl,hzv⟩:=zeroOk_cells (G:=G) (w:=w) hz
      have hcs : P.cellsOf e = i.size:=by simp [Program.cellsOf,hi]
      have hzr : (zeroValue e).run P w = .ok z w:=by simp [zeroValue,typeInfo,hi,hzz]
      have hnl : (Builtin.zeroCells z.cells len).toList.length = len * P.cellsOf e:=by rw [Array.length_toList,size_zeroCells,hzs,hcs]
      have hdl : (List.replicate len ((zeroDV P 4 e).map DV.ro1)).flatten.length = len * P.cellsOf e:=by
       rw [List.length_flatten_replicate',List.length_map,hzl,hcs]
      have hvv : ∀ (j : Nat) (c : DV) (u : Value),(List.replicate len ((zeroDV P 4 e).map DV.ro1)).flatten[j]? = some c→(Builtin.zeroCells z.cells len).toList[j]? = some u→VP G w c u:=fun j c u hc hu' => by
       obtain ⟨hjl,hjm⟩:=flatten_replicate_get len _ _ c hc
       rw [List.length_map,hzl] at hjl hjm
       rw [Array.getElem?_toList,zeroCells_get _ _ _ (by rw [hzs]; exact hjl),hzs] at hu'
       rw [List.getElem?_map] at hjm
       obtain ⟨c0,hc0,rfl⟩:=Option.map_eq_some_iff.1 hjm
       exact (hzv _ c0 u hc0 hu').ro1
      have hone : ∀ u∈(Builtin.zeroCells z.cells len).toList,u.oneCell' = true:=fun u hu' => by
       obtain ⟨j,hj⟩:=List.mem_iff_getElem?.1 hu'
       have hjl:=(List.getElem?_eq_some_iff.1 hj).1
       have hjc : j < (List.replicate len ((zeroDV P 4 e).map DV.ro1)).flatten.length:=by rw [hdl]; omega
       refine (hvv j _ u (List.getElem?_eq_getElem hjc) hj).oneCell ?_
       obtain ⟨l0,hl0',hm0⟩:=List.mem_flatten.1 (List.getElem_mem hjc)
       have:=(List.mem_replicate.1 hl0').2
       subst this
       obtain ⟨c0,h0,e0⟩:=List.mem_map.1 hm0
       rw [← e0]
       rw [List.all_eq_true] at hsc
       have:=hsc c0 h0
       cases c0 <;> first | rfl | exact this
      have hst:=run_storeCells_at P b off' te (Builtin.zeroCells z.cells len).toList 0 vs w k3 (by rw [hnl]; omega) hone
      rw [Nat.add_zero] at hst
      obtain ⟨n,hn⟩ : ∃ n,len = n + 1:=⟨len - 1,by omega⟩
      have hrun : (Builtin.clear_ #[t] o.type #[.slice (some ⟨b,off',none⟩) len cap]).run P w = .ok (.tuple #[]) (w.setRow b (vs.toList.take off' ++ (Builtin.zeroCells z.cells len).toList ++ vs.toList.drop (off' + (Builtin.zeroCells z.cells len).toList.length)).toArray):=by
       subst hn
       simp only [Builtin.clear_,List.getElem?_toArray,List.getElem?_cons_zero,Sem.run_bind,run_underlying hu,Result.andThen_ok,hzr,hst,Sem.run_pure]
      have h5:=hR.storeH (id:=id) (b:=b) (off:=off') (ds:=(List.replicate len ((zeroDV P 4 e).map DV.ro1)).flatten) (us:=(Builtin.zeroCells z.cells len).toList) hcs0 h2 k3 (by rw [hdl,hnl]) (by rw [hdl]; omega)
       (fun j c u hc hu' => ⟨hvv j c u hc hu',fun sz xs e => by
        obtain ⟨l0,hl0',hm0⟩:=List.mem_flatten.1 (List.mem_of_getElem? hc)
        have:=(List.mem_replicate.1 hl0').2
        subst this
        exact absurd e (ro1_no_own _ hm0 sz xs)⟩)
      refine ⟨_,_,_,_,.inl ?_,hK,h5.2,h5.1.put? ptup rfl⟩
      rw [hexec,hxe,hrun]
      rfl
   | _ => rw [hxe] at hx; cases (hx : VP G w (.hsl ..) _)
  ·exact h.elim
 ·exact h.elim
end Go.Ab

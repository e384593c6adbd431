/- A part of the proof; no condition of its own. -/
import Derived.Test.YtoebbafmopdfbaaGreatDoorAcX
set_option linter.unusedSimpArgs false
set_option linter.unusedVariables false
/- AcY: Quiet operations: those that leave the abstract state as it is but for their own slot. -/
namespace Go.Ab
open Go Go.Conc Go.RowKit
section defs
variable (P : Program)
def buildQ (fs : Array Field) (st : St) : List (Nat × Operand)→List DV→(List DV→Prop)→Prop
 | [],cs,K => K cs
 | (i,x) :: r,cs,K => match fs[i]? with
  | some f => (rho P st f.type x).flat = true∧(rho P st f.type x).ro.cells.length = P.cellsOf f.type∧f.offset + (rho P st f.type x).ro.cells.length≤cs.length∧(rho P st f.type x).ro.cells.all DV.scalar = true ∧
    buildQ fs st r (putAt cs f.offset (rho P st f.type x).ro.cells) K
  | none => False
def dq (o : Oper) (st : St) (K : DV→Prop) : Prop :=
 match o.op with
 | .move x => K (rho P st o.type x).roA
 | .assign x => K (rho P st o.type x).roA
 | .pick c x y => match rho P st o.type c with
  | .bool b => K (if b then (rho P st o.type x).roA else (rho P st o.type y).roA)
  | _ => False
 | .build t parts => match P.underlying t with
  | some (.struct fs) => isAggT P t = true∧zeroOk P t (zeroDV P 6 t) = true∧(fs.toList.all fun f => (P.underlying f.type).isSome) = true∧buildQ P fs st parts.toList ((zeroDV P 6 t).map DV.ro1) fun cs => K (.agg (cs.map DV.ro1))
  | _ => False
 | .load t a => dload P st t (rho P st 0 a) K
 | .nilCheck x => match rho P st 0 x with
  | .ptr i q => K (.ptr i q)
  | .lptr s g q => K (.lptr s g q)
  | .vptr cs => K (.vptr cs)
  | _ => False
 | .binOp op xt x y yt => dbin P op xt (rho P st xt x) (rho P st yt y) K
 | .unOp op t x => dun op (rho P st t x) K
 | .convert s t x => dconv P st s t (rho P st s x) K
 | .slice t x lo hi none => dslice P t (rho P st t x) (lo.map (rho P st 3)) (hi.map (rho P st 3)) K
 | .fieldAddr t x f => dfieldAddr P t (rho P st 0 x) f K
 | .field t x f => dfield P t (rho P st t x) f K
 | .indexAddr t x i => dindexAddr P t (rho P st t x) (rho P st 3 i) K
 | .index t x i => dindex P t (rho P st t x) (rho P st 3 i) K
 | .lookup t m k ok => (rho P st 0 k).plain∧dlookup P st t (rho P st t m) (rho P st 0 k) ok K
 | .extract x i => dextract (rho P st 0 x) i K
 | .call { callee:=.builtin b,args,argTypes } =>
  match b,args.toList,argTypes.toList with
  | .len,[x],[t] => dlen P st t (rho P st t x) K
  | .max,[x,y],_ => dminmax true [rho P st 0 x,rho P st 0 y] K
  | .min,[x,y],_ => dminmax false [rho P st 0 x,rho P st 0 y] K
  | _,_,_ => False
 | _ => False
def dqw (ops : Array Oper) (o : Oper) (st : St) (dv : DV) : Prop :=
 match dwant ops o st with
 | some b => (b = true→dq P o st (dv = ·))∧(b = false→dv = .tup [])
 | none => False
end defs
variable {P : Program} {N0 : Nat} {w0 : World} {d : Nat} {G : Gh} {w : World} {st : St} {a : Act}
theorem buildQ_sound {fs : Array Field} (hR : Rel N0 w0 d G w st a.tmps) : ∀ (parts : List (Nat × Operand)) (cs : List DV) (cells : Array Value) (K : List DV→Prop),
  cs.length = cells.size→(∀ (j : Nat) (c : DV) (v : Value),cs[j]? = some c→cells[j]? = some v→VP G w c v)→buildQ P fs st parts cs K →
  ∃ cs' cells',Instr.fill (fun i => (fs[i]?).map fun f => (f.offset,P.cellsOf f.type)) cells (parts.map fun x => (x.1,a.eval x.2)) = some cells'∧K cs'∧cs'.length = cells'.size ∧
   (∀ (j : Nat) (c : DV) (v : Value),cs'[j]? = some c→cells'[j]? = some v→VP G w c v):=by
 intro parts
 induction parts with
 | nil => exact fun cs cells K hl hc h => ⟨cs,cells,rfl,h,hl,hc⟩
 | cons p r ih =>
  intro cs cells K hl hc h
  obtain ⟨i,x⟩:=p
  unfold buildQ at h
  split at h
  ·rename_i f hf
   obtain ⟨hfl,hsz,hfit,hsc,h⟩:=h
   have hv0:=(sv_flat (hR.rho (P:=P) f.type x) hfl).ro
   obtain ⟨hl2,hc2⟩:=hand_cells (SV.of_vp (d:=d) hv0) (sown_of_noOwn (by have:=noOwn_ro (rho P st f.type x); cases e : rho P st f.type x <;> rw [e] at this hfl <;> first | exact this | simp [DV.flat] at hfl)) hsc
   obtain ⟨cs',cells',a1,a4,a5,a6⟩:=ih (putAt cs f.offset (rho P st f.type x).ro.cells) (((a.eval x).cells.toList.zipIdx 0).foldl (fun cs (x : Value × Nat) => cs.setIfInBounds (f.offset + x.2) x.1) cells) K
    (by rw [putAt_length hfit,hl,foldl_set' _ _ _ (by simp; omega)]; simp; omega)
    (fun j c v hj hv => by
     rw [foldl_set' _ _ _ (by simp; omega)] at hv
     have e : (cells.toList.take f.offset ++ (a.eval x).cells.toList ++ cells.toList.drop (f.offset + (a.eval x).cells.toList.length)).toArray[j]? = (cells.toList.take f.offset ++ (a.eval x).cells.toList ++ cells.toList.drop (f.offset + (a.eval x).cells.toList.length))[j]?:=by simp
     rw [e,putAt_get _ _ _ (by simp; omega)] at hv
     unfold putAt at hj
     rw [putAt_get _ _ _ hfit] at hj
     have hll : (a.eval x).cells.toList.length = (rho P st f.type x).ro.cells.length:=by simp [hl2]
     rw [hll] at hv
     split at hj
     ·rename_i hjj
      rw [if_pos hjj] at hv
      exact (hc2 _ c v hj (by simpa using hv)).1
     ·rename_i hjj
      rw [if_neg hjj] at hv
      exact hc j c v hj (by simpa using hv)) h
   refine ⟨cs',cells',?_,a4,a5,a6⟩
   simp only [List.map_cons,Instr.fill,hf,Option.map_some]
   have hn : ¬ ((decide ((a.eval x).cells.size ≠ P.cellsOf f.type) || decide (f.offset + (a.eval x).cells.size > cells.size)) = true):=by rw [← hl2,← hl]; simp; omega
   rw [if_neg hn]
   rw [← Array.foldl_toList,Array.toList_zipIdx]
   exact a1
  ·exact h.elim
theorem dq_sound {o : Oper} {K : DV→Prop} (h : dq P o st K) (hR : Rel N0 w0 d G w st a.tmps) : ∃ dv v,K dv∧(execOp a.eval o).run P w = .ok (.value v) w∧SV G w d dv v∧dv.noOwn = true:=by
 have fin : ∀ {s : Sem Value},PR P G w d K s→execOp a.eval o = (do pure (.value (← s)))→∃ dv v,K dv∧(execOp a.eval o).run P w = .ok (.value v) w∧SV G w d dv v∧dv.noOwn = true:=by
  rintro s ⟨dv,v,h1,h2,h3,h4⟩ he
  exact ⟨dv,v,h1,by rw [exec_v he,h2]; rfl,h3,h4⟩
 unfold dq at h
 split at h
 ·rename_i x hop
  exact ⟨_,_,h,by simp [execOp,hop],(hR.rho o.type x).roA,noOwn_roA _⟩
 ·rename_i x hop
  exact ⟨_,_,h,by simp [execOp,hop],(hR.rho o.type x).roA,noOwn_roA _⟩
 ·rename_i c x y hop
  split at h
  ·rename_i b hb
   have hc:=hR.rho (P:=P) o.type c
   rw [hb] at hc
   have hc:=hc.bool
   cases b with
   | true => exact ⟨_,a.eval x,h,by simp [execOp,hop,hc,asBool],(hR.rho o.type x).roA,noOwn_roA _⟩
   | false => exact ⟨_,a.eval y,h,by simp [execOp,hop,hc,asBool],(hR.rho o.type y).roA,noOwn_roA _⟩
  ·exact h.elim
 ·rename_i t parts hop
  split at h
  ·rename_i fs hu
   obtain ⟨ha,hz,hfs,h⟩:=h
   rw [List.all_eq_true] at hfs
   obtain ⟨z,hz1,hz2⟩:=zeroOk_sound (G:=G) (w:=w) hz
   have e1 : ofCells P t (zeroDV P 6 t) = .agg (zeroDV P 6 t):=by simp [ofCells,ha]
   rw [e1] at hz2
   cases hz2 with
   | @agg _ vs hl hc =>
    obtain ⟨cs',cells',a1,a4,a5,a6⟩:=buildQ_sound hR parts.toList ((zeroDV P 6 t).map DV.ro1) vs _ (by simpa using hl) (fun j c v hj hv => by
     rw [List.getElem?_map] at hj
     obtain ⟨c0,hc0,rfl⟩:=Option.map_eq_some_iff.1 hj
     exact (hc j c0 v hc0 hv).ro1) h
    refine ⟨_,.agg cells',a4,?_,SV.of_vp (.agg (by simpa using a5) fun j c v hj hv => ?_),?_⟩
    ·rw [exec_v (s:=Instr.build t (parts.map fun (i,x) => (i,a.eval x))) (by simp only [execOp,hop])]
     have hplaces:=run_fieldPlaces (P:=P) (w:=w) (fs:=fs) (fun f hf => Option.isSome_iff_exists.1 (hfs f hf))
     have hfill : Instr.fill (fun x => (fs.map fun f => (f.offset,P.cellsOf f.type))[x]?) vs (parts.map fun (i,x) => (i,a.eval x)).toList = some cells':=by
      rw [← a1]
      congr 1
      ·funext i; simp
      ·simp
     simp only [Instr.build,Sem.run_bind,hz1,Result.andThen_ok,run_underlying hu,hplaces,Value.cells,hfill,Sem.run_pure]
    ·rw [List.getElem?_map] at hj
     obtain ⟨c0,hc0,rfl⟩:=Option.map_eq_some_iff.1 hj
     exact (a6 j c0 v hc0 hv).ro1
    ·simp only [DV.noOwn,DV.cells,List.all_map,List.all_eq_true]
     intro x _
     simp [own1_ro1]
  ·exact h.elim
 ·rename_i t x hop
  exact fin (dload_sound hR (hR.rho 0 x) h) (by simp only [execOp,hop])
 ·rename_i x hop
  split at h
  ·rename_i i q hx
   have hr:=hR.rho (P:=P) 0 x
   rw [hx] at hr
   obtain ⟨b,_,e⟩:=hr.ptr
   exact ⟨_,a.eval x,h,by simp [execOp,hop,e],by assumption,rfl⟩
  ·rename_i s g q hx
   have hr:=hR.rho (P:=P) 0 x
   rw [hx] at hr
   have hr2:=hr
   obtain ⟨b,_,e⟩:=(hr2 : SV G w d (.lptr _ _ _) _)
   exact ⟨_,a.eval x,h,by simp [execOp,hop,e],hr,rfl⟩
  ·rename_i cs hx
   have hr:=hR.rho (P:=P) 0 x
   rw [hx] at hr
   obtain ⟨b,off,e,_⟩:=(hr : VP G w (.vptr _) _).at
   exact ⟨_,a.eval x,h,by simp [execOp,hop,e],hr,rfl⟩
  ·exact h.elim
 ·rename_i op xt x y yt hop
  exact fin (dbin_sound (ox:=x) (oy:=y) (hR.rho xt x) (hR.rho yt y) h) (by simp only [execOp,hop])
 ·rename_i op t x hop
  exact fin (dun_sound (hR.rho t x) h) (by simp only [execOp,hop])
 ·rename_i s t x hop
  exact fin (dconv_sound hR (hR.rho s x) h) (by simp only [execOp,hop])
 ·rename_i t x lo hi hop
  exact fin (dslice_sound (hR.rho t x) (opt_sv hR 3 lo) (opt_sv hR 3 hi) h) (by simp only [execOp,hop]; rfl)
 ·rename_i t x f hop
  exact fin (dfieldAddr_sound (hR.rho 0 x) h) (by simp only [execOp,hop])
 ·rename_i t x f hop
  exact fin (dfield_sound (hR.rho t x) h) (by simp only [execOp,hop])
 ·rename_i t x i hop
  exact fin (dindexAddr_sound (hR.rho t x) (hR.rho 3 i) h) (by simp only [execOp,hop])
 ·rename_i t x i hop
  exact fin (dindex_sound (hR.rho t x) (hR.rho 3 i) h) (by simp only [execOp,hop])
 ·rename_i t m k ok hop
  exact fin (dlookup_sound hR (hR.rho t m) (sv_vp (hR.rho 0 k) h.1) h.2) (by simp only [execOp,hop])
 ·rename_i x i hop
  exact fin (dextract_sound (P:=P) (hR.rho 0 x) h) (by simp only [execOp,hop])
 ·rename_i b args ats hop
  have hb : ∀ (s : Sem Value),(builtin b ats o.type (args.map fun | .const _ => true | _ => false) (args.map a.eval)) = (do pure (.value (← s)))→execOp a.eval o = (do pure (.value (← s))):=by
   intro s hs
   rw [← hs]
   simp only [execOp,hop,resolve]
   rfl
  split at h
  ·rename_i x t e1 e2
   have ea : args = #[x]:=Array.toList_inj.1 e1
   have et : ats = #[t]:=Array.toList_inj.1 e2
   subst ea et
   exact fin (dlen_sound hR (hR.rho t x) h) (hb (Builtin.len_ #[t] o.type #[a.eval x]) (by simp [builtin]))
  ·rename_i x y e1
   have ea : args = #[x,y]:=Array.toList_inj.1 e1
   subst ea
   have:=dminmax_sound (P:=P) (mx:=true) (vs:=[a.eval x,a.eval y]) (by rfl) (fun i u v hu hv => by
    match i with
    | 0 => cases hu; cases hv; exact hR.rho 0 x
    | 1 => cases hu; cases hv; exact hR.rho 0 y
    | n + 2 => simp at hu) h ats o.type
   exact fin this (hb _ (by simp [builtin]))
  ·rename_i x y e1
   have ea : args = #[x,y]:=Array.toList_inj.1 e1
   subst ea
   have:=dminmax_sound (P:=P) (mx:=false) (vs:=[a.eval x,a.eval y]) (by rfl) (fun i u v hu hv => by
    match i with
    | 0 => cases hu; cases hv; exact hR.rho 0 x
    | 1 => cases hu; cases hv; exact hR.rho 0 y
    | n + 2 => simp at hu) h ats o.type
   exact fin this (hb _ (by simp [builtin]))
  ·exact h.elim
 ·exact h.elim
theorem rho_congr {st st' : St} {t : TypeId} {x : Operand} (h : ∀ s,x = .tmp s→st.t.getD s .undef = st'.t.getD s .undef) : rho P st t x = rho P st' t x:=by
 cases x with
 | tmp s => exact h s rfl
 | _ => rfl
theorem buildQ_congr {fs : Array Field} {st st' : St} : ∀ (parts : List (Nat × Operand)) (cs : List DV) (K : List DV→Prop),(∀ p∈parts,∀ t,rho P st t p.2 = rho P st' t p.2)→buildQ P fs st parts cs K = buildQ P fs st' parts cs K
 | [],cs,K,_ => rfl
 | (i,x) :: r,cs,K,h => by
  unfold buildQ
  have e:=h (i,x) (by simp)
  simp only at e
  simp only [e]
  split
  ·rw [buildQ_congr r _ K fun p hp => h p (by simp [hp])]
  ·rfl
theorem dq_congr {o : Oper} {st st' : St} {K : DV→Prop} (h : ∀ x∈o.op.operands,∀ t,rho P st t x = rho P st' t x) (hB : st.B = st'.B) (hH : st.H = st'.H) : dq P o st K = dq P o st' K:=by
 obtain ⟨dst,op,type,pos,after,guard⟩:=o
 obtain ⟨t,B,H,lk⟩:=st
 obtain ⟨t',B',H',lk'⟩:=st'
 dsimp only at hB hH
 subst hB hH
 have opt : ∀ (u : TypeId) (x : Option Operand),(∀ y,x = some y→∀ t'',rho P ⟨t,B,H,lk⟩ t'' y = rho P ⟨t',B,H,lk'⟩ t'' y)→x.map (rho P ⟨t,B,H,lk⟩ u) = x.map (rho P ⟨t',B,H,lk'⟩ u):=by
  intro u x hx
  cases x with
  | none => rfl
  | some y => simp [hx y rfl u]
 cases op
 case call c =>
  obtain ⟨callee,args,ats⟩:=c
  cases callee with
  | builtin b =>
   simp only [Op.operands,Call.operands] at h
   simp only [dq]
   split
   ·rename_i x u e1 e2
    have ea : args = #[x]:=Array.toList_inj.1 e1
    subst ea
    rw [h x (by simp)]; rfl
   ·rename_i x y e1
    have ea : args = #[x,y]:=Array.toList_inj.1 e1
    subst ea
    rw [h x (by simp),h y (by simp)]
   ·rename_i x y e1
    have ea : args = #[x,y]:=Array.toList_inj.1 e1
    subst ea
    rw [h x (by simp),h y (by simp)]
   ·rfl
  | _ => rfl
 all_goals (try simp only [dq])
 all_goals (try simp only [Op.operands] at h)
 case build ty parts =>
  have hp : ∀ p∈parts.toList,∀ u,rho P ⟨t,B,H,lk⟩ u p.2 = rho P ⟨t',B,H,lk'⟩ u p.2:=fun p hp u => h p.2 (by simpa using ⟨p.1,by simpa using hp⟩) u
  split
  ·rw [buildQ_congr parts.toList _ _ hp]
  ·rfl
 case slice ty x lo hi mx =>
  cases mx with
  | some m => rfl
  | none =>
   simp only
   rw [h x (by simp),opt 3 lo fun y hy => h y (by simp [hy]),opt 3 hi fun y hy => h y (by simp [hy])]
 case load ty x => rw [h x (by simp)]; rfl
 case convert s ty x => rw [h x (by simp)]; rfl
 case lookup ty m k ok => rw [h m (by simp),h k (by simp)]; rfl
 all_goals (first | rfl | (simp_all; done))
end Go.Ab

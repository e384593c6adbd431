/- A part of the proof; no condition of its own. -/
import Derived.Test.YtoebbafmopdfbaaGreatDoorAcZ
set_option linter.unusedSimpArgs false
set_option linter.unusedVariables false
/- AcW: Calls: contracts over abstract states,how a caller goes through one,how a function's body yields one. -/
namespace Go.Ab
open Go Go.Conc Go.RowKit
variable {P : Program} {isObj : ObjT} {N0 : Nat} {w0 : World} {d : Nat} {G : Gh} {w : World} {st : St}
abbrev Spec:=List HObj→List DV→(List HObj→DV→Prop)→Prop
def Pos.isHp : Pos→Bool
 | .hp .. => true
 | _ => false
def St.called (st : St) (H : List HObj) : St:={ st with H:=H,lk:=st.lk.filter fun x => !x.2.isHp }
theorem Owns.ext {d : Nat} {G' : Gh} {w' : World} (hx : Ext d G w G' w') {o : Owner} (ho : o.outer d) {c : DV} {v : Value} (h : Owns G w o c v) : Owns G' w' o c v:=by
 intro sz xs e
 rcases h sz xs e with h | ⟨b,len,cap,cur,e',h1,h2,h3,h4⟩
 ·exact .inl h
 ·obtain ⟨k1,k2⟩:=hx.arr b o _ ho h2
  exact .inr ⟨b,len,cap,cur,e',h1,k1,k2.trans h3,h4⟩
theorem SV.ext {d e : Nat} {G' : Gh} {w' : World} (hx : Ext d G w G' w') (he : e < d) {dv : DV} {v : Value} (h : SV G w e dv v) : SV G' w' e dv v:=by
 cases dv
 case lptr s g off => obtain ⟨b,h1,h2⟩:=h; exact ⟨b,by rw [hx.lb _ _ _ he]; exact h1,h2⟩
 case lsl s g sz off len => obtain ⟨b,cap,h1,h2⟩:=h; exact ⟨b,cap,by rw [hx.lb _ _ _ he]; exact h1,h2⟩
 case tup ds => obtain ⟨vs,h1,h2,h3⟩:=h; exact ⟨vs,h1,h2,fun j c x hc hx' => (h3 j c x hc hx').keep hx.keep⟩
 all_goals exact VP.keep hx.keep h
theorem Rel.called {tmps : Array Value} (h : Rel N0 w0 d G w st tmps) {G' : Gh} {w' : World} {H' : List HObj} (hx : Ext (d + 1) G w G' w') (hW : WRel N0 w0 G' w' H') : Rel N0 w0 d G' w' (st.called H') tmps where
 len:=h.len
 slots s dv v hs hv:=⟨(h.slots s dv v hs hv).1.ext hx (Nat.lt_succ_self d),fun i j c x hc hx' => ((h.slots s dv v hs hv).2 i j c x hc hx').ext hx (show Owner.outer (d + 1) (.slot d s i j) from Nat.lt_succ_self d)⟩
 boxes s g cs hb:=by
  obtain ⟨b,vs,e,h1,h2,h3,h4⟩:=h.boxes s g cs hb
  obtain ⟨k1,k2⟩:=hx.box b d s (Nat.lt_succ_self d) h2
  exact ⟨b,vs,e,by rw [hx.lb _ _ _ (Nat.lt_succ_self d)]; exact h1,k1,k2.trans h3,h4.1,fun j c v hc hv => ⟨(h4.2 j c v hc hv).1.keep hx.keep,(h4.2 j c v hc hv).2.ext hx (show Owner.outer (d + 1) (.box d s j) from Nat.lt_succ_self d)⟩⟩
 nobox s g hg:=by rw [hx.lb _ _ _ (Nat.lt_succ_self d)]; exact h.nobox s g hg
 links t p v hl ht:=by
  simp only [St.called,List.mem_filter] at hl
  have:=h.links t p v hl.1 ht
  cases p with
  | slot s i => exact this
  | box s g off =>
   simp only [posVal,Option.bind_eq_some_iff] at this ⊢
   obtain ⟨b,h1,h2⟩:=this
   split at h2
   ·rename_i hr
    obtain ⟨k1,k2⟩:=hx.box b d s (Nat.lt_succ_self d) hr
    exact ⟨b,by rw [hx.lb _ _ _ (Nat.lt_succ_self d)]; exact h1,by rw [if_pos k1,World.cell?_of_block (w:=w) (w':=w') k2]; exact h2⟩
   ·cases h2
  | hp id off => simp [Pos.isHp] at hl
 heap:=hW
theorem Ext.mono {d e : Nat} {G' : Gh} {w' : World} (hx : Ext e G w G' w') (h : d≤e) : Ext d G w G' w' :=
 ⟨hx.keep,fun b e' s he => hx.box b e' s (Nat.lt_of_lt_of_le he h),fun b o wm ho => hx.arr b o wm (by cases o <;> simp only [Owner.outer] at * <;> omega),fun e' s g he => hx.lb e' s g (Nat.lt_of_lt_of_le he h),hx.size⟩
/-! ### contracts -/
def Back (N0 : Nat) (w0 : World) (d : Nat) (G : Gh) (w : World) (K : List HObj→DV→Prop) (v : Value) (w' : World) : Prop :=
 ∃ G' H' dv,K H' dv∧Ext (d + 1) G w G' w'∧WRel N0 w0 G' w' H'∧SV G' w' d dv v∧SOwn G' w' (.ret d) dv v
def Enters (P : Program) (f : FuncId) : Prop:=∃ fn,P.funcs[f]? = some fn∧(fn.name == "runtime.NumGoroutine") = false∧fn.body.isNone = false
def Fits (G : Gh) (w : World) (args : List DV) (vs : Array Value) : Prop:=args.length = vs.size∧∀ (j : Nat) (c : DV) (v : Value),args[j]? = some c→vs[j]? = some v→VP G w c v
def RC (I : Jd P) (f : FuncId) (S : Spec) : Prop:=Enters P f ∧
 ∀ (N0 : Nat) (w0 : World) (d : Nat) (G : Gh) (w : World) (H : List HObj) (args : List DV) (vs : Array Value) (K : List HObj→DV→Prop),S H args K→WRel N0 w0 G w H→Fits G w args vs →
  callJ I f vs w (Back N0 w0 d G w K)
theorem RC.mono {I : Jd P} {f : FuncId} {S S' : Spec} (h : RC I f S) (hs : ∀ H args K,S' H args K→S H args K) : RC I f S':=⟨h.1,fun N0 w0 d G w H args vs K hS => h.2 N0 w0 d G w H args vs K (hs H args K hS)⟩
theorem opsJ_fn {I : Jd P} {fn : FuncId} {a : Act} {w : World} {ops : Array Oper} {R : Act→World→Prop} {i : Nat} {rest : List Nat} {o : Oper} {f : FuncId} {args : Array Operand} {ats : Array TypeId} {Post : Value→World→Prop}
  (ho : ops[i]? = some o) (hw : Region.wanted o (yielded ops a.tmps) = true) (hop : o.op = .call { callee:=.value (.func f),args,argTypes:=ats }) (hE : Enters P f)
  (hcall : callJ I f (args.map a.eval) w Post) (hnext : ∀ v w',Post v w'→opsJ I fn ops rest R (a.put o.dst v) w') : opsJ I fn ops (i :: rest) R a w:=by
 obtain ⟨g,hf,hn,hb⟩:=hE
 refine opsJ_enter I ho hw (fun w => ⟨run_call_body hop hf hn hb,?_⟩) hcall hnext
 unfold listed
 rw [events_call_body hop hf hn hb]
 exact seen_none P _
theorem run_call_clo {ρ : Operand→Value} {o : Oper} {f : FuncId} {g : Func} {q : Nat} {args : Array Operand} {ats : Array TypeId} {caps : Array Value} (hop : o.op = .call { callee:=.value (.tmp q),args,argTypes:=ats }) (hq : ρ (.tmp q) = .func (.func f) #[] caps)
  (hf : P.funcs[f]? = some g) (hname : (g.name == "runtime.NumGoroutine") = false) (hb : g.body.isNone = false) : (execOp ρ o).run P w = .ok (.enter f (args.map ρ ++ caps)) w:=by
 have h1 : ¬ g.name = "runtime.NumGoroutine":=by simpa using hname
 have h2 : ¬ g.body = none:=by cases hx : g.body <;> simp_all
 unfold execOp
 simp [hop,resolve,Deferred.ofValue,hq,invoke,callFunc,hf,h1,h2]
theorem events_call_clo {ρ : Operand→Value} {o : Oper} {f : FuncId} {g : Func} {q : Nat} {args : Array Operand} {ats : Array TypeId} {caps : Array Value} (hop : o.op = .call { callee:=.value (.tmp q),args,argTypes:=ats }) (hq : ρ (.tmp q) = .func (.func f) #[] caps)
  (hf : P.funcs[f]? = some g) (hname : (g.name == "runtime.NumGoroutine") = false) (hb : g.body.isNone = false) (es : Array Event) : (execOp ρ o).events P w es = es:=by
 have h1 : ¬ g.name = "runtime.NumGoroutine":=by simpa using hname
 have h2 : ¬ g.body = none:=by cases hx : g.body <;> simp_all
 unfold execOp
 simp [hop,resolve,Deferred.ofValue,hq,invoke,callFunc,hf,h1,h2]
theorem opsJ_clo {I : Jd P} {fn : FuncId} {a b : Act} {w : World} {ops : Array Oper} {R : Act→World→Prop} {i : Nat} {rest : List Nat} {o : Oper} {f : FuncId} {q : Nat} {args : Array Operand} {ats : Array TypeId} {caps : Array Value} {Post : Value→World→Prop}
  (hexec : execOp b.eval o = execOp a.eval o) (ho : ops[i]? = some o) (hw : Region.wanted o (yielded ops b.tmps) = true) (hop : o.op = .call { callee:=.value (.tmp q),args,argTypes:=ats }) (hq : a.eval (.tmp q) = .func (.func f) #[] caps) (hE : Enters P f)
  (hcall : callJ I f (args.map a.eval ++ caps) w Post) (hnext : ∀ v w',Post v w'→opsJ I fn ops rest R (b.put o.dst v) w') : opsJ I fn ops (i :: rest) R b w:=by
 obtain ⟨g,hf,hn,hb⟩:=hE
 refine opsJ_enter I ho hw (fun w => ⟨by rw [hexec]; exact run_call_clo hop hq hf hn hb,?_⟩) hcall hnext
 unfold listed
 rw [hexec,events_call_clo hop hq hf hn hb]
 exact seen_none P _
/-! ### entry -/
theorem VP.cutLb {d : Nat} {c : DV} {v : Value} (h : VP G w c v) : VP (G.cutLb d) w c v:=VP.keep (G:=G) (w:=w) (G':=G.cutLb d) (w':=w) ⟨fun _ _ _ h => h,fun _ _ h => h⟩ h
theorem CellsRel.cutLb {d : Nat} {mk : Nat→Owner} {cs : List DV} {vs : Array Value} (h : CellsRel G w mk cs vs) : CellsRel (G.cutLb d) w mk cs vs:=⟨h.1,fun j c v hc hv => ⟨(h.2 j c v hc hv).1.cutLb,(h.2 j c v hc hv).2⟩⟩
theorem WRel.cutLb {d : Nat} {H : List HObj} (h : WRel N0 w0 G w H) : WRel N0 w0 (G.cutLb d) w H where
 below:=h.below
 le:=h.le
 low:=h.low
 fresh:=h.fresh
 objs id ob ho:=by
  have:=h.objs id ob ho
  cases ob with
  | cells cs => obtain ⟨b,vs,e,h1,h2,h3,h4⟩:=this; exact ⟨b,vs,e,h1,h2,h3,h4.cutLb⟩
  | map es => obtain ⟨b,ms,ck,h1,h2,h3,h4,h5,h6⟩:=this; exact ⟨b,ms,ck,h1,h2,h3,h4,fun i e m he hm => ⟨(h5 i e m he hm).1.cutLb,(h5 i e m he hm).2.1.cutLb,(h5 i e m he hm).2.2⟩,h6⟩
 none:=h.none
def St.init (n : Nat) (args : List DV) (H : List HObj) : St:={ t:=args.map DV.ro ++ List.replicate (n - args.length) (.tup []),B:=[],H:=H,lk:=[] }
theorem Rel.init {H : List HObj} {args : List DV} {vs : Array Value} {n : Nat} (hW : WRel N0 w0 G w H) (hf : Fits G w args vs) (hn : args.all (fun d => match d with | .tup _ => false | _ => true) = true) :
  Rel N0 w0 (d + 1) (G.cutLb (d + 1)) w (St.init n args H) (vs ++ Array.replicate (n - vs.size) undef)∧Ext (d + 1) G w (G.cutLb (d + 1)) w:=by
 refine ⟨⟨by simp [St.init,hf.1],fun s dv v hs hv => ?_,fun s g cs hb => by simp [St.init,bget] at hb,fun s g _ => by simp [Gh.cutLb],fun t p v hl => by simp [St.init] at hl,hW.cutLb⟩,
  ⟨⟨fun _ _ _ h => h,fun _ _ h => h⟩,fun _ _ _ _ h => ⟨h,rfl⟩,fun _ _ _ _ h => ⟨h,rfl⟩,fun e s g he => by simp only [Gh.cutLb]; rw [if_neg (by omega)],Nat.le_refl _⟩⟩
 simp only [St.init] at hs
 have hl : args.length = vs.size:=hf.1
 rcases Nat.lt_or_ge s args.length with h | h
 ·rw [List.getElem?_append_left (by simpa using h),List.getElem?_map] at hs
  rw [Array.getElem?_append_left (by omega)] at hv
  obtain ⟨c,hc,rfl⟩:=Option.map_eq_some_iff.1 hs
  have hc':=List.all_eq_true.1 hn c (List.mem_of_getElem? hc)
  refine ⟨SV.of_vp (hf.2 s c v hc hv).ro.cutLb,sown_of_noOwn ?_⟩
  have:=noOwn_ro c
  cases c <;> first | exact this | simp at hc'
 ·rw [List.getElem?_append_right (by simpa using h)] at hs
  rw [Array.getElem?_append_right (by omega)] at hv
  have e1 : dv = .tup []:=by
   rw [List.getElem?_replicate] at hs
   split at hs <;> simp_all
  have e2 : v = undef:=by
   rw [Array.getElem?_replicate] at hv
   split at hv <;> simp_all
  subst e1 e2
  exact ⟨⟨#[],rfl,rfl,fun j c x hc => by simp at hc⟩,sown_of_noOwn rfl⟩
/-! ### return -/
def resultD (t : List DV) : List Nat→DV
 | [] => .tup []
 | [r] => t.getD r .undef
 | rs => .tup (rs.map fun r => t.getD r .undef)
def fromSlots (d : Nat) (rs : List Nat) (o : Owner) : Owner:=match o with
 | .slot e s i j => if e = d + 1∧i = 0∧s∈rs then (match rs with | [_] => .ret d 0 j | _ => .ret d (rs.idxOf s + 1) j) else o
 | _ => o
theorem fromSlots_outer {rs : List Nat} {o : Owner} (h : o.outer (d + 1)) : fromSlots d rs o = o:=by
 cases o <;> simp only [fromSlots,Owner.outer] at *
 rw [if_neg (by omega)]
def DV.flat : DV→Bool
 | .lptr .. | .lsl .. | .tup _ => false
 | _ => true
theorem sv_flat {dv : DV} {v : Value} (h : SV G w d dv v) (hn : dv.flat = true) : VP G w dv v:=by
 cases dv <;> first | exact h | simp [DV.flat] at hn
def resV (tmps : Array Value) : List Nat→Value
 | [r] => tmps.getD r undef
 | rs => .tuple (rs.map fun r => tmps.getD r undef).toArray
theorem mapM_tmps {g : ResultVar→Sem Value} {f : Nat→Value} (hg : ∀ t,g (.tmp t) = pure (f t)) (rs : List Nat) : (rs.map ResultVar.tmp).toArray.mapM g = pure (rs.map f).toArray:=by
 have : (rs.map ResultVar.tmp).mapM g = pure (rs.map f):=by
  induction rs with
  | nil => rfl
  | cons r rs ih => simp only [List.map_cons,List.mapM_cons,hg,pure_bind,ih]
 rw [List.mapM_toArray,this]
 simp
theorem results_eq {fn : Func} {rs : List Nat} (h : fn.results = (rs.map ResultVar.tmp).toArray) (tmps : Array Value) : results fn tmps = pure (resV tmps rs):=by
 unfold results
 rw [h,mapM_tmps (f:=fun t => tmps.getD t undef) (fun t => rfl),pure_bind]
 match rs with
 | [] => rfl
 | [r] => rfl
 | r :: q :: rs => simp [resV]
theorem resultsC_eq {fn : Func} {rs : List Nat} (h : fn.results = (rs.map ResultVar.tmp).toArray) (tmps : Array Value) : ResultsC P fn tmps (resV tmps rs):=fun w => by
 rw [results_eq h]; exact ⟨by simp,by simp⟩
theorem Rel.back {tmps : Array Value} {rs : List Nat} (h : Rel N0 w0 (d + 1) G w st tmps) (hrs : rs.all (fun r => (decide (r < st.t.length)) && (st.t.getD r .undef).flat) = true) (hnd : rs.Nodup) :
  ∃ G',Ext (d + 1) G w G' w∧WRel N0 w0 G' w st.H∧SV G' w d (resultD st.t rs) (resV tmps rs)∧SOwn G' w (.ret d) (resultD st.t rs) (resV tmps rs):=by
 refine ⟨G.ren (fromSlots d rs),ext_ren fun o ho => fromSlots_outer ho,h.heap.wk rfl fun id ob' ho => ⟨ob',ho,?_⟩,?_⟩
 ·cases ob' with
  | cells cs => exact ⟨rfl,fun j c' hc => ⟨c',hc,.inl ⟨rfl,rfl⟩⟩⟩
  | map es => rfl
 have one : ∀ r∈rs,∃ dv v,st.t[r]? = some dv∧tmps[r]? = some v∧VP G w dv v∧dv.flat = true∧SOwn G w (.slot (d + 1) r) dv v:=by
  intro r hr
  have:=List.all_eq_true.1 hrs r hr
  simp only [Bool.and_eq_true,decide_eq_true_eq] at this
  obtain ⟨hlt,hfl⟩:=this
  have hlt' : r < tmps.size:=h.len ▸ hlt
  have e : st.t.getD r .undef = st.t[r]:=by simp [List.getD,hlt]
  rw [e] at hfl
  obtain ⟨a1,a2⟩:=h.slots r st.t[r] tmps[r] (by simp [hlt]) (by simp [hlt'])
  exact ⟨_,_,by simp [hlt],by simp [hlt'],sv_flat a1 hfl,hfl,a2⟩
 have sing : ∀ r,r∈rs→rs = [r]→SV (G.ren (fromSlots d rs)) w d (st.t.getD r .undef) (tmps.getD r undef)∧SOwn (G.ren (fromSlots d rs)) w (.ret d) (st.t.getD r .undef) (tmps.getD r undef):=by
  intro r hr hone
  obtain ⟨dv,v,a1,a2,a3,a4,a5⟩:=one r hr
  have e1 : st.t.getD r .undef = dv:=by simp [List.getD,a1]
  have e2 : tmps.getD r undef = v:=by simp [Array.getD_eq_getD_getElem?,a2]
  rw [e1,e2]
  refine ⟨SV.of_vp (a3.keep keep_ren),fun i j c x hc hx => ?_⟩
  have hi : i = 0:=by
   cases dv <;> first | (simp [DV.flat] at a4; done) | (simp only [DV.part] at hc; split at hc <;> simp_all)
  subst hi
  have:=(a5 0 j c x hc hx).ren (f:=fromSlots d rs)
  simpa [fromSlots,hone] using this
 match rs,sing,one,hnd with
 | [r],sing,_,_ => exact sing r (by simp) rfl
 | [],_,_,_ => exact ⟨⟨#[],rfl,rfl,by intro j c x hc; simp at hc⟩,sown_of_noOwn rfl⟩
 | r :: q :: rs',_,one,hnd =>
  generalize hrs' : r :: q :: rs' = rs at *
  have e1 : resultD st.t rs = .tup (rs.map fun r => st.t.getD r .undef):=by subst hrs'; rfl
  have e2 : resV tmps rs = .tuple (rs.map fun r => tmps.getD r undef).toArray:=by subst hrs'; rfl
  rw [e1,e2]
  have at_ : ∀ (j : Nat) (c : DV) (x : Value),(rs.map fun r => st.t.getD r .undef)[j]? = some c→(rs.map fun r => tmps.getD r undef)[j]? = some x→∃ r,rs[j]? = some r∧VP G w c x∧c.flat = true∧SOwn G w (.slot (d + 1) r) c x:=by
   intro j c x hc hx
   rw [List.getElem?_map] at hc hx
   obtain ⟨r,hr,rfl⟩:=Option.map_eq_some_iff.1 hc
   rw [hr] at hx
   cases hx
   obtain ⟨dv,v,a1,a2,a3,a4,a5⟩:=one r (List.mem_of_getElem? hr)
   have e1 : st.t.getD r .undef = dv:=by simp [List.getD,a1]
   have e2 : tmps.getD r undef = v:=by simp [Array.getD_eq_getD_getElem?,a2]
   simp only [e1,e2]
   exact ⟨r,hr,a3,a4,a5⟩
  refine ⟨⟨_,rfl,by simp,fun j c x hc hx => ?_⟩,fun i j c x hc hx => ?_⟩
  ·obtain ⟨r,_,h1,_⟩:=at_ j c x hc (by simpa using hx)
   exact h1.keep keep_ren
  ·simp only [DV.part] at hc
   simp only [vpart] at hx
   split at hc
   ·cases hc
   ·rename_i hi
    rw [if_neg hi] at hx
    simp only [Option.bind_eq_some_iff] at hc hx
    obtain ⟨c0,hc0,hc1⟩:=hc
    obtain ⟨x0,hx0,hx1⟩:=hx
    obtain ⟨r',hr',hv,hfl,ho⟩:=at_ (i - 1) c0 x0 hc0 (by simpa using hx0)
    have p1 : DV.part 0 j c0 = some c:=by cases c0 <;> simp_all [DV.part,DV.flat]
    have hidx : rs.idxOf r' = i - 1:=by
     obtain ⟨hl1,hl2⟩:=List.getElem?_eq_some_iff.1 hr'
     rw [← hl2]
     exact List.Nodup.idxOf_getElem hnd _ hl1
    have hmem : r'∈rs:=List.mem_of_getElem? hr'
    have hf : fromSlots d rs (.slot (d + 1) r' 0 j) = .ret d i j:=by
     subst hrs'
     simp only [fromSlots,hmem,and_self,if_true,hidx]
     congr 1
     omega
    intro sz xs ec
    have hx0' : ∀ vs,x0 ≠ .tuple vs:=by
     rintro vs rfl
     subst ec
     cases hv
     cases j <;> simp [DV.cells] at hc1
    have p2 : vpart 0 j x0 = some x:=by
     cases x0 <;> first | exact absurd rfl (hx0' _) | (simp only [vpart,if_true]; exact hx1)
    have:=(ho 0 j c x p1 p2).ren (f:=fromSlots d rs)
    rw [hf] at this
    exact this sz xs ec
end Go.Ab

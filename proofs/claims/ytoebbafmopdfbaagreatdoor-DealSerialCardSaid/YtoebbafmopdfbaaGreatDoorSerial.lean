/- The statement DealSerial as its card says it: deals that commit read what there is when they do: done one behind the other, in the order in which they commit, each reads the same; it has no condition of its own. -/
import Derived.Test.YtoebbafmopdfbaaGreatDoorRows
import Derived.Test.YtoebbafmopdfbaaGreatDoorCards
import Derived.Test.YtoebbafmopdfbaaGreatDoorTie
import Derived.ProofKit
import Derived.Carry
import Derived.LaidMore
import Derived.OpenShut
import Derived.SevenTiedAt
import Derived.Conc.Holds
import Derived.ChangeSlices
import Derived.Test.YtoebbafmopdfbaaGreatDoorEnEM
set_option linter.unusedSimpArgs false
set_option linter.unusedVariables false
namespace Go.Ab.En
open Go Go.Conc Go.RowKit Go.Ab
def KT : List HObj→DV→Prop:=fun _ dv => dv = .bool true
def G0 (W : World) : Gh:=⟨fun b => if b < W.heap.size then .imm else .no,fun _ => none,fun _ _ _ => none⟩
theorem wrel0 (W : World) : WRel W.heap.size W (G0 W) W []:=⟨Below.refl _ _,Nat.le_refl _,fun b hb => .inl (by simp [G0,hb]),fun b hb => by simp [G0]; omega,by simp,fun _ _ => rfl⟩
theorem back_true {N0 : Nat} {w0 : World} {d : Nat} {G : Gh} {w : World} {v : Value} {w' : World} (h : Back N0 w0 d G w KT v w') : v = .bool true∧Below N0 w0 w':=by
 obtain ⟨G',H',dv,hk,_,h3,h4,_⟩:=h
 have hk : dv = .bool true:=hk
 subst hk
 exact ⟨by cases (h4 : VP ..); rfl,h3.below⟩
theorem fits_nil {G : Gh} {w : World} : Fits G w [] (List.toArray []):=⟨rfl,fun j c v hc => by simp at hc⟩
theorem fits_cons {G : Gh} {w : World} {x : DV} {v : Value} {args : List DV} {vs : List Value} (h : VP G w x v) (k : Fits G w args vs.toArray) : Fits G w (x :: args) (v :: vs).toArray:=by
 refine ⟨by have:=k.1; simp at this ⊢; exact this,fun j c u hc hv => ?_⟩
 cases j with
 | zero => simp at hc hv; subst hc hv; exact h
 | succ j => exact k.2 j c u (by simpa using hc) (by simpa using hv)
end Go.Ab.En
namespace Go
open Go.Conc
theorem returnsInLeavingWide_of_calls {a : Assume} {C : Checked} {os : Os} {f : FuncId} {r : Reach} {Pre : World→Array Value→Prop} {Post : World→Array Value→Value→World→Prop}
  (own : ownKnob C.prog.godebug = none) (started : os.Started) (noInit : C.prog.inits.idxOf? f = none)
  (witness : ∃ (w : World) (tape : Tape) (i : Input),w.os = os∧(w.forCall tape i).Shaped C.prog∧i.vars = []∧Input.okWide C.prog (w.forCall tape i) r w.heap.size f i∧Pre (w.forCall tape i).memory i.args ∧
   a.holds C.prog (lone (Frame.enter C.prog f i.args .normal) [] (w.forCall tape i)))
  (contract : ∀ (w : World) (tape : Tape) (i : Input),w.os = os→(w.forCall tape i).ShapedOpen C.prog→i.vars = []→Input.okWide C.prog (w.forCall tape i) r w.heap.size f i→Pre (w.forCall tape i).memory i.args →
   a.holds C.prog (lone (Frame.enter C.prog f i.args .normal) [] (w.forCall tape i)) →
   Calls C.prog f i.args (w.forCall tape i) fun
    | .returned v,w' => Post (w.forCall tape i).blind i.args v w'.blind
    | _,_ => False) :
  ReturnsInLeavingWide a C os f r Pre Post:=fun enter => by
 obtain ⟨w0,t0,i0,a1,a2,a3,a4,a5,a6⟩:=witness
 refine ⟨enter,own,started,⟨w0,t0,i0,a1,a2,a3,a4,a5,a6,trivial⟩,fun w tape i h => ?_⟩
 obtain ⟨n,v,w',fr,hn,hend,hp⟩:=(contract w tape i h.1 h.2.1 h.2.2.1 h.2.2.2.1 h.2.2.2.2.1 h.2.2.2.2.2.1).done_lone noInit
 have ha:=alone_of_lone (w':=w') hn
 exact ⟨n + 1,v,w',hend,(clean_of_lone hn).2,roomy_placeholder ..,hp,⟨n,_,hn,step_of_runs hn hend,⟨ha.2.1,⟨fun g hg => by simp [lone] at hg,rfl⟩,ha.2.2⟩⟩,fun _ _ _ => trivial⟩
section
variable {H : Type} {enc : TypeId × Value→H}
theorem returnsInLeavingWide_of_change_and {a : Assume} {C : Checked} {os : Os} {f : FuncId} {fn : Func} {s : ChangeSpec} {conds : List PathCond} {apart fresh handsOn again : Bool} {X : World→Array Value→Prop}
  (hX : ∀ (w w' : World) (args : Array Value),w.heap = w'.heap→X w args→X w' args)
  (own : ownKnob C.prog.godebug = none) (started : os.Started) (noInit : C.prog.inits.idxOf? f = none) (hfn : C.prog.funcs[f]? = some fn)
  (witness : ∃ (w : World) (tape : Tape) (i : Input),w.os = os∧(w.forCall tape i).Shaped C.prog∧i.vars = []∧Input.okWide C.prog (w.forCall tape i) .any w.heap.size f i ∧
   ((s.pre enc C.prog fn conds apart (w.forCall tape i).memory i.args∧X (w.forCall tape i).memory i.args)∧sizedMet enc C.prog fn (OpenSpec.ofChange s) apart (w.forCall tape i).memory i.args)∧a.holds C.prog (lone (Frame.enter C.prog f i.args .normal) [] (w.forCall tape i)))
  (contract : ∀ (W : World) (base : Nat) (args : Array Value) (ds gs : List (DataW H)) (before : List MemPlace),
   (∀ (j : Nat) t v,fn.params[j]? = some t→args[j]? = some v→Value.okWide C.prog W .any base t v) →
   DataW.Whole enc C.prog fn.params.toList s.vars apart W args.toList ds gs before →
   conds.all (PathCond.test C.prog ⟨fn.params.toList,ds,s.plain.varTypes C.prog,gs⟩) = true →
   (DataW.weightsEach C.prog (fn.params.toList ++ s.plain.varTypes C.prog) (ds ++ gs)).all (·≤reachBytes) = true→X W args →
   a.holds C.prog (lone (Frame.enter C.prog f args .normal) [] W) →
   Calls C.prog f args W fun e W' => ∃ v,e = .returned v∧s.post enc C.prog fn apart fresh handsOn again W args v W') :
  ReturnsInLeavingWide a C os f .any (fun w args => (s.pre enc C.prog fn conds apart w args∧X w args)∧sizedMet enc C.prog fn (OpenSpec.ofChange s) apart w args) (s.post enc C.prog fn apart fresh handsOn again):=by
 refine returnsInLeavingWide_of_calls own started noInit witness ?_
 intro w tape i _ _ _ hok hpre hholds
 obtain ⟨_,_,_,fn',hfn',_,_,_,_,hval⟩:=hok
 have e : fn' = fn:=Option.some.inj (hfn'.symm.trans hfn)
 subst e
 obtain ⟨⟨⟨ds,gs,before,hw,hc⟩,hx⟩,hz⟩:=hpre
 have hw':=DataW.Whole.of_heap (w':=w.forCall tape i) (by rfl) hw
 refine (contract (w.forCall tape i) w.heap.size i.args ds gs before hval hw' hc (hz.weights hw) (hX _ _ _ (by rfl) hx) hholds).mono fun e W' ⟨v,he,hp⟩ => ?_
 subst he
 exact ChangeSpec.post_blind hp
end
theorem Claim7.holds_tied_goes_at (Lk : Looks) {p : Pinned} {s : OpenSpec} {c : OpenClaim} (kinds : List LaidKind) (tests : Bool) (har : Bool × String) (lk : Bool)
  (hc : c.holds p s) (hw : c.wfByText s = true) (htie : c.laidByTextAt Lk p kinds tests)
  (hst : c.start = .entering) (hnb : c.noBlocks = false∧c.again = false) (hm : p.checked.prog.mainIs = some (har.1,har.2.toList)) (hn : (!har.1 && har.2.isEmpty && !lk) = false)
  (hl : ∀ f fn,p.checked.prog.funcNamed c.func = some f→p.checked.prog.funcs[f]? = some fn→lk = p.checked.prog.looks []∧∀ (j : Nat) t,fn.params[j]? = some t→p.checked.prog.wantsStandIn t = false)
  (hg : true = c.goesBy p.checked.prog) :
  Claim7.holds p (.plain s) { stood:={ row:=c,standIns:=[],harness:=har,looks:=lk },kinds:=[],alts:=[],goes:=true,laidByText:=true,laidKinds:=kinds,laidTests:=tests,laidLooks:=Lk }:=by
 have h6 : ∀ r : OpenClaim,Claim7.isSixth { stood:={ row:=r,standIns:=[],harness:=har,looks:=lk },kinds:=[] } = false:=fun r => by simpa [Claim7.isSixth] using hn
 have h0 : Claim7.holdsOne p (.plain s) { stood:={ row:=c,standIns:=[],harness:=har,looks:=lk },kinds:=[],alts:=[],laidByText:=true,laidKinds:=kinds,laidTests:=tests,laidLooks:=Lk } :=
  Claim7.tied_new_at Lk kinds tests (Claim7.new_of_sixth hc har lk hst hnb hm (h6 c) hl) hw
 exact ⟨(Claim7.holdsOne_goes _ _ _ true).2 h0,(fun D hD => by cases hD),htie,(fun h => by cases h),hg⟩
end Go
namespace Go.Proofs.YtoebbafmopdfbaaGreatDoor
open Go.ChangeShapes Go.WideShapes Go.ChangeAt Go.RowKit Go.ChangeMaps Go.Ab Go.Ab.En
theorem Tryz.own : ownKnob Tryz.prog.godebug = none:=by kernel_rfl
end Go.Proofs.YtoebbafmopdfbaaGreatDoor
namespace Go.Proofs.YtoebbafmopdfbaaGreatDoor
open Go.ChangeShapes Go.WideShapes Go.ChangeAt Go.RowKit Go.ChangeMaps Go.Ab Go.Ab.En
theorem Tryz.laidOut : laidOutB Tryz.prog = true:=by kernel_rfl
theorem vp_string {G : Gh} {w : World} (s : ByteArray) : VP G w (.str s.data.toList) (.string s):=by
 have : s = ⟨s.data.toList.toArray⟩:=by cases s; simp
 conv => rhs; rw [this]
 exact .str _
def stepOf : List Value→Stp
 | [.int _ a,.int _ b,.int _ c,.string x,.string y] => ⟨a,b,c,x.data.toList,y.data.toList⟩
 | _ => ⟨0,0,0,[],[]⟩
theorem cells?_five {w : World} {bl off : Nat} {cs : List Value} (h : w.cells? 0 ⟨bl,off,none⟩ 5 = some cs) : ∃ c0 c1 c2 c3 c4,cs = [c0,c1,c2,c3,c4]∧w.cell? ⟨bl,off,none⟩ = some c0∧w.cell? ⟨bl,off + 1,none⟩ = some c1∧w.cell? ⟨bl,off + 2,none⟩ = some c2 ∧
  w.cell? ⟨bl,off + 3,none⟩ = some c3∧w.cell? ⟨bl,off + 4,none⟩ = some c4:=by
 unfold World.cells? at h
 rw [if_pos (Nat.zero_le _),show List.range 5 = [0,1,2,3,4] from rfl] at h
 simp only [List.mapM_cons,List.mapM_nil,add_none,Option.bind_eq_bind,Option.bind_eq_some_iff,Option.pure_def,Option.some.injEq] at h
 obtain ⟨c0,h0,l1,⟨c1,h1,l2,⟨c2,h2,l3,⟨c3,h3,l4,⟨c4,h4,l5,rfl,rfl⟩,rfl⟩,rfl⟩,rfl⟩,rfl⟩:=h
 exact ⟨c0,c1,c2,c3,c4,rfl,h0,h1,h2,h3,h4⟩
set_option maxRecDepth 100000 in
theorem step_cells {H : Type} {enc : TypeId × Value→H} {w : World} {base : Nat} {sp : Nat→Bool} {held : Bool} {fuel : Nat} {c0 c1 c2 c3 c4 : Value} {x : DataW H × List MemPlace} (h : DataW.trod enc Tryz.prog w base sp held fuel 62 [c0,c1,c2,c3,c4] = some x) :
  ∃ (a b c : Int) (s t : ByteArray),c0 = .int .i64 a∧c1 = .int .i64 b∧c2 = .int .u8 c∧c3 = .string s∧c4 = .string t:=by
 obtain ⟨xs,n,_,rfl,hl,hlen,hf⟩:=DataW.trod_struct Tryz.underlying62 h
 match xs,hlen with
 | [y0,y1,y2,y3,y4],_ =>
  have f0:=hf 0 _ rfl
  have f1:=hf 1 _ rfl
  have f2:=hf 2 _ rfl
  have f3:=hf 3 _ rfl
  have f4:=hf 4 _ rfl
  have q3 : Tryz.prog.cellsOf 3 = 1:=cn3
  have q5 : Tryz.prog.cellsOf 5 = 1:=cn5
  have q9 : Tryz.prog.cellsOf 9 = 1:=cn9
  simp only [q3,q5,q9,List.drop_zero,List.drop_succ_cons,List.take_succ_cons,List.take_zero,List.getElem?_cons_zero,List.getElem?_cons_succ] at f0 f1 f2 f3 f4
  obtain ⟨a,h0,_⟩:=DataW.trod_int Tryz.underlying3 f0
  obtain ⟨b,h1,_⟩:=DataW.trod_int Tryz.underlying3 f1
  obtain ⟨c,h2,_⟩:=DataW.trod_int Tryz.underlying5 f2
  obtain ⟨s,h3,_⟩:=DataW.trod_string Tryz.underlying9 f3
  obtain ⟨t,h4,_⟩:=DataW.trod_string Tryz.underlying9 f4
  exact ⟨a,b,c,s,t,List.head_eq_of_cons_eq h0,List.head_eq_of_cons_eq h1,List.head_eq_of_cons_eq h2,List.head_eq_of_cons_eq h3,List.head_eq_of_cons_eq h4⟩
set_option maxRecDepth 100000 in
theorem has_spotS {W : World} {base : Nat} {a : Addr} {len cap : Nat} (h : Value.okWide Tryz.prog W .any base 54 (.slice (some a) len cap)) : a.spot = none:=by
 simp only [Value.okWide,Tryz.underlying54,Cell.okWide,Cell.ok] at h
 exact h.2.2.2.1
set_option maxRecDepth 100000 in
theorem open_steps {H : Type} {enc : TypeId × Value→H} {W : World} {base : Nat} {v : Value} {d : DataW H} {p : List MemPlace} (hval : Value.okWide Tryz.prog W .any base 54 v) (hd : DataW.Trod enc Tryz.prog W 0 (fun _ => true) true 54 v d p) :
  ∃ l : List Stp,VP (G0 W) W (.sl false 5 (l.map stpD)) v∧l.length≤9223372036854775807:=by
 obtain ⟨a0,len,cap,rfl⟩:=okWide_slice Tryz.underlying54 hval
 obtain ⟨fuel,hf⟩:=hd
 rcases DataW.trod_slice Tryz.underlying54 hf with ⟨hcs,hx⟩ | ⟨a,len',cap',elems,rest,n,_,hcs,hx,hb,hl,hm,hlen,hel,_,_⟩
 ·simp [Value.cells] at hcs
  obtain ⟨rfl,rfl,rfl⟩:=hcs
  exact ⟨[],.sl0,by simp⟩
 ·simp [Value.cells] at hcs
  obtain ⟨rfl,rfl,rfl⟩:=hcs
  have hsp:=has_spotS hval
  obtain ⟨bl,off,spot⟩:=a
  simp only at hsp
  subst hsp
  have q62 : Tryz.prog.cellsOf 62 = 5:=cn62
  rw [q62] at hel
  let cell : Nat→Nat→Value:=fun i j => (W.cell? ⟨bl,off + i * 5 + j,none⟩).getD (.bool false)
  have hstep : ∀ i,i < len→∃ (a b c : Int) (s t : ByteArray),[cell i 0,cell i 1,cell i 2,cell i 3,cell i 4] = [.int .i64 a,.int .i64 b,.int .u8 c,.string s,.string t]∧∀ j,j < 5→W.cell? ⟨bl,off + i * 5 + j,none⟩ = some (cell i j):=by
   intro i hi
   have h:=hel i hi
   rw [List.getElem?_eq_getElem (by omega),add_none] at h
   obtain ⟨cs,h1,h2⟩:=Option.bind_eq_some_iff.1 h
   obtain ⟨c0,c1,c2,c3,c4,rfl,k0,k1,k2,k3,k4⟩:=cells?_five h1
   obtain ⟨a,b,c,s,t,rfl,rfl,rfl,rfl,rfl⟩:=step_cells h2
   refine ⟨a,b,c,s,t,?_,fun j hj => ?_⟩
   ·simp only [cell,Nat.add_zero,k0,k1,k2,k3,k4,Option.getD_some]
   ·match j,hj with
    | 0,_ => simp only [cell,Nat.add_zero,k0,Option.getD_some]
    | 1,_ => simp only [cell,k1,Option.getD_some]
    | 2,_ => simp only [cell,k2,Option.getD_some]
    | 3,_ => simp only [cell,k3,Option.getD_some]
    | 4,_ => simp only [cell,k4,Option.getD_some]
  refine ⟨(List.range len).map fun i => stepOf [cell i 0,cell i 1,cell i 2,cell i 3,cell i 4],.sl cell (by simp) hl hm (fun i x hx => ?_) (fun i j x c hx hc => ?_) (fun i j x c hx hc => ?_),by simp; unfold maxLen at hm; omega⟩
  ·obtain ⟨s,_,rfl⟩ : ∃ s∈(List.range len).map (fun i => stepOf [cell i 0,cell i 1,cell i 2,cell i 3,cell i 4]),stpD s = x:=List.mem_map.1 (List.mem_of_getElem? hx)
   exact ⟨rfl,rfl⟩
  ·rw [List.getElem?_map,List.getElem?_map] at hx
   obtain ⟨y,hy,rfl⟩:=Option.map_eq_some_iff.1 hx
   obtain ⟨i',hi',rfl⟩:=Option.map_eq_some_iff.1 hy
   obtain ⟨hlt,he⟩:=List.getElem?_eq_some_iff.1 hi'
   simp at hlt he
   subst he
   have hj : j < 5:=by
    have:=(List.getElem?_eq_some_iff.1 hc).1
    simpa [stpD,DV.cells] using this
   obtain ⟨_,_,_,_,_,_,h2⟩:=hstep i hlt
   have h3:=h2 j hj
   have hb : bl < W.heap.size:=World.block_lt_of_cell? W _ h3
   exact ⟨.inl (by simp [G0,hb]),h3⟩
  ·rw [List.getElem?_map,List.getElem?_map] at hx
   obtain ⟨y,hy,rfl⟩:=Option.map_eq_some_iff.1 hx
   obtain ⟨i',hi',rfl⟩:=Option.map_eq_some_iff.1 hy
   obtain ⟨hlt,he⟩:=List.getElem?_eq_some_iff.1 hi'
   simp at hlt he
   subst he
   have hj : j < 5:=by
    have:=(List.getElem?_eq_some_iff.1 hc).1
    simpa [stpD,DV.cells] using this
   obtain ⟨a,b,c',s,t,h1,_⟩:=hstep i hlt
   rw [h1] at hc
   simp only [List.cons.injEq,and_true] at h1
   obtain ⟨e0,e1,e2,e3,e4⟩:=h1
   match j,hj with
   | 0,_ => cases hc; rw [e0]; exact .int _ _
   | 1,_ => cases hc; rw [e1]; exact .int _ _
   | 2,_ => cases hc; rw [e2]; exact .int _ _
   | 3,_ => cases hc; rw [e3]; exact vp_string _
   | 4,_ => cases hc; rw [e4]; exact vp_string _
def laidL : List (String × DataW Unit):=Rows.dealSerialRow.laid
set_option maxRecDepth 100000 in
theorem door_met (os : Os) (args : Array Value) : laidMetH Tryz.prog laidL ((World.doorLaid Tryz.prog 400 os).forCall (fun _ _ => 0) ⟨#[],args,[]⟩).memory :=
 laidMetH_of_parts3 (fuel:=8) (laidMet_of_run' 8 (by kernel_rfl) (by kernel_rfl)) (by kernel_rfl) (by kernel_rfl)
set_option maxRecDepth 100000 in
theorem law_lifted (os : Os) (started : os.Started) (H : Type) (enc : TypeId × Value→H) :
  ReturnsInLeavingWide {} Tryz.checked os 6 .any (fun w args => (Rows.dealSerialSpec.pre enc Tryz.prog Tryz.f6 [] false w args∧laidMetH Tryz.prog laidL w)∧sizedMet enc Tryz.prog Tryz.f6 (OpenSpec.ofChange Rows.dealSerialSpec) false w args)
   (Rows.dealSerialSpec.post enc Tryz.prog Tryz.f6 false true false false):=by
 refine returnsInLeavingWide_of_change_and (C:=Tryz.checked) (X:=fun w _ => laidMetH Tryz.prog laidL w) (fun _ _ _ hh h => h.of_heap hh) Tryz.own started (by kernel_rfl) Tryz.func6
  (ChangeSpec.witness_shaped (enc:=enc) (C:=Tryz.checked) (os:=os) (X:=fun w _ => laidMetH Tryz.prog laidL w) false (World.doorLaid Tryz.prog 400 os) #[.slice none 0 0] 8 rfl (World.shaped_of_RefB (by kernel_rfl) (by kernel_rfl)) (by kernel_rfl) (by kernel_rfl) (by kernel_rfl) (door_met os _)) ?_
 intro W base args ds gs before hval0 hW _ _ _ _
 have hval : ∀ (j : Nat) t v,Tryz.f6.params[j]? = some t→args[j]? = some v→Value.okWide Tryz.prog W .any base t v:=hval0
 have hW':=hW
 obtain ⟨p,q,hA0,hV,rfl,hfz,hnd⟩:=hW
 have hA : DataW.TrodAll enc Tryz.prog W 0 (fun _ => true) true Tryz.f6.params.toList args.toList ds p:=hA0
 rw [Tryz.params6] at hA hval
 obtain ⟨v0,d0,rfl,rfl,h0⟩:=trodAll_one hA
 obtain ⟨rfl,rfl⟩:=trodVars_none hV
 obtain ⟨a0,hks,hkl⟩:=open_steps (hval 0 54 v0 rfl rfl) h0
 clear hA0 hval0
 simp only [List.append_nil] at hW'
 refine (law7 (d:=0) a0 hkl (wrel0 W) (fits_cons hks fits_nil)).mono fun e W' ⟨v,he,hb⟩ => ?_
 subst he
 obtain ⟨rfl,hbl⟩:=back_true hb
 have k0:=Below.trod Tryz.laidOut (by kernel_rfl) (of_decide_eq_true (by kernel_rfl)) h0 hbl fun x hx => by simpa using hW'.lt x (by simpa using hx)
 exact ⟨_,rfl,_,_,_,[],_,[],hW',trodAll_mk1 (shut_bool Tryz.underlying4 _),trodAll_mk1 k0,rfl,hbl.frame _,fun h => by cases h⟩
set_option maxHeartbeats 8000000 in
theorem law_closed : joinedFacts Tryz.pinned.checked.prog 6 Tryz.f6 Rows.dealSerialSpec Rows.dealSerialRow = true:=by
 unfold joinedFacts
 repeat rw [Bool.and_eq_true]
 exact ⟨⟨⟨⟨⟨⟨⟨⟨⟨⟨⟨⟨⟨⟨⟨⟨⟨⟨⟨⟨⟨⟨⟨⟨⟨⟨⟨⟨⟨⟨⟨(by as_aux_lemma => kernel_rfl),(by as_aux_lemma => kernel_rfl)⟩,(by as_aux_lemma => kernel_rfl)⟩,(by as_aux_lemma => kernel_rfl)⟩,(by as_aux_lemma => kernel_rfl)⟩,(by as_aux_lemma => kernel_rfl)⟩,(by as_aux_lemma => kernel_rfl)⟩,(by as_aux_lemma => kernel_rfl)⟩,(by as_aux_lemma => kernel_rfl)⟩,(by as_aux_lemma => kernel_rfl)⟩,(by as_aux_lemma => kernel_rfl)⟩,(by as_aux_lemma => kernel_rfl)⟩,(by as_aux_lemma => kernel_rfl)⟩,(by as_aux_lemma => kernel_rfl)⟩,(by as_aux_lemma => kernel_rfl)⟩,(by as_aux_lemma => kernel_rfl)⟩,(by as_aux_lemma => kernel_rfl)⟩,(by as_aux_lemma => kernel_rfl)⟩,(by as_aux_lemma => kernel_rfl)⟩,(by as_aux_lemma => kernel_rfl)⟩,(by as_aux_lemma => kernel_rfl)⟩,(by as_aux_lemma => kernel_rfl)⟩,(by as_aux_lemma => kernel_rfl)⟩,(by as_aux_lemma => kernel_rfl)⟩,(by as_aux_lemma => kernel_rfl)⟩,(by as_aux_lemma => kernel_rfl)⟩,(by as_aux_lemma => kernel_rfl)⟩,(by as_aux_lemma => kernel_rfl)⟩,(by as_aux_lemma => kernel_rfl)⟩,(by as_aux_lemma => kernel_rfl)⟩,(by as_aux_lemma => kernel_rfl)⟩,(by as_aux_lemma => kernel_rfl)⟩
theorem law_name : Tryz.pinned.checked.prog.funcNamed Rows.dealSerialRow.func = some 6:=by kernel_rfl
theorem law_row : Rows.DealSerialSaid :=
 OpenClaim.holds_of_wide_leaving 6 Tryz.f6 rfl rfl rfl rfl rfl rfl rfl ⟨rfl,rfl,rfl,rfl,rfl⟩ rfl rfl rfl rfl rfl law_name Tryz.func6 law_closed
  (of_decide_eq_true (by as_aux_lemma => kernel_rfl)) (by as_aux_lemma => unfold Func.isWrapper; first | (rw [if_pos (by decide +kernel)]; kernel_rfl) | (rw [if_neg (by decide +kernel)]; exact ⟨rfl,rfl⟩))
  (fun os started H enc _ => law_lifted os started H enc)
theorem law_wf : Rows.dealSerialRow.wfByText (OpenSpec.ofChange Rows.dealSerialSpec) = true:=by kernel_rfl
theorem seat_main : Tryz.pinned.checked.prog.mainIs = some (true,"ec0cc9e44642b7e1ad5b03d42a67a178756026aceaf2b4203c9876cd9d1f2855".toList):=by kernel_rfl
theorem seat_looks : true = Tryz.pinned.checked.prog.looks []:=by kernel_rfl
theorem law_goes : true = Rows.dealSerialRow.goesBy Tryz.pinned.checked.prog:=by kernel_rfl
theorem wants54 : Tryz.pinned.checked.prog.wantsStandIn 54 = false:=by kernel_rfl
theorem dealSerial_holds : Rows.DealSerialCardSaid :=
 Claim7.holds_tied_goes_at .later [.data,.data,.data] true (true,"ec0cc9e44642b7e1ad5b03d42a67a178756026aceaf2b4203c9876cd9d1f2855") true
  law_row law_wf dealSerial_row_tie rfl ⟨rfl,rfl⟩ seat_main rfl
  (fun f fn hf hfn => by
   obtain rfl : f = 6:=Option.some.inj (law_name.symm.trans hf) |>.symm
   obtain rfl : fn = Tryz.f6:=(Option.some.inj (Tryz.func6.symm.trans hfn)).symm
   refine ⟨seat_looks,fun j t ht => ?_⟩
   rw [Tryz.params6] at ht
   have h3 : t = 54:=by
    match j,ht with
    | 0,ht => simpa using ht.symm
    | j + 1,ht => simp at ht
   rw [h3]
   exact wants54)
  law_goes
#print axioms dealSerial_holds
end Go.Proofs.YtoebbafmopdfbaaGreatDoor

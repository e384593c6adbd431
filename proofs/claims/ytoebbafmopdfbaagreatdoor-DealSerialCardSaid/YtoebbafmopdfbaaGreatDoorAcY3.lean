/- A part of the proof; no condition of its own. -/
import Derived.Test.YtoebbafmopdfbaaGreatDoorAcY2
set_option linter.unusedSimpArgs false
set_option linter.unusedVariables false
/- AcY3: Regions that draw their order,in the machine. -/
namespace Go.Ab
open Go Go.Conc Go.RowKit
variable {P : Program} {isObj : ObjT} {Γ : Env} {N0 : Nat} {w0 : World} {d : Nat}
structure DInv (P : Program) (isObj : ObjT) (Γ : Env) (ops : Array Oper) (eff : List Nat) (N0 : Nat) (w0 : World) (d : Nat) (Gb : Gh) (wb : World) (K : St→Prop)
  (listed : Array Bool) (fuel : Nat) (C : List Nat) (st : St) (G : Gh) (h a : Act) (w : World) : Prop where
 ext : Ext d Gb wb G w
 rel : Rel N0 w0 d G w st h.tmps
 hd : h.defers = []
 ad : a.defers = []
 sz : a.tmps.size = h.tmps.size
 agree : ∀ s,(∀ j∈C,listed.getD j false = false→∀ o,ops[j]? = some o→o.dst ≠ some s)→a.tmps[s]? = h.tmps[s]?
 pend : ∀ j∈C,listed.getD j false = false→eff.contains j = false∧∃ o s dv,ops[j]? = some o∧o.dst = some s∧(∀ x,st.t[s]? = some x→x = dv)∧dqw P ops o st dv∧∀ x∈st.lk,x.1 ≠ s∧x.2.atSlot s = false
 sub : ∀ j,listed.getD j false = true→j∈C
 topo : Topo ops C
 closed : ∀ j,listed.getD j false = true→∀ o,ops[j]? = some o→∀ p∈preds o,listed.getD p false = true
 lsz : listed.size = ops.size
 run : ddraw P isObj Γ ops eff fuel C st K
section
variable {ops : Array Oper} {eff : List Nat} {Gb : Gh} {wb : World} {K : St→Prop} {listed : Array Bool} {fuel : Nat} {C : List Nat} {st : St} {G : Gh} {h a : Act} {w : World}
theorem apart_at (hok : drawOk ops eff = true) {i j : Nat} (hi : i < ops.size) (hj : j < ops.size) : apartB ops eff i j = true:=by
 simp only [drawOk,Bool.and_eq_true,List.all_eq_true,List.mem_range] at hok
 exact hok.2 i hi j hj
theorem lt_of_op {i : Nat} {o : Oper} (h : ops[i]? = some o) : i < ops.size:=(Array.getElem?_eq_some_iff.1 h).1
theorem apart_self (hok : drawOk ops eff = true) {i : Nat} {o : Oper} (hi : ops[i]? = some o) {s : Nat} (hs : o.dst = some s) (he : eff.contains i = false) : s ∉ o.looksAt ops:=by
 have:=apart_at hok (lt_of_op hi) (lt_of_op hi)
 simp only [apartB,hi,hs,if_true,he,Bool.false_or,Bool.not_eq_true'] at this
 simpa using this
theorem apart_ne (hok : drawOk ops eff = true) {i j : Nat} {oi oj : Oper} (hi : ops[i]? = some oi) (hj : ops[j]? = some oj) {s : Nat} (hs : oj.dst = some s) (hne : i ≠ j) :
  oi.dst ≠ some s∧(s∈oi.looksAt ops→j∈surely ops i∨(eff.contains j = true∧i∈surely ops j)):=by
 have:=apart_at hok (lt_of_op hi) (lt_of_op hj)
 simp only [apartB,hi,hj,hs,hne,if_false,Bool.and_eq_true,Bool.or_eq_true,bne_iff_ne,ne_eq,Bool.not_eq_true',List.contains_iff_mem] at this
 refine ⟨this.1,fun hm => ?_⟩
 rcases this.2 with (h | h) | h
 ·have : (oi.looksAt ops).contains s = true:=by simpa using hm
  rw [this] at h; cases h
 ·exact .inl (by simpa using h)
 ·exact .inr ⟨by simpa using h.1,by simpa using h.2⟩
theorem getD_put_ne {st : St} {s q : Nat} {dv : DV} (h : q ≠ s) : (st.put s dv).t.getD q .undef = st.t.getD q .undef:=by
 simp only [St.put,List.getD_eq_getElem?_getD,List.getElem?_set_ne (Ne.symm h)]
theorem DInv.ahead (hok : drawOk ops eff = true) (hv : DInv P isObj Γ ops eff N0 w0 d Gb wb K listed (fuel + 1) C st G h a w) {i : Nat}
  (hf : (List.range ops.size).find? (fun i => !eff.contains i && readyD ops C i) = some i) : ∃ st' h',DInv P isObj Γ ops eff N0 w0 d Gb wb K listed fuel (i :: C) st' G h' a w:=by
 have hrun:=hv.run
 simp only [ddraw,hf] at hrun
 have hp:=List.find?_some hf
 simp only [Bool.and_eq_true,Bool.not_eq_true'] at hp
 obtain ⟨he,hr⟩:=hp
 simp only [readyD,Bool.and_eq_true,Bool.not_eq_true'] at hr
 obtain ⟨hC,hr⟩:=hr
 have hC' : i ∉ C:=by simpa using hC
 cases ho : ops[i]? with
 | none => simp [ho] at hrun
 | some o =>
  simp only [ho] at hrun hr
  cases hs : o.dst with
  | none => simp [hs] at hrun
  | some s =>
   simp only [hs] at hrun
   obtain ⟨dv,hq,hrun⟩:=dqs_out hrun
   rw [List.all_eq_true] at hr
   have hpre : ∀ p∈preds o,p∈C:=fun p hp => by simpa using hr p hp
   have hun : listed.getD i false = false:=by
    cases hl : listed.getD i false with
    | false => rfl
    | true => exact absurd (hv.sub i hl) hC'
   obtain ⟨v,hsv,hno⟩ : ∃ v,SV G w d dv v∧dv.noOwn = true:=by
    unfold dqw at hq
    split at hq
    ·rename_i b hb
     cases b with
     | true =>
      obtain ⟨dv',v,h1,_,h3,h4⟩:=dq_sound (hq.1 rfl) hv.rel
      exact ⟨v,h1 ▸ h3,h1 ▸ h4⟩
     | false =>
      have:=hq.2 rfl
      subst this
      exact ⟨undef,⟨#[],rfl,rfl,by intro j c x hc; simp at hc⟩,rfl⟩
    ·exact hq.elim
   have hslook:=apart_self hok ho hs he
   refine ⟨st.put s dv,h.put (some s) v,hv.ext,hv.rel.put hsv (sown_of_noOwn hno),hv.hd,hv.ad,by simpa [Act.put] using hv.sz,fun s' hs' => ?_,fun j hj hl => ?_,fun j hl => List.mem_cons_of_mem _ (hv.sub j hl),⟨⟨o,ho,hpre⟩,hv.topo⟩,hv.closed,hv.lsz,hrun⟩
   ·have hne : s ≠ s':=fun e => hs' i (by simp) hun o ho (e ▸ hs)
    simp only [Act.put,Array.getElem?_setIfInBounds_ne hne]
    exact hv.agree s' fun j hj hl o' ho' => hs' j (by simp [hj]) hl o' ho'
   ·rcases List.mem_cons.1 hj with rfl | hj
    ·refine ⟨he,o,s,dv,ho,hs,fun x hx => ?_,?_,fun x hx => ?_⟩
     ·simp only [St.put,List.getElem?_set] at hx
      simp only [if_true] at hx
      split at hx
      ·exact (Option.some.inj hx).symm
      ·cases hx
     ·rw [← dqw_congr (st:=st) (fun q hq => (getD_put_ne (fun (e : q = s) => hslook (by rw [← e]; exact hq))).symm) rfl rfl]; exact hq
     ·simp only [St.put,List.mem_filter,Bool.and_eq_true,Bool.not_eq_true',beq_eq_false_iff_ne,ne_eq] at hx
      exact hx.2
    ·obtain ⟨e1,oj,sj,dvj,g1,g2,g3,g4,g5⟩:=hv.pend j hj hl
     have hne : i ≠ j:=fun e => hC' (e ▸ hj)
     have hsne : sj ≠ s:=fun e => (apart_ne hok ho g1 g2 hne).1 (e ▸ hs)
     have hlook : s ∉ oj.looksAt ops:=fun hm => by
      rcases (apart_ne hok g1 ho hs (Ne.symm hne)).2 hm with h' | h'
      ·exact hC' (surely_sub (D:=(·∈C)) hv.topo.closed g1 (hv.topo.closed j hj oj g1) i h')
      ·rw [he] at h'; cases h'.1
     refine ⟨e1,oj,sj,dvj,g1,g2,fun x hx => g3 x ?_,?_,fun x hx => g5 x ?_⟩
     ·simpa only [St.put,List.getElem?_set_ne (Ne.symm hsne)] using hx
     ·rw [← dqw_congr (st:=st) (fun q hq => (getD_put_ne (fun (e : q = s) => hlook (by rw [← e]; exact hq))).symm) rfl rfl]; exact g4
     ·simp only [St.put,List.mem_filter] at hx; exact hx.1
theorem DInv.full (hok : drawOk ops eff = true) : ∀ (fuel : Nat) {C : List Nat} {st : St} {h : Act},DInv P isObj Γ ops eff N0 w0 d Gb wb K listed fuel C st G h a w →
  ∃ fuel' C' st' h',DInv P isObj Γ ops eff N0 w0 d Gb wb K listed (fuel' + 1) C' st' G h' a w∧(List.range ops.size).find? (fun i => !eff.contains i && readyD ops C' i) = none
 | 0,C,st,h,hv => hv.run.elim
 | n + 1,C,st,h,hv => by
  cases hf : (List.range ops.size).find? (fun i => !eff.contains i && readyD ops C i) with
  | none => exact ⟨n,C,st,h,hv,hf⟩
  | some i =>
   obtain ⟨st',h',hv'⟩:=hv.ahead hok hf
   exact DInv.full hok n hv'
theorem filter_nil_run {n : Nat} (hf : (List.range ops.size).find? (fun i => !eff.contains i && readyD ops C i) = none) (h1 : ∀ i,i < ops.size→eff.contains i = true→readyD ops C i = false) (h : ddraw P isObj Γ ops eff (n + 1) C st K) : K st:=by
 simp only [ddraw,hf] at h
 have : (List.range ops.size).filter (fun i => eff.contains i && readyD ops C i) = []:=by
  rw [List.filter_eq_nil_iff]
  intro i hi
  rw [List.mem_range] at hi
  cases he : eff.contains i with
  | false => simp
  | true => simp [h1 i hi he]
 rw [this] at h
 exact h
theorem DInv.done (hok : drawOk ops eff = true) (hv : DInv P isObj Γ ops eff N0 w0 d Gb wb K listed fuel C st G h a w) (hno : ∀ i,¬ ReadyL ops listed i) : Lift N0 w0 d Gb wb K a w:=by
 obtain ⟨fuel',C',st',h',hv,hf⟩:=hv.full hok
 have hall : ∀ (C : List Nat),Topo ops C→∀ j∈C,listed.getD j false = true:=by
  intro C
  induction C with
  | nil => intro _ j hj; cases hj
  | cons x C ih =>
   intro ht j hj
   have hC:=ih ht.2
   rcases List.mem_cons.1 hj with rfl | hj
   ·obtain ⟨o,ho,hp⟩:=ht.1
    cases hl : listed.getD j false with
    | true => rfl
    | false =>
     refine absurd ⟨lt_of_op ho,?_,o,ho,fun p hp' => hC p (hp p hp')⟩ (hno j)
     have hlt : j < listed.size:=hv.lsz ▸ lt_of_op ho
     simp only [Array.getD_eq_getD_getElem?,Array.getElem?_eq_getElem hlt,Option.getD_some] at hl ⊢
     exact hl
   ·exact hC j hj
 have hC:=hall C' hv.topo
 refine ⟨G,st',filter_nil_run hf (fun i hi he => ?_) hv.run,hv.ext,?_,hv.ad⟩
 ·cases hr : readyD ops C' i with
  | false => rfl
  | true =>
   simp only [readyD,Bool.and_eq_true,Bool.not_eq_true'] at hr
   obtain ⟨h1,h2⟩:=hr
   have h1' : i ∉ C':=by simpa using h1
   cases ho : ops[i]? with
   | none => simp [ho] at h2
   | some o =>
    simp only [ho,List.all_eq_true] at h2
    refine absurd ⟨hi,?_,o,ho,fun p hp => hC p (by simpa using h2 p hp)⟩ (hno i)
    have hlt : i < listed.size:=hv.lsz ▸ hi
    cases hl : listed.getD i true with
    | false => rfl
    | true =>
     refine absurd (hv.sub i ?_) h1'
     simp only [Array.getD_eq_getD_getElem?,Array.getElem?_eq_getElem hlt,Option.getD_some] at hl ⊢
     exact hl
 ·have : a.tmps = h'.tmps:=Array.ext_getElem? fun s => hv.agree s fun j hj hl => by rw [hC j hj] at hl; cases hl
  rw [this]
  exact hv.rel
theorem DInv.looks (hok : drawOk ops eff = true) (hv : DInv P isObj Γ ops eff N0 w0 d Gb wb K listed fuel C st G h a w) {i : Nat} {o : Oper} (ho : ops[i]? = some o) (hr : ReadyL ops listed i) : ∀ s∈o.looksAt ops,a.tmps[s]? = h.tmps[s]?:=by
 intro s hs
 refine hv.agree s fun j hj hl oj hoj hd => ?_
 obtain ⟨he,_⟩:=hv.pend j hj hl
 by_cases hij : i = j
 ·subst hij
  rw [ho] at hoj
  cases hoj
  exact apart_self hok ho hd he hs
 ·obtain ⟨_,_,o',ho',hp⟩:=hr
  rw [ho] at ho'
  cases ho'
  rcases (apart_ne hok ho hoj hd hij).2 hs with h' | h'
  ·have:=surely_sub (D:=fun j => listed.getD j false = true) hv.closed ho hp j h'
   rw [hl] at this; cases this
  ·rw [he] at h'; cases h'.1
theorem eval_same {o : Oper} (hl : ∀ s∈o.looksAt ops,a.tmps[s]? = h.tmps[s]?) : (∀ x∈o.op.operands,a.eval x = h.eval x)∧Region.wanted o (yielded ops a.tmps) = Region.wanted o (yielded ops h.tmps):=by
 constructor
 ·intro x hx
  cases x with
  | tmp s =>
   have:=hl s (List.mem_append_left _ (List.mem_filterMap.2 ⟨.tmp s,by simpa using hx,rfl⟩))
   simp only [Act.eval,Array.getD_eq_getD_getElem?,this]
  | _ => rfl
 ·unfold Region.wanted
  cases hg : o.guard with
  | none => rfl
  | some gw =>
   obtain ⟨g,want⟩:=gw
   have : yielded ops a.tmps g = yielded ops h.tmps g:=by
    unfold yielded
    cases ht : (ops[g]?).bind (·.dst) with
    | none => rfl
    | some t =>
     have:=hl t (by simp [Oper.looksAt,hg,ht])
     simp only [Option.bind_some,this]
   simp only [this]
theorem getD_setIf {listed : Array Bool} {i j : Nat} (hi : i < listed.size) : (listed.setIfInBounds i true).getD j false = if i = j then true else listed.getD j false:=by
 simp only [Array.getD_eq_getD_getElem?,Array.getElem?_setIfInBounds]
 split
 ·rename_i e; subst e; simp
 ·rfl
theorem unlisted_lt {listed : Array Bool} {i : Nat} (hi : i < listed.size) (h : listed.getD i true = false) : ((List.range listed.size).filter fun j => !(listed.setIfInBounds i true).getD j true).length < ((List.range listed.size).filter fun j => !listed.getD j true).length:=by
 have hsub : ∀ (l : List Nat),(l.filter fun j => !(listed.setIfInBounds i true).getD j true).length≤(l.filter fun j => !listed.getD j true).length∧(i∈l→(l.filter fun j => !(listed.setIfInBounds i true).getD j true).length < (l.filter fun j => !listed.getD j true).length):=by
  intro l
  induction l with
  | nil => exact ⟨Nat.le_refl _,fun h => by cases h⟩
  | cons x l ih =>
   by_cases hx : i = x
   ·subst hx
    have e1 : (listed.setIfInBounds i true).getD i true = true:=by simp [Array.getD_eq_getD_getElem?,Array.getElem?_setIfInBounds,hi]
    simp only [List.filter_cons,e1,h,Bool.not_true,Bool.not_false,if_true,Bool.false_eq_true,if_false,List.length_cons]
    have:=ih.1
    exact ⟨by omega,fun _ => by omega⟩
   ·have e1 : (listed.setIfInBounds i true).getD x true = listed.getD x true:=by simp [Array.getD_eq_getD_getElem?,Array.getElem?_setIfInBounds,hx]
    simp only [List.filter_cons,e1]
    split
    ·simp only [List.length_cons]
     refine ⟨by have:=ih.1; omega,fun hm => ?_⟩
     rcases List.mem_cons.1 hm with e | hm
     ·exact absurd e hx
     ·have:=ih.2 hm; omega
    ·refine ⟨ih.1,fun hm => ?_⟩
     rcases List.mem_cons.1 hm with e | hm
     ·exact absurd e hx
     ·exact ih.2 hm
 exact (hsub _).2 (List.mem_range.2 hi)
theorem StWk.unlink (ss : List Nat) (st : St) : StWk id d st (unlinkS ss st) :=
 ⟨⟨rfl,fun s dv' h => ⟨dv',h,.refl _ _⟩⟩,fun s g cs' h => ⟨cs',h,rfl,fun j c' hc => ⟨c',hc,.refl _ _⟩⟩,fun _ => Nat.le_refl _,⟨rfl,fun id ob' ho => ⟨ob',ho,by
  cases ob' with
  | cells cs => exact ⟨rfl,fun j c' hc => ⟨c',hc,.refl _ _⟩⟩
  | map es => rfl⟩⟩,fun x hx => by simp only [unlinkS,List.mem_filter] at hx; exact hx.1⟩
theorem put_same {st : St} {s : Nat} {dv : DV} (h1 : ∀ x,st.t[s]? = some x→x = dv) (h2 : ∀ x∈st.lk,x.1 ≠ s∧x.2.atSlot s = false) : st.put s dv = st:=by
 obtain ⟨t,B,H,lk⟩:=st
 simp only [St.put,St.mk.injEq,true_and]
 refine ⟨?_,?_⟩
 ·apply List.ext_getElem?
  intro k
  rw [List.getElem?_set]
  split
  ·rename_i e; subst e
   split
   ·rename_i hl
    have : t[s]? = some t[s]:=by simp [hl]
    rw [this,h1 _ this]
   ·rename_i hl; simp at hl; simp [hl]
  ·rfl
 ·rw [List.filter_eq_self]
  intro x hx
  obtain ⟨a1,a2⟩:=h2 x hx
  simp [a1,a2]
theorem draw_go {I : Jd P} (hI : ∀ w e,I.Ok w e) (hΓ : ∀ f S,Γ f = some S→RC I f S) {fn : FuncId} (hok : drawOk ops eff = true) : ∀ (fl t : Nat) {listed : Array Bool} {fuel : Nat} {C : List Nat} {st : St} {G : Gh} {h a : Act} {w : World},
  ((List.range listed.size).filter fun j => !listed.getD j true).length≤fl→DInv P isObj Γ ops eff N0 w0 d Gb wb K listed fuel C st G h a w→opsJ I fn ops (Region.linearise.go .any ops fl t listed []) (Lift N0 w0 d Gb wb K) a w
 | 0,t,listed,fuel,C,st,G,h,a,w,hlen,hv => by
  simp only [Region.linearise.go,List.reverse_nil]
  refine opsJ_nil I (hv.done hok fun i hr => ?_)
  have : i∈(List.range listed.size).filter fun j => !listed.getD j true:=by
   rw [List.mem_filter,List.mem_range,hv.lsz]
   exact ⟨hr.1,by simp [hr.2.1]⟩
  have:=List.length_pos_of_mem this
  omega
 | fl + 1,t,listed,fuel,C,st,G,h,a,w,hlen,hv => by
  simp only [Region.linearise.go]
  change opsJ I fn ops (match (Region.ready .any ops listed)[t % (Region.ready .any ops listed).length]? with
   | some i => Region.linearise.go .any ops fl (t / (Region.ready .any ops listed).length) (listed.setIfInBounds i true) [i]
   | none => [].reverse) (Lift N0 w0 d Gb wb K) a w
  cases hi : (Region.ready .any ops listed)[t % (Region.ready .any ops listed).length]? with
  | none =>
   have hnil : Region.ready .any ops listed = []:=by
    cases hr : Region.ready .any ops listed with
    | nil => rfl
    | cons x xs =>
     rw [hr] at hi
     have hlt : t % (x :: xs).length < (x :: xs).length:=Nat.mod_lt _ (by simp)
     simp at hi
     simp at hlt
     omega
   refine opsJ_nil I (hv.done hok fun i hr => ?_)
   have:=mem_ready.2 hr
   rw [hnil] at this; cases this
  | some i =>
   simp only []
   rw [linearise_go_acc,List.reverse_singleton,List.singleton_append]
   have hr:=mem_ready.1 (List.mem_of_getElem? hi)
   obtain ⟨hilt,hun,o,ho,hpre⟩:=hr
   have hils : i < listed.size:=hv.lsz ▸ hilt
   have hun' : listed.getD i false = false:=by
    simp only [Array.getD_eq_getD_getElem?,Array.getElem?_eq_getElem hils,Option.getD_some] at hun ⊢
    exact hun
   have hlen' : ((List.range (listed.setIfInBounds i true).size).filter fun j => !(listed.setIfInBounds i true).getD j true).length≤fl:=by
    have:=unlisted_lt hils hun
    simp only [Array.size_setIfInBounds]
    omega
   obtain ⟨fuel,C,st,h,hv,hf⟩:=hv.full hok
   have hlooks:=hv.looks hok ho ⟨hilt,hun,o,ho,hpre⟩
   obtain ⟨hev,hwant⟩:=eval_same hlooks
   have hsel : ∀ cs b,o.op ≠ .select cs b:=by
    intro cs b e
    simp only [drawOk,Bool.and_eq_true,List.all_eq_true] at hok
    have:=hok.1 o (by simpa using Array.mem_of_getElem? ho)
    simp [noSelect,e] at this
   have hexec : execOp a.eval o = execOp h.eval o:=execOp_congr o hsel hev
   have hargs : ∀ c,o.op = .call c→c.args.map a.eval = c.args.map h.eval:=fun c hc => Array.map_congr_left fun x hx => hev x (by simp [hc,Op.operands,Call.operands,hx])
   have hclosed : ∀ j,(listed.setIfInBounds i true).getD j false = true→∀ o,ops[j]? = some o→∀ p∈preds o,(listed.setIfInBounds i true).getD p false = true:=by
    intro j hj oj hoj p hp
    rw [getD_setIf hils] at hj ⊢
    split
    ·rfl
    ·split at hj
     ·rename_i e; subst e
      rw [ho] at hoj; cases hoj
      exact hpre p hp
     ·exact hv.closed j hj oj hoj p hp
   cases he : eff.contains i with
   | true =>
    have hiC : i ∉ C:=fun hm => by have:=(hv.pend i hm hun').1; rw [he] at this; cases this
    have hrd : readyD ops C i = true:=by
     simp only [readyD,ho,Bool.and_eq_true,Bool.not_eq_true',List.all_eq_true]
     exact ⟨by simpa using hiC,fun p hp => by simpa using hv.sub p (hpre p hp)⟩
    have hmem : i∈(List.range ops.size).filter fun i => eff.contains i && readyD ops C i:=by
     rw [List.mem_filter,List.mem_range]
     exact ⟨hilt,by rw [he,hrd]; rfl⟩
    have hrun:=hv.run
    simp only [ddraw,hf] at hrun
    split at hrun
    ·rename_i hnil; rw [hnil] at hmem; cases hmem
    ·rename_i x r hxr
     rw [hxr] at hmem
     have hrun:=allP_mem hrun i hmem
     simp only [ho] at hrun
     refine step_hat hI hΓ hexec hwant hargs ho ⟨G,st,hrun,hv.ext,hv.rel,hv.hd⟩ fun v w' hL => ?_
     obtain ⟨G',st',⟨hrc,hgo⟩,hx',hR',hd'⟩:=hL
     have hRu:=hR'.wk (StWk.unlink (slotsOf ops (floaters ops eff i C)) st')
     rw [Gh.ren_id] at hRu
     refine draw_go hI hΓ hok fl _ hlen' (h:=h.put o.dst v) (C:=i :: C) (G:=G') (st:=unlinkS (slotsOf ops (floaters ops eff i C)) st') (fuel:=fuel)
      ⟨hx',hRu,hd',by rw [put_defers]; exact hv.ad,?_,fun s' hs' => ?_,fun j hj hl => ?_,fun j hl => ?_,⟨⟨o,ho,fun p hp => hv.sub p (hpre p hp)⟩,hv.topo⟩,hclosed,by simpa using hv.lsz,hgo⟩
     ·cases o.dst <;> simpa [Act.put] using hv.sz
     ·have hold : (∀ j∈C,listed.getD j false = false→∀ o,ops[j]? = some o→o.dst ≠ some s'):=fun j hj hl o' ho' => by
       refine hs' j (by simp [hj]) ?_ o' ho'
       rw [getD_setIf hils,if_neg (fun (e : i = j) => hiC (by rw [e]; exact hj))]; exact hl
      cases hd : o.dst with
      | none => exact hv.agree s' hold
      | some s =>
       simp only [Act.put,Array.getElem?_setIfInBounds,hv.sz]
       split
       ·rfl
       ·exact hv.agree s' hold
     ·rw [getD_setIf hils] at hl
      split at hl
      ·cases hl
      ·rename_i hne
       rcases List.mem_cons.1 hj with e | hj
       ·exact absurd e.symm hne
       ·obtain ⟨e1,oj,sj,dvj,g1,g2,g3,g4,g5⟩:=hv.pend j hj hl
        have hfl : j∈floaters ops eff i C:=by
         simp only [floaters,List.mem_filter,Bool.and_eq_true,Bool.not_eq_true']
         refine ⟨hj,e1,?_⟩
         cases hc : (surely ops i).contains j with
         | false => rfl
         | true =>
          have:=surely_sub (D:=fun j => listed.getD j false = true) hv.closed ho hpre j (by simpa using hc)
          rw [hl] at this; cases this
        have hrj:=allP_mem hrc j hfl
        simp only [recheckAt,g1,g2] at hrj
        refine ⟨e1,oj,sj,st'.t.getD sj .undef,g1,g2,fun x hx => ?_,(dqw_congr (P:=P) (ops:=ops) (o:=oj) (dv:=st'.t.getD sj .undef) (st:=st') (st':=unlinkS (slotsOf ops (floaters ops eff i C)) st') (fun _ _ => rfl) rfl rfl).mp hrj,fun x hx => ?_⟩
        ·have : st'.t[sj]? = some x:=hx
         simp [List.getD,this]
        ·simp only [unlinkS,List.mem_filter,List.all_eq_true,Bool.and_eq_true,Bool.not_eq_true',beq_eq_false_iff_ne,ne_eq] at hx
         exact hx.2 sj (List.mem_filterMap.2 ⟨j,hfl,by simp [g1,g2]⟩)
     ·rw [getD_setIf hils] at hl
      split at hl
      ·rename_i e; subst e; simp
      ·exact List.mem_cons_of_mem _ (hv.sub j hl)
   | false =>
    have hiC : i∈C:=by
     rcases Classical.em (i∈C) with h' | h'
     ·exact h'
     ·have hrd : readyD ops C i = true:=by
       simp only [readyD,ho,Bool.and_eq_true,Bool.not_eq_true',List.all_eq_true]
       exact ⟨by simpa using h',fun p hp => by simpa using hv.sub p (hpre p hp)⟩
      have:=List.find?_eq_none.1 hf i (List.mem_range.2 hilt)
      rw [he,hrd] at this
      simp at this
    obtain ⟨_,o',s,dv,ho',hs,g3,g4,g5⟩:=hv.pend i hiC hun'
    rw [ho] at ho'
    cases ho'
    have next : ∀ (v : Value) (w' : World),Ext d Gb wb G w'→Rel N0 w0 d G w' st h.tmps→SV G w' d dv v→dv.noOwn = true→opsJ I fn ops (Region.linearise.go .any ops fl (t / (Region.ready .any ops listed).length) (listed.setIfInBounds i true) []) (Lift N0 w0 d Gb wb K) (a.put o.dst v) w':=by
     intro v w' hx' hR' hsv hno
     have hR2 : Rel N0 w0 d G w' st (h.put o.dst v).tmps:=by
      have:=hR'.put (s:=s) hsv (sown_of_noOwn hno)
      rw [put_same g3 g5] at this
      rw [hs]; exact this
     refine draw_go hI hΓ hok fl _ hlen' (h:=h.put o.dst v) (C:=C) (G:=G) (st:=st) (fuel:=fuel + 1)
      ⟨hx',hR2,by rw [put_defers]; exact hv.hd,by rw [put_defers]; exact hv.ad,?_,fun s' hs' => ?_,fun j hj hl => ?_,fun j hl => ?_,hv.topo,hclosed,by simpa using hv.lsz,hv.run⟩
     ·rw [hs]; simpa [Act.put] using hv.sz
     ·rw [hs]
      simp only [Act.put,Array.getElem?_setIfInBounds,hv.sz]
      split
      ·rfl
      ·rename_i hne
       refine hv.agree s' fun j hj hl oj hoj hd => ?_
       by_cases hij : i = j
       ·subst hij
        rw [ho] at hoj; cases hoj
        rw [hs] at hd; cases hd; exact hne rfl
       ·exact hs' j hj (by rw [getD_setIf hils,if_neg hij]; exact hl) oj hoj hd
     ·rw [getD_setIf hils] at hl
      split at hl
      ·cases hl
      ·exact hv.pend j hj hl
     ·rw [getD_setIf hils] at hl
      split at hl
      ·rename_i e; subst e; exact hiC
      ·exact hv.sub j hl
    unfold dqw at g4
    split at g4
    case h_2 => exact g4.elim
    rename_i b hb
    have hw:=hwant.trans (dwant_sound hb hv.rel)
    cases b with
    | false =>
     have:=g4.2 rfl
     subst this
     exact opsJ_unwanted I ho hw (next undef w hv.ext hv.rel ⟨#[],rfl,rfl,by intro j c x hc; simp at hc⟩ rfl)
    | true =>
     refine opsJ_cons I ho hw fun d' => ?_
     have hn':=Neu.at G w d'
     obtain ⟨dv',v,h1,h2,h3,h4⟩:=dq_sound (g4.1 rfl) (hv.rel.neu hn')
     subst h1
     rw [hexec]
     exact ⟨_,_,h2,fun e _ => hI _ e,next v _ (hv.ext.trans (hn'.ext hv.rel.heap.fresh d)) (hv.rel.neu hn') h3 h4⟩
theorem draw_region {I : Jd P} (hI : ∀ w e,I.Ok w e) (hΓ : ∀ f S,Γ f = some S→RC I f S) (hm : P.follows .mixedOrders = true) {fn : FuncId} {id : Nat} (hok : drawOk ops eff = true) {Q : Exit→Act→World→Prop} {fuel : Nat}
  (h : Lift N0 w0 d Gb wb (fun st => ddraw P isObj Γ ops eff fuel [] st K) a w) (hQ : ∀ a w,Lift N0 w0 d Gb wb K a w→Q .normal a w) : wpJ I fn (.region id ops true) Q a w:=by
 refine wpJ_region_draw I fun t d' => ?_
 simp only [Region.schedule,hm,Bool.true_or,if_true,Region.linearise]
 obtain ⟨G,st,hs,hx,hR,hd⟩:=h
 have hn':=Neu.at G w d'
 refine (draw_go (st:=st) (G:=G) (h:=a) (C:=[]) (fuel:=fuel) hI hΓ hok ops.size t (by simpa using List.length_filter_le _ (List.range ops.size)) ⟨hx.trans (hn'.ext hR.heap.fresh d),hR.neu hn',hd,hd,rfl,fun _ _ => rfl,fun j hj => (by cases hj),fun j hl => ?_,trivial,fun j hl => ?_,(by simp),hs⟩).mono I hQ
 all_goals
  simp only [Array.getD_eq_getD_getElem?,Array.getElem?_replicate] at hl
  split at hl <;> simp at hl
end
end Go.Ab

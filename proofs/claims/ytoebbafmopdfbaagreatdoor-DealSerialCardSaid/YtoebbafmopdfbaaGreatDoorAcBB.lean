/- A part of the proof; no condition of its own. -/
import Derived.Test.YtoebbafmopdfbaaGreatDoorAcF
set_option linter.unusedSimpArgs false
set_option linter.unusedVariables false
/- AcK3: Functions whose one result is a variable in memory. -/
namespace Go.Ab
open Go Go.Conc Go.RowKit
variable {P : Program} {isObj : ObjT} {Γ : Env}
theorem stepG_leaveE {main : Bool} {b : Frame} {a : Act} {cs : List Frame} {w : World} {fn : Func} {todo : List Item} {c : Frame} {v : Value} (hn : b.kind = .normal) (hd : a.defers = []) (hf : P.funcs[b.fn]? = some fn)
  (hr : (results fn a.tmps).run P w = .ok v w) : ∃ es,stepG P main (G { b.at a todo with mode:=.returning } (c :: cs)) w = .go (G (c.finish v) cs) w es:=by
 simp [G,stepG,unwind,doReturn,Frame.at,hn,hd,hf,hr,GStep.after]
def retC (P : Program) (r : Nat) (t : TypeId) (K : List HObj→DV→Prop) : Exit→St→Prop
 | .normal,st | .ret,st => r < st.t.length∧dload P st t (st.t.getD r .undef) fun dv => dv.flat = true∧K st.H dv
 | _,_ => False
section
variable {n : Nat} {l : List (Nat × DV)} {B : List (Nat × Nat × List DV)} {H : List HObj} {lk : List (Nat × Pos)} {K : List HObj→DV→Prop}
theorem ret_cell {r : Nat} {t : TypeId} (h : r < n) : retC P r t K .ret (mk n l B H lk) = dload P (mk n l B H lk) t (look r l) fun dv => dv.flat = true∧K H dv:=by simp only [retC,mk,dense_length,dense_getD l h,h,true_and]
theorem ret_cell' {r : Nat} {t : TypeId} (h : r < n) : retC P r t K .normal (mk n l B H lk) = dload P (mk n l B H lk) t (look r l) fun dv => dv.flat = true∧K H dv:=by simp only [retC,mk,dense_length,dense_getD l h,h,true_and]
end
section
variable {n : Nat} {l : List (Nat × DV)} {B : List (Nat × Nat × List DV)} {H : List HObj} {lk : List (Nat × Pos)} {s g off : Nat} {cs : List DV}
def obx (g off : Nat) : Option (Nat × List DV)→Option Nat
 | some (g',cs) => if g' = g then ownSz cs[off]? else none
 | none => none
theorem own_box : ownAt (mk n l B H lk) (.box s g off) = obx g off (bget s B):=by
 simp only [ownAt,mk]
 cases bget s B <;> rfl
theorem obx_some {g' : Nat} : obx g off (some (g',cs)) = if g' = g then ownSz cs[off]? else none:=_root_.id rfl
def unbx (n : Nat) (l : List (Nat × DV)) (B : List (Nat × Nat × List DV)) (H : List HObj) (lk : List (Nat × Pos)) (s off : Nat) : Option (Nat × List DV)→St
 | some (g,cs) => mk n l (bset s g (listRo cs off) B) H lk
 | none => mk n l B H lk
theorem un_box : unown (mk n l B H lk) (.box s g off) = unbx n l B H lk s off (bget s B):=by
 cases h : bget s B with
 | none => simp only [unown,mk,h,unbx]
 | some x => simp only [unown,mk,h,unbx]
theorem unbx_some {g' : Nat} : unbx n l B H lk s off (some (g',cs)) = mk n l (bset s g' (listRo cs off) B) H lk:=_root_.id rfl
end
/-! ### heaps that grow -/
section
variable {H l : List HObj} {x y : HObj} {k i : Nat}
theorem ap_len : (H ++ l).length = H.length + l.length:=by simp
theorem ap_get0 : (H ++ x :: l)[H.length]? = some x:=by simp
theorem ap_get : (H ++ l)[H.length + k]? = l[k]?:=by simp [List.getElem?_append_right]
theorem ap_set0 : (H ++ x :: l).set H.length y = H ++ y :: l:=by simp
theorem ap_set : (H ++ l).set (H.length + k) y = H ++ l.set k y:=by simp [List.set_append_right]
end
end Go.Ab
/- AcK4: Functions whose first result is a variable in memory,the others are slots. -/
namespace Go.Ab
open Go Go.Conc Go.RowKit
variable {P : Program} {isObj : ObjT} {Γ : Env}
theorem results_mix1 {fn : Func} {r s : Nat} {t : TypeId} {tmps : Array Value} (h : fn.results = #[.cell r t,.tmp s]) : results fn tmps = (asAddr (tmps.getD r undef) >>= fun a => loadVar t a >>= fun v => pure (.tuple #[v,tmps.getD s undef])):=by
 unfold results
 rw [h,List.mapM_toArray]
 simp only [List.mapM_cons,List.mapM_nil,map_bind,bind_assoc,pure_bind,map_pure,List.size_toArray,List.length_cons,List.length_nil]
 simp
theorem results_mix2 {fn : Func} {r s q : Nat} {t : TypeId} {tmps : Array Value} (h : fn.results = #[.cell r t,.tmp s,.tmp q]) : results fn tmps = (asAddr (tmps.getD r undef) >>= fun a => loadVar t a >>= fun v => pure (.tuple #[v,tmps.getD s undef,tmps.getD q undef])):=by
 unfold results
 rw [h,List.mapM_toArray]
 simp only [List.mapM_cons,List.mapM_nil,map_bind,bind_assoc,pure_bind,map_pure,List.size_toArray,List.length_cons,List.length_nil]
 simp
def MixR (P : Program) (fn : Func) (r : Nat) (t : TypeId) (rs : List Nat) : Prop:=∀ (tmps : Array Value) (w : World) (v : Value),(Instr.loadAt t (tmps.getD r undef)).run P w = .ok v w→(results fn tmps).run P w = .ok (.tuple (v :: rs.map fun s => tmps.getD s undef).toArray) w
theorem mix1 {fn : Func} {r s : Nat} {t : TypeId} (h : fn.results = #[.cell r t,.tmp s]) : MixR P fn r t [s]:=fun tmps w v hl => by
 rw [results_mix1 h]
 generalize tmps.getD r undef = x at *
 unfold Instr.loadAt at hl
 rw [Sem.run_bind] at hl ⊢
 unfold Instr.sureAddr at hl
 split at hl
 ·have hl2 : (loadVar t _).run P w = .ok v w:=hl
  simp only [asAddr,Sem.run_pure,Result.andThen_ok,Sem.run_bind,hl2]
  rfl
 ·exact absurd hl (by simp [stuck])
theorem mix2 {fn : Func} {r s q : Nat} {t : TypeId} (h : fn.results = #[.cell r t,.tmp s,.tmp q]) : MixR P fn r t [s,q]:=fun tmps w v hl => by
 rw [results_mix2 h]
 generalize tmps.getD r undef = x at *
 unfold Instr.loadAt at hl
 rw [Sem.run_bind] at hl ⊢
 unfold Instr.sureAddr at hl
 split at hl
 ·have hl2 : (loadVar t _).run P w = .ok v w:=hl
  simp only [asAddr,Sem.run_pure,Result.andThen_ok,Sem.run_bind,hl2]
  rfl
 ·exact absurd hl (by simp [stuck])
def retM (P : Program) (r : Nat) (t : TypeId) (rs : List Nat) (K : List HObj→DV→Prop) : Exit→St→Prop
 | .normal,st | .ret,st => r < st.t.length∧(rs.all fun s => (decide (s < st.t.length)) && (st.t.getD s .undef).flat) = true∧dload P st t (st.t.getD r .undef) fun dv => dv.flat = true∧K st.H (.tup (dv :: rs.map fun s => (st.t.getD s .undef).ro))
 | _,_ => False
theorem flat_ro {d : DV} (h : d.flat = true) : d.ro.noOwn = true:=by
 have:=noOwn_ro d
 cases d <;> first | exact this | simp [DV.flat] at h
theorem cells_noOwn {d : DV} (h : d.flat = true) (hn : d.noOwn = true) : (d.cells.all fun x => !x.own1) = true:=by
 cases d <;> first | exact hn | simp [DV.flat] at h
theorem ro_flat {d : DV} (h : d.flat = true) : d.ro.flat = true:=by cases d <;> first | exact h | rfl
theorem rc_of_mix {I : Jd P} (hm : P.follows .mixedOrders = true) (hI : ∀ w e,I.Ok w e) (hΓ : ∀ f S,Γ f = some S→RC I f S) {f : FuncId} {fn : Func} {c : Code} {n r : Nat} {t : TypeId} {rs : List Nat} {S : Spec} (hf : P.funcs[f]? = some fn) (hn : (fn.name == "runtime.NumGoroutine") = false) (hb : fn.body = some c)
  (hr : MixR P fn r t rs) (hnt : fn.ntmps = n)
  (h : ∀ H args K,S H args K→args.length≤n∧args.all (fun d => match d with | .tup _ => false | _ => true) = true∧dwp P isObj Γ (hold c (tag _)) (hold (retM P r t rs K) (tag _)) (mk n (argSlots 0 args) [] H [])) : RC I f S:=by
 subst hnt
 refine ⟨⟨fn,hf,hn,by rw [hb]; rfl⟩,fun N0 w0 d G w H args vs K hS hW hF => ?_⟩
 obtain ⟨hlen,hnt,hS⟩:=h H args K hS
 obtain ⟨hR,hx⟩:=Rel.init (d:=d) (n:=fn.ntmps) hW hF hnt
 have hL : Lift N0 w0 (d + 1) G w (dwp P isObj Γ c (retM P r t rs K)) { tmps:=vs ++ Array.replicate (fn.ntmps - vs.size) undef,defers:=[] } w :=
  Lift.wk (K:=fun st => st = St.init fn.ntmps args H) ⟨_,_,rfl,hx,hR,rfl⟩ fun st e => ⟨_,by rw [e]; exact init_wk hlen,hS⟩
 intro fr cs K' hK
 rw [enter_at vs hf hb]
 have hleave : ∀ (a' : Act) (w' : World) (todo : List Item),Lift N0 w0 (d + 1) G w (retM P r t rs K .ret) a' w'→I.J { (base f).at a' todo with mode:=.returning } (fr :: cs) w' K':=by
  rintro a' w' todo ⟨G',st,⟨hlt,hall,hl⟩,h3,h4,h5⟩
  refine I.step fun dd => ?_
  have hn2:=Neu.at G' w' dd
  have h4':=h4.neu hn2
  have hsl : ∀ s,s < st.t.length→SV G' (w'.at dd) (d + 1) (st.t.getD s .undef) (a'.tmps.getD s undef):=by
   intro s hlt
   have hlt' : s < a'.tmps.size:=h4.len ▸ hlt
   have:=(h4'.slots s st.t[s] a'.tmps[s] (by simp [hlt]) (by simp [hlt'])).1
   simpa [List.getD,hlt,Array.getD_eq_getD_getElem?,hlt'] using this
  obtain ⟨dv,v,⟨hfl,hKv⟩,hrun,hsv,hno⟩:=dload_sound h4' (hsl r hlt) hl
  obtain ⟨es,hs⟩:=stepG_leaveE (P:=P) (main:=true) (b:=base f) (a:=a') (cs:=cs) (w:=w'.at dd) (fn:=fn) (todo:=todo) (c:=fr) rfl h5 hf (hr _ _ _ hrun)
  have hf2 : ∀ s∈rs,s < st.t.length∧(st.t.getD s .undef).flat = true:=fun s hs => by
   have:=List.all_eq_true.1 hall s hs
   simpa using this
  refine ⟨_,_,_,_,hs,fun e _ => hI _ _,hK _ _ ⟨G',st.H,.tup (dv :: rs.map fun s => (st.t.getD s .undef).ro),hKv,h3.trans (hn2.ext h4.heap.fresh _),(h4.heap.neu hn2),⟨_,rfl,by simp,fun j c x hc hx => ?_⟩,sown_of_noOwn ?_⟩⟩
  ·cases j with
   | zero =>
    simp at hc hx
    subst hc hx
    exact sv_flat hsv hfl
   | succ j =>
    simp only [List.getElem?_cons_succ,List.getElem?_toArray,List.getElem?_map] at hc hx
    obtain ⟨s,hs1,rfl⟩:=Option.map_eq_some_iff.1 hc
    rw [hs1] at hx
    obtain rfl : a'.tmps.getD s undef = x:=by simpa using hx
    obtain ⟨q1,q2⟩:=hf2 s (List.mem_of_getElem? hs1)
    exact (sv_flat (hsl s q1) q2).ro
  ·simp only [DV.noOwn,List.all_cons,Bool.and_eq_true]
   refine ⟨cells_noOwn hfl hno,List.all_eq_true.2 fun c hc => ?_⟩
   obtain ⟨s,hs1,rfl⟩:=List.mem_map.1 hc
   exact cells_noOwn (ro_flat (hf2 s hs1).2) (flat_ro (hf2 s hs1).2)
 refine (dwp_sound hm hI hΓ c hL) (base f) [] (fr :: cs) K' rfl (by simp [base]) fun e a' w' q => ?_
 cases e with
 | normal => exact I.silent (fun w => stepG_end) (hleave a' w' [] q)
 | ret => exact fun todo => hleave a' w' todo q
 | _ => obtain ⟨_,_,h,_⟩:=q; exact h.elim
section
variable {n : Nat} {l : List (Nat × DV)} {B : List (Nat × Nat × List DV)} {H : List HObj} {lk : List (Nat × Pos)} {K : List HObj→DV→Prop}
theorem ret_mix1 {r s : Nat} {t : TypeId} (h : r < n) (h2 : s < n) : retM P r t [s] K .ret (mk n l B H lk) = ((look s l).flat = true∧dload P (mk n l B H lk) t (look r l) fun dv => dv.flat = true∧K H (.tup [dv,(look s l).ro])):=by
 simp only [retM,mk,dense_length,dense_getD l h,dense_getD l h2,h,h2,true_and,List.all_cons,List.all_nil,decide_true,Bool.true_and,Bool.and_true,List.map_cons,List.map_nil]
theorem ret_mix2 {r s q : Nat} {t : TypeId} (h : r < n) (h2 : s < n) (h3 : q < n) : retM P r t [s,q] K .ret (mk n l B H lk) = (((look s l).flat = true∧(look q l).flat = true)∧dload P (mk n l B H lk) t (look r l) fun dv => dv.flat = true∧K H (.tup [dv,(look s l).ro,(look q l).ro])):=by
 simp only [retM,mk,dense_length,dense_getD l h,dense_getD l h2,dense_getD l h3,h,h2,h3,true_and,List.all_cons,List.all_nil,decide_true,Bool.true_and,Bool.and_true,List.map_cons,List.map_nil,Bool.and_eq_true]
theorem ret_three {r q s : Nat} (h : r < n) (h2 : q < n) (h3 : s < n) : retQ [r,q,s] K .ret (mk n l B H lk) = (((look r l).flat = true∧(look q l).flat = true∧(look s l).flat = true)∧K H (.tup [look r l,look q l,look s l])):=by
 simp only [retQ,mk,resultD,List.all_cons,List.all_nil,Bool.and_true,dense_length,dense_getD l h,dense_getD l h2,dense_getD l h3,h,h2,h3,decide_true,Bool.true_and,Bool.and_eq_true,List.map_cons,List.map_nil]
end
end Go.Ab
/- AcBB: The base laws of the symbolic run,bundled (simp takes conjunctions apart). Printed by wip/tools/genbb.py. -/
namespace Go.Ab
open Go Go.Conc Go.RowKit
theorem BZ1 : type_of% (And.intro (And.intro (And.intro (And.intro @Go.Ab.hold_app (And.intro @Go.Ab.look_hit @Go.Ab.hold_app2)) (And.intro @Go.Ab.look_miss (And.intro @Go.Ab.g_none @Go.Ab.rho_tmp))) (And.intro (And.intro @Go.Ab.mk_put (And.intro @Go.Ab.tS_cons @Go.Ab.mk_clean)) (And.intro @Go.Ab.tS_nil (And.intro @Go.Ab.move_tmp @Go.Ab.w_region)))) (And.intro (And.intro (And.intro @Go.Ab.o_assign (And.intro @Go.Ab.o_move @Go.Ab.take_tmp)) (And.intro @Go.Ab.vroA_int (And.intro @Go.Ab.rho_const @Go.Ab.take_const))) (And.intro (And.intro @Go.Ab.args_nil (And.intro @Go.Ab.args_cons @Go.Ab.o_fn)) (And.intro (And.intro @Go.Ab.w_cond @Go.Ab.env_cons) (And.intro @Go.Ab.dcl_some @Go.Ab.o_bin))))):=(And.intro (And.intro (And.intro (And.intro @Go.Ab.hold_app (And.intro @Go.Ab.look_hit @Go.Ab.hold_app2)) (And.intro @Go.Ab.look_miss (And.intro @Go.Ab.g_none @Go.Ab.rho_tmp))) (And.intro (And.intro @Go.Ab.mk_put (And.intro @Go.Ab.tS_cons @Go.Ab.mk_clean)) (And.intro @Go.Ab.tS_nil (And.intro @Go.Ab.move_tmp @Go.Ab.w_region)))) (And.intro (And.intro (And.intro @Go.Ab.o_assign (And.intro @Go.Ab.o_move @Go.Ab.take_tmp)) (And.intro @Go.Ab.vroA_int (And.intro @Go.Ab.rho_const @Go.Ab.take_const))) (And.intro (And.intro @Go.Ab.args_nil (And.intro @Go.Ab.args_cons @Go.Ab.o_fn)) (And.intro (And.intro @Go.Ab.w_cond @Go.Ab.env_cons) (And.intro @Go.Ab.dcl_some @Go.Ab.o_bin)))))
theorem BZ2 : type_of% (And.intro (And.intro (And.intro (And.intro (And.intro (And.intro @Go.Ab.mk_H @Go.Ab.mk_called) (And.intro @Go.Ab.vro_int (And.intro @Go.Ab.w_ret @Go.Ab.vroA_str))) (And.intro (And.intro @Go.Ab.vro_str (And.intro @Go.Ab.nil_tmp @Go.Ab.bget_nil)) (And.intro @Go.Ab.vroA_bool (And.intro @Go.Ab.vfla_int @Go.Ab.bget_cons)))) (And.intro (And.intro (And.intro @Go.Ab.nil_int (And.intro @Go.Ab.w_skip @Go.Ab.o_load)) (And.intro @Go.Ab.vcl_agg (And.intro @Go.Ab.vro1_str @Go.Ab.b_lss))) (And.intro (And.intro @Go.Ab.ld_h (And.intro @Go.Ab.dlb_some @Go.Ab.ld_b)) (And.intro @Go.Ab.vroA_ptr (And.intro @Go.Ab.vsca_int @Go.Ab.vro_sl))))) (And.intro (And.intro (And.intro (And.intro @Go.Ab.vsca_str (And.intro @Go.Ab.vfla_str @Go.Ab.dlh_some)) (And.intro @Go.Ab.vro1_bool (And.intro @Go.Ab.ret_one @Go.Ab.vro1_int))) (And.intro (And.intro @Go.Ab.vfla_bool (And.intro @Go.Ab.vro_agg @Go.Ab.mk_forget)) (And.intro @Go.Ab.vsca_bool (And.intro @Go.Ab.w_block @Go.Ab.vfla_sl)))) (And.intro (And.intro (And.intro @Go.Ab.putAt_eq (And.intro @Go.Ab.b_add @Go.Ab.vroA_hsl)) (And.intro @Go.Ab.bset_nil (And.intro @Go.Ab.vro_ptr @Go.Ab.mk_setT))) (And.intro (And.intro @Go.Ab.pk (And.intro @Go.Ab.o_len @Go.Ab.vro_bool)) (And.intro @Go.Ab.o_fieldAddr (And.intro @Go.Ab.w_exit @Go.Ab.vroA_sl)))))) (And.intro (And.intro (And.intro (And.intro (And.intro @Go.Ab.bset_cons @Go.Ab.lo_agg) (And.intro @Go.Ab.nv_if (And.intro @Go.Ab.vro_hsl @Go.Ab.vcl_int))) (And.intro (And.intro @Go.Ab.stb_some (And.intro @Go.Ab.st_b @Go.Ab.ld_vptr)) (And.intro @Go.Ab.u_not (And.intro @Go.Ab.vfla_hsl @Go.Ab.vfla_agg)))) (And.intro (And.intro (And.intro @Go.Ab.ex_0 (And.intro @Go.Ab.ex_1 @Go.Ab.rpA_zero)) (And.intro @Go.Ab.rp_acts (And.intro @Go.Ab.ra_cons @Go.Ab.rp_quiet))) (And.intro (And.intro @Go.Ab.rpA_succ (And.intro @Go.Ab.ex_eq @Go.Ab.ra_nil)) (And.intro @Go.Ab.rpQ_zero (And.intro @Go.Ab.vfla_ptr @Go.Ab.rpQ_succ))))) (And.intro (And.intro (And.intro (And.intro @Go.Ab.ext_tmp (And.intro @Go.Ab.move_const @Go.Ab.gs1_eq)) (And.intro @Go.Ab.gq_succ (And.intro @Go.Ab.g_some @Go.Ab.gq_zero))) (And.intro (And.intro @Go.Ab.o_store (And.intro @Go.Ab.vcl_str @Go.Ab.mk_setB)) (And.intro @Go.Ab.lo_str (And.intro @Go.Ab.rcA_nil @Go.Ab.slL_nil)))) (And.intro (And.intro (And.intro @Go.Ab.mk_unlink (And.intro @Go.Ab.q_move @Go.Ab.o_indexAddr)) (And.intro @Go.Ab.lo_sl (And.intro @Go.Ab.vro1_sl @Go.Ab.vsca_sl))) (And.intro (And.intro @Go.Ab.lo_int (And.intro @Go.Ab.vcl_sl @Go.Ab.st_h)) (And.intro @Go.Ab.o_un (And.intro @Go.Ab.sth_some @Go.Ab.o_nilCheck))))))):=(And.intro (And.intro (And.intro (And.intro (And.intro (And.intro @Go.Ab.mk_H @Go.Ab.mk_called) (And.intro @Go.Ab.vro_int (And.intro @Go.Ab.w_ret @Go.Ab.vroA_str))) (And.intro (And.intro @Go.Ab.vro_str (And.intro @Go.Ab.nil_tmp @Go.Ab.bget_nil)) (And.intro @Go.Ab.vroA_bool (And.intro @Go.Ab.vfla_int @Go.Ab.bget_cons)))) (And.intro (And.intro (And.intro @Go.Ab.nil_int (And.intro @Go.Ab.w_skip @Go.Ab.o_load)) (And.intro @Go.Ab.vcl_agg (And.intro @Go.Ab.vro1_str @Go.Ab.b_lss))) (And.intro (And.intro @Go.Ab.ld_h (And.intro @Go.Ab.dlb_some @Go.Ab.ld_b)) (And.intro @Go.Ab.vroA_ptr (And.intro @Go.Ab.vsca_int @Go.Ab.vro_sl))))) (And.intro (And.intro (And.intro (And.intro @Go.Ab.vsca_str (And.intro @Go.Ab.vfla_str @Go.Ab.dlh_some)) (And.intro @Go.Ab.vro1_bool (And.intro @Go.Ab.ret_one @Go.Ab.vro1_int))) (And.intro (And.intro @Go.Ab.vfla_bool (And.intro @Go.Ab.vro_agg @Go.Ab.mk_forget)) (And.intro @Go.Ab.vsca_bool (And.intro @Go.Ab.w_block @Go.Ab.vfla_sl)))) (And.intro (And.intro (And.intro @Go.Ab.putAt_eq (And.intro @Go.Ab.b_add @Go.Ab.vroA_hsl)) (And.intro @Go.Ab.bset_nil (And.intro @Go.Ab.vro_ptr @Go.Ab.mk_setT))) (And.intro (And.intro @Go.Ab.pk (And.intro @Go.Ab.o_len @Go.Ab.vro_bool)) (And.intro @Go.Ab.o_fieldAddr (And.intro @Go.Ab.w_exit @Go.Ab.vroA_sl)))))) (And.intro (And.intro (And.intro (And.intro (And.intro @Go.Ab.bset_cons @Go.Ab.lo_agg) (And.intro @Go.Ab.nv_if (And.intro @Go.Ab.vro_hsl @Go.Ab.vcl_int))) (And.intro (And.intro @Go.Ab.stb_some (And.intro @Go.Ab.st_b @Go.Ab.ld_vptr)) (And.intro @Go.Ab.u_not (And.intro @Go.Ab.vfla_hsl @Go.Ab.vfla_agg)))) (And.intro (And.intro (And.intro @Go.Ab.ex_0 (And.intro @Go.Ab.ex_1 @Go.Ab.rpA_zero)) (And.intro @Go.Ab.rp_acts (And.intro @Go.Ab.ra_cons @Go.Ab.rp_quiet))) (And.intro (And.intro @Go.Ab.rpA_succ (And.intro @Go.Ab.ex_eq @Go.Ab.ra_nil)) (And.intro @Go.Ab.rpQ_zero (And.intro @Go.Ab.vfla_ptr @Go.Ab.rpQ_succ))))) (And.intro (And.intro (And.intro (And.intro @Go.Ab.ext_tmp (And.intro @Go.Ab.move_const @Go.Ab.gs1_eq)) (And.intro @Go.Ab.gq_succ (And.intro @Go.Ab.g_some @Go.Ab.gq_zero))) (And.intro (And.intro @Go.Ab.o_store (And.intro @Go.Ab.vcl_str @Go.Ab.mk_setB)) (And.intro @Go.Ab.lo_str (And.intro @Go.Ab.rcA_nil @Go.Ab.slL_nil)))) (And.intro (And.intro (And.intro @Go.Ab.mk_unlink (And.intro @Go.Ab.q_move @Go.Ab.o_indexAddr)) (And.intro @Go.Ab.lo_sl (And.intro @Go.Ab.vro1_sl @Go.Ab.vsca_sl))) (And.intro (And.intro @Go.Ab.lo_int (And.intro @Go.Ab.vcl_sl @Go.Ab.st_h)) (And.intro @Go.Ab.o_un (And.intro @Go.Ab.sth_some @Go.Ab.o_nilCheck)))))))
theorem BZ3 : type_of% (And.intro (And.intro (And.intro (And.intro (And.intro (And.intro @Go.Ab.vfla_fn (And.intro @Go.Ab.vro_fn @Go.Ab.b_eql)) (And.intro @Go.Ab.mk_setH (And.intro @Go.Ab.rp_done @Go.Ab.o_pick))) (And.intro (And.intro @Go.Ab.bsl_f (And.intro @Go.Ab.nc1 @Go.Ab.vroA_tup)) (And.intro @Go.Ab.ex_2 (And.intro @Go.Ab.lo_map @Go.Ab.b_neq)))) (And.intro (And.intro (And.intro @Go.Ab.vcl_bool (And.intro @Go.Ab.q_load @Go.Ab.onMap_some)) (And.intro @Go.Ab.lo_bool (And.intro @Go.Ab.mk_newMap @Go.Ab.clo_fn))) (And.intro (And.intro @Go.Ab.lo_hsl (And.intro @Go.Ab.o_clo @Go.Ab.dcl2_some)) (And.intro (And.intro @Go.Ab.vsca_hsl @Go.Ab.lo_ptr) (And.intro @Go.Ab.o_append @Go.Ab.vroA_agg))))) (And.intro (And.intro (And.intro (And.intro @Go.Ab.mk_newFun (And.intro @Go.Ab.vro1_agg @Go.Ab.vcl_hsl)) (And.intro @Go.Ab.vsca_agg (And.intro @Go.Ab.apd_own @Go.Ab.nc0))) (And.intro (And.intro @Go.Ab.o_extract (And.intro @Go.Ab.vroA_fn @Go.Ab.b_sub)) (And.intro (And.intro @Go.Ab.b_gtr @Go.Ab.vro1_hsl) (And.intro @Go.Ab.vsca_fn @Go.Ab.vfla_undef)))) (And.intro (And.intro (And.intro @Go.Ab.vro_undef (And.intro @Go.Ab.lo_fn @Go.Ab.vcl_fn)) (And.intro @Go.Ab.vroA_undef (And.intro @Go.Ab.vro1_fn @Go.Ab.vcl_undef))) (And.intro (And.intro @Go.Ab.vsca_undef (And.intro @Go.Ab.vro1_undef @Go.Ab.q_fieldAddr)) (And.intro (And.intro @Go.Ab.s_add @Go.Ab.b_leq) (And.intro @Go.Ab.own_slot @Go.Ab.un_slot)))))) (And.intro (And.intro (And.intro (And.intro (And.intro @Go.Ab.o_box (And.intro @Go.Ab.b_geq @Go.Ab.s_eql)) (And.intro @Go.Ab.bsl_t (And.intro @Go.Ab.s_neq @Go.Ab.wrap_i64))) (And.intro (And.intro @Go.Ab.q_bin (And.intro @Go.Ab.nil_str @Go.Ab.mk_t)) (And.intro (And.intro @Go.Ab.ownSz_t @Go.Ab.o_slice) (And.intro @Go.Ab.nc2 @Go.Ab.part_sl)))) (And.intro (And.intro (And.intro @Go.Ab.slL_cons (And.intro @Go.Ab.rcW_zero @Go.Ab.slW_zero)) (And.intro @Go.Ab.rcA_cons (And.intro @Go.Ab.m_max @Go.Ab.b_rem))) (And.intro (And.intro @Go.Ab.nil_sl (And.intro @Go.Ab.m_min @Go.Ab.nil_ptr)) (And.intro (And.intro @Go.Ab.s_geq @Go.Ab.b_quo) (And.intro @Go.Ab.nc4 @Go.Ab.nc3))))) (And.intro (And.intro (And.intro (And.intro @Go.Ab.s_lss (And.intro @Go.Ab.plain_int @Go.Ab.nil_map)) (And.intro @Go.Ab.wrap_u8 (And.intro @Go.Ab.plain_str @Go.Ab.b_mul))) (And.intro (And.intro @Go.Ab.nil_bool (And.intro @Go.Ab.nc5 @Go.Ab.bd_nil)) (And.intro (And.intro @Go.Ab.o_conv @Go.Ab.q_nilCheck) (And.intro @Go.Ab.rcW_succ @Go.Ab.slW_succ)))) (And.intro (And.intro (And.intro @Go.Ab.w_label (And.intro @Go.Ab.w_scope @Go.Ab.o_lookup)) (And.intro @Go.Ab.ret_two (And.intro @Go.Ab.bdk_eq @Go.Ab.o_mapUpdate))) (And.intro (And.intro @Go.Ab.o_max (And.intro @Go.Ab.o_min @Go.Ab.o_index)) (And.intro (And.intro @Go.Ab.gs2_tup @Go.Ab.o_delete) (And.intro @Go.Ab.o_makeMap @Go.Ab.o_makeFunc))))))):=(And.intro (And.intro (And.intro (And.intro (And.intro (And.intro @Go.Ab.vfla_fn (And.intro @Go.Ab.vro_fn @Go.Ab.b_eql)) (And.intro @Go.Ab.mk_setH (And.intro @Go.Ab.rp_done @Go.Ab.o_pick))) (And.intro (And.intro @Go.Ab.bsl_f (And.intro @Go.Ab.nc1 @Go.Ab.vroA_tup)) (And.intro @Go.Ab.ex_2 (And.intro @Go.Ab.lo_map @Go.Ab.b_neq)))) (And.intro (And.intro (And.intro @Go.Ab.vcl_bool (And.intro @Go.Ab.q_load @Go.Ab.onMap_some)) (And.intro @Go.Ab.lo_bool (And.intro @Go.Ab.mk_newMap @Go.Ab.clo_fn))) (And.intro (And.intro @Go.Ab.lo_hsl (And.intro @Go.Ab.o_clo @Go.Ab.dcl2_some)) (And.intro (And.intro @Go.Ab.vsca_hsl @Go.Ab.lo_ptr) (And.intro @Go.Ab.o_append @Go.Ab.vroA_agg))))) (And.intro (And.intro (And.intro (And.intro @Go.Ab.mk_newFun (And.intro @Go.Ab.vro1_agg @Go.Ab.vcl_hsl)) (And.intro @Go.Ab.vsca_agg (And.intro @Go.Ab.apd_own @Go.Ab.nc0))) (And.intro (And.intro @Go.Ab.o_extract (And.intro @Go.Ab.vroA_fn @Go.Ab.b_sub)) (And.intro (And.intro @Go.Ab.b_gtr @Go.Ab.vro1_hsl) (And.intro @Go.Ab.vsca_fn @Go.Ab.vfla_undef)))) (And.intro (And.intro (And.intro @Go.Ab.vro_undef (And.intro @Go.Ab.lo_fn @Go.Ab.vcl_fn)) (And.intro @Go.Ab.vroA_undef (And.intro @Go.Ab.vro1_fn @Go.Ab.vcl_undef))) (And.intro (And.intro @Go.Ab.vsca_undef (And.intro @Go.Ab.vro1_undef @Go.Ab.q_fieldAddr)) (And.intro (And.intro @Go.Ab.s_add @Go.Ab.b_leq) (And.intro @Go.Ab.own_slot @Go.Ab.un_slot)))))) (And.intro (And.intro (And.intro (And.intro (And.intro @Go.Ab.o_box (And.intro @Go.Ab.b_geq @Go.Ab.s_eql)) (And.intro @Go.Ab.bsl_t (And.intro @Go.Ab.s_neq @Go.Ab.wrap_i64))) (And.intro (And.intro @Go.Ab.q_bin (And.intro @Go.Ab.nil_str @Go.Ab.mk_t)) (And.intro (And.intro @Go.Ab.ownSz_t @Go.Ab.o_slice) (And.intro @Go.Ab.nc2 @Go.Ab.part_sl)))) (And.intro (And.intro (And.intro @Go.Ab.slL_cons (And.intro @Go.Ab.rcW_zero @Go.Ab.slW_zero)) (And.intro @Go.Ab.rcA_cons (And.intro @Go.Ab.m_max @Go.Ab.b_rem))) (And.intro (And.intro @Go.Ab.nil_sl (And.intro @Go.Ab.m_min @Go.Ab.nil_ptr)) (And.intro (And.intro @Go.Ab.s_geq @Go.Ab.b_quo) (And.intro @Go.Ab.nc4 @Go.Ab.nc3))))) (And.intro (And.intro (And.intro (And.intro @Go.Ab.s_lss (And.intro @Go.Ab.plain_int @Go.Ab.nil_map)) (And.intro @Go.Ab.wrap_u8 (And.intro @Go.Ab.plain_str @Go.Ab.b_mul))) (And.intro (And.intro @Go.Ab.nil_bool (And.intro @Go.Ab.nc5 @Go.Ab.bd_nil)) (And.intro (And.intro @Go.Ab.o_conv @Go.Ab.q_nilCheck) (And.intro @Go.Ab.rcW_succ @Go.Ab.slW_succ)))) (And.intro (And.intro (And.intro @Go.Ab.w_label (And.intro @Go.Ab.w_scope @Go.Ab.o_lookup)) (And.intro @Go.Ab.ret_two (And.intro @Go.Ab.bdk_eq @Go.Ab.o_mapUpdate))) (And.intro (And.intro @Go.Ab.o_max (And.intro @Go.Ab.o_min @Go.Ab.o_index)) (And.intro (And.intro @Go.Ab.gs2_tup @Go.Ab.o_delete) (And.intro @Go.Ab.o_makeMap @Go.Ab.o_makeFunc)))))))
theorem BQ : type_of% (And.intro (And.intro (And.intro (And.intro (And.intro @List.take_succ_cons.{0} (And.intro @List.take_zero.{0} @List.nil_append.{0})) (And.intro @List.cons_append.{0} (And.intro @List.append_nil.{0} @List.append_eq.{0}))) (And.intro (And.intro @List.drop_nil.{0} (And.intro @List.filter_nil.{0} @Bool.or_self)) (And.intro (And.intro @Bool.or_true @Bool.true_or) (And.intro @Bool.or_false @decide_true)))) (And.intro (And.intro (And.intro @decide_false (And.intro @Int.toNat_natCast @List.drop_succ_cons.{0})) (And.intro (And.intro @List.drop_zero.{0} @Nat.zero_add) (And.intro @Nat.add_zero @Nat.zero_mul))) (And.intro (And.intro @List.getElem?_cons_zero.{0} (And.intro @List.getElem?_cons_succ.{0} @Option.map_some.{0,0})) (And.intro (And.intro @Option.map_none.{0,0} @Option.isSome_some.{0}) (And.intro @Bool.true_eq_false @Bool.false_eq_true))))) (And.intro (And.intro (And.intro (And.intro @false_implies (And.intro @true_implies @and_true)) (And.intro @true_and (And.intro @not_false_eq_true @not_true_eq_false))) (And.intro (And.intro @List.all_cons.{0} (And.intro @List.all_nil.{0} @Bool.and_self)) (And.intro (And.intro @Bool.and_true @Bool.not_true) (And.intro @Bool.not_false @List.length_cons.{0})))) (And.intro (And.intro (And.intro @List.length_nil.{0} (And.intro @beq_self_eq_true.{0} @List.flatMap_cons.{0,0})) (And.intro (And.intro @List.flatMap_nil.{0,0} @List.filter_cons.{0}) (And.intro @List.mem_singleton.{0} @List.set_cons_zero.{0}))) (And.intro (And.intro @List.set_cons_succ.{0} (And.intro @List.getD_cons_zero.{0} @List.getD_cons_succ.{0})) (And.intro (And.intro @List.getElem?_set_self'.{0} @List.set_set.{0}) (And.intro @Option.map_eq_map.{0} @List.append_assoc.{0})))))):=(And.intro (And.intro (And.intro (And.intro (And.intro @List.take_succ_cons.{0} (And.intro @List.take_zero.{0} @List.nil_append.{0})) (And.intro @List.cons_append.{0} (And.intro @List.append_nil.{0} @List.append_eq.{0}))) (And.intro (And.intro @List.drop_nil.{0} (And.intro @List.filter_nil.{0} @Bool.or_self)) (And.intro (And.intro @Bool.or_true @Bool.true_or) (And.intro @Bool.or_false @decide_true)))) (And.intro (And.intro (And.intro @decide_false (And.intro @Int.toNat_natCast @List.drop_succ_cons.{0})) (And.intro (And.intro @List.drop_zero.{0} @Nat.zero_add) (And.intro @Nat.add_zero @Nat.zero_mul))) (And.intro (And.intro @List.getElem?_cons_zero.{0} (And.intro @List.getElem?_cons_succ.{0} @Option.map_some.{0,0})) (And.intro (And.intro @Option.map_none.{0,0} @Option.isSome_some.{0}) (And.intro @Bool.true_eq_false @Bool.false_eq_true))))) (And.intro (And.intro (And.intro (And.intro @false_implies (And.intro @true_implies @and_true)) (And.intro @true_and (And.intro @not_false_eq_true @not_true_eq_false))) (And.intro (And.intro @List.all_cons.{0} (And.intro @List.all_nil.{0} @Bool.and_self)) (And.intro (And.intro @Bool.and_true @Bool.not_true) (And.intro @Bool.not_false @List.length_cons.{0})))) (And.intro (And.intro (And.intro @List.length_nil.{0} (And.intro @beq_self_eq_true.{0} @List.flatMap_cons.{0,0})) (And.intro (And.intro @List.flatMap_nil.{0,0} @List.filter_cons.{0}) (And.intro @List.mem_singleton.{0} @List.set_cons_zero.{0}))) (And.intro (And.intro @List.set_cons_succ.{0} (And.intro @List.getD_cons_zero.{0} @List.getD_cons_succ.{0})) (And.intro (And.intro @List.getElem?_set_self'.{0} @List.set_set.{0}) (And.intro @Option.map_eq_map.{0} @List.append_assoc.{0}))))))
theorem BP : type_of% (And.intro (And.intro (And.intro (And.intro (And.intro @tA_cons @tA_nil) (And.intro @qA_zero @qA_succ)) (And.intro (And.intro @qA_nil @o_field) (And.intro @mk_put?_some @mk_put?_none))) (And.intro (And.intro (And.intro @vcl_ptr @vsca_ptr) (And.intro @vro_map @vroA_map)) (And.intro (And.intro @vcl_map @vsca_map) (And.intro @vfla_map (And.intro @q_pick @q_un))))) (And.intro (And.intro (And.intro (And.intro @q_indexAddr @q_len) (And.intro @ap_len @ap_get0)) (And.intro (And.intro @own_hp @ohp_some) (And.intro @ownSz_f @un_hp))) (And.intro (And.intro (And.intro @unh_some @listRo_eq) (And.intro @ret_none' @apdO_h)) (And.intro (And.intro @newRow_mk @schh_some) (And.intro @o_copy (And.intro @s_leq @schS_some)))))):=(And.intro (And.intro (And.intro (And.intro (And.intro @tA_cons @tA_nil) (And.intro @qA_zero @qA_succ)) (And.intro (And.intro @qA_nil @o_field) (And.intro @mk_put?_some @mk_put?_none))) (And.intro (And.intro (And.intro @vcl_ptr @vsca_ptr) (And.intro @vro_map @vroA_map)) (And.intro (And.intro @vcl_map @vsca_map) (And.intro @vfla_map (And.intro @q_pick @q_un))))) (And.intro (And.intro (And.intro (And.intro @q_indexAddr @q_len) (And.intro @ap_len @ap_get0)) (And.intro (And.intro @own_hp @ohp_some) (And.intro @ownSz_f @un_hp))) (And.intro (And.intro (And.intro @unh_some @listRo_eq) (And.intro @ret_none' @apdO_h)) (And.intro (And.intro @newRow_mk @schh_some) (And.intro @o_copy (And.intro @s_leq @schS_some))))))
end Go.Ab

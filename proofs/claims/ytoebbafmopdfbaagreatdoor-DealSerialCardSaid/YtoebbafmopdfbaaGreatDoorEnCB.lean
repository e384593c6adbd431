/- A part of the proof; no condition of its own. -/
import Derived.Test.YtoebbafmopdfbaaGreatDoorEnBH
set_option linter.unusedSimpArgs false
set_option linter.unusedVariables false
namespace Go.Ab
theorem BB0 : type_of% (And.intro (And.intro (And.intro (And.intro (And.intro @w_skip (And.intro @w_label @w_ret)) (And.intro @w_exit (And.intro @w_seq @w_cond))) (And.intro (And.intro @w_block (And.intro @w_scope @w_region)) (And.intro @mk_clean (And.intro @tS_cons @tS_nil)))) (And.intro (And.intro (And.intro @tA_cons (And.intro @tA_nil @qA_zero)) (And.intro @qA_succ (And.intro @qA_nil @g_none))) (And.intro (And.intro @g_some (And.intro @gq_zero @gq_succ)) (And.intro @gs1_eq (And.intro @gs2_tup @o_move))))) (And.intro (And.intro (And.intro (And.intro @o_assign (And.intro @o_pick @o_box)) (And.intro @o_load (And.intro @o_store @o_nilCheck))) (And.intro (And.intro @o_bin (And.intro @o_un @o_conv)) (And.intro @o_makeMap (And.intro @o_slice @o_fieldAddr)))) (And.intro (And.intro (And.intro @o_field (And.intro @o_indexAddr @o_index)) (And.intro @o_lookup (And.intro @o_mapUpdate @o_extract))) (And.intro (And.intro @o_len (And.intro @o_max @o_min)) (And.intro @o_append (And.intro @o_delete @o_makeFunc)))))):=(And.intro (And.intro (And.intro (And.intro (And.intro @w_skip (And.intro @w_label @w_ret)) (And.intro @w_exit (And.intro @w_seq @w_cond))) (And.intro (And.intro @w_block (And.intro @w_scope @w_region)) (And.intro @mk_clean (And.intro @tS_cons @tS_nil)))) (And.intro (And.intro (And.intro @tA_cons (And.intro @tA_nil @qA_zero)) (And.intro @qA_succ (And.intro @qA_nil @g_none))) (And.intro (And.intro @g_some (And.intro @gq_zero @gq_succ)) (And.intro @gs1_eq (And.intro @gs2_tup @o_move))))) (And.intro (And.intro (And.intro (And.intro @o_assign (And.intro @o_pick @o_box)) (And.intro @o_load (And.intro @o_store @o_nilCheck))) (And.intro (And.intro @o_bin (And.intro @o_un @o_conv)) (And.intro @o_makeMap (And.intro @o_slice @o_fieldAddr)))) (And.intro (And.intro (And.intro @o_field (And.intro @o_indexAddr @o_index)) (And.intro @o_lookup (And.intro @o_mapUpdate @o_extract))) (And.intro (And.intro @o_len (And.intro @o_max @o_min)) (And.intro @o_append (And.intro @o_delete @o_makeFunc))))))
theorem BB1 : type_of% (And.intro (And.intro (And.intro (And.intro (And.intro @o_clo (And.intro @clo_fn @dcl2_some)) (And.intro @hold_app (And.intro @hold_app2 @move_tmp))) (And.intro (And.intro @move_const (And.intro @take_tmp @take_const)) (And.intro @rho_tmp (And.intro @rho_const @mk_put)))) (And.intro (And.intro (And.intro @mk_put?_some (And.intro @mk_put?_none @mk_setT)) (And.intro @mk_newMap (And.intro @mk_newFun @mk_forget))) (And.intro (And.intro @vro1_bool (And.intro @vro_bool @vroA_bool)) (And.intro @vcl_bool (And.intro @vsca_bool @vfla_bool))))) (And.intro (And.intro (And.intro (And.intro @vro1_int (And.intro @vro_int @vroA_int)) (And.intro @vcl_int (And.intro @vsca_int @vfla_int))) (And.intro (And.intro @vro1_str (And.intro @vro_str @vroA_str)) (And.intro @vcl_str (And.intro @vsca_str @vfla_str)))) (And.intro (And.intro (And.intro @vro1_sl (And.intro @vro_sl @vroA_sl)) (And.intro @vcl_sl (And.intro @vsca_sl @vfla_sl))) (And.intro (And.intro @vro1_agg (And.intro @vro_agg @vroA_agg)) (And.intro @vcl_agg (And.intro @vsca_agg @vfla_agg)))))):=(And.intro (And.intro (And.intro (And.intro (And.intro @o_clo (And.intro @clo_fn @dcl2_some)) (And.intro @hold_app (And.intro @hold_app2 @move_tmp))) (And.intro (And.intro @move_const (And.intro @take_tmp @take_const)) (And.intro @rho_tmp (And.intro @rho_const @mk_put)))) (And.intro (And.intro (And.intro @mk_put?_some (And.intro @mk_put?_none @mk_setT)) (And.intro @mk_newMap (And.intro @mk_newFun @mk_forget))) (And.intro (And.intro @vro1_bool (And.intro @vro_bool @vroA_bool)) (And.intro @vcl_bool (And.intro @vsca_bool @vfla_bool))))) (And.intro (And.intro (And.intro (And.intro @vro1_int (And.intro @vro_int @vroA_int)) (And.intro @vcl_int (And.intro @vsca_int @vfla_int))) (And.intro (And.intro @vro1_str (And.intro @vro_str @vroA_str)) (And.intro @vcl_str (And.intro @vsca_str @vfla_str)))) (And.intro (And.intro (And.intro @vro1_sl (And.intro @vro_sl @vroA_sl)) (And.intro @vcl_sl (And.intro @vsca_sl @vfla_sl))) (And.intro (And.intro @vro1_agg (And.intro @vro_agg @vroA_agg)) (And.intro @vcl_agg (And.intro @vsca_agg @vfla_agg))))))
theorem BB2 : type_of% (And.intro (And.intro (And.intro (And.intro (And.intro @vro1_tup (And.intro @vro_tup @vroA_tup)) (And.intro @vcl_tup (And.intro @vsca_tup @vfla_tup))) (And.intro (And.intro @vro1_nilp (And.intro @vro_nilp @vroA_nilp)) (And.intro @vcl_nilp (And.intro @vsca_nilp @vfla_nilp)))) (And.intro (And.intro (And.intro @vro1_ptr (And.intro @vro_ptr @vroA_ptr)) (And.intro @vcl_ptr (And.intro @vsca_ptr @vfla_ptr))) (And.intro (And.intro @vro1_lptr (And.intro @vro_lptr @vroA_lptr)) (And.intro @vcl_lptr (And.intro @vsca_lptr @vfla_lptr))))) (And.intro (And.intro (And.intro (And.intro @vro1_lsl (And.intro @vro_lsl @vroA_lsl)) (And.intro @vcl_lsl (And.intro @vsca_lsl @vfla_lsl))) (And.intro (And.intro @vro1_vptr (And.intro @vro_vptr @vroA_vptr)) (And.intro @vcl_vptr (And.intro @vsca_vptr @vfla_vptr)))) (And.intro (And.intro (And.intro @vro1_map (And.intro @vro_map @vroA_map)) (And.intro @vcl_map (And.intro @vsca_map @vfla_map))) (And.intro (And.intro @vro1_nilmap (And.intro @vro_nilmap @vroA_nilmap)) (And.intro @vcl_nilmap (And.intro @vsca_nilmap @vfla_nilmap)))))):=(And.intro (And.intro (And.intro (And.intro (And.intro @vro1_tup (And.intro @vro_tup @vroA_tup)) (And.intro @vcl_tup (And.intro @vsca_tup @vfla_tup))) (And.intro (And.intro @vro1_nilp (And.intro @vro_nilp @vroA_nilp)) (And.intro @vcl_nilp (And.intro @vsca_nilp @vfla_nilp)))) (And.intro (And.intro (And.intro @vro1_ptr (And.intro @vro_ptr @vroA_ptr)) (And.intro @vcl_ptr (And.intro @vsca_ptr @vfla_ptr))) (And.intro (And.intro @vro1_lptr (And.intro @vro_lptr @vroA_lptr)) (And.intro @vcl_lptr (And.intro @vsca_lptr @vfla_lptr))))) (And.intro (And.intro (And.intro (And.intro @vro1_lsl (And.intro @vro_lsl @vroA_lsl)) (And.intro @vcl_lsl (And.intro @vsca_lsl @vfla_lsl))) (And.intro (And.intro @vro1_vptr (And.intro @vro_vptr @vroA_vptr)) (And.intro @vcl_vptr (And.intro @vsca_vptr @vfla_vptr)))) (And.intro (And.intro (And.intro @vro1_map (And.intro @vro_map @vroA_map)) (And.intro @vcl_map (And.intro @vsca_map @vfla_map))) (And.intro (And.intro @vro1_nilmap (And.intro @vro_nilmap @vroA_nilmap)) (And.intro @vcl_nilmap (And.intro @vsca_nilmap @vfla_nilmap))))))
theorem BB3 : type_of% (And.intro (And.intro (And.intro (And.intro (And.intro @vro1_undef (And.intro @vro_undef @vroA_undef)) (And.intro @vcl_undef (And.intro @vsca_undef @vfla_undef))) (And.intro (And.intro @vro1_fn (And.intro @vro_fn @vroA_fn)) (And.intro @vcl_fn (And.intro @vsca_fn @vfla_fn)))) (And.intro (And.intro (And.intro @vro1_hsl (And.intro @vro_hsl @vroA_hsl)) (And.intro @vcl_hsl (And.intro @vsca_hsl @vfla_hsl))) (And.intro (And.intro @look_hit (And.intro @look_miss @ext_tmp)) (And.intro @pk (And.intro @ex_0 @ex_1))))) (And.intro (And.intro (And.intro (And.intro @ex_2 (And.intro @lo_int @lo_str)) (And.intro @lo_bool (And.intro @lo_map @lo_ptr))) (And.intro (And.intro @lo_agg (And.intro @lo_sl @lo_hsl)) (And.intro @lo_fn (And.intro @ld_vptr @ld_h)))) (And.intro (And.intro (And.intro @dlh_some (And.intro @ld_b @dlb_some)) (And.intro @st_h (And.intro @sth_some @st_b))) (And.intro (And.intro @stb_some (And.intro @onMap_some @bget_nil)) (And.intro @bget_cons (And.intro @bset_nil @bset_cons)))))):=(And.intro (And.intro (And.intro (And.intro (And.intro @vro1_undef (And.intro @vro_undef @vroA_undef)) (And.intro @vcl_undef (And.intro @vsca_undef @vfla_undef))) (And.intro (And.intro @vro1_fn (And.intro @vro_fn @vroA_fn)) (And.intro @vcl_fn (And.intro @vsca_fn @vfla_fn)))) (And.intro (And.intro (And.intro @vro1_hsl (And.intro @vro_hsl @vroA_hsl)) (And.intro @vcl_hsl (And.intro @vsca_hsl @vfla_hsl))) (And.intro (And.intro @look_hit (And.intro @look_miss @ext_tmp)) (And.intro @pk (And.intro @ex_0 @ex_1))))) (And.intro (And.intro (And.intro (And.intro @ex_2 (And.intro @lo_int @lo_str)) (And.intro @lo_bool (And.intro @lo_map @lo_ptr))) (And.intro (And.intro @lo_agg (And.intro @lo_sl @lo_hsl)) (And.intro @lo_fn (And.intro @ld_vptr @ld_h)))) (And.intro (And.intro (And.intro @dlh_some (And.intro @ld_b @dlb_some)) (And.intro @st_h (And.intro @sth_some @st_b))) (And.intro (And.intro @stb_some (And.intro @onMap_some @bget_nil)) (And.intro @bget_cons (And.intro @bset_nil @bset_cons))))))
theorem BB4 : type_of% (And.intro (And.intro (And.intro (And.intro (And.intro @putAt_eq (And.intro @mk_setH @mk_setB)) (And.intro @nv_if (And.intro @bsl_t @bsl_f))) (And.intro (And.intro @apd_own (And.intro @nc0 @nc1)) (And.intro @nc2 (And.intro @nc3 @nc4)))) (And.intro (And.intro (And.intro @nc5 (And.intro @wrap_i64 @wrap_u8)) (And.intro @nil_tmp (And.intro @nil_int @nil_str))) (And.intro (And.intro @nil_bool (And.intro @nil_ptr @nil_map)) (And.intro @nil_sl (And.intro @b_add @b_sub))))) (And.intro (And.intro (And.intro (And.intro @b_mul (And.intro @b_rem @b_quo)) (And.intro @b_eql (And.intro @b_neq @b_lss))) (And.intro (And.intro @b_leq (And.intro @b_gtr @b_geq)) (And.intro @s_eql (And.intro @s_neq @s_lss)))) (And.intro (And.intro (And.intro @s_geq (And.intro @s_add @u_not)) (And.intro @m_max (And.intro @m_min @plain_str))) (And.intro (And.intro @plain_int (And.intro @o_fn @dcl_some)) (And.intro @env_cons (And.intro @args_nil @args_cons)))))):=(And.intro (And.intro (And.intro (And.intro (And.intro @putAt_eq (And.intro @mk_setH @mk_setB)) (And.intro @nv_if (And.intro @bsl_t @bsl_f))) (And.intro (And.intro @apd_own (And.intro @nc0 @nc1)) (And.intro @nc2 (And.intro @nc3 @nc4)))) (And.intro (And.intro (And.intro @nc5 (And.intro @wrap_i64 @wrap_u8)) (And.intro @nil_tmp (And.intro @nil_int @nil_str))) (And.intro (And.intro @nil_bool (And.intro @nil_ptr @nil_map)) (And.intro @nil_sl (And.intro @b_add @b_sub))))) (And.intro (And.intro (And.intro (And.intro @b_mul (And.intro @b_rem @b_quo)) (And.intro @b_eql (And.intro @b_neq @b_lss))) (And.intro (And.intro @b_leq (And.intro @b_gtr @b_geq)) (And.intro @s_eql (And.intro @s_neq @s_lss)))) (And.intro (And.intro (And.intro @s_geq (And.intro @s_add @u_not)) (And.intro @m_max (And.intro @m_min @plain_str))) (And.intro (And.intro @plain_int (And.intro @o_fn @dcl_some)) (And.intro @env_cons (And.intro @args_nil @args_cons))))))
theorem BB5 : type_of% (And.intro (And.intro (And.intro (And.intro (And.intro @mk_called (And.intro @mk_H @filter_isHp_nil)) (And.intro @rp_done (And.intro @rp_quiet @rpQ_succ))) (And.intro (And.intro @rpQ_zero (And.intro @rp_acts @ra_nil)) (And.intro @ra_cons (And.intro @rpA_succ @rpA_zero)))) (And.intro (And.intro (And.intro @rcA_nil (And.intro @rcA_cons @rcW_succ)) (And.intro @rcW_zero (And.intro @slL_nil @slL_cons))) (And.intro (And.intro @slW_succ (And.intro @slW_zero @mk_unlink)) (And.intro @ex_eq (And.intro @ex_and @mk_t))))) (And.intro (And.intro (And.intro (And.intro @q_move (And.intro @q_assign @q_pick)) (And.intro @q_load (And.intro @q_nilCheck @q_bin))) (And.intro (And.intro @q_un (And.intro @q_conv @q_fieldAddr)) (And.intro @q_field (And.intro @q_indexAddr @q_index)))) (And.intro (And.intro (And.intro @q_lookup (And.intro @q_extract @q_len)) (And.intro @q_max (And.intro @q_min @ap_len))) (And.intro (And.intro @ap_get0 (And.intro @ap_get @ap_set0)) (And.intro @ap_set (And.intro @own_hp @ohp_some)))))):=(And.intro (And.intro (And.intro (And.intro (And.intro @mk_called (And.intro @mk_H @filter_isHp_nil)) (And.intro @rp_done (And.intro @rp_quiet @rpQ_succ))) (And.intro (And.intro @rpQ_zero (And.intro @rp_acts @ra_nil)) (And.intro @ra_cons (And.intro @rpA_succ @rpA_zero)))) (And.intro (And.intro (And.intro @rcA_nil (And.intro @rcA_cons @rcW_succ)) (And.intro @rcW_zero (And.intro @slL_nil @slL_cons))) (And.intro (And.intro @slW_succ (And.intro @slW_zero @mk_unlink)) (And.intro @ex_eq (And.intro @ex_and @mk_t))))) (And.intro (And.intro (And.intro (And.intro @q_move (And.intro @q_assign @q_pick)) (And.intro @q_load (And.intro @q_nilCheck @q_bin))) (And.intro (And.intro @q_un (And.intro @q_conv @q_fieldAddr)) (And.intro @q_field (And.intro @q_indexAddr @q_index)))) (And.intro (And.intro (And.intro @q_lookup (And.intro @q_extract @q_len)) (And.intro @q_max (And.intro @q_min @ap_len))) (And.intro (And.intro @ap_get0 (And.intro @ap_get @ap_set0)) (And.intro @ap_set (And.intro @own_hp @ohp_some))))))
theorem BB6 : type_of% (And.intro (And.intro (And.intro (And.intro (And.intro @own_box (And.intro @obx_some @un_box)) (And.intro @unbx_some (And.intro @ownSz_t @ownSz_f))) (And.intro (And.intro @own_slot (And.intro @part_sl @part_tup0)) (And.intro @un_hp (And.intro @unh_some @un_slot)))) (And.intro (And.intro (And.intro @listRo_eq (And.intro @bdk_eq @bd_nil)) (And.intro @bq_nil (And.intro @ret_none @ret_none'))) (And.intro (And.intro @ret_one (And.intro @ret_one' @ret_two)) (And.intro @ret_cell (And.intro @apdO_new @apdO_h))))) (And.intro (And.intro (And.intro (And.intro @apH_some (And.intro @newRow_mk @schh_some)) (And.intro @srcS_sl (And.intro @srcS_h @cpH_some))) (And.intro (And.intro @o_copy (And.intro @o_cap @mkS_t)) (And.intro @mkS_f (And.intro @ret_cell' @mkC_int)))) (And.intro (And.intro (And.intro @b_shl16 (And.intro @b_shr8 @b_shr1)) (And.intro @b_or (And.intro @cvh_some @s_leq))) (And.intro (And.intro @s_gtr (And.intro @vro1_any @vro_any)) (And.intro @vroA_any (And.intro @vcl_any @vsca_any)))))):=(And.intro (And.intro (And.intro (And.intro (And.intro @own_box (And.intro @obx_some @un_box)) (And.intro @unbx_some (And.intro @ownSz_t @ownSz_f))) (And.intro (And.intro @own_slot (And.intro @part_sl @part_tup0)) (And.intro @un_hp (And.intro @unh_some @un_slot)))) (And.intro (And.intro (And.intro @listRo_eq (And.intro @bdk_eq @bd_nil)) (And.intro @bq_nil (And.intro @ret_none @ret_none'))) (And.intro (And.intro @ret_one (And.intro @ret_one' @ret_two)) (And.intro @ret_cell (And.intro @apdO_new @apdO_h))))) (And.intro (And.intro (And.intro (And.intro @apH_some (And.intro @newRow_mk @schh_some)) (And.intro @srcS_sl (And.intro @srcS_h @cpH_some))) (And.intro (And.intro @o_copy (And.intro @o_cap @mkS_t)) (And.intro @mkS_f (And.intro @ret_cell' @mkC_int)))) (And.intro (And.intro (And.intro @b_shl16 (And.intro @b_shr8 @b_shr1)) (And.intro @b_or (And.intro @cvh_some @s_leq))) (And.intro (And.intro @s_gtr (And.intro @vro1_any @vro_any)) (And.intro @vroA_any (And.intro @vcl_any @vsca_any))))))
theorem BB7 : type_of% (And.intro (And.intro (And.intro @vfla_any (And.intro @lo_any @ret_mix1)) (And.intro @ret_mix2 (And.intro @ret_three @schS_some))) (And.intro (And.intro @dcl_none (And.intro @extD_two @overD_h)) (And.intro (And.intro @apZ_h @azH_some) (And.intro @nz_t @nz_f)))):=(And.intro (And.intro (And.intro @vfla_any (And.intro @lo_any @ret_mix1)) (And.intro @ret_mix2 (And.intro @ret_three @schS_some))) (And.intro (And.intro @dcl_none (And.intro @extD_two @overD_h)) (And.intro (And.intro @apZ_h @azH_some) (And.intro @nz_t @nz_f))))
end Go.Ab
namespace Go.Ab.En
open Go Go.Conc Go.RowKit Go.Ab
set_option maxRecDepth 10000
def isK : ObjT:=fun t => t == 9
theorem isK_eq {t : TypeId} : isK t = (t == 9):=_root_.id rfl
noncomputable def b88 : Code:=(Go.Proofs.Tryz.f88.body).getD .skip
theorem hb88 : Go.Proofs.Tryz.f88.body = some b88:=by kernel_rfl
def keyedB (k : Str) : Bool:=decide (k ≠ []) && decide ((k.length : Int)≤12)
def SKeyed : Spec:=fun H args K => ∃ k : Str,args = [.str k]∧K H (.bool (keyedB k))
theorem appKeyed {H : List HObj} {K : List HObj→DV→Prop} {k : Str} (h : K H (.bool (keyedB k))) : app SKeyed H [.str k] K:=⟨k,rfl,h⟩
theorem rcKeyed {I : Jd pp} (hI : ∀ w e,I.Ok w e) : RC I 88 SKeyed:=by
 refine rc_of_code (isObj:=noO) (Γ:=envOf []) (rs:=[2]) mixed hI (envOf_rc (by simp)) Go.Proofs.Tryz.func88 (by kernel_rfl) hb88 Go.Proofs.Tryz.results88 Go.Proofs.Tryz.ntmps88 (by decide) ?_
 rintro H args K ⟨k,rfl,hK⟩
 refine ⟨by simp,rfl,?_⟩
 unfold b88 Go.Proofs.Tryz.f88
 by_cases h : k = []
 ·subst h
  simp only [Option.getD_some,argSlots,BB1,BB0,constDV,dropLk,Nat.reduceLT,movK,Nat.reduceBEq,BB3,BB4,BQ,ne_eq,gs2_ft,BB2,List.map_nil,if_false,takK,BB6]
  exact hK
 ·simp only [Option.getD_some,argSlots,BB1,BB0,constDV,dropLk,Nat.reduceLT,movK,Nat.reduceBEq,BB3,BB4,BQ,ne_eq,h,gs2_tt,dl9,if_true,takK,BB6,if_false]
  simpa [keyedB,h] using hK
noncomputable def b84 : Code:=(Go.Proofs.Tryz.f84.body).getD .skip
theorem hb84 : Go.Proofs.Tryz.f84.body = some b84:=by kernel_rfl
def keyS (c : Int) (k : Str) : Str:=UInt8.ofNat c.toNat :: k
def SKey : Spec:=fun H args K => ∃ (c : Int) (k : Str),args = [.int .u8 c,.str k]∧k.length < 4000000000000000000∧K H (.str (keyS c k))
theorem appKey {H : List HObj} {K : List HObj→DV→Prop} {c : Int} {k : Str} (h1 : k.length < 4000000000000000000) (h : K H (.str (keyS c k))) : app SKey H [.int .u8 c,.str k] K:=⟨c,k,rfl,h1,h⟩
theorem rcKey {I : Jd pp} (hI : ∀ w e,I.Ok w e) : RC I 84 SKey:=by
 refine rc_of_code (isObj:=noO) (Γ:=envOf []) (rs:=[4]) mixed hI (envOf_rc (by simp)) Go.Proofs.Tryz.func84 (by kernel_rfl) hb84 Go.Proofs.Tryz.results84 Go.Proofs.Tryz.ntmps84 (by decide) ?_
 rintro H args K ⟨c,k,rfl,h1,hK⟩
 refine ⟨by simp,rfl,?_⟩
 unfold b84 Go.Proofs.Tryz.f84
 simp only [Option.getD_some,argSlots,BB1,BQ,BB0,constDV,dropLk,Nat.reduceLT,movK,Nat.reduceBEq,BB3,bs36_1,isO_eq,BB4,cv36_9,takK,BB6,if_false]
 refine ⟨[UInt8.ofNat c.toNat],by simp [bytesOf],?_⟩
 exact ⟨by simp; omega,hK⟩
noncomputable def b153 : Code:=(Go.Proofs.Tryz.f153.body).getD .skip
theorem hb153 : Go.Proofs.Tryz.f153.body = some b153:=by kernel_rfl
def SPl1 : Spec:=fun H args K => ∃ (b : Nat) (w : Wr) (key : Str),args = [.agg [.str w.key,.bool w.del,.str w.val],.ptr b 0]∧H[b]? = some (.cells [.str key])∧K H (.bool (decide (w.key = key)))
theorem rcPl1 {I : Jd pp} (hI : ∀ w e,I.Ok w e) : RC I 153 SPl1:=by
 refine rc_of_code (isObj:=noO) (Γ:=envOf []) (rs:=[3]) mixed hI (envOf_rc (by simp)) Go.Proofs.Tryz.func153 (by kernel_rfl) hb153 Go.Proofs.Tryz.results153 Go.Proofs.Tryz.ntmps153 (by decide) ?_
 rintro H args K ⟨b,w,key,rfl,h1,hK⟩
 refine ⟨by simp,rfl,?_⟩
 unfold b153 Go.Proofs.Tryz.f153
 simp only [Option.getD_some,argSlots,BB1,List.map_cons,List.map_nil,BQ,BB2,BB0,Nat.reduceLT,takK,BB3,BB4,isO_eq,dropLk,bgen_eq,if_false,constDV,Nat.reduceBEq,fl32_0,if_true,la9,h1,BB6]
 exact hK
noncomputable def b152 : Code:=(Go.Proofs.Tryz.f152.body).getD .skip
theorem hb152 : Go.Proofs.Tryz.f152.body = some b152:=by kernel_rfl
def idxP (p : Wr→Bool) : List Wr→Option Nat
 | [] => none
 | w :: r => if p w then some 0 else (idxP p r).map (· + 1)
def idxI (o : Option Nat) : Int:=match o with | some i => i | none => -1
def SIdx (f : Nat) (SF : Spec) : Spec:=fun H args K => ∃ (v : DV) (ws : List Wr) (caps : List DV) (p : Wr→Bool),args = [v,.fn f caps]∧RowW H v ws∧ws.length < 4611686018427387904∧caps.map DV.ro = caps ∧
 (∀ w : Wr,∀ K' : List HObj→DV→Prop,K' H (.bool (p w))→SF H (.agg [.str w.key,.bool w.del,.str w.val] :: caps) K')∧K H (.int .i64 (idxI (idxP p ws)))
def MIx (H : List HObj) (f : Nat) (caps : List DV) (v : DV) (ws : List Wr) (p : Wr→Bool) (m : Nat) (st : St) : Prop:=∃ i : Nat,i≤ws.length∧m = ws.length - i∧idxP p ws = (idxP p (ws.drop i)).map (· + i) ∧
 st = mk 19 [(0,v),(1,.fn f caps),(7,.int .i64 ws.length),(8,.int .i64 i)] [] H []
set_option maxHeartbeats 4000000 in
theorem rcIdx {I : Jd pp} (hI : ∀ w e,I.Ok w e) {SF : Spec} {f : Nat} (hF : RC I f SF) : RC I 152 (SIdx f SF):=by
 refine rc_of_code (isObj:=noO) (Γ:=envOf [(f,SF)]) (rs:=[4]) mixed hI (envOf_rc (by simpa using hF)) Go.Proofs.Tryz.func152 (by kernel_rfl) hb152 Go.Proofs.Tryz.results152 Go.Proofs.Tryz.ntmps152 (by decide) ?_
 rintro H args K ⟨v,ws,caps,p,rfl,hv,hl,hcap,hp,hK⟩
 have hz : ∀ o : Option Nat,o.map (· + 0) = o:=fun o => by cases o <;> rfl
 rcases hv with ⟨own,rfl⟩ | ⟨id,off,cap,rfl,hr⟩
 ·skip
  refine ⟨by simp,rfl,?_⟩
  unfold b152 Go.Proofs.Tryz.f152
  simp only [Int.reduceNeg,Option.getD_some,argSlots,BB1,BQ,BB3,BB0,constDV,dropLk,Nat.reduceLT,movK,Nat.reduceBEq,lkGet,dl33,List.length_map]
  refine w_loop [0,1,7,8] (MIx H f caps (.sl false 3 (ws.map wrD)) ws p) ws.length ?_ ?_
  ·exact ⟨0,by omega,by omega,by simp [hz],by simp only [BB1,List.map_cons,Nat.reduceBEq,BB3,List.map_nil,BB4]; try rfl⟩
  ·rintro m st ⟨i,hi,rfl,hix,rfl⟩
   by_cases e : i < ws.length
   ·have e1 : (i : Int) < ws.length:=by omega
    have e2 : (0 : Int)≤i:=by omega
    have wi : IntKind.i64.wrap ((i : Int) + 1) = ((i + 1 : Nat) : Int):=by rw [wrap_i64 (by omega) (by omega)]; omega
    have hx:=wrD_get e
    rw [List.drop_eq_getElem_cons e] at hix
    simp only [Int.reduceNeg,BB0,BB1,BB4,BQ,Nat.reduceLT,Nat.reduceBEq,BB3,e1,dropLk,cd_t,movK,takK,lkGet,ix33,e2,List.length_map,hx,la32,Nat.reduceAdd,Nat.reduceLeDiff,List.map_cons,List.map_nil,BB5,if_true,hcap,if_false]
    refine hp ws[i] _ ?_
    cases hpw : p ws[i]
    ·simp only [Int.reduceNeg,BB1,BB5,Pos.isHp,BQ,dropLk,BB0,Nat.reduceLT,BB3,cd_f,BB4,Nat.reduceBEq,constDV,wi,movK,List.map_cons,List.map_nil,if_false]
     refine ⟨_,?_,i + 1,by omega,rfl,?_,rfl⟩
     ·omega
     ·rw [hix,idxP,hpw]
      cases idxP p (ws.drop (i + 1)) <;> simp; omega
    ·simp only [Int.reduceNeg,BB1,BB5,Pos.isHp,BQ,dropLk,BB0,Nat.reduceLT,BB3,cd_t,movK,Nat.reduceBEq,takK,BB6]
     rw [hix,idxP,hpw] at hK
     simpa [idxI] using hK
   ·obtain rfl : i = ws.length:=by omega
    have e1 : ¬ (ws.length : Int) < ws.length:=by omega
    simp only [Int.reduceNeg,BB0,BB1,BB4,BQ,Nat.reduceLT,Nat.reduceBEq,BB3,e1,dropLk,cd_f,constDV,BB6,if_true,if_false]
    rw [hix,List.drop_length] at hK
    exact hK
 ·skip
  refine ⟨by simp,rfl,?_⟩
  unfold b152 Go.Proofs.Tryz.f152
  simp only [Int.reduceNeg,Option.getD_some,argSlots,BB3,BQ,BB0,BB1,constDV,dropLk,Nat.reduceLT,movK,Nat.reduceBEq,dlh33]
  refine w_loop [0,1,7,8] (MIx H f caps (.hsl id 3 off ws.length cap) ws p) ws.length ?_ ?_
  ·exact ⟨0,by omega,by omega,by simp [hz],by simp only [BB1,List.map_cons,Nat.reduceBEq,BB3,List.map_nil,BB4]; try rfl⟩
  ·rintro m st ⟨i,hi,rfl,hix,rfl⟩
   by_cases e : i < ws.length
   ·have e1 : (i : Int) < ws.length:=by omega
    have e2 : (0 : Int)≤i:=by omega
    have wi : IntKind.i64.wrap ((i : Int) + 1) = ((i + 1 : Nat) : Int):=by rw [wrap_i64 (by omega) (by omega)]; omega
    obtain ⟨cs,k1,k2⟩:=hr.2 (by rintro rfl; simp at e)
    obtain ⟨r,d1⟩:=hroww_cells k2 e
    rw [List.drop_eq_getElem_cons e] at hix
    simp only [Int.reduceNeg,BB0,BB1,BB4,BQ,Nat.reduceLT,Nat.reduceBEq,BB3,e1,dropLk,cd_t,movK,takK,ixh33,e2,k1,d1,la32,Nat.reduceLeDiff,List.map_cons,List.map_nil,BB5,if_true,hcap,if_false]
    refine hp ws[i] _ ?_
    cases hpw : p ws[i]
    ·simp only [Int.reduceNeg,BB1,BB5,Pos.isHp,BQ,dropLk,BB0,Nat.reduceLT,BB3,cd_f,BB4,Nat.reduceBEq,constDV,wi,movK,List.map_cons,List.map_nil,if_false]
     refine ⟨_,?_,i + 1,by omega,rfl,?_,rfl⟩
     ·omega
     ·rw [hix,idxP,hpw]
      cases idxP p (ws.drop (i + 1)) <;> simp; omega
    ·simp only [Int.reduceNeg,BB1,BB5,Pos.isHp,BQ,dropLk,BB0,Nat.reduceLT,BB3,cd_t,movK,Nat.reduceBEq,takK,BB6]
     rw [hix,idxP,hpw] at hK
     simpa [idxI] using hK
   ·obtain rfl : i = ws.length:=by omega
    have e1 : ¬ (ws.length : Int) < ws.length:=by omega
    simp only [Int.reduceNeg,BB0,BB1,BB4,BQ,Nat.reduceLT,Nat.reduceBEq,BB3,e1,dropLk,cd_f,constDV,BB6,if_true,if_false]
    rw [hix,List.drop_length] at hK
    exact hK
theorem appIdx {H : List HObj} {K : List HObj→DV→Prop} {f : Nat} {SF : Spec} {v : DV} {ws : List Wr} {caps : List DV} (p : Wr→Bool) (h1 : RowW H v ws) (h2 : ws.length < 4611686018427387904) (h3 : caps.map DV.ro = caps) (h4 : ∀ w : Wr,∀ K' : List HObj→DV→Prop,K' H (.bool (p w))→SF H (.agg [.str w.key,.bool w.del,.str w.val] :: caps) K') (h : K H (.int .i64 (idxI (idxP p ws)))) : app (SIdx f SF) H [v,.fn f caps] K:=⟨v,ws,caps,p,rfl,h1,h2,h3,h4,h⟩
structure Rd where
 level : Int
 scan : Bool
 frm : Str
 til : Str
 prs : List Pr
def rdD (r : Rd) : DV:=.agg [.int .i64 r.level,.bool r.scan,.str r.frm,.str r.til,.sl false 2 (r.prs.map prD)]
structure DealS where
 d : Nat
 x : Nat
 s : Nat
 wi : Nat
 cap : Nat
 n : Int
 home : Int
 reads : List Rd
 ws : List Wr
 over : Bool
def DealS.wl (D : DealS) : List Nat:=if D.cap = 0 then [] else [D.wi]
def DealS.all (D : DealS) : List Nat:=D.d :: D.s :: D.wl
theorem HRowFW.fr {S : List Nat} {H H' : List HObj} {id cap : Nat} {ws : List Wr} (h : HRowFW H id cap ws) (f : Fr S H H') (hs : cap ≠ 0→id ∉ S) : HRowFW H' id cap ws:=by
 refine ⟨h.1,fun hc => ?_⟩
 obtain ⟨sp,h3,h4⟩:=h.2 hc
 exact ⟨sp,f.get h3 (hs hc),h4⟩
structure DealS.At (D : DealS) (H : List HObj) : Prop where
 top : H[D.d]? = some (.cells [.ptr D.x 0,.ptr D.s 0,.int .u8 D.home,.sl true 5 (D.reads.map rdD),.hsl D.wi 3 0 D.ws.length D.cap,.bool D.over])
 snap : SnapAt H D.s D.x D.n D.over
 wrs : HRowFW H D.wi D.cap D.ws
 ds : D.d ≠ D.s
 dw : D.cap ≠ 0→D.d ≠ D.wi
 sw : D.cap ≠ 0→D.s ≠ D.wi
theorem DealS.wl_mem {D : DealS} (h : D.cap ≠ 0) : D.wl = [D.wi]:=if_neg h
theorem DealS.At.fr {S : List Nat} {D : DealS} {H H' : List HObj} (h : D.At H) (f : Fr S H H') (hs : ∀ y∈D.all,y ∉ S) : D.At H' :=
 ⟨f.get h.top (hs _ (by simp [DealS.all])),h.snap.fr f (hs _ (by simp [DealS.all])),h.wrs.fr f fun hc => hs _ (by simp [DealS.all,DealS.wl_mem hc]),h.ds,h.dw,h.sw⟩
theorem DealS.At.row {D : DealS} {H : List HObj} (h : D.At H) : RowW H (.hsl D.wi 3 0 D.ws.length D.cap) D.ws:=.inr ⟨D.wi,0,D.cap,rfl,h.wrs.row⟩
theorem DealS.At.lt {D : DealS} {H : List HObj} (h : D.At H) : ∀ y∈D.all,y < H.length:=by
 intro y hy
 simp only [DealS.all,DealS.wl,List.mem_cons] at hy
 rcases hy with rfl | rfl | hy
 ·exact (List.getElem?_eq_some_iff.1 h.top).1
 ·exact (List.getElem?_eq_some_iff.1 h.snap).1
 ·split at hy
  ·simp at hy
  ·rename_i hc
   obtain ⟨sp,h3,_⟩:=h.wrs.2 hc
   simp only [List.mem_singleton] at hy
   subst hy
   exact (List.getElem?_eq_some_iff.1 h3).1
noncomputable def b89 : Code:=(Go.Proofs.Tryz.f89.body).getD .skip
theorem hb89 : Go.Proofs.Tryz.f89.body = some b89:=by kernel_rfl
def placeW (ws : List Wr) (k : Str) : Int:=idxI (idxP (fun w => decide (w.key = k)) ws)
def SPlace : Spec:=fun H args K => ∃ (D : DealS) (k : Str),args = [.ptr D.d 0,.str k]∧D.At H∧D.ws.length < 1000000∧∀ H',Fr [] H H'→K H' (.int .i64 (placeW D.ws k))
theorem appPlace {H : List HObj} {K : List HObj→DV→Prop} {D : DealS} {k : Str} (h1 : D.At H) (h2 : D.ws.length < 1000000) (h : ∀ H',Fr [] H H'→K H' (.int .i64 (placeW D.ws k))) : app SPlace H [.ptr D.d 0,.str k] K:=⟨D,k,rfl,h1,h2,h⟩
theorem rcPlace {I : Jd pp} (hI : ∀ w e,I.Ok w e) : RC I 89 SPlace:=by
 refine rc_of_code (isObj:=isK) (Γ:=envOf [(152,SIdx 153 SPl1)]) (rs:=[4]) mixed hI (envOf_rc (by simpa using rcIdx hI (rcPl1 hI))) Go.Proofs.Tryz.func89 (by kernel_rfl) hb89 Go.Proofs.Tryz.results89 Go.Proofs.Tryz.ntmps89 (by decide) ?_
 rintro H args K ⟨D,k,rfl,h1,h2,hK⟩
 have f1 : Fr [] H (H ++ [.cells [.str k]]):=Fr.app [] _ _
 have h3:=h1.fr f1 (by simp)
 have t1:=h3.top
 refine ⟨by simp,rfl,?_⟩
 unfold b89 Go.Proofs.Tryz.f89
 simp only [Option.getD_some,argSlots,BB2,BQ,BB1,BB0,Nat.reduceLT,takK,Nat.reduceBEq,BB3,BB4,isK_eq,dropLk,bgen_eq,if_true,constDV,movK,dnil,fp143_4,t1,la33,DV.plain,forall_eq,List.map_cons,List.map_nil,BB5]
 refine appIdx (fun w => decide (w.key = k)) h3.row (by omega) rfl (fun w K' hK' => ⟨H.length,w,k,rfl,by simp,hK'⟩) ?_
 simp only [BB1,BB5,Pos.isHp,List.filter_nil,dropLk,BB0,Nat.reduceLT,takK,BB3,BB6,true_and]
 exact hK _ f1
end Go.Ab.En
namespace Go.Ab.En
open Go Go.Conc Go.RowKit Go.Ab
set_option maxRecDepth 10000
theorem idxP_lt {p : Wr→Bool} : ∀ {ws : List Wr} {i : Nat},idxP p ws = some i→∃ h : i < ws.length,p ws[i] = true
 | [],i,h => by cases h
 | w :: r,i,h => by
  simp only [idxP] at h
  split at h
  ·cases h; exact ⟨by simp,by assumption⟩
  ·obtain ⟨j,hj,rfl⟩:=Option.map_eq_some_iff.1 h
   obtain ⟨a,b⟩:=idxP_lt hj
   exact ⟨by simp; omega,by simpa using b⟩
theorem idxP_none {p : Wr→Bool} : ∀ {ws : List Wr},idxP p ws = none→∀ w∈ws,p w = false
 | [],_ => by simp
 | w :: r,h => by
  simp only [idxP] at h
  split at h
  ·cases h
  ·rename_i hp
   have:=idxP_none (Option.map_eq_none_iff.1 h)
   intro y hy
   rcases List.mem_cons.1 hy with rfl | hy
   ·simpa using hp
   ·exact this y hy
def writeC (over : Bool) (ws : List Wr) (w : Wr) : Int :=
 if over then 18 else if keyedB w.key = false∨(24 : Int) < w.val.length then 10 else match idxP (fun o => decide (o.key = w.key)) ws with
 | some _ => 0
 | none => if (8 : Int)≤ws.length then 17 else 0
def writeW (over : Bool) (ws : List Wr) (w : Wr) : List Wr :=
 if writeC over ws w = 0 then match idxP (fun o => decide (o.key = w.key)) ws with
  | some i => ws.set i w
  | none => sortW (ws ++ [w])
 else ws
def SWrite : Spec:=fun H args K => ∃ (D : DealS) (w : Wr),args = [.ptr D.d 0,.agg [.str w.key,.bool w.del,.str w.val]]∧D.At H∧D.ws.length < 100000∧(D.ws.map (·.key)).Nodup∧w.val.length < 4000000000000000000 ∧
 ∀ H' wi' cap',Fr (D.d :: D.wl) H H'→DealS.At { D with wi:=wi',cap:=cap',ws:=writeW D.over D.ws w } H'→((wi' = D.wi∧cap' = D.cap)∨H.length≤wi')→K H' (.int .i64 (writeC D.over D.ws w))
theorem flatW_set : ∀ (ws : List Wr) (i : Nat) (w : Wr),i < ws.length→flatW (ws.set i w) = (flatW ws).take (i * 3) ++ .str w.key :: .bool w.del :: .str w.val :: (flatW ws).drop (i * 3 + 3)
 | x :: r,0,w,_ => by simp [flatW,Wr.cells]
 | x :: r,i + 1,w,h => by
  have:=flatW_set r i w (by simpa using h)
  have e1 : (i + 1) * 3 = i * 3 + 1 + 1 + 1:=by omega
  simp only [List.set_cons_succ,flatW,List.flatMap_cons,Wr.cells] at this ⊢
  rw [this,e1]
  simp [List.take_succ_cons]
theorem DealS.At.wrote {D : DealS} {H H2 : List HObj} {wi cap : Nat} {ws : List Wr} (h : D.At H) (f : Fr (D.d :: D.wl) H H2) (ht : H2[D.d]? = some (.cells [.ptr D.x 0,.ptr D.s 0,.int .u8 D.home,.sl true 5 (D.reads.map rdD),.hsl wi 3 0 ws.length cap,.bool D.over])) (hr : HRowFW H2 wi cap ws) (hn : (wi = D.wi∧cap = D.cap)∨H.length≤wi) :
  DealS.At { D with wi:=wi,cap:=cap,ws:=ws } H2:=by
 have l1:=h.lt D.d (by simp [DealS.all])
 have l2:=h.lt D.s (by simp [DealS.all])
 have hs : D.s ∉ D.d :: D.wl:=by
  intro hm
  rcases List.mem_cons.1 hm with e | hm
  ·exact h.ds e.symm
  ·unfold DealS.wl at hm
   split at hm
   ·simp at hm
   ·rename_i hc
    exact h.sw hc (by simpa using hm)
 refine ⟨ht,h.snap.fr f hs,hr,h.ds,fun hc => ?_,fun hc => ?_⟩
 ·rcases hn with ⟨rfl,rfl⟩ | hn
  ·exact h.dw hc
  ·simp only; omega
 ·rcases hn with ⟨rfl,rfl⟩ | hn
  ·exact h.sw hc
  ·simp only; omega
noncomputable def b86 : Code:=(Go.Proofs.Tryz.f86.body).getD .skip
theorem hb86 : Go.Proofs.Tryz.f86.body = some b86:=by kernel_rfl
set_option maxHeartbeats 4000000 in
theorem rcWrite {I : Jd pp} (hI : ∀ w e,I.Ok w e) (hS : RC I 133 (SSortF 151)) : RC I 86 SWrite:=by
 refine rc_of_code (isObj:=isW) (Γ:=envOf [(89,SPlace),(88,SKeyed),(133,SSortF 151)]) (rs:=[4]) mixed hI (envOf_rc (by simpa using ⟨rcPlace hI,rcKeyed hI,hS⟩)) Go.Proofs.Tryz.func86 (by kernel_rfl) hb86 Go.Proofs.Tryz.results86 Go.Proofs.Tryz.ntmps86 (by decide) ?_
 rintro H args K ⟨D,w,rfl,h1,hl,hnd,hvl,hK⟩
 have same : ∀ {c},writeC D.over D.ws w = c→c ≠ 0→writeW D.over D.ws w = D.ws:=fun h h0 => by unfold writeW; rw [h,if_neg h0]
 have fin0 : ∀ {c H'},writeC D.over D.ws w = c→c ≠ 0→Fr [] H H'→K H' (.int .i64 c):=fun {c H'} hc hc0 f => by
  have:=hK H' D.wi D.cap (f.mono (by simp)) (by rw [same hc hc0]; exact h1.fr f (by simp)) (.inl ⟨rfl,rfl⟩)
  rw [hc] at this
  exact this
 have h1':=h1
 obtain ⟨d,x,s,wi,cap,n,home,reads,ws,over⟩:=D
 simp only at hl hnd hK same fin0
 refine ⟨by simp,rfl,?_⟩
 unfold b86 Go.Proofs.Tryz.f86
 simp only [Option.getD_some,argSlots,BB2,BQ,BB1,List.map_cons,List.map_nil,BB0,Nat.reduceLT,takK,Nat.reduceBEq,BB3,BB4,isW_eq,dropLk,bgen_eq,if_false,constDV,movK,fl32_0,if_true,la9,BB5,Nat.reduceEqDiff]
 refine appPlace h1 (by simp; omega) fun H1 f1 => ?_
 have h2:=h1.fr f1 (by simp)
 have t1:=h2.top
 simp only at t1
 cases over
 ·simp only [BB1,BB5,Pos.isHp,BQ,dropLk,BB0,Nat.reduceLT,takK,BB3,movK,Nat.reduceBEq,BB2,dnil,fp143_5,t1,la4,cd_f,fl32_0,if_true,la9,BB4,Nat.reduceEqDiff,if_false,List.map_cons,List.map_nil]
  refine appKeyed ?_
  cases hk : keyedB w.key
  ·simp only [BB1,BB5,Pos.isHp,BQ,dropLk,BB0,Nat.reduceLT,BB3,BB4,movK,gs2_tf,Nat.reduceBEq,constDV,BB2,List.map_nil,if_true,takK,cd_t,BB6]
   exact fin0 (by simp [writeC,hk]) (by decide) f1
  by_cases hv : (24 : Int) < w.val.length
  ·simp only [BB1,BB5,Pos.isHp,BQ,dropLk,BB0,Nat.reduceLT,BB3,BB4,movK,gs2_ff,Nat.reduceBEq,fl32_2,if_true,la9,dl9,constDV,hv,if_false,takK,cd_t,BB6]
   exact fin0 (by simp [writeC,hk,hv]) (by decide) f1
  have hdl : d < H1.length:=(List.getElem?_eq_some_iff.1 t1).1
  cases hp : idxP (fun o => decide (o.key = w.key)) ws with
  | some i =>
   have hpl : placeW ws w.key = (i : Int):=by simp [placeW,hp,idxI]
   obtain ⟨hi,hik⟩:=idxP_lt hp
   have e1 : (0 : Int)≤i:=by omega
   have e2 : (i : Int) < ws.length:=by omega
   simp only [BB1,hpl,BB5,Pos.isHp,BQ,dropLk,BB0,Nat.reduceLT,BB3,BB4,movK,gs2_ff,Nat.reduceBEq,fl32_2,if_true,la9,dl9,constDV,hv,if_false,takK,cd_f,e1,cd_t]
   refine w_draw [7] (.quiet 0 (.quiet 1 (.quiet 2 (.quiet 3 (.quiet 4 (.quiet 5 (.quiet 6 (.acts [(7,[],.done)])))))))) (by decide) (by kernel_rfl) ?_
   have hcw : cap ≠ 0:=by have:=h2.wrs.1; simp only at this; omega
   obtain ⟨sp,k1,hsp⟩:=h2.wrs.2 hcw
   simp only at k1 hsp
   have hil : wi < H1.length:=(List.getElem?_eq_some_iff.1 k1).1
   simp only [BB0,BB5,BB1,Nat.reduceLT,Nat.reduceBEq,BB3,BB2,dropLk,dnil,fp143_4,BQ,t1,la33,if_true,la32,Nat.reduceAdd,Nat.reduceLeDiff,List.map_cons,List.map_nil,ixh33,e1,e2,takK,k1,Proofs.Tryz.underlying32,cn32,BB4,Pos.inHp,dropLks,constDV,BB6]
   have hc : writeC false ws w = 0:=by simp [writeC,hk,hv,hp]
   have hw : writeW false ws w = ws.set i w:=by unfold writeW; rw [hc,if_pos rfl,hp]
   rw [hc,hw] at hK
   have hfl:=flatW_len ws
   have hie : i * 3 + 3≤(flatW ws).length:=by omega
   refine ⟨by rw [List.length_append]; omega,?_⟩
   have hcs : List.take (i * 3) (flatW ws ++ sp) ++ DV.str w.key :: .bool w.del :: .str w.val :: List.drop (i * 3 + 3) (flatW ws ++ sp) = flatW (ws.set i w) ++ sp:=by
    rw [flatW_set ws i w hi,List.take_append_of_le_length (by omega),List.drop_append_of_le_length hie]
    simp
   rw [hcs]
   have fr : Fr (d :: DealS.wl ⟨d,x,s,wi,cap,n,home,reads,ws,false⟩) H (H1.set wi (.cells (flatW (ws.set i w) ++ sp))):=(f1.trans (Fr.set _ wi _)).mono fun j _ hj => by simp at hj; subst hj; simp [DealS.wl,hcw]
   refine hK _ wi cap fr (h1.wrote fr ?_ ⟨by have:=h2.wrs.1; simpa using this,fun _ => ⟨sp,List.getElem?_set_self hil,by simpa using hsp⟩⟩ (.inl ⟨rfl,rfl⟩)) (.inl ⟨rfl,rfl⟩)
   have hdw:=h1.dw hcw
   simp only at hdw ⊢
   rw [List.getElem?_set_ne (Ne.symm hdw),List.length_set]
   exact t1
  | none =>
   have hpl : placeW ws w.key = -1:=by simp [placeW,hp,idxI]
   by_cases h8 : (8 : Int)≤ws.length
   ·simp only [BB1,hpl,Int.reduceNeg,BB5,Pos.isHp,BQ,dropLk,BB0,Nat.reduceLT,BB3,BB4,movK,gs2_ff,Nat.reduceBEq,fl32_2,if_true,la9,dl9,constDV,hv,if_false,takK,cd_f,Int.reduceLE,BB2,dnil,fp143_4,t1,la33,dlh33,h8,cd_t,BB6]
    exact fin0 (by simp only [writeC,hk,hv,hp,h8]; simp) (by decide) f1
   simp only [BB1,hpl,Int.reduceNeg,BB5,Pos.isHp,BQ,dropLk,BB0,Nat.reduceLT,BB3,BB4,movK,gs2_ff,Nat.reduceBEq,fl32_2,if_true,la9,dl9,constDV,hv,if_false,takK,cd_f,Int.reduceLE,BB2,dnil,fp143_4,t1,la33,dlh33,h8]
   refine w_draw [6,7,10] (.quiet 0 (.quiet 1 (.quiet 2 (.quiet 3 (.quiet 4 (.quiet 5 (.acts [(6,[4,3,2,1,0],.acts [(7,[0],.quiet 8 (.quiet 9 (.acts [(10,[],.done)])))])]))))))) (by decide) (by kernel_rfl) ?_
   have hc : writeC false ws w = 0:=by simp only [writeC,hk,hv,hp,h8]; simp
   have hw : writeW false ws w = sortW (ws ++ [w]):=by unfold writeW; rw [hc,if_pos rfl,hp]
   rw [hc,hw] at hK
   have t2 : ∀ X,(H1 ++ [X])[d]? = some (.cells [.ptr x 0,.ptr s 0,.int .u8 home,.sl true 5 (reads.map rdD),.hsl wi 3 0 ws.length cap,.bool false]):=fun X => by rw [List.getElem?_append_left hdl]; exact t1
   have g2 : ∀ X,(H1 ++ [X])[H1.length]? = some X:=fun X => by simp
   by_cases hcw : cap = 0
   ·subst hcw
    have hws : ws = []:=List.eq_nil_of_length_eq_zero (by have:=h2.wrs.1; simp only at this; omega)
    subst hws
    have ta : ∀ X Y,(H1 ++ [X,Y])[d]? = some (.cells [.ptr x 0,.ptr s 0,.int .u8 home,.sl true 5 (reads.map rdD),.hsl wi 3 0 0 0,.bool false]):=fun X Y => by rw [List.getElem?_append_left hdl]; exact t1
    have sa : ∀ X Y T,((H1 ++ [X,Y]).set d T)[d]? = some T:=fun X Y T => List.getElem?_set_self (by simp; omega)
    simp only [BQ,BB4,Int.reduceNeg,BB0,BB5,BB1,Nat.reduceLT,Nat.reduceBEq,BB3,BB2,dropLk,dnil,fp143_4,t1,la33,if_true,la32,Nat.reduceAdd,Nat.reduceLeDiff,List.map_cons,List.map_nil,bs33_1,isW_eq,t2,dropLks,aph33_33,takK,BB6,Proofs.Tryz.underlying33,cn33,Pos.inHp,movK,Function.const_apply,rho_fn,Nat.reduceEqDiff,if_false,ne_eq,ta,srcC_h Go.Proofs.Tryz.underlying33,g2,Nat.reduceMul,reduceCtorEq]
    intro q hq
    refine .inr ⟨H1.length + 1,q,[w],List.replicate ((q - 1) * 3) .undef,rfl,fun _ => ?_,by simp,by simp,by simp,fun _ => ?_⟩
    ·rw [List.getElem?_set_ne (by omega)]; simp [flatW,Wr.cells]
    have fr : ∀ T U X Y,Fr (d :: DealS.wl ⟨d,x,s,wi,0,n,home,reads,[],false⟩) H (((H1 ++ [X,Y]).set d T).set (H1.length + 1) U):=fun T U X Y => by
     have hq:=f1.1
     refine (((f1.trans (Fr.app [] _ _)).trans (Fr.set _ d _)).trans (Fr.set _ _ _)).mono fun j hj hm => ?_
     simp at hm
     rcases hm with rfl | rfl
     ·simp
     ·omega
    have hn : (H.length : Nat)≤H1.length + 1:=by have:=f1.1; omega
    simp only [Int.reduceNeg,BB1,BQ,List.map_cons,List.map_nil,BB5,Pos.isHp,dropLk,BB0,constDV,Nat.reduceLT,BB6,BB3]
    refine hK _ (H1.length + 1) q (fr _ _ _ _) (h1.wrote (fr _ _ _ _) ?_ ⟨by simp [sortW,insW]; omega,fun _ => ⟨List.replicate ((q - 1) * 3) .undef,List.getElem?_set_self (by simp),by simp [sortW,insW]⟩⟩ (.inr hn)) (.inr hn)
    rw [List.getElem?_set_ne (show H1.length + 1 ≠ d by omega)]
    exact List.getElem?_set_self (by simp; omega)
   obtain ⟨sp,k1,hsp⟩:=h2.wrs.2 hcw
   have hrl:=h2.wrs.1
   simp only at k1 hsp hrl
   have hil : wi < H1.length:=(List.getElem?_eq_some_iff.1 k1).1
   have g1 : ∀ X,(H1 ++ [X])[wi]? = some (.cells (flatW ws ++ sp)):=fun X => by rw [List.getElem?_append_left hil]; exact k1
   have hfl:=flatW_len ws
   have l1 : ws.length * 3≤(flatW ws ++ sp).length:=by rw [List.length_append]; omega
   have t3 : (flatW ws ++ sp).take (ws.length * 3) = flatW ws:=List.take_left' hfl
   have hdr : List.drop (ws.length * 3 + 3) (flatW ws ++ sp) = sp.drop 3:=by rw [← hfl,← List.drop_drop,List.drop_left]
   have hdw:=h1.dw hcw
   simp only at hdw
   have ta : ∀ X Y,(H1 ++ [X,Y])[d]? = some (.cells [.ptr x 0,.ptr s 0,.int .u8 home,.sl true 5 (reads.map rdD),.hsl wi 3 0 ws.length cap,.bool false]):=fun X Y => by rw [List.getElem?_append_left hdl]; exact t1
   have tb : ∀ X Z,((H1 ++ [X]).set wi Z)[d]? = some (.cells [.ptr x 0,.ptr s 0,.int .u8 home,.sl true 5 (reads.map rdD),.hsl wi 3 0 ws.length cap,.bool false]):=fun X Z => by rw [List.getElem?_set_ne (Ne.symm hdw)]; exact t2 X
   have sa : ∀ X Y T,((H1 ++ [X,Y]).set d T)[d]? = some T:=fun X Y T => List.getElem?_set_self (by simp; omega)
   have sb : ∀ X Z T,(((H1 ++ [X]).set wi Z).set d T)[d]? = some T:=fun X Z T => List.getElem?_set_self (by simp; omega)
   simp only [Int.reduceNeg,BB0,BB5,BB1,Nat.reduceLT,Nat.reduceBEq,BB3,BB2,dropLk,dnil,fp143_4,BQ,t1,la33,if_true,la32,Nat.reduceAdd,Nat.reduceLeDiff,List.map_cons,List.map_nil,bs33_1,isW_eq,BB4,t2,dropLks,aph33_33,takK,BB6,hcw,Proofs.Tryz.underlying33,cn33,Pos.inHp,movK,Function.const_apply,rho_fn,Nat.reduceEqDiff,if_false,ne_eq,ta,srcC_h Go.Proofs.Tryz.underlying33,g2,Nat.reduceMul,reduceCtorEq,g1,l1,t3,tb,flatW_ro,hdr]
   have hlen : (ws ++ [w]).length = ws.length + 1:=by simp
   have hsl : (sortW (ws ++ [w])).length = ws.length + 1:=by rw [(sortW_perm _).length_eq,hlen]
   have hnd2 : ((ws ++ [w]).map (·.key)).Nodup:=by
    rw [List.map_append,List.nodup_append]
    refine ⟨hnd,by simp,fun a ha b hb e => ?_⟩
    obtain ⟨o,ho,rfl⟩:=List.mem_map.1 ha
    have:=idxP_none hp o ho
    simp at hb
    rw [hb] at e
    simp [e] at this
   refine ⟨flatW_sca _,by omega,by omega,fun hle => ⟨by rw [List.length_append,hfl]; omega,?_⟩,fun hle q hq => ?_⟩
   ·refine .inr ⟨wi,cap,ws ++ [w],sp.drop 3,by rw [hlen],fun _ => ?_,by omega,hnd2,by simp,fun _ => ?_⟩
    ·rw [List.getElem?_set_ne hdw,List.getElem?_set_self (by simp; omega)]; simp [flatW,Wr.cells]
    have fr : ∀ T U V X,Fr (d :: DealS.wl ⟨d,x,s,wi,cap,n,home,reads,ws,false⟩) H ((((H1 ++ [X]).set wi V).set d T).set wi U):=fun T U V X => by
     refine ((((f1.trans (Fr.app [] _ _)).trans (Fr.set _ wi _)).trans (Fr.set _ d _)).trans (Fr.set _ wi _)).mono fun j hj hm => ?_
     simp at hm
     rcases hm with rfl | rfl | rfl <;> simp [DealS.wl,hcw]
    simp only [Int.reduceNeg,BB1,BQ,List.map_cons,List.map_nil,Nat.reduceAdd,BB5,Pos.isHp,dropLk,BB0,constDV,Nat.reduceLT,BB6,BB3]
    refine hK _ wi cap (fr _ _ _ _) (h1.wrote (fr _ _ _ _) ?_ ⟨by rw [hsl]; exact hle,fun _ => ⟨sp.drop 3,List.getElem?_set_self (by simp; omega),by rw [List.length_drop,hsl]; omega⟩⟩ (.inl ⟨rfl,rfl⟩)) (.inl ⟨rfl,rfl⟩)
    rw [List.getElem?_set_ne (Ne.symm hdw),hsl]
    exact List.getElem?_set_self (by simp; omega)
   ·refine .inr ⟨H1.length + 1,q,ws ++ [w],List.replicate ((q - (ws.length + 1)) * 3) .undef,by rw [hlen],fun _ => ?_,by omega,hnd2,by simp,fun _ => ?_⟩
    ·rw [List.getElem?_set_ne (by omega)]; simp [flatW,Wr.cells]
    have fr : ∀ T U X Y,Fr (d :: DealS.wl ⟨d,x,s,wi,cap,n,home,reads,ws,false⟩) H (((H1 ++ [X,Y]).set d T).set (H1.length + 1) U):=fun T U X Y => by
     have hq:=f1.1
     refine (((f1.trans (Fr.app [] _ _)).trans (Fr.set _ d _)).trans (Fr.set _ _ _)).mono fun j hj hm => ?_
     simp at hm
     rcases hm with rfl | rfl
     ·simp
     ·omega
    have hn : (H.length : Nat)≤H1.length + 1:=by have:=f1.1; omega
    simp only [Int.reduceNeg,BB1,BQ,List.map_cons,List.map_nil,BB5,Pos.isHp,dropLk,BB0,constDV,Nat.reduceLT,BB6,BB3]
    refine hK _ (H1.length + 1) q (fr _ _ _ _) (h1.wrote (fr _ _ _ _) ?_ ⟨by rw [hsl]; exact hq,fun _ => ⟨List.replicate ((q - (ws.length + 1)) * 3) .undef,List.getElem?_set_self (by simp),by rw [hsl]; simp⟩⟩ (.inr hn)) (.inr hn)
    rw [List.getElem?_set_ne (show H1.length + 1 ≠ d by omega),hsl]
    exact List.getElem?_set_self (by simp; omega)
 ·simp only [BB1,BB5,Pos.isHp,BQ,dropLk,BB0,Nat.reduceLT,takK,BB3,movK,Nat.reduceBEq,BB2,dnil,fp143_5,t1,la4,cd_t,constDV,BB6]
  exact fin0 (by simp [writeC]) (by decide) f1
end Go.Ab.En

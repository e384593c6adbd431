/- A part of the proof; no condition of its own. -/
import Derived.Test.YtoebbafmopdfbaaGreatDoorAcV
set_option linter.unusedSimpArgs false
set_option linter.unusedVariables false
/- AcL: Laws by which 'simp' runs code over abstract states: continuations stay untouched. -/
namespace Go.Ab
open Go Go.Conc Go.RowKit
/-! ### slots,by their numbers -/
def look (i : Nat) : List (Nat × DV)→DV
 | [] => .undef
 | (j,v) :: r => if i = j then v else look i r
def dense (n : Nat) (l : List (Nat × DV)) : List DV:=(List.range n).map fun i => look i l
theorem dense_length (n : Nat) (l : List (Nat × DV)) : (dense n l).length = n:=by simp [dense]
theorem dense_get (n i : Nat) (l : List (Nat × DV)) : (dense n l)[i]? = if i < n then some (look i l) else none:=by
 by_cases h : i < n <;> simp [dense,List.getElem?_range,h]
theorem dense_set (n i : Nat) (v : DV) (l : List (Nat × DV)) : (dense n l).set i v = dense n ((i,v) :: l):=by
 apply List.ext_getElem?
 intro k
 rw [List.getElem?_set,dense_get,dense_length,dense_get]
 by_cases h : i = k
 ·subst h; simp [look]
 ·have : ¬ k = i:=fun e => h e.symm
  simp [look,h,this]
theorem dense_getD {n i : Nat} (l : List (Nat × DV)) (h : i < n) : (dense n l).getD i .undef = look i l:=by
 simp [List.getD,dense_get,h]
theorem look_hit (i : Nat) (v : DV) (r : List (Nat × DV)) : look i ((i,v) :: r) = v:=by simp [look]
theorem look_miss {i j : Nat} (v : DV) (r : List (Nat × DV)) (h : (i == j) = false) : look i ((j,v) :: r) = look i r:=by
 have : ¬ i = j:=by simpa using h
 simp [look,this]
def dropLk (s : Nat) : List (Nat × Pos)→List (Nat × Pos)
 | [] => []
 | (x,p) :: r => if (x == s || p.atSlot s) = true then dropLk s r else (x,p) :: dropLk s r
theorem dropLk_eq (s : Nat) : ∀ l : List (Nat × Pos),(l.filter fun x => !(x.1 == s) && !x.2.atSlot s) = dropLk s l
 | [] => rfl
 | (x,p) :: r => by
  have:=dropLk_eq s r
  simp only [List.filter_cons,dropLk,this]
  cases h1 : (x == s) <;> cases h2 : p.atSlot s <;> simp
def mk (n : Nat) (l : List (Nat × DV)) (B : List (Nat × Nat × List DV)) (H : List HObj) (lk : List (Nat × Pos)) : St:=⟨dense n l,B,H,lk⟩
section
variable {n : Nat} {l : List (Nat × DV)} {B : List (Nat × Nat × List DV)} {H : List HObj} {lk : List (Nat × Pos)}
theorem mk_put (s : Nat) (dv : DV) : (mk n l B H lk).put s dv = mk n ((s,dv) :: l) B H (dropLk s lk):=by simp [mk,St.put,dense_set,dropLk_eq]
theorem mk_put?_some (s : Nat) (dv : DV) : (mk n l B H lk).put? (some s) dv = mk n ((s,dv) :: l) B H (dropLk s lk):=mk_put s dv
theorem mk_put?_none (dv : DV) : (mk n l B H lk).put? none dv = mk n l B H lk:=_root_.id rfl
theorem mk_setH (id : Nat) (o : HObj) : (mk n l B H lk).setH id o = mk n l B (H.set id o) (lk.filter fun x => !x.2.inHp id):=_root_.id rfl
theorem mk_setB (s g : Nat) (cs : List DV) : (mk n l B H lk).setB s g cs = mk n l (bset s g cs B) H (lk.filter fun x => !x.2.inBox s):=_root_.id rfl
theorem mk_setT (s : Nat) (dv : DV) : (mk n l B H lk).setT s dv = mk n ((s,dv) :: l) B H lk:=by simp [mk,St.setT,dense_set]
theorem mk_called (H' : List HObj) : (mk n l B H lk).called H' = mk n l B H' (lk.filter fun x => !x.2.isHp):=_root_.id rfl
theorem mk_clean : (mk n l B H lk).clean = mk n l B H []:=_root_.id rfl
theorem mk_t {i : Nat} (h : i < n) : (mk n l B H lk).t.getD i .undef = look i l:=dense_getD l h
theorem mk_B : (mk n l B H lk).B = B:=_root_.id rfl
theorem mk_H : (mk n l B H lk).H = H:=_root_.id rfl
theorem forgetL_get (ks : List Nat) : ∀ (l : List DV) (i s : Nat),(forgetL ks i l)[s]? = (l[s]?).map fun x => if ks.contains (i + s) then x else .undef
 | [],i,s => by simp [forgetL]
 | x :: r,i,0 => by simp [forgetL]
 | x :: r,i,s + 1 => by simp only [forgetL,List.getElem?_cons_succ,forgetL_get ks r (i + 1) s,Nat.add_assoc,Nat.add_comm 1]
theorem look_keep (ks : List Nat) (l : List (Nat × DV)) (s : Nat) : look s (ks.map fun k => (k,look k l)) = if ks.contains s then look s l else .undef:=by
 induction ks with
 | nil => simp [look]
 | cons k ks ih =>
  simp only [List.map_cons,look]
  by_cases h : s = k
  ·subst h; simp
  ·have h2 : (s == k) = false:=by simpa using h
   simp only [h,if_false,ih,List.contains_cons,h2,Bool.false_or]
theorem mk_forget (ks : List Nat) : (mk n l B H lk).forget ks = mk n (ks.map fun k => (k,look k l)) B H []:=by
 simp only [mk,St.forget,St.mk.injEq,and_true,true_and]
 apply List.ext_getElem?
 intro s
 rw [forgetL_get,dense_get,dense_get,Nat.zero_add,look_keep]
 by_cases h : s < n <;> simp [h]
end
/-! ### where a run goes on stays as it is: 'simp' does not look into what is held -/
def Tag {α : Type} (_ : α) : Type:=Unit
def hold {α : Type} (K : α) (_ : Tag K) : α:=K
def tag {α : Type} (K : α) : Tag K:=()
theorem hold_app {α β : Type} {K : α→β} {g : Tag K} {x : α} : hold K g x = K x:=_root_.id rfl
theorem hold_app2 {α β γ : Type} {K : α→β→γ} {g : Tag K} {x : α} {y : β} : hold K g x y = K x y:=_root_.id rfl
section
variable {P : Program} {isObj : ObjT} {Γ : Env}
def app (S : Spec) (H : List HObj) (args : List DV) (K : List HObj→DV→Prop) : Prop:=S H args K
def envOf : List (FuncId × Spec)→Env
 | [],_ => none
 | (f,S) :: r,g => if g = f then some S else envOf r g
theorem envOf_rc {I : Jd P} : ∀ {l : List (FuncId × Spec)},(∀ x∈l,RC I x.1 x.2)→∀ f S,envOf l f = some S→RC I f S
 | [],_,f,S,h => by cases h
 | (g,T) :: r,hl,f,S,h => by
  unfold envOf at h
  split at h
  ·rename_i e; subst e; cases h; exact hl (_,_) (by simp)
  ·exact envOf_rc (fun x hx => hl x (by simp [hx])) f S h
/-! ### operations,spelt out -/
def newMapS (st : St) (s : Nat) : St:={ st with H:=st.H ++ [HObj.map []] }.put s (.map st.H.length)
theorem mk_newMap {n : Nat} {l : List (Nat × DV)} {B : List (Nat × Nat × List DV)} {H : List HObj} {lk : List (Nat × Pos)} {s : Nat} : newMapS (mk n l B H lk) s = mk n ((s,.map H.length) :: l) B (H ++ [HObj.map []]) (dropLk s lk):=by
 rw [show newMapS (mk n l B H lk) s = (mk n l B (H ++ [HObj.map []]) lk).put s (.map H.length) from rfl,mk_put]
def dpick : DV→DV→DV→(DV→Prop)→Prop
 | .bool b,x,y,K => K (if b then x.roA else y.roA)
 | _,_,_,_ => False
def dnil : DV→(DV→Prop)→Prop
 | .ptr i q,K => K (.ptr i q)
 | .lptr s g q,K => K (.lptr s g q)
 | .vptr cs,K => K (.vptr cs)
 | _,_ => False
def dcond : DV→(St→Prop)→(St→Prop)→St→Prop
 | .bool b,F,F',st => (b = true→F st)∧(b = false→F' st)
 | _,_,_,_ => False
variable {s j : Nat} {t t2 xt yt : TypeId} {p : String} {af : Array Edge} {g : Option (Nat × Bool)} {st : St} {K : St→Prop} {x y c a i m k v lo hi : Operand} {dst : Option Nat}
theorem g_none {ds : List (Option Nat)} {op : Op} {f f' : St→Prop} : gstep ds (hold ⟨dst,op,t,p,af,none⟩ (tag _)) st f f' = f st:=_root_.id rfl
def gq (ds : List (Option Nat)) (j : Nat) : Option Nat:=ds.getD j none
theorem gq_zero {o : Oper} {r : List Oper} : gq (hold ((o :: r).map (·.dst)) (tag _)) 0 = o.dst:=_root_.id rfl
theorem gq_succ {o : Oper} {r : List Oper} {k : Nat} : gq (hold ((o :: r).map (·.dst)) (tag _)) (k + 1) = gq (hold (r.map (·.dst)) (tag _)) k:=_root_.id rfl
def gs1 : Option Nat→Bool→St→(St→Prop)→(St→Prop)→Prop
 | some q,want,st,f,f' => match st.t.getD q .undef with
  | .bool b => (b = want→f (st.setT q (.bool want)))∧(b = !want→f' (st.setT q (.bool !want)))
  | .tup [] => f' st
  | _ => False
 | none,_,_,_,_ => False
def gs2 : DV→Nat→Bool→St→(St→Prop)→(St→Prop)→Prop
 | .bool b,q,want,st,f,f' => (b = want→f (st.setT q (.bool want)))∧(b = !want→f' (st.setT q (.bool !want)))
 | .tup [],_,_,st,_,f' => f' st
 | _,_,_,_,_,_ => False
theorem g_some {ds : List (Option Nat)} {op : Op} {f f' : St→Prop} {want : Bool} : gstep ds (hold ⟨dst,op,t,p,af,some (j,want)⟩ (tag _)) st f f' = gs1 (gq ds j) want st f f':=by
 simp only [gstep,hold,gs1,gq]
 cases ds.getD j none <;> rfl
theorem gs1_eq {n : Nat} {l : List (Nat × DV)} {B : List (Nat × Nat × List DV)} {H : List HObj} {lk : List (Nat × Pos)} {q : Nat} {want : Bool} {f f' : St→Prop} (hn : q < n) : gs1 (some q) want (mk n l B H lk) f f' = gs2 (look q l) q want (mk n l B H lk) f f':=by
 simp only [gs1,mk_t hn]
 cases look q l <;> try rfl
 rename_i ds
 cases ds <;> rfl
theorem gs2_bool {b : Bool} {q : Nat} {want : Bool} {f f' : St→Prop} : gs2 (.bool b) q want st f f' = ((b = want→f (st.setT q (.bool want)))∧(b = !want→f' (st.setT q (.bool !want)))):=_root_.id rfl
theorem gs2_tup {q : Nat} {want : Bool} {f f' : St→Prop} : gs2 (.tup []) q want st f f' = f' st:=_root_.id rfl
theorem tS_nil {ds : List (Option Nat)} : dtextS P isObj Γ ds (hold [] (tag _)) st K = K st:=_root_.id rfl
theorem tS_cons {ds : List (Option Nat)} {o : Oper} {r : List Oper} : dtextS P isObj Γ ds (hold (o :: r) (tag _)) st K = gstep ds (hold o (tag _)) st (hold (fun st => dopC P isObj Γ (hold o (tag _)) st (hold (fun st' => dtextS P isObj Γ ds (hold r (tag _)) st' K) (tag _))) (tag _)) (hold (fun st => dtextS P isObj Γ ds (hold r (tag _)) (st.put? o.dst (.tup [])) K) (tag _)):=_root_.id rfl
theorem o_move : dopC P isObj Γ (hold ⟨some s,.move x,t,p,af,g⟩ (tag _)) st K = K (moveD P st s t x):=_root_.id rfl
theorem o_assign : dopC P isObj Γ (hold ⟨some s,.assign x,t,p,af,g⟩ (tag _)) st K = K ((take P st t x).2.put s (take P st t x).1):=_root_.id rfl
theorem o_pick : dopC P isObj Γ (hold ⟨dst,.pick c x y,t,p,af,g⟩ (tag _)) st K = dpick (rho P st t c) (rho P st t x) (rho P st t y) (hold (fun dv => K (st.put? dst dv)) (tag _)):=by
 simp only [dopC,dop,hold]
 cases rho P st t c <;> rfl
theorem o_alloc {e : TypeId} (hf : funT P e = false) : dopC P isObj Γ (hold ⟨some s,.alloc e,t,p,af,g⟩ (tag _)) st K = (zeroOk P e (zeroDVo P isObj 6 e) = true∧(ofCells P e (zeroDVo P isObj 6 e)).cells.all DV.scalar = true∧K (newVarD isObj st s e (ofCells P e (zeroDVo P isObj 6 e)))):=by
 simp only [hold,dopC,dop,hf,Bool.false_eq_true,if_false]
def newFunS (st : St) (s : Nat) : St:={ st with H:=st.H ++ [HObj.cells [.undef]] }.put s (.ptr st.H.length 0)
theorem mk_newFun {n : Nat} {l : List (Nat × DV)} {B : List (Nat × Nat × List DV)} {H : List HObj} {lk : List (Nat × Pos)} : newFunS (mk n l B H lk) s = mk n ((s,.ptr H.length 0) :: l) B (H ++ [HObj.cells [.undef]]) (dropLk s lk):=by
 rw [show newFunS (mk n l B H lk) s = (mk n l B (H ++ [HObj.cells [.undef]]) lk).put s (.ptr H.length 0) from rfl,mk_put]
theorem o_box {e : TypeId} : dopC P isObj Γ (hold ⟨some s,.box e x,t,p,af,g⟩ (tag _)) st K = ((take P st e x).1.cells.all DV.scalar = true∧K (newVarD isObj (take P st e x).2 s e (take P st e x).1)):=_root_.id rfl
theorem o_load {e : TypeId} : dopC P isObj Γ (hold ⟨some s,.load e a,t,p,af,g⟩ (tag _)) st K = dload P st e (rho P st 0 a) (hold (fun dv => K (loadD P st s e (rho P st 0 a) dv)) (tag _)):=_root_.id rfl
theorem o_store {e : TypeId} : dopC P isObj Γ (hold ⟨none,.store e a x,t,p,af,g⟩ (tag _)) st K = storeD P (take P st e x).2 e (rho P st 0 a) (take P st e x).1 K:=by simp only [dopC,dop,hold,true_and]
theorem o_nilCheck : dopC P isObj Γ (hold ⟨dst,.nilCheck x,t,p,af,g⟩ (tag _)) st K = dnil (rho P st 0 x) (hold (fun dv => K (st.put? dst dv)) (tag _)):=by
 simp only [dopC,dop,hold]
 cases rho P st 0 x <;> rfl
theorem o_bin {op : BinOp} : dopC P isObj Γ (hold ⟨dst,.binOp op xt x y yt,t,p,af,g⟩ (tag _)) st K = (if isNilSl y = true then dnilSl P op xt (rho P st xt x) (hold (fun dv => K (st.put? dst dv)) (tag _)) else dbin P op xt (rho P st xt x) (rho P st yt y) (hold (fun dv => K (st.put? dst dv)) (tag _))):=_root_.id rfl
theorem nil_tmp {q : Nat} : isNilSl (.tmp q) = false:=_root_.id rfl
theorem nil_int {k : IntKind} {i : Int} : isNilSl (.const (.int k i)) = false:=_root_.id rfl
theorem nil_str {b : ByteArray} : isNilSl (.const (.string b)) = false:=_root_.id rfl
theorem nil_bool {b : Bool} : isNilSl (.const (.bool b)) = false:=_root_.id rfl
theorem nil_ptr {b : Option Addr} : isNilSl (.const (.pointer b)) = false:=_root_.id rfl
theorem nil_map {b : Option Nat} : isNilSl (.const (.map b)) = false:=_root_.id rfl
theorem nil_sl : isNilSl (.const (.slice none 0 0)) = true:=_root_.id rfl
theorem n_eql {e : TypeId} {own : Bool} {sz : Nat} {xs : List DV} {F : DV→Prop} (h : P.underlying xt = some (.slice e)) : dnilSl P .eql xt (.sl own sz xs) F = (F (.bool false)∧(xs = []→F (.bool true))):=by simp only [dnilSl,h]
theorem o_un {op : UnOp} : dopC P isObj Γ (hold ⟨dst,.unOp op xt x,t,p,af,g⟩ (tag _)) st K = dun op (rho P st xt x) (hold (fun dv => K (st.put? dst dv)) (tag _)):=_root_.id rfl
theorem o_conv : dopC P isObj Γ (hold ⟨dst,.convert xt yt x,t,p,af,g⟩ (tag _)) st K = dconv P st xt yt (rho P st xt x) (hold (fun dv => K (st.put? dst dv)) (tag _)):=_root_.id rfl
theorem o_makeMap : dopC P isObj Γ (hold ⟨some s,.makeMap t2 none,t,p,af,g⟩ (tag _)) st K = K (newMapS st s):=_root_.id rfl
theorem o_slice {lo hi : Option Operand} : dopC P isObj Γ (hold ⟨dst,.slice xt x lo hi none,t,p,af,g⟩ (tag _)) st K = dslice P xt (rho P st xt x) (lo.map (rho P st 3)) (hi.map (rho P st 3)) (hold (fun dv => K (st.put? dst dv)) (tag _)):=_root_.id rfl
theorem o_fieldAddr {f : Nat} : dopC P isObj Γ (hold ⟨dst,.fieldAddr xt x f,t,p,af,g⟩ (tag _)) st K = dfieldAddr P xt (rho P st 0 x) f (hold (fun dv => K (st.put? dst dv)) (tag _)):=_root_.id rfl
theorem o_field {f : Nat} : dopC P isObj Γ (hold ⟨dst,.field xt x f,t,p,af,g⟩ (tag _)) st K = dfield P xt (rho P st xt x) f (hold (fun dv => K (st.put? dst dv)) (tag _)):=_root_.id rfl
theorem o_indexAddr : dopC P isObj Γ (hold ⟨dst,.indexAddr xt x i,t,p,af,g⟩ (tag _)) st K = dindexAddr P xt (rho P st xt x) (rho P st 3 i) (hold (fun dv => K (st.put? dst dv)) (tag _)):=_root_.id rfl
theorem o_index : dopC P isObj Γ (hold ⟨dst,.index xt x i,t,p,af,g⟩ (tag _)) st K = dindex P xt (rho P st xt x) (rho P st 3 i) (hold (fun dv => K (st.put? dst dv)) (tag _)):=_root_.id rfl
theorem o_lookup {ok : Bool} : dopC P isObj Γ (hold ⟨dst,.lookup xt m k ok,t,p,af,g⟩ (tag _)) st K = ((rho P st 0 k).plain∧dlookup P st xt (rho P st xt m) (rho P st 0 k) ok (hold (fun dv => K (st.put? dst dv)) (tag _))):=_root_.id rfl
theorem o_mapUpdate : dopC P isObj Γ (hold ⟨dst,.mapUpdate xt m k v,t,p,af,g⟩ (tag _)) st K = ((rho P st 0 k).plain∧mapUpdD P st xt (rho P st xt m) (rho P st 0 k) (rho P st 0 v) (hold (fun st' => K (st'.put? dst .undef)) (tag _))):=_root_.id rfl
theorem o_extract {n : Nat} : dopC P isObj Γ (hold ⟨some s,.extract x n,t,p,af,g⟩ (tag _)) st K = dextract (rho P st 0 x) n (hold (fun dv => K (extractD st s x n dv)) (tag _)):=_root_.id rfl
theorem o_len : dopC P isObj Γ (hold ⟨dst,.call ⟨.builtin .len,#[x],#[xt]⟩,t,p,af,g⟩ (tag _)) st K = dlen P st xt (rho P st xt x) (hold (fun dv => K (st.put? dst dv)) (tag _)):=_root_.id rfl
theorem o_max {ts : Array TypeId} : dopC P isObj Γ (hold ⟨dst,.call ⟨.builtin .max,#[x,y],ts⟩,t,p,af,g⟩ (tag _)) st K = dminmax true [rho P st 0 x,rho P st 0 y] (hold (fun dv => K (st.put? dst dv)) (tag _)):=_root_.id rfl
theorem o_min {ts : Array TypeId} : dopC P isObj Γ (hold ⟨dst,.call ⟨.builtin .min,#[x,y],ts⟩,t,p,af,g⟩ (tag _)) st K = dminmax false [rho P st 0 x,rho P st 0 y] (hold (fun dv => K (st.put? dst dv)) (tag _)):=_root_.id rfl
theorem o_append : dopC P isObj Γ (hold ⟨some s,.call ⟨.builtin .append,#[x,y],#[xt,yt]⟩,t,p,af,g⟩ (tag _)) st K = (if isObj xt = true then appendObjD P st s xt yt x (rho P st yt y) K else appendD P st s xt yt x (rho P st yt y) K):=_root_.id rfl
theorem o_delete : dopC P isObj Γ (hold ⟨dst,.call ⟨.builtin .delete,#[m,k],#[xt,yt]⟩,t,p,af,g⟩ (tag _)) st K = ((rho P st 0 k).plain∧mapDelD P st xt (rho P st xt m) (rho P st 0 k) (hold (fun st' => K (st'.put? dst (.tup []))) (tag _))):=_root_.id rfl
/-! ### code,spelt out -/
variable {Q : Exit→St→Prop} {c1 c2 : Code} {id : Nat}
theorem w_skip : dwp P isObj Γ (hold .skip (tag _)) Q st = Q .normal st:=_root_.id rfl
theorem w_label {l : Nat} : dwp P isObj Γ (hold (.label l) (tag _)) Q st = Q .normal st:=_root_.id rfl
theorem w_ret : dwp P isObj Γ (hold .ret (tag _)) Q st = Q .ret st:=_root_.id rfl
theorem w_exit : dwp P isObj Γ (hold (.exit id) (tag _)) Q st = Q (.exit id) st:=_root_.id rfl
theorem w_seq : dwp P isObj Γ (hold (.seq c1 c2) (tag _)) Q st = dwp P isObj Γ (hold c1 (tag _)) (hold (fun e st => match e with | .normal => dwp P isObj Γ (hold c2 (tag _)) Q st | e => Q e st) (tag _)) st:=_root_.id rfl
theorem w_cond : dwp P isObj Γ (hold (.cond c c1 c2) (tag _)) Q st = dcond (rho P st 0 c) (hold (fun st => dwp P isObj Γ (hold c1 (tag _)) Q st) (tag _)) (hold (fun st => dwp P isObj Γ (hold c2 (tag _)) Q st) (tag _)) st:=by
 simp only [hold,dwp]
 cases rho P st 0 c <;> rfl
theorem w_block : dwp P isObj Γ (hold (.block id c1) (tag _)) Q st = dwp P isObj Γ (hold c1 (tag _)) (hold (fun e st => match e with | .exit i => if i = id then Q .normal st else Q (.exit i) st | e => Q e st) (tag _)) st:=_root_.id rfl
theorem w_scope : dwp P isObj Γ (hold (.scope c1) (tag _)) Q st = dwp P isObj Γ (hold c1 (tag _)) Q st:=_root_.id rfl
theorem w_region {l : List Oper} : dwp P isObj Γ (hold (.region id l.toArray false) (tag _)) Q st = dtextS P isObj Γ (hold (l.map (·.dst)) (tag _)) (hold l (tag _)) st.clean (hold (Q .normal) (tag _)):=_root_.id rfl
end
def argSlots : Nat→List DV→List (Nat × DV)
 | _,[] => []
 | i,a :: r => (i,a.ro) :: argSlots (i + 1) r
theorem look_argSlots : ∀ (args : List DV) (i s : Nat),look s (argSlots i args) = if i≤s then ((args.map DV.ro)[s - i]?).getD .undef else .undef
 | [],i,s => by simp [argSlots,look]
 | a :: r,i,s => by
  simp only [argSlots,look,look_argSlots r (i + 1) s]
  rcases Nat.lt_trichotomy s i with h | h | h
  ·have h1 : ¬ s = i:=by omega
   have h2 : ¬ i + 1≤s:=by omega
   have h3 : ¬ i≤s:=by omega
   simp [h1,h2,h3]
  ·subst h; simp
  ·have h1 : ¬ s = i:=by omega
   have h2 : i + 1≤s:=by omega
   have h3 : i≤s:=by omega
   obtain ⟨k,hk⟩ : ∃ k,s - i = k + 1:=⟨s - i - 1,by omega⟩
   have h4 : s - (i + 1) = k:=by omega
   simp [h1,h2,h3,hk,h4]
theorem init_wk {d n : Nat} {args : List DV} {H : List HObj} (hn : args.length≤n) : StWk id d (St.init n args H) (mk n (argSlots 0 args) [] H []) :=
 ⟨⟨by simp [mk,St.init,dense_length]; omega,fun s dv' h => by
  simp only [mk,dense_get,look_argSlots] at h
  split at h
  ·rename_i hs
   cases h
   simp only [Nat.zero_le,if_true,Nat.sub_zero,St.init]
   rcases Nat.lt_or_ge s args.length with h1 | h1
   ·refine ⟨args[s].ro,by rw [List.getElem?_append_left (by simpa using h1)]; simp [h1],?_⟩
    simp only [List.getElem?_map,List.getElem?_eq_getElem h1,Option.map_some,Option.getD_some]
    exact .refl _ _
   ·refine ⟨.tup [],by rw [List.getElem?_append_right (by simpa using h1)]; simp [List.getElem?_replicate]; omega,.inr (.inr ?_)⟩
    simp [List.getElem?_eq_none h1]
  ·cases h⟩,fun s g cs' h => by simp [mk,bget] at h,fun s => by simp [mk,St.init],⟨rfl,fun id ob' ho => ⟨ob',ho,by
  cases ob' with
  | cells cs => exact ⟨rfl,fun j c' hc => ⟨c',hc,.refl _ _⟩⟩
  | map es => rfl⟩⟩,fun _ hx => by simp [mk] at hx⟩
end Go.Ab

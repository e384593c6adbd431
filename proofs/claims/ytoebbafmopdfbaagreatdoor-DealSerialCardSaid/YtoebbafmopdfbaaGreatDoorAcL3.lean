/- A part of the proof; no condition of its own. -/
import Derived.Test.YtoebbafmopdfbaaGreatDoorAcL2
set_option linter.unusedSimpArgs false
set_option linter.unusedVariables false
/- AcL3: More laws for 'simp': values,lookups,conversions,stores,appends. -/
namespace Go.Ab
open Go Go.Conc Go.RowKit
variable {P : Program} {isObj : ObjT} {Γ : Env} {n : Nat} {l : List (Nat × DV)} {B : List (Nat × Nat × List DV)} {H : List HObj} {lk : List (Nat × Pos)} {t xt : TypeId} {K : DV→Prop}
theorem keyT_str {kt : TypeId} {s : List UInt8} (h : P.underlying kt = some .string) : keyT P kt (.str s) = True:=by simp [keyT,h]
theorem plain_str {s : List UInt8} : (DV.str s).plain = True:=_root_.id rfl
theorem plain_int {k : IntKind} {i : Int} : (DV.int k i).plain = True:=_root_.id rfl
theorem ex_0 {c : DV} {r : List DV} : dextract (.tup (c :: r)) 0 K = K c.ro:=_root_.id rfl
theorem ex_1 {c c1 : DV} {r : List DV} : dextract (.tup (c1 :: c :: r)) 1 K = K c.ro:=_root_.id rfl
theorem ex_2 {c c1 c2 : DV} {r : List DV} : dextract (.tup (c1 :: c2 :: c :: r)) 2 K = K c.ro:=_root_.id rfl
def extK (n : Nat) (l : List (Nat × DV)) (B : List (Nat × Nat × List DV)) (H : List HObj) (lk : List (Nat × Pos)) (s q i : Nat) : DV→St
 | .sl own sz xs => if q = s then mk n ((s,.sl own sz xs) :: l) B H (dropLk s lk) else mk n ((s,.sl own sz xs) :: l) B H ((s,.slot q (i + 1)) :: dropLk s lk)
 | dv => mk n ((s,dv) :: l) B H (dropLk s lk)
theorem ext_tmp {s q i : Nat} {dv : DV} : extractD (mk n l B H lk) s (.tmp q) i dv = extK n l B H lk s q i dv:=by
 simp only [extractD,mk_put]
 cases dv <;> rfl
theorem lo_int {s : Nat} {a : DV} {k : IntKind} {i : Int} : loadD P (mk n l B H lk) s t a (.int k i) = mk n ((s,.int k i) :: l) B H (dropLk s lk):=by simp only [loadD,mk_put]
theorem lo_str {s : Nat} {a : DV} {b : List UInt8} : loadD P (mk n l B H lk) s t a (.str b) = mk n ((s,.str b) :: l) B H (dropLk s lk):=by simp only [loadD,mk_put]
theorem lo_bool {s : Nat} {a : DV} {b : Bool} : loadD P (mk n l B H lk) s t a (.bool b) = mk n ((s,.bool b) :: l) B H (dropLk s lk):=by simp only [loadD,mk_put]
theorem lo_map {s : Nat} {a : DV} {b : Nat} : loadD P (mk n l B H lk) s t a (.map b) = mk n ((s,.map b) :: l) B H (dropLk s lk):=by simp only [loadD,mk_put]
theorem lo_ptr {s : Nat} {a : DV} {i o : Nat} : loadD P (mk n l B H lk) s t a (.ptr i o) = mk n ((s,.ptr i o) :: l) B H (dropLk s lk):=by simp only [loadD,mk_put]
theorem lo_agg {s : Nat} {a : DV} {cs : List DV} : loadD P (mk n l B H lk) s t a (.agg cs) = mk n ((s,.agg cs) :: l) B H (dropLk s lk):=by simp only [loadD,mk_put]
theorem dl_str {s : List UInt8} (h : P.underlying t = some .string) : dlen P (mk n l B H lk) t (.str s) K = K (.int .i64 s.length):=by simp only [dlen,h]
theorem dl_sl {e : TypeId} {own : Bool} {sz : Nat} {xs : List DV} (h : P.underlying t = some (.slice e)) : dlen P (mk n l B H lk) t (.sl own sz xs) K = K (.int .i64 xs.length):=by simp only [dlen,h]
theorem fa_ptr {fs : Array Field} {f i o : Nat} {fd : Field} (hu : P.underlying t = some (.struct fs)) (hf : fs[f]? = some fd) (hc : P.cellsOf fd.type ≠ 0) : dfieldAddr P t (.ptr i o) f K = K (.ptr i (o + fd.offset)):=by simp [dfieldAddr,hu,hf,hc]
theorem fa_lptr {fs : Array Field} {f s g o : Nat} {fd : Field} (hu : P.underlying t = some (.struct fs)) (hf : fs[f]? = some fd) (hc : P.cellsOf fd.type ≠ 0) : dfieldAddr P t (.lptr s g o) f K = K (.lptr s g (o + fd.offset)):=by simp [dfieldAddr,hu,hf,hc]
theorem fa_vptr {fs : Array Field} {f : Nat} {cs : List DV} {fd : Field} (hu : P.underlying t = some (.struct fs)) (hf : fs[f]? = some fd) (hc : P.cellsOf fd.type ≠ 0) : dfieldAddr P t (.vptr cs) f K = K (.vptr (cs.drop fd.offset)):=by simp [dfieldAddr,hu,hf,hc]
theorem ix_str {k : IntKind} {i : Int} {s : List UInt8} (hu : P.underlying t = some .string) : dindex P t (.str s) (.int k i) K = (0≤i∧i < s.length∧K (.int .u8 (s.getD i.toNat 0).toNat)):=by simp only [dindex,hu]
theorem ia_sl {e : TypeId} {k : IntKind} {i : Int} {own : Bool} {sz : Nat} {xs : List DV} (hu : P.underlying t = some (.slice e)) (hs : P.cellsOf e = sz) (he : (P.underlying e).isSome = true) :
  dindexAddr P t (.sl own sz xs) (.int k i) K = (0≤i∧i < xs.length∧K (.vptr (xs.getD i.toNat .undef).cells)):=by simp [dindexAddr,hu,hs,he]
/-! ### arithmetic and comparisons -/
variable {a b : Int} {k : IntKind} {x y : List UInt8} {p q : Bool}
theorem b_add : dbin P .add xt (.int k a) (.int k b) K = K (.int k (k.wrap (a + b))):=by simp [dbin]
theorem b_sub : dbin P .sub xt (.int k a) (.int k b) K = K (.int k (k.wrap (a - b))):=by simp [dbin]
theorem b_mul : dbin P .mul xt (.int k a) (.int k b) K = K (.int k (k.wrap (a * b))):=by simp [dbin]
theorem b_eql : dbin P .eql xt (.int k a) (.int k b) K = K (.bool (decide (a = b))):=by simp [dbin]
theorem b_neq : dbin P .neq xt (.int k a) (.int k b) K = K (.bool (decide (a ≠ b))):=by simp [dbin]
theorem b_lss : dbin P .lss xt (.int k a) (.int k b) K = K (.bool (decide (a < b))):=by simp [dbin]
theorem b_leq : dbin P .leq xt (.int k a) (.int k b) K = K (.bool (decide (a≤b))):=by simp [dbin]
theorem b_gtr : dbin P .gtr xt (.int k a) (.int k b) K = K (.bool (decide (b < a))):=by simp [dbin]
theorem b_geq : dbin P .geq xt (.int k a) (.int k b) K = K (.bool (decide (b≤a))):=by simp [dbin]
theorem s_eql : dbin P .eql xt (.str x) (.str y) K = K (.bool (decide (x = y))):=_root_.id rfl
theorem s_neq : dbin P .neq xt (.str x) (.str y) K = K (.bool (decide (x ≠ y))):=_root_.id rfl
theorem s_lss : dbin P .lss xt (.str x) (.str y) K = K (.bool (Op.bytesLess x y)):=_root_.id rfl
theorem s_add : dbin P .add xt (.str x) (.str y) K = (x.length + y.length≤9223372036854775807∧K (.str (x ++ y))):=_root_.id rfl
theorem p_eql {i o : Nat} {e : TypeId} (h : P.underlying xt = some (.pointer e)) : dbin P .eql xt (.ptr i o) .nilp K = K (.bool false):=by simp [dbin,h]
theorem u_not : dun .not (.bool p) K = K (.bool !p):=_root_.id rfl
theorem m_max {k' : IntKind} : dminmax true [.int k a,.int k' b] K = K (.int k (if a < b then b else a)):=_root_.id rfl
theorem m_min {k' : IntKind} : dminmax false [.int k a,.int k' b] K = K (.int k (if b < a then b else a)):=_root_.id rfl
theorem pk {c d : DV} : dpick (.bool p) c d K = K (if p then c.roA else d.roA):=_root_.id rfl
theorem cd {F F' : St→Prop} {st : St} : dcond (.bool p) F F' st = ((p = true→F st)∧(p = false→F' st)):=_root_.id rfl
/-! ### stores,appends,maps -/
variable {KS : St→Prop} {v : DV}
theorem nv_box {s : Nat} {e : TypeId} {dv : DV} (h : isObj e = false) : newVarD isObj (mk n l B H lk) s e dv = mk n ((s,.lptr s (bgen s B) 0) :: l) (bset s (bgen s B) dv.cells B) H (dropLk s lk):=by
 simp only [newVarD,h,Bool.false_eq_true,if_false,mk_B]
 rw [show ({ mk n l B H lk with B:=bset s (bgen s B) dv.cells B } : St) = mk n l (bset s (bgen s B) dv.cells B) H lk from rfl,mk_put]
theorem nv_obj {s : Nat} {e : TypeId} {dv : DV} (h : isObj e = true) : newVarD isObj (mk n l B H lk) s e dv = mk n ((s,.ptr H.length 0) :: l) B (H ++ [HObj.cells dv.cells]) (dropLk s lk):=by
 simp only [newVarD,h,if_true,mk_H]
 rw [show ({ mk n l B H lk with H:=H ++ [HObj.cells dv.cells] } : St) = mk n l B (H ++ [HObj.cells dv.cells]) lk from rfl,mk_put]
/-! ### loops -/
theorem w_loop {c : Code} {Q : Exit→St→Prop} {st : St} (ks : List Nat) (M : Nat→St→Prop) (m : Nat) (h0 : M m (st.forget ks))
  (hs : ∀ m st,M m st→dwp P isObj Γ (hold c (tag _)) (hold (fun e st => match e with | .normal => ∃ m',m' < m∧M m' (st.forget ks) | e => Q e st) (tag _)) st) : dwp P isObj Γ (hold (.loop c) (tag _)) Q st:=⟨0,ks,M,m,h0,hs⟩
def loopW (P : Program) (isObj : ObjT) (Γ : Env) (c : Code) (Q : Exit→St→Prop) (u : Nat) (st : St) : Prop:=loopP (fun Q st => dwp P isObj Γ c Q st) Q u st
theorem w_unroll {c : Code} {Q : Exit→St→Prop} {st : St} (u : Nat) (h : loopW P isObj Γ (hold c (tag _)) Q u st) : dwp P isObj Γ (hold (.loop c) (tag _)) Q st:=⟨u,h⟩
theorem lw_succ {c : Code} {Q : Exit→St→Prop} {st : St} {u : Nat} : loopW P isObj Γ (hold c (tag _)) Q (u + 1) st = dwp P isObj Γ (hold c (tag _)) (hold (fun e st => match e with | .normal => loopW P isObj Γ (hold c (tag _)) Q u st | e => Q e st) (tag _)) st:=_root_.id rfl
theorem wrap_i64 {x : Int} (h1 : -9223372036854775808≤x) (h2 : x < 9223372036854775808) : IntKind.i64.wrap x = x:=by
 simp [IntKind.wrap,IntKind.bits,IntKind.signed]
 omega
/-! ### memory,looked up first -/
section
variable {st : St} {KS : St→Prop} {v : DV} {off g s id : Nat} {cs : List DV} {es : List (DV × DV)} {key : DV} {ok : Bool} {kt et : TypeId}
def dlh (P : Program) (t : TypeId) (off : Nat) : Option HObj→(DV→Prop)→Prop
 | some (.cells cs),K => loadAs P t (cs.drop off) K
 | _,_ => False
theorem ld_h : dload P (mk n l B H lk) t (.ptr id off) K = dlh P t off (H[id]?) K:=by
 simp only [dload,mk]
 cases H[id]? <;> try rfl
 rename_i o; cases o <;> rfl
theorem dlh_some : dlh P t off (some (.cells cs)) K = loadAs P t (cs.drop off) K:=_root_.id rfl
def dlb (P : Program) (t : TypeId) (g off : Nat) : Option (Nat × List DV)→(DV→Prop)→Prop
 | some (g',cs),K => g' = g∧loadAs P t (cs.drop off) K
 | none,_ => False
theorem ld_b : dload P (mk n l B H lk) t (.lptr s g off) K = dlb P t g off (bget s B) K:=by
 simp only [dload,mk]
 cases bget s B <;> rfl
theorem dlb_some {g' : Nat} : dlb P t g off (some (g',cs)) K = (g' = g∧loadAs P t (cs.drop off) K):=_root_.id rfl
def sth (P : Program) (st : St) (t : TypeId) (id off : Nat) (v : DV) : Option HObj→(St→Prop)→Prop
 | some (.cells cs),KS => (P.underlying t).isSome = true∧v.cells.length = P.cellsOf t∧v.cells.all DV.scalar = true∧off + v.cells.length≤cs.length∧KS (st.setH id (.cells (putAt cs off v.cells)))
 | _,_ => False
theorem st_h : storeD P (mk n l B H lk) t (.ptr id off) v KS = sth P (mk n l B H lk) t id off v (H[id]?) KS:=by
 cases h : H[id]? with
 | none => simp [storeD,mk,h,sth]
 | some o => cases o <;> simp [storeD,mk,h,sth]
theorem sth_some : sth P st t id off v (some (.cells cs)) KS = ((P.underlying t).isSome = true∧v.cells.length = P.cellsOf t∧v.cells.all DV.scalar = true∧off + v.cells.length≤cs.length∧KS (st.setH id (.cells (putAt cs off v.cells)))):=_root_.id rfl
def stb (P : Program) (st : St) (t : TypeId) (s g off : Nat) (v : DV) : Option (Nat × List DV)→(St→Prop)→Prop
 | some (g',cs),KS => g' = g∧(P.underlying t).isSome = true∧v.cells.length = P.cellsOf t∧v.cells.all DV.scalar = true∧off + v.cells.length≤cs.length∧KS (st.setB s g (putAt cs off v.cells))
 | none,_ => False
theorem st_b : storeD P (mk n l B H lk) t (.lptr s g off) v KS = stb P (mk n l B H lk) t s g off v (bget s B) KS:=by
 cases h : bget s B with
 | none => simp [storeD,mk,h,stb]
 | some o =>
  simp only [storeD,mk,h,stb,eq_iff_iff]
  constructor
  ·rintro ⟨a,b,c,d,e,f⟩; exact ⟨d,a,b,c,e,f⟩
  ·rintro ⟨d,a,b,c,e,f⟩; exact ⟨a,b,c,d,e,f⟩
theorem stb_some {g' : Nat} : stb P st t s g off v (some (g',cs)) KS = (g' = g∧(P.underlying t).isSome = true∧v.cells.length = P.cellsOf t∧v.cells.all DV.scalar = true∧off + v.cells.length≤cs.length∧KS (st.setB s g (putAt cs off v.cells))):=_root_.id rfl
def onMap {α : Type} : Option HObj→(List (DV × DV)→α→Prop)→α→Prop
 | some (.map es),F,K => F es K
 | _,_,_ => False
theorem onMap_some {α : Type} {F : List (DV × DV)→α→Prop} {K : α} : onMap (some (.map es)) F K = F es K:=_root_.id rfl
theorem lk_h (hu : P.underlying t = some (.map kt et)) : dlookup P (mk n l B H lk) t (.map id) key ok K = onMap (H[id]?) (fun es K => keyT P kt key∧match findKeyD key es with | some r => lookFin P et ok K r | none => False) K:=by
 simp only [dlookup,hu,mk]
 cases H[id]? with
 | none => simp [onMap]
 | some o =>
  cases o with
  | cells cs => simp [onMap]
  | map es =>
   simp only [onMap]
   cases findKeyD key es <;> rfl
theorem mu_h (hu : P.underlying t = some (.map kt et)) : mapUpdD P (mk n l B H lk) t (.map id) key v KS = onMap (H[id]?) (fun es KS => keyT P kt key∧(es.all fun e => (keyEq key e.1).isSome) = true∧v.plain∧KS ((mk n l B H lk).setH id (.map (mapSet key v.ro es)))) KS:=by
 simp only [mapUpdD,hu,mk]
 cases H[id]? with
 | none => simp [onMap]
 | some o => cases o <;> simp [onMap]
theorem md_h (hu : P.underlying t = some (.map kt et)) : mapDelD P (mk n l B H lk) t (.map id) key KS = onMap (H[id]?) (fun es KS => keyT P kt key∧(es.all fun e => (keyEq key e.1).isSome) = true∧KS ((mk n l B H lk).setH id (.map (mapDel key es)))) KS:=by
 simp only [mapDelD,hu,mk]
 cases H[id]? with
 | none => simp [onMap]
 | some o => cases o <;> simp [onMap]
theorem bget_nil : bget s [] = none:=_root_.id rfl
theorem bget_cons {x : Nat} {r : List (Nat × Nat × List DV)} : bget s ((x,g,cs) :: r) = if x = s then some (g,cs) else bget s r:=_root_.id rfl
theorem bset_nil : bset s g cs [] = [(s,g,cs)]:=_root_.id rfl
theorem bset_cons {x h : Nat} {ds : List DV} {r : List (Nat × Nat × List DV)} : bset s g cs ((x,h,ds) :: r) = if x = s then (s,g,cs) :: r else (x,h,ds) :: bset s g cs r:=_root_.id rfl
theorem bgen_eq {BB : List (Nat × Nat × List DV)} : bgen s BB = match bget s BB with | some (g,_) => g + 1 | none => 0:=_root_.id rfl
theorem putAt_eq {ds : List DV} : putAt cs off ds = cs.take off ++ ds ++ cs.drop (off + ds.length):=_root_.id rfl
end
end Go.Ab

/- A part of the proof; no condition of its own. -/
import Derived.Conc.CompanyDraw
import Derived.Laws.AppendOwn
import Derived.Below
import Derived.Laws.StructEq
import Derived.Laws.Slices
import Derived.Laws.Entries
import Derived.Laws.BytesArg
import Derived.Laws.Tables
import Derived.Laws.CopyRow
import Derived.Great.BuildSlice
import Derived.Laws.MakeOwn
set_option linter.unusedSimpArgs false
set_option linter.unusedVariables false
/- AcJ: A judgement for one goroutine's run that bears the draws of others,abstract over the machine it runs in; and weakest preconditions of code over it. -/
namespace Go.Ab
open Go Go.Conc
structure Jd (P : Program) where
 J : Frame→List Frame→World→(Frame→List Frame→World→Prop)→Prop
 Ok : World→Event→Prop
 stop : ∀ {fr cs w K},(∀ d,K fr cs (w.at d))→J fr cs w K
 step : ∀ {fr cs w K},(∀ d,∃ fr' cs' w' es,stepG P true (G fr cs) (w.at d) = .go (G fr' cs') w' es∧(∀ e∈es,Ok w' e)∧J fr' cs' w' K)→J fr cs w K
 rely : ∀ {fr cs w K} (d),J fr cs w K→J fr cs (w.at d) K
variable {P : Program} (I : Jd P)
theorem Jd.silent {fr fr' : Frame} {cs cs' : List Frame} {w : World} {K} (hs : ∀ w,stepG P true (G fr cs) w = .go (G fr' cs') w #[]) (h : I.J fr' cs' w K) : I.J fr cs w K :=
 I.step fun d => ⟨fr',cs',w.at d,#[],hs _,by simp,I.rely d h⟩
def After (K : Frame→List Frame→World→Prop) (b : Frame) (k : List Item) (cs : List Frame) : Exit→Act→World→Prop
 | .normal,a,w => I.J (b.at a k) cs w K
 | .exit id,a,w => ∃ k',exitTo id k = some k'∧I.J (b.at a k') cs w K
 | .ret,a,w => ∀ todo,I.J { b.at a todo with mode:=.returning } cs w K
 | _,_,_ => False
theorem After.push {K} {b : Frame} {x : Item} {k : List Item} {cs : List Frame} {e : Exit} {a : Act} {w : World} (hx : x.plain = true) (he : e ≠ .normal)
  (h : After I K b k cs e a w) : After I K b (x :: k) cs e a w:=by
 cases e with
 | normal => exact absurd rfl he
 | exit id => obtain ⟨k',hk,hg⟩:=h; exact ⟨k',by cases x <;> simp_all [exitTo,Item.plain],hg⟩
 | ret => exact h
 | goto l => exact h
 | panic ch => exact h
 | outgrown => exact h
def wpJ (fn : FuncId) (c : Code) (Q : Exit→Act→World→Prop) (a : Act) (w : World) : Prop :=
 ∀ (b : Frame) (k : List Item) (cs : List Frame) (K : Frame→List Frame→World→Prop),b.fn = fn→b.kind ≠ .early →
  (∀ e a' w',Q e a' w'→After I K b k cs e a' w')→I.J (b.at a (.code c :: k)) cs w K
def opsJ (fn : FuncId) (ops : Array Oper) (todo : List Nat) (Q : Act→World→Prop) (a : Act) (w : World) : Prop :=
 ∀ (b : Frame) (k : List Item) (cs : List Frame) (K : Frame→List Frame→World→Prop),b.fn = fn→b.kind ≠ .early →
  (∀ a' w',Q a' w'→I.J (b.at a' k) cs w' K)→I.J (b.at a (.inRegion ops todo :: k)) cs w K
section rules
variable {fn : FuncId} {Q : Exit→Act→World→Prop} {a : Act} {w : World}
theorem wpJ.mono {c : Code} {Q' : Exit→Act→World→Prop} (h : wpJ I fn c Q a w) (hq : ∀ e a w,Q e a w→Q' e a w) : wpJ I fn c Q' a w :=
 fun b k cs K hb hk hc => h b k cs K hb hk fun e a' w' q => hc e a' w' (hq e a' w' q)
theorem wpJ_skip (h : Q .normal a w) : wpJ I fn .skip Q a w:=fun b k cs K _ _ hc => I.silent (fun w => stepG_skip) (hc _ _ _ h)
theorem wpJ_label {l : Nat} (h : Q .normal a w) : wpJ I fn (.label l) Q a w:=fun b k cs K _ _ hc => I.silent (fun w => stepG_label) (hc _ _ _ h)
theorem wpJ_ret (h : Q .ret a w) : wpJ I fn .ret Q a w:=fun b k cs K _ _ hc => I.silent (fun w => stepG_ret') (hc _ _ _ h _)
theorem wpJ_exit {id : Nat} (h : Q (.exit id) a w) : wpJ I fn (.exit id) Q a w:=fun b k cs K _ _ hc => by
 obtain ⟨k',hk',hg⟩:=hc _ _ _ h
 exact I.silent (fun w => stepG_exit hk') hg
theorem wpJ_seq {x y : Code} (h : wpJ I fn x (fun e a' w' => match e with | .normal => wpJ I fn y Q a' w' | e => Q e a' w') a w) : wpJ I fn (.seq x y) Q a w:=by
 intro b k cs K hb hk hc
 refine I.silent (fun w => stepG_seq) ?_
 refine h b (.code y :: k) cs K hb hk fun e a' w' q => ?_
 cases e with
 | normal => exact q b k cs K hb hk hc
 | exit id => exact (hc _ _ _ q).push I rfl (by simp)
 | ret => exact (hc _ _ _ q).push I (x:=.code y) rfl (by simp)
 | goto l => exact hc _ _ _ q
 | panic ch => exact hc _ _ _ q
 | outgrown => exact hc _ _ _ q
theorem wpJ_cond {c : Operand} {x y : Code} {t : Bool} (hc : a.eval c = .bool t) (h : wpJ I fn (if t then x else y) Q a w) : wpJ I fn (.cond c x y) Q a w :=
 fun b k cs K hb hk hq => I.silent (fun w => stepG_cond hc) (h b k cs K hb hk hq)
theorem wpJ_block {id : Nat} {c : Code} (h : wpJ I fn c (fun e a' w' => match e with | .exit i => if i = id then Q .normal a' w' else Q (.exit i) a' w' | e => Q e a' w') a w) : wpJ I fn (.block id c) Q a w:=by
 intro b k cs K hb hk hc
 refine I.silent (fun w => stepG_block) ?_
 refine h b (.inBlock id :: k) cs K hb hk fun e a' w' q => ?_
 cases e with
 | normal => exact I.silent (fun w => stepG_inBlock) (hc _ _ _ q)
 | exit id' =>
  by_cases hid : id' = id
  ·simp only [hid,if_true] at q
   exact ⟨k,by simp [exitTo,hid],hc _ _ _ q⟩
  ·simp only [hid,if_false] at q
   obtain ⟨k',hk',hg⟩:=hc _ _ _ q
   have : (id == id') = false:=by simp; exact fun h => hid h.symm
   exact ⟨k',by simp [exitTo,this,hk'],hg⟩
 | ret => exact fun todo => hc _ _ _ q todo
 | goto l => exact hc _ _ _ q
 | panic ch => exact hc _ _ _ q
 | outgrown => exact hc _ _ _ q
theorem wpJ_region {id : Nat} {ops : Array Oper} (h : opsJ I fn ops (List.range ops.size) (Q .normal) a w) : wpJ I fn (.region id ops false) Q a w :=
 fun b k cs K hb hk hc => I.silent (fun w => stepG_region) (h b k cs K hb hk fun a' w' q => hc _ _ _ q)
theorem wpJ_region_draw {id : Nat} {ops : Array Oper} (h : ∀ t d,opsJ I fn ops (Region.schedule (P.follows .mixedOrders) ops t) (Q .normal) a (w.at d)) : wpJ I fn (.region id ops true) Q a w :=
 fun b k cs K hb hk hc => I.step fun d => ⟨_,_,_,_,stepG_region_draw,by simp,h _ _ b k cs K hb hk fun a' w' q => hc _ _ _ q⟩
section ops
variable {ops : Array Oper} {R : Act→World→Prop}
theorem opsJ_nil (h : R a w) : opsJ I fn ops [] R a w:=fun b k cs K _ _ hc => I.silent (fun w => stepG_region_end) (hc _ _ h)
theorem opsJ.mono {todo : List Nat} {R' : Act→World→Prop} (h : opsJ I fn ops todo R a w) (hq : ∀ a w,R a w→R' a w) : opsJ I fn ops todo R' a w :=
 fun b k cs K hb hk hc => h b k cs K hb hk fun a' w' q => hc a' w' (hq a' w' q)
theorem opsJ.rely {todo : List Nat} (h : opsJ I fn ops todo R a w) (d : Nat) : opsJ I fn ops todo R a (w.at d) :=
 fun b k cs K hb hk hc => I.rely d (h b k cs K hb hk hc)
theorem opsJ_unwanted {i : Nat} {rest : List Nat} {o : Oper} (ho : ops[i]? = some o) (hw : Region.wanted o (yielded ops a.tmps) = false)
  (h : opsJ I fn ops rest R (a.put o.dst undef) w) : opsJ I fn ops (i :: rest) R a w :=
 fun b k cs K hb hk hc => I.silent (fun w => stepG_unwanted ho hw) (h b k cs K hb hk hc)
theorem opsJ_cons {i : Nat} {rest : List Nat} {o : Oper} (ho : ops[i]? = some o) (hw : Region.wanted o (yielded ops a.tmps) = true)
  (h : ∀ d,∃ r w',(execOp a.eval o).run P (w.at d) = .ok r w'∧(∀ e∈listed P fn a o (w.at d),I.Ok w' e) ∧
   match r with
   | .value v => opsJ I fn ops rest R (a.put o.dst v) w'
   | .skip => opsJ I fn ops rest R (a.put o.dst undef) w'
   | _ => False) : opsJ I fn ops (i :: rest) R a w:=by
 intro b k cs K hb hk hc
 refine I.step fun d => ?_
 obtain ⟨r,w',hr,he,hm⟩:=h d
 cases r with
 | value v => exact ⟨_,_,_,_,stepG_value ho hw hk hr,hb ▸ he,hm b k cs K hb hk hc⟩
 | skip => exact ⟨_,_,_,_,stepG_none ho hw hk hr,hb ▸ he,hm b k cs K hb hk hc⟩
 | _ => exact hm.elim
end ops
end rules
def callJ (f : FuncId) (args : Array Value) (w : World) (Post : Value→World→Prop) : Prop :=
 ∀ (c : Frame) (cs : List Frame) (K : Frame→List Frame→World→Prop),(∀ v w',Post v w'→I.J (c.finish v) cs w' K)→I.J (Frame.enter P f args .normal) (c :: cs) w K
theorem callJ.mono {f : FuncId} {args : Array Value} {w : World} {Post Post' : Value→World→Prop} (h : callJ I f args w Post) (hp : ∀ v w,Post v w→Post' v w) : callJ I f args w Post' :=
 fun c cs K hk => h c cs K fun v w' q => hk v w' (hp v w' q)
def bodyPostJ (P : Program) (fn : Func) (Post : Value→World→Prop) : Exit→Act→World→Prop
 | .normal,a,w | .ret,a,w => a.defers = []∧∃ v,ResultsC P fn a.tmps v∧Post v w
 | _,_,_ => False
theorem callJ_of_wpJ {f : FuncId} {fn : Func} {c : Code} {args : Array Value} {w : World} {Post : Value→World→Prop} (hf : P.funcs[f]? = some fn) (hb : fn.body = some c)
  (h : wpJ I f c (bodyPostJ P fn Post) { tmps:=args ++ Array.replicate (fn.ntmps - args.size) undef,defers:=[] } w) : callJ I f args w Post:=by
 intro fr cs K hK
 rw [enter_at args hf hb]
 have hleave : ∀ (a' : Act) (w' : World) (todo : List Item),(a'.defers = []∧∃ v,ResultsC P fn a'.tmps v∧Post v w') →
   I.J { (base f).at a' todo with mode:=.returning } (fr :: cs) w' K:=by
  rintro a' w' todo ⟨hd,v,hr,hp⟩
  exact I.silent (fun w => stepG_leave (b:=base f) rfl hd hf (hr w).1 (hr w).2) (hK v w' hp)
 refine h (base f) [] (fr :: cs) K rfl (by simp [base]) fun e a' w' q => ?_
 cases e with
 | normal => exact I.silent (fun w => stepG_end) (hleave a' w' [] q)
 | ret => exact fun todo => hleave a' w' todo q
 | exit id => exact q.elim
 | goto l => exact q.elim
 | panic ch => exact q.elim
 | outgrown => exact q.elim
theorem opsJ_enter {fn : FuncId} {a : Act} {w : World} {ops : Array Oper} {R : Act→World→Prop} {i : Nat} {rest : List Nat} {o : Oper} {f : FuncId} {args : Array Value} {Post : Value→World→Prop}
  (ho : ops[i]? = some o) (hw : Region.wanted o (yielded ops a.tmps) = true)
  (hr : ∀ w,(execOp a.eval o).run P w = .ok (.enter f args) w∧listed P fn a o w = #[])
  (hcall : callJ I f args w Post) (hnext : ∀ v w',Post v w'→opsJ I fn ops rest R (a.put o.dst v) w') : opsJ I fn ops (i :: rest) R a w:=by
 intro b k cs K hb hk hc
 have hfin : ∀ v,(b.at a (.inRegion ops (i :: rest) :: k)).finish v = b.at (a.put o.dst v) (.inRegion ops rest :: k):=fun v => by rw [Frame.finish_at,ho]; rfl
 refine I.silent (fr':=Frame.enter P f args .normal) (cs':=b.at a (.inRegion ops (i :: rest) :: k) :: cs) (fun w => ?_) (hcall _ cs K fun v w' hp => by rw [hfin]; exact hnext v w' hp b k cs K hb hk hc)
 have hk' : (b.kind == CallKind.early) = false:=by simpa using hk
 have he : listed P b.fn a o w = #[]:=by rw [hb]; exact (hr w).2
 rw [stepG_oper ho hw]
 simp only [listed] at he
 simp [stepG.apply,(hr w).1,G,Frame.at,hk',GStep.after]
 simpa using he
/-! ### the lone machine -/
def loneJ (P : Program) : Jd P where
 J fr cs w K:=∀ d,∃ fr' cs' w',Steps P (lone fr cs (w.at d)) (lone fr' cs' w')∧K fr' cs' w'
 Ok _ _:=True
 stop h:=fun d => ⟨_,_,_,.refl _ _,h d⟩
 step h:=fun d => by
  obtain ⟨fr',cs',w',es,hs,_,hJ⟩:=h d
  obtain ⟨fr2,cs2,w2,h2,hK⟩:=hJ w'.drawn
  have e1 : w'.at w'.drawn = w':=rfl
  rw [e1] at h2
  refine ⟨fr2,cs2,w2,.head (step_lone_go ?_) h2,hK⟩
  simp only [G] at hs
  rw [hs]; rfl
 rely d h:=fun d' => h d'
end Go.Ab
/- AcD: The abstract values and states over which functions are verified,and how the machine's memory shows them. -/
namespace Go.Ab
open Go Go.Conc Go.RowKit
inductive DV where
 | undef
 | any
 | bool (b : Bool)
 | int (k : IntKind) (n : Int)
 | str (s : List UInt8)
 | nilp
 | ptr (id off : Nat)
 | lptr (s g off : Nat)
 | vptr (cs : List DV)
 | sl (own : Bool) (sz : Nat) (xs : List DV)
 | lsl (s g sz off len : Nat)
 | hsl (id sz off len cap : Nat)
 | nilmap
 | map (id : Nat)
 | agg (cs : List DV)
 | tup (vs : List DV)
 | fn (f : Nat) (caps : List DV)
 deriving Inhabited
def DV.cells : DV→List DV
 | .agg cs => cs
 | d => [d]
def DV.scalar : DV→Bool
 | .agg _ | .tup _ | .undef | .lptr .. | .lsl .. => false
 | _ => true
def DV.ro1 : DV→DV
 | .sl _ sz xs => .sl false sz xs
 | d => d
def DV.ro : DV→DV
 | .sl _ sz xs => .sl false sz xs
 | .agg cs => .agg (cs.map DV.ro1)
 | d => d
inductive Owner where
 | slot (d s i j : Nat)
 | box (d s j : Nat)
 | hp (id j : Nat)
 | ret (d i j : Nat)
 | nob
 deriving DecidableEq
inductive Role where
 | no
 | imm
 | arr (o : Owner) (wm : Nat)
 | obj (id : Nat)
 | box (d s : Nat)
 deriving DecidableEq
structure Gh where
 role : Nat→Role
 bl : Nat→Option Nat
 lb : Nat→Nat→Nat→Option Nat
def Gh.setRole (G : Gh) (b : Nat) (r : Role) : Gh:={ G with role:=fun x => if x = b then r else G.role x }
def Gh.setBl (G : Gh) (id b : Nat) : Gh:={ G with bl:=fun x => if x = id then some b else G.bl x }
def Gh.setLb (G : Gh) (d s g b : Nat) : Gh:={ G with lb:=fun x y z => if x = d∧y = s∧z = g then some b else G.lb x y z }
def Gh.cutLb (G : Gh) (d : Nat) : Gh:={ G with lb:=fun x y z => if x = d then none else G.lb x y z }
@[simp] theorem Gh.setRole_same (G : Gh) (b : Nat) (r : Role) : (G.setRole b r).role b = r:=by simp [Gh.setRole]
theorem Gh.setRole_ne (G : Gh) {b x : Nat} (r : Role) (h : x ≠ b) : (G.setRole b r).role x = G.role x:=by simp [Gh.setRole,h]
@[simp] theorem Gh.setRole_bl (G : Gh) (b : Nat) (r : Role) : (G.setRole b r).bl = G.bl:=rfl
@[simp] theorem Gh.setRole_lb (G : Gh) (b : Nat) (r : Role) : (G.setRole b r).lb = G.lb:=rfl
@[simp] theorem Gh.setBl_role (G : Gh) (i b : Nat) : (G.setBl i b).role = G.role:=rfl
@[simp] theorem Gh.setBl_lb (G : Gh) (i b : Nat) : (G.setBl i b).lb = G.lb:=rfl
@[simp] theorem Gh.setLb_role (G : Gh) (d s g b : Nat) : (G.setLb d s g b).role = G.role:=rfl
@[simp] theorem Gh.setLb_bl (G : Gh) (d s g b : Nat) : (G.setLb d s g b).bl = G.bl:=rfl
@[simp] theorem Gh.cutLb_role (G : Gh) (d : Nat) : (G.cutLb d).role = G.role:=rfl
@[simp] theorem Gh.cutLb_bl (G : Gh) (d : Nat) : (G.cutLb d).bl = G.bl:=rfl
def Role.still (r : Role) (o : Nat) : Prop:=r = .imm∨∃ ow wm,r = .arr ow wm∧o < wm
def immCell (G : Gh) (w : World) (b o : Nat) (v : Value) : Prop:=(G.role b).still o∧w.cell? ⟨b,o,none⟩ = some v
inductive VP (G : Gh) (w : World) : DV→Value→Prop
 | undef (v) : VP G w .undef v
 | any (c : Option Nat) : VP G w .any (.chan c)
 | bool (b) : VP G w (.bool b) (.bool b)
 | int (k n) : VP G w (.int k n) (.int k n)
 | str (s : List UInt8) : VP G w (.str s) (.string ⟨s.toArray⟩)
 | nilp : VP G w .nilp (.pointer none)
 | ptr {id off b} : G.bl id = some b→VP G w (.ptr id off) (.pointer (some ⟨b,off,none⟩))
 | vptr {cs : List DV} {b off : Nat} (f : Nat→Value) : (∀ (j : Nat) (c : DV),cs[j]? = some c→immCell G w b (off + j) (f j))→(∀ (j : Nat) (c : DV),cs[j]? = some c→VP G w c (f j))→VP G w (.vptr cs) (.pointer (some ⟨b,off,none⟩))
 | sl0 {own sz} : VP G w (.sl own sz []) (.slice none 0 0)
 | sl {own : Bool} {sz : Nat} {xs : List DV} {b off len cap : Nat} (f : Nat→Nat→Value) : len = xs.length→len≤cap→cap≤maxLen→(∀ (i : Nat) (x : DV),xs[i]? = some x→x.cells.length = sz∧x.cells.all DV.scalar = true) →
   (∀ (i j : Nat) (x c : DV),xs[i]? = some x→x.cells[j]? = some c→immCell G w b (off + i * sz + j) (f i j))→(∀ (i j : Nat) (x c : DV),xs[i]? = some x→x.cells[j]? = some c→VP G w c (f i j)) →
   VP G w (.sl own sz xs) (.slice (some ⟨b,off,none⟩) len cap)
 | hsl {id sz off off' len b cap : Nat} : G.bl id = some b→len≤cap→(cap = 0∨off' = off)→VP G w (.hsl id sz off len cap) (.slice (some ⟨b,off',none⟩) len cap)
 | hsl0 {id sz off : Nat} : VP G w (.hsl id sz off 0 0) (.slice none 0 0)
 | nilmap : VP G w .nilmap (.map none)
 | map {id b} : G.bl id = some b→VP G w (.map id) (.map (some b))
 | agg {cs : List DV} {vs : Array Value} : cs.length = vs.size→(∀ (j : Nat) (c : DV) (v : Value),cs[j]? = some c→vs[j]? = some v→VP G w c v)→VP G w (.agg cs) (.agg vs)
 | fn {f : Nat} {caps : List DV} {vs : Array Value} : caps.length = vs.size→(∀ (j : Nat) (c : DV) (v : Value),caps[j]? = some c→vs[j]? = some v→VP G w c v)→VP G w (.fn f caps) (.func (.func f) #[] vs)
structure Keep (G : Gh) (w : World) (G' : Gh) (w' : World) : Prop where
 imm : ∀ b o v,immCell G w b o v→immCell G' w' b o v
 bl : ∀ id b,G.bl id = some b→G'.bl id = some b
theorem Keep.refl (G : Gh) (w : World) : Keep G w G w:=⟨fun _ _ _ h => h,fun _ _ h => h⟩
theorem Keep.trans {G : Gh} {w : World} {G' : Gh} {w' : World} {G'' : Gh} {w'' : World} (h : Keep G w G' w') (k : Keep G' w' G'' w'') : Keep G w G'' w'':=⟨fun b o v x => k.imm b o v (h.imm b o v x),fun i b x => k.bl i b (h.bl i b x)⟩
theorem VP.keep {G : Gh} {w : World} {G' : Gh} {w' : World} (hk : Keep G w G' w') {d : DV} {v : Value} (h : VP G w d v) : VP G' w' d v:=by
 induction h with
 | undef v => exact .undef v
 | any c => exact .any c
 | bool b => exact .bool b
 | int k n => exact .int k n
 | str s => exact .str s
 | nilp => exact .nilp
 | ptr h => exact .ptr (hk.bl _ _ h)
 | vptr f h1 _ ih => exact .vptr f (fun j c hc => hk.imm _ _ _ (h1 j c hc)) ih
 | sl0 => exact .sl0
 | sl f h1 h2 h3 h4 h5 _ ih => exact .sl f h1 h2 h3 h4 (fun i j x c a b => hk.imm _ _ _ (h5 i j x c a b)) ih
 | hsl h h2 h3 => exact .hsl (hk.bl _ _ h) h2 h3
 | hsl0 => exact .hsl0
 | nilmap => exact .nilmap
 | map h => exact .map (hk.bl _ _ h)
 | agg h _ ih => exact .agg h ih
 | fn h _ ih => exact .fn h ih
theorem VP.oneCell {G : Gh} {w : World} {d : DV} {v : Value} (h : VP G w d v) (hs : d.scalar = true) : v.oneCell' = true:=by
 cases h <;> first | rfl | (simp [DV.scalar] at hs)
theorem VP.ro1 {G : Gh} {w : World} {d : DV} {v : Value} (h : VP G w d v) : VP G w d.ro1 v:=by
 cases h with
 | sl0 => exact .sl0
 | sl f h1 h2 h3 h4 h5 h6 => exact .sl f h1 h2 h3 h4 h5 h6
 | _ => constructor <;> assumption
theorem VP.ro {G : Gh} {w : World} {d : DV} {v : Value} (h : VP G w d v) : VP G w d.ro v:=by
 cases h with
 | sl0 => exact .sl0
 | sl f h1 h2 h3 h4 h5 h6 => exact .sl f h1 h2 h3 h4 h5 h6
 | agg h1 h2 =>
  refine .agg (by simpa using h1) fun j c v hc hv => ?_
  rw [List.getElem?_map] at hc
  obtain ⟨c0,hc0,rfl⟩:=Option.map_eq_some_iff.1 hc
  exact (h2 j c0 v hc0 hv).ro1
 | _ => constructor <;> assumption
def OwnV (G : Gh) (w : World) (o : Owner) (sz : Nat) (v : Value) : Prop :=
 v = .slice none 0 0∨∃ b len cap cur e,v = .slice (some ⟨b,0,none⟩) len cap∧G.role b = .arr o (len * sz)∧w.heap[b]? = some (.cells cur e (0,0))∧cur.size = cap * sz∧len≤cap
def Owns (G : Gh) (w : World) (o : Owner) (c : DV) (v : Value) : Prop:=∀ sz xs,c = .sl true sz xs→OwnV G w o sz v
def CellsRel (G : Gh) (w : World) (mk : Nat→Owner) (cs : List DV) (vs : Array Value) : Prop :=
 cs.length = vs.size∧∀ (j : Nat) (c : DV) (v : Value),cs[j]? = some c→vs[j]? = some v→VP G w c v∧Owns G w (mk j) c v
inductive HObj where
 | cells (cs : List DV)
 | map (es : List (DV × DV))
inductive Pos where
 | slot (s i : Nat)
 | box (s g off : Nat)
 | hp (id off : Nat)
 deriving DecidableEq
def bget (s : Nat) : List (Nat × Nat × List DV)→Option (Nat × List DV)
 | [] => none
 | (x,g,cs) :: r => if x = s then some (g,cs) else bget s r
def bset (s g : Nat) (cs : List DV) : List (Nat × Nat × List DV)→List (Nat × Nat × List DV)
 | [] => [(s,g,cs)]
 | (x,h,ds) :: r => if x = s then (s,g,cs) :: r else (x,h,ds) :: bset s g cs r
def bgen (s : Nat) (B : List (Nat × Nat × List DV)) : Nat:=match bget s B with | some (g,_) => g + 1 | none => 0
structure St where
 t : List DV
 B : List (Nat × Nat × List DV)
 H : List HObj
 lk : List (Nat × Pos)
def MapRel (G : Gh) (w : World) (es : List (DV × DV)) (ms : Array MapEntry) (ck : Nat) : Prop :=
 es.length = ms.size∧(∀ (i : Nat) (e : DV × DV) (m : MapEntry),es[i]? = some e→ms[i]? = some m→VP G w e.1 m.key∧VP G w e.2 m.val∧m.born < ck) ∧
 (∀ (i j : Nat) (m n : MapEntry),ms[i]? = some m→ms[j]? = some n→m.born = n.born→i = j)
def HRel (G : Gh) (w : World) (id : Nat) : HObj→Prop
 | .cells cs => ∃ b vs e,G.bl id = some b∧G.role b = .obj id∧w.heap[b]? = some (.cells vs e (0,0))∧CellsRel G w (.hp id) cs vs
 | .map es => ∃ b ms ck,G.bl id = some b∧G.role b = .obj id∧w.heap[b]? = some (.map ms ck)∧MapRel G w es ms ck
structure WRel (N0 : Nat) (w0 : World) (G : Gh) (w : World) (H : List HObj) : Prop where
 below : Below N0 w0 w
 le : N0≤w.heap.size
 low : ∀ b,b < N0→G.role b = .imm∨G.role b = .no
 fresh : ∀ b,w.heap.size≤b→G.role b = .no
 objs : ∀ id ob,H[id]? = some ob→HRel G w id ob
 none : ∀ id,H.length≤id→G.bl id = none
def SV (G : Gh) (w : World) (d : Nat) : DV→Value→Prop
 | .lptr s g off,v => ∃ b,G.lb d s g = some b∧v = .pointer (some ⟨b,off,none⟩)
 | .lsl s g sz off len,v => ∃ b cap,G.lb d s g = some b∧v = .slice (some ⟨b,off * sz,none⟩) len cap∧len≤cap
 | .tup ds,v => ∃ vs,v = .tuple vs∧ds.length = vs.size∧∀ (j : Nat) (c : DV) (x : Value),ds[j]? = some c→vs[j]? = some x→VP G w c x
 | dv,v => VP G w dv v
def DV.part (i j : Nat) : DV→Option DV
 | .tup ds => if i = 0 then Option.none else (ds[i - 1]?).bind fun c => c.cells[j]?
 | d => if i = 0 then d.cells[j]? else Option.none
def vpart (i j : Nat) : Value→Option Value
 | .tuple vs => if i = 0 then Option.none else (vs[i - 1]?).bind fun c => c.cells[j]?
 | v => if i = 0 then v.cells[j]? else Option.none
def SOwn (G : Gh) (w : World) (mk : Nat→Nat→Owner) (dv : DV) (v : Value) : Prop :=
 ∀ i j c x,dv.part i j = some c→vpart i j v = some x→Owns G w (mk i j) c x
def posVal (G : Gh) (w : World) (d : Nat) (tmps : Array Value) : Pos→Option Value
 | .slot s i => (tmps[s]?).bind (vpart i 0)
 | .box s g off => (G.lb d s g).bind fun b => if G.role b = .box d s then w.cell? ⟨b,off,none⟩ else none
 | .hp id off => (G.bl id).bind fun b => if G.role b = .obj id then w.cell? ⟨b,off,none⟩ else none
structure Rel (N0 : Nat) (w0 : World) (d : Nat) (G : Gh) (w : World) (st : St) (tmps : Array Value) : Prop where
 len : st.t.length = tmps.size
 slots : ∀ (s : Nat) (dv : DV) (v : Value),st.t[s]? = some dv→tmps[s]? = some v→SV G w d dv v∧SOwn G w (.slot d s) dv v
 boxes : ∀ s g cs,bget s st.B = some (g,cs)→∃ b vs e,G.lb d s g = some b∧G.role b = .box d s∧w.heap[b]? = some (.cells vs e (0,0))∧CellsRel G w (.box d s) cs vs
 nobox : ∀ s g,bgen s st.B≤g→G.lb d s g = none
 links : ∀ t p v,(t,p)∈st.lk→tmps[t]? = some v→posVal G w d tmps p = some v
 heap : WRel N0 w0 G w st.H
def Owner.outer (d : Nat) : Owner→Prop
 | .slot e .. | .box e .. | .ret e .. => e < d
 | .hp .. | .nob => False
structure Ext (d : Nat) (G : Gh) (w : World) (G' : Gh) (w' : World) : Prop where
 keep : Keep G w G' w'
 box : ∀ b e s,e < d→G.role b = .box e s→G'.role b = .box e s∧w'.heap[b]? = w.heap[b]?
 arr : ∀ b o wm,o.outer d→G.role b = .arr o wm→G'.role b = .arr o wm∧w'.heap[b]? = w.heap[b]?
 lb : ∀ e s g,e < d→G'.lb e s g = G.lb e s g
 size : w.heap.size≤w'.heap.size
theorem Ext.refl (d : Nat) (G : Gh) (w : World) : Ext d G w G w:=⟨.refl _ _,fun _ _ _ _ h => ⟨h,rfl⟩,fun _ _ _ _ h => ⟨h,rfl⟩,fun _ _ _ _ => rfl,Nat.le_refl _⟩
theorem Ext.trans {d : Nat} {G : Gh} {w : World} {G' : Gh} {w' : World} {G'' : Gh} {w'' : World} (h : Ext d G w G' w') (k : Ext d G' w' G'' w'') : Ext d G w G'' w'' :=
 ⟨h.keep.trans k.keep,fun b e s he x => ⟨(k.box b e s he (h.box b e s he x).1).1,(k.box b e s he (h.box b e s he x).1).2.trans (h.box b e s he x).2⟩,
  fun b o wm he x => ⟨(k.arr b o wm he (h.arr b o wm he x).1).1,(k.arr b o wm he (h.arr b o wm he x).1).2.trans (h.arr b o wm he x).2⟩,
  fun e s g he => (k.lb e s g he).trans (h.lb e s g he),Nat.le_trans h.size k.size⟩
end Go.Ab
/- AcQ: What the operations that turn no abstract state yield. -/
namespace Go.Ab
open Go Go.Conc Go.RowKit
variable (P : Program)
def isAggT (t : TypeId) : Bool:=match P.underlying t with | some (.struct _) => true | some (.array ..) => true | _ => false
def constDV (t : TypeId) : Value→DV
 | .bool b => .bool b
 | .int k n => .int k n
 | .string s => .str s.data.toList
 | .pointer none => .nilp
 | .map none => .nilmap
 | .slice none 0 0 => match P.underlying t with | some (.slice e) => .sl true (P.cellsOf e) [] | _ => .undef
 | _ => .undef
def rho (st : St) (t : TypeId) : Operand→DV
 | .tmp s => st.t.getD s .undef
 | .const v => constDV P t v
 | .func f => .fn f []
 | .global _ => .undef
def bitsOp (op : BinOp) (k : IntKind) (x y : Int) : Int :=
 let a:=BitVec.ofInt k.bits x
 let b:=BitVec.ofInt k.bits y
 match op with
 | .and => k.wrap (a &&& b).toNat
 | .or => k.wrap (a ||| b).toNat
 | .xor => k.wrap (a ^^^ b).toNat
 | _ => k.wrap (a &&& ~~~b).toNat
def eqAgg : List Field→List DV→List DV→Option Bool
 | [],_,_ => some true
 | f :: fs,xs,ys => match decide (f.name ≠ "_"),P.underlying f.type,xs[f.offset]?,ys[f.offset]? with
  | true,some (.int _),some (.int k a),some (.int k' b) => if k = k' then (eqAgg fs xs ys).map (decide (a = b) && ·) else none
  | true,some .bool,some (.bool a),some (.bool b) => (eqAgg fs xs ys).map ((a == b) && ·)
  | true,some .string,some (.str a),some (.str b) => (eqAgg fs xs ys).map (decide (a = b) && ·)
  | _,_,_,_ => none
def dbinAgg (op : BinOp) (xt : TypeId) (xs ys : List DV) (K : DV→Prop) : Prop :=
 P.underlying xt = some (.struct (P.fieldsOf xt))∧P.stoodInHeld xt = false∧P.eqGuardType P.depth xt = false ∧
 match op,eqAgg P (P.fieldsOf xt).toList xs ys with
 | .eql,some b => K (.bool b)
 | .neq,some b => K (.bool !b)
 | _,_ => False
def dbin (op : BinOp) (xt : TypeId) (x y : DV) (K : DV→Prop) : Prop :=
 match x,y with
 | .int k a,.int k' b =>
  match op with
  | .shl => 0≤b∧K (.int k (k.wrap (a * 2 ^ (min b.toNat k.bits))))
  | .shr => 0≤b∧K (.int k (a.fdiv (2 ^ (min b.toNat k.bits))))
  | .add => k = k'∧K (.int k (k.wrap (a + b)))
  | .sub => k = k'∧K (.int k (k.wrap (a - b)))
  | .mul => k = k'∧K (.int k (k.wrap (a * b)))
  | .quo => k = k'∧b ≠ 0∧K (.int k (k.wrap (a.tdiv b)))
  | .rem => k = k'∧b ≠ 0∧K (.int k (a.tmod b))
  | .and => k = k'∧K (.int k (bitsOp .and k a b))
  | .or => k = k'∧K (.int k (bitsOp .or k a b))
  | .xor => k = k'∧K (.int k (bitsOp .xor k a b))
  | .andNot => k = k'∧K (.int k (bitsOp .andNot k a b))
  | .eql => k = k'∧K (.bool (decide (a = b)))
  | .neq => k = k'∧K (.bool (decide (a ≠ b)))
  | .lss => k = k'∧K (.bool (decide (a < b)))
  | .leq => k = k'∧K (.bool (decide (a≤b)))
  | .gtr => k = k'∧K (.bool (decide (b < a)))
  | .geq => k = k'∧K (.bool (decide (b≤a)))
 | .str a,.str b =>
  match op with
  | .add => a.length + b.length≤9223372036854775807∧K (.str (a ++ b))
  | .eql => K (.bool (decide (a = b)))
  | .neq => K (.bool (decide (a ≠ b)))
  | .lss => K (.bool (Op.bytesLess a b))
  | .leq => K (.bool (Op.bytesLess a b || decide (a = b)))
  | .gtr => K (.bool !(Op.bytesLess a b || decide (a = b)))
  | .geq => K (.bool !(Op.bytesLess a b))
  | _ => False
 | .bool a,.bool b =>
  P.underlying xt = some .bool ∧
  match op with
  | .eql => K (.bool (a == b))
  | .neq => K (.bool (a != b))
  | _ => False
 | .nilp,.nilp => (∃ e,P.underlying xt = some (.pointer e))∧match op with | .eql => K (.bool true) | .neq => K (.bool false) | _ => False
 | .ptr _ _,.nilp => (∃ e,P.underlying xt = some (.pointer e))∧match op with | .eql => K (.bool false) | .neq => K (.bool true) | _ => False
 | .nilmap,.nilmap => (∃ e f,P.underlying xt = some (.map e f))∧match op with | .eql => K (.bool true) | .neq => K (.bool false) | _ => False
 | .map _,.nilmap => (∃ e f,P.underlying xt = some (.map e f))∧match op with | .eql => K (.bool false) | .neq => K (.bool true) | _ => False
 | .agg xs,.agg ys => dbinAgg P op xt xs ys K
 | _,_ => False
def isNilSl : Operand→Bool
 | .const (.slice none 0 0) => true
 | _ => false
def dnilSl (op : BinOp) (xt : TypeId) (x : DV) (K : DV→Prop) : Prop :=
 match P.underlying xt,x with
 | some (.slice _),.sl _ _ xs => match op with
  | .eql => K (.bool false)∧(xs = []→K (.bool true))
  | .neq => K (.bool true)∧(xs = []→K (.bool false))
  | _ => False
 | some (.slice _),.hsl _ _ _ _ cap => match op with
  | .eql => K (.bool false)∧(cap = 0→K (.bool true))
  | .neq => K (.bool true)∧(cap = 0→K (.bool false))
  | _ => False
 | _,_ => False
def dun (op : UnOp) (x : DV) (K : DV→Prop) : Prop :=
 match op,x with
 | .not,.bool b => K (.bool !b)
 | .neg,.int k n => K (.int k (k.wrap (0 - n)))
 | _,_ => False
def bytesOf : List DV→Option (List UInt8)
 | [] => some []
 | .int .u8 n :: r => (bytesOf r).map (UInt8.ofNat n.toNat :: ·)
 | _ => none
def dconv (st : St) (s d : TypeId) (x : DV) (K : DV→Prop) : Prop :=
 match x with
 | .int _ n => match P.underlying s,P.underlying d with | some _,some (.int k) => K (.int k (k.wrap n)) | _,_ => False
 | .str a => match P.underlying s,P.underlying d with | some _,some .string => K (.str a) | _,_ => False
 | .sl _ sz xs => match P.underlying s,P.underlying d with
  | some (.slice e),some .string => P.underlying e = some (.int .u8)∧sz = 1∧∃ l,bytesOf xs = some l∧K (.str l)
  | _,_ => False
 | .lsl v g sz off len => match P.underlying s,P.underlying d,bget v st.B with
  | some (.slice e),some .string,some (g',cs) => P.underlying e = some (.int .u8)∧sz = 1∧g' = g∧off + len≤cs.length∧∃ l,bytesOf ((cs.drop off).take len) = some l∧K (.str l)
  | _,_,_ => False
 | .hsl id sz off len _ => match P.underlying s,P.underlying d,st.H[id]? with
  | some (.slice e),some .string,some (.cells cs) => P.underlying e = some (.int .u8)∧sz = 1∧off + len≤cs.length∧∃ l,bytesOf ((cs.drop off).take len) = some l∧K (.str l)
  | _,_,_ => False
 | _ => False
def loadAs (t : TypeId) (cs : List DV) (K : DV→Prop) : Prop :=
 if isAggT P t then P.cellsOf t≤cs.length∧K (.agg ((cs.take (P.cellsOf t)).map DV.ro1))
 else (P.underlying t).isSome = true∧match cs with | c :: _ => K c.ro | [] => False
def dfield (xt : TypeId) (x : DV) (f : Nat) (K : DV→Prop) : Prop :=
 match P.underlying xt,x with
 | some (.struct fs),.agg cs => match fs[f]? with | some fd => loadAs P fd.type (cs.drop fd.offset) K | none => False
 | _,_ => False
def dfieldAddr (s : TypeId) (x : DV) (f : Nat) (K : DV→Prop) : Prop :=
 match P.underlying s with
 | some (.struct fs) => match fs[f]? with
  | some fd => P.cellsOf fd.type ≠ 0∧match x with
   | .ptr i o => K (.ptr i (o + fd.offset))
   | .lptr s g o => K (.lptr s g (o + fd.offset))
   | .vptr cs => K (.vptr (cs.drop fd.offset))
   | _ => False
  | none => False
 | _ => False
def dindexAddr (t : TypeId) (x ix : DV) (K : DV→Prop) : Prop :=
 match ix with
 | .int _ i => match P.underlying t with
  | some (.slice e) => match x with
   | .sl _ sz xs => 0≤i∧i < xs.length∧P.cellsOf e = sz∧(P.underlying e).isSome = true∧K (.vptr (xs.getD i.toNat .undef).cells)
   | .hsl id sz off len _ => 0≤i∧i < len∧P.cellsOf e = sz∧(P.underlying e).isSome = true∧K (.ptr id (off + i.toNat * sz))
   | .lsl s g sz off len => 0≤i∧i < len∧P.cellsOf e = sz∧(P.underlying e).isSome = true∧K (.lptr s g (off * sz + i.toNat * sz))
   | _ => False
  | some (.array n e) => 0≤i∧i < n∧(P.underlying e).isSome = true∧match x with
   | .ptr id o => K (.ptr id (o + i.toNat * P.cellsOf e))
   | .lptr s g o => K (.lptr s g (o + i.toNat * P.cellsOf e))
   | .vptr cs => K (.vptr (cs.drop (i.toNat * P.cellsOf e)))
   | _ => False
  | _ => False
 | _ => False
def dindex (xt : TypeId) (x ix : DV) (K : DV→Prop) : Prop :=
 match ix with
 | .int _ i => match P.underlying xt,x with
  | some .string,.str s => 0≤i∧i < s.length∧K (.int .u8 (s.getD i.toNat 0).toNat)
  | some (.array n e),.agg cs => 0≤i∧i < n∧(P.underlying e).isSome = true∧loadAs P e (cs.drop (i.toNat * P.cellsOf e)) K
  | _,_ => False
 | _ => False
def dload (st : St) (t : TypeId) (a : DV) (K : DV→Prop) : Prop :=
 match a with
 | .ptr id off => match st.H[id]? with | some (.cells cs) => loadAs P t (cs.drop off) K | _ => False
 | .lptr s g off => match bget s st.B with | some (g',cs) => g' = g∧loadAs P t (cs.drop off) K | none => False
 | .vptr cs => loadAs P t cs K
 | _ => False
def dbound (n : Nat) : Option DV→Nat→(Nat→Prop)→Prop
 | none,d,K => K d
 | some (.int _ i),_,K => 0≤i∧i≤n∧K i.toNat
 | _,_,_ => False
def dslice (t : TypeId) (x : DV) (lo hi : Option DV) (K : DV→Prop) : Prop :=
 match P.underlying t,x with
 | some .string,.str s => dbound s.length hi s.length fun h => dbound h lo 0 fun l => K (.str ((s.take h).drop l))
 | some (.slice e),.sl _ sz xs => P.cellsOf e = sz∧(P.underlying e).isSome = true∧dbound xs.length hi xs.length fun h => dbound h lo 0 fun l => K (.sl false sz ((xs.take h).drop l))
 | some (.slice e),.hsl id sz off len cap => P.cellsOf e = sz∧(P.underlying e).isSome = true∧dbound cap hi len fun h => dbound h lo 0 fun l => K (.hsl id sz (off + l * sz) (h - l) (cap - l))
 | _,_ => False
def dextract (x : DV) (i : Nat) (K : DV→Prop) : Prop :=
 match x with
 | .tup ds => match ds[i]? with | some c => K c.ro | none => False
 | _ => False
def dlen (st : St) (t : TypeId) (x : DV) (K : DV→Prop) : Prop :=
 match P.underlying t,x with
 | some .string,.str s => K (.int .i64 s.length)
 | some (.slice _),.sl _ _ xs => K (.int .i64 xs.length)
 | some (.slice _),.lsl _ _ _ _ len => K (.int .i64 len)
 | some (.slice _),.hsl _ _ _ len _ => K (.int .i64 len)
 | some (.array n _),_ => K (.int .i64 n)
 | some (.map _ _),.map id => match st.H[id]? with | some (.map es) => K (.int .i64 es.length) | _ => False
 | some (.map _ _),.nilmap => K (.int .i64 0)
 | _,_ => False
def dcap (t : TypeId) (x : DV) (K : DV→Prop) : Prop :=
 match P.underlying t,x with
 | some (.slice _),.sl _ _ xs => ∀ c : Nat,xs.length≤c→c≤9223372036854775807→K (.int .i64 c)
 | some (.slice _),.hsl _ _ _ _ cap => K (.int .i64 cap)
 | _,_ => False
def dminmax (mx : Bool) : List DV→(DV→Prop)→Prop
 | [.int k a,.int _ b],K => K (.int k (if mx then (if a < b then b else a) else (if b < a then b else a)))
 | _,_ => False
def keyEq : DV→DV→Option Bool
 | .int k a,.int k' b => if k = k' then some (decide (a = b)) else none
 | .str a,.str b => some (decide (a = b))
 | _,_ => none
def findKeyD (k : DV) : List (DV × DV)→Option (Option DV)
 | [] => some none
 | (x,v) :: r => match keyEq k x with | some true => some (some v) | some false => findKeyD k r | none => none
def keyT (t : TypeId) (k : DV) : Prop:=match P.underlying t,k with | some .string,.str _ => True | some (.int j),.int j' _ => j = j' | _,_ => False
def zeroDV : Nat→TypeId→List DV
 | 0,_ => []
 | n + 1,t => match P.underlying t with
  | some .bool => [.bool false]
  | some (.int k) => [.int k 0]
  | some .string => [.str []]
  | some (.pointer _) => [.nilp]
  | some (.slice e) => [.sl true (P.cellsOf e) []]
  | some (.map ..) => [.nilmap]
  | some (.chan ..) => [.any]
  | some (.struct fs) => fs.toList.flatMap fun f => zeroDV n f.type
  | some (.array m e) => (List.replicate m (zeroDV n e)).flatten
  | _ => [.undef]
def nz (b : Bool) (sz : Nat) : DV:=if b = true then .hsl 0 sz 0 0 0 else .sl true sz []
def zeroDVo (isObj : TypeId→Bool) : Nat→TypeId→List DV
 | 0,_ => []
 | n + 1,t => match P.underlying t with
  | some .bool => [.bool false]
  | some (.int k) => [.int k 0]
  | some .string => [.str []]
  | some (.pointer _) => [.nilp]
  | some (.slice e) => [nz (isObj t) (P.cellsOf e)]
  | some (.map ..) => [.nilmap]
  | some (.chan ..) => [.any]
  | some (.struct fs) => fs.toList.flatMap fun f => zeroDVo isObj n f.type
  | some (.array m e) => (List.replicate m (zeroDVo isObj n e)).flatten
  | _ => [.undef]
def vpc : DV→Value→Bool
 | .bool b,.bool c => b == c
 | .int k n,.int j m => k == j && n == m
 | .str s,.string r => s == r.data.toList
 | .nilp,.pointer none => true
 | .sl _ _ [],.slice none 0 0 => true
 | .nilmap,.map none => true
 | .hsl _ _ _ 0 0,.slice none 0 0 => true
 | .any,.chan none => true
 | _,_ => false
def zeroOk (t : TypeId) (zs : List DV) : Bool :=
 match P.info? t with
 | some i => match i.zero with
  | some z => zs.length == z.cells.size && z.cells.size == i.size && (zs.zip z.cells.toList).all (fun x => vpc x.1 x.2) && (isAggT P t == (match z with | .agg _ => true | _ => false))
  | none => false
 | none => false
def ofCells (t : TypeId) (cs : List DV) : DV:=if isAggT P t then .agg cs else cs.getD 0 .undef
def lookFin (et : TypeId) (ok : Bool) (K : DV→Prop) : Option DV→Prop
 | some v => K (if ok then .tup [v.ro,.bool true] else v.ro)
 | none => zeroOk P et (zeroDV P 4 et) = true∧K (if ok then .tup [(ofCells P et (zeroDV P 4 et)).ro,.bool false] else (ofCells P et (zeroDV P 4 et)).ro)
def dlookup (st : St) (mt : TypeId) (m k : DV) (ok : Bool) (K : DV→Prop) : Prop :=
 match P.underlying mt with
 | some (.map kt et) => keyT P kt k ∧
  match m with
  | .nilmap => lookFin P et ok K none
  | .map id => match st.H[id]? with
   | some (.map es) => match findKeyD k es with | some r => lookFin P et ok K r | none => False
   | _ => False
  | _ => False
 | _ => False
def putAt (cs : List DV) (off : Nat) (ds : List DV) : List DV:=cs.take off ++ ds ++ cs.drop (off + ds.length)
end Go.Ab
/- AcS: The quiet operations in the machine: what they yield there stands for what AbQ says. -/
namespace Go.Ab
open Go Go.Conc Go.RowKit
/-! ### values without rights -/
def DV.own1 : DV→Bool
 | .sl true _ _ => true
 | _ => false
def DV.noOwn : DV→Bool
 | .tup ds => ds.all fun c => c.cells.all fun x => !x.own1
 | d => d.cells.all fun x => !x.own1
theorem not_own1 {c : DV} (h : c.own1 = false) : ∀ sz xs,c ≠ .sl true sz xs:=by rintro sz xs rfl; simp [DV.own1] at h
theorem sown_of_noOwn {G : Gh} {w : World} {mk : Nat→Nat→Owner} {dv : DV} {v : Value} (h : dv.noOwn = true) : SOwn G w mk dv v:=by
 intro i j c x hc _ sz xs e
 subst e
 exfalso
 cases dv
 case tup ds =>
  simp only [DV.part] at hc
  split at hc
  ·cases hc
  ·cases hd : ds[i - 1]? with
   | none => simp [hd] at hc
   | some y =>
    simp [hd] at hc
    simp only [DV.noOwn,List.all_eq_true] at h
    have:=h y (List.mem_of_getElem? hd) _ (List.mem_of_getElem? hc)
    simp [DV.own1] at this
 all_goals
  simp only [DV.part] at hc
  split at hc
  ·simp only [DV.noOwn,List.all_eq_true] at h
   have:=h _ (List.mem_of_getElem? hc)
   simp [DV.own1] at this
  ·cases hc
theorem own1_ro1 (c : DV) : c.ro1.own1 = false:=by cases c <;> rfl
theorem noOwn_ro (d : DV) : (match d with | .tup _ => True | d => d.ro.noOwn = true):=by
 cases d
 case agg cs => simp only [DV.ro,DV.noOwn,DV.cells,List.all_map,List.all_eq_true]; intro x _; simp [own1_ro1]
 all_goals simp [DV.ro,DV.noOwn,DV.cells,DV.own1]
theorem lt_of_heap {w : World} {b : Nat} {o : Obj} (h : w.heap[b]? = some o) : b < w.heap.size:=(Array.getElem?_eq_some_iff.1 h).1
/-! ### changes that leave all that there was -/
structure Neu (G : Gh) (w : World) (G' : Gh) (w' : World) : Prop where
 os : w'.os = w.os
 tape : w'.tape = w.tape
 output : w'.output = w.output
 size : w.heap.size≤w'.heap.size
 block : ∀ b,b < w.heap.size→w'.heap[b]? = w.heap[b]?∧G'.role b = G.role b
 bl : G'.bl = G.bl
 lb : G'.lb = G.lb
 fresh : (∀ b,w.heap.size≤b→G.role b = .no)→∀ b,w'.heap.size≤b→G'.role b = .no
theorem Neu.refl (G : Gh) (w : World) : Neu G w G w:=⟨rfl,rfl,rfl,Nat.le_refl _,fun _ _ => ⟨rfl,rfl⟩,rfl,rfl,id⟩
theorem Neu.at (G : Gh) (w : World) (d : Nat) : Neu G w G (w.at d):=⟨rfl,rfl,rfl,Nat.le_refl _,fun _ _ => ⟨rfl,rfl⟩,rfl,rfl,id⟩
theorem Neu.trans {G : Gh} {w : World} {G' : Gh} {w' : World} {G'' : Gh} {w'' : World} (h : Neu G w G' w') (k : Neu G' w' G'' w'') : Neu G w G'' w'' :=
 ⟨k.os.trans h.os,k.tape.trans h.tape,k.output.trans h.output,Nat.le_trans h.size k.size,
  fun b hb => ⟨(k.block b (Nat.lt_of_lt_of_le hb h.size)).1.trans (h.block b hb).1,(k.block b (Nat.lt_of_lt_of_le hb h.size)).2.trans (h.block b hb).2⟩,k.bl.trans h.bl,k.lb.trans h.lb,fun x => k.fresh (h.fresh x)⟩
theorem Neu.drew (G : Gh) (w : World) : Neu G w G w.drew:=⟨rfl,rfl,rfl,Nat.le_refl _,fun _ _ => ⟨rfl,rfl⟩,rfl,rfl,id⟩
theorem Neu.alloc (G : Gh) (w : World) (o : Obj) (r : Role) : Neu G w (G.setRole w.heap.size r) (w.alloc o) :=
 ⟨rfl,rfl,rfl,by simp,fun b hb => ⟨Below.heap_alloc w o b hb,G.setRole_ne r (by omega)⟩,rfl,rfl,fun h b hb => by
  simp at hb
  rw [G.setRole_ne r (by omega)]
  exact h b (by omega)⟩
section
variable {G : Gh} {w : World} {G' : Gh} {w' : World} (hn : Neu G w G' w')
include hn
theorem Neu.cell {b o : Nat} {v : Value} (h : w.cell? ⟨b,o,none⟩ = some v) : w'.cell? ⟨b,o,none⟩ = some v:=by
 have hb:=World.block_lt_of_cell? w _ h
 rw [World.cell?_of_block (w:=w) (w':=w') (hn.block b hb).1]; exact h
theorem Neu.keep : Keep G w G' w' where
 imm b o v h:=by
  have hb:=World.block_lt_of_cell? w _ h.2
  exact ⟨by rw [(hn.block b hb).2]; exact h.1,hn.cell h.2⟩
 bl id b h:=by rw [hn.bl]; exact h
theorem Neu.heap {b : Nat} {o : Obj} (h : w.heap[b]? = some o) : w'.heap[b]? = some o:=by rw [(hn.block b (Array.getElem?_eq_some_iff.1 h).1).1]; exact h
theorem Neu.role {b : Nat} {o : Obj} (h : w.heap[b]? = some o) : G'.role b = G.role b:=(hn.block b (Array.getElem?_eq_some_iff.1 h).1).2
theorem OwnV.neu {o : Owner} {sz : Nat} {v : Value} (h : OwnV G w o sz v) : OwnV G' w' o sz v:=by
 rcases h with h | ⟨b,len,cap,cur,e,h1,h2,h3,h4⟩
 ·exact .inl h
 ·exact .inr ⟨b,len,cap,cur,e,h1,by rw [hn.role h3]; exact h2,hn.heap h3,h4⟩
theorem Owns.neu {o : Owner} {c : DV} {v : Value} (h : Owns G w o c v) : Owns G' w' o c v:=fun sz xs e => (h sz xs e).neu hn
theorem CellsRel.neu {mk : Nat→Owner} {cs : List DV} {vs : Array Value} (h : CellsRel G w mk cs vs) : CellsRel G' w' mk cs vs :=
 ⟨h.1,fun j c v hc hv => ⟨(h.2 j c v hc hv).1.keep hn.keep,(h.2 j c v hc hv).2.neu hn⟩⟩
theorem SOwn.neu {mk : Nat→Nat→Owner} {dv : DV} {v : Value} (h : SOwn G w mk dv v) : SOwn G' w' mk dv v:=fun i j c x hc hx => (h i j c x hc hx).neu hn
theorem SV.neu {d : Nat} {dv : DV} {v : Value} (h : SV G w d dv v) : SV G' w' d dv v:=by
 cases dv
 case lptr s g off => obtain ⟨b,h1,h2⟩:=h; exact ⟨b,by rw [hn.lb]; exact h1,h2⟩
 case lsl s g sz off len => obtain ⟨b,cap,h1,h2⟩:=h; exact ⟨b,cap,by rw [hn.lb]; exact h1,h2⟩
 case tup ds => obtain ⟨vs,h1,h2,h3⟩:=h; exact ⟨vs,h1,h2,fun j c x hc hx => (h3 j c x hc hx).keep hn.keep⟩
 all_goals exact VP.keep hn.keep h
theorem HRel.neu {id : Nat} {ob : HObj} (h : HRel G w id ob) : HRel G' w' id ob:=by
 cases ob with
 | cells cs =>
  obtain ⟨b,vs,e,h1,h2,h3,h4⟩:=h
  exact ⟨b,vs,e,by rw [hn.bl]; exact h1,by rw [hn.role h3]; exact h2,hn.heap h3,h4.neu hn⟩
 | map es =>
  obtain ⟨b,ms,ck,h1,h2,h3,h4,h5,h6⟩:=h
  exact ⟨b,ms,ck,by rw [hn.bl]; exact h1,by rw [hn.role h3]; exact h2,hn.heap h3,h4,fun i e m he hm => ⟨(h5 i e m he hm).1.keep hn.keep,(h5 i e m he hm).2.1.keep hn.keep,(h5 i e m he hm).2.2⟩,h6⟩
theorem WRel.neu {N0 : Nat} {w0 : World} {H : List HObj} (h : WRel N0 w0 G w H) : WRel N0 w0 G' w' H where
 below:=h.below.trans ⟨hn.os,hn.tape,hn.output,hn.size,fun k hk => (hn.block k (Nat.lt_of_lt_of_le hk h.le)).1⟩
 le:=Nat.le_trans h.le hn.size
 low b hb:=by rw [(hn.block b (Nat.lt_of_lt_of_le hb h.le)).2]; exact h.low b hb
 fresh:=hn.fresh h.fresh
 objs id ob ho:=(h.objs id ob ho).neu hn
 none id hid:=by rw [hn.bl]; exact h.none id hid
theorem posVal_neu {d : Nat} {tmps : Array Value} {p : Pos} {v : Value} (h : posVal G w d tmps p = some v) : posVal G' w' d tmps p = some v:=by
 cases p with
 | slot s i => exact h
 | box s g off =>
  simp only [posVal,Option.bind_eq_some_iff] at h ⊢
  obtain ⟨b,h1,h2⟩:=h
  split at h2
  ·rename_i hr
   have hb:=World.block_lt_of_cell? w _ h2
   exact ⟨b,by rw [hn.lb]; exact h1,by rw [(hn.block b hb).2,if_pos hr]; exact hn.cell h2⟩
  ·cases h2
 | hp id off =>
  simp only [posVal,Option.bind_eq_some_iff] at h ⊢
  obtain ⟨b,h1,h2⟩:=h
  split at h2
  ·rename_i hr
   have hb:=World.block_lt_of_cell? w _ h2
   exact ⟨b,by rw [hn.bl]; exact h1,by rw [(hn.block b hb).2,if_pos hr]; exact hn.cell h2⟩
  ·cases h2
theorem Rel.neu {N0 : Nat} {w0 : World} {d : Nat} {st : St} {tmps : Array Value} (h : Rel N0 w0 d G w st tmps) : Rel N0 w0 d G' w' st tmps where
 len:=h.len
 slots s dv v a b:=⟨(h.slots s dv v a b).1.neu hn,(h.slots s dv v a b).2.neu hn⟩
 boxes s g cs hb:=by
  obtain ⟨b,vs,e,h1,h2,h3,h4⟩:=h.boxes s g cs hb
  exact ⟨b,vs,e,by rw [hn.lb]; exact h1,by rw [hn.role h3]; exact h2,hn.heap h3,h4.neu hn⟩
 nobox s g hg:=by rw [hn.lb]; exact h.nobox s g hg
 links t p v hl ht:=posVal_neu hn (h.links t p v hl ht)
 heap:=h.heap.neu hn
end
theorem Neu.ext {G : Gh} {w : World} {G' : Gh} {w' : World} (hn : Neu G w G' w') (hf : ∀ b,w.heap.size≤b→G.role b = .no) (d : Nat) : Ext d G w G' w':=by
 have hlt : ∀ b r,G.role b = r→r ≠ .no→b < w.heap.size:=fun b r h hr => by
  rcases Nat.lt_or_ge b w.heap.size with h' | h'
  ·exact h'
  ·rw [hf b h'] at h; exact absurd h.symm hr
 exact ⟨hn.keep,fun b e s _ h => ⟨by rw [(hn.block b (hlt b _ h (by simp))).2]; exact h,(hn.block b (hlt b _ h (by simp))).1⟩,
  fun b o wm _ h => ⟨by rw [(hn.block b (hlt b _ h (by simp))).2]; exact h,(hn.block b (hlt b _ h (by simp))).1⟩,fun e s g _ => by rw [hn.lb],hn.size⟩
/-! ### what slots hold -/
theorem SV.of_vp {G : Gh} {w : World} {d : Nat} {dv : DV} {v : Value} (h : VP G w dv v) : SV G w d dv v:=by
 cases h <;> first | exact .undef _ | (constructor <;> assumption)
section
variable {G : Gh} {w : World} {d : Nat} {v : Value}
theorem SV.int {k : IntKind} {n : Int} (h : SV G w d (.int k n) v) : v = .int k n:=by cases (h : VP ..); rfl
theorem SV.bool {b : Bool} (h : SV G w d (.bool b) v) : v = .bool b:=by cases (h : VP ..); rfl
theorem SV.str {s : List UInt8} (h : SV G w d (.str s) v) : v = .string ⟨s.toArray⟩:=by cases (h : VP ..); rfl
theorem SV.nilp (h : SV G w d .nilp v) : v = .pointer none:=by cases (h : VP ..); rfl
theorem SV.nilmap (h : SV G w d .nilmap v) : v = .map none:=by cases (h : VP ..); rfl
theorem SV.ptr {i o : Nat} (h : SV G w d (.ptr i o) v) : ∃ b,G.bl i = some b∧v = .pointer (some ⟨b,o,none⟩):=by cases (h : VP ..); exact ⟨_,‹_›,rfl⟩
theorem SV.map {i : Nat} (h : SV G w d (.map i) v) : ∃ b,G.bl i = some b∧v = .map (some b):=by cases (h : VP ..); exact ⟨_,‹_›,rfl⟩
theorem SV.agg {cs : List DV} (h : SV G w d (.agg cs) v) : ∃ vs,v = .agg vs∧cs.length = vs.size∧∀ (j : Nat) (c : DV) (x : Value),cs[j]? = some c→vs[j]? = some x→VP G w c x:=by
 cases (h : VP ..); exact ⟨_,rfl,‹_›,‹_›⟩
theorem SV.ro {dv : DV} (h : SV G w d dv v) : SV G w d dv.ro v:=by
 cases dv
 case lptr => exact h
 case lsl => exact h
 case tup => exact h
 all_goals exact SV.of_vp (VP.ro h)
end
theorem vp_const {P : Program} {G : Gh} {w : World} (t : TypeId) (v : Value) : VP G w (constDV P t v) v:=by
 unfold constDV
 split
 ·exact .bool _
 ·exact .int _ _
 ·rename_i s; exact .str s.data.toList
 ·exact .nilp
 ·exact .nilmap
 ·split
  ·exact .sl0
  ·exact .undef _
 ·exact .undef _
theorem Rel.rho {P : Program} {N0 : Nat} {w0 : World} {d : Nat} {G : Gh} {w : World} {st : St} {a : Act} (h : Rel N0 w0 d G w st a.tmps) (t : TypeId) (x : Operand) : SV G w d (rho P st t x) (a.eval x):=by
 cases x with
 | tmp s =>
  simp only [Ab.rho,Act.eval,List.getD_eq_getElem?_getD,Array.getD_eq_getD_getElem?]
  cases hs : st.t[s]? with
  | none => exact .undef _
  | some dv =>
   have hlt : s < a.tmps.size:=by have:=(List.getElem?_eq_some_iff.1 hs).1; rw [h.len] at this; exact this
   have ht : a.tmps[s]? = some a.tmps[s]:=by simp [hlt]
   rw [ht]
   exact (h.slots s dv _ hs ht).1
 | const v => exact SV.of_vp (vp_const t v)
 | func f => exact VP.fn (caps:=[]) (vs:=#[]) rfl (by intro j c v hc; simp at hc)
 | global g => exact .undef _
end Go.Ab
/- AcR: The quiet operations in the machine,one by one. -/
namespace Go.Ab
open Go Go.Conc Go.RowKit
def PR (P : Program) (G : Gh) (w : World) (d : Nat) (K : DV→Prop) (s : Sem Value) : Prop :=
 ∃ dv v,K dv∧s.run P w = .ok v w∧SV G w d dv v∧dv.noOwn = true
variable {P : Program} {G : Gh} {w : World} {d : Nat} {K : DV→Prop}
theorem toList_eq (s : ByteArray) : s.toList = s.data.toList:=by
 have key : ∀ (l : List UInt8) (n i : Nat) (r : List UInt8),l.length - i = n→ByteArray.toList.loop ⟨l.toArray⟩ i r = r.reverse ++ l.drop i:=by
  intro l n
  induction n with
  | zero =>
   intro i r h
   unfold ByteArray.toList.loop
   have h' : ¬ i < l.length:=by omega
   simp only [ByteArray.size,List.size_toArray,h',if_false]
   rw [List.drop_eq_nil_of_le (by omega)]; simp
  | succ n ih =>
   intro i r h
   unfold ByteArray.toList.loop
   have h' : i < l.length:=by omega
   simp only [ByteArray.size,List.size_toArray,h',if_true]
   rw [ih (i + 1) _ (by omega),List.drop_eq_getElem_cons h']
   simp [ByteArray.get!,h']
 have:=key s.data.toList _ 0 [] rfl
 simpa [ByteArray.toList] using this
section
variable {op : BinOp} {t : TypeId} {ox oy : Operand}
theorem g_int {k j : IntKind} {a b : Int} : (eqGuard op t ox oy (.int k a) (.int j b)).run P w = .ok () w:=by cases op <;> rfl
theorem g_str {a b : ByteArray} : (eqGuard op t ox oy (.string a) (.string b)).run P w = .ok () w:=by cases op <;> rfl
theorem g_bool {a b : Bool} : (eqGuard op t ox oy (.bool a) (.bool b)).run P w = .ok () w:=by cases op <;> rfl
theorem g_ptr {a b : Option Addr} : (eqGuard op t ox oy (.pointer a) (.pointer b)).run P w = .ok () w:=by cases op <;> rfl
theorem g_map {a b : Option Nat} : (eqGuard op t ox oy (.map a) (.map b)).run P w = .ok () w:=by cases op <;> rfl
end
theorem eqIn_bool {t : TypeId} (hu : P.underlying t = some .bool) (n : Nat) (a b : Bool) : (Op.equalIn (n + 1) t (.bool a) (.bool b)).run P w = .ok (a == b) w:=by
 simp [Op.equalIn,run_underlying hu]
theorem eqIn_ptr0 {t e : TypeId} (hu : P.underlying t = some (.pointer e)) (n : Nat) : (Op.equalIn (n + 1) t (.pointer none) (.pointer none)).run P w = .ok true w:=by
 simp [Op.equalIn,run_underlying hu]
theorem eqIn_ptr1 {t e : TypeId} (hu : P.underlying t = some (.pointer e)) (n : Nat) (a : Addr) : (Op.equalIn (n + 1) t (.pointer (some a)) (.pointer none)).run P w = .ok false w:=by
 simp [Op.equalIn,run_underlying hu]
theorem eqIn_map0 {t e f : TypeId} (hu : P.underlying t = some (.map e f)) (n : Nat) : (Op.equalIn (n + 1) t (.map none) (.map none)).run P w = .ok true w:=by
 simp [Op.equalIn,run_underlying hu]
theorem eqIn_map1 {t e f : TypeId} (hu : P.underlying t = some (.map e f)) (n : Nat) (a : Nat) : (Op.equalIn (n + 1) t (.map (some a)) (.map none)).run P w = .ok false w:=by
 simp [Op.equalIn,run_underlying hu]
section
variable {t : TypeId} {x y : Value} {b : Bool} (h : ∀ n,(Op.equalIn (n + 1) t x y).run P w = .ok b w)
include h
theorem run_eql (hb : binOp .eql t x y = (do pure (.bool (← Op.equal t x y)))) : (binOp .eql t x y).run P w = .ok (.bool b) w:=by
 rw [hb]
 have h9 : (Op.equal t x y).run P w = .ok b w:=h 9999
 rw [Sem.run_bind,h9]; rfl
theorem run_neq (hb : binOp .neq t x y = (do pure (.bool (!(← Op.equal t x y))))) : (binOp .neq t x y).run P w = .ok (.bool !b) w:=by
 rw [hb]
 have h9 : (Op.equal t x y).run P w = .ok b w:=h 9999
 rw [Sem.run_bind,h9]; rfl
end
theorem run_part_cell {t : TypeId} {ds : TypeDesc} (hu : P.underlying t = some ds) (h1 : ∀ fs,ds ≠ .struct fs) (h2 : ∀ n e,ds ≠ .array n e) {xs : Array Value} {off : Nat} {v : Value} (hx : xs[off]? = some v) : (part t xs off).run P w = .ok v w:=by
 have hi : (isAgg t).run P w = .ok false w:=by
  simp only [isAgg,Sem.run_bind,run_underlying hu,Result.andThen_ok]
  cases ds <;> first | rfl | exact absurd rfl (h1 _) | exact absurd rfl (h2 _ _)
 simp only [part,Sem.run_bind,hi,Result.andThen_ok,Bool.false_eq_true,if_false,hx,Sem.run_pure]
theorem eqAgg_sound {xs ys : List DV} {vs us : Array Value} (hx : ∀ (j : Nat) (c : DV) (x : Value),xs[j]? = some c→vs[j]? = some x→VP G w c x) (hy : ∀ (j : Nat) (c : DV) (x : Value),ys[j]? = some c→us[j]? = some x→VP G w c x)
  (hlx : xs.length = vs.size) (hly : ys.length = us.size) (n : Nat) : ∀ (fs : List Field) (b : Bool),eqAgg P fs xs ys = some b→(Op.eqFields (n + 1) vs us fs).run P w = .ok b w
 | [],b,h => by simp only [eqAgg,Option.some.injEq] at h; subst h; rfl
 | f :: fs,b,h => by
  have get : ∀ {cs : List DV} {ws : Array Value} {c : DV},(∀ (j : Nat) (c : DV) (x : Value),cs[j]? = some c→ws[j]? = some x→VP G w c x)→cs.length = ws.size→cs[f.offset]? = some c→∃ v,ws[f.offset]? = some v∧VP G w c v:=by
   intro cs ws c hc hl h
   have hlt:=(List.getElem?_eq_some_iff.1 h).1
   have hlt' : f.offset < ws.size:=hl ▸ hlt
   exact ⟨ws[f.offset],by simp [hlt'],hc _ _ _ h (by simp [hlt'])⟩
  have key : ∀ {ds : TypeDesc} {v u : Value} {r : Bool},P.underlying f.type = some ds→(∀ fs,ds ≠ .struct fs)→(∀ n e,ds ≠ .array n e)→vs[f.offset]? = some v→us[f.offset]? = some u→f.name ≠ "_"→(Op.equalIn (n + 1) f.type v u).run P w = .ok r w →
    (eqAgg P fs xs ys).map (r && ·) = some b→(Op.eqFields (n + 1) vs us (f :: fs)).run P w = .ok b w:=by
   intro ds v u r hu h1 h2 hv hu' hn hr hm
   obtain ⟨b',hb',rfl⟩:=Option.map_eq_some_iff.1 hm
   have ih:=eqAgg_sound hx hy hlx hly n fs b' hb'
   simp only [Op.eqFields,if_pos hn,Sem.run_bind,run_part_cell hu h1 h2 hv,run_part_cell hu h1 h2 hu',Result.andThen_ok,hr]
   cases r
   ·rfl
   ·simpa using ih
  simp only [eqAgg] at h
  split at h
  ·rename_i k a k' b' hn hu h1 h2
   have hn' : f.name ≠ "_":=by simpa using hn
   split at h
   ·rename_i e; subst e
    obtain ⟨v,hv,hpv⟩:=get hx hlx h1
    obtain ⟨u,hu',hpu⟩:=get hy hly h2
    cases hpv; cases hpu
    exact key hu (by simp) (by simp) hv hu' hn' (run_equalIn_int w n f.type _ _ _ _ hu) (by rw [← h]; congr 1)
   ·cases h
  ·rename_i a b' hn hu h1 h2
   have hn' : f.name ≠ "_":=by simpa using hn
   obtain ⟨v,hv,hpv⟩:=get hx hlx h1
   obtain ⟨u,hu',hpu⟩:=get hy hly h2
   cases hpv; cases hpu
   exact key hu (by simp) (by simp) hv hu' hn' (run_equalIn_bool' w n f.type _ _ hu) h
  ·rename_i a b' hn hu h1 h2
   have hn' : f.name ≠ "_":=by simpa using hn
   obtain ⟨v,hv,hpv⟩:=get hx hlx h1
   obtain ⟨u,hu',hpu⟩:=get hy hly h2
   cases hpv; cases hpu
   have eb : ((⟨a.toArray⟩ : ByteArray).toList == (⟨b'.toArray⟩ : ByteArray).toList) = decide (a = b'):=by
    rw [toList_eq,toList_eq,Bool.eq_iff_iff]; simp
   exact key hu (by simp) (by simp) hv hu' hn' (run_equalIn_string w n f.type _ _ hu) (by rw [← h,eb])
  ·cases h
theorem dbinAgg_sound {op : BinOp} {xt : TypeId} {xs ys : List DV} {vx vy : Value} {ox oy : Operand} (hx : SV G w d (.agg xs) vx) (hy : SV G w d (.agg ys) vy) (h : dbinAgg P op xt xs ys K) : PR P G w d K (do eqGuard op xt ox oy vx vy; binOp op xt vx vy):=by
 obtain ⟨vs,rfl,hl,hv⟩:=hx.agg
 obtain ⟨us,rfl,hl',hv'⟩:=hy.agg
 obtain ⟨h1,h2,h3,h⟩:=h
 have hg : (eqGuard op xt ox oy (.agg vs) (.agg us)).run P w = .ok () w:=run_eqGuard_agg w op xt ox oy vs us h3
 have hr : ∀ b,eqAgg P (P.fieldsOf xt).toList xs ys = some b→(Op.equalIn 10000 xt (.agg vs) (.agg us)).run P w = .ok b w:=fun b hb => by
  rw [show (10000 : Nat) = 9999 + 1 from rfl,run_equalIn_agg w 9999 xt vs us h1 h2]
  exact eqAgg_sound hv hv' hl hl' 9998 _ b hb
 split at h
 ·rename_i b hb
  exact ⟨_,_,h,by rw [Sem.run_bind,hg,Result.andThen_ok,run_eql_struct,hr b hb]; rfl,VP.bool _,rfl⟩
 ·rename_i b hb
  exact ⟨_,_,h,by rw [Sem.run_bind,hg,Result.andThen_ok,run_neq_struct,hr b hb]; rfl,VP.bool _,rfl⟩
 ·exact h.elim
theorem dbin_sound {op : BinOp} {xt : TypeId} {x y : DV} {vx vy : Value} {ox oy : Operand} (hx : SV G w d x vx) (hy : SV G w d y vy) (h : dbin P op xt x y K) :
  PR P G w d K (do eqGuard op xt ox oy vx vy; binOp op xt vx vy):=by
 unfold dbin at h
 split at h
 ·
  rename_i k a k' b
  obtain rfl:=hx.int
  obtain rfl:=hy.int
  have hg : (eqGuard op xt ox oy (.int k a) (.int k' b)).run P w = .ok () w:=g_int
  split at h
  ·exact ⟨_,_,h.2,by simp [hg,Go.binOp,Op.shift,show ¬ b < 0 by omega],VP.int _ _,rfl⟩
  ·exact ⟨_,_,h.2,by simp [hg,Go.binOp,Op.shift,show ¬ b < 0 by omega],VP.int _ _,rfl⟩
  all_goals
   obtain ⟨rfl,h⟩:=h
  ·exact ⟨_,_,h,by simp [hg,Go.binOp,Op.intArith],VP.int _ _,rfl⟩
  ·exact ⟨_,_,h,by simp [hg,Go.binOp,Op.intArith],VP.int _ _,rfl⟩
  ·exact ⟨_,_,h,by simp [hg,Go.binOp,Op.intArith],VP.int _ _,rfl⟩
  ·exact ⟨_,_,h.2,by simp [hg,Go.binOp,Op.intDiv,h.1],VP.int _ _,rfl⟩
  ·exact ⟨_,_,h.2,by simp [hg,Go.binOp,Op.intDiv,h.1],VP.int _ _,rfl⟩
  ·exact ⟨_,_,h,by simp [hg,Go.binOp,Op.intBits,bitsOp],VP.int _ _,rfl⟩
  ·exact ⟨_,_,h,by simp [hg,Go.binOp,Op.intBits,bitsOp],VP.int _ _,rfl⟩
  ·exact ⟨_,_,h,by simp [hg,Go.binOp,Op.intBits,bitsOp],VP.int _ _,rfl⟩
  ·exact ⟨_,_,h,by simp [hg,Go.binOp,Op.intBits,bitsOp],VP.int _ _,rfl⟩
  ·exact ⟨_,.bool (decide (a = b)),h,by simp [hg,Go.binOp,Op.intCmp]; rfl,VP.bool _,rfl⟩
  ·exact ⟨_,.bool (decide (a ≠ b)),h,by simp only [Sem.run_bind,hg,Go.binOp,Op.intCmp,Result.andThen_ok,Sem.run_pure,ne_eq,not_true_eq_false,if_false]; simp [bne,BEq.beq],VP.bool _,rfl⟩
  ·exact ⟨_,.bool (decide (a < b)),h,by simp [hg,Go.binOp,Op.intCmp],VP.bool _,rfl⟩
  ·exact ⟨_,.bool (decide (a≤b)),h,by simp [hg,Go.binOp,Op.intCmp],VP.bool _,rfl⟩
  ·exact ⟨_,.bool (decide (b < a)),h,by simp [hg,Go.binOp,Op.intCmp],VP.bool _,rfl⟩
  ·exact ⟨_,.bool (decide (b≤a)),h,by simp [hg,Go.binOp,Op.intCmp],VP.bool _,rfl⟩
 ·
  rename_i a b
  obtain rfl:=hx.str
  obtain rfl:=hy.str
  have hg : (eqGuard op xt ox oy (.string ⟨a.toArray⟩) (.string ⟨b.toArray⟩)).run P w = .ok () w:=g_str
  have eb : (a == b) = decide (a = b):=by rw [Bool.eq_iff_iff]; simp
  split at h
  ·refine ⟨_,_,h.2,?_,VP.str _,rfl⟩
   have h1:=h.1
   have e : (⟨a.toArray⟩ : ByteArray) ++ ⟨b.toArray⟩ = ⟨(a ++ b).toArray⟩:=by
    apply ByteArray.ext; simp [ByteArray.data_append]
   have hm : ¬ ((((⟨a.toArray⟩ : ByteArray).size + (⟨b.toArray⟩ : ByteArray).size : Nat) : Int) > IntKind.i64.max):=by
    have e2 : IntKind.i64.max = 9223372036854775807:=by decide
    rw [e2]; simp [ByteArray.size]; omega
   simp only [Sem.run_bind,hg,Result.andThen_ok,Go.binOp,Op.stringOp,if_neg hm,e,Sem.run_pure]
  all_goals first | exact h.elim | exact ⟨_,_,h,by simp [hg,Go.binOp,Op.stringOp,toList_eq,eb]; rfl,VP.bool _,rfl⟩ | exact ⟨_,_,h,by simp [hg,Go.binOp,Op.stringOp,toList_eq,eb],VP.bool _,rfl⟩
 ·
  rename_i a b
  obtain rfl:=hx.bool
  obtain rfl:=hy.bool
  obtain ⟨hu,h⟩:=h
  split at h
  ·exact ⟨_,_,h,by rw [Sem.run_bind,g_bool,Result.andThen_ok,run_eql (fun n => eqIn_bool hu n a b) rfl],VP.bool _,rfl⟩
  ·exact ⟨_,_,h,by rw [Sem.run_bind,g_bool,Result.andThen_ok,run_neq (fun n => eqIn_bool hu n a b) rfl]; rfl,VP.bool _,rfl⟩
  ·exact h.elim
 ·obtain ⟨⟨e,hu⟩,h⟩:=h
  obtain rfl:=hx.nilp
  obtain rfl:=hy.nilp
  split at h
  ·exact ⟨_,_,h,by rw [Sem.run_bind,g_ptr,Result.andThen_ok,run_eql (fun n => eqIn_ptr0 hu n) rfl],VP.bool _,rfl⟩
  ·exact ⟨_,_,h,by rw [Sem.run_bind,g_ptr,Result.andThen_ok,run_neq (fun n => eqIn_ptr0 hu n) rfl]; rfl,VP.bool _,rfl⟩
  ·exact h.elim
 ·obtain ⟨⟨e,hu⟩,h⟩:=h
  obtain ⟨b,_,rfl⟩:=hx.ptr
  obtain rfl:=hy.nilp
  split at h
  ·exact ⟨_,_,h,by rw [Sem.run_bind,g_ptr,Result.andThen_ok,run_eql (fun n => eqIn_ptr1 hu n _) rfl],VP.bool _,rfl⟩
  ·exact ⟨_,_,h,by rw [Sem.run_bind,g_ptr,Result.andThen_ok,run_neq (fun n => eqIn_ptr1 hu n _) rfl]; rfl,VP.bool _,rfl⟩
  ·exact h.elim
 ·obtain ⟨⟨e,f,hu⟩,h⟩:=h
  obtain rfl:=hx.nilmap
  obtain rfl:=hy.nilmap
  split at h
  ·exact ⟨_,_,h,by rw [Sem.run_bind,g_map,Result.andThen_ok,run_eql (fun n => eqIn_map0 hu n) rfl],VP.bool _,rfl⟩
  ·exact ⟨_,_,h,by rw [Sem.run_bind,g_map,Result.andThen_ok,run_neq (fun n => eqIn_map0 hu n) rfl]; rfl,VP.bool _,rfl⟩
  ·exact h.elim
 ·obtain ⟨⟨e,f,hu⟩,h⟩:=h
  obtain ⟨b,_,rfl⟩:=hx.map
  obtain rfl:=hy.nilmap
  split at h
  ·exact ⟨_,_,h,by rw [Sem.run_bind,g_map,Result.andThen_ok,run_eql (fun n => eqIn_map1 hu n _) rfl],VP.bool _,rfl⟩
  ·exact ⟨_,_,h,by rw [Sem.run_bind,g_map,Result.andThen_ok,run_neq (fun n => eqIn_map1 hu n _) rfl]; rfl,VP.bool _,rfl⟩
  ·exact h.elim
 ·exact dbinAgg_sound hx hy h
 ·exact h.elim
theorem eqIn_sl0 {t e : TypeId} (hu : P.underlying t = some (.slice e)) (n : Nat) : (Op.equalIn (n + 1) t (.slice none 0 0) (.slice none 0 0)).run P w = .ok true w:=by
 simp [Op.equalIn,run_underlying hu]
theorem eqIn_sl1 {t e : TypeId} (hu : P.underlying t = some (.slice e)) (n : Nat) (a : Addr) (l c : Nat) : (Op.equalIn (n + 1) t (.slice (some a) l c) (.slice none 0 0)).run P w = .ok false w:=by
 simp [Op.equalIn,run_underlying hu]
theorem g_sl {op : BinOp} {t : TypeId} {ox oy : Operand} {a : Option Addr} {l c : Nat} : (eqGuard op t ox oy (.slice a l c) (.slice none 0 0)).run P w = .ok () w:=by cases op <;> rfl
theorem dnilSl_sound {op : BinOp} {xt : TypeId} {x : DV} {vx : Value} {ox oy : Operand} (hx : SV G w d x vx) (h : dnilSl P op xt x K) : PR P G w d K (do eqGuard op xt ox oy vx (.slice none 0 0); binOp op xt vx (.slice none 0 0)):=by
 unfold dnilSl at h
 split at h
 ·rename_i e own sz xs hu
  have hv : (vx = .slice none 0 0∧xs = [])∨∃ a l c,vx = .slice (some a) l c:=by
   cases (hx : VP G w (.sl own sz xs) vx) with
   | sl0 => exact .inl ⟨rfl,rfl⟩
   | sl f => exact .inr ⟨_,_,_,rfl⟩
  rcases hv with ⟨rfl,rfl⟩ | ⟨a,l,c,rfl⟩
  ·split at h
   ·exact ⟨_,_,h.2 rfl,by rw [Sem.run_bind,g_sl,Result.andThen_ok,run_eql (fun n => eqIn_sl0 hu n) rfl],VP.bool _,rfl⟩
   ·exact ⟨_,_,h.2 rfl,by rw [Sem.run_bind,g_sl,Result.andThen_ok,run_neq (fun n => eqIn_sl0 hu n) rfl]; rfl,VP.bool _,rfl⟩
   ·exact h.elim
  ·split at h
   ·exact ⟨_,_,h.1,by rw [Sem.run_bind,g_sl,Result.andThen_ok,run_eql (fun n => eqIn_sl1 hu n a l c) rfl],VP.bool _,rfl⟩
   ·exact ⟨_,_,h.1,by rw [Sem.run_bind,g_sl,Result.andThen_ok,run_neq (fun n => eqIn_sl1 hu n a l c) rfl]; rfl,VP.bool _,rfl⟩
   ·exact h.elim
 ·rename_i e id sz off len cap hu
  cases (hx : VP G w (.hsl ..) vx) with
  | hsl0 =>
   split at h
   ·exact ⟨_,_,h.2 rfl,by rw [Sem.run_bind,g_sl,Result.andThen_ok,run_eql (fun n => eqIn_sl0 hu n) rfl],VP.bool _,rfl⟩
   ·exact ⟨_,_,h.2 rfl,by rw [Sem.run_bind,g_sl,Result.andThen_ok,run_neq (fun n => eqIn_sl0 hu n) rfl]; rfl,VP.bool _,rfl⟩
   ·exact h.elim
  | hsl _ _ _ =>
   split at h
   ·exact ⟨_,_,h.1,by rw [Sem.run_bind,g_sl,Result.andThen_ok,run_eql (fun n => eqIn_sl1 hu n _ _ _) rfl],VP.bool _,rfl⟩
   ·exact ⟨_,_,h.1,by rw [Sem.run_bind,g_sl,Result.andThen_ok,run_neq (fun n => eqIn_sl1 hu n _ _ _) rfl]; rfl,VP.bool _,rfl⟩
   ·exact h.elim
 ·exact h.elim
theorem dun_sound {op : UnOp} {x : DV} {vx : Value} (hx : SV G w d x vx) (h : dun op x K) : PR P G w d K (Op.unary op vx):=by
 unfold dun at h
 split at h
 ·obtain rfl:=hx.bool
  exact ⟨_,_,h,by simp [Op.unary],VP.bool _,rfl⟩
 ·obtain rfl:=hx.int
  exact ⟨_,_,h,by simp [Op.unary,Op.intArith],VP.int _ _,rfl⟩
 ·exact h.elim
end Go.Ab
/- AcR2: Reading memory: what a place shows. -/
namespace Go.Ab
open Go Go.Conc Go.RowKit
variable {P : Program} {G : Gh} {w : World} {d : Nat} {K : DV→Prop}
theorem add_none (b off n : Nat) : (⟨b,off,none⟩ : Addr).add n = ⟨b,off + n,none⟩:=by
 unfold Addr.add; split
 ·simp_all
 ·rfl
def CellsAt (G : Gh) (w : World) (b off : Nat) (cs : List DV) : Prop:=∀ (j : Nat) (c : DV),cs[j]? = some c→∃ v,w.cell? ⟨b,off + j,none⟩ = some v∧VP G w c v
theorem CellsAt.drop {b off : Nat} {cs : List DV} (h : CellsAt G w b off cs) (n : Nat) : CellsAt G w b (off + n) (cs.drop n):=by
 intro j c hc
 rw [List.getElem?_drop] at hc
 rw [Nat.add_assoc]
 exact h _ c hc
theorem CellsRel.at {mk : Nat→Owner} {cs : List DV} {vs : Array Value} (h : CellsRel G w mk cs vs) {b : Nat} {e : TypeId} {fz : Nat × Nat} (hb : w.heap[b]? = some (.cells vs e fz)) : CellsAt G w b 0 cs:=by
 intro j c hc
 have hj : j < vs.size:=by rw [← h.1]; exact (List.getElem?_eq_some_iff.1 hc).1
 refine ⟨vs[j],?_,(h.2 j c _ hc (by simp [hj])).1⟩
 simp [World.cell?,hb,hj]
theorem info_of_underlying {t : TypeId} {ds : TypeDesc} (h : P.underlying t = some ds) : ∃ i,P.info? t = some i:=by
 unfold Program.underlying at h
 cases hi : P.info? t with
 | none => simp [hi] at h
 | some i => exact ⟨i,rfl⟩
theorem run_sizeOf' {t : TypeId} {ds : TypeDesc} (h : P.underlying t = some ds) : (sizeOf t).run P w = .ok (P.cellsOf t) w:=by
 obtain ⟨i,hi⟩:=info_of_underlying h
 simp [sizeOf,typeInfo,hi,Program.cellsOf]
theorem run_isAgg' {t : TypeId} {ds : TypeDesc} (h : P.underlying t = some ds) : (isAgg t).run P w = .ok (isAggT P t) w:=by
 simp only [isAgg,Sem.run_bind,run_underlying h,Result.andThen_ok,isAggT,h]
 cases ds <;> rfl
theorem loadAs_sound {t : TypeId} {cs : List DV} {b off : Nat} (hc : CellsAt G w b off cs) (h : loadAs P t cs K) : PR P G w d K (loadVar t ⟨b,off,none⟩):=by
 unfold loadAs at h
 split at h
 ·rename_i ha
  obtain ⟨hl,hK⟩:=h
  have hu : ∃ ds,P.underlying t = some ds:=by
   unfold isAggT at ha
   cases hu : P.underlying t with
   | none => simp [hu] at ha
   | some ds => exact ⟨ds,rfl⟩
  obtain ⟨ds,hu⟩:=hu
  have hv : ∀ j,∃ v,j < P.cellsOf t→w.cell? ⟨b,off + j,none⟩ = some v∧∀ c,cs[j]? = some c→VP G w c v:=by
   intro j
   by_cases hj : j < P.cellsOf t
   ·obtain ⟨v,h1,h2⟩:=hc j cs[j] (by simp)
    exact ⟨v,fun _ => ⟨h1,fun c hcc => by rw [List.getElem?_eq_getElem (by omega)] at hcc; cases hcc; exact h2⟩⟩
   ·exact ⟨undef,fun x => absurd x hj⟩
  let f : Nat→Value:=fun j => (hv j).choose
  have hf:=fun j => (hv j).choose_spec
  have hrun:=run_loadCells (P:=P) (w:=w) ⟨b,off,none⟩ (P.cellsOf t) f (fun j hj => by rw [add_none]; exact (hf j hj).1)
  refine ⟨_,.agg ((List.range (P.cellsOf t)).map f).toArray,hK,by simp only [loadVar,Sem.run_bind,run_isAgg' hu,Result.andThen_ok,ha,if_true,run_sizeOf' hu,hrun,Sem.run_pure],?_,?_⟩
  ·refine VP.agg (by simp; omega) fun j c v hcc hvv => ?_
   rw [List.getElem?_map] at hcc
   obtain ⟨c0,hc0,rfl⟩:=Option.map_eq_some_iff.1 hcc
   rw [List.getElem?_take] at hc0
   split at hc0
   ·rename_i hj
    have : v = f j:=by
     simp [hj] at hvv
     exact hvv.symm
    subst this
    exact ((hf j hj).2 c0 hc0).ro1
   ·cases hc0
  ·simp only [DV.noOwn,DV.cells,List.all_map,List.all_eq_true]
   intro x _
   simp [own1_ro1]
 ·rename_i ha
  obtain ⟨hu,h⟩:=h
  obtain ⟨ds,hu⟩:=Option.isSome_iff_exists.1 hu
  have ha' : isAggT P t = false:=by simpa using ha
  cases cs with
  | nil => exact h.elim
  | cons c r =>
   obtain ⟨v,h1,h2⟩:=hc 0 c rfl
   refine ⟨_,v,h,by simp only [loadVar,Sem.run_bind,run_isAgg' hu,Result.andThen_ok,ha',Bool.false_eq_true,if_false]; simp at h1; simp [h1],SV.of_vp h2.ro,?_⟩
   have:=noOwn_ro c
   cases c <;> first | exact this | cases h2
theorem part_sound {t : TypeId} {cs : List DV} {vs : Array Value} {off : Nat} (hl : cs.length = vs.size) (hc : ∀ (j : Nat) (c : DV) (x : Value),cs[j]? = some c→vs[j]? = some x→VP G w c x) (h : loadAs P t (cs.drop off) K) : PR P G w d K (part t vs off):=by
 unfold loadAs at h
 split at h
 ·rename_i ha
  obtain ⟨hl2,hK⟩:=h
  have hu : ∃ ds,P.underlying t = some ds:=by
   unfold isAggT at ha
   cases hu : P.underlying t with
   | none => simp [hu] at ha
   | some ds => exact ⟨ds,rfl⟩
  obtain ⟨ds,hu⟩:=hu
  simp only [List.length_drop] at hl2
  refine ⟨_,.agg (vs.extract off (off + P.cellsOf t)),hK,by simp only [part,Sem.run_bind,run_isAgg' hu,Result.andThen_ok,ha,if_true,run_sizeOf' hu,Sem.run_pure],?_,?_⟩
  ·refine VP.agg (by simp; omega) fun j c v hcc hvv => ?_
   rw [List.getElem?_map] at hcc
   obtain ⟨c0,hc0,rfl⟩:=Option.map_eq_some_iff.1 hcc
   rw [List.getElem?_take] at hc0
   split at hc0
   ·rename_i hj
    rw [List.getElem?_drop] at hc0
    refine (hc (off + j) c0 v hc0 ?_).ro1
    rw [Array.getElem?_extract] at hvv
    split at hvv
    ·exact hvv
    ·cases hvv
   ·cases hc0
  ·simp only [DV.noOwn,DV.cells,List.all_map,List.all_eq_true]
   intro x _
   simp [own1_ro1]
 ·rename_i ha
  obtain ⟨hu,h⟩:=h
  obtain ⟨ds,hu⟩:=Option.isSome_iff_exists.1 hu
  have ha' : isAggT P t = false:=by simpa using ha
  cases hd : cs.drop off with
  | nil => rw [hd] at h; exact h.elim
  | cons c r =>
   rw [hd] at h
   have hc0 : cs[off]? = some c:=by have:=congrArg (fun l => l[0]?) hd; simpa using this
   have hlt : off < vs.size:=by rw [← hl]; exact (List.getElem?_eq_some_iff.1 hc0).1
   have hv : vs[off]? = some vs[off]:=by simp [hlt]
   refine ⟨_,vs[off],h,by simp only [part,Sem.run_bind,run_isAgg' hu,Result.andThen_ok,ha',Bool.false_eq_true,if_false,hv,Sem.run_pure],SV.of_vp (hc off c _ hc0 hv).ro,?_⟩
   have:=noOwn_ro c
   have h2:=hc off c _ hc0 hv
   cases c <;> first | exact this | cases h2
theorem VP.at {cs : List DV} {v : Value} (h : VP G w (.vptr cs) v) : ∃ b off,v = .pointer (some ⟨b,off,none⟩)∧CellsAt G w b off cs:=by
 cases h with
 | vptr f h1 h2 => exact ⟨_,_,rfl,fun j c hc => ⟨f j,(h1 j c hc).2,h2 j c hc⟩⟩
theorem dload_sound {N0 : Nat} {w0 : World} {st : St} {tmps : Array Value} (hR : Rel N0 w0 d G w st tmps) {t : TypeId} {x : DV} {vx : Value} (hx : SV G w d x vx) (h : dload P st t x K) : PR P G w d K (Instr.loadAt t vx):=by
 have key : ∀ b off cs,vx = .pointer (some ⟨b,off,none⟩)→CellsAt G w b off cs→loadAs P t cs K→PR P G w d K (Instr.loadAt t vx):=by
  rintro b off cs rfl hc hl
  obtain ⟨dv,v,h1,h2,h3⟩:=loadAs_sound (d:=d) hc hl
  exact ⟨dv,v,h1,by simp only [Instr.loadAt,Instr.sureAddr,Sem.run_bind,Sem.run_pure,Result.andThen_ok,h2],h3⟩
 unfold dload at h
 split at h
 ·rename_i id off
  obtain ⟨b,hb,rfl⟩:=hx.ptr
  split at h
  ·rename_i cs ho
   obtain ⟨b',vs,e,h1,h2,h3,h4⟩:=hR.heap.objs _ _ ho
   obtain rfl : b = b':=by rw [hb] at h1; exact Option.some.inj h1
   refine key b off _ rfl ?_ h
   have:=(h4.at h3).drop off
   simpa using this
  ·exact h.elim
 ·rename_i s g off
  obtain ⟨b,hb,rfl⟩:=(hx : SV G w d (.lptr s g off) vx)
  split at h
  ·rename_i g' cs ho
   obtain ⟨rfl,h⟩:=h
   obtain ⟨b',vs,e,h1,h2,h3,h4⟩:=hR.boxes _ _ _ ho
   obtain rfl : b = b':=by rw [hb] at h1; exact Option.some.inj h1
   refine key b off _ rfl ?_ h
   have:=(h4.at h3).drop off
   simpa using this
  ·exact h.elim
 ·obtain ⟨b,off,rfl,hc⟩:=(hx : VP G w (.vptr _) vx).at
  exact key b off _ rfl hc h
 ·exact h.elim
theorem dfield_sound {xt : TypeId} {x : DV} {vx : Value} {f : Nat} (hx : SV G w d x vx) (h : dfield P xt x f K) : PR P G w d K (Instr.field xt vx f):=by
 unfold dfield at h
 split at h
 ·rename_i fs cs hu
  obtain ⟨vs,rfl,hl,hc⟩:=hx.agg
  split at h
  ·rename_i fd hf
   obtain ⟨dv,v,h1,h2,h3⟩:=part_sound (d:=d) hl hc h
   exact ⟨dv,v,h1,by simp only [Instr.field,Sem.run_bind,run_underlying hu,Result.andThen_ok,hf,asAgg,Sem.run_pure,h2],h3⟩
  ·exact h.elim
 ·exact h.elim
theorem vptr_drop {cs : List DV} {b off : Nat} (h : VP G w (.vptr cs) (.pointer (some ⟨b,off,none⟩))) (n : Nat) : VP G w (.vptr (cs.drop n)) (.pointer (some ⟨b,off + n,none⟩)):=by
 cases h with
 | vptr f h1 h2 =>
  refine .vptr (fun j => f (n + j)) (fun j c hc => ?_) (fun j c hc => ?_)
  ·rw [List.getElem?_drop] at hc; rw [Nat.add_assoc]; exact h1 _ c hc
  ·rw [List.getElem?_drop] at hc; exact h2 _ c hc
theorem dfieldAddr_sound {s : TypeId} {x : DV} {vx : Value} {f : Nat} (hx : SV G w d x vx) (h : dfieldAddr P s x f K) : PR P G w d K (Instr.fieldAt s vx f):=by
 unfold dfieldAddr at h
 split at h
 ·rename_i fs hu
  split at h
  ·rename_i fd hf
   obtain ⟨hz,h⟩:=h
   have hsz : ∀ w,(sizeOf fd.type).run P w = .ok (P.cellsOf fd.type) w:=by
    intro w
    unfold Program.cellsOf at hz ⊢
    cases hi : P.info? fd.type with
    | none => simp [hi] at hz
    | some i => simp [sizeOf,typeInfo,hi]
   have hrun : ∀ b off,vx = .pointer (some ⟨b,off,none⟩)→(Instr.fieldAt s vx f).run P w = .ok (.pointer (some ⟨b,off + fd.offset,none⟩)) w:=by
    rintro b off rfl
    simp only [Instr.fieldAt,Sem.run_bind,run_underlying hu,Result.andThen_ok,hf,Instr.sureAddr,Sem.run_pure,fieldPlace,hsz,if_neg hz,add_none]
   split at h
   ·obtain ⟨b,hb,rfl⟩:=hx.ptr
    exact ⟨_,_,h,hrun b _ rfl,VP.ptr hb,rfl⟩
   ·obtain ⟨b,hb,rfl⟩:=(hx : SV G w d (.lptr _ _ _) vx)
    exact ⟨_,_,h,hrun b _ rfl,⟨b,hb,rfl⟩,rfl⟩
   ·obtain ⟨b,off,rfl,hc⟩:=(hx : VP G w (.vptr _) vx).at
    exact ⟨_,_,h,hrun b _ rfl,vptr_drop hx _,rfl⟩
   ·exact h.elim
  ·exact h.elim
 ·exact h.elim
end Go.Ab
/- AcR3: More quiet operations: places in rows,parts,lengths,bytes,lookups. -/
namespace Go.Ab
open Go Go.Conc Go.RowKit
variable {P : Program} {G : Gh} {w : World} {d : Nat} {K : DV→Prop}
theorem VP.slAt {own : Bool} {sz : Nat} {xs : List DV} {v : Value} (h : VP G w (.sl own sz xs) v) : (v = .slice none 0 0∧xs = []) ∨
  ∃ b off cap,v = .slice (some ⟨b,off,none⟩) xs.length cap∧xs.length≤cap∧cap≤maxLen∧(∀ (i : Nat) (x : DV),xs[i]? = some x→x.cells.length = sz∧x.cells.all DV.scalar = true∧VP G w (.vptr x.cells) (.pointer (some ⟨b,off + i * sz,none⟩))):=by
 cases h with
 | sl0 => exact .inl ⟨rfl,rfl⟩
 | sl f h1 h2 h3 h4 h5 h6 =>
  subst h1
  exact .inr ⟨_,_,_,rfl,h2,h3,fun i x hx => ⟨(h4 i x hx).1,(h4 i x hx).2,.vptr (f i) (fun j c hc => h5 i j x c hx hc) (fun j c hc => h6 i j x c hx hc)⟩⟩
theorem run_indexAt_slice {sz : Nat} {t e : TypeId} (hu : P.underlying t = some (.slice e)) (hs : P.cellsOf e = sz) (b off len cap : Nat) (k : IntKind) (i : Int) (h0 : 0≤i) (h1 : i < len) (he : ∃ ds,P.underlying e = some ds) :
  (Instr.indexAt t (.slice (some ⟨b,off,none⟩) len cap) (.int k i)).run P w = .ok (.pointer (some ⟨b,off + i.toNat * sz,none⟩)) w:=by
 obtain ⟨ds,he⟩:=he
 simp only [Instr.indexAt,asIntOf,Sem.run_bind,Sem.run_pure,Result.andThen_ok,run_underlying hu,if_pos (show 0≤i∧i < (len : Int) from ⟨h0,h1⟩),run_sizeOf' he,add_none,hs]
theorem run_indexAt_array {t e : TypeId} {n : Nat} (hu : P.underlying t = some (.array n e)) (b off : Nat) (k : IntKind) (i : Int) (h0 : 0≤i) (h1 : i < n) (he : ∃ ds,P.underlying e = some ds) :
  (Instr.indexAt t (.pointer (some ⟨b,off,none⟩)) (.int k i)).run P w = .ok (.pointer (some ⟨b,off + i.toNat * P.cellsOf e,none⟩)) w:=by
 obtain ⟨ds,he⟩:=he
 simp only [Instr.indexAt,asIntOf,Sem.run_bind,Sem.run_pure,Result.andThen_ok,run_underlying hu,Instr.sureAddr,if_pos (show 0≤i∧i < (n : Int) from ⟨h0,h1⟩),run_sizeOf' he,add_none]
theorem dindexAddr_sound {t : TypeId} {x ix : DV} {vx vi : Value} (hx : SV G w d x vx) (hi : SV G w d ix vi) (h : dindexAddr P t x ix K) : PR P G w d K (Instr.indexAt t vx vi):=by
 unfold dindexAddr at h
 split at h
 ·rename_i k i
  obtain rfl:=hi.int
  split at h
  ·rename_i e hu
   split at h
   ·rename_i own sz xs
    obtain ⟨h0,h1,hs,he,h⟩:=h
    rcases VP.slAt hx with ⟨rfl,rfl⟩ | ⟨b,off,cap,rfl,_,_,hxs⟩
    ·simp at h1; omega
    ·have hlt : i.toNat < xs.length:=by omega
     have hget:=hxs i.toNat xs[i.toNat] (by simp [hlt])
     refine ⟨_,_,h,run_indexAt_slice hu hs b off _ cap k i h0 h1 (Option.isSome_iff_exists.1 he),?_,rfl⟩
     have e2 : xs.getD i.toNat DV.undef = xs[i.toNat]:=by simp [List.getD,hlt]
     rw [e2]
     exact hget.2.2
   ·rename_i id sz off len cap
    obtain ⟨h0,h1,hs,he,h⟩:=h
    obtain ⟨b,hb,rfl⟩ : ∃ b,G.bl id = some b∧vx = .slice (some ⟨b,off,none⟩) len cap:=by
     cases (hx : VP G w (.hsl ..) vx) with
     | hsl0 => omega
     | hsl h2 h3 h4 =>
      rcases h4 with h4 | rfl
      ·omega
      ·exact ⟨_,h2,rfl⟩
    exact ⟨_,_,h,run_indexAt_slice hu hs b _ _ cap k i h0 h1 (Option.isSome_iff_exists.1 he),VP.ptr hb,rfl⟩
   ·rename_i s g sz off len
    obtain ⟨h0,h1,hs,he,h⟩:=h
    obtain ⟨b,cap,hb,rfl,_⟩:=(hx : SV G w d (.lsl _ _ _ _ _) vx)
    exact ⟨_,_,h,run_indexAt_slice hu hs b _ _ cap k i h0 h1 (Option.isSome_iff_exists.1 he),⟨b,hb,rfl⟩,rfl⟩
   ·exact h.elim
  ·rename_i n e hu
   obtain ⟨h0,h1,he,h⟩:=h
   split at h
   ·obtain ⟨b,hb,rfl⟩:=hx.ptr
    exact ⟨_,_,h,run_indexAt_array hu b _ k i h0 h1 (Option.isSome_iff_exists.1 he),VP.ptr hb,rfl⟩
   ·obtain ⟨b,hb,rfl⟩:=(hx : SV G w d (.lptr _ _ _) vx)
    exact ⟨_,_,h,run_indexAt_array hu b _ k i h0 h1 (Option.isSome_iff_exists.1 he),⟨b,hb,rfl⟩,rfl⟩
   ·obtain ⟨b,off,rfl,hc⟩:=(hx : VP G w (.vptr _) vx).at
    exact ⟨_,_,h,run_indexAt_array hu b _ k i h0 h1 (Option.isSome_iff_exists.1 he),vptr_drop hx _,rfl⟩
   ·exact h.elim
  ·exact h.elim
 ·exact h.elim
theorem dindex_sound {xt : TypeId} {x ix : DV} {vx vi : Value} (hx : SV G w d x vx) (hi : SV G w d ix vi) (h : dindex P xt x ix K) : PR P G w d K (Instr.index xt vx vi):=by
 unfold dindex at h
 split at h
 ·rename_i k i
  obtain rfl:=hi.int
  split at h
  ·rename_i s hu
   obtain rfl:=hx.str
   obtain ⟨h0,h1,h⟩:=h
   have hlt : i.toNat < s.length:=by omega
   refine ⟨_,.int .u8 (s.getD i.toNat 0).toNat,h,?_,VP.int _ _,rfl⟩
   have e : (⟨s.toArray⟩ : ByteArray)[i.toNat]? = some s[i.toNat]:=by
    rw [getElem?_pos (⟨s.toArray⟩ : ByteArray) i.toNat (by simpa [ByteArray.size] using hlt)]
    rfl
   simp only [Instr.index,asIntOf,Sem.run_bind,Sem.run_pure,Result.andThen_ok,run_underlying hu,h0,if_true,e]
   simp [List.getD,hlt]
  ·rename_i n e cs hu
   obtain ⟨vs,rfl,hl,hc⟩:=hx.agg
   obtain ⟨h0,h1,he,h⟩:=h
   obtain ⟨ds,he⟩:=Option.isSome_iff_exists.1 he
   obtain ⟨dv,v,h2,h3,h4⟩:=part_sound (d:=d) hl hc h
   exact ⟨dv,v,h2,by simp only [Instr.index,asIntOf,Sem.run_bind,Sem.run_pure,Result.andThen_ok,run_underlying hu,if_pos (show 0≤i∧i < (n : Int) from ⟨h0,h1⟩),run_sizeOf' he,h3],h4⟩
  ·exact h.elim
 ·exact h.elim
theorem dextract_sound {x : DV} {vx : Value} {i : Nat} (hx : SV G w d x vx) (h : dextract x i K) : PR P G w d K (Instr.extract vx i):=by
 unfold dextract at h
 split at h
 ·rename_i ds
  obtain ⟨vs,rfl,hl,hc⟩:=(hx : SV G w d (.tup ds) vx)
  split at h
  ·rename_i c hci
   have hlt : i < vs.size:=by rw [← hl]; exact (List.getElem?_eq_some_iff.1 hci).1
   have hv : vs[i]? = some vs[i]:=by simp [hlt]
   refine ⟨_,vs[i],h,by simp only [Instr.extract,hv,Sem.run_pure],SV.of_vp (hc i c _ hci hv).ro,?_⟩
   have:=noOwn_ro c
   have h2:=hc i c _ hci hv
   cases c <;> first | exact this | cases h2
  ·exact h.elim
 ·exact h.elim
theorem dbound_sound {x : Option DV} {vx : Option Value} {n dflt : Nat} {Q : Nat→Prop} (hx : match x,vx with | none,none => True | some a,some b => SV G w d a b | _,_ => False) (code : BoundsCode)
  (h : dbound n x dflt Q) : ∃ m,Q m∧(match vx with | some v => Instr.sliceBound v n code | none => (pure dflt : Sem Nat)).run P w = .ok m w∧(vx ≠ none→m≤n):=by
 unfold dbound at h
 split at h
 ·cases vx with
  | none => exact ⟨_,h,rfl,fun x => absurd rfl x⟩
  | some v => exact hx.elim
 ·rename_i k i
  cases vx with
  | none => exact hx.elim
  | some v =>
   obtain rfl:=SV.int hx
   obtain ⟨h0,h1,h⟩:=h
   refine ⟨_,h,run_sliceBound w k i n code h0 h1,fun _ => by omega⟩
 ·exact h.elim
theorem slice_bounds_cap {n cap : Nat} {lo hi : Option DV} {vlo vhi : Option Value} {F : Nat→Nat→Prop} (hn : n≤cap)
  (hlo : match lo,vlo with | none,none => True | some a,some b => SV G w d a b | _,_ => False) (hhi : match hi,vhi with | none,none => True | some a,some b => SV G w d a b | _,_ => False)
  (h : dbound cap hi n fun h => dbound h lo 0 fun l => F h l) : ∃ hh ll,F hh ll∧hh≤cap∧ll≤hh∧(Instr.sliceBounds true n cap vlo vhi none).run P w = .ok (ll,hh,cap) w:=by
 obtain ⟨hh,hq,hr,hle⟩:=dbound_sound (P:=P) hhi .sliceAcap h
 obtain ⟨ll,hk,hr2,hle2⟩:=dbound_sound (P:=P) hlo .sliceB hq
 have hhn : hh≤cap:=by
  cases vhi with
  | none => injection hr with a _; omega
  | some v => exact hle (by simp)
 have hll : ll≤hh:=by
  cases vlo with
  | none => injection hr2 with a _; omega
  | some v => exact hle2 (by simp)
 refine ⟨hh,ll,hk,hhn,hll,?_⟩
 cases vhi with
 | none =>
  simp only [Sem.run_pure] at hr
  have e1 : hh = n:=by injection hr with a _; exact a.symm
  subst e1
  cases vlo with
  | none =>
   simp only [Sem.run_pure] at hr2
   have e2 : ll = 0:=by injection hr2 with a _; exact a.symm
   subst e2
   simp [Instr.sliceBounds]
  | some v =>
   simp only [] at hr2
   simp [Instr.sliceBounds,hr2]
 | some u =>
  simp only [] at hr
  cases vlo with
  | none =>
   simp only [Sem.run_pure] at hr2
   have e2 : ll = 0:=by injection hr2 with a _; exact a.symm
   subst e2
   simp [Instr.sliceBounds,hr]
  | some v =>
   simp only [] at hr2
   simp [Instr.sliceBounds,hr,hr2]
theorem dslice_sound {t : TypeId} {x : DV} {vx : Value} {lo hi : Option DV} {vlo vhi : Option Value} (hx : SV G w d x vx)
  (hlo : match lo,vlo with | none,none => True | some a,some b => SV G w d a b | _,_ => False) (hhi : match hi,vhi with | none,none => True | some a,some b => SV G w d a b | _,_ => False)
  (h : dslice P t x lo hi K) : PR P G w d K (Instr.sliceAt t vx vlo vhi none):=by
 unfold dslice at h
 split at h
 ·rename_i s hu
  obtain rfl:=hx.str
  obtain ⟨hh,hq,hr,hle⟩:=dbound_sound (P:=P) hhi .sliceAlen h
  obtain ⟨ll,hk,hr2,_⟩:=dbound_sound (P:=P) hlo .sliceB hq
  have hsz : (⟨s.toArray⟩ : ByteArray).size = s.length:=by simp [ByteArray.size]
  refine ⟨_,.string ⟨((s.take hh).drop ll).toArray⟩,hk,?_,VP.str _,rfl⟩
  have e : (⟨s.toArray⟩ : ByteArray).extract ll hh = ⟨((s.take hh).drop ll).toArray⟩:=by
   apply ByteArray.ext
   rw [ByteArray.data_extract]
   simp [List.extract_eq_take_drop,List.drop_take]
  have hb : (Instr.sliceBounds false s.length s.length vlo vhi none).run P w = .ok (ll,hh,s.length) w:=by
   cases vhi with
   | none =>
    simp only [Sem.run_pure] at hr
    have e1 : hh = s.length:=by injection hr with a _; exact a.symm
    subst e1
    cases vlo with
    | none =>
     simp only [Sem.run_pure] at hr2
     have e2 : ll = 0:=by injection hr2 with a _; exact a.symm
     subst e2
     simp [Instr.sliceBounds]
    | some v =>
     simp only [] at hr2
     simp [Instr.sliceBounds,hr2]
   | some u =>
    simp only [] at hr
    cases vlo with
    | none =>
     simp only [Sem.run_pure] at hr2
     have e2 : ll = 0:=by injection hr2 with a _; exact a.symm
     subst e2
     simp [Instr.sliceBounds,hr]
    | some v =>
     simp only [] at hr2
     simp [Instr.sliceBounds,hr,hr2]
  simp [Instr.sliceAt,run_underlying hu,Instr.slice,hsz,hb,e]
 ·rename_i e own sz xs hu
  obtain ⟨hs,he,h⟩:=h
  obtain ⟨ds,he⟩:=Option.isSome_iff_exists.1 he
  obtain ⟨hh,hq,hr,hle⟩:=dbound_sound (P:=P) hhi .sliceAcap h
  obtain ⟨ll,hk,hr2,hle2⟩:=dbound_sound (P:=P) hlo .sliceB hq
  have hhn : hh≤xs.length:=by
   cases vhi with
   | none => injection hr with a _; omega
   | some v => exact hle (by simp)
  have hll : ll≤hh:=by
   cases vlo with
   | none => injection hr2 with a _; omega
   | some v => exact hle2 (by simp)
  have hb : ∀ cap,xs.length≤cap→(Instr.sliceBounds true xs.length cap vlo vhi none).run P w = .ok (ll,hh,cap) w:=by
   intro cap hcap
   have hr' : vhi ≠ none→(match vhi with | some v => Instr.sliceBound v cap .sliceAcap | none => (pure 0 : Sem Nat)).run P w = .ok hh w:=by
    intro hne
    cases vhi with
    | none => exact absurd rfl hne
    | some v =>
     cases hi with
     | none => exact hhi.elim
     | some a =>
      unfold dbound at h
      split at h
      ·cases ‹some a = none›
      ·rename_i k i heq
       cases heq
       obtain rfl:=SV.int hhi
       obtain ⟨h0,h1,_⟩:=h
       have e1:=run_sliceBound (P:=P) w k i xs.length .sliceAcap h0 (by omega)
       simp only [] at hr
       rw [e1] at hr
       injection hr with hr _
       simp only []
       rw [run_sliceBound (P:=P) w k i cap .sliceAcap h0 (by omega),hr]
      ·exact h.elim
   cases vhi with
   | none =>
    simp only [Sem.run_pure] at hr
    have e1 : hh = xs.length:=by injection hr with a _; exact a.symm
    subst e1
    cases vlo with
    | none =>
     simp only [Sem.run_pure] at hr2
     have e2 : ll = 0:=by injection hr2 with a _; exact a.symm
     subst e2
     simp [Instr.sliceBounds]
    | some v =>
     simp only [] at hr2
     simp [Instr.sliceBounds,hr2]
   | some u =>
    have hr':=hr' (by simp)
    simp only [] at hr'
    cases vlo with
    | none =>
     simp only [Sem.run_pure] at hr2
     have e2 : ll = 0:=by injection hr2 with a _; exact a.symm
     subst e2
     simp [Instr.sliceBounds,hr']
    | some v =>
     simp only [] at hr2
     simp [Instr.sliceBounds,hr',hr2]
  have hlen : ((xs.take hh).drop ll).length = hh - ll:=by simp; omega
  rcases VP.slAt hx with ⟨rfl,rfl⟩ | ⟨b,off,cap,rfl,hcap,hmax,hxs⟩
  ·have h1 : hh = 0:=by simpa using hhn
   have h2 : ll = 0:=by omega
   subst h1; subst h2
   have:=hb 0 (by simp)
   simp only [List.length_nil] at this
   refine ⟨_,.slice none 0 0,hk,by simp [Instr.sliceAt,run_underlying hu,Instr.slice,this,run_sizeOf' he],?_,rfl⟩
   show VP G w _ _
   simpa using (VP.sl0 : VP G w (.sl false sz []) _)
  ·cases hx with
   | sl f h1 h2 h3 h4 h5 h6 =>
    have hget : ∀ (i : Nat) (x : DV),((xs.take hh).drop ll)[i]? = some x→xs[ll + i]? = some x:=by
     intro i x hi
     rw [List.getElem?_drop,List.getElem?_take] at hi
     split at hi
     ·exact hi
     ·cases hi
    by_cases hcl : cap = ll
    ·
     have hz : hh = ll:=by omega
     refine ⟨_,.slice (some ⟨b,off,none⟩) 0 0,hk,?_,?_,rfl⟩
     ·simp only [Instr.sliceAt,run_underlying hu,Instr.slice,Sem.run_bind,Result.andThen_ok,hb cap hcap,run_sizeOf' he,Sem.run_pure]
      simp [hcl,hz]
     ·have hnil : (xs.take hh).drop ll = []:=by apply List.eq_nil_of_length_eq_zero; rw [hlen]; omega
      rw [hnil]
      exact VP.sl (fun _ _ => undef) rfl (Nat.le_refl _) (by unfold maxLen; omega) (by intro i x hi; simp at hi) (by intro i j x c hi; simp at hi) (by intro i j x c hi; simp at hi)
    ·refine ⟨_,.slice (some ⟨b,off + ll * sz,none⟩) (hh - ll) (cap - ll),hk,?_,?_,rfl⟩
     ·simp only [Instr.sliceAt,run_underlying hu,Instr.slice,Sem.run_bind,Result.andThen_ok,hb cap hcap,run_sizeOf' he,Sem.run_pure]
      simp [hcl,add_none,hs]
     ·refine VP.sl (fun i j => f (ll + i) j) hlen.symm (by omega) (by omega) (fun i x hi => h4 _ x (hget i x hi)) (fun i j x c hi hj => ?_) (fun i j x c hi hj => h6 _ j x c (hget i x hi) hj)
      have:=h5 (ll + i) j x c (hget i x hi) hj
      rw [Nat.add_mul] at this
      rw [Nat.add_assoc off]
      exact this
 ·rename_i e id sz off len cap hu
  obtain ⟨hs,he,h⟩:=h
  obtain ⟨ds,he⟩:=Option.isSome_iff_exists.1 he
  cases (hx : VP G w (.hsl ..) vx) with
  | hsl0 =>
   obtain ⟨hh,ll,hk,hhn,hll,hb⟩:=slice_bounds_cap (P:=P) (w:=w) (n:=0) (cap:=0) (F:=fun h l => K (.hsl id sz (off + l * sz) (h - l) (0 - l))) (Nat.le_refl _) hlo hhi h
   have hh0 : hh = 0:=by omega
   have hl0 : ll = 0:=by omega
   subst hh0 hl0
   refine ⟨_,.slice none 0 0,hk,?_,VP.hsl0,rfl⟩
   simp only [Instr.sliceAt,run_underlying hu,Instr.slice,Sem.run_bind,Result.andThen_ok,hb,run_sizeOf' he,Sem.run_pure]
   simp
  | hsl h2 h3 h4 =>
   rename_i off' b
   obtain ⟨hh,ll,hk,hhn,hll,hb⟩:=slice_bounds_cap (P:=P) (w:=w) (n:=len) (cap:=cap) (F:=fun h l => K (.hsl id sz (off + l * sz) (h - l) (cap - l))) h3 hlo hhi h
   by_cases hcl : cap = ll
   ·have hz : hh = ll:=by omega
    refine ⟨_,.slice (some ⟨b,off',none⟩) 0 0,hk,?_,?_,rfl⟩
    ·simp only [Instr.sliceAt,run_underlying hu,Instr.slice,Sem.run_bind,Result.andThen_ok,hb,run_sizeOf' he,Sem.run_pure]
     simp [hcl,hz]
    ·rw [hz,hcl,Nat.sub_self]
     exact VP.hsl h2 (Nat.le_refl _) (.inl rfl)
   ·refine ⟨_,.slice (some ⟨b,off' + ll * sz,none⟩) (hh - ll) (cap - ll),hk,?_,?_,rfl⟩
    ·simp only [Instr.sliceAt,run_underlying hu,Instr.slice,Sem.run_bind,Result.andThen_ok,hb,run_sizeOf' he,Sem.run_pure]
     simp [hcl,add_none,hs]
    ·refine VP.hsl h2 (by omega) ?_
     rcases h4 with h4 | rfl
     ·left; omega
     ·right; rfl
 ·exact h.elim
end Go.Ab
/- AcR4: Lengths,least and greatest,bytes as texts,lookups,new rows. -/
namespace Go.Ab
open Go Go.Conc Go.RowKit
variable {P : Program} {G : Gh} {w : World} {d : Nat} {K : DV→Prop}
theorem dlen_sound {N0 : Nat} {w0 : World} {st : St} {tmps : Array Value} (hR : Rel N0 w0 d G w st tmps) {t ty : TypeId} {x : DV} {vx : Value} (hx : SV G w d x vx) (h : dlen P st t x K) : PR P G w d K (Builtin.len_ #[t] ty #[vx]):=by
 unfold dlen at h
 split at h
 ·rename_i s hu
  obtain rfl:=hx.str
  exact ⟨_,.int .i64 s.length,h,by simp only [Builtin.len_,List.getElem?_toArray,List.getElem?_cons_zero,Sem.run_bind,run_underlying hu,Result.andThen_ok,goInt]; rfl,VP.int _ _,rfl⟩
 ·rename_i e own sz xs hu
  refine ⟨_,.int .i64 xs.length,h,?_,VP.int _ _,rfl⟩
  rcases VP.slAt hx with ⟨rfl,rfl⟩ | ⟨b,off,cap,rfl,_⟩
  ·simp [Builtin.len_,run_underlying hu,goInt]
  ·simp [Builtin.len_,run_underlying hu,goInt]
 ·rename_i e s g sz off len hu
  obtain ⟨b,cap,hb,rfl,_⟩:=(hx : SV G w d (.lsl _ _ _ _ _) vx)
  exact ⟨_,.int .i64 len,h,by simp [Builtin.len_,run_underlying hu,goInt],VP.int _ _,rfl⟩
 ·rename_i e id sz off len cap hu
  obtain ⟨b,rfl⟩ : ∃ b,vx = .slice b len cap:=by cases (hx : VP G w (.hsl ..) vx) <;> exact ⟨_,rfl⟩
  exact ⟨_,.int .i64 len,h,by simp [Builtin.len_,run_underlying hu,goInt],VP.int _ _,rfl⟩
 ·rename_i n e hu
  exact ⟨_,.int .i64 n,h,by simp [Builtin.len_,run_underlying hu,goInt],VP.int _ _,rfl⟩
 ·rename_i a b id hu
  obtain ⟨bk,hb,rfl⟩:=hx.map
  split at h
  ·rename_i es ho
   obtain ⟨b',ms,ck,h1,h2,h3,h4,h5,h6⟩:=hR.heap.objs _ _ ho
   obtain rfl : bk = b':=by rw [hb] at h1; exact Option.some.inj h1
   refine ⟨_,.int .i64 es.length,h,?_,VP.int _ _,rfl⟩
   have hg : (getObj bk).run P w = .ok (.map ms ck) w:=by simp [getObj,Sem.run,h3]
   simp [Builtin.len_,run_underlying hu,hg,goInt,h4]
  ·exact h.elim
 ·rename_i a b hu
  obtain rfl:=hx.nilmap
  exact ⟨_,.int .i64 0,h,by simp [Builtin.len_,run_underlying hu,goInt],VP.int _ _,rfl⟩
 ·exact h.elim
theorem dminmax_sound {mx : Bool} {xs : List DV} {vs : List Value} (hl : xs.length = vs.length) (hx : ∀ (i : Nat) (x : DV) (v : Value),xs[i]? = some x→vs[i]? = some v→SV G w d x v) (h : dminmax mx xs K) (ats : Array TypeId) (ty : TypeId) :
  PR P G w d K (if mx then Builtin.max_ ats ty vs.toArray else Builtin.min_ ats ty vs.toArray):=by
 unfold dminmax at h
 split at h
 ·rename_i k a j b
  match vs,hl with
  | [v1,v2],_ =>
   obtain rfl:=(hx 0 _ _ rfl rfl).int
   obtain rfl:=(hx 1 _ _ rfl rfl).int
   cases mx with
   | true => exact ⟨_,.int k (if a < b then b else a),h,by simp [Builtin.max_,Builtin.max2],VP.int _ _,rfl⟩
   | false => exact ⟨_,.int k (if b < a then b else a),h,by simp [Builtin.min_,Builtin.min2],VP.int _ _,rfl⟩
 ·exact h.elim
theorem bytesOf_some : ∀ {xs : List DV} {l : List UInt8},bytesOf xs = some l→∃ ns : List Int,xs = ns.map (DV.int .u8)∧l = ns.map fun n => UInt8.ofNat n.toNat
 | [],l,h => ⟨[],rfl,by simpa [bytesOf] using h.symm⟩
 | c :: r,l,h => by
  unfold bytesOf at h
  split at h
  ·cases ‹c :: r = []›
  ·rename_i n r' heq
   cases heq
   obtain ⟨bs',hb,rfl⟩:=Option.map_eq_some_iff.1 h
   obtain ⟨ns,rfl,rfl⟩:=bytesOf_some hb
   exact ⟨n :: ns,rfl,rfl⟩
  ·cases h
theorem strOfNums_eq (ns : List Int) : strOfNums ns = ⟨(ns.map fun n => UInt8.ofNat n.toNat).toArray⟩:=by
 apply ByteArray.ext
 have:=strOfNums_data ns
 exact Array.toList_inj.1 (by simpa using this)
theorem conv_bytes {src dst e : TypeId} (hs : P.underlying src = some (.slice e)) (he : P.underlying e = some (.int .u8)) (hd : P.underlying dst = some .string) {b off len cap : Nat} {cs : List DV} {l : List UInt8}
  (hc : CellsAt G w b off cs) (hlen : len≤cs.length) (hl : bytesOf (cs.take len) = some l) : (convert src dst (.slice (some ⟨b,off,none⟩) len cap)).run P w = .ok (.string ⟨l.toArray⟩) w:=by
 obtain ⟨ns,hns,rfl⟩:=bytesOf_some hl
 have hn : ns.length = len:=by have:=congrArg List.length hns; simp at this; omega
 rw [← strOfNums_eq]
 refine run_convert_bytes_arg w src e hs he b off len cap ns hn (fun i hi => ?_) dst hd
 have h1 : cs[i]? = some (.int .u8 (ns.getD i 0)):=by
  have h2 : (cs.take len)[i]? = cs[i]?:=by rw [List.getElem?_take,if_pos hi]
  rw [← h2,hns,List.getElem?_map,List.getElem?_eq_getElem (by omega)]
  simp [List.getD,hn,hi]
 obtain ⟨v,hv,hvp⟩:=hc i _ h1
 cases hvp
 exact hv
theorem dconv_sound {N0 : Nat} {w0 : World} {st : St} {tmps : Array Value} (hR : Rel N0 w0 d G w st tmps) {s t : TypeId} {x : DV} {vx : Value} (hx : SV G w d x vx) (h : dconv P st s t x K) : PR P G w d K (convert s t vx):=by
 unfold dconv at h
 split at h
 ·rename_i k n
  obtain rfl:=hx.int
  split at h
  ·rename_i u j hu hd
   exact ⟨_,.int j (j.wrap n),h,by simp [convert,run_underlying hu,run_underlying hd,Conv.intToInt],VP.int _ _,rfl⟩
  ·exact h.elim
 ·rename_i a
  obtain rfl:=hx.str
  split at h
  ·rename_i u hu hd
   refine ⟨_,.string ⟨a.toArray⟩,h,?_,VP.str _,rfl⟩
   simp only [convert,Sem.run_bind,run_underlying hu,run_underlying hd,Result.andThen_ok]
   cases u <;> rfl
  ·exact h.elim
 ·rename_i own sz xs
  split at h
  ·rename_i e hu hd
   obtain ⟨he,rfl,l,hl,h⟩:=h
   rcases VP.slAt hx with ⟨rfl,rfl⟩ | ⟨b,off,cap,rfl,_,_,hxs⟩
   ·simp only [bytesOf,Option.some.injEq] at hl
    subst hl
    exact ⟨_,_,h,run_convert_bytes_nil w s e hu he 0 0 t hd,VP.str _,rfl⟩
   ·refine ⟨_,_,h,conv_bytes (G:=G) (cs:=xs) hu he hd (fun j c hc => ?_) (Nat.le_refl _) (by rw [List.take_length]; exact hl),VP.str _,rfl⟩
    obtain ⟨h1,h2,h3⟩:=hxs j c hc
    obtain ⟨b',off',heq,hca⟩:=VP.at h3
    injection heq with heq
    injection heq with heq
    injection heq with e1 e2 _
    subst e1; subst e2
    have hcc : c.cells[0]? = some c:=by
     obtain ⟨ns,rfl,_⟩:=bytesOf_some hl
     rw [List.getElem?_map] at hc
     obtain ⟨n,_,rfl⟩:=Option.map_eq_some_iff.1 hc
     rfl
    obtain ⟨v,hv,hvp⟩:=hca 0 c hcc
    exact ⟨v,by simpa using hv,hvp⟩
  ·exact h.elim
 ·rename_i v g sz off len
  split at h
  ·rename_i e g' cs hu hd hb
   obtain ⟨he,rfl,rfl,hle,l,hl,h⟩:=h
   obtain ⟨b,cap,hbk,rfl,_⟩:=(hx : SV G w d (.lsl _ _ _ _ _) vx)
   obtain ⟨b',vs,e',h1,h2,h3,h4⟩:=hR.boxes _ _ _ hb
   obtain rfl : b = b':=by rw [hbk] at h1; exact Option.some.inj h1
   refine ⟨_,_,h,conv_bytes (G:=G) (cs:=cs.drop off) hu he hd ?_ (by simp; omega) hl,VP.str _,rfl⟩
   have:=(h4.at h3).drop off
   simpa using this
  ·exact h.elim
 ·rename_i id sz off len cap
  split at h
  ·rename_i e cs hu hd hb
   obtain ⟨he,rfl,hle,l,hl,h⟩:=h
   cases (hx : VP G w (.hsl ..) vx) with
   | hsl0 =>
    simp only [List.take_zero,bytesOf,Option.some.injEq] at hl
    subst hl
    exact ⟨_,_,h,run_convert_bytes_nil w s e hu he 0 0 t hd,VP.str _,rfl⟩
   | hsl k2 k3 k4 =>
    rename_i off' b
    obtain ⟨b',vs,e',h1,h2,h3,h4⟩:=hR.heap.objs _ _ hb
    obtain rfl : b = b':=by rw [k2] at h1; exact Option.some.inj h1
    rcases k4 with k4 | rfl
    ·have hl0 : len = 0:=by omega
     subst hl0
     exact ⟨_,_,h,conv_bytes (G:=G) (cs:=[]) hu he hd (fun j c hc => by simp at hc) (Nat.le_refl _) (by simpa using hl),VP.str _,rfl⟩
    ·refine ⟨_,_,h,conv_bytes (G:=G) (cs:=cs.drop off') hu he hd ?_ (by simp; omega) hl,VP.str _,rfl⟩
     have:=(h4.at h3).drop off'
     simpa using this
  ·exact h.elim
 ·exact h.elim
theorem byteBeq (a b : List UInt8) : ((⟨a.toArray⟩ : ByteArray) == ⟨b.toArray⟩) = decide (a = b):=by
 rw [Bool.eq_iff_iff]
 show (a.toArray == b.toArray) = true ↔ _
 simp
theorem dlookup_key {kt : TypeId} {k : DV} {vk : Value} (hk : VP G w k vk) (ht : keyT P kt k) (n : Nat) (b : Bool) : (Instr.checkKey b (n + 1) kt vk).run P w = .ok () w:=by
 unfold keyT at ht
 split at ht
 ·rename_i s hu
  cases hk
  simp [Instr.checkKey,run_underlying hu]
 ·rename_i j j' n' hu
  subst ht
  cases hk
  simp [Instr.checkKey,run_underlying hu]
 ·exact ht.elim
theorem findKey_sound {kt : TypeId} {k : DV} {vk : Value} (hk : VP G w k vk) (ht : keyT P kt k) : ∀ (es : List (DV × DV)) (ms : List MapEntry) (i : Nat) (r : Option DV),es.length = ms.length →
  (∀ (i : Nat) (e : DV × DV) (m : MapEntry),es[i]? = some e→ms[i]? = some m→VP G w e.1 m.key∧VP G w e.2 m.val)→findKeyD k es = some r →
  ∃ ds,P.underlying kt = some ds∧match r with
   | some v => ∃ j x,j < ms.length∧Instr.findNow ds vk ms i = some (some (i + j,x))∧VP G w v x∧ms[j]?.map (·.val) = some x∧es[j]?.map (·.2) = some v
   | none => Instr.findNow ds vk ms i = some none:=by
 intro es
 induction es with
 | nil =>
  intro ms i r hl _ h
  simp only [findKeyD,Option.some.injEq] at h
  subst h
  match ms,hl with
  | [],_ =>
   unfold keyT at ht
   split at ht
   ·exact ⟨_,‹_›,rfl⟩
   ·exact ⟨_,‹_›,rfl⟩
   ·exact ht.elim
 | cons e er ih =>
  intro ms i r hl hv h
  match ms,hl with
  | m :: mr,hl =>
   have h0:=hv 0 e m rfl rfl
   have ih':=fun r h => ih mr (i + 1) r (by simpa using hl) (fun j e' m' a b => hv (j + 1) e' m' (by simpa using a) (by simpa using b)) h
   obtain ⟨kx,vx⟩:=e
   have hsame : ∀ t,keyEq k kx = some t→∃ ds,P.underlying kt = some ds∧Instr.sameNow ds vk m.key = some t:=by
    intro t hkt
    unfold keyEq at hkt
    split at hkt
    ·rename_i j a j' b
     split at hkt
     ·rename_i hjj
      subst hjj
      have h1:=h0.1
      unfold keyT at ht
      split at ht
      ·cases ‹DV.int _ _ = DV.str _›
      ·rename_i q q' n' hu heq
       cases heq
       subst ht
       cases hk
       refine ⟨_,hu,?_⟩
       generalize hmk : m.key = mk at h1
       cases h1
       simp only [Instr.sameNow,if_true]
       rw [← hkt]
       congr 1
      ·exact ht.elim
     ·cases hkt
    ·rename_i a b
     have h1:=h0.1
     unfold keyT at ht
     split at ht
     ·rename_i hu heq
      cases heq
      cases hk
      refine ⟨_,hu,?_⟩
      generalize hmk : m.key = mk at h1
      cases h1
      simp only [Instr.sameNow]
      rw [← hkt]
      congr 1
      exact byteBeq _ _
     ·cases ‹DV.str _ = DV.int _ _›
     ·exact ht.elim
    ·cases hkt
   unfold findKeyD at h
   split at h
   ·rename_i hk1
    cases h
    obtain ⟨ds,hu,hs⟩:=hsame true hk1
    exact ⟨ds,hu,0,m.val,by simp,by simp [Instr.findNow,hs],h0.2,rfl,rfl⟩
   ·rename_i hk1
    obtain ⟨ds,hu,hs⟩:=hsame false hk1
    obtain ⟨ds',hu',h2⟩:=ih' r h
    obtain rfl : ds = ds':=by rw [hu] at hu'; exact Option.some.inj hu'
    refine ⟨ds,hu,?_⟩
    cases r with
    | none => simpa [Instr.findNow,hs] using h2
    | some v =>
     obtain ⟨j,x,h3,h4,h5,h6,h7⟩:=h2
     exact ⟨j + 1,x,by simp; omega,by simp only [Instr.findNow,hs]; rw [h4]; congr 3; omega,h5,by simpa using h6,by simpa using h7⟩
   ·cases h
theorem zeroOk_sound {t : TypeId} {zs : List DV} (h : zeroOk P t zs = true) : ∃ z,(zeroValue t).run P w = .ok z w∧VP G w (ofCells P t zs) z:=by
 unfold zeroOk at h
 split at h
 ·rename_i i hi
  split at h
  ·rename_i z hz
   simp only [Bool.and_eq_true,beq_iff_eq] at h
   obtain ⟨⟨⟨h1,h2⟩,h3⟩,h4⟩:=h
   refine ⟨z,by simp [zeroValue,typeInfo,hi,hz],?_⟩
   have hv : ∀ c v,vpc c v = true→VP G w c v:=by
    intro c v hcv
    unfold vpc at hcv
    split at hcv
    ·simp at hcv; subst hcv; exact .bool _
    ·simp at hcv; obtain ⟨rfl,rfl⟩:=hcv; exact .int _ _
    ·rename_i s r
     simp at hcv
     subst hcv
     exact .str _
    ·exact .nilp
    ·exact .sl0
    ·exact .nilmap
    ·exact .hsl0
    ·exact .any _
    ·cases hcv
   have hall : ∀ (j : Nat) (c : DV) (v : Value),zs[j]? = some c→z.cells[j]? = some v→VP G w c v:=by
    intro j c v hc hvv
    rw [List.all_eq_true] at h3
    refine hv c v (h3 (c,v) ?_)
    have : (zs.zip z.cells.toList)[j]? = some (c,v):=by
     rw [List.getElem?_zip_eq_some]
     exact ⟨hc,by simpa using hvv⟩
    exact List.mem_of_getElem? this
   unfold ofCells
   split
   ·rename_i ha
    rw [ha] at h4
    cases z with
    | agg cs => exact .agg h1 hall
    | _ => simp at h4
   ·rename_i ha
    have ha' : isAggT P t = false:=by simpa using ha
    rw [ha'] at h4
    have hcells : z.cells = #[z]:=by
     cases z with
     | agg cs => simp at h4
     | _ => rfl
    rw [hcells] at h1 hall
    match zs,h1 with
    | [c],_ => exact hall 0 c z rfl rfl
  ·cases h
 ·cases h
theorem noOwn_tup2 {v : DV} {b : Bool} (h : ∀ ds,v ≠ .tup ds) : (DV.tup [v.ro,.bool b]).noOwn = true:=by
 have:=noOwn_ro v
 cases v
 case tup ds => exact absurd rfl (h ds)
 case agg cs => simp only [DV.ro,DV.noOwn,DV.cells,List.all_cons,List.all_map,Bool.and_eq_true,List.all_eq_true] at this ⊢; exact ⟨this,by simp [DV.own1]⟩
 all_goals simp [DV.noOwn,DV.cells,DV.own1,DV.ro]
theorem VP.ne_tup {v : DV} {x : Value} (h : VP G w v x) : ∀ ds,v ≠ .tup ds:=by rintro ds rfl; cases h
theorem VP.noOwn_ro {v : DV} {x : Value} (h : VP G w v x) : v.ro.noOwn = true:=by
 have:=Ab.noOwn_ro v
 cases v <;> first | exact this | cases h
theorem dlookup_sound {N0 : Nat} {w0 : World} {st : St} {tmps : Array Value} (hR : Rel N0 w0 d G w st tmps) {mt : TypeId} {m k : DV} {vm vk : Value} {ok : Bool} (hm : SV G w d m vm) (hk : VP G w k vk) (h : dlookup P st mt m k ok K) :
  PR P G w d K (Instr.lookup mt vm vk ok):=by
 unfold dlookup at h
 split at h
 ·rename_i kt et hu
  obtain ⟨ht,h⟩:=h
  have fin : ∀ (es : Array MapEntry) (r : Option DV) (q : Option (Nat × Value)),((vm = .map none∧es = #[])∨∃ b ck,vm = .map (some b)∧(getObj b).run P w = .ok (.map es ck) w) →
    (Instr.findKey kt vk es.toList).run P w = .ok q w→(match r,q with | some v,some (_,x) => VP G w v x | none,none => True | _,_ => False) →
    lookFin P et ok K r →
    PR P G w d K (Instr.lookup mt vm vk ok):=by
   intro es r q hes hq hrq hK
   have hck:=dlookup_key (P:=P) (w:=w) hk ht 9999 es.isEmpty
   cases r with
   | some v =>
    cases q with
    | none => exact hrq.elim
    | some q =>
     obtain ⟨j,x⟩:=q
     refine ⟨_,if ok then .tuple #[x,.bool true] else x,hK,?_,?_,?_⟩
     ·rcases hes with ⟨rfl,rfl⟩ | ⟨b,ck,rfl,hg⟩
      ·simp only [Instr.lookup,Sem.run_bind,run_underlying hu,Result.andThen_ok,Sem.run_pure,hck,hq]
      ·simp only [Instr.lookup,Sem.run_bind,run_underlying hu,Result.andThen_ok,Sem.run_pure,hg,hck,hq]
     ·cases ok with
      | true =>
       refine ⟨_,rfl,rfl,fun j c x hc hx => ?_⟩
       match j with
       | 0 => cases hc; cases hx; exact VP.ro hrq
       | 1 => cases hc; cases hx; exact .bool _
       | n + 2 => simp at hc
      | false => exact SV.of_vp (VP.ro hrq)
     ·cases ok with
      | true => exact noOwn_tup2 (VP.ne_tup hrq)
      | false => exact VP.noOwn_ro hrq
   | none =>
    cases q with
    | some q => exact hrq.elim
    | none =>
     obtain ⟨hz,hK⟩:=hK
     obtain ⟨z,hzr,hzv⟩:=zeroOk_sound (G:=G) (w:=w) hz
     refine ⟨_,if ok then .tuple #[z,.bool false] else z,hK,?_,?_,?_⟩
     ·rcases hes with ⟨rfl,rfl⟩ | ⟨b,ck,rfl,hg⟩
      ·simp only [Instr.lookup,Sem.run_bind,run_underlying hu,Result.andThen_ok,Sem.run_pure,hck,hq,hzr]
      ·simp only [Instr.lookup,Sem.run_bind,run_underlying hu,Result.andThen_ok,Sem.run_pure,hg,hck,hq,hzr]
     ·cases ok with
      | true =>
       refine ⟨_,rfl,rfl,fun j c x hc hx => ?_⟩
       match j with
       | 0 => cases hc; cases hx; exact VP.ro hzv
       | 1 => cases hc; cases hx; exact .bool _
       | n + 2 => simp at hc
      | false => exact SV.of_vp (VP.ro hzv)
     ·cases ok with
      | true => exact noOwn_tup2 (VP.ne_tup hzv)
      | false => exact VP.noOwn_ro hzv
  split at h
  ·obtain rfl:=hm.nilmap
   refine fin #[] none none (.inl ⟨rfl,rfl⟩) ?_ trivial h
   unfold keyT at ht
   split at ht
   ·simp [Instr.findKey,run_underlying ‹_›,Instr.findNow]
   ·simp [Instr.findKey,run_underlying ‹_›,Instr.findNow]
   ·exact ht.elim
  ·rename_i id
   obtain ⟨b,hb,rfl⟩:=hm.map
   split at h
   ·rename_i es ho
    obtain ⟨b',ms,ck,h1,h2,h3,h4,h5,h6⟩:=hR.heap.objs _ _ ho
    obtain rfl : b = b':=by rw [hb] at h1; exact Option.some.inj h1
    have hg : (getObj b).run P w = .ok (.map ms ck) w:=by simp [getObj,Sem.run,h3]
    split at h
    ·rename_i r hr
     obtain ⟨ds,hds,hfn⟩:=findKey_sound (P:=P) hk ht es ms.toList 0 r (by simpa using h4) (fun i e m a b => ⟨(h5 i e m a (by simpa using b)).1,(h5 i e m a (by simpa using b)).2.1⟩) hr
     cases r with
     | some v =>
      obtain ⟨j,x,_,hf,hv,_⟩:=hfn
      exact fin ms (some v) (some (0 + j,x)) (.inr ⟨b,ck,rfl,hg⟩) (by simp [Instr.findKey,run_underlying hds,hf]) hv h
     | none => exact fin ms none none (.inr ⟨b,ck,rfl,hg⟩) (by simp [Instr.findKey,run_underlying hds,hfn]) trivial h
    ·exact h.elim
   ·exact h.elim
  ·exact h.elim
 ·exact h.elim
end Go.Ab
/- AcE: Rights handed on; states that say less. -/
namespace Go.Ab
open Go Go.Conc Go.RowKit
def DV.roA : DV→DV
 | .tup ds => .tup (ds.map DV.ro)
 | d => d.ro
theorem noOwn_roA (d : DV) : d.roA.noOwn = true:=by
 cases d
 case tup ds =>
  simp only [DV.roA,DV.noOwn,List.all_map,List.all_eq_true]
  intro x _
  simp only [Function.comp,List.all_eq_true]
  intro y hy
  cases x
  case agg cs =>
   simp only [DV.ro,DV.cells,List.mem_map] at hy
   obtain ⟨z,_,rfl⟩:=hy
   simp [own1_ro1]
  all_goals (simp only [DV.ro,DV.cells,List.mem_singleton] at hy; subst hy; rfl)
 case agg cs => exact noOwn_ro (.agg cs)
 all_goals rfl
def Role.ren (f : Owner→Owner) : Role→Role
 | .arr o wm => .arr (f o) wm
 | r => r
def Gh.ren (f : Owner→Owner) (G : Gh) : Gh:={ G with role:=fun b => (G.role b).ren f }
@[simp] theorem Gh.ren_bl (f : Owner→Owner) (G : Gh) : (G.ren f).bl = G.bl:=rfl
@[simp] theorem Gh.ren_lb (f : Owner→Owner) (G : Gh) : (G.ren f).lb = G.lb:=rfl
@[simp] theorem Gh.ren_role (f : Owner→Owner) (G : Gh) (b : Nat) : (G.ren f).role b = (G.role b).ren f:=rfl
theorem still_ren (f : Owner→Owner) (r : Role) (o : Nat) : (r.ren f).still o ↔ r.still o:=by
 cases r <;> simp only [Role.ren,Role.still]
 ·constructor
  ·rintro (h | ⟨ow,wm,h,hl⟩)
   ·cases h
   ·cases h; exact .inr ⟨_,_,rfl,hl⟩
  ·rintro (h | ⟨ow,wm,h,hl⟩)
   ·cases h
   ·cases h; exact .inr ⟨_,_,rfl,hl⟩
section
variable {G : Gh} {w : World} {f : Owner→Owner}
theorem keep_ren : Keep G w (G.ren f) w:=⟨fun b o v h => ⟨(still_ren f _ _).2 h.1,h.2⟩,fun _ _ h => h⟩
theorem OwnV.ren {o : Owner} {sz : Nat} {v : Value} (h : OwnV G w o sz v) : OwnV (G.ren f) w (f o) sz v:=by
 rcases h with h | ⟨b,len,cap,cur,e,h1,h2,h3⟩
 ·exact .inl h
 ·exact .inr ⟨b,len,cap,cur,e,h1,by simp [h2,Role.ren],h3⟩
theorem Owns.ren {o : Owner} {c : DV} {v : Value} (h : Owns G w o c v) : Owns (G.ren f) w (f o) c v:=fun sz xs e => (h sz xs e).ren
def CWk (f : Owner→Owner) (o : Owner) (c c' : DV) : Prop:=(c' = c∧f o = o)∨c' = c.ro1∨c' = .undef
def SWk (f : Owner→Owner) (mk : Nat→Nat→Owner) (c c' : DV) : Prop:=(c' = c∧∀ i j,f (mk i j) = mk i j)∨c' = c.roA∨c' = .undef
def CsWk (f : Owner→Owner) (mk : Nat→Owner) (cs cs' : List DV) : Prop:=cs'.length = cs.length∧∀ (j : Nat) (c' : DV),cs'[j]? = some c'→∃ c,cs[j]? = some c∧CWk f (mk j) c c'
def HWk (f : Owner→Owner) (id : Nat) : HObj→HObj→Prop
 | .cells cs,.cells cs' => CsWk f (.hp id) cs cs'
 | .map es,.map es' => es' = es
 | _,_ => False
structure StWk (f : Owner→Owner) (d : Nat) (st st' : St) : Prop where
 t : st'.t.length = st.t.length∧∀ (s : Nat) (dv' : DV),st'.t[s]? = some dv'→∃ dv,st.t[s]? = some dv∧SWk f (.slot d s) dv dv'
 B : ∀ s g cs',bget s st'.B = some (g,cs')→∃ cs,bget s st.B = some (g,cs)∧CsWk f (.box d s) cs cs'
 gen : ∀ s,bgen s st.B≤bgen s st'.B
 H : st'.H.length = st.H.length∧∀ (id : Nat) (ob' : HObj),st'.H[id]? = some ob'→∃ ob,st.H[id]? = some ob∧HWk f id ob ob'
 lk : ∀ x,x∈st'.lk→x∈st.lk
theorem CWk.sound {o : Owner} {c c' : DV} {v : Value} (hw : CWk f o c c') (h : VP G w c v∧Owns G w o c v) : VP (G.ren f) w c' v∧Owns (G.ren f) w o c' v:=by
 rcases hw with ⟨rfl,hf⟩ | rfl | rfl
 ·exact ⟨h.1.keep keep_ren,by have:=h.2.ren (f:=f); rwa [hf] at this⟩
 ·exact ⟨h.1.ro1.keep keep_ren,fun sz xs e => absurd e (not_own1 (own1_ro1 c) sz xs)⟩
 ·exact ⟨.undef _,fun sz xs e => by cases e⟩
theorem CsWk.sound {mk : Nat→Owner} {cs cs' : List DV} {vs : Array Value} (hw : CsWk f mk cs cs') (h : CellsRel G w mk cs vs) : CellsRel (G.ren f) w mk cs' vs :=
 ⟨hw.1.trans h.1,fun j c' v hc hv => by
  obtain ⟨c,hc0,hcw⟩:=hw.2 j c' hc
  exact hcw.sound (h.2 j c v hc0 hv)⟩
theorem SV.roA {d : Nat} {dv : DV} {v : Value} (h : SV G w d dv v) : SV G w d dv.roA v:=by
 cases dv
 case tup ds =>
  obtain ⟨vs,h1,h2,h3⟩:=h
  refine ⟨vs,h1,by simpa using h2,fun j c x hc hx => ?_⟩
  rw [List.getElem?_map] at hc
  obtain ⟨c0,hc0,rfl⟩:=Option.map_eq_some_iff.1 hc
  exact (h3 j c0 x hc0 hx).ro
 all_goals exact SV.ro h
theorem SV.ren {d : Nat} {dv : DV} {v : Value} (h : SV G w d dv v) : SV (G.ren f) w d dv v:=by
 cases dv
 case lptr s g off => exact h
 case lsl s g sz off len => exact h
 case tup ds => obtain ⟨vs,h1,h2,h3⟩:=h; exact ⟨vs,h1,h2,fun j c x hc hx => (h3 j c x hc hx).keep keep_ren⟩
 all_goals exact VP.keep keep_ren h
theorem SWk.sound {d : Nat} {mk : Nat→Nat→Owner} {dv dv' : DV} {v : Value} (hw : SWk f mk dv dv') (h : SV G w d dv v∧SOwn G w mk dv v) : SV (G.ren f) w d dv' v∧SOwn (G.ren f) w mk dv' v:=by
 rcases hw with ⟨rfl,hf⟩ | rfl | rfl
 ·exact ⟨h.1.ren,fun i j c x hc hx => by have:=(h.2 i j c x hc hx).ren (f:=f); rwa [hf] at this⟩
 ·exact ⟨h.1.roA.ren,sown_of_noOwn (noOwn_roA _)⟩
 ·exact ⟨VP.undef _,sown_of_noOwn rfl⟩
theorem WRel.wk {N0 : Nat} {w0 : World} {H H' : List HObj} (h : WRel N0 w0 G w H) (hl : H'.length = H.length) (hH : ∀ (id : Nat) (ob' : HObj),H'[id]? = some ob'→∃ ob,H[id]? = some ob∧HWk f id ob ob') : WRel N0 w0 (G.ren f) w H' where
 below:=h.below
 le:=h.le
 low b hb:=by
  rcases h.low b hb with e | e <;> simp [e,Role.ren]
 fresh b hb:=by simp [h.fresh b hb,Role.ren]
 objs id ob' ho:=by
  obtain ⟨ob,h1,h2⟩:=hH id ob' ho
  have h3:=h.objs id ob h1
  cases ob with
  | cells cs =>
   cases ob' with
   | cells cs' =>
    obtain ⟨b,vs,e,a1,a2,a3,a4⟩:=h3
    exact ⟨b,vs,e,a1,by simp [a2,Role.ren],a3,h2.sound a4⟩
   | map es => exact h2.elim
  | map es =>
   cases ob' with
   | cells cs' => exact h2.elim
   | map es' =>
    have e : es' = es:=h2
    subst e
    obtain ⟨b,ms,ck,a1,a2,a3,a4,a5,a6⟩:=h3
    exact ⟨b,ms,ck,a1,by simp [a2,Role.ren],a3,a4,fun i e m he hm => ⟨(a5 i e m he hm).1.keep keep_ren,(a5 i e m he hm).2.1.keep keep_ren,(a5 i e m he hm).2.2⟩,a6⟩
 none id hid:=h.none id (by omega)
theorem posVal_ren {d : Nat} {tmps : Array Value} (p : Pos) : posVal (G.ren f) w d tmps p = posVal G w d tmps p:=by
 have h1 : ∀ (r : Role) i,r.ren f = .obj i ↔ r = .obj i:=by intro r i; cases r <;> simp [Role.ren]
 have h2 : ∀ (r : Role) e s,r.ren f = .box e s ↔ r = .box e s:=by intro r e s; cases r <;> simp [Role.ren]
 cases p <;> simp [posVal,h1,h2]
theorem Rel.wk {N0 : Nat} {w0 : World} {d : Nat} {st st' : St} {tmps : Array Value} (h : Rel N0 w0 d G w st tmps) (hw : StWk f d st st') : Rel N0 w0 d (G.ren f) w st' tmps where
 len:=hw.t.1.trans h.len
 slots s dv' v hs hv:=by
  obtain ⟨dv,h1,h2⟩:=hw.t.2 s dv' hs
  exact h2.sound (h.slots s dv v h1 hv)
 boxes s g cs' hb:=by
  obtain ⟨cs,h1,h2⟩:=hw.B s g cs' hb
  obtain ⟨b,vs,e,a1,a2,a3,a4⟩:=h.boxes s g cs h1
  exact ⟨b,vs,e,a1,by simp [a2,Role.ren],a3,h2.sound a4⟩
 nobox s g hg:=h.nobox s g (Nat.le_trans (hw.gen s) hg)
 links t p v hl ht:=by rw [posVal_ren]; exact h.links t p v (hw.lk _ hl) ht
 heap:=h.heap.wk hw.H.1 hw.H.2
theorem ext_ren {d : Nat} (hf : ∀ o,o.outer d→f o = o) : Ext d G w (G.ren f) w :=
 ⟨keep_ren,fun b e s _ h => ⟨by simp [h,Role.ren],rfl⟩,fun b o wm ho h => ⟨by simp [h,Role.ren,hf o ho],rfl⟩,fun _ _ _ _ => rfl,Nat.le_refl _⟩
end
theorem Gh.ren_id (G : Gh) : G.ren id = G:=by
 cases G with
 | mk role bl lb =>
  simp only [Gh.ren,Gh.mk.injEq,and_true]
  funext b
  cases role b <;> rfl
theorem SWk.refl (mk : Nat→Nat→Owner) (dv : DV) : SWk id mk dv dv:=.inl ⟨rfl,fun _ _ => rfl⟩
theorem CWk.refl (o : Owner) (c : DV) : CWk id o c c:=.inl ⟨rfl,rfl⟩
end Go.Ab
/- AcT: Taking a value with its right,and laying it into a slot. -/
namespace Go.Ab
open Go Go.Conc Go.RowKit
def Pos.atSlot (d : Nat) : Pos→Bool
 | .slot s _ => s == d
 | _ => false
def lkGet (s : Nat) : List (Nat × Pos)→Option Pos
 | [] => none
 | (x,p) :: r => if x = s then some p else lkGet s r
def St.put (st : St) (s : Nat) (dv : DV) : St:={ st with t:=st.t.set s dv,lk:=st.lk.filter fun x => !(x.1 == s) && !x.2.atSlot s }
def St.put? (st : St) (s : Option Nat) (dv : DV) : St:=match s with | some s => st.put s dv | none => st
def ownSz : Option DV→Option Nat
 | some (.sl true sz _) => some sz
 | _ => none
def ownAt (st : St) : Pos→Option Nat
 | .slot s i => ownSz ((st.t[s]?).bind (DV.part i 0))
 | .box s g off => match bget s st.B with | some (g',cs) => if g' = g then ownSz cs[off]? else none | none => none
 | .hp id off => match st.H[id]? with | some (.cells cs) => ownSz cs[off]? | _ => none
def listRo (cs : List DV) (off : Nat) : List DV:=cs.set off (cs.getD off .undef).ro1
def unown (st : St) : Pos→St
 | .slot s _ => { st with t:=st.t.set s (st.t.getD s .undef).roA }
 | .box s _ off => match bget s st.B with | some (g,cs) => { st with B:=bset s g (listRo cs off) st.B } | none => st
 | .hp id off => match st.H[id]? with | some (.cells cs) => { st with H:=st.H.set id (.cells (listRo cs off)) } | _ => st
def take (P : Program) (st : St) (ty : TypeId) : Operand→DV × St
 | .tmp s => match st.t.getD s .undef with
  | .sl false sz xs => match lkGet s st.lk with
   | some p => if ownAt st p = some sz then (.sl true sz xs,unown st p) else (.sl false sz xs,st)
   | none => (.sl false sz xs,st)
  | .sl true sz xs => (.sl true sz xs,{ st with t:=st.t.set s (.sl false sz xs) })
  | .agg cs => (.agg cs,{ st with t:=st.t.set s (.agg (cs.map DV.ro1)) })
  | dv => (dv.roA,st)
 | x => (rho P st ty x,st)
theorem bget_bset_same (s g : Nat) (cs : List DV) : ∀ B,bget s (bset s g cs B) = some (g,cs)
 | [] => by simp [bset,bget]
 | (x,h,ds) :: r => by
  unfold bset
  split
  ·simp [bget]
  ·rename_i hx; simp [bget,hx,bget_bset_same s g cs r]
theorem bget_bset_ne {s s' : Nat} (g : Nat) (cs : List DV) (h : s' ≠ s) : ∀ B,bget s' (bset s g cs B) = bget s' B
 | [] => by simp [bset,bget,Ne.symm h]
 | (x,q,ds) :: r => by
  unfold bset
  split
  ·rename_i hx; subst hx; simp [bget,Ne.symm h]
  ·simp only [bget,bget_bset_ne g cs h r]
theorem bgen_bset_same (s g : Nat) (cs : List DV) (B) : bgen s (bset s g cs B) = g + 1:=by simp [bgen,bget_bset_same]
theorem bgen_bset_ne {s s' : Nat} (g : Nat) (cs : List DV) (h : s' ≠ s) (B) : bgen s' (bset s g cs B) = bgen s' B:=by simp [bgen,bget_bset_ne g cs h]
variable {P : Program} {G : Gh} {w : World} {d : Nat}
theorem Rel.put {N0 : Nat} {w0 : World} {st : St} {tmps : Array Value} (h : Rel N0 w0 d G w st tmps) {s : Nat} {dv : DV} {v : Value} (hv : SV G w d dv v) (ho : SOwn G w (.slot d s) dv v) :
  Rel N0 w0 d G w (st.put s dv) (tmps.setIfInBounds s v) where
 len:=by simp [St.put,h.len]
 slots s' dv' v' hs hv':=by
  simp only [St.put] at hs
  by_cases e : s = s'
  ·subst e
   rw [List.getElem?_set] at hs
   rw [Array.getElem?_setIfInBounds] at hv'
   simp only [if_true] at hs hv'
   split at hs
   ·rename_i h1
    cases hs
    rw [if_pos (by rw [← h.len]; exact h1)] at hv'
    cases hv'
    exact ⟨hv,ho⟩
   ·cases hs
  ·rw [List.getElem?_set_ne e] at hs
   rw [Array.getElem?_setIfInBounds_ne e] at hv'
   exact h.slots s' dv' v' hs hv'
 boxes:=h.boxes
 nobox:=h.nobox
 links t p x hl ht:=by
  simp only [St.put,List.mem_filter,Bool.and_eq_true,Bool.not_eq_true',beq_eq_false_iff_ne,ne_eq] at hl
  obtain ⟨h1,h2,h3⟩:=hl
  rw [Array.getElem?_setIfInBounds_ne (Ne.symm h2)] at ht
  have:=h.links t p x h1 ht
  cases p with
  | slot s' i =>
   simp only [Pos.atSlot,beq_eq_false_iff_ne,ne_eq] at h3
   simp only [posVal,Array.getElem?_setIfInBounds_ne (Ne.symm h3)]
   exact this
  | box s' g off => exact this
  | hp id off => exact this
 heap:=h.heap
def toSlot (d s : Nat) (o : Owner) : Owner:=match o with | .ret e i j => if e = d then .slot d s i j else o | _ => o
theorem toSlot_outer {d s : Nat} {o : Owner} (h : o.outer d) : toSlot d s o = o:=by
 cases o <;> simp only [toSlot,Owner.outer] at * 
 split
 ·omega
 ·rfl
theorem StWk.of_fix {f : Owner→Owner} {st : St} (h1 : ∀ s i j,f (.slot d s i j) = .slot d s i j) (h2 : ∀ s j,f (.box d s j) = .box d s j) (h3 : ∀ id j,f (.hp id j) = .hp id j) : StWk f d st st where
 t:=⟨rfl,fun s dv' hs => ⟨dv',hs,.inl ⟨rfl,fun i j => h1 s i j⟩⟩⟩
 B s g cs' hb:=⟨cs',hb,rfl,fun j c' hc => ⟨c',hc,.inl ⟨rfl,h2 s j⟩⟩⟩
 gen _:=Nat.le_refl _
 H:=⟨rfl,fun id ob' ho => ⟨ob',ho,by
  cases ob' with
  | cells cs => exact ⟨rfl,fun j c' hc => ⟨c',hc,.inl ⟨rfl,h3 id j⟩⟩⟩
  | map es => rfl⟩⟩
 lk _ hx:=hx
theorem Rel.place {N0 : Nat} {w0 : World} {st : St} {tmps : Array Value} (h : Rel N0 w0 d G w st tmps) {s : Nat} {dv : DV} {v : Value} (hv : SV G w d dv v) (ho : SOwn G w (.ret d) dv v) :
  ∃ G',Rel N0 w0 d G' w (st.put s dv) (tmps.setIfInBounds s v)∧Ext d G w G' w:=by
 refine ⟨G.ren (toSlot d s),(h.wk (StWk.of_fix (fun _ _ _ => rfl) (fun _ _ => rfl) (fun _ _ => rfl))).put hv.ren fun i j c x hc hx => ?_,ext_ren fun o ho => toSlot_outer ho⟩
 have:=(ho i j c x hc hx).ren (f:=toSlot d s)
 simpa [toSlot] using this
def ownerOf (d : Nat) : Pos→Owner
 | .slot s i => .slot d s i 0
 | .box s _ off => .box d s off
 | .hp id off => .hp id off
def grab (o q : Owner) (x : Owner) : Owner:=if x = o then q else x
theorem ownSz_some {c : Option DV} {sz : Nat} (h : ownSz c = some sz) : ∃ xs,c = some (.sl true sz xs):=by
 unfold ownSz at h
 split at h
 ·cases h; exact ⟨_,rfl⟩
 ·cases h
theorem SWk.roA (f : Owner→Owner) (mk : Nat→Nat→Owner) (dv : DV) : SWk f mk dv dv.roA:=.inr (.inl rfl)
theorem StWk.slot {st : St} {s : Nat} {f : Owner→Owner} (h1 : ∀ s' i j,s' ≠ s→f (.slot d s' i j) = .slot d s' i j) (h2 : ∀ s j,f (.box d s j) = .box d s j) (h3 : ∀ id j,f (.hp id j) = .hp id j) (dv : DV) (hdv : dv = (st.t.getD s .undef).roA) :
  StWk f d st { st with t:=st.t.set s dv } where
 t:=⟨by simp,fun s' dv' hs => by
  by_cases e : s = s'
  ·subst e
   rw [List.getElem?_set] at hs
   simp only [if_true] at hs
   split at hs
   ·rename_i hl
    cases hs
    refine ⟨st.t[s],by simp [hl],.inr (.inl ?_)⟩
    rw [hdv]; simp [List.getD,hl]
   ·cases hs
  ·rw [List.getElem?_set_ne e] at hs
   exact ⟨dv',hs,.inl ⟨rfl,fun i j => h1 s' i j (Ne.symm e)⟩⟩⟩
 B s g cs' hb:=⟨cs',hb,rfl,fun j c' hc => ⟨c',hc,.inl ⟨rfl,h2 s j⟩⟩⟩
 gen _:=Nat.le_refl _
 H:=⟨rfl,fun id ob' ho => ⟨ob',ho,by
  cases ob' with
  | cells cs => exact ⟨rfl,fun j c' hc => ⟨c',hc,.inl ⟨rfl,h3 id j⟩⟩⟩
  | map es => rfl⟩⟩
 lk _ hx:=hx
theorem listRo_wk {f : Owner→Owner} {mk : Nat→Owner} (cs : List DV) (off : Nat) (h : ∀ j,j ≠ off→f (mk j) = mk j) : CsWk f mk cs (listRo cs off):=by
 refine ⟨by simp [listRo],fun j c' hc => ?_⟩
 unfold listRo at hc
 by_cases e : off = j
 ·subst e
  rw [List.getElem?_set] at hc
  simp only [if_true] at hc
  split at hc
  ·rename_i hl
   cases hc
   exact ⟨cs[off],by simp [hl],.inr (.inl (by simp [List.getD,hl]))⟩
  ·cases hc
 ·rw [List.getElem?_set_ne e] at hc
  exact ⟨c',hc,.inl ⟨rfl,h j (Ne.symm e)⟩⟩
theorem unown_wk {st : St} (p : Pos) (hg : ∀ s g off,p = .box s g off→∃ cs,bget s st.B = some (g,cs)) : StWk (grab (ownerOf d p) (.ret d 0 0)) d st (unown st p):=by
 cases p with
 | slot s i =>
  refine StWk.slot (fun s' i' j h => ?_) (fun s j => ?_) (fun id j => ?_) _ rfl
  ·simp [grab,ownerOf,h]
  ·simp [grab,ownerOf]
  ·simp [grab,ownerOf]
 | box s g off =>
  obtain ⟨cs,hb⟩:=hg s g off rfl
  simp only [unown,hb]
  refine ⟨⟨rfl,fun s' dv' hs => ⟨dv',hs,.inl ⟨rfl,fun i j => by simp [grab,ownerOf]⟩⟩⟩,fun s' g' cs' hb' => ?_,fun s' => ?_,⟨rfl,fun id ob' ho => ⟨ob',ho,?_⟩⟩,fun _ hx => hx⟩
  ·by_cases e : s' = s
   ·subst e
    rw [bget_bset_same] at hb'
    cases hb'
    exact ⟨cs,hb,listRo_wk cs off fun j hj => by simp [grab,ownerOf,hj]⟩
   ·rw [bget_bset_ne _ _ e] at hb'
    exact ⟨cs',hb',rfl,fun j c' hc => ⟨c',hc,.inl ⟨rfl,by simp [grab,ownerOf,e]⟩⟩⟩
  ·by_cases e : s' = s
   ·subst e
    rw [bgen_bset_same]
    simp [bgen,hb]
   ·rw [bgen_bset_ne _ _ e]; exact Nat.le_refl _
  ·cases ob' with
   | cells cs => exact ⟨rfl,fun j c' hc => ⟨c',hc,.inl ⟨rfl,by simp [grab,ownerOf]⟩⟩⟩
   | map es => rfl
 | hp id off =>
  by_cases h : ∃ cs,st.H[id]? = some (.cells cs)
  case neg =>
   have e : unown st (.hp id off) = st:=by
    simp only [unown]
    split
    ·exact absurd ⟨_,‹_›⟩ h
    ·rfl
   rw [e]
   refine ⟨⟨rfl,fun s' dv' hs => ⟨dv',hs,.inl ⟨rfl,fun i j => by simp [grab,ownerOf]⟩⟩⟩,fun s' g' cs' hb' => ⟨cs',hb',rfl,fun j c' hc => ⟨c',hc,.inl ⟨rfl,by simp [grab,ownerOf]⟩⟩⟩,fun _ => Nat.le_refl _,⟨rfl,fun id' ob' ho => ⟨ob',ho,?_⟩⟩,fun _ hx => hx⟩
   cases ob' with
   | cells cs =>
    have hne : id' ≠ id:=by rintro rfl; exact h ⟨cs,ho⟩
    exact ⟨rfl,fun j c' hc => ⟨c',hc,.inl ⟨rfl,by simp [grab,ownerOf,hne]⟩⟩⟩
   | map es => rfl
  case pos =>
   obtain ⟨cs,hcs⟩:=h
   simp only [unown,hcs]
   refine ⟨⟨rfl,fun s' dv' hs => ⟨dv',hs,.inl ⟨rfl,fun i j => by simp [grab,ownerOf]⟩⟩⟩,fun s' g' cs' hb' => ⟨cs',hb',rfl,fun j c' hc => ⟨c',hc,.inl ⟨rfl,by simp [grab,ownerOf]⟩⟩⟩,fun _ => Nat.le_refl _,⟨by simp,fun id' ob' ho => ?_⟩,fun _ hx => hx⟩
   by_cases e : id = id'
   ·subst e
    rw [List.getElem?_set] at ho
    simp only [if_true] at ho
    split at ho
    ·cases ho
     exact ⟨_,hcs,listRo_wk cs off fun j hj => by simp [grab,ownerOf,hj]⟩
    ·cases ho
   ·rw [List.getElem?_set_ne e] at ho
    refine ⟨ob',ho,?_⟩
    cases ob' with
    | cells cs => exact ⟨rfl,fun j c' hc => ⟨c',hc,.inl ⟨rfl,by simp [grab,ownerOf,Ne.symm e]⟩⟩⟩
    | map es => rfl
end Go.Ab
/- AcU: What is taken is what lay there,with its right. -/
namespace Go.Ab
open Go Go.Conc Go.RowKit
variable {P : Program} {G : Gh} {w : World} {d : Nat}
theorem own_at_pos {N0 : Nat} {w0 : World} {st : St} {tmps : Array Value} (h : Rel N0 w0 d G w st tmps) {p : Pos} {sz : Nat} {v : Value} (ho : ownAt st p = some sz) (hp : posVal G w d tmps p = some v) : OwnV G w (ownerOf d p) sz v:=by
 cases p with
 | slot s i =>
  obtain ⟨xs,hx⟩:=ownSz_some ho
  simp only [Option.bind_eq_some_iff] at hx
  obtain ⟨dv,h1,h2⟩:=hx
  simp only [posVal,Option.bind_eq_some_iff] at hp
  obtain ⟨v',h3,h4⟩:=hp
  exact (h.slots s dv v' h1 h3).2 i 0 _ _ h2 h4 sz xs rfl
 | box s g off =>
  simp only [ownAt] at ho
  split at ho
  ·rename_i g' cs hb
   split at ho
   ·rename_i hg
    subst hg
    obtain ⟨xs,hx⟩:=ownSz_some ho
    obtain ⟨b,vs,e,h1,h2,h3,h4⟩:=h.boxes _ _ _ hb
    simp only [posVal,h1,Option.bind_some,h2,if_true,World.cell?,h3] at hp
    exact (h4.2 off _ v hx (by simpa using hp)).2 sz xs rfl
   ·cases ho
  ·cases ho
 | hp id off =>
  simp only [ownAt] at ho
  split at ho
  ·rename_i cs hb
   obtain ⟨xs,hx⟩:=ownSz_some ho
   obtain ⟨b,vs,e,h1,h2,h3,h4⟩:=h.heap.objs _ _ hb
   simp only [posVal,h1,Option.bind_some,h2,if_true,World.cell?,h3] at hp
   exact (h4.2 off _ v hx (by simpa using hp)).2 sz xs rfl
  ·cases ho
theorem vpart_sl {G : Gh} {w : World} {own : Bool} {sz : Nat} {xs : List DV} {v : Value} (h : VP G w (.sl own sz xs) v) (i j : Nat) (x : Value) (hx : vpart i j v = some x) : i = 0∧j = 0∧x = v:=by
 have hc : v.cells = #[v]:=by cases h <;> rfl
 have : ∀ vs,v ≠ .tuple vs:=by cases h <;> simp
 unfold vpart at hx
 split at hx
 ·exact absurd rfl (this _)
 ·split at hx
  ·rename_i hi
   rw [hc] at hx
   match j with
   | 0 => exact ⟨hi,rfl,by simpa using hx.symm⟩
   | n + 1 => simp at hx
  ·cases hx
theorem sown_sl {G : Gh} {w : World} {mk : Nat→Nat→Owner} {sz : Nat} {xs : List DV} {v : Value} (h : VP G w (.sl true sz xs) v) (ho : OwnV G w (mk 0 0) sz v) : SOwn G w mk (.sl true sz xs) v:=by
 intro i j c x hc hx sz' xs' e
 obtain ⟨rfl,rfl,rfl⟩:=vpart_sl h i j x hx
 have : c = .sl true sz xs:=by simpa [DV.part,DV.cells] using hc.symm
 rw [this] at e
 cases e
 exact ho
def grabAll (d s : Nat) (o : Owner) : Owner:=match o with | .slot e t i j => if e = d∧t = s then .ret d i j else o | _ => o
theorem lkGet_mem {s : Nat} {p : Pos} : ∀ {l : List (Nat × Pos)},lkGet s l = some p→(s,p)∈l
 | (x,q) :: r,h => by
  unfold lkGet at h
  split at h
  ·rename_i e; cases h; subst e; simp
  ·exact List.mem_cons_of_mem _ (lkGet_mem h)
theorem VP.own {G : Gh} {w : World} {own own' : Bool} {sz : Nat} {xs : List DV} {v : Value} (h : VP G w (.sl own sz xs) v) : VP G w (.sl own' sz xs) v:=by
 cases h with
 | sl0 => exact .sl0
 | sl f h1 h2 h3 h4 h5 h6 => exact .sl f h1 h2 h3 h4 h5 h6
theorem sown_const {G : Gh} {w : World} {mk : Nat→Nat→Owner} (t : TypeId) (v : Value) : SOwn G w mk (constDV P t v) v:=by
 unfold constDV
 split
 any_goals exact sown_of_noOwn rfl
 split
 ·exact sown_sl .sl0 (.inl rfl)
 ·exact sown_of_noOwn rfl
theorem take_sound {N0 : Nat} {w0 : World} {st : St} {a : Act} (h : Rel N0 w0 d G w st a.tmps) (ty : TypeId) (x : Operand) :
  ∃ f : Owner→Owner,(∀ o,o.outer d→f o = o)∧Rel N0 w0 d (G.ren f) w (take P st ty x).2 a.tmps∧SV (G.ren f) w d (take P st ty x).1 (a.eval x)∧SOwn (G.ren f) w (.ret d) (take P st ty x).1 (a.eval x)∧∀ s0,st.t.getD s0 .undef = .undef→∀ i j,f (.slot d s0 i j) = .slot d s0 i j:=by
 have triv : ∀ y,take P st ty x = (y,st)→SV G w d y (a.eval x)→SOwn G w (.ret d) y (a.eval x) →
   ∃ f : Owner→Owner,(∀ o,o.outer d→f o = o)∧Rel N0 w0 d (G.ren f) w (take P st ty x).2 a.tmps∧SV (G.ren f) w d (take P st ty x).1 (a.eval x)∧SOwn (G.ren f) w (.ret d) (take P st ty x).1 (a.eval x)∧∀ s0,st.t.getD s0 .undef = .undef→∀ i j,f (.slot d s0 i j) = .slot d s0 i j:=by
  intro y e hv ho
  rw [e]
  exact ⟨id,fun _ _ => rfl,by rw [Gh.ren_id]; exact h,by rw [Gh.ren_id]; exact hv,by rw [Gh.ren_id]; exact ho,fun _ _ _ _ => rfl⟩
 cases x with
 | const v => exact triv _ rfl (SV.of_vp (vp_const ty v)) (sown_const ty v)
 | func f => exact triv _ rfl (VP.fn (caps:=[]) (vs:=#[]) rfl (by intro j c v hc; simp at hc)) (sown_of_noOwn rfl)
 | global g => exact triv _ rfl (VP.undef _) (sown_of_noOwn rfl)
 | tmp s =>
  have hrho:=h.rho (P:=P) (a:=a) ty (.tmp s)
  simp only [rho] at hrho
  have all : ∀ y,st.t.getD s .undef = y→y ≠ .undef→take P st ty (.tmp s) = (y,{ st with t:=st.t.set s y.roA }) →
    ∃ f : Owner→Owner,(∀ o,o.outer d→f o = o)∧Rel N0 w0 d (G.ren f) w (take P st ty (.tmp s)).2 a.tmps∧SV (G.ren f) w d (take P st ty (.tmp s)).1 (a.eval (.tmp s))∧SOwn (G.ren f) w (.ret d) (take P st ty (.tmp s)).1 (a.eval (.tmp s))∧∀ s0,st.t.getD s0 .undef = .undef→∀ i j,f (.slot d s0 i j) = .slot d s0 i j:=by
   intro y hy hne e
   rw [e]
   refine ⟨grabAll d s,fun o ho => ?_,h.wk (StWk.slot (fun s' i j hne => ?_) (fun _ _ => rfl) (fun _ _ => rfl) _ (by rw [hy])),by rw [← hy]; exact hrho.ren,fun i j c x hc hx => ?_,fun s0 h0 i j => by
    have : s0 ≠ s:=by rintro rfl; rw [h0] at hy; exact hne hy.symm
    simp [grabAll,this]⟩
   ·cases o <;> simp only [grabAll,Owner.outer] at *
    split
    ·omega
    ·rfl
   ·simp [grabAll,hne]
   ·rw [List.getD_eq_getElem?_getD] at hy
    cases ht : st.t[s]? with
    | none =>
     rw [ht] at hy
     simp at hy
     subst hy
     exact sown_of_noOwn rfl i j c x hc hx
    | some y' =>
    rw [ht] at hy
    simp at hy
    subst hy
    have hlt : s < a.tmps.size:=by rw [← h.len]; exact (List.getElem?_eq_some_iff.1 ht).1
    have h1:=ht
    have h2 : a.tmps[s]? = some a.tmps[s]:=by simp [hlt]
    have h3 : a.eval (.tmp s) = a.tmps[s]:=by simp [Act.eval,hlt]
    rw [h3] at hx
    have:=((h.slots s _ _ h1 h2).2 i j c x hc hx).ren (f:=grabAll d s)
    simpa [grabAll] using this
  cases hy : st.t.getD s .undef
  case sl own sz xs =>
   cases own with
   | true => exact all _ hy (by simp) (by simp only [take,hy]; rfl)
   | false =>
    rw [hy] at hrho
    cases hl : lkGet s st.lk with
    | none => exact triv _ (by simp only [take,hy,hl]) hrho (sown_of_noOwn rfl)
    | some p =>
     by_cases ho : ownAt st p = some sz
     ·have e : take P st ty (.tmp s) = (.sl true sz xs,unown st p):=by simp only [take,hy,hl,ho,if_true]
      rw [e]
      have hs : a.tmps[s]? = some (a.eval (.tmp s)):=by
       have hlt : s < st.t.length:=by
        rcases Nat.lt_or_ge s st.t.length with h' | h'
        ·exact h'
        ·simp [List.getD,List.getElem?_eq_none h'] at hy
       rw [h.len] at hlt
       simp [Act.eval,hlt]
      have hp:=h.links s p _ (lkGet_mem hl) hs
      have hown:=own_at_pos h ho hp
      refine ⟨grab (ownerOf d p) (.ret d 0 0),fun o hoo => ?_,h.wk (unown_wk p fun s' g off e' => ?_),(SV.of_vp (VP.own hrho) : SV G w d (.sl true sz xs) _).ren,?_,fun s0 h0 i j => ?_⟩
      ·unfold grab
       split
       ·rename_i e'
        subst e'
        exfalso
        cases p <;> simp [ownerOf,Owner.outer] at hoo
       ·rfl
      ·subst e'
       simp only [ownAt] at ho
       split at ho
       ·rename_i g' cs hb
        split at ho
        ·rename_i hg; subst hg; exact ⟨cs,hb⟩
        ·cases ho
       ·cases ho
      ·refine sown_sl (VP.keep keep_ren (VP.own hrho)) ?_
       ·have:=hown.ren (f:=grab (ownerOf d p) (.ret d 0 0))
        simpa [grab] using this
      ·unfold grab
       split
       ·rename_i e'
        exfalso
        cases p with
        | slot s1 i1 =>
         simp only [ownerOf,Owner.slot.injEq,true_and] at e'
         obtain ⟨rfl,rfl,rfl⟩:=e'
         obtain ⟨ys,hys⟩:=ownSz_some ho
         simp only [Option.bind_eq_some_iff] at hys
         obtain ⟨dv,h1,h2⟩:=hys
         rw [List.getD_eq_getElem?_getD,h1] at h0
         simp at h0
         subst h0
         simp [DV.part,DV.cells] at h2
        | box s1 g1 o1 => simp [ownerOf] at e'
        | hp i1 o1 => simp [ownerOf] at e'
       ·rfl
     ·exact triv _ (by simp only [take,hy,hl,if_neg ho]) hrho (sown_of_noOwn rfl)
  case agg cs => exact all _ hy (by simp) (by simp only [take,hy]; rfl)
  all_goals
   rw [hy] at hrho
   exact triv _ (by simp only [take,hy]) hrho.roA (sown_of_noOwn (noOwn_roA _))
theorem roA_undef {d : DV} (h : d = .undef) : d.roA = .undef:=by subst h; rfl
theorem getD_set {l : List DV} {s q : Nat} {x : DV} (h : l.getD s .undef = .undef) (hq : q = s→x = .undef) : (l.set q x).getD s .undef = .undef:=by
 rw [List.getD_eq_getElem?_getD] at h ⊢
 rw [List.getElem?_set]
 split
 ·rename_i e
  split
  ·simp [hq e]
  ·rfl
 ·exact h
theorem take_undef {st : St} {ty : TypeId} {x : Operand} {s : Nat} (h : st.t.getD s .undef = .undef) : (take P st ty x).2.t.getD s .undef = .undef:=by
 cases x with
 | tmp q =>
  simp only [take]
  split
  ·rename_i sz xs hy
   split
   ·rename_i p hp
    split
    ·cases p with
     | slot s' i =>
      simp only [unown]
      refine getD_set h fun e => ?_
      subst e
      exact roA_undef h
     | box s' g off =>
      simp only [unown]
      split <;> exact h
     | hp id off =>
      simp only [unown]
      split <;> exact h
    ·exact h
   ·exact h
  ·rename_i sz xs hy
   refine getD_set h fun e => ?_
   subst e
   rw [h] at hy; cases hy
  ·rename_i cs hy
   refine getD_set h fun e => ?_
   subst e
   rw [h] at hy; cases hy
  ·exact h
 | const v => exact h
 | global g => exact h
 | func f => exact h
end Go.Ab
/- AcM: Blocks that are written: one block turns,all else stays. -/
namespace Go.Ab
open Go Go.Conc Go.RowKit
structure Mod (g : Nat) (G : Gh) (w : World) (G' : Gh) (w' : World) : Prop where
 os : w'.os = w.os
 tape : w'.tape = w.tape
 output : w'.output = w.output
 size : w'.heap.size = w.heap.size
 lt : g < w.heap.size
 block : ∀ b,b ≠ g→w'.heap[b]? = w.heap[b]?∧G'.role b = G.role b
 bl : G'.bl = G.bl
 lb : G'.lb = G.lb
 keep : Keep G w G' w'
section
variable {g : Nat} {G : Gh} {w : World} {G' : Gh} {w' : World} (hm : Mod g G w G' w')
include hm
theorem Mod.heap {b : Nat} {o : Obj} (hb : b ≠ g) (h : w.heap[b]? = some o) : w'.heap[b]? = some o:=by rw [(hm.block b hb).1]; exact h
theorem OwnV.mod {o : Owner} {sz : Nat} {v : Value} (hb : ∀ wm,G.role g ≠ .arr o wm) (h : OwnV G w o sz v) : OwnV G' w' o sz v:=by
 rcases h with h | ⟨b,len,cap,cur,e,h1,h2,h3,h4⟩
 ·exact .inl h
 ·have hne : b ≠ g:=by rintro rfl; exact hb _ h2
  exact .inr ⟨b,len,cap,cur,e,h1,by rw [(hm.block b hne).2]; exact h2,hm.heap hne h3,h4⟩
theorem Owns.mod {o : Owner} {c : DV} {v : Value} (hb : ∀ wm,G.role g ≠ .arr o wm) (h : Owns G w o c v) : Owns G' w' o c v:=fun sz xs e => (h sz xs e).mod hm hb
theorem CellsRel.mod {mk : Nat→Owner} {cs : List DV} {vs : Array Value} (hb : ∀ j wm,G.role g ≠ .arr (mk j) wm) (h : CellsRel G w mk cs vs) : CellsRel G' w' mk cs vs :=
 ⟨h.1,fun j c v hc hv => ⟨(h.2 j c v hc hv).1.keep hm.keep,(h.2 j c v hc hv).2.mod hm (hb j)⟩⟩
theorem SOwn.mod {mk : Nat→Nat→Owner} {dv : DV} {v : Value} (hb : ∀ i j wm,G.role g ≠ .arr (mk i j) wm) (h : SOwn G w mk dv v) : SOwn G' w' mk dv v:=fun i j c x hc hx => (h i j c x hc hx).mod hm (hb i j)
theorem SV.mod {d : Nat} {dv : DV} {v : Value} (h : SV G w d dv v) : SV G' w' d dv v:=by
 cases dv
 case lptr s g off => obtain ⟨b,h1,h2⟩:=h; exact ⟨b,by rw [hm.lb]; exact h1,h2⟩
 case lsl s g sz off len => obtain ⟨b,cap,h1,h2⟩:=h; exact ⟨b,cap,by rw [hm.lb]; exact h1,h2⟩
 case tup ds => obtain ⟨vs,h1,h2,h3⟩:=h; exact ⟨vs,h1,h2,fun j c x hc hx => (h3 j c x hc hx).keep hm.keep⟩
 all_goals exact VP.keep hm.keep h
theorem HRel.mod {id : Nat} {ob : HObj} (hr : G.role g ≠ .obj id) (hb : ∀ j wm,G.role g ≠ .arr (.hp id j) wm) (h : HRel G w id ob) : HRel G' w' id ob:=by
 cases ob with
 | cells cs =>
  obtain ⟨b,vs,e,h1,h2,h3,h4⟩:=h
  have hne : b ≠ g:=by rintro rfl; exact hr h2
  exact ⟨b,vs,e,by rw [hm.bl]; exact h1,by rw [(hm.block b hne).2]; exact h2,hm.heap hne h3,h4.mod hm hb⟩
 | map es =>
  obtain ⟨b,ms,ck,h1,h2,h3,h4,h5,h6⟩:=h
  have hne : b ≠ g:=by rintro rfl; exact hr h2
  exact ⟨b,ms,ck,by rw [hm.bl]; exact h1,by rw [(hm.block b hne).2]; exact h2,hm.heap hne h3,h4,fun i e m he hm' => ⟨(h5 i e m he hm').1.keep hm.keep,(h5 i e m he hm').2.1.keep hm.keep,(h5 i e m he hm').2.2⟩,h6⟩
theorem Mod.below {N0 : Nat} {w0 : World} (h : Below N0 w0 w) (hg : N0≤g) : Below N0 w0 w' :=
 h.trans ⟨hm.os,hm.tape,hm.output,by rw [hm.size]; exact Nat.le_refl _,fun k hk => (hm.block k (by omega)).1⟩
theorem WRel.mod {N0 : Nat} {w0 : World} {H H' : List HObj} (h : WRel N0 w0 G w H) (hg : G.role g ≠ .imm∧G.role g ≠ .no) (hl : H'.length = H.length)
  (hH : ∀ (id : Nat) (ob : HObj),H'[id]? = some ob→HRel G' w' id ob) : WRel N0 w0 G' w' H' where
 below:=hm.below h.below (by
  rcases Nat.lt_or_ge g N0 with h' | h'
  ·rcases h.low g h' with e | e
   ·exact absurd e hg.1
   ·exact absurd e hg.2
  ·exact h')
 le:=by rw [hm.size]; exact h.le
 low b hb:=by
  have hne : b ≠ g:=by
   rintro rfl
   rcases h.low b hb with e | e
   ·exact hg.1 e
   ·exact hg.2 e
  rw [(hm.block b hne).2]; exact h.low b hb
 fresh b hb:=by
  rw [hm.size] at hb
  have hne : b ≠ g:=by have:=hm.lt; omega
  rw [(hm.block b hne).2]; exact h.fresh b hb
 objs:=hH
 none id hid:=by rw [hm.bl]; exact h.none id (by omega)
theorem Mod.ext (d : Nat) (h1 : ∀ e s,e < d→G.role g ≠ .box e s) (h2 : ∀ o wm,o.outer d→G.role g ≠ .arr o wm) : Ext d G w G' w' where
 keep:=hm.keep
 box b e s he h:=by
  have hne : b ≠ g:=by rintro rfl; exact h1 e s he h
  exact ⟨by rw [(hm.block b hne).2]; exact h,(hm.block b hne).1⟩
 arr b o wm ho h:=by
  have hne : b ≠ g:=by rintro rfl; exact h2 o wm ho h
  exact ⟨by rw [(hm.block b hne).2]; exact h,(hm.block b hne).1⟩
 lb e s g _:=by rw [hm.lb]
 size:=by rw [hm.size]; exact Nat.le_refl _
end
theorem Mod.setRow {G : Gh} {w : World} {g : Nat} {cur cs : Array Value} {e : TypeId} {fz : Nat × Nat} (hg : w.heap[g]? = some (.cells cur e fz)) (hr : ∀ o,¬ (G.role g).still o) : Mod g G w G (w.setRow g cs) where
 os:=rfl
 tape:=rfl
 output:=rfl
 size:=by simp
 lt:=lt_of_heap hg
 block b hb:=⟨setRow_other w g b cs hb,rfl⟩
 bl:=rfl
 lb:=rfl
 keep:=⟨fun b o v h => by
  have hne : b ≠ g:=by rintro rfl; exact hr _ h.1
  refine ⟨h.1,?_⟩
  have:=h.2
  simp only [World.cell?] at this ⊢
  rw [setRow_other w g b cs hne]; exact this,fun _ _ h => h⟩
def _root_.Go.World.setO (w : World) (g : Nat) (o : Obj) : World:={ w with heap:=w.heap.setIfInBounds g o }
theorem Mod.setO {G : Gh} {w : World} {g : Nat} {o o' : Obj} (hg : w.heap[g]? = some o) (hr : ∀ x,¬ (G.role g).still x) : Mod g G w G (w.setO g o') where
 os:=rfl
 tape:=rfl
 output:=rfl
 size:=by simp [World.setO]
 lt:=lt_of_heap hg
 block b hb:=⟨by simp [World.setO,Array.getElem?_setIfInBounds_ne (Ne.symm hb)],rfl⟩
 bl:=rfl
 lb:=rfl
 keep:=⟨fun b x v h => by
  have hne : b ≠ g:=by rintro rfl; exact hr _ h.1
  refine ⟨h.1,?_⟩
  have:=h.2
  simp only [World.cell?,World.setO,Array.getElem?_setIfInBounds_ne (Ne.symm hne)] at this ⊢; exact this,fun _ _ h => h⟩
theorem not_still_obj (id o : Nat) : ¬ (Role.obj id).still o:=by simp [Role.still]
theorem not_still_box (d s o : Nat) : ¬ (Role.box d s).still o:=by simp [Role.still]
end Go.Ab
/- AcN: Stores; new variables; new objects. -/
namespace Go.Ab
open Go Go.Conc Go.RowKit
variable {P : Program} {G : Gh} {w : World} {d : Nat}
theorem putAt_length {cs ds : List DV} {off : Nat} (h : off + ds.length≤cs.length) : (putAt cs off ds).length = cs.length:=by simp [putAt]; omega
theorem putAt_get {α : Type} (cs ds : List α) (off : Nat) (h : off + ds.length≤cs.length) (j : Nat) : (cs.take off ++ ds ++ cs.drop (off + ds.length))[j]? = if off≤j∧j < off + ds.length then ds[j - off]? else cs[j]?:=by
 rw [List.append_assoc,List.getElem?_append,List.length_take,Nat.min_eq_left (by omega)]
 split
 ·rename_i h1
  rw [if_neg (by omega),List.getElem?_take,if_pos h1]
 ·rename_i h1
  rw [List.getElem?_append]
  split
  ·rename_i h2
   rw [if_pos ⟨by omega,by omega⟩]
  ·rename_i h2
   rw [if_neg (by omega),List.getElem?_drop]
   congr 1
   omega
theorem CellsRel.put {mk : Nat→Owner} {cs ds : List DV} {vs : Array Value} {us : List Value} {off : Nat} (h : CellsRel G w mk cs vs) (hl : ds.length = us.length) (hfit : off + ds.length≤cs.length)
  (hd : ∀ (j : Nat) (c : DV) (u : Value),ds[j]? = some c→us[j]? = some u→VP G w c u∧Owns G w (mk (off + j)) c u) :
  CellsRel G w mk (putAt cs off ds) (vs.toList.take off ++ us ++ vs.toList.drop (off + us.length)).toArray:=by
 have hlv : cs.length = vs.toList.length:=by simpa using h.1
 refine ⟨?_,fun j c v hc hv => ?_⟩
 ·have : (vs.toList.take off ++ us ++ vs.toList.drop (off + us.length)).length = vs.toList.length:=by simp; have:=h.1; omega
  rw [putAt_length hfit,List.size_toArray,this]; exact hlv
 rw [List.getElem?_toArray,putAt_get _ _ _ (by omega)] at hv
 unfold putAt at hc
 rw [putAt_get _ _ _ hfit] at hc
 rw [hl] at hc
 split at hc
 ·rename_i hj
  rw [if_pos hj] at hv
  have:=hd (j - off) c v hc hv
  rwa [Nat.add_sub_cancel' hj.1] at this
 ·rename_i hj
  rw [if_neg hj] at hv
  exact h.2 j c v hc (by simpa using hv)
def Pos.inHp (id : Nat) : Pos→Bool | .hp i _ => i == id | _ => false
def Pos.inBox (s : Nat) : Pos→Bool | .box t _ _ => t == s | _ => false
def St.setH (st : St) (id : Nat) (ob : HObj) : St:={ st with H:=st.H.set id ob,lk:=st.lk.filter fun x => !x.2.inHp id }
def St.setB (st : St) (s g : Nat) (cs : List DV) : St:={ st with B:=bset s g cs st.B,lk:=st.lk.filter fun x => !x.2.inBox s }
theorem Rel.storeH {N0 : Nat} {w0 : World} {st : St} {tmps : Array Value} (h : Rel N0 w0 d G w st tmps) {id b off : Nat} {cs ds : List DV} {vs : Array Value} {us : List Value} {e : TypeId} (ho : st.H[id]? = some (.cells cs)) (hb : G.bl id = some b) (hw : w.heap[b]? = some (.cells vs e (0,0)))
  (hl : ds.length = us.length) (hfit : off + ds.length≤cs.length) (hd : ∀ (j : Nat) (c : DV) (u : Value),ds[j]? = some c→us[j]? = some u→VP G w c u∧Owns G w (.hp id (off + j)) c u) :
  Rel N0 w0 d G (w.setRow b (vs.toList.take off ++ us ++ vs.toList.drop (off + us.length)).toArray) (st.setH id (.cells (putAt cs off ds))) tmps ∧
  Ext d G w G (w.setRow b (vs.toList.take off ++ us ++ vs.toList.drop (off + us.length)).toArray):=by
 obtain ⟨b',vs',e',h1,h2,h3,h4⟩:=h.heap.objs _ _ ho
 obtain rfl : b = b':=by rw [hb] at h1; exact Option.some.inj h1
 rw [hw] at h3
 cases h3
 have hm : Mod b G w G (w.setRow b (vs.toList.take off ++ us ++ vs.toList.drop (off + us.length)).toArray):=Mod.setRow hw (by rw [h2]; exact not_still_obj id)
 have hno : ∀ o wm,G.role b ≠ .arr o wm:=by intro o wm; rw [h2]; simp
 refine ⟨⟨h.len,fun s dv v hs hv => ⟨(h.slots s dv v hs hv).1.mod hm,(h.slots s dv v hs hv).2.mod hm fun i j => hno _⟩,fun s g cs' hbx => ?_,h.nobox,fun t p v hlk ht => ?_,h.heap.mod hm (by rw [h2]; simp) (by simp [St.setH]) fun id' ob hob => ?_⟩,
  hm.ext d (by intro e s _; rw [h2]; simp) (by intro o wm _; rw [h2]; simp)⟩
 ·obtain ⟨b',vs',e',a1,a2,a3,a4⟩:=h.boxes s g cs' hbx
  have hne : b' ≠ b:=by rintro rfl; rw [h2] at a2; cases a2
  exact ⟨b',vs',e',a1,a2,hm.heap hne a3,a4.mod hm fun j => hno _⟩
 ·simp only [St.setH,List.mem_filter] at hlk
  have:=h.links t p v hlk.1 ht
  cases p with
  | slot s i => exact this
  | box s g o =>
   simp only [posVal,Option.bind_eq_some_iff] at this ⊢
   obtain ⟨x,hx,hc⟩:=this
   split at hc
   ·rename_i hr
    have hne : x ≠ b:=by rintro rfl; rw [h2] at hr; cases hr
    exact ⟨x,hx,by rw [if_pos hr]; simp only [World.cell?] at hc ⊢; rw [(hm.block x hne).1]; exact hc⟩
   ·cases hc
  | hp i o =>
   simp only [posVal,Option.bind_eq_some_iff] at this ⊢
   obtain ⟨x,hx,hc⟩:=this
   split at hc
   ·rename_i hr
    have hne : x ≠ b:=by
     rintro rfl
     rw [h2] at hr
     cases hr
     simp [Pos.inHp] at hlk
    exact ⟨x,hx,by rw [if_pos hr]; simp only [World.cell?] at hc ⊢; rw [(hm.block x hne).1]; exact hc⟩
   ·cases hc
 ·simp only [St.setH] at hob
  by_cases e : id = id'
  ·subst e
   rw [List.getElem?_set] at hob
   simp only [if_true] at hob
   split at hob
   ·cases hob
    refine ⟨b,_,e,hb,h2,setRow_heap w b vs _ e (0,0) hw,?_⟩
    have:=CellsRel.put h4 hl hfit hd
    exact this.mod hm fun j => hno _
   ·cases hob
  ·rw [List.getElem?_set_ne e] at hob
   exact (h.heap.objs id' ob hob).mod hm (by rw [h2]; simp; exact e) fun j => hno _
end Go.Ab
/- AcN2: Stores into a frame's own variables; new variables,objects,rows. -/
namespace Go.Ab
open Go Go.Conc Go.RowKit
variable {P : Program} {G : Gh} {w : World} {d : Nat}
theorem posVal_mod {tmps : Array Value} {g : Nat} {G' : Gh} {w' : World} (hm : Mod g G w G' w') {p : Pos} {v : Value} (h : posVal G w d tmps p = some v)
  (hr : ∀ b,b ≠ g→G'.role b = G.role b) (hp : match p with | .slot .. => True | .box s g' _ => ∀ x,G.lb d s g' = some x→G.role x = .box d s→x ≠ g | .hp i _ => ∀ x,G.bl i = some x→G.role x = .obj i→x ≠ g) : posVal G' w' d tmps p = some v:=by
 cases p with
 | slot s i => exact h
 | box s g' o =>
  simp only [posVal,Option.bind_eq_some_iff] at h ⊢
  obtain ⟨x,hx,hc⟩:=h
  split at hc
  ·rename_i hrx
   have hne:=hp x hx hrx
   refine ⟨x,by rw [hm.lb]; exact hx,?_⟩
   rw [hr x hne,if_pos hrx]
   simp only [World.cell?] at hc ⊢
   rw [(hm.block x hne).1]; exact hc
  ·cases hc
 | hp i o =>
  simp only [posVal,Option.bind_eq_some_iff] at h ⊢
  obtain ⟨x,hx,hc⟩:=h
  split at hc
  ·rename_i hrx
   have hne:=hp x hx hrx
   refine ⟨x,by rw [hm.bl]; exact hx,?_⟩
   rw [hr x hne,if_pos hrx]
   simp only [World.cell?] at hc ⊢
   rw [(hm.block x hne).1]; exact hc
  ·cases hc
theorem Rel.storeB {N0 : Nat} {w0 : World} {st : St} {tmps : Array Value} (h : Rel N0 w0 d G w st tmps) {s g b off : Nat} {cs ds : List DV} {vs : Array Value} {us : List Value} {e : TypeId} (ho : bget s st.B = some (g,cs)) (hb : G.lb d s g = some b) (hw : w.heap[b]? = some (.cells vs e (0,0)))
  (hl : ds.length = us.length) (hfit : off + ds.length≤cs.length) (hd : ∀ (j : Nat) (c : DV) (u : Value),ds[j]? = some c→us[j]? = some u→VP G w c u∧Owns G w (.box d s (off + j)) c u) :
  Rel N0 w0 d G (w.setRow b (vs.toList.take off ++ us ++ vs.toList.drop (off + us.length)).toArray) (st.setB s g (putAt cs off ds)) tmps ∧
  Ext d G w G (w.setRow b (vs.toList.take off ++ us ++ vs.toList.drop (off + us.length)).toArray):=by
 obtain ⟨b',vs',e',h1,h2,h3,h4⟩:=h.boxes _ _ _ ho
 obtain rfl : b = b':=by rw [hb] at h1; exact Option.some.inj h1
 rw [hw] at h3
 cases h3
 have hm : Mod b G w G (w.setRow b (vs.toList.take off ++ us ++ vs.toList.drop (off + us.length)).toArray):=Mod.setRow hw (by rw [h2]; exact not_still_box d s)
 have hno : ∀ o wm,G.role b ≠ .arr o wm:=by intro o wm; rw [h2]; simp
 refine ⟨⟨h.len,fun s dv v hs hv => ⟨(h.slots s dv v hs hv).1.mod hm,(h.slots s dv v hs hv).2.mod hm fun i j => hno _⟩,fun s' g' cs' hbx => ?_,fun s' g' hg => ?_,fun t p v hlk ht => ?_,h.heap.mod hm (by rw [h2]; simp) rfl fun id' ob hob => (h.heap.objs id' ob hob).mod hm (by rw [h2]; simp) fun j => hno _⟩,
  hm.ext d (by intro e s' he; rw [h2]; simp; omega) (by intro o wm _; rw [h2]; simp)⟩
 ·simp only [St.setB] at hbx
  by_cases es : s' = s
  ·subst es
   rw [bget_bset_same] at hbx
   cases hbx
   refine ⟨b,_,e,hb,h2,setRow_heap w b vs _ e (0,0) hw,?_⟩
   exact (CellsRel.put h4 hl hfit hd).mod hm fun j => hno _
  ·rw [bget_bset_ne _ _ es] at hbx
   obtain ⟨b',vs',e',a1,a2,a3,a4⟩:=h.boxes _ _ _ hbx
   have hne : b' ≠ b:=by rintro rfl; rw [h2] at a2; cases a2; exact es rfl
   exact ⟨b',vs',e',a1,a2,hm.heap hne a3,a4.mod hm fun j => hno _⟩
 ·refine h.nobox s' g' (Nat.le_trans ?_ hg)
  simp only [St.setB]
  by_cases es : s' = s
  ·subst es; rw [bgen_bset_same]; simp [bgen,ho]
  ·rw [bgen_bset_ne _ _ es]; exact Nat.le_refl _
 ·simp only [St.setB,List.mem_filter] at hlk
  refine posVal_mod hm (h.links t p v hlk.1 ht) (fun _ _ => rfl) ?_
  cases p with
  | slot s i => trivial
  | box s' g' o =>
   rintro x hx hr rfl
   rw [h2] at hr
   cases hr
   simp [Pos.inBox] at hlk
  | hp i o =>
   rintro x hx hr rfl
   rw [h2] at hr
   cases hr
theorem heap_new (w : World) (o : Obj) : (w.alloc o).heap[w.heap.size]? = some o:=by simp [World.alloc,-World.alloc_eq]
def toBox (d s off : Nat) (o : Owner) : Owner:=match o with | .ret e i j => if e = d∧i = 0 then .box d s (off + j) else o | _ => o
def toHp (d id off : Nat) (o : Owner) : Owner:=match o with | .ret e i j => if e = d∧i = 0 then .hp id (off + j) else o | _ => o
theorem toBox_outer {s off : Nat} {o : Owner} (h : o.outer d) : toBox d s off o = o:=by
 cases o <;> simp only [toBox,Owner.outer] at *
 split
 ·omega
 ·rfl
theorem toHp_outer {id off : Nat} {o : Owner} (h : o.outer d) : toHp d id off o = o:=by
 cases o <;> simp only [toHp,Owner.outer] at *
 split
 ·omega
 ·rfl
theorem hand_cells {dv : DV} {v : Value} (hv : SV G w d dv v) (ho : SOwn G w (.ret d) dv v) (hs : dv.cells.all DV.scalar = true) : dv.cells.length = v.cells.size ∧
  ∀ (j : Nat) (c : DV) (u : Value),dv.cells[j]? = some c→v.cells[j]? = some u→VP G w c u∧Owns G w (.ret d 0 j) c u:=by
 have key : VP G w dv v:=by
  cases dv <;> first | exact hv | (simp [DV.cells,DV.scalar] at hs)
 have hpart : ∀ j,dv.part 0 j = dv.cells[j]?:=by
  intro j
  cases dv <;> first | rfl | cases key
 have hvp : ∀ j,vpart 0 j v = v.cells[j]?:=by
  intro j
  cases key <;> first | rfl | skip
  all_goals (simp [DV.cells,DV.scalar] at hs)
 refine ⟨?_,fun j c u hc hu => ⟨?_,ho 0 j c u (by rw [hpart]; exact hc) (by rw [hvp]; exact hu)⟩⟩
 ·cases key with
  | agg h1 h2 => exact h1
  | undef v => simp [DV.cells,DV.scalar] at hs
  | _ => rfl
 ·cases key with
  | agg h1 h2 => exact h2 j c u hc hu
  | undef v => simp [DV.cells,DV.scalar] at hs
  | _ =>
   match j with
   | 0 => simp [DV.cells,Value.cells] at hc hu; subst hc; subst hu; constructor <;> assumption
   | n + 1 => simp [DV.cells] at hc
end Go.Ab
/- AcN3: New variables,objects,rows. -/
namespace Go.Ab
open Go Go.Conc Go.RowKit
variable {P : Program} {G : Gh} {w : World} {d : Nat}
theorem keep_setLb {s g n e : Nat} : Keep G w (G.setLb e s g n) w:=⟨fun _ _ _ h => h,fun _ _ h => h⟩
theorem SV.setLb {s g n : Nat} {dv : DV} {v : Value} (hn : G.lb d s g = none) (h : SV G w d dv v) : SV (G.setLb d s g n) w d dv v:=by
 have hl : ∀ s' g' b,G.lb d s' g' = some b→(G.setLb d s g n).lb d s' g' = some b:=by
  intro s' g' b hb
  simp only [Gh.setLb]
  split
  ·rename_i e; obtain ⟨_,rfl,rfl⟩:=e; rw [hn] at hb; cases hb
  ·exact hb
 cases dv
 case lptr s' g' off => obtain ⟨b,h1,h2⟩:=h; exact ⟨b,hl _ _ _ h1,h2⟩
 case lsl s' g' sz off len => obtain ⟨b,cap,h1,h2⟩:=h; exact ⟨b,cap,hl _ _ _ h1,h2⟩
 case tup ds => obtain ⟨vs,h1,h2,h3⟩:=h; exact ⟨vs,h1,h2,fun j c x hc hx => (h3 j c x hc hx).keep keep_setLb⟩
 all_goals exact VP.keep keep_setLb h
theorem CellsRel.keepRole {G' : Gh} {mk : Nat→Owner} {cs : List DV} {vs : Array Value} (hk : Keep G w G' w) (hr : G'.role = G.role) (h : CellsRel G w mk cs vs) : CellsRel G' w mk cs vs :=
 ⟨h.1,fun j c v hc hv => ⟨(h.2 j c v hc hv).1.keep hk,fun sz xs e => by
  rcases (h.2 j c v hc hv).2 sz xs e with a | ⟨b,len,cap,cur,e',h1,h2,h3⟩
  ·exact .inl a
  ·exact .inr ⟨b,len,cap,cur,e',h1,by rw [hr]; exact h2,h3⟩⟩⟩
theorem HRel.keepRole {G' : Gh} {id : Nat} {ob : HObj} (hk : Keep G w G' w) (hr : G'.role = G.role) (h : HRel G w id ob) : HRel G' w id ob:=by
 cases ob with
 | cells cs => obtain ⟨b,vs,e,h1,h2,h3,h4⟩:=h; exact ⟨b,vs,e,hk.bl _ _ h1,by rw [hr]; exact h2,h3,h4.keepRole hk hr⟩
 | map es =>
  obtain ⟨b,ms,ck,h1,h2,h3,h4,h5,h6⟩:=h
  exact ⟨b,ms,ck,hk.bl _ _ h1,by rw [hr]; exact h2,h3,h4,fun i e m he hm => ⟨(h5 i e m he hm).1.keep hk,(h5 i e m he hm).2.1.keep hk,(h5 i e m he hm).2.2⟩,h6⟩
theorem Rel.addBox {N0 : Nat} {w0 : World} {st : St} {tmps : Array Value} (h : Rel N0 w0 d G w st tmps) {s n : Nat} {cs : List DV} {vs : Array Value} {e : TypeId} (hr : G.role n = .box d s) (hw : w.heap[n]? = some (.cells vs e (0,0))) (hc : CellsRel G w (.box d s) cs vs) :
  Rel N0 w0 d (G.setLb d s (bgen s st.B) n) w { st with B:=bset s (bgen s st.B) cs st.B } tmps:=by
 have hn : G.lb d s (bgen s st.B) = none:=h.nobox s _ (Nat.le_refl _)
 have hl : ∀ s' g' b,G.lb d s' g' = some b→(G.setLb d s (bgen s st.B) n).lb d s' g' = some b:=by
  intro s' g' b hb
  simp only [Gh.setLb]
  split
  ·rename_i e; obtain ⟨_,rfl,rfl⟩:=e; rw [hn] at hb; cases hb
  ·exact hb
 refine ⟨h.len,fun s' dv v hs hv => ⟨(h.slots s' dv v hs hv).1.setLb hn,(h.slots s' dv v hs hv).2⟩,fun s' g' cs' hb => ?_,fun s' g' hg => ?_,fun t p v hlk ht => ?_,?_⟩
 ·by_cases es : s' = s
  ·subst es
   rw [bget_bset_same] at hb
   cases hb
   exact ⟨n,vs,e,by simp [Gh.setLb],hr,hw,hc.keepRole keep_setLb rfl⟩
  ·rw [bget_bset_ne _ _ es] at hb
   obtain ⟨b,vs',e',a1,a2,a3,a4⟩:=h.boxes _ _ _ hb
   exact ⟨b,vs',e',hl _ _ _ a1,a2,a3,a4.keepRole keep_setLb rfl⟩
 ·simp only [Gh.setLb]
  by_cases es : s' = s
  ·subst es
   rw [bgen_bset_same] at hg
   rw [if_neg (by omega)]
   exact h.nobox s' g' (by omega)
  ·rw [bgen_bset_ne _ _ es] at hg
   rw [if_neg (by simp [es])]
   exact h.nobox s' g' hg
 ·have:=h.links t p v hlk ht
  cases p with
  | slot s' i => exact this
  | box s' g' o =>
   simp only [posVal,Option.bind_eq_some_iff] at this ⊢
   obtain ⟨x,hx,hc⟩:=this
   exact ⟨x,hl _ _ _ hx,hc⟩
  | hp i o => exact this
 ·exact ⟨h.heap.below,h.heap.le,h.heap.low,h.heap.fresh,fun id ob ho => (h.heap.objs id ob ho).keepRole keep_setLb rfl,h.heap.none⟩
theorem Rel.newBox {N0 : Nat} {w0 : World} {st : St} {tmps : Array Value} (h : Rel N0 w0 d G w st tmps) {s : Nat} {dv : DV} {v : Value} (e : TypeId) (hv : SV G w d dv v) (ho : SOwn G w (.ret d) dv v) (hs : dv.cells.all DV.scalar = true) :
  ∃ G',Rel N0 w0 d G' (w.alloc (.cells v.cells e)) ({ st with B:=bset s (bgen s st.B) dv.cells st.B }.put s (.lptr s (bgen s st.B) 0)) (tmps.setIfInBounds s (.pointer (some ⟨w.heap.size,0,none⟩))) ∧
   Ext d G w G' (w.alloc (.cells v.cells e)):=by
 obtain ⟨hl,hc⟩:=hand_cells hv ho hs
 have h1:=h.wk (f:=toBox d s 0) (StWk.of_fix (fun _ _ _ => rfl) (fun _ _ => rfl) (fun _ _ => rfl))
 have hn:=Neu.alloc (G.ren (toBox d s 0)) w (.cells v.cells e) (.box d s)
 have h2:=h1.neu hn
 have hcr : CellsRel (G.ren (toBox d s 0)) w (.box d s) dv.cells v.cells:=⟨hl,fun j c u a b => ⟨(hc j c u a b).1.keep keep_ren,by
  have:=(hc j c u a b).2.ren (f:=toBox d s 0)
  simpa [toBox] using this⟩⟩
 have h3:=h2.addBox (s:=s) (n:=w.heap.size) (by simp) (heap_new w _) (hcr.neu hn)
 refine ⟨_,h3.put (s:=s) (dv:=.lptr s (bgen s st.B) 0) (v:=.pointer (some ⟨w.heap.size,0,none⟩)) ⟨w.heap.size,by simp [Gh.setLb],rfl⟩ (sown_of_noOwn rfl),?_⟩
 refine ((ext_ren fun o ho => toBox_outer ho).trans (hn.ext h1.heap.fresh d)).trans ⟨keep_setLb,fun b e s _ h => ⟨h,rfl⟩,fun b o wm _ h => ⟨h,rfl⟩,fun e s' g' he => ?_,Nat.le_refl _⟩
 simp only [Gh.setLb]
 rw [if_neg (by omega)]
theorem keep_setBl {N0 : Nat} {w0 : World} {H : List HObj} (h : WRel N0 w0 G w H) (n : Nat) : Keep G w (G.setBl H.length n) w:=⟨fun _ _ _ x => x,fun i b hb => by
 simp only [Gh.setBl]
 split
 ·rename_i e; subst e; rw [h.none _ (Nat.le_refl _)] at hb; cases hb
 ·exact hb⟩
theorem WRel.addObj {N0 : Nat} {w0 : World} {H : List HObj} (h : WRel N0 w0 G w H) {n : Nat} {ob : HObj} (hr : G.role n = .obj H.length) (ho : HRel (G.setBl H.length n) w H.length ob) : WRel N0 w0 (G.setBl H.length n) w (H ++ [ob]) where
 below:=h.below
 le:=h.le
 low:=h.low
 fresh:=h.fresh
 objs id ob' hob:=by
  rw [List.getElem?_append] at hob
  split at hob
  ·exact (h.objs id ob' hob).keepRole (keep_setBl h n) rfl
  ·rename_i hlt
   have : id = H.length:=by
    have:=(List.getElem?_eq_some_iff.1 hob).1
    simp at this
    omega
   subst this
   simp at hob
   subst hob
   exact ho
 none id hid:=by
  simp at hid
  simp only [Gh.setBl]
  rw [if_neg (by omega)]
  exact h.none id (by omega)
theorem SV.keepLb {G' : Gh} {w' : World} {dv : DV} {v : Value} (hk : Keep G w G' w') (hl : G'.lb = G.lb) (h : SV G w d dv v) : SV G' w' d dv v:=by
 cases dv
 case lptr s' g' off => obtain ⟨b,h1,h2⟩:=h; exact ⟨b,by rw [hl]; exact h1,h2⟩
 case lsl s' g' sz off len => obtain ⟨b,cap,h1,h2⟩:=h; exact ⟨b,cap,by rw [hl]; exact h1,h2⟩
 case tup ds => obtain ⟨vs,h1,h2,h3⟩:=h; exact ⟨vs,h1,h2,fun j c x hc hx => (h3 j c x hc hx).keep hk⟩
 all_goals exact VP.keep hk h
theorem Rel.addObj {N0 : Nat} {w0 : World} {st : St} {tmps : Array Value} (h : Rel N0 w0 d G w st tmps) {n : Nat} {ob : HObj} (hr : G.role n = .obj st.H.length) (ho : HRel (G.setBl st.H.length n) w st.H.length ob) :
  Rel N0 w0 d (G.setBl st.H.length n) w { st with H:=st.H ++ [ob] } tmps:=by
 have hk:=keep_setBl h.heap n
 refine ⟨h.len,fun s' dv v hs hv => ⟨(h.slots s' dv v hs hv).1.keepLb hk rfl,(h.slots s' dv v hs hv).2⟩,fun s' g' cs' hb => ?_,h.nobox,fun t p v hlk ht => ?_,h.heap.addObj hr ho⟩
 ·obtain ⟨b,vs',e',a1,a2,a3,a4⟩:=h.boxes _ _ _ hb
  exact ⟨b,vs',e',a1,a2,a3,a4.keepRole hk rfl⟩
 ·have:=h.links t p v hlk ht
  cases p with
  | slot s' i => exact this
  | box s' g' o => exact this
  | hp i o =>
   simp only [posVal,Option.bind_eq_some_iff] at this ⊢
   obtain ⟨x,hx,hc⟩:=this
   exact ⟨x,hk.bl _ _ hx,hc⟩
theorem ext_setBl {N0 : Nat} {w0 : World} {H : List HObj} (h : WRel N0 w0 G w H) (n : Nat) : Ext d G w (G.setBl H.length n) w :=
 ⟨keep_setBl h n,fun b e s _ x => ⟨x,rfl⟩,fun b o wm _ x => ⟨x,rfl⟩,fun _ _ _ _ => rfl,Nat.le_refl _⟩
theorem Rel.newObj {N0 : Nat} {w0 : World} {st : St} {tmps : Array Value} (h : Rel N0 w0 d G w st tmps) {s : Nat} {dv : DV} {v : Value} (e : TypeId) (hv : SV G w d dv v) (ho : SOwn G w (.ret d) dv v) (hs : dv.cells.all DV.scalar = true) :
  ∃ G',Rel N0 w0 d G' (w.alloc (.cells v.cells e)) ({ st with H:=st.H ++ [HObj.cells dv.cells] }.put s (.ptr st.H.length 0)) (tmps.setIfInBounds s (.pointer (some ⟨w.heap.size,0,none⟩))) ∧
   Ext d G w G' (w.alloc (.cells v.cells e)):=by
 obtain ⟨hl,hc⟩:=hand_cells hv ho hs
 have h1:=h.wk (f:=toHp d st.H.length 0) (StWk.of_fix (fun _ _ _ => rfl) (fun _ _ => rfl) (fun _ _ => rfl))
 have hn:=Neu.alloc (G.ren (toHp d st.H.length 0)) w (.cells v.cells e) (.obj st.H.length)
 have h2:=h1.neu hn
 have hcr : CellsRel (G.ren (toHp d st.H.length 0)) w (.hp st.H.length) dv.cells v.cells:=⟨hl,fun j c u a b => ⟨(hc j c u a b).1.keep keep_ren,by
  have:=(hc j c u a b).2.ren (f:=toHp d st.H.length 0)
  simpa [toHp] using this⟩⟩
 have h3:=h2.addObj (n:=w.heap.size) (ob:=.cells dv.cells) (by simp) ⟨w.heap.size,v.cells,e,by simp [Gh.setBl],by simp,heap_new w _,(hcr.neu hn).keepRole (keep_setBl h2.heap _) rfl⟩
 refine ⟨_,h3.put (s:=s) (dv:=.ptr st.H.length 0) (v:=.pointer (some ⟨w.heap.size,0,none⟩)) (VP.ptr (by simp [Gh.setBl])) (sown_of_noOwn rfl),?_⟩
 exact ((ext_ren fun o ho => toHp_outer ho).trans (hn.ext h1.heap.fresh d)).trans (ext_setBl h2.heap _)
theorem Rel.newMap {N0 : Nat} {w0 : World} {st : St} {tmps : Array Value} (h : Rel N0 w0 d G w st tmps) {s : Nat} :
  ∃ G',Rel N0 w0 d G' (w.alloc (.map #[] 0)) ({ st with H:=st.H ++ [HObj.map []] }.put s (.map st.H.length)) (tmps.setIfInBounds s (.map (some w.heap.size)))∧Ext d G w G' (w.alloc (.map #[] 0)):=by
 have hn:=Neu.alloc G w (.map #[] 0) (.obj st.H.length)
 have h2:=h.neu hn
 have h3:=h2.addObj (n:=w.heap.size) (ob:=.map []) (by simp) ⟨w.heap.size,#[],0,by simp [Gh.setBl],by simp,heap_new w _,rfl,fun i e m he => by simp at he,fun i j m n hm => by simp at hm⟩
 refine ⟨_,h3.put (s:=s) (dv:=.map st.H.length) (v:=.map (some w.heap.size)) (VP.map (by simp [Gh.setBl])) (sown_of_noOwn rfl),?_⟩
 exact (hn.ext h.heap.fresh d).trans (ext_setBl h2.heap _)
theorem Rel.newRowObj {N0 : Nat} {w0 : World} {st : St} {tmps : Array Value} (h : Rel N0 w0 d G w st tmps) {s sz len cap : Nat} {cs : List DV} {vs : Array Value} (e : TypeId) (hcap : len≤cap) (hl : cs.length = vs.size)
  (hc : ∀ (j : Nat) (c : DV) (v : Value),cs[j]? = some c→vs[j]? = some v→VP G w c v) (hno : ∀ c∈cs,∀ sz xs,c ≠ .sl true sz xs) :
  ∃ G',Rel N0 w0 d G' (w.alloc (.cells vs e)) ({ st with H:=st.H ++ [HObj.cells cs] }.put s (.hsl st.H.length sz 0 len cap)) (tmps.setIfInBounds s (.slice (some ⟨w.heap.size,0,none⟩) len cap))∧Ext d G w G' (w.alloc (.cells vs e)):=by
 have hn:=Neu.alloc G w (.cells vs e) (.obj st.H.length)
 have h2:=h.neu hn
 have hk:=hn.keep.trans (keep_setBl h2.heap w.heap.size)
 have h3:=h2.addObj (n:=w.heap.size) (ob:=.cells cs) (by simp) ⟨w.heap.size,vs,e,by simp [Gh.setBl],by simp,heap_new w _,hl,fun j c v a b => ⟨(hc j c v a b).keep hk,fun sz xs e => absurd e (hno c (List.mem_of_getElem? a) sz xs)⟩⟩
 refine ⟨_,h3.put (s:=s) (dv:=.hsl st.H.length sz 0 len cap) (v:=.slice (some ⟨w.heap.size,0,none⟩) len cap) (VP.hsl (by simp [Gh.setBl]) hcap (.inr rfl)) (sown_of_noOwn rfl),?_⟩
 exact (hn.ext h.heap.fresh d).trans (ext_setBl h2.heap _)
theorem Rel.newRow {N0 : Nat} {w0 : World} {st : St} {tmps : Array Value} (h : Rel N0 w0 d G w st tmps) {s sz len cap : Nat} {xs : List DV} {cs : Array Value} (e : TypeId) (hlen : len = xs.length) (hcap : len≤cap) (hmax : cap≤maxLen) (hsz : cs.size = cap * sz)
  (hx : ∀ (i : Nat) (x : DV),xs[i]? = some x→x.cells.length = sz∧x.cells.all DV.scalar = true) (hc : ∀ (i j : Nat) (x c : DV),xs[i]? = some x→x.cells[j]? = some c→∃ u,cs[i * sz + j]? = some u∧VP G w c u) :
  ∃ G',Rel N0 w0 d G' (w.alloc (.cells cs e)) (st.put s (.sl true sz xs)) (tmps.setIfInBounds s (.slice (some ⟨w.heap.size,0,none⟩) len cap))∧Ext d G w G' (w.alloc (.cells cs e)):=by
 have hn:=Neu.alloc G w (.cells cs e) (.arr (.slot d s 0 0) (len * sz))
 have h2:=h.neu hn
 have hv : VP (G.setRole w.heap.size (.arr (.slot d s 0 0) (len * sz))) (w.alloc (.cells cs e)) (.sl true sz xs) (.slice (some ⟨w.heap.size,0,none⟩) len cap):=by
  refine .sl (fun i j => (cs[i * sz + j]?).getD undef) hlen hcap hmax hx (fun i j x c hi hj => ?_) (fun i j x c hi hj => ?_)
  ·obtain ⟨u,hu,_⟩:=hc i j x c hi hj
   have hil : i < xs.length:=(List.getElem?_eq_some_iff.1 hi).1
   have hjl : j < sz:=by rw [← (hx i x hi).1]; exact (List.getElem?_eq_some_iff.1 hj).1
   refine ⟨.inr ⟨.slot d s 0 0,len * sz,by simp,?_⟩,?_⟩
   ·have : (i + 1) * sz≤len * sz:=Nat.mul_le_mul_right sz (by omega)
    rw [Nat.add_mul] at this
    omega
   ·simp [hu]
  ·obtain ⟨u,hu,hvp⟩:=hc i j x c hi hj
   rw [hu]
   exact hvp.keep hn.keep
 refine ⟨_,h2.put (SV.of_vp hv) (sown_sl hv (.inr ⟨w.heap.size,len,cap,cs,e,rfl,by simp,heap_new w _,hsz,hcap⟩)),hn.ext h.heap.fresh d⟩
end Go.Ab
/- AcA: append: in place where the right is held,else into a new row. -/
namespace Go.Ab
open Go Go.Conc Go.RowKit
variable {P : Program} {G : Gh} {w : World} {d : Nat}
theorem sl_cells {own : Bool} {sz : Nat} {xs : List DV} {v : Value} (h : VP G w (.sl own sz xs) v) (hs : 0 < sz) : ∃ cs : List Value,cs.length = xs.length * sz∧(∀ u∈cs,u.oneCell' = true) ∧
  (∀ (i j : Nat) (x c : DV),xs[i]? = some x→x.cells[j]? = some c→∃ u,cs[i * sz + j]? = some u∧VP G w c u) ∧
  (∀ b off len cap,v = .slice (some ⟨b,off,none⟩) len cap→∀ (k : Nat) (u : Value),cs[k]? = some u→immCell G w b (off + k) u):=by
 cases h with
 | sl0 => exact ⟨[],by simp,by simp,by simp,by simp⟩
 | @sl _ _ _ b off len cap f h1 h2 h3 h4 h5 h6 =>
  have hk : ∀ k,k < xs.length * sz→∃ x c,xs[k / sz]? = some x∧x.cells[k % sz]? = some c:=by
   intro k hk
   have h7 : k / sz < xs.length:=(Nat.div_lt_iff_lt_mul hs).2 hk
   have h8:=(h4 (k / sz) xs[k / sz] (by simp [h7])).1
   have h9 : k % sz < xs[k / sz].cells.length:=by rw [h8]; exact Nat.mod_lt _ hs
   exact ⟨_,_,List.getElem?_eq_getElem h7,List.getElem?_eq_getElem h9⟩
  refine ⟨(List.range (xs.length * sz)).map fun k => f (k / sz) (k % sz),by simp,fun u hu => ?_,fun i j x c hi hj => ?_,fun b' off' len' cap' e k u hu => ?_⟩
  ·simp only [List.mem_map,List.mem_range] at hu
   obtain ⟨k,hkk,rfl⟩:=hu
   obtain ⟨x,c,hx,hc⟩:=hk k hkk
   refine (h6 _ _ x c hx hc).oneCell ?_
   have:=(h4 _ x hx).2
   rw [List.all_eq_true] at this
   exact this c (List.mem_of_getElem? hc)
  ·have hil : i < xs.length:=(List.getElem?_eq_some_iff.1 hi).1
   have hjl : j < sz:=by rw [← (h4 i x hi).1]; exact (List.getElem?_eq_some_iff.1 hj).1
   have e1 : (i * sz + j) / sz = i:=by rw [Nat.mul_comm,Nat.mul_add_div hs,Nat.div_eq_of_lt hjl]; omega
   have e2 : (i * sz + j) % sz = j:=by rw [Nat.mul_comm,Nat.mul_add_mod,Nat.mod_eq_of_lt hjl]
   have hlt : i * sz + j < xs.length * sz:=by
    have : (i + 1) * sz≤xs.length * sz:=Nat.mul_le_mul_right sz (by omega)
    rw [Nat.add_mul] at this
    omega
   refine ⟨f i j,?_,h6 i j x c hi hj⟩
   rw [List.getElem?_map,List.getElem?_range hlt]
   simp [e1,e2]
  ·cases e
   rw [List.getElem?_map] at hu
   obtain ⟨k',hk',rfl⟩:=Option.map_eq_some_iff.1 hu
   have hlt : k < xs.length * sz:=by
    have:=(List.getElem?_eq_some_iff.1 hk').1
    simpa using this
   rw [List.getElem?_range hlt] at hk'
   cases hk'
   obtain ⟨x,c,hx,hc⟩:=hk k hlt
   have:=h5 _ _ x c hx hc
   rwa [Nat.add_assoc,Nat.div_add_mod'] at this
theorem elems_app {sz : Nat} {xs ys : List DV} {cs ds : List Value} (hcs : cs.length = xs.length * sz)
  (hx : ∀ (i j : Nat) (x c : DV),xs[i]? = some x→x.cells[j]? = some c→∃ u,cs[i * sz + j]? = some u∧VP G w c u) (hy : ∀ (i j : Nat) (x c : DV),ys[i]? = some x→x.cells[j]? = some c→∃ u,ds[i * sz + j]? = some u∧VP G w c u)
  (i j : Nat) (x c : DV) (hi : (xs ++ ys)[i]? = some x) (hj : x.cells[j]? = some c) : ∃ u,(cs ++ ds)[i * sz + j]? = some u∧VP G w c u:=by
 rw [List.getElem?_append] at hi
 split at hi
 ·obtain ⟨u,h1,h2⟩:=hx i j x c hi hj
  exact ⟨u,by rw [List.getElem?_append_left (List.getElem?_eq_some_iff.1 h1).1]; exact h1,h2⟩
 ·rename_i hlt
  obtain ⟨u,h1,h2⟩:=hy (i - xs.length) j x c hi hj
  refine ⟨u,?_,h2⟩
  have e : i * sz + j = cs.length + ((i - xs.length) * sz + j):=by
   rw [hcs,← Nat.add_assoc,← Nat.add_mul]; congr 2; omega
  rw [e,List.getElem?_append_right (by omega),Nat.add_sub_cancel_left]
  exact h1
end Go.Ab
namespace Go.Ab
open Go Go.Conc Go.RowKit
variable {P : Program} {G : Gh} {w : World} {d : Nat}
structure Src (P : Program) (w : World) (sz : Nat) (vy : Value) (n : Nat) (news : List Value) : Prop where
 len : (Builtin.lenOf vy).run P w = .ok n w
 first : (Builtin.firstCells sz n vy).run P w = .ok news.toArray w
theorem run_append_in {t t2 ty e : TypeId} {ds2 : TypeDesc} (ht : P.underlying t = some (.slice e)) (ht2 : P.underlying t2 = some ds2) (hd : ∀ k,ds2 ≠ .int k) (he : ∃ ds,P.underlying e = some ds)
  {b sLen sCap n : Nat} {vy : Value} {news : List Value} {cur : Array Value} {te : TypeId} (hs : Src P w (P.cellsOf e) vy n news) (hg : w.heap[b]? = some (.cells cur te (0,0))) (h1 : ∀ u∈news,u.oneCell' = true)
  (hroom : sLen + n≤sCap) (hfit : sLen * P.cellsOf e + news.length≤cur.size) :
  (Builtin.append_ #[t,t2] ty #[.slice (some ⟨b,0,none⟩) sLen sCap,vy]).run P w =
   .ok (.slice (some ⟨b,0,none⟩) (sLen + n) sCap) (w.setRow b (cur.toList.take (sLen * P.cellsOf e) ++ news ++ cur.toList.drop (sLen * P.cellsOf e + news.length)).toArray):=by
 obtain ⟨dse,he⟩:=he
 have hst:=run_storeCells_at P b (sLen * P.cellsOf e) te news 0 cur w hg (by simpa using hfit) h1
 simp only [Nat.add_zero] at hst
 have hz : (match ds2 with | .int _ => true | _ => false) = false:=by cases ds2 <;> first | rfl | exact absurd rfl (hd _)
 simp only [Builtin.append_,List.getElem?_toArray,List.getElem?_cons_zero,List.getElem?_cons_succ,Sem.run_bind,run_underlying ht,run_underlying ht2,Result.andThen_ok,run_sizeOf' he,Sem.run_pure,hz,Bool.false_eq_true,if_false,hs.len,hroom,if_true,Bool.not_false,hs.first,add_none,Nat.zero_add,hst]
theorem run_append_out {t t2 ty e : TypeId} {ds2 : TypeDesc} {i : TypeInfo} {z : Value} (ht : P.underlying t = some (.slice e)) (ht2 : P.underlying t2 = some ds2) (hd : ∀ k,ds2 ≠ .int k) (hi : P.info? e = some i) (hz : i.zero = some z)
  {base : Option Addr} {sLen sCap n : Nat} {vy : Value} {olds news : List Value} (hs : Src P w.drew i.size vy n news) (ho : (Builtin.firstCells i.size sLen (.slice base sLen sCap)).run P w.drew = .ok olds.toArray w.drew)
  (hlen : (Builtin.lenOf vy).run P w = .ok n w)
  (hgr : sCap < sLen + n) (h63 : sLen + n≤9223372036854775807) (hfit : Builtin.nextslicecap (sLen + n) sCap * i.bytes≤281474976710656) :
  (Builtin.append_ #[t,t2] ty #[.slice base sLen sCap,vy]).run P w =
   .ok (.slice (some ⟨w.heap.size,0,none⟩) (sLen + n) (grownCap w (sLen + n) sCap e))
    (w.drew.alloc (.cells (olds.toArray ++ news.toArray ++ Builtin.zeroCells z.cells (grownCap w (sLen + n) sCap e - (sLen + n))) e)):=by
 have hn : ¬ (sLen + n≤sCap):=by omega
 have h63' : ¬ (((sLen + n : Nat) : Int) > IntKind.i64.max):=by
  have e2 : IntKind.i64.max = 9223372036854775807:=by decide
  rw [e2]; omega
 have h48' : ¬ (281474976710656 < Builtin.nextslicecap (sLen + n) sCap * i.bytes):=by omega
 have hzz : (match ds2 with | .int _ => true | _ => false) = false:=by cases ds2 <;> first | rfl | exact absurd rfl (hd _)
 have h63'' : ¬ ((9223372036854775807 : Int) < ((sLen : Int) + (n : Int))):=by omega
 have h1:=hs.first
 simp [Builtin.append_,run_underlying ht,run_underlying ht2,sizeOf,typeInfo,zeroValue,hi,hz,hzz,hlen,hn,h63'',h48',Question.forced,ho,h1,newRow,grownCap]
 congr 2
 apply Array.ext'
 simp [List.append_assoc]
end Go.Ab
/- AcA2: append,in the abstract state. -/
namespace Go.Ab
open Go Go.Conc Go.RowKit
variable {P : Program} {G : Gh} {w : World} {d : Nat}
theorem sown_at {mk : Nat→Nat→Owner} {sz : Nat} {xs : List DV} {v : Value} (h : VP G w (.sl true sz xs) v) (ho : SOwn G w mk (.sl true sz xs) v) : OwnV G w (mk 0 0) sz v:=by
 refine ho 0 0 (.sl true sz xs) v rfl ?_ sz xs rfl
 have : v.cells = #[v]:=by cases h <;> rfl
 have ht : ∀ vs,v ≠ .tuple vs:=by cases h <;> simp
 unfold vpart
 split
 ·exact absurd rfl (ht _)
 ·simp [this]
theorem Rel.appendIn {N0 : Nat} {w0 : World} {st : St} {tmps : Array Value} (h : Rel N0 w0 d G w st tmps) {s sz b cap : Nat} {xs ys : List DV} {news : List Value} {cur : Array Value} {te : TypeId}
  (hv : VP G w (.sl true sz xs) (.slice (some ⟨b,0,none⟩) xs.length cap)) (hr : G.role b = .arr (.ret d 0 0) (xs.length * sz)) (hg : w.heap[b]? = some (.cells cur te (0,0))) (hcur : cur.size = cap * sz)
  (hroom : xs.length + ys.length≤cap) (hnl : news.length = ys.length * sz) (hy : ∀ (i : Nat) (x : DV),ys[i]? = some x→x.cells.length = sz∧x.cells.all DV.scalar = true)
  (hyc : ∀ (i j : Nat) (x c : DV),ys[i]? = some x→x.cells[j]? = some c→∃ u,news[i * sz + j]? = some u∧VP G w c u) :
  ∃ G',Rel N0 w0 d G' (w.setRow b (cur.toList.take (xs.length * sz) ++ news ++ cur.toList.drop (xs.length * sz + news.length)).toArray) (st.put s (.sl true sz (xs ++ ys))) (tmps.setIfInBounds s (.slice (some ⟨b,0,none⟩) (xs.length + ys.length) cap)) ∧
   Ext d G w G' (w.setRow b (cur.toList.take (xs.length * sz) ++ news ++ cur.toList.drop (xs.length * sz + news.length)).toArray):=by
 have hmul : xs.length * sz + ys.length * sz≤cap * sz:=by rw [← Nat.add_mul]; exact Nat.mul_le_mul_right sz hroom
 have hfit : xs.length * sz + news.length≤cur.toList.length:=by simp; omega
 have hsame : ∀ k,k < xs.length * sz→(cur.toList.take (xs.length * sz) ++ news ++ cur.toList.drop (xs.length * sz + news.length)).toArray[k]? = cur[k]?:=by
  intro k hk
  rw [List.getElem?_toArray,putAt_get _ _ _ hfit,if_neg (by omega)]
  simp
 have hnew : ∀ k u,news[k]? = some u→(cur.toList.take (xs.length * sz) ++ news ++ cur.toList.drop (xs.length * sz + news.length)).toArray[xs.length * sz + k]? = some u:=by
  intro k u hk
  have:=(List.getElem?_eq_some_iff.1 hk).1
  rw [List.getElem?_toArray,putAt_get _ _ _ hfit,if_pos ⟨by omega,by omega⟩,Nat.add_sub_cancel_left]
  exact hk
 generalize hcs : (cur.toList.take (xs.length * sz) ++ news ++ cur.toList.drop (xs.length * sz + news.length)).toArray = cs' at *
 have hcsz : cs'.size = cap * sz:=by rw [← hcs]; simp; omega
 have hm : Mod b G w (G.setRole b (.arr (.slot d s 0 0) ((xs.length + ys.length) * sz))) (w.setRow b cs'):=by
  refine ⟨rfl,rfl,rfl,by simp,lt_of_heap hg,fun x hx => ⟨setRow_other w b x cs' hx,G.setRole_ne _ hx⟩,rfl,rfl,fun x o v hi => ?_,fun _ _ x => x⟩
  by_cases e : x = b
  ·subst e
   rcases hi.1 with hi1 | ⟨ow,wm,hi1,hi2⟩
   ·rw [hr] at hi1; cases hi1
   ·rw [hr] at hi1
    cases hi1
    refine ⟨.inr ⟨_,_,G.setRole_same _ _,by rw [Nat.add_mul]; omega⟩,?_⟩
    have hc:=hi.2
    rw [cell_setRow_same w x o cur cs' te (0,0) hg,hsame o hi2]
    simpa [World.cell?,hg] using hc
  ·refine ⟨by rw [G.setRole_ne _ e]; exact hi.1,?_⟩
   have:=hi.2
   simp only [World.cell?] at this ⊢
   rw [setRow_other w b x cs' e]; exact this
 have hno : ∀ o wm,(∀ i j,o ≠ .ret d i j)→G.role b ≠ .arr o wm:=by
  intro o wm ho e
  rw [hr] at e
  cases e
  exact ho 0 0 rfl
 have hrel : Rel N0 w0 d (G.setRole b (.arr (.slot d s 0 0) ((xs.length + ys.length) * sz))) (w.setRow b cs') st tmps:=by
  refine ⟨h.len,fun s dv v hs hv => ⟨(h.slots s dv v hs hv).1.mod hm,(h.slots s dv v hs hv).2.mod hm fun i j wm => hno _ wm (by simp)⟩,fun s g cs' hbx => ?_,h.nobox,fun t p v hlk ht => ?_,h.heap.mod hm (by rw [hr]; simp) rfl fun id ob hob => (h.heap.objs id ob hob).mod hm (by rw [hr]; simp) fun j wm => hno _ wm (by simp)⟩
  ·obtain ⟨b',vs',e',a1,a2,a3,a4⟩:=h.boxes s g cs' hbx
   have hne : b' ≠ b:=by rintro rfl; rw [hr] at a2; cases a2
   exact ⟨b',vs',e',a1,by rw [(hm.block b' hne).2]; exact a2,hm.heap hne a3,a4.mod hm fun j wm => hno _ wm (by simp)⟩
  ·refine posVal_mod hm (h.links t p v hlk ht) (fun x hx => (hm.block x hx).2) ?_
   cases p with
   | slot s i => trivial
   | box s' g' o => rintro x hx hrx rfl; rw [hr] at hrx; cases hrx
   | hp i o => rintro x hx hrx rfl; rw [hr] at hrx; cases hrx
 have hcap : cap≤maxLen:=by cases hv; assumption
 have hvp : VP (G.setRole b (.arr (.slot d s 0 0) ((xs.length + ys.length) * sz))) (w.setRow b cs') (.sl true sz (xs ++ ys)) (.slice (some ⟨b,0,none⟩) (xs.length + ys.length) cap):=by
  cases hv with
  | sl f h1 h2 h3 h4 h5 h6 =>
   refine .sl (fun i j => (cs'[i * sz + j]?).getD undef) (by simp) hroom h3 (fun i x hx => ?_) (fun i j x c hi hj => ?_) (fun i j x c hi hj => ?_)
   ·rw [List.getElem?_append] at hx
    split at hx
    ·exact h4 i x hx
    ·exact hy _ x hx
   all_goals
    have hget : ∃ u,cs'[i * sz + j]? = some u∧VP G w c u∧i * sz + j < (xs.length + ys.length) * sz:=by
     rw [List.getElem?_append] at hi
     split at hi
     ·rename_i hil
      have hjl : j < sz:=by rw [← (h4 i x hi).1]; exact (List.getElem?_eq_some_iff.1 hj).1
      have hlt : i * sz + j < xs.length * sz:=by
       have : (i + 1) * sz≤xs.length * sz:=Nat.mul_le_mul_right sz (by omega)
       rw [Nat.add_mul] at this
       omega
      refine ⟨f i j,?_,h6 i j x c hi hj,by rw [Nat.add_mul]; omega⟩
      rw [hsame _ hlt]
      have:=(h5 i j x c hi hj).2
      simpa [World.cell?,hg] using this
     ·rename_i hil
      obtain ⟨u,hu1,hu2⟩:=hyc _ j x c hi hj
      have:=hnew _ u hu1
      have hlt:=(List.getElem?_eq_some_iff.1 hu1).1
      have e : i * sz + j = xs.length * sz + ((i - xs.length) * sz + j):=by
       rw [← Nat.add_assoc,← Nat.add_mul]; congr 2; omega
      rw [e]
      exact ⟨u,this,hu2,by rw [Nat.add_mul]; omega⟩
    obtain ⟨u,hu1,hu2,hu3⟩:=hget
   ·refine ⟨.inr ⟨.slot d s 0 0,(xs.length + ys.length) * sz,G.setRole_same _ _,by omega⟩,?_⟩
    rw [Nat.zero_add,cell_setRow_same w b _ cur cs' te (0,0) hg,hu1]
    rfl
   ·rw [hu1]
    exact hu2.keep hm.keep
 exact ⟨_,hrel.put (SV.of_vp hvp) (sown_sl hvp (.inr ⟨b,_,cap,cs',te,rfl,G.setRole_same _ _,setRow_heap w b cur cs' te (0,0) hg,hcsz,hroom⟩)),
  hm.ext d (by intro e s _; rw [hr]; simp) (by intro o wm ho e; rw [hr] at e; cases e; simp [Owner.outer] at ho)⟩
end Go.Ab
/- AcO: One operation,in the abstract state. -/
namespace Go.Ab
open Go Go.Conc Go.RowKit
abbrev ObjT:=TypeId→Bool
variable (P : Program) (isObj : ObjT)
def DV.plain : DV→Prop
 | .lptr .. => False
 | .lsl .. => False
 | .tup _ => False
 | _ => True
def St.link (st : St) (s : Nat) (p : Pos) : St:={ st with lk:=(s,p) :: st.lk }
def moveD (st : St) (s : Nat) (ty : TypeId) (x : Operand) : St :=
 let st1:=st.put s (rho P st ty x).roA
 match x with
 | .tmp q => match st.t.getD q .undef with
  | .sl true _ _ => if q = s then st1 else st1.link s (.slot q 0)
  | .sl false _ _ => match lkGet q st.lk with | some p => if p.atSlot s then st1 else st1.link s p | none => st1
  | _ => st1
 | _ => st1
def addrPos : DV→Option Pos
 | .ptr id off => some (.hp id off)
 | .lptr s g off => some (.box s g off)
 | _ => none
def loadD (st : St) (s : Nat) (t : TypeId) (a : DV) (dv : DV) : St :=
 match dv with
 | .sl .. => match addrPos a with
  | some p => if (isAggT P t) then st.put s dv else (st.put s dv).link s p
  | none => st.put s dv
 | _ => st.put s dv
def extractD (st : St) (s : Nat) (x : Operand) (i : Nat) (dv : DV) : St :=
 match x,dv with
 | .tmp q,.sl .. => if q = s then st.put s dv else (st.put s dv).link s (.slot q (i + 1))
 | _,_ => st.put s dv
def newVarD (st : St) (s : Nat) (e : TypeId) (dv : DV) : St :=
 if isObj e then { st with H:=st.H ++ [HObj.cells dv.cells] }.put s (.ptr st.H.length 0)
 else { st with B:=bset s (bgen s st.B) dv.cells st.B }.put s (.lptr s (bgen s st.B) 0)
def buildD (fs : Array Field) : List (Nat × Operand)→List DV→St→(List DV→St→Prop)→Prop
 | [],cs,st,K => K cs st
 | (i,x) :: r,cs,st,K => match fs[i]? with
  | some f => (take P st f.type x).1.cells.length = P.cellsOf f.type∧f.offset + (take P st f.type x).1.cells.length≤cs.length∧(take P st f.type x).1.cells.all DV.scalar = true ∧
    buildD fs r (putAt cs f.offset (take P st f.type x).1.cells) (take P st f.type x).2 K
  | none => False
def storeD (st : St) (t : TypeId) (a : DV) (dv : DV) (K : St→Prop) : Prop :=
 (P.underlying t).isSome = true∧dv.cells.length = P.cellsOf t∧dv.cells.all DV.scalar = true ∧
 match a with
 | .ptr id off => match st.H[id]? with
  | some (.cells cs) => off + dv.cells.length≤cs.length∧K (st.setH id (.cells (putAt cs off dv.cells)))
  | _ => False
 | .lptr s g off => match bget s st.B with
  | some (g',cs) => g' = g∧off + dv.cells.length≤cs.length∧K (st.setB s g (putAt cs off dv.cells))
  | none => False
 | _ => False
def srcD (st : St) (t2 : TypeId) (y : DV) (sz : Nat) (K : List DV→Prop) : Prop :=
 match P.underlying t2,y with
 | some (.slice _),.sl _ sz' ys => sz' = sz∧K ys
 | some .string,.str s => sz = 1∧K (s.map fun b => DV.int .u8 b.toNat)
 | _,_ => False
def appendD (st : St) (s : Nat) (t t2 : TypeId) (x : Operand) (y : DV) (K : St→Prop) : Prop :=
 match P.underlying t with
 | some (.slice e) => (P.underlying e).isSome = true∧0 < P.cellsOf e∧zeroOk P e (zeroDV P 4 e) = true ∧
  match (take P st t x).1 with
  | .sl true sz xs => sz = P.cellsOf e∧srcD P st t2 y sz fun ys => (xs.length + ys.length) * P.bytesOf e≤140737488355328∧xs.length + ys.length≤4611686018427387904∧K ((take P st t x).2.put s (.sl true sz (xs ++ ys)))
  | _ => False
 | _ => False
def srcC (st : St) (t2 : TypeId) (y : DV) (sz : Nat) (K : Nat→List DV→Prop) : Prop :=
 match y with
 | .hsl id sz' off len _ => (∃ e,P.underlying t2 = some (.slice e))∧sz' = sz∧match st.H[id]? with
  | some (.cells cs) => off + len * sz≤cs.length∧((cs.drop off).take (len * sz)).all DV.scalar = true∧K len (((cs.drop off).take (len * sz)).map DV.ro1)
  | _ => len = 0∧K 0 []
 | y => srcD P st t2 y sz fun ys => K ys.length ((ys.flatMap DV.cells).map DV.ro1)
def newRowK (st : St) (s sz n : Nat) (cells : List DV) (K : St→Prop) : Prop :=
 ∀ c,n≤c→K ({ st with H:=st.H ++ [HObj.cells (cells ++ List.replicate ((c - n) * sz) DV.undef)] }.put s (.hsl st.H.length sz 0 n c))
def appendObjD0 (st : St) (s : Nat) (t t2 : TypeId) (x : Operand) (y : DV) (K : St→Prop) : Prop :=
 match P.underlying t with
 | some (.slice e) => (P.underlying e).isSome = true∧0 < P.cellsOf e∧zeroOk P e (zeroDV P 4 e) = true ∧
  match (take P st t x).1 with
  | .sl true sz [] => sz = P.cellsOf e∧srcC P (take P st t x).2 t2 y sz fun n cells => n * P.bytesOf e≤140737488355328∧n≤4611686018427387904∧(n = 0→K ((take P st t x).2.put s (.sl true sz []))) ∧
    (n ≠ 0→newRowK (take P st t x).2 s sz n cells K)
  | .hsl id sz off len cap => sz = P.cellsOf e∧(cap = 0→srcC P (take P st t x).2 t2 y sz fun n cells => n * P.bytesOf e≤140737488355328∧n≤4611686018427387904∧(n = 0→K ((take P st t x).2.put s (.hsl id sz off 0 0)))∧(n ≠ 0→newRowK (take P st t x).2 s sz n cells K))∧(cap ≠ 0→match (take P st t x).2.H[id]? with
   | some (.cells cs) => off + len * sz≤cs.length∧((cs.drop off).take (len * sz)).all DV.scalar = true∧srcC P (take P st t x).2 t2 y sz fun n cells => (len + n) * P.bytesOf e≤140737488355328∧len + n≤4611686018427387904 ∧
     (len + n≤cap→off = 0∧(len + n) * sz≤cs.length∧K (((take P st t x).2.setH id (.cells (putAt cs (len * sz) cells))).put s (.hsl id sz off (len + n) cap))) ∧
     (cap < len + n→newRowK (take P st t x).2 s sz (len + n) (((cs.drop off).take (len * sz)).map DV.ro1 ++ cells) K)
   | _ => False)
  | _ => False
 | _ => False
def appendZD (st : St) (s : Nat) (t t2 : TypeId) (x : Operand) (y : DV) (K : St→Prop) : Prop :=
 match P.underlying t,y,(take P st t x).1 with
 | some (.slice e),.int _ n,.hsl id sz off len cap => (∃ k,P.underlying t2 = some (.int k))∧0≤n∧(P.underlying e).isSome = true∧0 < P.cellsOf e∧zeroOk P e (zeroDV P 4 e) = true∧(zeroDV P 4 e).all DV.scalar = true∧sz = P.cellsOf e∧len≤cap∧cap < len + n.toNat ∧
   (len + n.toNat) * P.bytesOf e≤140737488355328∧len + n.toNat≤4611686018427387904∧match (take P st t x).2.H[id]? with
   | some (.cells cs) => off + len * sz≤cs.length∧newRowK (take P st t x).2 s sz (len + n.toNat) (((cs.drop off).take (len * sz)).map DV.ro1 ++ (List.replicate n.toNat ((zeroDV P 4 e).map DV.ro1)).flatten) K
   | _ => False
 | _,_,_ => False
def DV.isInt : DV→Bool
 | .int .. => true
 | _ => false
def appendObjD (st : St) (s : Nat) (t t2 : TypeId) (x : Operand) (y : DV) (K : St→Prop) : Prop :=
 if y.isInt = true then appendZD P st s t t2 x y K else appendObjD0 P st s t t2 x y K
def clearD (st : St) (t : TypeId) (x : DV) (K : St→Prop) : Prop :=
 match P.underlying t,x with
 | some (.slice e),.hsl id sz off len _ => (P.underlying e).isSome = true∧0 < P.cellsOf e∧sz = P.cellsOf e∧zeroOk P e (zeroDV P 4 e) = true∧(zeroDV P 4 e).all DV.scalar = true∧match st.H[id]? with
  | some (.cells cs) => off + len * sz≤cs.length∧K (st.setH id (.cells (putAt cs off (List.replicate len ((zeroDV P 4 e).map DV.ro1)).flatten)))
  | _ => False
 | _,_ => False
def isOver (f : FuncId) : Prop:=∃ (fn : Func) (t r e : TypeId),P.funcs[f]? = some fn∧(fn.name == "runtime.NumGoroutine") = false∧fn.body.isNone = true∧Extern.findNext fn = none∧Extern.find fn = some (Extern.SlicesOverlaps.overlaps #[t,t] #[r])∧P.underlying t = some (.slice e)∧(P.underlying e).isSome = true
def overD (H : List HObj) : DV→DV→(DV→Prop)→Prop
 | .hsl ix _ _ _ cx,.hsl iy _ _ _ cy,K => ix ≠ iy∧cx ≠ 0∧cy ≠ 0∧(∃ c1,H[ix]? = some (.cells c1))∧(∃ c2,H[iy]? = some (.cells c2)∧c2 ≠ [])∧K (.bool false)
 | _,_,_ => False
def srcS (st : St) (y : DV) (sz lim : Nat) (K : Nat→List DV→Prop) : Prop :=
 match y with
 | .hsl id sz' off len _ => sz' = sz∧match st.H[id]? with
  | some (.cells cs) => off + len * sz≤cs.length∧((cs.drop off).take (min len lim * sz)).all DV.scalar = true∧K len (((cs.drop off).take (len * sz)).map DV.ro1)
  | _ => False
 | .sl _ sz' ys => sz' = sz∧K ys.length ((ys.flatMap DV.cells).map DV.ro1)
 | _ => False
def copyD (st : St) (t : TypeId) (x y : DV) (K : Int→St→Prop) : Prop :=
 match P.underlying t,x with
 | some (.slice e),.hsl id sz off len _ => (P.underlying e).isSome = true∧0 < P.cellsOf e∧sz = P.cellsOf e∧match st.H[id]? with
  | some (.cells cs) => srcS st y sz len fun n cells => off + (min n len) * sz≤cs.length∧K (min n len : Nat) (st.setH id (.cells (putAt cs off (cells.take (min n len * sz)))))
  | _ => False
 | _,_ => False
def madeD (st : St) (s : Nat) (t : TypeId) (n : Nat) (K : St→Prop) : Prop :=
 match P.underlying t with
 | some (.slice e) => 0 < P.cellsOf e∧zeroOk P e (zeroDV P 4 e) = true∧n * P.bytesOf e≤281474976710656∧(zeroDV P 4 e).all DV.scalar = true ∧
  (if isObj t = true then K ({ st with H:=st.H ++ [HObj.cells ((List.replicate n ((zeroDV P 4 e).map DV.ro1)).flatten)] }.put s (.hsl st.H.length (P.cellsOf e) 0 n n))
  else K (st.put s (.sl true (P.cellsOf e) (List.replicate n (ofCells P e ((zeroDV P 4 e).map DV.ro1))))))
 | _ => False
def mapSet (k v : DV) : List (DV × DV)→List (DV × DV)
 | [] => [(k,v)]
 | (x,u) :: r => match keyEq k x with | some true => (k,v) :: r | _ => (x,u) :: mapSet k v r
def mapDel (k : DV) : List (DV × DV)→List (DV × DV)
 | [] => []
 | (x,u) :: r => match keyEq k x with | some true => r | _ => (x,u) :: mapDel k r
def mapUpdD (st : St) (mt : TypeId) (m k v : DV) (K : St→Prop) : Prop :=
 match P.underlying mt with
 | some (.map kt _) => keyT P kt k∧match m with
  | .map id => match st.H[id]? with
   | some (.map es) => (es.all fun e => (keyEq k e.1).isSome) = true∧v.plain∧K (st.setH id (.map (mapSet k v.ro es)))
   | _ => False
  | _ => False
 | _ => False
def mapDelD (st : St) (mt : TypeId) (m k : DV) (K : St→Prop) : Prop :=
 match P.underlying mt with
 | some (.map kt _) => keyT P kt k∧match m with
  | .nilmap => K st
  | .map id => match st.H[id]? with
   | some (.map es) => (es.all fun e => (keyEq k e.1).isSome) = true∧K (st.setH id (.map (mapDel k es)))
   | _ => False
  | _ => False
 | _ => False
def St.laid (st : St) (dst : Option Nat) (K : St→Prop) (dv : DV) : Prop:=K (st.put? dst dv)
def funT (e : TypeId) : Bool:=match (P.info? e).bind (·.zero) with | some .nilFunc => true | _ => false
def dop (o : Oper) (st : St) (K : St→Prop) : Prop :=
 match o.op with
 | .move x => match o.dst with | some s => K (moveD P st s o.type x) | none => False
 | .assign x => match o.dst with | some s => K ((take P st o.type x).2.put s (take P st o.type x).1) | none => False
 | .pick c x y => match rho P st o.type c with
  | .bool b => K (st.put? o.dst (if b then (rho P st o.type x).roA else (rho P st o.type y).roA))
  | _ => False
 | .alloc e => match o.dst with
  | some s => if funT P e = true then isObj e = true∧K ({ st with H:=st.H ++ [HObj.cells [.undef]] }.put s (.ptr st.H.length 0))
   else zeroOk P e (zeroDVo P isObj 6 e) = true∧(ofCells P e (zeroDVo P isObj 6 e)).cells.all DV.scalar = true∧K (newVarD isObj st s e (ofCells P e (zeroDVo P isObj 6 e)))
  | none => False
 | .box e x => match o.dst with | some s => (take P st e x).1.cells.all DV.scalar = true∧K (newVarD isObj (take P st e x).2 s e (take P st e x).1) | none => False
 | .build t parts => match o.dst,P.underlying t with
  | some s,some (.struct fs) => isAggT P t = true∧zeroOk P t (zeroDVo P isObj 6 t) = true∧(fs.toList.all fun f => (P.underlying f.type).isSome) = true∧buildD P fs parts.toList (zeroDVo P isObj 6 t) (st.put s .undef) fun cs st' => K (st'.put s (.agg cs))
  | _,_ => False
 | .buildSlice t len parts => match o.dst,P.underlying t with
  | some s,some (.slice e) => (P.underlying e).isSome = true∧0 < P.cellsOf e∧len * P.cellsOf e≤16777216∧(P.info? e).any (·.zero.isSome) = true∧parts.toList.map (·.1) = List.range len ∧
   (∀ x∈parts.toList,(rho P st e x.2).ro.cells.length = P.cellsOf e∧(rho P st e x.2).ro.cells.all DV.scalar = true) ∧
   (if isObj t = true∧0 < len then K ({ st with H:=st.H ++ [HObj.cells (((parts.toList.map fun x : Nat × Operand => (rho P st e x.2).ro).flatMap DV.cells).map DV.ro1)] }.put s (.hsl st.H.length (P.cellsOf e) 0 len len))
   else K (st.put s (.sl true (P.cellsOf e) (parts.toList.map fun x => (rho P st e x.2).ro))))
  | _,_ => False
 | .makeFunc (.func f) first caps => first.toList = []∧(∀ x∈caps.toList,(rho P st 0 x).plain)∧st.laid o.dst K (.fn f (caps.toList.map fun x => (rho P st 0 x).ro))
 | .makeSlice t l c => match o.dst,rho P st 3 l,rho P st 3 c with
  | some s,.int _ n,.int _ m => n = m∧0≤n∧n≤9223372036854775807∧madeD P isObj st s t n.toNat K
  | _,_,_ => False
 | .makeChan t x => match o.dst,P.underlying t,rho P st 3 x with
  | some s,some (.chan _ e),.int _ n => (P.info? e).isSome = true∧0≤n∧n≤9223372036854775807∧P.bytesOf e * n.toNat≤281474976710544∧K (st.put s .any)
  | _,_,_ => False
 | .load t a => match o.dst with | some s => dload P st t (rho P st 0 a) fun dv => K (loadD P st s t (rho P st 0 a) dv) | none => False
 | .store t a x => o.dst = none∧storeD P (take P st t x).2 t (rho P st 0 a) (take P st t x).1 K
 | .nilCheck x => match rho P st 0 x with
  | .ptr i q => K (st.put? o.dst (.ptr i q))
  | .lptr s g q => K (st.put? o.dst (.lptr s g q))
  | .vptr cs => K (st.put? o.dst (.vptr cs))
  | _ => False
 | .binOp op xt x y yt => if isNilSl y = true then dnilSl P op xt (rho P st xt x) (st.laid o.dst K) else dbin P op xt (rho P st xt x) (rho P st yt y) (st.laid o.dst K)
 | .unOp op t x => dun op (rho P st t x) (st.laid o.dst K)
 | .convert s t x => dconv P st s t (rho P st s x) (st.laid o.dst K)
 | .makeMap t none => match o.dst with | some s => K ({ st with H:=st.H ++ [HObj.map []] }.put s (.map st.H.length)) | none => False
 | .slice t x lo hi none => dslice P t (rho P st t x) (lo.map (rho P st 3)) (hi.map (rho P st 3)) (st.laid o.dst K)
 | .fieldAddr t x f => dfieldAddr P t (rho P st 0 x) f (st.laid o.dst K)
 | .field t x f => dfield P t (rho P st t x) f (st.laid o.dst K)
 | .indexAddr t x i => dindexAddr P t (rho P st t x) (rho P st 3 i) (st.laid o.dst K)
 | .index t x i => dindex P t (rho P st t x) (rho P st 3 i) (st.laid o.dst K)
 | .lookup t m k ok => (rho P st 0 k).plain∧dlookup P st t (rho P st t m) (rho P st 0 k) ok (st.laid o.dst K)
 | .mapUpdate t m k v => (rho P st 0 k).plain∧mapUpdD P st t (rho P st t m) (rho P st 0 k) (rho P st 0 v) fun st' => K (st'.put? o.dst .undef)
 | .extract x i => match o.dst with | some s => dextract (rho P st 0 x) i fun dv => K (extractD st s x i dv) | none => False
 | .call { callee:=.value (.func f),args,argTypes:=_ } => match args.toList with
  | [x,y] => isOver P f∧overD st.H (rho P st 0 x) (rho P st 0 y) (st.laid o.dst K)
  | _ => False
 | .call { callee:=.builtin b,args,argTypes } =>
  match b,args.toList,argTypes.toList with
  | .len,[x],[t] => dlen P st t (rho P st t x) (st.laid o.dst K)
  | .cap,[x],[t] => dcap P t (rho P st t x) (st.laid o.dst K)
  | .copy,[x,y],[t,t2] => copyD P st t (rho P st t x) (rho P st t2 y) fun n st' => K (st'.put? o.dst (.int .i64 n))
  | .clear,[x],[t] => clearD P st t (rho P st t x) fun st' => K (st'.put? o.dst (.tup []))
  | .max,[x,y],_ => dminmax true [rho P st 0 x,rho P st 0 y] (st.laid o.dst K)
  | .min,[x,y],_ => dminmax false [rho P st 0 x,rho P st 0 y] (st.laid o.dst K)
  | .append,[x,y],[t,t2] => match o.dst with | some s => (if isObj t = true then appendObjD P st s t t2 x (rho P st t2 y) K else appendD P st s t t2 x (rho P st t2 y) K) | none => False
  | .delete,[m,k],[t,_] => (rho P st 0 k).plain∧mapDelD P st t (rho P st t m) (rho P st 0 k) fun st' => K (st'.put? o.dst (.tup []))
  | _,_,_ => False
 | _ => False
end Go.Ab
/- AcP: Each operation in the machine is what the abstract state says. -/
namespace Go.Ab
open Go Go.Conc Go.RowKit
variable {P : Program} {isObj : ObjT} {N0 : Nat} {w0 : World} {d : Nat} {G : Gh} {w : World} {st : St} {a : Act} {K : St→Prop}
def OpTo (P : Program) (N0 : Nat) (w0 : World) (d : Nat) (G : Gh) (w : World) (a : Act) (o : Oper) (K : St→Prop) : Prop :=
 ∃ v w' G' st',((execOp a.eval o).run P w = .ok (.value v) w'∨(v = undef∧(execOp a.eval o).run P w = .ok .skip w'))∧K st'∧Ext d G w G' w'∧Rel N0 w0 d G' w' st' (a.put o.dst v).tmps
theorem put_tmps (a : Act) (s : Nat) (v : Value) : (a.put (some s) v).tmps = a.tmps.setIfInBounds s v:=rfl
theorem Rel.put? (h : Rel N0 w0 d G w st a.tmps) {dst : Option Nat} {dv : DV} {v : Value} (hv : SV G w d dv v) (ho : dv.noOwn = true) : Rel N0 w0 d G w (st.put? dst dv) (a.put dst v).tmps:=by
 cases dst with
 | none => exact h
 | some s => exact h.put hv (sown_of_noOwn ho)
theorem OpTo.of_PR {o : Oper} {s : Sem Value} (hR : Rel N0 w0 d G w st a.tmps) (h : PR P G w d (st.laid o.dst K) s) (hx : (execOp a.eval o).run P w = (s.run P w).andThen fun v w' => .ok (.value v) w') : OpTo P N0 w0 d G w a o K:=by
 obtain ⟨dv,v,h1,h2,h3,h4⟩:=h
 exact ⟨v,w,G,_,.inl (by rw [hx,h2]; rfl),h1,.refl _ _ _,hR.put? h3 h4⟩
theorem exec_v {o : Oper} {s : Sem Value} (h : execOp a.eval o = (do pure (.value (← s)))) : (execOp a.eval o).run P w = (s.run P w).andThen fun v w' => .ok (.value v) w':=by
 rw [h,Sem.run_bind]; rfl
theorem op_assign {o : Oper} {x : Operand} (ho : o.op = .assign x) (hR : Rel N0 w0 d G w st a.tmps) {s : Nat} (hd : o.dst = some s) (h : K ((take P st o.type x).2.put s (take P st o.type x).1)) : OpTo P N0 w0 d G w a o K:=by
 obtain ⟨f,hf,h1,h2,h3,_⟩:=take_sound (P:=P) hR o.type x
 obtain ⟨G',h4,h5⟩:=h1.place (s:=s) h2 h3
 exact ⟨a.eval x,w,G',_,.inl (by simp [execOp,ho]),h,(ext_ren hf).trans h5,by rw [hd]; exact h4⟩
theorem Rel.link {tmps : Array Value} (h : Rel N0 w0 d G w st tmps) {s : Nat} {p : Pos} (hp : ∀ v,tmps[s]? = some v→posVal G w d tmps p = some v) : Rel N0 w0 d G w (st.link s p) tmps :=
 ⟨h.len,h.slots,h.boxes,h.nobox,fun t q v hl ht => by
  rcases List.mem_cons.1 hl with e | e
  ·cases e; exact hp v ht
  ·exact h.links t q v e ht,h.heap⟩
theorem op_move {o : Oper} {x : Operand} (ho : o.op = .move x) (hR : Rel N0 w0 d G w st a.tmps) {s : Nat} (hd : o.dst = some s) (h : K (moveD P st s o.type x)) : OpTo P N0 w0 d G w a o K:=by
 have hput : Rel N0 w0 d G w (st.put s (rho P st o.type x).roA) (a.tmps.setIfInBounds s (a.eval x)):=hR.put (hR.rho o.type x).roA (sown_of_noOwn (noOwn_roA _))
 refine ⟨a.eval x,w,G,_,.inl (by simp [execOp,ho]),h,.refl _ _ _,?_⟩
 rw [hd,put_tmps]
 unfold moveD
 split
 ·rename_i q
  have hval : ∀ own sz xs,st.t.getD q .undef = .sl own sz xs→a.tmps[q]? = some (a.eval (.tmp q))∧∃ v,VP G w (.sl own sz xs) v∧a.eval (.tmp q) = v:=by
   intro own sz xs hy
   have hlt : q < st.t.length:=by
    rcases Nat.lt_or_ge q st.t.length with h' | h'
    ·exact h'
    ·simp [List.getD,List.getElem?_eq_none h'] at hy
   have hr:=hR.rho (P:=P) o.type (.tmp q)
   simp only [rho,hy] at hr
   rw [hR.len] at hlt
   exact ⟨by simp [Act.eval,hlt],_,hr,rfl⟩
  split
  ·rename_i sz xs hy
   split
   ·exact hput
   ·rename_i hq
    obtain ⟨h1,v,h2,h3⟩:=hval _ _ _ hy
    refine hput.link fun u hu => ?_
    have hu' : u = a.eval (.tmp q):=by
     rw [Array.getElem?_setIfInBounds] at hu
     simp only [if_true] at hu
     split at hu
     ·exact (Option.some.inj hu).symm
     ·cases hu
    simp only [posVal,Array.getElem?_setIfInBounds_ne (Ne.symm hq),h1,Option.bind_some]
    rw [hu',h3]
    have hc : v.cells = #[v]:=by cases h2 <;> rfl
    have ht : ∀ vs,v ≠ .tuple vs:=by cases h2 <;> simp
    unfold vpart
    split
    ·exact absurd rfl (ht _)
    ·simp [hc]
  ·rename_i sz xs hy
   split
   ·rename_i p hp
    split
    ·exact hput
    ·rename_i hat
     obtain ⟨h1,v,h2,h3⟩:=hval _ _ _ hy
     refine hput.link fun u hu => ?_
     have hu' : u = a.eval (.tmp q):=by
      rw [Array.getElem?_setIfInBounds] at hu
      simp only [if_true] at hu
      split at hu
      ·exact (Option.some.inj hu).symm
      ·cases hu
     have:=hR.links q p _ (lkGet_mem hp) h1
     rw [hu']
     cases p with
     | slot s' i =>
      simp only [Pos.atSlot,beq_iff_eq] at hat
      simp only [posVal,Array.getElem?_setIfInBounds_ne (Ne.symm hat)]
      exact this
     | box s' g' o' => exact this
     | hp i o' => exact this
   ·exact hput
  ·exact hput
 ·exact hput
theorem op_pick {o : Oper} {c x y : Operand} (ho : o.op = .pick c x y) (hR : Rel N0 w0 d G w st a.tmps) {b : Bool} (hb : rho P st o.type c = .bool b) (h : K (st.put? o.dst (if b then (rho P st o.type x).roA else (rho P st o.type y).roA))) : OpTo P N0 w0 d G w a o K:=by
 have hc:=hR.rho (P:=P) o.type c
 rw [hb] at hc
 have hc:=hc.bool
 cases b with
 | true => exact ⟨a.eval x,w,G,_,.inl (by simp [execOp,ho,hc,asBool]),h,.refl _ _ _,hR.put? (hR.rho o.type x).roA (noOwn_roA _)⟩
 | false => exact ⟨a.eval y,w,G,_,.inl (by simp [execOp,ho,hc,asBool]),h,.refl _ _ _,hR.put? (hR.rho o.type y).roA (noOwn_roA _)⟩
theorem loadAs_cell {t : TypeId} {b off : Nat} {cs : List DV} {K : DV→Prop} (ha : isAggT P t = false) (hc : CellsAt G w b off cs) (h : loadAs P t cs K) : ∃ y,w.cell? ⟨b,off,none⟩ = some y∧∃ ds,P.underlying t = some ds:=by
 unfold loadAs at h
 rw [ha] at h
 simp only [Bool.false_eq_true,if_false] at h
 obtain ⟨hu,h⟩:=h
 cases cs with
 | nil => exact h.elim
 | cons c r =>
  obtain ⟨y,h1,_⟩:=hc 0 c rfl
  exact ⟨y,by simpa using h1,Option.isSome_iff_exists.1 hu⟩
theorem load_cell {t : TypeId} {b off : Nat} {ds : TypeDesc} {y u : Value} (hu : P.underlying t = some ds) (ha : isAggT P t = false) (hc : w.cell? ⟨b,off,none⟩ = some y) (h : (Instr.loadAt t (.pointer (some ⟨b,off,none⟩))).run P w = .ok u w) : y = u:=by
 simp only [Instr.loadAt,Instr.sureAddr,Sem.run_bind,Sem.run_pure,Result.andThen_ok,loadVar,run_isAgg' hu,ha,Bool.false_eq_true,if_false,run_load,hc] at h
 injection h with h _
theorem op_load {o : Oper} {t : TypeId} {x : Operand} (ho : o.op = .load t x) (hR : Rel N0 w0 d G w st a.tmps) {s : Nat} (hd : o.dst = some s) (h : dload P st t (rho P st 0 x) fun dv => K (loadD P st s t (rho P st 0 x) dv)) : OpTo P N0 w0 d G w a o K:=by
 obtain ⟨dv,v,h1,h2,h3,h4⟩:=dload_sound hR (hR.rho 0 x) h
 refine ⟨v,w,G,_,.inl (by rw [exec_v (s:=Instr.loadAt t (a.eval x)) (by simp only [execOp,ho]),h2]; rfl),h1,.refl _ _ _,?_⟩
 have hput : Rel N0 w0 d G w (st.put s dv) (a.tmps.setIfInBounds s v):=hR.put h3 (sown_of_noOwn h4)
 rw [hd,put_tmps]
 unfold loadD
 split
 case h_2 => exact hput
 split
 ·rename_i p hp
  split
  ·exact hput
  ·rename_i hagg
   refine hput.link fun u hu => ?_
   have hu' : u = v:=by
    rw [Array.getElem?_setIfInBounds] at hu
    simp only [if_true] at hu
    split at hu
    ·exact (Option.some.inj hu).symm
    ·cases hu
   subst hu'
   have hx:=hR.rho (P:=P) 0 x
   have hagg' : isAggT P t = false:=by simpa using hagg
   cases hy : rho P st 0 x <;> rw [hy] at hp <;> simp only [addrPos] at hp <;> try (cases hp; done)
   ·rename_i id off
    cases hp
    rw [hy] at hx h
    obtain ⟨b,hb,e⟩:=hx.ptr
    simp only [dload] at h
    split at h
    ·rename_i cs hcs
     obtain ⟨b',vs,te,k1,k2,k3,k4⟩:=hR.heap.objs _ _ hcs
     obtain rfl : b = b':=by rw [hb] at k1; exact Option.some.inj k1
     obtain ⟨y,hy2,ds,hds⟩:=loadAs_cell hagg' (by simpa using (k4.at k3).drop off) h
     rw [e] at h2
     have:=load_cell hds hagg' hy2 h2
     subst this
     simp [posVal,hb,k2,hy2]
    ·exact h.elim
   ·rename_i s' g off
    cases hp
    rw [hy] at hx h
    obtain ⟨b,hb,e⟩:=(hx : SV G w d (.lptr s' g off) _)
    simp only [dload] at h
    split at h
    ·rename_i g' cs hcs
     obtain ⟨rfl,h⟩:=h
     obtain ⟨b',vs,te,k1,k2,k3,k4⟩:=hR.boxes _ _ _ hcs
     obtain rfl : b = b':=by rw [hb] at k1; exact Option.some.inj k1
     obtain ⟨y,hy2,ds,hds⟩:=loadAs_cell hagg' (by simpa using (k4.at k3).drop off) h
     rw [e] at h2
     have:=load_cell hds hagg' hy2 h2
     subst this
     simp [posVal,hb,k2,hy2]
    ·exact h.elim
 ·exact hput
end Go.Ab
/- AcP2: Each operation,on: parts,stores,new variables,rows,appends. -/
namespace Go.Ab
open Go Go.Conc Go.RowKit
variable {P : Program} {isObj : ObjT} {N0 : Nat} {w0 : World} {d : Nat} {G : Gh} {w : World} {st : St} {a : Act} {K : St→Prop}
theorem op_extract {o : Oper} {x : Operand} {i : Nat} (ho : o.op = .extract x i) (hR : Rel N0 w0 d G w st a.tmps) {s : Nat} (hd : o.dst = some s) (h : dextract (rho P st 0 x) i fun dv => K (extractD st s x i dv)) : OpTo P N0 w0 d G w a o K:=by
 obtain ⟨dv,v,h1,h2,h3,h4⟩:=dextract_sound (P:=P) (hR.rho 0 x) h
 refine ⟨v,w,G,_,.inl (by rw [exec_v (s:=Instr.extract (a.eval x) i) (by simp only [execOp,ho]),h2]; rfl),h1,.refl _ _ _,?_⟩
 have hput : Rel N0 w0 d G w (st.put s dv) (a.tmps.setIfInBounds s v):=hR.put h3 (sown_of_noOwn h4)
 rw [hd,put_tmps]
 unfold extractD
 split
 ·rename_i q own sz xs
  split
  ·exact hput
  ·rename_i hq
   refine hput.link fun u hu => ?_
   have hu' : u = v:=by
    rw [Array.getElem?_setIfInBounds] at hu
    simp only [if_true] at hu
    split at hu
    ·exact (Option.some.inj hu).symm
    ·cases hu
   subst hu'
   unfold dextract at h
   split at h
   ·rename_i ds hds
    have hr:=hR.rho (P:=P) 0 (.tmp q)
    rw [hds] at hr
    obtain ⟨vs,e,hl,hvs⟩:=(hr : SV G w d (.tup ds) _)
    have hlt : q < a.tmps.size:=by
     rcases Nat.lt_or_ge q a.tmps.size with h' | h'
     ·exact h'
     ·simp [Act.eval,Array.getD,Nat.not_lt.2 h',undef] at e
      subst e
      have : ds = []:=by simpa using hl
      subst this
      simp at h
    have hq2 : a.tmps[q]? = some (.tuple vs):=by rw [← e]; simp [Act.eval,hlt]
    simp only [posVal,Array.getElem?_setIfInBounds_ne (Ne.symm hq),hq2,Option.bind_some,vpart]
    rw [e] at h2
    split at h
    ·rename_i c hc
     have hlt2 : i < vs.size:=by rw [← hl]; exact (List.getElem?_eq_some_iff.1 hc).1
     have hv : vs[i]? = some vs[i]:=by simp [hlt2]
     simp only [Instr.extract,hv,Sem.run_pure] at h2
     injection h2 with h2 _
     subst h2
     simp only [Nat.add_eq_zero_iff,Nat.succ_ne_self,and_false,if_false,Nat.add_sub_cancel,hv,Option.bind_some]
     have hcl : vs[i].cells = #[vs[i]]:=by
      have h3' : VP G w (.sl own sz xs) vs[i]:=h3
      generalize vs[i] = y at h3'
      cases h3' <;> rfl
     rw [hcl]; rfl
    ·exact h.elim
   ·exact h.elim
 ·exact hput
theorem op_PR {o : Oper} {s : Sem Value} (hR : Rel N0 w0 d G w st a.tmps) (h : PR P G w d (st.laid o.dst K) s) (hx : execOp a.eval o = (do pure (.value (← s)))) : OpTo P N0 w0 d G w a o K:=OpTo.of_PR hR h (exec_v hx)
theorem op_nilCheck {o : Oper} {x : Operand} (ho : o.op = .nilCheck x) (hR : Rel N0 w0 d G w st a.tmps) {dv : DV} (hx : rho P st 0 x = dv) (hp : match dv with | .ptr .. | .lptr .. | .vptr _ => True | _ => False) (h : K (st.put? o.dst dv)) : OpTo P N0 w0 d G w a o K:=by
 have hr:=hR.rho (P:=P) 0 x
 rw [hx] at hr
 have : ∃ b,a.eval x = .pointer (some b):=by
  cases dv <;> first | exact hp.elim | skip
  ·obtain ⟨b,_,e⟩:=hr.ptr; exact ⟨_,e⟩
  ·obtain ⟨b,_,e⟩:=(hr : SV G w d (.lptr _ _ _) _); exact ⟨_,e⟩
  ·obtain ⟨b,off,e,_⟩:=(hr : VP G w (.vptr _) _).at; exact ⟨_,e⟩
 obtain ⟨b,e⟩:=this
 refine ⟨a.eval x,w,G,_,.inl (by simp [execOp,ho,e]),h,.refl _ _ _,hR.put? hr ?_⟩
 cases dv <;> first | exact hp.elim | rfl
theorem op_newVar {o : Oper} {s : Nat} (hd : o.dst = some s) (hR : Rel N0 w0 d G w st a.tmps) {dv : DV} {v : Value} {e : TypeId} {G0 : Gh} (hext : Ext d G0 w G w) (hv : SV G w d dv v) (hown : SOwn G w (.ret d) dv v) (hs : dv.cells.all DV.scalar = true)
  (hx : (execOp a.eval o).run P w = .ok (.value (.pointer (some ⟨w.heap.size,0,none⟩))) (w.alloc (.cells v.cells e))) (h : K (newVarD isObj st s e dv)) : OpTo P N0 w0 d G0 w a o K:=by
 unfold newVarD at h
 split at h
 ·obtain ⟨G',h1,h2⟩:=hR.newObj (s:=s) e hv hown hs
  exact ⟨_,_,G',_,.inl hx,h,hext.trans h2,by rw [hd]; exact h1⟩
 ·obtain ⟨G',h1,h2⟩:=hR.newBox (s:=s) e hv hown hs
  exact ⟨_,_,G',_,.inl hx,h,hext.trans h2,by rw [hd]; exact h1⟩
theorem op_box {o : Oper} {e : TypeId} {x : Operand} (ho : o.op = .box e x) (hR : Rel N0 w0 d G w st a.tmps) {s : Nat} (hd : o.dst = some s) (hs : (take P st e x).1.cells.all DV.scalar = true) (h : K (newVarD isObj (take P st e x).2 s e (take P st e x).1)) : OpTo P N0 w0 d G w a o K:=by
 obtain ⟨f,hf,h1,h2,h3,_⟩:=take_sound (P:=P) hR e x
 exact op_newVar hd h1 (ext_ren hf) h2 h3 hs (by simp [execOp,ho,Instr.box,newVar,Go.newRow]) h
theorem vpc_sl {c : DV} {v : Value} (h : vpc c v = true) (mk : Owner) : Owns G w mk c v:=by
 rintro sz xs rfl
 unfold vpc at h
 split at h <;> first | (cases h; done) | (rename_i e _; cases e; done) | (rename_i e; cases e; done) | exact .inl rfl
theorem zeroOk_own {t : TypeId} {zs : List DV} (h : zeroOk P t zs = true) (z : Value) (hz : (zeroValue t).run P w = .ok z w) (mk : Nat→Nat→Owner) : SOwn G w mk (ofCells P t zs) z:=by
 unfold zeroOk at h
 split at h
 ·rename_i i hi
  split at h
  ·rename_i z' hz'
   have : z' = z:=by
    simp [zeroValue,typeInfo,hi,hz'] at hz
    exact hz
   subst this
   simp only [Bool.and_eq_true,beq_iff_eq] at h
   obtain ⟨⟨⟨h1,h2⟩,h3⟩,h4⟩:=h
   have hall : ∀ (j : Nat) (c : DV) (v : Value),zs[j]? = some c→z'.cells[j]? = some v→vpc c v = true:=by
    intro j c v hc hvv
    rw [List.all_eq_true] at h3
    refine h3 (c,v) ?_
    have : (zs.zip z'.cells.toList)[j]? = some (c,v):=by
     rw [List.getElem?_zip_eq_some]
     exact ⟨hc,by simpa using hvv⟩
    exact List.mem_of_getElem? this
   intro i' j c x hc hx
   unfold ofCells at hc
   split at hc
   ·rename_i ha
    rw [ha] at h4
    cases z' with
    | agg cs =>
     simp only [DV.part,vpart] at hc hx
     split at hc
     ·rename_i hi0
      rw [if_pos hi0] at hx
      exact vpc_sl (hall j c x hc hx) _
     ·cases hc
    | _ => simp at h4
   ·rename_i ha
    have ha' : isAggT P t = false:=by simpa using ha
    rw [ha'] at h4
    have hcells : z'.cells = #[z']:=by
     cases z' with
     | agg cs => simp at h4
     | _ => rfl
    rw [hcells] at h1 hall
    match zs,h1 with
    | [c0],_ =>
     have h0:=hall 0 c0 z' rfl rfl
     have hp : c = c0∧i' = 0∧j = 0:=by
      simp only [List.getD_cons_zero] at hc
      unfold vpc at h0
      split at h0 <;> first | (cases h0; done) | (simp only [DV.part,DV.cells] at hc; split at hc; (match j with | 0 => (simp at hc; exact ⟨hc.symm,‹_›,rfl⟩) | n + 1 => simp at hc); cases hc)
     obtain ⟨rfl,rfl,rfl⟩:=hp
     have hx0 : x = z':=by
      unfold vpart at hx
      split at hx
      ·simp [vpc] at h0
      ·rw [if_pos rfl,hcells] at hx; simpa using hx.symm
     subst hx0
     exact vpc_sl h0 _
  ·cases h
 ·cases h
theorem op_alloc {o : Oper} {e : TypeId} (ho : o.op = .alloc e) (hR : Rel N0 w0 d G w st a.tmps) {s : Nat} (hd : o.dst = some s) (hz : zeroOk P e (zeroDVo P isObj 6 e) = true) (hs : (ofCells P e (zeroDVo P isObj 6 e)).cells.all DV.scalar = true) (h : K (newVarD isObj st s e (ofCells P e (zeroDVo P isObj 6 e)))) : OpTo P N0 w0 d G w a o K:=by
 obtain ⟨z,hz1,hz2⟩:=zeroOk_sound (G:=G) (w:=w) hz
 refine op_newVar hd hR (.refl _ _ _) (SV.of_vp hz2) ?_ hs (v:=z) (by simp [execOp,ho,Instr.alloc,hz1,newVar,Go.newRow]) h
 exact zeroOk_own (w:=w) hz z hz1 (.ret d)
end Go.Ab
/- AcP3: Each operation,on: literals,stores,appends. -/
namespace Go.Ab
open Go Go.Conc Go.RowKit
variable {P : Program} {isObj : ObjT} {N0 : Nat} {w0 : World} {d : Nat} {G : Gh} {w : World} {st : St} {a : Act} {K : St→Prop}
/-! ### slice literals -/
theorem run_buildSlice' (t e : TypeId) (len : Nat) (vs : List Value) (hu : P.underlying t = some (.slice e)) (he : (P.underlying e).isSome = true) (hz : (P.info? e).any (·.zero.isSome) = true) (hpos : 0 < P.cellsOf e) (hsm : len * P.cellsOf e≤16777216) (hl : vs.length = len) (h1 : ∀ v∈vs,v.cells.size = P.cellsOf e) :
  (Instr.buildSlice t len (((vs.zipIdx 0).map fun x => (x.2,x.1)).toArray)).run P w = .ok (.slice (some ⟨w.heap.size,0,none⟩) len len) (w.alloc (.cells (vs.flatMap fun v => v.cells.toList).toArray e)):=by
 obtain ⟨ds,he⟩:=Option.isSome_iff_exists.1 he
 obtain ⟨i,hi⟩:=info_of_underlying he
 simp only [hi,Option.any_some] at hz
 obtain ⟨z,hzz⟩:=Option.isSome_iff_exists.1 hz
 have hcs : P.cellsOf e = i.size:=by simp [Program.cellsOf,hi]
 have hsz:=run_sizeOf' (w:=w) he
 have hsm' : ¬ (len * P.cellsOf e > 2 ^ 24):=by omega
 have hzr : (zeroValue e).run P w = .ok z w:=by simp [zeroValue,typeInfo,hi,hzz]
 have hf : ∀ cells : Array Value,cells.size = len * P.cellsOf e→Instr.fill (fun i => some (i * P.cellsOf e,P.cellsOf e)) cells ((vs.zipIdx 0).map fun x => (x.2,x.1)) = some (vs.flatMap fun v => v.cells.toList).toArray :=
  fun cells hc => Great.fill_whole hpos vs cells h1 (by rw [hl,hc])
 by_cases h0 : len * P.cellsOf e = 0
 ·have hl0 : len = 0:=by
   rcases Nat.mul_eq_zero.1 h0 with h | h
   ·exact h
   ·omega
  subst hl0
  obtain rfl:=List.eq_nil_of_length_eq_zero hl
  simp [Instr.buildSlice,run_underlying hu,hsz,Instr.fill,Go.newRow]
  congr 2
  apply Array.eq_empty_of_size_eq_zero
  simp
 ·simp only [Instr.buildSlice,Sem.run_bind,run_underlying hu,Result.andThen_ok,hsz,if_neg hsm',if_neg h0,hzr,Sem.run_pure]
  rw [hf _ (by simp)]
  simp only [Go.newRow,Sem.run_bind,run_newObj,Result.andThen_ok,Sem.run_pure,World.alloc_eq]
theorem flat_get' {sz : Nat} (hs : 0 < sz) (vs : List Value) (h1 : ∀ v∈vs,v.cells.size = sz) (i j : Nat) (v : Value) (u : Value) (hi : vs[i]? = some v) (hj : v.cells[j]? = some u) : (vs.flatMap fun v => v.cells.toList)[i * sz + j]? = some u:=by
 have hjl : j < sz:=by
  have:=h1 v (List.mem_of_getElem? hi)
  rw [← this]; exact (Array.getElem?_eq_some_iff.1 hj).1
 rw [Great.flat_get hs vs h1]
 have e1 : (i * sz + j) / sz = i:=by rw [Nat.mul_comm,Nat.mul_add_div hs,Nat.div_eq_of_lt hjl]; omega
 have e2 : (i * sz + j) % sz = j:=by rw [Nat.mul_comm,Nat.mul_add_mod,Nat.mod_eq_of_lt hjl]
 rw [e1,e2,hi]
 exact hj
theorem vp_cells {dv : DV} {v : Value} (h : VP G w dv v) (hs : dv.cells.all DV.scalar = true) : dv.cells.length = v.cells.size∧∀ (j : Nat) (c : DV) (u : Value),dv.cells[j]? = some c→v.cells[j]? = some u→VP G w c u:=by
 cases h with
 | agg h1 h2 => exact ⟨h1,h2⟩
 | undef v => simp [DV.cells,DV.scalar] at hs
 | _ =>
  refine ⟨rfl,fun j c u hc hu => ?_⟩
  match j with
  | 0 => simp [DV.cells,Value.cells] at hc hu; subst hc; subst hu; constructor <;> assumption
  | n + 1 => simp [DV.cells] at hc
theorem vp_of_sv {dv : DV} {v : Value} (h : SV G w d dv v) (hs : dv.cells.all DV.scalar = true) : VP G w dv v:=by
 cases dv <;> first | exact h | (simp [DV.cells,DV.scalar] at hs)
theorem op_buildSlice {o : Oper} {t e : TypeId} {len : Nat} {parts : Array (Nat × Operand)} (ho : o.op = .buildSlice t len parts) (hR : Rel N0 w0 d G w st a.tmps) {s : Nat} (hd : o.dst = some s) (hu : P.underlying t = some (.slice e))
  (he : (P.underlying e).isSome = true) (hpos : 0 < P.cellsOf e) (hsm : len * P.cellsOf e≤16777216) (hz : (P.info? e).any (·.zero.isSome) = true) (hparts : parts.toList.map (·.1) = List.range len)
  (hc : ∀ x∈parts.toList,(rho P st e x.2).ro.cells.length = P.cellsOf e∧(rho P st e x.2).ro.cells.all DV.scalar = true)
  (h : K (st.put s (.sl true (P.cellsOf e) (parts.toList.map fun x => (rho P st e x.2).ro)))) : OpTo P N0 w0 d G w a o K:=by
 have hlen : parts.toList.length = len:=by have:=congrArg List.length hparts; simpa using this
 have hvp : ∀ x∈parts.toList,VP G w (rho P st e x.2).ro (a.eval x.2):=fun x hx => vp_of_sv (hR.rho e x.2).ro (hc x hx).2
 have hvs : ((parts.map fun (i,x) => (i,a.eval x))) = (((parts.toList.map fun x => a.eval x.2).zipIdx 0).map fun x => (x.2,x.1)).toArray:=by
  apply Array.toList_inj.1
  rw [Array.toList_map]
  apply List.ext_getElem?
  intro i
  simp only [List.getElem?_map,List.getElem?_zipIdx,List.getElem?_toArray,Nat.zero_add]
  cases hi : parts.toList[i]? with
  | none => simp [hi]
  | some x =>
   have h1 : (parts.toList.map (·.1))[i]? = some x.1:=by rw [List.getElem?_map,hi]; rfl
   rw [hparts] at h1
   have h2 : x.1 = i:=by
    have:=(List.getElem?_eq_some_iff.1 h1)
    obtain ⟨hl,he⟩:=this
    simp at he
    exact he.symm
   simp [hi,h2]
 have h1 : ∀ v∈parts.toList.map fun x => a.eval x.2,v.cells.size = P.cellsOf e:=by
  intro v hv
  obtain ⟨x,hx,rfl⟩:=List.mem_map.1 hv
  rw [← (vp_cells (hvp x hx) (hc x hx).2).1]; exact (hc x hx).1
 have hrun:=run_buildSlice' (P:=P) (w:=w) t e len (parts.toList.map fun x => a.eval x.2) hu he hz hpos hsm (by simpa using hlen) h1
 have hsz : ((parts.toList.map fun x => a.eval x.2).flatMap fun v => v.cells.toList).toArray.size = len * P.cellsOf e:=by
  rw [List.size_toArray,List.length_flatMap]
  have : ((parts.toList.map fun x => a.eval x.2).map fun v => v.cells.toList.length) = List.replicate len (P.cellsOf e):=by
   rw [List.eq_replicate_iff]
   refine ⟨by simpa using hlen,fun b hb => ?_⟩
   obtain ⟨v,hv,rfl⟩:=List.mem_map.1 hb
   simpa using h1 v hv
  rw [this]
  clear this h1 hvs hrun hparts hlen hsm h ho
  induction len with
  | zero => simp
  | succ n ih => rw [List.replicate_succ,List.sum_cons,ih,Nat.succ_mul]; omega
 obtain ⟨G',h2,h3⟩:=hR.newRow (s:=s) (sz:=P.cellsOf e) (len:=len) (cap:=len) (xs:=parts.toList.map fun x => (rho P st e x.2).ro) (cs:=((parts.toList.map fun x => a.eval x.2).flatMap fun v => v.cells.toList).toArray) e (by simpa using hlen.symm) (Nat.le_refl _)
  (by unfold maxLen; have:=Nat.le_mul_of_pos_right len hpos; omega) hsz
  (fun i x hx => by
   rw [List.getElem?_map] at hx
   obtain ⟨y,hy,rfl⟩:=Option.map_eq_some_iff.1 hx
   exact hc y (List.mem_of_getElem? hy))
  (fun i j x c hx hj => by
   rw [List.getElem?_map] at hx
   obtain ⟨y,hy,rfl⟩:=Option.map_eq_some_iff.1 hx
   have hm:=List.mem_of_getElem? hy
   obtain ⟨hl,hcc⟩:=vp_cells (hvp y hm) (hc y hm).2
   have hjl : j < (a.eval y.2).cells.size:=by rw [← hl]; exact (List.getElem?_eq_some_iff.1 hj).1
   refine ⟨(a.eval y.2).cells[j],?_,hcc j c _ hj (by simp [hjl])⟩
   rw [List.getElem?_toArray]
   exact flat_get' hpos _ h1 i j (a.eval y.2) _ (by rw [List.getElem?_map,hy]; rfl) (by simp [hjl]))
 refine ⟨_,_,G',_,.inl ?_,h,h3,by rw [hd]; exact h2⟩
 rw [exec_v (s:=Instr.buildSlice t len (parts.map fun (i,x) => (i,a.eval x))) (by simp only [execOp,ho]),hvs,hrun]
 rfl
end Go.Ab
/- AcP4: Each operation,on: struct literals,stores,appends,maps. -/
namespace Go.Ab
open Go Go.Conc Go.RowKit
variable {P : Program} {isObj : ObjT} {N0 : Nat} {w0 : World} {d : Nat} {G : Gh} {w : World} {st : St} {a : Act} {K : St→Prop}
theorem op_store {o : Oper} {t : TypeId} {x y : Operand} (ho : o.op = .store t x y) (hR : Rel N0 w0 d G w st a.tmps) (hdst : o.dst = none) (h : storeD P (take P st t y).2 t (rho P st 0 x) (take P st t y).1 K) : OpTo P N0 w0 d G w a o K:=by
 obtain ⟨f,hf,h1,h2,h3,_⟩:=take_sound (P:=P) hR t y
 obtain ⟨hu,hsz,hsc,h⟩:=h
 obtain ⟨ds,hu⟩:=Option.isSome_iff_exists.1 hu
 obtain ⟨hl,hc⟩:=hand_cells h2 h3 hsc
 have hx:=(hR.rho (P:=P) 0 x).ren (f:=f)
 have hl' : (take P st t y).1.cells.length = (a.eval y).cells.toList.length:=by simpa using hl
 have hone : ∀ u∈(a.eval y).cells.toList,u.oneCell' = true:=by
  intro u hu'
  obtain ⟨j,hj,rfl⟩:=List.mem_iff_getElem.1 hu'
  have hj' : j < (take P st t y).1.cells.length:=by rw [hl']; exact hj
  refine (hc j _ _ (List.getElem?_eq_getElem hj') (by simp)).1.oneCell ?_
  rw [List.all_eq_true] at hsc
  exact hsc _ (List.getElem_mem hj')
 have hrun : ∀ b off vs te,a.eval x = .pointer (some ⟨b,off,none⟩)→w.heap[b]? = some (.cells vs te (0,0))→off + (a.eval y).cells.size≤vs.size →
   (execOp a.eval o).run P w = .ok .skip (w.setRow b (vs.toList.take off ++ (a.eval y).cells.toList ++ vs.toList.drop (off + (a.eval y).cells.toList.length)).toArray):=by
  intro b off vs te e hg hfit
  have hst:=run_storeCells_at P b off te (a.eval y).cells.toList 0 vs w hg (by simpa using hfit) hone
  simp only [Nat.add_zero] at hst
  have hsz2 : ¬ (a.eval y).cells.size ≠ P.cellsOf t:=by rw [← hl,hsz]; simp
  simp only [execOp,ho,Instr.storeAt,e,Instr.sureAddr,storeVar,Sem.run_bind,Sem.run_pure,Result.andThen_ok,run_sizeOf' hu,if_neg hsz2,hst]
 split at h
 ·rename_i id off hxa
  rw [hxa] at hx
  obtain ⟨b,hb,e⟩:=hx.ptr
  split at h
  ·rename_i cs hcs
   obtain ⟨hfit,h⟩:=h
   have hcs':=hcs
   obtain ⟨b',vs,te,k1,k2,k3,k4⟩:=h1.heap.objs _ _ hcs
   obtain rfl : b = b':=by rw [hb] at k1; exact Option.some.inj k1
   have h4:=h1.wk (f:=toHp d id off) (StWk.of_fix (fun _ _ _ => rfl) (fun _ _ => rfl) (fun _ _ => rfl))
   have h5:=h4.storeH (id:=id) (b:=b) (off:=off) (ds:=(take P st t y).1.cells) (us:=(a.eval y).cells.toList) hcs hb k3 hl' hfit (fun j c u hj hu' => by
    obtain ⟨m1,m2⟩:=hc j c u hj (by simpa using hu')
    exact ⟨m1.keep keep_ren,by have:=m2.ren (f:=toHp d id off); simpa [toHp] using this⟩)
   refine ⟨undef,_,_,_,.inr ⟨rfl,hrun b off vs te e k3 (by rw [← hl,← k4.1]; exact hfit)⟩,h,((ext_ren hf).trans (ext_ren fun o ho => toHp_outer ho)).trans h5.2,?_⟩
   rw [hdst]; exact h5.1
  ·exact h.elim
 ·rename_i s g off hxa
  rw [hxa] at hx
  obtain ⟨b,hb,e⟩:=(hx : SV _ w d (.lptr s g off) _)
  split at h
  ·rename_i g' cs hcs
   obtain ⟨rfl,hfit,h⟩:=h
   obtain ⟨b',vs,te,k1,k2,k3,k4⟩:=h1.boxes _ _ _ hcs
   obtain rfl : b = b':=by rw [hb] at k1; exact Option.some.inj k1
   have h4:=h1.wk (f:=toBox d s off) (StWk.of_fix (fun _ _ _ => rfl) (fun _ _ => rfl) (fun _ _ => rfl))
   have h5:=h4.storeB (s:=s) (b:=b) (off:=off) (ds:=(take P st t y).1.cells) (us:=(a.eval y).cells.toList) hcs hb k3 hl' hfit (fun j c u hj hu' => by
    obtain ⟨m1,m2⟩:=hc j c u hj (by simpa using hu')
    exact ⟨m1.keep keep_ren,by have:=m2.ren (f:=toBox d s off); simpa [toBox] using this⟩)
   refine ⟨undef,_,_,_,.inr ⟨rfl,hrun b off vs te e k3 (by rw [← hl,← k4.1]; exact hfit)⟩,h,((ext_ren hf).trans (ext_ren fun o ho => toBox_outer ho)).trans h5.2,?_⟩
   rw [hdst]; exact h5.1
  ·exact h.elim
 ·exact h.elim
/-! ### struct literals -/
theorem foldl_set' (cells : Array Value) (off : Nat) (l : List Value) (h : off + l.length≤cells.size) : (l.zipIdx 0).foldl (fun cs (x : Value × Nat) => cs.setIfInBounds (off + x.2) x.1) cells = (cells.toList.take off ++ l ++ cells.toList.drop (off + l.length)).toArray:=by
 obtain ⟨g1,g2⟩:=Great.foldl_set off l 0 cells
 apply Array.ext_getElem?
 intro k
 have e : (cells.toList.take off ++ l ++ cells.toList.drop (off + l.length)).toArray[k]? = (cells.toList.take off ++ l ++ cells.toList.drop (off + l.length))[k]?:=by simp
 rw [g2 k,e,putAt_get _ _ _ (by simpa using h)]
 simp only [Nat.add_zero]
 by_cases hk : off≤k∧k < off + l.length
 ·rw [if_pos ⟨hk.1,hk.2,by omega⟩,if_pos hk]
 ·rw [if_neg (by omega),if_neg hk]
  simp
theorem buildD_sound {fs : Array Field} {s : Nat} {tmps0 : Array Value} : ∀ (parts : List (Nat × Operand)) (G : Gh) (st : St) (cs : List DV) (cells : Array Value) (K : List DV→St→Prop),Rel N0 w0 d G w st a.tmps→st.t.getD s .undef = .undef →
  cs.length = cells.size→(∀ (j : Nat) (c : DV) (v : Value),cs[j]? = some c→cells[j]? = some v→VP G w c v∧Owns G w (.slot d s 0 j) c v)→buildD P fs parts cs st K →
  ∃ G' st' cs' cells',Instr.fill (fun i => (fs[i]?).map fun f => (f.offset,P.cellsOf f.type)) cells (parts.map fun x => (x.1,a.eval x.2)) = some cells'∧Rel N0 w0 d G' w st' a.tmps∧Ext d G w G' w∧K cs' st'∧cs'.length = cells'.size ∧
   (∀ (j : Nat) (c : DV) (v : Value),cs'[j]? = some c→cells'[j]? = some v→VP G' w c v∧Owns G' w (.slot d s 0 j) c v):=by
 intro parts
 induction parts with
 | nil => exact fun G st cs cells K hR hs hl hc h => ⟨G,st,cs,cells,rfl,hR,.refl _ _ _,h,hl,hc⟩
 | cons p r ih =>
  intro G st cs cells K hR hs hl hc h
  obtain ⟨i,x⟩:=p
  unfold buildD at h
  split at h
  ·rename_i f hf
   obtain ⟨hsz,hfit,hsc,h⟩:=h
   obtain ⟨q,hq,h1,h2,h3,hfix⟩:=take_sound (P:=P) hR f.type x
   obtain ⟨hl2,hc2⟩:=hand_cells h2 h3 hsc
   let q2 : Owner→Owner:=fun o => match o with | .ret e i j => if e = d∧i = 0 then .slot d s 0 (f.offset + j) else o | _ => o
   have hq2 : ∀ o,o.outer d→q2 o = o:=by
    intro o ho
    cases o <;> simp only [q2,Owner.outer] at *
    split
    ·omega
    ·rfl
   have h4:=h1.wk (f:=q2) (StWk.of_fix (fun _ _ _ => rfl) (fun _ _ => rfl) (fun _ _ => rfl))
   have hls : (take P st f.type x).2.t.getD s .undef = .undef:=take_undef hs
   obtain ⟨G',st',cs',cells',a1,a2,a3,a4,a5,a6⟩:=ih ((G.ren q).ren q2) _ (putAt cs f.offset (take P st f.type x).1.cells) (((a.eval x).cells.toList.zipIdx 0).foldl (fun cs (x : Value × Nat) => cs.setIfInBounds (f.offset + x.2) x.1) cells) K h4 hls
    (by rw [putAt_length hfit,hl,foldl_set' _ _ _ (by simp; omega)]; simp; omega)
    (fun j c v hj hv => by
     rw [foldl_set' _ _ _ (by simp; omega)] at hv
     have e : (cells.toList.take f.offset ++ (a.eval x).cells.toList ++ cells.toList.drop (f.offset + (a.eval x).cells.toList.length)).toArray[j]? = (cells.toList.take f.offset ++ (a.eval x).cells.toList ++ cells.toList.drop (f.offset + (a.eval x).cells.toList.length))[j]?:=by simp
     rw [e,putAt_get _ _ _ (by simp; omega)] at hv
     unfold putAt at hj
     rw [putAt_get _ _ _ hfit] at hj
     have hll : (a.eval x).cells.toList.length = (take P st f.type x).1.cells.length:=by simp [hl2]
     rw [hll] at hv
     split at hj
     ·rename_i hjj
      rw [if_pos hjj] at hv
      obtain ⟨m1,m2⟩:=hc2 _ c v hj (by simpa using hv)
      refine ⟨m1.keep keep_ren,?_⟩
      have:=m2.ren (f:=q2)
      simp only [q2,and_self,if_true] at this
      rwa [Nat.add_sub_cancel' hjj.1] at this
     ·rename_i hjj
      rw [if_neg hjj] at hv
      obtain ⟨m1,m2⟩:=hc j c v hj (by simpa using hv)
      refine ⟨(m1.keep keep_ren).keep keep_ren,?_⟩
      have:=(m2.ren (f:=q)).ren (f:=q2)
      rw [hfix s hs 0 j] at this
      exact this) h
   refine ⟨G',st',cs',cells',?_,a2,((ext_ren hq).trans (ext_ren hq2)).trans a3,a4,a5,a6⟩
   simp only [List.map_cons,Instr.fill,hf,Option.map_some]
   have hn : ¬ ((decide ((a.eval x).cells.size ≠ P.cellsOf f.type) || decide (f.offset + (a.eval x).cells.size > cells.size)) = true):=by rw [← hl2,← hl]; simp; omega
   rw [if_neg hn]
   rw [← Array.foldl_toList,Array.toList_zipIdx]
   exact a1
  ·exact h.elim
theorem run_fieldPlaces {fs : Array Field} (h : ∀ f∈fs.toList,∃ ds,P.underlying f.type = some ds) : (fs.mapM fun f => (do pure (f.offset,← sizeOf f.type) : Sem (Nat × Nat))).run P w = .ok (fs.map fun f => (f.offset,P.cellsOf f.type)) w:=by
 have key : ∀ (l : List Field),(∀ f∈l,∃ ds,P.underlying f.type = some ds)→(l.mapM fun f => (do pure (f.offset,← sizeOf f.type) : Sem (Nat × Nat))).run P w = .ok (l.map fun f => (f.offset,P.cellsOf f.type)) w:=by
  intro l
  induction l with
  | nil => intro _; simp
  | cons f r ih =>
   intro hl
   obtain ⟨ds,hds⟩:=hl f (by simp)
   have ih':=ih fun g hg => hl g (by simp [hg])
   simp only [List.mapM_cons,Sem.run_bind,run_sizeOf' hds,Result.andThen_ok,Sem.run_pure,ih',List.map_cons]
 obtain ⟨l⟩:=fs
 have:=key l h
 rw [List.mapM_toArray,Sem.run_map,this]
 simp
theorem op_build {o : Oper} {t : TypeId} {parts : Array (Nat × Operand)} {fs : Array Field} (ho : o.op = .build t parts) (hR : Rel N0 w0 d G w st a.tmps) {s : Nat} (hd : o.dst = some s) (hu : P.underlying t = some (.struct fs)) (ha : isAggT P t = true)
  (hz : zeroOk P t (zeroDVo P isObj 6 t) = true) (hfs : ∀ f∈fs.toList,(P.underlying f.type).isSome = true) (h : buildD P fs parts.toList (zeroDVo P isObj 6 t) (st.put s .undef) fun cs st' => K (st'.put s (.agg cs))) : OpTo P N0 w0 d G w a o K:=by
 obtain ⟨z,hz1,hz2⟩:=zeroOk_sound (G:=G) (w:=w) hz
 have hz3:=zeroOk_own (G:=G) (w:=w) hz z hz1 (.slot d s)
 have e1 : ofCells P t (zeroDVo P isObj 6 t) = .agg (zeroDVo P isObj 6 t):=by simp [ofCells,ha]
 rw [e1] at hz2 hz3
 cases hz2 with
 | @agg _ vs hl hc =>
  have hst : StWk id d st (st.put s .undef):=by
   refine ⟨⟨by simp [St.put],fun s' dv' hs => ?_⟩,fun s' g cs' hb => ⟨cs',hb,rfl,fun j c' hc => ⟨c',hc,.inl ⟨rfl,rfl⟩⟩⟩,fun _ => Nat.le_refl _,⟨rfl,fun id' ob' ho => ⟨ob',ho,?_⟩⟩,fun x hx => ?_⟩
   ·simp only [St.put] at hs
    by_cases e : s = s'
    ·subst e
     rw [List.getElem?_set] at hs
     simp only [if_true] at hs
     split at hs
     ·rename_i hlt
      cases hs
      exact ⟨st.t[s],by simp [hlt],.inr (.inr rfl)⟩
     ·cases hs
    ·rw [List.getElem?_set_ne e] at hs
     exact ⟨dv',hs,.inl ⟨rfl,fun _ _ => rfl⟩⟩
   ·cases ob' with
    | cells cs => exact ⟨rfl,fun j c' hc => ⟨c',hc,.inl ⟨rfl,rfl⟩⟩⟩
    | map es => rfl
   ·simp only [St.put,List.mem_filter] at hx; exact hx.1
  have hR':=hR.wk hst
  rw [Gh.ren_id] at hR'
  have hs0 : (st.put s .undef).t.getD s .undef = .undef:=by
   simp only [St.put,List.getD_eq_getElem?_getD,List.getElem?_set]
   simp only [if_true]
   split <;> rfl
  obtain ⟨G',st',cs',cells',a1,a2,a3,a4,a5,a6⟩:=buildD_sound (tmps0:=#[]) parts.toList G _ (zeroDVo P isObj 6 t) vs _ hR' hs0 hl (fun j c v hj hv => ⟨hc j c v hj hv,hz3 0 j c v (by simpa [DV.part,DV.cells] using hj) (by simpa [vpart,Value.cells] using hv)⟩) h
  refine ⟨.agg cells',w,G',_,.inl ?_,a4,a3,?_⟩
  ·rw [exec_v (s:=Instr.build t (parts.map fun (i,x) => (i,a.eval x))) (by simp only [execOp,ho])]
   have hplaces:=run_fieldPlaces (P:=P) (w:=w) (fs:=fs) (fun f hf => Option.isSome_iff_exists.1 (hfs f hf))
   have hfill : Instr.fill (fun x => (fs.map fun f => (f.offset,P.cellsOf f.type))[x]?) vs (parts.map fun (i,x) => (i,a.eval x)).toList = some cells':=by
    rw [← a1]
    congr 1
    ·funext i; simp
    ·simp
   simp only [Instr.build,Sem.run_bind,hz1,Result.andThen_ok,run_underlying hu,hplaces,Value.cells,hfill,Sem.run_pure]
  ·rw [hd]
   refine a2.put (SV.of_vp (.agg a5 fun j c v hj hv => (a6 j c v hj hv).1)) fun i j c x hcx hx => ?_
   simp only [DV.part,vpart] at hcx hx
   split at hcx
   ·rename_i hi
    subst hi
    exact (a6 j c x (by simpa [DV.cells] using hcx) (by simpa [Value.cells] using hx)).2
   ·cases hcx
end Go.Ab
/- AcP5: Each operation,on: append; maps. -/
namespace Go.Ab
open Go Go.Conc Go.RowKit
variable {P : Program} {isObj : ObjT} {N0 : Nat} {w0 : World} {d : Nat} {G : Gh} {w : World} {st : St} {a : Act} {K : St→Prop}
theorem sl_elems {own : Bool} {sz : Nat} {xs : List DV} {v : Value} (h : VP G w (.sl own sz xs) v) : ∀ (i : Nat) (x : DV),xs[i]? = some x→x.cells.length = sz∧x.cells.all DV.scalar = true:=by
 cases h with
 | sl0 => intro i x hx; simp at hx
 | sl f k1 k2 k3 k4 k5 k6 => exact k4
theorem src_sound {t2 : TypeId} {y : DV} {vy : Value} {sz : Nat} {Q : List DV→Prop} (hpos : 0 < sz) (hy : SV G w d y vy) (h : srcD P st t2 y sz Q) :
  ∃ ys news ds2,Q ys∧P.underlying t2 = some ds2∧(∀ k,ds2 ≠ .int k)∧(∀ w',(∀ x,w'.cell? x = w.cell? x)→Src P w' sz vy ys.length news)∧news.length = ys.length * sz∧(∀ u∈news,u.oneCell' = true) ∧
   (∀ (i : Nat) (x : DV),ys[i]? = some x→x.cells.length = sz∧x.cells.all DV.scalar = true)∧(∀ (i j : Nat) (x c : DV),ys[i]? = some x→x.cells[j]? = some c→∃ u,news[i * sz + j]? = some u∧VP G w c u):=by
 unfold srcD at h
 split at h
 ·rename_i e own sz' ys hu
  obtain ⟨rfl,h⟩:=h
  have hvp : VP G w (.sl own sz' ys) vy:=hy
  obtain ⟨cs,h1,h2,h3,h4⟩:=sl_cells hvp hpos
  refine ⟨ys,cs,_,h,hu,by simp,fun w' hw' => ?_,h1,h2,?_,h3⟩
  ·rcases VP.slAt hvp with ⟨rfl,rfl⟩ | ⟨b,off,cap,rfl,_⟩
   ·obtain rfl : cs = []:=List.eq_nil_of_length_eq_zero (by simpa using h1)
    exact ⟨rfl,by simp [Builtin.firstCells]⟩
   ·refine ⟨rfl,run_firstCells_some (P:=P) w' sz' ys.length ⟨b,off,none⟩ ys.length cap cs h1 fun j v hv => ?_⟩
    rw [add_none,hw']
    exact (h4 b off _ cap rfl j v hv).2
  ·exact sl_elems hvp
 ·rename_i s hu
  obtain ⟨rfl,h⟩:=h
  obtain rfl:=hy.str
  refine ⟨_,s.map fun b => Value.int .u8 b.toNat,_,h,hu,by simp,fun w' _ => ⟨by simp [Builtin.lenOf,ByteArray.size],?_⟩,by simp,?_,?_,?_⟩
  ·simp only [Builtin.firstCells,List.length_map,Sem.run_pure]
   congr 1
   apply Array.toList_inj.1
   rw [ByteArray.data_extract]
   simp
  ·intro u hu'
   obtain ⟨b,_,rfl⟩:=List.mem_map.1 hu'
   rfl
  ·intro i x hx
   rw [List.getElem?_map] at hx
   obtain ⟨b,_,rfl⟩:=Option.map_eq_some_iff.1 hx
   exact ⟨rfl,rfl⟩
  ·intro i j x c hx hc
   rw [List.getElem?_map] at hx
   obtain ⟨b,hb,rfl⟩:=Option.map_eq_some_iff.1 hx
   match j with
   | 0 =>
    simp [DV.cells] at hc
    subst hc
    exact ⟨.int .u8 b.toNat,by simp [hb],.int _ _⟩
   | n + 1 => simp [DV.cells] at hc
 ·exact h.elim
theorem op_append {o : Oper} {x y : Operand} {t t2 : TypeId} (ho : o.op = .call { callee:=.builtin .append,args:=#[x,y],argTypes:=#[t,t2] }) (hR : Rel N0 w0 d G w st a.tmps) {s : Nat} (hd : o.dst = some s)
  (h : appendD P st s t t2 x (rho P st t2 y) K) : OpTo P N0 w0 d G w a o K:=by
 unfold appendD at h
 split at h
 ·rename_i e hu
  obtain ⟨he,hpos,hz,h⟩:=h
  obtain ⟨dse,he'⟩:=Option.isSome_iff_exists.1 he
  obtain ⟨i,hi⟩:=info_of_underlying he'
  have hcs : P.cellsOf e = i.size:=by simp [Program.cellsOf,hi]
  have hbs : P.bytesOf e = i.bytes:=by simp [Program.bytesOf,hi]
  obtain ⟨z,hzr,_⟩:=zeroOk_sound (G:=G) (w:=w) hz
  have hzz : i.zero = some z:=by
   simp only [zeroValue,typeInfo,Sem.run_bind,run_program,Result.andThen_ok,hi,Sem.run_pure] at hzr
   cases hiz : i.zero with
   | none => rw [hiz] at hzr; simp at hzr
   | some z' => rw [hiz] at hzr; simp at hzr; rw [hzr]
  have hzs : z.cells.size = i.size:=by
   unfold zeroOk at hz
   simp only [hi,hzz,Bool.and_eq_true,beq_iff_eq] at hz
   exact hz.1.1.2
  obtain ⟨f,hf,h1,h2,h3,_⟩:=take_sound (P:=P) hR t x
  split at h
  ·rename_i sz xs hx
   obtain ⟨rfl,h⟩:=h
   rw [hx] at h2 h3
   have hyv:=(hR.rho (P:=P) t2 y).ren (f:=f)
   obtain ⟨ys,news,ds2,⟨hb,hlim,hK⟩,hu2,hni,hsrc,hnl,hone,hyc,hyv⟩:=src_sound (P:=P) hpos hyv h
   have hexec : (execOp a.eval o).run P w = ((Builtin.append_ #[t,t2] o.type #[a.eval x,a.eval y]).run P w).andThen fun v w' => .ok (.value v) w':=by
    simp [execOp,ho,resolve,invoke,builtin]
   have hown:=sown_at h2 h3
   have hvp : VP (G.ren f) w (.sl true (P.cellsOf e) xs) (a.eval x):=h2
   obtain ⟨olds,o1,o2,o3,o4⟩:=sl_cells hvp hpos
   have grow : ∀ base cap,a.eval x = .slice base xs.length cap→cap < xs.length + ys.length→OpTo P N0 w0 d G w a o K:=by
    intro base cap hev hgr
    have hfo : (Builtin.firstCells i.size xs.length (.slice base xs.length cap)).run P w.drew = .ok olds.toArray w.drew:=by
     rcases VP.slAt hvp with ⟨e1,rfl⟩ | ⟨b,off,cap',e1,_⟩
     ·rw [hev] at e1
      cases e1
      obtain rfl : olds = []:=List.eq_nil_of_length_eq_zero (by simpa using o1)
      simp [Builtin.firstCells]
     ·rw [hev] at e1
      cases e1
      refine run_firstCells_some (P:=P) w.drew i.size xs.length ⟨b,off,none⟩ xs.length cap olds (by rw [← hcs]; exact o1) fun j v hv => ?_
      rw [add_none]
      exact (o4 b off _ cap hev j v hv).2
    have hrun:=run_append_out (P:=P) (w:=w) (ty:=o.type) hu hu2 hni hi hzz (base:=base) (sLen:=xs.length) (sCap:=cap) (n:=ys.length) (olds:=olds) (news:=news) (by rw [← hcs]; exact hsrc w.drew fun _ => rfl) hfo (hsrc w fun _ => rfl).len hgr (by omega)
     (growslice_fits hgr (by rw [← hbs]; exact hb))
    have hge:=grownCap_ge w (xs.length + ys.length) cap e
    have hmx : grownCap w (xs.length + ys.length) cap e≤maxLen:=grownCap_le_maxLen w _ _ _ (by unfold maxLen; omega)
    have hnd:=h1.neu (Neu.drew (G.ren f) w)
    obtain ⟨G',n1,n2⟩:=hnd.newRow (s:=s) (sz:=P.cellsOf e) (len:=xs.length + ys.length) (cap:=grownCap w (xs.length + ys.length) cap e) (xs:=xs ++ ys)
     (cs:=olds.toArray ++ news.toArray ++ Builtin.zeroCells z.cells (grownCap w (xs.length + ys.length) cap e - (xs.length + ys.length))) e (by simp) hge hmx
     (by
      simp only [Array.size_append,List.size_toArray,size_zeroCells,hzs,o1,hnl,hcs,← Nat.add_mul]
      congr 1; omega)
     (fun i x hx' => by
      rw [List.getElem?_append] at hx'
      split at hx'
      ·exact sl_elems hvp i x hx'
      ·exact hyc _ x hx')
     (fun i j x c hi hj => by
      obtain ⟨u,u1,u2⟩:=elems_app (cs:=olds) (ds:=news) o1 o3 hyv i j x c hi hj
      refine ⟨u,?_,u2.keep (Neu.drew _ w).keep⟩
      have hlt:=(List.getElem?_eq_some_iff.1 u1).1
      rw [Array.getElem?_append_left (by simpa using hlt)]
      simpa using u1)
    refine ⟨_,_,G',_,.inl ?_,hK,(ext_ren hf).trans (((Neu.drew (G.ren f) w).ext h1.heap.fresh d).trans n2),by rw [hd]; exact n1⟩
    rw [hexec,hev,hrun]
    rfl
   rcases hown with hnil | ⟨b,len,cap,cur,te,e1,e2,e3,e4,e5⟩
   ·
    have hxs : xs = []:=by
     rcases VP.slAt hvp with ⟨_,rfl⟩ | ⟨b,off,cap',e1,_⟩
     ·rfl
     ·rw [hnil] at e1; cases e1
    subst hxs
    by_cases hy0 : ys = []
    ·subst hy0
     have hn0 : news = []:=List.eq_nil_of_length_eq_zero (by simpa using hnl)
     subst hn0
     have hs0:=hsrc w fun _ => rfl
     have hrun : (Builtin.append_ #[t,t2] o.type #[a.eval x,a.eval y]).run P w = .ok (.slice none 0 0) w:=by
      have hzz2 : (match ds2 with | .int _ => true | _ => false) = false:=by cases ds2 <;> first | rfl | exact absurd rfl (hni _)
      have hl0 : (Builtin.lenOf (a.eval y)).run P w = .ok 0 w:=hs0.len
      have hf0 : (Builtin.firstCells (P.cellsOf e) 0 (a.eval y)).run P w = .ok #[] w:=hs0.first
      rw [hnil]
      simp only [Builtin.append_,List.getElem?_toArray,List.getElem?_cons_zero,List.getElem?_cons_succ,Sem.run_bind,run_underlying hu,run_underlying hu2,Result.andThen_ok,run_sizeOf' he',Sem.run_pure,hzz2,Bool.false_eq_true,if_false,hl0,Nat.le_refl,Nat.add_zero,if_true,Bool.not_false,hf0]
     have hput:=h1.put (s:=s) (dv:=.sl true (P.cellsOf e) ([] ++ [])) (v:=.slice none 0 0) (SV.of_vp .sl0) (sown_sl .sl0 (.inl rfl))
     exact ⟨_,_,_,_,.inl (by rw [hexec,hrun]; rfl),hK,ext_ren hf,by rw [hd]; exact hput⟩
    ·exact grow none 0 hnil (by have : 0 < ys.length:=List.length_pos_iff.2 hy0; simpa using this)
   ·have hlen : len = xs.length:=by
     rcases VP.slAt hvp with ⟨q,_⟩ | ⟨b',off,cap',q,_⟩
     ·rw [e1] at q; cases q
     ·rw [e1] at q; cases q; rfl
    subst hlen
    by_cases hroom : xs.length + ys.length≤cap
    ·have hmul : xs.length * P.cellsOf e + ys.length * P.cellsOf e≤cap * P.cellsOf e:=by rw [← Nat.add_mul]; exact Nat.mul_le_mul_right _ hroom
     have hrun:=run_append_in (P:=P) (w:=w) (ty:=o.type) hu hu2 hni ⟨_,he'⟩ (hsrc w fun _ => rfl) e3 hone hroom (by omega)
     obtain ⟨G',n1,n2⟩:=h1.appendIn (s:=s) (by rw [← e1]; exact hvp) e2 e3 e4 hroom hnl hyc hyv
     refine ⟨_,_,G',_,.inl ?_,hK,(ext_ren hf).trans n2,by rw [hd]; exact n1⟩
     rw [hexec,e1,hrun]
     rfl
    ·exact grow (some ⟨b,0,none⟩) cap e1 (by omega)
  ·exact h.elim
 ·exact h.elim
end Go.Ab

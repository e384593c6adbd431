/- A part of the proof; no condition of its own. -/
import Derived.Test.YtoebbafmopdfbaaGreatDoorAcK2
set_option linter.unusedSimpArgs false
set_option linter.unusedVariables false
/- AcL5: More laws for 'simp': regions as sums of lists,tests that are decided,made rows of truths. -/
namespace Go.Ab
open Go Go.Conc Go.RowKit
section
variable {P : Program} {isObj : ObjT} {Γ : Env} {K : St→Prop} {st : St} {ds : List (Option Nat)} {o : Oper} {r l : List Oper} {k : Nat}
theorem tA_nil : dtextS P isObj Γ ds (hold (List.append [] l) (tag _)) st K = dtextS P isObj Γ ds (hold l (tag _)) st K:=_root_.id rfl
theorem tA_cons : dtextS P isObj Γ ds (hold (List.append (o :: r) l) (tag _)) st K = gstep ds (hold o (tag _)) st (hold (fun st => dopC P isObj Γ (hold o (tag _)) st (hold (fun st' => dtextS P isObj Γ ds (hold (List.append r l) (tag _)) st' K) (tag _))) (tag _)) (hold (fun st => dtextS P isObj Γ ds (hold (List.append r l) (tag _)) (st.put? o.dst (.tup [])) K) (tag _)):=_root_.id rfl
theorem qA_zero : gq (hold ((List.append (o :: r) l).map (·.dst)) (tag _)) 0 = o.dst:=_root_.id rfl
theorem qA_succ : gq (hold ((List.append (o :: r) l).map (·.dst)) (tag _)) (k + 1) = gq (hold ((List.append r l).map (·.dst)) (tag _)) k:=_root_.id rfl
theorem qA_nil : gq (hold ((List.append [] l).map (·.dst)) (tag _)) k = gq (hold (l.map (·.dst)) (tag _)) k:=_root_.id rfl
variable {q n : Nat} {f f' : St→Prop} {F F' : St→Prop}
theorem gs2_tt : gs2 (.bool true) q true st f f' = f (st.setT q (.bool true)):=by simp [gs2]
theorem gs2_ft : gs2 (.bool false) q true st f f' = f' (st.setT q (.bool false)):=by simp [gs2]
theorem gs2_tf : gs2 (.bool true) q false st f f' = f' (st.setT q (.bool true)):=by simp [gs2]
theorem gs2_ff : gs2 (.bool false) q false st f f' = f (st.setT q (.bool false)):=by simp [gs2]
theorem cd_t : dcond (.bool true) F F' st = F st:=by simp [dcond]
theorem cd_f : dcond (.bool false) F F' st = F' st:=by simp [dcond]
end
theorem nc0 : ((0 : Nat) : Int) = 0:=_root_.id rfl
theorem nc1 : ((1 : Nat) : Int) = 1:=_root_.id rfl
theorem nc2 : ((2 : Nat) : Int) = 2:=_root_.id rfl
theorem nc4 : ((4 : Nat) : Int) = 4:=_root_.id rfl
theorem nc5 : ((5 : Nat) : Int) = 5:=_root_.id rfl
theorem nc3 : ((3 : Nat) : Int) = 3:=_root_.id rfl
section
variable {P : Program} {xt : TypeId} {k : IntKind} {a b : Int} {x y : List UInt8} {K : DV→Prop}
theorem b_rem : dbin P .rem xt (.int k a) (.int k b) K = (b ≠ 0∧K (.int k (a.tmod b))):=by simp [dbin]
theorem b_quo : dbin P .quo xt (.int k a) (.int k b) K = (b ≠ 0∧K (.int k (k.wrap (a.tdiv b)))):=by simp [dbin]
theorem b_shl16 {j : IntKind} : dbin P .shl xt (.int .u32 a) (.int j 16) K = K (.int .u32 (IntKind.u32.wrap (a * 65536))):=by simp [dbin,IntKind.bits]
theorem b_shr8 {j : IntKind} : dbin P .shr xt (.int .u32 a) (.int j 8) K = K (.int .u32 (a.fdiv 256)):=by simp [dbin,show (2 : Int) ^ min 8 IntKind.u32.bits = 256 from rfl]
theorem b_shr1 {j : IntKind} : dbin P .shr xt (.int .u64 a) (.int j 1) K = K (.int .u64 (a.fdiv 2)):=by simp [dbin,show (2 : Int) ^ min 1 IntKind.u64.bits = 2 from rfl]
theorem b_or : dbin P .or xt (.int k a) (.int k b) K = K (.int k (bitsOp .or k a b)):=by simp [dbin]
theorem s_leq : dbin P .leq xt (.str x) (.str y) K = K (.bool (Op.bytesLess x y || decide (x = y))):=_root_.id rfl
theorem s_gtr : dbin P .gtr xt (.str x) (.str y) K = K (.bool !(Op.bytesLess x y || decide (x = y))):=_root_.id rfl
theorem s_geq : dbin P .geq xt (.str x) (.str y) K = K (.bool !(Op.bytesLess x y)):=_root_.id rfl
end
theorem wrap_u8 {x : Int} (h1 : 0≤x) (h2 : x < 256) : IntKind.u8.wrap x = x:=by
 simp [IntKind.wrap,IntKind.bits,IntKind.signed]
 omega
/-! ### values,one by one -/
theorem vro1_bool {b : Bool} : DV.ro1 (DV.bool b) = (DV.bool b):=_root_.id rfl
theorem vro_bool {b : Bool} : DV.ro (DV.bool b) = (DV.bool b):=_root_.id rfl
theorem vroA_bool {b : Bool} : DV.roA (DV.bool b) = (DV.bool b):=_root_.id rfl
theorem vcl_bool {b : Bool} : DV.cells (DV.bool b) = [(DV.bool b)]:=_root_.id rfl
theorem vsca_bool {b : Bool} : DV.scalar (DV.bool b) = true:=_root_.id rfl
theorem vfla_bool {b : Bool} : DV.flat (DV.bool b) = true:=_root_.id rfl
theorem vro1_int {k : IntKind} {i : Int} : DV.ro1 (DV.int k i) = (DV.int k i):=_root_.id rfl
theorem vro_int {k : IntKind} {i : Int} : DV.ro (DV.int k i) = (DV.int k i):=_root_.id rfl
theorem vroA_int {k : IntKind} {i : Int} : DV.roA (DV.int k i) = (DV.int k i):=_root_.id rfl
theorem vcl_int {k : IntKind} {i : Int} : DV.cells (DV.int k i) = [(DV.int k i)]:=_root_.id rfl
theorem vsca_int {k : IntKind} {i : Int} : DV.scalar (DV.int k i) = true:=_root_.id rfl
theorem vfla_int {k : IntKind} {i : Int} : DV.flat (DV.int k i) = true:=_root_.id rfl
theorem vro1_str {s : List UInt8} : DV.ro1 (DV.str s) = (DV.str s):=_root_.id rfl
theorem vro_str {s : List UInt8} : DV.ro (DV.str s) = (DV.str s):=_root_.id rfl
theorem vroA_str {s : List UInt8} : DV.roA (DV.str s) = (DV.str s):=_root_.id rfl
theorem vcl_str {s : List UInt8} : DV.cells (DV.str s) = [(DV.str s)]:=_root_.id rfl
theorem vsca_str {s : List UInt8} : DV.scalar (DV.str s) = true:=_root_.id rfl
theorem vfla_str {s : List UInt8} : DV.flat (DV.str s) = true:=_root_.id rfl
theorem vro1_sl {o : Bool} {z : Nat} {xs : List DV} : DV.ro1 (DV.sl o z xs) = (DV.sl false z xs):=_root_.id rfl
theorem vro_sl {o : Bool} {z : Nat} {xs : List DV} : DV.ro (DV.sl o z xs) = (DV.sl false z xs):=_root_.id rfl
theorem vroA_sl {o : Bool} {z : Nat} {xs : List DV} : DV.roA (DV.sl o z xs) = (DV.sl false z xs):=_root_.id rfl
theorem vcl_sl {o : Bool} {z : Nat} {xs : List DV} : DV.cells (DV.sl o z xs) = [(DV.sl o z xs)]:=_root_.id rfl
theorem vsca_sl {o : Bool} {z : Nat} {xs : List DV} : DV.scalar (DV.sl o z xs) = true:=_root_.id rfl
theorem vfla_sl {o : Bool} {z : Nat} {xs : List DV} : DV.flat (DV.sl o z xs) = true:=_root_.id rfl
theorem vro1_agg {cs : List DV} : DV.ro1 (DV.agg cs) = (DV.agg cs):=_root_.id rfl
theorem vro_agg {cs : List DV} : DV.ro (DV.agg cs) = (DV.agg (cs.map DV.ro1)):=_root_.id rfl
theorem vroA_agg {cs : List DV} : DV.roA (DV.agg cs) = (DV.agg (cs.map DV.ro1)):=_root_.id rfl
theorem vcl_agg {cs : List DV} : DV.cells (DV.agg cs) = cs:=_root_.id rfl
theorem vsca_agg {cs : List DV} : DV.scalar (DV.agg cs) = false:=_root_.id rfl
theorem vfla_agg {cs : List DV} : DV.flat (DV.agg cs) = true:=_root_.id rfl
theorem vro1_tup {cs : List DV} : DV.ro1 (DV.tup cs) = (DV.tup cs):=_root_.id rfl
theorem vro_tup {cs : List DV} : DV.ro (DV.tup cs) = (DV.tup cs):=_root_.id rfl
theorem vroA_tup {cs : List DV} : DV.roA (DV.tup cs) = (DV.tup (cs.map DV.ro)):=_root_.id rfl
theorem vcl_tup {cs : List DV} : DV.cells (DV.tup cs) = [(DV.tup cs)]:=_root_.id rfl
theorem vsca_tup {cs : List DV} : DV.scalar (DV.tup cs) = false:=_root_.id rfl
theorem vfla_tup {cs : List DV} : DV.flat (DV.tup cs) = false:=_root_.id rfl
theorem vro1_nilp : DV.ro1 (DV.nilp) = (DV.nilp):=_root_.id rfl
theorem vro_nilp : DV.ro (DV.nilp) = (DV.nilp):=_root_.id rfl
theorem vroA_nilp : DV.roA (DV.nilp) = (DV.nilp):=_root_.id rfl
theorem vcl_nilp : DV.cells (DV.nilp) = [(DV.nilp)]:=_root_.id rfl
theorem vsca_nilp : DV.scalar (DV.nilp) = true:=_root_.id rfl
theorem vfla_nilp : DV.flat (DV.nilp) = true:=_root_.id rfl
theorem vro1_ptr {i : Nat} {o : Nat} : DV.ro1 (DV.ptr i o) = (DV.ptr i o):=_root_.id rfl
theorem vro_ptr {i : Nat} {o : Nat} : DV.ro (DV.ptr i o) = (DV.ptr i o):=_root_.id rfl
theorem vroA_ptr {i : Nat} {o : Nat} : DV.roA (DV.ptr i o) = (DV.ptr i o):=_root_.id rfl
theorem vcl_ptr {i : Nat} {o : Nat} : DV.cells (DV.ptr i o) = [(DV.ptr i o)]:=_root_.id rfl
theorem vsca_ptr {i : Nat} {o : Nat} : DV.scalar (DV.ptr i o) = true:=_root_.id rfl
theorem vfla_ptr {i : Nat} {o : Nat} : DV.flat (DV.ptr i o) = true:=_root_.id rfl
theorem vro1_lptr {s : Nat} {g : Nat} {o : Nat} : DV.ro1 (DV.lptr s g o) = (DV.lptr s g o):=_root_.id rfl
theorem vro_lptr {s : Nat} {g : Nat} {o : Nat} : DV.ro (DV.lptr s g o) = (DV.lptr s g o):=_root_.id rfl
theorem vroA_lptr {s : Nat} {g : Nat} {o : Nat} : DV.roA (DV.lptr s g o) = (DV.lptr s g o):=_root_.id rfl
theorem vcl_lptr {s : Nat} {g : Nat} {o : Nat} : DV.cells (DV.lptr s g o) = [(DV.lptr s g o)]:=_root_.id rfl
theorem vsca_lptr {s : Nat} {g : Nat} {o : Nat} : DV.scalar (DV.lptr s g o) = false:=_root_.id rfl
theorem vfla_lptr {s : Nat} {g : Nat} {o : Nat} : DV.flat (DV.lptr s g o) = false:=_root_.id rfl
theorem vro1_lsl {s : Nat} {g : Nat} {z : Nat} {o : Nat} {l : Nat} : DV.ro1 (DV.lsl s g z o l) = (DV.lsl s g z o l):=_root_.id rfl
theorem vro_lsl {s : Nat} {g : Nat} {z : Nat} {o : Nat} {l : Nat} : DV.ro (DV.lsl s g z o l) = (DV.lsl s g z o l):=_root_.id rfl
theorem vroA_lsl {s : Nat} {g : Nat} {z : Nat} {o : Nat} {l : Nat} : DV.roA (DV.lsl s g z o l) = (DV.lsl s g z o l):=_root_.id rfl
theorem vcl_lsl {s : Nat} {g : Nat} {z : Nat} {o : Nat} {l : Nat} : DV.cells (DV.lsl s g z o l) = [(DV.lsl s g z o l)]:=_root_.id rfl
theorem vsca_lsl {s : Nat} {g : Nat} {z : Nat} {o : Nat} {l : Nat} : DV.scalar (DV.lsl s g z o l) = false:=_root_.id rfl
theorem vfla_lsl {s : Nat} {g : Nat} {z : Nat} {o : Nat} {l : Nat} : DV.flat (DV.lsl s g z o l) = false:=_root_.id rfl
theorem vro1_vptr {cs : List DV} : DV.ro1 (DV.vptr cs) = (DV.vptr cs):=_root_.id rfl
theorem vro_vptr {cs : List DV} : DV.ro (DV.vptr cs) = (DV.vptr cs):=_root_.id rfl
theorem vroA_vptr {cs : List DV} : DV.roA (DV.vptr cs) = (DV.vptr cs):=_root_.id rfl
theorem vcl_vptr {cs : List DV} : DV.cells (DV.vptr cs) = [(DV.vptr cs)]:=_root_.id rfl
theorem vsca_vptr {cs : List DV} : DV.scalar (DV.vptr cs) = true:=_root_.id rfl
theorem vfla_vptr {cs : List DV} : DV.flat (DV.vptr cs) = true:=_root_.id rfl
theorem vro1_map {i : Nat} : DV.ro1 (DV.map i) = (DV.map i):=_root_.id rfl
theorem vro_map {i : Nat} : DV.ro (DV.map i) = (DV.map i):=_root_.id rfl
theorem vroA_map {i : Nat} : DV.roA (DV.map i) = (DV.map i):=_root_.id rfl
theorem vcl_map {i : Nat} : DV.cells (DV.map i) = [(DV.map i)]:=_root_.id rfl
theorem vsca_map {i : Nat} : DV.scalar (DV.map i) = true:=_root_.id rfl
theorem vfla_map {i : Nat} : DV.flat (DV.map i) = true:=_root_.id rfl
theorem vro1_nilmap : DV.ro1 (DV.nilmap) = (DV.nilmap):=_root_.id rfl
theorem vro_nilmap : DV.ro (DV.nilmap) = (DV.nilmap):=_root_.id rfl
theorem vroA_nilmap : DV.roA (DV.nilmap) = (DV.nilmap):=_root_.id rfl
theorem vcl_nilmap : DV.cells (DV.nilmap) = [(DV.nilmap)]:=_root_.id rfl
theorem vsca_nilmap : DV.scalar (DV.nilmap) = true:=_root_.id rfl
theorem vfla_nilmap : DV.flat (DV.nilmap) = true:=_root_.id rfl
theorem vro1_undef : DV.ro1 (DV.undef) = (DV.undef):=_root_.id rfl
theorem vro_undef : DV.ro (DV.undef) = (DV.undef):=_root_.id rfl
theorem vroA_undef : DV.roA (DV.undef) = (DV.undef):=_root_.id rfl
theorem vcl_undef : DV.cells (DV.undef) = [(DV.undef)]:=_root_.id rfl
theorem vsca_undef : DV.scalar (DV.undef) = false:=_root_.id rfl
theorem vfla_undef : DV.flat (DV.undef) = true:=_root_.id rfl
theorem vro1_fn {f : Nat} {cs : List DV} : DV.ro1 (DV.fn f cs) = (DV.fn f cs):=_root_.id rfl
theorem vro_fn {f : Nat} {cs : List DV} : DV.ro (DV.fn f cs) = (DV.fn f cs):=_root_.id rfl
theorem vroA_fn {f : Nat} {cs : List DV} : DV.roA (DV.fn f cs) = (DV.fn f cs):=_root_.id rfl
theorem vcl_fn {f : Nat} {cs : List DV} : DV.cells (DV.fn f cs) = [(DV.fn f cs)]:=_root_.id rfl
theorem vsca_fn {f : Nat} {cs : List DV} : DV.scalar (DV.fn f cs) = true:=_root_.id rfl
theorem vfla_fn {f : Nat} {cs : List DV} : DV.flat (DV.fn f cs) = true:=_root_.id rfl
theorem vro1_any : DV.ro1 DV.any = DV.any:=_root_.id rfl
theorem vro_any : DV.ro DV.any = DV.any:=_root_.id rfl
theorem vroA_any : DV.roA DV.any = DV.any:=_root_.id rfl
theorem vcl_any : DV.cells DV.any = [DV.any]:=_root_.id rfl
theorem vsca_any : DV.scalar DV.any = true:=_root_.id rfl
theorem vfla_any : DV.flat DV.any = true:=_root_.id rfl
theorem vro1_hsl {i z o l q : Nat} : DV.ro1 (DV.hsl i z o l q) = (DV.hsl i z o l q):=_root_.id rfl
theorem vro_hsl {i z o l q : Nat} : DV.ro (DV.hsl i z o l q) = (DV.hsl i z o l q):=_root_.id rfl
theorem vroA_hsl {i z o l q : Nat} : DV.roA (DV.hsl i z o l q) = (DV.hsl i z o l q):=_root_.id rfl
theorem vcl_hsl {i z o l q : Nat} : DV.cells (DV.hsl i z o l q) = [(DV.hsl i z o l q)]:=_root_.id rfl
theorem vsca_hsl {i z o l q : Nat} : DV.scalar (DV.hsl i z o l q) = true:=_root_.id rfl
theorem vfla_hsl {i z o l q : Nat} : DV.flat (DV.hsl i z o l q) = true:=_root_.id rfl
end Go.Ab
/- AcF: Rows of texts by texts,as maps hold them; frames of heaps. -/
namespace Go.Ab
open Go Go.Conc Go.RowKit
abbrev Str:=List UInt8
abbrev Files:=List (Str × Str)
def enc (fs : Files) : List (DV × DV):=fs.map fun x => (.str x.1,.str x.2)
def getF (fs : Files) (k : Str) : Option Str:=match fs with
 | [] => none
 | (x,v) :: r => if k = x then some v else getF r k
def setF (k v : Str) : Files→Files
 | [] => [(k,v)]
 | (x,u) :: r => if k = x then (k,v) :: r else (x,u) :: setF k v r
def delF (k : Str) : Files→Files
 | [] => []
 | (x,u) :: r => if k = x then r else (x,u) :: delF k r
theorem find_enc (k : Str) : ∀ fs,findKeyD (.str k) (enc fs) = some ((getF fs k).map .str)
 | [] => rfl
 | (x,v) :: r => by
  have:=find_enc k r
  simp only [enc,List.map_cons,findKeyD,keyEq,getF] at this ⊢
  by_cases h : k = x
  ·simp [h]
  ·simp [h]; assumption
theorem set_enc (k v : Str) : ∀ fs,mapSet (.str k) (.str v) (enc fs) = enc (setF k v fs)
 | [] => rfl
 | (x,u) :: r => by
  have:=set_enc k v r
  simp only [enc,List.map_cons,mapSet,keyEq,setF] at this ⊢
  by_cases h : k = x
  ·simp [h]
  ·simp [h]; assumption
theorem del_enc (k : Str) : ∀ fs,mapDel (.str k) (enc fs) = enc (delF k fs)
 | [] => rfl
 | (x,u) :: r => by
  have:=del_enc k r
  simp only [enc,List.map_cons,mapDel,keyEq,delF] at this ⊢
  by_cases h : k = x
  ·simp [h]
  ·simp [h]; assumption
theorem all_enc (k : Str) (fs : Files) : ((enc fs).all fun e => (keyEq (.str k) e.1).isSome) = true:=by
 simp [enc,List.all_eq_true,keyEq]
theorem enc_length (fs : Files) : (enc fs).length = fs.length:=by simp [enc]
theorem hset {H : List HObj} {i : Nat} {x : HObj} (h : i < H.length) : (H.set i x)[i]? = some x:=by simp [h]
theorem hset_ne {H : List HObj} {i j : Nat} {x : HObj} (h : i ≠ j) : (H.set i x)[j]? = H[j]?:=List.getElem?_set_ne h
def Fr (H H' : List HObj) (S : List Nat) : Prop:=H.length≤H'.length∧∀ j,j < H.length→j ∉ S→H'[j]? = H[j]?
theorem Fr.refl (H : List HObj) (S : List Nat) : Fr H H S:=⟨Nat.le_refl _,fun _ _ _ => rfl⟩
theorem Fr.trans {H H' H'' : List HObj} {S T : List Nat} (h : Fr H H' S) (k : Fr H' H'' T) : Fr H H'' (S ++ T) :=
 ⟨Nat.le_trans h.1 k.1,fun j hj hn => by rw [List.mem_append,not_or] at hn; rw [k.2 j (Nat.lt_of_lt_of_le hj h.1) hn.2,h.2 j hj hn.1]⟩
theorem Fr.mono {H H' : List HObj} {S T : List Nat} (h : Fr H H' S) (hs : ∀ j,j < H.length→j∈S→j∈T) : Fr H H' T:=⟨h.1,fun j hj hn => h.2 j hj fun hm => hn (hs j hj hm)⟩
theorem Fr.set {H : List HObj} (i : Nat) (x : HObj) : Fr H (H.set i x) [i]:=⟨by simp,fun j _ hn => hset_ne (by simpa [eq_comm] using hn)⟩
theorem Fr.app (H l : List HObj) : Fr H (H ++ l) []:=⟨by simp,fun j hj _ => by rw [List.getElem?_append_left hj]⟩
theorem Fr.get {H H' : List HObj} {S : List Nat} {i : Nat} {x : HObj} (f : Fr H H' S) (h : H[i]? = some x) (hn : i ∉ S) : H'[i]? = some x:=(f.2 i (List.getElem?_eq_some_iff.1 h).1 hn).trans h
end Go.Ab

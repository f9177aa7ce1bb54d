import Derived.Test.YtmfadfkjnfdngaaGreatDoorM3
set_option linter.unusedVariables false
set_option linter.unusedSimpArgs false
namespace SX
open Go Go.RowKit
class Con (P : Program) (f : FuncId) (args : List AV) (pre : outParam Prop) (r : outParam AV) : Prop where
  h : pre → PureOK P f args r
theorem Con.use {P : Program} {f : FuncId} {args : List AV} {pre : Prop} {r : AV} [c : Con P f args pre r] (h : pre) : PureOK P f args r := c.h h
section
variable {P : Program} {C : Ctx} {st : St} {Q : Exit → St → Prop}
variable {ops rest : List Oper} {acc : List (List Nat × List Nat)} {K : List (List Nat × List Nat) → St → Prop} {dst : Option Tmp} {d : Tmp} {op : Op} {ty t t' : TypeId} {x y z : Operand} {k k' : IntKind} {m n : Int} {pos : String} {af : Array Edge} {za zb zi zj : Int}
theorem litN (n : Nat) : ((OfNat.ofNat n : Int)) = ((OfNat.ofNat n : Nat) : Int) := rfl
theorem evz {z z' : Int} (h : st.ev x = some (.v (.int k z))) (h0 : z = z') : st.ev x = some (.v (.int k z')) := h0 ▸ h
theorem G.call {f : FuncId} {as : Array Operand} {tys : Array TypeId} {args : List AV} {r : AV} (next : Reg P C ops rest (st.app dst ⟨r, []⟩) (([], []) :: acc) K) (ha : evs st as.toList = some args := by rfl) (hc : PureOK P f args r := by first | (with_reducible assumption) | assumption | exact SX.Con.use (by first | trivial | omega | assumption | (refine ⟨?_, ?_⟩ <;> first | omega | assumption) | (refine ⟨?_, ?_, ?_⟩ <;> first | omega | assumption))) (hd : dstOK dst C.nt = true := by rfl) (hid : r.ids = [] := by rfl) : Go1 P C ops dst (.call ⟨.value (.func f), as, tys⟩) ty rest st acc K :=
  Go1.call ha hc hd hid next
theorem wrapN64 {m : Nat} (h : m ≤ 9223372036854775807) : IntKind.i64.wrap (m : Int) = (m : Int) := wrapI64 (by omega) (by omega)
theorem wrapNu {m : Nat} (h : m ≤ 18446744073709551615) : IntKind.u64.wrap (m : Int) = (m : Int) := wrapU64 (by omega) (by omega)
class WrapN (k : IntKind) (b : outParam Nat) : Prop where
  h : ∀ m : Nat, m ≤ b → k.wrap (m : Int) = (m : Int)
instance : WrapN .i64 9223372036854775807 := ⟨fun _ h => wrapN64 h⟩
theorem G.addN {a b : Nat} (next : Reg P C ops rest (st.app dst ⟨.v (.int .i64 ((a + b : Nat) : Int)), []⟩) (([], []) :: acc) K) (hd : dstOK dst C.nt = true := by rfl) (hx : st.ev x = some (.v (.int .i64 za)) := by rfl) (hx0 : za = (a : Int) := by first | with_reducible rfl | exact SX.litN _ | rfl) (hy : st.ev y = some (.v (.int .i64 zb)) := by rfl) (hy0 : zb = (b : Int) := by first | with_reducible rfl | exact SX.litN _ | rfl) (hb : a + b ≤ 9223372036854775807 := by omega) : Go1 P C ops dst (.binOp .add t x y t') ty rest st acc K :=
  Go1.add hd (evz hx hx0) (evz hy hy0) (by rw [← Int.natCast_add]; exact wrapN64 hb) next
theorem G.addNu {a b : Nat} (next : Reg P C ops rest (st.app dst ⟨.v (.int .u64 ((a + b : Nat) : Int)), []⟩) (([], []) :: acc) K) (hd : dstOK dst C.nt = true := by rfl) (hx : st.ev x = some (.v (.int .u64 za)) := by rfl) (hx0 : za = (a : Int) := by first | with_reducible rfl | exact SX.litN _ | rfl) (hy : st.ev y = some (.v (.int .u64 zb)) := by rfl) (hy0 : zb = (b : Int) := by first | with_reducible rfl | exact SX.litN _ | rfl) (hb : a + b ≤ 18446744073709551615 := by omega) : Go1 P C ops dst (.binOp .add t x y t') ty rest st acc K :=
  Go1.add hd (evz hx hx0) (evz hy hy0) (by rw [← Int.natCast_add]; exact wrapNu hb) next
theorem G.subN {a b : Nat} (next : Reg P C ops rest (st.app dst ⟨.v (.int .i64 ((a - b : Nat) : Int)), []⟩) (([], []) :: acc) K) (hd : dstOK dst C.nt = true := by rfl) (hx : st.ev x = some (.v (.int .i64 za)) := by rfl) (hx0 : za = (a : Int) := by first | with_reducible rfl | exact SX.litN _ | rfl) (hy : st.ev y = some (.v (.int .i64 zb)) := by rfl) (hy0 : zb = (b : Int) := by first | with_reducible rfl | exact SX.litN _ | rfl) (h1 : b ≤ a := by omega) (hb : a ≤ 9223372036854775807 := by omega) : Go1 P C ops dst (.binOp .sub t x y t') ty rest st acc K :=
  Go1.sub hd (evz hx hx0) (evz hy hy0) (by rw [← Int.ofNat_sub h1]; exact wrapN64 (by omega)) next
theorem G.mulN {a b : Nat} (next : Reg P C ops rest (st.app dst ⟨.v (.int .i64 ((a * b : Nat) : Int)), []⟩) (([], []) :: acc) K) (hd : dstOK dst C.nt = true := by rfl) (hx : st.ev x = some (.v (.int .i64 za)) := by rfl) (hx0 : za = (a : Int) := by first | with_reducible rfl | exact SX.litN _ | rfl) (hy : st.ev y = some (.v (.int .i64 zb)) := by rfl) (hy0 : zb = (b : Int) := by first | with_reducible rfl | exact SX.litN _ | rfl) (hb : a * b ≤ 9223372036854775807 := by first | omega | assumption) : Go1 P C ops dst (.binOp .mul t x y t') ty rest st acc K :=
  Go1.mul hd (evz hx hx0) (evz hy hy0) (by rw [← Int.natCast_mul]; exact wrapN64 hb) next
theorem G.quoN {a b : Nat} (next : Reg P C ops rest (st.app dst ⟨.v (.int .i64 ((a / b : Nat) : Int)), []⟩) (([], []) :: acc) K) (hd : dstOK dst C.nt = true := by rfl) (hx : st.ev x = some (.v (.int .i64 za)) := by rfl) (hx0 : za = (a : Int) := by first | with_reducible rfl | exact SX.litN _ | rfl) (hy : st.ev y = some (.v (.int .i64 zb)) := by rfl) (hy0 : zb = (b : Int) := by first | with_reducible rfl | exact SX.litN _ | rfl) (h1 : 0 < b := by omega) (hb : a ≤ 9223372036854775807 := by omega) : Go1 P C ops dst (.binOp .quo t x y t') ty rest st acc K :=
  Go1.quo hd (evz hx hx0) (evz hy hy0) (by omega) (by show _ = _; exact wrapN64 (Nat.le_trans (Nat.div_le_self ..) hb)) next
theorem G.quoNu {a b : Nat} (next : Reg P C ops rest (st.app dst ⟨.v (.int .u64 ((a / b : Nat) : Int)), []⟩) (([], []) :: acc) K) (hd : dstOK dst C.nt = true := by rfl) (hx : st.ev x = some (.v (.int .u64 za)) := by rfl) (hx0 : za = (a : Int) := by first | with_reducible rfl | exact SX.litN _ | rfl) (hy : st.ev y = some (.v (.int .u64 zb)) := by rfl) (hy0 : zb = (b : Int) := by first | with_reducible rfl | exact SX.litN _ | rfl) (h1 : 0 < b := by omega) (hb : a ≤ 18446744073709551615 := by omega) : Go1 P C ops dst (.binOp .quo t x y t') ty rest st acc K :=
  Go1.quo hd (evz hx hx0) (evz hy hy0) (by omega) (by show _ = _; exact wrapNu (Nat.le_trans (Nat.div_le_self ..) hb)) next
theorem G.remN {a b : Nat} (next : Reg P C ops rest (st.app dst ⟨.v (.int .i64 ((a % b : Nat) : Int)), []⟩) (([], []) :: acc) K) (hd : dstOK dst C.nt = true := by rfl) (hx : st.ev x = some (.v (.int .i64 za)) := by rfl) (hx0 : za = (a : Int) := by first | with_reducible rfl | exact SX.litN _ | rfl) (hy : st.ev y = some (.v (.int .i64 zb)) := by rfl) (hy0 : zb = (b : Int) := by first | with_reducible rfl | exact SX.litN _ | rfl) (h1 : 0 < b := by omega) : Go1 P C ops dst (.binOp .rem t x y t') ty rest st acc K :=
  Go1.rem hd (evz hx hx0) (evz hy hy0) (by omega) (show ((a : Int)).tmod (b : Int) = ((a % b : Nat) : Int) from rfl) next
theorem G.remNu {a b : Nat} (next : Reg P C ops rest (st.app dst ⟨.v (.int .u64 ((a % b : Nat) : Int)), []⟩) (([], []) :: acc) K) (hd : dstOK dst C.nt = true := by rfl) (hx : st.ev x = some (.v (.int .u64 za)) := by rfl) (hx0 : za = (a : Int) := by first | with_reducible rfl | exact SX.litN _ | rfl) (hy : st.ev y = some (.v (.int .u64 zb)) := by rfl) (hy0 : zb = (b : Int) := by first | with_reducible rfl | exact SX.litN _ | rfl) (h1 : 0 < b := by omega) : Go1 P C ops dst (.binOp .rem t x y t') ty rest st acc K :=
  Go1.rem hd (evz hx hx0) (evz hy hy0) (by omega) (show ((a : Int)).tmod (b : Int) = ((a % b : Nat) : Int) from rfl) next
theorem R.runT {j u : Nat} {b' : Bool} (h : Go1 P C ops dst op ty rest st acc K) (ht : (ops[j]?).bind (·.dst) = some u := by rfl) (hv : st.tm u = some (.v (.bool b')) := by rfl) (hb : b' = true := by first | rfl | (with_reducible assumption) | assumption | exact decide_eq_true (by omega) | exact SX.not_t (by first | (with_reducible assumption) | assumption | exact decide_eq_false (by omega))) : Reg P C ops (⟨dst, op, ty, pos, af, some (j, true)⟩ :: rest) st acc K :=
  Reg.goT ht hv hb h
theorem R.runF {j u : Nat} {b' : Bool} (h : Go1 P C ops dst op ty rest st acc K) (ht : (ops[j]?).bind (·.dst) = some u := by rfl) (hv : st.tm u = some (.v (.bool b')) := by rfl) (hb : b' = false := by first | rfl | (with_reducible assumption) | assumption | exact decide_eq_false (by omega) | exact SX.not_f (by first | (with_reducible assumption) | assumption | exact decide_eq_true (by omega))) : Reg P C ops (⟨dst, op, ty, pos, af, some (j, false)⟩ :: rest) st acc K :=
  Reg.goT ht hv hb h
theorem R.skipT {j u : Nat} {b' : Bool} (h : Reg P C ops rest (st.put dst (some (.v undef))) (([], []) :: acc) K) (ht : (ops[j]?).bind (·.dst) = some u := by rfl) (hv : st.tm u = some (.v (.bool b')) := by rfl) (hb : b' = false := by first | rfl | (with_reducible assumption) | assumption | exact decide_eq_false (by omega) | exact SX.not_f (by first | (with_reducible assumption) | assumption | exact decide_eq_true (by omega))) : Reg P C ops (⟨dst, op, ty, pos, af, some (j, true)⟩ :: rest) st acc K :=
  Reg.goF ht hv hb h
theorem R.skipF {j u : Nat} {b' : Bool} (h : Reg P C ops rest (st.put dst (some (.v undef))) (([], []) :: acc) K) (ht : (ops[j]?).bind (·.dst) = some u := by rfl) (hv : st.tm u = some (.v (.bool b')) := by rfl) (hb : b' = true := by first | rfl | (with_reducible assumption) | assumption | exact decide_eq_true (by omega) | exact SX.not_t (by first | (with_reducible assumption) | assumption | exact decide_eq_false (by omega))) : Reg P C ops (⟨dst, op, ty, pos, af, some (j, false)⟩ :: rest) st acc K :=
  Reg.goF ht hv hb h
theorem R.skipU {j u : Nat} {b : Bool} (h : Reg P C ops rest (st.put dst (some (.v undef))) (([], []) :: acc) K) (ht : (ops[j]?).bind (·.dst) = some u := by rfl) (hv : st.tm u = some (.v undef) := by rfl) : Reg P C ops (⟨dst, op, ty, pos, af, some (j, b)⟩ :: rest) st acc K :=
  Reg.goU ht hv h
theorem W.condT {c : Operand} {a e : Code} {b' : Bool} (h : WP P C a st Q) (hc : st.ev c = some (.v (.bool b')) := by rfl) (hb : b' = true := by first | rfl | (with_reducible assumption) | assumption | exact decide_eq_true (by omega) | exact SX.not_t (by first | (with_reducible assumption) | assumption | exact decide_eq_false (by omega))) : WP P C (.cond c a e) st Q :=
  WP.condHT hc hb h
theorem W.condF {c : Operand} {a e : Code} {b' : Bool} (h : WP P C e st Q) (hc : st.ev c = some (.v (.bool b')) := by rfl) (hb : b' = false := by first | rfl | (with_reducible assumption) | assumption | exact decide_eq_false (by omega) | exact SX.not_f (by first | (with_reducible assumption) | assumption | exact decide_eq_true (by omega))) : WP P C (.cond c a e) st Q :=
  WP.condHF hc hb h
theorem R.pickT {c : Operand} {b' : Bool} {r : AV} (next : Reg P C ops rest (st.app dst ⟨r, []⟩) (([], []) :: acc) K) (hd : dstOK dst C.nt = true := by rfl) (hc : st.ev c = some (.v (.bool b')) := by rfl) (ht : b' = true := by first | rfl | (with_reducible assumption) | assumption | exact decide_eq_true (by omega) | exact SX.not_t (by first | (with_reducible assumption) | assumption | exact decide_eq_false (by omega))) (hx : st.ev x = some r := by rfl) : Go1 P C ops dst (.pick c x y) ty rest st acc K :=
  Go1.pickHT hd hc ht hx next
theorem R.pickF {c : Operand} {b' : Bool} {r : AV} (next : Reg P C ops rest (st.app dst ⟨r, []⟩) (([], []) :: acc) K) (hd : dstOK dst C.nt = true := by rfl) (hc : st.ev c = some (.v (.bool b')) := by rfl) (ht : b' = false := by first | rfl | (with_reducible assumption) | assumption | exact decide_eq_false (by omega) | exact SX.not_f (by first | (with_reducible assumption) | assumption | exact decide_eq_true (by omega))) (hx : st.ev y = some r := by rfl) : Go1 P C ops dst (.pick c x y) ty rest st acc K :=
  Go1.pickHF hd hc ht hx next

abbrev str (l : List UInt8) : Value := .string ⟨⟨l⟩⟩
def byt (l : List UInt8) (i : Nat) : UInt8 := l.getD i 0
theorem G.eqlT {l m : List UInt8} (next : Reg P C ops rest (st.app dst ⟨.v (.bool (decide (l = m))), []⟩) (([], []) :: acc) K) (hd : dstOK dst C.nt = true := by rfl) (hx : st.ev x = some (.v (str l)) := by rfl) (hy : st.ev y = some (.v (str m)) := by rfl) : Go1 P C ops dst (.binOp .eql t x y t') ty rest st acc K :=
  Go1.eqlS hd hx hy (by
    have : ((⟨⟨l⟩⟩ : ByteArray).toList == (⟨⟨m⟩⟩ : ByteArray).toList) = decide (l = m) := by
      rw [ByteArray.toList_eq, ByteArray.toList_eq]; rw [Bool.eq_iff_iff]; simp
    rw [this]; exact next)
end
end SX
set_option linter.unusedVariables false
set_option linter.unusedSimpArgs false
namespace SX
open Go Go.RowKit
class EncLen {α : Type} (enc : α → List CA) (size : outParam Nat) : Prop where
  h : ∀ a, (enc a).length = size
section
variable {α : Type} {enc : α → List CA} {size : Nat}
theorem flat_len [h : EncLen enc size] : ∀ l : List α, (l.flatMap enc).length = l.length * size
  | [] => by simp
  | a :: l => by rw [List.flatMap_cons, List.length_append, h.h, flat_len l, List.length_cons, Nat.add_mul]; omega
theorem flat_at [h : EncLen enc size] : ∀ {l : List α} {i : Nat} {a : α}, l[i]? = some a → ((l.flatMap enc).drop (i * size)).take size = enc a
  | [], i, a, hl => by simp at hl
  | x :: l, 0, a, hl => by
    simp at hl; subst hl
    rw [Nat.zero_mul, List.drop_zero, List.flatMap_cons, List.take_append_of_le_length (by rw [h.h]; exact Nat.le_refl _), List.take_of_length_le (by rw [h.h]; exact Nat.le_refl _)]
  | x :: l, i + 1, a, hl => by
    simp at hl
    rw [List.flatMap_cons, Nat.add_mul, Nat.one_mul, Nat.add_comm, List.drop_append, h.h]
    rw [List.drop_eq_nil_of_le (by rw [h.h]; omega), List.nil_append, show size + i * size - size = i * size by omega]
    exact flat_at hl
theorem flat_one {a : α} {m : List CA} (h : m = enc a) : m = [a].flatMap enc := by rw [h]; simp
theorem flat_take [h : EncLen enc size] (l : List α) (k : Nat) : (l.flatMap enc).take (k * size) = (l.take k).flatMap enc := by
  induction l generalizing k with
  | nil => simp
  | cons a l ih =>
    cases k with
    | zero => simp
    | succ k => rw [List.take_succ_cons, List.flatMap_cons, List.flatMap_cons, Nat.add_mul, Nat.one_mul, Nat.add_comm, List.take_append, List.take_of_length_le (by rw [h.h]; omega), h.h, show size + k * size - size = k * size by omega, ih]
theorem flat_drop [h : EncLen enc size] (l : List α) (k : Nat) : (l.flatMap enc).drop (k * size) = (l.drop k).flatMap enc := by
  induction l generalizing k with
  | nil => simp
  | cons a l ih =>
    cases k with
    | zero => simp
    | succ k => rw [List.drop_succ_cons, List.flatMap_cons, Nat.add_mul, Nat.one_mul, Nat.add_comm, List.drop_append, List.drop_eq_nil_of_le (by rw [h.h]; omega), h.h, show size + k * size - size = k * size by omega, ih, List.nil_append]
theorem flat_set [h : EncLen enc size] (l : List α) (i : Nat) (a : α) (hi : i < l.length) : spl (l.flatMap enc) (i * size) (enc a) = (l.set i a).flatMap enc := by
  have hl := flat_len (enc := enc) l
  have hm : i * size + size ≤ l.length * size := by rw [← Nat.succ_mul]; exact Nat.mul_le_mul_right _ hi
  rw [spl_eq _ _ _ (by rw [h.h, hl]; omega), h.h, flat_take, show i * size + size = (i + 1) * size by rw [Nat.succ_mul], flat_drop]
  rw [show l.set i a = l.take i ++ [a] ++ l.drop (i + 1) by rw [List.set_eq_take_append_cons_drop, if_pos hi]; simp]
  simp
end
abbrev rowR {α : Type} (size : Nat) (enc : α → List CA) (l : List α) : Rep := sliceR size l.length (l.flatMap enc)
class AsRow (r : Rep) (size : outParam Nat) {α : outParam Type} (enc : outParam (α → List CA)) (l : outParam (List α)) : Prop where
  h : ∀ S w v, r.has S w v → (rowR size enc l).has S w v
instance {α : Type} (size : Nat) (enc : α → List CA) (l : List α) : AsRow (sliceR size l.length (l.flatMap enc)) size enc l := ⟨fun _ _ _ h => h⟩
theorem CA.one_of_enc {α : Type} {enc : α → List CA} (h : ∀ a, (enc a).all CA.oneB = true) (l : List α) : (l.flatMap enc).all CA.oneB = true := by
  induction l with
  | nil => rfl
  | cons a l ih => rw [List.flatMap_cons, List.all_append, h, ih]; rfl
class EncOne {α : Type} (enc : α → List CA) : Prop where
  h : ∀ a, (enc a).all CA.oneB = true
theorem allOne {α : Type} {enc : α → List CA} (l : List α) [h : EncOne enc] : (l.flatMap enc).all CA.oneB = true := CA.one_of_enc h.h l
section
variable {P : Program} {C : Ctx} {st : St}
variable {ops rest : List Oper} {acc : List (List Nat × List Nat)} {K : List (List Nat × List Nat) → St → Prop} {dst : Option Tmp} {d : Tmp} {op : Op} {ty t t' : TypeId} {x y z : Operand} {k k' : IntKind} {i j : Nat} {za zb zi zj : Int}
theorem G.indexAddrW {α : Type} {e : TypeId} {size sz : Nat} {enc : α → List CA} {l : List α} {a : α} {r : Rep} [ht : TSlice P t e size] (next : Reg P C ops rest (st.app dst ⟨.r (ptrR (enc a)), []⟩) (([], []) :: acc) K)
    (hd : dstOK dst C.nt = true := by rfl) (hx : st.ev x = some (.r r) := by rfl) (hy : st.ev y = some (.v (.int k zi)) := by rfl) (hy0 : zi = (i : Int) := by first | with_reducible rfl | exact SX.litN _ | rfl) (hr : AsRow r sz enc l := by infer_instance) (hsz : sz = size := by rfl) (hz : EncLen enc size := by infer_instance) (ha : l[i]? = some a := by first | assumption | exact List.getElem?_eq_getElem (by omega)) : Go1 P C ops dst (.indexAddr t x y) ty rest st acc K := by
  subst hsz
  haveI : AsSlice r sz l.length (l.flatMap enc) := ⟨hr.h⟩
  have hi : i < l.length := (List.getElem?_eq_some_iff.1 ha).1
  refine Go1.indexAddrR (hd := hd) hx (evz hy hy0) hi ?_
  rw [flat_at ha]
  exact next
theorem G.sliceHiW {α : Type} {e : TypeId} {size sz : Nat} {enc : α → List CA} {l : List α} {r : Rep} [ht : TSlice P t e size] (next : Reg P C ops rest (st.app dst ⟨.r (rowR size enc (l.take j)), []⟩) (([], []) :: acc) K)
    (hd : dstOK dst C.nt = true := by rfl) (hx : st.ev x = some (.r r) := by rfl) (hy : st.ev y = some (.v (.int k zj)) := by rfl) (hy0 : zj = (j : Int) := by first | with_reducible rfl | exact SX.litN _ | rfl) (hr : AsRow r sz enc l := by infer_instance) (hsz : sz = size := by rfl) (hz : EncLen enc size := by infer_instance) (h1 : j ≤ l.length := by omega) : Go1 P C ops dst (.slice t x none (some y) none) ty rest st acc K := by
  subst hsz
  haveI : AsSlice r sz l.length (l.flatMap enc) := ⟨hr.h⟩
  refine Go1.sliceHiR (hd := hd) hx (evz hy hy0) (by omega) (by omega) ?_
  rw [Int.toNat_natCast, flat_take]
  have e : (l.take j).length = j := by rw [List.length_take]; omega
  have := next
  unfold rowR at this
  rwa [e] at this
theorem G.minN {tys : Array TypeId} (next : Reg P C ops rest (st.app dst ⟨.v (.int k ((min i j : Nat) : Int)), []⟩) (([], []) :: acc) K) (hd : dstOK dst C.nt = true := by rfl) (hx : st.ev x = some (.v (.int k zi)) := by rfl) (hx0 : zi = (i : Int) := by first | with_reducible rfl | exact SX.litN _ | rfl) (hy : st.ev y = some (.v (.int k zj)) := by rfl) (hy0 : zj = (j : Int) := by first | with_reducible rfl | exact SX.litN _ | rfl) :
    Go1 P C ops dst (.call ⟨.builtin .min, #[x, y], tys⟩) ty rest st acc K :=
  Go1.val2 hd rfl (evz hx hx0) (evz hy hy0) (fun ρ o w ho h1 h2 => by
    unfold execOp; rw [ho]
    have e : (if (j : Int) < (i : Int) then (j : Int) else (i : Int)) = ((min i j : Nat) : Int) := by split <;> omega
    simp only [resolve, invoke, builtin, List.map_toArray, List.map_cons, List.map_nil, Sem.run_bind, Sem.run_pure, Result.andThen_ok]
    rw [show ρ x = _ from h1, show ρ y = _ from h2, run_min_int2]
    simp only [Result.andThen_ok, gt_iff_lt, e]) next
theorem Eff.storeRow {E : Env} {S : Nat → Prop} {w : World} {b g cap : Nat} {e : TypeId} {size n : Nat} {cells cells' : List CA} {cs' : Array Value} {r : AV} {v : Value} {vs' : List Value} (hl : ∀ k, S k → k < w.heap.size) (hS : S g) (hg : E.sl b = .slice (some ⟨g, 0, none⟩) n cap) (hlt : g < w.heap.size)
    (hr : r.has E S w v) (hown : (w.setRow g cs').ownsRow 0 e size (E.sl b) n vs') (hcs : All2 (CA.has S w) cells' vs') : Eff E S w [(b, .row e size n cells)] ⟨r, [(b, .ent (.row e size n cells'))]⟩ v (w.setRow g cs') E S := by
  have ho : Off S w (w.setRow g cs') := Off.setRow w _ _ hS
  have hbk : (E.sl b).ownBlock = some g := by rw [hg]; rfl
  refine
    { env := fun i hi => ⟨rfl, rfl⟩, fpe := fun _ _ => rfl, sub := fun k hk => hk, new := fun k hk => .inl hk, lt := fun k hk => Nat.lt_of_lt_of_le (hl k hk) ho.size, off := Off.setRow w _ _ ⟨b, _, List.mem_cons_self, hbk⟩,
      res := hr.step (fun _ _ => ⟨rfl, rfl⟩) ho (fun k hk => .inl hk), ents := fun i e' hi => ?_, blk := fun i e' k hi hk => ?_, sep := fun i i' e' e2 k hne h1 h2 => ?_ }
  · simp at hi; obtain ⟨rfl, rfl⟩ := hi
    exact ⟨vs', hown, hcs.mono fun c u _ hc => hc.step ho (fun k hk => .inl hk)⟩
  · simp at hi; obtain ⟨rfl, rfl⟩ := hi
    have : k = g := by have h2 : (E.sl i).ownBlock = some k := hk; rw [hbk] at h2; cases h2; rfl
    subst this
    exact ⟨hS, .inl ⟨i, _, List.mem_cons_self, hbk⟩⟩
  · simp at h1 h2; exact absurd (h1.1.trans h2.1.symm) hne
theorem Go1.storeO {e : TypeId} {b off m n size : Nat} {cells cells2 cells' : List CA} {v : AV0} (hs : (P.info? t).map (·.size) = some m) (hx : st.ev x = some (.it (.one (.rptr b off)))) (hy : st.ev y = some (.it v)) (hb : st.hp b = .ent (.row e size n cells)) (hn : v.cells.length = m) (hl : off + m ≤ n * size)
    (h1 : v.cells.all Atom.oneB = true) (hc : closedL v.cells = some cells2) (hr : spl cells off cells2 = cells')
    (next : Reg P C ops rest (st.app none ⟨.v undef, [(b, .ent (.row e size n cells'))]⟩) (([b], [b]) :: acc) K) : Go1 P C ops none (.store t x y) ty rest st acc K := by
  refine ⟨[b], ⟨.v undef, [(b, .ent (.row e size n cells'))]⟩, fun o h2 h3 h4 => OpOK.eff [] [(b, .row e size n cells)] (fun i hi => ?_) (h2 ▸ (fun x hx => by cases hx)) (fun b e hb => by cases hb) (fun i e hi => ?_) (fun i s hi => ?_) (fun i s hi => ?_) (fun st' E S a w hev hhp hse _ hpre => ?_), next⟩
  · rcases hi with ⟨e, hi⟩ | ⟨e, hi⟩ | ⟨s, hi⟩
    · cases hi
    · simp at hi; simp [hi.1]
    · simp at hi; simp [hi.1]
  · simp at hi
    obtain ⟨rfl, rfl⟩ := hi
    exact ⟨hb, _, by simp; rfl⟩
  · simp at hi; obtain ⟨rfl, _⟩ := hi; exact .inl ⟨_, by simp; rfl⟩
  · simp at hi; rw [hi.2]; rfl
  · obtain ⟨⟨g, n', cap', hE1, hv⟩, _⟩ := hse.ev ((hev x (by simp [h3, Op.operands])).trans hx)
    obtain ⟨hu, hids⟩ := hse.ev ((hev y (by simp [h3, Op.operands])).trans hy)
    have hb' := hpre b (.row e size n cells) (by simp)
    obtain ⟨vs, hown, hall⟩ := hse.hp b _ hb'
    obtain ⟨us, hc', hallu, hone⟩ := AV0.has.cells hu h1
    have hlu := hallu.length
    have hcl := closedL_spec hc
    rw [hcl] at hallu
    have hallu' : All2 (CA.has S w) cells2 us := by
      clear hcl hc hr next hlu hc' hone
      induction cells2 generalizing us with
      | nil => cases us with | nil => trivial | cons _ _ => exact hallu.elim
      | cons c l ih => cases us with | nil => exact hallu.elim | cons u us => exact ⟨hallu.1, ih us hallu.2⟩
    have hown0 := hown
    obtain ⟨hxl, ⟨he, _⟩ | ⟨g2, cap, cur, he, _, hg, hnc, hcm, hcs, htk⟩⟩ := hown
    · rw [hE1] at he; cases he
    rw [hE1] at he
    cases he
    have hlen : off + us.length ≤ cur.toList.length := by
      have : n * size ≤ cap' * size := Nat.mul_le_mul_right _ hnc
      have hcz : cur.toList.length = cur.size := Array.length_toList
      omega
    have hrun := run_store (P := P) (off := off) (n := m) (cs := cur.toList) (T := e) (g := g) hs hc' (by omega) w (by simpa using hg) (by omega) hone
    have hsp := spl_eq cur.toList off us hlen
    have hsz : (Array.mk us).size = us.length := rfl
    have hcz : cur.toList.length = cur.size := Array.length_toList
    have hmu : us.length = m := by omega
    have hown' : (w.setRow g (spl cur.toList off us).toArray).ownsRow 0 e size (E.sl b) n (spl vs off us) := by
      have hvl : vs.length = n * size := hxl
      refine ⟨?_, .inr ⟨g, cap', (spl cur.toList off us).toArray, hE1, Nat.zero_le _, ?_, hnc, hcm, ?_, ?_⟩⟩
      · rw [spl_eq _ _ _ (by omega)]; simp; omega
      · exact setRow_heap w g _ _ _ _ hg
      · rw [hsp]; simp; omega
      · rw [spl_eq vs off us (by omega), hsp, ← htk]
        simp only [List.take_append, List.length_take, List.length_append, List.length_drop, Array.length_toList, List.drop_take, List.take_take]
        have e1 : min (n * size) off = off := by omega
        have e2 : min off cur.size = off := by rw [Array.length_toList] at hlen; omega
        have e3 : min off (n * size) = off := by omega
        rw [e1, e2, e3]
        rw [List.take_of_length_le (l := us) (by omega)]
    have hgl : g < w.heap.size := by rw [Array.getElem?_eq_some_iff] at hg; exact hg.1
    have hcs2 : All2 (CA.has S w) cells' (spl vs off us) := by
      rw [← hr]
      exact All2.spl off hall hallu'
    have hE := Eff.storeRow (E := E) (S := S) (w := w) (b := b) (g := g) (cap := cap') (e := e) (size := size) (n := n) (cells := cells) (cells' := cells') (r := .v undef) (v := undef) hse.lt (hse.blk b _ g hb' (by show (E.sl b).ownBlock = some g; rw [hE1]; rfl)).1 hE1 hgl rfl hown' hcs2
    refine ⟨⟨fun i hi => (by cases hi), fun i e hi j hj => ?_⟩, fun K Q hK => ?_⟩
    · simp at hi
      obtain ⟨rfl, rfl⟩ := hi
      cases hj
    · unfold Oper.wp execOp
      rw [h3]
      simp only [show a.eval x = _ from hv, Instr.storeAt, Instr.sureAddr, Sem.run_bind, Sem.run_pure, Result.andThen_ok, hrun]
      have := hK undef _ _ _ hE
      exact this
theorem G.appendW {e : TypeId} {b n m bytes size : Nat} {zs : List Value} {r : Rep} {cells cells2 : List CA} [ht : TSlice P t e size] [he : TElem P e zs bytes] (next : Reg P C ops rest (st.app (some d) ⟨.own d, [(b, .gone), (d, .ent (.row e size (n + m) (cells ++ cells2)))]⟩) (([b, d], [b, d]) :: acc) K) (hd : dstOK (some d) C.nt = true := by rfl) (hx : st.ev x = some (.own b) := by rfl) (hy : st.ev y = some (.r r) := by rfl) (hr : AsSlice r size m cells2 := by infer_instance)
    (hb : st.hp b = .ent (.row e size n cells) := by rfl) (hf : st.hp d = .free := by rfl) (hz : Nat.beq zs.length size = true := by rfl) (h1 : cells2.all CA.oneB = true := by first | rfl | exact SX.allOne _) (h63 : n + m ≤ 9223372036854775807 := by omega) (hbytes : (n + m) * bytes ≤ 140737488355328 := by omega) : Go1 P C ops (some d) (.call ⟨.builtin .append, #[x, y], #[t, t]⟩) ty rest st acc K :=
  Go1.append hd hx hy hb hf hz h1 h63 hbytes next
theorem G.indexAddrV {e : TypeId} {size n : Nat} {cells : List CA} {r : Rep} [ht : TSlice P t e size] (next : Reg P C ops rest (st.app dst ⟨.r (ptrR ((cells.drop (i * size)).take size)), []⟩) (([], []) :: acc) K) (hd : dstOK dst C.nt = true := by rfl) (hx : st.ev x = some (.r r) := by rfl) (hr : AsSlice r size n cells := by infer_instance) (hy : st.ev y = some (.v (.int k zi)) := by rfl) (hy0 : zi = (i : Int) := by first | with_reducible rfl | exact SX.litN _ | rfl) (hi : i < n := by omega) : Go1 P C ops dst (.indexAddr t x y) ty rest st acc K :=
  Go1.indexAddrR (hd := hd) hx (evz hy hy0) hi next
end
end SX

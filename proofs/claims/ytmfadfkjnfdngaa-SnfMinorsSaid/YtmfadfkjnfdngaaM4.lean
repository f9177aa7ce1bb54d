import Derived.Test.YtmfadfkjnfdngaaM3
set_option linter.unusedVariables false
set_option linter.unusedSimpArgs false
namespace SX
open Go Go.RowKit
class Con (P : Program) (f : FuncId) (args : List AV) (pre : outParam Prop) (r : outParam AV) : Prop where
  h : pre → PureOK P f args r
theorem Con.use {P : Program} {f : FuncId} {args : List AV} {pre : Prop} {r : AV} [c : Con P f args pre r] (h : pre) : PureOK P f args r := c.h h
section
variable {P : Program} {C : Ctx} {st : St} {Q : Exit → St → Prop}
variable {ops rest : List Oper} {acc : List (List Nat × List Nat)} {K : List (List Nat × List Nat) → St → Prop} {dst : Option Tmp} {d : Tmp} {op : Op} {ty t t' : TypeId} {x y z : Operand} {k k' : IntKind} {m n : Int} {pos : String} {af : Array Edge} {za zb zi zj : Int}
theorem litN (n : Nat) : ((OfNat.ofNat n : Int)) = ((OfNat.ofNat n : Nat) : Int) := rfl
theorem evz {z z' : Int} (h : st.ev x = some (.v (.int k z))) (h0 : z = z') : st.ev x = some (.v (.int k z')) := h0 ▸ h
theorem G.call {f : FuncId} {as : Array Operand} {tys : Array TypeId} {args : List AV} {r : AV} (next : Reg P C ops rest (st.app dst ⟨r, []⟩) (([], []) :: acc) K) (ha : evs st as.toList = some args := by rfl) (hc : PureOK P f args r := by first | (with_reducible assumption) | assumption | exact SX.Con.use (by first | trivial | omega | assumption | (refine ⟨?_, ?_⟩ <;> first | omega | assumption) | (refine ⟨?_, ?_, ?_⟩ <;> first | omega | assumption))) (hd : dstOK dst C.nt = true := by rfl) (hid : r.ids = [] := by rfl) : Go1 P C ops dst (.call ⟨.value (.func f), as, tys⟩) ty rest st acc K :=
  Go1.call ha hc hd hid next
theorem wrapN64 {m : Nat} (h : m ≤ 9223372036854775807) : IntKind.i64.wrap (m : Int) = (m : Int) := wrapI64 (by omega) (by omega)
class WrapN (k : IntKind) (b : outParam Nat) : Prop where
  h : ∀ m : Nat, m ≤ b → k.wrap (m : Int) = (m : Int)
theorem G.addN {a b : Nat} (next : Reg P C ops rest (st.app dst ⟨.v (.int .i64 ((a + b : Nat) : Int)), []⟩) (([], []) :: acc) K) (hd : dstOK dst C.nt = true := by rfl) (hx : st.ev x = some (.v (.int .i64 za)) := by rfl) (hx0 : za = (a : Int) := by first | with_reducible rfl | exact SX.litN _ | rfl) (hy : st.ev y = some (.v (.int .i64 zb)) := by rfl) (hy0 : zb = (b : Int) := by first | with_reducible rfl | exact SX.litN _ | rfl) (hb : a + b ≤ 9223372036854775807 := by omega) : Go1 P C ops dst (.binOp .add t x y t') ty rest st acc K :=
  Go1.add hd (evz hx hx0) (evz hy hy0) (by rw [← Int.natCast_add]; exact wrapN64 hb) next
theorem G.subN {a b : Nat} (next : Reg P C ops rest (st.app dst ⟨.v (.int .i64 ((a - b : Nat) : Int)), []⟩) (([], []) :: acc) K) (hd : dstOK dst C.nt = true := by rfl) (hx : st.ev x = some (.v (.int .i64 za)) := by rfl) (hx0 : za = (a : Int) := by first | with_reducible rfl | exact SX.litN _ | rfl) (hy : st.ev y = some (.v (.int .i64 zb)) := by rfl) (hy0 : zb = (b : Int) := by first | with_reducible rfl | exact SX.litN _ | rfl) (h1 : b ≤ a := by omega) (hb : a ≤ 9223372036854775807 := by omega) : Go1 P C ops dst (.binOp .sub t x y t') ty rest st acc K :=
  Go1.sub hd (evz hx hx0) (evz hy hy0) (by rw [← Int.ofNat_sub h1]; exact wrapN64 (by omega)) next
theorem G.mulN {a b : Nat} (next : Reg P C ops rest (st.app dst ⟨.v (.int .i64 ((a * b : Nat) : Int)), []⟩) (([], []) :: acc) K) (hd : dstOK dst C.nt = true := by rfl) (hx : st.ev x = some (.v (.int .i64 za)) := by rfl) (hx0 : za = (a : Int) := by first | with_reducible rfl | exact SX.litN _ | rfl) (hy : st.ev y = some (.v (.int .i64 zb)) := by rfl) (hy0 : zb = (b : Int) := by first | with_reducible rfl | exact SX.litN _ | rfl) (hb : a * b ≤ 9223372036854775807 := by first | omega | assumption) : Go1 P C ops dst (.binOp .mul t x y t') ty rest st acc K :=
  Go1.mul hd (evz hx hx0) (evz hy hy0) (by rw [← Int.natCast_mul]; exact wrapN64 hb) next
theorem G.remN {a b : Nat} (next : Reg P C ops rest (st.app dst ⟨.v (.int .i64 ((a % b : Nat) : Int)), []⟩) (([], []) :: acc) K) (hd : dstOK dst C.nt = true := by rfl) (hx : st.ev x = some (.v (.int .i64 za)) := by rfl) (hx0 : za = (a : Int) := by first | with_reducible rfl | exact SX.litN _ | rfl) (hy : st.ev y = some (.v (.int .i64 zb)) := by rfl) (hy0 : zb = (b : Int) := by first | with_reducible rfl | exact SX.litN _ | rfl) (h1 : 0 < b := by omega) : Go1 P C ops dst (.binOp .rem t x y t') ty rest st acc K :=
  Go1.rem hd (evz hx hx0) (evz hy hy0) (by omega) (show ((a : Int)).tmod (b : Int) = ((a % b : Nat) : Int) from rfl) next
theorem R.runT {j u : Nat} {b' : Bool} (h : Go1 P C ops dst op ty rest st acc K) (ht : (ops[j]?).bind (·.dst) = some u := by rfl) (hv : st.tm u = some (.v (.bool b')) := by rfl) (hb : b' = true := by first | rfl | (with_reducible assumption) | assumption | exact decide_eq_true (by omega) | exact SX.not_t (by first | (with_reducible assumption) | assumption | exact decide_eq_false (by omega))) : Reg P C ops (⟨dst, op, ty, pos, af, some (j, true)⟩ :: rest) st acc K :=
  Reg.goT ht hv hb h
theorem R.runF {j u : Nat} {b' : Bool} (h : Go1 P C ops dst op ty rest st acc K) (ht : (ops[j]?).bind (·.dst) = some u := by rfl) (hv : st.tm u = some (.v (.bool b')) := by rfl) (hb : b' = false := by first | rfl | (with_reducible assumption) | assumption | exact decide_eq_false (by omega) | exact SX.not_f (by first | (with_reducible assumption) | assumption | exact decide_eq_true (by omega))) : Reg P C ops (⟨dst, op, ty, pos, af, some (j, false)⟩ :: rest) st acc K :=
  Reg.goT ht hv hb h
theorem R.skipT {j u : Nat} {b' : Bool} (h : Reg P C ops rest (st.put dst (some (.v undef))) (([], []) :: acc) K) (ht : (ops[j]?).bind (·.dst) = some u := by rfl) (hv : st.tm u = some (.v (.bool b')) := by rfl) (hb : b' = false := by first | rfl | (with_reducible assumption) | assumption | exact decide_eq_false (by omega) | exact SX.not_f (by first | (with_reducible assumption) | assumption | exact decide_eq_true (by omega))) : Reg P C ops (⟨dst, op, ty, pos, af, some (j, true)⟩ :: rest) st acc K :=
  Reg.goF ht hv hb h
theorem R.skipF {j u : Nat} {b' : Bool} (h : Reg P C ops rest (st.put dst (some (.v undef))) (([], []) :: acc) K) (ht : (ops[j]?).bind (·.dst) = some u := by rfl) (hv : st.tm u = some (.v (.bool b')) := by rfl) (hb : b' = true := by first | rfl | (with_reducible assumption) | assumption | exact decide_eq_true (by omega) | exact SX.not_t (by first | (with_reducible assumption) | assumption | exact decide_eq_false (by omega))) : Reg P C ops (⟨dst, op, ty, pos, af, some (j, false)⟩ :: rest) st acc K :=
  Reg.goF ht hv hb h
theorem R.skipU {j u : Nat} {b : Bool} (h : Reg P C ops rest (st.put dst (some (.v undef))) (([], []) :: acc) K) (ht : (ops[j]?).bind (·.dst) = some u := by rfl) (hv : st.tm u = some (.v undef) := by rfl) : Reg P C ops (⟨dst, op, ty, pos, af, some (j, b)⟩ :: rest) st acc K :=
  Reg.goU ht hv h
theorem W.condT {c : Operand} {a e : Code} {b' : Bool} (h : WP P C a st Q) (hc : st.ev c = some (.v (.bool b')) := by rfl) (hb : b' = true := by first | rfl | (with_reducible assumption) | assumption | exact decide_eq_true (by omega) | exact SX.not_t (by first | (with_reducible assumption) | assumption | exact decide_eq_false (by omega))) : WP P C (.cond c a e) st Q :=
  WP.condHT hc hb h
theorem W.condF {c : Operand} {a e : Code} {b' : Bool} (h : WP P C e st Q) (hc : st.ev c = some (.v (.bool b')) := by rfl) (hb : b' = false := by first | rfl | (with_reducible assumption) | assumption | exact decide_eq_false (by omega) | exact SX.not_f (by first | (with_reducible assumption) | assumption | exact decide_eq_true (by omega))) : WP P C (.cond c a e) st Q :=
  WP.condHF hc hb h
theorem R.pickT {c : Operand} {b' : Bool} {r : AV} (next : Reg P C ops rest (st.app dst ⟨r, []⟩) (([], []) :: acc) K) (hd : dstOK dst C.nt = true := by rfl) (hc : st.ev c = some (.v (.bool b')) := by rfl) (ht : b' = true := by first | rfl | (with_reducible assumption) | assumption | exact decide_eq_true (by omega) | exact SX.not_t (by first | (with_reducible assumption) | assumption | exact decide_eq_false (by omega))) (hx : st.ev x = some r := by rfl) : Go1 P C ops dst (.pick c x y) ty rest st acc K :=
  Go1.pickHT hd hc ht hx next
theorem R.pickF {c : Operand} {b' : Bool} {r : AV} (next : Reg P C ops rest (st.app dst ⟨r, []⟩) (([], []) :: acc) K) (hd : dstOK dst C.nt = true := by rfl) (hc : st.ev c = some (.v (.bool b')) := by rfl) (ht : b' = false := by first | rfl | (with_reducible assumption) | assumption | exact decide_eq_false (by omega) | exact SX.not_f (by first | (with_reducible assumption) | assumption | exact decide_eq_true (by omega))) (hx : st.ev y = some r := by rfl) : Go1 P C ops dst (.pick c x y) ty rest st acc K :=
  Go1.pickHF hd hc ht hx next

abbrev str (l : List UInt8) : Value := .string ⟨⟨l⟩⟩
def byt (l : List UInt8) (i : Nat) : UInt8 := l.getD i 0
end
end SX
set_option linter.unusedVariables false
set_option linter.unusedSimpArgs false
namespace SX
open Go Go.RowKit
class EncLen {α : Type} (enc : α → List CA) (size : outParam Nat) : Prop where
  h : ∀ a, (enc a).length = size
section
variable {α : Type} {enc : α → List CA} {size : Nat}
theorem flat_len [h : EncLen enc size] : ∀ l : List α, (l.flatMap enc).length = l.length * size
  | [] => by simp
  | a :: l => by rw [List.flatMap_cons, List.length_append, h.h, flat_len l, List.length_cons, Nat.add_mul]; omega
theorem flat_at [h : EncLen enc size] : ∀ {l : List α} {i : Nat} {a : α}, l[i]? = some a → ((l.flatMap enc).drop (i * size)).take size = enc a
  | [], i, a, hl => by simp at hl
  | x :: l, 0, a, hl => by
    simp at hl; subst hl
    rw [Nat.zero_mul, List.drop_zero, List.flatMap_cons, List.take_append_of_le_length (by rw [h.h]; exact Nat.le_refl _), List.take_of_length_le (by rw [h.h]; exact Nat.le_refl _)]
  | x :: l, i + 1, a, hl => by
    simp at hl
    rw [List.flatMap_cons, Nat.add_mul, Nat.one_mul, Nat.add_comm, List.drop_append, h.h]
    rw [List.drop_eq_nil_of_le (by rw [h.h]; omega), List.nil_append, show size + i * size - size = i * size by omega]
    exact flat_at hl
theorem flat_one {a : α} {m : List CA} (h : m = enc a) : m = [a].flatMap enc := by rw [h]; simp
theorem flat_take [h : EncLen enc size] (l : List α) (k : Nat) : (l.flatMap enc).take (k * size) = (l.take k).flatMap enc := by
  induction l generalizing k with
  | nil => simp
  | cons a l ih =>
    cases k with
    | zero => simp
    | succ k => rw [List.take_succ_cons, List.flatMap_cons, List.flatMap_cons, Nat.add_mul, Nat.one_mul, Nat.add_comm, List.take_append, List.take_of_length_le (by rw [h.h]; omega), h.h, show size + k * size - size = k * size by omega, ih]
theorem flat_drop [h : EncLen enc size] (l : List α) (k : Nat) : (l.flatMap enc).drop (k * size) = (l.drop k).flatMap enc := by
  induction l generalizing k with
  | nil => simp
  | cons a l ih =>
    cases k with
    | zero => simp
    | succ k => rw [List.drop_succ_cons, List.flatMap_cons, Nat.add_mul, Nat.one_mul, Nat.add_comm, List.drop_append, List.drop_eq_nil_of_le (by rw [h.h]; omega), h.h, show size + k * size - size = k * size by omega, ih, List.nil_append]
theorem flat_set [h : EncLen enc size] (l : List α) (i : Nat) (a : α) (hi : i < l.length) : spl (l.flatMap enc) (i * size) (enc a) = (l.set i a).flatMap enc := by
  have hl := flat_len (enc := enc) l
  have hm : i * size + size ≤ l.length * size := by rw [← Nat.succ_mul]; exact Nat.mul_le_mul_right _ hi
  rw [spl_eq _ _ _ (by rw [h.h, hl]; omega), h.h, flat_take, show i * size + size = (i + 1) * size by rw [Nat.succ_mul], flat_drop]
  rw [show l.set i a = l.take i ++ [a] ++ l.drop (i + 1) by rw [List.set_eq_take_append_cons_drop, if_pos hi]; simp]
  simp
end
abbrev rowR {α : Type} (size : Nat) (enc : α → List CA) (l : List α) : Rep := sliceR size l.length (l.flatMap enc)
class AsRow (r : Rep) (size : outParam Nat) {α : outParam Type} (enc : outParam (α → List CA)) (l : outParam (List α)) : Prop where
  h : ∀ S w v, r.has S w v → (rowR size enc l).has S w v
instance {α : Type} (size : Nat) (enc : α → List CA) (l : List α) : AsRow (sliceR size l.length (l.flatMap enc)) size enc l := ⟨fun _ _ _ h => h⟩
theorem CA.one_of_enc {α : Type} {enc : α → List CA} (h : ∀ a, (enc a).all CA.oneB = true) (l : List α) : (l.flatMap enc).all CA.oneB = true := by
  induction l with
  | nil => rfl
  | cons a l ih => rw [List.flatMap_cons, List.all_append, h, ih]; rfl
class EncOne {α : Type} (enc : α → List CA) : Prop where
  h : ∀ a, (enc a).all CA.oneB = true
theorem allOne {α : Type} {enc : α → List CA} (l : List α) [h : EncOne enc] : (l.flatMap enc).all CA.oneB = true := CA.one_of_enc h.h l
section
variable {P : Program} {C : Ctx} {st : St}
variable {ops rest : List Oper} {acc : List (List Nat × List Nat)} {K : List (List Nat × List Nat) → St → Prop} {dst : Option Tmp} {d : Tmp} {op : Op} {ty t t' : TypeId} {x y z : Operand} {k k' : IntKind} {i j : Nat} {za zb zi zj : Int}
theorem G.indexAddrW {α : Type} {e : TypeId} {size sz : Nat} {enc : α → List CA} {l : List α} {a : α} {r : Rep} [ht : TSlice P t e size] (next : Reg P C ops rest (st.app dst ⟨.r (ptrR (enc a)), []⟩) (([], []) :: acc) K)
    (hd : dstOK dst C.nt = true := by rfl) (hx : st.ev x = some (.r r) := by rfl) (hy : st.ev y = some (.v (.int k zi)) := by rfl) (hy0 : zi = (i : Int) := by first | with_reducible rfl | exact SX.litN _ | rfl) (hr : AsRow r sz enc l := by infer_instance) (hsz : sz = size := by rfl) (hz : EncLen enc size := by infer_instance) (ha : l[i]? = some a := by first | assumption | exact List.getElem?_eq_getElem (by omega)) : Go1 P C ops dst (.indexAddr t x y) ty rest st acc K := by
  subst hsz
  haveI : AsSlice r sz l.length (l.flatMap enc) := ⟨hr.h⟩
  have hi : i < l.length := (List.getElem?_eq_some_iff.1 ha).1
  refine Go1.indexAddrR (hd := hd) hx (evz hy hy0) hi ?_
  rw [flat_at ha]
  exact next
theorem G.minN {tys : Array TypeId} (next : Reg P C ops rest (st.app dst ⟨.v (.int k ((min i j : Nat) : Int)), []⟩) (([], []) :: acc) K) (hd : dstOK dst C.nt = true := by rfl) (hx : st.ev x = some (.v (.int k zi)) := by rfl) (hx0 : zi = (i : Int) := by first | with_reducible rfl | exact SX.litN _ | rfl) (hy : st.ev y = some (.v (.int k zj)) := by rfl) (hy0 : zj = (j : Int) := by first | with_reducible rfl | exact SX.litN _ | rfl) :
    Go1 P C ops dst (.call ⟨.builtin .min, #[x, y], tys⟩) ty rest st acc K :=
  Go1.val2 hd rfl (evz hx hx0) (evz hy hy0) (fun ρ o w ho h1 h2 => by
    unfold execOp; rw [ho]
    have e : (if (j : Int) < (i : Int) then (j : Int) else (i : Int)) = ((min i j : Nat) : Int) := by split <;> omega
    simp only [resolve, invoke, builtin, List.map_toArray, List.map_cons, List.map_nil, Sem.run_bind, Sem.run_pure, Result.andThen_ok]
    rw [show ρ x = _ from h1, show ρ y = _ from h2, run_min_int2]
    simp only [Result.andThen_ok, gt_iff_lt, e]) next
theorem G.appendW {e : TypeId} {b n m bytes size : Nat} {zs : List Value} {r : Rep} {cells cells2 : List CA} [ht : TSlice P t e size] [he : TElem P e zs bytes] (next : Reg P C ops rest (st.app (some d) ⟨.own d, [(b, .gone), (d, .ent (.row e size (n + m) (cells ++ cells2)))]⟩) (([b, d], [b, d]) :: acc) K) (hd : dstOK (some d) C.nt = true := by rfl) (hx : st.ev x = some (.own b) := by rfl) (hy : st.ev y = some (.r r) := by rfl) (hr : AsSlice r size m cells2 := by infer_instance)
    (hb : st.hp b = .ent (.row e size n cells) := by rfl) (hf : st.hp d = .free := by rfl) (hz : Nat.beq zs.length size = true := by rfl) (h1 : cells2.all CA.oneB = true := by first | rfl | exact SX.allOne _) (h63 : n + m ≤ 9223372036854775807 := by omega) (hbytes : (n + m) * bytes ≤ 140737488355328 := by omega) : Go1 P C ops (some d) (.call ⟨.builtin .append, #[x, y], #[t, t]⟩) ty rest st acc K :=
  Go1.append hd hx hy hb hf hz h1 h63 hbytes next
theorem G.appendNilW {e : TypeId} {m bytes size : Nat} {zs : List Value} {r : Rep} {cells2 : List CA} [ht : TSlice P t e size] [he : TElem P e zs bytes] (next : Reg P C ops rest (st.app (some d) ⟨.own d, [(d, .ent (.row e size m cells2))]⟩) (([d], [d]) :: acc) K) (hd : dstOK (some d) C.nt = true := by rfl) (hx : st.ev x = some (.v (.slice none 0 0)) := by rfl) (hy : st.ev y = some (.r r) := by rfl) (hr : AsSlice r size m cells2 := by infer_instance)
    (hf : st.hp d = .free := by rfl) (hz : Nat.beq zs.length size = true := by rfl) (h1 : cells2.all CA.oneB = true := by first | rfl | exact SX.allOne _) (h63 : m ≤ 9223372036854775807 := by omega) (hbytes : m * bytes ≤ 140737488355328 := by omega) : Go1 P C ops (some d) (.call ⟨.builtin .append, #[x, y], #[t, t]⟩) ty rest st acc K :=
  Go1.appendNil hd hx hy hf hz h1 h63 hbytes next
end
end SX

import Derived.Test.YtaocklkbijkhpaaSc
/- A run at one word; contracts that are found by their function; sums kept as naturals. No program in sight. -/
set_option linter.unusedVariables false
set_option linter.unusedSimpArgs false
namespace SX
open Go Go.RowKit
theorem not_t {b : Bool} (h : b = false) : (!b) = true := by rw [h]; rfl
theorem not_f {b : Bool} (h : b = true) : (!b) = false := by rw [h]; rfl
/-- A contract that is found by its function and its arguments. -/
class Con (P : Program) (f : FuncId) (args : List AV) (pre : outParam Prop) (r : outParam AV) : Prop where
  h : pre → PureOK P f args r
theorem Con.use {P : Program} {f : FuncId} {args : List AV} {pre : Prop} {r : AV} [c : Con P f args pre r] (h : pre) : PureOK P f args r := c.h h
section
variable {P : Program} {C : Ctx} {st : St} {Q : Exit → St → Prop}
variable {ops rest : List Oper} {acc : List (List Nat × List Nat)} {K : List (List Nat × List Nat) → St → Prop} {dst : Option Tmp} {d : Tmp} {op : Op} {ty t t' : TypeId} {x y z : Operand} {k k' : IntKind} {m n : Int} {pos : String} {af : Array Edge} {za zb zi zj : Int}
theorem litN (n : Nat) : ((OfNat.ofNat n : Int)) = ((OfNat.ofNat n : Nat) : Int) := rfl
theorem evz {z z' : Int} (h : st.ev x = some (.v (.int k z))) (h0 : z = z') : st.ev x = some (.v (.int k z')) := h0 ▸ h
theorem G.call {f : FuncId} {as : Array Operand} {tys : Array TypeId} {args : List AV} {r : AV} (next : Reg P C ops rest (st.app dst ⟨r, []⟩) (([], []) :: acc) K) (ha : evs st as.toList = some args := by rfl) (hc : PureOK P f args r := by first | (with_reducible assumption) | assumption | exact SX.Con.use (by first | trivial | omega | assumption | (refine ⟨?_, ?_⟩ <;> first | omega | assumption) | (refine ⟨?_, ?_, ?_⟩ <;> first | omega | assumption))) (hd : dstOK dst C.nt = true := by rfl) (hid : r.ids = [] := by rfl) : Go1 P C ops dst (.call ⟨.value (.func f), as, tys⟩) ty rest st acc K :=
  Go1.call ha hc hd hid next
theorem wrapN64 {m : Nat} (h : m ≤ 9223372036854775807) : IntKind.i64.wrap (m : Int) = (m : Int) := wrapI64 (by omega) (by omega)
theorem wrapNu {m : Nat} (h : m ≤ 18446744073709551615) : IntKind.u64.wrap (m : Int) = (m : Int) := wrapU64 (by omega) (by omega)
class WrapN (k : IntKind) (b : outParam Nat) : Prop where
  h : ∀ m : Nat, m ≤ b → k.wrap (m : Int) = (m : Int)
instance : WrapN .i64 9223372036854775807 := ⟨fun _ h => wrapN64 h⟩
instance : WrapN .u64 18446744073709551615 := ⟨fun _ h => wrapNu h⟩
theorem G.addN {a b : Nat} (next : Reg P C ops rest (st.app dst ⟨.v (.int .i64 ((a + b : Nat) : Int)), []⟩) (([], []) :: acc) K) (hd : dstOK dst C.nt = true := by rfl) (hx : st.ev x = some (.v (.int .i64 za)) := by rfl) (hx0 : za = (a : Int) := by first | with_reducible rfl | exact SX.litN _ | rfl) (hy : st.ev y = some (.v (.int .i64 zb)) := by rfl) (hy0 : zb = (b : Int) := by first | with_reducible rfl | exact SX.litN _ | rfl) (hb : a + b ≤ 9223372036854775807 := by omega) : Go1 P C ops dst (.binOp .add t x y t') ty rest st acc K :=
  Go1.add hd (evz hx hx0) (evz hy hy0) (by rw [← Int.natCast_add]; exact wrapN64 hb) next
theorem G.addNu {a b : Nat} (next : Reg P C ops rest (st.app dst ⟨.v (.int .u64 ((a + b : Nat) : Int)), []⟩) (([], []) :: acc) K) (hd : dstOK dst C.nt = true := by rfl) (hx : st.ev x = some (.v (.int .u64 za)) := by rfl) (hx0 : za = (a : Int) := by first | with_reducible rfl | exact SX.litN _ | rfl) (hy : st.ev y = some (.v (.int .u64 zb)) := by rfl) (hy0 : zb = (b : Int) := by first | with_reducible rfl | exact SX.litN _ | rfl) (hb : a + b ≤ 18446744073709551615 := by omega) : Go1 P C ops dst (.binOp .add t x y t') ty rest st acc K :=
  Go1.add hd (evz hx hx0) (evz hy hy0) (by rw [← Int.natCast_add]; exact wrapNu hb) next
theorem G.subN {a b : Nat} (next : Reg P C ops rest (st.app dst ⟨.v (.int .i64 ((a - b : Nat) : Int)), []⟩) (([], []) :: acc) K) (hd : dstOK dst C.nt = true := by rfl) (hx : st.ev x = some (.v (.int .i64 za)) := by rfl) (hx0 : za = (a : Int) := by first | with_reducible rfl | exact SX.litN _ | rfl) (hy : st.ev y = some (.v (.int .i64 zb)) := by rfl) (hy0 : zb = (b : Int) := by first | with_reducible rfl | exact SX.litN _ | rfl) (h1 : b ≤ a := by omega) (hb : a ≤ 9223372036854775807 := by omega) : Go1 P C ops dst (.binOp .sub t x y t') ty rest st acc K :=
  Go1.sub hd (evz hx hx0) (evz hy hy0) (by rw [← Int.ofNat_sub h1]; exact wrapN64 (by omega)) next
theorem G.subNu {a b : Nat} (next : Reg P C ops rest (st.app dst ⟨.v (.int .u64 ((a - b : Nat) : Int)), []⟩) (([], []) :: acc) K) (hd : dstOK dst C.nt = true := by rfl) (hx : st.ev x = some (.v (.int .u64 za)) := by rfl) (hx0 : za = (a : Int) := by first | with_reducible rfl | exact SX.litN _ | rfl) (hy : st.ev y = some (.v (.int .u64 zb)) := by rfl) (hy0 : zb = (b : Int) := by first | with_reducible rfl | exact SX.litN _ | rfl) (h1 : b ≤ a := by omega) (hb : a ≤ 18446744073709551615 := by omega) : Go1 P C ops dst (.binOp .sub t x y t') ty rest st acc K :=
  Go1.sub hd (evz hx hx0) (evz hy hy0) (by rw [← Int.ofNat_sub h1]; exact wrapNu (by omega)) next
theorem G.mulN {a b : Nat} (next : Reg P C ops rest (st.app dst ⟨.v (.int .i64 ((a * b : Nat) : Int)), []⟩) (([], []) :: acc) K) (hd : dstOK dst C.nt = true := by rfl) (hx : st.ev x = some (.v (.int .i64 za)) := by rfl) (hx0 : za = (a : Int) := by first | with_reducible rfl | exact SX.litN _ | rfl) (hy : st.ev y = some (.v (.int .i64 zb)) := by rfl) (hy0 : zb = (b : Int) := by first | with_reducible rfl | exact SX.litN _ | rfl) (hb : a * b ≤ 9223372036854775807 := by first | omega | assumption) : Go1 P C ops dst (.binOp .mul t x y t') ty rest st acc K :=
  Go1.mul hd (evz hx hx0) (evz hy hy0) (by rw [← Int.natCast_mul]; exact wrapN64 hb) next
theorem G.mulNu {a b : Nat} (next : Reg P C ops rest (st.app dst ⟨.v (.int .u64 ((a * b : Nat) : Int)), []⟩) (([], []) :: acc) K) (hd : dstOK dst C.nt = true := by rfl) (hx : st.ev x = some (.v (.int .u64 za)) := by rfl) (hx0 : za = (a : Int) := by first | with_reducible rfl | exact SX.litN _ | rfl) (hy : st.ev y = some (.v (.int .u64 zb)) := by rfl) (hy0 : zb = (b : Int) := by first | with_reducible rfl | exact SX.litN _ | rfl) (hb : a * b ≤ 18446744073709551615 := by first | omega | assumption) : Go1 P C ops dst (.binOp .mul t x y t') ty rest st acc K :=
  Go1.mul hd (evz hx hx0) (evz hy hy0) (by rw [← Int.natCast_mul]; exact wrapNu hb) next
theorem G.quoN {a b : Nat} (next : Reg P C ops rest (st.app dst ⟨.v (.int .i64 ((a / b : Nat) : Int)), []⟩) (([], []) :: acc) K) (hd : dstOK dst C.nt = true := by rfl) (hx : st.ev x = some (.v (.int .i64 za)) := by rfl) (hx0 : za = (a : Int) := by first | with_reducible rfl | exact SX.litN _ | rfl) (hy : st.ev y = some (.v (.int .i64 zb)) := by rfl) (hy0 : zb = (b : Int) := by first | with_reducible rfl | exact SX.litN _ | rfl) (h1 : 0 < b := by omega) (hb : a ≤ 9223372036854775807 := by omega) : Go1 P C ops dst (.binOp .quo t x y t') ty rest st acc K :=
  Go1.quo hd (evz hx hx0) (evz hy hy0) (by omega) (by show _ = _; exact wrapN64 (Nat.le_trans (Nat.div_le_self ..) hb)) next
theorem G.quoNu {a b : Nat} (next : Reg P C ops rest (st.app dst ⟨.v (.int .u64 ((a / b : Nat) : Int)), []⟩) (([], []) :: acc) K) (hd : dstOK dst C.nt = true := by rfl) (hx : st.ev x = some (.v (.int .u64 za)) := by rfl) (hx0 : za = (a : Int) := by first | with_reducible rfl | exact SX.litN _ | rfl) (hy : st.ev y = some (.v (.int .u64 zb)) := by rfl) (hy0 : zb = (b : Int) := by first | with_reducible rfl | exact SX.litN _ | rfl) (h1 : 0 < b := by omega) (hb : a ≤ 18446744073709551615 := by omega) : Go1 P C ops dst (.binOp .quo t x y t') ty rest st acc K :=
  Go1.quo hd (evz hx hx0) (evz hy hy0) (by omega) (by show _ = _; exact wrapNu (Nat.le_trans (Nat.div_le_self ..) hb)) next
theorem G.remN {a b : Nat} (next : Reg P C ops rest (st.app dst ⟨.v (.int .i64 ((a % b : Nat) : Int)), []⟩) (([], []) :: acc) K) (hd : dstOK dst C.nt = true := by rfl) (hx : st.ev x = some (.v (.int .i64 za)) := by rfl) (hx0 : za = (a : Int) := by first | with_reducible rfl | exact SX.litN _ | rfl) (hy : st.ev y = some (.v (.int .i64 zb)) := by rfl) (hy0 : zb = (b : Int) := by first | with_reducible rfl | exact SX.litN _ | rfl) (h1 : 0 < b := by omega) : Go1 P C ops dst (.binOp .rem t x y t') ty rest st acc K :=
  Go1.rem hd (evz hx hx0) (evz hy hy0) (by omega) (show ((a : Int)).tmod (b : Int) = ((a % b : Nat) : Int) from rfl) next
theorem G.remNu {a b : Nat} (next : Reg P C ops rest (st.app dst ⟨.v (.int .u64 ((a % b : Nat) : Int)), []⟩) (([], []) :: acc) K) (hd : dstOK dst C.nt = true := by rfl) (hx : st.ev x = some (.v (.int .u64 za)) := by rfl) (hx0 : za = (a : Int) := by first | with_reducible rfl | exact SX.litN _ | rfl) (hy : st.ev y = some (.v (.int .u64 zb)) := by rfl) (hy0 : zb = (b : Int) := by first | with_reducible rfl | exact SX.litN _ | rfl) (h1 : 0 < b := by omega) : Go1 P C ops dst (.binOp .rem t x y t') ty rest st acc K :=
  Go1.rem hd (evz hx hx0) (evz hy hy0) (by omega) (show ((a : Int)).tmod (b : Int) = ((a % b : Nat) : Int) from rfl) next
theorem R.runT {j u : Nat} {b' : Bool} (h : Go1 P C ops dst op ty rest st acc K) (ht : (ops[j]?).bind (·.dst) = some u := by rfl) (hv : st.tm u = some (.v (.bool b')) := by rfl) (hb : b' = true := by first | rfl | (with_reducible assumption) | assumption | exact decide_eq_true (by omega) | exact SX.not_t (by first | (with_reducible assumption) | assumption | exact decide_eq_false (by omega))) : Reg P C ops (⟨dst, op, ty, pos, af, some (j, true)⟩ :: rest) st acc K :=
  Reg.goT ht hv hb h
theorem R.runF {j u : Nat} {b' : Bool} (h : Go1 P C ops dst op ty rest st acc K) (ht : (ops[j]?).bind (·.dst) = some u := by rfl) (hv : st.tm u = some (.v (.bool b')) := by rfl) (hb : b' = false := by first | rfl | (with_reducible assumption) | assumption | exact decide_eq_false (by omega) | exact SX.not_f (by first | (with_reducible assumption) | assumption | exact decide_eq_true (by omega))) : Reg P C ops (⟨dst, op, ty, pos, af, some (j, false)⟩ :: rest) st acc K :=
  Reg.goT ht hv hb h
theorem R.skipT {j u : Nat} {b' : Bool} (h : Reg P C ops rest (st.put dst (some (.v undef))) (([], []) :: acc) K) (ht : (ops[j]?).bind (·.dst) = some u := by rfl) (hv : st.tm u = some (.v (.bool b')) := by rfl) (hb : b' = false := by first | rfl | (with_reducible assumption) | assumption | exact decide_eq_false (by omega) | exact SX.not_f (by first | (with_reducible assumption) | assumption | exact decide_eq_true (by omega))) : Reg P C ops (⟨dst, op, ty, pos, af, some (j, true)⟩ :: rest) st acc K :=
  Reg.goF ht hv hb h
theorem R.skipF {j u : Nat} {b' : Bool} (h : Reg P C ops rest (st.put dst (some (.v undef))) (([], []) :: acc) K) (ht : (ops[j]?).bind (·.dst) = some u := by rfl) (hv : st.tm u = some (.v (.bool b')) := by rfl) (hb : b' = true := by first | rfl | (with_reducible assumption) | assumption | exact decide_eq_true (by omega) | exact SX.not_t (by first | (with_reducible assumption) | assumption | exact decide_eq_false (by omega))) : Reg P C ops (⟨dst, op, ty, pos, af, some (j, false)⟩ :: rest) st acc K :=
  Reg.goF ht hv hb h
theorem R.skipU {j u : Nat} {b : Bool} (h : Reg P C ops rest (st.put dst (some (.v undef))) (([], []) :: acc) K) (ht : (ops[j]?).bind (·.dst) = some u := by rfl) (hv : st.tm u = some (.v undef) := by rfl) : Reg P C ops (⟨dst, op, ty, pos, af, some (j, b)⟩ :: rest) st acc K :=
  Reg.goU ht hv h
theorem W.condT {c : Operand} {a e : Code} {b' : Bool} (h : WP P C a st Q) (hc : st.ev c = some (.v (.bool b')) := by rfl) (hb : b' = true := by first | rfl | (with_reducible assumption) | assumption | exact decide_eq_true (by omega) | exact SX.not_t (by first | (with_reducible assumption) | assumption | exact decide_eq_false (by omega))) : WP P C (.cond c a e) st Q :=
  WP.condHT hc hb h
theorem W.condF {c : Operand} {a e : Code} {b' : Bool} (h : WP P C e st Q) (hc : st.ev c = some (.v (.bool b')) := by rfl) (hb : b' = false := by first | rfl | (with_reducible assumption) | assumption | exact decide_eq_false (by omega) | exact SX.not_f (by first | (with_reducible assumption) | assumption | exact decide_eq_true (by omega))) : WP P C (.cond c a e) st Q :=
  WP.condHF hc hb h
/-- A branch over what can be decided. -/
theorem W.ite {c : Operand} {a e : Code} {p : Prop} [Decidable p] (h1 : p → WP P C a st Q) (h2 : ¬ p → WP P C e st Q) (hc : st.ev c = some (.v (.bool (decide p))) := by rfl) : WP P C (.cond c a e) st Q :=
  WP.cond hc (fun h => h1 (of_decide_eq_true h)) (fun h => h2 (of_decide_eq_false h))
theorem W.iteN {c : Operand} {a e : Code} {p : Prop} [Decidable p] (h1 : ¬ p → WP P C a st Q) (h2 : p → WP P C e st Q) (hc : st.ev c = some (.v (.bool (!decide p))) := by rfl) : WP P C (.cond c a e) st Q :=
  WP.cond hc (fun h => h1 (of_decide_eq_false (by simpa using h))) (fun h => h2 (of_decide_eq_true (by simpa using h)))
theorem W.iteB {c : Operand} {a e : Code} {b : Bool} (h1 : b = true → WP P C a st Q) (h2 : b = false → WP P C e st Q) (hc : st.ev c = some (.v (.bool b)) := by rfl) : WP P C (.cond c a e) st Q :=
  WP.cond hc h1 h2
theorem R.pickT {c : Operand} {b' : Bool} {r : AV} (next : Reg P C ops rest (st.app dst ⟨r, []⟩) (([], []) :: acc) K) (hd : dstOK dst C.nt = true := by rfl) (hc : st.ev c = some (.v (.bool b')) := by rfl) (ht : b' = true := by first | rfl | (with_reducible assumption) | assumption | exact decide_eq_true (by omega) | exact SX.not_t (by first | (with_reducible assumption) | assumption | exact decide_eq_false (by omega))) (hx : st.ev x = some r := by rfl) : Go1 P C ops dst (.pick c x y) ty rest st acc K :=
  Go1.pickHT hd hc ht hx next
theorem R.pickF {c : Operand} {b' : Bool} {r : AV} (next : Reg P C ops rest (st.app dst ⟨r, []⟩) (([], []) :: acc) K) (hd : dstOK dst C.nt = true := by rfl) (hc : st.ev c = some (.v (.bool b')) := by rfl) (ht : b' = false := by first | rfl | (with_reducible assumption) | assumption | exact decide_eq_false (by omega) | exact SX.not_f (by first | (with_reducible assumption) | assumption | exact decide_eq_true (by omega))) (hx : st.ev y = some r := by rfl) : Go1 P C ops dst (.pick c x y) ty rest st acc K :=
  Go1.pickHF hd hc ht hx next

/-- A text of these bytes. -/
abbrev str (l : List UInt8) : Value := .string ⟨⟨l⟩⟩
/-- A text's byte. -/
def byt (l : List UInt8) (i : Nat) : UInt8 := l.getD i 0
theorem str_extract (l : List UInt8) (a b : Nat) : (⟨⟨l⟩⟩ : ByteArray).extract a b = ⟨⟨(l.drop a).take (b - a)⟩⟩ := by
  apply ByteArray.ext
  rw [ByteArray.data_extract]
  apply Array.ext'
  simp [Array.toList_extract, List.extract_eq_take_drop]
theorem G.lenT {l : List UInt8} [ht : TStr P t] (next : Reg P C ops rest (st.app dst ⟨.v (.int .i64 ((l.length : Nat) : Int)), []⟩) (([], []) :: acc) K) (hd : dstOK dst C.nt = true := by rfl) (hx : st.ev x = some (.v (str l)) := by rfl) : Go1 P C ops dst (.call ⟨.builtin .len, #[x], #[t]⟩) ty rest st acc K :=
  Go1.lenS hd hx next
theorem G.sliceHiT {l : List UInt8} {j : Nat} [ht : TStr P t] (next : Reg P C ops rest (st.app dst ⟨.v (str (l.take j)), []⟩) (([], []) :: acc) K) (hd : dstOK dst C.nt = true := by rfl) (hx : st.ev x = some (.v (str l)) := by rfl) (hy : st.ev y = some (.v (.int k zj)) := by rfl) (hy0 : zj = (j : Int) := by first | with_reducible rfl | exact SX.litN _ | rfl) (h1 : j ≤ l.length := by omega) : Go1 P C ops dst (.slice t x none (some y) none) ty rest st acc K :=
  Go1.sliceHiS hd hx (evz hy hy0) (by omega) (by show (j : Int) ≤ ((l.length : Nat) : Int); omega) (by rw [Int.toNat_natCast, str_extract, List.drop_zero, Nat.sub_zero]; exact next)
theorem G.sliceLoT {l : List UInt8} {j : Nat} [ht : TStr P t] (next : Reg P C ops rest (st.app dst ⟨.v (str (l.drop j)), []⟩) (([], []) :: acc) K) (hd : dstOK dst C.nt = true := by rfl) (hx : st.ev x = some (.v (str l)) := by rfl) (hy : st.ev y = some (.v (.int k zj)) := by rfl) (hy0 : zj = (j : Int) := by first | with_reducible rfl | exact SX.litN _ | rfl) (h1 : j ≤ l.length := by omega) : Go1 P C ops dst (.slice t x (some y) none none) ty rest st acc K :=
  Go1.sliceLoS hd hx (evz hy hy0) (by omega) (by show (j : Int) ≤ ((l.length : Nat) : Int); omega) (by rw [Int.toNat_natCast, str_extract]; rw [show (⟨⟨l⟩⟩ : ByteArray).size - j = (l.drop j).length by rw [List.length_drop]; rfl, List.take_length]; exact next)
theorem G.sliceLHT {l : List UInt8} {i j : Nat} [ht : TStr P t] (next : Reg P C ops rest (st.app dst ⟨.v (str ((l.drop i).take (j - i))), []⟩) (([], []) :: acc) K) (hd : dstOK dst C.nt = true := by rfl) (hx : st.ev x = some (.v (str l)) := by rfl) (hy : st.ev y = some (.v (.int k zi)) := by rfl) (hy0 : zi = (i : Int) := by first | with_reducible rfl | exact SX.litN _ | rfl) (hz : st.ev z = some (.v (.int k' zj)) := by rfl) (hz0 : zj = (j : Int) := by first | with_reducible rfl | exact SX.litN _ | rfl) (h1 : i ≤ j := by omega) (h2 : j ≤ l.length := by omega) : Go1 P C ops dst (.slice t x (some y) (some z) none) ty rest st acc K :=
  Go1.sliceLHS hd hx (evz hy hy0) (evz hz hz0) (by omega) (by omega) (by show (j : Int) ≤ ((l.length : Nat) : Int); omega) (by rw [Int.toNat_natCast, Int.toNat_natCast, str_extract]; exact next)
theorem G.indexT {l : List UInt8} {i : Nat} [ht : TStr P t] (next : Reg P C ops rest (st.app dst ⟨.v (.int .u8 ((byt l i).toNat : Int)), []⟩) (([], []) :: acc) K) (hd : dstOK dst C.nt = true := by rfl) (hx : st.ev x = some (.v (str l)) := by rfl) (hy : st.ev y = some (.v (.int k zi)) := by rfl) (hy0 : zi = (i : Int) := by first | with_reducible rfl | exact SX.litN _ | rfl) (hi : i < l.length := by omega) : Go1 P C ops dst (.index t x y) ty rest st acc K :=
  Go1.indexS hd hx (evz hy hy0) (by omega) (b := byt l i) (by
    rw [Int.toNat_natCast]; unfold byt
    show (⟨⟨l⟩⟩ : ByteArray)[i]? = _
    rw [getElem?_pos _ i (by exact hi)]
    simp [List.getD_eq_getElem?_getD, hi]; rfl) next
theorem G.eqlT {l m : List UInt8} (next : Reg P C ops rest (st.app dst ⟨.v (.bool (decide (l = m))), []⟩) (([], []) :: acc) K) (hd : dstOK dst C.nt = true := by rfl) (hx : st.ev x = some (.v (str l)) := by rfl) (hy : st.ev y = some (.v (str m)) := by rfl) : Go1 P C ops dst (.binOp .eql t x y t') ty rest st acc K :=
  Go1.eqlS hd hx hy (by
    have : ((⟨⟨l⟩⟩ : ByteArray).toList == (⟨⟨m⟩⟩ : ByteArray).toList) = decide (l = m) := by
      rw [ByteArray.toList_eq, ByteArray.toList_eq]; rw [Bool.eq_iff_iff]; simp
    rw [this]; exact next)
theorem G.neqT {l m : List UInt8} (next : Reg P C ops rest (st.app dst ⟨.v (.bool (!decide (l = m))), []⟩) (([], []) :: acc) K) (hd : dstOK dst C.nt = true := by rfl) (hx : st.ev x = some (.v (str l)) := by rfl) (hy : st.ev y = some (.v (str m)) := by rfl) : Go1 P C ops dst (.binOp .neq t x y t') ty rest st acc K :=
  Go1.neqS hd hx hy (by
    have : ((⟨⟨l⟩⟩ : ByteArray).toList == (⟨⟨m⟩⟩ : ByteArray).toList) = decide (l = m) := by
      rw [ByteArray.toList_eq, ByteArray.toList_eq]; rw [Bool.eq_iff_iff]; simp
    rw [this]; exact next)

end
end SX

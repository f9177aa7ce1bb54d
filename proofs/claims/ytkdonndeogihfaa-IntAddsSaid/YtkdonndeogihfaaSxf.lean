import Derived.Test.YtkdonndeogihfaaSxe
/- The rules of the symbolic run, operation by operation. No program in sight. -/
set_option linter.unusedVariables false
set_option linter.unusedSimpArgs false
namespace SX
open Go Go.RowKit

def dstOK (d : Option Tmp) (nt : Nat) : Bool := match d with | some d => Nat.blt d nt | none => true
theorem dstOK_spec {d : Option Tmp} {nt : Nat} (h : dstOK d nt = true) : ∀ x, d = some x → x < nt := by
  intro x hx; subst hx; simpa [dstOK, Nat.blt_eq] using h
theorem Eff.same {E : Env} {S : Nat → Prop} {w : World} {r : AV} {v : Value} (hl : ∀ k, S k → k < w.heap.size) (h : r.has E S w v) : Eff E S w [] ⟨r, []⟩ v w E S :=
  { env := fun _ _ => ⟨rfl, rfl⟩, sub := fun _ h => h, new := fun _ h => .inl h, lt := hl, off := Off.refl _ _, res := h, ents := fun _ _ h => (by cases h), blk := fun _ _ _ h => (by cases h), sep := fun _ _ _ _ _ _ h => (by cases h) }
section
variable {P : Program} {C : Ctx} {st : St}
theorem OpOK.pureV {o : Oper} {fp : List Nat} (rd : List (Nat × Ent)) (r : AV) (hfp : ∀ b e, (b, e) ∈ rd → b ∈ fp) (hd : dstOK o.dst C.nt = true) (hrd : ∀ b e, (b, e) ∈ rd → st.hp b = .ent e)
    (h : ∀ st' E S a w, (∀ x ∈ o.op.operands, st'.ev x = st.ev x) → SatE C st' E S a w → (∀ b e, (b, e) ∈ rd → st'.hp b = .ent e) →
      (∀ i ∈ r.ids, (st'.hp i).used = true) ∧ ∃ v, (execOp a.eval o).run P w = .ok (.value v) w ∧ r.has E S w v) : OpOK P C o st fp ⟨r, []⟩ := by
  refine OpOK.eff rd [] (fun b hb => ?_) (dstOK_spec hd) hrd (fun b e hb => by cases hb) (fun b s hb => by cases hb) (fun b s hb => by cases hb) (fun st' E S a w h1 _ h2 h3 _ => ?_)
  · rcases hb with ⟨e, h1⟩ | ⟨e, h1⟩ | ⟨s, h1⟩
    · exact hfp b e h1
    · cases h1
    · cases h1
  · obtain ⟨hid, v, hr, hv⟩ := h st' E S a w h1 h2 h3
    refine ⟨⟨hid, fun b e hb => by cases hb⟩, fun K Q hK => ?_⟩
    unfold Oper.wp
    rw [hr]
    exact hK v w E S (Eff.same h2.lt hv)

/-- One operation, its guard decided. -/
def Go1 (P : Program) (C : Ctx) (ops : List Oper) (dst : Option Tmp) (op : Op) (ty : TypeId) (rest : List Oper) (st : St) (acc : List (List Nat × List Nat)) (K : List (List Nat × List Nat) → St → Prop) : Prop :=
  ∃ fp out, (∀ o : Oper, o.dst = dst → o.op = op → o.type = ty → OpOK P C o st fp out) ∧ Reg P C ops rest (st.app dst out) ((fp, out.hp.map (·.1)) :: acc) K
variable {ops rest : List Oper} {acc : List (List Nat × List Nat)} {K : List (List Nat × List Nat) → St → Prop} {dst : Option Tmp} {op : Op} {ty : TypeId} {pos : String} {af : Array Edge}
theorem Reg.go (h : Go1 P C ops dst op ty rest st acc K) : Reg P C ops (⟨dst, op, ty, pos, af, none⟩ :: rest) st acc K := by
  obtain ⟨fp, out, h1, h2⟩ := h
  exact Reg.run rfl (h1 _ rfl rfl rfl) h2
theorem Reg.goT {j t : Nat} {b b' : Bool} (ht : (ops[j]?).bind (·.dst) = some t) (hv : st.tm t = some (.v (.bool b'))) (hb : b' = b) (h : Go1 P C ops dst op ty rest st acc K) : Reg P C ops (⟨dst, op, ty, pos, af, some (j, b)⟩ :: rest) st acc K := by
  obtain ⟨fp, out, h1, h2⟩ := h
  exact Reg.runG rfl ht hv hb (h1 _ rfl rfl rfl) h2
theorem Reg.goF {j t : Nat} {b b' : Bool} (ht : (ops[j]?).bind (·.dst) = some t) (hv : st.tm t = some (.v (.bool b'))) (hb : b' = !b) (h : Reg P C ops rest (st.put dst (some (.v undef))) (([], []) :: acc) K) : Reg P C ops (⟨dst, op, ty, pos, af, some (j, b)⟩ :: rest) st acc K :=
  Reg.skipG rfl ht hv hb h
theorem Reg.goU {j t : Nat} {b : Bool} (ht : (ops[j]?).bind (·.dst) = some t) (hv : st.tm t = some (.v undef)) (h : Reg P C ops rest (st.put dst (some (.v undef))) (([], []) :: acc) K) : Reg P C ops (⟨dst, op, ty, pos, af, some (j, b)⟩ :: rest) st acc K :=
  Reg.skipU rfl ht hv h

/-- An operation that only reckons. -/
theorem Go1.pureV {r : AV} (rd : List (Nat × Ent)) (fp : List Nat) (hfp : ∀ b e, (b, e) ∈ rd → b ∈ fp) (hd : dstOK dst C.nt = true) (hrd : ∀ b e, (b, e) ∈ rd → st.hp b = .ent e)
    (h : ∀ o : Oper, o.op = op → o.type = ty → ∀ st' E S a w, (∀ x ∈ o.op.operands, st'.ev x = st.ev x) → SatE C st' E S a w → (∀ b e, (b, e) ∈ rd → st'.hp b = .ent e) →
      (∀ i ∈ r.ids, (st'.hp i).used = true) ∧ ∃ v, (execOp a.eval o).run P w = .ok (.value v) w ∧ r.has E S w v)
    (next : Reg P C ops rest (st.app dst ⟨r, []⟩) ((fp, []) :: acc) K) : Go1 P C ops dst op ty rest st acc K :=
  ⟨fp, ⟨r, []⟩, fun o h1 h2 h3 => OpOK.pureV rd r hfp (h1 ▸ hd) hrd (h o h2 h3), next⟩
theorem Go1.move {x : Operand} {r : AV} (hd : dstOK dst C.nt = true) (hx : st.ev x = some r) (next : Reg P C ops rest (st.app dst ⟨r, []⟩) (([], []) :: acc) K) : Go1 P C ops dst (.move x) ty rest st acc K :=
  Go1.pureV [] [] (by simp) hd (by simp) (fun o ho _ st' E S a w hev hs _ => by
    have hx' := hs.ev ((hev x (by simp [ho, Op.operands])).trans hx)
    exact ⟨hx'.2, _, by unfold execOp; rw [ho]; rfl, hx'.1⟩) next
theorem Go1.assign {x : Operand} {r : AV} (hd : dstOK dst C.nt = true) (hx : st.ev x = some r) (next : Reg P C ops rest (st.app dst ⟨r, []⟩) (([], []) :: acc) K) : Go1 P C ops dst (.assign x) ty rest st acc K :=
  Go1.pureV [] [] (by simp) hd (by simp) (fun o ho _ st' E S a w hev hs _ => by
    have hx' := hs.ev ((hev x (by simp [ho, Op.operands])).trans hx)
    exact ⟨hx'.2, _, by unfold execOp; rw [ho]; rfl, hx'.1⟩) next
theorem Go1.pick {x y c : Operand} {b : Bool} {r : AV} (hd : dstOK dst C.nt = true) (hc : st.ev c = some (.v (.bool b))) (hx : st.ev (match b with | true => x | false => y) = some r) (next : Reg P C ops rest (st.app dst ⟨r, []⟩) (([], []) :: acc) K) : Go1 P C ops dst (.pick c x y) ty rest st acc K :=
  Go1.pureV [] [] (by simp) hd (by simp) (fun o ho _ st' E S a w hev hs _ => by
    have hc' : a.eval c = .bool b := (hs.ev ((hev c (by simp [ho, Op.operands])).trans hc)).1
    cases b with
    | true =>
      have hx' := hs.ev ((hev x (by simp [ho, Op.operands])).trans hx)
      exact ⟨hx'.2, _, by unfold execOp; rw [ho]; simp [hc', asBool], hx'.1⟩
    | false =>
      have hx' := hs.ev ((hev y (by simp [ho, Op.operands])).trans hx)
      exact ⟨hx'.2, _, by unfold execOp; rw [ho]; simp [hc', asBool], hx'.1⟩) next
/-- The choice behind '&&' and '||', whichever way the guard went. -/
theorem Go1.pickV {x y c : Operand} {b : Bool} {u v : Value} (hd : dstOK dst C.nt = true) (hc : st.ev c = some (.v (.bool b))) (hx : st.ev x = some (.v u)) (hy : st.ev y = some (.v v)) (next : Reg P C ops rest (st.app dst ⟨.v (cond b u v), []⟩) (([], []) :: acc) K) : Go1 P C ops dst (.pick c x y) ty rest st acc K := by
  cases b
  · exact Go1.pick hd hc hy next
  · exact Go1.pick hd hc hx next
/-- What reckons with values alone. -/
theorem Go1.val1 {x : Operand} {u r : Value} (hd : dstOK dst C.nt = true) (hop : op.operands = #[x]) (hx : st.ev x = some (.v u)) (hrun : ∀ (ρ : Operand → Value) (o : Oper) (w : World), o.op = op → ρ x = u → (execOp ρ o).run P w = .ok (.value r) w)
    (next : Reg P C ops rest (st.app dst ⟨.v r, []⟩) (([], []) :: acc) K) : Go1 P C ops dst op ty rest st acc K :=
  Go1.pureV [] [] (by simp) hd (by simp) (fun o ho _ st' E S a w hev hs _ => by
    have hx' := hs.ev ((hev x (by rw [ho, hop]; simp)).trans hx)
    exact ⟨fun i hi => (by cases hi), r, hrun _ o w ho hx'.1, rfl⟩) next
theorem Go1.val2 {x y : Operand} {u v r : Value} (hd : dstOK dst C.nt = true) (hop : op.operands = #[x, y]) (hx : st.ev x = some (.v u)) (hy : st.ev y = some (.v v)) (hrun : ∀ (ρ : Operand → Value) (o : Oper) (w : World), o.op = op → ρ x = u → ρ y = v → (execOp ρ o).run P w = .ok (.value r) w)
    (next : Reg P C ops rest (st.app dst ⟨.v r, []⟩) (([], []) :: acc) K) : Go1 P C ops dst op ty rest st acc K :=
  Go1.pureV [] [] (by simp) hd (by simp) (fun o ho _ st' E S a w hev hs _ => by
    have hx' := hs.ev ((hev x (by rw [ho, hop]; simp)).trans hx)
    have hy' := hs.ev ((hev y (by rw [ho, hop]; simp)).trans hy)
    exact ⟨fun i hi => (by cases hi), r, hrun _ o w ho hx'.1 hy'.1, rfl⟩) next
variable {x y : Operand} {t t' : TypeId} {k : IntKind} {m n : Int}
theorem Go1.add {z : Int} (hd : dstOK dst C.nt = true) (hx : st.ev x = some (.v (.int k m))) (hy : st.ev y = some (.v (.int k n))) (hw : k.wrap (m + n) = z) (next : Reg P C ops rest (st.app dst ⟨.v (.int k z), []⟩) (([], []) :: acc) K) : Go1 P C ops dst (.binOp .add t x y t') ty rest st acc K :=
  Go1.val2 hd rfl hx hy (fun ρ o w ho h1 h2 => by unfold execOp; rw [ho]; simp [h1, h2, eqGuard, binOp, Op.intArith, hw]) next
theorem Go1.sub {z : Int} (hd : dstOK dst C.nt = true) (hx : st.ev x = some (.v (.int k m))) (hy : st.ev y = some (.v (.int k n))) (hw : k.wrap (m - n) = z) (next : Reg P C ops rest (st.app dst ⟨.v (.int k z), []⟩) (([], []) :: acc) K) : Go1 P C ops dst (.binOp .sub t x y t') ty rest st acc K :=
  Go1.val2 hd rfl hx hy (fun ρ o w ho h1 h2 => by unfold execOp; rw [ho]; simp [h1, h2, eqGuard, binOp, Op.intArith, hw]) next
theorem Go1.mul {z : Int} (hd : dstOK dst C.nt = true) (hx : st.ev x = some (.v (.int k m))) (hy : st.ev y = some (.v (.int k n))) (hw : k.wrap (m * n) = z) (next : Reg P C ops rest (st.app dst ⟨.v (.int k z), []⟩) (([], []) :: acc) K) : Go1 P C ops dst (.binOp .mul t x y t') ty rest st acc K :=
  Go1.val2 hd rfl hx hy (fun ρ o w ho h1 h2 => by unfold execOp; rw [ho]; simp [h1, h2, eqGuard, binOp, Op.intArith, hw]) next
theorem Go1.quo {z : Int} (hd : dstOK dst C.nt = true) (hx : st.ev x = some (.v (.int k m))) (hy : st.ev y = some (.v (.int k n))) (h0 : n ≠ 0) (hw : k.wrap (m.tdiv n) = z) (next : Reg P C ops rest (st.app dst ⟨.v (.int k z), []⟩) (([], []) :: acc) K) : Go1 P C ops dst (.binOp .quo t x y t') ty rest st acc K :=
  Go1.val2 hd rfl hx hy (fun ρ o w ho h1 h2 => by unfold execOp; rw [ho]; simp [h1, h2, eqGuard, binOp, Op.intDiv, hw, h0]) next
theorem Go1.rem {z : Int} (hd : dstOK dst C.nt = true) (hx : st.ev x = some (.v (.int k m))) (hy : st.ev y = some (.v (.int k n))) (h0 : n ≠ 0) (hw : m.tmod n = z) (next : Reg P C ops rest (st.app dst ⟨.v (.int k z), []⟩) (([], []) :: acc) K) : Go1 P C ops dst (.binOp .rem t x y t') ty rest st acc K :=
  Go1.val2 hd rfl hx hy (fun ρ o w ho h1 h2 => by unfold execOp; rw [ho]; simp [h1, h2, eqGuard, binOp, Op.intDiv, hw, h0]) next
theorem Go1.lss (hd : dstOK dst C.nt = true) (hx : st.ev x = some (.v (.int k m))) (hy : st.ev y = some (.v (.int k n))) (next : Reg P C ops rest (st.app dst ⟨.v (.bool (decide (m < n))), []⟩) (([], []) :: acc) K) : Go1 P C ops dst (.binOp .lss t x y t') ty rest st acc K :=
  Go1.val2 hd rfl hx hy (fun ρ o w ho h1 h2 => by unfold execOp; rw [ho]; simp [h1, h2, eqGuard, binOp, Op.intCmp]) next
theorem Go1.leq (hd : dstOK dst C.nt = true) (hx : st.ev x = some (.v (.int k m))) (hy : st.ev y = some (.v (.int k n))) (next : Reg P C ops rest (st.app dst ⟨.v (.bool (decide (m ≤ n))), []⟩) (([], []) :: acc) K) : Go1 P C ops dst (.binOp .leq t x y t') ty rest st acc K :=
  Go1.val2 hd rfl hx hy (fun ρ o w ho h1 h2 => by unfold execOp; rw [ho]; simp [h1, h2, eqGuard, binOp, Op.intCmp]) next
theorem Go1.gtr (hd : dstOK dst C.nt = true) (hx : st.ev x = some (.v (.int k m))) (hy : st.ev y = some (.v (.int k n))) (next : Reg P C ops rest (st.app dst ⟨.v (.bool (decide (n < m))), []⟩) (([], []) :: acc) K) : Go1 P C ops dst (.binOp .gtr t x y t') ty rest st acc K :=
  Go1.val2 hd rfl hx hy (fun ρ o w ho h1 h2 => by unfold execOp; rw [ho]; simp [h1, h2, eqGuard, binOp, Op.intCmp]) next
theorem Go1.geq (hd : dstOK dst C.nt = true) (hx : st.ev x = some (.v (.int k m))) (hy : st.ev y = some (.v (.int k n))) (next : Reg P C ops rest (st.app dst ⟨.v (.bool (decide (n ≤ m))), []⟩) (([], []) :: acc) K) : Go1 P C ops dst (.binOp .geq t x y t') ty rest st acc K :=
  Go1.val2 hd rfl hx hy (fun ρ o w ho h1 h2 => by unfold execOp; rw [ho]; simp [h1, h2, eqGuard, binOp, Op.intCmp]) next
theorem Go1.eql (hd : dstOK dst C.nt = true) (hx : st.ev x = some (.v (.int k m))) (hy : st.ev y = some (.v (.int k n))) (next : Reg P C ops rest (st.app dst ⟨.v (.bool (decide (m = n))), []⟩) (([], []) :: acc) K) : Go1 P C ops dst (.binOp .eql t x y t') ty rest st acc K :=
  Go1.val2 hd rfl hx hy (fun ρ o w ho h1 h2 => by
    unfold execOp; rw [ho]; simp [h1, h2, eqGuard, binOp, Op.intCmp]
    by_cases e : m = n <;> simp [e]) next
theorem Go1.neq (hd : dstOK dst C.nt = true) (hx : st.ev x = some (.v (.int k m))) (hy : st.ev y = some (.v (.int k n))) (next : Reg P C ops rest (st.app dst ⟨.v (.bool (decide (m ≠ n))), []⟩) (([], []) :: acc) K) : Go1 P C ops dst (.binOp .neq t x y t') ty rest st acc K :=
  Go1.val2 hd rfl hx hy (fun ρ o w ho h1 h2 => by
    unfold execOp; rw [ho]; simp [h1, h2, eqGuard, binOp, Op.intCmp]
    by_cases e : m = n <;> simp [e]) next
class TBool (P : Program) (t : TypeId) : Prop where
  h : P.underlying t = some .bool
theorem Go1.eqlB {b c : Bool} [hb : TBool P t] (hd : dstOK dst C.nt = true) (hx : st.ev x = some (.v (.bool b))) (hy : st.ev y = some (.v (.bool c))) (next : Reg P C ops rest (st.app dst ⟨.v (.bool (b == c)), []⟩) (([], []) :: acc) K) : Go1 P C ops dst (.binOp .eql t x y t') ty rest st acc K :=
  Go1.val2 hd rfl hx hy (fun ρ o w ho h1 h2 => by
    unfold execOp; rw [ho]
    have := run_eql_bool (P := P) w t b c hb.h
    simp [h1, h2, eqGuard, this]) next
theorem Go1.neqB {b c : Bool} [hb : TBool P t] (hd : dstOK dst C.nt = true) (hx : st.ev x = some (.v (.bool b))) (hy : st.ev y = some (.v (.bool c))) (next : Reg P C ops rest (st.app dst ⟨.v (.bool (!(b == c))), []⟩) (([], []) :: acc) K) : Go1 P C ops dst (.binOp .neq t x y t') ty rest st acc K :=
  Go1.val2 hd rfl hx hy (fun ρ o w ho h1 h2 => by
    unfold execOp; rw [ho]
    have := run_neq_bool (P := P) w t b c hb.h
    simp [h1, h2, eqGuard, this]) next
theorem Go1.not {b : Bool} (hd : dstOK dst C.nt = true) (hx : st.ev x = some (.v (.bool b))) (next : Reg P C ops rest (st.app dst ⟨.v (.bool (!b)), []⟩) (([], []) :: acc) K) : Go1 P C ops dst (.unOp .not t x) ty rest st acc K :=
  Go1.val1 hd rfl hx (fun ρ o w ho h1 => by unfold execOp; rw [ho]; simp [h1, Op.unary]) next
theorem Go1.neg {z : Int} (hd : dstOK dst C.nt = true) (hx : st.ev x = some (.v (.int k m))) (hw : k.wrap (0 - m) = z) (next : Reg P C ops rest (st.app dst ⟨.v (.int k z), []⟩) (([], []) :: acc) K) : Go1 P C ops dst (.unOp .neg t x) ty rest st acc K :=
  Go1.val1 hd rfl hx (fun ρ o w ho h1 => by unfold execOp; rw [ho]; simp only [h1, Op.unary, Op.intArith, hw]; rfl) next
class TInt (P : Program) (t : TypeId) (k : outParam IntKind) : Prop where
  h : P.underlying t = some (.int k)
theorem Go1.conv {k' : IntKind} {z : Int} [h1 : TInt P t k] [h2 : TInt P t' k'] (hd : dstOK dst C.nt = true) (hx : st.ev x = some (.v (.int k m))) (hw : k'.wrap m = z) (next : Reg P C ops rest (st.app dst ⟨.v (.int k' z), []⟩) (([], []) :: acc) K) : Go1 P C ops dst (.convert t t' x) ty rest st acc K :=
  Go1.val1 hd rfl hx (fun ρ o w ho h => by
    unfold execOp; rw [ho]
    simp [h, convert, run_underlying h1.h, run_underlying h2.h, Conv.intToInt, hw]) next
theorem Go1.extract {l : List AV0} {i : Nat} {r : AV0} (hd : dstOK dst C.nt = true) (hx : st.ev x = some (.tup l)) (hi : l[i]? = some r) (next : Reg P C ops rest (st.app dst ⟨.it r, []⟩) (([], []) :: acc) K) : Go1 P C ops dst (.extract x i) ty rest st acc K :=
  Go1.pureV [] [] (by simp) hd (by simp) (fun o ho _ st' E S a w hev hs _ => by
    obtain ⟨⟨vs, hv, hall⟩, hids⟩ := hs.ev ((hev x (by simp [ho, Op.operands])).trans hx)
    obtain ⟨v, h1, h2⟩ := hall.get hi
    refine ⟨fun j hj => hids j (List.mem_flatMap.2 ⟨r, List.mem_of_getElem? hi, hj⟩), v, ?_, h2⟩
    unfold execOp; rw [ho]; simp [hv, Instr.extract, h1]) next
end
end SX

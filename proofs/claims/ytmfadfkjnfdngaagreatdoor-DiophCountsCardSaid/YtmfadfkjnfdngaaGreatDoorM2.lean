import Derived.Test.YtmfadfkjnfdngaaGreatDoorM1
set_option linter.unusedVariables false
set_option linter.unusedSimpArgs false
namespace SX
open Go Go.RowKit

def dstOK (d : Option Tmp) (nt : Nat) : Bool := match d with | some d => Nat.blt d nt | none => true
theorem dstOK_spec {d : Option Tmp} {nt : Nat} (h : dstOK d nt = true) : ∀ x, d = some x → x < nt := by
  intro x hx; subst hx; simpa [dstOK, Nat.blt_eq] using h
theorem Eff.same {E : Env} {S : Nat → Prop} {w : World} {r : AV} {v : Value} (hl : ∀ k, S k → k < w.heap.size) (h : r.has E S w v) : Eff E S w [] ⟨r, []⟩ v w E S :=
  { env := fun _ _ => ⟨rfl, rfl⟩, fpe := fun _ _ => rfl, sub := fun _ h => h, new := fun _ h => .inl h, lt := hl, off := Off.refl _ _, res := h, ents := fun _ _ h => (by cases h), blk := fun _ _ _ h => (by cases h), sep := fun _ _ _ _ _ _ h => (by cases h) }
section
variable {P : Program} {C : Ctx} {st : St}
theorem OpOK.pureV {o : Oper} {fp : List Nat} (rd : List (Nat × Ent)) (r : AV) (hfp : ∀ b e, (b, e) ∈ rd → b ∈ fp) (hd : dstOK o.dst C.nt = true) (hrd : ∀ b e, (b, e) ∈ rd → st.hp b = .ent e)
    (h : ∀ st' E S a w, (∀ x ∈ o.op.operands, st'.ev x = st.ev x) → SatE C st' E S a w → (∀ b e, (b, e) ∈ rd → st'.hp b = .ent e) →
      (∀ i ∈ r.ids, (st'.hp i).used = true) ∧ ∃ v, (execOp a.eval o).run P w = .ok (.value v) w ∧ r.has E S w v) : OpOK P C o st fp ⟨r, []⟩ := by
  refine OpOK.eff rd [] (fun b hb => ?_) (dstOK_spec hd) hrd (fun b e hb => by cases hb) (fun b s hb => by cases hb) (fun b s hb => by cases hb) (fun st' E S a w h1 _ h2 h3 _ => ?_)
  · rcases hb with ⟨e, h1⟩ | ⟨e, h1⟩ | ⟨s, h1⟩
    · exact hfp b e h1
    · cases h1
    · cases h1
  · obtain ⟨hid, v, hr, hv⟩ := h st' E S a w h1 h2 h3
    refine ⟨⟨hid, fun b e hb => by cases hb⟩, fun K Q hK => ?_⟩
    unfold Oper.wp
    rw [hr]
    exact hK v w E S (Eff.same h2.lt hv)

def Go1 (P : Program) (C : Ctx) (ops : List Oper) (dst : Option Tmp) (op : Op) (ty : TypeId) (rest : List Oper) (st : St) (acc : List (List Nat × List Nat)) (K : List (List Nat × List Nat) → St → Prop) : Prop :=
  ∃ fp out, (∀ o : Oper, o.dst = dst → o.op = op → o.type = ty → OpOK P C o st fp out) ∧ Reg P C ops rest (st.app dst out) ((fp, out.hp.map (·.1)) :: acc) K
variable {ops rest : List Oper} {acc : List (List Nat × List Nat)} {K : List (List Nat × List Nat) → St → Prop} {dst : Option Tmp} {op : Op} {ty : TypeId} {pos : String} {af : Array Edge}
theorem Reg.go (h : Go1 P C ops dst op ty rest st acc K) : Reg P C ops (⟨dst, op, ty, pos, af, none⟩ :: rest) st acc K := by
  obtain ⟨fp, out, h1, h2⟩ := h
  exact Reg.run rfl (h1 _ rfl rfl rfl) h2
theorem Reg.goT {j t : Nat} {b b' : Bool} (ht : (ops[j]?).bind (·.dst) = some t) (hv : st.tm t = some (.v (.bool b'))) (hb : b' = b) (h : Go1 P C ops dst op ty rest st acc K) : Reg P C ops (⟨dst, op, ty, pos, af, some (j, b)⟩ :: rest) st acc K := by
  obtain ⟨fp, out, h1, h2⟩ := h
  exact Reg.runG rfl ht hv hb (h1 _ rfl rfl rfl) h2
theorem Reg.goF {j t : Nat} {b b' : Bool} (ht : (ops[j]?).bind (·.dst) = some t) (hv : st.tm t = some (.v (.bool b'))) (hb : b' = !b) (h : Reg P C ops rest (st.put dst (some (.v undef))) (([], []) :: acc) K) : Reg P C ops (⟨dst, op, ty, pos, af, some (j, b)⟩ :: rest) st acc K :=
  Reg.skipG rfl ht hv hb h
theorem Reg.goU {j t : Nat} {b : Bool} (ht : (ops[j]?).bind (·.dst) = some t) (hv : st.tm t = some (.v undef)) (h : Reg P C ops rest (st.put dst (some (.v undef))) (([], []) :: acc) K) : Reg P C ops (⟨dst, op, ty, pos, af, some (j, b)⟩ :: rest) st acc K :=
  Reg.skipU rfl ht hv h

theorem Go1.pureV {r : AV} (rd : List (Nat × Ent)) (fp : List Nat) (hfp : ∀ b e, (b, e) ∈ rd → b ∈ fp) (hd : dstOK dst C.nt = true) (hrd : ∀ b e, (b, e) ∈ rd → st.hp b = .ent e)
    (h : ∀ o : Oper, o.op = op → o.type = ty → ∀ st' E S a w, (∀ x ∈ o.op.operands, st'.ev x = st.ev x) → SatE C st' E S a w → (∀ b e, (b, e) ∈ rd → st'.hp b = .ent e) →
      (∀ i ∈ r.ids, (st'.hp i).used = true) ∧ ∃ v, (execOp a.eval o).run P w = .ok (.value v) w ∧ r.has E S w v)
    (next : Reg P C ops rest (st.app dst ⟨r, []⟩) ((fp, []) :: acc) K) : Go1 P C ops dst op ty rest st acc K :=
  ⟨fp, ⟨r, []⟩, fun o h1 h2 h3 => OpOK.pureV rd r hfp (h1 ▸ hd) hrd (h o h2 h3), next⟩
theorem Go1.move {x : Operand} {r : AV} (hd : dstOK dst C.nt = true) (hx : st.ev x = some r) (next : Reg P C ops rest (st.app dst ⟨r, []⟩) (([], []) :: acc) K) : Go1 P C ops dst (.move x) ty rest st acc K :=
  Go1.pureV [] [] (by simp) hd (by simp) (fun o ho _ st' E S a w hev hs _ => by
    have hx' := hs.ev ((hev x (by simp [ho, Op.operands])).trans hx)
    exact ⟨hx'.2, _, by unfold execOp; rw [ho]; rfl, hx'.1⟩) next
theorem Go1.assign {x : Operand} {r : AV} (hd : dstOK dst C.nt = true) (hx : st.ev x = some r) (next : Reg P C ops rest (st.app dst ⟨r, []⟩) (([], []) :: acc) K) : Go1 P C ops dst (.assign x) ty rest st acc K :=
  Go1.pureV [] [] (by simp) hd (by simp) (fun o ho _ st' E S a w hev hs _ => by
    have hx' := hs.ev ((hev x (by simp [ho, Op.operands])).trans hx)
    exact ⟨hx'.2, _, by unfold execOp; rw [ho]; rfl, hx'.1⟩) next
theorem Go1.pick {x y c : Operand} {b : Bool} {r : AV} (hd : dstOK dst C.nt = true) (hc : st.ev c = some (.v (.bool b))) (hx : st.ev (match b with | true => x | false => y) = some r) (next : Reg P C ops rest (st.app dst ⟨r, []⟩) (([], []) :: acc) K) : Go1 P C ops dst (.pick c x y) ty rest st acc K :=
  Go1.pureV [] [] (by simp) hd (by simp) (fun o ho _ st' E S a w hev hs _ => by
    have hc' : a.eval c = .bool b := (hs.ev ((hev c (by simp [ho, Op.operands])).trans hc)).1
    cases b with
    | true =>
      have hx' := hs.ev ((hev x (by simp [ho, Op.operands])).trans hx)
      exact ⟨hx'.2, _, by unfold execOp; rw [ho]; simp [hc', asBool], hx'.1⟩
    | false =>
      have hx' := hs.ev ((hev y (by simp [ho, Op.operands])).trans hx)
      exact ⟨hx'.2, _, by unfold execOp; rw [ho]; simp [hc', asBool], hx'.1⟩) next
theorem Go1.val1 {x : Operand} {u r : Value} (hd : dstOK dst C.nt = true) (hop : op.operands = #[x]) (hx : st.ev x = some (.v u)) (hrun : ∀ (ρ : Operand → Value) (o : Oper) (w : World), o.op = op → ρ x = u → (execOp ρ o).run P w = .ok (.value r) w)
    (next : Reg P C ops rest (st.app dst ⟨.v r, []⟩) (([], []) :: acc) K) : Go1 P C ops dst op ty rest st acc K :=
  Go1.pureV [] [] (by simp) hd (by simp) (fun o ho _ st' E S a w hev hs _ => by
    have hx' := hs.ev ((hev x (by rw [ho, hop]; simp)).trans hx)
    exact ⟨fun i hi => (by cases hi), r, hrun _ o w ho hx'.1, rfl⟩) next
theorem Go1.val2 {x y : Operand} {u v r : Value} (hd : dstOK dst C.nt = true) (hop : op.operands = #[x, y]) (hx : st.ev x = some (.v u)) (hy : st.ev y = some (.v v)) (hrun : ∀ (ρ : Operand → Value) (o : Oper) (w : World), o.op = op → ρ x = u → ρ y = v → (execOp ρ o).run P w = .ok (.value r) w)
    (next : Reg P C ops rest (st.app dst ⟨.v r, []⟩) (([], []) :: acc) K) : Go1 P C ops dst op ty rest st acc K :=
  Go1.pureV [] [] (by simp) hd (by simp) (fun o ho _ st' E S a w hev hs _ => by
    have hx' := hs.ev ((hev x (by rw [ho, hop]; simp)).trans hx)
    have hy' := hs.ev ((hev y (by rw [ho, hop]; simp)).trans hy)
    exact ⟨fun i hi => (by cases hi), r, hrun _ o w ho hx'.1 hy'.1, rfl⟩) next
variable {x y : Operand} {t t' : TypeId} {k : IntKind} {m n : Int}
theorem Go1.add {z : Int} (hd : dstOK dst C.nt = true) (hx : st.ev x = some (.v (.int k m))) (hy : st.ev y = some (.v (.int k n))) (hw : k.wrap (m + n) = z) (next : Reg P C ops rest (st.app dst ⟨.v (.int k z), []⟩) (([], []) :: acc) K) : Go1 P C ops dst (.binOp .add t x y t') ty rest st acc K :=
  Go1.val2 hd rfl hx hy (fun ρ o w ho h1 h2 => by unfold execOp; rw [ho]; simp [h1, h2, eqGuard, binOp, Op.intArith, hw]) next
theorem Go1.sub {z : Int} (hd : dstOK dst C.nt = true) (hx : st.ev x = some (.v (.int k m))) (hy : st.ev y = some (.v (.int k n))) (hw : k.wrap (m - n) = z) (next : Reg P C ops rest (st.app dst ⟨.v (.int k z), []⟩) (([], []) :: acc) K) : Go1 P C ops dst (.binOp .sub t x y t') ty rest st acc K :=
  Go1.val2 hd rfl hx hy (fun ρ o w ho h1 h2 => by unfold execOp; rw [ho]; simp [h1, h2, eqGuard, binOp, Op.intArith, hw]) next
theorem Go1.mul {z : Int} (hd : dstOK dst C.nt = true) (hx : st.ev x = some (.v (.int k m))) (hy : st.ev y = some (.v (.int k n))) (hw : k.wrap (m * n) = z) (next : Reg P C ops rest (st.app dst ⟨.v (.int k z), []⟩) (([], []) :: acc) K) : Go1 P C ops dst (.binOp .mul t x y t') ty rest st acc K :=
  Go1.val2 hd rfl hx hy (fun ρ o w ho h1 h2 => by unfold execOp; rw [ho]; simp [h1, h2, eqGuard, binOp, Op.intArith, hw]) next
theorem Go1.quo {z : Int} (hd : dstOK dst C.nt = true) (hx : st.ev x = some (.v (.int k m))) (hy : st.ev y = some (.v (.int k n))) (h0 : n ≠ 0) (hw : k.wrap (m.tdiv n) = z) (next : Reg P C ops rest (st.app dst ⟨.v (.int k z), []⟩) (([], []) :: acc) K) : Go1 P C ops dst (.binOp .quo t x y t') ty rest st acc K :=
  Go1.val2 hd rfl hx hy (fun ρ o w ho h1 h2 => by unfold execOp; rw [ho]; simp [h1, h2, eqGuard, binOp, Op.intDiv, hw, h0]) next
theorem Go1.rem {z : Int} (hd : dstOK dst C.nt = true) (hx : st.ev x = some (.v (.int k m))) (hy : st.ev y = some (.v (.int k n))) (h0 : n ≠ 0) (hw : m.tmod n = z) (next : Reg P C ops rest (st.app dst ⟨.v (.int k z), []⟩) (([], []) :: acc) K) : Go1 P C ops dst (.binOp .rem t x y t') ty rest st acc K :=
  Go1.val2 hd rfl hx hy (fun ρ o w ho h1 h2 => by unfold execOp; rw [ho]; simp [h1, h2, eqGuard, binOp, Op.intDiv, hw, h0]) next
theorem Go1.lss (hd : dstOK dst C.nt = true) (hx : st.ev x = some (.v (.int k m))) (hy : st.ev y = some (.v (.int k n))) (next : Reg P C ops rest (st.app dst ⟨.v (.bool (decide (m < n))), []⟩) (([], []) :: acc) K) : Go1 P C ops dst (.binOp .lss t x y t') ty rest st acc K :=
  Go1.val2 hd rfl hx hy (fun ρ o w ho h1 h2 => by unfold execOp; rw [ho]; simp [h1, h2, eqGuard, binOp, Op.intCmp]) next
theorem Go1.leq (hd : dstOK dst C.nt = true) (hx : st.ev x = some (.v (.int k m))) (hy : st.ev y = some (.v (.int k n))) (next : Reg P C ops rest (st.app dst ⟨.v (.bool (decide (m ≤ n))), []⟩) (([], []) :: acc) K) : Go1 P C ops dst (.binOp .leq t x y t') ty rest st acc K :=
  Go1.val2 hd rfl hx hy (fun ρ o w ho h1 h2 => by unfold execOp; rw [ho]; simp [h1, h2, eqGuard, binOp, Op.intCmp]) next
theorem Go1.gtr (hd : dstOK dst C.nt = true) (hx : st.ev x = some (.v (.int k m))) (hy : st.ev y = some (.v (.int k n))) (next : Reg P C ops rest (st.app dst ⟨.v (.bool (decide (n < m))), []⟩) (([], []) :: acc) K) : Go1 P C ops dst (.binOp .gtr t x y t') ty rest st acc K :=
  Go1.val2 hd rfl hx hy (fun ρ o w ho h1 h2 => by unfold execOp; rw [ho]; simp [h1, h2, eqGuard, binOp, Op.intCmp]) next
theorem Go1.geq (hd : dstOK dst C.nt = true) (hx : st.ev x = some (.v (.int k m))) (hy : st.ev y = some (.v (.int k n))) (next : Reg P C ops rest (st.app dst ⟨.v (.bool (decide (n ≤ m))), []⟩) (([], []) :: acc) K) : Go1 P C ops dst (.binOp .geq t x y t') ty rest st acc K :=
  Go1.val2 hd rfl hx hy (fun ρ o w ho h1 h2 => by unfold execOp; rw [ho]; simp [h1, h2, eqGuard, binOp, Op.intCmp]) next
theorem Go1.eql (hd : dstOK dst C.nt = true) (hx : st.ev x = some (.v (.int k m))) (hy : st.ev y = some (.v (.int k n))) (next : Reg P C ops rest (st.app dst ⟨.v (.bool (decide (m = n))), []⟩) (([], []) :: acc) K) : Go1 P C ops dst (.binOp .eql t x y t') ty rest st acc K :=
  Go1.val2 hd rfl hx hy (fun ρ o w ho h1 h2 => by
    unfold execOp; rw [ho]; simp [h1, h2, eqGuard, binOp, Op.intCmp]
    by_cases e : m = n <;> simp [e]) next
theorem Go1.neq (hd : dstOK dst C.nt = true) (hx : st.ev x = some (.v (.int k m))) (hy : st.ev y = some (.v (.int k n))) (next : Reg P C ops rest (st.app dst ⟨.v (.bool (decide (m ≠ n))), []⟩) (([], []) :: acc) K) : Go1 P C ops dst (.binOp .neq t x y t') ty rest st acc K :=
  Go1.val2 hd rfl hx hy (fun ρ o w ho h1 h2 => by
    unfold execOp; rw [ho]; simp [h1, h2, eqGuard, binOp, Op.intCmp]
    by_cases e : m = n <;> simp [e]) next
class TBool (P : Program) (t : TypeId) : Prop where
  h : P.underlying t = some .bool
theorem Go1.eqlB {b c : Bool} [hb : TBool P t] (hd : dstOK dst C.nt = true) (hx : st.ev x = some (.v (.bool b))) (hy : st.ev y = some (.v (.bool c))) (next : Reg P C ops rest (st.app dst ⟨.v (.bool (b == c)), []⟩) (([], []) :: acc) K) : Go1 P C ops dst (.binOp .eql t x y t') ty rest st acc K :=
  Go1.val2 hd rfl hx hy (fun ρ o w ho h1 h2 => by
    unfold execOp; rw [ho]
    have := run_eql_bool (P := P) w t b c hb.h
    simp [h1, h2, eqGuard, this]) next
theorem Go1.neqB {b c : Bool} [hb : TBool P t] (hd : dstOK dst C.nt = true) (hx : st.ev x = some (.v (.bool b))) (hy : st.ev y = some (.v (.bool c))) (next : Reg P C ops rest (st.app dst ⟨.v (.bool (!(b == c))), []⟩) (([], []) :: acc) K) : Go1 P C ops dst (.binOp .neq t x y t') ty rest st acc K :=
  Go1.val2 hd rfl hx hy (fun ρ o w ho h1 h2 => by
    unfold execOp; rw [ho]
    have := run_neq_bool (P := P) w t b c hb.h
    simp [h1, h2, eqGuard, this]) next
theorem Go1.not {b : Bool} (hd : dstOK dst C.nt = true) (hx : st.ev x = some (.v (.bool b))) (next : Reg P C ops rest (st.app dst ⟨.v (.bool (!b)), []⟩) (([], []) :: acc) K) : Go1 P C ops dst (.unOp .not t x) ty rest st acc K :=
  Go1.val1 hd rfl hx (fun ρ o w ho h1 => by unfold execOp; rw [ho]; simp [h1, Op.unary]) next
theorem Go1.neg {z : Int} (hd : dstOK dst C.nt = true) (hx : st.ev x = some (.v (.int k m))) (hw : k.wrap (0 - m) = z) (next : Reg P C ops rest (st.app dst ⟨.v (.int k z), []⟩) (([], []) :: acc) K) : Go1 P C ops dst (.unOp .neg t x) ty rest st acc K :=
  Go1.val1 hd rfl hx (fun ρ o w ho h1 => by unfold execOp; rw [ho]; simp only [h1, Op.unary, Op.intArith, hw]; rfl) next
class TInt (P : Program) (t : TypeId) (k : outParam IntKind) : Prop where
  h : P.underlying t = some (.int k)
theorem Go1.conv {k' : IntKind} {z : Int} [h1 : TInt P t k] [h2 : TInt P t' k'] (hd : dstOK dst C.nt = true) (hx : st.ev x = some (.v (.int k m))) (hw : k'.wrap m = z) (next : Reg P C ops rest (st.app dst ⟨.v (.int k' z), []⟩) (([], []) :: acc) K) : Go1 P C ops dst (.convert t t' x) ty rest st acc K :=
  Go1.val1 hd rfl hx (fun ρ o w ho h => by
    unfold execOp; rw [ho]
    simp [h, convert, run_underlying h1.h, run_underlying h2.h, Conv.intToInt, hw]) next
theorem Go1.extract {l : List AV0} {i : Nat} {r : AV0} (hd : dstOK dst C.nt = true) (hx : st.ev x = some (.tup l)) (hi : l[i]? = some r) (next : Reg P C ops rest (st.app dst ⟨.it r, []⟩) (([], []) :: acc) K) : Go1 P C ops dst (.extract x i) ty rest st acc K :=
  Go1.pureV [] [] (by simp) hd (by simp) (fun o ho _ st' E S a w hev hs _ => by
    obtain ⟨⟨vs, hv, hall⟩, hids⟩ := hs.ev ((hev x (by simp [ho, Op.operands])).trans hx)
    obtain ⟨v, h1, h2⟩ := hall.get hi
    refine ⟨fun j hj => hids j (List.mem_flatMap.2 ⟨r, List.mem_of_getElem? hi, hj⟩), v, ?_, h2⟩
    unfold execOp; rw [ho]; simp [hv, Instr.extract, h1]) next
end
end SX
set_option linter.unusedVariables false
set_option linter.unusedSimpArgs false
namespace SX
open Go Go.RowKit

def aggD : TypeDesc → Bool
  | .struct _ | .array _ _ => true
  | _ => false
class TAgg (P : Program) (t : TypeId) (n : outParam Nat) : Prop where
  h : (P.underlying t).map aggD = some true
  s : (P.info? t).map (·.size) = some n
class TOne (P : Program) (t : TypeId) : Prop where
  h : (P.underlying t).map aggD = some false
  s : (P.info? t).map (·.size) = some 1
class TZero (P : Program) (t : TypeId) (cells : outParam (List Value)) : Prop where
  h : (P.info? t).map (fun i => i.zero.map (·.cells)) = some (some cells.toArray)
def fieldOf : TypeDesc → Nat → Option (Nat × TypeId)
  | .struct fs, i => (fs[i]?).map fun f => (f.offset, f.type)
  | _, _ => none
class TField (P : Program) (t : TypeId) (f : Nat) (off : outParam Nat) : Prop where
  h : ∃ ft, ((P.underlying t).bind (fieldOf · f) = some (off, ft)) ∧ ((P.info? ft).map (fun i => i.size == 0)) = some false
section
variable {P : Program}
theorem run_isAgg {t : TypeId} {b : Bool} (h : (P.underlying t).map aggD = some b) (w : World) : (isAgg t).run P w = .ok b w := by
  obtain ⟨d, hd, hb⟩ := Option.map_eq_some_iff.1 h
  unfold isAgg
  rw [Sem.run_bind, run_underlying hd w]
  cases d <;> simp_all [aggD]
theorem run_sizeOf {t : TypeId} {n : Nat} (h : (P.info? t).map (·.size) = some n) (w : World) : (Go.sizeOf t).run P w = .ok n w := by
  obtain ⟨i, hi, hn⟩ := Option.map_eq_some_iff.1 h
  simp [Go.sizeOf, typeInfo, hi, hn]
theorem run_zeroCells {t : TypeId} {cells : List Value} (h : (P.info? t).map (fun i => i.zero.map (·.cells)) = some (some cells.toArray)) (w : World) : ∃ z, (zeroValue t).run P w = .ok z w ∧ z.cells = cells.toArray := by
  obtain ⟨i, hi, hn⟩ := Option.map_eq_some_iff.1 h
  obtain ⟨z, hz, hc⟩ := Option.map_eq_some_iff.1 hn
  exact ⟨z, by simp [zeroValue, typeInfo, hi, hz], hc⟩
theorem cells_of_block {w : World} {g : Nat} {cs : List Value} {t : TypeId} (hg : w.heap[g]? = some (.cells cs.toArray t (0, 0))) (off : Nat) : ∀ j u, (cs.drop off)[j]? = some u → w.cell? ((⟨g, off, none⟩ : Addr).add j) = some u := by
  intro j u hj
  rw [Addr.add_lit, cell_of_row w g (off + j) cs.toArray t (0, 0) hg]
  rw [List.getElem?_drop] at hj
  simpa using hj
theorem run_load_agg {t T : TypeId} {n g off : Nat} {cs : List Value} (h : TAgg P t n) (w : World) (hg : w.heap[g]? = some (.cells cs.toArray T (0, 0))) (hl : off + n ≤ cs.length) :
    (loadVar t ⟨g, off, none⟩).run P w = .ok (.agg ((cs.drop off).take n).toArray) w := by
  have h1 := run_loadCells_list (P := P) w ⟨g, off, none⟩ ((cs.drop off).take n) (fun j u hj => cells_of_block hg off j u (by
    rw [List.getElem?_take] at hj; split at hj
    · exact hj
    · cases hj))
  rw [show ((cs.drop off).take n).length = n by simp; omega] at h1
  simp [loadVar, run_isAgg h.h, run_sizeOf h.s, h1]
theorem run_load_one {t T : TypeId} {g off : Nat} {cs : List Value} {u : Value} (h : TOne P t) (w : World) (hg : w.heap[g]? = some (.cells cs.toArray T (0, 0))) (hl : cs[off]? = some u) :
    (loadVar t ⟨g, off, none⟩).run P w = .ok u w := by
  have h1 : w.cell? ⟨g, off, none⟩ = some u := by rw [cell_of_row w g off cs.toArray T (0, 0) hg]; simpa using hl
  simp [loadVar, run_isAgg h.h, h1]

def spl {α : Type} : List α → Nat → List α → List α
  | cs, 0, [] => cs
  | _ :: cs, 0, x :: xs => x :: spl cs 0 xs
  | [], 0, _ :: _ => []
  | c :: cs, n + 1, l => c :: spl cs n l
  | [], _ + 1, _ => []
theorem spl_eq {α : Type} : ∀ (cs : List α) (off : Nat) (l : List α), off + l.length ≤ cs.length → spl cs off l = cs.take off ++ l ++ cs.drop (off + l.length)
  | cs, 0, [], _ => by cases cs <;> simp [spl]
  | c :: cs, 0, x :: xs, h => by
    have := spl_eq cs 0 xs (by simp at h ⊢; omega)
    simp at this
    simp [spl, this]
  | [], 0, _ :: _, h => by simp at h
  | c :: cs, n + 1, l, h => by
    have := spl_eq cs n l (by simp at h; omega)
    simp [spl, this, Nat.add_right_comm]
  | [], _ + 1, _, h => by simp at h
theorem All2.spl {α β : Type} {p : α → β → Prop} : ∀ {cs : List α} {vs : List β} (off : Nat) {l : List α} {us : List β}, All2 p cs vs → All2 p l us → All2 p (spl cs off l) (spl vs off us)
  | cs, vs, 0, [], [], h, _ => by cases cs <;> cases vs <;> simpa [SX.spl] using h
  | c :: cs, v :: vs, 0, x :: xs, u :: us, h, k => ⟨k.1, All2.spl 0 h.2 k.2⟩
  | [], [], 0, x :: xs, u :: us, _, _ => by simp [SX.spl, All2]
  | c :: cs, v :: vs, n + 1, l, us, h, k => ⟨h.1, All2.spl n h.2 k⟩
  | [], [], n + 1, l, us, _, _ => by simp [SX.spl, All2]
  | [], _ :: _, _, _, _, h, _ => h.elim
  | _ :: _, [], _, _, _, h, _ => h.elim
  | _, _, 0, [], _ :: _, _, k => k.elim
  | _, _, 0, _ :: _, [], _, k => k.elim
def Atom.oneB : Atom → Bool
  | .c (.val v) => v.oneCell'
  | _ => true
theorem Atom.has.one {a : Atom} {E : Env} {S : Nat → Prop} {w : World} {v : Value} (h : a.has E S w v) (hb : a.oneB = true) : v.oneCell' = true := by
  cases a with
  | c a =>
    cases a with
    | val u => rw [show v = u from h]; exact hb
    | sat r => exact r.one h
  | ptr b off => rw [show v = _ from h]; rfl
  | own b => exact h.2
  | rptr b off => obtain ⟨g, n, cap, _, h⟩ := h; rw [h]; rfl
  | clo f cap => rw [show v = _ from h]; rfl
  | bnd f b => rw [show v = _ from h]; rfl
  | rel b R => exact h.2
theorem run_store {t T : TypeId} {n g off : Nat} {cs us : List Value} {v : Value} (hs : (P.info? t).map (·.size) = some n) (hv : v.cells = us.toArray) (hn : us.length = n) (w : World) (hg : w.heap[g]? = some (.cells cs.toArray T (0, 0))) (hl : off + n ≤ cs.length) (h1 : ∀ u ∈ us, u.oneCell' = true) :
    (storeVar t ⟨g, off, none⟩ v).run P w = .ok () (w.setRow g (spl cs off us).toArray) := by
  have hst := run_storeCells_at P g off T us 0 cs.toArray w hg (by simp; omega) h1
  rw [spl_eq cs off us (by omega)]
  simp only [Nat.add_zero] at hst
  simp [storeVar, run_sizeOf hs, hv, hn, hst]
def AV0.cells : AV0 → List Atom
  | .one a => [a]
  | .agg l => l
theorem AV0.has.cells {x : AV0} {E : Env} {S : Nat → Prop} {w : World} {v : Value} (h : x.has E S w v) (h1 : x.cells.all Atom.oneB = true) : ∃ us, v.cells = us.toArray ∧ All2 (Atom.has E S w) x.cells us ∧ ∀ u ∈ us, u.oneCell' = true := by
  rw [List.all_eq_true] at h1
  have key : ∀ {l : List Atom} {us : List Value}, All2 (Atom.has E S w) l us → (∀ a ∈ l, a.oneB = true) → ∀ u ∈ us, u.oneCell' = true := by
    intro l us hall hb u hu
    obtain ⟨i, hi⟩ := List.mem_iff_getElem?.1 hu
    obtain ⟨a, ha, hau⟩ := hall.get' hi
    exact hau.one (hb a (List.mem_of_getElem? ha))
  cases x with
  | one a =>
    have ho := Atom.has.one h (h1 a (by simp [AV0.cells]))
    refine ⟨[v], ?_, ⟨h, trivial⟩, by simpa using ho⟩
    cases v <;> first | rfl | (simp [Value.oneCell'] at ho; done)
  | agg l =>
    obtain ⟨us, hv, hall⟩ := h
    exact ⟨us, by rw [hv]; rfl, hall, key hall h1⟩
theorem AV0.ids_cells (x : AV0) : x.cells.flatMap Atom.ids = x.ids := by cases x <;> simp [AV0.cells, AV0.ids]

theorem Eff.alloc {E : Env} {S : Nat → Prop} {w : World} {b : Nat} {T : TypeId} {cells : List Atom} {cs : List Value} (hl : ∀ k, S k → k < w.heap.size) (hb : ∀ c ∈ cells, b ∉ c.ids) (hcs : All2 (Atom.has E S w) cells cs) :
    Eff E S w [] ⟨.ptr b 0, [(b, .ent (.box T cells))]⟩ (.pointer (some ⟨w.heap.size, 0, none⟩)) (w.alloc (.cells cs.toArray T)) ⟨upd E.blk b w.heap.size, E.sl, E.fp⟩ (fun k => S k ∨ k = w.heap.size) := by
  have hnew : ∀ i, i ≠ b → E.at' ⟨upd E.blk b w.heap.size, E.sl, E.fp⟩ i := fun i hi => ⟨upd_ne _ _ hi, rfl⟩
  refine
    { env := fun i hi => ?_, fpe := fun _ _ => rfl, sub := fun k hk => .inl hk, new := fun k hk => hk.imp id (fun e => by omega), lt := fun k hk => ?_, off := Off.alloc _ _ _, res := ?_,
      ents := fun i e hi => ?_, blk := fun i e k hi hk => ?_, sep := fun i i' e e' k hne h1 h2 => ?_ }
  · by_cases e : i = b
    · subst e; obtain ⟨e, he⟩ := hi ⟨_, by simp; rfl⟩; cases he
    · exact hnew i e
  · rw [World.size_alloc]
    rcases hk with hk | hk
    · have := hl k hk; omega
    · omega
  · show Value.pointer _ = Value.pointer _
    simp
  · simp at hi
    obtain ⟨rfl, rfl⟩ := hi
    exact ⟨cs, by show (w.alloc _).heap[upd E.blk i w.heap.size i]? = _; rw [upd_same]; exact heap_alloc_new w _, hcs.mono fun a v ha hav => hav.step (fun j hj => hnew j (fun e => hb a ha (e ▸ hj))) (Off.alloc _ _ _) (fun k hk => hk.imp id (fun e => by omega))⟩
  · simp at hi
    obtain ⟨rfl, rfl⟩ := hi
    simp [Ent.at] at hk
    subst hk
    exact ⟨.inr rfl, .inr (Nat.le_refl _)⟩
  · simp at h1 h2
    exact absurd (h1.1.trans h2.1.symm) hne
theorem Eff.store {E : Env} {S : Nat → Prop} {w : World} {b : Nat} {T : TypeId} {cells cells' : List Atom} {cs cs' : List Value} {r : AV} {v : Value} (hl : ∀ k, S k → k < w.heap.size) (hS : S (E.blk b)) (hg : w.heap[E.blk b]? = some (.cells cs.toArray T (0, 0))) (hr : r.has E S w v)
    (hcs : All2 (Atom.has E S w) cells' cs') : Eff E S w [(b, .box T cells)] ⟨r, [(b, .ent (.box T cells'))]⟩ v (w.setRow (E.blk b) cs'.toArray) E S := by
  have ho : Off S w (w.setRow (E.blk b) cs'.toArray) := Off.setRow w _ _ hS
  refine
    { env := fun i hi => ⟨rfl, rfl⟩, fpe := fun _ _ => rfl, sub := fun k hk => hk, new := fun k hk => .inl hk, lt := fun k hk => by rw [size_setRow]; exact hl k hk, off := Off.setRow w _ _ ⟨b, Ent.box T cells, by simp, rfl⟩, res := hr.step (fun _ _ => ⟨rfl, rfl⟩) ho (fun k hk => .inl hk),
      ents := fun i e hi => ?_, blk := fun i e k hi hk => ?_, sep := fun i i' e e' k hne h1 h2 => ?_ }
  · simp at hi
    obtain ⟨rfl, rfl⟩ := hi
    exact ⟨cs', setRow_heap w _ _ _ T _ hg, hcs.mono fun a v ha hav => hav.step (fun _ _ => ⟨rfl, rfl⟩) ho (fun k hk => .inl hk)⟩
  · simp at hi
    obtain ⟨rfl, rfl⟩ := hi
    simp [Ent.at] at hk
    subst hk
    exact ⟨hS, .inl ⟨_, Ent.box T cells, by simp, rfl⟩⟩
  · simp at h1 h2
    exact absurd (h1.1.trans h2.1.symm) hne
end

section
variable {P : Program} {C : Ctx} {st : St}
variable {ops rest : List Oper} {acc : List (List Nat × List Nat)} {K : List (List Nat × List Nat) → St → Prop} {d : Tmp} {op : Op} {ty t : TypeId} {x y : Operand}
theorem OpOK.alloc {o : Oper} {d : Tmp} {cells : List Atom} (hdst : o.dst = some d) (hd : dstOK (some d) C.nt = true) (hf : st.hp d = .free)
    (h : ∀ st' E S a w, (∀ x ∈ o.op.operands, st'.ev x = st.ev x) → SatE C st' E S a w →
      (∀ i ∈ cells.flatMap Atom.ids, (st'.hp i).used = true) ∧ ∃ cs, (execOp a.eval o).run P w = .ok (.value (.pointer (some ⟨w.heap.size, 0, none⟩))) (w.alloc (.cells cs t)) ∧ All2 (Atom.has E S w) cells cs.toList) :
    OpOK P C o st [d] ⟨.ptr d 0, [(d, .ent (.box t cells))]⟩ := by
  refine OpOK.eff [] [] (fun b hb => ?_) (hdst ▸ dstOK_spec hd) (fun b e hb => by cases hb) (fun b e hb => by cases hb) (fun b s hb => ?_) (fun b s hb => ?_) (fun st' E S a w hev hhp hs _ _ => ?_)
  · rcases hb with ⟨e, hb⟩ | ⟨e, hb⟩ | ⟨s, hb⟩
    · cases hb
    · cases hb
    · simp at hb; simp [hb.1]
  · simp at hb; rw [hb.1]; exact .inr hf
  · simp at hb; rw [hb.2]; rfl
  · obtain ⟨hid, cs, hr, hall⟩ := h st' E S a w hev hs
    have hfree : st'.hp d = .free := (hhp d (by simp)).trans hf
    refine ⟨⟨fun i hi => ?_, fun b e hb i hi => ?_⟩, fun K Q hK => ?_⟩
    · simp [AV.ids, AV0.ids, Atom.ids] at hi; subst hi; simp [updL, Slot.used]
    · simp at hb
      obtain ⟨rfl, rfl⟩ := hb
      by_cases e : i = b
      · subst e; simp [updL, Slot.used]
      · simp only [updL]; rw [upd_ne _ _ e]; exact hid i hi
    · have hE := Eff.alloc (E := E) (S := S) (w := w) (b := d) (T := t) (cells := cells) (cs := cs.toList) hs.lt (fun c hc1 hc2 => by
        have := hid d (List.mem_flatMap.2 ⟨c, hc1, hc2⟩)
        rw [hfree] at this; cases this) hall
      unfold Oper.wp
      rw [hr]
      exact hK _ _ _ _ hE
theorem Go1.box {v : AV0} (hd : dstOK (some d) C.nt = true) (hx : st.ev x = some (.it v)) (hf : st.hp d = .free) (h1 : v.cells.all Atom.oneB = true)
    (next : Reg P C ops rest (st.app (some d) ⟨.ptr d 0, [(d, .ent (.box t v.cells))]⟩) (([d], [d]) :: acc) K) : Go1 P C ops (some d) (.box t x) ty rest st acc K :=
  ⟨[d], ⟨.ptr d 0, [(d, .ent (.box t v.cells))]⟩, fun o h2 h3 h4 => OpOK.alloc h2 hd hf (fun st' E S a w hev hs => by
    obtain ⟨hv, hids⟩ := hs.ev ((hev x (by simp [h3, Op.operands])).trans hx)
    obtain ⟨us, hc, hall, hone⟩ := AV0.has.cells hv h1
    refine ⟨fun i hi => hids i (by rw [AV0.ids_cells] at hi; exact hi), us.toArray, ?_, by simpa using hall⟩
    unfold execOp; rw [h3]; simp [Instr.box, newVar, newRow, hc]), next⟩
theorem all2_vals {E : Env} {S : Nat → Prop} {w : World} : ∀ l : List Value, All2 (Atom.has E S w) (l.map fun v => Atom.c (.val v)) l
  | [] => trivial
  | _ :: l => ⟨rfl, all2_vals l⟩
theorem Go1.alloc {cells : List Value} [hz : TZero P t cells] (hd : dstOK (some d) C.nt = true) (hf : st.hp d = .free)
    (next : Reg P C ops rest (st.app (some d) ⟨.ptr d 0, [(d, .ent (.box t (cells.map fun v => Atom.c (.val v))))]⟩) (([d], [d]) :: acc) K) : Go1 P C ops (some d) (.alloc t) ty rest st acc K :=
  ⟨[d], ⟨.ptr d 0, [(d, .ent (.box t (cells.map fun v => Atom.c (.val v))))]⟩, fun o h2 h3 h4 => OpOK.alloc h2 hd hf (fun st' E S a w hev hs => by
    obtain ⟨z, hz1, hz2⟩ := run_zeroCells hz.h w
    refine ⟨fun i hi => ?_, cells.toArray, ?_, by simpa using all2_vals cells⟩
    · obtain ⟨c, hc, hi⟩ := List.mem_flatMap.1 hi
      obtain ⟨v, _, rfl⟩ := List.mem_map.1 hc
      cases hi
    · unfold execOp; rw [h3]; simp [Instr.alloc, newVar, newRow, hz1, hz2]), next⟩
theorem Go1.loadAgg {b off n : Nat} {T : TypeId} {cells l : List Atom} [ht : TAgg P t n] (hd : dstOK (some d) C.nt = true) (hx : st.ev x = some (.ptr b off)) (hb : st.hp b = .ent (.box T cells)) (hl : Nat.ble (off + n) cells.length = true) (hr : (cells.drop off).take n = l)
    (next : Reg P C ops rest (st.app (some d) ⟨.agg l, []⟩) (([b], []) :: acc) K) : Go1 P C ops (some d) (.load t x) ty rest st acc K :=
  Go1.pureV [(b, .box T cells)] [b] (by simp) hd (by simpa using hb) (fun o ho _ st' E S a w hev hs hrd => by
    obtain ⟨hv, _⟩ := hs.ev ((hev x (by simp [ho, Op.operands])).trans hx)
    have hb' := hrd b (.box T cells) (by simp)
    obtain ⟨cs, hg, hall⟩ := hs.hp b _ hb'
    have hlen := hall.length
    rw [Nat.ble_eq] at hl
    have hrun := run_load_agg (P := P) (n := n) (off := off) ht w hg (by omega)
    refine ⟨fun i hi => ?_, .agg ((cs.drop off).take n).toArray, ?_, ?_⟩
    · have : i ∈ (Ent.box T cells).ids := by
        simp only [AV.ids, AV0.ids, List.mem_flatMap] at hi
        obtain ⟨c, hc, hi⟩ := hi
        subst hr
        exact List.mem_flatMap.2 ⟨c, List.mem_of_mem_drop (List.mem_of_mem_take hc), hi⟩
      exact hs.hid b _ hb' i this
    · unfold execOp; rw [ho]; simp [show a.eval x = _ from hv, Instr.loadAt, Instr.sureAddr, hrun]
    · subst hr
      exact ⟨_, rfl, (hall.drop off).take n⟩) next
theorem Go1.load2 {b off : Nat} {T : TypeId} {cells : List Atom} {a1 a2 : Atom} [ht : TAgg P t 2] (hd : dstOK (some d) C.nt = true) (hx : st.ev x = some (.ptr b off)) (hb : st.hp b = .ent (.box T cells)) (hr : (cells.drop off).take 2 = [a1, a2])
    (next : Reg P C ops rest (st.app (some d) ⟨.agg [a1, a2], []⟩) (([b], []) :: acc) K) : Go1 P C ops (some d) (.load t x) ty rest st acc K :=
  Go1.loadAgg hd hx hb (by have := congrArg List.length hr; simp at this; rw [Nat.ble_eq]; omega) hr next
theorem Go1.load3 {b off : Nat} {T : TypeId} {cells : List Atom} {a1 a2 a3 : Atom} [ht : TAgg P t 3] (hd : dstOK (some d) C.nt = true) (hx : st.ev x = some (.ptr b off)) (hb : st.hp b = .ent (.box T cells)) (hr : (cells.drop off).take 3 = [a1, a2, a3])
    (next : Reg P C ops rest (st.app (some d) ⟨.agg [a1, a2, a3], []⟩) (([b], []) :: acc) K) : Go1 P C ops (some d) (.load t x) ty rest st acc K :=
  Go1.loadAgg hd hx hb (by have := congrArg List.length hr; simp at this; rw [Nat.ble_eq]; omega) hr next
theorem Go1.load4 {b off : Nat} {T : TypeId} {cells : List Atom} {a1 a2 a3 a4 : Atom} [ht : TAgg P t 4] (hd : dstOK (some d) C.nt = true) (hx : st.ev x = some (.ptr b off)) (hb : st.hp b = .ent (.box T cells)) (hr : (cells.drop off).take 4 = [a1, a2, a3, a4])
    (next : Reg P C ops rest (st.app (some d) ⟨.agg [a1, a2, a3, a4], []⟩) (([b], []) :: acc) K) : Go1 P C ops (some d) (.load t x) ty rest st acc K :=
  Go1.loadAgg hd hx hb (by have := congrArg List.length hr; simp at this; rw [Nat.ble_eq]; omega) hr next
theorem Go1.load1 {b off : Nat} {T : TypeId} {cells : List Atom} {c : Atom} [ht : TOne P t] (hd : dstOK (some d) C.nt = true) (hx : st.ev x = some (.ptr b off)) (hb : st.hp b = .ent (.box T cells)) (hr : cells[off]? = some c)
    (next : Reg P C ops rest (st.app (some d) ⟨.it (.one c), []⟩) (([b], []) :: acc) K) : Go1 P C ops (some d) (.load t x) ty rest st acc K :=
  Go1.pureV [(b, .box T cells)] [b] (by simp) hd (by simpa using hb) (fun o ho _ st' E S a w hev hs hrd => by
    obtain ⟨hv, _⟩ := hs.ev ((hev x (by simp [ho, Op.operands])).trans hx)
    have hb' := hrd b (.box T cells) (by simp)
    obtain ⟨cs, hg, hall⟩ := hs.hp b _ hb'
    obtain ⟨u, hu, hcu⟩ := hall.get hr
    refine ⟨fun i hi => hs.hid b _ hb' i (List.mem_flatMap.2 ⟨c, List.mem_of_getElem? hr, hi⟩), u, ?_, hcu⟩
    unfold execOp; rw [ho]; simp [show a.eval x = _ from hv, Instr.loadAt, Instr.sureAddr, run_load_one ht w hg hu]) next
theorem Go1.store {b off n : Nat} {T : TypeId} {cells cells' : List Atom} {v : AV0} (hs : (P.info? t).map (·.size) = some n) (hx : st.ev x = some (.ptr b off)) (hy : st.ev y = some (.it v)) (hb : st.hp b = .ent (.box T cells)) (hn : v.cells.length = n) (hl : Nat.ble (off + n) cells.length = true) (h1 : v.cells.all Atom.oneB = true) (hr : spl cells off v.cells = cells')
    (next : Reg P C ops rest (st.app none ⟨.v undef, [(b, .ent (.box T cells'))]⟩) (([b], [b]) :: acc) K) : Go1 P C ops none (.store t x y) ty rest st acc K := by
  refine ⟨[b], ⟨.v undef, [(b, .ent (.box T cells'))]⟩, fun o h2 h3 h4 => OpOK.eff [] [(b, .box T cells)] (fun i hi => ?_) (h2 ▸ (fun x hx => by cases hx)) (fun b e hb => by cases hb) (fun i e hi => ?_) (fun i s hi => ?_) (fun i s hi => ?_) (fun st' E S a w hev hhp hse _ hpre => ?_), next⟩
  · rcases hi with ⟨e, hi⟩ | ⟨e, hi⟩ | ⟨s, hi⟩
    · cases hi
    · simp at hi; simp [hi.1]
    · simp at hi; simp [hi.1]
  · simp at hi
    obtain ⟨rfl, rfl⟩ := hi
    exact ⟨hb, _, by simp; rfl⟩
  · simp at hi; obtain ⟨rfl, _⟩ := hi; exact .inl ⟨Ent.box T cells, by simp⟩
  · simp at hi; rw [hi.2]; rfl
  · obtain ⟨hv, _⟩ := hse.ev ((hev x (by simp [h3, Op.operands])).trans hx)
    obtain ⟨hu, hids⟩ := hse.ev ((hev y (by simp [h3, Op.operands])).trans hy)
    have hb' := hpre b (.box T cells) (by simp)
    obtain ⟨cs, hg, hall⟩ := hse.hp b _ hb'
    obtain ⟨us, hc, hallu, hone⟩ := AV0.has.cells hu h1
    have hlen := hall.length
    have hlu := hallu.length
    rw [Nat.ble_eq] at hl
    have hrun := run_store (P := P) (off := off) (n := n) hs hc (by omega) w hg (by omega) hone
    have hall' := All2.spl off hall hallu
    rw [hr] at hall'
    have hE := Eff.store (E := E) (S := S) (w := w) (b := b) (T := T) (cells := cells) (cells' := cells') (cs := cs) (cs' := spl cs off us) (r := .v undef) (v := undef) hse.lt (hse.blk b _ _ hb' rfl).1 hg rfl hall'
    refine ⟨⟨fun i hi => (by cases hi), fun i e hi j hj => ?_⟩, fun K Q hK => ?_⟩
    · simp at hi
      obtain ⟨rfl, rfl⟩ := hi
      have hj' : j ∈ (cells.flatMap Atom.ids) ∨ j ∈ v.cells.flatMap Atom.ids := by
        subst hr
        obtain ⟨c, hc1, hc2⟩ := List.mem_flatMap.1 hj
        rw [spl_eq _ _ _ (by omega)] at hc1
        simp only [List.mem_append] at hc1
        rcases hc1 with (hc1 | hc1) | hc1
        · exact .inl (List.mem_flatMap.2 ⟨c, List.mem_of_mem_take hc1, hc2⟩)
        · exact .inr (List.mem_flatMap.2 ⟨c, hc1, hc2⟩)
        · exact .inl (List.mem_flatMap.2 ⟨c, List.mem_of_mem_drop hc1, hc2⟩)
      by_cases e : j = i
      · subst e; simp [updL, Slot.used]
      · simp only [updL]; rw [upd_ne _ _ e]
        rcases hj' with h5 | h5
        · exact hse.hid i _ hb' j h5
        · exact hids j (by rw [AV0.ids_cells] at h5; exact h5)
    · unfold Oper.wp execOp
      rw [h3]
      simp only [show a.eval x = _ from hv, Instr.storeAt, Instr.sureAddr, Sem.run_bind, Sem.run_pure, Result.andThen_ok, hrun]
      have := hK undef _ _ _ hE
      exact this
theorem Go1.fieldAddr {b off f o1 : Nat} [ht : TField P t f o1] (hd : dstOK (some d) C.nt = true) (hx : st.ev x = some (.ptr b off))
    (next : Reg P C ops rest (st.app (some d) ⟨.ptr b (off + o1), []⟩) (([], []) :: acc) K) : Go1 P C ops (some d) (.fieldAddr t x f) ty rest st acc K :=
  Go1.pureV [] [] (by simp) hd (by simp) (fun o ho _ st' E S a w hev hs hrd => by
    obtain ⟨hv, hids⟩ := hs.ev ((hev x (by simp [ho, Op.operands])).trans hx)
    obtain ⟨ft, h1, h2⟩ := ht.h
    obtain ⟨dd, hd1, hd2⟩ := Option.bind_eq_some_iff.1 h1
    obtain ⟨i, hi, hz⟩ := Option.map_eq_some_iff.1 h2
    refine ⟨fun i hi => hids i hi, .pointer (some ⟨E.blk b, off + o1, none⟩), ?_, rfl⟩
    cases dd <;> simp [fieldOf] at hd2
    rename_i fs
    obtain ⟨fd, hfd, he1, he2⟩ := hd2
    subst he1 he2
    unfold execOp; rw [ho]
    have hsz : (Go.sizeOf fd.type).run P w = .ok i.size w := by simp [Go.sizeOf, typeInfo, hi]
    simp [show a.eval x = _ from hv, Instr.fieldAt, Instr.sureAddr, run_underlying hd1, hfd, fieldPlace, hsz]
    simp at hz
    simp [hz, Addr.add_lit]) next
end
end SX
set_option linter.unusedVariables false
set_option linter.unusedSimpArgs false
namespace SX
open Go Go.RowKit

def CallOK (P : Program) (f : FuncId) (args : List AV) (pre : List (Nat × Ent)) (out : Out) : Prop :=
  (∃ fn, P.funcs[f]? = some fn ∧ (fn.name == "runtime.NumGoroutine") = false ∧ fn.body.isNone = false) ∧
  ∀ (E : Env) (S : Nat → Prop) (w : World) (vs : List Value), (∀ k, S k → k < w.heap.size) → GlobOK S w → All2 (AV.has E S w) args vs →
    (∀ b e, (b, e) ∈ pre → e.has E S w b) → (∀ b e k, (b, e) ∈ pre → e.at E b k → S k) → (∀ b b' e e' k, b ≠ b' → (b, e) ∈ pre → (b', e') ∈ pre → e.at E b k → ¬ e'.at E b' k) →
    Calls P f vs.toArray w fun e w' => ∃ v E' S', e = .returned v ∧ Eff E S w pre out v w' E' S'
abbrev PureOK (P : Program) (f : FuncId) (args : List AV) (r : AV) : Prop := CallOK P f args [] ⟨r, []⟩
def evs (st : St) : List Operand → Option (List AV)
  | [] => some []
  | x :: xs => match st.ev x, evs st xs with
    | some v, some vs => some (v :: vs)
    | _, _ => none
section
variable {P : Program} {C : Ctx} {st : St}
theorem evs_has {E : Env} {S : Nat → Prop} {a : Act} {w : World} (h : SatE C st E S a w) : ∀ {xs : List Operand} {l : List AV}, evs st xs = some l → All2 (AV.has E S w) l (xs.map a.eval) ∧ ∀ v ∈ l, ∀ b ∈ v.ids, (st.hp b).used = true
  | [], l, hl => by simp [evs] at hl; subst hl; exact ⟨trivial, by simp⟩
  | x :: xs, l, hl => by
    unfold evs at hl
    cases hx : st.ev x with
    | none => simp [hx] at hl
    | some v =>
      cases hxs : evs st xs with
      | none => simp [hx, hxs] at hl
      | some vs =>
        simp [hx, hxs] at hl
        subst hl
        obtain ⟨h1, h2⟩ := h.ev hx
        obtain ⟨h3, h4⟩ := evs_has h hxs
        exact ⟨⟨h1, h3⟩, fun u hu => by
          rcases List.mem_cons.1 hu with rfl | hu
          · exact h2
          · exact h4 u hu⟩
theorem evs_congr {st st' : St} : ∀ {xs : List Operand}, (∀ x ∈ xs, st'.ev x = st.ev x) → evs st' xs = evs st xs
  | [], _ => rfl
  | x :: xs, h => by unfold evs; rw [h x (by simp), evs_congr (fun y hy => h y (by simp [hy]))]
theorem run_enter {o : Oper} {f : FuncId} {as : Array Operand} {tys : Array TypeId} {cap : Array Value} {fx : Operand} {ρ : Operand → Value} (ho : o.op = .call ⟨.value fx, as, tys⟩) (hf : ρ fx = .func (.func f) #[] cap)
    (he : ∃ fn, P.funcs[f]? = some fn ∧ (fn.name == "runtime.NumGoroutine") = false ∧ fn.body.isNone = false) (w : World) : (execOp ρ o).run P w = .ok (.enter f (as.map ρ ++ cap)) w := by
  obtain ⟨fn, h1, h2, h3⟩ := he
  unfold execOp
  rw [ho]
  have h2' : fn.name ≠ "runtime.NumGoroutine" := by simpa using h2
  have h3' : fn.body ≠ none := by intro e; rw [e] at h3; cases h3
  simp [resolve, hf, Deferred.ofValue, invoke, callFunc, h1, h2', h3']
variable {ops rest : List Oper} {acc : List (List Nat × List Nat)} {K : List (List Nat × List Nat) → St → Prop} {dst : Option Tmp} {op : Op} {ty : TypeId}
theorem Go1.callG {fx : Operand} {f : FuncId} {cap : List (Nat × Nat)} {as : Array Operand} {tys : Array TypeId} {args : List AV} {pre : List (Nat × Ent)} {out : Out} {fp : List Nat} (hd : dstOK dst C.nt = true) (hf : st.ev fx = some (.it (.one (.clo f cap)))) (ha : evs st as.toList = some args)
    (hc : CallOK P f (args ++ cap.map fun p => .ptr p.1 p.2) pre out) (hpre : ∀ b e, (b, e) ∈ pre → st.hp b = .ent e ∧ ∃ s, (b, s) ∈ out.hp) (hnew : ∀ b s, (b, s) ∈ out.hp → (∃ e, (b, e) ∈ pre) ∨ st.hp b = .free) (hkeep : ∀ b s, (b, s) ∈ out.hp → s.used = true)
    (hfp : ∀ b s, (b, s) ∈ out.hp → b ∈ fp)
    (hid : ∀ i, (i ∈ out.res.ids ∨ ∃ b e, (b, Slot.ent e) ∈ out.hp ∧ i ∈ e.ids) → (∃ s, (i, s) ∈ out.hp) ∨ (∃ v ∈ args, i ∈ v.ids) ∨ (∃ b e, (b, e) ∈ pre ∧ i ∈ e.ids))
    (next : Reg P C ops rest (st.app dst out) ((fp, out.hp.map (·.1)) :: acc) K) : Go1 P C ops dst (.call ⟨.value fx, as, tys⟩) ty rest st acc K := by
  refine ⟨fp, out, fun o h2 h3 h4 => OpOK.eff [] pre (fun b hb => ?_) (h2 ▸ dstOK_spec hd) (fun b e hb => by cases hb) hpre hnew hkeep (fun st' E S a w hev hhp hs _ hpre' => ?_), next⟩
  · rcases hb with ⟨e, hb⟩ | ⟨e, hb⟩ | ⟨s, hb⟩
    · cases hb
    · obtain ⟨_, s, hs⟩ := hpre b e hb; exact hfp b s hs
    · exact hfp b s hb
  · have hop : o.op.operands = #[fx] ++ as := by rw [h3]; rfl
    have ha' : evs st' as.toList = some args := by rw [evs_congr (fun x hx => hev x (by rw [hop]; simp at hx; simp [hx]))]; exact ha
    obtain ⟨hall, hids⟩ := evs_has hs ha'
    have hcl := hs.ev ((hev fx (by rw [hop]; simp)).trans hf)
    obtain ⟨hent, hcall⟩ := hc
    refine ⟨⟨fun i hi => ?_, fun b e hb i hi => ?_⟩, fun K Q hK => ?_⟩
    · have key : ∀ i, ((∃ s, (i, s) ∈ out.hp) ∨ (∃ v ∈ args, i ∈ v.ids) ∨ (∃ b e, (b, e) ∈ pre ∧ i ∈ e.ids)) → (updL st'.hp out.hp i).used = true := by
        intro i hi
        rcases updL_cases i out.hp st'.hp with ⟨s, g1, g2⟩ | ⟨g1, g2⟩
        · rw [g2]; exact hkeep i s g1
        · rw [g2]
          rcases hi with ⟨s, hi⟩ | ⟨v, hv, hi⟩ | ⟨b, e, hb, hi⟩
          · exact absurd hi (g1 s)
          · exact hids v hv i hi
          · exact hs.hid b e (hpre' b e hb) i hi
      exact key i (hid i (.inl hi))
    · have key : ∀ i, ((∃ s, (i, s) ∈ out.hp) ∨ (∃ v ∈ args, i ∈ v.ids) ∨ (∃ b e, (b, e) ∈ pre ∧ i ∈ e.ids)) → (updL st'.hp out.hp i).used = true := by
        intro i hi
        rcases updL_cases i out.hp st'.hp with ⟨s, g1, g2⟩ | ⟨g1, g2⟩
        · rw [g2]; exact hkeep i s g1
        · rw [g2]
          rcases hi with ⟨s, hi⟩ | ⟨v, hv, hi⟩ | ⟨b, e, hb, hi⟩
          · exact absurd hi (g1 s)
          · exact hids v hv i hi
          · exact hs.hid b e (hpre' b e hb) i hi
      exact key i (hid i (.inr ⟨b, e, hb, hi⟩))
    · have hcap : All2 (AV.has E S w) (cap.map fun p => AV.ptr p.1 p.2) (cap.map fun p => Value.pointer (some ⟨E.blk p.1, p.2, none⟩)) := by
        clear hcl hf hcall
        induction cap with
        | nil => trivial
        | cons p l ih => exact ⟨rfl, ih⟩
      have hcalls := hcall E S w (as.toList.map a.eval ++ cap.map fun p => Value.pointer (some ⟨E.blk p.1, p.2, none⟩)) hs.lt hs.gl (hall.append hcap) (fun b e hb => hs.hp b e (hpre' b e hb)) (fun b e k hb hk => (hs.blk b e k (hpre' b e hb) hk).1)
        (fun b b' e e' k hne hb hb' => hs.sep b b' e e' k hne (hpre' b e hb) (hpre' b' e' hb'))
      unfold Oper.wp
      rw [run_enter h3 hcl.1 hent w]
      have harr : as.map a.eval ++ (cap.map fun p => Value.pointer (some ⟨E.blk p.1, p.2, none⟩)).toArray = (as.toList.map a.eval ++ cap.map fun p => Value.pointer (some ⟨E.blk p.1, p.2, none⟩)).toArray := by
        apply Array.ext'; simp
      show Calls P f _ w _
      rw [harr]
      exact hcalls.mono fun e w' ⟨v, E', S', he, hE⟩ => by subst he; exact hK v w' E' S' hE
theorem Go1.call {f : FuncId} {as : Array Operand} {tys : Array TypeId} {args : List AV} {r : AV} (ha : evs st as.toList = some args) (hc : PureOK P f args r) (hd : dstOK dst C.nt = true) (hid : r.ids = [])
    (next : Reg P C ops rest (st.app dst ⟨r, []⟩) (([], []) :: acc) K) : Go1 P C ops dst (.call ⟨.value (.func f), as, tys⟩) ty rest st acc K :=
  Go1.callG (cap := []) (pre := []) (out := ⟨r, []⟩) (fp := []) hd rfl ha (by simpa using hc) (fun b e hb => by cases hb) (fun b e hb => by cases hb) (fun b e hb => by cases hb) (fun b e hb => by cases hb)
    (fun i hi => by
      rcases hi with hi | ⟨b, e, hb, _⟩
      · rw [hid] at hi; cases hi
      · cases hb) next

def resRun (rv : ResultVar) (tmps : Array Value) : Sem Value :=
  match rv with
  | .tmp t => pure (tmps.getD t undef)
  | .cell a t => do loadVar t (← asAddr (tmps.getD a undef))
def ResOK (P : Program) (st : St) (rv : ResultVar) (x : AV0) : Prop :=
  ∀ C E S a w, SatE C st E S a w → ∃ v, (resRun rv a.tmps).run P w = .ok v w ∧ x.has E S w v
def resAV : List AV0 → AV
  | [x] => .it x
  | xs => .tup xs
theorem ResOK.tmp {t : Tmp} {x : AV0} (h : st.tm t = some (.it x)) : ResOK P st (.tmp t) x := fun C E S a w hs => ⟨_, rfl, hs.tm t _ h⟩
theorem ResOK.agg {t : Tmp} {T T' : TypeId} {n b off : Nat} {cells l : List Atom} [ht : TAgg P T n] (h : st.tm t = some (.ptr b off)) (hb : st.hp b = .ent (.box T' cells)) (hl : Nat.ble (off + n) cells.length = true) (hr : (cells.drop off).take n = l) : ResOK P st (.cell t T) (.agg l) := fun C E S a w hs => by
  have hv : a.tmps.getD t undef = _ := hs.tm t _ h
  obtain ⟨cs, hg, hall⟩ := hs.hp b _ hb
  have hlen := hall.length
  rw [Nat.ble_eq] at hl
  have hrun := run_load_agg (P := P) (n := n) (off := off) ht w hg (by omega)
  refine ⟨.agg ((cs.drop off).take n).toArray, ?_, ?_⟩
  · simp only [resRun, hv, asAddr, pure_bind, hrun]
  · subst hr; exact ⟨_, rfl, (hall.drop off).take n⟩
theorem ResOK.agg2 {t : Tmp} {T T' : TypeId} {b off : Nat} {cells : List Atom} {a1 a2 : Atom} [ht : TAgg P T 2] (h : st.tm t = some (.ptr b off)) (hb : st.hp b = .ent (.box T' cells)) (hr : (cells.drop off).take 2 = [a1, a2]) : ResOK P st (.cell t T) (.agg [a1, a2]) :=
  ResOK.agg h hb (by have := congrArg List.length hr; simp at this; rw [Nat.ble_eq]; omega) hr
theorem ResOK.agg3 {t : Tmp} {T T' : TypeId} {b off : Nat} {cells : List Atom} {a1 a2 a3 : Atom} [ht : TAgg P T 3] (h : st.tm t = some (.ptr b off)) (hb : st.hp b = .ent (.box T' cells)) (hr : (cells.drop off).take 3 = [a1, a2, a3]) : ResOK P st (.cell t T) (.agg [a1, a2, a3]) :=
  ResOK.agg h hb (by have := congrArg List.length hr; simp at this; rw [Nat.ble_eq]; omega) hr
theorem ResOK.agg4 {t : Tmp} {T T' : TypeId} {b off : Nat} {cells : List Atom} {a1 a2 a3 a4 : Atom} [ht : TAgg P T 4] (h : st.tm t = some (.ptr b off)) (hb : st.hp b = .ent (.box T' cells)) (hr : (cells.drop off).take 4 = [a1, a2, a3, a4]) : ResOK P st (.cell t T) (.agg [a1, a2, a3, a4]) :=
  ResOK.agg h hb (by have := congrArg List.length hr; simp at this; rw [Nat.ble_eq]; omega) hr
theorem run_results {fn : Func} {st : St} {xs : List AV0} (h : All2 (ResOK P st) fn.results.toList xs) {C : Ctx} {E : Env} {S : Nat → Prop} {a : Act} {w : World} (hs : SatE C st E S a w) :
    ∃ v, (results fn a.tmps).run P w = .ok v w ∧ (resAV xs).has E S w v := by
  have key : ∀ {rs : List ResultVar} {xs : List AV0}, All2 (ResOK P st) rs xs → ∃ vs : List Value, (rs.mapM fun r => resRun r a.tmps).run P w = .ok vs w ∧ All2 (AV0.has E S w) xs vs := by
    intro rs
    induction rs with
    | nil => intro xs h; cases xs with
      | nil => exact ⟨[], rfl, trivial⟩
      | cons x xs => exact h.elim
    | cons r rs ih =>
      intro xs h
      cases xs with
      | nil => exact h.elim
      | cons x xs =>
        obtain ⟨v, h1, h2⟩ := h.1 C E S a w hs
        obtain ⟨vs, h3, h4⟩ := ih h.2
        exact ⟨v :: vs, by simp [List.mapM_cons, h1, h3], h2, h4⟩
  obtain ⟨vs, h1, h2⟩ := key h
  have hr : (fn.results.mapM fun r => resRun r a.tmps).run P w = .ok vs.toArray w := by
    have : fn.results = fn.results.toList.toArray := by simp
    rw [this, List.mapM_toArray, Sem.run_map, h1]
    rfl
  have hrr : (results fn a.tmps).run P w = .ok (if h : vs.toArray.size = 1 then vs.toArray[0] else .tuple vs.toArray) w := by
    unfold results
    show ((fn.results.mapM fun r => resRun r a.tmps) >>= _).run P w = _
    rw [Sem.run_bind, hr]; rfl
  refine ⟨_, hrr, ?_⟩
  match xs, vs, h2 with
  | [], [], _ => exact ⟨[], rfl, trivial⟩
  | [x], [v], h => exact h.1
  | x :: y :: xs, v :: u :: vs, h => exact ⟨v :: u :: vs, by simp, h⟩

def RetOK (P : Program) (rs : List ResultVar) (out : Out) (st : St) : Prop :=
  ∃ xs, All2 (ResOK P st) rs xs ∧ out.res = resAV xs ∧ ∀ b e, (b, Slot.ent e) ∈ out.hp → st.hp b = .ent e
def retQ (P : Program) (rs : List ResultVar) (out : Out) : Exit → St → Prop
  | .ret, st => RetOK P rs out st
  | .normal, st => RetOK P rs out st
  | _, _ => False
theorem RetOK.mk1 {r : ResultVar} {x : AV0} {st : St} (h : ResOK P st r x) : RetOK P [r] ⟨.it x, []⟩ st := ⟨[x], ⟨h, trivial⟩, rfl, fun b e hb => (by cases hb)⟩
theorem RetOK.mk2 {r1 r2 : ResultVar} {x1 x2 : AV0} {st : St} (h1 : ResOK P st r1 x1) (h2 : ResOK P st r2 x2) : RetOK P [r1, r2] ⟨.tup [x1, x2], []⟩ st := ⟨[x1, x2], ⟨h1, h2, trivial⟩, rfl, fun b e hb => (by cases hb)⟩
theorem RetOK.mk3 {r1 r2 r3 : ResultVar} {x1 x2 x3 : AV0} {st : St} (h1 : ResOK P st r1 x1) (h2 : ResOK P st r2 x2) (h3 : ResOK P st r3 x3) : RetOK P [r1, r2, r3] ⟨.tup [x1, x2, x3], []⟩ st := ⟨[x1, x2, x3], ⟨h1, h2, h3, trivial⟩, rfl, fun b e hb => (by cases hb)⟩
def AV0.imp (x y : AV0) : Prop := ∀ E S w v, x.has E S w v → y.has E S w v
theorem AV0.imp.refl (x : AV0) : x.imp x := fun _ _ _ _ h => h
theorem ResOK.imp {r : ResultVar} {x y : AV0} {st : St} (h : ResOK P st r x) (e : x.imp y) : ResOK P st r y := fun C E S a w hs => let ⟨v, h1, h2⟩ := h C E S a w hs; ⟨v, h1, e E S w v h2⟩
theorem RetOK.eq1 {r : ResultVar} {x y : AV0} {st : St} (h : ResOK P st r x) (e : x = y) : RetOK P [r] ⟨.it y, []⟩ st := e ▸ RetOK.mk1 h
theorem RetOK.eq3 {r1 r2 r3 : ResultVar} {x1 x2 x3 y1 y2 y3 : AV0} {st : St} (h1 : ResOK P st r1 x1) (h2 : ResOK P st r2 x2) (h3 : ResOK P st r3 x3) (e1 : x1 = y1) (e2 : x2 = y2) (e3 : x3 = y3) : RetOK P [r1, r2, r3] ⟨.tup [y1, y2, y3], []⟩ st := e1 ▸ e2 ▸ e3 ▸ RetOK.mk3 h1 h2 h3
theorem thenN {k : St → Prop} {Q : Exit → St → Prop} {st : St} (h : k st) : thenK k Q .normal st := h
def startSt (args : List AV) (pre : List (Nat × Ent)) : St := ⟨fun t => args[t]?, fun b => match pre.lookup b with | some e => .ent e | none => .free⟩
theorem thenE {k : St → Prop} {Q : Exit → St → Prop} {st : St} {i : Nat} (h : Q (.exit i) st) : thenK k Q (.exit i) st := h
theorem thenR {k : St → Prop} {Q : Exit → St → Prop} {st : St} (h : Q .ret st) : thenK k Q .ret st := h
theorem inBlkN {Q : Exit → St → Prop} {st : St} {i : Nat} (h : Q .normal st) : inBlk i Q .normal st := h
theorem inBlkR {Q : Exit → St → Prop} {st : St} {i : Nat} (h : Q .ret st) : inBlk i Q .ret st := h
theorem inBlkE {Q : Exit → St → Prop} {st : St} {i : Nat} (h : Q .normal st) : inBlk i Q (.exit i) st := by simp [inBlk]; exact h
theorem inBlkO {Q : Exit → St → Prop} {st : St} {i j : Nat} (hn : Nat.beq j i = false) (h : Q (.exit j) st) : inBlk i Q (.exit j) st := by simp only [inBlk, hn]; exact h
theorem retR {rs : List ResultVar} {out : Out} {st : St} (h : RetOK P rs out st) : retQ P rs out .ret st := h
open Classical in
theorem CallOK.fnH {P : Program} {f : FuncId} {fn : Func} {c : Code} {args : List AV} {pre : List (Nat × Ent)} {out : Out} {nt : Nat} {rs : List ResultVar} (hf : P.funcs[f]? = some fn) (hres : fn.results = rs.toArray) (hnt : fn.ntmps = nt) (hb : fn.body = some c) (hn : (fn.name == "runtime.NumGoroutine") = false) (hna : Nat.ble args.length nt = true)
    (hlook : ∀ b e, (b, e) ∈ pre → pre.lookup b = some e) (haid : ∀ v ∈ args, ∀ i ∈ v.ids, (pre.lookup i).isSome = true) (hpid : ∀ b e, (b, e) ∈ pre → ∀ i ∈ e.ids, (pre.lookup i).isSome = true)
    (hkey : ∀ b e, (b, e) ∈ pre → ∃ s, (b, s) ∈ out.hp) (hoid : ∀ i, (i ∈ out.res.ids ∨ ∃ b e, (b, Slot.ent e) ∈ out.hp ∧ i ∈ e.ids) → (pre.lookup i).isSome = true ∨ ∃ s, (i, s) ∈ out.hp)
    (h : ∀ (w0 : World) (T B : Nat → Prop) (E0 : Env), (∀ k, B k → ∃ b e, (b, e) ∈ pre ∧ e.at E0 b k) → (∀ b e, (b, e) ∈ pre → ∃ S w, e.has E0 S w b) → WP P ⟨w0, T, B, nt, E0, fun b => (pre.lookup b).isSome⟩ c (startSt args pre) (retQ P rs out)) : CallOK P f args pre out := by
  refine ⟨⟨fn, hf, hn, by rw [hb]; rfl⟩, fun E S w vs hl hgl hall hpre hblk hsep => ?_⟩
  refine calls_of_wp hf hb ?_
  have hlen := hall.length
  rw [Nat.ble_eq] at hna
  have hp : ∀ b e, (startSt args pre).hp b = .ent e → pre.lookup b = some e := by
    intro b e hb
    simp only [startSt] at hb
    cases hlk : pre.lookup b with
    | none => simp [hlk] at hb
    | some e' => simp [hlk] at hb; rw [hb]
  have hmem : ∀ b e, pre.lookup b = some e → (b, e) ∈ pre := by
    intro b e hb
    clear hlook haid hpid hkey hoid h hpre hblk hsep hp
    induction pre with
    | nil => cases hb
    | cons p l ih =>
      rw [List.lookup_cons] at hb
      cases hbe : b == p.1 with
      | true => simp [hbe] at hb; have : b = p.1 := by simpa using hbe
                subst this; simp; left; rw [← hb]
      | false => simp [hbe] at hb; exact List.mem_cons_of_mem _ (ih hb)
  have hused : ∀ b, (pre.lookup b).isSome = true → ((startSt args pre).hp b).used = true := by
    intro b hb
    obtain ⟨e, he⟩ := Option.isSome_iff_exists.1 hb
    simp [startSt, he, Slot.used]
  have hs : SatE ⟨w, S, fun k => ∃ b e, (b, e) ∈ pre ∧ e.at E b k, nt, E, fun b => (pre.lookup b).isSome⟩ (startSt args pre) E S { tmps := vs.toArray ++ Array.replicate (fn.ntmps - vs.toArray.size) undef, defers := [] } w :=
    { dfr := rfl
      nt := by simp [hnt]; omega
      cT := fun k hk => hk
      cT0 := hl
      cS := fun k hk => .inl hk
      lt := hl
      tm := fun t v ht => by
        obtain ⟨u, hu, huv⟩ := hall.get (show args[t]? = some v from ht)
        have hlt : t < vs.length := (List.getElem?_eq_some_iff.1 hu).1
        simp [Array.getElem?_append, hlt]
        have h5 : vs[t] = u := by rw [List.getElem?_eq_getElem hlt] at hu; exact Option.some.inj hu
        rw [h5]; exact huv
      tid := fun t v ht i hi => hused i (haid v (List.mem_of_getElem? (show args[t]? = some v from ht)) i hi)
      hp := fun b e hb => hpre b e (hmem b e (hp b e hb))
      hid := fun b e hb i hi => hused i (hpid b e (hmem b e (hp b e hb)) i hi)
      blk := fun b e k hb hk => ⟨hblk b e k (hmem b e (hp b e hb)) hk, .inl ⟨b, e, hmem b e (hp b e hb), hk⟩⟩
      sep := fun b b' e e' k hne hb hb' => hsep b b' e e' k hne (hmem b e (hp b e hb)) (hmem b' e' (hp b' e' hb'))
      off := Off.refl _ _
      env := fun b hb => ⟨rfl, rfl, hused b hb⟩
      gl := hgl }
  refine wp_mono (h w S _ E (fun k hk => hk) (fun b e hb => ⟨S, w, hpre b e hb⟩) _ w ⟨E, S, hs⟩) fun ex a' w' ⟨st', hq, E', S', hs'⟩ => ?_
  have fin : RetOK P rs out st' → a'.defers = [] ∧ ∃ v, (results fn a'.tmps).run P w' = .ok v w' ∧ ∃ u E' S', Ending.returned v = .returned u ∧ Eff E S w pre out u w' E' S' := by
    rintro ⟨xs, h1, h2, h3⟩
    obtain ⟨v, h4, h5⟩ := run_results (fn := fn) (by rw [hres]; simpa using h1) hs'
    refine ⟨hs'.dfr, v, h4, v, ⟨fun b => if (pre.lookup b).isSome = true ∨ ¬ ∃ s, (b, s) ∈ out.hp then E.blk b else E'.blk b, fun b => if (pre.lookup b).isSome = true ∨ ¬ ∃ s, (b, s) ∈ out.hp then E.sl b else E'.sl b, fun b => if ∃ s, (b, s) ∈ out.hp then E'.fp b else E.fp b⟩, S', rfl, ?_⟩
    have hat : ∀ b, ((pre.lookup b).isSome = true ∨ ∃ s, (b, s) ∈ out.hp) → E'.at' ⟨fun b => if (pre.lookup b).isSome = true ∨ ¬ ∃ s, (b, s) ∈ out.hp then E.blk b else E'.blk b, fun b => if (pre.lookup b).isSome = true ∨ ¬ ∃ s, (b, s) ∈ out.hp then E.sl b else E'.sl b, fun b => if ∃ s, (b, s) ∈ out.hp then E'.fp b else E.fp b⟩ b := by
      intro b hb
      by_cases hpb : (pre.lookup b).isSome = true
      · obtain ⟨g1, g2, _⟩ := hs'.env b hpb
        exact ⟨by simp only [hpb, true_or, if_true]; exact g1.symm, by simp only [hpb, true_or, if_true]; exact g2.symm⟩
      · have hk := hb.resolve_left hpb
        exact ⟨by simp [hpb, hk], by simp [hpb, hk]⟩
    have hfp : ∀ b, (∃ s, (b, s) ∈ out.hp) → (fun b => if ∃ s, (b, s) ∈ out.hp then E'.fp b else E.fp b) b = E'.fp b := fun b hb => by simp [hb]
    refine
      { env := fun b hb => ?_, fpe := fun b hb => by simp [hb], sub := fun k hk => hs'.cT k hk, new := fun k hk => hs'.cS k hk, lt := hs'.lt, off := hs'.off, res := ?_, ents := fun b e hbe => ?_, blk := fun b e k hbe hk => ?_, sep := fun b b' e e' k hne hb hb' hk hk' => ?_ }
    · by_cases hk : ∃ s, (b, s) ∈ out.hp
      · obtain ⟨e, he⟩ := hb hk
        have := hlook b e he
        exact ⟨by simp [this], by simp [this]⟩
      · exact ⟨by simp [hk], by simp [hk]⟩
    · rw [h2]
      exact AV.has.step h5 (fun b hb => hat b (hoid b (.inl (by rw [h2]; exact hb)))) (Off.refl S' w') (fun k hk => .inl hk)
    · have hst := h3 b e hbe
      exact (hs'.hp b e hst).step (fun i hi => hat i (hoid i (.inr ⟨b, e, hbe, hi⟩))) (hat b (.inr ⟨_, hbe⟩)) (Off.refl S' w') (fun k hk => .inl hk) (fun _ _ => rfl) (hfp b ⟨_, hbe⟩)
    · rw [Ent.at_congr (hat b (.inr ⟨_, hbe⟩)) (hfp b ⟨_, hbe⟩)] at hk
      exact hs'.blk b e k (h3 b e hbe) hk
    · rw [Ent.at_congr (hat b (.inr ⟨_, hb⟩)) (hfp b ⟨_, hb⟩)] at hk
      rw [Ent.at_congr (hat b' (.inr ⟨_, hb'⟩)) (hfp b' ⟨_, hb'⟩)] at hk'
      exact hs'.sep b b' e e' k hne (h3 b e hb) (h3 b' e' hb') hk hk'
  cases ex with
  | normal => exact fin hq
  | ret => exact fin hq
  | _ => exact hq.elim
theorem CallOK.fn {P : Program} {f : FuncId} {fn : Func} {c : Code} {args : List AV} {pre : List (Nat × Ent)} {out : Out} {nt : Nat} {rs : List ResultVar} (hf : P.funcs[f]? = some fn) (hres : fn.results = rs.toArray) (hnt : fn.ntmps = nt) (hb : fn.body = some c) (hn : (fn.name == "runtime.NumGoroutine") = false) (hna : Nat.ble args.length nt = true)
    (hlook : ∀ b e, (b, e) ∈ pre → pre.lookup b = some e) (haid : ∀ v ∈ args, ∀ i ∈ v.ids, (pre.lookup i).isSome = true) (hpid : ∀ b e, (b, e) ∈ pre → ∀ i ∈ e.ids, (pre.lookup i).isSome = true)
    (hkey : ∀ b e, (b, e) ∈ pre → ∃ s, (b, s) ∈ out.hp) (hoid : ∀ i, (i ∈ out.res.ids ∨ ∃ b e, (b, Slot.ent e) ∈ out.hp ∧ i ∈ e.ids) → (pre.lookup i).isSome = true ∨ ∃ s, (i, s) ∈ out.hp)
    (h : ∀ (w0 : World) (T B : Nat → Prop) (E0 : Env), (∀ k, B k → ∃ b e, (b, e) ∈ pre ∧ e.at E0 b k) → WP P ⟨w0, T, B, nt, E0, fun b => (pre.lookup b).isSome⟩ c (startSt args pre) (retQ P rs out)) : CallOK P f args pre out :=
  CallOK.fnH hf hres hnt hb hn hna hlook haid hpid hkey hoid fun w0 T B E0 hB _ => h w0 T B E0 hB
theorem PureOK.fn {P : Program} {f : FuncId} {fn : Func} {c : Code} {args : List AV} {r : AV} {nt : Nat} {rs : List ResultVar} (hf : P.funcs[f]? = some fn) (hres : fn.results = rs.toArray) (hnt : fn.ntmps = nt) (hb : fn.body = some c) (hn : (fn.name == "runtime.NumGoroutine") = false) (hna : Nat.ble args.length nt = true)
    (haid : ∀ v ∈ args, v.ids = []) (hr : r.ids = []) (h : ∀ (w0 : World) (T B : Nat → Prop) (E0 : Env), (∀ k, ¬ B k) → WP P ⟨w0, T, B, nt, E0, fun _ => false⟩ c ⟨fun t => args[t]?, fun _ => .free⟩ (retQ P rs ⟨r, []⟩)) : PureOK P f args r :=
  CallOK.fn hf hres hnt hb hn hna (fun b e hb => by cases hb) (fun v hv i hi => by rw [haid v hv] at hi; cases hi) (fun b e hb => by cases hb) (fun b e hb => by cases hb)
    (fun i hi => by
      rcases hi with hi | ⟨b, e, hb, _⟩
      · have : i ∈ r.ids := hi
        rw [hr] at this; cases this
      · cases hb) (fun w0 T B E0 hB => h w0 T B E0 fun k hk => let ⟨_, _, hb, _⟩ := hB k hk; by cases hb)
theorem PureOK.args {P : Program} {f : FuncId} {args args' : List AV} {r : AV} (h : PureOK P f args' r) (hm : ∀ E S w vs, All2 (AV.has E S w) args vs → All2 (AV.has E S w) args' vs) : PureOK P f args r :=
  ⟨h.1, fun E S w vs hl hg hv h1 h2 h3 => h.2 E S w vs hl hg (hm E S w vs hv) h1 h2 h3⟩
theorem PureOK.fact {P : Program} {f : FuncId} {args args' : List AV} {r : AV} {φ : Prop} (he : ∃ fn, P.funcs[f]? = some fn ∧ (fn.name == "runtime.NumGoroutine") = false ∧ fn.body.isNone = false) (h : φ → PureOK P f args' r) (hm : ∀ E S w vs, All2 (AV.has E S w) args vs → All2 (AV.has E S w) args' vs ∧ φ) : PureOK P f args r :=
  ⟨he, fun E S w vs hl hg hv h1 h2 h3 => let ⟨a, b⟩ := hm E S w vs hv; (h b).2 E S w vs hl hg a h1 h2 h3⟩
theorem PureOK.calls {P : Program} {f : FuncId} {args : List AV} {r : AV} (h : PureOK P f args r) {S : Nat → Prop} {w : World} {vs : List Value} (hl : ∀ k, S k → k < w.heap.size) (hg : GlobOK S w) (E : Env) (hv : All2 (AV.has E S w) args vs) :
    Calls P f vs.toArray w fun e w' => ∃ v E' S', e = .returned v ∧ r.has E' S' w' v ∧ Off none' w w' := by
  refine (h.2 E S w vs hl hg hv (fun b e hb => by cases hb) (fun b e k hb => by cases hb) (fun b b' e e' k _ hb => by cases hb)).mono ?_
  rintro e w' ⟨v, E', S', rfl, hE⟩
  exact ⟨v, E', S', rfl, hE.res, hE.off.mono fun k ⟨b, e, hb, _⟩ => by cases hb⟩
theorem PureOK.of_calls {P : Program} {f : FuncId} {args : List AV} {r : AV} (he : ∃ fn, P.funcs[f]? = some fn ∧ (fn.name == "runtime.NumGoroutine") = false ∧ fn.body.isNone = false) (haid : r.ids = [])
    (h : ∀ (E : Env) (S : Nat → Prop) (w : World) (vs : List Value), (∀ k, S k → k < w.heap.size) → All2 (AV.has E S w) args vs → Calls P f vs.toArray w fun e w' => ∃ v, e = .returned v ∧ r.has E S w' v ∧ Off none' w w') : PureOK P f args r := by
  refine ⟨he, fun E S w vs hl _ hv _ _ _ => (h E S w vs hl hv).mono ?_⟩
  rintro e w' ⟨v, rfl, hr, ho⟩
  refine ⟨v, E, S, rfl, { env := fun _ _ => ⟨rfl, rfl⟩, fpe := fun _ _ => rfl, sub := fun _ h => h, new := fun _ h => .inl h, lt := fun k hk => Nat.lt_of_lt_of_le (hl k hk) ho.size, off := ho.mono (fun k hk => hk.elim), res := hr, ents := fun _ _ h => (by cases h), blk := fun _ _ _ h => (by cases h), sep := fun _ _ _ _ _ _ h => (by cases h) }⟩
end
end SX
set_option linter.unusedVariables false
set_option linter.unusedSimpArgs false
namespace SX
open Go Go.RowKit

def sliceR (size n : Nat) (cells : List CA) : Rep where
  has S w v := ∃ oa cap, v = .slice oa n cap ∧ n ≤ cap ∧ cap ≤ maxLen ∧ (oa = none → cap = 0) ∧ cells.length = n * size ∧
    ∀ i c, cells[i]? = some c → ∃ b o u, oa = some ⟨b, o, none⟩ ∧ ¬ S b ∧ w.cell? ⟨b, o + i, none⟩ = some u ∧ c.has S w u
  one h := by obtain ⟨oa, cap, rfl, _⟩ := h; rfl
  step h ho hs := by
    obtain ⟨oa, cap, h1, h2, h3, h4, h5, h6⟩ := h
    refine ⟨oa, cap, h1, h2, h3, h4, h5, fun i c hc => ?_⟩
    obtain ⟨b, o, u, e1, e2, e3, e4⟩ := h6 i c hc
    have hb := World.block_lt_of_cell? _ _ e3
    exact ⟨b, o, u, e1, fun h => (hs b h).elim e2 (fun h => by simp at hb; omega), ho.cell e2 e3, e4.step ho hs⟩
theorem sliceR_iff {size n : Nat} {cells : List CA} {S : Nat → Prop} {w : World} {v : Value} : (sliceR size n cells).has S w v ↔ ∃ oa cap, v = .slice oa n cap ∧ n ≤ cap ∧ cap ≤ maxLen ∧ (oa = none → cap = 0) ∧ cells.length = n * size ∧
    ∀ i c, cells[i]? = some c → ∃ b o u, oa = some ⟨b, o, none⟩ ∧ ¬ S b ∧ w.cell? ⟨b, o + i, none⟩ = some u ∧ c.has S w u := Iff.rfl
def ptrR (cells : List CA) : Rep where
  has S w v := ∃ b o, v = .pointer (some ⟨b, o, none⟩) ∧ ∀ i c, cells[i]? = some c → ∃ u, ¬ S b ∧ w.cell? ⟨b, o + i, none⟩ = some u ∧ c.has S w u
  one h := by obtain ⟨b, o, rfl, _⟩ := h; rfl
  step h ho hs := by
    obtain ⟨b, o, h1, h6⟩ := h
    refine ⟨b, o, h1, fun i c hc => ?_⟩
    obtain ⟨u, e2, e3, e4⟩ := h6 i c hc
    have hb := World.block_lt_of_cell? _ _ e3
    exact ⟨u, fun h => (hs b h).elim e2 (fun h => by simp at hb; omega), ho.cell e2 e3, e4.step ho hs⟩
theorem ptrR_iff {cells : List CA} {S : Nat → Prop} {w : World} {v : Value} : (ptrR cells).has S w v ↔ ∃ b o, v = .pointer (some ⟨b, o, none⟩) ∧ ∀ i c, cells[i]? = some c → ∃ u, ¬ S b ∧ w.cell? ⟨b, o + i, none⟩ = some u ∧ c.has S w u := Iff.rfl
section
variable {P : Program} {C : Ctx} {st : St}
variable {ops rest : List Oper} {acc : List (List Nat × List Nat)} {K : List (List Nat × List Nat) → St → Prop} {dst : Option Tmp} {ty t : TypeId} {x y : Operand}
class TSlice (P : Program) (t : TypeId) (e : outParam TypeId) (size : outParam Nat) : Prop where
  h : P.underlying t = some (.slice e)
  s : (P.info? e).map (·.size) = some size
  p : 0 < size
class TStr (P : Program) (t : TypeId) : Prop where
  h : P.underlying t = some .string
def structPl (P : Program) (t : TypeId) : Option (List (Nat × Option Nat)) :=
  match P.underlying t with
  | some (.struct fs) => some (fs.toList.map fun f => (f.offset, (P.info? f.type).map (·.size)))
  | _ => none
class TStruct (P : Program) (t : TypeId) (pl : outParam (List (Nat × Nat))) : Prop where
  h : structPl P t = some (pl.map fun p => (p.1, some p.2))
class TElem (P : Program) (e : TypeId) (zero : outParam (List Value)) (bytes : outParam Nat) : Prop where
  h : (P.info? e).map (fun i => (i.zero.map (·.cells), i.bytes)) = some (some zero.toArray, bytes)
class AsSlice (r : Rep) (size n : outParam Nat) (cells : outParam (List CA)) : Prop where
  h : ∀ S w v, r.has S w v → (sliceR size n cells).has S w v
instance (size n : Nat) (cells : List CA) : AsSlice (sliceR size n cells) size n cells := ⟨fun _ _ _ h => h⟩
theorem Go1.lenR {e : TypeId} {size sz n : Nat} {cells : List CA} {r : Rep} [ht : TSlice P t e sz] [hr : AsSlice r size n cells] (hd : dstOK dst C.nt = true) (hx : st.ev x = some (.r r))
    (next : Reg P C ops rest (st.app dst ⟨.v (.int .i64 (n : Int)), []⟩) (([], []) :: acc) K) : Go1 P C ops dst (.call ⟨.builtin .len, #[x], #[t]⟩) ty rest st acc K :=
  Go1.pureV [] [] (by simp) hd (by simp) (fun o ho _ st' E S a w hev hs _ => by
    obtain ⟨hx1, _⟩ := hs.ev ((hev x (by simp [ho, Op.operands, Call.operands])).trans hx)
    obtain ⟨oa, cap, hv, _⟩ := hr.h _ _ _ hx1
    refine ⟨fun i hi => (by cases hi), .int .i64 (n : Int), ?_, rfl⟩
    unfold execOp; rw [ho]
    simp [resolve, invoke, builtin, Builtin.len_, run_underlying ht.h, hv, goInt]) next
theorem Go1.indexAddrR {e : TypeId} {size n i : Nat} {k : IntKind} {cells : List CA} {r : Rep} [ht : TSlice P t e size] [hr : AsSlice r size n cells] (hd : dstOK dst C.nt = true) (hx : st.ev x = some (.r r)) (hy : st.ev y = some (.v (.int k (i : Int)))) (hi : i < n)
    (next : Reg P C ops rest (st.app dst ⟨.r (ptrR ((cells.drop (i * size)).take size)), []⟩) (([], []) :: acc) K) : Go1 P C ops dst (.indexAddr t x y) ty rest st acc K :=
  Go1.pureV [] [] (by simp) hd (by simp) (fun o ho _ st' E S a w hev hs _ => by
    obtain ⟨hx1, _⟩ := hs.ev ((hev x (by simp [ho, Op.operands])).trans hx)
    obtain ⟨oa, cap, hv, h2, h3, h4, h5, h6⟩ := hr.h _ _ _ hx1
    have hyv : a.eval y = .int k (i : Int) := (hs.ev ((hev y (by simp [ho, Op.operands])).trans hy)).1
    have hsz := run_sizeOf ht.s w
    have h0 := ht.p
    obtain ⟨b, o', u, e1, e2, e3, e4⟩ := h6 (i * size) (cells[i * size]'(by rw [h5]; exact Nat.mul_lt_mul_of_pos_right hi h0)) (by simp)
    subst e1
    refine ⟨fun j hj => (by cases hj), .pointer (some ⟨b, o' + i * size, none⟩), ?_, b, o' + i * size, rfl, fun j c hc => ?_⟩
    · unfold execOp; rw [ho]
      simp [hv, hyv, Instr.indexAt, asIntOf, run_underlying ht.h, hsz, Addr.add_lit, hi]
    · rw [List.getElem?_take] at hc
      split at hc
      · rw [List.getElem?_drop] at hc
        obtain ⟨b', o'', u', g1, g2, g3, g4⟩ := h6 _ c hc
        simp at g1
        obtain ⟨rfl, rfl⟩ := g1
        exact ⟨u', g2, by rw [Nat.add_assoc]; exact g3, g4⟩
      · cases hc) next
variable {d : Tmp}
theorem ptr_vals {E : Env} {S : Nat → Prop} {w : World} {b : Nat} : ∀ (l : List CA) (o'' : Nat), (∀ (i : Nat) (c : CA), l[i]? = some c → ∃ u, ¬ S b ∧ w.cell? ⟨b, o'' + i, none⟩ = some u ∧ c.has S w u) →
    ∃ us : List Value, All2 (Atom.has E S w) (l.map Atom.c) us ∧ ∀ j u, us[j]? = some u → w.cell? ((⟨b, o'', none⟩ : Addr).add j) = some u
  | [], _, _ => ⟨[], trivial, by simp⟩
  | c' :: l, o'', h => by
    obtain ⟨u', k1, k2, k3⟩ := h 0 c' (by simp)
    obtain ⟨us, k4, k5⟩ := ptr_vals (E := E) l (o'' + 1) (fun i c hi => by have := h (i + 1) c (by simpa using hi); rwa [show o'' + (i + 1) = o'' + 1 + i by omega] at this)
    refine ⟨u' :: us, ⟨k3, k4⟩, fun j u hj => ?_⟩
    cases j with
    | zero => simp at hj; subst hj; rw [Addr.add_lit]; exact k2
    | succ j =>
      have := k5 j u (by simpa using hj)
      rw [Addr.add_lit] at *
      rwa [show o'' + (j + 1) = o'' + 1 + j by omega]
theorem Go1.loadRAgg {n : Nat} {cells : List CA} [ht : TAgg P t n] (hd : dstOK dst C.nt = true) (hx : st.ev x = some (.r (ptrR cells))) (hl : cells.length = n)
    (next : Reg P C ops rest (st.app dst ⟨.agg (cells.map Atom.c), []⟩) (([], []) :: acc) K) : Go1 P C ops dst (.load t x) ty rest st acc K :=
  Go1.pureV [] [] (by simp) hd (by simp) (fun o ho _ st' E S a w hev hs _ => by
    obtain ⟨⟨b, o', hv, h6⟩, _⟩ := hs.ev ((hev x (by simp [ho, Op.operands])).trans hx)
    have hex := ptr_vals (E := E) cells o' h6
    obtain ⟨us, hall, hus⟩ := hex
    have hlen := hall.length
    have hrun := run_loadCells_list (P := P) w ⟨b, o', none⟩ us hus
    have hsz : (P.info? t).map (·.size) = some us.length := by rw [ht.s, ← hl]; simp at hlen; rw [hlen]
    refine ⟨fun j hj => ?_, .agg us.toArray, ?_, us, rfl, hall⟩
    · simp only [AV.ids, AV0.ids, List.mem_flatMap] at hj
      obtain ⟨c, hc, hj⟩ := hj
      obtain ⟨c', _, rfl⟩ := List.mem_map.1 hc
      cases hj
    · unfold execOp; rw [ho]
      simp [hv, Instr.loadAt, Instr.sureAddr, loadVar, run_isAgg ht.h, run_sizeOf hsz, hrun]) next
theorem Go1.loadR2 {c1 c2 : CA} {cells : List CA} [ht : TAgg P t 2] (hd : dstOK dst C.nt = true) (hx : st.ev x = some (.r (ptrR cells))) (hl : cells = [c1, c2])
    (next : Reg P C ops rest (st.app dst ⟨.agg [.c c1, .c c2], []⟩) (([], []) :: acc) K) : Go1 P C ops dst (.load t x) ty rest st acc K := by
  subst hl; exact Go1.loadRAgg hd hx rfl next
theorem Go1.loadR3 {c1 c2 c3 : CA} {cells : List CA} [ht : TAgg P t 3] (hd : dstOK dst C.nt = true) (hx : st.ev x = some (.r (ptrR cells))) (hl : cells = [c1, c2, c3])
    (next : Reg P C ops rest (st.app dst ⟨.agg [.c c1, .c c2, .c c3], []⟩) (([], []) :: acc) K) : Go1 P C ops dst (.load t x) ty rest st acc K := by
  subst hl; exact Go1.loadRAgg hd hx rfl next
theorem Go1.loadR4 {c1 c2 c3 c4 : CA} {cells : List CA} [ht : TAgg P t 4] (hd : dstOK dst C.nt = true) (hx : st.ev x = some (.r (ptrR cells))) (hl : cells = [c1, c2, c3, c4])
    (next : Reg P C ops rest (st.app dst ⟨.agg [.c c1, .c c2, .c c3, .c c4], []⟩) (([], []) :: acc) K) : Go1 P C ops dst (.load t x) ty rest st acc K := by
  subst hl; exact Go1.loadRAgg hd hx rfl next
theorem Go1.loadR1 {c : CA} {cells : List CA} [ht : TOne P t] (hd : dstOK dst C.nt = true) (hx : st.ev x = some (.r (ptrR cells))) (hl : cells[0]? = some c)
    (next : Reg P C ops rest (st.app dst ⟨.it (.one (.c c)), []⟩) (([], []) :: acc) K) : Go1 P C ops dst (.load t x) ty rest st acc K :=
  Go1.pureV [] [] (by simp) hd (by simp) (fun o ho _ st' E S a w hev hs _ => by
    obtain ⟨⟨b, o', hv, h6⟩, _⟩ := hs.ev ((hev x (by simp [ho, Op.operands])).trans hx)
    obtain ⟨u, g1, g2, g3⟩ := h6 0 c hl
    refine ⟨fun j hj => (by cases hj), u, ?_, g3⟩
    unfold execOp; rw [ho]
    have g2' : w.cell? ⟨b, o', none⟩ = some u := g2
    simp [hv, Instr.loadAt, Instr.sureAddr, loadVar, run_isAgg ht.h, g2']) next
theorem Go1.fieldAddrR {f o1 : Nat} {cells : List CA} [ht : TField P t f o1] (hd : dstOK dst C.nt = true) (hx : st.ev x = some (.r (ptrR cells)))
    (next : Reg P C ops rest (st.app dst ⟨.r (ptrR (cells.drop o1)), []⟩) (([], []) :: acc) K) : Go1 P C ops dst (.fieldAddr t x f) ty rest st acc K :=
  Go1.pureV [] [] (by simp) hd (by simp) (fun o ho _ st' E S a w hev hs _ => by
    obtain ⟨⟨b, o', hv, h6⟩, _⟩ := hs.ev ((hev x (by simp [ho, Op.operands])).trans hx)
    obtain ⟨ft, h1, h2⟩ := ht.h
    obtain ⟨dd, hd1, hd2⟩ := Option.bind_eq_some_iff.1 h1
    obtain ⟨i, hi, hz⟩ := Option.map_eq_some_iff.1 h2
    refine ⟨fun j hj => (by cases hj), .pointer (some ⟨b, o' + o1, none⟩), ?_, b, o' + o1, rfl, fun i c hc => ?_⟩
    · cases dd <;> simp [fieldOf] at hd2
      rename_i fs
      obtain ⟨fd, hfd, he1, he2⟩ := hd2
      subst he1 he2
      unfold execOp; rw [ho]
      have hsz : (Go.sizeOf fd.type).run P w = .ok i.size w := by simp [Go.sizeOf, typeInfo, hi]
      simp [hv, Instr.fieldAt, Instr.sureAddr, run_underlying hd1, hfd, fieldPlace, hsz]
      simp at hz
      simp [hz, Addr.add_lit]
    · rw [List.getElem?_drop] at hc
      obtain ⟨u, g1, g2, g3⟩ := h6 _ c hc
      exact ⟨u, g1, by rw [Nat.add_assoc]; exact g2, g3⟩) next
end
attribute [irreducible] sliceR ptrR
end SX
set_option linter.unusedVariables false
set_option linter.unusedSimpArgs false
namespace SX
open Go Go.RowKit
def fillA (pl : List (Nat × Nat)) : List Atom → List (Nat × AV0) → Option (List Atom)
  | cells, [] => some cells
  | cells, (i, x) :: rest => match pl[i]? with
    | none => none
    | some (off, size) => match Nat.beq x.cells.length size && Nat.ble (off + size) cells.length with
      | true => fillA pl (spl cells off x.cells) rest
      | false => none
def evp (st : St) : List (Nat × Operand) → Option (List (Nat × AV0))
  | [] => some []
  | (i, x) :: xs => match st.ev x, evp st xs with
    | some (.it v), some vs => some ((i, v) :: vs)
    | _, _ => none
section
variable {P : Program} {C : Ctx} {st : St}
theorem evp_congr {st st' : St} : ∀ {xs : List (Nat × Operand)}, (∀ x ∈ xs, st'.ev x.2 = st.ev x.2) → evp st' xs = evp st xs
  | [], _ => rfl
  | (i, x) :: xs, h => by unfold evp; rw [h (i, x) (by simp), evp_congr (fun y hy => h y (by simp [hy]))]
theorem evp_has {E : Env} {S : Nat → Prop} {a : Act} {w : World} (h : SatE C st E S a w) : ∀ {xs : List (Nat × Operand)} {l : List (Nat × AV0)}, evp st xs = some l → All2 (fun p q => p.1 = q.1 ∧ p.2.has E S w q.2) l (xs.map fun x => (x.1, a.eval x.2)) ∧ ∀ p ∈ l, ∀ b ∈ p.2.ids, (st.hp b).used = true
  | [], l, hl => by simp [evp] at hl; subst hl; exact ⟨trivial, by simp⟩
  | (i, x) :: xs, l, hl => by
    unfold evp at hl
    cases hx : st.ev x with
    | none => simp [hx] at hl
    | some v =>
      cases v with
      | tup l' => simp [hx] at hl
      | it v =>
        cases hxs : evp st xs with
        | none => simp [hx, hxs] at hl
        | some vs =>
          simp [hx, hxs] at hl
          subst hl
          obtain ⟨h1, h2⟩ := h.ev hx
          obtain ⟨h3, h4⟩ := evp_has h hxs
          exact ⟨⟨⟨rfl, h1⟩, h3⟩, fun u hu => by
            rcases List.mem_cons.1 hu with rfl | hu
            · exact h2
            · exact h4 u hu⟩
theorem foldl_set : ∀ (us : List Value) (cs : List Value) (off j : Nat), off + j + us.length ≤ cs.length →
    ((us.zipIdx j).foldl (fun (cs : Array Value) (p : Value × Nat) => cs.setIfInBounds (off + p.2) p.1) cs.toArray) = (spl cs (off + j) us).toArray
  | [], cs, off, j, h => by
    rw [spl_eq _ _ _ h]; simp
  | u :: us, cs, off, j, h => by
    simp only [List.zipIdx_cons, List.foldl_cons]
    have h2 : cs.toArray.setIfInBounds (off + j) u = (cs.set (off + j) u).toArray := by simp
    rw [h2, foldl_set us (cs.set (off + j) u) off (j + 1) (by simp at h ⊢; omega)]
    congr 1
    rw [spl_eq _ _ _ (by simp at h ⊢; omega), spl_eq _ _ _ h]
    have := list_seg_step cs (off + j) u us (by simpa using h)
    simpa [Nat.add_assoc] using this
theorem fill_has {E : Env} {S : Nat → Prop} {w : World} {pl : List (Nat × Nat)} : ∀ {ps : List (Nat × AV0)} {qs : List (Nat × Value)} {cells l : List Atom} {cs : List Value}, All2 (fun p q => p.1 = q.1 ∧ p.2.has E S w q.2) ps qs → (∀ p ∈ ps, p.2.cells.all Atom.oneB = true) →
    All2 (Atom.has E S w) cells cs → fillA pl cells ps = some l → ∃ us, Instr.fill (fun i => pl[i]?) cs.toArray qs = some us.toArray ∧ All2 (Atom.has E S w) l us
  | [], [], cells, l, cs, _, _, hc, hf => by simp [fillA] at hf; subst hf; exact ⟨cs, rfl, hc⟩
  | (i, x) :: ps, (j, v) :: qs, cells, l, cs, h, h1, hc, hf => by
    obtain ⟨⟨e, hx⟩, h⟩ := h
    simp only at e hx
    subst e
    obtain ⟨us, hus, hall, _⟩ := AV0.has.cells hx (h1 (i, x) (by simp))
    unfold fillA at hf
    cases hp : pl[i]? with
    | none => simp [hp] at hf
    | some q =>
      obtain ⟨off, size⟩ := q
      simp only [hp] at hf
      cases hb : Nat.beq x.cells.length size && Nat.ble (off + size) cells.length with
      | false => simp [hb] at hf
      | true =>
        simp only [hb] at hf
        rw [Bool.and_eq_true, Nat.ble_eq] at hb
        obtain ⟨hb1, hb2⟩ := hb
        have hb1' : x.cells.length = size := Nat.eq_of_beq_eq_true hb1
        have hl1 := hall.length
        have hl2 := hc.length
        obtain ⟨us', h3, h4⟩ := fill_has h (fun p hp => h1 p (by simp [hp])) (hc.spl off hall) hf
        refine ⟨us', ?_, h4⟩
        unfold Instr.fill
        simp only [hp, hus, List.size_toArray]
        rw [if_neg (by simp; omega)]
        have h5 := foldl_set us cs off 0 (by simp; omega)
        rw [← h3]
        congr 1
        simpa [Array.foldl_toList] using h5
  | [], _ :: _, _, _, _, h, _, _, _ => h.elim
  | _ :: _, [], _, _, _, h, _, _, _ => h.elim
theorem run_places {t : TypeId} {pl : List (Nat × Nat)} (h : TStruct P t pl) (w : World) : ∃ fs, P.underlying t = some (.struct fs) ∧ (fs.mapM fun f => do pure (f.offset, ← Go.sizeOf f.type) : Sem (Array (Nat × Nat))).run P w = .ok pl.toArray w := by
  have h := h.h
  unfold structPl at h
  cases hu : P.underlying t with
  | none => simp [hu] at h
  | some d =>
    cases d <;> simp [hu] at h
    rename_i fs
    refine ⟨fs, rfl, ?_⟩
    have key : ∀ (l : List Field) (m : List (Nat × Nat)), (l.map fun f => (f.offset, (P.info? f.type).map (·.size))) = m.map (fun p => (p.1, some p.2)) → (l.mapM fun f => do pure (f.offset, ← Go.sizeOf f.type) : Sem (List (Nat × Nat))).run P w = .ok m w := by
      intro l
      induction l with
      | nil => intro m hm; cases m with
        | nil => rfl
        | cons _ _ => simp at hm
      | cons f l ih =>
        intro m hm
        cases m with
        | nil => simp at hm
        | cons p m =>
          simp only [List.map_cons, List.cons.injEq, Prod.mk.injEq] at hm
          have hs := run_sizeOf hm.1.2 w
          have := ih m hm.2
          simp only [List.mapM_cons, Sem.run_bind, Sem.run_pure, hs, this, hm.1.1, Result.andThen_ok]
    have : fs = fs.toList.toArray := by simp
    rw [this, List.mapM_toArray, Sem.run_map, key fs.toList pl (by simpa using h)]
    rfl
variable {ops rest : List Oper} {acc : List (List Nat × List Nat)} {K : List (List Nat × List Nat) → St → Prop} {d : Tmp} {ty t : TypeId}
theorem Go1.build {pl : List (Nat × Nat)} {zs : List Value} {parts : Array (Nat × Operand)} {ps : List (Nat × AV0)} {l : List Atom} [ht : TStruct P t pl] [hz : TZero P t zs] (hd : dstOK (some d) C.nt = true) (hp : evp st parts.toList = some ps) (h1 : (ps.all fun p => p.2.cells.all Atom.oneB) = true)
    (hf : fillA pl (zs.map fun v => Atom.c (.val v)) ps = some l) (next : Reg P C ops rest (st.app (some d) ⟨.agg l, []⟩) (([], []) :: acc) K) : Go1 P C ops (some d) (.build t parts) ty rest st acc K :=
  Go1.pureV [] [] (by simp) hd (by simp) (fun o ho _ st' E S a w hev hs _ => by
    have hp' : evp st' parts.toList = some ps := by
      rw [evp_congr (fun x hx => hev x.2 (by rw [ho]; simp [Op.operands]; exact ⟨x.1, by simpa using hx⟩))]; exact hp
    obtain ⟨hall, hids⟩ := evp_has hs hp'
    obtain ⟨z, hz1, hz2⟩ := run_zeroCells hz.h w
    obtain ⟨fs, hu, hpl⟩ := run_places ht w
    obtain ⟨us, hfill, hus⟩ := fill_has (w := w) (cs := zs) hall (fun p hp => by rw [List.all_eq_true] at h1; exact h1 p hp) (all2_vals zs) hf
    have hfill' : Instr.fill (fun i : Nat => pl.toArray[i]?) zs.toArray (parts.toList.map fun x => (x.1, a.eval x.2)) = some us.toArray := by
      have e1 : (fun i : Nat => pl.toArray[i]?) = (fun i : Nat => pl[i]?) := by funext i; simp
      rw [e1]; exact hfill
    refine ⟨?_, .agg us.toArray, ?_, us, rfl, hus⟩
    · -- the ids
      have key : ∀ (ps : List (Nat × AV0)) (cells l : List Atom), fillA pl cells ps = some l → (∀ i ∈ cells.flatMap Atom.ids, (st'.hp i).used = true) → (∀ p ∈ ps, ∀ b ∈ p.2.ids, (st'.hp b).used = true) → ∀ i ∈ l.flatMap Atom.ids, (st'.hp i).used = true := by
        intro ps
        induction ps with
        | nil => intro cells l hf hc _ i hi; simp [fillA] at hf; subst hf; exact hc i hi
        | cons p ps ih =>
          intro cells l hf hc hps i hi
          obtain ⟨j, x⟩ := p
          unfold fillA at hf
          cases hpj : pl[j]? with
          | none => simp [hpj] at hf
          | some q =>
            obtain ⟨off, size⟩ := q
            simp only [hpj] at hf
            cases hb : Nat.beq x.cells.length size && Nat.ble (off + size) cells.length with
            | false => simp [hb] at hf
            | true =>
              simp only [hb] at hf
              rw [Bool.and_eq_true, Nat.ble_eq] at hb
              have hb1' : x.cells.length = size := Nat.eq_of_beq_eq_true hb.1
              refine ih _ l hf (fun i hi => ?_) (fun p hp => hps p (by simp [hp])) i hi
              obtain ⟨c, hc1, hc2⟩ := List.mem_flatMap.1 hi
              rw [spl_eq _ _ _ (by omega)] at hc1
              simp only [List.mem_append] at hc1
              rcases hc1 with (hc1 | hc1) | hc1
              · exact hc i (List.mem_flatMap.2 ⟨c, List.mem_of_mem_take hc1, hc2⟩)
              · refine hps (j, x) (by simp) i ?_
                rw [← AV0.ids_cells]; exact List.mem_flatMap.2 ⟨c, hc1, hc2⟩
              · exact hc i (List.mem_flatMap.2 ⟨c, List.mem_of_mem_drop hc1, hc2⟩)
      exact key ps _ l hf (fun i hi => by
        obtain ⟨c, hc, hi⟩ := List.mem_flatMap.1 hi
        obtain ⟨v, _, rfl⟩ := List.mem_map.1 hc
        cases hi) hids
    · unfold execOp; rw [ho]
      have hparts : (parts.map fun x => (x.1, a.eval x.2)).toList = parts.toList.map fun x => (x.1, a.eval x.2) := by simp
      simp only [Instr.build, Sem.run_bind, hz1, Result.andThen_ok, run_underlying hu, hpl, hz2, hparts]
      simp only [hfill', Sem.run_pure, Result.andThen_ok]) next
theorem Go1.build2 {pl : List (Nat × Nat)} {zs : List Value} {parts : Array (Nat × Operand)} {ps : List (Nat × AV0)} {a1 a2 : Atom} [ht : TStruct P t pl] [hz : TZero P t zs] (hd : dstOK (some d) C.nt = true) (hp : evp st parts.toList = some ps) (h1 : (ps.all fun p => p.2.cells.all Atom.oneB) = true)
    (hf : fillA pl (zs.map fun v => Atom.c (.val v)) ps = some [a1, a2]) (next : Reg P C ops rest (st.app (some d) ⟨.agg [a1, a2], []⟩) (([], []) :: acc) K) : Go1 P C ops (some d) (.build t parts) ty rest st acc K := Go1.build hd hp h1 hf next
theorem Go1.build3 {pl : List (Nat × Nat)} {zs : List Value} {parts : Array (Nat × Operand)} {ps : List (Nat × AV0)} {a1 a2 a3 : Atom} [ht : TStruct P t pl] [hz : TZero P t zs] (hd : dstOK (some d) C.nt = true) (hp : evp st parts.toList = some ps) (h1 : (ps.all fun p => p.2.cells.all Atom.oneB) = true)
    (hf : fillA pl (zs.map fun v => Atom.c (.val v)) ps = some [a1, a2, a3]) (next : Reg P C ops rest (st.app (some d) ⟨.agg [a1, a2, a3], []⟩) (([], []) :: acc) K) : Go1 P C ops (some d) (.build t parts) ty rest st acc K := Go1.build hd hp h1 hf next
theorem Go1.build4 {pl : List (Nat × Nat)} {zs : List Value} {parts : Array (Nat × Operand)} {ps : List (Nat × AV0)} {a1 a2 a3 a4 : Atom} [ht : TStruct P t pl] [hz : TZero P t zs] (hd : dstOK (some d) C.nt = true) (hp : evp st parts.toList = some ps) (h1 : (ps.all fun p => p.2.cells.all Atom.oneB) = true)
    (hf : fillA pl (zs.map fun v => Atom.c (.val v)) ps = some [a1, a2, a3, a4]) (next : Reg P C ops rest (st.app (some d) ⟨.agg [a1, a2, a3, a4], []⟩) (([], []) :: acc) K) : Go1 P C ops (some d) (.build t parts) ty rest st acc K := Go1.build hd hp h1 hf next
end
section
variable {P : Program} {C : Ctx} {st : St} {ops rest : List Oper} {acc : List (List Nat × List Nat)} {K : List (List Nat × List Nat) → St → Prop} {dst : Option Tmp} {op : Op} {ty t t' : TypeId} {x y : Operand} {b : BinOp} {u : UnOp} {cl : Call} {i : Nat} {c : Code} {Q : Exit → St → Prop} {parts : Array (Nat × Operand)} {n : Nat}
theorem WP.condHT {x y : Code} {c : Operand} {t : Bool} (hc : st.ev c = some (.v (.bool t))) (ht : t = true) (h : WP P C x st Q) : WP P C (.cond c x y) st Q := WP.cond hc (fun _ => h) (fun e => by rw [ht] at e; cases e)
theorem WP.condHF {x y : Code} {c : Operand} {t : Bool} (hc : st.ev c = some (.v (.bool t))) (ht : t = false) (h : WP P C y st Q) : WP P C (.cond c x y) st Q := WP.cond hc (fun e => by rw [ht] at e; cases e) (fun _ => h)
theorem Go1.pickHT {c : Operand} {t : Bool} {r : AV} (hd : dstOK dst C.nt = true) (hc : st.ev c = some (.v (.bool t))) (ht : t = true) (hx : st.ev x = some r) (next : Reg P C ops rest (st.app dst ⟨r, []⟩) (([], []) :: acc) K) : Go1 P C ops dst (.pick c x y) ty rest st acc K := by
  subst ht; exact Go1.pick hd hc hx next
theorem Go1.pickHF {c : Operand} {t : Bool} {r : AV} (hd : dstOK dst C.nt = true) (hc : st.ev c = some (.v (.bool t))) (ht : t = false) (hx : st.ev y = some r) (next : Reg P C ops rest (st.app dst ⟨r, []⟩) (([], []) :: acc) K) : Go1 P C ops dst (.pick c x y) ty rest st acc K := by
  subst ht; exact Go1.pick hd hc hx next
theorem wrapI64 {z : Int} (h1 : -9223372036854775808 ≤ z) (h2 : z ≤ 9223372036854775807) : IntKind.i64.wrap z = z := IntWalk.i64_in z ⟨h1, h2⟩
theorem wrapU64 {z : Int} (h1 : 0 ≤ z) (h2 : z ≤ 18446744073709551615) : IntKind.u64.wrap z = z := by
  simp only [IntKind.wrap, IntKind.bits, IntKind.signed]; simp; omega
theorem Go1.is (h : Go1 P C ops dst op ty rest st acc K) : Go1 P C ops dst op ty rest st acc K := h
theorem Reg.is {l : List Oper} (h : Reg P C ops l st acc K) : Reg P C ops l st acc K := h
theorem WP.is (h : WP P C c st Q) : WP P C c st Q := h
theorem Go1.isLoad (h : Go1 P C ops dst (.load t x) ty rest st acc K) : Go1 P C ops dst (.load t x) ty rest st acc K := h
theorem Go1.isBin (h : Go1 P C ops dst (.binOp b t x y t') ty rest st acc K) : Go1 P C ops dst (.binOp b t x y t') ty rest st acc K := h
theorem Go1.isUn (h : Go1 P C ops dst (.unOp u t x) ty rest st acc K) : Go1 P C ops dst (.unOp u t x) ty rest st acc K := h
theorem Go1.isCall (h : Go1 P C ops dst (.call cl) ty rest st acc K) : Go1 P C ops dst (.call cl) ty rest st acc K := h
theorem Go1.isField (h : Go1 P C ops dst (.fieldAddr t x i) ty rest st acc K) : Go1 P C ops dst (.fieldAddr t x i) ty rest st acc K := h
theorem Go1.isBuild (h : Go1 P C ops dst (.build t parts) ty rest st acc K) : Go1 P C ops dst (.build t parts) ty rest st acc K := h
theorem Go1.isBuildS (h : Go1 P C ops dst (.buildSlice t n parts) ty rest st acc K) : Go1 P C ops dst (.buildSlice t n parts) ty rest st acc K := h
theorem Go1.isStore (h : Go1 P C ops dst (.store t x y) ty rest st acc K) : Go1 P C ops dst (.store t x y) ty rest st acc K := h
theorem Go1.isIx (h : Go1 P C ops dst (.indexAddr t x y) ty rest st acc K) : Go1 P C ops dst (.indexAddr t x y) ty rest st acc K := h
end
end SX

import Derived.Test.YtkdonndeogihfaaSxf
/- The rules of the symbolic run: memory of the call's own, calls, entry and return. No program in sight. -/
set_option linter.unusedVariables false
set_option linter.unusedSimpArgs false
namespace SX
open Go Go.RowKit

def aggD : TypeDesc → Bool
  | .struct _ | .array _ _ => true
  | _ => false
class TAgg (P : Program) (t : TypeId) (n : outParam Nat) : Prop where
  h : (P.underlying t).map aggD = some true
  s : (P.info? t).map (·.size) = some n
class TOne (P : Program) (t : TypeId) : Prop where
  h : (P.underlying t).map aggD = some false
  s : (P.info? t).map (·.size) = some 1
class TZero (P : Program) (t : TypeId) (cells : outParam (List Value)) : Prop where
  h : (P.info? t).map (fun i => i.zero.map (·.cells)) = some (some cells.toArray)
def fieldOf : TypeDesc → Nat → Option (Nat × TypeId)
  | .struct fs, i => (fs[i]?).map fun f => (f.offset, f.type)
  | _, _ => none
class TField (P : Program) (t : TypeId) (f : Nat) (off : outParam Nat) : Prop where
  h : ∃ ft, ((P.underlying t).bind (fieldOf · f) = some (off, ft)) ∧ ((P.info? ft).map (fun i => i.size == 0)) = some false
section
variable {P : Program}
theorem run_isAgg {t : TypeId} {b : Bool} (h : (P.underlying t).map aggD = some b) (w : World) : (isAgg t).run P w = .ok b w := by
  obtain ⟨d, hd, hb⟩ := Option.map_eq_some_iff.1 h
  unfold isAgg
  rw [Sem.run_bind, run_underlying hd w]
  cases d <;> simp_all [aggD]
theorem run_sizeOf {t : TypeId} {n : Nat} (h : (P.info? t).map (·.size) = some n) (w : World) : (Go.sizeOf t).run P w = .ok n w := by
  obtain ⟨i, hi, hn⟩ := Option.map_eq_some_iff.1 h
  simp [Go.sizeOf, typeInfo, hi, hn]
theorem run_zeroCells {t : TypeId} {cells : List Value} (h : (P.info? t).map (fun i => i.zero.map (·.cells)) = some (some cells.toArray)) (w : World) : ∃ z, (zeroValue t).run P w = .ok z w ∧ z.cells = cells.toArray := by
  obtain ⟨i, hi, hn⟩ := Option.map_eq_some_iff.1 h
  obtain ⟨z, hz, hc⟩ := Option.map_eq_some_iff.1 hn
  exact ⟨z, by simp [zeroValue, typeInfo, hi, hz], hc⟩
theorem cells_of_block {w : World} {g : Nat} {cs : List Value} {t : TypeId} (hg : w.heap[g]? = some (.cells cs.toArray t (0, 0))) (off : Nat) : ∀ j u, (cs.drop off)[j]? = some u → w.cell? ((⟨g, off, none⟩ : Addr).add j) = some u := by
  intro j u hj
  rw [Addr.add_lit, cell_of_row w g (off + j) cs.toArray t (0, 0) hg]
  rw [List.getElem?_drop] at hj
  simpa using hj
theorem run_load_agg {t T : TypeId} {n g off : Nat} {cs : List Value} (h : TAgg P t n) (w : World) (hg : w.heap[g]? = some (.cells cs.toArray T (0, 0))) (hl : off + n ≤ cs.length) :
    (loadVar t ⟨g, off, none⟩).run P w = .ok (.agg ((cs.drop off).take n).toArray) w := by
  have h1 := run_loadCells_list (P := P) w ⟨g, off, none⟩ ((cs.drop off).take n) (fun j u hj => cells_of_block hg off j u (by
    rw [List.getElem?_take] at hj; split at hj
    · exact hj
    · cases hj))
  rw [show ((cs.drop off).take n).length = n by simp; omega] at h1
  simp [loadVar, run_isAgg h.h, run_sizeOf h.s, h1]
theorem run_load_one {t T : TypeId} {g off : Nat} {cs : List Value} {u : Value} (h : TOne P t) (w : World) (hg : w.heap[g]? = some (.cells cs.toArray T (0, 0))) (hl : cs[off]? = some u) :
    (loadVar t ⟨g, off, none⟩).run P w = .ok u w := by
  have h1 : w.cell? ⟨g, off, none⟩ = some u := by rw [cell_of_row w g off cs.toArray T (0, 0) hg]; simpa using hl
  simp [loadVar, run_isAgg h.h, h1]

/-- A list with a part written over. -/
def spl {α : Type} : List α → Nat → List α → List α
  | cs, 0, [] => cs
  | _ :: cs, 0, x :: xs => x :: spl cs 0 xs
  | [], 0, _ :: _ => []
  | c :: cs, n + 1, l => c :: spl cs n l
  | [], _ + 1, _ => []
theorem spl_eq {α : Type} : ∀ (cs : List α) (off : Nat) (l : List α), off + l.length ≤ cs.length → spl cs off l = cs.take off ++ l ++ cs.drop (off + l.length)
  | cs, 0, [], _ => by cases cs <;> simp [spl]
  | c :: cs, 0, x :: xs, h => by
    have := spl_eq cs 0 xs (by simp at h ⊢; omega)
    simp at this
    simp [spl, this]
  | [], 0, _ :: _, h => by simp at h
  | c :: cs, n + 1, l, h => by
    have := spl_eq cs n l (by simp at h; omega)
    simp [spl, this, Nat.add_right_comm]
  | [], _ + 1, _, h => by simp at h
theorem All2.spl {α β : Type} {p : α → β → Prop} : ∀ {cs : List α} {vs : List β} (off : Nat) {l : List α} {us : List β}, All2 p cs vs → All2 p l us → All2 p (spl cs off l) (spl vs off us)
  | cs, vs, 0, [], [], h, _ => by cases cs <;> cases vs <;> simpa [SX.spl] using h
  | c :: cs, v :: vs, 0, x :: xs, u :: us, h, k => ⟨k.1, All2.spl 0 h.2 k.2⟩
  | [], [], 0, x :: xs, u :: us, _, _ => by simp [SX.spl, All2]
  | c :: cs, v :: vs, n + 1, l, us, h, k => ⟨h.1, All2.spl n h.2 k⟩
  | [], [], n + 1, l, us, _, _ => by simp [SX.spl, All2]
  | [], _ :: _, _, _, _, h, _ => h.elim
  | _ :: _, [], _, _, _, h, _ => h.elim
  | _, _, 0, [], _ :: _, _, k => k.elim
  | _, _, 0, _ :: _, [], _, k => k.elim
/-- Is it surely one cell? -/
def Atom.oneB : Atom → Bool
  | .c (.val v) => v.oneCell'
  | _ => true
theorem Atom.has.one {a : Atom} {E : Env} {S : Nat → Prop} {w : World} {v : Value} (h : a.has E S w v) (hb : a.oneB = true) : v.oneCell' = true := by
  cases a with
  | c a =>
    cases a with
    | val u => rw [show v = u from h]; exact hb
    | sat r => exact r.one h
  | ptr b off => rw [show v = _ from h]; rfl
  | own b => exact h.2
  | rptr b off => obtain ⟨g, n, cap, _, h⟩ := h; rw [h]; rfl
  | clo f cap => rw [show v = _ from h]; rfl
theorem run_store {t T : TypeId} {n g off : Nat} {cs us : List Value} {v : Value} (hs : (P.info? t).map (·.size) = some n) (hv : v.cells = us.toArray) (hn : us.length = n) (w : World) (hg : w.heap[g]? = some (.cells cs.toArray T (0, 0))) (hl : off + n ≤ cs.length) (h1 : ∀ u ∈ us, u.oneCell' = true) :
    (storeVar t ⟨g, off, none⟩ v).run P w = .ok () (w.setRow g (spl cs off us).toArray) := by
  have hst := run_storeCells_at P g off T us 0 cs.toArray w hg (by simp; omega) h1
  rw [spl_eq cs off us (by omega)]
  simp only [Nat.add_zero] at hst
  simp [storeVar, run_sizeOf hs, hv, hn, hst]
/-- The cells of what stands for a value. -/
def AV0.cells : AV0 → List Atom
  | .one a => [a]
  | .agg l => l
theorem AV0.has.cells {x : AV0} {E : Env} {S : Nat → Prop} {w : World} {v : Value} (h : x.has E S w v) (h1 : x.cells.all Atom.oneB = true) : ∃ us, v.cells = us.toArray ∧ All2 (Atom.has E S w) x.cells us ∧ ∀ u ∈ us, u.oneCell' = true := by
  rw [List.all_eq_true] at h1
  have key : ∀ {l : List Atom} {us : List Value}, All2 (Atom.has E S w) l us → (∀ a ∈ l, a.oneB = true) → ∀ u ∈ us, u.oneCell' = true := by
    intro l us hall hb u hu
    obtain ⟨i, hi⟩ := List.mem_iff_getElem?.1 hu
    obtain ⟨a, ha, hau⟩ := hall.get' hi
    exact hau.one (hb a (List.mem_of_getElem? ha))
  cases x with
  | one a =>
    have ho := Atom.has.one h (h1 a (by simp [AV0.cells]))
    refine ⟨[v], ?_, ⟨h, trivial⟩, by simpa using ho⟩
    cases v <;> first | rfl | (simp [Value.oneCell'] at ho; done)
  | agg l =>
    obtain ⟨us, hv, hall⟩ := h
    exact ⟨us, by rw [hv]; rfl, hall, key hall h1⟩
theorem AV0.ids_cells (x : AV0) : x.cells.flatMap Atom.ids = x.ids := by cases x <;> simp [AV0.cells, AV0.ids]

/-- A new block of the call's own. -/
theorem Eff.alloc {E : Env} {S : Nat → Prop} {w : World} {b : Nat} {T : TypeId} {cells : List Atom} {cs : List Value} (hl : ∀ k, S k → k < w.heap.size) (hb : ∀ c ∈ cells, b ∉ c.ids) (hcs : All2 (Atom.has E S w) cells cs) :
    Eff E S w [] ⟨.ptr b 0, [(b, .ent (.box T cells))]⟩ (.pointer (some ⟨w.heap.size, 0, none⟩)) (w.alloc (.cells cs.toArray T)) ⟨upd E.blk b w.heap.size, E.sl⟩ (fun k => S k ∨ k = w.heap.size) := by
  have hnew : ∀ i, i ≠ b → E.at' ⟨upd E.blk b w.heap.size, E.sl⟩ i := fun i hi => ⟨upd_ne _ _ hi, rfl⟩
  refine
    { env := fun i hi => ?_, sub := fun k hk => .inl hk, new := fun k hk => hk.imp id (fun e => by omega), lt := fun k hk => ?_, off := Off.alloc _ _ _, res := ?_,
      ents := fun i e hi => ?_, blk := fun i e k hi hk => ?_, sep := fun i i' e e' k hne h1 h2 => ?_ }
  · by_cases e : i = b
    · subst e; obtain ⟨e, he⟩ := hi ⟨_, by simp; rfl⟩; cases he
    · exact hnew i e
  · rw [World.size_alloc]
    rcases hk with hk | hk
    · have := hl k hk; omega
    · omega
  · show Value.pointer _ = Value.pointer _
    simp
  · simp at hi
    obtain ⟨rfl, rfl⟩ := hi
    exact ⟨cs, by show (w.alloc _).heap[upd E.blk i w.heap.size i]? = _; rw [upd_same]; exact heap_alloc_new w _, hcs.mono fun a v ha hav => hav.step (fun j hj => hnew j (fun e => hb a ha (e ▸ hj))) (Off.alloc _ _ _) (fun k hk => hk.imp id (fun e => by omega))⟩
  · simp at hi
    obtain ⟨rfl, rfl⟩ := hi
    simp [Ent.blk] at hk
    subst hk
    exact ⟨.inr rfl, .inr (Nat.le_refl _)⟩
  · simp at h1 h2
    exact absurd (h1.1.trans h2.1.symm) hne
/-- A store into a variable of the call's own. -/
theorem Eff.store {E : Env} {S : Nat → Prop} {w : World} {b : Nat} {T : TypeId} {cells cells' : List Atom} {cs cs' : List Value} {r : AV} {v : Value} (hl : ∀ k, S k → k < w.heap.size) (hS : S (E.blk b)) (hg : w.heap[E.blk b]? = some (.cells cs.toArray T (0, 0))) (hr : r.has E S w v)
    (hcs : All2 (Atom.has E S w) cells' cs') : Eff E S w [(b, .box T cells)] ⟨r, [(b, .ent (.box T cells'))]⟩ v (w.setRow (E.blk b) cs'.toArray) E S := by
  have ho : Off S w (w.setRow (E.blk b) cs'.toArray) := Off.setRow w _ _ hS
  refine
    { env := fun i hi => ⟨rfl, rfl⟩, sub := fun k hk => hk, new := fun k hk => .inl hk, lt := fun k hk => by rw [size_setRow]; exact hl k hk, off := Off.setRow w _ _ ⟨b, Ent.box T cells, by simp, rfl⟩, res := hr.step (fun _ _ => ⟨rfl, rfl⟩) ho (fun k hk => .inl hk),
      ents := fun i e hi => ?_, blk := fun i e k hi hk => ?_, sep := fun i i' e e' k hne h1 h2 => ?_ }
  · simp at hi
    obtain ⟨rfl, rfl⟩ := hi
    exact ⟨cs', setRow_heap w _ _ _ T _ hg, hcs.mono fun a v ha hav => hav.step (fun _ _ => ⟨rfl, rfl⟩) ho (fun k hk => .inl hk)⟩
  · simp at hi
    obtain ⟨rfl, rfl⟩ := hi
    simp [Ent.blk] at hk
    subst hk
    exact ⟨hS, .inl ⟨_, Ent.box T cells, by simp, rfl⟩⟩
  · simp at h1 h2
    exact absurd (h1.1.trans h2.1.symm) hne
end

section
variable {P : Program} {C : Ctx} {st : St}
variable {ops rest : List Oper} {acc : List (List Nat × List Nat)} {K : List (List Nat × List Nat) → St → Prop} {d : Tmp} {op : Op} {ty t : TypeId} {x y : Operand}
/-- A variable of the call's own is made. -/
theorem OpOK.alloc {o : Oper} {d : Tmp} {cells : List Atom} (hdst : o.dst = some d) (hd : dstOK (some d) C.nt = true) (hf : st.hp d = .free)
    (h : ∀ st' E S a w, (∀ x ∈ o.op.operands, st'.ev x = st.ev x) → SatE C st' E S a w →
      (∀ i ∈ cells.flatMap Atom.ids, (st'.hp i).used = true) ∧ ∃ cs, (execOp a.eval o).run P w = .ok (.value (.pointer (some ⟨w.heap.size, 0, none⟩))) (w.alloc (.cells cs t)) ∧ All2 (Atom.has E S w) cells cs.toList) :
    OpOK P C o st [d] ⟨.ptr d 0, [(d, .ent (.box t cells))]⟩ := by
  refine OpOK.eff [] [] (fun b hb => ?_) (hdst ▸ dstOK_spec hd) (fun b e hb => by cases hb) (fun b e hb => by cases hb) (fun b s hb => ?_) (fun b s hb => ?_) (fun st' E S a w hev hhp hs _ _ => ?_)
  · rcases hb with ⟨e, hb⟩ | ⟨e, hb⟩ | ⟨s, hb⟩
    · cases hb
    · cases hb
    · simp at hb; simp [hb.1]
  · simp at hb; rw [hb.1]; exact .inr hf
  · simp at hb; rw [hb.2]; rfl
  · obtain ⟨hid, cs, hr, hall⟩ := h st' E S a w hev hs
    have hfree : st'.hp d = .free := (hhp d (by simp)).trans hf
    refine ⟨⟨fun i hi => ?_, fun b e hb i hi => ?_⟩, fun K Q hK => ?_⟩
    · simp [AV.ids, AV0.ids, Atom.ids] at hi; subst hi; simp [updL, Slot.used]
    · simp at hb
      obtain ⟨rfl, rfl⟩ := hb
      by_cases e : i = b
      · subst e; simp [updL, Slot.used]
      · simp only [updL]; rw [upd_ne _ _ e]; exact hid i hi
    · have hE := Eff.alloc (E := E) (S := S) (w := w) (b := d) (T := t) (cells := cells) (cs := cs.toList) hs.lt (fun c hc1 hc2 => by
        have := hid d (List.mem_flatMap.2 ⟨c, hc1, hc2⟩)
        rw [hfree] at this; cases this) hall
      unfold Oper.wp
      rw [hr]
      exact hK _ _ _ _ hE
theorem Go1.box {v : AV0} (hd : dstOK (some d) C.nt = true) (hx : st.ev x = some (.it v)) (hf : st.hp d = .free) (h1 : v.cells.all Atom.oneB = true)
    (next : Reg P C ops rest (st.app (some d) ⟨.ptr d 0, [(d, .ent (.box t v.cells))]⟩) (([d], [d]) :: acc) K) : Go1 P C ops (some d) (.box t x) ty rest st acc K :=
  ⟨[d], ⟨.ptr d 0, [(d, .ent (.box t v.cells))]⟩, fun o h2 h3 h4 => OpOK.alloc h2 hd hf (fun st' E S a w hev hs => by
    obtain ⟨hv, hids⟩ := hs.ev ((hev x (by simp [h3, Op.operands])).trans hx)
    obtain ⟨us, hc, hall, hone⟩ := AV0.has.cells hv h1
    refine ⟨fun i hi => hids i (by rw [AV0.ids_cells] at hi; exact hi), us.toArray, ?_, by simpa using hall⟩
    unfold execOp; rw [h3]; simp [Instr.box, newVar, newRow, hc]), next⟩
theorem all2_vals {E : Env} {S : Nat → Prop} {w : World} : ∀ l : List Value, All2 (Atom.has E S w) (l.map fun v => Atom.c (.val v)) l
  | [] => trivial
  | _ :: l => ⟨rfl, all2_vals l⟩
theorem Go1.alloc {cells : List Value} [hz : TZero P t cells] (hd : dstOK (some d) C.nt = true) (hf : st.hp d = .free)
    (next : Reg P C ops rest (st.app (some d) ⟨.ptr d 0, [(d, .ent (.box t (cells.map fun v => Atom.c (.val v))))]⟩) (([d], [d]) :: acc) K) : Go1 P C ops (some d) (.alloc t) ty rest st acc K :=
  ⟨[d], ⟨.ptr d 0, [(d, .ent (.box t (cells.map fun v => Atom.c (.val v))))]⟩, fun o h2 h3 h4 => OpOK.alloc h2 hd hf (fun st' E S a w hev hs => by
    obtain ⟨z, hz1, hz2⟩ := run_zeroCells hz.h w
    refine ⟨fun i hi => ?_, cells.toArray, ?_, by simpa using all2_vals cells⟩
    · obtain ⟨c, hc, hi⟩ := List.mem_flatMap.1 hi
      obtain ⟨v, _, rfl⟩ := List.mem_map.1 hc
      cases hi
    · unfold execOp; rw [h3]; simp [Instr.alloc, newVar, newRow, hz1, hz2]), next⟩
/-- A variable of the call's own is read: a struct, of one cell, of two, three, or more. -/
theorem Go1.loadAgg {b off n : Nat} {T : TypeId} {cells l : List Atom} [ht : TAgg P t n] (hd : dstOK (some d) C.nt = true) (hx : st.ev x = some (.ptr b off)) (hb : st.hp b = .ent (.box T cells)) (hl : Nat.ble (off + n) cells.length = true) (hr : (cells.drop off).take n = l)
    (next : Reg P C ops rest (st.app (some d) ⟨.agg l, []⟩) (([b], []) :: acc) K) : Go1 P C ops (some d) (.load t x) ty rest st acc K :=
  Go1.pureV [(b, .box T cells)] [b] (by simp) hd (by simpa using hb) (fun o ho _ st' E S a w hev hs hrd => by
    obtain ⟨hv, _⟩ := hs.ev ((hev x (by simp [ho, Op.operands])).trans hx)
    have hb' := hrd b (.box T cells) (by simp)
    obtain ⟨cs, hg, hall⟩ := hs.hp b _ hb'
    have hlen := hall.length
    rw [Nat.ble_eq] at hl
    have hrun := run_load_agg (P := P) (n := n) (off := off) ht w hg (by omega)
    refine ⟨fun i hi => ?_, .agg ((cs.drop off).take n).toArray, ?_, ?_⟩
    · have : i ∈ (Ent.box T cells).ids := by
        simp only [AV.ids, AV0.ids, List.mem_flatMap] at hi
        obtain ⟨c, hc, hi⟩ := hi
        subst hr
        exact List.mem_flatMap.2 ⟨c, List.mem_of_mem_drop (List.mem_of_mem_take hc), hi⟩
      exact hs.hid b _ hb' i this
    · unfold execOp; rw [ho]; simp [show a.eval x = _ from hv, Instr.loadAt, Instr.sureAddr, hrun]
    · subst hr
      exact ⟨_, rfl, (hall.drop off).take n⟩) next
theorem Go1.load2 {b off : Nat} {T : TypeId} {cells : List Atom} {a1 a2 : Atom} [ht : TAgg P t 2] (hd : dstOK (some d) C.nt = true) (hx : st.ev x = some (.ptr b off)) (hb : st.hp b = .ent (.box T cells)) (hr : (cells.drop off).take 2 = [a1, a2])
    (next : Reg P C ops rest (st.app (some d) ⟨.agg [a1, a2], []⟩) (([b], []) :: acc) K) : Go1 P C ops (some d) (.load t x) ty rest st acc K :=
  Go1.loadAgg hd hx hb (by have := congrArg List.length hr; simp at this; rw [Nat.ble_eq]; omega) hr next
theorem Go1.load3 {b off : Nat} {T : TypeId} {cells : List Atom} {a1 a2 a3 : Atom} [ht : TAgg P t 3] (hd : dstOK (some d) C.nt = true) (hx : st.ev x = some (.ptr b off)) (hb : st.hp b = .ent (.box T cells)) (hr : (cells.drop off).take 3 = [a1, a2, a3])
    (next : Reg P C ops rest (st.app (some d) ⟨.agg [a1, a2, a3], []⟩) (([b], []) :: acc) K) : Go1 P C ops (some d) (.load t x) ty rest st acc K :=
  Go1.loadAgg hd hx hb (by have := congrArg List.length hr; simp at this; rw [Nat.ble_eq]; omega) hr next
theorem Go1.load4 {b off : Nat} {T : TypeId} {cells : List Atom} {a1 a2 a3 a4 : Atom} [ht : TAgg P t 4] (hd : dstOK (some d) C.nt = true) (hx : st.ev x = some (.ptr b off)) (hb : st.hp b = .ent (.box T cells)) (hr : (cells.drop off).take 4 = [a1, a2, a3, a4])
    (next : Reg P C ops rest (st.app (some d) ⟨.agg [a1, a2, a3, a4], []⟩) (([b], []) :: acc) K) : Go1 P C ops (some d) (.load t x) ty rest st acc K :=
  Go1.loadAgg hd hx hb (by have := congrArg List.length hr; simp at this; rw [Nat.ble_eq]; omega) hr next
theorem Go1.load1 {b off : Nat} {T : TypeId} {cells : List Atom} {c : Atom} [ht : TOne P t] (hd : dstOK (some d) C.nt = true) (hx : st.ev x = some (.ptr b off)) (hb : st.hp b = .ent (.box T cells)) (hr : cells[off]? = some c)
    (next : Reg P C ops rest (st.app (some d) ⟨.it (.one c), []⟩) (([b], []) :: acc) K) : Go1 P C ops (some d) (.load t x) ty rest st acc K :=
  Go1.pureV [(b, .box T cells)] [b] (by simp) hd (by simpa using hb) (fun o ho _ st' E S a w hev hs hrd => by
    obtain ⟨hv, _⟩ := hs.ev ((hev x (by simp [ho, Op.operands])).trans hx)
    have hb' := hrd b (.box T cells) (by simp)
    obtain ⟨cs, hg, hall⟩ := hs.hp b _ hb'
    obtain ⟨u, hu, hcu⟩ := hall.get hr
    refine ⟨fun i hi => hs.hid b _ hb' i (List.mem_flatMap.2 ⟨c, List.mem_of_getElem? hr, hi⟩), u, ?_, hcu⟩
    unfold execOp; rw [ho]; simp [show a.eval x = _ from hv, Instr.loadAt, Instr.sureAddr, run_load_one ht w hg hu]) next
/-- A variable of the call's own is written. -/
theorem Go1.store {b off n : Nat} {T : TypeId} {cells cells' : List Atom} {v : AV0} (hs : (P.info? t).map (·.size) = some n) (hx : st.ev x = some (.ptr b off)) (hy : st.ev y = some (.it v)) (hb : st.hp b = .ent (.box T cells)) (hn : v.cells.length = n) (hl : Nat.ble (off + n) cells.length = true) (h1 : v.cells.all Atom.oneB = true) (hr : spl cells off v.cells = cells')
    (next : Reg P C ops rest (st.app none ⟨.v undef, [(b, .ent (.box T cells'))]⟩) (([b], [b]) :: acc) K) : Go1 P C ops none (.store t x y) ty rest st acc K := by
  refine ⟨[b], ⟨.v undef, [(b, .ent (.box T cells'))]⟩, fun o h2 h3 h4 => OpOK.eff [] [(b, .box T cells)] (fun i hi => ?_) (h2 ▸ (fun x hx => by cases hx)) (fun b e hb => by cases hb) (fun i e hi => ?_) (fun i s hi => ?_) (fun i s hi => ?_) (fun st' E S a w hev hhp hse _ hpre => ?_), next⟩
  · rcases hi with ⟨e, hi⟩ | ⟨e, hi⟩ | ⟨s, hi⟩
    · cases hi
    · simp at hi; simp [hi.1]
    · simp at hi; simp [hi.1]
  · simp at hi
    obtain ⟨rfl, rfl⟩ := hi
    exact ⟨hb, _, by simp; rfl⟩
  · simp at hi; obtain ⟨rfl, _⟩ := hi; exact .inl ⟨Ent.box T cells, by simp⟩
  · simp at hi; rw [hi.2]; rfl
  · obtain ⟨hv, _⟩ := hse.ev ((hev x (by simp [h3, Op.operands])).trans hx)
    obtain ⟨hu, hids⟩ := hse.ev ((hev y (by simp [h3, Op.operands])).trans hy)
    have hb' := hpre b (.box T cells) (by simp)
    obtain ⟨cs, hg, hall⟩ := hse.hp b _ hb'
    obtain ⟨us, hc, hallu, hone⟩ := AV0.has.cells hu h1
    have hlen := hall.length
    have hlu := hallu.length
    rw [Nat.ble_eq] at hl
    have hrun := run_store (P := P) (off := off) (n := n) hs hc (by omega) w hg (by omega) hone
    have hall' := All2.spl off hall hallu
    rw [hr] at hall'
    have hE := Eff.store (E := E) (S := S) (w := w) (b := b) (T := T) (cells := cells) (cells' := cells') (cs := cs) (cs' := spl cs off us) (r := .v undef) (v := undef) hse.lt (hse.blk b _ _ hb' rfl).1 hg rfl hall'
    refine ⟨⟨fun i hi => (by cases hi), fun i e hi j hj => ?_⟩, fun K Q hK => ?_⟩
    · simp at hi
      obtain ⟨rfl, rfl⟩ := hi
      have hj' : j ∈ (cells.flatMap Atom.ids) ∨ j ∈ v.cells.flatMap Atom.ids := by
        subst hr
        obtain ⟨c, hc1, hc2⟩ := List.mem_flatMap.1 hj
        rw [spl_eq _ _ _ (by omega)] at hc1
        simp only [List.mem_append] at hc1
        rcases hc1 with (hc1 | hc1) | hc1
        · exact .inl (List.mem_flatMap.2 ⟨c, List.mem_of_mem_take hc1, hc2⟩)
        · exact .inr (List.mem_flatMap.2 ⟨c, hc1, hc2⟩)
        · exact .inl (List.mem_flatMap.2 ⟨c, List.mem_of_mem_drop hc1, hc2⟩)
      by_cases e : j = i
      · subst e; simp [updL, Slot.used]
      · simp only [updL]; rw [upd_ne _ _ e]
        rcases hj' with h5 | h5
        · exact hse.hid i _ hb' j h5
        · exact hids j (by rw [AV0.ids_cells] at h5; exact h5)
    · unfold Oper.wp execOp
      rw [h3]
      simp only [show a.eval x = _ from hv, Instr.storeAt, Instr.sureAddr, Sem.run_bind, Sem.run_pure, Result.andThen_ok, hrun]
      have := hK undef _ _ _ hE
      exact this
theorem Go1.fieldAddr {b off f o1 : Nat} [ht : TField P t f o1] (hd : dstOK (some d) C.nt = true) (hx : st.ev x = some (.ptr b off))
    (next : Reg P C ops rest (st.app (some d) ⟨.ptr b (off + o1), []⟩) (([], []) :: acc) K) : Go1 P C ops (some d) (.fieldAddr t x f) ty rest st acc K :=
  Go1.pureV [] [] (by simp) hd (by simp) (fun o ho _ st' E S a w hev hs hrd => by
    obtain ⟨hv, hids⟩ := hs.ev ((hev x (by simp [ho, Op.operands])).trans hx)
    obtain ⟨ft, h1, h2⟩ := ht.h
    obtain ⟨dd, hd1, hd2⟩ := Option.bind_eq_some_iff.1 h1
    obtain ⟨i, hi, hz⟩ := Option.map_eq_some_iff.1 h2
    refine ⟨fun i hi => hids i hi, .pointer (some ⟨E.blk b, off + o1, none⟩), ?_, rfl⟩
    cases dd <;> simp [fieldOf] at hd2
    rename_i fs
    obtain ⟨fd, hfd, he1, he2⟩ := hd2
    subst he1 he2
    unfold execOp; rw [ho]
    have hsz : (Go.sizeOf fd.type).run P w = .ok i.size w := by simp [Go.sizeOf, typeInfo, hi]
    simp [show a.eval x = _ from hv, Instr.fieldAt, Instr.sureAddr, run_underlying hd1, hfd, fieldPlace, hsz]
    simp at hz
    simp [hz, Addr.add_lit]) next
end
end SX

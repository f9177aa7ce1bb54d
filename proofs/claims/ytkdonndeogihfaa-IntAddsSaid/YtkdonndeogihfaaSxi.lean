import Derived.Test.YtkdonndeogihfaaSxh
/- Slices that nobody of the call writes: what they stand for. No program in sight. -/
set_option linter.unusedVariables false
set_option linter.unusedSimpArgs false
namespace SX
open Go Go.RowKit

/-- A slice of so many elements, each of so many cells. -/
def sliceR (size n : Nat) (cells : List CA) : Rep where
  has S w v := ∃ oa cap, v = .slice oa n cap ∧ n ≤ cap ∧ cap ≤ maxLen ∧ (oa = none → cap = 0) ∧ cells.length = n * size ∧
    ∀ i c, cells[i]? = some c → ∃ b o u, oa = some ⟨b, o, none⟩ ∧ ¬ S b ∧ w.cell? ⟨b, o + i, none⟩ = some u ∧ c.has S w u
  one h := by obtain ⟨oa, cap, rfl, _⟩ := h; rfl
  step h ho hs := by
    obtain ⟨oa, cap, h1, h2, h3, h4, h5, h6⟩ := h
    refine ⟨oa, cap, h1, h2, h3, h4, h5, fun i c hc => ?_⟩
    obtain ⟨b, o, u, e1, e2, e3, e4⟩ := h6 i c hc
    have hb := World.block_lt_of_cell? _ _ e3
    exact ⟨b, o, u, e1, fun h => (hs b h).elim e2 (fun h => by simp at hb; omega), ho.cell e2 e3, e4.step ho hs⟩
theorem sliceR_iff {size n : Nat} {cells : List CA} {S : Nat → Prop} {w : World} {v : Value} : (sliceR size n cells).has S w v ↔ ∃ oa cap, v = .slice oa n cap ∧ n ≤ cap ∧ cap ≤ maxLen ∧ (oa = none → cap = 0) ∧ cells.length = n * size ∧
    ∀ i c, cells[i]? = some c → ∃ b o u, oa = some ⟨b, o, none⟩ ∧ ¬ S b ∧ w.cell? ⟨b, o + i, none⟩ = some u ∧ c.has S w u := Iff.rfl
/-- A pointer to cells. -/
def ptrR (cells : List CA) : Rep where
  has S w v := ∃ b o, v = .pointer (some ⟨b, o, none⟩) ∧ ∀ i c, cells[i]? = some c → ∃ u, ¬ S b ∧ w.cell? ⟨b, o + i, none⟩ = some u ∧ c.has S w u
  one h := by obtain ⟨b, o, rfl, _⟩ := h; rfl
  step h ho hs := by
    obtain ⟨b, o, h1, h6⟩ := h
    refine ⟨b, o, h1, fun i c hc => ?_⟩
    obtain ⟨u, e2, e3, e4⟩ := h6 i c hc
    have hb := World.block_lt_of_cell? _ _ e3
    exact ⟨u, fun h => (hs b h).elim e2 (fun h => by simp at hb; omega), ho.cell e2 e3, e4.step ho hs⟩
theorem ptrR_iff {cells : List CA} {S : Nat → Prop} {w : World} {v : Value} : (ptrR cells).has S w v ↔ ∃ b o, v = .pointer (some ⟨b, o, none⟩) ∧ ∀ i c, cells[i]? = some c → ∃ u, ¬ S b ∧ w.cell? ⟨b, o + i, none⟩ = some u ∧ c.has S w u := Iff.rfl
section
variable {P : Program} {C : Ctx} {st : St}
variable {ops rest : List Oper} {acc : List (List Nat × List Nat)} {K : List (List Nat × List Nat) → St → Prop} {dst : Option Tmp} {ty t : TypeId} {x y : Operand}
class TSlice (P : Program) (t : TypeId) (e : outParam TypeId) (size : outParam Nat) : Prop where
  h : P.underlying t = some (.slice e)
  s : (P.info? e).map (·.size) = some size
  p : 0 < size
class TStr (P : Program) (t : TypeId) : Prop where
  h : P.underlying t = some .string
/-- A struct's places: where each field lies, and how many cells it takes. -/
def structPl (P : Program) (t : TypeId) : Option (List (Nat × Option Nat)) :=
  match P.underlying t with
  | some (.struct fs) => some (fs.toList.map fun f => (f.offset, (P.info? f.type).map (·.size)))
  | _ => none
class TStruct (P : Program) (t : TypeId) (pl : outParam (List (Nat × Nat))) : Prop where
  h : structPl P t = some (pl.map fun p => (p.1, some p.2))
/-- An element's zero, and its bytes. -/
class TElem (P : Program) (e : TypeId) (zero : outParam (List Value)) (bytes : outParam Nat) : Prop where
  h : (P.info? e).map (fun i => (i.zero.map (·.cells), i.bytes)) = some (some zero.toArray, bytes)
/-- What stands for a slice of so many elements. -/
class AsSlice (r : Rep) (size n : outParam Nat) (cells : outParam (List CA)) : Prop where
  h : ∀ S w v, r.has S w v → (sliceR size n cells).has S w v
instance (size n : Nat) (cells : List CA) : AsSlice (sliceR size n cells) size n cells := ⟨fun _ _ _ h => h⟩
/-- len of a slice; of a text. -/
theorem Go1.lenR {e : TypeId} {size sz n : Nat} {cells : List CA} {r : Rep} [ht : TSlice P t e sz] [hr : AsSlice r size n cells] (hd : dstOK dst C.nt = true) (hx : st.ev x = some (.r r))
    (next : Reg P C ops rest (st.app dst ⟨.v (.int .i64 (n : Int)), []⟩) (([], []) :: acc) K) : Go1 P C ops dst (.call ⟨.builtin .len, #[x], #[t]⟩) ty rest st acc K :=
  Go1.pureV [] [] (by simp) hd (by simp) (fun o ho _ st' E S a w hev hs _ => by
    obtain ⟨hx1, _⟩ := hs.ev ((hev x (by simp [ho, Op.operands, Call.operands])).trans hx)
    obtain ⟨oa, cap, hv, _⟩ := hr.h _ _ _ hx1
    refine ⟨fun i hi => (by cases hi), .int .i64 (n : Int), ?_, rfl⟩
    unfold execOp; rw [ho]
    simp [resolve, invoke, builtin, Builtin.len_, run_underlying ht.h, hv, goInt]) next
theorem Go1.lenN {e : TypeId} {sz : Nat} {oa : Option Addr} {n cap : Nat} [ht : TSlice P t e sz] (hd : dstOK dst C.nt = true) (hx : st.ev x = some (.v (.slice oa n cap)))
    (next : Reg P C ops rest (st.app dst ⟨.v (.int .i64 (n : Int)), []⟩) (([], []) :: acc) K) : Go1 P C ops dst (.call ⟨.builtin .len, #[x], #[t]⟩) ty rest st acc K :=
  Go1.pureV [] [] (by simp) hd (by simp) (fun o ho _ st' E S a w hev hs _ => by
    have hv : a.eval x = .slice oa n cap := (hs.ev ((hev x (by simp [ho, Op.operands, Call.operands])).trans hx)).1
    refine ⟨fun i hi => (by cases hi), .int .i64 (n : Int), ?_, rfl⟩
    unfold execOp; rw [ho]
    simp [resolve, invoke, builtin, Builtin.len_, run_underlying ht.h, hv, goInt]) next
theorem Go1.lenS {s : ByteArray} [ht : TStr P t] (hd : dstOK dst C.nt = true) (hx : st.ev x = some (.v (.string s)))
    (next : Reg P C ops rest (st.app dst ⟨.v (.int .i64 (s.size : Int)), []⟩) (([], []) :: acc) K) : Go1 P C ops dst (.call ⟨.builtin .len, #[x], #[t]⟩) ty rest st acc K :=
  Go1.pureV [] [] (by simp) hd (by simp) (fun o ho _ st' E S a w hev hs _ => by
    have hv : a.eval x = .string s := (hs.ev ((hev x (by simp [ho, Op.operands, Call.operands])).trans hx)).1
    refine ⟨fun i hi => (by cases hi), .int .i64 (s.size : Int), ?_, rfl⟩
    unfold execOp; rw [ho]
    simp [resolve, invoke, builtin, Builtin.len_, run_underlying ht.h, hv, goInt]) next
/-- The place of an element. -/
theorem Go1.indexAddrR {e : TypeId} {size n i : Nat} {k : IntKind} {cells : List CA} {r : Rep} [ht : TSlice P t e size] [hr : AsSlice r size n cells] (hd : dstOK dst C.nt = true) (hx : st.ev x = some (.r r)) (hy : st.ev y = some (.v (.int k (i : Int)))) (hi : i < n)
    (next : Reg P C ops rest (st.app dst ⟨.r (ptrR ((cells.drop (i * size)).take size)), []⟩) (([], []) :: acc) K) : Go1 P C ops dst (.indexAddr t x y) ty rest st acc K :=
  Go1.pureV [] [] (by simp) hd (by simp) (fun o ho _ st' E S a w hev hs _ => by
    obtain ⟨hx1, _⟩ := hs.ev ((hev x (by simp [ho, Op.operands])).trans hx)
    obtain ⟨oa, cap, hv, h2, h3, h4, h5, h6⟩ := hr.h _ _ _ hx1
    have hyv : a.eval y = .int k (i : Int) := (hs.ev ((hev y (by simp [ho, Op.operands])).trans hy)).1
    have hsz := run_sizeOf ht.s w
    have h0 := ht.p
    obtain ⟨b, o', u, e1, e2, e3, e4⟩ := h6 (i * size) (cells[i * size]'(by rw [h5]; exact Nat.mul_lt_mul_of_pos_right hi h0)) (by simp)
    subst e1
    refine ⟨fun j hj => (by cases hj), .pointer (some ⟨b, o' + i * size, none⟩), ?_, b, o' + i * size, rfl, fun j c hc => ?_⟩
    · unfold execOp; rw [ho]
      simp [hv, hyv, Instr.indexAt, asIntOf, run_underlying ht.h, hsz, Addr.add_lit, hi]
    · rw [List.getElem?_take] at hc
      split at hc
      · rw [List.getElem?_drop] at hc
        obtain ⟨b', o'', u', g1, g2, g3, g4⟩ := h6 _ c hc
        simp at g1
        obtain ⟨rfl, rfl⟩ := g1
        exact ⟨u', g2, by rw [Nat.add_assoc]; exact g3, g4⟩
      · cases hc) next
variable {d : Tmp}
theorem ptr_vals {E : Env} {S : Nat → Prop} {w : World} {b : Nat} : ∀ (l : List CA) (o'' : Nat), (∀ (i : Nat) (c : CA), l[i]? = some c → ∃ u, ¬ S b ∧ w.cell? ⟨b, o'' + i, none⟩ = some u ∧ c.has S w u) →
    ∃ us : List Value, All2 (Atom.has E S w) (l.map Atom.c) us ∧ ∀ j u, us[j]? = some u → w.cell? ((⟨b, o'', none⟩ : Addr).add j) = some u
  | [], _, _ => ⟨[], trivial, by simp⟩
  | c' :: l, o'', h => by
    obtain ⟨u', k1, k2, k3⟩ := h 0 c' (by simp)
    obtain ⟨us, k4, k5⟩ := ptr_vals (E := E) l (o'' + 1) (fun i c hi => by have := h (i + 1) c (by simpa using hi); rwa [show o'' + (i + 1) = o'' + 1 + i by omega] at this)
    refine ⟨u' :: us, ⟨k3, k4⟩, fun j u hj => ?_⟩
    cases j with
    | zero => simp at hj; subst hj; rw [Addr.add_lit]; exact k2
    | succ j =>
      have := k5 j u (by simpa using hj)
      rw [Addr.add_lit] at *
      rwa [show o'' + (j + 1) = o'' + 1 + j by omega]
/-- What stands behind a pointer is read. -/
theorem Go1.loadRAgg {n : Nat} {cells : List CA} [ht : TAgg P t n] (hd : dstOK dst C.nt = true) (hx : st.ev x = some (.r (ptrR cells))) (hl : cells.length = n)
    (next : Reg P C ops rest (st.app dst ⟨.agg (cells.map Atom.c), []⟩) (([], []) :: acc) K) : Go1 P C ops dst (.load t x) ty rest st acc K :=
  Go1.pureV [] [] (by simp) hd (by simp) (fun o ho _ st' E S a w hev hs _ => by
    obtain ⟨⟨b, o', hv, h6⟩, _⟩ := hs.ev ((hev x (by simp [ho, Op.operands])).trans hx)
    have hex := ptr_vals (E := E) cells o' h6
    obtain ⟨us, hall, hus⟩ := hex
    have hlen := hall.length
    have hrun := run_loadCells_list (P := P) w ⟨b, o', none⟩ us hus
    have hsz : (P.info? t).map (·.size) = some us.length := by rw [ht.s, ← hl]; simp at hlen; rw [hlen]
    refine ⟨fun j hj => ?_, .agg us.toArray, ?_, us, rfl, hall⟩
    · simp only [AV.ids, AV0.ids, List.mem_flatMap] at hj
      obtain ⟨c, hc, hj⟩ := hj
      obtain ⟨c', _, rfl⟩ := List.mem_map.1 hc
      cases hj
    · unfold execOp; rw [ho]
      simp [hv, Instr.loadAt, Instr.sureAddr, loadVar, run_isAgg ht.h, run_sizeOf hsz, hrun]) next
theorem Go1.loadR2 {c1 c2 : CA} {cells : List CA} [ht : TAgg P t 2] (hd : dstOK dst C.nt = true) (hx : st.ev x = some (.r (ptrR cells))) (hl : cells = [c1, c2])
    (next : Reg P C ops rest (st.app dst ⟨.agg [.c c1, .c c2], []⟩) (([], []) :: acc) K) : Go1 P C ops dst (.load t x) ty rest st acc K := by
  subst hl; exact Go1.loadRAgg hd hx rfl next
theorem Go1.loadR3 {c1 c2 c3 : CA} {cells : List CA} [ht : TAgg P t 3] (hd : dstOK dst C.nt = true) (hx : st.ev x = some (.r (ptrR cells))) (hl : cells = [c1, c2, c3])
    (next : Reg P C ops rest (st.app dst ⟨.agg [.c c1, .c c2, .c c3], []⟩) (([], []) :: acc) K) : Go1 P C ops dst (.load t x) ty rest st acc K := by
  subst hl; exact Go1.loadRAgg hd hx rfl next
theorem Go1.loadR4 {c1 c2 c3 c4 : CA} {cells : List CA} [ht : TAgg P t 4] (hd : dstOK dst C.nt = true) (hx : st.ev x = some (.r (ptrR cells))) (hl : cells = [c1, c2, c3, c4])
    (next : Reg P C ops rest (st.app dst ⟨.agg [.c c1, .c c2, .c c3, .c c4], []⟩) (([], []) :: acc) K) : Go1 P C ops dst (.load t x) ty rest st acc K := by
  subst hl; exact Go1.loadRAgg hd hx rfl next
theorem Go1.loadR1 {c : CA} {cells : List CA} [ht : TOne P t] (hd : dstOK dst C.nt = true) (hx : st.ev x = some (.r (ptrR cells))) (hl : cells[0]? = some c)
    (next : Reg P C ops rest (st.app dst ⟨.it (.one (.c c)), []⟩) (([], []) :: acc) K) : Go1 P C ops dst (.load t x) ty rest st acc K :=
  Go1.pureV [] [] (by simp) hd (by simp) (fun o ho _ st' E S a w hev hs _ => by
    obtain ⟨⟨b, o', hv, h6⟩, _⟩ := hs.ev ((hev x (by simp [ho, Op.operands])).trans hx)
    obtain ⟨u, g1, g2, g3⟩ := h6 0 c hl
    refine ⟨fun j hj => (by cases hj), u, ?_, g3⟩
    unfold execOp; rw [ho]
    have g2' : w.cell? ⟨b, o', none⟩ = some u := g2
    simp [hv, Instr.loadAt, Instr.sureAddr, loadVar, run_isAgg ht.h, g2']) next
theorem Go1.fieldAddrR {f o1 : Nat} {cells : List CA} [ht : TField P t f o1] (hd : dstOK dst C.nt = true) (hx : st.ev x = some (.r (ptrR cells)))
    (next : Reg P C ops rest (st.app dst ⟨.r (ptrR (cells.drop o1)), []⟩) (([], []) :: acc) K) : Go1 P C ops dst (.fieldAddr t x f) ty rest st acc K :=
  Go1.pureV [] [] (by simp) hd (by simp) (fun o ho _ st' E S a w hev hs _ => by
    obtain ⟨⟨b, o', hv, h6⟩, _⟩ := hs.ev ((hev x (by simp [ho, Op.operands])).trans hx)
    obtain ⟨ft, h1, h2⟩ := ht.h
    obtain ⟨dd, hd1, hd2⟩ := Option.bind_eq_some_iff.1 h1
    obtain ⟨i, hi, hz⟩ := Option.map_eq_some_iff.1 h2
    refine ⟨fun j hj => (by cases hj), .pointer (some ⟨b, o' + o1, none⟩), ?_, b, o' + o1, rfl, fun i c hc => ?_⟩
    · cases dd <;> simp [fieldOf] at hd2
      rename_i fs
      obtain ⟨fd, hfd, he1, he2⟩ := hd2
      subst he1 he2
      unfold execOp; rw [ho]
      have hsz : (Go.sizeOf fd.type).run P w = .ok i.size w := by simp [Go.sizeOf, typeInfo, hi]
      simp [hv, Instr.fieldAt, Instr.sureAddr, run_underlying hd1, hfd, fieldPlace, hsz]
      simp at hz
      simp [hz, Addr.add_lit]
    · rw [List.getElem?_drop] at hc
      obtain ⟨u, g1, g2, g3⟩ := h6 _ c hc
      exact ⟨u, g1, by rw [Nat.add_assoc]; exact g2, g3⟩) next
end
attribute [irreducible] sliceR ptrR
end SX

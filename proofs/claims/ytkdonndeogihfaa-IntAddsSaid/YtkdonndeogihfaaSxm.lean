import Derived.Test.YtkdonndeogihfaaSxl
import Derived.Laws.AppendOwnNone
/- Rows of the call's own: the rules. No program in sight. -/
set_option linter.unusedVariables false
set_option linter.unusedSimpArgs false
namespace SX
open Go Go.RowKit
section
variable {P : Program}
theorem off_grown {w w' : World} {row : Option Nat} {S : Nat → Prop} (h : w.grownBy w' row) (hr : ∀ k, row = some k → S k) : Off S w w' :=
  ⟨h.os, h.tape, h.output, h.size, fun k hk hn => h.block k hk (fun e => hn (hr k e.symm))⟩
/-- A row that is new, or stands for one that was there. -/
theorem Eff.row {E : Env} {S : Nat → Prop} {w w' : World} {b : Nat} {T : TypeId} {size n : Nat} {cells : List CA} {vs : List Value} {v : Value} {pre : List (Nat × Ent)} {gones : List (Nat × Slot)}
    (hl : ∀ k, S k → k < w.heap.size) (hS : ∀ c e k, (c, e) ∈ pre → e.blk E c = some k → S k) (hnot : ∀ e, (b, e) ∉ pre) (hg : ∀ c s, (c, s) ∈ gones → s = .gone ∧ ∃ e, (c, e) ∈ pre)
    (ho : Off (fun k => ∃ c e, (c, e) ∈ pre ∧ e.blk E c = some k) w w') (hown : w'.ownsRow 0 T size v n vs) (hcs : All2 (CA.has S w) cells vs)
    (hb : ∀ k, v.ownBlock = some k → (∃ c e, (c, e) ∈ pre ∧ e.blk E c = some k) ∨ w.heap.size ≤ k) :
    Eff E S w pre ⟨.own b, gones ++ [(b, .ent (.row T size n cells))]⟩ v w' ⟨E.blk, upd E.sl b v⟩ (fun k => S k ∨ v.ownBlock = some k) := by
  have hone : v.oneCell' = true := by
    rcases hown.2 with ⟨rfl, _⟩ | ⟨_, _, _, rfl, _⟩ <;> rfl
  have hSS : ∀ k, (S k ∨ v.ownBlock = some k) → S k ∨ w.heap.size ≤ k := fun k hk => hk.elim .inl fun hk => (hb k hk).imp (fun ⟨c, e, h1, h2⟩ => hS c e k h1 h2) id
  have hoS : Off S w w' := ho.mono fun k ⟨c, e, h1, h2⟩ => hS c e k h1 h2
  have hent : ∀ i e, (i, Slot.ent e) ∈ gones ++ [(b, Slot.ent (Ent.row T size n cells))] → i = b ∧ e = .row T size n cells := by
    intro i e hi
    rcases List.mem_append.1 hi with hi | hi
    · have := (hg _ _ hi).1; cases this
    · simp at hi; exact hi
  refine
    { env := fun i hi => ?_, sub := fun k hk => .inl hk, new := hSS, lt := fun k hk => ?_, off := ho, res := ⟨by show v = upd E.sl b v b; rw [upd_same], hone⟩,
      ents := fun i e hi => ?_, blk := fun i e k hi hk => ?_, sep := fun i i' e e' k hne h1 h2 => ?_ }
  · by_cases e : i = b
    · subst e
      obtain ⟨e, he⟩ := hi ⟨_, by simp; exact .inr rfl⟩
      exact absurd he (hnot e)
    · exact ⟨rfl, upd_ne _ _ e⟩
  · rcases hk with hk | hk
    · exact Nat.lt_of_lt_of_le (hl k hk) ho.size
    · exact (hown.lt k hk).2
  · obtain ⟨rfl, rfl⟩ := hent i e hi
    refine ⟨vs, ?_, hcs.mono fun a u _ hau => hau.step hoS hSS⟩
    show w'.ownsRow 0 T size (upd E.sl i v i) n vs
    rw [upd_same]; exact hown
  · obtain ⟨rfl, rfl⟩ := hent i e hi
    have hk' : v.ownBlock = some k := by
      have : (upd E.sl i v i).ownBlock = some k := hk
      rwa [upd_same] at this
    exact ⟨.inr hk', hb k hk'⟩
  · exact absurd ((hent i e h1).1.trans (hent i' e' h2).1.symm) hne
end
section
variable {P : Program} {C : Ctx} {st : St}
variable {ops rest : List Oper} {acc : List (List Nat × List Nat)} {K : List (List Nat × List Nat) → St → Prop} {d : Tmp} {op : Op} {ty t : TypeId} {x y : Operand}
/-- A new row. -/
theorem OpOK.newRow {o : Oper} {d : Tmp} {T : TypeId} {size n : Nat} {cells : List CA} (hdst : o.dst = some d) (hd : dstOK (some d) C.nt = true) (hf : st.hp d = .free) (rd : List (Nat × Ent)) (hrd : ∀ b e, (b, e) ∈ rd → st.hp b = .ent e)
    (h : ∀ st' E S a w, (∀ x ∈ o.op.operands, st'.ev x = st.ev x) → SatE C st' E S a w → (∀ b e, (b, e) ∈ rd → st'.hp b = .ent e) →
      ∃ v w' vs, (execOp a.eval o).run P w = .ok (.value v) w' ∧ w'.ownsRow 0 T size v n vs ∧ Off none' w w' ∧ (∀ k, v.ownBlock = some k → w.heap.size ≤ k) ∧ All2 (CA.has S w) cells vs) :
    OpOK P C o st (d :: rd.map (·.1)) ⟨.own d, [(d, .ent (.row T size n cells))]⟩ := by
  refine OpOK.eff rd [] (fun b hb => ?_) (hdst ▸ dstOK_spec hd) hrd (fun b e hb => by cases hb) (fun b s hb => ?_) (fun b s hb => ?_) (fun st' E S a w hev hhp hs hrd' _ => ?_)
  · rcases hb with ⟨e, hb⟩ | ⟨e, hb⟩ | ⟨s, hb⟩
    · exact List.mem_cons_of_mem _ (List.mem_map.2 ⟨_, hb, rfl⟩)
    · cases hb
    · simp at hb; simp [hb.1]
  · simp at hb; rw [hb.1]; exact .inr hf
  · simp at hb; rw [hb.2]; rfl
  · obtain ⟨v, w', vs, hr, hown, ho, hb, hall⟩ := h st' E S a w hev hs hrd'
    refine ⟨⟨fun i hi => ?_, fun b e hb i hi => ?_⟩, fun K Q hK => ?_⟩
    · simp [AV.ids, AV0.ids, Atom.ids] at hi; subst hi; simp [updL, Slot.used]
    · simp at hb
      obtain ⟨rfl, rfl⟩ := hb
      cases hi
    · have hE := Eff.row (E := E) (S := S) (b := d) (pre := []) (gones := []) hs.lt (fun c e k h => by cases h) (fun e h => by cases h) (fun c s h => by cases h) (ho.mono fun k hk => hk.elim) hown hall (fun k hk => .inr (hb k hk))
      unfold Oper.wp
      rw [hr]
      exact hK _ _ _ _ hE
theorem elem_info {e : TypeId} {zs : List Value} {bytes size : Nat} (h : TElem P e zs bytes) (hs : (P.info? e).map (·.size) = some size) : ∃ i z, P.info? e = some i ∧ i.zero = some z ∧ z.cells = zs.toArray ∧ i.size = size ∧ i.bytes = bytes := by
  obtain ⟨i, hi, hn⟩ := Option.map_eq_some_iff.1 h.h
  obtain ⟨i', hi', hs'⟩ := Option.map_eq_some_iff.1 hs
  rw [hi] at hi'
  cases hi'
  simp only [Prod.mk.injEq] at hn
  obtain ⟨z, hz, hc⟩ := Option.map_eq_some_iff.1 hn.1
  exact ⟨i, z, hi, hz, hc, hs', hn.2⟩
theorem all2_replicate {S : Nat → Prop} {w : World} (z : Value) : ∀ n : Nat, All2 (CA.has S w) (List.replicate n (CA.val z)) (List.replicate n z)
  | 0 => trivial
  | n + 1 => ⟨rfl, all2_replicate z n⟩
/-- make, of elements of one cell. -/
theorem Go1.make {e : TypeId} {n bytes : Nat} {k k' : IntKind} {z : Value} [ht : TSlice P t e 1] [he : TElem P e [z] bytes] (hd : dstOK (some d) C.nt = true) (hx : st.ev x = some (.v (.int k (n : Int)))) (hy : st.ev y = some (.v (.int k' (n : Int)))) (hf : st.hp d = .free)
    (hb : n * bytes ≤ 140737488355328) (hm : n ≤ 9223372036854775807)
    (next : Reg P C ops rest (st.app (some d) ⟨.own d, [(d, .ent (.row e 1 n (List.replicate n (.val z))))]⟩) (([d], [d]) :: acc) K) : Go1 P C ops (some d) (.makeSlice t x y) ty rest st acc K :=
  ⟨[d], ⟨.own d, [(d, .ent (.row e 1 n (List.replicate n (.val z))))]⟩, fun o h2 h3 h4 => OpOK.newRow h2 hd hf [] (fun b e hb => by cases hb) (fun st' E S a w hev hs _ => by
    have hxv : a.eval x = .int k (n : Int) := (hs.ev ((hev x (by simp [h3, Op.operands])).trans hx)).1
    have hyv : a.eval y = .int k' (n : Int) := (hs.ev ((hev y (by simp [h3, Op.operands])).trans hy)).1
    obtain ⟨i, z', hi, hz, hc, hsz, hby⟩ := elem_info he ht.s
    obtain ⟨w', hrun, hown, hgr⟩ := run_make_full (P := P) w 0 t e i z' 1 ht.h hi hz hsz k k' n (by rw [hby, Nat.mul_comm]; omega) (by simp [maxLen]; omega) (Nat.zero_le _)
    refine ⟨.slice (some ⟨w.heap.size, 0, none⟩) n n, w', List.replicate n z, ?_, ?_, off_grown hgr (fun k hk => by cases hk), fun k hk => by simp [Value.ownBlock] at hk; omega, all2_replicate z n⟩
    · unfold execOp; rw [h3]; simp [hxv, hyv, hrun]
    · have hl : (madeCells z'.cells (n * 1)).toList = List.replicate n z := by rw [hc]; show (madeCells #[z] (n * 1)).toList = _; rw [toList_madeCells_one, Nat.mul_one]
      rw [← hl]; exact hown), next⟩
theorem fill_congr {p p' : Nat → Option (Nat × Nat)} : ∀ (l : List (Nat × Value)) (cs : Array Value), (∀ q ∈ l, p q.1 = p' q.1) → Instr.fill p cs l = Instr.fill p' cs l
  | [], _, _ => rfl
  | (i, v) :: l, cs, h => by
    unfold Instr.fill
    rw [h (i, v) (by simp)]
    cases hp : p' i with
    | none => rfl
    | some q =>
      obtain ⟨off, size⟩ := q
      simp only []
      split
      · rfl
      · exact fill_congr l _ (fun q hq => h q (by simp [hq]))
/-- The list of an inner slice's places. -/
def placesOf (n size : Nat) : List (Nat × Nat) := (List.range n).map fun i => (i * size, size)
/-- A slice written out. -/
theorem run_parts {o : Oper} {st' : St} {E : Env} {S : Nat → Prop} {a : Act} {w : World} {e : TypeId} {n size bytes : Nat} {zs : List Value} {parts : Array (Nat × Operand)} {ps : List (Nat × AV0)} {l : List Atom} {m : List CA} [ht : TSlice P t e size] [he : TElem P e zs bytes]
    (hs : SatE C st' E S a w) (h3 : o.op = .buildSlice t n parts) (hp' : evp st' parts.toList = some ps) (h1 : (ps.all fun p => p.2.cells.all Atom.oneB && Nat.blt p.1 n) = true) (hn : Nat.ble (n * size) 16777216 = true)
    (hfl : fillA (placesOf n size) ((madeCells zs.toArray (n * size)).toList.map fun v => Atom.c (.val v)) ps = some l) (hc : closedL l = some m) (hm : Nat.beq m.length (n * size) = true) :
    ∃ us : List Value, (execOp a.eval o).run P w = .ok (.value (.slice (some ⟨w.heap.size, 0, none⟩) n n)) (w.alloc (.cells us.toArray e)) ∧ us.length = n * size ∧ All2 (CA.has S w) m us ∧ n ≤ maxLen := by
    obtain ⟨hall, hids⟩ := evp_has hs hp'
    obtain ⟨i, z, hi, hz, hcz, hsz, hby⟩ := elem_info he ht.s
    rw [List.all_eq_true] at h1
    rw [Nat.ble_eq] at hn
    obtain ⟨us, hfill, hus⟩ := fill_has (w := w) (cs := (madeCells zs.toArray (n * size)).toList) hall (fun p hp => by have := h1 p hp; simp only [Bool.and_eq_true] at this; exact this.1) (all2_vals _) hfl
    have hlen : us.length = n * size := by
      have h6 := hus.length
      rw [closedL_spec hc] at h6
      simp at h6
      have := Nat.eq_of_beq_eq_true hm
      omega
    have hqi : ∀ q ∈ parts.toList.map (fun x => (x.1, a.eval x.2)), (fun i => (placesOf n size)[i]?) q.1 = (fun i => some (i * size, size)) q.1 := by
      intro q hq
      obtain ⟨j, hj⟩ := List.mem_iff_getElem?.1 hq
      obtain ⟨p, hpj, hpq, _⟩ := hall.get' hj
      have := h1 p (List.mem_of_getElem? hpj)
      simp only [Bool.and_eq_true, Nat.blt_eq] at this
      have hlt : q.1 < n := by rw [← hpq]; exact this.2
      simp [placesOf, hlt]
    rw [fill_congr (p := fun i => (placesOf n size)[i]?) (p' := fun i => some (i * size, size)) _ _ hqi] at hfill
    refine ⟨us, ?_, hlen, all2_closed (by rw [← closedL_spec hc]; exact hus), ?_⟩
    · unfold execOp; rw [h3]
      have hparts : (parts.map fun x => (x.1, a.eval x.2)).toList = parts.toList.map fun x => (x.1, a.eval x.2) := by simp
      have hgt : ¬ n * size > 2 ^ 24 := by omega
      simp only [Instr.buildSlice, Sem.run_bind, run_underlying ht.h, Result.andThen_ok, run_sizeOf ht.s, hparts]
      rw [if_neg hgt]
      by_cases h0 : n * size = 0
      · have he0 : (madeCells zs.toArray (n * size)).toList.toArray = (Array.range (n * size)).map ((#[] : Array Value)[· % (#[] : Array Value).size]!) := by rw [h0]; simp [madeCells]
        rw [he0] at hfill
        rw [if_pos h0]
        simp only [Sem.run_bind, Sem.run_pure, Result.andThen_ok]
        rw [hfill]
        simp [newRow]
      · have he0 : (madeCells zs.toArray (n * size)).toList.toArray = (Array.range (n * size)).map (zs.toArray[· % zs.toArray.size]!) := by rw [Array.toArray_toList]; rfl
        rw [he0] at hfill
        rw [if_neg h0]
        simp only [Sem.run_bind, Sem.run_pure, Result.andThen_ok, zeroValue, typeInfo, run_program, hi, hz, hcz]
        rw [hfill]
        simp [newRow]
    · by_cases h0 : n = 0
      · subst h0; simp [maxLen]
      · have := ht.p
        have h7 : n * 1 ≤ n * size := Nat.mul_le_mul_left _ this
        simp only [maxLen]; omega
theorem Go1.buildSlice {e : TypeId} {n size bytes : Nat} {zs : List Value} {parts : Array (Nat × Operand)} {ps : List (Nat × AV0)} {l : List Atom} {m : List CA} [ht : TSlice P t e size] [he : TElem P e zs bytes] (hd : dstOK (some d) C.nt = true) (hf : st.hp d = .free)
    (hp : evp st parts.toList = some ps) (h1 : (ps.all fun p => p.2.cells.all Atom.oneB && Nat.blt p.1 n) = true) (hn : Nat.ble (n * size) 16777216 = true)
    (hfl : fillA (placesOf n size) ((madeCells zs.toArray (n * size)).toList.map fun v => Atom.c (.val v)) ps = some l) (hc : closedL l = some m) (hm : Nat.beq m.length (n * size) = true)
    (next : Reg P C ops rest (st.app (some d) ⟨.own d, [(d, .ent (.row e size n m))]⟩) (([d], [d]) :: acc) K) : Go1 P C ops (some d) (.buildSlice t n parts) ty rest st acc K :=
  ⟨[d], ⟨.own d, [(d, .ent (.row e size n m))]⟩, fun o h2 h3 h4 => OpOK.newRow h2 hd hf [] (fun b e hb => by cases hb) (fun st' E S a w hev hs _ => by
    have hp' : evp st' parts.toList = some ps := by
      rw [evp_congr (fun x hx => hev x.2 (by rw [h3]; simp [Op.operands]; exact ⟨x.1, by simpa using hx⟩))]; exact hp
    obtain ⟨us, hrun, hlen, hall, hmx⟩ := run_parts (ht := ht) (he := he) hs h3 hp' h1 hn hfl hc hm
    exact ⟨_, _, us, hrun, ⟨hlen, .inr ⟨w.heap.size, n, us.toArray, rfl, Nat.zero_le _, heap_alloc_new w _, Nat.le_refl _, hmx, by simp [hlen], by simp [List.take_of_length_le (Nat.le_of_eq hlen)]⟩⟩, Off.alloc _ _ _, fun k hk => by simp [Value.ownBlock] at hk; omega, hall⟩), next⟩
/-- A written slice that nobody writes any more. -/
theorem Go1.buildSliceF {dst : Option Tmp} {e : TypeId} {n size bytes : Nat} {zs : List Value} {parts : Array (Nat × Operand)} {ps : List (Nat × AV0)} {l : List Atom} {m : List CA} [ht : TSlice P t e size] [he : TElem P e zs bytes] (hd : dstOK dst C.nt = true)
    (hp : evp st parts.toList = some ps) (h1 : (ps.all fun p => p.2.cells.all Atom.oneB && Nat.blt p.1 n) = true) (hn : Nat.ble (n * size) 16777216 = true)
    (hfl : fillA (placesOf n size) ((madeCells zs.toArray (n * size)).toList.map fun v => Atom.c (.val v)) ps = some l) (hc : closedL l = some m) (hm : Nat.beq m.length (n * size) = true)
    (next : Reg P C ops rest (st.app dst ⟨.r (sliceR size n m), []⟩) (([], []) :: acc) K) : Go1 P C ops dst (.buildSlice t n parts) ty rest st acc K := by
  refine ⟨[], ⟨.r (sliceR size n m), []⟩, fun o h2 h3 h4 => OpOK.eff [] [] (fun b hb => ?_) (h2 ▸ dstOK_spec hd) (fun b e hb => by cases hb) (fun b e hb => by cases hb) (fun b s hb => by cases hb) (fun b s hb => by cases hb) (fun st' E S a w hev hhp hs _ _ => ?_), next⟩
  · rcases hb with ⟨e, hb⟩ | ⟨e, hb⟩ | ⟨s, hb⟩ <;> cases hb
  · have hp' : evp st' parts.toList = some ps := by
      rw [evp_congr (fun x hx => hev x.2 (by rw [h3]; simp [Op.operands]; exact ⟨x.1, by simpa using hx⟩))]; exact hp
    obtain ⟨us, hrun, hlen, hall, hmx⟩ := run_parts (ht := ht) (he := he) hs h3 hp' h1 hn hfl hc hm
    refine ⟨⟨fun i hi => (by cases hi), fun b e hb => by cases hb⟩, fun K Q hK => ?_⟩
    unfold Oper.wp
    rw [hrun]
    refine hK _ _ E S { env := fun _ _ => ⟨rfl, rfl⟩, sub := fun _ h => h, new := fun _ h => .inl h, lt := fun k hk => Nat.lt_of_lt_of_le (hs.lt k hk) (by simp), off := Off.alloc _ _ _, res := ?_, ents := fun _ _ h => (by cases h), blk := fun _ _ _ h => (by cases h), sep := fun _ _ _ _ _ _ h => (by cases h) }
    refine sliceR_iff.2 ⟨_, _, rfl, Nat.le_refl _, hmx, (fun h => by cases h), (by rw [hall.length, hlen]), fun i c hc => ?_⟩
    obtain ⟨u, hu, huc⟩ := hall.get hc
    refine ⟨w.heap.size, 0, u, rfl, fun hS => absurd (hs.lt _ hS) (Nat.lt_irrefl _), ?_, huc.step (Off.alloc _ _ _) (fun k hk => .inl hk)⟩
    have hcell := cells_of_block (heap_alloc_new w (.cells us.toArray e)) 0 i u (by simpa using hu)
    simpa [Addr.add_lit] using hcell
end
end SX

import Derived.Test.YtfhpmbenldgfnaaGreatDoorM0
import Derived.Laws.OwnMore
import Derived.Laws.AppendOwnNone
import Derived.Laws.BytesString
/- Rows of the call's own: made, grown, read, written, given away; what a loop's head says. No program in sight. -/
set_option linter.unusedVariables false
set_option linter.unusedSimpArgs false
namespace SX
open Go Go.RowKit
section
variable {P : Program}
/-- The cells of closed atoms. -/
def closedL : List Atom → Option (List CA)
  | [] => some []
  | .c a :: l => match closedL l with | some m => some (a :: m) | none => none
  | _ :: _ => none
theorem closedL_spec : ∀ {l : List Atom} {m : List CA}, closedL l = some m → l = m.map Atom.c
  | [], m, h => by simp [closedL] at h; subst h; rfl
  | .c a :: l, m, h => by
    unfold closedL at h
    cases hl : closedL l with
    | none => simp [hl] at h
    | some m' => simp [hl] at h; subst h; simp [closedL_spec hl]
  | .ptr _ _ :: _, _, h => by simp [closedL] at h
  | .own _ :: _, _, h => by simp [closedL] at h
  | .rptr _ _ :: _, _, h => by simp [closedL] at h
  | .clo _ _ :: _, _, h => by simp [closedL] at h
  | .bnd _ _ :: _, _, h => by simp [closedL] at h
  | .rel _ _ :: _, _, h => by simp [closedL] at h
theorem all2_closed {E : Env} {S : Nat → Prop} {w : World} : ∀ {m : List CA} {vs : List Value}, All2 (Atom.has E S w) (m.map Atom.c) vs → All2 (CA.has S w) m vs
  | [], [], _ => trivial
  | _ :: _, _ :: _, h => ⟨h.1, all2_closed h.2⟩
  | [], _ :: _, h => h.elim
  | _ :: _, [], h => h.elim
theorem all2_open {E : Env} {S : Nat → Prop} {w : World} : ∀ {m : List CA} {vs : List Value}, All2 (CA.has S w) m vs → All2 (Atom.has E S w) (m.map Atom.c) vs
  | [], [], _ => trivial
  | _ :: _, _ :: _, h => ⟨h.1, all2_open h.2⟩
  | [], _ :: _, h => h.elim
  | _ :: _, [], h => h.elim
/-- Is it surely one cell? -/
def CA.oneB : CA → Bool
  | .val v => v.oneCell'
  | .sat _ => true
theorem ca_one {S : Nat → Prop} {w : World} : ∀ {m : List CA} {vs : List Value}, All2 (CA.has S w) m vs → m.all CA.oneB = true → ∀ u ∈ vs, u.oneCell' = true
  | [], [], _, _, u, hu => by simp at hu
  | a :: m, v :: vs, h, h1, u, hu => by
    simp only [List.all_cons, Bool.and_eq_true] at h1
    rcases List.mem_cons.1 hu with rfl | hu
    · cases a with
      | val x => rw [show u = x from h.1]; exact h1.1
      | sat r => exact r.one h.1
    · exact ca_one h.2 h1.2 u hu
  | [], _ :: _, h, _, _, _ => h.elim
  | _ :: _, [], h, _, _, _ => h.elim
/-- What append does to a row: it stays where it was, or is new. -/
theorem run_append_row (w : World) (t ty e : TypeId) (i : TypeInfo) (z : Value) (size bytes : Nat) (ht : P.underlying t = some (.slice e)) (hi : P.info? e = some i) (hz : i.zero = some z)
    (hsize : i.size = size) (hby : i.bytes = bytes) (hzs : z.cells.size = size)
    (v : Value) (n : Nat) (xs : List Value) (hown : w.ownsRow 0 e size v n xs)
    (a : Addr) (m c : Nat) (news : List Value) (hl : news.length = m * size) (hnews : ∀ j u, news[j]? = some u → w.cell? (a.add j) = some u) (h1 : ∀ u ∈ news, u.oneCell' = true)
    (h63 : n + m ≤ maxLen) (hbytes : (n + m) * bytes ≤ 140737488355328) :
    ∃ v' w', (Builtin.append_ #[t, t] ty #[v, .slice (some a) m c]).run P w = .ok v' w' ∧ w'.ownsRow 0 e size v' (n + m) (xs ++ news) ∧ w.grownBy w' v.ownBlock ∧ ∀ k, v'.ownBlock = some k → v.ownBlock = some k ∨ w.heap.size ≤ k := by
  subst hsize hby
  have hsmall : n + m ≤ 9223372036854775807 := by simp only [maxLen] at h63; omega
  have hlen : (xs ++ news).length = (n + m) * i.size := by rw [List.length_append, hown.1, hl, Nat.add_mul]
  have grown : ∀ (old : Nat), old < n + m → ∀ (row : Option Nat),
      (w.drew.alloc (.cells (xs.toArray ++ news.toArray ++ Builtin.zeroCells z.cells (grownCap w (n + m) old e - (n + m))) e)).ownsRow 0 e i.size
        (.slice (some ⟨w.heap.size, 0, none⟩) (n + m) (grownCap w (n + m) old e)) (n + m) (xs ++ news) ∧
      w.grownBy (w.drew.alloc (.cells (xs.toArray ++ news.toArray ++ Builtin.zeroCells z.cells (grownCap w (n + m) old e - (n + m))) e)) row := by
    intro old ho row
    have hge := grownCap_ge w (n + m) old e
    have hcm : grownCap w (n + m) old e ≤ maxLen := grownCap_le_maxLen w (n + m) old e h63
    refine ⟨⟨hlen, .inr ⟨w.heap.size, _, _, rfl, Nat.zero_le _, heap_alloc_new w.drew _, hge, hcm, ?_, ?_⟩⟩, ⟨rfl, rfl, rfl, by simp, fun k hk _ => Below.heap_alloc w.drew _ k hk⟩⟩
    · simp only [Array.size_append, List.size_toArray, size_zeroCells, hzs, hown.1, hl, ← Nat.add_mul]
      congr 1
      omega
    · simp only [Array.toList_append, List.append_assoc]
      rw [← List.append_assoc, ← hlen]
      exact List.take_left
  rcases hown.2 with ⟨rfl, rfl⟩ | ⟨g, cap, cur, rfl, _, hg, hnc, hcm, hcs, htake⟩
  · have hx : xs = [] := List.eq_nil_of_length_eq_zero (by simpa using hown.1)
    subst hx
    by_cases hm : m = 0
    · subst hm
      have hn : news = [] := List.eq_nil_of_length_eq_zero (by simpa using hl)
      subst hn
      refine ⟨.slice none 0 0, w, ?_, World.ownsRow_nil w 0 e i.size, ⟨rfl, rfl, rfl, Nat.le_refl _, fun _ _ _ => rfl⟩, fun k hk => by simp [Value.ownBlock] at hk⟩
      simp [Builtin.append_, run_underlying ht, Go.sizeOf, typeInfo, hi, Builtin.lenOf, Builtin.firstCells, loadCells, loadCellsFrom]
    · have hr := run_append_nil (P := P) w t ty e i z ht hi hz a m c news hl hnews (by omega) (by omega) (by have hb := hbytes; simp only [Nat.zero_add] at hb; omega)
      have hgr := grown 0 (by omega) (Value.ownBlock (.slice none 0 0))
      simp only [Nat.zero_add, List.nil_append, Array.empty_append] at hgr ⊢
      exact ⟨_, _, hr, hgr.1, hgr.2, fun k hk => .inr (by simp [Value.ownBlock] at hk; omega)⟩
  · by_cases hroom : n + m ≤ cap
    · have hfit : n * i.size + news.length ≤ cur.size := by rw [hl, hcs, ← Nat.add_mul]; exact Nat.mul_le_mul_right _ hroom
      have hr := run_append_room (P := P) w t ty e i ht hi g n cap cur hg a m c news hl hnews h1 hroom hfit
      refine ⟨_, _, hr, ⟨hlen, .inr ⟨g, cap, _, rfl, Nat.zero_le _, setRow_heap w g cur _ e _ hg, hroom, hcm, ?_, ?_⟩⟩, ⟨rfl, rfl, rfl, by simp, fun k _ hk => setRow_other w g k _ (fun e => hk (by simp [Value.ownBlock, e]))⟩, fun k hk => .inl hk⟩
      · simp only [List.size_toArray, List.length_append, List.length_take, List.length_drop, Array.length_toList]
        omega
      · rw [htake, ← hlen]
        exact List.take_left
    · have holds : ∀ j u, xs[j]? = some u → w.cell? ((⟨g, 0, none⟩ : Addr).add j) = some u := hown.cells (g := g) rfl
      have hr := run_append_grow (P := P) w t ty e i z ht hi hz ⟨g, 0, none⟩ n cap xs hown.1 holds a m c news hl hnews (by omega) (by omega) (growslice_fits (by omega) hbytes)
      have hgr := grown cap (by omega) (Value.ownBlock (.slice (some ⟨g, 0, none⟩) n cap))
      exact ⟨_, _, hr, hgr.1, hgr.2, fun k hk => .inr (by simp [Value.ownBlock] at hk; omega)⟩
end
end SX
/- Rows of the call's own: the rules. No program in sight. -/
set_option linter.unusedVariables false
set_option linter.unusedSimpArgs false
namespace SX
open Go Go.RowKit
section
variable {P : Program}
theorem off_grown {w w' : World} {row : Option Nat} {S : Nat → Prop} (h : w.grownBy w' row) (hr : ∀ k, row = some k → S k) : Off S w w' :=
  ⟨h.os, h.tape, h.output, h.size, fun k hk hn => h.block k hk (fun e => hn (hr k e.symm))⟩
/-- A row that is new, or stands for one that was there. -/
theorem Eff.row {E : Env} {S : Nat → Prop} {w w' : World} {b : Nat} {T : TypeId} {size n : Nat} {cells : List CA} {vs : List Value} {v : Value} {pre : List (Nat × Ent)} {gones : List (Nat × Slot)}
    (hl : ∀ k, S k → k < w.heap.size) (hS : ∀ c e k, (c, e) ∈ pre → e.at E c k → S k) (hnot : ∀ e, (b, e) ∉ pre) (hg : ∀ c s, (c, s) ∈ gones → s = .gone ∧ ∃ e, (c, e) ∈ pre)
    (ho : Off (fun k => ∃ c e, (c, e) ∈ pre ∧ e.at E c k) w w') (hown : w'.ownsRow 0 T size v n vs) (hcs : All2 (CA.has S w) cells vs)
    (hb : ∀ k, v.ownBlock = some k → (∃ c e, (c, e) ∈ pre ∧ e.at E c k) ∨ w.heap.size ≤ k) :
    Eff E S w pre ⟨.own b, gones ++ [(b, .ent (.row T size n cells))]⟩ v w' ⟨E.blk, upd E.sl b v, E.fp⟩ (fun k => S k ∨ v.ownBlock = some k) := by
  have hone : v.oneCell' = true := by
    rcases hown.2 with ⟨rfl, _⟩ | ⟨_, _, _, rfl, _⟩ <;> rfl
  have hSS : ∀ k, (S k ∨ v.ownBlock = some k) → S k ∨ w.heap.size ≤ k := fun k hk => hk.elim .inl fun hk => (hb k hk).imp (fun ⟨c, e, h1, h2⟩ => hS c e k h1 h2) id
  have hoS : Off S w w' := ho.mono fun k ⟨c, e, h1, h2⟩ => hS c e k h1 h2
  have hent : ∀ i e, (i, Slot.ent e) ∈ gones ++ [(b, Slot.ent (Ent.row T size n cells))] → i = b ∧ e = .row T size n cells := by
    intro i e hi
    rcases List.mem_append.1 hi with hi | hi
    · have := (hg _ _ hi).1; cases this
    · simp at hi; exact hi
  refine
    { env := fun i hi => ?_, fpe := fun _ _ => rfl, sub := fun k hk => .inl hk, new := hSS, lt := fun k hk => ?_, off := ho, res := ⟨by show v = upd E.sl b v b; rw [upd_same], hone⟩,
      ents := fun i e hi => ?_, blk := fun i e k hi hk => ?_, sep := fun i i' e e' k hne h1 h2 => ?_ }
  · by_cases e : i = b
    · subst e
      obtain ⟨e, he⟩ := hi ⟨_, by simp; exact .inr rfl⟩
      exact absurd he (hnot e)
    · exact ⟨rfl, upd_ne _ _ e⟩
  · rcases hk with hk | hk
    · exact Nat.lt_of_lt_of_le (hl k hk) ho.size
    · exact (hown.lt k hk).2
  · obtain ⟨rfl, rfl⟩ := hent i e hi
    refine ⟨vs, ?_, hcs.mono fun a u _ hau => hau.step hoS hSS⟩
    show w'.ownsRow 0 T size (upd E.sl i v i) n vs
    rw [upd_same]; exact hown
  · obtain ⟨rfl, rfl⟩ := hent i e hi
    have hk' : v.ownBlock = some k := by
      have : (upd E.sl i v i).ownBlock = some k := hk
      rwa [upd_same] at this
    exact ⟨.inr hk', hb k hk'⟩
  · exact absurd ((hent i e h1).1.trans (hent i' e' h2).1.symm) hne
end
section
variable {P : Program} {C : Ctx} {st : St}
variable {ops rest : List Oper} {acc : List (List Nat × List Nat)} {K : List (List Nat × List Nat) → St → Prop} {d : Tmp} {op : Op} {ty t : TypeId} {x y : Operand}
/-- A new row. -/
theorem OpOK.newRow {o : Oper} {d : Tmp} {T : TypeId} {size n : Nat} {cells : List CA} (hdst : o.dst = some d) (hd : dstOK (some d) C.nt = true) (hf : st.hp d = .free) (rd : List (Nat × Ent)) (hrd : ∀ b e, (b, e) ∈ rd → st.hp b = .ent e)
    (h : ∀ st' E S a w, (∀ x ∈ o.op.operands, st'.ev x = st.ev x) → SatE C st' E S a w → (∀ b e, (b, e) ∈ rd → st'.hp b = .ent e) →
      ∃ v w' vs, (execOp a.eval o).run P w = .ok (.value v) w' ∧ w'.ownsRow 0 T size v n vs ∧ Off none' w w' ∧ (∀ k, v.ownBlock = some k → w.heap.size ≤ k) ∧ All2 (CA.has S w) cells vs) :
    OpOK P C o st (d :: rd.map (·.1)) ⟨.own d, [(d, .ent (.row T size n cells))]⟩ := by
  refine OpOK.eff rd [] (fun b hb => ?_) (hdst ▸ dstOK_spec hd) hrd (fun b e hb => by cases hb) (fun b s hb => ?_) (fun b s hb => ?_) (fun st' E S a w hev hhp hs hrd' _ => ?_)
  · rcases hb with ⟨e, hb⟩ | ⟨e, hb⟩ | ⟨s, hb⟩
    · exact List.mem_cons_of_mem _ (List.mem_map.2 ⟨_, hb, rfl⟩)
    · cases hb
    · simp at hb; simp [hb.1]
  · simp at hb; rw [hb.1]; exact .inr hf
  · simp at hb; rw [hb.2]; rfl
  · obtain ⟨v, w', vs, hr, hown, ho, hb, hall⟩ := h st' E S a w hev hs hrd'
    refine ⟨⟨fun i hi => ?_, fun b e hb i hi => ?_⟩, fun K Q hK => ?_⟩
    · simp [AV.ids, AV0.ids, Atom.ids] at hi; subst hi; simp [updL, Slot.used]
    · simp at hb
      obtain ⟨rfl, rfl⟩ := hb
      cases hi
    · have hE := Eff.row (E := E) (S := S) (b := d) (pre := []) (gones := []) hs.lt (fun c e k h => by cases h) (fun e h => by cases h) (fun c s h => by cases h) (ho.mono fun k hk => hk.elim) hown hall (fun k hk => .inr (hb k hk))
      unfold Oper.wp
      rw [hr]
      exact hK _ _ _ _ hE
theorem elem_info {e : TypeId} {zs : List Value} {bytes size : Nat} (h : TElem P e zs bytes) (hs : (P.info? e).map (·.size) = some size) : ∃ i z, P.info? e = some i ∧ i.zero = some z ∧ z.cells = zs.toArray ∧ i.size = size ∧ i.bytes = bytes := by
  obtain ⟨i, hi, hn⟩ := Option.map_eq_some_iff.1 h.h
  obtain ⟨i', hi', hs'⟩ := Option.map_eq_some_iff.1 hs
  rw [hi] at hi'
  cases hi'
  simp only [Prod.mk.injEq] at hn
  obtain ⟨z, hz, hc⟩ := Option.map_eq_some_iff.1 hn.1
  exact ⟨i, z, hi, hz, hc, hs', hn.2⟩
theorem all2_replicate {S : Nat → Prop} {w : World} (z : Value) : ∀ n : Nat, All2 (CA.has S w) (List.replicate n (CA.val z)) (List.replicate n z)
  | 0 => trivial
  | n + 1 => ⟨rfl, all2_replicate z n⟩
/-- make, of elements of one cell. -/
theorem Go1.make {e : TypeId} {n bytes : Nat} {k k' : IntKind} {z : Value} [ht : TSlice P t e 1] [he : TElem P e [z] bytes] (hd : dstOK (some d) C.nt = true) (hx : st.ev x = some (.v (.int k (n : Int)))) (hy : st.ev y = some (.v (.int k' (n : Int)))) (hf : st.hp d = .free)
    (hb : n * bytes ≤ 140737488355328) (hm : n ≤ 9223372036854775807)
    (next : Reg P C ops rest (st.app (some d) ⟨.own d, [(d, .ent (.row e 1 n (List.replicate n (.val z))))]⟩) (([d], [d]) :: acc) K) : Go1 P C ops (some d) (.makeSlice t x y) ty rest st acc K :=
  ⟨[d], ⟨.own d, [(d, .ent (.row e 1 n (List.replicate n (.val z))))]⟩, fun o h2 h3 h4 => OpOK.newRow h2 hd hf [] (fun b e hb => by cases hb) (fun st' E S a w hev hs _ => by
    have hxv : a.eval x = .int k (n : Int) := (hs.ev ((hev x (by simp [h3, Op.operands])).trans hx)).1
    have hyv : a.eval y = .int k' (n : Int) := (hs.ev ((hev y (by simp [h3, Op.operands])).trans hy)).1
    obtain ⟨i, z', hi, hz, hc, hsz, hby⟩ := elem_info he ht.s
    obtain ⟨w', hrun, hown, hgr⟩ := run_make_full (P := P) w 0 t e i z' 1 ht.h hi hz hsz k k' n (by rw [hby, Nat.mul_comm]; omega) (by simp [maxLen]; omega) (Nat.zero_le _)
    refine ⟨.slice (some ⟨w.heap.size, 0, none⟩) n n, w', List.replicate n z, ?_, ?_, off_grown hgr (fun k hk => by cases hk), fun k hk => by simp [Value.ownBlock] at hk; omega, all2_replicate z n⟩
    · unfold execOp; rw [h3]; simp [hxv, hyv, hrun]
    · have hl : (madeCells z'.cells (n * 1)).toList = List.replicate n z := by rw [hc]; show (madeCells #[z] (n * 1)).toList = _; rw [toList_madeCells_one, Nat.mul_one]
      rw [← hl]; exact hown), next⟩
theorem fill_congr {p p' : Nat → Option (Nat × Nat)} : ∀ (l : List (Nat × Value)) (cs : Array Value), (∀ q ∈ l, p q.1 = p' q.1) → Instr.fill p cs l = Instr.fill p' cs l
  | [], _, _ => rfl
  | (i, v) :: l, cs, h => by
    unfold Instr.fill
    rw [h (i, v) (by simp)]
    cases hp : p' i with
    | none => rfl
    | some q =>
      obtain ⟨off, size⟩ := q
      simp only []
      split
      · rfl
      · exact fill_congr l _ (fun q hq => h q (by simp [hq]))
/-- The list of an inner slice's places. -/
def placesOf (n size : Nat) : List (Nat × Nat) := (List.range n).map fun i => (i * size, size)
/-- A slice written out. -/
theorem run_parts {o : Oper} {st' : St} {E : Env} {S : Nat → Prop} {a : Act} {w : World} {e : TypeId} {n size bytes : Nat} {zs : List Value} {parts : Array (Nat × Operand)} {ps : List (Nat × AV0)} {l : List Atom} {m : List CA} [ht : TSlice P t e size] [he : TElem P e zs bytes]
    (hs : SatE C st' E S a w) (h3 : o.op = .buildSlice t n parts) (hp' : evp st' parts.toList = some ps) (h1 : (ps.all fun p => p.2.cells.all Atom.oneB && Nat.blt p.1 n) = true) (hn : Nat.ble (n * size) 16777216 = true)
    (hfl : fillA (placesOf n size) ((madeCells zs.toArray (n * size)).toList.map fun v => Atom.c (.val v)) ps = some l) (hc : closedL l = some m) (hm : Nat.beq m.length (n * size) = true) :
    ∃ us : List Value, (execOp a.eval o).run P w = .ok (.value (.slice (some ⟨w.heap.size, 0, none⟩) n n)) (w.alloc (.cells us.toArray e)) ∧ us.length = n * size ∧ All2 (CA.has S w) m us ∧ n ≤ maxLen := by
    obtain ⟨hall, hids⟩ := evp_has hs hp'
    obtain ⟨i, z, hi, hz, hcz, hsz, hby⟩ := elem_info he ht.s
    rw [List.all_eq_true] at h1
    rw [Nat.ble_eq] at hn
    obtain ⟨us, hfill, hus⟩ := fill_has (w := w) (cs := (madeCells zs.toArray (n * size)).toList) hall (fun p hp => by have := h1 p hp; simp only [Bool.and_eq_true] at this; exact this.1) (all2_vals _) hfl
    have hlen : us.length = n * size := by
      have h6 := hus.length
      rw [closedL_spec hc] at h6
      simp at h6
      have := Nat.eq_of_beq_eq_true hm
      omega
    have hqi : ∀ q ∈ parts.toList.map (fun x => (x.1, a.eval x.2)), (fun i => (placesOf n size)[i]?) q.1 = (fun i => some (i * size, size)) q.1 := by
      intro q hq
      obtain ⟨j, hj⟩ := List.mem_iff_getElem?.1 hq
      obtain ⟨p, hpj, hpq, _⟩ := hall.get' hj
      have := h1 p (List.mem_of_getElem? hpj)
      simp only [Bool.and_eq_true, Nat.blt_eq] at this
      have hlt : q.1 < n := by rw [← hpq]; exact this.2
      simp [placesOf, hlt]
    rw [fill_congr (p := fun i => (placesOf n size)[i]?) (p' := fun i => some (i * size, size)) _ _ hqi] at hfill
    refine ⟨us, ?_, hlen, all2_closed (by rw [← closedL_spec hc]; exact hus), ?_⟩
    · unfold execOp; rw [h3]
      have hparts : (parts.map fun x => (x.1, a.eval x.2)).toList = parts.toList.map fun x => (x.1, a.eval x.2) := by simp
      have hgt : ¬ n * size > 2 ^ 24 := by omega
      simp only [Instr.buildSlice, Sem.run_bind, run_underlying ht.h, Result.andThen_ok, run_sizeOf ht.s, hparts]
      rw [if_neg hgt]
      by_cases h0 : n * size = 0
      · have he0 : (madeCells zs.toArray (n * size)).toList.toArray = (Array.range (n * size)).map ((#[] : Array Value)[· % (#[] : Array Value).size]!) := by rw [h0]; simp [madeCells]
        rw [he0] at hfill
        rw [if_pos h0]
        simp only [Sem.run_bind, Sem.run_pure, Result.andThen_ok]
        rw [hfill]
        simp [newRow]
      · have he0 : (madeCells zs.toArray (n * size)).toList.toArray = (Array.range (n * size)).map (zs.toArray[· % zs.toArray.size]!) := by rw [Array.toArray_toList]; rfl
        rw [he0] at hfill
        rw [if_neg h0]
        simp only [Sem.run_bind, Sem.run_pure, Result.andThen_ok, zeroValue, typeInfo, run_program, hi, hz, hcz]
        rw [hfill]
        simp [newRow]
    · by_cases h0 : n = 0
      · subst h0; simp [maxLen]
      · have := ht.p
        have h7 : n * 1 ≤ n * size := Nat.mul_le_mul_left _ this
        simp only [maxLen]; omega
theorem Go1.buildSlice {e : TypeId} {n size bytes : Nat} {zs : List Value} {parts : Array (Nat × Operand)} {ps : List (Nat × AV0)} {l : List Atom} {m : List CA} [ht : TSlice P t e size] [he : TElem P e zs bytes] (hd : dstOK (some d) C.nt = true) (hf : st.hp d = .free)
    (hp : evp st parts.toList = some ps) (h1 : (ps.all fun p => p.2.cells.all Atom.oneB && Nat.blt p.1 n) = true) (hn : Nat.ble (n * size) 16777216 = true)
    (hfl : fillA (placesOf n size) ((madeCells zs.toArray (n * size)).toList.map fun v => Atom.c (.val v)) ps = some l) (hc : closedL l = some m) (hm : Nat.beq m.length (n * size) = true)
    (next : Reg P C ops rest (st.app (some d) ⟨.own d, [(d, .ent (.row e size n m))]⟩) (([d], [d]) :: acc) K) : Go1 P C ops (some d) (.buildSlice t n parts) ty rest st acc K :=
  ⟨[d], ⟨.own d, [(d, .ent (.row e size n m))]⟩, fun o h2 h3 h4 => OpOK.newRow h2 hd hf [] (fun b e hb => by cases hb) (fun st' E S a w hev hs _ => by
    have hp' : evp st' parts.toList = some ps := by
      rw [evp_congr (fun x hx => hev x.2 (by rw [h3]; simp [Op.operands]; exact ⟨x.1, by simpa using hx⟩))]; exact hp
    obtain ⟨us, hrun, hlen, hall, hmx⟩ := run_parts (ht := ht) (he := he) hs h3 hp' h1 hn hfl hc hm
    exact ⟨_, _, us, hrun, ⟨hlen, .inr ⟨w.heap.size, n, us.toArray, rfl, Nat.zero_le _, heap_alloc_new w _, Nat.le_refl _, hmx, by simp [hlen], by simp [List.take_of_length_le (Nat.le_of_eq hlen)]⟩⟩, Off.alloc _ _ _, fun k hk => by simp [Value.ownBlock] at hk; omega, hall⟩), next⟩
/-- A written slice that nobody writes any more. -/
theorem Go1.buildSliceF {dst : Option Tmp} {e : TypeId} {n size bytes : Nat} {zs : List Value} {parts : Array (Nat × Operand)} {ps : List (Nat × AV0)} {l : List Atom} {m : List CA} [ht : TSlice P t e size] [he : TElem P e zs bytes] (hd : dstOK dst C.nt = true)
    (hp : evp st parts.toList = some ps) (h1 : (ps.all fun p => p.2.cells.all Atom.oneB && Nat.blt p.1 n) = true) (hn : Nat.ble (n * size) 16777216 = true)
    (hfl : fillA (placesOf n size) ((madeCells zs.toArray (n * size)).toList.map fun v => Atom.c (.val v)) ps = some l) (hc : closedL l = some m) (hm : Nat.beq m.length (n * size) = true)
    (next : Reg P C ops rest (st.app dst ⟨.r (sliceR size n m), []⟩) (([], []) :: acc) K) : Go1 P C ops dst (.buildSlice t n parts) ty rest st acc K := by
  refine ⟨[], ⟨.r (sliceR size n m), []⟩, fun o h2 h3 h4 => OpOK.eff [] [] (fun b hb => ?_) (h2 ▸ dstOK_spec hd) (fun b e hb => by cases hb) (fun b e hb => by cases hb) (fun b s hb => by cases hb) (fun b s hb => by cases hb) (fun st' E S a w hev hhp hs _ _ => ?_), next⟩
  · rcases hb with ⟨e, hb⟩ | ⟨e, hb⟩ | ⟨s, hb⟩ <;> cases hb
  · have hp' : evp st' parts.toList = some ps := by
      rw [evp_congr (fun x hx => hev x.2 (by rw [h3]; simp [Op.operands]; exact ⟨x.1, by simpa using hx⟩))]; exact hp
    obtain ⟨us, hrun, hlen, hall, hmx⟩ := run_parts (ht := ht) (he := he) hs h3 hp' h1 hn hfl hc hm
    refine ⟨⟨fun i hi => (by cases hi), fun b e hb => by cases hb⟩, fun K Q hK => ?_⟩
    unfold Oper.wp
    rw [hrun]
    refine hK _ _ E S { env := fun _ _ => ⟨rfl, rfl⟩, fpe := fun _ _ => rfl, sub := fun _ h => h, new := fun _ h => .inl h, lt := fun k hk => Nat.lt_of_lt_of_le (hs.lt k hk) (by simp), off := Off.alloc _ _ _, res := ?_, ents := fun _ _ h => (by cases h), blk := fun _ _ _ h => (by cases h), sep := fun _ _ _ _ _ _ h => (by cases h) }
    refine sliceR_iff.2 ⟨_, _, rfl, Nat.le_refl _, hmx, (fun h => by cases h), (by rw [hall.length, hlen]), fun i c hc => ?_⟩
    obtain ⟨u, hu, huc⟩ := hall.get hc
    refine ⟨w.heap.size, 0, u, rfl, fun hS => absurd (hs.lt _ hS) (Nat.lt_irrefl _), ?_, huc.step (Off.alloc _ _ _) (fun k hk => .inl hk)⟩
    have hcell := cells_of_block (heap_alloc_new w (.cells us.toArray e)) 0 i u (by simpa using hu)
    simpa [Addr.add_lit] using hcell
end
end SX
/- The rules of the symbolic run: shifts and bits; how a state is forgotten and renamed at a loop's head. No program in sight. -/
set_option linter.unusedVariables false
set_option linter.unusedSimpArgs false
namespace SX
open Go Go.RowKit
section
variable {P : Program} {C : Ctx} {st : St}
variable {ops rest : List Oper} {acc : List (List Nat × List Nat)} {K : List (List Nat × List Nat) → St → Prop} {dst : Option Tmp} {op : Op} {ty : TypeId}
variable {x y : Operand} {t t' : TypeId} {k k' : IntKind} {m n : Int}
end
/-- Looking up in a list. -/
def lk {α : Type} : List (Nat × α) → Nat → Option α
  | [], _ => none
  | (j, v) :: l, k => match Nat.beq j k with | true => some v | false => lk l k
theorem lk_mem {α : Type} : ∀ {l : List (Nat × α)} {k : Nat} {v : α}, lk l k = some v → (k, v) ∈ l
  | [], _, _, h => by cases h
  | (j, u) :: l, k, v, h => by
    unfold lk at h
    cases hj : Nat.beq j k with
    | true => simp only [hj] at h; have : j = k := by simpa using hj
              subst this; cases h; exact List.mem_cons_self
    | false => simp only [hj] at h; exact List.mem_cons_of_mem _ (lk_mem h)
/-- A state that is told by lists. -/
def mkSt (l : List (Nat × AV)) (m : List (Nat × Ent)) : St := ⟨fun t => lk l t, fun b => match lk m b with | some e => .ent e | none => .free⟩
/-- Where the new names come from: an old name, or a row of none. -/
def reEnv (ρ : List (Nat × Option Nat)) (E : Env) : Env :=
  ⟨fun b => match lk ρ b with | some (some o) => E.blk o | some none => 0 | none => E.blk b, fun b => match lk ρ b with | some (some o) => E.sl o | some none => .slice none 0 0 | none => E.sl b, fun b => match lk ρ b with | some (some o) => E.fp o | some none => fun _ => False | none => E.fp b⟩
def AVto (ρ : List (Nat × Option Nat)) (x y : AV) : Prop := ∀ E S w v, x.has E S w v → y.has (reEnv ρ E) S w v
theorem Atom.has.env {a : Atom} {E E' : Env} {S : Nat → Prop} {w : World} {v : Value} (h : a.has E S w v) (he : ∀ b ∈ a.ids, E.at' E' b) : a.has E' S w v := h.step he (Off.refl S w) (fun k hk => .inl hk)
theorem AV.has.env {a : AV} {E E' : Env} {S : Nat → Prop} {w : World} {v : Value} (h : a.has E S w v) (he : ∀ b ∈ a.ids, E.at' E' b) : a.has E' S w v := h.step he (Off.refl S w) (fun k hk => .inl hk)
/-- None of the names is changed. -/
def fresh (ρ : List (Nat × Option Nat)) (l : List Nat) : Bool := l.all fun b => (lk ρ b).isNone
theorem fresh_at {ρ : List (Nat × Option Nat)} {l : List Nat} (h : fresh ρ l = true) (E : Env) : ∀ b ∈ l, E.at' (reEnv ρ E) b := by
  intro b hb
  have := List.all_eq_true.1 h b hb
  have h2 : lk ρ b = none := by simpa using this
  exact ⟨by simp only [reEnv, h2], by simp only [reEnv, h2]⟩
theorem fresh_fp {ρ : List (Nat × Option Nat)} {l : List Nat} (h : fresh ρ l = true) (E : Env) : ∀ b ∈ l, (reEnv ρ E).fp b = E.fp b := by
  intro b hb
  have := List.all_eq_true.1 h b hb
  have h2 : lk ρ b = none := by simpa using this
  simp only [reEnv, h2]
theorem AVto.same {ρ : List (Nat × Option Nat)} {x : AV} (h : fresh ρ x.ids = true) : AVto ρ x x := fun E S w v hv => hv.env (fresh_at h E)
theorem AVto.eq {ρ : List (Nat × Option Nat)} {x y : AV} (e : x = y) (h : fresh ρ x.ids = true) : AVto ρ x y := e ▸ AVto.same h
theorem AVto.own {ρ : List (Nat × Option Nat)} {o b : Nat} (h : lk ρ b = some (some o)) : AVto ρ (.own o) (.own b) := fun E S w v hv => by
  obtain ⟨h1, h2⟩ := hv
  exact ⟨by simp only [reEnv, h]; exact h1, h2⟩
theorem AVto.nil {ρ : List (Nat × Option Nat)} {b : Nat} (h : lk ρ b = some none) : AVto ρ (.v (.slice none 0 0)) (.own b) := fun E S w v hv => by
  have hv' : v = .slice none 0 0 := hv
  subst hv'
  exact ⟨by simp only [reEnv, h], rfl⟩
/-- A block of the new state comes from one of the old. -/
inductive EntTo (st : St) (ρ : List (Nat × Option Nat)) (b : Nat) (e : Ent) : Prop where
  | old (o : Nat) (e0 : Ent) (ho : st.hp o = .ent e0) (hb : lk ρ b = some (some o) ∨ (lk ρ b = none ∧ o = b)) (hh : ∀ E S w, e0.has E S w o → e.has (reEnv ρ E) S w b) (hk : ∀ E, e.at (reEnv ρ E) b = e0.at E o)
  | nil (hb : lk ρ b = some none) (hh : ∀ E S w, e.has (reEnv ρ E) S w b) (hk : ∀ E k, ¬ e.at (reEnv ρ E) b k)
theorem EntTo.same {st : St} {ρ : List (Nat × Option Nat)} {b : Nat} {e : Ent} (h : st.hp b = .ent e) (hf : fresh ρ (b :: e.ids) = true) : EntTo st ρ b e := by
  have ha := fresh_at hf
  refine .old b e h (.inr ⟨?_, rfl⟩) (fun E S w hh => hh.step (fun i hi => ha E i (List.mem_cons_of_mem _ hi)) (ha E b List.mem_cons_self) (Off.refl S w) (fun k hk => .inl hk) (fun _ _ => rfl) (fresh_fp hf E b List.mem_cons_self)) (fun E => Ent.at_congr (ha E b List.mem_cons_self) (fresh_fp hf E b List.mem_cons_self))
  have := List.all_eq_true.1 hf b List.mem_cons_self
  simpa using this
theorem EntTo.eq {st : St} {ρ : List (Nat × Option Nat)} {b : Nat} {e0 e : Ent} (h : st.hp b = .ent e0) (he : e0 = e) (hf : fresh ρ (b :: e0.ids) = true) : EntTo st ρ b e := he ▸ EntTo.same h hf
theorem EntTo.row {st : St} {ρ : List (Nat × Option Nat)} {o b : Nat} {t : TypeId} {size n n' : Nat} {cells cells' : List CA} (h : st.hp o = .ent (.row t size n cells)) (hb : lk ρ b = some (some o)) (hn : n = n') (hc : cells = cells') : EntTo st ρ b (.row t size n' cells') := by
  subst hn; subst hc
  refine .old o _ h (.inl hb) (fun E S w hh => ?_) (fun E => ?_)
  · obtain ⟨vs, h1, h2⟩ := hh
    exact ⟨vs, by simp only [reEnv, hb]; exact h1, h2⟩
  · funext k; simp only [Ent.at, reEnv, hb]
/-- A row of none in a temporary that holds nil. -/
theorem EntTo.nilRow {st : St} {ρ : List (Nat × Option Nat)} {b : Nat} {t : TypeId} {size : Nat} (hb : lk ρ b = some none) : EntTo st ρ b (.row t size 0 []) := by
  refine .nil hb (fun E S w => ⟨[], ?_, trivial⟩) (fun E k => ?_)
  · simp only [reEnv, hb]; exact World.ownsRow_nil ..
  · simp only [Ent.at, reEnv, hb]; intro h; cases h
def TmTo (st : St) (ρ : List (Nat × Option Nat)) : List (Nat × AV) → Prop
  | [] => True
  | (t, v) :: l => (∃ u, st.tm t = some u ∧ AVto ρ u v) ∧ TmTo st ρ l
def HpTo (st : St) (ρ : List (Nat × Option Nat)) : List (Nat × Ent) → Prop
  | [] => True
  | (b, e) :: l => EntTo st ρ b e ∧ HpTo st ρ l
theorem TmTo.mem {st : St} {ρ : List (Nat × Option Nat)} : ∀ {l : List (Nat × AV)}, TmTo st ρ l → ∀ t v, (t, v) ∈ l → ∃ u, st.tm t = some u ∧ AVto ρ u v
  | [], _, _, _, hm => by cases hm
  | _ :: _, ⟨h1, h2⟩, t, v, hm => by
    rcases List.mem_cons.1 hm with e | hm
    · cases e; exact h1
    · exact h2.mem t v hm
theorem HpTo.mem {st : St} {ρ : List (Nat × Option Nat)} : ∀ {l : List (Nat × Ent)}, HpTo st ρ l → ∀ t v, (t, v) ∈ l → EntTo st ρ t v
  | [], _, _, _, hm => by cases hm
  | _ :: _, ⟨h1, h2⟩, t, v, hm => by
    rcases List.mem_cons.1 hm with e | hm
    · cases e; exact h1
    · exact h2.mem t v hm
def src (ρ : List (Nat × Option Nat)) (b : Nat) : Option Nat := match lk ρ b with | some r => r | none => some b
def eqO : Option Nat → Option Nat → Bool
  | some a, some b => Nat.beq a b
  | _, _ => false
/-- Every name that is used has its block, and no two names come from one. -/
def tidy (ρ : List (Nat × Option Nat)) (l : List (Nat × AV)) (m : List (Nat × Ent)) : Bool :=
  ((l.all fun p => p.2.ids.all fun b => (lk m b).isSome) && (m.all fun p => p.2.ids.all fun b => (lk m b).isSome)) &&
  (m.all fun p => m.all fun q => Nat.beq p.1 q.1 || !(eqO (src ρ p.1) (src ρ q.1)))
theorem used_of {m : List (Nat × Ent)} {l : List (Nat × AV)} {b : Nat} (h : (lk m b).isSome = true) : ((mkSt l m).hp b).used = true := by
  obtain ⟨e, he⟩ := Option.isSome_iff_exists.1 h
  simp [mkSt, he, Slot.used]
theorem hp_mem {m : List (Nat × Ent)} {l : List (Nat × AV)} {b : Nat} {e : Ent} (h : (mkSt l m).hp b = .ent e) : (b, e) ∈ m := by
  simp only [mkSt] at h
  cases hl : lk m b with
  | none => simp [hl] at h
  | some e' => simp only [hl] at h; cases h; exact lk_mem hl
theorem EntTo.src {st : St} {ρ : List (Nat × Option Nat)} {b : Nat} {e : Ent} (h : EntTo st ρ b e) : (∃ o e0, SX.src ρ b = some o ∧ st.hp o = .ent e0 ∧ (∀ E, e.at (reEnv ρ E) b = e0.at E o)) ∨ ∀ E k, ¬ e.at (reEnv ρ E) b k := by
  cases h with
  | old o e0 ho hb hh hk =>
    refine .inl ⟨o, e0, ?_, ho, hk⟩
    rcases hb with hb | ⟨hb, rfl⟩ <;> simp [SX.src, hb]
  | nil hb hh hk => exact .inr hk
theorem St.le_to {C : Ctx} {st : St} {l : List (Nat × AV)} {m : List (Nat × Ent)} (ρ : List (Nat × Option Nat)) (hfix : ∀ b, C.fix b = true → lk ρ b = none ∧ (lk m b).isSome = true) (ht : TmTo st ρ l) (hm : HpTo st ρ m) (hti : tidy ρ l m = true) : St.le C st (mkSt l m) := by
  intro a w ⟨E, S, hs⟩
  unfold tidy at hti
  rw [Bool.and_eq_true, Bool.and_eq_true] at hti
  obtain ⟨⟨h1, h2⟩, h3⟩ := hti
  refine ⟨reEnv ρ E, S, { dfr := hs.dfr, nt := hs.nt, cT := hs.cT, cT0 := hs.cT0, cS := hs.cS, lt := hs.lt, tm := fun t v hv => ?_, tid := fun t v hv b hb => ?_, hp := fun b e hb => ?_, hid := fun b e hb i hi => ?_, blk := fun b e k hb hk => ?_, sep := fun b b' e e' k hne hb hb' hk hk' => ?_, off := hs.off, env := fun b hb => ?_, gl := hs.gl }⟩
  · obtain ⟨u, hu, hto⟩ := ht.mem t v (lk_mem hv)
    exact hto _ _ _ _ (hs.tm t u hu)
  · exact used_of (List.all_eq_true.1 (List.all_eq_true.1 h1 _ (lk_mem hv)) b hb)
  · cases hm.mem b e (hp_mem hb) with
    | old o e0 ho _ hh hk => exact hh _ _ _ (hs.hp o e0 ho)
    | nil _ hh _ => exact hh _ _ _
  · exact used_of (List.all_eq_true.1 (List.all_eq_true.1 h2 _ (hp_mem hb)) i hi)
  · rcases (hm.mem b e (hp_mem hb)).src with ⟨o, e0, _, ho, hk0⟩ | hk0
    · rw [hk0] at hk; exact hs.blk o e0 k ho hk
    · exact absurd hk (hk0 E k)
  · rcases (hm.mem b e (hp_mem hb)).src with ⟨o, e0, so, ho, hk0⟩ | hk0
    · rcases (hm.mem b' e' (hp_mem hb')).src with ⟨o', e0', so', ho', hk0'⟩ | hk0'
      · rw [hk0] at hk; rw [hk0'] at hk'
        have := List.all_eq_true.1 (List.all_eq_true.1 h3 _ (hp_mem hb)) _ (hp_mem hb')
        rw [so, so'] at this
        have hno : o ≠ o' := by
          intro e
          subst e
          simp [eqO, hne] at this
        exact hs.sep o o' e0 e0' k hno ho ho' hk hk'
      · exact absurd hk' (hk0' E k)
    · exact absurd hk (hk0 E k)
  · obtain ⟨h4, h5⟩ := hfix b hb
    obtain ⟨g1, g2, _⟩ := hs.env b hb
    exact ⟨by simp only [reEnv, h4]; exact g1, by simp only [reEnv, h4]; exact g2, used_of h5⟩
/-- Two parts of a text meet in a state that is told. -/
theorem WP.meet {P : Program} {C : Ctx} {st : St} {Q : Exit → St → Prop} {x y : Code} (I : St) (h : WP P C x st (thenK (fun s => St.le C s I) Q)) (k : WP P C y I Q) : WP P C (.seq x y) st Q :=
  WP.seq (WP.mono h fun e s hq => by
    cases e with
    | normal => exact k.weaken hq
    | _ => exact hq)
end SX
/- Rows of the call's own: append, parts, places, giving away. No program in sight. -/
set_option linter.unusedVariables false
set_option linter.unusedSimpArgs false
namespace SX
open Go Go.RowKit
section
variable {P : Program}
theorem all2_app {S : Nat → Prop} {w : World} {l l' : List CA} {m m' : List Value} (h : All2 (CA.has S w) l m) (h' : All2 (CA.has S w) l' m') : All2 (CA.has S w) (l ++ l') (m ++ m') := h.append h'
/-- What append does with a row and any slice. -/
theorem run_append_any (w : World) (t ty e : TypeId) (zs : List Value) (size bytes : Nat) (ht : P.underlying t = some (.slice e)) (he : TElem P e zs bytes) (hs : (P.info? e).map (·.size) = some size) (hzs : zs.length = size)
    (v : Value) (n : Nat) (xs : List Value) (hown : w.ownsRow 0 e size v n xs) {S : Nat → Prop} {u : Value} {m : Nat} {cells2 : List CA} (hu : (sliceR size m cells2).has S w u) (h1 : cells2.all CA.oneB = true)
    (h63 : n + m ≤ maxLen) (hbytes : (n + m) * bytes ≤ 140737488355328) :
    ∃ v' w' news, (Builtin.append_ #[t, t] ty #[v, u]).run P w = .ok v' w' ∧ w'.ownsRow 0 e size v' (n + m) (xs ++ news) ∧ w.grownBy w' v.ownBlock ∧ (∀ k, v'.ownBlock = some k → v.ownBlock = some k ∨ w.heap.size ≤ k) ∧ All2 (CA.has S w) cells2 news := by
  obtain ⟨i, z, hi, hz, hc, hsz, hby⟩ := elem_info he hs
  obtain ⟨oa, cap, rfl, hn, _, hnone, hlen, hall⟩ := sliceR_iff.1 hu
  have hz2 : z.cells.size = size := by rw [hc]; simpa using hzs
  cases oa with
  | none =>
    have h0 := hnone rfl
    subst h0
    have hm : m = 0 := by omega
    subst hm
    have hnil : cells2 = [] := List.eq_nil_of_length_eq_zero (by simpa using hlen)
    subst hnil
    have hrun := run_append_owned_none (P := P) (w := w) 0 t ty e i size ht hi v n xs hown
    exact ⟨v, w, [], hrun, by simpa using hown, ⟨rfl, rfl, rfl, Nat.le_refl _, fun _ _ _ => rfl⟩, fun k hk => .inl hk, trivial⟩
  | some a =>
    obtain ⟨news, hnews, hcell⟩ : ∃ us : List Value, All2 (CA.has S w) cells2 us ∧ ∀ j u, us[j]? = some u → w.cell? (a.add j) = some u := by
      by_cases h0 : cells2 = []
      · subst h0; exact ⟨[], trivial, by simp⟩
      · obtain ⟨c, hc0⟩ : ∃ c, cells2[0]? = some c := ⟨cells2[0]'(List.length_pos_iff.2 h0), by simp⟩
        obtain ⟨b, o, _, e1, hSb, _⟩ := hall 0 c hc0
        cases e1
        obtain ⟨us, h2, h3⟩ := ptr_vals (E := ⟨fun _ => 0, fun _ => undef, fun _ _ => False⟩) (S := S) (w := w) (b := b) cells2 o (fun i c hc => by
          obtain ⟨b', o', u, e1, e2, e3, e4⟩ := hall i c hc
          cases e1
          exact ⟨u, e2, e3, e4⟩)
        exact ⟨us, all2_closed h2, h3⟩
    have hl : news.length = m * size := by rw [← hnews.length, hlen]
    obtain ⟨v', w', h2, h3, h4, h5⟩ := run_append_row (P := P) w t ty e i z size bytes ht hi hz hsz hby hz2 v n xs hown a m cap news hl hcell (ca_one hnews h1) h63 hbytes
    exact ⟨v', w', news, h2, h3, h4, h5, hnews⟩
end
section
variable {P : Program} {C : Ctx} {st : St}
variable {ops rest : List Oper} {acc : List (List Nat × List Nat)} {K : List (List Nat × List Nat) → St → Prop} {d : Tmp} {dst : Option Tmp} {op : Op} {ty t : TypeId} {x y : Operand}
class TWide (P : Program) (e : TypeId) (size : Nat) : Prop where
  h : ∃ zs bytes, TElem P e zs bytes ∧ zs.length = size
/-- append to a row of the call's own. -/
theorem Go1.append {e : TypeId} {b n m bytes size : Nat} {zs : List Value} {r : Rep} {cells cells2 : List CA} [ht : TSlice P t e size] [he : TElem P e zs bytes] [hr : AsSlice r size m cells2] (hd : dstOK (some d) C.nt = true) (hx : st.ev x = some (.own b)) (hy : st.ev y = some (.r r))
    (hb : st.hp b = .ent (.row e size n cells)) (hf : st.hp d = .free) (hz : Nat.beq zs.length size = true) (h1 : cells2.all CA.oneB = true) (h63 : n + m ≤ 9223372036854775807) (hbytes : (n + m) * bytes ≤ 140737488355328)
    (next : Reg P C ops rest (st.app (some d) ⟨.own d, [(b, .gone), (d, .ent (.row e size (n + m) (cells ++ cells2)))]⟩) (([b, d], [b, d]) :: acc) K) : Go1 P C ops (some d) (.call ⟨.builtin .append, #[x, y], #[t, t]⟩) ty rest st acc K := by
  have hbd : d ≠ b := by rintro rfl; rw [hf] at hb; cases hb
  refine ⟨[b, d], _, fun o h2 h3 h4 => OpOK.eff [] [(b, .row e size n cells)] (fun c hc => ?_) (h2 ▸ dstOK_spec hd) (fun c e hc => by cases hc) (fun c e hc => ?_) (fun c s hc => ?_) (fun c s hc => ?_) (fun st' E S a w hev hhp hs _ hpre => ?_), next⟩
  · rcases hc with ⟨e, hc⟩ | ⟨e, hc⟩ | ⟨s, hc⟩
    · cases hc
    · simp at hc; simp [hc.1]
    · simp at hc; rcases hc with hc | hc <;> simp [hc.1]
  · simp at hc; obtain ⟨rfl, rfl⟩ := hc; exact ⟨hb, _, List.mem_cons_self⟩
  · simp at hc; rcases hc with ⟨rfl, rfl⟩ | ⟨rfl, rfl⟩
    · exact .inl ⟨_, List.mem_cons_self⟩
    · exact .inr hf
  · simp at hc; rcases hc with ⟨rfl, rfl⟩ | ⟨rfl, rfl⟩ <;> rfl
  · obtain ⟨⟨hxv, _⟩, _⟩ := hs.ev ((hev x (by simp [h3, Op.operands, Call.operands])).trans hx)
    obtain ⟨hyv, _⟩ := hs.ev ((hev y (by simp [h3, Op.operands, Call.operands])).trans hy)
    have hbe := hpre b _ List.mem_cons_self
    obtain ⟨vs, hown, hvs⟩ := hs.hp b _ hbe
    obtain ⟨v', w', news, h5, h6, h7, h8, h9⟩ := run_append_any (P := P) w t o.type e zs size bytes ht.h he ht.s (Nat.eq_of_beq_eq_true hz) (E.sl b) n vs hown (hr.h _ _ _ hyv) h1 (by simp only [maxLen]; omega) hbytes
    refine ⟨⟨fun i hi => ?_, fun c e hc i hi => ?_⟩, fun K Q hK => ?_⟩
    · simp [AV.ids, AV0.ids, Atom.ids] at hi; subst hi; simp [updL, Slot.used]
    · simp at hc
      obtain ⟨rfl, rfl⟩ := hc
      cases hi
    · have hE := Eff.row (E := E) (S := S) (b := d) (pre := [(b, .row e size n cells)]) (gones := [(b, .gone)]) hs.lt
        (fun c e' k hc hk => by simp at hc; obtain ⟨rfl, rfl⟩ := hc; exact (hs.blk _ _ k hbe hk).1)
        (fun e' hc => by simp at hc; exact hbd hc.1)
        (fun c s hc => by simp at hc; obtain ⟨rfl, rfl⟩ := hc; exact ⟨rfl, _, List.mem_cons_self⟩)
        (off_grown h7 (fun k hk => ⟨b, _, List.mem_cons_self, hk⟩)) h6 (all2_app hvs h9)
        (fun k hk => (h8 k hk).imp (fun h => ⟨b, _, List.mem_cons_self, h⟩) id)
      unfold Oper.wp
      have hrun : (execOp a.eval o).run P w = .ok (.value v') w' := by
        unfold execOp; rw [h3]
        simp [resolve, invoke, builtin, hxv, h5]
      rw [hrun]
      exact hK _ _ _ _ hE
/-- len of a row of the call's own. -/
theorem Go1.lenO {e : TypeId} {b n size sz : Nat} {cells : List CA} [ht : TSlice P t e sz] (hd : dstOK dst C.nt = true) (hx : st.ev x = some (.own b)) (hb : st.hp b = .ent (.row e size n cells))
    (next : Reg P C ops rest (st.app dst ⟨.v (.int .i64 (n : Int)), []⟩) (([b], []) :: acc) K) : Go1 P C ops dst (.call ⟨.builtin .len, #[x], #[t]⟩) ty rest st acc K :=
  Go1.pureV [(b, .row e size n cells)] [b] (fun c e' hc => by simp at hc; simp [hc.1]) hd (fun c e' hc => by simp at hc; obtain ⟨rfl, rfl⟩ := hc; exact hb) (fun o ho _ st' E S a w hev hs hrd => by
    obtain ⟨⟨hxv, _⟩, _⟩ := hs.ev ((hev x (by simp [ho, Op.operands, Call.operands])).trans hx)
    obtain ⟨vs, hown, _⟩ := hs.hp b _ (hrd b _ List.mem_cons_self)
    refine ⟨fun i hi => (by cases hi), .int .i64 (n : Int), ?_, rfl⟩
    unfold execOp; rw [ho]
    rcases hown.2 with ⟨hv, rfl⟩ | ⟨g, cap, cur, hv, _⟩
    · simp [resolve, invoke, builtin, Builtin.len_, run_underlying ht.h, hxv, hv, goInt]
    · simp [resolve, invoke, builtin, Builtin.len_, run_underlying ht.h, hxv, hv, goInt]) next
end
end SX
/- Parts of rows and texts, bytes of texts, places in the call's own rows, giving a row away. No program in sight. -/
set_option linter.unusedVariables false
set_option linter.unusedSimpArgs false
namespace SX
open Go Go.RowKit
section
variable {P : Program}
theorem run_bound {w : World} {k : IntKind} {i : Int} {y : Nat} {code : BoundsCode} (h0 : 0 ≤ i) (h1 : i ≤ (y : Int)) : (Instr.sliceBound (.int k i) y code).run P w = .ok i.toNat w := by
  simp [Instr.sliceBound, asIntOf, h0, h1]
theorem run_sliceAt_row {w : World} {t e : TypeId} {a : Option Addr} {n cap size : Nat} {lo hi : Option Value} {l h m : Nat} (ht : P.underlying t = some (.slice e)) (hs : (P.info? e).map (·.size) = some size) (hb : (Instr.sliceBounds true n cap lo hi none).run P w = .ok (l, h, m) w) :
    (Instr.sliceAt t (.slice a n cap) lo hi none).run P w = .ok (.slice (if m = l then a else a.map (·.add (l * size))) (h - l) (m - l)) w := by
  simp [Instr.sliceAt, Instr.slice, run_underlying ht, hb, run_sizeOf hs]
theorem bounds_hi {w : World} {b : Bool} {n cap : Nat} {k : IntKind} {i : Int} (h0 : 0 ≤ i) (h1 : i ≤ (cap : Int)) : (Instr.sliceBounds b n cap none (some (.int k i)) none).run P w = .ok (0, i.toNat, cap) w := by
  simp [Instr.sliceBounds, run_bound h0 h1]
theorem sliceR_part {S : Nat → Prop} {w : World} {size n : Nat} {cells : List CA} {a : Option Addr} {cap l h : Nat} (hv : (sliceR size n cells).has S w (.slice a n cap)) (hlh : l ≤ h) (hh : h ≤ n) :
    (sliceR size (h - l) ((cells.drop (l * size)).take ((h - l) * size))).has S w (.slice (if cap = l then a else a.map (·.add (l * size))) (h - l) (cap - l)) := by
  obtain ⟨oa, cap', e0, h1, h2, h3, h4, h5⟩ := sliceR_iff.1 hv
  cases e0
  refine sliceR_iff.2 ⟨_, _, rfl, by omega, by omega, fun hn => ?_, ?_, fun i c hc => ?_⟩
  · split at hn
    · omega
    · cases a with
      | none => have := h3 rfl; omega
      | some a => cases hn
  · rw [List.length_take, List.length_drop, h4]
    have : (h - l) * size ≤ n * size - l * size := by rw [← Nat.sub_mul]; exact Nat.mul_le_mul_right _ (by omega)
    omega
  · rw [List.getElem?_take] at hc
    split at hc
    · rename_i hi
      rw [List.getElem?_drop] at hc
      obtain ⟨b, o, u, e1, e2, e3, e4⟩ := h5 _ c hc
      subst e1
      have hne : cap ≠ l := by
        rintro rfl
        have : h - cap = 0 := by omega
        rw [this] at hi; omega
      refine ⟨b, o + l * size, u, ?_, e2, by rw [Nat.add_assoc]; exact e3, e4⟩
      rw [if_neg hne]; simp [Addr.add_lit]
    · cases hc
end
section
variable {P : Program} {C : Ctx} {st : St}
variable {ops rest : List Oper} {acc : List (List Nat × List Nat)} {K : List (List Nat × List Nat) → St → Prop} {d : Tmp} {dst : Option Tmp} {op : Op} {ty t : TypeId} {x y z : Operand} {k k' : IntKind} {i j : Int}
theorem Go1.sliceHiR {e : TypeId} {size n : Nat} {cells : List CA} {r : Rep} [ht : TSlice P t e size] [hr : AsSlice r size n cells] (hd : dstOK dst C.nt = true) (hx : st.ev x = some (.r r)) (hy : st.ev y = some (.v (.int k i))) (h0 : 0 ≤ i) (h1 : i ≤ (n : Int))
    (next : Reg P C ops rest (st.app dst ⟨.r (sliceR size i.toNat (cells.take (i.toNat * size))), []⟩) (([], []) :: acc) K) : Go1 P C ops dst (.slice t x none (some y) none) ty rest st acc K :=
  Go1.pureV [] [] (by simp) hd (by simp) (fun o ho _ st' E S a w hev hs _ => by
    obtain ⟨hx1, _⟩ := hs.ev ((hev x (by simp [ho, Op.operands])).trans hx)
    have hyv : a.eval y = .int k i := (hs.ev ((hev y (by simp [ho, Op.operands])).trans hy)).1
    have hr1 := hr.h _ _ _ hx1
    obtain ⟨oa, cap, hv, hn, _⟩ := sliceR_iff.1 hr1
    rw [hv] at hr1
    have hp := sliceR_part (l := 0) (h := i.toNat) hr1 (Nat.zero_le _) (by omega)
    rw [Nat.zero_mul, List.drop_zero, Nat.sub_zero] at hp
    refine ⟨fun i hi => (by cases hi), _, ?_, hp⟩
    unfold execOp; rw [ho]
    simp only [Option.map_some, Option.map_none, hv, hyv]
    simp [run_sliceAt_row ht.h ht.s (bounds_hi (w := w) (b := true) (n := n) (cap := cap) (k := k) h0 (by omega))]) next
theorem Go1.eqlS {ty' : TypeId} {s u : ByteArray} (hd : dstOK dst C.nt = true) (hx : st.ev x = some (.v (.string s))) (hy : st.ev y = some (.v (.string u))) (next : Reg P C ops rest (st.app dst ⟨.v (.bool (s.toList == u.toList)), []⟩) (([], []) :: acc) K) : Go1 P C ops dst (.binOp .eql t x y ty') ty rest st acc K :=
  Go1.val2 hd rfl hx hy (fun ρ o w ho h1 h2 => by unfold execOp; rw [ho]; simp [h1, h2, eqGuard, binOp, Op.stringOp]) next
/-- The place of an element of a row of the call's own. -/
theorem Go1.indexAddrO {e : TypeId} {b n size i : Nat} {cells : List CA} [ht : TSlice P t e size] (hd : dstOK dst C.nt = true) (hx : st.ev x = some (.own b)) (hb : st.hp b = .ent (.row e size n cells)) (hy : st.ev y = some (.v (.int k (i : Int)))) (hi : i < n)
    (next : Reg P C ops rest (st.app dst ⟨.it (.one (.rptr b (i * size))), []⟩) (([b], []) :: acc) K) : Go1 P C ops dst (.indexAddr t x y) ty rest st acc K :=
  Go1.pureV [(b, .row e size n cells)] [b] (fun c e' hc => by simp at hc; simp [hc.1]) hd (fun c e' hc => by simp at hc; obtain ⟨rfl, rfl⟩ := hc; exact hb) (fun o ho _ st' E S a w hev hs hrd => by
    obtain ⟨⟨hxv, _⟩, hid⟩ := hs.ev ((hev x (by simp [ho, Op.operands])).trans hx)
    have hyv : a.eval y = .int k (i : Int) := (hs.ev ((hev y (by simp [ho, Op.operands])).trans hy)).1
    obtain ⟨vs, hown, _⟩ := hs.hp b _ (hrd b _ List.mem_cons_self)
    have hsz := run_sizeOf ht.s w
    rcases hown.2 with ⟨_, h0⟩ | ⟨g, cap, cur, hv, _⟩
    · omega
    · refine ⟨hid, .pointer (some ⟨g, i * size, none⟩), ?_, g, n, cap, hv, rfl⟩
      unfold execOp; rw [ho]
      simp [hxv, hv, hyv, Instr.indexAt, asIntOf, run_underlying ht.h, hsz, Addr.add_lit, hi]) next
/-- A cell of a row of the call's own is read. -/
theorem Go1.loadO1 {e : TypeId} {b n size off : Nat} {c : CA} {cells : List CA} [ht : TOne P t] (hd : dstOK dst C.nt = true) (hx : st.ev x = some (.it (.one (.rptr b off)))) (hb : st.hp b = .ent (.row e size n cells)) (hc : cells[off]? = some c)
    (next : Reg P C ops rest (st.app dst ⟨.it (.one (.c c)), []⟩) (([b], []) :: acc) K) : Go1 P C ops dst (.load t x) ty rest st acc K :=
  Go1.pureV [(b, .row e size n cells)] [b] (fun c e' hc => by simp at hc; simp [hc.1]) hd (fun c e' hc => by simp at hc; obtain ⟨rfl, rfl⟩ := hc; exact hb) (fun o ho _ st' E S a w hev hs hrd => by
    obtain ⟨⟨g, n', cap, h1, hv⟩, _⟩ := hs.ev ((hev x (by simp [ho, Op.operands])).trans hx)
    obtain ⟨vs, hown, hvs⟩ := hs.hp b _ (hrd b _ List.mem_cons_self)
    rw [h1] at hown
    have hcell := hown.cells (g := g) rfl
    obtain ⟨u, hu, huc⟩ := hvs.get hc
    have g2 := hcell off u hu
    refine ⟨fun j hj => (by cases hj), u, ?_, huc⟩
    unfold execOp; rw [ho]
    have g2' : w.cell? ⟨g, off, none⟩ = some u := by simpa [Addr.add_lit] using g2
    simp [hv, Instr.loadAt, Instr.sureAddr, loadVar, run_isAgg ht.h, g2']) next
theorem Go1.loadOAgg {e : TypeId} {b n size off m : Nat} {cells l : List CA} [ht : TAgg P t m] (hd : dstOK dst C.nt = true) (hx : st.ev x = some (.it (.one (.rptr b off)))) (hb : st.hp b = .ent (.row e size n cells)) (hc : (cells.drop off).take m = l) (hl : l.length = m)
    (next : Reg P C ops rest (st.app dst ⟨.agg (l.map Atom.c), []⟩) (([b], []) :: acc) K) : Go1 P C ops dst (.load t x) ty rest st acc K :=
  Go1.pureV [(b, .row e size n cells)] [b] (fun c e' hc => by simp at hc; simp [hc.1]) hd (fun c e' hc => by simp at hc; obtain ⟨rfl, rfl⟩ := hc; exact hb) (fun o ho _ st' E S a w hev hs hrd => by
    obtain ⟨⟨g, n', cap, h1, hv⟩, _⟩ := hs.ev ((hev x (by simp [ho, Op.operands])).trans hx)
    obtain ⟨vs, hown, hvs⟩ := hs.hp b _ (hrd b _ List.mem_cons_self)
    rw [h1] at hown
    have hcell := hown.cells (g := g) rfl
    have hall0 : All2 (CA.has S w) l ((vs.drop off).take m) := by rw [← hc]; exact (hvs.drop off).take m
    obtain ⟨us, hus, hall⟩ : ∃ us, us = (vs.drop off).take m ∧ All2 (CA.has S w) l us := ⟨_, rfl, hall0⟩
    have hlen := hall.length
    have hrun := run_loadCells_list (P := P) w ⟨g, off, none⟩ us (fun j u hj => by
      rw [hus, List.getElem?_take] at hj
      split at hj
      · rw [List.getElem?_drop] at hj
        have := hcell (off + j) u hj
        simpa [Addr.add_lit] using this
      · cases hj)
    have hsz : (P.info? t).map (·.size) = some us.length := by rw [ht.s, ← hlen, hl]
    refine ⟨fun j hj => ?_, .agg us.toArray, ?_, us, rfl, all2_open hall⟩
    · simp only [AV.ids, AV0.ids, List.mem_flatMap] at hj
      obtain ⟨c, hc, hj⟩ := hj
      obtain ⟨c', _, rfl⟩ := List.mem_map.1 hc
      cases hj
    · unfold execOp; rw [ho]
      simp [hv, Instr.loadAt, Instr.sureAddr, loadVar, run_isAgg ht.h, run_sizeOf hsz, hrun]) next
end
end SX
/- A row of the call's own that is written no more. No program in sight. -/
set_option linter.unusedVariables false
set_option linter.unusedSimpArgs false
namespace SX
open Go Go.RowKit
def Atom.frz (b size n : Nat) (cells : List CA) : Atom → Atom
  | .own k => match Nat.beq k b with | true => .c (.sat (sliceR size n cells)) | false => .own k
  | .rptr k off => match Nat.beq k b with | true => .c (.sat (ptrR (cells.drop off))) | false => .rptr k off
  | .c a => .c a
  | .ptr k off => .ptr k off
  | .clo f cap => .clo f cap
  | .bnd f b => .bnd f b
  | .rel b R => .rel b R
def frzL (b size n : Nat) (cells : List CA) : List Atom → List Atom
  | [] => []
  | a :: l => a.frz b size n cells :: frzL b size n cells l
def AV0.frz (b size n : Nat) (cells : List CA) : AV0 → AV0
  | .one a => .one (a.frz b size n cells)
  | .agg l => .agg (frzL b size n cells l)
def frzT (b size n : Nat) (cells : List CA) : List AV0 → List AV0
  | [] => []
  | a :: l => a.frz b size n cells :: frzT b size n cells l
def AV.frz (b size n : Nat) (cells : List CA) : AV → AV
  | .it x => .it (x.frz b size n cells)
  | .tup l => .tup (frzT b size n cells l)
def Ent.frz (b size n : Nat) (cells : List CA) : Ent → Ent
  | .abs A => .abs A
  | .box t l => .box t (frzL b size n cells l)
  | .row t s m l => .row t s m l
def Slot.frz (b size n : Nat) (cells : List CA) : Slot → Slot
  | .ent e => .ent (e.frz b size n cells)
  | .free => .free
  | .gone => .gone
/-- The state in which the row b is written no more. -/
def St.frz (st : St) (b size n : Nat) (cells : List CA) : St :=
  ⟨fun t => match st.tm t with | some v => some (v.frz b size n cells) | none => none, upd (fun c => (st.hp c).frz b size n cells) b .gone⟩
section
variable {b size n : Nat} {cells : List CA}
theorem beq_ne {c b : Nat} (h : c ≠ b) : Nat.beq c b = false := by rw [Bool.eq_false_iff]; simpa using h
theorem frz_own : (Atom.own b).frz b size n cells = .c (.sat (sliceR size n cells)) := by
  simp only [Atom.frz, Nat.beq_refl]
theorem frz_own_ne {k : Nat} (h : k ≠ b) : (Atom.own k).frz b size n cells = .own k := by
  simp only [Atom.frz, beq_ne h]
theorem frz_rptr {off : Nat} : (Atom.rptr b off).frz b size n cells = .c (.sat (ptrR (cells.drop off))) := by
  simp only [Atom.frz, Nat.beq_refl]
theorem frz_rptr_ne {k off : Nat} (h : k ≠ b) : (Atom.rptr k off).frz b size n cells = .rptr k off := by
  simp only [Atom.frz, beq_ne h]
theorem Atom.frz_ids (a : Atom) : ∀ i ∈ (a.frz b size n cells).ids, i ∈ a.ids := by
  intro i hi
  cases a with
  | own k =>
    by_cases h : k = b
    · subst h; rw [frz_own] at hi; cases hi
    · rw [frz_own_ne h] at hi; exact hi
  | rptr k off =>
    by_cases h : k = b
    · subst h; rw [frz_rptr] at hi; cases hi
    · rw [frz_rptr_ne h] at hi; exact hi
  | c a => exact hi
  | ptr k off => exact hi
  | clo f cap => exact hi
  | bnd f b => exact hi
  | rel b R => exact hi
theorem frzL_ids : ∀ (l : List Atom), ∀ i ∈ (frzL b size n cells l).flatMap Atom.ids, i ∈ l.flatMap Atom.ids
  | [], i, hi => hi
  | a :: l, i, hi => by
    simp only [frzL, List.flatMap_cons, List.mem_append] at hi ⊢
    exact hi.imp (a.frz_ids i) (frzL_ids l i)
theorem AV0.frz_ids (x : AV0) : ∀ i ∈ (x.frz b size n cells).ids, i ∈ x.ids := by
  cases x with
  | one a => exact a.frz_ids
  | agg l => exact frzL_ids l
theorem frzT_ids : ∀ (l : List AV0), ∀ i ∈ (frzT b size n cells l).flatMap AV0.ids, i ∈ l.flatMap AV0.ids
  | [], i, hi => hi
  | a :: l, i, hi => by
    simp only [frzT, List.flatMap_cons, List.mem_append] at hi ⊢
    exact hi.imp (a.frz_ids i) (frzT_ids l i)
theorem AV.frz_ids (x : AV) : ∀ i ∈ (x.frz b size n cells).ids, i ∈ x.ids := by
  cases x with
  | it a => exact a.frz_ids
  | tup l => exact frzT_ids l
theorem Ent.frz_ids (x : Ent) : ∀ i ∈ (x.frz b size n cells).ids, i ∈ x.ids := by
  cases x with
  | abs A => exact fun i h => h
  | box t l => exact frzL_ids l
  | row t s m l => exact fun i h => h
variable {E : Env} {S S' : Nat → Prop} {w : World}
/-- What is known of the row that is given away. -/
structure Frz (b size n : Nat) (cells : List CA) (E : Env) (S S' : Nat → Prop) (w : World) : Prop where
  sub : ∀ k, S' k → S k
  sl : (sliceR size n cells).has S' w (E.sl b)
  pt : ∀ g m cap off, E.sl b = .slice (some ⟨g, 0, none⟩) m cap → (ptrR (cells.drop off)).has S' w (.pointer (some ⟨g, off, none⟩))
theorem Atom.has.frz {a : Atom} {v : Value} (h : a.has E S w v) (f : Frz b size n cells E S S' w) : (a.frz b size n cells).has E S' w v := by
  have keep : ∀ a : Atom, a.has E S w v → a.has E S' w v := fun a ha => ha.step (fun _ _ => ⟨rfl, rfl⟩) (Off.refl S w) (fun k hk => .inl (f.sub k hk))
  cases a with
  | own k =>
    by_cases hk : k = b
    · subst hk
      rw [frz_own, show v = E.sl k from h.1]; exact f.sl
    · rw [frz_own_ne hk]; exact keep _ h
  | rptr k off =>
    by_cases hk : k = b
    · subst hk
      obtain ⟨g, m, cap, h1, rfl⟩ := h
      rw [frz_rptr]
      exact f.pt g m cap off h1
    · rw [frz_rptr_ne hk]; exact keep _ h
  | c a => exact keep (.c a) h
  | ptr c off => exact keep (.ptr c off) h
  | clo g cap => exact keep (.clo g cap) h
  | bnd g b => exact keep (.bnd g b) h
  | rel b R => exact keep (.rel b R) h
theorem frzL_has (f : Frz b size n cells E S S' w) : ∀ {l : List Atom} {vs : List Value}, All2 (Atom.has E S w) l vs → All2 (Atom.has E S' w) (frzL b size n cells l) vs
  | [], [], _ => trivial
  | _ :: _, _ :: _, h => ⟨h.1.frz f, frzL_has f h.2⟩
  | [], _ :: _, h => h.elim
  | _ :: _, [], h => h.elim
theorem AV0.has.frz {x : AV0} {v : Value} (h : x.has E S w v) (f : Frz b size n cells E S S' w) : (x.frz b size n cells).has E S' w v := by
  cases x with
  | one a => exact Atom.has.frz h f
  | agg l => obtain ⟨vs, h1, h2⟩ := h; exact ⟨vs, h1, frzL_has f h2⟩
theorem frzT_has (f : Frz b size n cells E S S' w) : ∀ {l : List AV0} {vs : List Value}, All2 (AV0.has E S w) l vs → All2 (AV0.has E S' w) (frzT b size n cells l) vs
  | [], [], _ => trivial
  | _ :: _, _ :: _, h => ⟨h.1.frz f, frzT_has f h.2⟩
  | [], _ :: _, h => h.elim
  | _ :: _, [], h => h.elim
theorem AV.has.frz {x : AV} {v : Value} (h : x.has E S w v) (f : Frz b size n cells E S S' w) : (x.frz b size n cells).has E S' w v := by
  cases x with
  | it a => exact AV0.has.frz h f
  | tup l => obtain ⟨vs, h1, h2⟩ := h; exact ⟨vs, h1, frzT_has f h2⟩
theorem Ent.has.frz {e : Ent} {c : Nat} (h : e.has E S w c) (f : Frz b size n cells E S S' w) : (e.frz b size n cells).has E S' w c := by
  cases e with
  | abs A => exact A.step h (Off.refl S w) (fun k hk => .inl (f.sub k hk)) (fun _ _ => rfl)
  | box t l => obtain ⟨cs, h1, h2⟩ := h; exact ⟨cs, h1, frzL_has f h2⟩
  | row t s m l => obtain ⟨vs, h1, h2⟩ := h; exact ⟨vs, h1, h2.mono fun a v _ ha => ha.step (Off.refl S w) (fun k hk => .inl (f.sub k hk))⟩
end
theorem St.le_frzG {C : Ctx} {st : St} {b size n : Nat} {t : TypeId} {cells : List CA} (hnew0 : ∀ E S a w, SatE C st E S a w → ∀ k, (E.sl b).ownBlock = some k → C.w0.heap.size ≤ k) (hb : st.hp b = .ent (.row t size n cells)) : St.le C st (st.frz b size n cells) := by
  intro a w ⟨E, S, hs⟩
  obtain ⟨vs, hown, hvs⟩ := hs.hp b _ hb
  have hlen : cells.length = n * size := by rw [hvs.length, hown.1]
  have hpt : ∀ g m cap off, E.sl b = .slice (some ⟨g, 0, none⟩) m cap → ∀ i c, (cells.drop off)[i]? = some c → ∃ u, ¬ (S g ∧ (E.sl b).ownBlock ≠ some g) ∧ w.cell? ⟨g, off + i, none⟩ = some u ∧ c.has (fun k => S k ∧ (E.sl b).ownBlock ≠ some k) w u := by
    intro g m cap off hsl i c hc
    rw [List.getElem?_drop] at hc
    obtain ⟨u, hu, huc⟩ := hvs.get hc
    rw [hsl] at hown
    have hcell := hown.cells (g := g) rfl (off + i) u hu
    refine ⟨u, fun h => h.2 (by rw [hsl]; rfl), by simpa [Addr.add_lit] using hcell, huc.step (Off.refl S w) (fun k hk => .inl hk.1)⟩
  have f : Frz b size n cells E S (fun k => S k ∧ (E.sl b).ownBlock ≠ some k) w := by
    refine ⟨fun k hk => hk.1, ?_, fun g m cap off hsl => ptrR_iff.2 ⟨g, off, rfl, hpt g m cap off hsl⟩⟩
    rcases hown.2 with ⟨hv, h0⟩ | ⟨g, cap, cur, hv, _, hg, hn, hm, hcs, htk⟩
    · refine sliceR_iff.2 ⟨none, 0, by rw [hv, h0], by omega, Nat.zero_le _, fun _ => rfl, hlen, fun i c hc => ?_⟩
      have : cells.length = 0 := by rw [hlen, h0, Nat.zero_mul]
      rw [List.eq_nil_of_length_eq_zero this] at hc
      simp at hc
    · refine sliceR_iff.2 ⟨some ⟨g, 0, none⟩, cap, hv, hn, hm, (fun h => by cases h), hlen, fun i c hc => ?_⟩
      obtain ⟨u, h1, h2, h3⟩ := hpt g n cap 0 hv i c (by simpa using hc)
      exact ⟨g, 0, u, rfl, h1, h2, h3⟩
  have hkey : ∀ c e, (st.frz b size n cells).hp c = .ent e → c ≠ b ∧ ∃ e0, st.hp c = .ent e0 ∧ e = e0.frz b size n cells := by
    intro c e hc
    have hc' : upd (fun c => (st.hp c).frz b size n cells) b .gone c = .ent e := hc
    by_cases hcb : c = b
    · subst hcb; rw [upd_same] at hc'; cases hc'
    · rw [upd_ne _ _ hcb] at hc'
      refine ⟨hcb, ?_⟩
      cases h1 : st.hp c with
      | ent e0 => rw [h1] at hc'; simp only [Slot.frz] at hc'; cases hc'; exact ⟨e0, rfl, rfl⟩
      | free => rw [h1] at hc'; cases hc'
      | gone => rw [h1] at hc'; cases hc'
  have hused : ∀ c, (st.hp c).used = true → ((st.frz b size n cells).hp c).used = true := by
    intro c hc
    show (upd (fun c => (st.hp c).frz b size n cells) b .gone c).used = true
    by_cases hcb : c = b
    · subst hcb; rw [upd_same]; rfl
    · rw [upd_ne _ _ hcb]
      cases h1 : st.hp c with
      | ent e0 => rfl
      | free => rw [h1] at hc; cases hc
      | gone => rfl
  have htm : ∀ t v, (st.frz b size n cells).tm t = some v → ∃ v0, st.tm t = some v0 ∧ v = v0.frz b size n cells := by
    intro t v ht
    have ht' : (match st.tm t with | some v => some (v.frz b size n cells) | none => none) = some v := ht
    cases h1 : st.tm t with
    | none => rw [h1] at ht'; cases ht'
    | some v0 => rw [h1] at ht'; cases ht'; exact ⟨v0, rfl, rfl⟩
  have hblk : ∀ (e0 : Ent) c, (e0.frz b size n cells).at E c = e0.at E c := fun e0 c => by cases e0 <;> rfl
  have hnew : ∀ k, (E.sl b).ownBlock = some k → C.w0.heap.size ≤ k := hnew0 E S a w hs
  refine ⟨E, fun k => S k ∧ (E.sl b).ownBlock ≠ some k, { dfr := hs.dfr, nt := hs.nt, cT := fun k hk => ⟨hs.cT k hk, fun h => ?_⟩, cT0 := hs.cT0, cS := fun k hk => hs.cS k hk.1, lt := fun k hk => hs.lt k hk.1, tm := fun t v ht => ?_, tid := fun t v ht i hi => ?_, hp := fun c e hc => ?_, hid := fun c e hc i hi => ?_, blk := fun c e k hc hk => ?_, sep := fun c c' e e' k hne hc hc' hk => ?_, off := hs.off, env := fun c hc => ?_, gl := hs.gl.sub fun k hk => hk.1 }⟩
  · have h1 := hnew k h
    have h2 := hs.cT0 k hk
    omega
  · obtain ⟨v0, h1, rfl⟩ := htm t v ht
    exact (hs.tm t v0 h1).frz f
  · obtain ⟨v0, h1, rfl⟩ := htm t v ht
    exact hused i (hs.tid t v0 h1 i (v0.frz_ids i hi))
  · obtain ⟨_, e0, h1, rfl⟩ := hkey c e hc
    exact (hs.hp c e0 h1).frz f
  · obtain ⟨_, e0, h1, rfl⟩ := hkey c e hc
    exact hused i (hs.hid c e0 h1 i (e0.frz_ids i hi))
  · obtain ⟨hcb, e0, h1, rfl⟩ := hkey c e hc
    rw [hblk] at hk
    have h2 := hs.blk c e0 k h1 hk
    exact ⟨⟨h2.1, fun h => hs.sep c b e0 _ k hcb h1 hb hk h⟩, h2.2⟩
  · obtain ⟨_, e0, h1, rfl⟩ := hkey c e hc
    obtain ⟨_, e1, h2, rfl⟩ := hkey c' e' hc'
    rw [hblk] at hk ⊢
    exact hs.sep c c' e0 e1 k hne h1 h2 hk
  · obtain ⟨g1, g2, g3⟩ := hs.env c hc
    exact ⟨g1, g2, hused c g3⟩
theorem St.le_frz {C : Ctx} {st : St} {b size n : Nat} {t : TypeId} {cells : List CA} (hB : ∀ k, ¬ C.B k) (hb : st.hp b = .ent (.row t size n cells)) : St.le C st (st.frz b size n cells) :=
  St.le_frzG (fun E S a w hs k hk => ((hs.blk b _ k hb hk).2).resolve_left (hB k)) hb
def Slot.isBox : Slot → Bool
  | .ent (.box _ _) => true
  | _ => false
/-- The row b is written no more. -/
theorem WP.freeze {P : Program} {C : Ctx} {st : St} {Q : Exit → St → Prop} {c : Code} {t : TypeId} (b : Nat) {size n : Nat} {cells : List CA} (hB : ∀ k, ¬ C.B k) (hb : st.hp b = .ent (.row t size n cells)) (h : WP P C c (st.frz b size n cells) Q) : WP P C c st Q :=
  WP.weaken (St.le_frz hB hb) h
section
variable {P : Program} {C : Ctx} {st : St}
variable {ops rest : List Oper} {acc : List (List Nat × List Nat)} {K : List (List Nat × List Nat) → St → Prop} {dst : Option Tmp} {ty t : TypeId} {x : Operand}
theorem closedL_len {l : List Atom} {m : List CA} (h : closedL l = some m) : m.length = l.length := by rw [closedL_spec h]; simp
/-- A slice of one element. -/
theorem Go1.lit1 {e : TypeId} {size bytes : Nat} {zs : List Value} {v : AV0} {m : List CA} [ht : TSlice P t e size] [he : TElem P e zs bytes] (hd : dstOK dst C.nt = true) (hx : st.ev x = some (.it v)) (hc : closedL v.cells = some m)
    (hm : (Nat.beq m.length size && Nat.ble size 1000 && v.cells.all Atom.oneB) = true)
    (next : Reg P C ops rest (st.app dst ⟨.r (sliceR size 1 m), []⟩) (([], []) :: acc) K) : Go1 P C ops dst (.buildSlice t 1 #[(0, x)]) ty rest st acc K := by
  simp only [Bool.and_eq_true] at hm
  obtain ⟨⟨h1, h2⟩, h3⟩ := hm
  have hl : m.length = size := Nat.eq_of_beq_eq_true h1
  have h2' : size ≤ 1000 := by simpa [Nat.ble_eq] using h2
  have hvl : v.cells.length = size := by rw [← closedL_len hc]; exact hl
  refine Go1.buildSliceF (ps := [(0, v)]) (l := v.cells) (m := m) hd (by simp only [evp, hx]) ?_ ?_ ?_ hc ?_ next
  · simp only [List.all_cons, List.all_nil, Bool.and_true, h3, Bool.true_and]; rfl
  · rw [Nat.one_mul, Nat.ble_eq]; omega
  · have hpl : (placesOf 1 size)[0]? = some (0, size) := by simp [placesOf]
    have hz : ((madeCells zs.toArray (1 * size)).toList.map fun v => Atom.c (.val v)).length = size := by simp [size_madeCells]
    have e1 : Nat.beq v.cells.length size = true := by rw [hvl]; exact Nat.beq_refl _
    simp only [fillA, hpl]
    rw [hz, e1, Nat.zero_add, show Nat.ble size size = true by rw [Nat.ble_eq]; exact Nat.le_refl _]
    simp only [Bool.and_self]
    rw [spl_eq _ _ _ (by rw [hz, hvl]; omega), hvl, List.take_zero, List.nil_append, Nat.zero_add, List.drop_of_length_le (by rw [hz]; exact Nat.le_refl _), List.append_nil]
  · rw [hl, Nat.one_mul]; exact Nat.beq_refl _
end
theorem load_map {α : Type} {f : α → CA} {l : List α} {i : Nat} {a : α} (h : l[i]? = some a) : (((l.map f).drop (i * 1)).take 1)[0]? = some (f a) := by
  rw [Nat.mul_one, List.getElem?_take, if_pos (by omega), List.getElem?_drop]; simp [h]
end SX
/- The rules of the symbolic run with their side goals left to tactics. No program in sight. -/
set_option linter.unusedVariables false
set_option linter.unusedSimpArgs false
namespace SX
open Go Go.RowKit
variable {P : Program} {C : Ctx} {st : St}
variable {ops rest : List Oper} {acc : List (List Nat × List Nat)} {K : List (List Nat × List Nat) → St → Prop} {dst : Option Tmp} {d : Tmp} {op : Op} {ty t t' : TypeId} {x y z : Operand} {k k' : IntKind} {m n : Int}
theorem G.add {z : Int} (next : Reg P C ops rest (st.app dst ⟨.v (.int k z), []⟩) (([], []) :: acc) K) (hd : dstOK dst C.nt = true := by rfl) (hx : st.ev x = some (.v (.int k m)) := by rfl) (hy : st.ev y = some (.v (.int k n)) := by rfl) (hw : k.wrap (m + n) = z := by first | (with_reducible assumption) | assumption | exact wrapI64 (by omega) (by omega) | exact wrapU64 (by omega) (by omega) | exact and1_i64 _ | rfl) : Go1 P C ops dst (.binOp .add t x y t') ty rest st acc K :=
  Go1.add hd hx hy hw next
theorem G.alloc {cells : List Value} [hz : TZero P t cells] (next : Reg P C ops rest (st.app (some d) ⟨.ptr d 0, [(d, .ent (.box t (cells.map fun v => Atom.c (.val v))))]⟩) (([d], [d]) :: acc) K) (hd : dstOK (some d) C.nt = true := by rfl) (hf : st.hp d = .free := by rfl) : Go1 P C ops (some d) (.alloc t) ty rest st acc K :=
  Go1.alloc hd hf next
theorem G.assign {x : Operand} {r : AV} (next : Reg P C ops rest (st.app dst ⟨r, []⟩) (([], []) :: acc) K) (hd : dstOK dst C.nt = true := by rfl) (hx : st.ev x = some r := by rfl) : Go1 P C ops dst (.assign x) ty rest st acc K :=
  Go1.assign hd hx next
theorem G.box {v : AV0} (next : Reg P C ops rest (st.app (some d) ⟨.ptr d 0, [(d, .ent (.box t v.cells))]⟩) (([d], [d]) :: acc) K) (hd : dstOK (some d) C.nt = true := by rfl) (hx : st.ev x = some (.it v) := by rfl) (hf : st.hp d = .free := by rfl) (h1 : v.cells.all Atom.oneB = true := by rfl) : Go1 P C ops (some d) (.box t x) ty rest st acc K :=
  Go1.box hd hx hf h1 next
theorem G.build2 {pl : List (Nat × Nat)} {zs : List Value} {parts : Array (Nat × Operand)} {ps : List (Nat × AV0)} {a1 a2 : Atom} [ht : TStruct P t pl] [hz : TZero P t zs] (next : Reg P C ops rest (st.app (some d) ⟨.agg [a1, a2], []⟩) (([], []) :: acc) K) (hd : dstOK (some d) C.nt = true := by rfl) (hp : evp st parts.toList = some ps := by rfl) (h1 : (ps.all fun p => p.2.cells.all Atom.oneB) = true := by rfl) (hf : fillA pl (zs.map fun v => Atom.c (.val v)) ps = some [a1, a2] := by rfl) : Go1 P C ops (some d) (.build t parts) ty rest st acc K :=
  Go1.build2 hd hp h1 hf next
theorem G.build3 {pl : List (Nat × Nat)} {zs : List Value} {parts : Array (Nat × Operand)} {ps : List (Nat × AV0)} {a1 a2 a3 : Atom} [ht : TStruct P t pl] [hz : TZero P t zs] (next : Reg P C ops rest (st.app (some d) ⟨.agg [a1, a2, a3], []⟩) (([], []) :: acc) K) (hd : dstOK (some d) C.nt = true := by rfl) (hp : evp st parts.toList = some ps := by rfl) (h1 : (ps.all fun p => p.2.cells.all Atom.oneB) = true := by rfl) (hf : fillA pl (zs.map fun v => Atom.c (.val v)) ps = some [a1, a2, a3] := by rfl) : Go1 P C ops (some d) (.build t parts) ty rest st acc K :=
  Go1.build3 hd hp h1 hf next
theorem G.build4 {pl : List (Nat × Nat)} {zs : List Value} {parts : Array (Nat × Operand)} {ps : List (Nat × AV0)} {a1 a2 a3 a4 : Atom} [ht : TStruct P t pl] [hz : TZero P t zs] (next : Reg P C ops rest (st.app (some d) ⟨.agg [a1, a2, a3, a4], []⟩) (([], []) :: acc) K) (hd : dstOK (some d) C.nt = true := by rfl) (hp : evp st parts.toList = some ps := by rfl) (h1 : (ps.all fun p => p.2.cells.all Atom.oneB) = true := by rfl) (hf : fillA pl (zs.map fun v => Atom.c (.val v)) ps = some [a1, a2, a3, a4] := by rfl) : Go1 P C ops (some d) (.build t parts) ty rest st acc K :=
  Go1.build4 hd hp h1 hf next
theorem G.conv {k' : IntKind} {z : Int} [h1 : TInt P t k] [h2 : TInt P t' k'] (next : Reg P C ops rest (st.app dst ⟨.v (.int k' z), []⟩) (([], []) :: acc) K) (hd : dstOK dst C.nt = true := by rfl) (hx : st.ev x = some (.v (.int k m)) := by rfl) (hw : k'.wrap m = z := by first | (with_reducible assumption) | assumption | exact wrapI64 (by omega) (by omega) | exact wrapU64 (by omega) (by omega) | exact and1_i64 _ | rfl) : Go1 P C ops dst (.convert t t' x) ty rest st acc K :=
  Go1.conv hd hx hw next
theorem G.eql  (next : Reg P C ops rest (st.app dst ⟨.v (.bool (decide (m = n))), []⟩) (([], []) :: acc) K) (hd : dstOK dst C.nt = true := by rfl) (hx : st.ev x = some (.v (.int k m)) := by rfl) (hy : st.ev y = some (.v (.int k n)) := by rfl) : Go1 P C ops dst (.binOp .eql t x y t') ty rest st acc K :=
  Go1.eql hd hx hy next
theorem G.eqlB {b c : Bool} [hb : TBool P t] (next : Reg P C ops rest (st.app dst ⟨.v (.bool (b == c)), []⟩) (([], []) :: acc) K) (hd : dstOK dst C.nt = true := by rfl) (hx : st.ev x = some (.v (.bool b)) := by rfl) (hy : st.ev y = some (.v (.bool c)) := by rfl) : Go1 P C ops dst (.binOp .eql t x y t') ty rest st acc K :=
  Go1.eqlB hd hx hy next
theorem G.extract {l : List AV0} {i : Nat} {r : AV0} (next : Reg P C ops rest (st.app dst ⟨.it r, []⟩) (([], []) :: acc) K) (hd : dstOK dst C.nt = true := by rfl) (hx : st.ev x = some (.tup l) := by rfl) (hi : l[i]? = some r := by rfl) : Go1 P C ops dst (.extract x i) ty rest st acc K :=
  Go1.extract hd hx hi next
theorem G.fieldAddr {b off f o1 : Nat} [ht : TField P t f o1] (next : Reg P C ops rest (st.app (some d) ⟨.ptr b (off + o1), []⟩) (([], []) :: acc) K) (hd : dstOK (some d) C.nt = true := by rfl) (hx : st.ev x = some (.ptr b off) := by rfl) : Go1 P C ops (some d) (.fieldAddr t x f) ty rest st acc K :=
  Go1.fieldAddr hd hx next
theorem G.fieldAddrR {f o1 : Nat} {cells : List CA} [ht : TField P t f o1] (next : Reg P C ops rest (st.app dst ⟨.r (ptrR (cells.drop o1)), []⟩) (([], []) :: acc) K) (hd : dstOK dst C.nt = true := by rfl) (hx : st.ev x = some (.r (ptrR cells)) := by rfl) : Go1 P C ops dst (.fieldAddr t x f) ty rest st acc K :=
  Go1.fieldAddrR hd hx next
theorem G.geq  (next : Reg P C ops rest (st.app dst ⟨.v (.bool (decide (n ≤ m))), []⟩) (([], []) :: acc) K) (hd : dstOK dst C.nt = true := by rfl) (hx : st.ev x = some (.v (.int k m)) := by rfl) (hy : st.ev y = some (.v (.int k n)) := by rfl) : Go1 P C ops dst (.binOp .geq t x y t') ty rest st acc K :=
  Go1.geq hd hx hy next
theorem G.gtr  (next : Reg P C ops rest (st.app dst ⟨.v (.bool (decide (n < m))), []⟩) (([], []) :: acc) K) (hd : dstOK dst C.nt = true := by rfl) (hx : st.ev x = some (.v (.int k m)) := by rfl) (hy : st.ev y = some (.v (.int k n)) := by rfl) : Go1 P C ops dst (.binOp .gtr t x y t') ty rest st acc K :=
  Go1.gtr hd hx hy next
theorem G.indexAddrO {e : TypeId} {b n size i : Nat} {cells : List CA} [ht : TSlice P t e size] (next : Reg P C ops rest (st.app dst ⟨.it (.one (.rptr b (i * size))), []⟩) (([b], []) :: acc) K) (hd : dstOK dst C.nt = true := by rfl) (hx : st.ev x = some (.own b) := by rfl) (hb : st.hp b = .ent (.row e size n cells) := by rfl) (hy : st.ev y = some (.v (.int k (i : Int))) := by rfl) (hi : i < n := by omega) : Go1 P C ops dst (.indexAddr t x y) ty rest st acc K :=
  Go1.indexAddrO hd hx hb hy hi next
theorem G.lenO {e : TypeId} {b n size sz : Nat} {cells : List CA} [ht : TSlice P t e sz] (next : Reg P C ops rest (st.app dst ⟨.v (.int .i64 (n : Int)), []⟩) (([b], []) :: acc) K) (hd : dstOK dst C.nt = true := by rfl) (hx : st.ev x = some (.own b) := by rfl) (hb : st.hp b = .ent (.row e size n cells) := by rfl) : Go1 P C ops dst (.call ⟨.builtin .len, #[x], #[t]⟩) ty rest st acc K :=
  Go1.lenO hd hx hb next
theorem G.lenR {e : TypeId} {size sz n : Nat} {cells : List CA} {r : Rep} [ht : TSlice P t e sz] [hr : AsSlice r size n cells] (next : Reg P C ops rest (st.app dst ⟨.v (.int .i64 (n : Int)), []⟩) (([], []) :: acc) K) (hd : dstOK dst C.nt = true := by rfl) (hx : st.ev x = some (.r r) := by rfl) : Go1 P C ops dst (.call ⟨.builtin .len, #[x], #[t]⟩) ty rest st acc K :=
  Go1.lenR hd hx next
theorem G.leq  (next : Reg P C ops rest (st.app dst ⟨.v (.bool (decide (m ≤ n))), []⟩) (([], []) :: acc) K) (hd : dstOK dst C.nt = true := by rfl) (hx : st.ev x = some (.v (.int k m)) := by rfl) (hy : st.ev y = some (.v (.int k n)) := by rfl) : Go1 P C ops dst (.binOp .leq t x y t') ty rest st acc K :=
  Go1.leq hd hx hy next
theorem G.lit1 {e : TypeId} {size bytes : Nat} {zs : List Value} {v : AV0} {m : List CA} [ht : TSlice P t e size] [he : TElem P e zs bytes] (next : Reg P C ops rest (st.app dst ⟨.r (sliceR size 1 m), []⟩) (([], []) :: acc) K) (hd : dstOK dst C.nt = true := by rfl) (hx : st.ev x = some (.it v) := by rfl) (hc : closedL v.cells = some m := by rfl) (hm : (Nat.beq m.length size && Nat.ble size 1000 && v.cells.all Atom.oneB) = true := by rfl) : Go1 P C ops dst (.buildSlice t 1 #[(0, x)]) ty rest st acc K :=
  Go1.lit1 hd hx hc hm next
theorem G.load1 {b off : Nat} {T : TypeId} {cells : List Atom} {c : Atom} [ht : TOne P t] (next : Reg P C ops rest (st.app (some d) ⟨.it (.one c), []⟩) (([b], []) :: acc) K) (hd : dstOK (some d) C.nt = true := by rfl) (hx : st.ev x = some (.ptr b off) := by rfl) (hb : st.hp b = .ent (.box T cells) := by rfl) (hr : cells[off]? = some c := by rfl) : Go1 P C ops (some d) (.load t x) ty rest st acc K :=
  Go1.load1 hd hx hb hr next
theorem G.load2 {b off : Nat} {T : TypeId} {cells : List Atom} {a1 a2 : Atom} [ht : TAgg P t 2] (next : Reg P C ops rest (st.app (some d) ⟨.agg [a1, a2], []⟩) (([b], []) :: acc) K) (hd : dstOK (some d) C.nt = true := by rfl) (hx : st.ev x = some (.ptr b off) := by rfl) (hb : st.hp b = .ent (.box T cells) := by rfl) (hr : (cells.drop off).take 2 = [a1, a2] := by rfl) : Go1 P C ops (some d) (.load t x) ty rest st acc K :=
  Go1.load2 hd hx hb hr next
theorem G.load3 {b off : Nat} {T : TypeId} {cells : List Atom} {a1 a2 a3 : Atom} [ht : TAgg P t 3] (next : Reg P C ops rest (st.app (some d) ⟨.agg [a1, a2, a3], []⟩) (([b], []) :: acc) K) (hd : dstOK (some d) C.nt = true := by rfl) (hx : st.ev x = some (.ptr b off) := by rfl) (hb : st.hp b = .ent (.box T cells) := by rfl) (hr : (cells.drop off).take 3 = [a1, a2, a3] := by rfl) : Go1 P C ops (some d) (.load t x) ty rest st acc K :=
  Go1.load3 hd hx hb hr next
theorem G.load4 {b off : Nat} {T : TypeId} {cells : List Atom} {a1 a2 a3 a4 : Atom} [ht : TAgg P t 4] (next : Reg P C ops rest (st.app (some d) ⟨.agg [a1, a2, a3, a4], []⟩) (([b], []) :: acc) K) (hd : dstOK (some d) C.nt = true := by rfl) (hx : st.ev x = some (.ptr b off) := by rfl) (hb : st.hp b = .ent (.box T cells) := by rfl) (hr : (cells.drop off).take 4 = [a1, a2, a3, a4] := by rfl) : Go1 P C ops (some d) (.load t x) ty rest st acc K :=
  Go1.load4 hd hx hb hr next
theorem G.loadR1 {c : CA} {cells : List CA} [ht : TOne P t] (next : Reg P C ops rest (st.app dst ⟨.it (.one (.c c)), []⟩) (([], []) :: acc) K) (hd : dstOK dst C.nt = true := by rfl) (hx : st.ev x = some (.r (ptrR cells)) := by rfl) (hl : cells[0]? = some c := by first | rfl | assumption | exact load_map (by assumption) | exact load_mapO (by assumption)) : Go1 P C ops dst (.load t x) ty rest st acc K :=
  Go1.loadR1 hd hx hl next
theorem G.loadR2 {c1 c2 : CA} {cells : List CA} [ht : TAgg P t 2] (next : Reg P C ops rest (st.app dst ⟨.agg [.c c1, .c c2], []⟩) (([], []) :: acc) K) (hd : dstOK dst C.nt = true := by rfl) (hx : st.ev x = some (.r (ptrR cells)) := by rfl) (hl : cells = [c1, c2] := by rfl) : Go1 P C ops dst (.load t x) ty rest st acc K :=
  Go1.loadR2 hd hx hl next
theorem G.loadR3 {c1 c2 c3 : CA} {cells : List CA} [ht : TAgg P t 3] (next : Reg P C ops rest (st.app dst ⟨.agg [.c c1, .c c2, .c c3], []⟩) (([], []) :: acc) K) (hd : dstOK dst C.nt = true := by rfl) (hx : st.ev x = some (.r (ptrR cells)) := by rfl) (hl : cells = [c1, c2, c3] := by rfl) : Go1 P C ops dst (.load t x) ty rest st acc K :=
  Go1.loadR3 hd hx hl next
theorem G.loadR4 {c1 c2 c3 c4 : CA} {cells : List CA} [ht : TAgg P t 4] (next : Reg P C ops rest (st.app dst ⟨.agg [.c c1, .c c2, .c c3, .c c4], []⟩) (([], []) :: acc) K) (hd : dstOK dst C.nt = true := by rfl) (hx : st.ev x = some (.r (ptrR cells)) := by rfl) (hl : cells = [c1, c2, c3, c4] := by rfl) : Go1 P C ops dst (.load t x) ty rest st acc K :=
  Go1.loadR4 hd hx hl next
theorem G.lss  (next : Reg P C ops rest (st.app dst ⟨.v (.bool (decide (m < n))), []⟩) (([], []) :: acc) K) (hd : dstOK dst C.nt = true := by rfl) (hx : st.ev x = some (.v (.int k m)) := by rfl) (hy : st.ev y = some (.v (.int k n)) := by rfl) : Go1 P C ops dst (.binOp .lss t x y t') ty rest st acc K :=
  Go1.lss hd hx hy next
theorem G.move {x : Operand} {r : AV} (next : Reg P C ops rest (st.app dst ⟨r, []⟩) (([], []) :: acc) K) (hd : dstOK dst C.nt = true := by rfl) (hx : st.ev x = some r := by rfl) : Go1 P C ops dst (.move x) ty rest st acc K :=
  Go1.move hd hx next
theorem G.mul {z : Int} (next : Reg P C ops rest (st.app dst ⟨.v (.int k z), []⟩) (([], []) :: acc) K) (hd : dstOK dst C.nt = true := by rfl) (hx : st.ev x = some (.v (.int k m)) := by rfl) (hy : st.ev y = some (.v (.int k n)) := by rfl) (hw : k.wrap (m * n) = z := by first | (with_reducible assumption) | assumption | exact wrapI64 (by omega) (by omega) | exact wrapU64 (by omega) (by omega) | exact and1_i64 _ | rfl) : Go1 P C ops dst (.binOp .mul t x y t') ty rest st acc K :=
  Go1.mul hd hx hy hw next
theorem G.neg {z : Int} (next : Reg P C ops rest (st.app dst ⟨.v (.int k z), []⟩) (([], []) :: acc) K) (hd : dstOK dst C.nt = true := by rfl) (hx : st.ev x = some (.v (.int k m)) := by rfl) (hw : k.wrap (0 - m) = z := by first | (with_reducible assumption) | assumption | exact wrapI64 (by omega) (by omega) | exact wrapU64 (by omega) (by omega) | exact and1_i64 _ | rfl) : Go1 P C ops dst (.unOp .neg t x) ty rest st acc K :=
  Go1.neg hd hx hw next
theorem G.neq  (next : Reg P C ops rest (st.app dst ⟨.v (.bool (decide (m ≠ n))), []⟩) (([], []) :: acc) K) (hd : dstOK dst C.nt = true := by rfl) (hx : st.ev x = some (.v (.int k m)) := by rfl) (hy : st.ev y = some (.v (.int k n)) := by rfl) : Go1 P C ops dst (.binOp .neq t x y t') ty rest st acc K :=
  Go1.neq hd hx hy next
theorem G.neqB {b c : Bool} [hb : TBool P t] (next : Reg P C ops rest (st.app dst ⟨.v (.bool (!(b == c))), []⟩) (([], []) :: acc) K) (hd : dstOK dst C.nt = true := by rfl) (hx : st.ev x = some (.v (.bool b)) := by rfl) (hy : st.ev y = some (.v (.bool c)) := by rfl) : Go1 P C ops dst (.binOp .neq t x y t') ty rest st acc K :=
  Go1.neqB hd hx hy next
theorem G.not {b : Bool} (next : Reg P C ops rest (st.app dst ⟨.v (.bool (!b)), []⟩) (([], []) :: acc) K) (hd : dstOK dst C.nt = true := by rfl) (hx : st.ev x = some (.v (.bool b)) := by rfl) : Go1 P C ops dst (.unOp .not t x) ty rest st acc K :=
  Go1.not hd hx next
theorem G.pick {x y c : Operand} {b : Bool} {r : AV} (next : Reg P C ops rest (st.app dst ⟨r, []⟩) (([], []) :: acc) K) (hd : dstOK dst C.nt = true := by rfl) (hc : st.ev c = some (.v (.bool b)) := by rfl) (hx : st.ev (match b with | true => x | false => y) = some r := by rfl) : Go1 P C ops dst (.pick c x y) ty rest st acc K :=
  Go1.pick hd hc hx next
theorem G.pickHF {c : Operand} {t : Bool} {r : AV} (next : Reg P C ops rest (st.app dst ⟨r, []⟩) (([], []) :: acc) K) (hd : dstOK dst C.nt = true := by rfl) (hc : st.ev c = some (.v (.bool t)) := by rfl) (ht : t = false := by first | (with_reducible assumption) | assumption) (hx : st.ev y = some r := by rfl) : Go1 P C ops dst (.pick c x y) ty rest st acc K :=
  Go1.pickHF hd hc ht hx next
theorem G.pickHT {c : Operand} {t : Bool} {r : AV} (next : Reg P C ops rest (st.app dst ⟨r, []⟩) (([], []) :: acc) K) (hd : dstOK dst C.nt = true := by rfl) (hc : st.ev c = some (.v (.bool t)) := by rfl) (ht : t = true := by first | (with_reducible assumption) | assumption) (hx : st.ev x = some r := by rfl) : Go1 P C ops dst (.pick c x y) ty rest st acc K :=
  Go1.pickHT hd hc ht hx next
theorem G.store {b off n : Nat} {T : TypeId} {cells cells' : List Atom} {v : AV0} (next : Reg P C ops rest (st.app none ⟨.v undef, [(b, .ent (.box T cells'))]⟩) (([b], [b]) :: acc) K) (hs : (P.info? t).map (·.size) = some n := by kernel_rfl) (hx : st.ev x = some (.ptr b off) := by rfl) (hy : st.ev y = some (.it v) := by rfl) (hb : st.hp b = .ent (.box T cells) := by rfl) (hn : v.cells.length = n := by rfl) (hl : Nat.ble (off + n) cells.length = true := by rfl) (h1 : v.cells.all Atom.oneB = true := by rfl) (hr : spl cells off v.cells = cells' := by rfl) : Go1 P C ops none (.store t x y) ty rest st acc K :=
  Go1.store hs hx hy hb hn hl h1 hr next
theorem G.sub {z : Int} (next : Reg P C ops rest (st.app dst ⟨.v (.int k z), []⟩) (([], []) :: acc) K) (hd : dstOK dst C.nt = true := by rfl) (hx : st.ev x = some (.v (.int k m)) := by rfl) (hy : st.ev y = some (.v (.int k n)) := by rfl) (hw : k.wrap (m - n) = z := by first | (with_reducible assumption) | assumption | exact wrapI64 (by omega) (by omega) | exact wrapU64 (by omega) (by omega) | exact and1_i64 _ | rfl) : Go1 P C ops dst (.binOp .sub t x y t') ty rest st acc K :=
  Go1.sub hd hx hy hw next
end SX
/- A run at one word; contracts that are found by their function; sums kept as naturals. No program in sight. -/
set_option linter.unusedVariables false
set_option linter.unusedSimpArgs false
namespace SX
open Go Go.RowKit
theorem not_t {b : Bool} (h : b = false) : (!b) = true := by rw [h]; rfl
theorem not_f {b : Bool} (h : b = true) : (!b) = false := by rw [h]; rfl
/-- A contract that is found by its function and its arguments. -/
class Con (P : Program) (f : FuncId) (args : List AV) (pre : outParam Prop) (r : outParam AV) : Prop where
  h : pre → PureOK P f args r
theorem Con.use {P : Program} {f : FuncId} {args : List AV} {pre : Prop} {r : AV} [c : Con P f args pre r] (h : pre) : PureOK P f args r := c.h h
section
variable {P : Program} {C : Ctx} {st : St} {Q : Exit → St → Prop}
variable {ops rest : List Oper} {acc : List (List Nat × List Nat)} {K : List (List Nat × List Nat) → St → Prop} {dst : Option Tmp} {d : Tmp} {op : Op} {ty t t' : TypeId} {x y z : Operand} {k k' : IntKind} {m n : Int} {pos : String} {af : Array Edge} {za zb zi zj : Int}
theorem litN (n : Nat) : ((OfNat.ofNat n : Int)) = ((OfNat.ofNat n : Nat) : Int) := rfl
theorem evz {z z' : Int} (h : st.ev x = some (.v (.int k z))) (h0 : z = z') : st.ev x = some (.v (.int k z')) := h0 ▸ h
theorem G.call {f : FuncId} {as : Array Operand} {tys : Array TypeId} {args : List AV} {r : AV} (next : Reg P C ops rest (st.app dst ⟨r, []⟩) (([], []) :: acc) K) (ha : evs st as.toList = some args := by rfl) (hc : PureOK P f args r := by first | (with_reducible assumption) | assumption | exact SX.Con.use (by first | trivial | omega | assumption | (refine ⟨?_, ?_⟩ <;> first | omega | assumption) | (refine ⟨?_, ?_, ?_⟩ <;> first | omega | assumption))) (hd : dstOK dst C.nt = true := by rfl) (hid : r.ids = [] := by rfl) : Go1 P C ops dst (.call ⟨.value (.func f), as, tys⟩) ty rest st acc K :=
  Go1.call ha hc hd hid next
theorem wrapN64 {m : Nat} (h : m ≤ 9223372036854775807) : IntKind.i64.wrap (m : Int) = (m : Int) := wrapI64 (by omega) (by omega)
theorem wrapNu {m : Nat} (h : m ≤ 18446744073709551615) : IntKind.u64.wrap (m : Int) = (m : Int) := wrapU64 (by omega) (by omega)
class WrapN (k : IntKind) (b : outParam Nat) : Prop where
  h : ∀ m : Nat, m ≤ b → k.wrap (m : Int) = (m : Int)
theorem G.addN {a b : Nat} (next : Reg P C ops rest (st.app dst ⟨.v (.int .i64 ((a + b : Nat) : Int)), []⟩) (([], []) :: acc) K) (hd : dstOK dst C.nt = true := by rfl) (hx : st.ev x = some (.v (.int .i64 za)) := by rfl) (hx0 : za = (a : Int) := by first | with_reducible rfl | exact SX.litN _ | rfl) (hy : st.ev y = some (.v (.int .i64 zb)) := by rfl) (hy0 : zb = (b : Int) := by first | with_reducible rfl | exact SX.litN _ | rfl) (hb : a + b ≤ 9223372036854775807 := by omega) : Go1 P C ops dst (.binOp .add t x y t') ty rest st acc K :=
  Go1.add hd (evz hx hx0) (evz hy hy0) (by rw [← Int.natCast_add]; exact wrapN64 hb) next
theorem G.addNu {a b : Nat} (next : Reg P C ops rest (st.app dst ⟨.v (.int .u64 ((a + b : Nat) : Int)), []⟩) (([], []) :: acc) K) (hd : dstOK dst C.nt = true := by rfl) (hx : st.ev x = some (.v (.int .u64 za)) := by rfl) (hx0 : za = (a : Int) := by first | with_reducible rfl | exact SX.litN _ | rfl) (hy : st.ev y = some (.v (.int .u64 zb)) := by rfl) (hy0 : zb = (b : Int) := by first | with_reducible rfl | exact SX.litN _ | rfl) (hb : a + b ≤ 18446744073709551615 := by omega) : Go1 P C ops dst (.binOp .add t x y t') ty rest st acc K :=
  Go1.add hd (evz hx hx0) (evz hy hy0) (by rw [← Int.natCast_add]; exact wrapNu hb) next
theorem G.subN {a b : Nat} (next : Reg P C ops rest (st.app dst ⟨.v (.int .i64 ((a - b : Nat) : Int)), []⟩) (([], []) :: acc) K) (hd : dstOK dst C.nt = true := by rfl) (hx : st.ev x = some (.v (.int .i64 za)) := by rfl) (hx0 : za = (a : Int) := by first | with_reducible rfl | exact SX.litN _ | rfl) (hy : st.ev y = some (.v (.int .i64 zb)) := by rfl) (hy0 : zb = (b : Int) := by first | with_reducible rfl | exact SX.litN _ | rfl) (h1 : b ≤ a := by omega) (hb : a ≤ 9223372036854775807 := by omega) : Go1 P C ops dst (.binOp .sub t x y t') ty rest st acc K :=
  Go1.sub hd (evz hx hx0) (evz hy hy0) (by rw [← Int.ofNat_sub h1]; exact wrapN64 (by omega)) next
theorem G.mulN {a b : Nat} (next : Reg P C ops rest (st.app dst ⟨.v (.int .i64 ((a * b : Nat) : Int)), []⟩) (([], []) :: acc) K) (hd : dstOK dst C.nt = true := by rfl) (hx : st.ev x = some (.v (.int .i64 za)) := by rfl) (hx0 : za = (a : Int) := by first | with_reducible rfl | exact SX.litN _ | rfl) (hy : st.ev y = some (.v (.int .i64 zb)) := by rfl) (hy0 : zb = (b : Int) := by first | with_reducible rfl | exact SX.litN _ | rfl) (hb : a * b ≤ 9223372036854775807 := by first | omega | assumption) : Go1 P C ops dst (.binOp .mul t x y t') ty rest st acc K :=
  Go1.mul hd (evz hx hx0) (evz hy hy0) (by rw [← Int.natCast_mul]; exact wrapN64 hb) next
theorem G.mulNu {a b : Nat} (next : Reg P C ops rest (st.app dst ⟨.v (.int .u64 ((a * b : Nat) : Int)), []⟩) (([], []) :: acc) K) (hd : dstOK dst C.nt = true := by rfl) (hx : st.ev x = some (.v (.int .u64 za)) := by rfl) (hx0 : za = (a : Int) := by first | with_reducible rfl | exact SX.litN _ | rfl) (hy : st.ev y = some (.v (.int .u64 zb)) := by rfl) (hy0 : zb = (b : Int) := by first | with_reducible rfl | exact SX.litN _ | rfl) (hb : a * b ≤ 18446744073709551615 := by first | omega | assumption) : Go1 P C ops dst (.binOp .mul t x y t') ty rest st acc K :=
  Go1.mul hd (evz hx hx0) (evz hy hy0) (by rw [← Int.natCast_mul]; exact wrapNu hb) next
theorem G.quoNu {a b : Nat} (next : Reg P C ops rest (st.app dst ⟨.v (.int .u64 ((a / b : Nat) : Int)), []⟩) (([], []) :: acc) K) (hd : dstOK dst C.nt = true := by rfl) (hx : st.ev x = some (.v (.int .u64 za)) := by rfl) (hx0 : za = (a : Int) := by first | with_reducible rfl | exact SX.litN _ | rfl) (hy : st.ev y = some (.v (.int .u64 zb)) := by rfl) (hy0 : zb = (b : Int) := by first | with_reducible rfl | exact SX.litN _ | rfl) (h1 : 0 < b := by omega) (hb : a ≤ 18446744073709551615 := by omega) : Go1 P C ops dst (.binOp .quo t x y t') ty rest st acc K :=
  Go1.quo hd (evz hx hx0) (evz hy hy0) (by omega) (by show _ = _; exact wrapNu (Nat.le_trans (Nat.div_le_self ..) hb)) next
theorem G.remNu {a b : Nat} (next : Reg P C ops rest (st.app dst ⟨.v (.int .u64 ((a % b : Nat) : Int)), []⟩) (([], []) :: acc) K) (hd : dstOK dst C.nt = true := by rfl) (hx : st.ev x = some (.v (.int .u64 za)) := by rfl) (hx0 : za = (a : Int) := by first | with_reducible rfl | exact SX.litN _ | rfl) (hy : st.ev y = some (.v (.int .u64 zb)) := by rfl) (hy0 : zb = (b : Int) := by first | with_reducible rfl | exact SX.litN _ | rfl) (h1 : 0 < b := by omega) : Go1 P C ops dst (.binOp .rem t x y t') ty rest st acc K :=
  Go1.rem hd (evz hx hx0) (evz hy hy0) (by omega) (show ((a : Int)).tmod (b : Int) = ((a % b : Nat) : Int) from rfl) next
theorem R.runT {j u : Nat} {b' : Bool} (h : Go1 P C ops dst op ty rest st acc K) (ht : (ops[j]?).bind (·.dst) = some u := by rfl) (hv : st.tm u = some (.v (.bool b')) := by rfl) (hb : b' = true := by first | rfl | (with_reducible assumption) | assumption | exact decide_eq_true (by omega) | exact SX.not_t (by first | (with_reducible assumption) | assumption | exact decide_eq_false (by omega))) : Reg P C ops (⟨dst, op, ty, pos, af, some (j, true)⟩ :: rest) st acc K :=
  Reg.goT ht hv hb h
theorem R.runF {j u : Nat} {b' : Bool} (h : Go1 P C ops dst op ty rest st acc K) (ht : (ops[j]?).bind (·.dst) = some u := by rfl) (hv : st.tm u = some (.v (.bool b')) := by rfl) (hb : b' = false := by first | rfl | (with_reducible assumption) | assumption | exact decide_eq_false (by omega) | exact SX.not_f (by first | (with_reducible assumption) | assumption | exact decide_eq_true (by omega))) : Reg P C ops (⟨dst, op, ty, pos, af, some (j, false)⟩ :: rest) st acc K :=
  Reg.goT ht hv hb h
theorem R.skipT {j u : Nat} {b' : Bool} (h : Reg P C ops rest (st.put dst (some (.v undef))) (([], []) :: acc) K) (ht : (ops[j]?).bind (·.dst) = some u := by rfl) (hv : st.tm u = some (.v (.bool b')) := by rfl) (hb : b' = false := by first | rfl | (with_reducible assumption) | assumption | exact decide_eq_false (by omega) | exact SX.not_f (by first | (with_reducible assumption) | assumption | exact decide_eq_true (by omega))) : Reg P C ops (⟨dst, op, ty, pos, af, some (j, true)⟩ :: rest) st acc K :=
  Reg.goF ht hv hb h
theorem R.skipF {j u : Nat} {b' : Bool} (h : Reg P C ops rest (st.put dst (some (.v undef))) (([], []) :: acc) K) (ht : (ops[j]?).bind (·.dst) = some u := by rfl) (hv : st.tm u = some (.v (.bool b')) := by rfl) (hb : b' = true := by first | rfl | (with_reducible assumption) | assumption | exact decide_eq_true (by omega) | exact SX.not_t (by first | (with_reducible assumption) | assumption | exact decide_eq_false (by omega))) : Reg P C ops (⟨dst, op, ty, pos, af, some (j, false)⟩ :: rest) st acc K :=
  Reg.goF ht hv hb h
theorem R.skipU {j u : Nat} {b : Bool} (h : Reg P C ops rest (st.put dst (some (.v undef))) (([], []) :: acc) K) (ht : (ops[j]?).bind (·.dst) = some u := by rfl) (hv : st.tm u = some (.v undef) := by rfl) : Reg P C ops (⟨dst, op, ty, pos, af, some (j, b)⟩ :: rest) st acc K :=
  Reg.goU ht hv h
theorem W.condT {c : Operand} {a e : Code} {b' : Bool} (h : WP P C a st Q) (hc : st.ev c = some (.v (.bool b')) := by rfl) (hb : b' = true := by first | rfl | (with_reducible assumption) | assumption | exact decide_eq_true (by omega) | exact SX.not_t (by first | (with_reducible assumption) | assumption | exact decide_eq_false (by omega))) : WP P C (.cond c a e) st Q :=
  WP.condHT hc hb h
theorem W.condF {c : Operand} {a e : Code} {b' : Bool} (h : WP P C e st Q) (hc : st.ev c = some (.v (.bool b')) := by rfl) (hb : b' = false := by first | rfl | (with_reducible assumption) | assumption | exact decide_eq_false (by omega) | exact SX.not_f (by first | (with_reducible assumption) | assumption | exact decide_eq_true (by omega))) : WP P C (.cond c a e) st Q :=
  WP.condHF hc hb h
/-- A branch over what can be decided. -/
theorem W.ite {c : Operand} {a e : Code} {p : Prop} [Decidable p] (h1 : p → WP P C a st Q) (h2 : ¬ p → WP P C e st Q) (hc : st.ev c = some (.v (.bool (decide p))) := by rfl) : WP P C (.cond c a e) st Q :=
  WP.cond hc (fun h => h1 (of_decide_eq_true h)) (fun h => h2 (of_decide_eq_false h))
theorem W.iteB {c : Operand} {a e : Code} {b : Bool} (h1 : b = true → WP P C a st Q) (h2 : b = false → WP P C e st Q) (hc : st.ev c = some (.v (.bool b)) := by rfl) : WP P C (.cond c a e) st Q :=
  WP.cond hc h1 h2
theorem R.pickT {c : Operand} {b' : Bool} {r : AV} (next : Reg P C ops rest (st.app dst ⟨r, []⟩) (([], []) :: acc) K) (hd : dstOK dst C.nt = true := by rfl) (hc : st.ev c = some (.v (.bool b')) := by rfl) (ht : b' = true := by first | rfl | (with_reducible assumption) | assumption | exact decide_eq_true (by omega) | exact SX.not_t (by first | (with_reducible assumption) | assumption | exact decide_eq_false (by omega))) (hx : st.ev x = some r := by rfl) : Go1 P C ops dst (.pick c x y) ty rest st acc K :=
  Go1.pickHT hd hc ht hx next
theorem R.pickF {c : Operand} {b' : Bool} {r : AV} (next : Reg P C ops rest (st.app dst ⟨r, []⟩) (([], []) :: acc) K) (hd : dstOK dst C.nt = true := by rfl) (hc : st.ev c = some (.v (.bool b')) := by rfl) (ht : b' = false := by first | rfl | (with_reducible assumption) | assumption | exact decide_eq_false (by omega) | exact SX.not_f (by first | (with_reducible assumption) | assumption | exact decide_eq_true (by omega))) (hx : st.ev y = some r := by rfl) : Go1 P C ops dst (.pick c x y) ty rest st acc K :=
  Go1.pickHF hd hc ht hx next

/-- A text of these bytes. -/
abbrev str (l : List UInt8) : Value := .string ⟨⟨l⟩⟩
/-- A text's byte. -/
def byt (l : List UInt8) (i : Nat) : UInt8 := l.getD i 0
theorem G.eqlT {l m : List UInt8} (next : Reg P C ops rest (st.app dst ⟨.v (.bool (decide (l = m))), []⟩) (([], []) :: acc) K) (hd : dstOK dst C.nt = true := by rfl) (hx : st.ev x = some (.v (str l)) := by rfl) (hy : st.ev y = some (.v (str m)) := by rfl) : Go1 P C ops dst (.binOp .eql t x y t') ty rest st acc K :=
  Go1.eqlS hd hx hy (by
    have : ((⟨⟨l⟩⟩ : ByteArray).toList == (⟨⟨m⟩⟩ : ByteArray).toList) = decide (l = m) := by
      rw [ByteArray.toList_eq, ByteArray.toList_eq]; rw [Bool.eq_iff_iff]; simp
    rw [this]; exact next)
end
end SX
/- Rows of elements that are told one by one; stores into the call's own rows; min and max. No program in sight. -/
set_option linter.unusedVariables false
set_option linter.unusedSimpArgs false
namespace SX
open Go Go.RowKit
/-- Each element is told by so many cells. -/
class EncLen {α : Type} (enc : α → List CA) (size : outParam Nat) : Prop where
  h : ∀ a, (enc a).length = size
section
variable {α : Type} {enc : α → List CA} {size : Nat}
theorem flat_len [h : EncLen enc size] : ∀ l : List α, (l.flatMap enc).length = l.length * size
  | [] => by simp
  | a :: l => by rw [List.flatMap_cons, List.length_append, h.h, flat_len l, List.length_cons, Nat.add_mul]; omega
theorem flat_at [h : EncLen enc size] : ∀ {l : List α} {i : Nat} {a : α}, l[i]? = some a → ((l.flatMap enc).drop (i * size)).take size = enc a
  | [], i, a, hl => by simp at hl
  | x :: l, 0, a, hl => by
    simp at hl; subst hl
    rw [Nat.zero_mul, List.drop_zero, List.flatMap_cons, List.take_append_of_le_length (by rw [h.h]; exact Nat.le_refl _), List.take_of_length_le (by rw [h.h]; exact Nat.le_refl _)]
  | x :: l, i + 1, a, hl => by
    simp at hl
    rw [List.flatMap_cons, Nat.add_mul, Nat.one_mul, Nat.add_comm, List.drop_append, h.h]
    rw [List.drop_eq_nil_of_le (by rw [h.h]; omega), List.nil_append, show size + i * size - size = i * size by omega]
    exact flat_at hl
theorem flat_take [h : EncLen enc size] (l : List α) (k : Nat) : (l.flatMap enc).take (k * size) = (l.take k).flatMap enc := by
  induction l generalizing k with
  | nil => simp
  | cons a l ih =>
    cases k with
    | zero => simp
    | succ k => rw [List.take_succ_cons, List.flatMap_cons, List.flatMap_cons, Nat.add_mul, Nat.one_mul, Nat.add_comm, List.take_append, List.take_of_length_le (by rw [h.h]; omega), h.h, show size + k * size - size = k * size by omega, ih]
theorem flat_drop [h : EncLen enc size] (l : List α) (k : Nat) : (l.flatMap enc).drop (k * size) = (l.drop k).flatMap enc := by
  induction l generalizing k with
  | nil => simp
  | cons a l ih =>
    cases k with
    | zero => simp
    | succ k => rw [List.drop_succ_cons, List.flatMap_cons, Nat.add_mul, Nat.one_mul, Nat.add_comm, List.drop_append, List.drop_eq_nil_of_le (by rw [h.h]; omega), h.h, show size + k * size - size = k * size by omega, ih, List.nil_append]
/-- An element is written. -/
theorem flat_set [h : EncLen enc size] (l : List α) (i : Nat) (a : α) (hi : i < l.length) : spl (l.flatMap enc) (i * size) (enc a) = (l.set i a).flatMap enc := by
  have hl := flat_len (enc := enc) l
  have hm : i * size + size ≤ l.length * size := by rw [← Nat.succ_mul]; exact Nat.mul_le_mul_right _ hi
  rw [spl_eq _ _ _ (by rw [h.h, hl]; omega), h.h, flat_take, show i * size + size = (i + 1) * size by rw [Nat.succ_mul], flat_drop]
  rw [show l.set i a = l.take i ++ [a] ++ l.drop (i + 1) by rw [List.set_eq_take_append_cons_drop, if_pos hi]; simp]
  simp
end
/-- A slice of elements. -/
abbrev rowR {α : Type} (size : Nat) (enc : α → List CA) (l : List α) : Rep := sliceR size l.length (l.flatMap enc)
class AsRow (r : Rep) (size : outParam Nat) {α : outParam Type} (enc : outParam (α → List CA)) (l : outParam (List α)) : Prop where
  h : ∀ S w v, r.has S w v → (rowR size enc l).has S w v
instance {α : Type} (size : Nat) (enc : α → List CA) (l : List α) : AsRow (sliceR size l.length (l.flatMap enc)) size enc l := ⟨fun _ _ _ h => h⟩
theorem CA.one_of_enc {α : Type} {enc : α → List CA} (h : ∀ a, (enc a).all CA.oneB = true) (l : List α) : (l.flatMap enc).all CA.oneB = true := by
  induction l with
  | nil => rfl
  | cons a l ih => rw [List.flatMap_cons, List.all_append, h, ih]; rfl
/-- Every cell holds what takes one cell. -/
class EncOne {α : Type} (enc : α → List CA) : Prop where
  h : ∀ a, (enc a).all CA.oneB = true
theorem allOne {α : Type} {enc : α → List CA} (l : List α) [h : EncOne enc] : (l.flatMap enc).all CA.oneB = true := CA.one_of_enc h.h l
section
variable {P : Program} {C : Ctx} {st : St}
variable {ops rest : List Oper} {acc : List (List Nat × List Nat)} {K : List (List Nat × List Nat) → St → Prop} {dst : Option Tmp} {d : Tmp} {op : Op} {ty t t' : TypeId} {x y z : Operand} {k k' : IntKind} {i j : Nat} {za zb zi zj : Int}
/-- The place of an element. -/
theorem G.indexAddrW {α : Type} {e : TypeId} {size sz : Nat} {enc : α → List CA} {l : List α} {a : α} {r : Rep} [ht : TSlice P t e size] (next : Reg P C ops rest (st.app dst ⟨.r (ptrR (enc a)), []⟩) (([], []) :: acc) K)
    (hd : dstOK dst C.nt = true := by rfl) (hx : st.ev x = some (.r r) := by rfl) (hy : st.ev y = some (.v (.int k zi)) := by rfl) (hy0 : zi = (i : Int) := by first | with_reducible rfl | exact SX.litN _ | rfl) (hr : AsRow r sz enc l := by infer_instance) (hsz : sz = size := by rfl) (hz : EncLen enc size := by infer_instance) (ha : l[i]? = some a := by first | assumption | exact List.getElem?_eq_getElem (by omega)) : Go1 P C ops dst (.indexAddr t x y) ty rest st acc K := by
  subst hsz
  haveI : AsSlice r sz l.length (l.flatMap enc) := ⟨hr.h⟩
  have hi : i < l.length := (List.getElem?_eq_some_iff.1 ha).1
  refine Go1.indexAddrR (hd := hd) hx (evz hy hy0) hi ?_
  rw [flat_at ha]
  exact next
theorem G.sliceHiW {α : Type} {e : TypeId} {size sz : Nat} {enc : α → List CA} {l : List α} {r : Rep} [ht : TSlice P t e size] (next : Reg P C ops rest (st.app dst ⟨.r (rowR size enc (l.take j)), []⟩) (([], []) :: acc) K)
    (hd : dstOK dst C.nt = true := by rfl) (hx : st.ev x = some (.r r) := by rfl) (hy : st.ev y = some (.v (.int k zj)) := by rfl) (hy0 : zj = (j : Int) := by first | with_reducible rfl | exact SX.litN _ | rfl) (hr : AsRow r sz enc l := by infer_instance) (hsz : sz = size := by rfl) (hz : EncLen enc size := by infer_instance) (h1 : j ≤ l.length := by omega) : Go1 P C ops dst (.slice t x none (some y) none) ty rest st acc K := by
  subst hsz
  haveI : AsSlice r sz l.length (l.flatMap enc) := ⟨hr.h⟩
  refine Go1.sliceHiR (hd := hd) hx (evz hy hy0) (by omega) (by omega) ?_
  rw [Int.toNat_natCast, flat_take]
  have e : (l.take j).length = j := by rw [List.length_take]; omega
  have := next
  unfold rowR at this
  rwa [e] at this
theorem G.maxN {tys : Array TypeId} (next : Reg P C ops rest (st.app dst ⟨.v (.int k ((max i j : Nat) : Int)), []⟩) (([], []) :: acc) K) (hd : dstOK dst C.nt = true := by rfl) (hx : st.ev x = some (.v (.int k zi)) := by rfl) (hx0 : zi = (i : Int) := by first | with_reducible rfl | exact SX.litN _ | rfl) (hy : st.ev y = some (.v (.int k zj)) := by rfl) (hy0 : zj = (j : Int) := by first | with_reducible rfl | exact SX.litN _ | rfl) :
    Go1 P C ops dst (.call ⟨.builtin .max, #[x, y], tys⟩) ty rest st acc K :=
  Go1.val2 hd rfl (evz hx hx0) (evz hy hy0) (fun ρ o w ho h1 h2 => by
    unfold execOp; rw [ho]
    have e : (if (i : Int) < (j : Int) then (j : Int) else (i : Int)) = ((max i j : Nat) : Int) := by split <;> omega
    simp only [resolve, invoke, builtin, List.map_toArray, List.map_cons, List.map_nil, Sem.run_bind, Sem.run_pure, Result.andThen_ok]
    rw [show ρ x = _ from h1, show ρ y = _ from h2, run_max_int2]
    simp only [Result.andThen_ok, gt_iff_lt, e]) next
theorem Eff.storeRow {E : Env} {S : Nat → Prop} {w : World} {b g cap : Nat} {e : TypeId} {size n : Nat} {cells cells' : List CA} {cs' : Array Value} {r : AV} {v : Value} {vs' : List Value} (hl : ∀ k, S k → k < w.heap.size) (hS : S g) (hg : E.sl b = .slice (some ⟨g, 0, none⟩) n cap) (hlt : g < w.heap.size)
    (hr : r.has E S w v) (hown : (w.setRow g cs').ownsRow 0 e size (E.sl b) n vs') (hcs : All2 (CA.has S w) cells' vs') : Eff E S w [(b, .row e size n cells)] ⟨r, [(b, .ent (.row e size n cells'))]⟩ v (w.setRow g cs') E S := by
  have ho : Off S w (w.setRow g cs') := Off.setRow w _ _ hS
  have hbk : (E.sl b).ownBlock = some g := by rw [hg]; rfl
  refine
    { env := fun i hi => ⟨rfl, rfl⟩, fpe := fun _ _ => rfl, sub := fun k hk => hk, new := fun k hk => .inl hk, lt := fun k hk => Nat.lt_of_lt_of_le (hl k hk) ho.size, off := Off.setRow w _ _ ⟨b, _, List.mem_cons_self, hbk⟩,
      res := hr.step (fun _ _ => ⟨rfl, rfl⟩) ho (fun k hk => .inl hk), ents := fun i e' hi => ?_, blk := fun i e' k hi hk => ?_, sep := fun i i' e' e2 k hne h1 h2 => ?_ }
  · simp at hi; obtain ⟨rfl, rfl⟩ := hi
    exact ⟨vs', hown, hcs.mono fun c u _ hc => hc.step ho (fun k hk => .inl hk)⟩
  · simp at hi; obtain ⟨rfl, rfl⟩ := hi
    have : k = g := by have h2 : (E.sl i).ownBlock = some k := hk; rw [hbk] at h2; cases h2; rfl
    subst this
    exact ⟨hS, .inl ⟨i, _, List.mem_cons_self, hbk⟩⟩
  · simp at h1 h2; exact absurd (h1.1.trans h2.1.symm) hne
/-- A cell, or more, of a row of the call's own is written. -/
theorem Go1.storeO {e : TypeId} {b off m n size : Nat} {cells cells2 cells' : List CA} {v : AV0} (hs : (P.info? t).map (·.size) = some m) (hx : st.ev x = some (.it (.one (.rptr b off)))) (hy : st.ev y = some (.it v)) (hb : st.hp b = .ent (.row e size n cells)) (hn : v.cells.length = m) (hl : off + m ≤ n * size)
    (h1 : v.cells.all Atom.oneB = true) (hc : closedL v.cells = some cells2) (hr : spl cells off cells2 = cells')
    (next : Reg P C ops rest (st.app none ⟨.v undef, [(b, .ent (.row e size n cells'))]⟩) (([b], [b]) :: acc) K) : Go1 P C ops none (.store t x y) ty rest st acc K := by
  refine ⟨[b], ⟨.v undef, [(b, .ent (.row e size n cells'))]⟩, fun o h2 h3 h4 => OpOK.eff [] [(b, .row e size n cells)] (fun i hi => ?_) (h2 ▸ (fun x hx => by cases hx)) (fun b e hb => by cases hb) (fun i e hi => ?_) (fun i s hi => ?_) (fun i s hi => ?_) (fun st' E S a w hev hhp hse _ hpre => ?_), next⟩
  · rcases hi with ⟨e, hi⟩ | ⟨e, hi⟩ | ⟨s, hi⟩
    · cases hi
    · simp at hi; simp [hi.1]
    · simp at hi; simp [hi.1]
  · simp at hi
    obtain ⟨rfl, rfl⟩ := hi
    exact ⟨hb, _, by simp; rfl⟩
  · simp at hi; obtain ⟨rfl, _⟩ := hi; exact .inl ⟨_, by simp; rfl⟩
  · simp at hi; rw [hi.2]; rfl
  · obtain ⟨⟨g, n', cap', hE1, hv⟩, _⟩ := hse.ev ((hev x (by simp [h3, Op.operands])).trans hx)
    obtain ⟨hu, hids⟩ := hse.ev ((hev y (by simp [h3, Op.operands])).trans hy)
    have hb' := hpre b (.row e size n cells) (by simp)
    obtain ⟨vs, hown, hall⟩ := hse.hp b _ hb'
    obtain ⟨us, hc', hallu, hone⟩ := AV0.has.cells hu h1
    have hlu := hallu.length
    have hcl := closedL_spec hc
    rw [hcl] at hallu
    have hallu' : All2 (CA.has S w) cells2 us := by
      clear hcl hc hr next hlu hc' hone
      induction cells2 generalizing us with
      | nil => cases us with | nil => trivial | cons _ _ => exact hallu.elim
      | cons c l ih => cases us with | nil => exact hallu.elim | cons u us => exact ⟨hallu.1, ih us hallu.2⟩
    have hown0 := hown
    obtain ⟨hxl, ⟨he, _⟩ | ⟨g2, cap, cur, he, _, hg, hnc, hcm, hcs, htk⟩⟩ := hown
    · rw [hE1] at he; cases he
    rw [hE1] at he
    cases he
    have hlen : off + us.length ≤ cur.toList.length := by
      have : n * size ≤ cap' * size := Nat.mul_le_mul_right _ hnc
      have hcz : cur.toList.length = cur.size := Array.length_toList
      omega
    have hrun := run_store (P := P) (off := off) (n := m) (cs := cur.toList) (T := e) (g := g) hs hc' (by omega) w (by simpa using hg) (by omega) hone
    have hsp := spl_eq cur.toList off us hlen
    have hsz : (Array.mk us).size = us.length := rfl
    have hcz : cur.toList.length = cur.size := Array.length_toList
    have hmu : us.length = m := by omega
    have hown' : (w.setRow g (spl cur.toList off us).toArray).ownsRow 0 e size (E.sl b) n (spl vs off us) := by
      have hvl : vs.length = n * size := hxl
      refine ⟨?_, .inr ⟨g, cap', (spl cur.toList off us).toArray, hE1, Nat.zero_le _, ?_, hnc, hcm, ?_, ?_⟩⟩
      · rw [spl_eq _ _ _ (by omega)]; simp; omega
      · exact setRow_heap w g _ _ _ _ hg
      · rw [hsp]; simp; omega
      · rw [spl_eq vs off us (by omega), hsp, ← htk]
        simp only [List.take_append, List.length_take, List.length_append, List.length_drop, Array.length_toList, List.drop_take, List.take_take]
        have e1 : min (n * size) off = off := by omega
        have e2 : min off cur.size = off := by rw [Array.length_toList] at hlen; omega
        have e3 : min off (n * size) = off := by omega
        rw [e1, e2, e3]
        rw [List.take_of_length_le (l := us) (by omega)]
    have hgl : g < w.heap.size := by rw [Array.getElem?_eq_some_iff] at hg; exact hg.1
    have hcs2 : All2 (CA.has S w) cells' (spl vs off us) := by
      rw [← hr]
      exact All2.spl off hall hallu'
    have hE := Eff.storeRow (E := E) (S := S) (w := w) (b := b) (g := g) (cap := cap') (e := e) (size := size) (n := n) (cells := cells) (cells' := cells') (r := .v undef) (v := undef) hse.lt (hse.blk b _ g hb' (by show (E.sl b).ownBlock = some g; rw [hE1]; rfl)).1 hE1 hgl rfl hown' hcs2
    refine ⟨⟨fun i hi => (by cases hi), fun i e hi j hj => ?_⟩, fun K Q hK => ?_⟩
    · simp at hi
      obtain ⟨rfl, rfl⟩ := hi
      cases hj
    · unfold Oper.wp execOp
      rw [h3]
      simp only [show a.eval x = _ from hv, Instr.storeAt, Instr.sureAddr, Sem.run_bind, Sem.run_pure, Result.andThen_ok, hrun]
      have := hK undef _ _ _ hE
      exact this
/-- append, its parts found one after the other. -/
theorem G.appendW {e : TypeId} {b n m bytes size : Nat} {zs : List Value} {r : Rep} {cells cells2 : List CA} [ht : TSlice P t e size] [he : TElem P e zs bytes] (next : Reg P C ops rest (st.app (some d) ⟨.own d, [(b, .gone), (d, .ent (.row e size (n + m) (cells ++ cells2)))]⟩) (([b, d], [b, d]) :: acc) K) (hd : dstOK (some d) C.nt = true := by rfl) (hx : st.ev x = some (.own b) := by rfl) (hy : st.ev y = some (.r r) := by rfl) (hr : AsSlice r size m cells2 := by infer_instance)
    (hb : st.hp b = .ent (.row e size n cells) := by rfl) (hf : st.hp d = .free := by rfl) (hz : Nat.beq zs.length size = true := by rfl) (h1 : cells2.all CA.oneB = true := by first | rfl | exact SX.allOne _) (h63 : n + m ≤ 9223372036854775807 := by omega) (hbytes : (n + m) * bytes ≤ 140737488355328 := by omega) : Go1 P C ops (some d) (.call ⟨.builtin .append, #[x, y], #[t, t]⟩) ty rest st acc K :=
  Go1.append hd hx hy hb hf hz h1 h63 hbytes next
/-- The same of a slice of words or the like. -/
theorem G.indexAddrV {e : TypeId} {size n : Nat} {cells : List CA} {r : Rep} [ht : TSlice P t e size] (next : Reg P C ops rest (st.app dst ⟨.r (ptrR ((cells.drop (i * size)).take size)), []⟩) (([], []) :: acc) K) (hd : dstOK dst C.nt = true := by rfl) (hx : st.ev x = some (.r r) := by rfl) (hr : AsSlice r size n cells := by infer_instance) (hy : st.ev y = some (.v (.int k zi)) := by rfl) (hy0 : zi = (i : Int) := by first | with_reducible rfl | exact SX.litN _ | rfl) (hi : i < n := by omega) : Go1 P C ops dst (.indexAddr t x y) ty rest st acc K :=
  Go1.indexAddrR (hd := hd) hx (evz hy hy0) hi next
end
end SX
/- A symbolic run at one word; loops and returns, their side goals left to tactics. No program in sight. -/
set_option linter.unusedVariables false
set_option linter.unusedSimpArgs false
namespace SX
open Go Go.RowKit
section

end
/-- The run, as far as it goes. -/
structure Held (q : Prop) : Prop where
  out : q
section
variable {P : Program} {C : Ctx} {st : St}
variable {ops rest : List Oper} {acc : List (List Nat × List Nat)} {K : List (List Nat × List Nat) → St → Prop} {dst : Option Tmp} {op : Op} {ty : TypeId} {pos : String} {af : Array Edge}
/-- A guard that isn't decided. -/
theorem R.ite {j u : Nat} {b : Bool} {p : Prop} [Decidable p] (h1 : p → Reg P C ops (⟨dst, op, ty, pos, af, some (j, b)⟩ :: rest) st acc K) (h2 : ¬ p → Reg P C ops (⟨dst, op, ty, pos, af, some (j, b)⟩ :: rest) st acc K)
    (ht : (ops[j]?).bind (·.dst) = some u := by rfl) (hv : st.tm u = some (.v (.bool (decide p))) := by rfl) : Reg P C ops (⟨dst, op, ty, pos, af, some (j, b)⟩ :: rest) st acc K :=
  (Decidable.em p).elim h1 h2
theorem R.iteB {j u : Nat} {b b' : Bool} (h1 : b' = true → Reg P C ops (⟨dst, op, ty, pos, af, some (j, b)⟩ :: rest) st acc K) (h2 : b' = false → Reg P C ops (⟨dst, op, ty, pos, af, some (j, b)⟩ :: rest) st acc K)
    (ht : (ops[j]?).bind (·.dst) = some u := by rfl) (hv : st.tm u = some (.v (.bool b')) := by rfl) : Reg P C ops (⟨dst, op, ty, pos, af, some (j, b)⟩ :: rest) st acc K := by
  cases b'
  · exact h2 rfl
  · exact h1 rfl
end
section
variable {P : Program} {C : Ctx} {st : St} {Q : Exit → St → Prop} {c : Code}
theorem St.lt0 {l : List (Nat × AV)} {m : List (Nat × Ent)} (hfix : ∀ b, C.fix b = true → lk ([] : List (Nat × Option Nat)) b = none ∧ (lk m b).isSome = true) (ht : TmTo st [] l) (hm : HpTo st [] m) (hti : tidy [] l m = true) : St.le C st (mkSt l m) := St.le_to _ hfix ht hm hti
theorem St.lt1 {o : Nat} {l : List (Nat × AV)} {m : List (Nat × Ent)} (hfix : ∀ b, C.fix b = true → lk ([(100, some o)] : List (Nat × Option Nat)) b = none ∧ (lk m b).isSome = true) (ht : TmTo st [(100, some o)] l) (hm : HpTo st [(100, some o)] m) (hti : tidy [(100, some o)] l m = true) : St.le C st (mkSt l m) := St.le_to _ hfix ht hm hti
theorem AVto.int {ρ : List (Nat × Option Nat)} {k : IntKind} {z z' : Int} (e : z = z') : AVto ρ (.v (.int k z)) (.v (.int k z')) := AVto.eq (by rw [e]) rfl
theorem WP.monoC {Q' : Exit → St → Prop} (h : WP P C c st Q) (k : ∀ e s, Q e s → ∃ s', St.le C s s' ∧ Q' e s') : WP P C c st Q' :=
  fun a w hs => wp_mono (h a w hs) fun e a w ⟨s, hq, hs⟩ => by
    obtain ⟨s', hl, hq'⟩ := k e s hq
    exact ⟨s', hq', hl a w hs⟩
/-- What a function comes to, in a state or in one that says less. -/
def RetF (C : Ctx) (P : Program) (rs : List ResultVar) (out : Out) (st : St) : Prop := ∃ st', St.le C st st' ∧ RetOK P rs out st'
def retF (C : Ctx) (P : Program) (rs : List ResultVar) (out : Out) : Exit → St → Prop
  | .ret, st => RetF C P rs out st
  | .normal, st => RetF C P rs out st
  | _, _ => False
theorem St.le.refl (C : Ctx) (st : St) : St.le C st st := fun _ _ h => h
theorem WP.retF {rs : List ResultVar} {out : Out} (h : WP P C c st (retF C P rs out)) : WP P C c st (retQ P rs out) :=
  h.monoC fun e s hq => match e, hq with
    | .ret, ⟨s', hl, hr⟩ => ⟨s', hl, hr⟩
    | .normal, ⟨s', hl, hr⟩ => ⟨s', hl, hr⟩
theorem retFR {rs : List ResultVar} {out : Out} (h : RetF C P rs out st) : retF C P rs out .ret st := h
theorem RetF.ok {rs : List ResultVar} {out : Out} (h : RetOK P rs out st) : RetF C P rs out st := ⟨st, St.le.refl _ _, h⟩
theorem RetF.frz {rs : List ResultVar} {out : Out} (b : Nat) {size n : Nat} {t : TypeId} {cells : List CA} (h : RetF C P rs out (st.frz b size n cells)) (hB : ∀ k, ¬ C.B k := by assumption) (hb : st.hp b = .ent (.row t size n cells) := by rfl) : RetF C P rs out st := by
  obtain ⟨s', hl, hr⟩ := h
  exact ⟨s', fun a w hs => hl a w (St.le_frz hB hb a w hs), hr⟩
theorem AV0.imp.of_eq {x y : AV0} (h : x = y) : x.imp y := h ▸ AV0.imp.refl x
theorem PureOK.fnF {f : FuncId} {fn : Func} {c : Code} {args : List AV} {r : AV} {nt : Nat} {rs : List ResultVar} (hf : P.funcs[f]? = some fn) (hres : fn.results = rs.toArray) (hnt : fn.ntmps = nt) (hb : fn.body = some c) (hn : (fn.name == "runtime.NumGoroutine") = false) (hna : Nat.ble args.length nt = true)
    (haid : ∀ v ∈ args, v.ids = []) (hr : r.ids = []) (h : ∀ (w0 : World) (T B : Nat → Prop) (E0 : Env), (∀ k, ¬ B k) → WP P ⟨w0, T, B, nt, E0, fun _ => false⟩ c ⟨fun t => args[t]?, fun _ => .free⟩ (SX.retF ⟨w0, T, B, nt, E0, fun _ => false⟩ P rs ⟨r, []⟩)) : PureOK P f args r :=
  PureOK.fn hf hres hnt hb hn hna haid hr fun w0 T B E0 hB => WP.retF (h w0 T B E0 hB)
theorem ret1 {t : Tmp} {x y : AV0} (e : x = y) (h : st.tm t = some (.it x) := by rfl) : RetF C P [.tmp t] ⟨.it y, []⟩ st := .ok (RetOK.eq1 (ResOK.tmp h) e)
theorem ret1' {t : Tmp} {x y : AV0} (e : x.imp y) (h : st.tm t = some (.it x) := by rfl) : RetF C P [.tmp t] ⟨.it y, []⟩ st := .ok (RetOK.mk1 ((ResOK.tmp h).imp e))
theorem retI {t : Tmp} {k : IntKind} {z z' : Int} (e : z = z') (h : st.tm t = some (.v (.int k z)) := by rfl) : RetF C P [.tmp t] ⟨.v (.int k z'), []⟩ st := .ok (RetOK.eq1 (ResOK.tmp h) (by rw [e]))
theorem retB {t : Tmp} {b b' : Bool} (e : b = b') (h : st.tm t = some (.v (.bool b)) := by rfl) : RetF C P [.tmp t] ⟨.v (.bool b'), []⟩ st := .ok (RetOK.eq1 (ResOK.tmp h) (by rw [e]))
theorem retS {t : Tmp} {l l' : List UInt8} (e : l = l') (h : st.tm t = some (.v (str l)) := by rfl) : RetF C P [.tmp t] ⟨.v (SX.str l'), []⟩ st := .ok (RetOK.eq1 (ResOK.tmp h) (by rw [e]))
theorem retA {r : ResultVar} {x y : AV0} (h : ResOK P st r x) (e : x = y) : RetF C P [r] ⟨.it y, []⟩ st := .ok (RetOK.eq1 h e)
theorem ret2' {r r' : ResultVar} {x y x' y' : AV0} (h : ResOK P st r x) (h' : ResOK P st r' x') (e : x.imp y) (e' : x'.imp y') : RetF C P [r, r'] ⟨.tup [y, y'], []⟩ st := .ok (RetOK.mk2 (h.imp e) (h'.imp e'))
theorem cb {b b' : Bool} (e : b = b') : AV0.one (.c (.val (.bool b))) = .one (.c (.val (.bool b'))) := by rw [e]

theorem W.loop {α : Type} (φ : α → Prop) (I : α → List (Nat × AV)) (H : α → List (Nat × Ent)) (μ : α → Nat) (a0 : α) (h0 : φ a0)
    (round : ∀ a, φ a → WP P C c (mkSt (I a) (H a)) (thenK (fun s => ∃ a', φ a' ∧ St.le C s (mkSt (I a') (H a')) ∧ μ a' < μ a) Q))
    (hle : St.le C st (mkSt (I a0) (H a0)) := by first | (apply SX.St.lt0; (· (intro b h; first | (cases h; done) | exact ⟨rfl, h⟩ | exact SX.fixIs h)); (· (repeat (first | exact trivial | refine ⟨⟨_, rfl, SX.AVto.same rfl⟩, ?_⟩ | refine ⟨⟨_, rfl, SX.AVto.own rfl⟩, ?_⟩ | refine ⟨⟨_, rfl, SX.AVto.nil rfl⟩, ?_⟩ | refine ⟨⟨_, rfl, SX.AVto.int (by first | (with_reducible assumption) | omega | (simp; done) | assumption)⟩, ?_⟩ | refine ⟨⟨_, rfl, SX.AVto.str (by first | (with_reducible assumption) | (simp; done) | assumption)⟩, ?_⟩ | refine ⟨⟨_, rfl, SX.AVto.bool (by first | (with_reducible assumption) | (simp; done) | assumption)⟩, ?_⟩ | refine ⟨⟨_, rfl, SX.AVto.eq (by first | (with_reducible assumption) | (simp [*]; done)) rfl⟩, ?_⟩))); (· (repeat (first | exact trivial | refine ⟨SX.EntTo.row rfl rfl rfl rfl, ?_⟩ | refine ⟨SX.EntTo.row rfl rfl (by first | rfl | (simp; done)) (by first | rfl | assumption | exact SX.flat_snoc rfl | exact SX.flat_one rfl | (simp; done)), ?_⟩ | refine ⟨SX.EntTo.nilRow rfl, ?_⟩ | refine ⟨SX.EntTo.eq rfl rfl rfl, ?_⟩ | refine ⟨SX.EntTo.same rfl rfl, ?_⟩))); (· rfl)) | (apply SX.St.ltn; (· (intro b h; first | (cases h; done) | exact ⟨rfl, h⟩ | exact SX.fixIs h)); (· (repeat (first | exact trivial | refine ⟨⟨_, rfl, SX.AVto.same rfl⟩, ?_⟩ | refine ⟨⟨_, rfl, SX.AVto.own rfl⟩, ?_⟩ | refine ⟨⟨_, rfl, SX.AVto.nil rfl⟩, ?_⟩ | refine ⟨⟨_, rfl, SX.AVto.int (by first | (with_reducible assumption) | omega | (simp; done) | assumption)⟩, ?_⟩ | refine ⟨⟨_, rfl, SX.AVto.str (by first | (with_reducible assumption) | (simp; done) | assumption)⟩, ?_⟩ | refine ⟨⟨_, rfl, SX.AVto.bool (by first | (with_reducible assumption) | (simp; done) | assumption)⟩, ?_⟩ | refine ⟨⟨_, rfl, SX.AVto.eq (by first | (with_reducible assumption) | (simp [*]; done)) rfl⟩, ?_⟩))); (· (repeat (first | exact trivial | refine ⟨SX.EntTo.row rfl rfl rfl rfl, ?_⟩ | refine ⟨SX.EntTo.row rfl rfl (by first | rfl | (simp; done)) (by first | rfl | assumption | exact SX.flat_snoc rfl | exact SX.flat_one rfl | (simp; done)), ?_⟩ | refine ⟨SX.EntTo.nilRow rfl, ?_⟩ | refine ⟨SX.EntTo.eq rfl rfl rfl, ?_⟩ | refine ⟨SX.EntTo.same rfl rfl, ?_⟩))); (· rfl)) | (apply SX.St.lt1; (· (intro b h; first | (cases h; done) | exact ⟨rfl, h⟩ | exact SX.fixIs h)); (· (repeat (first | exact trivial | refine ⟨⟨_, rfl, SX.AVto.same rfl⟩, ?_⟩ | refine ⟨⟨_, rfl, SX.AVto.own rfl⟩, ?_⟩ | refine ⟨⟨_, rfl, SX.AVto.nil rfl⟩, ?_⟩ | refine ⟨⟨_, rfl, SX.AVto.int (by first | (with_reducible assumption) | omega | (simp; done) | assumption)⟩, ?_⟩ | refine ⟨⟨_, rfl, SX.AVto.str (by first | (with_reducible assumption) | (simp; done) | assumption)⟩, ?_⟩ | refine ⟨⟨_, rfl, SX.AVto.bool (by first | (with_reducible assumption) | (simp; done) | assumption)⟩, ?_⟩ | refine ⟨⟨_, rfl, SX.AVto.eq (by first | (with_reducible assumption) | (simp [*]; done)) rfl⟩, ?_⟩))); (· (repeat (first | exact trivial | refine ⟨SX.EntTo.row rfl rfl rfl rfl, ?_⟩ | refine ⟨SX.EntTo.row rfl rfl (by first | rfl | (simp; done)) (by first | rfl | assumption | exact SX.flat_snoc rfl | exact SX.flat_one rfl | (simp; done)), ?_⟩ | refine ⟨SX.EntTo.nilRow rfl, ?_⟩ | refine ⟨SX.EntTo.eq rfl rfl rfl, ?_⟩ | refine ⟨SX.EntTo.same rfl rfl, ?_⟩))); (· rfl)) | (apply SX.St.ltnn; (· (intro b h; first | (cases h; done) | exact ⟨rfl, h⟩ | exact SX.fixIs h)); (· (repeat (first | exact trivial | refine ⟨⟨_, rfl, SX.AVto.same rfl⟩, ?_⟩ | refine ⟨⟨_, rfl, SX.AVto.own rfl⟩, ?_⟩ | refine ⟨⟨_, rfl, SX.AVto.nil rfl⟩, ?_⟩ | refine ⟨⟨_, rfl, SX.AVto.int (by first | (with_reducible assumption) | omega | (simp; done) | assumption)⟩, ?_⟩ | refine ⟨⟨_, rfl, SX.AVto.str (by first | (with_reducible assumption) | (simp; done) | assumption)⟩, ?_⟩ | refine ⟨⟨_, rfl, SX.AVto.bool (by first | (with_reducible assumption) | (simp; done) | assumption)⟩, ?_⟩ | refine ⟨⟨_, rfl, SX.AVto.eq (by first | (with_reducible assumption) | (simp [*]; done)) rfl⟩, ?_⟩))); (· (repeat (first | exact trivial | refine ⟨SX.EntTo.row rfl rfl rfl rfl, ?_⟩ | refine ⟨SX.EntTo.row rfl rfl (by first | rfl | (simp; done)) (by first | rfl | assumption | exact SX.flat_snoc rfl | exact SX.flat_one rfl | (simp; done)), ?_⟩ | refine ⟨SX.EntTo.nilRow rfl, ?_⟩ | refine ⟨SX.EntTo.eq rfl rfl rfl, ?_⟩ | refine ⟨SX.EntTo.same rfl rfl, ?_⟩))); (· rfl)) | (apply SX.St.lt11; (· (intro b h; first | (cases h; done) | exact ⟨rfl, h⟩ | exact SX.fixIs h)); (· (repeat (first | exact trivial | refine ⟨⟨_, rfl, SX.AVto.same rfl⟩, ?_⟩ | refine ⟨⟨_, rfl, SX.AVto.own rfl⟩, ?_⟩ | refine ⟨⟨_, rfl, SX.AVto.nil rfl⟩, ?_⟩ | refine ⟨⟨_, rfl, SX.AVto.int (by first | (with_reducible assumption) | omega | (simp; done) | assumption)⟩, ?_⟩ | refine ⟨⟨_, rfl, SX.AVto.str (by first | (with_reducible assumption) | (simp; done) | assumption)⟩, ?_⟩ | refine ⟨⟨_, rfl, SX.AVto.bool (by first | (with_reducible assumption) | (simp; done) | assumption)⟩, ?_⟩ | refine ⟨⟨_, rfl, SX.AVto.eq (by first | (with_reducible assumption) | (simp [*]; done)) rfl⟩, ?_⟩))); (· (repeat (first | exact trivial | refine ⟨SX.EntTo.row rfl rfl rfl rfl, ?_⟩ | refine ⟨SX.EntTo.row rfl rfl (by first | rfl | (simp; done)) (by first | rfl | assumption | exact SX.flat_snoc rfl | exact SX.flat_one rfl | (simp; done)), ?_⟩ | refine ⟨SX.EntTo.nilRow rfl, ?_⟩ | refine ⟨SX.EntTo.eq rfl rfl rfl, ?_⟩ | refine ⟨SX.EntTo.same rfl rfl, ?_⟩))); (· rfl)) | (apply SX.St.ltn1; (· (intro b h; first | (cases h; done) | exact ⟨rfl, h⟩ | exact SX.fixIs h)); (· (repeat (first | exact trivial | refine ⟨⟨_, rfl, SX.AVto.same rfl⟩, ?_⟩ | refine ⟨⟨_, rfl, SX.AVto.own rfl⟩, ?_⟩ | refine ⟨⟨_, rfl, SX.AVto.nil rfl⟩, ?_⟩ | refine ⟨⟨_, rfl, SX.AVto.int (by first | (with_reducible assumption) | omega | (simp; done) | assumption)⟩, ?_⟩ | refine ⟨⟨_, rfl, SX.AVto.str (by first | (with_reducible assumption) | (simp; done) | assumption)⟩, ?_⟩ | refine ⟨⟨_, rfl, SX.AVto.bool (by first | (with_reducible assumption) | (simp; done) | assumption)⟩, ?_⟩ | refine ⟨⟨_, rfl, SX.AVto.eq (by first | (with_reducible assumption) | (simp [*]; done)) rfl⟩, ?_⟩))); (· (repeat (first | exact trivial | refine ⟨SX.EntTo.row rfl rfl rfl rfl, ?_⟩ | refine ⟨SX.EntTo.row rfl rfl (by first | rfl | (simp; done)) (by first | rfl | assumption | exact SX.flat_snoc rfl | exact SX.flat_one rfl | (simp; done)), ?_⟩ | refine ⟨SX.EntTo.nilRow rfl, ?_⟩ | refine ⟨SX.EntTo.eq rfl rfl rfl, ?_⟩ | refine ⟨SX.EntTo.same rfl rfl, ?_⟩))); (· rfl)) | (apply SX.St.lt1n; (· (intro b h; first | (cases h; done) | exact ⟨rfl, h⟩ | exact SX.fixIs h)); (· (repeat (first | exact trivial | refine ⟨⟨_, rfl, SX.AVto.same rfl⟩, ?_⟩ | refine ⟨⟨_, rfl, SX.AVto.own rfl⟩, ?_⟩ | refine ⟨⟨_, rfl, SX.AVto.nil rfl⟩, ?_⟩ | refine ⟨⟨_, rfl, SX.AVto.int (by first | (with_reducible assumption) | omega | (simp; done) | assumption)⟩, ?_⟩ | refine ⟨⟨_, rfl, SX.AVto.str (by first | (with_reducible assumption) | (simp; done) | assumption)⟩, ?_⟩ | refine ⟨⟨_, rfl, SX.AVto.bool (by first | (with_reducible assumption) | (simp; done) | assumption)⟩, ?_⟩ | refine ⟨⟨_, rfl, SX.AVto.eq (by first | (with_reducible assumption) | (simp [*]; done)) rfl⟩, ?_⟩))); (· (repeat (first | exact trivial | refine ⟨SX.EntTo.row rfl rfl rfl rfl, ?_⟩ | refine ⟨SX.EntTo.row rfl rfl (by first | rfl | (simp; done)) (by first | rfl | assumption | exact SX.flat_snoc rfl | exact SX.flat_one rfl | (simp; done)), ?_⟩ | refine ⟨SX.EntTo.nilRow rfl, ?_⟩ | refine ⟨SX.EntTo.eq rfl rfl rfl, ?_⟩ | refine ⟨SX.EntTo.same rfl rfl, ?_⟩))); (· rfl))) : WP P C (.loop c) st Q :=
  WP.loop (ι := {p : α // φ p}) (fun q => match q with | ⟨p, _⟩ => mkSt (I p) (H p)) (fun q => match q with | ⟨p, _⟩ => μ p) ⟨a0, h0⟩ hle (fun ⟨p, hp⟩ => (round p hp).mono fun e s h => by
    cases e with
    | normal =>
      obtain ⟨a', hφ, hl, hm⟩ := h
      exact ⟨⟨a', hφ⟩, hl, hm⟩
    | _ => exact h)
theorem W.next {α : Type} {φ : α → Prop} {I : α → List (Nat × AV)} {H : α → List (Nat × Ent)} {μ : α → Nat} {m : Nat} (a0 : α) (h1 : φ a0) (hm : μ a0 < m) (hle : St.le C st (mkSt (I a0) (H a0)) := by first | (apply SX.St.lt0; (· (intro b h; first | (cases h; done) | exact ⟨rfl, h⟩ | exact SX.fixIs h)); (· (repeat (first | exact trivial | refine ⟨⟨_, rfl, SX.AVto.same rfl⟩, ?_⟩ | refine ⟨⟨_, rfl, SX.AVto.own rfl⟩, ?_⟩ | refine ⟨⟨_, rfl, SX.AVto.nil rfl⟩, ?_⟩ | refine ⟨⟨_, rfl, SX.AVto.int (by first | (with_reducible assumption) | omega | (simp; done) | assumption)⟩, ?_⟩ | refine ⟨⟨_, rfl, SX.AVto.str (by first | (with_reducible assumption) | (simp; done) | assumption)⟩, ?_⟩ | refine ⟨⟨_, rfl, SX.AVto.bool (by first | (with_reducible assumption) | (simp; done) | assumption)⟩, ?_⟩ | refine ⟨⟨_, rfl, SX.AVto.eq (by first | (with_reducible assumption) | (simp [*]; done)) rfl⟩, ?_⟩))); (· (repeat (first | exact trivial | refine ⟨SX.EntTo.row rfl rfl rfl rfl, ?_⟩ | refine ⟨SX.EntTo.row rfl rfl (by first | rfl | (simp; done)) (by first | rfl | assumption | exact SX.flat_snoc rfl | exact SX.flat_one rfl | (simp; done)), ?_⟩ | refine ⟨SX.EntTo.nilRow rfl, ?_⟩ | refine ⟨SX.EntTo.eq rfl rfl rfl, ?_⟩ | refine ⟨SX.EntTo.same rfl rfl, ?_⟩))); (· rfl)) | (apply SX.St.ltn; (· (intro b h; first | (cases h; done) | exact ⟨rfl, h⟩ | exact SX.fixIs h)); (· (repeat (first | exact trivial | refine ⟨⟨_, rfl, SX.AVto.same rfl⟩, ?_⟩ | refine ⟨⟨_, rfl, SX.AVto.own rfl⟩, ?_⟩ | refine ⟨⟨_, rfl, SX.AVto.nil rfl⟩, ?_⟩ | refine ⟨⟨_, rfl, SX.AVto.int (by first | (with_reducible assumption) | omega | (simp; done) | assumption)⟩, ?_⟩ | refine ⟨⟨_, rfl, SX.AVto.str (by first | (with_reducible assumption) | (simp; done) | assumption)⟩, ?_⟩ | refine ⟨⟨_, rfl, SX.AVto.bool (by first | (with_reducible assumption) | (simp; done) | assumption)⟩, ?_⟩ | refine ⟨⟨_, rfl, SX.AVto.eq (by first | (with_reducible assumption) | (simp [*]; done)) rfl⟩, ?_⟩))); (· (repeat (first | exact trivial | refine ⟨SX.EntTo.row rfl rfl rfl rfl, ?_⟩ | refine ⟨SX.EntTo.row rfl rfl (by first | rfl | (simp; done)) (by first | rfl | assumption | exact SX.flat_snoc rfl | exact SX.flat_one rfl | (simp; done)), ?_⟩ | refine ⟨SX.EntTo.nilRow rfl, ?_⟩ | refine ⟨SX.EntTo.eq rfl rfl rfl, ?_⟩ | refine ⟨SX.EntTo.same rfl rfl, ?_⟩))); (· rfl)) | (apply SX.St.lt1; (· (intro b h; first | (cases h; done) | exact ⟨rfl, h⟩ | exact SX.fixIs h)); (· (repeat (first | exact trivial | refine ⟨⟨_, rfl, SX.AVto.same rfl⟩, ?_⟩ | refine ⟨⟨_, rfl, SX.AVto.own rfl⟩, ?_⟩ | refine ⟨⟨_, rfl, SX.AVto.nil rfl⟩, ?_⟩ | refine ⟨⟨_, rfl, SX.AVto.int (by first | (with_reducible assumption) | omega | (simp; done) | assumption)⟩, ?_⟩ | refine ⟨⟨_, rfl, SX.AVto.str (by first | (with_reducible assumption) | (simp; done) | assumption)⟩, ?_⟩ | refine ⟨⟨_, rfl, SX.AVto.bool (by first | (with_reducible assumption) | (simp; done) | assumption)⟩, ?_⟩ | refine ⟨⟨_, rfl, SX.AVto.eq (by first | (with_reducible assumption) | (simp [*]; done)) rfl⟩, ?_⟩))); (· (repeat (first | exact trivial | refine ⟨SX.EntTo.row rfl rfl rfl rfl, ?_⟩ | refine ⟨SX.EntTo.row rfl rfl (by first | rfl | (simp; done)) (by first | rfl | assumption | exact SX.flat_snoc rfl | exact SX.flat_one rfl | (simp; done)), ?_⟩ | refine ⟨SX.EntTo.nilRow rfl, ?_⟩ | refine ⟨SX.EntTo.eq rfl rfl rfl, ?_⟩ | refine ⟨SX.EntTo.same rfl rfl, ?_⟩))); (· rfl)) | (apply SX.St.ltnn; (· (intro b h; first | (cases h; done) | exact ⟨rfl, h⟩ | exact SX.fixIs h)); (· (repeat (first | exact trivial | refine ⟨⟨_, rfl, SX.AVto.same rfl⟩, ?_⟩ | refine ⟨⟨_, rfl, SX.AVto.own rfl⟩, ?_⟩ | refine ⟨⟨_, rfl, SX.AVto.nil rfl⟩, ?_⟩ | refine ⟨⟨_, rfl, SX.AVto.int (by first | (with_reducible assumption) | omega | (simp; done) | assumption)⟩, ?_⟩ | refine ⟨⟨_, rfl, SX.AVto.str (by first | (with_reducible assumption) | (simp; done) | assumption)⟩, ?_⟩ | refine ⟨⟨_, rfl, SX.AVto.bool (by first | (with_reducible assumption) | (simp; done) | assumption)⟩, ?_⟩ | refine ⟨⟨_, rfl, SX.AVto.eq (by first | (with_reducible assumption) | (simp [*]; done)) rfl⟩, ?_⟩))); (· (repeat (first | exact trivial | refine ⟨SX.EntTo.row rfl rfl rfl rfl, ?_⟩ | refine ⟨SX.EntTo.row rfl rfl (by first | rfl | (simp; done)) (by first | rfl | assumption | exact SX.flat_snoc rfl | exact SX.flat_one rfl | (simp; done)), ?_⟩ | refine ⟨SX.EntTo.nilRow rfl, ?_⟩ | refine ⟨SX.EntTo.eq rfl rfl rfl, ?_⟩ | refine ⟨SX.EntTo.same rfl rfl, ?_⟩))); (· rfl)) | (apply SX.St.lt11; (· (intro b h; first | (cases h; done) | exact ⟨rfl, h⟩ | exact SX.fixIs h)); (· (repeat (first | exact trivial | refine ⟨⟨_, rfl, SX.AVto.same rfl⟩, ?_⟩ | refine ⟨⟨_, rfl, SX.AVto.own rfl⟩, ?_⟩ | refine ⟨⟨_, rfl, SX.AVto.nil rfl⟩, ?_⟩ | refine ⟨⟨_, rfl, SX.AVto.int (by first | (with_reducible assumption) | omega | (simp; done) | assumption)⟩, ?_⟩ | refine ⟨⟨_, rfl, SX.AVto.str (by first | (with_reducible assumption) | (simp; done) | assumption)⟩, ?_⟩ | refine ⟨⟨_, rfl, SX.AVto.bool (by first | (with_reducible assumption) | (simp; done) | assumption)⟩, ?_⟩ | refine ⟨⟨_, rfl, SX.AVto.eq (by first | (with_reducible assumption) | (simp [*]; done)) rfl⟩, ?_⟩))); (· (repeat (first | exact trivial | refine ⟨SX.EntTo.row rfl rfl rfl rfl, ?_⟩ | refine ⟨SX.EntTo.row rfl rfl (by first | rfl | (simp; done)) (by first | rfl | assumption | exact SX.flat_snoc rfl | exact SX.flat_one rfl | (simp; done)), ?_⟩ | refine ⟨SX.EntTo.nilRow rfl, ?_⟩ | refine ⟨SX.EntTo.eq rfl rfl rfl, ?_⟩ | refine ⟨SX.EntTo.same rfl rfl, ?_⟩))); (· rfl)) | (apply SX.St.ltn1; (· (intro b h; first | (cases h; done) | exact ⟨rfl, h⟩ | exact SX.fixIs h)); (· (repeat (first | exact trivial | refine ⟨⟨_, rfl, SX.AVto.same rfl⟩, ?_⟩ | refine ⟨⟨_, rfl, SX.AVto.own rfl⟩, ?_⟩ | refine ⟨⟨_, rfl, SX.AVto.nil rfl⟩, ?_⟩ | refine ⟨⟨_, rfl, SX.AVto.int (by first | (with_reducible assumption) | omega | (simp; done) | assumption)⟩, ?_⟩ | refine ⟨⟨_, rfl, SX.AVto.str (by first | (with_reducible assumption) | (simp; done) | assumption)⟩, ?_⟩ | refine ⟨⟨_, rfl, SX.AVto.bool (by first | (with_reducible assumption) | (simp; done) | assumption)⟩, ?_⟩ | refine ⟨⟨_, rfl, SX.AVto.eq (by first | (with_reducible assumption) | (simp [*]; done)) rfl⟩, ?_⟩))); (· (repeat (first | exact trivial | refine ⟨SX.EntTo.row rfl rfl rfl rfl, ?_⟩ | refine ⟨SX.EntTo.row rfl rfl (by first | rfl | (simp; done)) (by first | rfl | assumption | exact SX.flat_snoc rfl | exact SX.flat_one rfl | (simp; done)), ?_⟩ | refine ⟨SX.EntTo.nilRow rfl, ?_⟩ | refine ⟨SX.EntTo.eq rfl rfl rfl, ?_⟩ | refine ⟨SX.EntTo.same rfl rfl, ?_⟩))); (· rfl)) | (apply SX.St.lt1n; (· (intro b h; first | (cases h; done) | exact ⟨rfl, h⟩ | exact SX.fixIs h)); (· (repeat (first | exact trivial | refine ⟨⟨_, rfl, SX.AVto.same rfl⟩, ?_⟩ | refine ⟨⟨_, rfl, SX.AVto.own rfl⟩, ?_⟩ | refine ⟨⟨_, rfl, SX.AVto.nil rfl⟩, ?_⟩ | refine ⟨⟨_, rfl, SX.AVto.int (by first | (with_reducible assumption) | omega | (simp; done) | assumption)⟩, ?_⟩ | refine ⟨⟨_, rfl, SX.AVto.str (by first | (with_reducible assumption) | (simp; done) | assumption)⟩, ?_⟩ | refine ⟨⟨_, rfl, SX.AVto.bool (by first | (with_reducible assumption) | (simp; done) | assumption)⟩, ?_⟩ | refine ⟨⟨_, rfl, SX.AVto.eq (by first | (with_reducible assumption) | (simp [*]; done)) rfl⟩, ?_⟩))); (· (repeat (first | exact trivial | refine ⟨SX.EntTo.row rfl rfl rfl rfl, ?_⟩ | refine ⟨SX.EntTo.row rfl rfl (by first | rfl | (simp; done)) (by first | rfl | assumption | exact SX.flat_snoc rfl | exact SX.flat_one rfl | (simp; done)), ?_⟩ | refine ⟨SX.EntTo.nilRow rfl, ?_⟩ | refine ⟨SX.EntTo.eq rfl rfl rfl, ?_⟩ | refine ⟨SX.EntTo.same rfl rfl, ?_⟩))); (· rfl))) :
    ∃ a', φ a' ∧ St.le C st (mkSt (I a') (H a')) ∧ μ a' < m := ⟨a0, h1, hle, hm⟩
theorem W.loop2 {α β : Type} (φ : α → β → Prop) (I : α → β → List (Nat × AV)) (H : α → β → List (Nat × Ent)) (μ : α → β → Nat) (a0 : α) (b0 : β) (h0 : φ a0 b0)
    (round : ∀ a b, φ a b → WP P C c (mkSt (I a b) (H a b)) (thenK (fun s => ∃ a' b', φ a' b' ∧ St.le C s (mkSt (I a' b') (H a' b')) ∧ μ a' b' < μ a b) Q))
    (hle : St.le C st (mkSt (I a0 b0) (H a0 b0)) := by first | (apply SX.St.lt0; (· (intro b h; first | (cases h; done) | exact ⟨rfl, h⟩ | exact SX.fixIs h)); (· (repeat (first | exact trivial | refine ⟨⟨_, rfl, SX.AVto.same rfl⟩, ?_⟩ | refine ⟨⟨_, rfl, SX.AVto.own rfl⟩, ?_⟩ | refine ⟨⟨_, rfl, SX.AVto.nil rfl⟩, ?_⟩ | refine ⟨⟨_, rfl, SX.AVto.int (by first | (with_reducible assumption) | omega | (simp; done) | assumption)⟩, ?_⟩ | refine ⟨⟨_, rfl, SX.AVto.str (by first | (with_reducible assumption) | (simp; done) | assumption)⟩, ?_⟩ | refine ⟨⟨_, rfl, SX.AVto.bool (by first | (with_reducible assumption) | (simp; done) | assumption)⟩, ?_⟩ | refine ⟨⟨_, rfl, SX.AVto.eq (by first | (with_reducible assumption) | (simp [*]; done)) rfl⟩, ?_⟩))); (· (repeat (first | exact trivial | refine ⟨SX.EntTo.row rfl rfl rfl rfl, ?_⟩ | refine ⟨SX.EntTo.row rfl rfl (by first | rfl | (simp; done)) (by first | rfl | assumption | exact SX.flat_snoc rfl | exact SX.flat_one rfl | (simp; done)), ?_⟩ | refine ⟨SX.EntTo.nilRow rfl, ?_⟩ | refine ⟨SX.EntTo.eq rfl rfl rfl, ?_⟩ | refine ⟨SX.EntTo.same rfl rfl, ?_⟩))); (· rfl)) | (apply SX.St.ltn; (· (intro b h; first | (cases h; done) | exact ⟨rfl, h⟩ | exact SX.fixIs h)); (· (repeat (first | exact trivial | refine ⟨⟨_, rfl, SX.AVto.same rfl⟩, ?_⟩ | refine ⟨⟨_, rfl, SX.AVto.own rfl⟩, ?_⟩ | refine ⟨⟨_, rfl, SX.AVto.nil rfl⟩, ?_⟩ | refine ⟨⟨_, rfl, SX.AVto.int (by first | (with_reducible assumption) | omega | (simp; done) | assumption)⟩, ?_⟩ | refine ⟨⟨_, rfl, SX.AVto.str (by first | (with_reducible assumption) | (simp; done) | assumption)⟩, ?_⟩ | refine ⟨⟨_, rfl, SX.AVto.bool (by first | (with_reducible assumption) | (simp; done) | assumption)⟩, ?_⟩ | refine ⟨⟨_, rfl, SX.AVto.eq (by first | (with_reducible assumption) | (simp [*]; done)) rfl⟩, ?_⟩))); (· (repeat (first | exact trivial | refine ⟨SX.EntTo.row rfl rfl rfl rfl, ?_⟩ | refine ⟨SX.EntTo.row rfl rfl (by first | rfl | (simp; done)) (by first | rfl | assumption | exact SX.flat_snoc rfl | exact SX.flat_one rfl | (simp; done)), ?_⟩ | refine ⟨SX.EntTo.nilRow rfl, ?_⟩ | refine ⟨SX.EntTo.eq rfl rfl rfl, ?_⟩ | refine ⟨SX.EntTo.same rfl rfl, ?_⟩))); (· rfl)) | (apply SX.St.lt1; (· (intro b h; first | (cases h; done) | exact ⟨rfl, h⟩ | exact SX.fixIs h)); (· (repeat (first | exact trivial | refine ⟨⟨_, rfl, SX.AVto.same rfl⟩, ?_⟩ | refine ⟨⟨_, rfl, SX.AVto.own rfl⟩, ?_⟩ | refine ⟨⟨_, rfl, SX.AVto.nil rfl⟩, ?_⟩ | refine ⟨⟨_, rfl, SX.AVto.int (by first | (with_reducible assumption) | omega | (simp; done) | assumption)⟩, ?_⟩ | refine ⟨⟨_, rfl, SX.AVto.str (by first | (with_reducible assumption) | (simp; done) | assumption)⟩, ?_⟩ | refine ⟨⟨_, rfl, SX.AVto.bool (by first | (with_reducible assumption) | (simp; done) | assumption)⟩, ?_⟩ | refine ⟨⟨_, rfl, SX.AVto.eq (by first | (with_reducible assumption) | (simp [*]; done)) rfl⟩, ?_⟩))); (· (repeat (first | exact trivial | refine ⟨SX.EntTo.row rfl rfl rfl rfl, ?_⟩ | refine ⟨SX.EntTo.row rfl rfl (by first | rfl | (simp; done)) (by first | rfl | assumption | exact SX.flat_snoc rfl | exact SX.flat_one rfl | (simp; done)), ?_⟩ | refine ⟨SX.EntTo.nilRow rfl, ?_⟩ | refine ⟨SX.EntTo.eq rfl rfl rfl, ?_⟩ | refine ⟨SX.EntTo.same rfl rfl, ?_⟩))); (· rfl)) | (apply SX.St.ltnn; (· (intro b h; first | (cases h; done) | exact ⟨rfl, h⟩ | exact SX.fixIs h)); (· (repeat (first | exact trivial | refine ⟨⟨_, rfl, SX.AVto.same rfl⟩, ?_⟩ | refine ⟨⟨_, rfl, SX.AVto.own rfl⟩, ?_⟩ | refine ⟨⟨_, rfl, SX.AVto.nil rfl⟩, ?_⟩ | refine ⟨⟨_, rfl, SX.AVto.int (by first | (with_reducible assumption) | omega | (simp; done) | assumption)⟩, ?_⟩ | refine ⟨⟨_, rfl, SX.AVto.str (by first | (with_reducible assumption) | (simp; done) | assumption)⟩, ?_⟩ | refine ⟨⟨_, rfl, SX.AVto.bool (by first | (with_reducible assumption) | (simp; done) | assumption)⟩, ?_⟩ | refine ⟨⟨_, rfl, SX.AVto.eq (by first | (with_reducible assumption) | (simp [*]; done)) rfl⟩, ?_⟩))); (· (repeat (first | exact trivial | refine ⟨SX.EntTo.row rfl rfl rfl rfl, ?_⟩ | refine ⟨SX.EntTo.row rfl rfl (by first | rfl | (simp; done)) (by first | rfl | assumption | exact SX.flat_snoc rfl | exact SX.flat_one rfl | (simp; done)), ?_⟩ | refine ⟨SX.EntTo.nilRow rfl, ?_⟩ | refine ⟨SX.EntTo.eq rfl rfl rfl, ?_⟩ | refine ⟨SX.EntTo.same rfl rfl, ?_⟩))); (· rfl)) | (apply SX.St.lt11; (· (intro b h; first | (cases h; done) | exact ⟨rfl, h⟩ | exact SX.fixIs h)); (· (repeat (first | exact trivial | refine ⟨⟨_, rfl, SX.AVto.same rfl⟩, ?_⟩ | refine ⟨⟨_, rfl, SX.AVto.own rfl⟩, ?_⟩ | refine ⟨⟨_, rfl, SX.AVto.nil rfl⟩, ?_⟩ | refine ⟨⟨_, rfl, SX.AVto.int (by first | (with_reducible assumption) | omega | (simp; done) | assumption)⟩, ?_⟩ | refine ⟨⟨_, rfl, SX.AVto.str (by first | (with_reducible assumption) | (simp; done) | assumption)⟩, ?_⟩ | refine ⟨⟨_, rfl, SX.AVto.bool (by first | (with_reducible assumption) | (simp; done) | assumption)⟩, ?_⟩ | refine ⟨⟨_, rfl, SX.AVto.eq (by first | (with_reducible assumption) | (simp [*]; done)) rfl⟩, ?_⟩))); (· (repeat (first | exact trivial | refine ⟨SX.EntTo.row rfl rfl rfl rfl, ?_⟩ | refine ⟨SX.EntTo.row rfl rfl (by first | rfl | (simp; done)) (by first | rfl | assumption | exact SX.flat_snoc rfl | exact SX.flat_one rfl | (simp; done)), ?_⟩ | refine ⟨SX.EntTo.nilRow rfl, ?_⟩ | refine ⟨SX.EntTo.eq rfl rfl rfl, ?_⟩ | refine ⟨SX.EntTo.same rfl rfl, ?_⟩))); (· rfl)) | (apply SX.St.ltn1; (· (intro b h; first | (cases h; done) | exact ⟨rfl, h⟩ | exact SX.fixIs h)); (· (repeat (first | exact trivial | refine ⟨⟨_, rfl, SX.AVto.same rfl⟩, ?_⟩ | refine ⟨⟨_, rfl, SX.AVto.own rfl⟩, ?_⟩ | refine ⟨⟨_, rfl, SX.AVto.nil rfl⟩, ?_⟩ | refine ⟨⟨_, rfl, SX.AVto.int (by first | (with_reducible assumption) | omega | (simp; done) | assumption)⟩, ?_⟩ | refine ⟨⟨_, rfl, SX.AVto.str (by first | (with_reducible assumption) | (simp; done) | assumption)⟩, ?_⟩ | refine ⟨⟨_, rfl, SX.AVto.bool (by first | (with_reducible assumption) | (simp; done) | assumption)⟩, ?_⟩ | refine ⟨⟨_, rfl, SX.AVto.eq (by first | (with_reducible assumption) | (simp [*]; done)) rfl⟩, ?_⟩))); (· (repeat (first | exact trivial | refine ⟨SX.EntTo.row rfl rfl rfl rfl, ?_⟩ | refine ⟨SX.EntTo.row rfl rfl (by first | rfl | (simp; done)) (by first | rfl | assumption | exact SX.flat_snoc rfl | exact SX.flat_one rfl | (simp; done)), ?_⟩ | refine ⟨SX.EntTo.nilRow rfl, ?_⟩ | refine ⟨SX.EntTo.eq rfl rfl rfl, ?_⟩ | refine ⟨SX.EntTo.same rfl rfl, ?_⟩))); (· rfl)) | (apply SX.St.lt1n; (· (intro b h; first | (cases h; done) | exact ⟨rfl, h⟩ | exact SX.fixIs h)); (· (repeat (first | exact trivial | refine ⟨⟨_, rfl, SX.AVto.same rfl⟩, ?_⟩ | refine ⟨⟨_, rfl, SX.AVto.own rfl⟩, ?_⟩ | refine ⟨⟨_, rfl, SX.AVto.nil rfl⟩, ?_⟩ | refine ⟨⟨_, rfl, SX.AVto.int (by first | (with_reducible assumption) | omega | (simp; done) | assumption)⟩, ?_⟩ | refine ⟨⟨_, rfl, SX.AVto.str (by first | (with_reducible assumption) | (simp; done) | assumption)⟩, ?_⟩ | refine ⟨⟨_, rfl, SX.AVto.bool (by first | (with_reducible assumption) | (simp; done) | assumption)⟩, ?_⟩ | refine ⟨⟨_, rfl, SX.AVto.eq (by first | (with_reducible assumption) | (simp [*]; done)) rfl⟩, ?_⟩))); (· (repeat (first | exact trivial | refine ⟨SX.EntTo.row rfl rfl rfl rfl, ?_⟩ | refine ⟨SX.EntTo.row rfl rfl (by first | rfl | (simp; done)) (by first | rfl | assumption | exact SX.flat_snoc rfl | exact SX.flat_one rfl | (simp; done)), ?_⟩ | refine ⟨SX.EntTo.nilRow rfl, ?_⟩ | refine ⟨SX.EntTo.eq rfl rfl rfl, ?_⟩ | refine ⟨SX.EntTo.same rfl rfl, ?_⟩))); (· rfl))) : WP P C (.loop c) st Q :=
  WP.loop (ι := {p : α × β // φ p.1 p.2}) (fun q => match q with | ⟨p, _⟩ => mkSt (I p.1 p.2) (H p.1 p.2)) (fun q => match q with | ⟨p, _⟩ => μ p.1 p.2) ⟨(a0, b0), h0⟩ hle (fun ⟨p, hp⟩ => (round p.1 p.2 hp).mono fun e s h => by
    cases e with
    | normal =>
      obtain ⟨a', b', hφ, hl, hm⟩ := h
      exact ⟨⟨(a', b'), hφ⟩, hl, hm⟩
    | _ => exact h)
theorem W.next2 {α β : Type} {φ : α → β → Prop} {I : α → β → List (Nat × AV)} {H : α → β → List (Nat × Ent)} {μ : α → β → Nat} {m : Nat} (a0 : α) (b0 : β) (h1 : φ a0 b0) (hm : μ a0 b0 < m) (hle : St.le C st (mkSt (I a0 b0) (H a0 b0)) := by first | (apply SX.St.lt0; (· (intro b h; first | (cases h; done) | exact ⟨rfl, h⟩ | exact SX.fixIs h)); (· (repeat (first | exact trivial | refine ⟨⟨_, rfl, SX.AVto.same rfl⟩, ?_⟩ | refine ⟨⟨_, rfl, SX.AVto.own rfl⟩, ?_⟩ | refine ⟨⟨_, rfl, SX.AVto.nil rfl⟩, ?_⟩ | refine ⟨⟨_, rfl, SX.AVto.int (by first | (with_reducible assumption) | omega | (simp; done) | assumption)⟩, ?_⟩ | refine ⟨⟨_, rfl, SX.AVto.str (by first | (with_reducible assumption) | (simp; done) | assumption)⟩, ?_⟩ | refine ⟨⟨_, rfl, SX.AVto.bool (by first | (with_reducible assumption) | (simp; done) | assumption)⟩, ?_⟩ | refine ⟨⟨_, rfl, SX.AVto.eq (by first | (with_reducible assumption) | (simp [*]; done)) rfl⟩, ?_⟩))); (· (repeat (first | exact trivial | refine ⟨SX.EntTo.row rfl rfl rfl rfl, ?_⟩ | refine ⟨SX.EntTo.row rfl rfl (by first | rfl | (simp; done)) (by first | rfl | assumption | exact SX.flat_snoc rfl | exact SX.flat_one rfl | (simp; done)), ?_⟩ | refine ⟨SX.EntTo.nilRow rfl, ?_⟩ | refine ⟨SX.EntTo.eq rfl rfl rfl, ?_⟩ | refine ⟨SX.EntTo.same rfl rfl, ?_⟩))); (· rfl)) | (apply SX.St.ltn; (· (intro b h; first | (cases h; done) | exact ⟨rfl, h⟩ | exact SX.fixIs h)); (· (repeat (first | exact trivial | refine ⟨⟨_, rfl, SX.AVto.same rfl⟩, ?_⟩ | refine ⟨⟨_, rfl, SX.AVto.own rfl⟩, ?_⟩ | refine ⟨⟨_, rfl, SX.AVto.nil rfl⟩, ?_⟩ | refine ⟨⟨_, rfl, SX.AVto.int (by first | (with_reducible assumption) | omega | (simp; done) | assumption)⟩, ?_⟩ | refine ⟨⟨_, rfl, SX.AVto.str (by first | (with_reducible assumption) | (simp; done) | assumption)⟩, ?_⟩ | refine ⟨⟨_, rfl, SX.AVto.bool (by first | (with_reducible assumption) | (simp; done) | assumption)⟩, ?_⟩ | refine ⟨⟨_, rfl, SX.AVto.eq (by first | (with_reducible assumption) | (simp [*]; done)) rfl⟩, ?_⟩))); (· (repeat (first | exact trivial | refine ⟨SX.EntTo.row rfl rfl rfl rfl, ?_⟩ | refine ⟨SX.EntTo.row rfl rfl (by first | rfl | (simp; done)) (by first | rfl | assumption | exact SX.flat_snoc rfl | exact SX.flat_one rfl | (simp; done)), ?_⟩ | refine ⟨SX.EntTo.nilRow rfl, ?_⟩ | refine ⟨SX.EntTo.eq rfl rfl rfl, ?_⟩ | refine ⟨SX.EntTo.same rfl rfl, ?_⟩))); (· rfl)) | (apply SX.St.lt1; (· (intro b h; first | (cases h; done) | exact ⟨rfl, h⟩ | exact SX.fixIs h)); (· (repeat (first | exact trivial | refine ⟨⟨_, rfl, SX.AVto.same rfl⟩, ?_⟩ | refine ⟨⟨_, rfl, SX.AVto.own rfl⟩, ?_⟩ | refine ⟨⟨_, rfl, SX.AVto.nil rfl⟩, ?_⟩ | refine ⟨⟨_, rfl, SX.AVto.int (by first | (with_reducible assumption) | omega | (simp; done) | assumption)⟩, ?_⟩ | refine ⟨⟨_, rfl, SX.AVto.str (by first | (with_reducible assumption) | (simp; done) | assumption)⟩, ?_⟩ | refine ⟨⟨_, rfl, SX.AVto.bool (by first | (with_reducible assumption) | (simp; done) | assumption)⟩, ?_⟩ | refine ⟨⟨_, rfl, SX.AVto.eq (by first | (with_reducible assumption) | (simp [*]; done)) rfl⟩, ?_⟩))); (· (repeat (first | exact trivial | refine ⟨SX.EntTo.row rfl rfl rfl rfl, ?_⟩ | refine ⟨SX.EntTo.row rfl rfl (by first | rfl | (simp; done)) (by first | rfl | assumption | exact SX.flat_snoc rfl | exact SX.flat_one rfl | (simp; done)), ?_⟩ | refine ⟨SX.EntTo.nilRow rfl, ?_⟩ | refine ⟨SX.EntTo.eq rfl rfl rfl, ?_⟩ | refine ⟨SX.EntTo.same rfl rfl, ?_⟩))); (· rfl)) | (apply SX.St.ltnn; (· (intro b h; first | (cases h; done) | exact ⟨rfl, h⟩ | exact SX.fixIs h)); (· (repeat (first | exact trivial | refine ⟨⟨_, rfl, SX.AVto.same rfl⟩, ?_⟩ | refine ⟨⟨_, rfl, SX.AVto.own rfl⟩, ?_⟩ | refine ⟨⟨_, rfl, SX.AVto.nil rfl⟩, ?_⟩ | refine ⟨⟨_, rfl, SX.AVto.int (by first | (with_reducible assumption) | omega | (simp; done) | assumption)⟩, ?_⟩ | refine ⟨⟨_, rfl, SX.AVto.str (by first | (with_reducible assumption) | (simp; done) | assumption)⟩, ?_⟩ | refine ⟨⟨_, rfl, SX.AVto.bool (by first | (with_reducible assumption) | (simp; done) | assumption)⟩, ?_⟩ | refine ⟨⟨_, rfl, SX.AVto.eq (by first | (with_reducible assumption) | (simp [*]; done)) rfl⟩, ?_⟩))); (· (repeat (first | exact trivial | refine ⟨SX.EntTo.row rfl rfl rfl rfl, ?_⟩ | refine ⟨SX.EntTo.row rfl rfl (by first | rfl | (simp; done)) (by first | rfl | assumption | exact SX.flat_snoc rfl | exact SX.flat_one rfl | (simp; done)), ?_⟩ | refine ⟨SX.EntTo.nilRow rfl, ?_⟩ | refine ⟨SX.EntTo.eq rfl rfl rfl, ?_⟩ | refine ⟨SX.EntTo.same rfl rfl, ?_⟩))); (· rfl)) | (apply SX.St.lt11; (· (intro b h; first | (cases h; done) | exact ⟨rfl, h⟩ | exact SX.fixIs h)); (· (repeat (first | exact trivial | refine ⟨⟨_, rfl, SX.AVto.same rfl⟩, ?_⟩ | refine ⟨⟨_, rfl, SX.AVto.own rfl⟩, ?_⟩ | refine ⟨⟨_, rfl, SX.AVto.nil rfl⟩, ?_⟩ | refine ⟨⟨_, rfl, SX.AVto.int (by first | (with_reducible assumption) | omega | (simp; done) | assumption)⟩, ?_⟩ | refine ⟨⟨_, rfl, SX.AVto.str (by first | (with_reducible assumption) | (simp; done) | assumption)⟩, ?_⟩ | refine ⟨⟨_, rfl, SX.AVto.bool (by first | (with_reducible assumption) | (simp; done) | assumption)⟩, ?_⟩ | refine ⟨⟨_, rfl, SX.AVto.eq (by first | (with_reducible assumption) | (simp [*]; done)) rfl⟩, ?_⟩))); (· (repeat (first | exact trivial | refine ⟨SX.EntTo.row rfl rfl rfl rfl, ?_⟩ | refine ⟨SX.EntTo.row rfl rfl (by first | rfl | (simp; done)) (by first | rfl | assumption | exact SX.flat_snoc rfl | exact SX.flat_one rfl | (simp; done)), ?_⟩ | refine ⟨SX.EntTo.nilRow rfl, ?_⟩ | refine ⟨SX.EntTo.eq rfl rfl rfl, ?_⟩ | refine ⟨SX.EntTo.same rfl rfl, ?_⟩))); (· rfl)) | (apply SX.St.ltn1; (· (intro b h; first | (cases h; done) | exact ⟨rfl, h⟩ | exact SX.fixIs h)); (· (repeat (first | exact trivial | refine ⟨⟨_, rfl, SX.AVto.same rfl⟩, ?_⟩ | refine ⟨⟨_, rfl, SX.AVto.own rfl⟩, ?_⟩ | refine ⟨⟨_, rfl, SX.AVto.nil rfl⟩, ?_⟩ | refine ⟨⟨_, rfl, SX.AVto.int (by first | (with_reducible assumption) | omega | (simp; done) | assumption)⟩, ?_⟩ | refine ⟨⟨_, rfl, SX.AVto.str (by first | (with_reducible assumption) | (simp; done) | assumption)⟩, ?_⟩ | refine ⟨⟨_, rfl, SX.AVto.bool (by first | (with_reducible assumption) | (simp; done) | assumption)⟩, ?_⟩ | refine ⟨⟨_, rfl, SX.AVto.eq (by first | (with_reducible assumption) | (simp [*]; done)) rfl⟩, ?_⟩))); (· (repeat (first | exact trivial | refine ⟨SX.EntTo.row rfl rfl rfl rfl, ?_⟩ | refine ⟨SX.EntTo.row rfl rfl (by first | rfl | (simp; done)) (by first | rfl | assumption | exact SX.flat_snoc rfl | exact SX.flat_one rfl | (simp; done)), ?_⟩ | refine ⟨SX.EntTo.nilRow rfl, ?_⟩ | refine ⟨SX.EntTo.eq rfl rfl rfl, ?_⟩ | refine ⟨SX.EntTo.same rfl rfl, ?_⟩))); (· rfl)) | (apply SX.St.lt1n; (· (intro b h; first | (cases h; done) | exact ⟨rfl, h⟩ | exact SX.fixIs h)); (· (repeat (first | exact trivial | refine ⟨⟨_, rfl, SX.AVto.same rfl⟩, ?_⟩ | refine ⟨⟨_, rfl, SX.AVto.own rfl⟩, ?_⟩ | refine ⟨⟨_, rfl, SX.AVto.nil rfl⟩, ?_⟩ | refine ⟨⟨_, rfl, SX.AVto.int (by first | (with_reducible assumption) | omega | (simp; done) | assumption)⟩, ?_⟩ | refine ⟨⟨_, rfl, SX.AVto.str (by first | (with_reducible assumption) | (simp; done) | assumption)⟩, ?_⟩ | refine ⟨⟨_, rfl, SX.AVto.bool (by first | (with_reducible assumption) | (simp; done) | assumption)⟩, ?_⟩ | refine ⟨⟨_, rfl, SX.AVto.eq (by first | (with_reducible assumption) | (simp [*]; done)) rfl⟩, ?_⟩))); (· (repeat (first | exact trivial | refine ⟨SX.EntTo.row rfl rfl rfl rfl, ?_⟩ | refine ⟨SX.EntTo.row rfl rfl (by first | rfl | (simp; done)) (by first | rfl | assumption | exact SX.flat_snoc rfl | exact SX.flat_one rfl | (simp; done)), ?_⟩ | refine ⟨SX.EntTo.nilRow rfl, ?_⟩ | refine ⟨SX.EntTo.eq rfl rfl rfl, ?_⟩ | refine ⟨SX.EntTo.same rfl rfl, ?_⟩))); (· rfl))) :
    ∃ a' b', φ a' b' ∧ St.le C st (mkSt (I a' b') (H a' b')) ∧ μ a' b' < m := ⟨a0, b0, h1, hle, hm⟩
theorem W.loop3 {α β γ : Type} (φ : α → β → γ → Prop) (I : α → β → γ → List (Nat × AV)) (H : α → β → γ → List (Nat × Ent)) (μ : α → β → γ → Nat) (a0 : α) (b0 : β) (d0 : γ) (h0 : φ a0 b0 d0)
    (round : ∀ a b d, φ a b d → WP P C c (mkSt (I a b d) (H a b d)) (thenK (fun s => ∃ a' b' d', φ a' b' d' ∧ St.le C s (mkSt (I a' b' d') (H a' b' d')) ∧ μ a' b' d' < μ a b d) Q))
    (hle : St.le C st (mkSt (I a0 b0 d0) (H a0 b0 d0)) := by first | (apply SX.St.lt0; (· (intro b h; first | (cases h; done) | exact ⟨rfl, h⟩ | exact SX.fixIs h)); (· (repeat (first | exact trivial | refine ⟨⟨_, rfl, SX.AVto.same rfl⟩, ?_⟩ | refine ⟨⟨_, rfl, SX.AVto.own rfl⟩, ?_⟩ | refine ⟨⟨_, rfl, SX.AVto.nil rfl⟩, ?_⟩ | refine ⟨⟨_, rfl, SX.AVto.int (by first | (with_reducible assumption) | omega | (simp; done) | assumption)⟩, ?_⟩ | refine ⟨⟨_, rfl, SX.AVto.str (by first | (with_reducible assumption) | (simp; done) | assumption)⟩, ?_⟩ | refine ⟨⟨_, rfl, SX.AVto.bool (by first | (with_reducible assumption) | (simp; done) | assumption)⟩, ?_⟩ | refine ⟨⟨_, rfl, SX.AVto.eq (by first | (with_reducible assumption) | (simp [*]; done)) rfl⟩, ?_⟩))); (· (repeat (first | exact trivial | refine ⟨SX.EntTo.row rfl rfl rfl rfl, ?_⟩ | refine ⟨SX.EntTo.row rfl rfl (by first | rfl | (simp; done)) (by first | rfl | assumption | exact SX.flat_snoc rfl | exact SX.flat_one rfl | (simp; done)), ?_⟩ | refine ⟨SX.EntTo.nilRow rfl, ?_⟩ | refine ⟨SX.EntTo.eq rfl rfl rfl, ?_⟩ | refine ⟨SX.EntTo.same rfl rfl, ?_⟩))); (· rfl)) | (apply SX.St.ltn; (· (intro b h; first | (cases h; done) | exact ⟨rfl, h⟩ | exact SX.fixIs h)); (· (repeat (first | exact trivial | refine ⟨⟨_, rfl, SX.AVto.same rfl⟩, ?_⟩ | refine ⟨⟨_, rfl, SX.AVto.own rfl⟩, ?_⟩ | refine ⟨⟨_, rfl, SX.AVto.nil rfl⟩, ?_⟩ | refine ⟨⟨_, rfl, SX.AVto.int (by first | (with_reducible assumption) | omega | (simp; done) | assumption)⟩, ?_⟩ | refine ⟨⟨_, rfl, SX.AVto.str (by first | (with_reducible assumption) | (simp; done) | assumption)⟩, ?_⟩ | refine ⟨⟨_, rfl, SX.AVto.bool (by first | (with_reducible assumption) | (simp; done) | assumption)⟩, ?_⟩ | refine ⟨⟨_, rfl, SX.AVto.eq (by first | (with_reducible assumption) | (simp [*]; done)) rfl⟩, ?_⟩))); (· (repeat (first | exact trivial | refine ⟨SX.EntTo.row rfl rfl rfl rfl, ?_⟩ | refine ⟨SX.EntTo.row rfl rfl (by first | rfl | (simp; done)) (by first | rfl | assumption | exact SX.flat_snoc rfl | exact SX.flat_one rfl | (simp; done)), ?_⟩ | refine ⟨SX.EntTo.nilRow rfl, ?_⟩ | refine ⟨SX.EntTo.eq rfl rfl rfl, ?_⟩ | refine ⟨SX.EntTo.same rfl rfl, ?_⟩))); (· rfl)) | (apply SX.St.lt1; (· (intro b h; first | (cases h; done) | exact ⟨rfl, h⟩ | exact SX.fixIs h)); (· (repeat (first | exact trivial | refine ⟨⟨_, rfl, SX.AVto.same rfl⟩, ?_⟩ | refine ⟨⟨_, rfl, SX.AVto.own rfl⟩, ?_⟩ | refine ⟨⟨_, rfl, SX.AVto.nil rfl⟩, ?_⟩ | refine ⟨⟨_, rfl, SX.AVto.int (by first | (with_reducible assumption) | omega | (simp; done) | assumption)⟩, ?_⟩ | refine ⟨⟨_, rfl, SX.AVto.str (by first | (with_reducible assumption) | (simp; done) | assumption)⟩, ?_⟩ | refine ⟨⟨_, rfl, SX.AVto.bool (by first | (with_reducible assumption) | (simp; done) | assumption)⟩, ?_⟩ | refine ⟨⟨_, rfl, SX.AVto.eq (by first | (with_reducible assumption) | (simp [*]; done)) rfl⟩, ?_⟩))); (· (repeat (first | exact trivial | refine ⟨SX.EntTo.row rfl rfl rfl rfl, ?_⟩ | refine ⟨SX.EntTo.row rfl rfl (by first | rfl | (simp; done)) (by first | rfl | assumption | exact SX.flat_snoc rfl | exact SX.flat_one rfl | (simp; done)), ?_⟩ | refine ⟨SX.EntTo.nilRow rfl, ?_⟩ | refine ⟨SX.EntTo.eq rfl rfl rfl, ?_⟩ | refine ⟨SX.EntTo.same rfl rfl, ?_⟩))); (· rfl)) | (apply SX.St.ltnn; (· (intro b h; first | (cases h; done) | exact ⟨rfl, h⟩ | exact SX.fixIs h)); (· (repeat (first | exact trivial | refine ⟨⟨_, rfl, SX.AVto.same rfl⟩, ?_⟩ | refine ⟨⟨_, rfl, SX.AVto.own rfl⟩, ?_⟩ | refine ⟨⟨_, rfl, SX.AVto.nil rfl⟩, ?_⟩ | refine ⟨⟨_, rfl, SX.AVto.int (by first | (with_reducible assumption) | omega | (simp; done) | assumption)⟩, ?_⟩ | refine ⟨⟨_, rfl, SX.AVto.str (by first | (with_reducible assumption) | (simp; done) | assumption)⟩, ?_⟩ | refine ⟨⟨_, rfl, SX.AVto.bool (by first | (with_reducible assumption) | (simp; done) | assumption)⟩, ?_⟩ | refine ⟨⟨_, rfl, SX.AVto.eq (by first | (with_reducible assumption) | (simp [*]; done)) rfl⟩, ?_⟩))); (· (repeat (first | exact trivial | refine ⟨SX.EntTo.row rfl rfl rfl rfl, ?_⟩ | refine ⟨SX.EntTo.row rfl rfl (by first | rfl | (simp; done)) (by first | rfl | assumption | exact SX.flat_snoc rfl | exact SX.flat_one rfl | (simp; done)), ?_⟩ | refine ⟨SX.EntTo.nilRow rfl, ?_⟩ | refine ⟨SX.EntTo.eq rfl rfl rfl, ?_⟩ | refine ⟨SX.EntTo.same rfl rfl, ?_⟩))); (· rfl)) | (apply SX.St.lt11; (· (intro b h; first | (cases h; done) | exact ⟨rfl, h⟩ | exact SX.fixIs h)); (· (repeat (first | exact trivial | refine ⟨⟨_, rfl, SX.AVto.same rfl⟩, ?_⟩ | refine ⟨⟨_, rfl, SX.AVto.own rfl⟩, ?_⟩ | refine ⟨⟨_, rfl, SX.AVto.nil rfl⟩, ?_⟩ | refine ⟨⟨_, rfl, SX.AVto.int (by first | (with_reducible assumption) | omega | (simp; done) | assumption)⟩, ?_⟩ | refine ⟨⟨_, rfl, SX.AVto.str (by first | (with_reducible assumption) | (simp; done) | assumption)⟩, ?_⟩ | refine ⟨⟨_, rfl, SX.AVto.bool (by first | (with_reducible assumption) | (simp; done) | assumption)⟩, ?_⟩ | refine ⟨⟨_, rfl, SX.AVto.eq (by first | (with_reducible assumption) | (simp [*]; done)) rfl⟩, ?_⟩))); (· (repeat (first | exact trivial | refine ⟨SX.EntTo.row rfl rfl rfl rfl, ?_⟩ | refine ⟨SX.EntTo.row rfl rfl (by first | rfl | (simp; done)) (by first | rfl | assumption | exact SX.flat_snoc rfl | exact SX.flat_one rfl | (simp; done)), ?_⟩ | refine ⟨SX.EntTo.nilRow rfl, ?_⟩ | refine ⟨SX.EntTo.eq rfl rfl rfl, ?_⟩ | refine ⟨SX.EntTo.same rfl rfl, ?_⟩))); (· rfl)) | (apply SX.St.ltn1; (· (intro b h; first | (cases h; done) | exact ⟨rfl, h⟩ | exact SX.fixIs h)); (· (repeat (first | exact trivial | refine ⟨⟨_, rfl, SX.AVto.same rfl⟩, ?_⟩ | refine ⟨⟨_, rfl, SX.AVto.own rfl⟩, ?_⟩ | refine ⟨⟨_, rfl, SX.AVto.nil rfl⟩, ?_⟩ | refine ⟨⟨_, rfl, SX.AVto.int (by first | (with_reducible assumption) | omega | (simp; done) | assumption)⟩, ?_⟩ | refine ⟨⟨_, rfl, SX.AVto.str (by first | (with_reducible assumption) | (simp; done) | assumption)⟩, ?_⟩ | refine ⟨⟨_, rfl, SX.AVto.bool (by first | (with_reducible assumption) | (simp; done) | assumption)⟩, ?_⟩ | refine ⟨⟨_, rfl, SX.AVto.eq (by first | (with_reducible assumption) | (simp [*]; done)) rfl⟩, ?_⟩))); (· (repeat (first | exact trivial | refine ⟨SX.EntTo.row rfl rfl rfl rfl, ?_⟩ | refine ⟨SX.EntTo.row rfl rfl (by first | rfl | (simp; done)) (by first | rfl | assumption | exact SX.flat_snoc rfl | exact SX.flat_one rfl | (simp; done)), ?_⟩ | refine ⟨SX.EntTo.nilRow rfl, ?_⟩ | refine ⟨SX.EntTo.eq rfl rfl rfl, ?_⟩ | refine ⟨SX.EntTo.same rfl rfl, ?_⟩))); (· rfl)) | (apply SX.St.lt1n; (· (intro b h; first | (cases h; done) | exact ⟨rfl, h⟩ | exact SX.fixIs h)); (· (repeat (first | exact trivial | refine ⟨⟨_, rfl, SX.AVto.same rfl⟩, ?_⟩ | refine ⟨⟨_, rfl, SX.AVto.own rfl⟩, ?_⟩ | refine ⟨⟨_, rfl, SX.AVto.nil rfl⟩, ?_⟩ | refine ⟨⟨_, rfl, SX.AVto.int (by first | (with_reducible assumption) | omega | (simp; done) | assumption)⟩, ?_⟩ | refine ⟨⟨_, rfl, SX.AVto.str (by first | (with_reducible assumption) | (simp; done) | assumption)⟩, ?_⟩ | refine ⟨⟨_, rfl, SX.AVto.bool (by first | (with_reducible assumption) | (simp; done) | assumption)⟩, ?_⟩ | refine ⟨⟨_, rfl, SX.AVto.eq (by first | (with_reducible assumption) | (simp [*]; done)) rfl⟩, ?_⟩))); (· (repeat (first | exact trivial | refine ⟨SX.EntTo.row rfl rfl rfl rfl, ?_⟩ | refine ⟨SX.EntTo.row rfl rfl (by first | rfl | (simp; done)) (by first | rfl | assumption | exact SX.flat_snoc rfl | exact SX.flat_one rfl | (simp; done)), ?_⟩ | refine ⟨SX.EntTo.nilRow rfl, ?_⟩ | refine ⟨SX.EntTo.eq rfl rfl rfl, ?_⟩ | refine ⟨SX.EntTo.same rfl rfl, ?_⟩))); (· rfl))) : WP P C (.loop c) st Q :=
  WP.loop (ι := {p : α × β × γ // φ p.1 p.2.1 p.2.2}) (fun q => match q with | ⟨p, _⟩ => mkSt (I p.1 p.2.1 p.2.2) (H p.1 p.2.1 p.2.2)) (fun q => match q with | ⟨p, _⟩ => μ p.1 p.2.1 p.2.2) ⟨(a0, b0, d0), h0⟩ hle (fun ⟨p, hp⟩ => (round p.1 p.2.1 p.2.2 hp).mono fun e s h => by
    cases e with
    | normal =>
      obtain ⟨a', b', d', hφ, hl, hm⟩ := h
      exact ⟨⟨(a', b', d'), hφ⟩, hl, hm⟩
    | _ => exact h)
theorem W.next3 {α β γ : Type} {φ : α → β → γ → Prop} {I : α → β → γ → List (Nat × AV)} {H : α → β → γ → List (Nat × Ent)} {μ : α → β → γ → Nat} {m : Nat} (a0 : α) (b0 : β) (d0 : γ) (h1 : φ a0 b0 d0) (hm : μ a0 b0 d0 < m) (hle : St.le C st (mkSt (I a0 b0 d0) (H a0 b0 d0)) := by first | (apply SX.St.lt0; (· (intro b h; first | (cases h; done) | exact ⟨rfl, h⟩ | exact SX.fixIs h)); (· (repeat (first | exact trivial | refine ⟨⟨_, rfl, SX.AVto.same rfl⟩, ?_⟩ | refine ⟨⟨_, rfl, SX.AVto.own rfl⟩, ?_⟩ | refine ⟨⟨_, rfl, SX.AVto.nil rfl⟩, ?_⟩ | refine ⟨⟨_, rfl, SX.AVto.int (by first | (with_reducible assumption) | omega | (simp; done) | assumption)⟩, ?_⟩ | refine ⟨⟨_, rfl, SX.AVto.str (by first | (with_reducible assumption) | (simp; done) | assumption)⟩, ?_⟩ | refine ⟨⟨_, rfl, SX.AVto.bool (by first | (with_reducible assumption) | (simp; done) | assumption)⟩, ?_⟩ | refine ⟨⟨_, rfl, SX.AVto.eq (by first | (with_reducible assumption) | (simp [*]; done)) rfl⟩, ?_⟩))); (· (repeat (first | exact trivial | refine ⟨SX.EntTo.row rfl rfl rfl rfl, ?_⟩ | refine ⟨SX.EntTo.row rfl rfl (by first | rfl | (simp; done)) (by first | rfl | assumption | exact SX.flat_snoc rfl | exact SX.flat_one rfl | (simp; done)), ?_⟩ | refine ⟨SX.EntTo.nilRow rfl, ?_⟩ | refine ⟨SX.EntTo.eq rfl rfl rfl, ?_⟩ | refine ⟨SX.EntTo.same rfl rfl, ?_⟩))); (· rfl)) | (apply SX.St.ltn; (· (intro b h; first | (cases h; done) | exact ⟨rfl, h⟩ | exact SX.fixIs h)); (· (repeat (first | exact trivial | refine ⟨⟨_, rfl, SX.AVto.same rfl⟩, ?_⟩ | refine ⟨⟨_, rfl, SX.AVto.own rfl⟩, ?_⟩ | refine ⟨⟨_, rfl, SX.AVto.nil rfl⟩, ?_⟩ | refine ⟨⟨_, rfl, SX.AVto.int (by first | (with_reducible assumption) | omega | (simp; done) | assumption)⟩, ?_⟩ | refine ⟨⟨_, rfl, SX.AVto.str (by first | (with_reducible assumption) | (simp; done) | assumption)⟩, ?_⟩ | refine ⟨⟨_, rfl, SX.AVto.bool (by first | (with_reducible assumption) | (simp; done) | assumption)⟩, ?_⟩ | refine ⟨⟨_, rfl, SX.AVto.eq (by first | (with_reducible assumption) | (simp [*]; done)) rfl⟩, ?_⟩))); (· (repeat (first | exact trivial | refine ⟨SX.EntTo.row rfl rfl rfl rfl, ?_⟩ | refine ⟨SX.EntTo.row rfl rfl (by first | rfl | (simp; done)) (by first | rfl | assumption | exact SX.flat_snoc rfl | exact SX.flat_one rfl | (simp; done)), ?_⟩ | refine ⟨SX.EntTo.nilRow rfl, ?_⟩ | refine ⟨SX.EntTo.eq rfl rfl rfl, ?_⟩ | refine ⟨SX.EntTo.same rfl rfl, ?_⟩))); (· rfl)) | (apply SX.St.lt1; (· (intro b h; first | (cases h; done) | exact ⟨rfl, h⟩ | exact SX.fixIs h)); (· (repeat (first | exact trivial | refine ⟨⟨_, rfl, SX.AVto.same rfl⟩, ?_⟩ | refine ⟨⟨_, rfl, SX.AVto.own rfl⟩, ?_⟩ | refine ⟨⟨_, rfl, SX.AVto.nil rfl⟩, ?_⟩ | refine ⟨⟨_, rfl, SX.AVto.int (by first | (with_reducible assumption) | omega | (simp; done) | assumption)⟩, ?_⟩ | refine ⟨⟨_, rfl, SX.AVto.str (by first | (with_reducible assumption) | (simp; done) | assumption)⟩, ?_⟩ | refine ⟨⟨_, rfl, SX.AVto.bool (by first | (with_reducible assumption) | (simp; done) | assumption)⟩, ?_⟩ | refine ⟨⟨_, rfl, SX.AVto.eq (by first | (with_reducible assumption) | (simp [*]; done)) rfl⟩, ?_⟩))); (· (repeat (first | exact trivial | refine ⟨SX.EntTo.row rfl rfl rfl rfl, ?_⟩ | refine ⟨SX.EntTo.row rfl rfl (by first | rfl | (simp; done)) (by first | rfl | assumption | exact SX.flat_snoc rfl | exact SX.flat_one rfl | (simp; done)), ?_⟩ | refine ⟨SX.EntTo.nilRow rfl, ?_⟩ | refine ⟨SX.EntTo.eq rfl rfl rfl, ?_⟩ | refine ⟨SX.EntTo.same rfl rfl, ?_⟩))); (· rfl)) | (apply SX.St.ltnn; (· (intro b h; first | (cases h; done) | exact ⟨rfl, h⟩ | exact SX.fixIs h)); (· (repeat (first | exact trivial | refine ⟨⟨_, rfl, SX.AVto.same rfl⟩, ?_⟩ | refine ⟨⟨_, rfl, SX.AVto.own rfl⟩, ?_⟩ | refine ⟨⟨_, rfl, SX.AVto.nil rfl⟩, ?_⟩ | refine ⟨⟨_, rfl, SX.AVto.int (by first | (with_reducible assumption) | omega | (simp; done) | assumption)⟩, ?_⟩ | refine ⟨⟨_, rfl, SX.AVto.str (by first | (with_reducible assumption) | (simp; done) | assumption)⟩, ?_⟩ | refine ⟨⟨_, rfl, SX.AVto.bool (by first | (with_reducible assumption) | (simp; done) | assumption)⟩, ?_⟩ | refine ⟨⟨_, rfl, SX.AVto.eq (by first | (with_reducible assumption) | (simp [*]; done)) rfl⟩, ?_⟩))); (· (repeat (first | exact trivial | refine ⟨SX.EntTo.row rfl rfl rfl rfl, ?_⟩ | refine ⟨SX.EntTo.row rfl rfl (by first | rfl | (simp; done)) (by first | rfl | assumption | exact SX.flat_snoc rfl | exact SX.flat_one rfl | (simp; done)), ?_⟩ | refine ⟨SX.EntTo.nilRow rfl, ?_⟩ | refine ⟨SX.EntTo.eq rfl rfl rfl, ?_⟩ | refine ⟨SX.EntTo.same rfl rfl, ?_⟩))); (· rfl)) | (apply SX.St.lt11; (· (intro b h; first | (cases h; done) | exact ⟨rfl, h⟩ | exact SX.fixIs h)); (· (repeat (first | exact trivial | refine ⟨⟨_, rfl, SX.AVto.same rfl⟩, ?_⟩ | refine ⟨⟨_, rfl, SX.AVto.own rfl⟩, ?_⟩ | refine ⟨⟨_, rfl, SX.AVto.nil rfl⟩, ?_⟩ | refine ⟨⟨_, rfl, SX.AVto.int (by first | (with_reducible assumption) | omega | (simp; done) | assumption)⟩, ?_⟩ | refine ⟨⟨_, rfl, SX.AVto.str (by first | (with_reducible assumption) | (simp; done) | assumption)⟩, ?_⟩ | refine ⟨⟨_, rfl, SX.AVto.bool (by first | (with_reducible assumption) | (simp; done) | assumption)⟩, ?_⟩ | refine ⟨⟨_, rfl, SX.AVto.eq (by first | (with_reducible assumption) | (simp [*]; done)) rfl⟩, ?_⟩))); (· (repeat (first | exact trivial | refine ⟨SX.EntTo.row rfl rfl rfl rfl, ?_⟩ | refine ⟨SX.EntTo.row rfl rfl (by first | rfl | (simp; done)) (by first | rfl | assumption | exact SX.flat_snoc rfl | exact SX.flat_one rfl | (simp; done)), ?_⟩ | refine ⟨SX.EntTo.nilRow rfl, ?_⟩ | refine ⟨SX.EntTo.eq rfl rfl rfl, ?_⟩ | refine ⟨SX.EntTo.same rfl rfl, ?_⟩))); (· rfl)) | (apply SX.St.ltn1; (· (intro b h; first | (cases h; done) | exact ⟨rfl, h⟩ | exact SX.fixIs h)); (· (repeat (first | exact trivial | refine ⟨⟨_, rfl, SX.AVto.same rfl⟩, ?_⟩ | refine ⟨⟨_, rfl, SX.AVto.own rfl⟩, ?_⟩ | refine ⟨⟨_, rfl, SX.AVto.nil rfl⟩, ?_⟩ | refine ⟨⟨_, rfl, SX.AVto.int (by first | (with_reducible assumption) | omega | (simp; done) | assumption)⟩, ?_⟩ | refine ⟨⟨_, rfl, SX.AVto.str (by first | (with_reducible assumption) | (simp; done) | assumption)⟩, ?_⟩ | refine ⟨⟨_, rfl, SX.AVto.bool (by first | (with_reducible assumption) | (simp; done) | assumption)⟩, ?_⟩ | refine ⟨⟨_, rfl, SX.AVto.eq (by first | (with_reducible assumption) | (simp [*]; done)) rfl⟩, ?_⟩))); (· (repeat (first | exact trivial | refine ⟨SX.EntTo.row rfl rfl rfl rfl, ?_⟩ | refine ⟨SX.EntTo.row rfl rfl (by first | rfl | (simp; done)) (by first | rfl | assumption | exact SX.flat_snoc rfl | exact SX.flat_one rfl | (simp; done)), ?_⟩ | refine ⟨SX.EntTo.nilRow rfl, ?_⟩ | refine ⟨SX.EntTo.eq rfl rfl rfl, ?_⟩ | refine ⟨SX.EntTo.same rfl rfl, ?_⟩))); (· rfl)) | (apply SX.St.lt1n; (· (intro b h; first | (cases h; done) | exact ⟨rfl, h⟩ | exact SX.fixIs h)); (· (repeat (first | exact trivial | refine ⟨⟨_, rfl, SX.AVto.same rfl⟩, ?_⟩ | refine ⟨⟨_, rfl, SX.AVto.own rfl⟩, ?_⟩ | refine ⟨⟨_, rfl, SX.AVto.nil rfl⟩, ?_⟩ | refine ⟨⟨_, rfl, SX.AVto.int (by first | (with_reducible assumption) | omega | (simp; done) | assumption)⟩, ?_⟩ | refine ⟨⟨_, rfl, SX.AVto.str (by first | (with_reducible assumption) | (simp; done) | assumption)⟩, ?_⟩ | refine ⟨⟨_, rfl, SX.AVto.bool (by first | (with_reducible assumption) | (simp; done) | assumption)⟩, ?_⟩ | refine ⟨⟨_, rfl, SX.AVto.eq (by first | (with_reducible assumption) | (simp [*]; done)) rfl⟩, ?_⟩))); (· (repeat (first | exact trivial | refine ⟨SX.EntTo.row rfl rfl rfl rfl, ?_⟩ | refine ⟨SX.EntTo.row rfl rfl (by first | rfl | (simp; done)) (by first | rfl | assumption | exact SX.flat_snoc rfl | exact SX.flat_one rfl | (simp; done)), ?_⟩ | refine ⟨SX.EntTo.nilRow rfl, ?_⟩ | refine ⟨SX.EntTo.eq rfl rfl rfl, ?_⟩ | refine ⟨SX.EntTo.same rfl rfl, ?_⟩))); (· rfl))) :
    ∃ a' b' d', φ a' b' d' ∧ St.le C st (mkSt (I a' b' d') (H a' b' d')) ∧ μ a' b' d' < m := ⟨a0, b0, d0, h1, hle, hm⟩
/-- Two parts of a text meet in a state that is told. -/
theorem W.meet {x y : Code} (I : List (Nat × AV)) (H : List (Nat × Ent)) (h : WP P C x st (thenK (fun s => St.le C s (mkSt I H)) Q)) (k : WP P C y (mkSt I H) Q) : WP P C (.seq x y) st Q := WP.meet (mkSt I H) h k
theorem W.le {I : List (Nat × AV)} {H : List (Nat × Ent)} (hle : St.le C st (mkSt I H) := by first | (apply SX.St.lt0; (· (intro b h; first | (cases h; done) | exact ⟨rfl, h⟩ | exact SX.fixIs h)); (· (repeat (first | exact trivial | refine ⟨⟨_, rfl, SX.AVto.same rfl⟩, ?_⟩ | refine ⟨⟨_, rfl, SX.AVto.own rfl⟩, ?_⟩ | refine ⟨⟨_, rfl, SX.AVto.nil rfl⟩, ?_⟩ | refine ⟨⟨_, rfl, SX.AVto.int (by first | (with_reducible assumption) | omega | (simp; done) | assumption)⟩, ?_⟩ | refine ⟨⟨_, rfl, SX.AVto.str (by first | (with_reducible assumption) | (simp; done) | assumption)⟩, ?_⟩ | refine ⟨⟨_, rfl, SX.AVto.bool (by first | (with_reducible assumption) | (simp; done) | assumption)⟩, ?_⟩ | refine ⟨⟨_, rfl, SX.AVto.eq (by first | (with_reducible assumption) | (simp [*]; done)) rfl⟩, ?_⟩))); (· (repeat (first | exact trivial | refine ⟨SX.EntTo.row rfl rfl rfl rfl, ?_⟩ | refine ⟨SX.EntTo.row rfl rfl (by first | rfl | (simp; done)) (by first | rfl | assumption | exact SX.flat_snoc rfl | exact SX.flat_one rfl | (simp; done)), ?_⟩ | refine ⟨SX.EntTo.nilRow rfl, ?_⟩ | refine ⟨SX.EntTo.eq rfl rfl rfl, ?_⟩ | refine ⟨SX.EntTo.same rfl rfl, ?_⟩))); (· rfl)) | (apply SX.St.ltn; (· (intro b h; first | (cases h; done) | exact ⟨rfl, h⟩ | exact SX.fixIs h)); (· (repeat (first | exact trivial | refine ⟨⟨_, rfl, SX.AVto.same rfl⟩, ?_⟩ | refine ⟨⟨_, rfl, SX.AVto.own rfl⟩, ?_⟩ | refine ⟨⟨_, rfl, SX.AVto.nil rfl⟩, ?_⟩ | refine ⟨⟨_, rfl, SX.AVto.int (by first | (with_reducible assumption) | omega | (simp; done) | assumption)⟩, ?_⟩ | refine ⟨⟨_, rfl, SX.AVto.str (by first | (with_reducible assumption) | (simp; done) | assumption)⟩, ?_⟩ | refine ⟨⟨_, rfl, SX.AVto.bool (by first | (with_reducible assumption) | (simp; done) | assumption)⟩, ?_⟩ | refine ⟨⟨_, rfl, SX.AVto.eq (by first | (with_reducible assumption) | (simp [*]; done)) rfl⟩, ?_⟩))); (· (repeat (first | exact trivial | refine ⟨SX.EntTo.row rfl rfl rfl rfl, ?_⟩ | refine ⟨SX.EntTo.row rfl rfl (by first | rfl | (simp; done)) (by first | rfl | assumption | exact SX.flat_snoc rfl | exact SX.flat_one rfl | (simp; done)), ?_⟩ | refine ⟨SX.EntTo.nilRow rfl, ?_⟩ | refine ⟨SX.EntTo.eq rfl rfl rfl, ?_⟩ | refine ⟨SX.EntTo.same rfl rfl, ?_⟩))); (· rfl)) | (apply SX.St.lt1; (· (intro b h; first | (cases h; done) | exact ⟨rfl, h⟩ | exact SX.fixIs h)); (· (repeat (first | exact trivial | refine ⟨⟨_, rfl, SX.AVto.same rfl⟩, ?_⟩ | refine ⟨⟨_, rfl, SX.AVto.own rfl⟩, ?_⟩ | refine ⟨⟨_, rfl, SX.AVto.nil rfl⟩, ?_⟩ | refine ⟨⟨_, rfl, SX.AVto.int (by first | (with_reducible assumption) | omega | (simp; done) | assumption)⟩, ?_⟩ | refine ⟨⟨_, rfl, SX.AVto.str (by first | (with_reducible assumption) | (simp; done) | assumption)⟩, ?_⟩ | refine ⟨⟨_, rfl, SX.AVto.bool (by first | (with_reducible assumption) | (simp; done) | assumption)⟩, ?_⟩ | refine ⟨⟨_, rfl, SX.AVto.eq (by first | (with_reducible assumption) | (simp [*]; done)) rfl⟩, ?_⟩))); (· (repeat (first | exact trivial | refine ⟨SX.EntTo.row rfl rfl rfl rfl, ?_⟩ | refine ⟨SX.EntTo.row rfl rfl (by first | rfl | (simp; done)) (by first | rfl | assumption | exact SX.flat_snoc rfl | exact SX.flat_one rfl | (simp; done)), ?_⟩ | refine ⟨SX.EntTo.nilRow rfl, ?_⟩ | refine ⟨SX.EntTo.eq rfl rfl rfl, ?_⟩ | refine ⟨SX.EntTo.same rfl rfl, ?_⟩))); (· rfl)) | (apply SX.St.ltnn; (· (intro b h; first | (cases h; done) | exact ⟨rfl, h⟩ | exact SX.fixIs h)); (· (repeat (first | exact trivial | refine ⟨⟨_, rfl, SX.AVto.same rfl⟩, ?_⟩ | refine ⟨⟨_, rfl, SX.AVto.own rfl⟩, ?_⟩ | refine ⟨⟨_, rfl, SX.AVto.nil rfl⟩, ?_⟩ | refine ⟨⟨_, rfl, SX.AVto.int (by first | (with_reducible assumption) | omega | (simp; done) | assumption)⟩, ?_⟩ | refine ⟨⟨_, rfl, SX.AVto.str (by first | (with_reducible assumption) | (simp; done) | assumption)⟩, ?_⟩ | refine ⟨⟨_, rfl, SX.AVto.bool (by first | (with_reducible assumption) | (simp; done) | assumption)⟩, ?_⟩ | refine ⟨⟨_, rfl, SX.AVto.eq (by first | (with_reducible assumption) | (simp [*]; done)) rfl⟩, ?_⟩))); (· (repeat (first | exact trivial | refine ⟨SX.EntTo.row rfl rfl rfl rfl, ?_⟩ | refine ⟨SX.EntTo.row rfl rfl (by first | rfl | (simp; done)) (by first | rfl | assumption | exact SX.flat_snoc rfl | exact SX.flat_one rfl | (simp; done)), ?_⟩ | refine ⟨SX.EntTo.nilRow rfl, ?_⟩ | refine ⟨SX.EntTo.eq rfl rfl rfl, ?_⟩ | refine ⟨SX.EntTo.same rfl rfl, ?_⟩))); (· rfl)) | (apply SX.St.lt11; (· (intro b h; first | (cases h; done) | exact ⟨rfl, h⟩ | exact SX.fixIs h)); (· (repeat (first | exact trivial | refine ⟨⟨_, rfl, SX.AVto.same rfl⟩, ?_⟩ | refine ⟨⟨_, rfl, SX.AVto.own rfl⟩, ?_⟩ | refine ⟨⟨_, rfl, SX.AVto.nil rfl⟩, ?_⟩ | refine ⟨⟨_, rfl, SX.AVto.int (by first | (with_reducible assumption) | omega | (simp; done) | assumption)⟩, ?_⟩ | refine ⟨⟨_, rfl, SX.AVto.str (by first | (with_reducible assumption) | (simp; done) | assumption)⟩, ?_⟩ | refine ⟨⟨_, rfl, SX.AVto.bool (by first | (with_reducible assumption) | (simp; done) | assumption)⟩, ?_⟩ | refine ⟨⟨_, rfl, SX.AVto.eq (by first | (with_reducible assumption) | (simp [*]; done)) rfl⟩, ?_⟩))); (· (repeat (first | exact trivial | refine ⟨SX.EntTo.row rfl rfl rfl rfl, ?_⟩ | refine ⟨SX.EntTo.row rfl rfl (by first | rfl | (simp; done)) (by first | rfl | assumption | exact SX.flat_snoc rfl | exact SX.flat_one rfl | (simp; done)), ?_⟩ | refine ⟨SX.EntTo.nilRow rfl, ?_⟩ | refine ⟨SX.EntTo.eq rfl rfl rfl, ?_⟩ | refine ⟨SX.EntTo.same rfl rfl, ?_⟩))); (· rfl)) | (apply SX.St.ltn1; (· (intro b h; first | (cases h; done) | exact ⟨rfl, h⟩ | exact SX.fixIs h)); (· (repeat (first | exact trivial | refine ⟨⟨_, rfl, SX.AVto.same rfl⟩, ?_⟩ | refine ⟨⟨_, rfl, SX.AVto.own rfl⟩, ?_⟩ | refine ⟨⟨_, rfl, SX.AVto.nil rfl⟩, ?_⟩ | refine ⟨⟨_, rfl, SX.AVto.int (by first | (with_reducible assumption) | omega | (simp; done) | assumption)⟩, ?_⟩ | refine ⟨⟨_, rfl, SX.AVto.str (by first | (with_reducible assumption) | (simp; done) | assumption)⟩, ?_⟩ | refine ⟨⟨_, rfl, SX.AVto.bool (by first | (with_reducible assumption) | (simp; done) | assumption)⟩, ?_⟩ | refine ⟨⟨_, rfl, SX.AVto.eq (by first | (with_reducible assumption) | (simp [*]; done)) rfl⟩, ?_⟩))); (· (repeat (first | exact trivial | refine ⟨SX.EntTo.row rfl rfl rfl rfl, ?_⟩ | refine ⟨SX.EntTo.row rfl rfl (by first | rfl | (simp; done)) (by first | rfl | assumption | exact SX.flat_snoc rfl | exact SX.flat_one rfl | (simp; done)), ?_⟩ | refine ⟨SX.EntTo.nilRow rfl, ?_⟩ | refine ⟨SX.EntTo.eq rfl rfl rfl, ?_⟩ | refine ⟨SX.EntTo.same rfl rfl, ?_⟩))); (· rfl)) | (apply SX.St.lt1n; (· (intro b h; first | (cases h; done) | exact ⟨rfl, h⟩ | exact SX.fixIs h)); (· (repeat (first | exact trivial | refine ⟨⟨_, rfl, SX.AVto.same rfl⟩, ?_⟩ | refine ⟨⟨_, rfl, SX.AVto.own rfl⟩, ?_⟩ | refine ⟨⟨_, rfl, SX.AVto.nil rfl⟩, ?_⟩ | refine ⟨⟨_, rfl, SX.AVto.int (by first | (with_reducible assumption) | omega | (simp; done) | assumption)⟩, ?_⟩ | refine ⟨⟨_, rfl, SX.AVto.str (by first | (with_reducible assumption) | (simp; done) | assumption)⟩, ?_⟩ | refine ⟨⟨_, rfl, SX.AVto.bool (by first | (with_reducible assumption) | (simp; done) | assumption)⟩, ?_⟩ | refine ⟨⟨_, rfl, SX.AVto.eq (by first | (with_reducible assumption) | (simp [*]; done)) rfl⟩, ?_⟩))); (· (repeat (first | exact trivial | refine ⟨SX.EntTo.row rfl rfl rfl rfl, ?_⟩ | refine ⟨SX.EntTo.row rfl rfl (by first | rfl | (simp; done)) (by first | rfl | assumption | exact SX.flat_snoc rfl | exact SX.flat_one rfl | (simp; done)), ?_⟩ | refine ⟨SX.EntTo.nilRow rfl, ?_⟩ | refine ⟨SX.EntTo.eq rfl rfl rfl, ?_⟩ | refine ⟨SX.EntTo.same rfl rfl, ?_⟩))); (· rfl))) : St.le C st (mkSt I H) := hle
end
end SX
/- What a call answers as its caller's own row; bytes and texts. No program in sight. -/
set_option linter.unusedVariables false
set_option linter.unusedSimpArgs false
namespace SX
open Go Go.RowKit
section
variable {P : Program}
/-- A call that answers a new row, which is its caller's own. -/
def OwnOK (P : Program) (f : FuncId) (args : List AV) (t : TypeId) (size n : Nat) (cells : List CA) : Prop := CallOK P f args [] ⟨.own 100, [(100, .ent (.row t size n cells))]⟩
theorem OwnOK.at {f : FuncId} {args : List AV} {t : TypeId} {size n : Nat} {cells : List CA} (h : OwnOK P f args t size n cells) (d : Nat) : CallOK P f args [] ⟨.own d, [(d, .ent (.row t size n cells))]⟩ := by
  refine ⟨h.1, fun E S w vs hl hg hv h1 h2 h3 => (h.2 E S w vs hl hg hv (fun b e hb => by cases hb) (fun b e k hb => by cases hb) (fun b b' e e' k _ hb => by cases hb)).mono ?_⟩
  rintro e w' ⟨v, E', S', rfl, hE⟩
  have hres : v = E'.sl 100 ∧ v.oneCell' = true := hE.res
  obtain ⟨us, hown, hall⟩ := hE.ents 100 (.row t size n cells) (by simp)
  refine ⟨v, ⟨E.blk, upd E.sl d (E'.sl 100), E.fp⟩, S', rfl, { env := fun b hb => ?_, fpe := fun _ _ => rfl, sub := hE.sub, new := hE.new, lt := hE.lt, off := hE.off, res := ?_, ents := fun b e hb => ?_, blk := fun b e k hb hk => ?_, sep := fun b b' e e' k hne hb hb' => ?_ }⟩
  · by_cases hbd : b = d
    · subst hbd
      obtain ⟨e, he⟩ := hb ⟨_, by simp; rfl⟩
      cases he
    · exact ⟨rfl, upd_ne _ _ hbd⟩
  · show v = upd E.sl d (E'.sl 100) d ∧ _
    rw [upd_same]; exact hres
  · simp at hb; obtain ⟨rfl, rfl⟩ := hb
    refine ⟨us, ?_, hall⟩
    show w'.ownsRow 0 t size (upd E.sl b (E'.sl 100) b) n us
    rw [upd_same]; exact hown
  · simp at hb; obtain ⟨rfl, rfl⟩ := hb
    have hk' : (upd E.sl b (E'.sl 100) b).ownBlock = some k := hk
    rw [upd_same] at hk'
    exact hE.blk 100 (.row t size n cells) k (by simp) hk'
  · simp at hb hb'; exact absurd (hb.1.trans hb'.1.symm) hne
/-- The same, where the row is written no more. -/
theorem OwnOK.pure {f : FuncId} {args : List AV} {t : TypeId} {size n : Nat} {cells : List CA} (h : OwnOK P f args t size n cells) : PureOK P f args (.r (sliceR size n cells)) := by
  refine ⟨h.1, fun E S w vs hl hg hv h1 h2 h3 => (h.2 E S w vs hl hg hv (fun b e hb => by cases hb) (fun b e k hb => by cases hb) (fun b b' e e' k _ hb => by cases hb)).mono ?_⟩
  rintro e w' ⟨v, E', S', rfl, hE⟩
  have hres : v = E'.sl 100 ∧ v.oneCell' = true := hE.res
  obtain ⟨us, hown, hall⟩ := hE.ents 100 (.row t size n cells) (by simp)
  have hnew : ∀ k, (E'.sl 100).ownBlock = some k → w.heap.size ≤ k := fun k hk => by
    rcases (hE.blk 100 (.row t size n cells) k (by simp) hk).2 with ⟨b, e, hb, _⟩ | h
    · cases hb
    · exact h
  have hlen : cells.length = n * size := by rw [hall.length, hown.1]
  refine ⟨v, E, fun k => S' k ∧ (E'.sl 100).ownBlock ≠ some k, rfl, { env := fun b hb => ⟨rfl, rfl⟩, fpe := fun _ _ => rfl, sub := fun k hk => ⟨hE.sub k hk, fun h => ?_⟩, new := fun k hk => hE.new k hk.1, lt := fun k hk => hE.lt k hk.1, off := hE.off, res := ?_, ents := fun b e hb => (by cases hb), blk := fun b e k hb => (by cases hb), sep := fun b b' e e' k _ hb => (by cases hb) }⟩
  · have := hnew k h
    have := hl k hk
    omega
  · show (sliceR size n cells).has _ w' v
    rw [hres.1]
    rcases hown.2 with ⟨hv, h0⟩ | ⟨g, cap, cur, hv, _, hg, hn, hm, hcs, htk⟩
    · refine sliceR_iff.2 ⟨none, 0, by rw [hv, h0], by omega, Nat.zero_le _, fun _ => rfl, hlen, fun i c hc => ?_⟩
      have : cells.length = 0 := by rw [hlen, h0, Nat.zero_mul]
      rw [List.eq_nil_of_length_eq_zero this] at hc
      simp at hc
    · refine sliceR_iff.2 ⟨some ⟨g, 0, none⟩, cap, hv, hn, hm, (fun h => by cases h), hlen, fun i c hc => ?_⟩
      obtain ⟨u, hu, huc⟩ := hall.get hc
      have hown' := hown
      rw [hv] at hown'
      have hcell := hown'.cells (g := g) rfl i u hu
      refine ⟨g, 0, u, rfl, fun h => h.2 (by rw [hv]; rfl), by simpa [Addr.add_lit] using hcell, huc.step (Off.refl S' w') (fun k hk => .inl hk.1)⟩
/-- A contract of this kind that is found by its function and its arguments. -/
class ConO (P : Program) (f : FuncId) (args : List AV) (pre : outParam Prop) (t : outParam TypeId) (size n : outParam Nat) (cells : outParam (List CA)) : Prop where
  h : pre → OwnOK P f args t size n cells
open Classical in
theorem OwnOK.fnF {f : FuncId} {fn : Func} {c : Code} {args : List AV} {t : TypeId} {size n : Nat} {cells : List CA} {nt : Nat} {rs : List ResultVar} (hf : P.funcs[f]? = some fn) (hres : fn.results = rs.toArray) (hnt : fn.ntmps = nt) (hb : fn.body = some c) (hn : (fn.name == "runtime.NumGoroutine") = false) (hna : Nat.ble args.length nt = true)
    (haid : ∀ v ∈ args, v.ids = []) (h : ∀ (w0 : World) (T B : Nat → Prop) (E0 : Env), (∀ k, ¬ B k) → WP P ⟨w0, T, B, nt, E0, fun _ => false⟩ c ⟨fun t => args[t]?, fun _ => .free⟩ (SX.retF ⟨w0, T, B, nt, E0, fun _ => false⟩ P rs ⟨.own 100, [(100, .ent (.row t size n cells))]⟩)) : OwnOK P f args t size n cells :=
  CallOK.fn hf hres hnt hb hn hna (fun b e hb => by cases hb) (fun v hv i hi => by rw [haid v hv] at hi; cases hi) (fun b e hb => by cases hb) (fun b e hb => by cases hb)
    (fun i hi => by
      right
      rcases hi with hi | ⟨b, e, hb, hi⟩
      · have : i = 100 := by simpa [AV.ids, AV0.ids, Atom.ids] using hi
        subst this; exact ⟨_, by simp; rfl⟩
      · simp at hb; obtain ⟨rfl, rfl⟩ := hb; cases hi) (fun w0 T B E0 hB => WP.retF (h w0 T B E0 fun k hk => let ⟨_, _, hb, _⟩ := hB k hk; by cases hb))
end
section
variable {P : Program} {C : Ctx} {st : St}
variable {ops rest : List Oper} {acc : List (List Nat × List Nat)} {K : List (List Nat × List Nat) → St → Prop} {dst : Option Tmp} {d : Tmp} {op : Op} {ty t t' : TypeId} {x y z : Operand} {k k' : IntKind} {i j : Nat} {za zb zi zj : Int}
theorem G.callOwn {f : FuncId} {as : Array Operand} {tys : Array TypeId} {args : List AV} {e : TypeId} {size n : Nat} {cells : List CA} (next : Reg P C ops rest (st.app (some d) ⟨.own d, [(d, .ent (.row e size n cells))]⟩) (([d], [d]) :: acc) K) (ha : evs st as.toList = some args := by rfl)
    (hc : OwnOK P f args e size n cells := by first | (with_reducible assumption) | assumption | exact SX.ConO.use (by first | trivial | omega | assumption | (refine ⟨?_, ?_⟩ <;> first | omega | assumption) | (refine ⟨?_, ?_, ?_⟩ <;> first | omega | assumption))) (hd : dstOK (some d) C.nt = true := by rfl) (hf : st.hp d = .free := by rfl) : Go1 P C ops (some d) (.call ⟨.value (.func f), as, tys⟩) ty rest st acc K :=
  Go1.callG (cap := []) (pre := []) (out := ⟨.own d, [(d, .ent (.row e size n cells))]⟩) (fp := [d]) hd rfl ha (by simpa using hc.at d) (fun b e hb => by cases hb) (fun b s hb => by simp at hb; rw [hb.1]; exact .inr hf) (fun b s hb => by simp at hb; rw [hb.2]; rfl) (fun b s hb => by simp at hb; simp [hb.1])
    (fun i hi => by
      left
      rcases hi with hi | ⟨b, e, hb, hi⟩
      · have : i = d := by simpa [AV.ids, AV0.ids, Atom.ids] using hi
        subst this; exact ⟨_, by simp; rfl⟩
      · simp at hb; obtain ⟨rfl, rfl⟩ := hb; cases hi) next
theorem G.makeN {e : TypeId} {n bytes : Nat} {z : Value} [ht : TSlice P t e 1] [he : TElem P e [z] bytes] (next : Reg P C ops rest (st.app (some d) ⟨.own d, [(d, .ent (.row e 1 n (List.replicate n (.val z))))]⟩) (([d], [d]) :: acc) K) (hd : dstOK (some d) C.nt = true := by rfl) (hx : st.ev x = some (.v (.int k zi)) := by rfl) (hx0 : zi = (n : Int) := by first | with_reducible rfl | exact SX.litN _ | rfl) (hy : st.ev y = some (.v (.int k' zj)) := by rfl) (hy0 : zj = (n : Int) := by first | with_reducible rfl | exact SX.litN _ | rfl) (hf : st.hp d = .free := by rfl)
    (hb : n * bytes ≤ 140737488355328 := by omega) (hm : n ≤ 9223372036854775807 := by omega) : Go1 P C ops (some d) (.makeSlice t x y) ty rest st acc K :=
  Go1.make hd (evz hx hx0) (evz hy hy0) hf hb hm next
theorem G.storeP {e : TypeId} {b off n size : Nat} {cells : List CA} {c : CA} [ht : TOne P t] (next : Reg P C ops rest (st.app none ⟨.v undef, [(b, .ent (.row e size n (spl cells off [c])))]⟩) (([b], [b]) :: acc) K) (hx : st.ev x = some (.it (.one (.rptr b off))) := by rfl) (hy : st.ev y = some (.it (.one (.c c))) := by rfl) (hb : st.hp b = .ent (.row e size n cells) := by rfl) (hl : off + 1 ≤ n * size := by omega)
    (h1 : [Atom.c c].all Atom.oneB = true := by rfl) : Go1 P C ops none (.store t x y) ty rest st acc K :=
  Go1.storeO (m := 1) ht.s hx hy hb rfl hl h1 rfl rfl next
theorem Go1.addT {l m : List UInt8} (hd : dstOK dst C.nt = true) (hx : st.ev x = some (.v (str l))) (hy : st.ev y = some (.v (str m))) (hb : l.length + m.length ≤ 9223372036854775807) (next : Reg P C ops rest (st.app dst ⟨.v (str (l ++ m)), []⟩) (([], []) :: acc) K) : Go1 P C ops dst (.binOp .add t x y t') ty rest st acc K :=
  Go1.val2 hd rfl hx hy (fun ρ o w ho h1 h2 => by
    unfold execOp; rw [ho]
    have hap : (⟨⟨l⟩⟩ : ByteArray) ++ ⟨⟨m⟩⟩ = ⟨⟨l ++ m⟩⟩ := by
      apply ByteArray.ext; simp
    have hl2 : (((⟨⟨l⟩⟩ : ByteArray).size : Nat) : Int) + (((⟨⟨m⟩⟩ : ByteArray).size : Nat) : Int) ≤ 9223372036854775807 := by
      show ((l.length : Nat) : Int) + ((m.length : Nat) : Int) ≤ 9223372036854775807
      omega
    simp [h1, h2, eqGuard, binOp, Op.stringOp, hap]
    exact hl2) next
theorem G.addT {l m : List UInt8} (next : Reg P C ops rest (st.app dst ⟨.v (str (l ++ m)), []⟩) (([], []) :: acc) K) (hd : dstOK dst C.nt = true := by rfl) (hx : st.ev x = some (.v (str l)) := by rfl) (hy : st.ev y = some (.v (str m)) := by rfl) (hb : l.length + m.length ≤ 9223372036854775807 := by (try simp only [List.length_cons, List.length_nil, List.length_append]); omega) : Go1 P C ops dst (.binOp .add t x y t') ty rest st acc K :=
  Go1.addT hd hx hy hb next
/-- A mark: the slice that this place makes is to be the call's own. -/
structure OwnLit (d : Nat) : Prop where
theorem G.litOwn {e : TypeId} {size bytes : Nat} {zs : List Value} {v : AV0} {m : List CA} [ht : TSlice P t e size] [he : TElem P e zs bytes] (next : Reg P C ops rest (st.app (some d) ⟨.own d, [(d, .ent (.row e size 1 m))]⟩) (([d], [d]) :: acc) K) (hown : OwnLit d := by assumption) (hd : dstOK (some d) C.nt = true := by rfl) (hf : st.hp d = .free := by rfl) (hx : st.ev x = some (.it v) := by rfl) (hc : closedL v.cells = some m := by rfl)
    (hm : (Nat.beq m.length size && Nat.ble size 1000 && v.cells.all Atom.oneB) = true := by rfl) : Go1 P C ops (some d) (.buildSlice t 1 #[(0, x)]) ty rest st acc K := by
  simp only [Bool.and_eq_true] at hm
  obtain ⟨⟨h1, h2⟩, h3⟩ := hm
  have hl : m.length = size := Nat.eq_of_beq_eq_true h1
  have h2' : size ≤ 1000 := by simpa [Nat.ble_eq] using h2
  have hvl : v.cells.length = size := by rw [← closedL_len hc]; exact hl
  refine Go1.buildSlice (ps := [(0, v)]) (l := v.cells) (m := m) hd hf (by simp only [evp, hx]) ?_ ?_ ?_ hc ?_ next
  · simp only [List.all_cons, List.all_nil, Bool.and_true, h3, Bool.true_and]; rfl
  · rw [Nat.one_mul, Nat.ble_eq]; omega
  · have hpl : (placesOf 1 size)[0]? = some (0, size) := by simp [placesOf]
    have hz : ((madeCells zs.toArray (1 * size)).toList.map fun v => Atom.c (.val v)).length = size := by simp [size_madeCells]
    have e1 : Nat.beq v.cells.length size = true := by rw [hvl]; exact Nat.beq_refl _
    simp only [fillA, hpl]
    rw [hz, e1, Nat.zero_add, show Nat.ble size size = true by rw [Nat.ble_eq]; exact Nat.le_refl _]
    simp only [Bool.and_self]
    rw [spl_eq _ _ _ (by rw [hz, hvl]; omega), hvl, List.take_zero, List.nil_append, Nat.zero_add, List.drop_of_length_le (by rw [hz]; exact Nat.le_refl _), List.append_nil]
  · rw [hl, Nat.one_mul]; exact Nat.beq_refl _
theorem flat1_get {α : Type} {enc : α → List CA} [EncLen enc 1] {l : List α} {i : Nat} {a : α} {c : CA} (he : enc a = [c]) (ha : l[i]? = some a) : (l.flatMap enc)[i * 1]? = some c := by
  have hf := flat_at (enc := enc) ha
  rw [he] at hf
  have := congrArg (·[0]?) hf
  simpa [List.getElem?_take, List.getElem?_drop] using this
theorem G.loadOW {α : Type} {enc : α → List CA} {l : List α} {a : α} {e : TypeId} {b n size : Nat} {c : CA} [ht : TOne P t] [hz : EncLen enc 1] (next : Reg P C ops rest (st.app dst ⟨.it (.one (.c c)), []⟩) (([b], []) :: acc) K) (hd : dstOK dst C.nt = true := by rfl) (hx : st.ev x = some (.it (.one (.rptr b (i * 1)))) := by rfl) (hb : st.hp b = .ent (.row e size n (l.flatMap enc)) := by rfl) (ha : l[i]? = some a := by assumption) (he : enc a = [c] := by rfl) : Go1 P C ops dst (.load t x) ty rest st acc K :=
  Go1.loadO1 hd hx hb (flat1_get he ha) next
instance : WrapN .u8 255 := ⟨fun m h => by show IntKind.wrap .u8 (m : Int) = m; rw [IntKind.wrap_u8]; omega⟩
theorem G.convN {a b : Nat} [h1 : TInt P t k] [h2 : TInt P t' k'] [hw : WrapN k' b] (next : Reg P C ops rest (st.app dst ⟨.v (.int k' ((a : Nat) : Int)), []⟩) (([], []) :: acc) K) (hd : dstOK dst C.nt = true := by rfl) (hx : st.ev x = some (.v (.int k za)) := by rfl) (hx0 : za = (a : Int) := by first | with_reducible rfl | exact SX.litN _ | rfl) (hb : a ≤ b := by first | omega | assumption) : Go1 P C ops dst (.convert t t' x) ty rest st acc K :=
  Go1.conv hd (evz hx hx0) (hw.h a hb) next
/-- A byte. -/
def bytC (b : UInt8) : List CA := [.val (.int .u8 (b.toNat : Int))]
instance : EncLen bytC 1 := ⟨fun _ => rfl⟩
instance : EncOne bytC := ⟨fun _ => rfl⟩
theorem pushes : ∀ (l : List UInt8) (s : ByteArray), ((l.map fun b => (b.toNat : Int)).foldl (fun r n => r.push (UInt8.ofNat n.toNat)) s).data.toList = s.data.toList ++ l
  | [], s => by simp
  | b :: l, s => by
    rw [List.map_cons, List.foldl_cons, pushes l]
    simp
theorem G.convBS {e : TypeId} {l : List UInt8} {r : Rep} [h1 : TSlice P t e 1] [h2 : TInt P e .u8] [h3 : TStr P t'] (next : Reg P C ops rest (st.app dst ⟨.v (str l), []⟩) (([], []) :: acc) K) (hd : dstOK dst C.nt = true := by rfl) (hx : st.ev x = some (.r r) := by rfl) (hr : AsRow r 1 bytC l := by infer_instance) : Go1 P C ops dst (.convert t t' x) ty rest st acc K :=
  Go1.pureV [] [] (by simp) hd (by simp) (fun o ho _ st' E S a w hev hs _ => by
    obtain ⟨h4, _⟩ := hs.ev ((hev x (by simp [ho, Op.operands])).trans hx)
    obtain ⟨oa, cap, hv, hn, hc, h0, hlen, hcell⟩ := sliceR_iff.1 (hr.h _ _ _ h4)
    refine ⟨fun i hi => (by cases hi), .string ⟨⟨l⟩⟩, ?_, rfl⟩
    unfold execOp; rw [ho]
    have hcv : (convert t t' (a.eval x)).run P w = (Conv.bytesToString (a.eval x)).run P w := by
      rw [hv]
      simp [convert, run_underlying h1.h, run_underlying h2.h, run_underlying h3.h]
    have hrun : (Conv.bytesToString (a.eval x)).run P w = .ok (.string ⟨⟨l⟩⟩) w := by
      rw [hv]
      cases oa with
      | none =>
        have h00 := h0 rfl
        have : l = [] := List.eq_nil_of_length_eq_zero (by have := hn; omega)
        subst this; rfl
      | some ad =>
        rw [run_bytesToString w ad l.length cap (l.map fun b => (b.toNat : Int))]
        · congr 2
          exact ByteArray.ext (Array.ext' (by rw [pushes]; rfl))
        · have hl1 : ((l.map fun b => (b.toNat : Int)).map (Value.int .u8)).length = l.length := by simp
          have := run_loadCells_list (P := P) (w := w) ad ((l.map fun b => (b.toNat : Int)).map (Value.int .u8)) (fun j v hj => by
            rw [List.map_map, List.getElem?_map] at hj
            obtain ⟨b, hb, rfl⟩ := Option.map_eq_some_iff.1 hj
            have hf := flat1_get (enc := bytC) (c := .val (.int .u8 (b.toNat : Int))) rfl hb
            rw [Nat.mul_one] at hf
            obtain ⟨bk, off, u, e1, _, e2, e3⟩ := hcell j _ hf
            cases e1
            rw [Addr.add_lit, e2, show u = _ from e3]; rfl)
          rwa [hl1] at this
    simp [hcv, hrun]) next
theorem retO {t : Tmp} {e : TypeId} {size n : Nat} {cells : List CA} (hle : St.le C st (mkSt [(t, .own 100)] [(100, .row e size n cells)]) := by first | (apply SX.St.lt0; (· (intro b h; first | (cases h; done) | exact ⟨rfl, h⟩ | exact SX.fixIs h)); (· (repeat (first | exact trivial | refine ⟨⟨_, rfl, SX.AVto.same rfl⟩, ?_⟩ | refine ⟨⟨_, rfl, SX.AVto.own rfl⟩, ?_⟩ | refine ⟨⟨_, rfl, SX.AVto.nil rfl⟩, ?_⟩ | refine ⟨⟨_, rfl, SX.AVto.int (by first | (with_reducible assumption) | omega | (simp; done) | assumption)⟩, ?_⟩ | refine ⟨⟨_, rfl, SX.AVto.str (by first | (with_reducible assumption) | (simp; done) | assumption)⟩, ?_⟩ | refine ⟨⟨_, rfl, SX.AVto.bool (by first | (with_reducible assumption) | (simp; done) | assumption)⟩, ?_⟩ | refine ⟨⟨_, rfl, SX.AVto.eq (by first | (with_reducible assumption) | (simp [*]; done)) rfl⟩, ?_⟩))); (· (repeat (first | exact trivial | refine ⟨SX.EntTo.row rfl rfl rfl rfl, ?_⟩ | refine ⟨SX.EntTo.row rfl rfl (by first | rfl | (simp; done)) (by first | rfl | assumption | exact SX.flat_snoc rfl | exact SX.flat_one rfl | (simp; done)), ?_⟩ | refine ⟨SX.EntTo.nilRow rfl, ?_⟩ | refine ⟨SX.EntTo.eq rfl rfl rfl, ?_⟩ | refine ⟨SX.EntTo.same rfl rfl, ?_⟩))); (· rfl)) | (apply SX.St.ltn; (· (intro b h; first | (cases h; done) | exact ⟨rfl, h⟩ | exact SX.fixIs h)); (· (repeat (first | exact trivial | refine ⟨⟨_, rfl, SX.AVto.same rfl⟩, ?_⟩ | refine ⟨⟨_, rfl, SX.AVto.own rfl⟩, ?_⟩ | refine ⟨⟨_, rfl, SX.AVto.nil rfl⟩, ?_⟩ | refine ⟨⟨_, rfl, SX.AVto.int (by first | (with_reducible assumption) | omega | (simp; done) | assumption)⟩, ?_⟩ | refine ⟨⟨_, rfl, SX.AVto.str (by first | (with_reducible assumption) | (simp; done) | assumption)⟩, ?_⟩ | refine ⟨⟨_, rfl, SX.AVto.bool (by first | (with_reducible assumption) | (simp; done) | assumption)⟩, ?_⟩ | refine ⟨⟨_, rfl, SX.AVto.eq (by first | (with_reducible assumption) | (simp [*]; done)) rfl⟩, ?_⟩))); (· (repeat (first | exact trivial | refine ⟨SX.EntTo.row rfl rfl rfl rfl, ?_⟩ | refine ⟨SX.EntTo.row rfl rfl (by first | rfl | (simp; done)) (by first | rfl | assumption | exact SX.flat_snoc rfl | exact SX.flat_one rfl | (simp; done)), ?_⟩ | refine ⟨SX.EntTo.nilRow rfl, ?_⟩ | refine ⟨SX.EntTo.eq rfl rfl rfl, ?_⟩ | refine ⟨SX.EntTo.same rfl rfl, ?_⟩))); (· rfl)) | (apply SX.St.lt1; (· (intro b h; first | (cases h; done) | exact ⟨rfl, h⟩ | exact SX.fixIs h)); (· (repeat (first | exact trivial | refine ⟨⟨_, rfl, SX.AVto.same rfl⟩, ?_⟩ | refine ⟨⟨_, rfl, SX.AVto.own rfl⟩, ?_⟩ | refine ⟨⟨_, rfl, SX.AVto.nil rfl⟩, ?_⟩ | refine ⟨⟨_, rfl, SX.AVto.int (by first | (with_reducible assumption) | omega | (simp; done) | assumption)⟩, ?_⟩ | refine ⟨⟨_, rfl, SX.AVto.str (by first | (with_reducible assumption) | (simp; done) | assumption)⟩, ?_⟩ | refine ⟨⟨_, rfl, SX.AVto.bool (by first | (with_reducible assumption) | (simp; done) | assumption)⟩, ?_⟩ | refine ⟨⟨_, rfl, SX.AVto.eq (by first | (with_reducible assumption) | (simp [*]; done)) rfl⟩, ?_⟩))); (· (repeat (first | exact trivial | refine ⟨SX.EntTo.row rfl rfl rfl rfl, ?_⟩ | refine ⟨SX.EntTo.row rfl rfl (by first | rfl | (simp; done)) (by first | rfl | assumption | exact SX.flat_snoc rfl | exact SX.flat_one rfl | (simp; done)), ?_⟩ | refine ⟨SX.EntTo.nilRow rfl, ?_⟩ | refine ⟨SX.EntTo.eq rfl rfl rfl, ?_⟩ | refine ⟨SX.EntTo.same rfl rfl, ?_⟩))); (· rfl)) | (apply SX.St.ltnn; (· (intro b h; first | (cases h; done) | exact ⟨rfl, h⟩ | exact SX.fixIs h)); (· (repeat (first | exact trivial | refine ⟨⟨_, rfl, SX.AVto.same rfl⟩, ?_⟩ | refine ⟨⟨_, rfl, SX.AVto.own rfl⟩, ?_⟩ | refine ⟨⟨_, rfl, SX.AVto.nil rfl⟩, ?_⟩ | refine ⟨⟨_, rfl, SX.AVto.int (by first | (with_reducible assumption) | omega | (simp; done) | assumption)⟩, ?_⟩ | refine ⟨⟨_, rfl, SX.AVto.str (by first | (with_reducible assumption) | (simp; done) | assumption)⟩, ?_⟩ | refine ⟨⟨_, rfl, SX.AVto.bool (by first | (with_reducible assumption) | (simp; done) | assumption)⟩, ?_⟩ | refine ⟨⟨_, rfl, SX.AVto.eq (by first | (with_reducible assumption) | (simp [*]; done)) rfl⟩, ?_⟩))); (· (repeat (first | exact trivial | refine ⟨SX.EntTo.row rfl rfl rfl rfl, ?_⟩ | refine ⟨SX.EntTo.row rfl rfl (by first | rfl | (simp; done)) (by first | rfl | assumption | exact SX.flat_snoc rfl | exact SX.flat_one rfl | (simp; done)), ?_⟩ | refine ⟨SX.EntTo.nilRow rfl, ?_⟩ | refine ⟨SX.EntTo.eq rfl rfl rfl, ?_⟩ | refine ⟨SX.EntTo.same rfl rfl, ?_⟩))); (· rfl)) | (apply SX.St.lt11; (· (intro b h; first | (cases h; done) | exact ⟨rfl, h⟩ | exact SX.fixIs h)); (· (repeat (first | exact trivial | refine ⟨⟨_, rfl, SX.AVto.same rfl⟩, ?_⟩ | refine ⟨⟨_, rfl, SX.AVto.own rfl⟩, ?_⟩ | refine ⟨⟨_, rfl, SX.AVto.nil rfl⟩, ?_⟩ | refine ⟨⟨_, rfl, SX.AVto.int (by first | (with_reducible assumption) | omega | (simp; done) | assumption)⟩, ?_⟩ | refine ⟨⟨_, rfl, SX.AVto.str (by first | (with_reducible assumption) | (simp; done) | assumption)⟩, ?_⟩ | refine ⟨⟨_, rfl, SX.AVto.bool (by first | (with_reducible assumption) | (simp; done) | assumption)⟩, ?_⟩ | refine ⟨⟨_, rfl, SX.AVto.eq (by first | (with_reducible assumption) | (simp [*]; done)) rfl⟩, ?_⟩))); (· (repeat (first | exact trivial | refine ⟨SX.EntTo.row rfl rfl rfl rfl, ?_⟩ | refine ⟨SX.EntTo.row rfl rfl (by first | rfl | (simp; done)) (by first | rfl | assumption | exact SX.flat_snoc rfl | exact SX.flat_one rfl | (simp; done)), ?_⟩ | refine ⟨SX.EntTo.nilRow rfl, ?_⟩ | refine ⟨SX.EntTo.eq rfl rfl rfl, ?_⟩ | refine ⟨SX.EntTo.same rfl rfl, ?_⟩))); (· rfl)) | (apply SX.St.ltn1; (· (intro b h; first | (cases h; done) | exact ⟨rfl, h⟩ | exact SX.fixIs h)); (· (repeat (first | exact trivial | refine ⟨⟨_, rfl, SX.AVto.same rfl⟩, ?_⟩ | refine ⟨⟨_, rfl, SX.AVto.own rfl⟩, ?_⟩ | refine ⟨⟨_, rfl, SX.AVto.nil rfl⟩, ?_⟩ | refine ⟨⟨_, rfl, SX.AVto.int (by first | (with_reducible assumption) | omega | (simp; done) | assumption)⟩, ?_⟩ | refine ⟨⟨_, rfl, SX.AVto.str (by first | (with_reducible assumption) | (simp; done) | assumption)⟩, ?_⟩ | refine ⟨⟨_, rfl, SX.AVto.bool (by first | (with_reducible assumption) | (simp; done) | assumption)⟩, ?_⟩ | refine ⟨⟨_, rfl, SX.AVto.eq (by first | (with_reducible assumption) | (simp [*]; done)) rfl⟩, ?_⟩))); (· (repeat (first | exact trivial | refine ⟨SX.EntTo.row rfl rfl rfl rfl, ?_⟩ | refine ⟨SX.EntTo.row rfl rfl (by first | rfl | (simp; done)) (by first | rfl | assumption | exact SX.flat_snoc rfl | exact SX.flat_one rfl | (simp; done)), ?_⟩ | refine ⟨SX.EntTo.nilRow rfl, ?_⟩ | refine ⟨SX.EntTo.eq rfl rfl rfl, ?_⟩ | refine ⟨SX.EntTo.same rfl rfl, ?_⟩))); (· rfl)) | (apply SX.St.lt1n; (· (intro b h; first | (cases h; done) | exact ⟨rfl, h⟩ | exact SX.fixIs h)); (· (repeat (first | exact trivial | refine ⟨⟨_, rfl, SX.AVto.same rfl⟩, ?_⟩ | refine ⟨⟨_, rfl, SX.AVto.own rfl⟩, ?_⟩ | refine ⟨⟨_, rfl, SX.AVto.nil rfl⟩, ?_⟩ | refine ⟨⟨_, rfl, SX.AVto.int (by first | (with_reducible assumption) | omega | (simp; done) | assumption)⟩, ?_⟩ | refine ⟨⟨_, rfl, SX.AVto.str (by first | (with_reducible assumption) | (simp; done) | assumption)⟩, ?_⟩ | refine ⟨⟨_, rfl, SX.AVto.bool (by first | (with_reducible assumption) | (simp; done) | assumption)⟩, ?_⟩ | refine ⟨⟨_, rfl, SX.AVto.eq (by first | (with_reducible assumption) | (simp [*]; done)) rfl⟩, ?_⟩))); (· (repeat (first | exact trivial | refine ⟨SX.EntTo.row rfl rfl rfl rfl, ?_⟩ | refine ⟨SX.EntTo.row rfl rfl (by first | rfl | (simp; done)) (by first | rfl | assumption | exact SX.flat_snoc rfl | exact SX.flat_one rfl | (simp; done)), ?_⟩ | refine ⟨SX.EntTo.nilRow rfl, ?_⟩ | refine ⟨SX.EntTo.eq rfl rfl rfl, ?_⟩ | refine ⟨SX.EntTo.same rfl rfl, ?_⟩))); (· rfl))) : RetF C P [.tmp t] ⟨.own 100, [(100, .ent (.row e size n cells))]⟩ st :=
  ⟨_, hle, [.one (.own 100)], ⟨ResOK.tmp (by simp [mkSt, lk]), trivial⟩, rfl, fun b e hb => by simp at hb; obtain ⟨rfl, rfl⟩ := hb; simp [mkSt, lk]⟩
end
/-- The run, as far as it goes. -/
structure Held2 (q : Prop) : Prop where
  out : q
theorem go2 {p q : Prop} (h : q) (k : Held2 q → p := by
    intro h
    (first
      | (refine SX.Go1.is ?_; first
          | (refine SX.Go1.isLoad ?_; first | refine SX.G.load2 ?_ | refine SX.G.load1 ?_ | refine SX.G.loadR1 ?_ | refine SX.G.loadR2 ?_ | refine SX.G.load4 ?_ | refine SX.G.loadR4 ?_ | refine SX.G.load3 ?_ | refine SX.G.loadR3 ?_ | refine SX.G.loadOW ?_ | refine SX.G.loadO1 ?_)
          | (refine SX.Go1.isBin ?_; first | refine SX.G.lss ?_ | refine SX.G.eql ?_ | refine SX.G.neq ?_ | refine SX.G.gtr ?_ | refine SX.G.geq ?_ | refine SX.G.leq ?_ | refine SX.G.addN ?_ | refine SX.G.addNu ?_ | refine SX.G.subN ?_ | refine SX.G.subNu ?_ | refine SX.G.add ?_ | refine SX.G.sub ?_ | refine SX.G.mulN ?_ | refine SX.G.mulNu ?_ | refine SX.G.mul ?_ | refine SX.G.quoN ?_ | refine SX.G.quoNu ?_ | refine SX.G.quo ?_ | refine SX.G.remN ?_ | refine SX.G.remNu ?_ | refine SX.G.rem ?_ | refine SX.G.eqlT ?_ | refine SX.G.neqT ?_ | refine SX.G.eqlB ?_ | refine SX.G.neqB ?_ | refine SX.G.shr ?_ | refine SX.G.shl ?_ | refine SX.G.and ?_ | refine SX.G.addT ?_)
          | (refine SX.Go1.isUn ?_; first | refine SX.G.not ?_ | refine SX.G.neg ?_)
          | (refine SX.Go1.isField ?_; first | refine SX.G.fieldAddr ?_ | refine SX.G.fieldAddrR ?_)
          | (refine SX.Go1.isBuild ?_; first | refine SX.G.build2 ?_ | refine SX.G.build3 ?_ | refine SX.G.build4 ?_ | refine SX.G.build ?_)
          | (refine SX.Go1.isStore ?_; first | refine SX.G.store ?_ | refine SX.G.storeP ?_ | refine SX.G.storeO ?_)
          | (refine SX.Go1.isIx ?_; first | refine SX.G.indexAddrW ?_ | refine SX.G.indexAddrV ?_ | refine SX.G.indexAddrR ?_ | refine SX.G.indexAddrO ?_)
          | (refine SX.Go1.isBuildS ?_; first | refine SX.G.litOwn ?_ | refine SX.G.lit1 ?_)
          | (refine SX.Go1.isCall ?_; first | refine SX.G.minN ?_ | refine SX.G.maxN ?_ | refine SX.G.lenR ?_ | refine SX.G.lenN ?_ | refine SX.G.lenT ?_ | refine SX.G.lenS ?_ | refine SX.G.lenO ?_ | refine SX.G.appendW ?_ | refine SX.G.appendNilW ?_ | refine SX.G.callOwn ?_ | refine SX.G.call ?_)
          | refine SX.G.move ?_ | refine SX.G.assign ?_ | refine SX.G.extract ?_ | refine SX.G.box ?_ | refine SX.G.alloc ?_ | refine SX.G.pick ?_ | refine SX.R.pickT ?_ | refine SX.R.pickF ?_ | refine SX.G.pickB ?_ | refine SX.G.pickV ?_ | refine SX.G.makeN ?_ | refine SX.G.convN ?_ | refine SX.G.conv ?_ | refine SX.G.convBS ?_ | refine SX.G.sliceHiW ?_ | refine SX.G.sliceLoW ?_ | refine SX.G.sliceHiR ?_ | refine SX.G.sliceLoR ?_ | refine SX.G.sliceHiO ?_ | refine SX.G.sliceHiT ?_ | refine SX.G.sliceLoT ?_ | refine SX.G.sliceLHT ?_ | refine SX.G.indexT ?_ | refine SX.G.sliceHiS ?_ | refine SX.G.sliceLoS ?_ | refine SX.G.sliceLHS ?_ | refine SX.G.indexS ?_)
      | (refine SX.Reg.is ?_; first | refine SX.Reg.go ?_ | refine SX.R.runT ?_ | refine SX.R.runF ?_ | refine SX.R.skipT ?_ | refine SX.R.skipF ?_ | refine SX.R.skipU ?_ | refine SX.Reg.nil ⟨by kernel_rfl, ?_⟩ | refine SX.Reg.nil ?_)
      | (refine SX.WP.is ?_; first | refine SX.WP.seq ?_ | refine SX.WP.regionL ?_ | refine SX.WP.regionDL (by kernel_rfl) ?_ | refine SX.WP.block ?_ | refine SX.WP.skip ?_ | refine SX.WP.exit ?_ | refine SX.WP.ret ?_ | refine SX.WP.label ?_ | refine SX.W.condT ?_ | refine SX.W.condF ?_)
      | refine SX.thenN ?_ | refine SX.thenE ?_ | refine SX.thenR ?_ | refine SX.inBlkN ?_ | refine SX.inBlkR ?_ | refine SX.inBlkE ?_ | refine SX.inBlkO rfl ?_ | refine SX.retR ?_ | refine SX.retN ?_ | refine SX.retFR ?_ | refine SX.retFN ?_)
    repeat (first
      | (refine SX.Go1.is ?_; first
          | (refine SX.Go1.isLoad ?_; first | refine SX.G.load2 ?_ | refine SX.G.load1 ?_ | refine SX.G.loadR1 ?_ | refine SX.G.loadR2 ?_ | refine SX.G.load4 ?_ | refine SX.G.loadR4 ?_ | refine SX.G.load3 ?_ | refine SX.G.loadR3 ?_ | refine SX.G.loadOW ?_ | refine SX.G.loadO1 ?_)
          | (refine SX.Go1.isBin ?_; first | refine SX.G.lss ?_ | refine SX.G.eql ?_ | refine SX.G.neq ?_ | refine SX.G.gtr ?_ | refine SX.G.geq ?_ | refine SX.G.leq ?_ | refine SX.G.addN ?_ | refine SX.G.addNu ?_ | refine SX.G.subN ?_ | refine SX.G.subNu ?_ | refine SX.G.add ?_ | refine SX.G.sub ?_ | refine SX.G.mulN ?_ | refine SX.G.mulNu ?_ | refine SX.G.mul ?_ | refine SX.G.quoN ?_ | refine SX.G.quoNu ?_ | refine SX.G.quo ?_ | refine SX.G.remN ?_ | refine SX.G.remNu ?_ | refine SX.G.rem ?_ | refine SX.G.eqlT ?_ | refine SX.G.neqT ?_ | refine SX.G.eqlB ?_ | refine SX.G.neqB ?_ | refine SX.G.shr ?_ | refine SX.G.shl ?_ | refine SX.G.and ?_ | refine SX.G.addT ?_)
          | (refine SX.Go1.isUn ?_; first | refine SX.G.not ?_ | refine SX.G.neg ?_)
          | (refine SX.Go1.isField ?_; first | refine SX.G.fieldAddr ?_ | refine SX.G.fieldAddrR ?_)
          | (refine SX.Go1.isBuild ?_; first | refine SX.G.build2 ?_ | refine SX.G.build3 ?_ | refine SX.G.build4 ?_ | refine SX.G.build ?_)
          | (refine SX.Go1.isStore ?_; first | refine SX.G.store ?_ | refine SX.G.storeP ?_ | refine SX.G.storeO ?_)
          | (refine SX.Go1.isIx ?_; first | refine SX.G.indexAddrW ?_ | refine SX.G.indexAddrV ?_ | refine SX.G.indexAddrR ?_ | refine SX.G.indexAddrO ?_)
          | (refine SX.Go1.isBuildS ?_; first | refine SX.G.litOwn ?_ | refine SX.G.lit1 ?_)
          | (refine SX.Go1.isCall ?_; first | refine SX.G.minN ?_ | refine SX.G.maxN ?_ | refine SX.G.lenR ?_ | refine SX.G.lenN ?_ | refine SX.G.lenT ?_ | refine SX.G.lenS ?_ | refine SX.G.lenO ?_ | refine SX.G.appendW ?_ | refine SX.G.appendNilW ?_ | refine SX.G.callOwn ?_ | refine SX.G.call ?_)
          | refine SX.G.move ?_ | refine SX.G.assign ?_ | refine SX.G.extract ?_ | refine SX.G.box ?_ | refine SX.G.alloc ?_ | refine SX.G.pick ?_ | refine SX.R.pickT ?_ | refine SX.R.pickF ?_ | refine SX.G.pickB ?_ | refine SX.G.pickV ?_ | refine SX.G.makeN ?_ | refine SX.G.convN ?_ | refine SX.G.conv ?_ | refine SX.G.convBS ?_ | refine SX.G.sliceHiW ?_ | refine SX.G.sliceLoW ?_ | refine SX.G.sliceHiR ?_ | refine SX.G.sliceLoR ?_ | refine SX.G.sliceHiO ?_ | refine SX.G.sliceHiT ?_ | refine SX.G.sliceLoT ?_ | refine SX.G.sliceLHT ?_ | refine SX.G.indexT ?_ | refine SX.G.sliceHiS ?_ | refine SX.G.sliceLoS ?_ | refine SX.G.sliceLHS ?_ | refine SX.G.indexS ?_)
      | (refine SX.Reg.is ?_; first | refine SX.Reg.go ?_ | refine SX.R.runT ?_ | refine SX.R.runF ?_ | refine SX.R.skipT ?_ | refine SX.R.skipF ?_ | refine SX.R.skipU ?_ | refine SX.Reg.nil ⟨by kernel_rfl, ?_⟩ | refine SX.Reg.nil ?_)
      | (refine SX.WP.is ?_; first | refine SX.WP.seq ?_ | refine SX.WP.regionL ?_ | refine SX.WP.regionDL (by kernel_rfl) ?_ | refine SX.WP.block ?_ | refine SX.WP.skip ?_ | refine SX.WP.exit ?_ | refine SX.WP.ret ?_ | refine SX.WP.label ?_ | refine SX.W.condT ?_ | refine SX.W.condF ?_)
      | refine SX.thenN ?_ | refine SX.thenE ?_ | refine SX.thenR ?_ | refine SX.inBlkN ?_ | refine SX.inBlkR ?_ | refine SX.inBlkE ?_ | refine SX.inBlkO rfl ?_ | refine SX.retR ?_ | refine SX.retN ?_ | refine SX.retFR ?_ | refine SX.retFN ?_)
    exact h.out) : p := k ⟨h⟩
end SX
/- The run within one region; calls of functions without a text. No program in sight. -/
set_option linter.unusedVariables false
set_option linter.unusedSimpArgs false
namespace SX
open Go Go.RowKit
section
variable {P : Program} {C : Ctx} {st : St}
variable {ops rest : List Oper} {acc : List (List Nat × List Nat)} {K : List (List Nat × List Nat) → St → Prop} {dst : Option Tmp} {ty : TypeId}
end
/-- The run within a region. -/
structure HeldR (q : Prop) : Prop where
  out : q
end SX

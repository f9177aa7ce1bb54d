import Derived.Test.YtmfadfkjnfdngaaGreatDoorM2
import Derived.Laws.OwnMore
import Derived.Laws.AppendOwnNone
set_option linter.unusedVariables false
set_option linter.unusedSimpArgs false
namespace SX
open Go Go.RowKit
section
variable {P : Program}
def closedL : List Atom → Option (List CA)
  | [] => some []
  | .c a :: l => match closedL l with | some m => some (a :: m) | none => none
  | _ :: _ => none
theorem closedL_spec : ∀ {l : List Atom} {m : List CA}, closedL l = some m → l = m.map Atom.c
  | [], m, h => by simp [closedL] at h; subst h; rfl
  | .c a :: l, m, h => by
    unfold closedL at h
    cases hl : closedL l with
    | none => simp [hl] at h
    | some m' => simp [hl] at h; subst h; simp [closedL_spec hl]
  | .ptr _ _ :: _, _, h => by simp [closedL] at h
  | .own _ :: _, _, h => by simp [closedL] at h
  | .rptr _ _ :: _, _, h => by simp [closedL] at h
  | .clo _ _ :: _, _, h => by simp [closedL] at h
  | .bnd _ _ :: _, _, h => by simp [closedL] at h
  | .rel _ _ :: _, _, h => by simp [closedL] at h
theorem all2_closed {E : Env} {S : Nat → Prop} {w : World} : ∀ {m : List CA} {vs : List Value}, All2 (Atom.has E S w) (m.map Atom.c) vs → All2 (CA.has S w) m vs
  | [], [], _ => trivial
  | _ :: _, _ :: _, h => ⟨h.1, all2_closed h.2⟩
  | [], _ :: _, h => h.elim
  | _ :: _, [], h => h.elim
theorem all2_open {E : Env} {S : Nat → Prop} {w : World} : ∀ {m : List CA} {vs : List Value}, All2 (CA.has S w) m vs → All2 (Atom.has E S w) (m.map Atom.c) vs
  | [], [], _ => trivial
  | _ :: _, _ :: _, h => ⟨h.1, all2_open h.2⟩
  | [], _ :: _, h => h.elim
  | _ :: _, [], h => h.elim
def CA.oneB : CA → Bool
  | .val v => v.oneCell'
  | .sat _ => true
theorem ca_one {S : Nat → Prop} {w : World} : ∀ {m : List CA} {vs : List Value}, All2 (CA.has S w) m vs → m.all CA.oneB = true → ∀ u ∈ vs, u.oneCell' = true
  | [], [], _, _, u, hu => by simp at hu
  | a :: m, v :: vs, h, h1, u, hu => by
    simp only [List.all_cons, Bool.and_eq_true] at h1
    rcases List.mem_cons.1 hu with rfl | hu
    · cases a with
      | val x => rw [show u = x from h.1]; exact h1.1
      | sat r => exact r.one h.1
    · exact ca_one h.2 h1.2 u hu
  | [], _ :: _, h, _, _, _ => h.elim
  | _ :: _, [], h, _, _, _ => h.elim
theorem run_append_row (w : World) (t ty e : TypeId) (i : TypeInfo) (z : Value) (size bytes : Nat) (ht : P.underlying t = some (.slice e)) (hi : P.info? e = some i) (hz : i.zero = some z)
    (hsize : i.size = size) (hby : i.bytes = bytes) (hzs : z.cells.size = size)
    (v : Value) (n : Nat) (xs : List Value) (hown : w.ownsRow 0 e size v n xs)
    (a : Addr) (m c : Nat) (news : List Value) (hl : news.length = m * size) (hnews : ∀ j u, news[j]? = some u → w.cell? (a.add j) = some u) (h1 : ∀ u ∈ news, u.oneCell' = true)
    (h63 : n + m ≤ maxLen) (hbytes : (n + m) * bytes ≤ 140737488355328) :
    ∃ v' w', (Builtin.append_ #[t, t] ty #[v, .slice (some a) m c]).run P w = .ok v' w' ∧ w'.ownsRow 0 e size v' (n + m) (xs ++ news) ∧ w.grownBy w' v.ownBlock ∧ ∀ k, v'.ownBlock = some k → v.ownBlock = some k ∨ w.heap.size ≤ k := by
  subst hsize hby
  have hsmall : n + m ≤ 9223372036854775807 := by simp only [maxLen] at h63; omega
  have hlen : (xs ++ news).length = (n + m) * i.size := by rw [List.length_append, hown.1, hl, Nat.add_mul]
  have grown : ∀ (old : Nat), old < n + m → ∀ (row : Option Nat),
      (w.drew.alloc (.cells (xs.toArray ++ news.toArray ++ Builtin.zeroCells z.cells (grownCap w (n + m) old e - (n + m))) e)).ownsRow 0 e i.size
        (.slice (some ⟨w.heap.size, 0, none⟩) (n + m) (grownCap w (n + m) old e)) (n + m) (xs ++ news) ∧
      w.grownBy (w.drew.alloc (.cells (xs.toArray ++ news.toArray ++ Builtin.zeroCells z.cells (grownCap w (n + m) old e - (n + m))) e)) row := by
    intro old ho row
    have hge := grownCap_ge w (n + m) old e
    have hcm : grownCap w (n + m) old e ≤ maxLen := grownCap_le_maxLen w (n + m) old e h63
    refine ⟨⟨hlen, .inr ⟨w.heap.size, _, _, rfl, Nat.zero_le _, heap_alloc_new w.drew _, hge, hcm, ?_, ?_⟩⟩, ⟨rfl, rfl, rfl, by simp, fun k hk _ => Below.heap_alloc w.drew _ k hk⟩⟩
    · simp only [Array.size_append, List.size_toArray, size_zeroCells, hzs, hown.1, hl, ← Nat.add_mul]
      congr 1
      omega
    · simp only [Array.toList_append, List.append_assoc]
      rw [← List.append_assoc, ← hlen]
      exact List.take_left
  rcases hown.2 with ⟨rfl, rfl⟩ | ⟨g, cap, cur, rfl, _, hg, hnc, hcm, hcs, htake⟩
  · have hx : xs = [] := List.eq_nil_of_length_eq_zero (by simpa using hown.1)
    subst hx
    by_cases hm : m = 0
    · subst hm
      have hn : news = [] := List.eq_nil_of_length_eq_zero (by simpa using hl)
      subst hn
      refine ⟨.slice none 0 0, w, ?_, World.ownsRow_nil w 0 e i.size, ⟨rfl, rfl, rfl, Nat.le_refl _, fun _ _ _ => rfl⟩, fun k hk => by simp [Value.ownBlock] at hk⟩
      simp [Builtin.append_, run_underlying ht, Go.sizeOf, typeInfo, hi, Builtin.lenOf, Builtin.firstCells, loadCells, loadCellsFrom]
    · have hr := run_append_nil (P := P) w t ty e i z ht hi hz a m c news hl hnews (by omega) (by omega) (by have hb := hbytes; simp only [Nat.zero_add] at hb; omega)
      have hgr := grown 0 (by omega) (Value.ownBlock (.slice none 0 0))
      simp only [Nat.zero_add, List.nil_append, Array.empty_append] at hgr ⊢
      exact ⟨_, _, hr, hgr.1, hgr.2, fun k hk => .inr (by simp [Value.ownBlock] at hk; omega)⟩
  · by_cases hroom : n + m ≤ cap
    · have hfit : n * i.size + news.length ≤ cur.size := by rw [hl, hcs, ← Nat.add_mul]; exact Nat.mul_le_mul_right _ hroom
      have hr := run_append_room (P := P) w t ty e i ht hi g n cap cur hg a m c news hl hnews h1 hroom hfit
      refine ⟨_, _, hr, ⟨hlen, .inr ⟨g, cap, _, rfl, Nat.zero_le _, setRow_heap w g cur _ e _ hg, hroom, hcm, ?_, ?_⟩⟩, ⟨rfl, rfl, rfl, by simp, fun k _ hk => setRow_other w g k _ (fun e => hk (by simp [Value.ownBlock, e]))⟩, fun k hk => .inl hk⟩
      · simp only [List.size_toArray, List.length_append, List.length_take, List.length_drop, Array.length_toList]
        omega
      · rw [htake, ← hlen]
        exact List.take_left
    · have holds : ∀ j u, xs[j]? = some u → w.cell? ((⟨g, 0, none⟩ : Addr).add j) = some u := hown.cells (g := g) rfl
      have hr := run_append_grow (P := P) w t ty e i z ht hi hz ⟨g, 0, none⟩ n cap xs hown.1 holds a m c news hl hnews (by omega) (by omega) (growslice_fits (by omega) hbytes)
      have hgr := grown cap (by omega) (Value.ownBlock (.slice (some ⟨g, 0, none⟩) n cap))
      exact ⟨_, _, hr, hgr.1, hgr.2, fun k hk => .inr (by simp [Value.ownBlock] at hk; omega)⟩
end
end SX
set_option linter.unusedVariables false
set_option linter.unusedSimpArgs false
namespace SX
open Go Go.RowKit
section
variable {P : Program}
theorem off_grown {w w' : World} {row : Option Nat} {S : Nat → Prop} (h : w.grownBy w' row) (hr : ∀ k, row = some k → S k) : Off S w w' :=
  ⟨h.os, h.tape, h.output, h.size, fun k hk hn => h.block k hk (fun e => hn (hr k e.symm))⟩
theorem Eff.row {E : Env} {S : Nat → Prop} {w w' : World} {b : Nat} {T : TypeId} {size n : Nat} {cells : List CA} {vs : List Value} {v : Value} {pre : List (Nat × Ent)} {gones : List (Nat × Slot)}
    (hl : ∀ k, S k → k < w.heap.size) (hS : ∀ c e k, (c, e) ∈ pre → e.at E c k → S k) (hnot : ∀ e, (b, e) ∉ pre) (hg : ∀ c s, (c, s) ∈ gones → s = .gone ∧ ∃ e, (c, e) ∈ pre)
    (ho : Off (fun k => ∃ c e, (c, e) ∈ pre ∧ e.at E c k) w w') (hown : w'.ownsRow 0 T size v n vs) (hcs : All2 (CA.has S w) cells vs)
    (hb : ∀ k, v.ownBlock = some k → (∃ c e, (c, e) ∈ pre ∧ e.at E c k) ∨ w.heap.size ≤ k) :
    Eff E S w pre ⟨.own b, gones ++ [(b, .ent (.row T size n cells))]⟩ v w' ⟨E.blk, upd E.sl b v, E.fp⟩ (fun k => S k ∨ v.ownBlock = some k) := by
  have hone : v.oneCell' = true := by
    rcases hown.2 with ⟨rfl, _⟩ | ⟨_, _, _, rfl, _⟩ <;> rfl
  have hSS : ∀ k, (S k ∨ v.ownBlock = some k) → S k ∨ w.heap.size ≤ k := fun k hk => hk.elim .inl fun hk => (hb k hk).imp (fun ⟨c, e, h1, h2⟩ => hS c e k h1 h2) id
  have hoS : Off S w w' := ho.mono fun k ⟨c, e, h1, h2⟩ => hS c e k h1 h2
  have hent : ∀ i e, (i, Slot.ent e) ∈ gones ++ [(b, Slot.ent (Ent.row T size n cells))] → i = b ∧ e = .row T size n cells := by
    intro i e hi
    rcases List.mem_append.1 hi with hi | hi
    · have := (hg _ _ hi).1; cases this
    · simp at hi; exact hi
  refine
    { env := fun i hi => ?_, fpe := fun _ _ => rfl, sub := fun k hk => .inl hk, new := hSS, lt := fun k hk => ?_, off := ho, res := ⟨by show v = upd E.sl b v b; rw [upd_same], hone⟩,
      ents := fun i e hi => ?_, blk := fun i e k hi hk => ?_, sep := fun i i' e e' k hne h1 h2 => ?_ }
  · by_cases e : i = b
    · subst e
      obtain ⟨e, he⟩ := hi ⟨_, by simp; exact .inr rfl⟩
      exact absurd he (hnot e)
    · exact ⟨rfl, upd_ne _ _ e⟩
  · rcases hk with hk | hk
    · exact Nat.lt_of_lt_of_le (hl k hk) ho.size
    · exact (hown.lt k hk).2
  · obtain ⟨rfl, rfl⟩ := hent i e hi
    refine ⟨vs, ?_, hcs.mono fun a u _ hau => hau.step hoS hSS⟩
    show w'.ownsRow 0 T size (upd E.sl i v i) n vs
    rw [upd_same]; exact hown
  · obtain ⟨rfl, rfl⟩ := hent i e hi
    have hk' : v.ownBlock = some k := by
      have : (upd E.sl i v i).ownBlock = some k := hk
      rwa [upd_same] at this
    exact ⟨.inr hk', hb k hk'⟩
  · exact absurd ((hent i e h1).1.trans (hent i' e' h2).1.symm) hne
end
section
variable {P : Program} {C : Ctx} {st : St}
variable {ops rest : List Oper} {acc : List (List Nat × List Nat)} {K : List (List Nat × List Nat) → St → Prop} {d : Tmp} {op : Op} {ty t : TypeId} {x y : Operand}
theorem OpOK.newRow {o : Oper} {d : Tmp} {T : TypeId} {size n : Nat} {cells : List CA} (hdst : o.dst = some d) (hd : dstOK (some d) C.nt = true) (hf : st.hp d = .free) (rd : List (Nat × Ent)) (hrd : ∀ b e, (b, e) ∈ rd → st.hp b = .ent e)
    (h : ∀ st' E S a w, (∀ x ∈ o.op.operands, st'.ev x = st.ev x) → SatE C st' E S a w → (∀ b e, (b, e) ∈ rd → st'.hp b = .ent e) →
      ∃ v w' vs, (execOp a.eval o).run P w = .ok (.value v) w' ∧ w'.ownsRow 0 T size v n vs ∧ Off none' w w' ∧ (∀ k, v.ownBlock = some k → w.heap.size ≤ k) ∧ All2 (CA.has S w) cells vs) :
    OpOK P C o st (d :: rd.map (·.1)) ⟨.own d, [(d, .ent (.row T size n cells))]⟩ := by
  refine OpOK.eff rd [] (fun b hb => ?_) (hdst ▸ dstOK_spec hd) hrd (fun b e hb => by cases hb) (fun b s hb => ?_) (fun b s hb => ?_) (fun st' E S a w hev hhp hs hrd' _ => ?_)
  · rcases hb with ⟨e, hb⟩ | ⟨e, hb⟩ | ⟨s, hb⟩
    · exact List.mem_cons_of_mem _ (List.mem_map.2 ⟨_, hb, rfl⟩)
    · cases hb
    · simp at hb; simp [hb.1]
  · simp at hb; rw [hb.1]; exact .inr hf
  · simp at hb; rw [hb.2]; rfl
  · obtain ⟨v, w', vs, hr, hown, ho, hb, hall⟩ := h st' E S a w hev hs hrd'
    refine ⟨⟨fun i hi => ?_, fun b e hb i hi => ?_⟩, fun K Q hK => ?_⟩
    · simp [AV.ids, AV0.ids, Atom.ids] at hi; subst hi; simp [updL, Slot.used]
    · simp at hb
      obtain ⟨rfl, rfl⟩ := hb
      cases hi
    · have hE := Eff.row (E := E) (S := S) (b := d) (pre := []) (gones := []) hs.lt (fun c e k h => by cases h) (fun e h => by cases h) (fun c s h => by cases h) (ho.mono fun k hk => hk.elim) hown hall (fun k hk => .inr (hb k hk))
      unfold Oper.wp
      rw [hr]
      exact hK _ _ _ _ hE
theorem elem_info {e : TypeId} {zs : List Value} {bytes size : Nat} (h : TElem P e zs bytes) (hs : (P.info? e).map (·.size) = some size) : ∃ i z, P.info? e = some i ∧ i.zero = some z ∧ z.cells = zs.toArray ∧ i.size = size ∧ i.bytes = bytes := by
  obtain ⟨i, hi, hn⟩ := Option.map_eq_some_iff.1 h.h
  obtain ⟨i', hi', hs'⟩ := Option.map_eq_some_iff.1 hs
  rw [hi] at hi'
  cases hi'
  simp only [Prod.mk.injEq] at hn
  obtain ⟨z, hz, hc⟩ := Option.map_eq_some_iff.1 hn.1
  exact ⟨i, z, hi, hz, hc, hs', hn.2⟩
theorem all2_replicate {S : Nat → Prop} {w : World} (z : Value) : ∀ n : Nat, All2 (CA.has S w) (List.replicate n (CA.val z)) (List.replicate n z)
  | 0 => trivial
  | n + 1 => ⟨rfl, all2_replicate z n⟩
theorem Go1.make {e : TypeId} {n bytes : Nat} {k k' : IntKind} {z : Value} [ht : TSlice P t e 1] [he : TElem P e [z] bytes] (hd : dstOK (some d) C.nt = true) (hx : st.ev x = some (.v (.int k (n : Int)))) (hy : st.ev y = some (.v (.int k' (n : Int)))) (hf : st.hp d = .free)
    (hb : n * bytes ≤ 140737488355328) (hm : n ≤ 9223372036854775807)
    (next : Reg P C ops rest (st.app (some d) ⟨.own d, [(d, .ent (.row e 1 n (List.replicate n (.val z))))]⟩) (([d], [d]) :: acc) K) : Go1 P C ops (some d) (.makeSlice t x y) ty rest st acc K :=
  ⟨[d], ⟨.own d, [(d, .ent (.row e 1 n (List.replicate n (.val z))))]⟩, fun o h2 h3 h4 => OpOK.newRow h2 hd hf [] (fun b e hb => by cases hb) (fun st' E S a w hev hs _ => by
    have hxv : a.eval x = .int k (n : Int) := (hs.ev ((hev x (by simp [h3, Op.operands])).trans hx)).1
    have hyv : a.eval y = .int k' (n : Int) := (hs.ev ((hev y (by simp [h3, Op.operands])).trans hy)).1
    obtain ⟨i, z', hi, hz, hc, hsz, hby⟩ := elem_info he ht.s
    obtain ⟨w', hrun, hown, hgr⟩ := run_make_full (P := P) w 0 t e i z' 1 ht.h hi hz hsz k k' n (by rw [hby, Nat.mul_comm]; omega) (by simp [maxLen]; omega) (Nat.zero_le _)
    refine ⟨.slice (some ⟨w.heap.size, 0, none⟩) n n, w', List.replicate n z, ?_, ?_, off_grown hgr (fun k hk => by cases hk), fun k hk => by simp [Value.ownBlock] at hk; omega, all2_replicate z n⟩
    · unfold execOp; rw [h3]; simp [hxv, hyv, hrun]
    · have hl : (madeCells z'.cells (n * 1)).toList = List.replicate n z := by rw [hc]; show (madeCells #[z] (n * 1)).toList = _; rw [toList_madeCells_one, Nat.mul_one]
      rw [← hl]; exact hown), next⟩
theorem fill_congr {p p' : Nat → Option (Nat × Nat)} : ∀ (l : List (Nat × Value)) (cs : Array Value), (∀ q ∈ l, p q.1 = p' q.1) → Instr.fill p cs l = Instr.fill p' cs l
  | [], _, _ => rfl
  | (i, v) :: l, cs, h => by
    unfold Instr.fill
    rw [h (i, v) (by simp)]
    cases hp : p' i with
    | none => rfl
    | some q =>
      obtain ⟨off, size⟩ := q
      simp only []
      split
      · rfl
      · exact fill_congr l _ (fun q hq => h q (by simp [hq]))
def placesOf (n size : Nat) : List (Nat × Nat) := (List.range n).map fun i => (i * size, size)
theorem run_parts {o : Oper} {st' : St} {E : Env} {S : Nat → Prop} {a : Act} {w : World} {e : TypeId} {n size bytes : Nat} {zs : List Value} {parts : Array (Nat × Operand)} {ps : List (Nat × AV0)} {l : List Atom} {m : List CA} [ht : TSlice P t e size] [he : TElem P e zs bytes]
    (hs : SatE C st' E S a w) (h3 : o.op = .buildSlice t n parts) (hp' : evp st' parts.toList = some ps) (h1 : (ps.all fun p => p.2.cells.all Atom.oneB && Nat.blt p.1 n) = true) (hn : Nat.ble (n * size) 16777216 = true)
    (hfl : fillA (placesOf n size) ((madeCells zs.toArray (n * size)).toList.map fun v => Atom.c (.val v)) ps = some l) (hc : closedL l = some m) (hm : Nat.beq m.length (n * size) = true) :
    ∃ us : List Value, (execOp a.eval o).run P w = .ok (.value (.slice (some ⟨w.heap.size, 0, none⟩) n n)) (w.alloc (.cells us.toArray e)) ∧ us.length = n * size ∧ All2 (CA.has S w) m us ∧ n ≤ maxLen := by
    obtain ⟨hall, hids⟩ := evp_has hs hp'
    obtain ⟨i, z, hi, hz, hcz, hsz, hby⟩ := elem_info he ht.s
    rw [List.all_eq_true] at h1
    rw [Nat.ble_eq] at hn
    obtain ⟨us, hfill, hus⟩ := fill_has (w := w) (cs := (madeCells zs.toArray (n * size)).toList) hall (fun p hp => by have := h1 p hp; simp only [Bool.and_eq_true] at this; exact this.1) (all2_vals _) hfl
    have hlen : us.length = n * size := by
      have h6 := hus.length
      rw [closedL_spec hc] at h6
      simp at h6
      have := Nat.eq_of_beq_eq_true hm
      omega
    have hqi : ∀ q ∈ parts.toList.map (fun x => (x.1, a.eval x.2)), (fun i => (placesOf n size)[i]?) q.1 = (fun i => some (i * size, size)) q.1 := by
      intro q hq
      obtain ⟨j, hj⟩ := List.mem_iff_getElem?.1 hq
      obtain ⟨p, hpj, hpq, _⟩ := hall.get' hj
      have := h1 p (List.mem_of_getElem? hpj)
      simp only [Bool.and_eq_true, Nat.blt_eq] at this
      have hlt : q.1 < n := by rw [← hpq]; exact this.2
      simp [placesOf, hlt]
    rw [fill_congr (p := fun i => (placesOf n size)[i]?) (p' := fun i => some (i * size, size)) _ _ hqi] at hfill
    refine ⟨us, ?_, hlen, all2_closed (by rw [← closedL_spec hc]; exact hus), ?_⟩
    · unfold execOp; rw [h3]
      have hparts : (parts.map fun x => (x.1, a.eval x.2)).toList = parts.toList.map fun x => (x.1, a.eval x.2) := by simp
      have hgt : ¬ n * size > 2 ^ 24 := by omega
      simp only [Instr.buildSlice, Sem.run_bind, run_underlying ht.h, Result.andThen_ok, run_sizeOf ht.s, hparts]
      rw [if_neg hgt]
      by_cases h0 : n * size = 0
      · have he0 : (madeCells zs.toArray (n * size)).toList.toArray = (Array.range (n * size)).map ((#[] : Array Value)[· % (#[] : Array Value).size]!) := by rw [h0]; simp [madeCells]
        rw [he0] at hfill
        rw [if_pos h0]
        simp only [Sem.run_bind, Sem.run_pure, Result.andThen_ok]
        rw [hfill]
        simp [newRow]
      · have he0 : (madeCells zs.toArray (n * size)).toList.toArray = (Array.range (n * size)).map (zs.toArray[· % zs.toArray.size]!) := by rw [Array.toArray_toList]; rfl
        rw [he0] at hfill
        rw [if_neg h0]
        simp only [Sem.run_bind, Sem.run_pure, Result.andThen_ok, zeroValue, typeInfo, run_program, hi, hz, hcz]
        rw [hfill]
        simp [newRow]
    · by_cases h0 : n = 0
      · subst h0; simp [maxLen]
      · have := ht.p
        have h7 : n * 1 ≤ n * size := Nat.mul_le_mul_left _ this
        simp only [maxLen]; omega
theorem Go1.buildSlice {e : TypeId} {n size bytes : Nat} {zs : List Value} {parts : Array (Nat × Operand)} {ps : List (Nat × AV0)} {l : List Atom} {m : List CA} [ht : TSlice P t e size] [he : TElem P e zs bytes] (hd : dstOK (some d) C.nt = true) (hf : st.hp d = .free)
    (hp : evp st parts.toList = some ps) (h1 : (ps.all fun p => p.2.cells.all Atom.oneB && Nat.blt p.1 n) = true) (hn : Nat.ble (n * size) 16777216 = true)
    (hfl : fillA (placesOf n size) ((madeCells zs.toArray (n * size)).toList.map fun v => Atom.c (.val v)) ps = some l) (hc : closedL l = some m) (hm : Nat.beq m.length (n * size) = true)
    (next : Reg P C ops rest (st.app (some d) ⟨.own d, [(d, .ent (.row e size n m))]⟩) (([d], [d]) :: acc) K) : Go1 P C ops (some d) (.buildSlice t n parts) ty rest st acc K :=
  ⟨[d], ⟨.own d, [(d, .ent (.row e size n m))]⟩, fun o h2 h3 h4 => OpOK.newRow h2 hd hf [] (fun b e hb => by cases hb) (fun st' E S a w hev hs _ => by
    have hp' : evp st' parts.toList = some ps := by
      rw [evp_congr (fun x hx => hev x.2 (by rw [h3]; simp [Op.operands]; exact ⟨x.1, by simpa using hx⟩))]; exact hp
    obtain ⟨us, hrun, hlen, hall, hmx⟩ := run_parts (ht := ht) (he := he) hs h3 hp' h1 hn hfl hc hm
    exact ⟨_, _, us, hrun, ⟨hlen, .inr ⟨w.heap.size, n, us.toArray, rfl, Nat.zero_le _, heap_alloc_new w _, Nat.le_refl _, hmx, by simp [hlen], by simp [List.take_of_length_le (Nat.le_of_eq hlen)]⟩⟩, Off.alloc _ _ _, fun k hk => by simp [Value.ownBlock] at hk; omega, hall⟩), next⟩
theorem Go1.buildSliceF {dst : Option Tmp} {e : TypeId} {n size bytes : Nat} {zs : List Value} {parts : Array (Nat × Operand)} {ps : List (Nat × AV0)} {l : List Atom} {m : List CA} [ht : TSlice P t e size] [he : TElem P e zs bytes] (hd : dstOK dst C.nt = true)
    (hp : evp st parts.toList = some ps) (h1 : (ps.all fun p => p.2.cells.all Atom.oneB && Nat.blt p.1 n) = true) (hn : Nat.ble (n * size) 16777216 = true)
    (hfl : fillA (placesOf n size) ((madeCells zs.toArray (n * size)).toList.map fun v => Atom.c (.val v)) ps = some l) (hc : closedL l = some m) (hm : Nat.beq m.length (n * size) = true)
    (next : Reg P C ops rest (st.app dst ⟨.r (sliceR size n m), []⟩) (([], []) :: acc) K) : Go1 P C ops dst (.buildSlice t n parts) ty rest st acc K := by
  refine ⟨[], ⟨.r (sliceR size n m), []⟩, fun o h2 h3 h4 => OpOK.eff [] [] (fun b hb => ?_) (h2 ▸ dstOK_spec hd) (fun b e hb => by cases hb) (fun b e hb => by cases hb) (fun b s hb => by cases hb) (fun b s hb => by cases hb) (fun st' E S a w hev hhp hs _ _ => ?_), next⟩
  · rcases hb with ⟨e, hb⟩ | ⟨e, hb⟩ | ⟨s, hb⟩ <;> cases hb
  · have hp' : evp st' parts.toList = some ps := by
      rw [evp_congr (fun x hx => hev x.2 (by rw [h3]; simp [Op.operands]; exact ⟨x.1, by simpa using hx⟩))]; exact hp
    obtain ⟨us, hrun, hlen, hall, hmx⟩ := run_parts (ht := ht) (he := he) hs h3 hp' h1 hn hfl hc hm
    refine ⟨⟨fun i hi => (by cases hi), fun b e hb => by cases hb⟩, fun K Q hK => ?_⟩
    unfold Oper.wp
    rw [hrun]
    refine hK _ _ E S { env := fun _ _ => ⟨rfl, rfl⟩, fpe := fun _ _ => rfl, sub := fun _ h => h, new := fun _ h => .inl h, lt := fun k hk => Nat.lt_of_lt_of_le (hs.lt k hk) (by simp), off := Off.alloc _ _ _, res := ?_, ents := fun _ _ h => (by cases h), blk := fun _ _ _ h => (by cases h), sep := fun _ _ _ _ _ _ h => (by cases h) }
    refine sliceR_iff.2 ⟨_, _, rfl, Nat.le_refl _, hmx, (fun h => by cases h), (by rw [hall.length, hlen]), fun i c hc => ?_⟩
    obtain ⟨u, hu, huc⟩ := hall.get hc
    refine ⟨w.heap.size, 0, u, rfl, fun hS => absurd (hs.lt _ hS) (Nat.lt_irrefl _), ?_, huc.step (Off.alloc _ _ _) (fun k hk => .inl hk)⟩
    have hcell := cells_of_block (heap_alloc_new w (.cells us.toArray e)) 0 i u (by simpa using hu)
    simpa [Addr.add_lit] using hcell
end
end SX
set_option linter.unusedVariables false
set_option linter.unusedSimpArgs false
namespace SX
open Go Go.RowKit
section
variable {P : Program} {C : Ctx} {st : St}
variable {ops rest : List Oper} {acc : List (List Nat × List Nat)} {K : List (List Nat × List Nat) → St → Prop} {dst : Option Tmp} {op : Op} {ty : TypeId}
variable {x y : Operand} {t t' : TypeId} {k k' : IntKind} {m n : Int}
end
def lk {α : Type} : List (Nat × α) → Nat → Option α
  | [], _ => none
  | (j, v) :: l, k => match Nat.beq j k with | true => some v | false => lk l k
theorem lk_mem {α : Type} : ∀ {l : List (Nat × α)} {k : Nat} {v : α}, lk l k = some v → (k, v) ∈ l
  | [], _, _, h => by cases h
  | (j, u) :: l, k, v, h => by
    unfold lk at h
    cases hj : Nat.beq j k with
    | true => simp only [hj] at h; have : j = k := by simpa using hj
              subst this; cases h; exact List.mem_cons_self
    | false => simp only [hj] at h; exact List.mem_cons_of_mem _ (lk_mem h)
theorem lk_keys {α : Type} : ∀ {l : List (Nat × α)} {k : Nat}, (lk l k).isSome = true → k ∈ l.map (·.1)
  | [], _, h => by cases h
  | (j, u) :: l, k, h => by
    unfold lk at h
    cases hj : Nat.beq j k with
    | true => have : j = k := by simpa using hj
              subst this; exact List.mem_cons_self
    | false => simp only [hj] at h; exact List.mem_cons_of_mem _ (lk_keys h)
theorem fixIs {α β γ : Type} {pre : List (Nat × α)} {ρ : List (Nat × β)} {m : List (Nat × γ)} {b : Nat} (h : (lk pre b).isSome = true) (hall : ((pre.map (·.1)).all fun b => (lk ρ b).isNone && (lk m b).isSome) = true := by rfl) : lk ρ b = none ∧ (lk m b).isSome = true := by
  have := List.all_eq_true.1 hall b (lk_keys h)
  simp only [Bool.and_eq_true, Option.isNone_iff_eq_none] at this
  exact this
def mkSt (l : List (Nat × AV)) (m : List (Nat × Ent)) : St := ⟨fun t => lk l t, fun b => match lk m b with | some e => .ent e | none => .free⟩
def reEnv (ρ : List (Nat × Option Nat)) (E : Env) : Env :=
  ⟨fun b => match lk ρ b with | some (some o) => E.blk o | some none => 0 | none => E.blk b, fun b => match lk ρ b with | some (some o) => E.sl o | some none => .slice none 0 0 | none => E.sl b, fun b => match lk ρ b with | some (some o) => E.fp o | some none => fun _ => False | none => E.fp b⟩
def AVto (ρ : List (Nat × Option Nat)) (x y : AV) : Prop := ∀ E S w v, x.has E S w v → y.has (reEnv ρ E) S w v
theorem Atom.has.env {a : Atom} {E E' : Env} {S : Nat → Prop} {w : World} {v : Value} (h : a.has E S w v) (he : ∀ b ∈ a.ids, E.at' E' b) : a.has E' S w v := h.step he (Off.refl S w) (fun k hk => .inl hk)
theorem AV.has.env {a : AV} {E E' : Env} {S : Nat → Prop} {w : World} {v : Value} (h : a.has E S w v) (he : ∀ b ∈ a.ids, E.at' E' b) : a.has E' S w v := h.step he (Off.refl S w) (fun k hk => .inl hk)
def fresh (ρ : List (Nat × Option Nat)) (l : List Nat) : Bool := l.all fun b => (lk ρ b).isNone
theorem fresh_at {ρ : List (Nat × Option Nat)} {l : List Nat} (h : fresh ρ l = true) (E : Env) : ∀ b ∈ l, E.at' (reEnv ρ E) b := by
  intro b hb
  have := List.all_eq_true.1 h b hb
  have h2 : lk ρ b = none := by simpa using this
  exact ⟨by simp only [reEnv, h2], by simp only [reEnv, h2]⟩
theorem fresh_fp {ρ : List (Nat × Option Nat)} {l : List Nat} (h : fresh ρ l = true) (E : Env) : ∀ b ∈ l, (reEnv ρ E).fp b = E.fp b := by
  intro b hb
  have := List.all_eq_true.1 h b hb
  have h2 : lk ρ b = none := by simpa using this
  simp only [reEnv, h2]
theorem AVto.same {ρ : List (Nat × Option Nat)} {x : AV} (h : fresh ρ x.ids = true) : AVto ρ x x := fun E S w v hv => hv.env (fresh_at h E)
theorem AVto.eq {ρ : List (Nat × Option Nat)} {x y : AV} (e : x = y) (h : fresh ρ x.ids = true) : AVto ρ x y := e ▸ AVto.same h
theorem AVto.own {ρ : List (Nat × Option Nat)} {o b : Nat} (h : lk ρ b = some (some o)) : AVto ρ (.own o) (.own b) := fun E S w v hv => by
  obtain ⟨h1, h2⟩ := hv
  exact ⟨by simp only [reEnv, h]; exact h1, h2⟩
theorem AVto.nil {ρ : List (Nat × Option Nat)} {b : Nat} (h : lk ρ b = some none) : AVto ρ (.v (.slice none 0 0)) (.own b) := fun E S w v hv => by
  have hv' : v = .slice none 0 0 := hv
  subst hv'
  exact ⟨by simp only [reEnv, h], rfl⟩
inductive EntTo (st : St) (ρ : List (Nat × Option Nat)) (b : Nat) (e : Ent) : Prop where
  | old (o : Nat) (e0 : Ent) (ho : st.hp o = .ent e0) (hb : lk ρ b = some (some o) ∨ (lk ρ b = none ∧ o = b)) (hh : ∀ E S w, e0.has E S w o → e.has (reEnv ρ E) S w b) (hk : ∀ E, e.at (reEnv ρ E) b = e0.at E o)
  | nil (hb : lk ρ b = some none) (hh : ∀ E S w, e.has (reEnv ρ E) S w b) (hk : ∀ E k, ¬ e.at (reEnv ρ E) b k)
theorem EntTo.same {st : St} {ρ : List (Nat × Option Nat)} {b : Nat} {e : Ent} (h : st.hp b = .ent e) (hf : fresh ρ (b :: e.ids) = true) : EntTo st ρ b e := by
  have ha := fresh_at hf
  refine .old b e h (.inr ⟨?_, rfl⟩) (fun E S w hh => hh.step (fun i hi => ha E i (List.mem_cons_of_mem _ hi)) (ha E b List.mem_cons_self) (Off.refl S w) (fun k hk => .inl hk) (fun _ _ => rfl) (fresh_fp hf E b List.mem_cons_self)) (fun E => Ent.at_congr (ha E b List.mem_cons_self) (fresh_fp hf E b List.mem_cons_self))
  have := List.all_eq_true.1 hf b List.mem_cons_self
  simpa using this
theorem EntTo.eq {st : St} {ρ : List (Nat × Option Nat)} {b : Nat} {e0 e : Ent} (h : st.hp b = .ent e0) (he : e0 = e) (hf : fresh ρ (b :: e0.ids) = true) : EntTo st ρ b e := he ▸ EntTo.same h hf
theorem EntTo.row {st : St} {ρ : List (Nat × Option Nat)} {o b : Nat} {t : TypeId} {size n n' : Nat} {cells cells' : List CA} (h : st.hp o = .ent (.row t size n cells)) (hb : lk ρ b = some (some o)) (hn : n = n') (hc : cells = cells') : EntTo st ρ b (.row t size n' cells') := by
  subst hn; subst hc
  refine .old o _ h (.inl hb) (fun E S w hh => ?_) (fun E => ?_)
  · obtain ⟨vs, h1, h2⟩ := hh
    exact ⟨vs, by simp only [reEnv, hb]; exact h1, h2⟩
  · funext k; simp only [Ent.at, reEnv, hb]
theorem EntTo.abs {st : St} {ρ : List (Nat × Option Nat)} {o b : Nat} {A A' : AEnt} (h : st.hp o = .ent (.abs A)) (hb : lk ρ b = some (some o)) (hA : A = A') : EntTo st ρ b (.abs A') := by
  subst hA
  refine .old o _ h (.inl hb) (fun E S w hh => ?_) (fun E => ?_)
  · show A.has ((reEnv ρ E).blk b) ((reEnv ρ E).sl b) ((reEnv ρ E).fp b) S w
    simp only [reEnv, hb]; exact hh
  · funext k; simp only [Ent.at, reEnv, hb]
theorem EntTo.nilRow {st : St} {ρ : List (Nat × Option Nat)} {b : Nat} {t : TypeId} {size : Nat} (hb : lk ρ b = some none) : EntTo st ρ b (.row t size 0 []) := by
  refine .nil hb (fun E S w => ⟨[], ?_, trivial⟩) (fun E k => ?_)
  · simp only [reEnv, hb]; exact World.ownsRow_nil ..
  · simp only [Ent.at, reEnv, hb]; intro h; cases h
def TmTo (st : St) (ρ : List (Nat × Option Nat)) : List (Nat × AV) → Prop
  | [] => True
  | (t, v) :: l => (∃ u, st.tm t = some u ∧ AVto ρ u v) ∧ TmTo st ρ l
def HpTo (st : St) (ρ : List (Nat × Option Nat)) : List (Nat × Ent) → Prop
  | [] => True
  | (b, e) :: l => EntTo st ρ b e ∧ HpTo st ρ l
theorem TmTo.mem {st : St} {ρ : List (Nat × Option Nat)} : ∀ {l : List (Nat × AV)}, TmTo st ρ l → ∀ t v, (t, v) ∈ l → ∃ u, st.tm t = some u ∧ AVto ρ u v
  | [], _, _, _, hm => by cases hm
  | _ :: _, ⟨h1, h2⟩, t, v, hm => by
    rcases List.mem_cons.1 hm with e | hm
    · cases e; exact h1
    · exact h2.mem t v hm
theorem HpTo.mem {st : St} {ρ : List (Nat × Option Nat)} : ∀ {l : List (Nat × Ent)}, HpTo st ρ l → ∀ t v, (t, v) ∈ l → EntTo st ρ t v
  | [], _, _, _, hm => by cases hm
  | _ :: _, ⟨h1, h2⟩, t, v, hm => by
    rcases List.mem_cons.1 hm with e | hm
    · cases e; exact h1
    · exact h2.mem t v hm
def src (ρ : List (Nat × Option Nat)) (b : Nat) : Option Nat := match lk ρ b with | some r => r | none => some b
def eqO : Option Nat → Option Nat → Bool
  | some a, some b => Nat.beq a b
  | _, _ => false
def tidy (ρ : List (Nat × Option Nat)) (l : List (Nat × AV)) (m : List (Nat × Ent)) : Bool :=
  ((l.all fun p => p.2.ids.all fun b => (lk m b).isSome) && (m.all fun p => p.2.ids.all fun b => (lk m b).isSome)) &&
  (m.all fun p => m.all fun q => Nat.beq p.1 q.1 || !(eqO (src ρ p.1) (src ρ q.1)))
theorem used_of {m : List (Nat × Ent)} {l : List (Nat × AV)} {b : Nat} (h : (lk m b).isSome = true) : ((mkSt l m).hp b).used = true := by
  obtain ⟨e, he⟩ := Option.isSome_iff_exists.1 h
  simp [mkSt, he, Slot.used]
theorem hp_mem {m : List (Nat × Ent)} {l : List (Nat × AV)} {b : Nat} {e : Ent} (h : (mkSt l m).hp b = .ent e) : (b, e) ∈ m := by
  simp only [mkSt] at h
  cases hl : lk m b with
  | none => simp [hl] at h
  | some e' => simp only [hl] at h; cases h; exact lk_mem hl
theorem EntTo.src {st : St} {ρ : List (Nat × Option Nat)} {b : Nat} {e : Ent} (h : EntTo st ρ b e) : (∃ o e0, SX.src ρ b = some o ∧ st.hp o = .ent e0 ∧ (∀ E, e.at (reEnv ρ E) b = e0.at E o)) ∨ ∀ E k, ¬ e.at (reEnv ρ E) b k := by
  cases h with
  | old o e0 ho hb hh hk =>
    refine .inl ⟨o, e0, ?_, ho, hk⟩
    rcases hb with hb | ⟨hb, rfl⟩ <;> simp [SX.src, hb]
  | nil hb hh hk => exact .inr hk
theorem St.le_to {C : Ctx} {st : St} {l : List (Nat × AV)} {m : List (Nat × Ent)} (ρ : List (Nat × Option Nat)) (hfix : ∀ b, C.fix b = true → lk ρ b = none ∧ (lk m b).isSome = true) (ht : TmTo st ρ l) (hm : HpTo st ρ m) (hti : tidy ρ l m = true) : St.le C st (mkSt l m) := by
  intro a w ⟨E, S, hs⟩
  unfold tidy at hti
  rw [Bool.and_eq_true, Bool.and_eq_true] at hti
  obtain ⟨⟨h1, h2⟩, h3⟩ := hti
  refine ⟨reEnv ρ E, S, { dfr := hs.dfr, nt := hs.nt, cT := hs.cT, cT0 := hs.cT0, cS := hs.cS, lt := hs.lt, tm := fun t v hv => ?_, tid := fun t v hv b hb => ?_, hp := fun b e hb => ?_, hid := fun b e hb i hi => ?_, blk := fun b e k hb hk => ?_, sep := fun b b' e e' k hne hb hb' hk hk' => ?_, off := hs.off, env := fun b hb => ?_, gl := hs.gl }⟩
  · obtain ⟨u, hu, hto⟩ := ht.mem t v (lk_mem hv)
    exact hto _ _ _ _ (hs.tm t u hu)
  · exact used_of (List.all_eq_true.1 (List.all_eq_true.1 h1 _ (lk_mem hv)) b hb)
  · cases hm.mem b e (hp_mem hb) with
    | old o e0 ho _ hh hk => exact hh _ _ _ (hs.hp o e0 ho)
    | nil _ hh _ => exact hh _ _ _
  · exact used_of (List.all_eq_true.1 (List.all_eq_true.1 h2 _ (hp_mem hb)) i hi)
  · rcases (hm.mem b e (hp_mem hb)).src with ⟨o, e0, _, ho, hk0⟩ | hk0
    · rw [hk0] at hk; exact hs.blk o e0 k ho hk
    · exact absurd hk (hk0 E k)
  · rcases (hm.mem b e (hp_mem hb)).src with ⟨o, e0, so, ho, hk0⟩ | hk0
    · rcases (hm.mem b' e' (hp_mem hb')).src with ⟨o', e0', so', ho', hk0'⟩ | hk0'
      · rw [hk0] at hk; rw [hk0'] at hk'
        have := List.all_eq_true.1 (List.all_eq_true.1 h3 _ (hp_mem hb)) _ (hp_mem hb')
        rw [so, so'] at this
        have hno : o ≠ o' := by
          intro e
          subst e
          simp [eqO, hne] at this
        exact hs.sep o o' e0 e0' k hno ho ho' hk hk'
      · exact absurd hk' (hk0' E k)
    · exact absurd hk (hk0 E k)
  · obtain ⟨h4, h5⟩ := hfix b hb
    obtain ⟨g1, g2, _⟩ := hs.env b hb
    exact ⟨by simp only [reEnv, h4]; exact g1, by simp only [reEnv, h4]; exact g2, used_of h5⟩
theorem WP.meet {P : Program} {C : Ctx} {st : St} {Q : Exit → St → Prop} {x y : Code} (I : St) (h : WP P C x st (thenK (fun s => St.le C s I) Q)) (k : WP P C y I Q) : WP P C (.seq x y) st Q :=
  WP.seq (WP.mono h fun e s hq => by
    cases e with
    | normal => exact k.weaken hq
    | _ => exact hq)
end SX
set_option linter.unusedVariables false
set_option linter.unusedSimpArgs false
namespace SX
open Go Go.RowKit
section
variable {P : Program}
theorem all2_app {S : Nat → Prop} {w : World} {l l' : List CA} {m m' : List Value} (h : All2 (CA.has S w) l m) (h' : All2 (CA.has S w) l' m') : All2 (CA.has S w) (l ++ l') (m ++ m') := h.append h'
theorem run_append_any (w : World) (t ty e : TypeId) (zs : List Value) (size bytes : Nat) (ht : P.underlying t = some (.slice e)) (he : TElem P e zs bytes) (hs : (P.info? e).map (·.size) = some size) (hzs : zs.length = size)
    (v : Value) (n : Nat) (xs : List Value) (hown : w.ownsRow 0 e size v n xs) {S : Nat → Prop} {u : Value} {m : Nat} {cells2 : List CA} (hu : (sliceR size m cells2).has S w u) (h1 : cells2.all CA.oneB = true)
    (h63 : n + m ≤ maxLen) (hbytes : (n + m) * bytes ≤ 140737488355328) :
    ∃ v' w' news, (Builtin.append_ #[t, t] ty #[v, u]).run P w = .ok v' w' ∧ w'.ownsRow 0 e size v' (n + m) (xs ++ news) ∧ w.grownBy w' v.ownBlock ∧ (∀ k, v'.ownBlock = some k → v.ownBlock = some k ∨ w.heap.size ≤ k) ∧ All2 (CA.has S w) cells2 news := by
  obtain ⟨i, z, hi, hz, hc, hsz, hby⟩ := elem_info he hs
  obtain ⟨oa, cap, rfl, hn, _, hnone, hlen, hall⟩ := sliceR_iff.1 hu
  have hz2 : z.cells.size = size := by rw [hc]; simpa using hzs
  cases oa with
  | none =>
    have h0 := hnone rfl
    subst h0
    have hm : m = 0 := by omega
    subst hm
    have hnil : cells2 = [] := List.eq_nil_of_length_eq_zero (by simpa using hlen)
    subst hnil
    have hrun := run_append_owned_none (P := P) (w := w) 0 t ty e i size ht hi v n xs hown
    exact ⟨v, w, [], hrun, by simpa using hown, ⟨rfl, rfl, rfl, Nat.le_refl _, fun _ _ _ => rfl⟩, fun k hk => .inl hk, trivial⟩
  | some a =>
    obtain ⟨news, hnews, hcell⟩ : ∃ us : List Value, All2 (CA.has S w) cells2 us ∧ ∀ j u, us[j]? = some u → w.cell? (a.add j) = some u := by
      by_cases h0 : cells2 = []
      · subst h0; exact ⟨[], trivial, by simp⟩
      · obtain ⟨c, hc0⟩ : ∃ c, cells2[0]? = some c := ⟨cells2[0]'(List.length_pos_iff.2 h0), by simp⟩
        obtain ⟨b, o, _, e1, hSb, _⟩ := hall 0 c hc0
        cases e1
        obtain ⟨us, h2, h3⟩ := ptr_vals (E := ⟨fun _ => 0, fun _ => undef, fun _ _ => False⟩) (S := S) (w := w) (b := b) cells2 o (fun i c hc => by
          obtain ⟨b', o', u, e1, e2, e3, e4⟩ := hall i c hc
          cases e1
          exact ⟨u, e2, e3, e4⟩)
        exact ⟨us, all2_closed h2, h3⟩
    have hl : news.length = m * size := by rw [← hnews.length, hlen]
    obtain ⟨v', w', h2, h3, h4, h5⟩ := run_append_row (P := P) w t ty e i z size bytes ht hi hz hsz hby hz2 v n xs hown a m cap news hl hcell (ca_one hnews h1) h63 hbytes
    exact ⟨v', w', news, h2, h3, h4, h5, hnews⟩
end
section
variable {P : Program} {C : Ctx} {st : St}
variable {ops rest : List Oper} {acc : List (List Nat × List Nat)} {K : List (List Nat × List Nat) → St → Prop} {d : Tmp} {dst : Option Tmp} {op : Op} {ty t : TypeId} {x y : Operand}
class TWide (P : Program) (e : TypeId) (size : Nat) : Prop where
  h : ∃ zs bytes, TElem P e zs bytes ∧ zs.length = size
theorem Go1.append {e : TypeId} {b n m bytes size : Nat} {zs : List Value} {r : Rep} {cells cells2 : List CA} [ht : TSlice P t e size] [he : TElem P e zs bytes] [hr : AsSlice r size m cells2] (hd : dstOK (some d) C.nt = true) (hx : st.ev x = some (.own b)) (hy : st.ev y = some (.r r))
    (hb : st.hp b = .ent (.row e size n cells)) (hf : st.hp d = .free) (hz : Nat.beq zs.length size = true) (h1 : cells2.all CA.oneB = true) (h63 : n + m ≤ 9223372036854775807) (hbytes : (n + m) * bytes ≤ 140737488355328)
    (next : Reg P C ops rest (st.app (some d) ⟨.own d, [(b, .gone), (d, .ent (.row e size (n + m) (cells ++ cells2)))]⟩) (([b, d], [b, d]) :: acc) K) : Go1 P C ops (some d) (.call ⟨.builtin .append, #[x, y], #[t, t]⟩) ty rest st acc K := by
  have hbd : d ≠ b := by rintro rfl; rw [hf] at hb; cases hb
  refine ⟨[b, d], _, fun o h2 h3 h4 => OpOK.eff [] [(b, .row e size n cells)] (fun c hc => ?_) (h2 ▸ dstOK_spec hd) (fun c e hc => by cases hc) (fun c e hc => ?_) (fun c s hc => ?_) (fun c s hc => ?_) (fun st' E S a w hev hhp hs _ hpre => ?_), next⟩
  · rcases hc with ⟨e, hc⟩ | ⟨e, hc⟩ | ⟨s, hc⟩
    · cases hc
    · simp at hc; simp [hc.1]
    · simp at hc; rcases hc with hc | hc <;> simp [hc.1]
  · simp at hc; obtain ⟨rfl, rfl⟩ := hc; exact ⟨hb, _, List.mem_cons_self⟩
  · simp at hc; rcases hc with ⟨rfl, rfl⟩ | ⟨rfl, rfl⟩
    · exact .inl ⟨_, List.mem_cons_self⟩
    · exact .inr hf
  · simp at hc; rcases hc with ⟨rfl, rfl⟩ | ⟨rfl, rfl⟩ <;> rfl
  · obtain ⟨⟨hxv, _⟩, _⟩ := hs.ev ((hev x (by simp [h3, Op.operands, Call.operands])).trans hx)
    obtain ⟨hyv, _⟩ := hs.ev ((hev y (by simp [h3, Op.operands, Call.operands])).trans hy)
    have hbe := hpre b _ List.mem_cons_self
    obtain ⟨vs, hown, hvs⟩ := hs.hp b _ hbe
    obtain ⟨v', w', news, h5, h6, h7, h8, h9⟩ := run_append_any (P := P) w t o.type e zs size bytes ht.h he ht.s (Nat.eq_of_beq_eq_true hz) (E.sl b) n vs hown (hr.h _ _ _ hyv) h1 (by simp only [maxLen]; omega) hbytes
    refine ⟨⟨fun i hi => ?_, fun c e hc i hi => ?_⟩, fun K Q hK => ?_⟩
    · simp [AV.ids, AV0.ids, Atom.ids] at hi; subst hi; simp [updL, Slot.used]
    · simp at hc
      obtain ⟨rfl, rfl⟩ := hc
      cases hi
    · have hE := Eff.row (E := E) (S := S) (b := d) (pre := [(b, .row e size n cells)]) (gones := [(b, .gone)]) hs.lt
        (fun c e' k hc hk => by simp at hc; obtain ⟨rfl, rfl⟩ := hc; exact (hs.blk _ _ k hbe hk).1)
        (fun e' hc => by simp at hc; exact hbd hc.1)
        (fun c s hc => by simp at hc; obtain ⟨rfl, rfl⟩ := hc; exact ⟨rfl, _, List.mem_cons_self⟩)
        (off_grown h7 (fun k hk => ⟨b, _, List.mem_cons_self, hk⟩)) h6 (all2_app hvs h9)
        (fun k hk => (h8 k hk).imp (fun h => ⟨b, _, List.mem_cons_self, h⟩) id)
      unfold Oper.wp
      have hrun : (execOp a.eval o).run P w = .ok (.value v') w' := by
        unfold execOp; rw [h3]
        simp [resolve, invoke, builtin, hxv, h5]
      rw [hrun]
      exact hK _ _ _ _ hE
theorem Go1.lenO {e : TypeId} {b n size sz : Nat} {cells : List CA} [ht : TSlice P t e sz] (hd : dstOK dst C.nt = true) (hx : st.ev x = some (.own b)) (hb : st.hp b = .ent (.row e size n cells))
    (next : Reg P C ops rest (st.app dst ⟨.v (.int .i64 (n : Int)), []⟩) (([b], []) :: acc) K) : Go1 P C ops dst (.call ⟨.builtin .len, #[x], #[t]⟩) ty rest st acc K :=
  Go1.pureV [(b, .row e size n cells)] [b] (fun c e' hc => by simp at hc; simp [hc.1]) hd (fun c e' hc => by simp at hc; obtain ⟨rfl, rfl⟩ := hc; exact hb) (fun o ho _ st' E S a w hev hs hrd => by
    obtain ⟨⟨hxv, _⟩, _⟩ := hs.ev ((hev x (by simp [ho, Op.operands, Call.operands])).trans hx)
    obtain ⟨vs, hown, _⟩ := hs.hp b _ (hrd b _ List.mem_cons_self)
    refine ⟨fun i hi => (by cases hi), .int .i64 (n : Int), ?_, rfl⟩
    unfold execOp; rw [ho]
    rcases hown.2 with ⟨hv, rfl⟩ | ⟨g, cap, cur, hv, _⟩
    · simp [resolve, invoke, builtin, Builtin.len_, run_underlying ht.h, hxv, hv, goInt]
    · simp [resolve, invoke, builtin, Builtin.len_, run_underlying ht.h, hxv, hv, goInt]) next
end
end SX
set_option linter.unusedVariables false
set_option linter.unusedSimpArgs false
namespace SX
open Go Go.RowKit
section
variable {P : Program}
theorem run_bound {w : World} {k : IntKind} {i : Int} {y : Nat} {code : BoundsCode} (h0 : 0 ≤ i) (h1 : i ≤ (y : Int)) : (Instr.sliceBound (.int k i) y code).run P w = .ok i.toNat w := by
  simp [Instr.sliceBound, asIntOf, h0, h1]
theorem run_sliceAt_row {w : World} {t e : TypeId} {a : Option Addr} {n cap size : Nat} {lo hi : Option Value} {l h m : Nat} (ht : P.underlying t = some (.slice e)) (hs : (P.info? e).map (·.size) = some size) (hb : (Instr.sliceBounds true n cap lo hi none).run P w = .ok (l, h, m) w) :
    (Instr.sliceAt t (.slice a n cap) lo hi none).run P w = .ok (.slice (if m = l then a else a.map (·.add (l * size))) (h - l) (m - l)) w := by
  simp [Instr.sliceAt, Instr.slice, run_underlying ht, hb, run_sizeOf hs]
theorem bounds_hi {w : World} {b : Bool} {n cap : Nat} {k : IntKind} {i : Int} (h0 : 0 ≤ i) (h1 : i ≤ (cap : Int)) : (Instr.sliceBounds b n cap none (some (.int k i)) none).run P w = .ok (0, i.toNat, cap) w := by
  simp [Instr.sliceBounds, run_bound h0 h1]
theorem sliceR_part {S : Nat → Prop} {w : World} {size n : Nat} {cells : List CA} {a : Option Addr} {cap l h : Nat} (hv : (sliceR size n cells).has S w (.slice a n cap)) (hlh : l ≤ h) (hh : h ≤ n) :
    (sliceR size (h - l) ((cells.drop (l * size)).take ((h - l) * size))).has S w (.slice (if cap = l then a else a.map (·.add (l * size))) (h - l) (cap - l)) := by
  obtain ⟨oa, cap', e0, h1, h2, h3, h4, h5⟩ := sliceR_iff.1 hv
  cases e0
  refine sliceR_iff.2 ⟨_, _, rfl, by omega, by omega, fun hn => ?_, ?_, fun i c hc => ?_⟩
  · split at hn
    · omega
    · cases a with
      | none => have := h3 rfl; omega
      | some a => cases hn
  · rw [List.length_take, List.length_drop, h4]
    have : (h - l) * size ≤ n * size - l * size := by rw [← Nat.sub_mul]; exact Nat.mul_le_mul_right _ (by omega)
    omega
  · rw [List.getElem?_take] at hc
    split at hc
    · rename_i hi
      rw [List.getElem?_drop] at hc
      obtain ⟨b, o, u, e1, e2, e3, e4⟩ := h5 _ c hc
      subst e1
      have hne : cap ≠ l := by
        rintro rfl
        have : h - cap = 0 := by omega
        rw [this] at hi; omega
      refine ⟨b, o + l * size, u, ?_, e2, by rw [Nat.add_assoc]; exact e3, e4⟩
      rw [if_neg hne]; simp [Addr.add_lit]
    · cases hc
end
section
variable {P : Program} {C : Ctx} {st : St}
variable {ops rest : List Oper} {acc : List (List Nat × List Nat)} {K : List (List Nat × List Nat) → St → Prop} {d : Tmp} {dst : Option Tmp} {op : Op} {ty t : TypeId} {x y z : Operand} {k k' : IntKind} {i j : Int}
theorem Go1.sliceHiR {e : TypeId} {size n : Nat} {cells : List CA} {r : Rep} [ht : TSlice P t e size] [hr : AsSlice r size n cells] (hd : dstOK dst C.nt = true) (hx : st.ev x = some (.r r)) (hy : st.ev y = some (.v (.int k i))) (h0 : 0 ≤ i) (h1 : i ≤ (n : Int))
    (next : Reg P C ops rest (st.app dst ⟨.r (sliceR size i.toNat (cells.take (i.toNat * size))), []⟩) (([], []) :: acc) K) : Go1 P C ops dst (.slice t x none (some y) none) ty rest st acc K :=
  Go1.pureV [] [] (by simp) hd (by simp) (fun o ho _ st' E S a w hev hs _ => by
    obtain ⟨hx1, _⟩ := hs.ev ((hev x (by simp [ho, Op.operands])).trans hx)
    have hyv : a.eval y = .int k i := (hs.ev ((hev y (by simp [ho, Op.operands])).trans hy)).1
    have hr1 := hr.h _ _ _ hx1
    obtain ⟨oa, cap, hv, hn, _⟩ := sliceR_iff.1 hr1
    rw [hv] at hr1
    have hp := sliceR_part (l := 0) (h := i.toNat) hr1 (Nat.zero_le _) (by omega)
    rw [Nat.zero_mul, List.drop_zero, Nat.sub_zero] at hp
    refine ⟨fun i hi => (by cases hi), _, ?_, hp⟩
    unfold execOp; rw [ho]
    simp only [Option.map_some, Option.map_none, hv, hyv]
    simp [run_sliceAt_row ht.h ht.s (bounds_hi (w := w) (b := true) (n := n) (cap := cap) (k := k) h0 (by omega))]) next
theorem Go1.eqlS {ty' : TypeId} {s u : ByteArray} (hd : dstOK dst C.nt = true) (hx : st.ev x = some (.v (.string s))) (hy : st.ev y = some (.v (.string u))) (next : Reg P C ops rest (st.app dst ⟨.v (.bool (s.toList == u.toList)), []⟩) (([], []) :: acc) K) : Go1 P C ops dst (.binOp .eql t x y ty') ty rest st acc K :=
  Go1.val2 hd rfl hx hy (fun ρ o w ho h1 h2 => by unfold execOp; rw [ho]; simp [h1, h2, eqGuard, binOp, Op.stringOp]) next
theorem Go1.indexAddrO {e : TypeId} {b n size i : Nat} {cells : List CA} [ht : TSlice P t e size] (hd : dstOK dst C.nt = true) (hx : st.ev x = some (.own b)) (hb : st.hp b = .ent (.row e size n cells)) (hy : st.ev y = some (.v (.int k (i : Int)))) (hi : i < n)
    (next : Reg P C ops rest (st.app dst ⟨.it (.one (.rptr b (i * size))), []⟩) (([b], []) :: acc) K) : Go1 P C ops dst (.indexAddr t x y) ty rest st acc K :=
  Go1.pureV [(b, .row e size n cells)] [b] (fun c e' hc => by simp at hc; simp [hc.1]) hd (fun c e' hc => by simp at hc; obtain ⟨rfl, rfl⟩ := hc; exact hb) (fun o ho _ st' E S a w hev hs hrd => by
    obtain ⟨⟨hxv, _⟩, hid⟩ := hs.ev ((hev x (by simp [ho, Op.operands])).trans hx)
    have hyv : a.eval y = .int k (i : Int) := (hs.ev ((hev y (by simp [ho, Op.operands])).trans hy)).1
    obtain ⟨vs, hown, _⟩ := hs.hp b _ (hrd b _ List.mem_cons_self)
    have hsz := run_sizeOf ht.s w
    rcases hown.2 with ⟨_, h0⟩ | ⟨g, cap, cur, hv, _⟩
    · omega
    · refine ⟨hid, .pointer (some ⟨g, i * size, none⟩), ?_, g, n, cap, hv, rfl⟩
      unfold execOp; rw [ho]
      simp [hxv, hv, hyv, Instr.indexAt, asIntOf, run_underlying ht.h, hsz, Addr.add_lit, hi]) next
theorem Go1.loadO1 {e : TypeId} {b n size off : Nat} {c : CA} {cells : List CA} [ht : TOne P t] (hd : dstOK dst C.nt = true) (hx : st.ev x = some (.it (.one (.rptr b off)))) (hb : st.hp b = .ent (.row e size n cells)) (hc : cells[off]? = some c)
    (next : Reg P C ops rest (st.app dst ⟨.it (.one (.c c)), []⟩) (([b], []) :: acc) K) : Go1 P C ops dst (.load t x) ty rest st acc K :=
  Go1.pureV [(b, .row e size n cells)] [b] (fun c e' hc => by simp at hc; simp [hc.1]) hd (fun c e' hc => by simp at hc; obtain ⟨rfl, rfl⟩ := hc; exact hb) (fun o ho _ st' E S a w hev hs hrd => by
    obtain ⟨⟨g, n', cap, h1, hv⟩, _⟩ := hs.ev ((hev x (by simp [ho, Op.operands])).trans hx)
    obtain ⟨vs, hown, hvs⟩ := hs.hp b _ (hrd b _ List.mem_cons_self)
    rw [h1] at hown
    have hcell := hown.cells (g := g) rfl
    obtain ⟨u, hu, huc⟩ := hvs.get hc
    have g2 := hcell off u hu
    refine ⟨fun j hj => (by cases hj), u, ?_, huc⟩
    unfold execOp; rw [ho]
    have g2' : w.cell? ⟨g, off, none⟩ = some u := by simpa [Addr.add_lit] using g2
    simp [hv, Instr.loadAt, Instr.sureAddr, loadVar, run_isAgg ht.h, g2']) next
end
end SX
set_option linter.unusedVariables false
set_option linter.unusedSimpArgs false
namespace SX
open Go Go.RowKit
def Atom.frz (b size n : Nat) (cells : List CA) : Atom → Atom
  | .own k => match Nat.beq k b with | true => .c (.sat (sliceR size n cells)) | false => .own k
  | .rptr k off => match Nat.beq k b with | true => .c (.sat (ptrR (cells.drop off))) | false => .rptr k off
  | .c a => .c a
  | .ptr k off => .ptr k off
  | .clo f cap => .clo f cap
  | .bnd f b => .bnd f b
  | .rel b R => .rel b R
def frzL (b size n : Nat) (cells : List CA) : List Atom → List Atom
  | [] => []
  | a :: l => a.frz b size n cells :: frzL b size n cells l
def AV0.frz (b size n : Nat) (cells : List CA) : AV0 → AV0
  | .one a => .one (a.frz b size n cells)
  | .agg l => .agg (frzL b size n cells l)
def frzT (b size n : Nat) (cells : List CA) : List AV0 → List AV0
  | [] => []
  | a :: l => a.frz b size n cells :: frzT b size n cells l
def AV.frz (b size n : Nat) (cells : List CA) : AV → AV
  | .it x => .it (x.frz b size n cells)
  | .tup l => .tup (frzT b size n cells l)
def Ent.frz (b size n : Nat) (cells : List CA) : Ent → Ent
  | .abs A => .abs A
  | .box t l => .box t (frzL b size n cells l)
  | .row t s m l => .row t s m l
def Slot.frz (b size n : Nat) (cells : List CA) : Slot → Slot
  | .ent e => .ent (e.frz b size n cells)
  | .free => .free
  | .gone => .gone
def St.frz (st : St) (b size n : Nat) (cells : List CA) : St :=
  ⟨fun t => match st.tm t with | some v => some (v.frz b size n cells) | none => none, upd (fun c => (st.hp c).frz b size n cells) b .gone⟩
section
variable {b size n : Nat} {cells : List CA}
theorem beq_ne {c b : Nat} (h : c ≠ b) : Nat.beq c b = false := by rw [Bool.eq_false_iff]; simpa using h
theorem frz_own : (Atom.own b).frz b size n cells = .c (.sat (sliceR size n cells)) := by
  simp only [Atom.frz, Nat.beq_refl]
theorem frz_own_ne {k : Nat} (h : k ≠ b) : (Atom.own k).frz b size n cells = .own k := by
  simp only [Atom.frz, beq_ne h]
theorem frz_rptr {off : Nat} : (Atom.rptr b off).frz b size n cells = .c (.sat (ptrR (cells.drop off))) := by
  simp only [Atom.frz, Nat.beq_refl]
theorem frz_rptr_ne {k off : Nat} (h : k ≠ b) : (Atom.rptr k off).frz b size n cells = .rptr k off := by
  simp only [Atom.frz, beq_ne h]
theorem Atom.frz_ids (a : Atom) : ∀ i ∈ (a.frz b size n cells).ids, i ∈ a.ids := by
  intro i hi
  cases a with
  | own k =>
    by_cases h : k = b
    · subst h; rw [frz_own] at hi; cases hi
    · rw [frz_own_ne h] at hi; exact hi
  | rptr k off =>
    by_cases h : k = b
    · subst h; rw [frz_rptr] at hi; cases hi
    · rw [frz_rptr_ne h] at hi; exact hi
  | c a => exact hi
  | ptr k off => exact hi
  | clo f cap => exact hi
  | bnd f b => exact hi
  | rel b R => exact hi
theorem frzL_ids : ∀ (l : List Atom), ∀ i ∈ (frzL b size n cells l).flatMap Atom.ids, i ∈ l.flatMap Atom.ids
  | [], i, hi => hi
  | a :: l, i, hi => by
    simp only [frzL, List.flatMap_cons, List.mem_append] at hi ⊢
    exact hi.imp (a.frz_ids i) (frzL_ids l i)
theorem AV0.frz_ids (x : AV0) : ∀ i ∈ (x.frz b size n cells).ids, i ∈ x.ids := by
  cases x with
  | one a => exact a.frz_ids
  | agg l => exact frzL_ids l
theorem frzT_ids : ∀ (l : List AV0), ∀ i ∈ (frzT b size n cells l).flatMap AV0.ids, i ∈ l.flatMap AV0.ids
  | [], i, hi => hi
  | a :: l, i, hi => by
    simp only [frzT, List.flatMap_cons, List.mem_append] at hi ⊢
    exact hi.imp (a.frz_ids i) (frzT_ids l i)
theorem AV.frz_ids (x : AV) : ∀ i ∈ (x.frz b size n cells).ids, i ∈ x.ids := by
  cases x with
  | it a => exact a.frz_ids
  | tup l => exact frzT_ids l
theorem Ent.frz_ids (x : Ent) : ∀ i ∈ (x.frz b size n cells).ids, i ∈ x.ids := by
  cases x with
  | abs A => exact fun i h => h
  | box t l => exact frzL_ids l
  | row t s m l => exact fun i h => h
variable {E : Env} {S S' : Nat → Prop} {w : World}
structure Frz (b size n : Nat) (cells : List CA) (E : Env) (S S' : Nat → Prop) (w : World) : Prop where
  sub : ∀ k, S' k → S k
  sl : (sliceR size n cells).has S' w (E.sl b)
  pt : ∀ g m cap off, E.sl b = .slice (some ⟨g, 0, none⟩) m cap → (ptrR (cells.drop off)).has S' w (.pointer (some ⟨g, off, none⟩))
theorem Atom.has.frz {a : Atom} {v : Value} (h : a.has E S w v) (f : Frz b size n cells E S S' w) : (a.frz b size n cells).has E S' w v := by
  have keep : ∀ a : Atom, a.has E S w v → a.has E S' w v := fun a ha => ha.step (fun _ _ => ⟨rfl, rfl⟩) (Off.refl S w) (fun k hk => .inl (f.sub k hk))
  cases a with
  | own k =>
    by_cases hk : k = b
    · subst hk
      rw [frz_own, show v = E.sl k from h.1]; exact f.sl
    · rw [frz_own_ne hk]; exact keep _ h
  | rptr k off =>
    by_cases hk : k = b
    · subst hk
      obtain ⟨g, m, cap, h1, rfl⟩ := h
      rw [frz_rptr]
      exact f.pt g m cap off h1
    · rw [frz_rptr_ne hk]; exact keep _ h
  | c a => exact keep (.c a) h
  | ptr c off => exact keep (.ptr c off) h
  | clo g cap => exact keep (.clo g cap) h
  | bnd g b => exact keep (.bnd g b) h
  | rel b R => exact keep (.rel b R) h
theorem frzL_has (f : Frz b size n cells E S S' w) : ∀ {l : List Atom} {vs : List Value}, All2 (Atom.has E S w) l vs → All2 (Atom.has E S' w) (frzL b size n cells l) vs
  | [], [], _ => trivial
  | _ :: _, _ :: _, h => ⟨h.1.frz f, frzL_has f h.2⟩
  | [], _ :: _, h => h.elim
  | _ :: _, [], h => h.elim
theorem AV0.has.frz {x : AV0} {v : Value} (h : x.has E S w v) (f : Frz b size n cells E S S' w) : (x.frz b size n cells).has E S' w v := by
  cases x with
  | one a => exact Atom.has.frz h f
  | agg l => obtain ⟨vs, h1, h2⟩ := h; exact ⟨vs, h1, frzL_has f h2⟩
theorem frzT_has (f : Frz b size n cells E S S' w) : ∀ {l : List AV0} {vs : List Value}, All2 (AV0.has E S w) l vs → All2 (AV0.has E S' w) (frzT b size n cells l) vs
  | [], [], _ => trivial
  | _ :: _, _ :: _, h => ⟨h.1.frz f, frzT_has f h.2⟩
  | [], _ :: _, h => h.elim
  | _ :: _, [], h => h.elim
theorem AV.has.frz {x : AV} {v : Value} (h : x.has E S w v) (f : Frz b size n cells E S S' w) : (x.frz b size n cells).has E S' w v := by
  cases x with
  | it a => exact AV0.has.frz h f
  | tup l => obtain ⟨vs, h1, h2⟩ := h; exact ⟨vs, h1, frzT_has f h2⟩
theorem Ent.has.frz {e : Ent} {c : Nat} (h : e.has E S w c) (f : Frz b size n cells E S S' w) : (e.frz b size n cells).has E S' w c := by
  cases e with
  | abs A => exact A.step h (Off.refl S w) (fun k hk => .inl (f.sub k hk)) (fun _ _ => rfl)
  | box t l => obtain ⟨cs, h1, h2⟩ := h; exact ⟨cs, h1, frzL_has f h2⟩
  | row t s m l => obtain ⟨vs, h1, h2⟩ := h; exact ⟨vs, h1, h2.mono fun a v _ ha => ha.step (Off.refl S w) (fun k hk => .inl (f.sub k hk))⟩
end
theorem St.le_frzG {C : Ctx} {st : St} {b size n : Nat} {t : TypeId} {cells : List CA} (hnew0 : ∀ E S a w, SatE C st E S a w → ∀ k, (E.sl b).ownBlock = some k → C.w0.heap.size ≤ k) (hb : st.hp b = .ent (.row t size n cells)) : St.le C st (st.frz b size n cells) := by
  intro a w ⟨E, S, hs⟩
  obtain ⟨vs, hown, hvs⟩ := hs.hp b _ hb
  have hlen : cells.length = n * size := by rw [hvs.length, hown.1]
  have hpt : ∀ g m cap off, E.sl b = .slice (some ⟨g, 0, none⟩) m cap → ∀ i c, (cells.drop off)[i]? = some c → ∃ u, ¬ (S g ∧ (E.sl b).ownBlock ≠ some g) ∧ w.cell? ⟨g, off + i, none⟩ = some u ∧ c.has (fun k => S k ∧ (E.sl b).ownBlock ≠ some k) w u := by
    intro g m cap off hsl i c hc
    rw [List.getElem?_drop] at hc
    obtain ⟨u, hu, huc⟩ := hvs.get hc
    rw [hsl] at hown
    have hcell := hown.cells (g := g) rfl (off + i) u hu
    refine ⟨u, fun h => h.2 (by rw [hsl]; rfl), by simpa [Addr.add_lit] using hcell, huc.step (Off.refl S w) (fun k hk => .inl hk.1)⟩
  have f : Frz b size n cells E S (fun k => S k ∧ (E.sl b).ownBlock ≠ some k) w := by
    refine ⟨fun k hk => hk.1, ?_, fun g m cap off hsl => ptrR_iff.2 ⟨g, off, rfl, hpt g m cap off hsl⟩⟩
    rcases hown.2 with ⟨hv, h0⟩ | ⟨g, cap, cur, hv, _, hg, hn, hm, hcs, htk⟩
    · refine sliceR_iff.2 ⟨none, 0, by rw [hv, h0], by omega, Nat.zero_le _, fun _ => rfl, hlen, fun i c hc => ?_⟩
      have : cells.length = 0 := by rw [hlen, h0, Nat.zero_mul]
      rw [List.eq_nil_of_length_eq_zero this] at hc
      simp at hc
    · refine sliceR_iff.2 ⟨some ⟨g, 0, none⟩, cap, hv, hn, hm, (fun h => by cases h), hlen, fun i c hc => ?_⟩
      obtain ⟨u, h1, h2, h3⟩ := hpt g n cap 0 hv i c (by simpa using hc)
      exact ⟨g, 0, u, rfl, h1, h2, h3⟩
  have hkey : ∀ c e, (st.frz b size n cells).hp c = .ent e → c ≠ b ∧ ∃ e0, st.hp c = .ent e0 ∧ e = e0.frz b size n cells := by
    intro c e hc
    have hc' : upd (fun c => (st.hp c).frz b size n cells) b .gone c = .ent e := hc
    by_cases hcb : c = b
    · subst hcb; rw [upd_same] at hc'; cases hc'
    · rw [upd_ne _ _ hcb] at hc'
      refine ⟨hcb, ?_⟩
      cases h1 : st.hp c with
      | ent e0 => rw [h1] at hc'; simp only [Slot.frz] at hc'; cases hc'; exact ⟨e0, rfl, rfl⟩
      | free => rw [h1] at hc'; cases hc'
      | gone => rw [h1] at hc'; cases hc'
  have hused : ∀ c, (st.hp c).used = true → ((st.frz b size n cells).hp c).used = true := by
    intro c hc
    show (upd (fun c => (st.hp c).frz b size n cells) b .gone c).used = true
    by_cases hcb : c = b
    · subst hcb; rw [upd_same]; rfl
    · rw [upd_ne _ _ hcb]
      cases h1 : st.hp c with
      | ent e0 => rfl
      | free => rw [h1] at hc; cases hc
      | gone => rfl
  have htm : ∀ t v, (st.frz b size n cells).tm t = some v → ∃ v0, st.tm t = some v0 ∧ v = v0.frz b size n cells := by
    intro t v ht
    have ht' : (match st.tm t with | some v => some (v.frz b size n cells) | none => none) = some v := ht
    cases h1 : st.tm t with
    | none => rw [h1] at ht'; cases ht'
    | some v0 => rw [h1] at ht'; cases ht'; exact ⟨v0, rfl, rfl⟩
  have hblk : ∀ (e0 : Ent) c, (e0.frz b size n cells).at E c = e0.at E c := fun e0 c => by cases e0 <;> rfl
  have hnew : ∀ k, (E.sl b).ownBlock = some k → C.w0.heap.size ≤ k := hnew0 E S a w hs
  refine ⟨E, fun k => S k ∧ (E.sl b).ownBlock ≠ some k, { dfr := hs.dfr, nt := hs.nt, cT := fun k hk => ⟨hs.cT k hk, fun h => ?_⟩, cT0 := hs.cT0, cS := fun k hk => hs.cS k hk.1, lt := fun k hk => hs.lt k hk.1, tm := fun t v ht => ?_, tid := fun t v ht i hi => ?_, hp := fun c e hc => ?_, hid := fun c e hc i hi => ?_, blk := fun c e k hc hk => ?_, sep := fun c c' e e' k hne hc hc' hk => ?_, off := hs.off, env := fun c hc => ?_, gl := hs.gl.sub fun k hk => hk.1 }⟩
  · have h1 := hnew k h
    have h2 := hs.cT0 k hk
    omega
  · obtain ⟨v0, h1, rfl⟩ := htm t v ht
    exact (hs.tm t v0 h1).frz f
  · obtain ⟨v0, h1, rfl⟩ := htm t v ht
    exact hused i (hs.tid t v0 h1 i (v0.frz_ids i hi))
  · obtain ⟨_, e0, h1, rfl⟩ := hkey c e hc
    exact (hs.hp c e0 h1).frz f
  · obtain ⟨_, e0, h1, rfl⟩ := hkey c e hc
    exact hused i (hs.hid c e0 h1 i (e0.frz_ids i hi))
  · obtain ⟨hcb, e0, h1, rfl⟩ := hkey c e hc
    rw [hblk] at hk
    have h2 := hs.blk c e0 k h1 hk
    exact ⟨⟨h2.1, fun h => hs.sep c b e0 _ k hcb h1 hb hk h⟩, h2.2⟩
  · obtain ⟨_, e0, h1, rfl⟩ := hkey c e hc
    obtain ⟨_, e1, h2, rfl⟩ := hkey c' e' hc'
    rw [hblk] at hk ⊢
    exact hs.sep c c' e0 e1 k hne h1 h2 hk
  · obtain ⟨g1, g2, g3⟩ := hs.env c hc
    exact ⟨g1, g2, hused c g3⟩
theorem St.le_frz {C : Ctx} {st : St} {b size n : Nat} {t : TypeId} {cells : List CA} (hB : ∀ k, ¬ C.B k) (hb : st.hp b = .ent (.row t size n cells)) : St.le C st (st.frz b size n cells) :=
  St.le_frzG (fun E S a w hs k hk => ((hs.blk b _ k hb hk).2).resolve_left (hB k)) hb
def Slot.isBox : Slot → Bool
  | .ent (.box _ _) => true
  | _ => false
section
variable {P : Program} {C : Ctx} {st : St}
variable {ops rest : List Oper} {acc : List (List Nat × List Nat)} {K : List (List Nat × List Nat) → St → Prop} {dst : Option Tmp} {ty t : TypeId} {x : Operand}
theorem closedL_len {l : List Atom} {m : List CA} (h : closedL l = some m) : m.length = l.length := by rw [closedL_spec h]; simp
theorem Go1.lit1 {e : TypeId} {size bytes : Nat} {zs : List Value} {v : AV0} {m : List CA} [ht : TSlice P t e size] [he : TElem P e zs bytes] (hd : dstOK dst C.nt = true) (hx : st.ev x = some (.it v)) (hc : closedL v.cells = some m)
    (hm : (Nat.beq m.length size && Nat.ble size 1000 && v.cells.all Atom.oneB) = true)
    (next : Reg P C ops rest (st.app dst ⟨.r (sliceR size 1 m), []⟩) (([], []) :: acc) K) : Go1 P C ops dst (.buildSlice t 1 #[(0, x)]) ty rest st acc K := by
  simp only [Bool.and_eq_true] at hm
  obtain ⟨⟨h1, h2⟩, h3⟩ := hm
  have hl : m.length = size := Nat.eq_of_beq_eq_true h1
  have h2' : size ≤ 1000 := by simpa [Nat.ble_eq] using h2
  have hvl : v.cells.length = size := by rw [← closedL_len hc]; exact hl
  refine Go1.buildSliceF (ps := [(0, v)]) (l := v.cells) (m := m) hd (by simp only [evp, hx]) ?_ ?_ ?_ hc ?_ next
  · simp only [List.all_cons, List.all_nil, Bool.and_true, h3, Bool.true_and]; rfl
  · rw [Nat.one_mul, Nat.ble_eq]; omega
  · have hpl : (placesOf 1 size)[0]? = some (0, size) := by simp [placesOf]
    have hz : ((madeCells zs.toArray (1 * size)).toList.map fun v => Atom.c (.val v)).length = size := by simp [size_madeCells]
    have e1 : Nat.beq v.cells.length size = true := by rw [hvl]; exact Nat.beq_refl _
    simp only [fillA, hpl]
    rw [hz, e1, Nat.zero_add, show Nat.ble size size = true by rw [Nat.ble_eq]; exact Nat.le_refl _]
    simp only [Bool.and_self]
    rw [spl_eq _ _ _ (by rw [hz, hvl]; omega), hvl, List.take_zero, List.nil_append, Nat.zero_add, List.drop_of_length_le (by rw [hz]; exact Nat.le_refl _), List.append_nil]
  · rw [hl, Nat.one_mul]; exact Nat.beq_refl _
end
end SX
set_option linter.unusedVariables false
set_option linter.unusedSimpArgs false
namespace SX
open Go Go.RowKit
variable {P : Program} {C : Ctx} {st : St}
variable {ops rest : List Oper} {acc : List (List Nat × List Nat)} {K : List (List Nat × List Nat) → St → Prop} {dst : Option Tmp} {d : Tmp} {op : Op} {ty t t' : TypeId} {x y z : Operand} {k k' : IntKind} {m n : Int}
theorem G.add {z : Int} (next : Reg P C ops rest (st.app dst ⟨.v (.int k z), []⟩) (([], []) :: acc) K) (hd : dstOK dst C.nt = true := by rfl) (hx : st.ev x = some (.v (.int k m)) := by rfl) (hy : st.ev y = some (.v (.int k n)) := by rfl) (hw : k.wrap (m + n) = z := by first | (with_reducible assumption) | assumption | exact wrapI64 (by omega) (by omega) | exact wrapU64 (by omega) (by omega) | exact and1_i64 _ | rfl) : Go1 P C ops dst (.binOp .add t x y t') ty rest st acc K :=
  Go1.add hd hx hy hw next
theorem G.alloc {cells : List Value} [hz : TZero P t cells] (next : Reg P C ops rest (st.app (some d) ⟨.ptr d 0, [(d, .ent (.box t (cells.map fun v => Atom.c (.val v))))]⟩) (([d], [d]) :: acc) K) (hd : dstOK (some d) C.nt = true := by rfl) (hf : st.hp d = .free := by rfl) : Go1 P C ops (some d) (.alloc t) ty rest st acc K :=
  Go1.alloc hd hf next
theorem G.assign {x : Operand} {r : AV} (next : Reg P C ops rest (st.app dst ⟨r, []⟩) (([], []) :: acc) K) (hd : dstOK dst C.nt = true := by rfl) (hx : st.ev x = some r := by rfl) : Go1 P C ops dst (.assign x) ty rest st acc K :=
  Go1.assign hd hx next
theorem G.box {v : AV0} (next : Reg P C ops rest (st.app (some d) ⟨.ptr d 0, [(d, .ent (.box t v.cells))]⟩) (([d], [d]) :: acc) K) (hd : dstOK (some d) C.nt = true := by rfl) (hx : st.ev x = some (.it v) := by rfl) (hf : st.hp d = .free := by rfl) (h1 : v.cells.all Atom.oneB = true := by rfl) : Go1 P C ops (some d) (.box t x) ty rest st acc K :=
  Go1.box hd hx hf h1 next
theorem G.build {pl : List (Nat × Nat)} {zs : List Value} {parts : Array (Nat × Operand)} {ps : List (Nat × AV0)} {l : List Atom} [ht : TStruct P t pl] [hz : TZero P t zs] (next : Reg P C ops rest (st.app (some d) ⟨.agg l, []⟩) (([], []) :: acc) K) (hd : dstOK (some d) C.nt = true := by rfl) (hp : evp st parts.toList = some ps := by rfl) (h1 : (ps.all fun p => p.2.cells.all Atom.oneB) = true := by rfl) (hf : fillA pl (zs.map fun v => Atom.c (.val v)) ps = some l := by rfl) : Go1 P C ops (some d) (.build t parts) ty rest st acc K :=
  Go1.build hd hp h1 hf next
theorem G.build2 {pl : List (Nat × Nat)} {zs : List Value} {parts : Array (Nat × Operand)} {ps : List (Nat × AV0)} {a1 a2 : Atom} [ht : TStruct P t pl] [hz : TZero P t zs] (next : Reg P C ops rest (st.app (some d) ⟨.agg [a1, a2], []⟩) (([], []) :: acc) K) (hd : dstOK (some d) C.nt = true := by rfl) (hp : evp st parts.toList = some ps := by rfl) (h1 : (ps.all fun p => p.2.cells.all Atom.oneB) = true := by rfl) (hf : fillA pl (zs.map fun v => Atom.c (.val v)) ps = some [a1, a2] := by rfl) : Go1 P C ops (some d) (.build t parts) ty rest st acc K :=
  Go1.build2 hd hp h1 hf next
theorem G.build3 {pl : List (Nat × Nat)} {zs : List Value} {parts : Array (Nat × Operand)} {ps : List (Nat × AV0)} {a1 a2 a3 : Atom} [ht : TStruct P t pl] [hz : TZero P t zs] (next : Reg P C ops rest (st.app (some d) ⟨.agg [a1, a2, a3], []⟩) (([], []) :: acc) K) (hd : dstOK (some d) C.nt = true := by rfl) (hp : evp st parts.toList = some ps := by rfl) (h1 : (ps.all fun p => p.2.cells.all Atom.oneB) = true := by rfl) (hf : fillA pl (zs.map fun v => Atom.c (.val v)) ps = some [a1, a2, a3] := by rfl) : Go1 P C ops (some d) (.build t parts) ty rest st acc K :=
  Go1.build3 hd hp h1 hf next
theorem G.build4 {pl : List (Nat × Nat)} {zs : List Value} {parts : Array (Nat × Operand)} {ps : List (Nat × AV0)} {a1 a2 a3 a4 : Atom} [ht : TStruct P t pl] [hz : TZero P t zs] (next : Reg P C ops rest (st.app (some d) ⟨.agg [a1, a2, a3, a4], []⟩) (([], []) :: acc) K) (hd : dstOK (some d) C.nt = true := by rfl) (hp : evp st parts.toList = some ps := by rfl) (h1 : (ps.all fun p => p.2.cells.all Atom.oneB) = true := by rfl) (hf : fillA pl (zs.map fun v => Atom.c (.val v)) ps = some [a1, a2, a3, a4] := by rfl) : Go1 P C ops (some d) (.build t parts) ty rest st acc K :=
  Go1.build4 hd hp h1 hf next
theorem G.conv {k' : IntKind} {z : Int} [h1 : TInt P t k] [h2 : TInt P t' k'] (next : Reg P C ops rest (st.app dst ⟨.v (.int k' z), []⟩) (([], []) :: acc) K) (hd : dstOK dst C.nt = true := by rfl) (hx : st.ev x = some (.v (.int k m)) := by rfl) (hw : k'.wrap m = z := by first | (with_reducible assumption) | assumption | exact wrapI64 (by omega) (by omega) | exact wrapU64 (by omega) (by omega) | exact and1_i64 _ | rfl) : Go1 P C ops dst (.convert t t' x) ty rest st acc K :=
  Go1.conv hd hx hw next
theorem G.eql  (next : Reg P C ops rest (st.app dst ⟨.v (.bool (decide (m = n))), []⟩) (([], []) :: acc) K) (hd : dstOK dst C.nt = true := by rfl) (hx : st.ev x = some (.v (.int k m)) := by rfl) (hy : st.ev y = some (.v (.int k n)) := by rfl) : Go1 P C ops dst (.binOp .eql t x y t') ty rest st acc K :=
  Go1.eql hd hx hy next
theorem G.eqlB {b c : Bool} [hb : TBool P t] (next : Reg P C ops rest (st.app dst ⟨.v (.bool (b == c)), []⟩) (([], []) :: acc) K) (hd : dstOK dst C.nt = true := by rfl) (hx : st.ev x = some (.v (.bool b)) := by rfl) (hy : st.ev y = some (.v (.bool c)) := by rfl) : Go1 P C ops dst (.binOp .eql t x y t') ty rest st acc K :=
  Go1.eqlB hd hx hy next
theorem G.extract {l : List AV0} {i : Nat} {r : AV0} (next : Reg P C ops rest (st.app dst ⟨.it r, []⟩) (([], []) :: acc) K) (hd : dstOK dst C.nt = true := by rfl) (hx : st.ev x = some (.tup l) := by rfl) (hi : l[i]? = some r := by rfl) : Go1 P C ops dst (.extract x i) ty rest st acc K :=
  Go1.extract hd hx hi next
theorem G.fieldAddr {b off f o1 : Nat} [ht : TField P t f o1] (next : Reg P C ops rest (st.app (some d) ⟨.ptr b (off + o1), []⟩) (([], []) :: acc) K) (hd : dstOK (some d) C.nt = true := by rfl) (hx : st.ev x = some (.ptr b off) := by rfl) : Go1 P C ops (some d) (.fieldAddr t x f) ty rest st acc K :=
  Go1.fieldAddr hd hx next
theorem G.fieldAddrR {f o1 : Nat} {cells : List CA} [ht : TField P t f o1] (next : Reg P C ops rest (st.app dst ⟨.r (ptrR (cells.drop o1)), []⟩) (([], []) :: acc) K) (hd : dstOK dst C.nt = true := by rfl) (hx : st.ev x = some (.r (ptrR cells)) := by rfl) : Go1 P C ops dst (.fieldAddr t x f) ty rest st acc K :=
  Go1.fieldAddrR hd hx next
theorem G.geq  (next : Reg P C ops rest (st.app dst ⟨.v (.bool (decide (n ≤ m))), []⟩) (([], []) :: acc) K) (hd : dstOK dst C.nt = true := by rfl) (hx : st.ev x = some (.v (.int k m)) := by rfl) (hy : st.ev y = some (.v (.int k n)) := by rfl) : Go1 P C ops dst (.binOp .geq t x y t') ty rest st acc K :=
  Go1.geq hd hx hy next
theorem G.gtr  (next : Reg P C ops rest (st.app dst ⟨.v (.bool (decide (n < m))), []⟩) (([], []) :: acc) K) (hd : dstOK dst C.nt = true := by rfl) (hx : st.ev x = some (.v (.int k m)) := by rfl) (hy : st.ev y = some (.v (.int k n)) := by rfl) : Go1 P C ops dst (.binOp .gtr t x y t') ty rest st acc K :=
  Go1.gtr hd hx hy next
theorem G.indexAddrO {e : TypeId} {b n size i : Nat} {cells : List CA} [ht : TSlice P t e size] (next : Reg P C ops rest (st.app dst ⟨.it (.one (.rptr b (i * size))), []⟩) (([b], []) :: acc) K) (hd : dstOK dst C.nt = true := by rfl) (hx : st.ev x = some (.own b) := by rfl) (hb : st.hp b = .ent (.row e size n cells) := by rfl) (hy : st.ev y = some (.v (.int k (i : Int))) := by rfl) (hi : i < n := by omega) : Go1 P C ops dst (.indexAddr t x y) ty rest st acc K :=
  Go1.indexAddrO hd hx hb hy hi next
theorem G.lenO {e : TypeId} {b n size sz : Nat} {cells : List CA} [ht : TSlice P t e sz] (next : Reg P C ops rest (st.app dst ⟨.v (.int .i64 (n : Int)), []⟩) (([b], []) :: acc) K) (hd : dstOK dst C.nt = true := by rfl) (hx : st.ev x = some (.own b) := by rfl) (hb : st.hp b = .ent (.row e size n cells) := by rfl) : Go1 P C ops dst (.call ⟨.builtin .len, #[x], #[t]⟩) ty rest st acc K :=
  Go1.lenO hd hx hb next
theorem G.lenR {e : TypeId} {size sz n : Nat} {cells : List CA} {r : Rep} [ht : TSlice P t e sz] [hr : AsSlice r size n cells] (next : Reg P C ops rest (st.app dst ⟨.v (.int .i64 (n : Int)), []⟩) (([], []) :: acc) K) (hd : dstOK dst C.nt = true := by rfl) (hx : st.ev x = some (.r r) := by rfl) : Go1 P C ops dst (.call ⟨.builtin .len, #[x], #[t]⟩) ty rest st acc K :=
  Go1.lenR hd hx next
theorem G.leq  (next : Reg P C ops rest (st.app dst ⟨.v (.bool (decide (m ≤ n))), []⟩) (([], []) :: acc) K) (hd : dstOK dst C.nt = true := by rfl) (hx : st.ev x = some (.v (.int k m)) := by rfl) (hy : st.ev y = some (.v (.int k n)) := by rfl) : Go1 P C ops dst (.binOp .leq t x y t') ty rest st acc K :=
  Go1.leq hd hx hy next
theorem G.lit1 {e : TypeId} {size bytes : Nat} {zs : List Value} {v : AV0} {m : List CA} [ht : TSlice P t e size] [he : TElem P e zs bytes] (next : Reg P C ops rest (st.app dst ⟨.r (sliceR size 1 m), []⟩) (([], []) :: acc) K) (hd : dstOK dst C.nt = true := by rfl) (hx : st.ev x = some (.it v) := by rfl) (hc : closedL v.cells = some m := by rfl) (hm : (Nat.beq m.length size && Nat.ble size 1000 && v.cells.all Atom.oneB) = true := by rfl) : Go1 P C ops dst (.buildSlice t 1 #[(0, x)]) ty rest st acc K :=
  Go1.lit1 hd hx hc hm next
theorem G.load1 {b off : Nat} {T : TypeId} {cells : List Atom} {c : Atom} [ht : TOne P t] (next : Reg P C ops rest (st.app (some d) ⟨.it (.one c), []⟩) (([b], []) :: acc) K) (hd : dstOK (some d) C.nt = true := by rfl) (hx : st.ev x = some (.ptr b off) := by rfl) (hb : st.hp b = .ent (.box T cells) := by rfl) (hr : cells[off]? = some c := by rfl) : Go1 P C ops (some d) (.load t x) ty rest st acc K :=
  Go1.load1 hd hx hb hr next
theorem G.load2 {b off : Nat} {T : TypeId} {cells : List Atom} {a1 a2 : Atom} [ht : TAgg P t 2] (next : Reg P C ops rest (st.app (some d) ⟨.agg [a1, a2], []⟩) (([b], []) :: acc) K) (hd : dstOK (some d) C.nt = true := by rfl) (hx : st.ev x = some (.ptr b off) := by rfl) (hb : st.hp b = .ent (.box T cells) := by rfl) (hr : (cells.drop off).take 2 = [a1, a2] := by rfl) : Go1 P C ops (some d) (.load t x) ty rest st acc K :=
  Go1.load2 hd hx hb hr next
theorem G.load3 {b off : Nat} {T : TypeId} {cells : List Atom} {a1 a2 a3 : Atom} [ht : TAgg P t 3] (next : Reg P C ops rest (st.app (some d) ⟨.agg [a1, a2, a3], []⟩) (([b], []) :: acc) K) (hd : dstOK (some d) C.nt = true := by rfl) (hx : st.ev x = some (.ptr b off) := by rfl) (hb : st.hp b = .ent (.box T cells) := by rfl) (hr : (cells.drop off).take 3 = [a1, a2, a3] := by rfl) : Go1 P C ops (some d) (.load t x) ty rest st acc K :=
  Go1.load3 hd hx hb hr next
theorem G.load4 {b off : Nat} {T : TypeId} {cells : List Atom} {a1 a2 a3 a4 : Atom} [ht : TAgg P t 4] (next : Reg P C ops rest (st.app (some d) ⟨.agg [a1, a2, a3, a4], []⟩) (([b], []) :: acc) K) (hd : dstOK (some d) C.nt = true := by rfl) (hx : st.ev x = some (.ptr b off) := by rfl) (hb : st.hp b = .ent (.box T cells) := by rfl) (hr : (cells.drop off).take 4 = [a1, a2, a3, a4] := by rfl) : Go1 P C ops (some d) (.load t x) ty rest st acc K :=
  Go1.load4 hd hx hb hr next
theorem G.loadR1 {c : CA} {cells : List CA} [ht : TOne P t] (next : Reg P C ops rest (st.app dst ⟨.it (.one (.c c)), []⟩) (([], []) :: acc) K) (hd : dstOK dst C.nt = true := by rfl) (hx : st.ev x = some (.r (ptrR cells)) := by rfl) (hl : cells[0]? = some c := by first | rfl | assumption | exact load_map (by assumption) | exact load_mapO (by assumption)) : Go1 P C ops dst (.load t x) ty rest st acc K :=
  Go1.loadR1 hd hx hl next
theorem G.loadR2 {c1 c2 : CA} {cells : List CA} [ht : TAgg P t 2] (next : Reg P C ops rest (st.app dst ⟨.agg [.c c1, .c c2], []⟩) (([], []) :: acc) K) (hd : dstOK dst C.nt = true := by rfl) (hx : st.ev x = some (.r (ptrR cells)) := by rfl) (hl : cells = [c1, c2] := by rfl) : Go1 P C ops dst (.load t x) ty rest st acc K :=
  Go1.loadR2 hd hx hl next
theorem G.loadR3 {c1 c2 c3 : CA} {cells : List CA} [ht : TAgg P t 3] (next : Reg P C ops rest (st.app dst ⟨.agg [.c c1, .c c2, .c c3], []⟩) (([], []) :: acc) K) (hd : dstOK dst C.nt = true := by rfl) (hx : st.ev x = some (.r (ptrR cells)) := by rfl) (hl : cells = [c1, c2, c3] := by rfl) : Go1 P C ops dst (.load t x) ty rest st acc K :=
  Go1.loadR3 hd hx hl next
theorem G.loadR4 {c1 c2 c3 c4 : CA} {cells : List CA} [ht : TAgg P t 4] (next : Reg P C ops rest (st.app dst ⟨.agg [.c c1, .c c2, .c c3, .c c4], []⟩) (([], []) :: acc) K) (hd : dstOK dst C.nt = true := by rfl) (hx : st.ev x = some (.r (ptrR cells)) := by rfl) (hl : cells = [c1, c2, c3, c4] := by rfl) : Go1 P C ops dst (.load t x) ty rest st acc K :=
  Go1.loadR4 hd hx hl next
theorem G.lss  (next : Reg P C ops rest (st.app dst ⟨.v (.bool (decide (m < n))), []⟩) (([], []) :: acc) K) (hd : dstOK dst C.nt = true := by rfl) (hx : st.ev x = some (.v (.int k m)) := by rfl) (hy : st.ev y = some (.v (.int k n)) := by rfl) : Go1 P C ops dst (.binOp .lss t x y t') ty rest st acc K :=
  Go1.lss hd hx hy next
theorem G.move {x : Operand} {r : AV} (next : Reg P C ops rest (st.app dst ⟨r, []⟩) (([], []) :: acc) K) (hd : dstOK dst C.nt = true := by rfl) (hx : st.ev x = some r := by rfl) : Go1 P C ops dst (.move x) ty rest st acc K :=
  Go1.move hd hx next
theorem G.mul {z : Int} (next : Reg P C ops rest (st.app dst ⟨.v (.int k z), []⟩) (([], []) :: acc) K) (hd : dstOK dst C.nt = true := by rfl) (hx : st.ev x = some (.v (.int k m)) := by rfl) (hy : st.ev y = some (.v (.int k n)) := by rfl) (hw : k.wrap (m * n) = z := by first | (with_reducible assumption) | assumption | exact wrapI64 (by omega) (by omega) | exact wrapU64 (by omega) (by omega) | exact and1_i64 _ | rfl) : Go1 P C ops dst (.binOp .mul t x y t') ty rest st acc K :=
  Go1.mul hd hx hy hw next
theorem G.neg {z : Int} (next : Reg P C ops rest (st.app dst ⟨.v (.int k z), []⟩) (([], []) :: acc) K) (hd : dstOK dst C.nt = true := by rfl) (hx : st.ev x = some (.v (.int k m)) := by rfl) (hw : k.wrap (0 - m) = z := by first | (with_reducible assumption) | assumption | exact wrapI64 (by omega) (by omega) | exact wrapU64 (by omega) (by omega) | exact and1_i64 _ | rfl) : Go1 P C ops dst (.unOp .neg t x) ty rest st acc K :=
  Go1.neg hd hx hw next
theorem G.neq  (next : Reg P C ops rest (st.app dst ⟨.v (.bool (decide (m ≠ n))), []⟩) (([], []) :: acc) K) (hd : dstOK dst C.nt = true := by rfl) (hx : st.ev x = some (.v (.int k m)) := by rfl) (hy : st.ev y = some (.v (.int k n)) := by rfl) : Go1 P C ops dst (.binOp .neq t x y t') ty rest st acc K :=
  Go1.neq hd hx hy next
theorem G.neqB {b c : Bool} [hb : TBool P t] (next : Reg P C ops rest (st.app dst ⟨.v (.bool (!(b == c))), []⟩) (([], []) :: acc) K) (hd : dstOK dst C.nt = true := by rfl) (hx : st.ev x = some (.v (.bool b)) := by rfl) (hy : st.ev y = some (.v (.bool c)) := by rfl) : Go1 P C ops dst (.binOp .neq t x y t') ty rest st acc K :=
  Go1.neqB hd hx hy next
theorem G.not {b : Bool} (next : Reg P C ops rest (st.app dst ⟨.v (.bool (!b)), []⟩) (([], []) :: acc) K) (hd : dstOK dst C.nt = true := by rfl) (hx : st.ev x = some (.v (.bool b)) := by rfl) : Go1 P C ops dst (.unOp .not t x) ty rest st acc K :=
  Go1.not hd hx next
theorem G.pick {x y c : Operand} {b : Bool} {r : AV} (next : Reg P C ops rest (st.app dst ⟨r, []⟩) (([], []) :: acc) K) (hd : dstOK dst C.nt = true := by rfl) (hc : st.ev c = some (.v (.bool b)) := by rfl) (hx : st.ev (match b with | true => x | false => y) = some r := by rfl) : Go1 P C ops dst (.pick c x y) ty rest st acc K :=
  Go1.pick hd hc hx next
theorem G.pickHF {c : Operand} {t : Bool} {r : AV} (next : Reg P C ops rest (st.app dst ⟨r, []⟩) (([], []) :: acc) K) (hd : dstOK dst C.nt = true := by rfl) (hc : st.ev c = some (.v (.bool t)) := by rfl) (ht : t = false := by first | (with_reducible assumption) | assumption) (hx : st.ev y = some r := by rfl) : Go1 P C ops dst (.pick c x y) ty rest st acc K :=
  Go1.pickHF hd hc ht hx next
theorem G.pickHT {c : Operand} {t : Bool} {r : AV} (next : Reg P C ops rest (st.app dst ⟨r, []⟩) (([], []) :: acc) K) (hd : dstOK dst C.nt = true := by rfl) (hc : st.ev c = some (.v (.bool t)) := by rfl) (ht : t = true := by first | (with_reducible assumption) | assumption) (hx : st.ev x = some r := by rfl) : Go1 P C ops dst (.pick c x y) ty rest st acc K :=
  Go1.pickHT hd hc ht hx next
theorem G.rem {z : Int} (next : Reg P C ops rest (st.app dst ⟨.v (.int k z), []⟩) (([], []) :: acc) K) (hd : dstOK dst C.nt = true := by rfl) (hx : st.ev x = some (.v (.int k m)) := by rfl) (hy : st.ev y = some (.v (.int k n)) := by rfl) (h0 : n ≠ 0 := by omega) (hw : m.tmod n = z := by first | (with_reducible assumption) | assumption | exact wrapI64 (by omega) (by omega) | exact wrapU64 (by omega) (by omega) | exact and1_i64 _ | rfl) : Go1 P C ops dst (.binOp .rem t x y t') ty rest st acc K :=
  Go1.rem hd hx hy h0 hw next
theorem G.store {b off n : Nat} {T : TypeId} {cells cells' : List Atom} {v : AV0} (next : Reg P C ops rest (st.app none ⟨.v undef, [(b, .ent (.box T cells'))]⟩) (([b], [b]) :: acc) K) (hs : (P.info? t).map (·.size) = some n := by kernel_rfl) (hx : st.ev x = some (.ptr b off) := by rfl) (hy : st.ev y = some (.it v) := by rfl) (hb : st.hp b = .ent (.box T cells) := by rfl) (hn : v.cells.length = n := by rfl) (hl : Nat.ble (off + n) cells.length = true := by rfl) (h1 : v.cells.all Atom.oneB = true := by rfl) (hr : spl cells off v.cells = cells' := by rfl) : Go1 P C ops none (.store t x y) ty rest st acc K :=
  Go1.store hs hx hy hb hn hl h1 hr next
theorem G.sub {z : Int} (next : Reg P C ops rest (st.app dst ⟨.v (.int k z), []⟩) (([], []) :: acc) K) (hd : dstOK dst C.nt = true := by rfl) (hx : st.ev x = some (.v (.int k m)) := by rfl) (hy : st.ev y = some (.v (.int k n)) := by rfl) (hw : k.wrap (m - n) = z := by first | (with_reducible assumption) | assumption | exact wrapI64 (by omega) (by omega) | exact wrapU64 (by omega) (by omega) | exact and1_i64 _ | rfl) : Go1 P C ops dst (.binOp .sub t x y t') ty rest st acc K :=
  Go1.sub hd hx hy hw next
end SX

import Derived.Test.YtkdonndeogihfaaSxp
/- A row of the call's own that is written no more. No program in sight. -/
set_option linter.unusedVariables false
set_option linter.unusedSimpArgs false
namespace SX
open Go Go.RowKit
def Atom.frz (b size n : Nat) (cells : List CA) : Atom → Atom
  | .own k => match Nat.beq k b with | true => .c (.sat (sliceR size n cells)) | false => .own k
  | .rptr k off => match Nat.beq k b with | true => .c (.sat (ptrR (cells.drop off))) | false => .rptr k off
  | .c a => .c a
  | .ptr k off => .ptr k off
  | .clo f cap => .clo f cap
def frzL (b size n : Nat) (cells : List CA) : List Atom → List Atom
  | [] => []
  | a :: l => a.frz b size n cells :: frzL b size n cells l
def AV0.frz (b size n : Nat) (cells : List CA) : AV0 → AV0
  | .one a => .one (a.frz b size n cells)
  | .agg l => .agg (frzL b size n cells l)
def frzT (b size n : Nat) (cells : List CA) : List AV0 → List AV0
  | [] => []
  | a :: l => a.frz b size n cells :: frzT b size n cells l
def AV.frz (b size n : Nat) (cells : List CA) : AV → AV
  | .it x => .it (x.frz b size n cells)
  | .tup l => .tup (frzT b size n cells l)
def Ent.frz (b size n : Nat) (cells : List CA) : Ent → Ent
  | .box t l => .box t (frzL b size n cells l)
  | .row t s m l => .row t s m l
def Slot.frz (b size n : Nat) (cells : List CA) : Slot → Slot
  | .ent e => .ent (e.frz b size n cells)
  | .free => .free
  | .gone => .gone
/-- The state in which the row b is written no more. -/
def St.frz (st : St) (b size n : Nat) (cells : List CA) : St :=
  ⟨fun t => match st.tm t with | some v => some (v.frz b size n cells) | none => none, upd (fun c => (st.hp c).frz b size n cells) b .gone⟩
section
variable {b size n : Nat} {cells : List CA}
theorem beq_ne {c b : Nat} (h : c ≠ b) : Nat.beq c b = false := by rw [Bool.eq_false_iff]; simpa using h
theorem frz_own : (Atom.own b).frz b size n cells = .c (.sat (sliceR size n cells)) := by
  simp only [Atom.frz, Nat.beq_refl]
theorem frz_own_ne {k : Nat} (h : k ≠ b) : (Atom.own k).frz b size n cells = .own k := by
  simp only [Atom.frz, beq_ne h]
theorem frz_rptr {off : Nat} : (Atom.rptr b off).frz b size n cells = .c (.sat (ptrR (cells.drop off))) := by
  simp only [Atom.frz, Nat.beq_refl]
theorem frz_rptr_ne {k off : Nat} (h : k ≠ b) : (Atom.rptr k off).frz b size n cells = .rptr k off := by
  simp only [Atom.frz, beq_ne h]
theorem Atom.frz_ids (a : Atom) : ∀ i ∈ (a.frz b size n cells).ids, i ∈ a.ids := by
  intro i hi
  cases a with
  | own k =>
    by_cases h : k = b
    · subst h; rw [frz_own] at hi; cases hi
    · rw [frz_own_ne h] at hi; exact hi
  | rptr k off =>
    by_cases h : k = b
    · subst h; rw [frz_rptr] at hi; cases hi
    · rw [frz_rptr_ne h] at hi; exact hi
  | c a => exact hi
  | ptr k off => exact hi
  | clo f cap => exact hi
theorem frzL_ids : ∀ (l : List Atom), ∀ i ∈ (frzL b size n cells l).flatMap Atom.ids, i ∈ l.flatMap Atom.ids
  | [], i, hi => hi
  | a :: l, i, hi => by
    simp only [frzL, List.flatMap_cons, List.mem_append] at hi ⊢
    exact hi.imp (a.frz_ids i) (frzL_ids l i)
theorem AV0.frz_ids (x : AV0) : ∀ i ∈ (x.frz b size n cells).ids, i ∈ x.ids := by
  cases x with
  | one a => exact a.frz_ids
  | agg l => exact frzL_ids l
theorem frzT_ids : ∀ (l : List AV0), ∀ i ∈ (frzT b size n cells l).flatMap AV0.ids, i ∈ l.flatMap AV0.ids
  | [], i, hi => hi
  | a :: l, i, hi => by
    simp only [frzT, List.flatMap_cons, List.mem_append] at hi ⊢
    exact hi.imp (a.frz_ids i) (frzT_ids l i)
theorem AV.frz_ids (x : AV) : ∀ i ∈ (x.frz b size n cells).ids, i ∈ x.ids := by
  cases x with
  | it a => exact a.frz_ids
  | tup l => exact frzT_ids l
theorem Ent.frz_ids (x : Ent) : ∀ i ∈ (x.frz b size n cells).ids, i ∈ x.ids := by
  cases x with
  | box t l => exact frzL_ids l
  | row t s m l => exact fun i h => h
variable {E : Env} {S S' : Nat → Prop} {w : World}
/-- What is known of the row that is given away. -/
structure Frz (b size n : Nat) (cells : List CA) (E : Env) (S S' : Nat → Prop) (w : World) : Prop where
  sub : ∀ k, S' k → S k
  sl : (sliceR size n cells).has S' w (E.sl b)
  pt : ∀ g m cap off, E.sl b = .slice (some ⟨g, 0, none⟩) m cap → (ptrR (cells.drop off)).has S' w (.pointer (some ⟨g, off, none⟩))
theorem Atom.has.frz {a : Atom} {v : Value} (h : a.has E S w v) (f : Frz b size n cells E S S' w) : (a.frz b size n cells).has E S' w v := by
  have keep : ∀ a : Atom, a.has E S w v → a.has E S' w v := fun a ha => ha.step (fun _ _ => ⟨rfl, rfl⟩) (Off.refl S w) (fun k hk => .inl (f.sub k hk))
  cases a with
  | own k =>
    by_cases hk : k = b
    · subst hk
      rw [frz_own, show v = E.sl k from h.1]; exact f.sl
    · rw [frz_own_ne hk]; exact keep _ h
  | rptr k off =>
    by_cases hk : k = b
    · subst hk
      obtain ⟨g, m, cap, h1, rfl⟩ := h
      rw [frz_rptr]
      exact f.pt g m cap off h1
    · rw [frz_rptr_ne hk]; exact keep _ h
  | c a => exact keep (.c a) h
  | ptr c off => exact keep (.ptr c off) h
  | clo g cap => exact keep (.clo g cap) h
theorem frzL_has (f : Frz b size n cells E S S' w) : ∀ {l : List Atom} {vs : List Value}, All2 (Atom.has E S w) l vs → All2 (Atom.has E S' w) (frzL b size n cells l) vs
  | [], [], _ => trivial
  | _ :: _, _ :: _, h => ⟨h.1.frz f, frzL_has f h.2⟩
  | [], _ :: _, h => h.elim
  | _ :: _, [], h => h.elim
theorem AV0.has.frz {x : AV0} {v : Value} (h : x.has E S w v) (f : Frz b size n cells E S S' w) : (x.frz b size n cells).has E S' w v := by
  cases x with
  | one a => exact Atom.has.frz h f
  | agg l => obtain ⟨vs, h1, h2⟩ := h; exact ⟨vs, h1, frzL_has f h2⟩
theorem frzT_has (f : Frz b size n cells E S S' w) : ∀ {l : List AV0} {vs : List Value}, All2 (AV0.has E S w) l vs → All2 (AV0.has E S' w) (frzT b size n cells l) vs
  | [], [], _ => trivial
  | _ :: _, _ :: _, h => ⟨h.1.frz f, frzT_has f h.2⟩
  | [], _ :: _, h => h.elim
  | _ :: _, [], h => h.elim
theorem AV.has.frz {x : AV} {v : Value} (h : x.has E S w v) (f : Frz b size n cells E S S' w) : (x.frz b size n cells).has E S' w v := by
  cases x with
  | it a => exact AV0.has.frz h f
  | tup l => obtain ⟨vs, h1, h2⟩ := h; exact ⟨vs, h1, frzT_has f h2⟩
theorem Ent.has.frz {e : Ent} {c : Nat} (h : e.has E S w c) (f : Frz b size n cells E S S' w) : (e.frz b size n cells).has E S' w c := by
  cases e with
  | box t l => obtain ⟨cs, h1, h2⟩ := h; exact ⟨cs, h1, frzL_has f h2⟩
  | row t s m l => obtain ⟨vs, h1, h2⟩ := h; exact ⟨vs, h1, h2.mono fun a v _ ha => ha.step (Off.refl S w) (fun k hk => .inl (f.sub k hk))⟩
end
theorem St.le_frz {C : Ctx} {st : St} {b size n : Nat} {t : TypeId} {cells : List CA} (hB : ∀ k, ¬ C.B k) (hb : st.hp b = .ent (.row t size n cells)) : St.le C st (st.frz b size n cells) := by
  intro a w ⟨E, S, hs⟩
  obtain ⟨vs, hown, hvs⟩ := hs.hp b _ hb
  have hlen : cells.length = n * size := by rw [hvs.length, hown.1]
  have hpt : ∀ g m cap off, E.sl b = .slice (some ⟨g, 0, none⟩) m cap → ∀ i c, (cells.drop off)[i]? = some c → ∃ u, ¬ (S g ∧ (E.sl b).ownBlock ≠ some g) ∧ w.cell? ⟨g, off + i, none⟩ = some u ∧ c.has (fun k => S k ∧ (E.sl b).ownBlock ≠ some k) w u := by
    intro g m cap off hsl i c hc
    rw [List.getElem?_drop] at hc
    obtain ⟨u, hu, huc⟩ := hvs.get hc
    rw [hsl] at hown
    have hcell := hown.cells (g := g) rfl (off + i) u hu
    refine ⟨u, fun h => h.2 (by rw [hsl]; rfl), by simpa [Addr.add_lit] using hcell, huc.step (Off.refl S w) (fun k hk => .inl hk.1)⟩
  have f : Frz b size n cells E S (fun k => S k ∧ (E.sl b).ownBlock ≠ some k) w := by
    refine ⟨fun k hk => hk.1, ?_, fun g m cap off hsl => ptrR_iff.2 ⟨g, off, rfl, hpt g m cap off hsl⟩⟩
    rcases hown.2 with ⟨hv, h0⟩ | ⟨g, cap, cur, hv, _, hg, hn, hm, hcs, htk⟩
    · refine sliceR_iff.2 ⟨none, 0, by rw [hv, h0], by omega, Nat.zero_le _, fun _ => rfl, hlen, fun i c hc => ?_⟩
      have : cells.length = 0 := by rw [hlen, h0, Nat.zero_mul]
      rw [List.eq_nil_of_length_eq_zero this] at hc
      simp at hc
    · refine sliceR_iff.2 ⟨some ⟨g, 0, none⟩, cap, hv, hn, hm, (fun h => by cases h), hlen, fun i c hc => ?_⟩
      obtain ⟨u, h1, h2, h3⟩ := hpt g n cap 0 hv i c (by simpa using hc)
      exact ⟨g, 0, u, rfl, h1, h2, h3⟩
  have hkey : ∀ c e, (st.frz b size n cells).hp c = .ent e → c ≠ b ∧ ∃ e0, st.hp c = .ent e0 ∧ e = e0.frz b size n cells := by
    intro c e hc
    have hc' : upd (fun c => (st.hp c).frz b size n cells) b .gone c = .ent e := hc
    by_cases hcb : c = b
    · subst hcb; rw [upd_same] at hc'; cases hc'
    · rw [upd_ne _ _ hcb] at hc'
      refine ⟨hcb, ?_⟩
      cases h1 : st.hp c with
      | ent e0 => rw [h1] at hc'; simp only [Slot.frz] at hc'; cases hc'; exact ⟨e0, rfl, rfl⟩
      | free => rw [h1] at hc'; cases hc'
      | gone => rw [h1] at hc'; cases hc'
  have hused : ∀ c, (st.hp c).used = true → ((st.frz b size n cells).hp c).used = true := by
    intro c hc
    show (upd (fun c => (st.hp c).frz b size n cells) b .gone c).used = true
    by_cases hcb : c = b
    · subst hcb; rw [upd_same]; rfl
    · rw [upd_ne _ _ hcb]
      cases h1 : st.hp c with
      | ent e0 => rfl
      | free => rw [h1] at hc; cases hc
      | gone => rfl
  have htm : ∀ t v, (st.frz b size n cells).tm t = some v → ∃ v0, st.tm t = some v0 ∧ v = v0.frz b size n cells := by
    intro t v ht
    have ht' : (match st.tm t with | some v => some (v.frz b size n cells) | none => none) = some v := ht
    cases h1 : st.tm t with
    | none => rw [h1] at ht'; cases ht'
    | some v0 => rw [h1] at ht'; cases ht'; exact ⟨v0, rfl, rfl⟩
  have hblk : ∀ (e0 : Ent) c, (e0.frz b size n cells).blk E c = e0.blk E c := fun e0 c => by cases e0 <;> rfl
  have hnew : ∀ k, (E.sl b).ownBlock = some k → C.w0.heap.size ≤ k := fun k hk => ((hs.blk b _ k hb hk).2).resolve_left (hB k)
  refine ⟨E, fun k => S k ∧ (E.sl b).ownBlock ≠ some k, { dfr := hs.dfr, nt := hs.nt, cT := fun k hk => ⟨hs.cT k hk, fun h => ?_⟩, cT0 := hs.cT0, cS := fun k hk => hs.cS k hk.1, lt := fun k hk => hs.lt k hk.1, tm := fun t v ht => ?_, tid := fun t v ht i hi => ?_, hp := fun c e hc => ?_, hid := fun c e hc i hi => ?_, blk := fun c e k hc hk => ?_, sep := fun c c' e e' k hne hc hc' hk => ?_, off := hs.off, env := fun c hc => ?_ }⟩
  · have h1 := hnew k h
    have h2 := hs.cT0 k hk
    omega
  · obtain ⟨v0, h1, rfl⟩ := htm t v ht
    exact (hs.tm t v0 h1).frz f
  · obtain ⟨v0, h1, rfl⟩ := htm t v ht
    exact hused i (hs.tid t v0 h1 i (v0.frz_ids i hi))
  · obtain ⟨_, e0, h1, rfl⟩ := hkey c e hc
    exact (hs.hp c e0 h1).frz f
  · obtain ⟨_, e0, h1, rfl⟩ := hkey c e hc
    exact hused i (hs.hid c e0 h1 i (e0.frz_ids i hi))
  · obtain ⟨hcb, e0, h1, rfl⟩ := hkey c e hc
    rw [hblk] at hk
    have h2 := hs.blk c e0 k h1 hk
    exact ⟨⟨h2.1, fun h => hs.sep c b e0 _ k hcb h1 hb hk h⟩, h2.2⟩
  · obtain ⟨_, e0, h1, rfl⟩ := hkey c e hc
    obtain ⟨_, e1, h2, rfl⟩ := hkey c' e' hc'
    rw [hblk] at hk ⊢
    exact hs.sep c c' e0 e1 k hne h1 h2 hk
  · obtain ⟨g1, g2, g3⟩ := hs.env c hc
    exact ⟨g1, g2, hused c g3⟩
/-- The row b is written no more. -/
theorem WP.freeze {P : Program} {C : Ctx} {st : St} {Q : Exit → St → Prop} {c : Code} {t : TypeId} (b : Nat) {size n : Nat} {cells : List CA} (hB : ∀ k, ¬ C.B k) (hb : st.hp b = .ent (.row t size n cells)) (h : WP P C c (st.frz b size n cells) Q) : WP P C c st Q :=
  WP.weaken (St.le_frz hB hb) h
section
variable {P : Program} {C : Ctx} {st : St}
variable {ops rest : List Oper} {acc : List (List Nat × List Nat)} {K : List (List Nat × List Nat) → St → Prop} {dst : Option Tmp} {ty t : TypeId} {x : Operand}
theorem closedL_len {l : List Atom} {m : List CA} (h : closedL l = some m) : m.length = l.length := by rw [closedL_spec h]; simp
/-- A slice of one element. -/
theorem Go1.lit1 {e : TypeId} {size bytes : Nat} {zs : List Value} {v : AV0} {m : List CA} [ht : TSlice P t e size] [he : TElem P e zs bytes] (hd : dstOK dst C.nt = true) (hx : st.ev x = some (.it v)) (hc : closedL v.cells = some m)
    (hm : (Nat.beq m.length size && Nat.ble size 1000 && v.cells.all Atom.oneB) = true)
    (next : Reg P C ops rest (st.app dst ⟨.r (sliceR size 1 m), []⟩) (([], []) :: acc) K) : Go1 P C ops dst (.buildSlice t 1 #[(0, x)]) ty rest st acc K := by
  simp only [Bool.and_eq_true] at hm
  obtain ⟨⟨h1, h2⟩, h3⟩ := hm
  have hl : m.length = size := Nat.eq_of_beq_eq_true h1
  have h2' : size ≤ 1000 := by simpa [Nat.ble_eq] using h2
  have hvl : v.cells.length = size := by rw [← closedL_len hc]; exact hl
  refine Go1.buildSliceF (ps := [(0, v)]) (l := v.cells) (m := m) hd (by simp only [evp, hx]) ?_ ?_ ?_ hc ?_ next
  · simp only [List.all_cons, List.all_nil, Bool.and_true, h3, Bool.true_and]; rfl
  · rw [Nat.one_mul, Nat.ble_eq]; omega
  · have hpl : (placesOf 1 size)[0]? = some (0, size) := by simp [placesOf]
    have hz : ((madeCells zs.toArray (1 * size)).toList.map fun v => Atom.c (.val v)).length = size := by simp [size_madeCells]
    have e1 : Nat.beq v.cells.length size = true := by rw [hvl]; exact Nat.beq_refl _
    simp only [fillA, hpl]
    rw [hz, e1, Nat.zero_add, show Nat.ble size size = true by rw [Nat.ble_eq]; exact Nat.le_refl _]
    simp only [Bool.and_self]
    rw [spl_eq _ _ _ (by rw [hz, hvl]; omega), hvl, List.take_zero, List.nil_append, Nat.zero_add, List.drop_of_length_le (by rw [hz]; exact Nat.le_refl _), List.append_nil]
  · rw [hl, Nat.one_mul]; exact Nat.beq_refl _
end
theorem load_map {α : Type} {f : α → CA} {l : List α} {i : Nat} {a : α} (h : l[i]? = some a) : (((l.map f).drop (i * 1)).take 1)[0]? = some (f a) := by
  rw [Nat.mul_one, List.getElem?_take, if_pos (by omega), List.getElem?_drop]; simp [h]
theorem load_mapO {α : Type} {f : α → CA} {l : List α} {i : Nat} {a : α} (h : l[i]? = some a) : (l.map f)[i * 1]? = some (f a) := by
  rw [Nat.mul_one]; simp [h]
end SX

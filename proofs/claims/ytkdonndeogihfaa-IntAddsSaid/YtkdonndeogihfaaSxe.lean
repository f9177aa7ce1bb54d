import Derived.Test.YtkdonndeogihfaaSxd
/- The rules of the symbolic run for a function's text: regions, branches, loops, calls, returns. No program in sight. -/
set_option linter.unusedVariables false
set_option linter.unusedSimpArgs false
namespace SX
open Go Go.RowKit

/-- A text's run in a state: what it comes to. -/
def WP (P : Program) (C : Ctx) (c : Code) (st : St) (Q : Exit → St → Prop) : Prop :=
  ∀ a w, Sat C st a w → c.wp P (fun ex a w => ∃ st', Q ex st' ∧ Sat C st' a w) a w
def thenK (k : St → Prop) (Q : Exit → St → Prop) : Exit → St → Prop
  | .normal, st => k st
  | e, st => Q e st
def inBlk (id : Nat) (Q : Exit → St → Prop) : Exit → St → Prop
  | .exit j, st => match Nat.beq j id with | true => Q .normal st | false => Q (.exit j) st
  | e, st => Q e st
section
variable {P : Program} {C : Ctx} {st : St} {Q : Exit → St → Prop}
theorem WP.skip (h : Q .normal st) : WP P C .skip st Q := fun a w hs => wp_skip ⟨st, h, hs⟩
theorem WP.label {l : Nat} (h : Q .normal st) : WP P C (.label l) st Q := fun a w hs => wp_label ⟨st, h, hs⟩
theorem WP.exit {i : Nat} (h : Q (.exit i) st) : WP P C (.exit i) st Q := fun a w hs => wp_exit ⟨st, h, hs⟩
theorem WP.ret (h : Q .ret st) : WP P C .ret st Q := fun a w hs => wp_ret ⟨st, h, hs⟩
theorem WP.seq {x y : Code} (h : WP P C x st (thenK (fun s => WP P C y s Q) Q)) : WP P C (.seq x y) st Q := fun a w hs =>
  wp_seq (wp_mono (h a w hs) fun e a w ⟨s, hq, hs⟩ => by
    cases e with
    | normal => exact hq a w hs
    | _ => exact ⟨s, hq, hs⟩)
theorem WP.block {i : Nat} {c : Code} (h : WP P C c st (inBlk i Q)) : WP P C (.block i c) st Q := fun a w hs =>
  wp_block (wp_mono (h a w hs) fun e a w ⟨s, hq, hs⟩ => by
    cases e with
    | exit j =>
      simp only [Exit.inBlock, inBlk] at *
      by_cases hj : j = i
      · subst hj; simp at hq; simp; exact ⟨s, hq, hs⟩
      · have : Nat.beq j i = false := by rw [Bool.eq_false_iff]; simpa using hj
        simp only [this] at hq
        rw [if_neg hj]; exact ⟨s, hq, hs⟩
    | _ => exact ⟨s, hq, hs⟩)
theorem ev_const_has {E : Env} {S : Nat → Prop} {w : World} {v : Value} {av : AV} (h : st.ev (.const v) = some av) : av.has E S w v ∧ av.ids = [] := by
  cases v <;> simp only [St.ev] at h <;> first | (cases h; done) | (obtain rfl := Option.some.inj h; exact ⟨rfl, rfl⟩)
/-- What an operand stands for. -/
theorem SatE.ev {E : Env} {S : Nat → Prop} {a : Act} {w : World} (h : SatE C st E S a w) {x : Operand} {av : AV} (hx : st.ev x = some av) : av.has E S w (a.eval x) ∧ ∀ b ∈ av.ids, (st.hp b).used = true := by
  cases x with
  | tmp t => exact ⟨h.tm t av hx, h.tid t av hx⟩
  | const v =>
    obtain ⟨h1, h2⟩ := ev_const_has (E := E) (S := S) (w := w) hx
    exact ⟨h1, fun b hb => by rw [h2] at hb; cases hb⟩
  | global g => obtain rfl := Option.some.inj hx; exact ⟨rfl, fun b hb => by cases hb⟩
  | func f => obtain rfl := Option.some.inj hx; exact ⟨rfl, fun b hb => by cases hb⟩
theorem WP.cond {c : Operand} {x y : Code} {t : Bool} (hc : st.ev c = some (.v (.bool t))) (h1 : t = true → WP P C x st Q) (h2 : t = false → WP P C y st Q) : WP P C (.cond c x y) st Q := fun a w hs => by
  obtain ⟨E, S, hse⟩ := id hs
  refine wp_cond_split (t := t) (hse.ev hc).1 (fun ht => h1 ht a w hs) (fun ht => h2 ht a w hs)
theorem WP.condT {c : Operand} {x y : Code} (hc : st.ev c = some (.v (.bool true))) (h1 : WP P C x st Q) : WP P C (.cond c x y) st Q := WP.cond hc (fun _ => h1) (fun h => by cases h)
theorem WP.condF {c : Operand} {x y : Code} (hc : st.ev c = some (.v (.bool false))) (h1 : WP P C y st Q) : WP P C (.cond c x y) st Q := WP.cond hc (fun h => by cases h) (fun _ => h1)
theorem WP.condE {c : Operand} {x y : Code} {t u : Bool} (hc : st.ev c = some (.v (.bool t))) (ht : t = u) (h : WP P C (match u with | true => x | false => y) st Q) : WP P C (.cond c x y) st Q := by
  subst ht
  refine WP.cond hc (fun e => ?_) (fun e => ?_) <;> (subst e; exact h)
/-- One state says no more than another. -/
def St.le (C : Ctx) (st st' : St) : Prop := ∀ a w, Sat C st a w → Sat C st' a w
theorem WP.weaken {c : Code} {st' : St} (h : St.le C st st') (k : WP P C c st' Q) : WP P C c st Q := fun a w hs => k a w (h a w hs)
theorem WP.mono {c : Code} {Q' : Exit → St → Prop} (h : WP P C c st Q) (k : ∀ e s, Q e s → Q' e s) : WP P C c st Q' := fun a w hs =>
  wp_mono (h a w hs) fun _ _ _ ⟨s, hq, hs⟩ => ⟨s, k _ _ hq, hs⟩
theorem WP.loop {c : Code} {ι : Type} (I : ι → St) (μ : ι → Nat) (i0 : ι) (h0 : St.le C st (I i0))
    (round : ∀ i, WP P C c (I i) (thenK (fun s => ∃ j, St.le C s (I j) ∧ μ j < μ i) Q)) : WP P C (.loop c) st Q := fun a w hs => by
  have key : ∀ n i a w, μ i < n → Sat C (I i) a w → Code.rounds P c (fun ex a w => ∃ st', Q ex st' ∧ Sat C st' a w) n a w := by
    intro n
    induction n with
    | zero => intro i a w h; omega
    | succ n ih =>
      intro i a w hlt hs
      rw [rounds_succ]
      refine wp_mono (round i a w hs) fun e a w ⟨s, hq, hs⟩ => ?_
      cases e with
      | normal =>
        obtain ⟨j, hle, hj⟩ := hq
        exact ih j a w (by omega) (hle a w hs)
      | _ => exact ⟨s, hq, hs⟩
  exact wp_loop_rounds (μ i0 + 1) (key _ i0 a w (by omega) (h0 a w hs))
end

section
variable {P : Program} {C : Ctx}
/-- A region's operations in text order; 'acc': the footprints so far, the last one first. -/
def Reg (P : Program) (C : Ctx) (ops rest : List Oper) (st : St) (acc : List (List Nat × List Nat)) (K : List (List Nat × List Nat) → St → Prop) : Prop :=
  ∃ ods st', ods.map (·.1) = rest ∧ Tr P C ops ods st st' ∧ K (acc.reverse ++ ods.map fun p => foot p.2) st'
variable {ops rest : List Oper} {st : St} {acc : List (List Nat × List Nat)} {K : List (List Nat × List Nat) → St → Prop} {o : Oper}
theorem Reg.nil (h : K acc.reverse st) : Reg P C ops [] st acc K := ⟨[], st, rfl, rfl, by simpa using h⟩
theorem Reg.cons {d : Dec} (hd : DecOK P C ops o st d) (h : Reg P C ops rest (d.app o st) (foot d :: acc) K) : Reg P C ops (o :: rest) st acc K := by
  obtain ⟨ods, st', h1, h2, h3⟩ := h
  exact ⟨(o, d) :: ods, st', by simp [h1], ⟨hd, h2⟩, by simpa using h3⟩
theorem Reg.run {fp : List Nat} {out : Out} (hg : o.guard = none) (h : OpOK P C o st fp out) (next : Reg P C ops rest (st.app o.dst out) ((fp, out.hp.map (·.1)) :: acc) K) : Reg P C ops (o :: rest) st acc K :=
  Reg.cons (d := .run fp out) ⟨by unfold Guard; rw [hg], h⟩ next
theorem Reg.runG {fp : List Nat} {out : Out} {j t : Nat} {b b' : Bool} (hg : o.guard = some (j, b)) (ht : (ops[j]?).bind (·.dst) = some t) (hv : st.tm t = some (.v (.bool b'))) (hb : b' = b) (h : OpOK P C o st fp out) (next : Reg P C ops rest (st.app o.dst out) ((fp, out.hp.map (·.1)) :: acc) K) : Reg P C ops (o :: rest) st acc K :=
  Reg.cons (d := .run fp out) ⟨by unfold Guard; rw [hg]; exact ⟨t, ht, .inl ⟨b', hv, by subst hb; simp⟩⟩, h⟩ next
theorem Reg.skipG {j t : Nat} {b b' : Bool} (hg : o.guard = some (j, b)) (ht : (ops[j]?).bind (·.dst) = some t) (hv : st.tm t = some (.v (.bool b'))) (hb : b' = !b) (next : Reg P C ops rest (st.put o.dst (some (.v undef))) (([], []) :: acc) K) : Reg P C ops (o :: rest) st acc K :=
  Reg.cons (d := .skip) (show Guard ops o st false by unfold Guard; rw [hg]; exact ⟨t, ht, .inl ⟨b', hv, by subst hb; cases b <;> rfl⟩⟩) next
theorem Reg.skipU {j t : Nat} {b : Bool} (hg : o.guard = some (j, b)) (ht : (ops[j]?).bind (·.dst) = some t) (hv : st.tm t = some (.v undef)) (next : Reg P C ops rest (st.put o.dst (some (.v undef))) (([], []) :: acc) K) : Reg P C ops (o :: rest) st acc K :=
  Reg.cons (d := .skip) (show Guard ops o st false by unfold Guard; rw [hg]; exact ⟨t, ht, .inr ⟨hv, rfl⟩⟩) next

theorem appL_false : ∀ (l : List (Oper × Dec)) (i : Nat) (st : St) (L : Nat → Bool), (∀ k, i ≤ k → L k = false) → appL L i l st = st
  | [], _, _, _, _ => rfl
  | (o, d) :: l, i, st, L, h => by
    simp only [appL, h i (Nat.le_refl _)]
    exact appL_false l (i + 1) st L (fun k hk => h k (by omega))
theorem tr_at : ∀ (l : List (Oper × Dec)) (i : Nat) (st st' : St), Tr P C ops l st st' →
    (∀ (k : Nat) (o : Oper) (d : Dec), l[k]? = some (o, d) → DecOK P C ops o (appL (fun j => decide (j < i + k)) i l st) d) ∧ st' = appL (fun _ => true) i l st
  | [], _, _, _, h => ⟨by simp, h.symm⟩
  | (p, e) :: l, i, st, st', h => by
    obtain ⟨h1, h2⟩ := tr_at l (i + 1) _ st' h.2
    refine ⟨fun k o d hk => ?_, by rw [h2]; rfl⟩
    cases k with
    | zero =>
      simp at hk
      obtain ⟨rfl, rfl⟩ := hk
      rw [appL_false _ _ _ _ (fun k hk => by simp; omega)]
      exact h.1
    | succ k =>
      have := h1 k o d (by simpa using hk)
      simp only [appL]
      rw [decide_eq_true (show i < i + (k + 1) by omega), show i + (k + 1) = i + 1 + k by omega]
      exact this
theorem text_order {ops : Array Oper} {Q : Exit → Act → World → Prop} : ∀ (l : List (Oper × Dec)) (i : Nat) (st st' : St) (a : Act) (w : World), ops.toList.drop i = l.map (·.1) → Tr P C ops.toList l st st' → Sat C st a w →
    (∀ a w, Sat C st' a w → Q .normal a w) → wpOps P ops Q (List.range' i l.length) a w
  | [], i, st, st', a, w, _, h, hs, hQ => by
    have : st = st' := h
    subst this
    exact hQ a w hs
  | (o, d) :: l, i, st, st', a, w, hd, h, hs, hQ => by
    have hi : ops[i]? = some o := by
      have := congrArg (fun m => m[0]?) hd
      simpa [List.getElem?_drop] using this
    have htl : ops.toList.drop (i + 1) = l.map (·.1) := by
      have := congrArg (List.drop 1) hd
      simpa [List.drop_drop, Nat.add_comm] using this
    rw [List.length_cons, List.range'_succ, wpOps_cons]
    exact dec_wp hi h.1 (fun _ _ => rfl) (fun _ _ => rfl) hs (fun a' w' hs' => text_order l (i + 1) _ st' a' w' htl h.2 hs' hQ)
theorem Sat.drew {a : Act} {w : World} (h : Sat C st a w) : Sat C st a w.drew := by
  obtain ⟨E, S, h⟩ := h
  refine ⟨E, S, { h with lt := h.lt, tm := fun t v ht => (h.tm t v ht).step (fun _ _ => ⟨rfl, rfl⟩) (Off.drew S w) (fun k hk => .inl hk), hp := fun b e hb => (h.hp b e hb).step (fun _ _ => ⟨rfl, rfl⟩) ⟨rfl, rfl⟩ (Off.drew S w) (fun k hk => .inl hk) (fun _ _ => rfl), off := h.off.trans (Off.drew _ _) }⟩
variable {Q : Exit → St → Prop}
theorem WP.region {id : Nat} {ops : Array Oper} (h : Reg P C ops.toList ops.toList st [] (fun _ st' => Q .normal st')) : WP P C (.region id ops false) st Q := fun a w hs => by
  obtain ⟨ods, st', h1, h2, h3⟩ := h
  refine wp_region ?_
  have hl : ods.length = ops.size := by have := congrArg List.length h1; simpa using this
  rw [List.range_eq_range', ← hl]
  exact text_order ods 0 st st' a w (by simpa using h1.symm) h2 hs fun a w hs' => ⟨st', h3, hs'⟩
theorem WP.regionD {id : Nat} {ops : Array Oper} (hm : P.follows .mixedOrders = true) (h : Reg P C ops.toList ops.toList st [] (fun feet st' => check ops feet = true ∧ Q .normal st')) : WP P C (.region id ops true) st Q := fun a w hs => by
  obtain ⟨ods, st', h1, h2, hc, h3⟩ := h
  obtain ⟨h4, h5⟩ := tr_at ods 0 st st' h2
  have hl : ods.length = ops.size := by have := congrArg List.length h1; simpa using this
  have hrep : ∀ k, (Array.replicate ops.size false).getD k false = false := fun k => by
    rw [Array.getD_eq_getD_getElem?, Array.getElem?_replicate]; split <;> rfl
  refine wp_region_any hm (any_order (C := C) (ods := ods) (st := st) h1.symm (by simpa using hc) (fun i o d hi => by simpa using h4 i o d hi) (fun a w hs' => ⟨st', h3, by rw [h5]; exact hs'⟩) ops.size _ a _ (by simp [hl]) (by simp) (fun j k hj => ?_) ?_)
  · rw [hrep] at hj; cases hj
  · rw [appL_false _ _ _ _ (fun k _ => hrep k)]
    exact hs.drew
theorem WP.regionL {id : Nat} {l : List Oper} (h : Reg P C l l st [] (fun _ st' => Q .normal st')) : WP P C (.region id l.toArray false) st Q := WP.region h
theorem WP.regionDL {id : Nat} {l : List Oper} (hm : P.follows .mixedOrders = true) (h : Reg P C l l st [] (fun feet st' => check l.toArray feet = true ∧ Q .normal st')) : WP P C (.region id l.toArray true) st Q := WP.regionD hm h
end
end SX

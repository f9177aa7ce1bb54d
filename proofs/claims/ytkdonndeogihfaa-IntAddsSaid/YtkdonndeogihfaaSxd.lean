import Derived.Test.YtkdonndeogihfaaSxc
/- What an operation leaves; the rules of the symbolic run. No program in sight. -/
set_option linter.unusedVariables false
set_option linter.unusedSimpArgs false
namespace SX
open Go Go.RowKit

/-- The environments agree at these numbers. -/
def Env.at' (E E' : Env) (b : Nat) : Prop := E'.blk b = E.blk b ∧ E'.sl b = E.sl b
theorem Atom.has.step {a : Atom} {E E' : Env} {S S' : Nat → Prop} {w w' : World} {v : Value} (h : a.has E S w v) (he : ∀ b ∈ a.ids, E.at' E' b) (ho : Off S w w') (hs : ∀ k, S' k → S k ∨ w.heap.size ≤ k) : a.has E' S' w' v := by
  cases a with
  | c a => exact CA.has.step h ho hs
  | ptr b off => exact h.trans (by rw [(he b (by simp [Atom.ids])).1])
  | own b => exact ⟨h.1.trans (he b (by simp [Atom.ids])).2.symm, h.2⟩
  | rptr b off =>
    obtain ⟨g, n, cap, h1, h2⟩ := h
    exact ⟨g, n, cap, (he b (by simp [Atom.ids])).2.trans h1, h2⟩
  | clo f cap =>
    refine h.trans ?_
    congr 2
    refine List.map_congr_left fun p hp => ?_
    rw [(he p.1 (by simp [Atom.ids]; exact ⟨p.2, hp⟩)).1]
theorem AV0.has.step {a : AV0} {E E' : Env} {S S' : Nat → Prop} {w w' : World} {v : Value} (h : a.has E S w v) (he : ∀ b ∈ a.ids, E.at' E' b) (ho : Off S w w') (hs : ∀ k, S' k → S k ∨ w.heap.size ≤ k) : a.has E' S' w' v := by
  cases a with
  | one a => exact Atom.has.step (a := a) h he ho hs
  | agg l =>
    obtain ⟨vs, hv, h⟩ := h
    exact ⟨vs, hv, h.mono fun a b ha hab => hab.step (fun i hi => he i (List.mem_flatMap.2 ⟨a, ha, hi⟩)) ho hs⟩
theorem AV.has.step {a : AV} {E E' : Env} {S S' : Nat → Prop} {w w' : World} {v : Value} (h : a.has E S w v) (he : ∀ b ∈ a.ids, E.at' E' b) (ho : Off S w w') (hs : ∀ k, S' k → S k ∨ w.heap.size ≤ k) : a.has E' S' w' v := by
  cases a with
  | it a => exact AV0.has.step (a := a) h he ho hs
  | tup l =>
    obtain ⟨vs, hv, h⟩ := h
    exact ⟨vs, hv, h.mono fun a b ha hab => hab.step (fun i hi => he i (List.mem_flatMap.2 ⟨a, ha, hi⟩)) ho hs⟩
theorem ownsRow_block {w w' : World} {base : Nat} {e : TypeId} {size : Nat} {v : Value} {n : Nat} {xs : List Value} (h : w.ownsRow base e size v n xs) (hb : ∀ k, v.ownBlock = some k → w'.heap[k]? = w.heap[k]?) : w'.ownsRow base e size v n xs := by
  refine ⟨h.1, ?_⟩
  rcases h.2 with hn | ⟨g, cap, cur, rfl, hb', hgg, rest⟩
  · exact .inl hn
  · exact .inr ⟨g, cap, cur, rfl, hb', by rw [hb g rfl]; exact hgg, rest⟩
theorem Ent.has.step {e : Ent} {b : Nat} {E E' : Env} {S S' : Nat → Prop} {w w' : World} (h : e.has E S w b) (he : ∀ i ∈ e.ids, E.at' E' i) (hb : E.at' E' b) (ho : Off S w w') (hs : ∀ k, S' k → S k ∨ w.heap.size ≤ k)
    (hk : ∀ k, e.blk E b = some k → w'.heap[k]? = w.heap[k]?) : e.has E' S' w' b := by
  cases e with
  | box t cells =>
    obtain ⟨cs, h1, h2⟩ := h
    refine ⟨cs, by rw [hb.1, hk _ rfl]; exact h1, h2.mono fun a x ha hax => hax.step (fun i hi => he i (List.mem_flatMap.2 ⟨a, ha, hi⟩)) ho hs⟩
  | row t size n cells =>
    obtain ⟨vs, h1, h2⟩ := h
    refine ⟨vs, by rw [hb.2]; exact ownsRow_block h1 hk, h2.mono fun a x _ hax => hax.step ho hs⟩
theorem Ent.blk_congr {e : Ent} {b : Nat} {E E' : Env} (hb : E.at' E' b) : e.blk E' b = e.blk E b := by
  cases e with
  | box t cells => simp [Ent.blk, hb.1]
  | row t size n cells => simp [Ent.blk, hb.2]

/-- What an operation, or a call, leaves: 'pre': what it may write. -/
structure Eff (E : Env) (S : Nat → Prop) (w : World) (pre : List (Nat × Ent)) (out : Out) (v : Value) (w' : World) (E' : Env) (S' : Nat → Prop) : Prop where
  env : ∀ b, ((∃ s, (b, s) ∈ out.hp) → ∃ e, (b, e) ∈ pre) → E.at' E' b
  sub : ∀ k, S k → S' k
  new : ∀ k, S' k → S k ∨ w.heap.size ≤ k
  lt : ∀ k, S' k → k < w'.heap.size
  off : Off (fun k => ∃ b e, (b, e) ∈ pre ∧ e.blk E b = some k) w w'
  res : out.res.has E' S' w' v
  ents : ∀ b e, (b, Slot.ent e) ∈ out.hp → e.has E' S' w' b
  blk : ∀ b e k, (b, Slot.ent e) ∈ out.hp → e.blk E' b = some k → S' k ∧ ((∃ b e, (b, e) ∈ pre ∧ e.blk E b = some k) ∨ w.heap.size ≤ k)
  sep : ∀ b b' e e' k, b ≠ b' → (b, Slot.ent e) ∈ out.hp → (b', Slot.ent e') ∈ out.hp → e.blk E' b = some k → e'.blk E' b' ≠ some k
theorem updL_cases (b : Nat) : ∀ (l : List (Nat × Slot)) (f : Nat → Slot), (∃ s, (b, s) ∈ l ∧ updL f l b = s) ∨ ((∀ s, (b, s) ∉ l) ∧ updL f l b = f b)
  | [], f => .inr ⟨by simp, rfl⟩
  | (j, u) :: l, f => by
    rcases updL_cases b l (upd f j u) with ⟨s, h1, h2⟩ | ⟨h1, h2⟩
    · exact .inl ⟨s, by simp [h1], h2⟩
    · by_cases e : b = j
      · subst e; exact .inl ⟨u, by simp, h2.trans (by simp)⟩
      · exact .inr ⟨fun s hs => by simp at hs; exact hs.elim (fun h => e h.1) (h1 s), h2.trans (upd_ne _ _ e)⟩
theorem putT_cases {f : Nat → Option AV} {dst : Option Tmp} {v : Option AV} {t : Nat} : (dst = some t ∧ putT f dst v t = v) ∨ (dst ≠ some t ∧ putT f dst v t = f t) := by
  cases dst with
  | none => exact .inr ⟨by simp, rfl⟩
  | some d =>
    by_cases e : t = d
    · subst e; exact .inl ⟨rfl, upd_same _ _ _⟩
    · exact .inr ⟨fun h => e (Option.some.inj h).symm, upd_ne _ _ e⟩
/-- The ids of what an operation leaves are at hand. -/
def Out.known (out : Out) (hp : Nat → Slot) : Prop :=
  (∀ i ∈ out.res.ids, (updL hp out.hp i).used = true) ∧ (∀ b e, (b, Slot.ent e) ∈ out.hp → ∀ i ∈ e.ids, (updL hp out.hp i).used = true)
theorem SatE.eff {C : Ctx} {st : St} {E E' : Env} {S S' : Nat → Prop} {a : Act} {w w' : World} {pre : List (Nat × Ent)} {out : Out} {v : Value} {dst : Option Tmp} (h : SatE C st E S a w)
    (hd : ∀ d, dst = some d → d < C.nt) (hpre : ∀ b e, (b, e) ∈ pre → st.hp b = .ent e ∧ ∃ s, (b, s) ∈ out.hp) (hnew : ∀ b s, (b, s) ∈ out.hp → (∃ e, (b, e) ∈ pre) ∨ st.hp b = .free)
    (hkeep : ∀ b s, (b, s) ∈ out.hp → s.used = true) (hid : out.known st.hp) (x : Eff E S w pre out v w' E' S') : SatE C (st.app dst out) E' S' (a.put dst v) w' := by
  have hoffS : Off S w w' := x.off.mono fun k ⟨b, e, hb, hk⟩ => (h.blk b e k (hpre b e hb).1 hk).1
  have hnotkey : ∀ b, (st.hp b).used = true → E.at' E' b := fun b hb => x.env b fun ⟨s, hs⟩ => (hnew b s hs).resolve_right (fun e => by rw [e] at hb; cases hb)
  have hused : ∀ b, (st.hp b).used = true → (updL st.hp out.hp b).used = true := by
    intro b hb
    rcases updL_cases b out.hp st.hp with ⟨s, h1, h2⟩ | ⟨_, h2⟩
    · rw [h2]; exact hkeep b s h1
    · rw [h2]; exact hb
  have hent : ∀ b e, updL st.hp out.hp b = .ent e → (b, Slot.ent e) ∈ out.hp ∨ (st.hp b = .ent e ∧ ∀ s, (b, s) ∉ out.hp) := by
    intro b e hb
    rcases updL_cases b out.hp st.hp with ⟨s, h1, h2⟩ | ⟨h1, h2⟩
    · rw [hb] at h2; subst h2; exact .inl h1
    · exact .inr ⟨h2.symm.trans hb, h1⟩
  have hpreblk : ∀ k, (∃ b e, (b, e) ∈ pre ∧ e.blk E b = some k) → k < w.heap.size ∧ S k ∧ (C.B k ∨ C.w0.heap.size ≤ k) := fun k ⟨b, e, hb, hk⟩ => by
    have := h.blk b e k (hpre b e hb).1 hk
    exact ⟨h.lt k this.1, this⟩
  have hold : ∀ b e, st.hp b = .ent e → (∀ s, (b, s) ∉ out.hp) → ∀ k, e.blk E b = some k → k < w.heap.size ∧ ¬ ∃ b e, (b, e) ∈ pre ∧ e.blk E b = some k := by
    intro b e hb hn k hk
    refine ⟨h.lt k (h.blk b e k hb hk).1, fun ⟨b', e', hb', hk'⟩ => ?_⟩
    have hne : b ≠ b' := fun e1 => by subst e1; obtain ⟨s, hs⟩ := (hpre b e' hb').2; exact hn s hs
    exact h.sep b b' e e' k hne hb (hpre b' e' hb').1 hk hk'
  refine
    { dfr := ?_, nt := ?_, cT := fun k hk => x.sub k (h.cT k hk), cT0 := h.cT0, cS := fun k hk => ?_, lt := x.lt, tm := fun t u ht => ?_, tid := fun t u ht i hi => ?_, hp := fun b e hb => ?_, hid := fun b e hb i hi => ?_,
      blk := fun b e k hb hk => ?_, sep := fun b b' e e' k hne hb hb' hk hk' => ?_, off := ?_, env := fun b hb => ?_ }
  · rw [← h.dfr]; cases dst <;> rfl
  · rw [← h.nt]; cases dst <;> simp [Act.put]
  · rcases x.new k hk with h1 | h1
    · exact h.cS k h1
    · exact .inr (Nat.le_trans h.off.size h1)
  · rcases putT_cases (f := st.tm) (dst := dst) (v := some out.res) (t := t) with ⟨h1, h2⟩ | ⟨h1, h2⟩
    · have : u = out.res := by have := h2.symm.trans ht; exact (Option.some.inj this).symm
      subst this
      subst h1
      have hlt : t < a.tmps.size := by rw [h.nt]; exact hd t rfl
      simp only [Act.put]
      simpa [hlt] using x.res
    · have h3 := h.tm t u (h2.symm.trans ht)
      have h4 : (a.put dst v).tmps.getD t undef = a.tmps.getD t undef := by
        cases dst with
        | none => rfl
        | some d =>
          have : d ≠ t := fun e => h1 (by rw [e])
          simp [Act.put, Array.getElem?_setIfInBounds_ne this]
      rw [h4]
      exact h3.step (fun b hb => hnotkey b (h.tid t u (h2.symm.trans ht) b hb)) hoffS x.new
  · rcases putT_cases (f := st.tm) (dst := dst) (v := some out.res) (t := t) with ⟨h1, h2⟩ | ⟨h1, h2⟩
    · have : u = out.res := by have := h2.symm.trans ht; exact (Option.some.inj this).symm
      subst this
      exact hid.1 i hi
    · exact hused i (h.tid t u (h2.symm.trans ht) i hi)
  · rcases hent b e hb with h1 | ⟨h1, h2⟩
    · exact x.ents b e h1
    · have hat := hnotkey b (by rw [h1]; rfl)
      refine (h.hp b e h1).step (fun i hi => hnotkey i (h.hid b e h1 i hi)) hat hoffS x.new fun k hk => ?_
      obtain ⟨h3, h4⟩ := hold b e h1 h2 k hk
      exact x.off.block k h3 h4
  · rcases hent b e hb with h1 | ⟨h1, h2⟩
    · exact hid.2 b e h1 i hi
    · exact hused i (h.hid b e h1 i hi)
  · rcases hent b e hb with h1 | ⟨h1, h2⟩
    · obtain ⟨h3, h4⟩ := x.blk b e k h1 hk
      refine ⟨h3, h4.elim (fun h5 => (hpreblk k h5).2.2) (fun h5 => .inr (Nat.le_trans h.off.size h5))⟩
    · have hat := hnotkey b (by rw [h1]; rfl)
      rw [Ent.blk_congr hat] at hk
      obtain ⟨h3, h4⟩ := h.blk b e k h1 hk
      exact ⟨x.sub k h3, h4⟩
  · rcases hent b e hb with h1 | ⟨h1, h2⟩
    · rcases hent b' e' hb' with h1' | ⟨h1', h2'⟩
      · exact x.sep b b' e e' k hne h1 h1' hk hk'
      · rw [Ent.blk_congr (hnotkey b' (by rw [h1']; rfl))] at hk'
        obtain ⟨h3, h4⟩ := hold b' e' h1' h2' k hk'
        exact (x.blk b e k h1 hk).2.elim h4 (fun h5 => by omega)
    · rw [Ent.blk_congr (hnotkey b (by rw [h1]; rfl))] at hk
      obtain ⟨h3, h4⟩ := hold b e h1 h2 k hk
      rcases hent b' e' hb' with h1' | ⟨h1', h2'⟩
      · exact (x.blk b' e' k h1' hk').2.elim h4 (fun h5 => by omega)
      · rw [Ent.blk_congr (hnotkey b' (by rw [h1']; rfl))] at hk'
        exact h.sep b b' e e' k hne h1 h1' hk hk'
  · exact h.off.trans2 x.off (fun k hk => hk) (fun k hk => (hpreblk k hk).2.2.imp id id)
  · obtain ⟨h1, h2, h3⟩ := h.env b hb
    have hat := hnotkey b h3
    exact ⟨hat.1.trans h1, hat.2.trans h2, hused b h3⟩

/-- The operation's rule out of what it leaves. 'rd': what it reads of the call's own, 'pre': what it may write. -/
theorem OpOK.eff {P : Program} {C : Ctx} {o : Oper} {st : St} {fp : List Nat} {out : Out} (rd pre : List (Nat × Ent))
    (hfp : ∀ b, ((∃ e, (b, e) ∈ rd) ∨ (∃ e, (b, e) ∈ pre) ∨ ∃ s, (b, s) ∈ out.hp) → b ∈ fp) (hd : ∀ d, o.dst = some d → d < C.nt)
    (hrd : ∀ b e, (b, e) ∈ rd → st.hp b = .ent e) (hpre : ∀ b e, (b, e) ∈ pre → st.hp b = .ent e ∧ ∃ s, (b, s) ∈ out.hp) (hnew : ∀ b s, (b, s) ∈ out.hp → (∃ e, (b, e) ∈ pre) ∨ st.hp b = .free)
    (hkeep : ∀ b s, (b, s) ∈ out.hp → s.used = true)
    (h : ∀ st' E S a w, (∀ x ∈ o.op.operands, st'.ev x = st.ev x) → (∀ b ∈ fp, st'.hp b = st.hp b) → SatE C st' E S a w → (∀ b e, (b, e) ∈ rd → st'.hp b = .ent e) → (∀ b e, (b, e) ∈ pre → st'.hp b = .ent e) →
      out.known st'.hp ∧ ∀ (K : Act → World → Prop) (Q : Exit → Act → World → Prop), (∀ v w' E' S', Eff E S w pre out v w' E' S' → K (a.put o.dst v) w') → o.wp P a w K Q) :
    OpOK P C o st fp out := by
  intro st' hev hhp a w ⟨E, S, hs⟩ K Q hK
  have e1 : ∀ b e, (b, e) ∈ rd → st'.hp b = .ent e := fun b e hb => by rw [hhp b (hfp b (.inl ⟨e, hb⟩))]; exact hrd b e hb
  have e2 : ∀ b e, (b, e) ∈ pre → st'.hp b = .ent e := fun b e hb => by rw [hhp b (hfp b (.inr (.inl ⟨e, hb⟩)))]; exact (hpre b e hb).1
  obtain ⟨hk, hw⟩ := h st' E S a w hev hhp hs e1 e2
  refine hw K Q fun v w' E' S' x => hK v w' ⟨E', S', hs.eff hd (fun b e hb => ⟨e2 b e hb, (hpre b e hb).2⟩) (fun b s hb => ?_) hkeep hk x⟩
  exact (hnew b s hb).imp id fun h1 => by rw [hhp b (hfp b (.inr (.inr ⟨s, hb⟩)))]; exact h1
end SX

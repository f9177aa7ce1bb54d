import Derived.Test.YtkdonndeogihfaaSxl
/- The rules of the symbolic run: shifts and bits; how a state is forgotten and renamed at a loop's head. No program in sight. -/
set_option linter.unusedVariables false
set_option linter.unusedSimpArgs false
namespace SX
open Go Go.RowKit
section
variable {P : Program} {C : Ctx} {st : St}
variable {ops rest : List Oper} {acc : List (List Nat × List Nat)} {K : List (List Nat × List Nat) → St → Prop} {dst : Option Tmp} {op : Op} {ty : TypeId}
variable {x y : Operand} {t t' : TypeId} {k k' : IntKind} {m n : Int}
theorem Go1.shr {z : Int} (hd : dstOK dst C.nt = true) (hx : st.ev x = some (.v (.int k m))) (hy : st.ev y = some (.v (.int k' n))) (h0 : 0 ≤ n) (hw : m.fdiv (2 ^ (min n.toNat k.bits)) = z) (next : Reg P C ops rest (st.app dst ⟨.v (.int k z), []⟩) (([], []) :: acc) K) : Go1 P C ops dst (.binOp .shr t x y t') ty rest st acc K :=
  Go1.val2 hd rfl hx hy (fun ρ o w ho h1 h2 => by unfold execOp; rw [ho]; simp [h1, h2, eqGuard, binOp, Op.shift, hw, Int.not_lt.2 h0]) next
theorem Go1.shl {z : Int} (hd : dstOK dst C.nt = true) (hx : st.ev x = some (.v (.int k m))) (hy : st.ev y = some (.v (.int k' n))) (h0 : 0 ≤ n) (hw : k.wrap (m * 2 ^ (min n.toNat k.bits)) = z) (next : Reg P C ops rest (st.app dst ⟨.v (.int k z), []⟩) (([], []) :: acc) K) : Go1 P C ops dst (.binOp .shl t x y t') ty rest st acc K :=
  Go1.val2 hd rfl hx hy (fun ρ o w ho h1 h2 => by unfold execOp; rw [ho]; simp [h1, h2, eqGuard, binOp, Op.shift, hw, Int.not_lt.2 h0]) next
theorem Go1.and {z : Int} (hd : dstOK dst C.nt = true) (hx : st.ev x = some (.v (.int k m))) (hy : st.ev y = some (.v (.int k n))) (hw : k.wrap ((BitVec.ofInt k.bits m &&& BitVec.ofInt k.bits n).toNat : Int) = z) (next : Reg P C ops rest (st.app dst ⟨.v (.int k z), []⟩) (([], []) :: acc) K) : Go1 P C ops dst (.binOp .and t x y t') ty rest st acc K :=
  Go1.val2 hd rfl hx hy (fun ρ o w ho h1 h2 => by unfold execOp; rw [ho]; simp [h1, h2, eqGuard, binOp, Op.intBits, ← hw]) next
end
theorem and1_i64 (m : Int) : IntKind.i64.wrap ((BitVec.ofInt IntKind.i64.bits m &&& BitVec.ofInt IntKind.i64.bits 1).toNat : Int) = m % 2 := by
  have e : (BitVec.ofInt IntKind.i64.bits m &&& BitVec.ofInt IntKind.i64.bits 1).toNat = (m % 2).toNat := by
    rw [BitVec.toNat_and, show (BitVec.ofInt IntKind.i64.bits 1).toNat = 1 from rfl, Nat.and_one_is_mod, BitVec.toNat_ofInt]
    show (m % (2 ^ 64 : Nat)).toNat % 2 = _
    omega
  rw [e, Int.toNat_of_nonneg (by omega)]
  exact IntWalk.i64_in _ ⟨by omega, by omega⟩

/-- Looking up in a list. -/
def lk {α : Type} : List (Nat × α) → Nat → Option α
  | [], _ => none
  | (j, v) :: l, k => match Nat.beq j k with | true => some v | false => lk l k
theorem lk_mem {α : Type} : ∀ {l : List (Nat × α)} {k : Nat} {v : α}, lk l k = some v → (k, v) ∈ l
  | [], _, _, h => by cases h
  | (j, u) :: l, k, v, h => by
    unfold lk at h
    cases hj : Nat.beq j k with
    | true => simp only [hj] at h; have : j = k := by simpa using hj
              subst this; cases h; exact List.mem_cons_self
    | false => simp only [hj] at h; exact List.mem_cons_of_mem _ (lk_mem h)
/-- A state that is told by lists. -/
def mkSt (l : List (Nat × AV)) (m : List (Nat × Ent)) : St := ⟨fun t => lk l t, fun b => match lk m b with | some e => .ent e | none => .free⟩
/-- Where the new names come from: an old name, or a row of none. -/
def reEnv (ρ : List (Nat × Option Nat)) (E : Env) : Env :=
  ⟨fun b => match lk ρ b with | some (some o) => E.blk o | some none => 0 | none => E.blk b, fun b => match lk ρ b with | some (some o) => E.sl o | some none => .slice none 0 0 | none => E.sl b⟩
def AVto (ρ : List (Nat × Option Nat)) (x y : AV) : Prop := ∀ E S w v, x.has E S w v → y.has (reEnv ρ E) S w v
theorem Atom.has.env {a : Atom} {E E' : Env} {S : Nat → Prop} {w : World} {v : Value} (h : a.has E S w v) (he : ∀ b ∈ a.ids, E.at' E' b) : a.has E' S w v := h.step he (Off.refl S w) (fun k hk => .inl hk)
theorem AV.has.env {a : AV} {E E' : Env} {S : Nat → Prop} {w : World} {v : Value} (h : a.has E S w v) (he : ∀ b ∈ a.ids, E.at' E' b) : a.has E' S w v := h.step he (Off.refl S w) (fun k hk => .inl hk)
/-- None of the names is changed. -/
def fresh (ρ : List (Nat × Option Nat)) (l : List Nat) : Bool := l.all fun b => (lk ρ b).isNone
theorem fresh_at {ρ : List (Nat × Option Nat)} {l : List Nat} (h : fresh ρ l = true) (E : Env) : ∀ b ∈ l, E.at' (reEnv ρ E) b := by
  intro b hb
  have := List.all_eq_true.1 h b hb
  have h2 : lk ρ b = none := by simpa using this
  exact ⟨by simp only [reEnv, h2], by simp only [reEnv, h2]⟩
theorem AVto.same {ρ : List (Nat × Option Nat)} {x : AV} (h : fresh ρ x.ids = true) : AVto ρ x x := fun E S w v hv => hv.env (fresh_at h E)
theorem AVto.eq {ρ : List (Nat × Option Nat)} {x y : AV} (e : x = y) (h : fresh ρ x.ids = true) : AVto ρ x y := e ▸ AVto.same h
theorem AVto.own {ρ : List (Nat × Option Nat)} {o b : Nat} (h : lk ρ b = some (some o)) : AVto ρ (.own o) (.own b) := fun E S w v hv => by
  obtain ⟨h1, h2⟩ := hv
  exact ⟨by simp only [reEnv, h]; exact h1, h2⟩
theorem AVto.nil {ρ : List (Nat × Option Nat)} {b : Nat} (h : lk ρ b = some none) : AVto ρ (.v (.slice none 0 0)) (.own b) := fun E S w v hv => by
  have hv' : v = .slice none 0 0 := hv
  subst hv'
  exact ⟨by simp only [reEnv, h], rfl⟩
/-- A block of the new state comes from one of the old. -/
inductive EntTo (st : St) (ρ : List (Nat × Option Nat)) (b : Nat) (e : Ent) : Prop where
  | old (o : Nat) (e0 : Ent) (ho : st.hp o = .ent e0) (hb : lk ρ b = some (some o) ∨ (lk ρ b = none ∧ o = b)) (hh : ∀ E S w, e0.has E S w o → e.has (reEnv ρ E) S w b) (hk : ∀ E, e.blk (reEnv ρ E) b = e0.blk E o)
  | nil (hb : lk ρ b = some none) (hh : ∀ E S w, e.has (reEnv ρ E) S w b) (hk : ∀ E, e.blk (reEnv ρ E) b = none)
theorem EntTo.same {st : St} {ρ : List (Nat × Option Nat)} {b : Nat} {e : Ent} (h : st.hp b = .ent e) (hf : fresh ρ (b :: e.ids) = true) : EntTo st ρ b e := by
  have ha := fresh_at hf
  refine .old b e h (.inr ⟨?_, rfl⟩) (fun E S w hh => hh.step (fun i hi => ha E i (List.mem_cons_of_mem _ hi)) (ha E b List.mem_cons_self) (Off.refl S w) (fun k hk => .inl hk) (fun _ _ => rfl)) (fun E => Ent.blk_congr (ha E b List.mem_cons_self))
  have := List.all_eq_true.1 hf b List.mem_cons_self
  simpa using this
theorem EntTo.eq {st : St} {ρ : List (Nat × Option Nat)} {b : Nat} {e0 e : Ent} (h : st.hp b = .ent e0) (he : e0 = e) (hf : fresh ρ (b :: e0.ids) = true) : EntTo st ρ b e := he ▸ EntTo.same h hf
theorem EntTo.row {st : St} {ρ : List (Nat × Option Nat)} {o b : Nat} {t : TypeId} {size n n' : Nat} {cells cells' : List CA} (h : st.hp o = .ent (.row t size n cells)) (hb : lk ρ b = some (some o)) (hn : n = n') (hc : cells = cells') : EntTo st ρ b (.row t size n' cells') := by
  subst hn; subst hc
  refine .old o _ h (.inl hb) (fun E S w hh => ?_) (fun E => ?_)
  · obtain ⟨vs, h1, h2⟩ := hh
    exact ⟨vs, by simp only [reEnv, hb]; exact h1, h2⟩
  · simp only [Ent.blk, reEnv, hb]
/-- A row of none in a temporary that holds nil. -/
theorem EntTo.nilRow {st : St} {ρ : List (Nat × Option Nat)} {b : Nat} {t : TypeId} {size : Nat} (hb : lk ρ b = some none) : EntTo st ρ b (.row t size 0 []) := by
  refine .nil hb (fun E S w => ⟨[], ?_, trivial⟩) (fun E => ?_)
  · simp only [reEnv, hb]; exact World.ownsRow_nil ..
  · simp only [Ent.blk, reEnv, hb]; rfl
theorem EntTo.box {st : St} {ρ : List (Nat × Option Nat)} {b : Nat} {t : TypeId} {cells0 cells : List Atom} (h : st.hp b = .ent (.box t cells0)) (hi : AV0.imp (.agg cells0) (.agg cells)) (hf : fresh ρ (b :: cells.flatMap Atom.ids) = true) : EntTo st ρ b (.box t cells) := by
  have ha := fresh_at hf
  refine .old b _ h (.inr ⟨?_, rfl⟩) (fun E S w hh => ?_) (fun E => congrArg some (ha E b List.mem_cons_self).1)
  · have := List.all_eq_true.1 hf b List.mem_cons_self
    simpa using this
  · obtain ⟨cs, h1, h2⟩ := hh
    obtain ⟨vs, hv, h3⟩ := hi E S w _ ⟨cs, rfl, h2⟩
    have e : cs = vs := by simpa using hv
    subst e
    refine ⟨cs, ?_, ?_⟩
    · rw [(ha E b List.mem_cons_self).1]; exact h1
    · exact h3.mono fun a v hm hh => hh.env fun i hi => ha E i (List.mem_cons_of_mem _ (List.mem_flatMap.2 ⟨a, hm, hi⟩))
def TmTo (st : St) (ρ : List (Nat × Option Nat)) : List (Nat × AV) → Prop
  | [] => True
  | (t, v) :: l => (∃ u, st.tm t = some u ∧ AVto ρ u v) ∧ TmTo st ρ l
def HpTo (st : St) (ρ : List (Nat × Option Nat)) : List (Nat × Ent) → Prop
  | [] => True
  | (b, e) :: l => EntTo st ρ b e ∧ HpTo st ρ l
theorem TmTo.mem {st : St} {ρ : List (Nat × Option Nat)} : ∀ {l : List (Nat × AV)}, TmTo st ρ l → ∀ t v, (t, v) ∈ l → ∃ u, st.tm t = some u ∧ AVto ρ u v
  | [], _, _, _, hm => by cases hm
  | _ :: _, ⟨h1, h2⟩, t, v, hm => by
    rcases List.mem_cons.1 hm with e | hm
    · cases e; exact h1
    · exact h2.mem t v hm
theorem HpTo.mem {st : St} {ρ : List (Nat × Option Nat)} : ∀ {l : List (Nat × Ent)}, HpTo st ρ l → ∀ t v, (t, v) ∈ l → EntTo st ρ t v
  | [], _, _, _, hm => by cases hm
  | _ :: _, ⟨h1, h2⟩, t, v, hm => by
    rcases List.mem_cons.1 hm with e | hm
    · cases e; exact h1
    · exact h2.mem t v hm
def src (ρ : List (Nat × Option Nat)) (b : Nat) : Option Nat := match lk ρ b with | some r => r | none => some b
def eqO : Option Nat → Option Nat → Bool
  | some a, some b => Nat.beq a b
  | _, _ => false
/-- Every name that is used has its block, and no two names come from one. -/
def tidy (ρ : List (Nat × Option Nat)) (l : List (Nat × AV)) (m : List (Nat × Ent)) : Bool :=
  ((l.all fun p => p.2.ids.all fun b => (lk m b).isSome) && (m.all fun p => p.2.ids.all fun b => (lk m b).isSome)) &&
  (m.all fun p => m.all fun q => Nat.beq p.1 q.1 || !(eqO (src ρ p.1) (src ρ q.1)))
theorem used_of {m : List (Nat × Ent)} {l : List (Nat × AV)} {b : Nat} (h : (lk m b).isSome = true) : ((mkSt l m).hp b).used = true := by
  obtain ⟨e, he⟩ := Option.isSome_iff_exists.1 h
  simp [mkSt, he, Slot.used]
theorem hp_mem {m : List (Nat × Ent)} {l : List (Nat × AV)} {b : Nat} {e : Ent} (h : (mkSt l m).hp b = .ent e) : (b, e) ∈ m := by
  simp only [mkSt] at h
  cases hl : lk m b with
  | none => simp [hl] at h
  | some e' => simp only [hl] at h; cases h; exact lk_mem hl
theorem EntTo.src {st : St} {ρ : List (Nat × Option Nat)} {b : Nat} {e : Ent} (h : EntTo st ρ b e) : (∃ o e0, SX.src ρ b = some o ∧ st.hp o = .ent e0 ∧ (∀ E, e.blk (reEnv ρ E) b = e0.blk E o)) ∨ ∀ E, e.blk (reEnv ρ E) b = none := by
  cases h with
  | old o e0 ho hb hh hk =>
    refine .inl ⟨o, e0, ?_, ho, hk⟩
    rcases hb with hb | ⟨hb, rfl⟩ <;> simp [SX.src, hb]
  | nil hb hh hk => exact .inr hk
theorem St.le_to {C : Ctx} {st : St} {l : List (Nat × AV)} {m : List (Nat × Ent)} (ρ : List (Nat × Option Nat)) (hfix : ∀ b, C.fix b = true → lk ρ b = none ∧ (lk m b).isSome = true) (ht : TmTo st ρ l) (hm : HpTo st ρ m) (hti : tidy ρ l m = true) : St.le C st (mkSt l m) := by
  intro a w ⟨E, S, hs⟩
  unfold tidy at hti
  rw [Bool.and_eq_true, Bool.and_eq_true] at hti
  obtain ⟨⟨h1, h2⟩, h3⟩ := hti
  refine ⟨reEnv ρ E, S, { dfr := hs.dfr, nt := hs.nt, cT := hs.cT, cT0 := hs.cT0, cS := hs.cS, lt := hs.lt, tm := fun t v hv => ?_, tid := fun t v hv b hb => ?_, hp := fun b e hb => ?_, hid := fun b e hb i hi => ?_, blk := fun b e k hb hk => ?_, sep := fun b b' e e' k hne hb hb' hk hk' => ?_, off := hs.off, env := fun b hb => ?_ }⟩
  · obtain ⟨u, hu, hto⟩ := ht.mem t v (lk_mem hv)
    exact hto _ _ _ _ (hs.tm t u hu)
  · exact used_of (List.all_eq_true.1 (List.all_eq_true.1 h1 _ (lk_mem hv)) b hb)
  · cases hm.mem b e (hp_mem hb) with
    | old o e0 ho _ hh hk => exact hh _ _ _ (hs.hp o e0 ho)
    | nil _ hh _ => exact hh _ _ _
  · exact used_of (List.all_eq_true.1 (List.all_eq_true.1 h2 _ (hp_mem hb)) i hi)
  · rcases (hm.mem b e (hp_mem hb)).src with ⟨o, e0, _, ho, hk0⟩ | hk0
    · rw [hk0] at hk; exact hs.blk o e0 k ho hk
    · rw [hk0] at hk; cases hk
  · rcases (hm.mem b e (hp_mem hb)).src with ⟨o, e0, so, ho, hk0⟩ | hk0
    · rcases (hm.mem b' e' (hp_mem hb')).src with ⟨o', e0', so', ho', hk0'⟩ | hk0'
      · rw [hk0] at hk; rw [hk0'] at hk'
        have := List.all_eq_true.1 (List.all_eq_true.1 h3 _ (hp_mem hb)) _ (hp_mem hb')
        rw [so, so'] at this
        have hno : o ≠ o' := by
          intro e
          subst e
          simp [eqO, hne] at this
        exact hs.sep o o' e0 e0' k hno ho ho' hk hk'
      · rw [hk0'] at hk'; cases hk'
    · rw [hk0] at hk; cases hk
  · obtain ⟨h4, h5⟩ := hfix b hb
    obtain ⟨g1, g2, _⟩ := hs.env b hb
    exact ⟨by simp only [reEnv, h4]; exact g1, by simp only [reEnv, h4]; exact g2, used_of h5⟩
/-- Two parts of a text meet in a state that is told. -/
theorem WP.meet {P : Program} {C : Ctx} {st : St} {Q : Exit → St → Prop} {x y : Code} (I : St) (h : WP P C x st (thenK (fun s => St.le C s I) Q)) (k : WP P C y I Q) : WP P C (.seq x y) st Q :=
  WP.seq (WP.mono h fun e s hq => by
    cases e with
    | normal => exact k.weaken hq
    | _ => exact hq)
end SX

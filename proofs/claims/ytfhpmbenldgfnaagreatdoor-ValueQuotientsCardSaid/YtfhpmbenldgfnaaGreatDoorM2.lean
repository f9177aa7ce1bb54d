import Derived.Test.YtfhpmbenldgfnaaGreatDoorM1
import Derived.Lib.Builder
import Derived.Lib.AppendStr
import Derived.Lib.UnsafeStr
import Derived.Lib.SliceRun
import Derived.Test.YtfhpmbenldgfnaaGreatDoorM12
/- Calls that read and write their caller's variables; function values. No program in sight. -/
set_option linter.unusedVariables false
set_option linter.unusedSimpArgs false
namespace SX
open Go Go.RowKit
def memB (l : List Nat) (i : Nat) : Bool := l.any (Nat.beq i)
theorem memB_iff {l : List Nat} {i : Nat} : memB l i = true ↔ i ∈ l := by
  unfold memB
  rw [List.any_eq_true]
  constructor
  · rintro ⟨x, hx, he⟩
    have : i = x := by simpa using he
    rw [this]; exact hx
  · intro h; exact ⟨i, h, by simp⟩
def Slot.ids : Slot → List Nat
  | .ent e => e.ids
  | _ => []
def nodupB : List Nat → Bool
  | [] => true
  | a :: l => !memB l a && nodupB l
/-- Is a contract with boxes well made? -/
def preOK (args : List AV) (pre : List (Nat × Ent)) (out : Out) : Bool :=
  nodupB (pre.map (·.1)) && (pre.all fun p => (Slot.ent p.2).isBox) && (args.all fun v => v.ids.all (memB (pre.map (·.1)))) && (pre.all fun p => p.2.ids.all (memB (pre.map (·.1)))) && ((pre.map (·.1)).all (memB (out.hp.map (·.1)))) &&
    ((out.res.ids ++ out.hp.flatMap fun p => p.2.ids).all fun i => memB (pre.map (·.1)) i || memB (out.hp.map (·.1)) i)
section
variable {P : Program} {C : Ctx} {st : St}
variable {ops rest : List Oper} {acc : List (List Nat × List Nat)} {K : List (List Nat × List Nat) → St → Prop} {dst : Option Tmp} {d : Tmp} {op : Op} {ty t t' : TypeId} {x y z : Operand}
/-- The variables that a call sees: those of its arguments, and those that they point to. -/
def pnames : List Nat := [29, 81, 82, 83, 84]
def reach (st : St) (args : List AV) (cap : List Nat) : List Nat :=
  let l := cap ++ args.flatMap AV.ids
  l ++ l.flatMap fun b => (st.hp b).ids
def keysOf (l : List Nat) : List Nat := pnames.filter fun k => memB l k
def preOf (st : St) : List Nat → Option (List (Nat × Ent))
  | [] => some []
  | b :: l => match st.hp b, preOf st l with
    | .ent e, some m => some ((b, e) :: m)
    | _, _ => none
theorem preOf_mem {st : St} : ∀ {l : List Nat} {m : List (Nat × Ent)}, preOf st l = some m → ∀ b e, (b, e) ∈ m → st.hp b = .ent e
  | [], m, h, b, e, hb => by cases h; cases hb
  | a :: l, m, h, b, e, hb => by
    unfold preOf at h
    cases h1 : st.hp a with
    | ent e1 =>
      cases h2 : preOf st l with
      | none => simp [h1, h2] at h
      | some m' =>
        simp only [h1, h2] at h
        cases h
        rcases List.mem_cons.1 hb with hb | hb
        · cases hb; exact h1
        · exact preOf_mem h2 b e hb
    | free => simp [h1] at h
    | gone => simp [h1] at h
/-- Is what a call leaves such as it should be? -/
def outOK (args : List AV) (pre : List (Nat × Ent)) (out : Out) : Bool :=
  ((pre.map (·.1)).all (memB (out.hp.map (·.1)))) && ((out.hp.map (·.1)).all (memB (pre.map (·.1)))) && (out.hp.all fun p => p.2.used) && ((out.res.ids ++ out.hp.flatMap fun p => p.2.ids).all fun i => memB (out.hp.map (·.1)) i)
theorem G.callP {fx : Operand} {f : FuncId} {cap : List (Nat × Nat)} {as : Array Operand} {tys : Array TypeId} {args : List AV} {pre : List (Nat × Ent)} {out : Out}
    (next : Reg P C ops rest (st.app dst out) ((out.hp.map (·.1), out.hp.map (·.1)) :: acc) K) (hd : dstOK dst C.nt = true := by rfl) (hf : st.ev fx = some (.it (.one (.clo f cap))) := by rfl) (ha : evs st as.toList = some args := by rfl)
    (hk : preOf st (keysOf (reach st args (cap.map (·.1)))) = some pre := by rfl) (hc : CallOK P f (args ++ cap.map fun p => .ptr p.1 p.2) pre out := by assumption) (ho : outOK args pre out = true := by rfl) : Go1 P C ops dst (.call ⟨.value fx, as, tys⟩) ty rest st acc K := by
  unfold outOK at ho
  simp only [Bool.and_eq_true] at ho
  obtain ⟨⟨⟨o1, o2⟩, o3⟩, o4⟩ := ho
  refine Go1.callG hd hf ha hc (fun b e hb => ⟨preOf_mem hk b e hb, ?_⟩) (fun b s hb => .inl ?_) (fun b s hb => List.all_eq_true.1 o3 (b, s) hb) (fun b s hb => List.mem_map.2 ⟨(b, s), hb, rfl⟩) (fun i hi => .inl ?_) next
  · have := memB_iff.1 (List.all_eq_true.1 o1 b (List.mem_map.2 ⟨(b, e), hb, rfl⟩))
    obtain ⟨⟨b', s⟩, hs, rfl⟩ := List.mem_map.1 this
    exact ⟨s, hs⟩
  · have := memB_iff.1 (List.all_eq_true.1 o2 b (List.mem_map.2 ⟨(b, s), hb, rfl⟩))
    obtain ⟨⟨b', e⟩, hs, rfl⟩ := List.mem_map.1 this
    exact ⟨e, hs⟩
  · have hi' : i ∈ out.res.ids ++ out.hp.flatMap fun p => p.2.ids := by
      rw [List.mem_append]
      rcases hi with hi | ⟨b, e, hb, hi⟩
      · exact .inl hi
      · exact .inr (List.mem_flatMap.2 ⟨(b, .ent e), hb, hi⟩)
    obtain ⟨⟨b', s⟩, hs, rfl⟩ := List.mem_map.1 (memB_iff.1 (List.all_eq_true.1 o4 i hi'))
    exact ⟨s, hs⟩
/-- Function values. -/
def ptrsOf : List AV → Option (List (Nat × Nat))
  | [] => some []
  | .it (.one (.ptr b off)) :: l => match ptrsOf l with | some m => some ((b, off) :: m) | none => none
  | _ :: _ => none
/-- A mark: the variable that this place makes bears this name. -/
structure Named (d b : Nat) : Prop where
/-- Do the boxes stand as they should? -/
def HpIs (st : St) : List (Nat × Slot) → Prop
  | [] => True
  | (b, s) :: l => st.hp b = s ∧ HpIs st l
end
section
variable {P : Program} {C : Ctx} {st : St}
variable {ops rest : List Oper} {acc : List (List Nat × List Nat)} {K : List (List Nat × List Nat) → St → Prop} {dst : Option Tmp} {d : Tmp} {ty t : TypeId} {x y z : Operand}
/-- Slices of two and of three elements, written out. -/
def litB (size : Nat) (v : AV0) (m : List CA) : Bool := Nat.beq m.length size && Nat.ble size 1000 && v.cells.all Atom.oneB
end
section
variable {P : Program} {C : Ctx} {st : St}
variable {ops rest : List Oper} {acc : List (List Nat × List Nat)} {K : List (List Nat × List Nat) → St → Prop} {dst : Option Tmp} {d : Tmp} {ty t e : TypeId} {x y : Operand} {k : IntKind} {i n size : Nat} {zi : Int}
/-- An array's length and its element. -/
class TArr (P : Program) (t : TypeId) (n : outParam Nat) (e : outParam TypeId) (size : outParam Nat) : Prop where
  h : P.underlying t = some (.array n e)
  s : (P.info? e).map (·.size) = some size
end
section
variable {P : Program} {C : Ctx} {st : St}
variable {ops rest : List Oper} {acc : List (List Nat × List Nat)} {K : List (List Nat × List Nat) → St → Prop} {dst : Option Tmp} {d : Tmp} {ty t : TypeId} {x y : Operand}
/-- What is not looked at. -/
def junkR : Rep where
  has _ _ v := v.oneCell' = true
  one h := h
  step h _ _ := h
end
structure HeldP (q : Prop) : Prop where
  out : q
end SX
/- Boxes that are written no more; functions as values. No program in sight. -/
set_option linter.unusedVariables false
set_option linter.unusedSimpArgs false
namespace SX
open Go Go.RowKit
def mpL (σ : Atom → Atom) : List Atom → List Atom
  | [] => []
  | a :: l => σ a :: mpL σ l
def AV0.mp (σ : Atom → Atom) : AV0 → AV0
  | .one a => .one (σ a)
  | .agg l => .agg (mpL σ l)
def mpT (σ : Atom → Atom) : List AV0 → List AV0
  | [] => []
  | a :: l => a.mp σ :: mpT σ l
def AV.mp (σ : Atom → Atom) : AV → AV
  | .it x => .it (x.mp σ)
  | .tup l => .tup (mpT σ l)
def Ent.mp (σ : Atom → Atom) : Ent → Ent
  | .abs A => .abs A
  | .box t l => .box t (mpL σ l)
  | .row t s n l => .row t s n l
def Slot.mp (σ : Atom → Atom) : Slot → Slot
  | .ent e => .ent (e.mp σ)
  | .free => .free
  | .gone => .gone
/-- A state, one of whose blocks is given away. -/
def St.mp (st : St) (b : Nat) (σ : Atom → Atom) : St :=
  ⟨fun t => match st.tm t with | some v => some (v.mp σ) | none => none, upd (fun c => (st.hp c).mp σ) b .gone⟩
section
variable {σ : Atom → Atom}
theorem mpL_ids (hσ : ∀ a, ∀ i ∈ (σ a).ids, i ∈ a.ids) : ∀ (l : List Atom), ∀ i ∈ (mpL σ l).flatMap Atom.ids, i ∈ l.flatMap Atom.ids
  | [], i, hi => hi
  | a :: l, i, hi => by
    simp only [mpL, List.flatMap_cons, List.mem_append] at hi ⊢
    exact hi.imp (hσ a i) (mpL_ids hσ l i)
theorem AV0.mp_ids (hσ : ∀ a, ∀ i ∈ (σ a).ids, i ∈ a.ids) (x : AV0) : ∀ i ∈ (x.mp σ).ids, i ∈ x.ids := by
  cases x with
  | one a => exact hσ a
  | agg l => exact mpL_ids hσ l
theorem mpT_ids (hσ : ∀ a, ∀ i ∈ (σ a).ids, i ∈ a.ids) : ∀ (l : List AV0), ∀ i ∈ (mpT σ l).flatMap AV0.ids, i ∈ l.flatMap AV0.ids
  | [], i, hi => hi
  | a :: l, i, hi => by
    simp only [mpT, List.flatMap_cons, List.mem_append] at hi ⊢
    exact hi.imp (a.mp_ids hσ i) (mpT_ids hσ l i)
theorem AV.mp_ids (hσ : ∀ a, ∀ i ∈ (σ a).ids, i ∈ a.ids) (x : AV) : ∀ i ∈ (x.mp σ).ids, i ∈ x.ids := by
  cases x with
  | it a => exact a.mp_ids hσ
  | tup l => exact mpT_ids hσ l
theorem Ent.mp_ids (hσ : ∀ a, ∀ i ∈ (σ a).ids, i ∈ a.ids) (x : Ent) : ∀ i ∈ (x.mp σ).ids, i ∈ x.ids := by
  cases x with
  | abs A => intro i hi; cases hi
  | box t l => exact mpL_ids hσ l
  | row t s m l => exact fun i h => h
variable {E : Env} {S S' : Nat → Prop} {w : World}
theorem mpL_has (f : ∀ a v, Atom.has E S w a v → (σ a).has E S' w v) : ∀ {l : List Atom} {vs : List Value}, All2 (Atom.has E S w) l vs → All2 (Atom.has E S' w) (mpL σ l) vs
  | [], [], _ => trivial
  | a :: _, v :: _, h => ⟨f a v h.1, mpL_has f h.2⟩
  | [], _ :: _, h => h.elim
  | _ :: _, [], h => h.elim
theorem AV0.has.mp (f : ∀ a v, Atom.has E S w a v → (σ a).has E S' w v) {x : AV0} {v : Value} (h : x.has E S w v) : (x.mp σ).has E S' w v := by
  cases x with
  | one a => exact f a v h
  | agg l => obtain ⟨vs, h1, h2⟩ := h; exact ⟨vs, h1, mpL_has f h2⟩
theorem mpT_has (f : ∀ a v, Atom.has E S w a v → (σ a).has E S' w v) : ∀ {l : List AV0} {vs : List Value}, All2 (AV0.has E S w) l vs → All2 (AV0.has E S' w) (mpT σ l) vs
  | [], [], _ => trivial
  | _ :: _, _ :: _, h => ⟨AV0.has.mp f h.1, mpT_has f h.2⟩
  | [], _ :: _, h => h.elim
  | _ :: _, [], h => h.elim
theorem AV.has.mp (f : ∀ a v, Atom.has E S w a v → (σ a).has E S' w v) {x : AV} {v : Value} (h : x.has E S w v) : (x.mp σ).has E S' w v := by
  cases x with
  | it a => exact AV0.has.mp f h
  | tup l => obtain ⟨vs, h1, h2⟩ := h; exact ⟨vs, h1, mpT_has f h2⟩
theorem Ent.has.mp (f : ∀ a v, Atom.has E S w a v → (σ a).has E S' w v) (hsub : ∀ k, S' k → S k) {e : Ent} {c : Nat} (h : e.has E S w c) : (e.mp σ).has E S' w c := by
  cases e with
  | abs A => exact A.step h (Off.refl S w) (fun k hk => .inl (hsub k hk)) (fun _ _ => rfl)
  | box t l => obtain ⟨cs, h1, h2⟩ := h; exact ⟨cs, h1, mpL_has f h2⟩
  | row t s m l => obtain ⟨vs, h1, h2⟩ := h; exact ⟨vs, h1, h2.mono fun a v _ ha => ha.step (Off.refl S w) (fun k hk => .inl (hsub k hk))⟩
end
theorem St.le_mp {C : Ctx} {st : St} {b : Nat} {e : Ent} {σ : Atom → Atom} (hσi : ∀ a, ∀ i ∈ (σ a).ids, i ∈ a.ids) (hB : ∀ k, ¬ C.B k) (hb : st.hp b = .ent e)
    (hσ : ∀ E S w, e.has E S w b → (∀ k, e.at E b k → S k) → ∀ a v, Atom.has E S w a v → (σ a).has E (fun k => S k ∧ ¬ e.at E b k) w v) : St.le C st (st.mp b σ) := by
  intro a w ⟨E, S, hs⟩
  have f := hσ E S w (hs.hp b e hb) (fun k hk => (hs.blk b e k hb hk).1)
  have hkey : ∀ c e', (st.mp b σ).hp c = .ent e' → c ≠ b ∧ ∃ e0, st.hp c = .ent e0 ∧ e' = e0.mp σ := by
    intro c e' hc
    have hc' : upd (fun c => (st.hp c).mp σ) b .gone c = .ent e' := hc
    by_cases hcb : c = b
    · subst hcb; rw [upd_same] at hc'; cases hc'
    · rw [upd_ne _ _ hcb] at hc'
      refine ⟨hcb, ?_⟩
      cases h1 : st.hp c with
      | ent e0 => rw [h1] at hc'; simp only [Slot.mp] at hc'; cases hc'; exact ⟨e0, rfl, rfl⟩
      | free => rw [h1] at hc'; cases hc'
      | gone => rw [h1] at hc'; cases hc'
  have hused : ∀ c, (st.hp c).used = true → ((st.mp b σ).hp c).used = true := by
    intro c hc
    show (upd (fun c => (st.hp c).mp σ) b .gone c).used = true
    by_cases hcb : c = b
    · subst hcb; rw [upd_same]; rfl
    · rw [upd_ne _ _ hcb]
      cases h1 : st.hp c with
      | ent e0 => rfl
      | free => rw [h1] at hc; cases hc
      | gone => rfl
  have htm : ∀ t v, (st.mp b σ).tm t = some v → ∃ v0, st.tm t = some v0 ∧ v = v0.mp σ := by
    intro t v ht
    have ht' : (match st.tm t with | some v => some (v.mp σ) | none => none) = some v := ht
    cases h1 : st.tm t with
    | none => rw [h1] at ht'; cases ht'
    | some v0 => rw [h1] at ht'; cases ht'; exact ⟨v0, rfl, rfl⟩
  have hblk : ∀ (e0 : Ent) c, (e0.mp σ).at E c = e0.at E c := fun e0 c => by cases e0 <;> rfl
  refine ⟨E, fun k => S k ∧ ¬ e.at E b k, { dfr := hs.dfr, nt := hs.nt, cT := fun k hk => ⟨hs.cT k hk, fun h => ?_⟩, cT0 := hs.cT0, cS := fun k hk => hs.cS k hk.1, lt := fun k hk => hs.lt k hk.1, tm := fun t v ht => ?_, tid := fun t v ht i hi => ?_, hp := fun c e' hc => ?_, hid := fun c e' hc i hi => ?_, blk := fun c e' k hc hk => ?_, sep := fun c c' e1 e2 k hne hc hc' hk => ?_, off := hs.off, env := fun c hc => ?_, gl := hs.gl.sub fun k hk => hk.1 }⟩
  · have h1 := (hs.blk b e k hb h).2.resolve_left (hB k)
    have h2 := hs.cT0 k hk
    omega
  · obtain ⟨v0, h1, rfl⟩ := htm t v ht
    exact AV.has.mp f (hs.tm t v0 h1)
  · obtain ⟨v0, h1, rfl⟩ := htm t v ht
    exact hused i (hs.tid t v0 h1 i (v0.mp_ids hσi i hi))
  · obtain ⟨_, e0, h1, rfl⟩ := hkey c e' hc
    exact Ent.has.mp f (fun k hk => hk.1) (hs.hp c e0 h1)
  · obtain ⟨_, e0, h1, rfl⟩ := hkey c e' hc
    exact hused i (hs.hid c e0 h1 i (e0.mp_ids hσi i hi))
  · obtain ⟨hcb, e0, h1, rfl⟩ := hkey c e' hc
    rw [hblk] at hk
    have h2 := hs.blk c e0 k h1 hk
    exact ⟨⟨h2.1, fun h => hs.sep c b e0 e k hcb h1 hb hk h⟩, h2.2⟩
  · obtain ⟨_, e3, h1, rfl⟩ := hkey c e1 hc
    obtain ⟨_, e4, h2, rfl⟩ := hkey c' e2 hc'
    rw [hblk] at hk ⊢
    exact hs.sep c c' e3 e4 k hne h1 h2 hk
  · obtain ⟨g1, g2, g3⟩ := hs.env c hc
    exact ⟨g1, g2, hused c g3⟩
/-- A box that is written no more. -/
def bfz (b : Nat) (m : List CA) : Atom → Atom
  | .c a => .c a
  | .ptr k off => match Nat.beq k b with | true => .c (.sat (ptrR (m.drop off))) | false => .ptr k off
  | .own k => .own k
  | .rptr k off => .rptr k off
  | .clo f cap => .clo f cap
  | .bnd f k => .bnd f k
  | .rel k R => .rel k R
theorem bfz_ptr {b off : Nat} {m : List CA} : bfz b m (.ptr b off) = .c (.sat (ptrR (m.drop off))) := by
  simp only [bfz, Nat.beq_refl]
theorem bfz_ptr_ne {b k off : Nat} {m : List CA} (h : k ≠ b) : bfz b m (.ptr k off) = .ptr k off := by
  simp only [bfz, beq_ne h]
theorem bfz_ids (b : Nat) (m : List CA) (a : Atom) : ∀ i ∈ (bfz b m a).ids, i ∈ a.ids := by
  cases a with
  | ptr k off =>
    intro i hi
    by_cases hk : k = b
    · subst hk; rw [bfz_ptr] at hi; cases hi
    · rw [bfz_ptr_ne hk] at hi; exact hi
  | _ => exact fun i hi => hi
theorem St.le_bfz {C : Ctx} {st : St} {b : Nat} {t : TypeId} {cells : List Atom} {m : List CA} (hB : ∀ k, ¬ C.B k) (hb : st.hp b = .ent (.box t cells)) (hc : closedL cells = some m) : St.le C st (st.mp b (bfz b m)) :=
  St.le_mp (bfz_ids b m) hB hb fun E S w hh hS a v ha => by
    have hsub : ∀ k, (fun k => S k ∧ ¬ (Ent.box t cells).at E b k) k → S k := fun k hk => hk.1
    have keep : ∀ a : Atom, a.has E S w v → a.has E (fun k => S k ∧ ¬ (Ent.box t cells).at E b k) w v := fun a ha => ha.step (fun _ _ => ⟨rfl, rfl⟩) (Off.refl S w) (fun k hk => .inl (hsub k hk))
    cases a with
    | ptr k off =>
      by_cases hk : k = b
      · subst hk
        rw [bfz_ptr]
        obtain ⟨cs, h1, h2⟩ := hh
        rw [closedL_spec hc] at h2
        have h3 := all2_closed h2
        refine ptrR_iff.2 ⟨E.blk k, off, ha, fun i c hic => ?_⟩
        rw [List.getElem?_drop] at hic
        obtain ⟨u, hu, huc⟩ := h3.get hic
        have hcell := cells_of_block h1 0 (off + i) u (by simpa using hu)
        exact ⟨u, fun h => h.2 rfl, by simpa [Addr.add_lit] using hcell, huc.step (Off.refl S w) (fun k hk => .inl (hsub k hk))⟩
      · rw [bfz_ptr_ne hk]; exact keep _ ha
    | c a => exact keep _ ha
    | own k => exact keep _ ha
    | rptr k off => exact keep _ ha
    | clo f cap => exact keep _ ha
    | bnd f k => exact keep _ ha
    | rel k R => exact keep _ ha
/-- The box b is written no more. -/
theorem WP.freezeB {P : Program} {C : Ctx} {st : St} {Q : Exit → St → Prop} {c : Code} {t : TypeId} (b : Nat) {cells : List Atom} {m : List CA} (hB : ∀ k, ¬ C.B k) (hb : st.hp b = .ent (.box t cells)) (hc : closedL cells = some m) (h : WP P C c (st.mp b (bfz b m)) Q) : WP P C c st Q :=
  WP.weaken (St.le_bfz hB hb hc) h
/-! Functions as values. -/
def All2R (S : Nat → Prop) (w : World) : List CA → List Value → Prop := All2 (CA.has S w)
/-- A function, with what is bound to it. -/
def cloR (f : FuncId) (bs cs : List CA) : Rep where
  has S w v := ∃ us vs : List Value, v = .func (.func f) us.toArray vs.toArray ∧ All2 (CA.has S w) bs us ∧ All2 (CA.has S w) cs vs
  one h := by obtain ⟨us, vs, rfl, _⟩ := h; rfl
  step h ho hs := by
    obtain ⟨us, vs, h1, h2, h3⟩ := h
    exact ⟨us, vs, h1, h2.mono fun a b _ h => h.step ho hs, h3.mono fun a b _ h => h.step ho hs⟩
def caAV (c : CA) : AV := .it (.one (.c c))
theorem caAV_has {E : Env} {S : Nat → Prop} {w : World} : ∀ {l : List CA} {vs : List Value}, All2 (CA.has S w) l vs → All2 (AV.has E S w) (l.map caAV) vs
  | [], [], _ => trivial
  | _ :: _, _ :: _, h => ⟨h.1, caAV_has h.2⟩
  | [], _ :: _, h => h.elim
  | _ :: _, [], h => h.elim
/-- What a function's value answers. -/
def FnV (P : Program) (x : CA) (args : List AV) (r : AV) : Prop :=
  ∀ S w v, x.has S w v → ∃ (f : FuncId) (us vs : List Value) (bs cs : List AV), v = .func (.func f) (List.toArray us) (List.toArray vs) ∧ (∀ E, All2 (AV.has E S w) bs us) ∧ (∀ E, All2 (AV.has E S w) cs vs) ∧ PureOK P f (bs ++ args ++ cs) r
theorem FnV.clo {P : Program} {f : FuncId} {bs cs : List CA} {args : List AV} {r : AV} (h : PureOK P f (bs.map caAV ++ args ++ cs.map caAV) r) : FnV P (.sat (cloR f bs cs)) args r := by
  rintro S w v ⟨us, vs, h1, h2, h3⟩
  exact ⟨f, us, vs, bs.map caAV, cs.map caAV, h1, fun E => caAV_has h2, fun E => caAV_has h3, h⟩
/-- A method, with the value that is bound to it. -/
def cloA (f : FuncId) (m : List CA) : Rep where
  has S w v := ∃ us : List Value, v = .func (.func f) #[.agg us.toArray] #[] ∧ All2 (CA.has S w) m us
  one h := by obtain ⟨us, rfl, _⟩ := h; rfl
  step h ho hs := by
    obtain ⟨us, h1, h2⟩ := h
    exact ⟨us, h1, h2.mono fun a b _ h => h.step ho hs⟩
theorem has_caAV {E : Env} {S : Nat → Prop} {w : World} : ∀ {l : List CA} {vs : List Value}, All2 (AV.has E S w) (l.map caAV) vs → All2 (CA.has S w) l vs
  | [], [], _ => trivial
  | _ :: _, _ :: _, h => ⟨h.1, has_caAV h.2⟩
  | [], _ :: _, h => h.elim
  | _ :: _, [], h => h.elim
section
variable {P : Program} {C : Ctx} {st : St}
variable {ops rest : List Oper} {acc : List (List Nat × List Nat)} {K : List (List Nat × List Nat) → St → Prop} {dst : Option Tmp} {d : Tmp} {op : Op} {ty t t' : TypeId} {x y z : Operand}
def casOf : List AV → Option (List CA)
  | [] => some []
  | .it (.one (.c c)) :: l => match casOf l with | some m => some (c :: m) | none => none
  | _ :: _ => none
theorem casOf_spec : ∀ {l : List AV} {m : List CA}, casOf l = some m → l = m.map caAV
  | [], m, h => by simp [casOf] at h; subst h; rfl
  | v :: l, m, h => by
    unfold casOf at h
    split at h
    · rename_i heq; cases heq
    · rename_i c l' heq
      cases heq
      split at h
      · rename_i m' hm
        cases h
        rw [List.map_cons, casOf_spec hm]; rfl
      · cases h
    · cases h
/-- A function that sees boxes which are written no more. -/
theorem G.mkfn {f : FuncId} {bnd caps : Array Operand} {l l' : List AV} {bs cs : List CA} (next : Reg P C ops rest (st.app dst ⟨.r (cloR f bs cs), []⟩) (([], []) :: acc) K) (hd : dstOK dst C.nt = true := by rfl) (ha : evs st bnd.toList = some l := by rfl) (hc : casOf l = some bs := by rfl) (ha' : evs st caps.toList = some l' := by rfl) (hc' : casOf l' = some cs := by rfl) : Go1 P C ops dst (.makeFunc (.func f) bnd caps) ty rest st acc K :=
  Go1.pureV [] [] (by simp) hd (by simp) (fun o ho _ st' E S a w hev hs _ => by
    have hop : o.op.operands = bnd ++ caps := by rw [ho]; simp [Op.operands]
    have h1 : evs st' bnd.toList = some l := by rw [evs_congr (fun x hx => hev x (by rw [hop]; simp at hx ⊢; exact .inl hx))]; exact ha
    have h2 : evs st' caps.toList = some l' := by rw [evs_congr (fun x hx => hev x (by rw [hop]; simp at hx ⊢; exact .inr hx))]; exact ha'
    obtain ⟨g1, _⟩ := evs_has hs h1
    obtain ⟨g2, _⟩ := evs_has hs h2
    rw [casOf_spec hc] at g1
    rw [casOf_spec hc'] at g2
    refine ⟨fun i hi => (by cases hi), _, by unfold execOp; rw [ho]; simp [Instr.makeFunc]; rfl, bnd.toList.map a.eval, caps.toList.map a.eval, ?_, has_caAV g1, has_caAV g2⟩
    congr 1 <;> (apply Array.ext'; simp)) next
theorem run_enterF {o : Oper} {f : FuncId} {as : Array Operand} {tys : Array TypeId} {us vs : Array Value} {fx : Operand} {ρ : Operand → Value} (ho : o.op = .call ⟨.value fx, as, tys⟩) (hf : ρ fx = .func (.func f) us vs)
    (he : ∃ fn, P.funcs[f]? = some fn ∧ (fn.name == "runtime.NumGoroutine") = false ∧ fn.body.isNone = false) (w : World) : (execOp ρ o).run P w = .ok (.enter f (us ++ as.map ρ ++ vs)) w := by
  obtain ⟨fn, h1, h2, h3⟩ := he
  unfold execOp
  rw [ho]
  have h2' : fn.name ≠ "runtime.NumGoroutine" := by simpa using h2
  have h3' : fn.body ≠ none := by intro e; rw [e] at h3; cases h3
  simp [resolve, hf, Deferred.ofValue, invoke, callFunc, h1, h2', h3']
/-- A function's value is called. -/
theorem G.callF {fx : Operand} {c : CA} {as : Array Operand} {tys : Array TypeId} {args : List AV} {r : AV} (next : Reg P C ops rest (st.app dst ⟨r, []⟩) (([], []) :: acc) K) (hd : dstOK dst C.nt = true := by rfl) (hf : st.ev fx = some (.it (.one (.c c))) := by rfl) (ha : evs st as.toList = some args := by rfl)
    (hc : FnV P c args r := by assumption) (hr : r.ids = [] := by rfl) : Go1 P C ops dst (.call ⟨.value fx, as, tys⟩) ty rest st acc K := by
  refine ⟨[], ⟨r, []⟩, fun o h2 h3 h4 => OpOK.eff [] [] (fun b hb => ?_) (h2 ▸ dstOK_spec hd) (fun b e hb => by cases hb) (fun b e hb => by cases hb) (fun b s hb => by cases hb) (fun b s hb => by cases hb) (fun st' E S a w hev hhp hs _ _ => ?_), next⟩
  · rcases hb with ⟨e, hb⟩ | ⟨e, hb⟩ | ⟨s, hb⟩ <;> cases hb
  · have hop : o.op.operands = #[fx] ++ as := by rw [h3]; rfl
    have ha' : evs st' as.toList = some args := by rw [evs_congr (fun x hx => hev x (by rw [hop]; simp at hx; simp [hx]))]; exact ha
    obtain ⟨hall, hids⟩ := evs_has hs ha'
    have hcl := (hs.ev ((hev fx (by rw [hop]; simp)).trans hf)).1
    obtain ⟨f, us, vs, bs, cs, hv, g1, g2, hent, hcall⟩ := hc S w _ hcl
    refine ⟨⟨fun i hi => (by rw [hr] at hi; cases hi), fun b e hb => by cases hb⟩, fun K Q hK => ?_⟩
    have hcalls := hcall E S w (us ++ as.toList.map a.eval ++ vs) hs.lt hs.gl (((g1 E).append hall).append (g2 E)) (fun b e hb => by cases hb) (fun b e k hb => by cases hb) (fun b b' e e' k _ hb => by cases hb)
    unfold Oper.wp
    rw [run_enterF h3 hv hent w]
    have harr : us.toArray ++ as.map a.eval ++ vs.toArray = (us ++ as.toList.map a.eval ++ vs).toArray := by
      apply Array.ext'; simp
    show Calls P f _ w _
    rw [harr]
    exact hcalls.mono fun e w' ⟨v, E', S', he, hE⟩ => by subst he; exact hK v w' E' S' hE
end
/-- A function without anything bound to it. -/
theorem FnV.const {P : Program} {f : FuncId} {args : List AV} {r : AV} (h : PureOK P f args r) : FnV P (.sat (cloR f [] [])) args r := FnV.clo (by simpa using h)
end SX
/- Rows of rows that the call owns. No program in sight. -/
set_option linter.unusedVariables false
set_option linter.unusedSimpArgs false
namespace SX
open Go Go.RowKit
/-- The heads of an entity: the outer row's, and each inner one's. -/
def hdrs (s : Value) : List Value := match s with | .agg a => a.toList | v => [v]
def hdrAt (s : Value) (j : Nat) : Value := (hdrs s).getD j undef
def hdrR (j : Nat) : Nat → Value → Value → Prop := fun _ s v => v = hdrAt s j
def hptrR (j off : Nat) : Nat → Value → Value → Prop := fun _ s v => ∃ g n cap, hdrAt s j = .slice (some ⟨g, 0, none⟩) n cap ∧ v = .pointer (some ⟨g, off, none⟩)
def hsubR (i : Nat) : Nat → Value → Value → Prop := fun _ s v => ∃ a n cap, hdrAt s 0 = .slice a n cap ∧ i ≤ n ∧ v = .slice (if cap = i then a else a.map (·.add (i * 1))) (n - i) (cap - i)
abbrev hdrA (b j : Nat) : Atom := .rel b (hdrR j)
section
variable {α : Type}
structure RowsHas (tO tI : TypeId) (size : Nat) (enc : α → List CA) (js : List Nat) (c : List (List α)) (v : Value) (X S : Nat → Prop) (w : World) : Prop where
  out : w.ownsRow 0 tO 1 (hdrAt v 0) js.length (js.map fun j => hdrAt v (j + 1))
  lt : ∀ j ∈ js, j < c.length
  inn : ∀ j l, c[j]? = some l → ∃ vs, w.ownsRow 0 tI size (hdrAt v (j + 1)) l.length vs ∧ All2 (CA.has S w) (l.flatMap enc) vs
  sep : ∀ i j k, i < c.length + 1 → j < c.length + 1 → i ≠ j → (hdrAt v i).ownBlock = some k → (hdrAt v j).ownBlock ≠ some k
  X : ∀ k, X k ↔ ∃ i, i < c.length + 1 ∧ (hdrAt v i).ownBlock = some k
/-- Rows of rows: which stand where, and what they hold. -/
def rowsE (tO tI : TypeId) (size : Nat) (enc : α → List CA) (js : List Nat) (c : List (List α)) : AEnt where
  has _ v X S w := RowsHas tO tI size enc js c v X S w
  step := fun {b v X S S' w w'} h ho hs hX => by
    refine ⟨ownsRow_block h.out fun k hk => hX k ((h.X k).2 ⟨0, by omega, hk⟩), h.lt, fun j l hj => ?_, h.sep, h.X⟩
    have hjl : j < c.length := by
      rcases Nat.lt_or_ge j c.length with h | h
      · exact h
      · rw [List.getElem?_eq_none h] at hj; cases hj
    obtain ⟨vs, h1, h2⟩ := h.inn j l hj
    exact ⟨vs, ownsRow_block h1 fun k hk => hX k ((h.X k).2 ⟨j + 1, by omega, hk⟩), h2.mono fun a u _ ha => ha.step ho hs⟩
/-- One of the rows, by its head. -/
def HasRow (A : AEnt) (i : Nat) (e : TypeId) (size n : Nat) : Prop := ∀ b v X S w, A.has b v X S w → ∃ vs, w.ownsRow 0 e size (hdrAt v i) n vs
end
section
variable {P : Program} {C : Ctx} {st : St} {α : Type}
variable {ops rest : List Oper} {acc : List (List Nat × List Nat)} {K : List (List Nat × List Nat) → St → Prop} {dst : Option Tmp} {d : Tmp} {op : Op} {ty t t' : TypeId} {x y z : Operand} {k : IntKind}
end
section
variable {α : Type}
/-- A slice written out of one row. -/
structure LitHas (tI : TypeId) (size : Nat) (enc : α → List CA) (l : List α) (v : Value) (X S : Nat → Prop) (w : World) : Prop where
  lit : (sliceR 1 1 [.val (hdrAt v 1)]).has S w (hdrAt v 0)
  row : ∃ vs, w.ownsRow 0 tI size (hdrAt v 1) l.length vs ∧ All2 (CA.has S w) (l.flatMap enc) vs
  X : ∀ k, X k ↔ (hdrAt v 1).ownBlock = some k
def litE (tI : TypeId) (size : Nat) (enc : α → List CA) (l : List α) : AEnt where
  has _ v X S w := LitHas tI size enc l v X S w
  step := fun {b v X S S' w w'} h ho hs hX => by
    obtain ⟨vs, h1, h2⟩ := h.row
    exact ⟨(sliceR 1 1 [.val (hdrAt v 1)]).step h.lit ho hs, ⟨vs, ownsRow_block h1 fun k hk => hX k ((h.X k).2 hk), h2.mono fun a u _ ha => ha.step ho hs⟩, h.X⟩
end
section
variable {P : Program} {C : Ctx} {st : St} {α : Type}
variable {ops rest : List Oper} {acc : List (List Nat × List Nat)} {K : List (List Nat × List Nat) → St → Prop} {dst : Option Tmp} {d : Tmp} {op : Op} {ty t t' : TypeId} {x y z : Operand} {k : IntKind}
end
end SX
/- Several blocks told as one; what they hold is looked at, and given back. No program in sight. -/
set_option linter.unusedVariables false
set_option linter.unusedSimpArgs false
namespace SX
open Go Go.RowKit
section
variable {ι : Type}
/-- A variable and blocks beside it, told as one. -/
structure BunHas (φ : ι → Prop) (t : TypeId) (cells : ι → List Atom) (R : ι → List (Nat × Ent)) (bk : Nat) (X S : Nat → Prop) (w : World) (p : ι) (E : Env) : Prop where
  φ : φ p
  box : ∃ cs : List Value, w.heap[bk]? = some (.cells cs.toArray t (0, 0)) ∧ All2 (Atom.has E S w) (cells p) cs
  ents : ∀ i e, (i, e) ∈ R p → e.has E S w i
  sep : ∀ i i' e e' k, i ≠ i' → (i, e) ∈ R p → (i', e') ∈ R p → e.at E i k → ¬ e'.at E i' k
  sepb : ∀ i e, (i, e) ∈ R p → ¬ e.at E i bk
  X : ∀ k, X k ↔ k = bk ∨ ∃ i e, (i, e) ∈ R p ∧ e.at E i k
def bunE (b : Nat) (φ : ι → Prop) (t : TypeId) (cells : ι → List Atom) (R : ι → List (Nat × Ent)) : AEnt where
  has bk v X S w := ∃ p E, (E.blk b = bk ∧ E.sl b = v) ∧ BunHas φ t cells R bk X S w p E
  step := fun {bk v X S S' w w'} ⟨p, E, hself, h⟩ ho hs hX => by
    refine ⟨p, E, hself, h.φ, ?_, fun i e hi => ?_, h.sep, h.sepb, h.X⟩
    · obtain ⟨cs, h1, h2⟩ := h.box
      exact ⟨cs, by rw [hX bk ((h.X bk).2 (.inl rfl))]; exact h1, h2.mono fun a u _ ha => ha.step (fun _ _ => ⟨rfl, rfl⟩) ho hs⟩
    · exact (h.ents i e hi).step (fun _ _ => ⟨rfl, rfl⟩) ⟨rfl, rfl⟩ ho hs (fun k hk => hX k ((h.X k).2 (.inr ⟨i, e, hi, hk⟩))) rfl
def openSt (st : St) (b : Nat) (t : TypeId) (cells : List Atom) (R : List (Nat × Ent)) : St := ⟨st.tm, updL st.hp ((b, .ent (.box t cells)) :: R.map fun q => (q.1, .ent q.2))⟩
end
/-- Cells that are told under new names. -/
def AtomTo (ρ : List (Nat × Option Nat)) (x y : Atom) : Prop := ∀ E S w v, x.has E S w v → y.has (reEnv ρ E) S w v
def AtomsTo (ρ : List (Nat × Option Nat)) : List Atom → List Atom → Prop
  | [], [] => True
  | a :: l, b :: m => AtomTo ρ a b ∧ AtomsTo ρ l m
  | _, _ => False
theorem AtomTo.same {ρ : List (Nat × Option Nat)} {x : Atom} (h : fresh ρ x.ids = true) : AtomTo ρ x x := fun E S w v hv => hv.env (fresh_at h E)
theorem AtomTo.own {ρ : List (Nat × Option Nat)} {o b : Nat} (h : lk ρ b = some (some o)) : AtomTo ρ (.own o) (.own b) := fun E S w v hv => by
  obtain ⟨h1, h2⟩ := hv
  exact ⟨by simp only [reEnv, h]; exact h1, h2⟩
theorem AtomTo.nil {ρ : List (Nat × Option Nat)} {b : Nat} (h : lk ρ b = some none) : AtomTo ρ (.c (.val (.slice none 0 0))) (.own b) := fun E S w v hv => by
  have hv' : v = .slice none 0 0 := hv
  subst hv'
  exact ⟨by simp only [reEnv, h], rfl⟩
theorem AtomsTo.all {ρ : List (Nat × Option Nat)} {E : Env} {S : Nat → Prop} {w : World} : ∀ {l m : List Atom} {vs : List Value}, AtomsTo ρ l m → All2 (Atom.has E S w) l vs → All2 (Atom.has (reEnv ρ E) S w) m vs
  | [], [], [], _, _ => trivial
  | a :: l, b :: m, v :: vs, h, k => ⟨h.1 E S w v k.1, h.2.all k.2⟩
  | [], [], _ :: _, _, k => k.elim
  | _ :: _, _ :: _, [], _, k => k.elim
  | [], _ :: _, _, h, _ => h.elim
  | _ :: _, [], _, h, _ => h.elim
theorem EntTo.boxTo {st : St} {ρ : List (Nat × Option Nat)} {b : Nat} {t : TypeId} {cells0 cells : List Atom} (h : st.hp b = .ent (.box t cells0)) (hf : fresh ρ [b] = true) (hi : AtomsTo ρ cells0 cells) : EntTo st ρ b (.box t cells) := by
  have ha := fresh_at hf
  refine .old b _ h (.inr ⟨?_, rfl⟩) (fun E S w hh => ?_) (fun E => by funext k; simp only [Ent.at, (ha E b List.mem_cons_self).1])
  · have := List.all_eq_true.1 hf b List.mem_cons_self
    simpa using this
  · obtain ⟨cs, h1, h2⟩ := hh
    exact ⟨cs, by rw [(ha E b List.mem_cons_self).1]; exact h1, hi.all h2⟩
/-- A fact that is not seen by the run. -/
structure Hide (p : Prop) : Prop where
  out : p
def closeSt (st : St) (b : Nat) (A : AEnt) (os : List Nat) : St := ⟨st.tm, updL st.hp ((b, .ent (.abs A)) :: os.map fun o => (o, .gone))⟩
end SX
/- Calls that look at the call's own rows, or write one of them. No program in sight. -/
set_option linter.unusedVariables false
set_option linter.unusedSimpArgs false
namespace SX
open Go Go.RowKit
section
variable {P : Program} {C : Ctx} {st : St} {α : Type}
variable {ops rest : List Oper} {acc : List (List Nat × List Nat)} {K : List (List Nat × List Nat) → St → Prop} {dst : Option Tmp} {d : Tmp} {op : Op} {ty t t' : TypeId} {x y z : Operand} {k : IntKind}
end
end SX
/- The run with frozen boxes, functions' values and rows of rows. No program in sight. -/
set_option linter.unusedVariables false
set_option linter.unusedSimpArgs false
namespace SX
open Go Go.RowKit
theorem closedL_map : ∀ m : List CA, closedL (m.map Atom.c) = some m
  | [] => rfl
  | c :: m => by simp [closedL, closedL_map m]
theorem map_open {cells : List Atom} {m : List CA} (h : cells = m.map Atom.c) : closedL cells = some m := by rw [h]; exact closedL_map m
section
variable {P : Program} {C : Ctx} {st : St} {α : Type}
variable {ops rest : List Oper} {acc : List (List Nat × List Nat)} {K : List (List Nat × List Nat) → St → Prop} {dst : Option Tmp} {d : Tmp} {op : Op} {ty t t' : TypeId} {x y z : Operand} {k : IntKind}
theorem G.storeOWA {i : Nat} {enc : α → List CA} {l : List α} {a : α} {v : AV0} {e : TypeId} {b n size : Nat} [he : EncLen enc size] (next : Reg P C ops rest (st.app none ⟨.v undef, [(b, .ent (.row e size n ((l.set i a).flatMap enc)))]⟩) (([b], [b]) :: acc) K) (hs : (P.info? t).map (·.size) = some size := by kernel_rfl) (hx : st.ev x = some (.it (.one (.rptr b (i * size)))) := by rfl) (hy : st.ev y = some (.it v) := by rfl) (hb : st.hp b = .ent (.row e size n (l.flatMap enc)) := by rfl) (hv : v.cells = (enc a).map Atom.c := by rfl) (h1 : v.cells.all Atom.oneB = true := by rfl) (hi : i < l.length := by omega) (hn : n = l.length := by first | rfl | omega) : Go1 P C ops none (.store t x y) ty rest st acc K :=
  Go1.storeO hs hx hy hb (by rw [hv, List.length_map]; exact he.h a) (by subst hn; have := Nat.mul_le_mul_right size (show i + 1 ≤ l.length from hi); rw [Nat.succ_mul] at this; exact this) h1 (map_open hv) (flat_set l i a hi) next
end
structure HeldQ (q : Prop) : Prop where
  out : q
theorem goQ {p q : Prop} (h : q) (k : HeldQ q → p := by
    intro h
    (first
      | (refine SX.Go1.is ?_; first
          | (refine SX.Go1.isLoad ?_; first | refine SX.G.load2 ?_ | refine SX.G.load1 ?_ | refine SX.G.loadR1 ?_ | refine SX.G.loadR2 ?_ | refine SX.G.load4 ?_ | refine SX.G.loadR4 ?_ | refine SX.G.load5 ?_ | refine SX.G.loadH ?_ | refine SX.G.loadHI ?_ | refine SX.G.loadOWA ?_ | refine SX.G.load3 ?_ | refine SX.G.loadR3 ?_ | refine SX.G.loadOW ?_ | refine SX.G.loadO1 ?_)
          | (refine SX.Go1.isBin ?_; first | refine SX.G.lss ?_ | refine SX.G.eql ?_ | refine SX.G.neq ?_ | refine SX.G.gtr ?_ | refine SX.G.geq ?_ | refine SX.G.leq ?_ | refine SX.G.addN ?_ | refine SX.G.addNu ?_ | refine SX.G.subN ?_ | refine SX.G.subNu ?_ | refine SX.G.add ?_ | refine SX.G.sub ?_ | refine SX.G.mulN ?_ | refine SX.G.mulNu ?_ | refine SX.G.mul ?_ | refine SX.G.quoN ?_ | refine SX.G.quoNu ?_ | refine SX.G.quo ?_ | refine SX.G.remN ?_ | refine SX.G.remNu ?_ | refine SX.G.rem ?_ | refine SX.G.eqlT ?_ | refine SX.G.neqT ?_ | refine SX.G.eqlB ?_ | refine SX.G.neqB ?_ | refine SX.G.shr ?_ | refine SX.G.shl ?_ | refine SX.G.and ?_ | refine SX.G.addT ?_)
          | (refine SX.Go1.isUn ?_; first | refine SX.G.not ?_ | refine SX.G.neg ?_)
          | (refine SX.Go1.isField ?_; first | refine SX.G.fieldAddr ?_ | refine SX.G.fieldAddrR ?_)
          | (refine SX.Go1.isBuild ?_; first | refine SX.G.buildA ?_ | refine SX.G.build2 ?_ | refine SX.G.build3 ?_ | refine SX.G.build4 ?_ | refine SX.G.build5 ?_ | refine SX.G.build ?_)
          | (refine SX.Go1.isStore ?_; first | refine SX.G.store ?_ | refine SX.G.storeP ?_ | refine SX.G.storeH ?_ | refine SX.G.storeHI ?_ | refine SX.G.storeOWA ?_ | refine SX.G.storeO ?_)
          | (refine SX.Go1.isIx ?_; first | refine SX.G.indexAddrW ?_ | refine SX.G.indexAddrV ?_ | refine SX.G.indexAddrR ?_ | refine SX.G.indexAddrH ?_ | refine SX.G.indexAddrO ?_)
          | (refine SX.Go1.isBuildS ?_; first | refine SX.G.litH ?_ | refine SX.G.litOwn ?_ | refine SX.G.lit2Own ?_ | refine SX.G.lit2 ?_ | refine SX.G.lit3 ?_ | refine SX.G.lit1 ?_)
          | (refine SX.Go1.isCall ?_; first | refine SX.G.minN ?_ | refine SX.G.maxN ?_ | refine SX.G.lenR ?_ | refine SX.G.lenN ?_ | refine SX.G.lenT ?_ | refine SX.G.lenS ?_ | refine SX.G.lenO ?_ | refine SX.G.appendW ?_ | refine SX.G.appendNilW ?_ | refine SX.G.lenH ?_ | refine SX.G.appendH ?_ | refine SX.G.callF ?_ | refine SX.G.callP ?_ | refine SX.G.callB ?_ | refine SX.G.callOwn ?_ | refine SX.G.call ?_)
          | refine SX.G.move ?_ | refine SX.G.assign ?_ | refine SX.G.extract ?_ | refine SX.G.boxN ?_ | refine SX.G.box ?_ | refine SX.G.allocN ?_ | refine SX.G.alloc ?_ | refine SX.G.nilCheckP ?_ | refine SX.G.nilCheckR ?_ | refine SX.G.mkfn ?_ | refine SX.G.mkclo ?_ | refine SX.G.mkbnd ?_ | refine SX.G.pick ?_ | refine SX.R.pickT ?_ | refine SX.R.pickF ?_ | refine SX.G.pickB ?_ | refine SX.G.pickV ?_ | refine SX.G.makeN ?_ | refine SX.G.convN ?_ | refine SX.G.conv ?_ | refine SX.G.convBS ?_ | refine SX.G.sliceH ?_ | refine SX.G.sliceHiW ?_ | refine SX.G.sliceLoW ?_ | refine SX.G.sliceHiR ?_ | refine SX.G.sliceLoR ?_ | refine SX.G.sliceHiO ?_ | refine SX.G.sliceHiT ?_ | refine SX.G.sliceLoT ?_ | refine SX.G.sliceLHT ?_ | refine SX.G.indexA ?_ | refine SX.G.indexT ?_ | refine SX.G.sliceHiS ?_ | refine SX.G.sliceLoS ?_ | refine SX.G.sliceLHS ?_ | refine SX.G.indexS ?_)
      | (refine SX.Reg.is ?_; first | refine SX.Reg.go ?_ | refine SX.R.runT ?_ | refine SX.R.runF ?_ | refine SX.R.skipT ?_ | refine SX.R.skipF ?_ | refine SX.R.skipU ?_ | refine SX.Reg.nil ⟨by kernel_rfl, ?_⟩ | refine SX.Reg.nil ?_)
      | (refine SX.WP.is ?_; first | refine SX.WP.seq ?_ | refine SX.WP.regionL ?_ | refine SX.WP.regionDL (by kernel_rfl) ?_ | refine SX.WP.block ?_ | refine SX.WP.skip ?_ | refine SX.WP.exit ?_ | refine SX.WP.ret ?_ | refine SX.WP.label ?_ | refine SX.W.condT ?_ | refine SX.W.condF ?_)
      | refine SX.thenN ?_ | refine SX.thenE ?_ | refine SX.thenR ?_ | refine SX.inBlkN ?_ | refine SX.inBlkR ?_ | refine SX.inBlkE ?_ | refine SX.inBlkO rfl ?_ | refine SX.retR ?_ | refine SX.retN ?_ | refine SX.retFR ?_ | refine SX.retFN ?_)
    repeat (first
      | (refine SX.Go1.is ?_; first
          | (refine SX.Go1.isLoad ?_; first | refine SX.G.load2 ?_ | refine SX.G.load1 ?_ | refine SX.G.loadR1 ?_ | refine SX.G.loadR2 ?_ | refine SX.G.load4 ?_ | refine SX.G.loadR4 ?_ | refine SX.G.load5 ?_ | refine SX.G.loadH ?_ | refine SX.G.loadHI ?_ | refine SX.G.loadOWA ?_ | refine SX.G.load3 ?_ | refine SX.G.loadR3 ?_ | refine SX.G.loadOW ?_ | refine SX.G.loadO1 ?_)
          | (refine SX.Go1.isBin ?_; first | refine SX.G.lss ?_ | refine SX.G.eql ?_ | refine SX.G.neq ?_ | refine SX.G.gtr ?_ | refine SX.G.geq ?_ | refine SX.G.leq ?_ | refine SX.G.addN ?_ | refine SX.G.addNu ?_ | refine SX.G.subN ?_ | refine SX.G.subNu ?_ | refine SX.G.add ?_ | refine SX.G.sub ?_ | refine SX.G.mulN ?_ | refine SX.G.mulNu ?_ | refine SX.G.mul ?_ | refine SX.G.quoN ?_ | refine SX.G.quoNu ?_ | refine SX.G.quo ?_ | refine SX.G.remN ?_ | refine SX.G.remNu ?_ | refine SX.G.rem ?_ | refine SX.G.eqlT ?_ | refine SX.G.neqT ?_ | refine SX.G.eqlB ?_ | refine SX.G.neqB ?_ | refine SX.G.shr ?_ | refine SX.G.shl ?_ | refine SX.G.and ?_ | refine SX.G.addT ?_)
          | (refine SX.Go1.isUn ?_; first | refine SX.G.not ?_ | refine SX.G.neg ?_)
          | (refine SX.Go1.isField ?_; first | refine SX.G.fieldAddr ?_ | refine SX.G.fieldAddrR ?_)
          | (refine SX.Go1.isBuild ?_; first | refine SX.G.buildA ?_ | refine SX.G.build2 ?_ | refine SX.G.build3 ?_ | refine SX.G.build4 ?_ | refine SX.G.build5 ?_ | refine SX.G.build ?_)
          | (refine SX.Go1.isStore ?_; first | refine SX.G.store ?_ | refine SX.G.storeP ?_ | refine SX.G.storeH ?_ | refine SX.G.storeHI ?_ | refine SX.G.storeOWA ?_ | refine SX.G.storeO ?_)
          | (refine SX.Go1.isIx ?_; first | refine SX.G.indexAddrW ?_ | refine SX.G.indexAddrV ?_ | refine SX.G.indexAddrR ?_ | refine SX.G.indexAddrH ?_ | refine SX.G.indexAddrO ?_)
          | (refine SX.Go1.isBuildS ?_; first | refine SX.G.litH ?_ | refine SX.G.litOwn ?_ | refine SX.G.lit2Own ?_ | refine SX.G.lit2 ?_ | refine SX.G.lit3 ?_ | refine SX.G.lit1 ?_)
          | (refine SX.Go1.isCall ?_; first | refine SX.G.minN ?_ | refine SX.G.maxN ?_ | refine SX.G.lenR ?_ | refine SX.G.lenN ?_ | refine SX.G.lenT ?_ | refine SX.G.lenS ?_ | refine SX.G.lenO ?_ | refine SX.G.appendW ?_ | refine SX.G.appendNilW ?_ | refine SX.G.lenH ?_ | refine SX.G.appendH ?_ | refine SX.G.callF ?_ | refine SX.G.callP ?_ | refine SX.G.callB ?_ | refine SX.G.callOwn ?_ | refine SX.G.call ?_)
          | refine SX.G.move ?_ | refine SX.G.assign ?_ | refine SX.G.extract ?_ | refine SX.G.boxN ?_ | refine SX.G.box ?_ | refine SX.G.allocN ?_ | refine SX.G.alloc ?_ | refine SX.G.nilCheckP ?_ | refine SX.G.nilCheckR ?_ | refine SX.G.mkfn ?_ | refine SX.G.mkclo ?_ | refine SX.G.mkbnd ?_ | refine SX.G.pick ?_ | refine SX.R.pickT ?_ | refine SX.R.pickF ?_ | refine SX.G.pickB ?_ | refine SX.G.pickV ?_ | refine SX.G.makeN ?_ | refine SX.G.convN ?_ | refine SX.G.conv ?_ | refine SX.G.convBS ?_ | refine SX.G.sliceH ?_ | refine SX.G.sliceHiW ?_ | refine SX.G.sliceLoW ?_ | refine SX.G.sliceHiR ?_ | refine SX.G.sliceLoR ?_ | refine SX.G.sliceHiO ?_ | refine SX.G.sliceHiT ?_ | refine SX.G.sliceLoT ?_ | refine SX.G.sliceLHT ?_ | refine SX.G.indexA ?_ | refine SX.G.indexT ?_ | refine SX.G.sliceHiS ?_ | refine SX.G.sliceLoS ?_ | refine SX.G.sliceLHS ?_ | refine SX.G.indexS ?_)
      | (refine SX.Reg.is ?_; first | refine SX.Reg.go ?_ | refine SX.R.runT ?_ | refine SX.R.runF ?_ | refine SX.R.skipT ?_ | refine SX.R.skipF ?_ | refine SX.R.skipU ?_ | refine SX.Reg.nil ⟨by kernel_rfl, ?_⟩ | refine SX.Reg.nil ?_)
      | (refine SX.WP.is ?_; first | refine SX.WP.seq ?_ | refine SX.WP.regionL ?_ | refine SX.WP.regionDL (by kernel_rfl) ?_ | refine SX.WP.block ?_ | refine SX.WP.skip ?_ | refine SX.WP.exit ?_ | refine SX.WP.ret ?_ | refine SX.WP.label ?_ | refine SX.W.condT ?_ | refine SX.W.condF ?_)
      | refine SX.thenN ?_ | refine SX.thenE ?_ | refine SX.thenR ?_ | refine SX.inBlkN ?_ | refine SX.inBlkR ?_ | refine SX.inBlkE ?_ | refine SX.inBlkO rfl ?_ | refine SX.retR ?_ | refine SX.retN ?_ | refine SX.retFR ?_ | refine SX.retFN ?_)
    exact h.out) : p := k ⟨h⟩
end SX
/- The run that halts before a region that makes a function's value with something bound to it. No program in sight. -/
set_option linter.unusedVariables false
set_option linter.unusedSimpArgs false
namespace SX
open Go Go.RowKit
def mkOne : Op → Bool
  | .makeFunc _ a c => Nat.beq a.size 0 && Nat.beq c.size 0
  | _ => true
def noMk : List Oper → Bool
  | [] => true
  | o :: l => match mkOne o.op with | true => noMk l | false => false
section
variable {P : Program} {C : Ctx} {st : St} {Q : Exit → St → Prop}
theorem WP.regionN {id : Nat} {l : List Oper} (hn : noMk l = true) (h : Reg P C l l st [] (fun _ st' => Q .normal st')) : WP P C (.region id l.toArray false) st Q := WP.regionL h
theorem WP.regionDN {id : Nat} {l : List Oper} (hn : noMk l = true) (hm : P.follows .mixedOrders = true) (h : Reg P C l l st [] (fun feet st' => check l.toArray feet = true ∧ Q .normal st')) : WP P C (.region id l.toArray true) st Q := WP.regionDL hm h
end
section
variable {P : Program} {C : Ctx} {st : St}
variable {ops rest : List Oper} {acc : List (List Nat × List Nat)} {K : List (List Nat × List Nat) → St → Prop} {dst : Option Tmp} {ty t e : TypeId} {x y : Operand} {k : IntKind} {n size : Nat}
end
structure HeldF (q : Prop) : Prop where
  out : q
theorem goF {p q : Prop} (h : q) (k : HeldF q → p := by
    intro h
    (first
      | (refine SX.Go1.is ?_; first
          | (refine SX.Go1.isLoad ?_; first | refine SX.G.load2 ?_ | refine SX.G.load1 ?_ | refine SX.G.loadR1 ?_ | refine SX.G.loadR2 ?_ | refine SX.G.load4 ?_ | refine SX.G.loadR4 ?_ | refine SX.G.load5 ?_ | refine SX.G.loadH ?_ | refine SX.G.loadHI ?_ | refine SX.G.loadOWA ?_ | refine SX.G.load3 ?_ | refine SX.G.loadR3 ?_ | refine SX.G.loadOW ?_ | refine SX.G.loadO1 ?_)
          | (refine SX.Go1.isBin ?_; first | refine SX.G.lss ?_ | refine SX.G.eql ?_ | refine SX.G.neq ?_ | refine SX.G.gtr ?_ | refine SX.G.geq ?_ | refine SX.G.leq ?_ | refine SX.G.addN ?_ | refine SX.G.addNu ?_ | refine SX.G.subN ?_ | refine SX.G.subNu ?_ | refine SX.G.add ?_ | refine SX.G.sub ?_ | refine SX.G.mulN ?_ | refine SX.G.mulNu ?_ | refine SX.G.mul ?_ | refine SX.G.quoN ?_ | refine SX.G.quoNu ?_ | refine SX.G.quo ?_ | refine SX.G.remN ?_ | refine SX.G.remNu ?_ | refine SX.G.rem ?_ | refine SX.G.eqlT ?_ | refine SX.G.neqT ?_ | refine SX.G.eqlB ?_ | refine SX.G.neqB ?_ | refine SX.G.shr ?_ | refine SX.G.shl ?_ | refine SX.G.and ?_ | refine SX.G.addT ?_)
          | (refine SX.Go1.isUn ?_; first | refine SX.G.not ?_ | refine SX.G.neg ?_)
          | (refine SX.Go1.isField ?_; first | refine SX.G.fieldAddr ?_ | refine SX.G.fieldAddrR ?_)
          | (refine SX.Go1.isBuild ?_; first | refine SX.G.buildA ?_ | refine SX.G.build2 ?_ | refine SX.G.build3 ?_ | refine SX.G.build4 ?_ | refine SX.G.build5 ?_ | refine SX.G.build ?_)
          | (refine SX.Go1.isStore ?_; first | refine SX.G.store ?_ | refine SX.G.storeP ?_ | refine SX.G.storeH ?_ | refine SX.G.storeHI ?_ | refine SX.G.storeOWA ?_ | refine SX.G.storeO ?_)
          | (refine SX.Go1.isIx ?_; first | refine SX.G.indexAddrW ?_ | refine SX.G.indexAddrV ?_ | refine SX.G.indexAddrR ?_ | refine SX.G.indexAddrH ?_ | refine SX.G.indexAddrO ?_ | refine SX.G.indexAddrA ?_)
          | (refine SX.Go1.isBuildS ?_; first | refine SX.G.litH ?_ | refine SX.G.litOwn ?_ | refine SX.G.lit2Own ?_ | refine SX.G.lit2 ?_ | refine SX.G.lit3 ?_ | refine SX.G.lit1 ?_)
          | (refine SX.Go1.isCall ?_; first | refine SX.G.minN ?_ | refine SX.G.maxN ?_ | refine SX.G.lenR ?_ | refine SX.G.lenN ?_ | refine SX.G.lenT ?_ | refine SX.G.lenS ?_ | refine SX.G.lenO ?_ | refine SX.G.appendW ?_ | refine SX.G.appendNilW ?_ | refine SX.G.lenH ?_ | refine SX.G.appendH ?_ | refine SX.G.callF ?_ | refine SX.G.callP ?_ | refine SX.G.callB ?_ | refine SX.G.callOwn ?_ | refine SX.G.call ?_)
          | refine SX.G.move ?_ | refine SX.G.assign ?_ | refine SX.G.extract ?_ | refine SX.G.boxN ?_ | refine SX.G.box ?_ | refine SX.G.allocN ?_ | refine SX.G.alloc ?_ | refine SX.G.nilCheckP ?_ | refine SX.G.nilCheckR ?_ | refine SX.G.mkfn ?_ | refine SX.G.mkfnA ?_ | refine SX.G.mkclo ?_ | refine SX.G.mkbnd ?_ | refine SX.G.pick ?_ | refine SX.R.pickT ?_ | refine SX.R.pickF ?_ | refine SX.G.pickB ?_ | refine SX.G.pickV ?_ | refine SX.G.makeN ?_ | refine SX.G.convN ?_ | refine SX.G.conv ?_ | refine SX.G.convBS ?_ | refine SX.G.sliceH ?_ | refine SX.G.sliceHiW ?_ | refine SX.G.sliceLoW ?_ | refine SX.G.sliceHiR ?_ | refine SX.G.sliceLoR ?_ | refine SX.G.sliceHiO ?_ | refine SX.G.sliceHiT ?_ | refine SX.G.sliceLoT ?_ | refine SX.G.sliceLHT ?_ | refine SX.G.indexA ?_ | refine SX.G.indexT ?_ | refine SX.G.sliceHiS ?_ | refine SX.G.sliceLoS ?_ | refine SX.G.sliceLHS ?_ | refine SX.G.indexS ?_)
      | (refine SX.Reg.is ?_; first | refine SX.Reg.go ?_ | refine SX.R.runT ?_ | refine SX.R.runF ?_ | refine SX.R.skipT ?_ | refine SX.R.skipF ?_ | refine SX.R.skipU ?_ | refine SX.Reg.nil ⟨by kernel_rfl, ?_⟩ | refine SX.Reg.nil ?_)
      | (refine SX.WP.is ?_; first | refine SX.WP.seq ?_ | refine SX.WP.regionN (by rfl) ?_ | refine SX.WP.regionDN (by rfl) (by kernel_rfl) ?_ | refine SX.WP.block ?_ | refine SX.WP.skip ?_ | refine SX.WP.exit ?_ | refine SX.WP.ret ?_ | refine SX.WP.label ?_ | refine SX.W.condT ?_ | refine SX.W.condF ?_)
      | refine SX.thenN ?_ | refine SX.thenE ?_ | refine SX.thenR ?_ | refine SX.inBlkN ?_ | refine SX.inBlkR ?_ | refine SX.inBlkE ?_ | refine SX.inBlkO rfl ?_ | refine SX.retR ?_ | refine SX.retN ?_ | refine SX.retFR ?_ | refine SX.retFN ?_)
    repeat (first
      | (refine SX.Go1.is ?_; first
          | (refine SX.Go1.isLoad ?_; first | refine SX.G.load2 ?_ | refine SX.G.load1 ?_ | refine SX.G.loadR1 ?_ | refine SX.G.loadR2 ?_ | refine SX.G.load4 ?_ | refine SX.G.loadR4 ?_ | refine SX.G.load5 ?_ | refine SX.G.loadH ?_ | refine SX.G.loadHI ?_ | refine SX.G.loadOWA ?_ | refine SX.G.load3 ?_ | refine SX.G.loadR3 ?_ | refine SX.G.loadOW ?_ | refine SX.G.loadO1 ?_)
          | (refine SX.Go1.isBin ?_; first | refine SX.G.lss ?_ | refine SX.G.eql ?_ | refine SX.G.neq ?_ | refine SX.G.gtr ?_ | refine SX.G.geq ?_ | refine SX.G.leq ?_ | refine SX.G.addN ?_ | refine SX.G.addNu ?_ | refine SX.G.subN ?_ | refine SX.G.subNu ?_ | refine SX.G.add ?_ | refine SX.G.sub ?_ | refine SX.G.mulN ?_ | refine SX.G.mulNu ?_ | refine SX.G.mul ?_ | refine SX.G.quoN ?_ | refine SX.G.quoNu ?_ | refine SX.G.quo ?_ | refine SX.G.remN ?_ | refine SX.G.remNu ?_ | refine SX.G.rem ?_ | refine SX.G.eqlT ?_ | refine SX.G.neqT ?_ | refine SX.G.eqlB ?_ | refine SX.G.neqB ?_ | refine SX.G.shr ?_ | refine SX.G.shl ?_ | refine SX.G.and ?_ | refine SX.G.addT ?_)
          | (refine SX.Go1.isUn ?_; first | refine SX.G.not ?_ | refine SX.G.neg ?_)
          | (refine SX.Go1.isField ?_; first | refine SX.G.fieldAddr ?_ | refine SX.G.fieldAddrR ?_)
          | (refine SX.Go1.isBuild ?_; first | refine SX.G.buildA ?_ | refine SX.G.build2 ?_ | refine SX.G.build3 ?_ | refine SX.G.build4 ?_ | refine SX.G.build5 ?_ | refine SX.G.build ?_)
          | (refine SX.Go1.isStore ?_; first | refine SX.G.store ?_ | refine SX.G.storeP ?_ | refine SX.G.storeH ?_ | refine SX.G.storeHI ?_ | refine SX.G.storeOWA ?_ | refine SX.G.storeO ?_)
          | (refine SX.Go1.isIx ?_; first | refine SX.G.indexAddrW ?_ | refine SX.G.indexAddrV ?_ | refine SX.G.indexAddrR ?_ | refine SX.G.indexAddrH ?_ | refine SX.G.indexAddrO ?_ | refine SX.G.indexAddrA ?_)
          | (refine SX.Go1.isBuildS ?_; first | refine SX.G.litH ?_ | refine SX.G.litOwn ?_ | refine SX.G.lit2Own ?_ | refine SX.G.lit2 ?_ | refine SX.G.lit3 ?_ | refine SX.G.lit1 ?_)
          | (refine SX.Go1.isCall ?_; first | refine SX.G.minN ?_ | refine SX.G.maxN ?_ | refine SX.G.lenR ?_ | refine SX.G.lenN ?_ | refine SX.G.lenT ?_ | refine SX.G.lenS ?_ | refine SX.G.lenO ?_ | refine SX.G.appendW ?_ | refine SX.G.appendNilW ?_ | refine SX.G.lenH ?_ | refine SX.G.appendH ?_ | refine SX.G.callF ?_ | refine SX.G.callP ?_ | refine SX.G.callB ?_ | refine SX.G.callOwn ?_ | refine SX.G.call ?_)
          | refine SX.G.move ?_ | refine SX.G.assign ?_ | refine SX.G.extract ?_ | refine SX.G.boxN ?_ | refine SX.G.box ?_ | refine SX.G.allocN ?_ | refine SX.G.alloc ?_ | refine SX.G.nilCheckP ?_ | refine SX.G.nilCheckR ?_ | refine SX.G.mkfn ?_ | refine SX.G.mkfnA ?_ | refine SX.G.mkclo ?_ | refine SX.G.mkbnd ?_ | refine SX.G.pick ?_ | refine SX.R.pickT ?_ | refine SX.R.pickF ?_ | refine SX.G.pickB ?_ | refine SX.G.pickV ?_ | refine SX.G.makeN ?_ | refine SX.G.convN ?_ | refine SX.G.conv ?_ | refine SX.G.convBS ?_ | refine SX.G.sliceH ?_ | refine SX.G.sliceHiW ?_ | refine SX.G.sliceLoW ?_ | refine SX.G.sliceHiR ?_ | refine SX.G.sliceLoR ?_ | refine SX.G.sliceHiO ?_ | refine SX.G.sliceHiT ?_ | refine SX.G.sliceLoT ?_ | refine SX.G.sliceLHT ?_ | refine SX.G.indexA ?_ | refine SX.G.indexT ?_ | refine SX.G.sliceHiS ?_ | refine SX.G.sliceLoS ?_ | refine SX.G.sliceLHS ?_ | refine SX.G.indexS ?_)
      | (refine SX.Reg.is ?_; first | refine SX.Reg.go ?_ | refine SX.R.runT ?_ | refine SX.R.runF ?_ | refine SX.R.skipT ?_ | refine SX.R.skipF ?_ | refine SX.R.skipU ?_ | refine SX.Reg.nil ⟨by kernel_rfl, ?_⟩ | refine SX.Reg.nil ?_)
      | (refine SX.WP.is ?_; first | refine SX.WP.seq ?_ | refine SX.WP.regionN (by rfl) ?_ | refine SX.WP.regionDN (by rfl) (by kernel_rfl) ?_ | refine SX.WP.block ?_ | refine SX.WP.skip ?_ | refine SX.WP.exit ?_ | refine SX.WP.ret ?_ | refine SX.WP.label ?_ | refine SX.W.condT ?_ | refine SX.W.condF ?_)
      | refine SX.thenN ?_ | refine SX.thenE ?_ | refine SX.thenR ?_ | refine SX.inBlkN ?_ | refine SX.inBlkR ?_ | refine SX.inBlkE ?_ | refine SX.inBlkO rfl ?_ | refine SX.retR ?_ | refine SX.retN ?_ | refine SX.retFR ?_ | refine SX.retFN ?_)
    exact h.out) : p := k ⟨h⟩
end SX
/- Package variables that are never written; pointers' tests; texts that are appended to bytes; unsafe.String. No program in sight. -/
set_option linter.unusedVariables false
set_option linter.unusedSimpArgs false
namespace SX
open Go Go.RowKit
section
variable {P : Program} {C : Ctx} {st : St}
variable {ops rest : List Oper} {acc : List (List Nat × List Nat)} {K : List (List Nat × List Nat) → St → Prop} {dst : Option Tmp} {d : Tmp} {op : Op} {ty t t' t'' e : TypeId} {x y : Operand} {k : IntKind} {n size : Nat}
def lkG (g : Nat) : List (Nat × List Value) → Option (List Value)
  | [] => none
  | (g', l) :: r => match Nat.beq g g' with | true => some l | false => lkG g r
/-- Pointers' tests. -/
class TPtr (P : Program) (t : TypeId) (e : outParam TypeId) : Prop where
  h : P.underlying t = some (.pointer e)
  s : (P.info? e).map (fun j => Nat.beq j.size 0) = some false
/-- A pointer to a variable, as a pointer of no type, and back. -/
class TUns (P : Program) (t : TypeId) : Prop where
  h : P.underlying t = some .unsafePointer
/-- A byte's element. -/
class TByte (P : Program) (e : TypeId) : Prop where
  h : (P.info? e).map (fun i => (i.zero, i.size, i.bytes)) = some (some (.int .u8 0), 1, 1)
class TByteC (P : Program) (e : TypeId) : Prop where
  c : P.cellsOf e = 1
end
structure HeldG (q : Prop) : Prop where
  out : q
end SX
/- Structs of fifteen cells. No program in sight. -/
set_option linter.unusedVariables false
set_option linter.unusedSimpArgs false
namespace SX
open Go Go.RowKit
section
variable {P : Program} {C : Ctx} {st : St}
variable {ops rest : List Oper} {acc : List (List Nat × List Nat)} {K : List (List Nat × List Nat) → St → Prop} {dst : Option Tmp} {d : Tmp} {op : Op} {ty t t' : TypeId} {x y z : Operand}
theorem G.load15 {b off : Nat} {T : TypeId} {cells : List Atom} {a1 a2 a3 a4 a5 a6 a7 a8 a9 a10 a11 a12 a13 a14 a15 : Atom} [ht : TAgg P t 15] (next : Reg P C ops rest (st.app (some d) ⟨.agg [a1, a2, a3, a4, a5, a6, a7, a8, a9, a10, a11, a12, a13, a14, a15], []⟩) (([b], []) :: acc) K) (hd : dstOK (some d) C.nt = true := by rfl) (hx : st.ev x = some (.ptr b off) := by rfl) (hb : st.hp b = .ent (.box T cells) := by rfl) (hr : (cells.drop off).take 15 = [a1, a2, a3, a4, a5, a6, a7, a8, a9, a10, a11, a12, a13, a14, a15] := by rfl) : Go1 P C ops (some d) (.load t x) ty rest st acc K :=
  Go1.loadAgg hd hx hb (by have := congrArg List.length hr; simp at this; rw [Nat.ble_eq]; omega) hr next
theorem G.loadR15 {c1 c2 c3 c4 c5 c6 c7 c8 c9 c10 c11 c12 c13 c14 c15 : CA} {cells : List CA} [ht : TAgg P t 15] (next : Reg P C ops rest (st.app dst ⟨.agg [.c c1, .c c2, .c c3, .c c4, .c c5, .c c6, .c c7, .c c8, .c c9, .c c10, .c c11, .c c12, .c c13, .c c14, .c c15], []⟩) (([], []) :: acc) K) (hd : dstOK dst C.nt = true := by rfl) (hx : st.ev x = some (.r (ptrR cells)) := by rfl) (hl : cells = [c1, c2, c3, c4, c5, c6, c7, c8, c9, c10, c11, c12, c13, c14, c15] := by rfl) : Go1 P C ops dst (.load t x) ty rest st acc K := by
  subst hl; exact Go1.loadRAgg hd hx rfl next
theorem G.build15 {pl : List (Nat × Nat)} {zs : List Value} {parts : Array (Nat × Operand)} {ps : List (Nat × AV0)} {a1 a2 a3 a4 a5 a6 a7 a8 a9 a10 a11 a12 a13 a14 a15 : Atom} [ht : TStruct P t pl] [hz : TZero P t zs] (next : Reg P C ops rest (st.app (some d) ⟨.agg [a1, a2, a3, a4, a5, a6, a7, a8, a9, a10, a11, a12, a13, a14, a15], []⟩) (([], []) :: acc) K) (hd : dstOK (some d) C.nt = true := by rfl) (hp : evp st parts.toList = some ps := by rfl) (h1 : (ps.all fun p => p.2.cells.all Atom.oneB) = true := by rfl) (hf : fillA pl (zs.map fun v => Atom.c (.val v)) ps = some [a1, a2, a3, a4, a5, a6, a7, a8, a9, a10, a11, a12, a13, a14, a15] := by rfl) : Go1 P C ops (some d) (.build t parts) ty rest st acc K :=
  Go1.build hd hp h1 hf next
theorem ResOK.agg15 {t : Tmp} {T T' : TypeId} {b off : Nat} {cells : List Atom} {a1 a2 a3 a4 a5 a6 a7 a8 a9 a10 a11 a12 a13 a14 a15 : Atom} [ht : TAgg P T 15] (h : st.tm t = some (.ptr b off)) (hb : st.hp b = .ent (.box T' cells)) (hr : (cells.drop off).take 15 = [a1, a2, a3, a4, a5, a6, a7, a8, a9, a10, a11, a12, a13, a14, a15]) : ResOK P st (.cell t T) (.agg [a1, a2, a3, a4, a5, a6, a7, a8, a9, a10, a11, a12, a13, a14, a15]) :=
  ResOK.agg h hb (by have := congrArg List.length hr; simp at this; rw [Nat.ble_eq]; omega) hr
end
structure HeldN (q : Prop) : Prop where
  out : q
theorem goN {p q : Prop} (h : q) (k : HeldN q → p := by
    intro h
    (first
      | (refine SX.Go1.is ?_; first
          | (refine SX.Go1.isLoad ?_; first | refine SX.G.load2 ?_ | refine SX.G.load1 ?_ | refine SX.G.loadR1 ?_ | refine SX.G.loadR2 ?_ | refine SX.G.load4 ?_ | refine SX.G.loadR4 ?_ | refine SX.G.load5 ?_ | refine SX.G.load15 ?_ | refine SX.G.loadR15 ?_ | refine SX.G.loadH ?_ | refine SX.G.loadHI ?_ | refine SX.G.loadOWA ?_ | refine SX.G.load3 ?_ | refine SX.G.loadR3 ?_ | refine SX.G.loadOW ?_ | refine SX.G.loadO1 ?_)
          | (refine SX.Go1.isBin ?_; first | refine SX.G.lss ?_ | refine SX.G.eql ?_ | refine SX.G.neq ?_ | refine SX.G.gtr ?_ | refine SX.G.geq ?_ | refine SX.G.leq ?_ | refine SX.G.addN ?_ | refine SX.G.addNu ?_ | refine SX.G.subN ?_ | refine SX.G.subNu ?_ | refine SX.G.add ?_ | refine SX.G.sub ?_ | refine SX.G.mulN ?_ | refine SX.G.mulNu ?_ | refine SX.G.mul ?_ | refine SX.G.quoN ?_ | refine SX.G.quoNu ?_ | refine SX.G.quo ?_ | refine SX.G.remN ?_ | refine SX.G.remNu ?_ | refine SX.G.rem ?_ | refine SX.G.eqlT ?_ | refine SX.G.eqlNN ?_ | refine SX.G.eqlPN ?_ | refine SX.G.neqPP ?_ | refine SX.G.neqT ?_ | refine SX.G.eqlB ?_ | refine SX.G.neqB ?_ | refine SX.G.shr ?_ | refine SX.G.shl ?_ | refine SX.G.and ?_ | refine SX.G.addT ?_)
          | (refine SX.Go1.isUn ?_; first | refine SX.G.not ?_ | refine SX.G.neg ?_)
          | (refine SX.Go1.isField ?_; first | refine SX.G.fieldAddr ?_ | refine SX.G.fieldAddrR ?_)
          | (refine SX.Go1.isBuild ?_; first | refine SX.G.buildA ?_ | refine SX.G.build2 ?_ | refine SX.G.build3 ?_ | refine SX.G.build4 ?_ | refine SX.G.build5 ?_ | refine SX.G.build15 ?_ | refine SX.G.build ?_)
          | (refine SX.Go1.isStore ?_; first | refine SX.G.store ?_ | refine SX.G.storeP ?_ | refine SX.G.storeH ?_ | refine SX.G.storeHI ?_ | refine SX.G.storeOWA ?_ | refine SX.G.storeO ?_)
          | (refine SX.Go1.isIx ?_; first | refine SX.G.indexAddrW ?_ | refine SX.G.indexAddrV ?_ | refine SX.G.indexAddrR ?_ | refine SX.G.indexAddrH ?_ | refine SX.G.indexAddrO ?_ | refine SX.G.indexAddrA ?_ | refine SX.G.indexAddrG ?_)
          | (refine SX.Go1.isBuildS ?_; first | refine SX.G.litH ?_ | refine SX.G.litOwn ?_ | refine SX.G.lit2Own ?_ | refine SX.G.lit2 ?_ | refine SX.G.lit3 ?_ | refine SX.G.lit1 ?_)
          | (refine SX.Go1.isCall ?_; first | refine SX.G.minN ?_ | refine SX.G.maxN ?_ | refine SX.G.lenR ?_ | refine SX.G.lenN ?_ | refine SX.G.lenT ?_ | refine SX.G.lenS ?_ | refine SX.G.lenO ?_ | refine SX.G.appendW ?_ | refine SX.G.appendNilW ?_ | refine SX.G.appendT ?_ | refine SX.G.sliceDataN ?_ | refine SX.G.sliceDataO ?_ | refine SX.G.unsafeStrN ?_ | refine SX.G.unsafeStrO ?_ | refine SX.G.lenH ?_ | refine SX.G.appendH ?_ | refine SX.G.callF ?_ | refine SX.G.callP ?_ | refine SX.G.callB ?_ | refine SX.G.callOwn ?_ | refine SX.G.call ?_)
          | refine SX.G.move ?_ | refine SX.G.assign ?_ | refine SX.G.extract ?_ | refine SX.G.boxN ?_ | refine SX.G.box ?_ | refine SX.G.allocN ?_ | refine SX.G.alloc ?_ | refine SX.G.nilCheckP ?_ | refine SX.G.nilCheckR ?_ | refine SX.G.mkfn ?_ | refine SX.G.mkfnA ?_ | refine SX.G.mkclo ?_ | refine SX.G.mkbnd ?_ | refine SX.G.pick ?_ | refine SX.R.pickT ?_ | refine SX.R.pickF ?_ | refine SX.G.pickB ?_ | refine SX.G.pickV ?_ | refine SX.G.makeN ?_ | refine SX.G.convN ?_ | refine SX.G.conv ?_ | refine SX.G.convBS ?_ | refine SX.G.convPU ?_ | refine SX.G.sliceH ?_ | refine SX.G.sliceHiW ?_ | refine SX.G.sliceLoW ?_ | refine SX.G.sliceHiR ?_ | refine SX.G.sliceLoR ?_ | refine SX.G.sliceHiO ?_ | refine SX.G.sliceHiT ?_ | refine SX.G.sliceLoT ?_ | refine SX.G.sliceLHT ?_ | refine SX.G.indexA ?_ | refine SX.G.indexT ?_ | refine SX.G.sliceHiS ?_ | refine SX.G.sliceLoS ?_ | refine SX.G.sliceLHS ?_ | refine SX.G.indexS ?_)
      | (refine SX.Reg.is ?_; first | refine SX.Reg.go ?_ | refine SX.R.runT ?_ | refine SX.R.runF ?_ | refine SX.R.skipT ?_ | refine SX.R.skipF ?_ | refine SX.R.skipU ?_ | refine SX.Reg.nil ⟨by kernel_rfl, ?_⟩ | refine SX.Reg.nil ?_)
      | (refine SX.WP.is ?_; first | refine SX.WP.seq ?_ | refine SX.WP.regionN (by rfl) ?_ | refine SX.WP.regionDN (by rfl) (by kernel_rfl) ?_ | refine SX.WP.block ?_ | refine SX.WP.skip ?_ | refine SX.WP.exit ?_ | refine SX.WP.ret ?_ | refine SX.WP.label ?_ | refine SX.W.condT ?_ | refine SX.W.condF ?_)
      | refine SX.thenN ?_ | refine SX.thenE ?_ | refine SX.thenR ?_ | refine SX.inBlkN ?_ | refine SX.inBlkR ?_ | refine SX.inBlkE ?_ | refine SX.inBlkO rfl ?_ | refine SX.retR ?_ | refine SX.retN ?_ | refine SX.retFR ?_ | refine SX.retFN ?_)
    repeat (first
      | (refine SX.Go1.is ?_; first
          | (refine SX.Go1.isLoad ?_; first | refine SX.G.load2 ?_ | refine SX.G.load1 ?_ | refine SX.G.loadR1 ?_ | refine SX.G.loadR2 ?_ | refine SX.G.load4 ?_ | refine SX.G.loadR4 ?_ | refine SX.G.load5 ?_ | refine SX.G.load15 ?_ | refine SX.G.loadR15 ?_ | refine SX.G.loadH ?_ | refine SX.G.loadHI ?_ | refine SX.G.loadOWA ?_ | refine SX.G.load3 ?_ | refine SX.G.loadR3 ?_ | refine SX.G.loadOW ?_ | refine SX.G.loadO1 ?_)
          | (refine SX.Go1.isBin ?_; first | refine SX.G.lss ?_ | refine SX.G.eql ?_ | refine SX.G.neq ?_ | refine SX.G.gtr ?_ | refine SX.G.geq ?_ | refine SX.G.leq ?_ | refine SX.G.addN ?_ | refine SX.G.addNu ?_ | refine SX.G.subN ?_ | refine SX.G.subNu ?_ | refine SX.G.add ?_ | refine SX.G.sub ?_ | refine SX.G.mulN ?_ | refine SX.G.mulNu ?_ | refine SX.G.mul ?_ | refine SX.G.quoN ?_ | refine SX.G.quoNu ?_ | refine SX.G.quo ?_ | refine SX.G.remN ?_ | refine SX.G.remNu ?_ | refine SX.G.rem ?_ | refine SX.G.eqlT ?_ | refine SX.G.eqlNN ?_ | refine SX.G.eqlPN ?_ | refine SX.G.neqPP ?_ | refine SX.G.neqT ?_ | refine SX.G.eqlB ?_ | refine SX.G.neqB ?_ | refine SX.G.shr ?_ | refine SX.G.shl ?_ | refine SX.G.and ?_ | refine SX.G.addT ?_)
          | (refine SX.Go1.isUn ?_; first | refine SX.G.not ?_ | refine SX.G.neg ?_)
          | (refine SX.Go1.isField ?_; first | refine SX.G.fieldAddr ?_ | refine SX.G.fieldAddrR ?_)
          | (refine SX.Go1.isBuild ?_; first | refine SX.G.buildA ?_ | refine SX.G.build2 ?_ | refine SX.G.build3 ?_ | refine SX.G.build4 ?_ | refine SX.G.build5 ?_ | refine SX.G.build15 ?_ | refine SX.G.build ?_)
          | (refine SX.Go1.isStore ?_; first | refine SX.G.store ?_ | refine SX.G.storeP ?_ | refine SX.G.storeH ?_ | refine SX.G.storeHI ?_ | refine SX.G.storeOWA ?_ | refine SX.G.storeO ?_)
          | (refine SX.Go1.isIx ?_; first | refine SX.G.indexAddrW ?_ | refine SX.G.indexAddrV ?_ | refine SX.G.indexAddrR ?_ | refine SX.G.indexAddrH ?_ | refine SX.G.indexAddrO ?_ | refine SX.G.indexAddrA ?_ | refine SX.G.indexAddrG ?_)
          | (refine SX.Go1.isBuildS ?_; first | refine SX.G.litH ?_ | refine SX.G.litOwn ?_ | refine SX.G.lit2Own ?_ | refine SX.G.lit2 ?_ | refine SX.G.lit3 ?_ | refine SX.G.lit1 ?_)
          | (refine SX.Go1.isCall ?_; first | refine SX.G.minN ?_ | refine SX.G.maxN ?_ | refine SX.G.lenR ?_ | refine SX.G.lenN ?_ | refine SX.G.lenT ?_ | refine SX.G.lenS ?_ | refine SX.G.lenO ?_ | refine SX.G.appendW ?_ | refine SX.G.appendNilW ?_ | refine SX.G.appendT ?_ | refine SX.G.sliceDataN ?_ | refine SX.G.sliceDataO ?_ | refine SX.G.unsafeStrN ?_ | refine SX.G.unsafeStrO ?_ | refine SX.G.lenH ?_ | refine SX.G.appendH ?_ | refine SX.G.callF ?_ | refine SX.G.callP ?_ | refine SX.G.callB ?_ | refine SX.G.callOwn ?_ | refine SX.G.call ?_)
          | refine SX.G.move ?_ | refine SX.G.assign ?_ | refine SX.G.extract ?_ | refine SX.G.boxN ?_ | refine SX.G.box ?_ | refine SX.G.allocN ?_ | refine SX.G.alloc ?_ | refine SX.G.nilCheckP ?_ | refine SX.G.nilCheckR ?_ | refine SX.G.mkfn ?_ | refine SX.G.mkfnA ?_ | refine SX.G.mkclo ?_ | refine SX.G.mkbnd ?_ | refine SX.G.pick ?_ | refine SX.R.pickT ?_ | refine SX.R.pickF ?_ | refine SX.G.pickB ?_ | refine SX.G.pickV ?_ | refine SX.G.makeN ?_ | refine SX.G.convN ?_ | refine SX.G.conv ?_ | refine SX.G.convBS ?_ | refine SX.G.convPU ?_ | refine SX.G.sliceH ?_ | refine SX.G.sliceHiW ?_ | refine SX.G.sliceLoW ?_ | refine SX.G.sliceHiR ?_ | refine SX.G.sliceLoR ?_ | refine SX.G.sliceHiO ?_ | refine SX.G.sliceHiT ?_ | refine SX.G.sliceLoT ?_ | refine SX.G.sliceLHT ?_ | refine SX.G.indexA ?_ | refine SX.G.indexT ?_ | refine SX.G.sliceHiS ?_ | refine SX.G.sliceLoS ?_ | refine SX.G.sliceLHS ?_ | refine SX.G.indexS ?_)
      | (refine SX.Reg.is ?_; first | refine SX.Reg.go ?_ | refine SX.R.runT ?_ | refine SX.R.runF ?_ | refine SX.R.skipT ?_ | refine SX.R.skipF ?_ | refine SX.R.skipU ?_ | refine SX.Reg.nil ⟨by kernel_rfl, ?_⟩ | refine SX.Reg.nil ?_)
      | (refine SX.WP.is ?_; first | refine SX.WP.seq ?_ | refine SX.WP.regionN (by rfl) ?_ | refine SX.WP.regionDN (by rfl) (by kernel_rfl) ?_ | refine SX.WP.block ?_ | refine SX.WP.skip ?_ | refine SX.WP.exit ?_ | refine SX.WP.ret ?_ | refine SX.WP.label ?_ | refine SX.W.condT ?_ | refine SX.W.condF ?_)
      | refine SX.thenN ?_ | refine SX.thenE ?_ | refine SX.thenR ?_ | refine SX.inBlkN ?_ | refine SX.inBlkR ?_ | refine SX.inBlkE ?_ | refine SX.inBlkO rfl ?_ | refine SX.retR ?_ | refine SX.retN ?_ | refine SX.retFR ?_ | refine SX.retFN ?_)
    exact h.out) : p := k ⟨h⟩
end SX
/- make, of elements of several cells. No program in sight. -/
set_option linter.unusedVariables false
set_option linter.unusedSimpArgs false
namespace SX
open Go Go.RowKit
/-- What a zero element is told as. -/
class AsZero (zs : List Value) (cells : outParam (List CA)) : Prop where
  h : ∀ S w, All2 (CA.has S w) cells zs
theorem all2_rep {S : Nat → Prop} {w : World} {cells : List CA} {zs : List Value} (h : All2 (CA.has S w) cells zs) : ∀ n : Nat, All2 (CA.has S w) (List.replicate n cells).flatten (List.replicate n zs).flatten
  | 0 => trivial
  | n + 1 => by
    rw [List.replicate_succ, List.replicate_succ, List.flatten_cons, List.flatten_cons]
    exact h.append (all2_rep h n)
theorem made_rep (zs : List Value) (h0 : 0 < zs.length) (n : Nat) : (madeCells zs.toArray (n * zs.length)).toList = (List.replicate n zs).flatten := by
  induction n with
  | zero => simp [madeCells]
  | succ n ih =>
    rw [show List.replicate (n + 1) zs = List.replicate n zs ++ [zs] by rw [List.replicate_succ'], List.flatten_append, ← ih]
    apply List.ext_getElem?
    intro j
    have hsz : ∀ m, (madeCells zs.toArray m).toList.length = m := fun m => by rw [Array.length_toList, size_madeCells]
    by_cases h1 : j < n * zs.length
    · rw [List.getElem?_append_left (by rw [hsz]; exact h1)]
      have h2 : j < (n + 1) * zs.length := by rw [Nat.add_mul]; omega
      simp [madeCells, h1, h2]
    · rw [List.getElem?_append_right (by rw [hsz]; omega), hsz]
      by_cases h2 : j < (n + 1) * zs.length
      · have h3 : j - n * zs.length < zs.length := by rw [Nat.add_mul] at h2; omega
        have h4 : j % zs.length = j - n * zs.length := by
          have : j = (j - n * zs.length) + zs.length * n := by rw [Nat.mul_comm zs.length n]; omega
          rw [this, Nat.add_mul_mod_self_left, Nat.mod_eq_of_lt h3]; rw [Nat.mul_comm zs.length n]; omega
        simp [madeCells, h2, h4, h3]
      · have h3 : ¬ j - n * zs.length < zs.length := by rw [Nat.add_mul] at h2; omega
        simp [madeCells, h2]
        omega
section
variable {P : Program} {C : Ctx} {st : St}
variable {ops rest : List Oper} {acc : List (List Nat × List Nat)} {K : List (List Nat × List Nat) → St → Prop} {dst : Option Tmp} {d : Tmp} {op : Op} {ty t t' : TypeId} {x y z : Operand}
theorem Go1.makeG {e : TypeId} {n bytes size : Nat} {k k' : IntKind} {zs : List Value} {cells : List CA} [ht : TSlice P t e size] [he : TElem P e zs bytes] [hz : AsZero zs cells] (hd : dstOK (some d) C.nt = true) (hx : st.ev x = some (.v (.int k (n : Int)))) (hy : st.ev y = some (.v (.int k' (n : Int)))) (hf : st.hp d = .free)
    (hb : n * bytes ≤ 140737488355328) (hm : n ≤ 9223372036854775807) (hs : zs.length = size)
    (next : Reg P C ops rest (st.app (some d) ⟨.own d, [(d, .ent (.row e size n (List.replicate n cells).flatten))]⟩) (([d], [d]) :: acc) K) : Go1 P C ops (some d) (.makeSlice t x y) ty rest st acc K :=
  ⟨[d], ⟨.own d, [(d, .ent (.row e size n (List.replicate n cells).flatten))]⟩, fun o h2 h3 h4 => OpOK.newRow h2 hd hf [] (fun b e hb => by cases hb) (fun st' E S a w hev hs' _ => by
    have hxv : a.eval x = .int k (n : Int) := (hs'.ev ((hev x (by simp [h3, Op.operands])).trans hx)).1
    have hyv : a.eval y = .int k' (n : Int) := (hs'.ev ((hev y (by simp [h3, Op.operands])).trans hy)).1
    obtain ⟨i, z', hi, hz', hc, hsz, hby⟩ := elem_info he ht.s
    obtain ⟨w', hrun, hown, hgr⟩ := run_make_full (P := P) w 0 t e i z' size ht.h hi hz' hsz k k' n (by rw [hby, Nat.mul_comm]; omega) (by simp [maxLen]; omega) (Nat.zero_le _)
    refine ⟨.slice (some ⟨w.heap.size, 0, none⟩) n n, w', (List.replicate n zs).flatten, ?_, ?_, off_grown hgr (fun k hk => by cases hk), fun k hk => by simp [Value.ownBlock] at hk; omega, all2_rep (hz.h _ _) n⟩
    · unfold execOp; rw [h3]; simp [hxv, hyv, hrun]
    · have hl : (madeCells z'.cells (n * size)).toList = (List.replicate n zs).flatten := by rw [hc, ← hs]; exact made_rep zs (by rw [hs]; exact ht.p) n
      rw [← hl]; exact hown), next⟩
theorem G.makeG {e : TypeId} {n bytes size : Nat} {k k' : IntKind} {zi zj : Int} {zs : List Value} {cells : List CA} [ht : TSlice P t e size] [he : TElem P e zs bytes] [hz : AsZero zs cells] (next : Reg P C ops rest (st.app (some d) ⟨.own d, [(d, .ent (.row e size n (List.replicate n cells).flatten))]⟩) (([d], [d]) :: acc) K) (hd : dstOK (some d) C.nt = true := by rfl) (hx : st.ev x = some (.v (.int k zi)) := by rfl) (hx0 : zi = (n : Int) := by first | with_reducible rfl | exact SX.litN _ | rfl) (hy : st.ev y = some (.v (.int k' zj)) := by rfl) (hy0 : zj = (n : Int) := by first | with_reducible rfl | exact SX.litN _ | rfl) (hf : st.hp d = .free := by rfl)
    (hb : n * bytes ≤ 140737488355328 := by omega) (hm : n ≤ 9223372036854775807 := by omega) (hs : zs.length = size := by rfl) : Go1 P C ops (some d) (.makeSlice t x y) ty rest st acc K := by
  subst hx0; subst hy0
  exact Go1.makeG hd hx hy hf hb hm hs next
theorem G.loadA1 {b off : Nat} {T : TypeId} {cells : List Atom} {a1 : Atom} [ht : TAgg P t 1] (next : Reg P C ops rest (st.app (some d) ⟨.agg [a1], []⟩) (([b], []) :: acc) K) (hd : dstOK (some d) C.nt = true := by rfl) (hx : st.ev x = some (.ptr b off) := by rfl) (hb : st.hp b = .ent (.box T cells) := by rfl) (hr : (cells.drop off).take 1 = [a1] := by rfl) : Go1 P C ops (some d) (.load t x) ty rest st acc K :=
  Go1.loadAgg hd hx hb (by have := congrArg List.length hr; simp at this; rw [Nat.ble_eq]; omega) hr next
theorem G.loadRA1 {c1 : CA} {cells : List CA} [ht : TAgg P t 1] (next : Reg P C ops rest (st.app dst ⟨.agg [.c c1], []⟩) (([], []) :: acc) K) (hd : dstOK dst C.nt = true := by rfl) (hx : st.ev x = some (.r (ptrR cells)) := by rfl) (hl : cells = [c1] := by rfl) : Go1 P C ops dst (.load t x) ty rest st acc K := by
  subst hl; exact Go1.loadRAgg hd hx rfl next
theorem G.build1 {pl : List (Nat × Nat)} {zs : List Value} {parts : Array (Nat × Operand)} {ps : List (Nat × AV0)} {a1 : Atom} [ht : TStruct P t pl] [hz : TZero P t zs] (next : Reg P C ops rest (st.app (some d) ⟨.agg [a1], []⟩) (([], []) :: acc) K) (hd : dstOK (some d) C.nt = true := by rfl) (hp : evp st parts.toList = some ps := by rfl) (h1 : (ps.all fun p => p.2.cells.all Atom.oneB) = true := by rfl) (hf : fillA pl (zs.map fun v => Atom.c (.val v)) ps = some [a1] := by rfl) : Go1 P C ops (some d) (.build t parts) ty rest st acc K :=
  Go1.build hd hp h1 hf next
theorem ResOK.agg1 {t : Tmp} {T T' : TypeId} {b off : Nat} {cells : List Atom} {a1 : Atom} [ht : TAgg P T 1] (h : st.tm t = some (.ptr b off)) (hb : st.hp b = .ent (.box T' cells)) (hr : (cells.drop off).take 1 = [a1]) : ResOK P st (.cell t T) (.agg [a1]) :=
  ResOK.agg h hb (by have := congrArg List.length hr; simp at this; rw [Nat.ble_eq]; omega) hr
end
structure HeldJ (q : Prop) : Prop where
  out : q
theorem goJ {p q : Prop} (h : q) (k : HeldJ q → p := by
    intro h
    (first
      | (refine SX.Go1.is ?_; first
          | (refine SX.Go1.isLoad ?_; first | refine SX.G.load2 ?_ | refine SX.G.load1 ?_ | refine SX.G.loadR1 ?_ | refine SX.G.loadR2 ?_ | refine SX.G.load4 ?_ | refine SX.G.loadR4 ?_ | refine SX.G.load5 ?_ | refine SX.G.load15 ?_ | refine SX.G.loadA1 ?_ | refine SX.G.loadRA1 ?_ | refine SX.G.loadR15 ?_ | refine SX.G.loadH ?_ | refine SX.G.loadHI ?_ | refine SX.G.loadOWA ?_ | refine SX.G.load3 ?_ | refine SX.G.loadR3 ?_ | refine SX.G.loadOW ?_ | refine SX.G.loadO1 ?_)
          | (refine SX.Go1.isBin ?_; first | refine SX.G.lss ?_ | refine SX.G.eql ?_ | refine SX.G.neq ?_ | refine SX.G.gtr ?_ | refine SX.G.geq ?_ | refine SX.G.leq ?_ | refine SX.G.addN ?_ | refine SX.G.addNu ?_ | refine SX.G.subN ?_ | refine SX.G.subNu ?_ | refine SX.G.add ?_ | refine SX.G.sub ?_ | refine SX.G.mulN ?_ | refine SX.G.mulNu ?_ | refine SX.G.mul ?_ | refine SX.G.quoN ?_ | refine SX.G.quoNu ?_ | refine SX.G.quo ?_ | refine SX.G.remN ?_ | refine SX.G.remNu ?_ | refine SX.G.rem ?_ | refine SX.G.eqlT ?_ | refine SX.G.eqlNN ?_ | refine SX.G.eqlPN ?_ | refine SX.G.neqPP ?_ | refine SX.G.neqT ?_ | refine SX.G.eqlB ?_ | refine SX.G.neqB ?_ | refine SX.G.shr ?_ | refine SX.G.shl ?_ | refine SX.G.and ?_ | refine SX.G.addT ?_)
          | (refine SX.Go1.isUn ?_; first | refine SX.G.not ?_ | refine SX.G.neg ?_)
          | (refine SX.Go1.isField ?_; first | refine SX.G.fieldAddr ?_ | refine SX.G.fieldAddrR ?_)
          | (refine SX.Go1.isBuild ?_; first | refine SX.G.buildA ?_ | refine SX.G.build1 ?_ | refine SX.G.build2 ?_ | refine SX.G.build3 ?_ | refine SX.G.build4 ?_ | refine SX.G.build5 ?_ | refine SX.G.build15 ?_ | refine SX.G.build ?_)
          | (refine SX.Go1.isStore ?_; first | refine SX.G.store ?_ | refine SX.G.storeP ?_ | refine SX.G.storeH ?_ | refine SX.G.storeHI ?_ | refine SX.G.storeOWA ?_ | refine SX.G.storeO ?_)
          | (refine SX.Go1.isIx ?_; first | refine SX.G.indexAddrW ?_ | refine SX.G.indexAddrV ?_ | refine SX.G.indexAddrR ?_ | refine SX.G.indexAddrH ?_ | refine SX.G.indexAddrO ?_ | refine SX.G.indexAddrA ?_ | refine SX.G.indexAddrG ?_)
          | (refine SX.Go1.isBuildS ?_; first | refine SX.G.litH ?_ | refine SX.G.litOwn ?_ | refine SX.G.lit2Own ?_ | refine SX.G.lit2 ?_ | refine SX.G.lit3 ?_ | refine SX.G.lit1 ?_)
          | (refine SX.Go1.isCall ?_; first | refine SX.G.minN ?_ | refine SX.G.maxN ?_ | refine SX.G.lenR ?_ | refine SX.G.lenN ?_ | refine SX.G.lenT ?_ | refine SX.G.lenS ?_ | refine SX.G.lenO ?_ | refine SX.G.appendW ?_ | refine SX.G.appendNilW ?_ | refine SX.G.appendT ?_ | refine SX.G.sliceDataN ?_ | refine SX.G.sliceDataO ?_ | refine SX.G.unsafeStrN ?_ | refine SX.G.unsafeStrO ?_ | refine SX.G.lenH ?_ | refine SX.G.appendH ?_ | refine SX.G.callF ?_ | refine SX.G.callP ?_ | refine SX.G.callB ?_ | refine SX.G.callOwn ?_ | refine SX.G.call ?_)
          | refine SX.G.move ?_ | refine SX.G.assign ?_ | refine SX.G.extract ?_ | refine SX.G.boxN ?_ | refine SX.G.box ?_ | refine SX.G.allocN ?_ | refine SX.G.alloc ?_ | refine SX.G.nilCheckP ?_ | refine SX.G.nilCheckR ?_ | refine SX.G.mkfn ?_ | refine SX.G.mkfnA ?_ | refine SX.G.mkclo ?_ | refine SX.G.mkbnd ?_ | refine SX.G.pick ?_ | refine SX.R.pickT ?_ | refine SX.R.pickF ?_ | refine SX.G.pickB ?_ | refine SX.G.pickV ?_ | refine SX.G.makeN ?_ | refine SX.G.makeG ?_ | refine SX.G.convN ?_ | refine SX.G.conv ?_ | refine SX.G.convBS ?_ | refine SX.G.convPU ?_ | refine SX.G.sliceH ?_ | refine SX.G.sliceHiW ?_ | refine SX.G.sliceLoW ?_ | refine SX.G.sliceHiR ?_ | refine SX.G.sliceLoR ?_ | refine SX.G.sliceHiO ?_ | refine SX.G.sliceHiT ?_ | refine SX.G.sliceLoT ?_ | refine SX.G.sliceLHT ?_ | refine SX.G.indexA ?_ | refine SX.G.indexT ?_ | refine SX.G.sliceHiS ?_ | refine SX.G.sliceLoS ?_ | refine SX.G.sliceLHS ?_ | refine SX.G.indexS ?_)
      | (refine SX.Reg.is ?_; first | refine SX.Reg.go ?_ | refine SX.R.runT ?_ | refine SX.R.runF ?_ | refine SX.R.skipT ?_ | refine SX.R.skipF ?_ | refine SX.R.skipU ?_ | refine SX.Reg.nil ⟨by kernel_rfl, ?_⟩ | refine SX.Reg.nil ?_)
      | (refine SX.WP.is ?_; first | refine SX.WP.seq ?_ | refine SX.WP.regionN (by rfl) ?_ | refine SX.WP.regionDN (by rfl) (by kernel_rfl) ?_ | refine SX.WP.block ?_ | refine SX.WP.skip ?_ | refine SX.WP.exit ?_ | refine SX.WP.ret ?_ | refine SX.WP.label ?_ | refine SX.W.condT ?_ | refine SX.W.condF ?_)
      | refine SX.thenN ?_ | refine SX.thenE ?_ | refine SX.thenR ?_ | refine SX.inBlkN ?_ | refine SX.inBlkR ?_ | refine SX.inBlkE ?_ | refine SX.inBlkO rfl ?_ | refine SX.retR ?_ | refine SX.retN ?_ | refine SX.retFR ?_ | refine SX.retFN ?_)
    repeat (first
      | (refine SX.Go1.is ?_; first
          | (refine SX.Go1.isLoad ?_; first | refine SX.G.load2 ?_ | refine SX.G.load1 ?_ | refine SX.G.loadR1 ?_ | refine SX.G.loadR2 ?_ | refine SX.G.load4 ?_ | refine SX.G.loadR4 ?_ | refine SX.G.load5 ?_ | refine SX.G.load15 ?_ | refine SX.G.loadA1 ?_ | refine SX.G.loadRA1 ?_ | refine SX.G.loadR15 ?_ | refine SX.G.loadH ?_ | refine SX.G.loadHI ?_ | refine SX.G.loadOWA ?_ | refine SX.G.load3 ?_ | refine SX.G.loadR3 ?_ | refine SX.G.loadOW ?_ | refine SX.G.loadO1 ?_)
          | (refine SX.Go1.isBin ?_; first | refine SX.G.lss ?_ | refine SX.G.eql ?_ | refine SX.G.neq ?_ | refine SX.G.gtr ?_ | refine SX.G.geq ?_ | refine SX.G.leq ?_ | refine SX.G.addN ?_ | refine SX.G.addNu ?_ | refine SX.G.subN ?_ | refine SX.G.subNu ?_ | refine SX.G.add ?_ | refine SX.G.sub ?_ | refine SX.G.mulN ?_ | refine SX.G.mulNu ?_ | refine SX.G.mul ?_ | refine SX.G.quoN ?_ | refine SX.G.quoNu ?_ | refine SX.G.quo ?_ | refine SX.G.remN ?_ | refine SX.G.remNu ?_ | refine SX.G.rem ?_ | refine SX.G.eqlT ?_ | refine SX.G.eqlNN ?_ | refine SX.G.eqlPN ?_ | refine SX.G.neqPP ?_ | refine SX.G.neqT ?_ | refine SX.G.eqlB ?_ | refine SX.G.neqB ?_ | refine SX.G.shr ?_ | refine SX.G.shl ?_ | refine SX.G.and ?_ | refine SX.G.addT ?_)
          | (refine SX.Go1.isUn ?_; first | refine SX.G.not ?_ | refine SX.G.neg ?_)
          | (refine SX.Go1.isField ?_; first | refine SX.G.fieldAddr ?_ | refine SX.G.fieldAddrR ?_)
          | (refine SX.Go1.isBuild ?_; first | refine SX.G.buildA ?_ | refine SX.G.build1 ?_ | refine SX.G.build2 ?_ | refine SX.G.build3 ?_ | refine SX.G.build4 ?_ | refine SX.G.build5 ?_ | refine SX.G.build15 ?_ | refine SX.G.build ?_)
          | (refine SX.Go1.isStore ?_; first | refine SX.G.store ?_ | refine SX.G.storeP ?_ | refine SX.G.storeH ?_ | refine SX.G.storeHI ?_ | refine SX.G.storeOWA ?_ | refine SX.G.storeO ?_)
          | (refine SX.Go1.isIx ?_; first | refine SX.G.indexAddrW ?_ | refine SX.G.indexAddrV ?_ | refine SX.G.indexAddrR ?_ | refine SX.G.indexAddrH ?_ | refine SX.G.indexAddrO ?_ | refine SX.G.indexAddrA ?_ | refine SX.G.indexAddrG ?_)
          | (refine SX.Go1.isBuildS ?_; first | refine SX.G.litH ?_ | refine SX.G.litOwn ?_ | refine SX.G.lit2Own ?_ | refine SX.G.lit2 ?_ | refine SX.G.lit3 ?_ | refine SX.G.lit1 ?_)
          | (refine SX.Go1.isCall ?_; first | refine SX.G.minN ?_ | refine SX.G.maxN ?_ | refine SX.G.lenR ?_ | refine SX.G.lenN ?_ | refine SX.G.lenT ?_ | refine SX.G.lenS ?_ | refine SX.G.lenO ?_ | refine SX.G.appendW ?_ | refine SX.G.appendNilW ?_ | refine SX.G.appendT ?_ | refine SX.G.sliceDataN ?_ | refine SX.G.sliceDataO ?_ | refine SX.G.unsafeStrN ?_ | refine SX.G.unsafeStrO ?_ | refine SX.G.lenH ?_ | refine SX.G.appendH ?_ | refine SX.G.callF ?_ | refine SX.G.callP ?_ | refine SX.G.callB ?_ | refine SX.G.callOwn ?_ | refine SX.G.call ?_)
          | refine SX.G.move ?_ | refine SX.G.assign ?_ | refine SX.G.extract ?_ | refine SX.G.boxN ?_ | refine SX.G.box ?_ | refine SX.G.allocN ?_ | refine SX.G.alloc ?_ | refine SX.G.nilCheckP ?_ | refine SX.G.nilCheckR ?_ | refine SX.G.mkfn ?_ | refine SX.G.mkfnA ?_ | refine SX.G.mkclo ?_ | refine SX.G.mkbnd ?_ | refine SX.G.pick ?_ | refine SX.R.pickT ?_ | refine SX.R.pickF ?_ | refine SX.G.pickB ?_ | refine SX.G.pickV ?_ | refine SX.G.makeN ?_ | refine SX.G.makeG ?_ | refine SX.G.convN ?_ | refine SX.G.conv ?_ | refine SX.G.convBS ?_ | refine SX.G.convPU ?_ | refine SX.G.sliceH ?_ | refine SX.G.sliceHiW ?_ | refine SX.G.sliceLoW ?_ | refine SX.G.sliceHiR ?_ | refine SX.G.sliceLoR ?_ | refine SX.G.sliceHiO ?_ | refine SX.G.sliceHiT ?_ | refine SX.G.sliceLoT ?_ | refine SX.G.sliceLHT ?_ | refine SX.G.indexA ?_ | refine SX.G.indexT ?_ | refine SX.G.sliceHiS ?_ | refine SX.G.sliceLoS ?_ | refine SX.G.sliceLHS ?_ | refine SX.G.indexS ?_)
      | (refine SX.Reg.is ?_; first | refine SX.Reg.go ?_ | refine SX.R.runT ?_ | refine SX.R.runF ?_ | refine SX.R.skipT ?_ | refine SX.R.skipF ?_ | refine SX.R.skipU ?_ | refine SX.Reg.nil ⟨by kernel_rfl, ?_⟩ | refine SX.Reg.nil ?_)
      | (refine SX.WP.is ?_; first | refine SX.WP.seq ?_ | refine SX.WP.regionN (by rfl) ?_ | refine SX.WP.regionDN (by rfl) (by kernel_rfl) ?_ | refine SX.WP.block ?_ | refine SX.WP.skip ?_ | refine SX.WP.exit ?_ | refine SX.WP.ret ?_ | refine SX.WP.label ?_ | refine SX.W.condT ?_ | refine SX.W.condF ?_)
      | refine SX.thenN ?_ | refine SX.thenE ?_ | refine SX.thenR ?_ | refine SX.inBlkN ?_ | refine SX.inBlkR ?_ | refine SX.inBlkE ?_ | refine SX.inBlkO rfl ?_ | refine SX.retR ?_ | refine SX.retN ?_ | refine SX.retFR ?_ | refine SX.retFN ?_)
    exact h.out) : p := k ⟨h⟩
end SX
/- Slices that are nil, or not; empty slices that are written. No program in sight. -/
set_option linter.unusedVariables false
set_option linter.unusedSimpArgs false
namespace SX
open Go Go.RowKit
/-- A slice that isn't nil. -/
def nnR (r : Rep) : Rep where
  has S w v := r.has S w v ∧ ∃ a n c, v = .slice (some a) n c
  one := fun h => r.one h.1
  step := fun h ho hs => ⟨r.step h.1 ho hs, h.2⟩
section
variable {P : Program} {C : Ctx} {st : St}
variable {ops rest : List Oper} {acc : List (List Nat × List Nat)} {K : List (List Nat × List Nat) → St → Prop} {dst : Option Tmp} {d : Tmp} {op : Op} {ty t t' : TypeId} {x y z : Operand}
end
structure HeldK (q : Prop) : Prop where
  out : q
end SX
/- make with room. No program in sight. -/
set_option linter.unusedVariables false
set_option linter.unusedSimpArgs false
namespace SX
open Go Go.RowKit
theorem take_rep {α : Type} (zs : List α) {n m : Nat} (h : n ≤ m) : (List.replicate m zs).flatten.take (n * zs.length) = (List.replicate n zs).flatten := by
  obtain ⟨k, rfl⟩ : ∃ k, m = n + k := ⟨m - n, by omega⟩
  rw [← List.replicate_append_replicate, List.flatten_append]
  have hl : (List.replicate n zs).flatten.length = n * zs.length := by simp
  rw [← hl, List.take_left]
section
variable {P : Program} {C : Ctx} {st : St}
variable {ops rest : List Oper} {acc : List (List Nat × List Nat)} {K : List (List Nat × List Nat) → St → Prop} {dst : Option Tmp} {d : Tmp} {op : Op} {ty t t' : TypeId} {x y z : Operand}
theorem Go1.makeC {e : TypeId} {n m bytes size : Nat} {k k' : IntKind} {zs : List Value} {cells : List CA} [ht : TSlice P t e size] [he : TElem P e zs bytes] [hz : AsZero zs cells] (hd : dstOK (some d) C.nt = true) (hx : st.ev x = some (.v (.int k (n : Int)))) (hy : st.ev y = some (.v (.int k' (m : Int)))) (hf : st.hp d = .free)
    (hnm : n ≤ m) (hb : m * bytes ≤ 140737488355328) (hm : m ≤ 9223372036854775807) (hs : zs.length = size)
    (next : Reg P C ops rest (st.app (some d) ⟨.own d, [(d, .ent (.row e size n (List.replicate n cells).flatten))]⟩) (([d], [d]) :: acc) K) : Go1 P C ops (some d) (.makeSlice t x y) ty rest st acc K :=
  ⟨[d], ⟨.own d, [(d, .ent (.row e size n (List.replicate n cells).flatten))]⟩, fun o h2 h3 h4 => OpOK.newRow h2 hd hf [] (fun b e hb => by cases hb) (fun st' E S a w hev hs' _ => by
    have hxv : a.eval x = .int k (n : Int) := (hs'.ev ((hev x (by simp [h3, Op.operands])).trans hx)).1
    have hyv : a.eval y = .int k' (m : Int) := (hs'.ev ((hev y (by simp [h3, Op.operands])).trans hy)).1
    obtain ⟨i, z', hi, hz', hc, hsz, hby⟩ := elem_info he ht.s
    have hb' : (i.bytes : Int) * (m : Int) ≤ 281474976710656 := by
      have h : ((i.bytes * m : Nat) : Int) ≤ 281474976710656 := by rw [hby, Nat.mul_comm]; omega
      rwa [Int.natCast_mul] at h
    have hr := run_make (P := P) w t e i z' ht.h hi hz' k k' n m (by omega) (by omega) hb' (by omega)
    simp only [Int.toNat_natCast] at hr
    rw [hsz] at hr
    have hl : (madeCells z'.cells (m * size)).toList = (List.replicate m zs).flatten := by rw [hc, ← hs]; exact made_rep zs (by rw [hs]; exact ht.p) m
    have hmx : m ≤ maxLen := by simp [maxLen]; omega
    refine ⟨.slice (some ⟨w.heap.size, 0, none⟩) n m, _, (List.replicate n zs).flatten, ?_, ⟨by simp [hs], .inr ⟨w.heap.size, m, madeCells z'.cells (m * size), rfl, Nat.zero_le _, heap_alloc_new w _, hnm, hmx, ?_, ?_⟩⟩, Off.alloc _ _ _, fun k hk => by simp [Value.ownBlock] at hk; omega, all2_rep (hz.h _ _) n⟩
    · unfold execOp; rw [h3]; simp [hxv, hyv, hr]
    · exact size_madeCells _ _
    · rw [hl, ← hs, take_rep zs hnm]), next⟩
theorem G.makeC {e : TypeId} {n m bytes size : Nat} {k k' : IntKind} {zi zj : Int} {zs : List Value} {cells : List CA} [ht : TSlice P t e size] [he : TElem P e zs bytes] [hz : AsZero zs cells] (next : Reg P C ops rest (st.app (some d) ⟨.own d, [(d, .ent (.row e size n (List.replicate n cells).flatten))]⟩) (([d], [d]) :: acc) K) (hd : dstOK (some d) C.nt = true := by rfl) (hx : st.ev x = some (.v (.int k zi)) := by rfl) (hx0 : zi = (n : Int) := by first | with_reducible rfl | exact SX.litN _ | rfl) (hy : st.ev y = some (.v (.int k' zj)) := by rfl) (hy0 : zj = (m : Int) := by first | with_reducible rfl | exact SX.litN _ | rfl) (hf : st.hp d = .free := by rfl)
    (hnm : n ≤ m := by omega) (hb : m * bytes ≤ 140737488355328 := by omega) (hm : m ≤ 9223372036854775807 := by omega) (hs : zs.length = size := by rfl) : Go1 P C ops (some d) (.makeSlice t x y) ty rest st acc K := by
  subst hx0; subst hy0
  exact Go1.makeC hd hx hy hf hnm hb hm hs next
theorem G.loadOW2 {α : Type} {i : Nat} {enc : α → List CA} {l : List α} {a : α} {e : TypeId} {b n : Nat} {c1 c2 : CA} [ht : TAgg P t 2] [he : EncLen enc 2] (next : Reg P C ops rest (st.app dst ⟨.agg [.c c1, .c c2], []⟩) (([b], []) :: acc) K) (hd : dstOK dst C.nt = true := by rfl) (hx : st.ev x = some (.it (.one (.rptr b (i * 2)))) := by rfl) (hb : st.hp b = .ent (.row e 2 n (l.flatMap enc)) := by rfl) (ha : l[i]? = some a := by assumption) (h4 : enc a = [c1, c2] := by rfl) : Go1 P C ops dst (.load t x) ty rest st acc K :=
  Go1.loadOAgg (l := [c1, c2]) hd hx hb ((flat_at (enc := enc) (size := 2) ha).trans h4) rfl next
theorem G.maxL {k : IntKind} {zi zj : Int} {tys : Array TypeId} (next : Reg P C ops rest (st.app dst ⟨.v (.int k zj), []⟩) (([], []) :: acc) K) (hd : dstOK dst C.nt = true := by rfl) (hx : st.ev x = some (.v (.int k zi)) := by rfl) (hy : st.ev y = some (.v (.int k zj)) := by rfl) (h : zi ≤ zj := by omega) :
    Go1 P C ops dst (.call ⟨.builtin .max, #[x, y], tys⟩) ty rest st acc K :=
  Go1.val2 hd rfl hx hy (fun ρ o w ho h1 h2 => by
    unfold execOp; rw [ho]
    have e : (if zi < zj then zj else zi) = zj := by split <;> omega
    simp only [resolve, invoke, builtin, List.map_toArray, List.map_cons, List.map_nil, Sem.run_bind, Sem.run_pure, Result.andThen_ok]
    rw [show ρ x = _ from h1, show ρ y = _ from h2, run_max_int2]
    simp only [Result.andThen_ok, gt_iff_lt, e]) next
end
structure HeldL (q : Prop) : Prop where
  out : q
theorem goL {p q : Prop} (h : q) (k : HeldL q → p := by
    intro h
    (first
      | (refine SX.Go1.is ?_; first
          | (refine SX.Go1.isLoad ?_; first | refine SX.G.load2 ?_ | refine SX.G.load1 ?_ | refine SX.G.loadR1 ?_ | refine SX.G.loadR2 ?_ | refine SX.G.load4 ?_ | refine SX.G.loadR4 ?_ | refine SX.G.load5 ?_ | refine SX.G.load15 ?_ | refine SX.G.loadA1 ?_ | refine SX.G.loadRA1 ?_ | refine SX.G.loadR15 ?_ | refine SX.G.loadH ?_ | refine SX.G.loadHI ?_ | refine SX.G.loadOWA ?_ | refine SX.G.loadOW2 ?_ | refine SX.G.load3 ?_ | refine SX.G.loadR3 ?_ | refine SX.G.loadOW ?_ | refine SX.G.loadO1 ?_)
          | (refine SX.Go1.isBin ?_; first | refine SX.G.lss ?_ | refine SX.G.eql ?_ | refine SX.G.eqlNilT ?_ | refine SX.G.eqlNilF ?_ | refine SX.G.neq ?_ | refine SX.G.gtr ?_ | refine SX.G.geq ?_ | refine SX.G.leq ?_ | refine SX.G.addN ?_ | refine SX.G.addNu ?_ | refine SX.G.subN ?_ | refine SX.G.subNu ?_ | refine SX.G.add ?_ | refine SX.G.sub ?_ | refine SX.G.mulN ?_ | refine SX.G.mulNu ?_ | refine SX.G.mul ?_ | refine SX.G.quoN ?_ | refine SX.G.quoNu ?_ | refine SX.G.quo ?_ | refine SX.G.remN ?_ | refine SX.G.remNu ?_ | refine SX.G.rem ?_ | refine SX.G.eqlT ?_ | refine SX.G.eqlNN ?_ | refine SX.G.eqlPN ?_ | refine SX.G.neqPP ?_ | refine SX.G.neqT ?_ | refine SX.G.eqlB ?_ | refine SX.G.neqB ?_ | refine SX.G.shr ?_ | refine SX.G.shl ?_ | refine SX.G.and ?_ | refine SX.G.addT ?_)
          | (refine SX.Go1.isUn ?_; first | refine SX.G.not ?_ | refine SX.G.neg ?_)
          | (refine SX.Go1.isField ?_; first | refine SX.G.fieldAddr ?_ | refine SX.G.fieldAddrR ?_)
          | (refine SX.Go1.isBuild ?_; first | refine SX.G.buildA ?_ | refine SX.G.build1 ?_ | refine SX.G.build2 ?_ | refine SX.G.build3 ?_ | refine SX.G.build4 ?_ | refine SX.G.build5 ?_ | refine SX.G.build15 ?_ | refine SX.G.build ?_)
          | (refine SX.Go1.isStore ?_; first | refine SX.G.store ?_ | refine SX.G.storeP ?_ | refine SX.G.storeH ?_ | refine SX.G.storeHI ?_ | refine SX.G.storeOWA ?_ | refine SX.G.storeO ?_)
          | (refine SX.Go1.isIx ?_; first | refine SX.G.indexAddrW ?_ | refine SX.G.indexAddrV ?_ | refine SX.G.indexAddrR ?_ | refine SX.G.indexAddrH ?_ | refine SX.G.indexAddrO ?_ | refine SX.G.indexAddrA ?_ | refine SX.G.indexAddrG ?_)
          | (refine SX.Go1.isBuildS ?_; first | refine SX.G.lit0Own ?_ | refine SX.G.litH ?_ | refine SX.G.litOwn ?_ | refine SX.G.lit2Own ?_ | refine SX.G.lit2 ?_ | refine SX.G.lit3 ?_ | refine SX.G.lit1 ?_)
          | (refine SX.Go1.isCall ?_; first | refine SX.G.minN ?_ | refine SX.G.maxN ?_ | refine SX.G.maxL ?_ | refine SX.G.maxR ?_ | refine SX.G.lenR ?_ | refine SX.G.lenN ?_ | refine SX.G.lenT ?_ | refine SX.G.lenS ?_ | refine SX.G.lenO ?_ | refine SX.G.appendW ?_ | refine SX.G.appendNilW ?_ | refine SX.G.appendT ?_ | refine SX.G.sliceDataN ?_ | refine SX.G.sliceDataO ?_ | refine SX.G.unsafeStrN ?_ | refine SX.G.unsafeStrO ?_ | refine SX.G.lenH ?_ | refine SX.G.appendH ?_ | refine SX.G.callF ?_ | refine SX.G.callP ?_ | refine SX.G.callB ?_ | refine SX.G.callOwn ?_ | refine SX.G.call ?_)
          | refine SX.G.move ?_ | refine SX.G.assign ?_ | refine SX.G.extract ?_ | refine SX.G.boxN ?_ | refine SX.G.box ?_ | refine SX.G.allocN ?_ | refine SX.G.alloc ?_ | refine SX.G.nilCheckP ?_ | refine SX.G.nilCheckR ?_ | refine SX.G.mkfn ?_ | refine SX.G.mkfnA ?_ | refine SX.G.mkclo ?_ | refine SX.G.mkbnd ?_ | refine SX.G.pick ?_ | refine SX.R.pickT ?_ | refine SX.R.pickF ?_ | refine SX.G.pickB ?_ | refine SX.G.pickV ?_ | refine SX.G.makeN ?_ | refine SX.G.makeG ?_ | refine SX.G.makeC ?_ | refine SX.G.convN ?_ | refine SX.G.conv ?_ | refine SX.G.convBS ?_ | refine SX.G.convPU ?_ | refine SX.G.sliceH ?_ | refine SX.G.sliceHiW ?_ | refine SX.G.sliceLoW ?_ | refine SX.G.sliceHiR ?_ | refine SX.G.sliceLoR ?_ | refine SX.G.sliceHiO ?_ | refine SX.G.sliceHiT ?_ | refine SX.G.sliceLoT ?_ | refine SX.G.sliceLHT ?_ | refine SX.G.indexA ?_ | refine SX.G.indexT ?_ | refine SX.G.sliceHiS ?_ | refine SX.G.sliceLoS ?_ | refine SX.G.sliceLHS ?_ | refine SX.G.indexS ?_)
      | (refine SX.Reg.is ?_; first | refine SX.Reg.go ?_ | refine SX.R.runT ?_ | refine SX.R.runF ?_ | refine SX.R.skipT ?_ | refine SX.R.skipF ?_ | refine SX.R.skipU ?_ | refine SX.Reg.nil ⟨by kernel_rfl, ?_⟩ | refine SX.Reg.nil ?_)
      | (refine SX.WP.is ?_; first | refine SX.WP.seq ?_ | refine SX.WP.regionN (by rfl) ?_ | refine SX.WP.regionDN (by rfl) (by kernel_rfl) ?_ | refine SX.WP.block ?_ | refine SX.WP.skip ?_ | refine SX.WP.exit ?_ | refine SX.WP.ret ?_ | refine SX.WP.label ?_ | refine SX.W.condT ?_ | refine SX.W.condF ?_)
      | refine SX.thenN ?_ | refine SX.thenE ?_ | refine SX.thenR ?_ | refine SX.inBlkN ?_ | refine SX.inBlkR ?_ | refine SX.inBlkE ?_ | refine SX.inBlkO rfl ?_ | refine SX.retR ?_ | refine SX.retN ?_ | refine SX.retFR ?_ | refine SX.retFN ?_)
    repeat (first
      | (refine SX.Go1.is ?_; first
          | (refine SX.Go1.isLoad ?_; first | refine SX.G.load2 ?_ | refine SX.G.load1 ?_ | refine SX.G.loadR1 ?_ | refine SX.G.loadR2 ?_ | refine SX.G.load4 ?_ | refine SX.G.loadR4 ?_ | refine SX.G.load5 ?_ | refine SX.G.load15 ?_ | refine SX.G.loadA1 ?_ | refine SX.G.loadRA1 ?_ | refine SX.G.loadR15 ?_ | refine SX.G.loadH ?_ | refine SX.G.loadHI ?_ | refine SX.G.loadOWA ?_ | refine SX.G.loadOW2 ?_ | refine SX.G.load3 ?_ | refine SX.G.loadR3 ?_ | refine SX.G.loadOW ?_ | refine SX.G.loadO1 ?_)
          | (refine SX.Go1.isBin ?_; first | refine SX.G.lss ?_ | refine SX.G.eql ?_ | refine SX.G.eqlNilT ?_ | refine SX.G.eqlNilF ?_ | refine SX.G.neq ?_ | refine SX.G.gtr ?_ | refine SX.G.geq ?_ | refine SX.G.leq ?_ | refine SX.G.addN ?_ | refine SX.G.addNu ?_ | refine SX.G.subN ?_ | refine SX.G.subNu ?_ | refine SX.G.add ?_ | refine SX.G.sub ?_ | refine SX.G.mulN ?_ | refine SX.G.mulNu ?_ | refine SX.G.mul ?_ | refine SX.G.quoN ?_ | refine SX.G.quoNu ?_ | refine SX.G.quo ?_ | refine SX.G.remN ?_ | refine SX.G.remNu ?_ | refine SX.G.rem ?_ | refine SX.G.eqlT ?_ | refine SX.G.eqlNN ?_ | refine SX.G.eqlPN ?_ | refine SX.G.neqPP ?_ | refine SX.G.neqT ?_ | refine SX.G.eqlB ?_ | refine SX.G.neqB ?_ | refine SX.G.shr ?_ | refine SX.G.shl ?_ | refine SX.G.and ?_ | refine SX.G.addT ?_)
          | (refine SX.Go1.isUn ?_; first | refine SX.G.not ?_ | refine SX.G.neg ?_)
          | (refine SX.Go1.isField ?_; first | refine SX.G.fieldAddr ?_ | refine SX.G.fieldAddrR ?_)
          | (refine SX.Go1.isBuild ?_; first | refine SX.G.buildA ?_ | refine SX.G.build1 ?_ | refine SX.G.build2 ?_ | refine SX.G.build3 ?_ | refine SX.G.build4 ?_ | refine SX.G.build5 ?_ | refine SX.G.build15 ?_ | refine SX.G.build ?_)
          | (refine SX.Go1.isStore ?_; first | refine SX.G.store ?_ | refine SX.G.storeP ?_ | refine SX.G.storeH ?_ | refine SX.G.storeHI ?_ | refine SX.G.storeOWA ?_ | refine SX.G.storeO ?_)
          | (refine SX.Go1.isIx ?_; first | refine SX.G.indexAddrW ?_ | refine SX.G.indexAddrV ?_ | refine SX.G.indexAddrR ?_ | refine SX.G.indexAddrH ?_ | refine SX.G.indexAddrO ?_ | refine SX.G.indexAddrA ?_ | refine SX.G.indexAddrG ?_)
          | (refine SX.Go1.isBuildS ?_; first | refine SX.G.lit0Own ?_ | refine SX.G.litH ?_ | refine SX.G.litOwn ?_ | refine SX.G.lit2Own ?_ | refine SX.G.lit2 ?_ | refine SX.G.lit3 ?_ | refine SX.G.lit1 ?_)
          | (refine SX.Go1.isCall ?_; first | refine SX.G.minN ?_ | refine SX.G.maxN ?_ | refine SX.G.maxL ?_ | refine SX.G.maxR ?_ | refine SX.G.lenR ?_ | refine SX.G.lenN ?_ | refine SX.G.lenT ?_ | refine SX.G.lenS ?_ | refine SX.G.lenO ?_ | refine SX.G.appendW ?_ | refine SX.G.appendNilW ?_ | refine SX.G.appendT ?_ | refine SX.G.sliceDataN ?_ | refine SX.G.sliceDataO ?_ | refine SX.G.unsafeStrN ?_ | refine SX.G.unsafeStrO ?_ | refine SX.G.lenH ?_ | refine SX.G.appendH ?_ | refine SX.G.callF ?_ | refine SX.G.callP ?_ | refine SX.G.callB ?_ | refine SX.G.callOwn ?_ | refine SX.G.call ?_)
          | refine SX.G.move ?_ | refine SX.G.assign ?_ | refine SX.G.extract ?_ | refine SX.G.boxN ?_ | refine SX.G.box ?_ | refine SX.G.allocN ?_ | refine SX.G.alloc ?_ | refine SX.G.nilCheckP ?_ | refine SX.G.nilCheckR ?_ | refine SX.G.mkfn ?_ | refine SX.G.mkfnA ?_ | refine SX.G.mkclo ?_ | refine SX.G.mkbnd ?_ | refine SX.G.pick ?_ | refine SX.R.pickT ?_ | refine SX.R.pickF ?_ | refine SX.G.pickB ?_ | refine SX.G.pickV ?_ | refine SX.G.makeN ?_ | refine SX.G.makeG ?_ | refine SX.G.makeC ?_ | refine SX.G.convN ?_ | refine SX.G.conv ?_ | refine SX.G.convBS ?_ | refine SX.G.convPU ?_ | refine SX.G.sliceH ?_ | refine SX.G.sliceHiW ?_ | refine SX.G.sliceLoW ?_ | refine SX.G.sliceHiR ?_ | refine SX.G.sliceLoR ?_ | refine SX.G.sliceHiO ?_ | refine SX.G.sliceHiT ?_ | refine SX.G.sliceLoT ?_ | refine SX.G.sliceLHT ?_ | refine SX.G.indexA ?_ | refine SX.G.indexT ?_ | refine SX.G.sliceHiS ?_ | refine SX.G.sliceLoS ?_ | refine SX.G.sliceLHS ?_ | refine SX.G.indexS ?_)
      | (refine SX.Reg.is ?_; first | refine SX.Reg.go ?_ | refine SX.R.runT ?_ | refine SX.R.runF ?_ | refine SX.R.skipT ?_ | refine SX.R.skipF ?_ | refine SX.R.skipU ?_ | refine SX.Reg.nil ⟨by kernel_rfl, ?_⟩ | refine SX.Reg.nil ?_)
      | (refine SX.WP.is ?_; first | refine SX.WP.seq ?_ | refine SX.WP.regionN (by rfl) ?_ | refine SX.WP.regionDN (by rfl) (by kernel_rfl) ?_ | refine SX.WP.block ?_ | refine SX.WP.skip ?_ | refine SX.WP.exit ?_ | refine SX.WP.ret ?_ | refine SX.WP.label ?_ | refine SX.W.condT ?_ | refine SX.W.condF ?_)
      | refine SX.thenN ?_ | refine SX.thenE ?_ | refine SX.thenR ?_ | refine SX.inBlkN ?_ | refine SX.inBlkR ?_ | refine SX.inBlkE ?_ | refine SX.inBlkO rfl ?_ | refine SX.retR ?_ | refine SX.retN ?_ | refine SX.retFR ?_ | refine SX.retFN ?_)
    exact h.out) : p := k ⟨h⟩
end SX
/- The run at one word, over whole numbers. No program in sight. -/
set_option linter.unusedVariables false
set_option linter.unusedSimpArgs false
namespace SX
open Go Go.RowKit
section
variable {P : Program} {C : Ctx} {st : St}
variable {ops rest : List Oper} {acc : List (List Nat × List Nat)} {K : List (List Nat × List Nat) → St → Prop} {dst : Option Tmp} {d : Tmp} {op : Op} {ty t t' : TypeId} {x y z : Operand}
end
/-- The run, as far as it goes. -/
structure HeldZ (q : Prop) : Prop where
  out : q
theorem goZ {p q : Prop} (h : q) (k : HeldZ q → p := by
    intro h
    (first
      | (refine SX.Go1.is ?_; first
          | (refine SX.Go1.isLoad ?_; first | refine SX.G.load2 ?_ | refine SX.G.load1 ?_ | refine SX.G.loadR1 ?_ | refine SX.G.loadR2 ?_ | refine SX.G.load4 ?_ | refine SX.G.loadR4 ?_ | refine SX.G.load3 ?_ | refine SX.G.loadR3 ?_ | refine SX.G.loadM1 ?_ | refine SX.G.loadO1 ?_ | refine SX.G.loadMO ?_)
          | (refine SX.Go1.isBin ?_; first | refine SX.G.lss ?_ | refine SX.G.eql ?_ | refine SX.G.neq ?_ | refine SX.G.gtr ?_ | refine SX.G.geq ?_ | refine SX.G.leq ?_ | refine SX.G.add ?_ | refine SX.G.sub ?_ | refine SX.G.mul ?_ | refine SX.G.quo ?_ | refine SX.G.rem ?_ | refine SX.G.eqlB ?_ | refine SX.G.neqB ?_ | refine SX.G.shr ?_ | refine SX.G.shl ?_ | refine SX.G.and ?_)
          | (refine SX.Go1.isUn ?_; first | refine SX.G.not ?_ | refine SX.G.neg ?_)
          | (refine SX.Go1.isField ?_; first | refine SX.G.fieldAddr ?_ | refine SX.G.fieldAddrR ?_)
          | (refine SX.Go1.isBuild ?_; first | refine SX.G.build2 ?_ | refine SX.G.build3 ?_ | refine SX.G.build4 ?_ | refine SX.G.build ?_)
          | (refine SX.Go1.isStore ?_; first | refine SX.G.store ?_)
          | (refine SX.Go1.isIx ?_; first | refine SX.G.indexAddrZ ?_ | refine SX.G.indexAddrO ?_)
          | (refine SX.Go1.isBuildS ?_; first | refine SX.G.lit1 ?_)
          | (refine SX.Go1.isCall ?_; first | refine SX.G.lenR ?_ | refine SX.G.lenN ?_ | refine SX.G.lenS ?_ | refine SX.G.lenO ?_ | refine SX.G.appendW ?_ | refine SX.G.appendNilW ?_)
          | refine SX.G.move ?_ | refine SX.G.assign ?_ | refine SX.G.extract ?_ | refine SX.G.box ?_ | refine SX.G.alloc ?_ | refine SX.G.pick ?_ | refine SX.G.pickHT ?_ | refine SX.G.pickHF ?_ | refine SX.G.pickB ?_ | refine SX.G.pickV ?_ | refine SX.G.conv ?_ | refine SX.G.sliceHiZ ?_ | refine SX.G.sliceLoZ ?_ | refine SX.G.sliceHiP ?_ | refine SX.G.sliceHiS ?_ | refine SX.G.sliceLoS ?_ | refine SX.G.sliceLHS ?_ | refine SX.G.indexS ?_)
      | (refine SX.Reg.is ?_; first | refine SX.Reg.go ?_ | refine SX.Reg.goT rfl rfl rfl ?_ | refine SX.Reg.goF rfl rfl rfl ?_ | refine SX.Reg.goU rfl rfl ?_ | refine SX.Reg.goT rfl rfl (by first | (with_reducible assumption) | assumption) ?_ | refine SX.Reg.goF rfl rfl (by first | (with_reducible assumption) | assumption) ?_ | refine SX.Reg.nil ⟨by kernel_rfl, ?_⟩ | refine SX.Reg.nil ?_)
      | (refine SX.WP.is ?_; first | refine SX.WP.seq ?_ | refine SX.WP.regionL ?_ | refine SX.WP.regionDL (by kernel_rfl) ?_ | refine SX.WP.block ?_ | refine SX.WP.skip ?_ | refine SX.WP.exit ?_ | refine SX.WP.ret ?_ | refine SX.WP.label ?_ | refine SX.WP.condT rfl ?_ | refine SX.WP.condF rfl ?_ | refine SX.WP.condHT rfl (by first | (with_reducible assumption) | assumption) ?_ | refine SX.WP.condHF rfl (by first | (with_reducible assumption) | assumption) ?_)
      | refine SX.thenN ?_ | refine SX.thenE ?_ | refine SX.thenR ?_ | refine SX.inBlkN ?_ | refine SX.inBlkR ?_ | refine SX.inBlkE ?_ | refine SX.inBlkO rfl ?_ | refine SX.retR ?_ | refine SX.retN ?_)
    repeat (first
      | (refine SX.Go1.is ?_; first
          | (refine SX.Go1.isLoad ?_; first | refine SX.G.load2 ?_ | refine SX.G.load1 ?_ | refine SX.G.loadR1 ?_ | refine SX.G.loadR2 ?_ | refine SX.G.load4 ?_ | refine SX.G.loadR4 ?_ | refine SX.G.load3 ?_ | refine SX.G.loadR3 ?_ | refine SX.G.loadM1 ?_ | refine SX.G.loadO1 ?_ | refine SX.G.loadMO ?_)
          | (refine SX.Go1.isBin ?_; first | refine SX.G.lss ?_ | refine SX.G.eql ?_ | refine SX.G.neq ?_ | refine SX.G.gtr ?_ | refine SX.G.geq ?_ | refine SX.G.leq ?_ | refine SX.G.add ?_ | refine SX.G.sub ?_ | refine SX.G.mul ?_ | refine SX.G.quo ?_ | refine SX.G.rem ?_ | refine SX.G.eqlB ?_ | refine SX.G.neqB ?_ | refine SX.G.shr ?_ | refine SX.G.shl ?_ | refine SX.G.and ?_)
          | (refine SX.Go1.isUn ?_; first | refine SX.G.not ?_ | refine SX.G.neg ?_)
          | (refine SX.Go1.isField ?_; first | refine SX.G.fieldAddr ?_ | refine SX.G.fieldAddrR ?_)
          | (refine SX.Go1.isBuild ?_; first | refine SX.G.build2 ?_ | refine SX.G.build3 ?_ | refine SX.G.build4 ?_ | refine SX.G.build ?_)
          | (refine SX.Go1.isStore ?_; first | refine SX.G.store ?_)
          | (refine SX.Go1.isIx ?_; first | refine SX.G.indexAddrZ ?_ | refine SX.G.indexAddrO ?_)
          | (refine SX.Go1.isBuildS ?_; first | refine SX.G.lit1 ?_)
          | (refine SX.Go1.isCall ?_; first | refine SX.G.lenR ?_ | refine SX.G.lenN ?_ | refine SX.G.lenS ?_ | refine SX.G.lenO ?_ | refine SX.G.appendW ?_ | refine SX.G.appendNilW ?_)
          | refine SX.G.move ?_ | refine SX.G.assign ?_ | refine SX.G.extract ?_ | refine SX.G.box ?_ | refine SX.G.alloc ?_ | refine SX.G.pick ?_ | refine SX.G.pickHT ?_ | refine SX.G.pickHF ?_ | refine SX.G.pickB ?_ | refine SX.G.pickV ?_ | refine SX.G.conv ?_ | refine SX.G.sliceHiZ ?_ | refine SX.G.sliceLoZ ?_ | refine SX.G.sliceHiP ?_ | refine SX.G.sliceHiS ?_ | refine SX.G.sliceLoS ?_ | refine SX.G.sliceLHS ?_ | refine SX.G.indexS ?_)
      | (refine SX.Reg.is ?_; first | refine SX.Reg.go ?_ | refine SX.Reg.goT rfl rfl rfl ?_ | refine SX.Reg.goF rfl rfl rfl ?_ | refine SX.Reg.goU rfl rfl ?_ | refine SX.Reg.goT rfl rfl (by first | (with_reducible assumption) | assumption) ?_ | refine SX.Reg.goF rfl rfl (by first | (with_reducible assumption) | assumption) ?_ | refine SX.Reg.nil ⟨by kernel_rfl, ?_⟩ | refine SX.Reg.nil ?_)
      | (refine SX.WP.is ?_; first | refine SX.WP.seq ?_ | refine SX.WP.regionL ?_ | refine SX.WP.regionDL (by kernel_rfl) ?_ | refine SX.WP.block ?_ | refine SX.WP.skip ?_ | refine SX.WP.exit ?_ | refine SX.WP.ret ?_ | refine SX.WP.label ?_ | refine SX.WP.condT rfl ?_ | refine SX.WP.condF rfl ?_ | refine SX.WP.condHT rfl (by first | (with_reducible assumption) | assumption) ?_ | refine SX.WP.condHF rfl (by first | (with_reducible assumption) | assumption) ?_)
      | refine SX.thenN ?_ | refine SX.thenE ?_ | refine SX.thenR ?_ | refine SX.inBlkN ?_ | refine SX.inBlkR ?_ | refine SX.inBlkE ?_ | refine SX.inBlkO rfl ?_ | refine SX.retR ?_ | refine SX.retN ?_)
    exact h.out) : p := k ⟨h⟩
end SX
/- A struct of eight fields that comes in. No program in sight. -/
set_option linter.unusedVariables false
set_option linter.unusedSimpArgs false
namespace SX
open Go Go.RowKit Go.ChangeShapes Go.WideShapes Go.ChangeAt Go.Joins
section
variable {H : Type} {enc : TypeId × Value → H} {P : Program} {W : World} {base : Nat} {sp : Nat → Bool} {hd : Bool}
theorem dec_struct8 {n : Nat} {α0 α1 α2 α3 α4 α5 α6 α7 : Type} {t : TypeId} {f0 f1 f2 f3 f4 f5 f6 f7 : Go.Field} {e0 : α0 → List CA} {e1 : α1 → List CA} {e2 : α2 → List CA} {e3 : α3 → List CA} {e4 : α4 → List CA} {e5 : α5 → List CA} {e6 : α6 → List CA} {e7 : α7 → List CA} {φ0 : α0 → Prop} {φ1 : α1 → Prop} {φ2 : α2 → Prop} {φ3 : α3 → Prop} {φ4 : α4 → Prop} {φ5 : α5 → Prop} {φ6 : α6 → Prop} {φ7 : α7 → Prop} (ht : P.underlying t = some (.struct #[f0, f1, f2, f3, f4, f5, f6, f7]))
    (o0 : f0.offset = 0) (o1 : f1.offset = P.cellsOf f0.type) (o2 : f2.offset = P.cellsOf f0.type + P.cellsOf f1.type) (o3 : f3.offset = P.cellsOf f0.type + P.cellsOf f1.type + P.cellsOf f2.type) (o4 : f4.offset = P.cellsOf f0.type + P.cellsOf f1.type + P.cellsOf f2.type + P.cellsOf f3.type) (o5 : f5.offset = P.cellsOf f0.type + P.cellsOf f1.type + P.cellsOf f2.type + P.cellsOf f3.type + P.cellsOf f4.type) (o6 : f6.offset = P.cellsOf f0.type + P.cellsOf f1.type + P.cellsOf f2.type + P.cellsOf f3.type + P.cellsOf f4.type + P.cellsOf f5.type) (o7 : f7.offset = P.cellsOf f0.type + P.cellsOf f1.type + P.cellsOf f2.type + P.cellsOf f3.type + P.cellsOf f4.type + P.cellsOf f5.type + P.cellsOf f6.type) (hs : P.cellsOf t = P.cellsOf f0.type + P.cellsOf f1.type + P.cellsOf f2.type + P.cellsOf f3.type + P.cellsOf f4.type + P.cellsOf f5.type + P.cellsOf f6.type + P.cellsOf f7.type)
    (h0 : DecF enc P W base sp hd n f0.type e0 φ0) (h1 : DecF enc P W base sp hd n f1.type e1 φ1) (h2 : DecF enc P W base sp hd n f2.type e2 φ2) (h3 : DecF enc P W base sp hd n f3.type e3 φ3) (h4 : DecF enc P W base sp hd n f4.type e4 φ4) (h5 : DecF enc P W base sp hd n f5.type e5 φ5) (h6 : DecF enc P W base sp hd n f6.type e6 φ6) (h7 : DecF enc P W base sp hd n f7.type e7 φ7) :
    DecF enc P W base sp hd (n + 1) t (fun p : α0 × α1 × α2 × α3 × α4 × α5 × α6 × α7 => e0 (p.1) ++ (e1 (p.2.1) ++ (e2 (p.2.2.1) ++ (e3 (p.2.2.2.1) ++ (e4 (p.2.2.2.2.1) ++ (e5 (p.2.2.2.2.2.1) ++ (e6 (p.2.2.2.2.2.2.1) ++ (e7 (p.2.2.2.2.2.2.2))))))))) (fun p => φ0 (p.1) ∧ φ1 (p.2.1) ∧ φ2 (p.2.2.1) ∧ φ3 (p.2.2.2.1) ∧ φ4 (p.2.2.2.2.1) ∧ φ5 (p.2.2.2.2.2.1) ∧ φ6 (p.2.2.2.2.2.2.1) ∧ φ7 (p.2.2.2.2.2.2.2)) := fun cs x hx => by
  obtain ⟨xs, m, hm, _, hl, hlen, hf⟩ := DataW.trod_struct ht hx
  cases hm
  match xs, hlen with
  | [y0, y1, y2, y3, y4, y5, y6, y7], _ =>
    have g0 := hf 0 f0 rfl
    have g1 := hf 1 f1 rfl
    have g2 := hf 2 f2 rfl
    have g3 := hf 3 f3 rfl
    have g4 := hf 4 f4 rfl
    have g5 := hf 5 f5 rfl
    have g6 := hf 6 f6 rfl
    have g7 := hf 7 f7 rfl
    rw [o0, List.drop_zero] at g0
    rw [o1] at g1
    rw [o2] at g2
    rw [o3] at g3
    rw [o4] at g4
    rw [o5] at g5
    rw [o6] at g6
    rw [o7] at g7
    obtain ⟨a0, w0, h0⟩ := h0 _ _ g0
    obtain ⟨a1, w1, h1⟩ := h1 _ _ g1
    obtain ⟨a2, w2, h2⟩ := h2 _ _ g2
    obtain ⟨a3, w3, h3⟩ := h3 _ _ g3
    obtain ⟨a4, w4, h4⟩ := h4 _ _ g4
    obtain ⟨a5, w5, h5⟩ := h5 _ _ g5
    obtain ⟨a6, w6, h6⟩ := h6 _ _ g6
    obtain ⟨a7, w7, h7⟩ := h7 _ _ g7
    rw [List.take_of_length_le (by rw [List.length_drop]; omega)] at h7
    exact ⟨(a0, a1, a2, a3, a4, a5, a6, a7), ⟨w0, w1, w2, w3, w4, w5, w6, w7⟩, (All2.cut _ h0 (All2.cut _ (by simp only [List.drop_drop, Nat.add_assoc] at h1 ⊢; exact h1) (All2.cut _ (by simp only [List.drop_drop, Nat.add_assoc] at h2 ⊢; exact h2) (All2.cut _ (by simp only [List.drop_drop, Nat.add_assoc] at h3 ⊢; exact h3) (All2.cut _ (by simp only [List.drop_drop, Nat.add_assoc] at h4 ⊢; exact h4) (All2.cut _ (by simp only [List.drop_drop, Nat.add_assoc] at h5 ⊢; exact h5) (All2.cut _ (by simp only [List.drop_drop, Nat.add_assoc] at h6 ⊢; exact h6) (by simp only [List.drop_drop, Nat.add_assoc] at h7 ⊢; exact h7))))))))⟩
end
end SX

import Derived.Test.YtkdonndeogihfaaSxa
import Derived.Orders
/- A region's operations in text order, and in every order that its edges allow. No program in sight. -/
set_option linter.unusedVariables false
set_option linter.unusedSimpArgs false
namespace SX
open Go Go.RowKit

/-- What an operation leaves: its value, and what becomes of the call's own memory. -/
structure Out where
  res : AV
  hp : List (Nat × Slot)
def updL (f : Nat → Slot) : List (Nat × Slot) → Nat → Slot
  | [] => f
  | (k, s) :: l => updL (upd f k s) l
def putT (f : Nat → Option AV) (dst : Option Tmp) (v : Option AV) : Nat → Option AV :=
  match dst with
  | some d => upd f d v
  | none => f
def St.put (st : St) (dst : Option Tmp) (v : Option AV) : St := ⟨putT st.tm dst v, st.hp⟩
def St.app (st : St) (dst : Option Tmp) (out : Out) : St := ⟨putT st.tm dst (some out.res), updL st.hp out.hp⟩
def St.ev (st : St) : Operand → Option AV
  | .tmp t => st.tm t
  | .const (.agg _) => none
  | .const (.tuple _) => none
  | .const v => some (.v v)
  | .global g => some (.v (.pointer (some ⟨g, 0, none⟩)))
  | .func f => some (.it (.one (.clo f [])))

/-- In a state: an operation does what is told, whatever stands in the places that it does not look at. -/
def OpOK (P : Program) (C : Ctx) (o : Oper) (st : St) (fp : List Nat) (out : Out) : Prop :=
  ∀ st' : St, (∀ x ∈ o.op.operands, st'.ev x = st.ev x) → (∀ b ∈ fp, st'.hp b = st.hp b) → ∀ a w, Sat C st' a w → ∀ (K : Act → World → Prop) (Q : Exit → Act → World → Prop),
    (∀ v w', Sat C (st'.app o.dst out) (a.put o.dst v) w' → K (a.put o.dst v) w') → o.wp P a w K Q

/-- What is decided of an operation: it runs, or its guard shuts it out. -/
inductive Dec where
  | run (fp : List Nat) (out : Out)
  | skip
def Dec.app (d : Dec) (o : Oper) (st : St) : St :=
  match d with
  | .run _ out => st.app o.dst out
  | .skip => st.put o.dst (some (.v undef))
def Dec.fp : Dec → List Nat
  | .run fp _ => fp
  | .skip => []
def Dec.wr : Dec → List Nat
  | .run _ out => out.hp.map (·.1)
  | .skip => []
/-- The guard as it stands. -/
def Guard (ops : List Oper) (o : Oper) (st : St) (want : Bool) : Prop :=
  match o.guard with
  | none => want = true
  | some (j, b) => ∃ t, (ops[j]?).bind (·.dst) = some t ∧ ((∃ b', st.tm t = some (.v (.bool b')) ∧ (b' == b) = want) ∨ (st.tm t = some (.v undef) ∧ want = false))
def DecOK (P : Program) (C : Ctx) (ops : List Oper) (o : Oper) (st : St) : Dec → Prop
  | .run fp out => Guard ops o st true ∧ OpOK P C o st fp out
  | .skip => Guard ops o st false
/-- The text's run. -/
def Tr (P : Program) (C : Ctx) (ops : List Oper) : List (Oper × Dec) → St → St → Prop
  | [], st, st' => st = st'
  | (o, d) :: l, st, st' => DecOK P C ops o st d ∧ Tr P C ops l (d.app o st) st'

/-- The edges' masks. -/
def mask (acc : List Nat) (o : Oper) : Nat :=
  o.after.toList.foldl (fun s e => if Region.binds .any e then s ||| (2 ^ e.on ||| acc.getD e.on 0) else s) 0
def befs : List Oper → List Nat → List Nat
  | [], acc => acc
  | o :: rest, acc => befs rest (acc ++ [mask acc o])
def bef (ops : List Oper) (j i : Nat) : Bool := ((befs ops []).getD j 0).testBit i
def disj (l m : List Nat) : Bool := l.all fun x => !m.contains x
/-- Do two operations' footprints lie apart? -/
def far (x y : List Nat × List Nat) : Bool := disj x.2 y.1 && disj y.2 x.1
/-- One operation against those before it: their numbers from 'i' on. -/
def checkOne (ops : Array Oper) (m : Nat) (oj : Oper) (fj : List Nat × List Nat) : Nat → List (Oper × (List Nat × List Nat)) → Bool
  | _, [] => true
  | i, (o, f) :: l => (m.testBit i || (o.apart ops oj && far f fj)) && checkOne ops m oj fj (i + 1) l
/-- All pairs. -/
def checkAll (ops : Array Oper) : List (Oper × (List Nat × List Nat)) → List (Oper × (List Nat × List Nat)) → List Nat → Bool
  | _, [], _ => true
  | done, (o, f) :: l, m :: ms => checkOne ops m o f 0 done && f.2.all f.1.contains && o.after.all (fun e => !Region.binds .any e || decide (e.on < done.length)) && checkAll ops (done ++ [(o, f)]) l ms
  | _, _ :: _, [] => false
def check (ops : Array Oper) (feet : List (List Nat × List Nat)) : Bool :=
  feet.length == ops.size && checkAll ops [] (ops.toList.zip feet) (befs ops.toList [])
def foot (d : Dec) : List Nat × List Nat := (d.fp, d.wr)

theorem put_hp {st : St} {dst : Option Tmp} {v : Option AV} : (st.put dst v).hp = st.hp := rfl
theorem updL_comm1 (f : Nat → Slot) (k : Nat) (s : Slot) : ∀ l : List (Nat × Slot), (∀ p ∈ l, p.1 ≠ k) → updL (upd f k s) l = upd (updL f l) k s
  | [], _ => rfl
  | (j, u) :: l, h => by
    have hj : j ≠ k := h (j, u) (by simp)
    show updL (upd (upd f k s) j u) l = upd (updL (upd f j u) l) k s
    rw [upd_comm f s u hj]
    exact updL_comm1 (upd f j u) k s l (fun p hp => h p (by simp [hp]))
theorem updL_comm (f : Nat → Slot) (m : List (Nat × Slot)) : ∀ l : List (Nat × Slot), (∀ p ∈ l, ∀ q ∈ m, p.1 ≠ q.1) → updL (updL f l) m = updL (updL f m) l
  | [], _ => rfl
  | (j, u) :: l, h => by
    show updL (updL (upd f j u) l) m = updL (upd (updL f m) j u) l
    rw [updL_comm (upd f j u) m l (fun p hp q hq => h p (by simp [hp]) q hq), updL_comm1 f j u m (fun q hq => (h (j, u) (by simp) q hq).symm)]
theorem updL_other (b : Nat) : ∀ (l : List (Nat × Slot)) (f : Nat → Slot), (∀ p ∈ l, p.1 ≠ b) → updL f l b = f b
  | [], _, _ => rfl
  | (j, u) :: l, f, h => by
    show updL (upd f j u) l b = f b
    rw [updL_other b l _ (fun p hp => h p (by simp [hp])), upd_ne _ _ (fun e => h (j, u) (by simp) e.symm)]

theorem disj_spec {l m : List Nat} (h : disj l m = true) {x : Nat} (hx : x ∈ l) : x ∉ m := by
  unfold disj at h
  rw [List.all_eq_true] at h
  have := h x hx
  simpa using this
theorem Dec.app_comm {d e : Dec} {o p : Oper} {ops : Array Oper} (st : St) (h1 : o.apart ops p = true) (h2 : far (foot d) (foot e) = true) (hd : ∀ x ∈ d.wr, x ∈ d.fp) :
    d.app o (e.app p st) = e.app p (d.app o st) := by
  obtain ⟨_, hne, _⟩ := Oper.apart_spec h1
  have hw : ∀ x ∈ d.wr, ∀ y ∈ e.wr, x ≠ y := by
    intro x hx y hy e
    subst e
    unfold far at h2
    rw [Bool.and_eq_true] at h2
    exact disj_spec h2.2 hy (hd x hx)
  have hput : ∀ (f : Nat → Option AV) (v u : Option AV), putT (putT f p.dst u) o.dst v = putT (putT f o.dst v) p.dst u := by
    intro f v u
    cases ho : o.dst with
    | none => rfl
    | some x =>
      cases hp : p.dst with
      | none => rfl
      | some y =>
        have : x ≠ y := fun e => hne x ho (by rw [hp, e])
        exact upd_comm f u v this
  have hext : ∀ {x y : St}, x.tm = y.tm → x.hp = y.hp → x = y := by
    intro x y h1 h2; cases x; cases y; simp_all
  cases d with
  | run fd od =>
    cases e with
    | run fe oe =>
      refine hext (hput _ _ _) (updL_comm st.hp od.hp oe.hp (fun q hq q' hq' e => hw q'.1 (by simp [Dec.wr]; exact ⟨_, hq'⟩) q.1 (by simp [Dec.wr]; exact ⟨_, hq⟩) e.symm))
    | skip => exact hext (hput _ _ _) rfl
  | skip =>
    cases e with
    | run fe oe => exact hext (hput _ _ _) rfl
    | skip => exact hext (hput _ _ _) rfl

/-- The state behind those operations of a list, numbered from 'i' on, that are among L, in text order. -/
def appL (L : Nat → Bool) : Nat → List (Oper × Dec) → St → St
  | _, [], st => st
  | i, (o, d) :: l, st => appL L (i + 1) l (match L i with | true => d.app o st | false => st)
theorem appL_append (L : Nat → Bool) : ∀ (l m : List (Oper × Dec)) (i : Nat) (st : St), appL L i (l ++ m) st = appL L (i + l.length) m (appL L i l st)
  | [], m, i, st => rfl
  | (o, d) :: l, m, i, st => by
    show appL L (i + 1) (l ++ m) _ = _
    rw [appL_append L l m (i + 1)]
    simp [appL, Nat.add_assoc, Nat.add_comm 1]
theorem appL_congr (L L' : Nat → Bool) : ∀ (l : List (Oper × Dec)) (i : Nat) (st : St), (∀ k, i ≤ k → k < i + l.length → L k = L' k) → appL L i l st = appL L' i l st
  | [], _, _, _ => rfl
  | (o, d) :: l, i, st, h => by
    simp only [appL, h i (Nat.le_refl _) (by simp)]
    exact appL_congr L L' l (i + 1) _ (fun k h1 h2 => h k (by omega) (by simp; omega))
theorem put_tm_other {st : St} {dst : Option Tmp} {v : Option AV} {t : Tmp} (h : dst ≠ some t) : (st.put dst v).tm t = st.tm t := by
  cases dst with
  | none => rfl
  | some d => exact upd_ne _ _ (fun e => h (by rw [e]))
theorem Dec.app_tm {d : Dec} {o : Oper} {st : St} {t : Tmp} (h : o.dst ≠ some t) : (d.app o st).tm t = st.tm t := by
  cases d with
  | run fp out => exact put_tm_other h
  | skip => exact put_tm_other h
theorem Dec.app_hp {d : Dec} {o : Oper} {st : St} {b : Nat} (h : b ∉ d.wr) : (d.app o st).hp b = st.hp b := by
  cases d with
  | run fp out =>
    refine updL_other b out.hp st.hp (fun p hp e => h ?_)
    rw [← e]; exact List.mem_map.2 ⟨p, hp, rfl⟩
  | skip => rw [show (Dec.skip.app o st) = st.put o.dst (some (.v undef)) from rfl, put_hp]
/-- A temporary hangs on its writers alone. -/
theorem appL_tm (L : Nat → Bool) (t : Tmp) : ∀ (l : List (Oper × Dec)) (i : Nat) (st st' : St), st.tm t = st'.tm t → ∀ L' : Nat → Bool,
    (∀ k o d, l[k]? = some (o, d) → o.dst = some t → L (i + k) = L' (i + k)) → (appL L i l st).tm t = (appL L' i l st').tm t
  | [], _, _, _, h, _, _ => h
  | (o, d) :: l, i, st, st', h, L', hl => by
    have h0 : (match L i with | true => d.app o st | false => st).tm t = (match L' i with | true => d.app o st' | false => st').tm t := by
      by_cases ht : o.dst = some t
      · have := hl 0 o d (by simp) ht
        simp only [Nat.add_zero] at this
        rw [this]
        cases L' i with
        | false => exact h
        | true => cases d <;> simp [Dec.app, St.app, St.put, putT, ht]
      · cases L i <;> cases L' i <;> simp only [Dec.app_tm ht] <;> exact h
    exact appL_tm L t l (i + 1) _ _ h0 L' (fun k o' d' hk hd => by have := hl (k + 1) o' d' (by simpa using hk) hd; rwa [show i + (k + 1) = i + 1 + k by omega] at this)
theorem updL_eq (b : Nat) : ∀ (l : List (Nat × Slot)) (f g : Nat → Slot), f b = g b → updL f l b = updL g l b
  | [], _, _, h => h
  | (j, u) :: l, f, g, h => by
    refine updL_eq b l _ _ ?_
    by_cases e : b = j
    · subst e; simp
    · rw [upd_ne _ _ e, upd_ne _ _ e]; exact h
theorem updL_wr (b : Nat) : ∀ (l : List (Nat × Slot)) (f g : Nat → Slot), b ∈ l.map (·.1) → updL f l b = updL g l b
  | [], _, _, h => by simp at h
  | (j, u) :: l, f, g, h => by
    by_cases e : b ∈ l.map (·.1)
    · exact updL_wr b l _ _ e
    · have : b = j := by
        simp only [List.map_cons, List.mem_cons] at h
        exact h.resolve_right e
      subst this
      exact updL_eq b l _ _ (by simp)
theorem appL_hp (L : Nat → Bool) (b : Nat) : ∀ (l : List (Oper × Dec)) (i : Nat) (st st' : St), st.hp b = st'.hp b → ∀ L' : Nat → Bool,
    (∀ k o d, l[k]? = some (o, d) → b ∈ d.wr → L (i + k) = L' (i + k)) → (appL L i l st).hp b = (appL L' i l st').hp b
  | [], _, _, _, h, _, _ => h
  | (o, d) :: l, i, st, st', h, L', hl => by
    have h0 : (match L i with | true => d.app o st | false => st).hp b = (match L' i with | true => d.app o st' | false => st').hp b := by
      by_cases ht : b ∈ d.wr
      · have := hl 0 o d (by simp) ht
        simp only [Nat.add_zero] at this
        rw [this]
        cases L' i with
        | false => exact h
        | true =>
          cases d with
          | run fp out => exact updL_wr b out.hp _ _ ht
          | skip => simp [Dec.wr] at ht
      · cases L i <;> cases L' i <;> simp only [Dec.app_hp ht] <;> exact h
    exact appL_hp L b l (i + 1) _ _ h0 L' (fun k o' d' hk hd => by have := hl (k + 1) o' d' (by simpa using hk) hd; rwa [show i + (k + 1) = i + 1 + k by omega] at this)
/-- An operation may be done last if it lies apart from all those behind it that are done. -/
theorem appL_last (ops : Array Oper) (L : Nat → Bool) (o : Oper) (d : Dec) (hd : ∀ x ∈ d.wr, x ∈ d.fp) : ∀ (l : List (Oper × Dec)) (i : Nat) (st : St),
    (∀ k p e, l[k]? = some (p, e) → L (i + k) = true → o.apart ops p = true ∧ far (foot d) (foot e) = true) →
    appL L i l (d.app o st) = d.app o (appL L i l st)
  | [], _, _, _ => rfl
  | (p, e) :: l, i, st, h => by
    have hrec := fun st => appL_last ops L o d hd l (i + 1) st (fun k p' e' hk hL => h (k + 1) p' e' (by simpa using hk) (by rwa [show i + (k + 1) = i + 1 + k by omega]))
    simp only [appL]
    cases hL : L i with
    | false => exact hrec st
    | true =>
      obtain ⟨h1, h2⟩ := h 0 p e (by simp) (by simpa using hL)
      simp only []
      rw [← Dec.app_comm st h1 h2 hd]
      exact hrec _
end SX

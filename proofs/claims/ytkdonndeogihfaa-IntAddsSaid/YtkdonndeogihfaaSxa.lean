import Derived.WalkKit
import Derived.WalkSpells
/- A symbolic run over facts that bear new memory: what becomes of memory; representations; states. No program in sight. -/
set_option linter.unusedVariables false
set_option linter.unusedSimpArgs false
namespace SX
open Go Go.RowKit

/-- Off S nothing that was there has turned. -/
structure Off (S : Nat → Prop) (w w' : World) : Prop where
  os : w'.os = w.os
  tape : w'.tape = w.tape
  output : w'.output = w.output
  size : w.heap.size ≤ w'.heap.size
  block : ∀ k, k < w.heap.size → ¬ S k → w'.heap[k]? = w.heap[k]?
def none' : Nat → Prop := fun _ => False
theorem Off.refl (S : Nat → Prop) (w : World) : Off S w w := ⟨rfl, rfl, rfl, Nat.le_refl _, fun _ _ _ => rfl⟩
theorem Off.trans {S : Nat → Prop} {a b c : World} (h : Off S a b) (k : Off S b c) : Off S a c :=
  ⟨k.os.trans h.os, k.tape.trans h.tape, k.output.trans h.output, Nat.le_trans h.size k.size, fun i hi hs => (k.block i (Nat.lt_of_lt_of_le hi h.size) hs).trans (h.block i hi hs)⟩
/-- Two steps, each with its own exempted blocks; new blocks may be in the second one's. -/
theorem Off.trans2 {S S' T : Nat → Prop} {a b c : World} (h : Off S a b) (k : Off S' b c) (h1 : ∀ k, S k → T k) (h2 : ∀ k, S' k → T k ∨ a.heap.size ≤ k) : Off T a c :=
  ⟨k.os.trans h.os, k.tape.trans h.tape, k.output.trans h.output, Nat.le_trans h.size k.size, fun i hi hs =>
    (k.block i (Nat.lt_of_lt_of_le hi h.size) (fun e => (h2 i e).elim hs (fun e => by omega))).trans (h.block i hi (fun e => hs (h1 i e)))⟩
theorem Off.mono {S S' : Nat → Prop} {w w' : World} (h : Off S w w') (hs : ∀ k, S k → S' k) : Off S' w w' :=
  ⟨h.os, h.tape, h.output, h.size, fun k hk hn => h.block k hk (fun e => hn (hs k e))⟩
theorem Off.alloc (S : Nat → Prop) (w : World) (o : Obj) : Off S w (w.alloc o) := ⟨rfl, rfl, rfl, by simp, fun k hk _ => Below.heap_alloc w o k hk⟩
theorem Off.drew (S : Nat → Prop) (w : World) : Off S w w.drew := ⟨rfl, rfl, rfl, Nat.le_refl _, fun _ _ _ => rfl⟩
theorem Off.setCell {S : Nat → Prop} (w : World) (a : Addr) (v : Value) (h : S a.block) : Off S w (w.setCell a v) :=
  ⟨rfl, rfl, rfl, by simp, fun k _ hn => heap_setCell_other w a k v (fun e => hn (e ▸ h))⟩
theorem Off.setRow {S : Nat → Prop} (w : World) (g : Nat) (cs : Array Value) (h : S g) : Off S w (w.setRow g cs) :=
  ⟨rfl, rfl, rfl, by simp, fun k _ hn => setRow_other w g k cs (fun e => hn (e ▸ h))⟩
theorem Off.below {w w' : World} (h : Off none' w w') : Below w.heap.size w w' := ⟨h.os, h.tape, h.output, h.size, fun k hk => h.block k hk (fun e => e)⟩
theorem Off.of_below {S : Nat → Prop} {w w' : World} (h : Below w.heap.size w w') : Off S w w' := ⟨h.os, h.tape, h.output, h.size, fun k hk _ => h.block k hk⟩
theorem Off.cell {S : Nat → Prop} {w w' : World} (h : Off S w w') {a : Addr} {v : Value} (hs : ¬ S a.block) (hc : w.cell? a = some v) : w'.cell? a = some v := by
  have hl := World.block_lt_of_cell? w a hc
  rw [← hc]
  exact World.cell?_of_block (h.block _ hl hs)

/-- What a value of one cell stands for in a world; it hangs on no block of S. -/
structure Rep where
  has : (Nat → Prop) → World → Value → Prop
  one : ∀ {S w v}, has S w v → v.oneCell' = true
  step : ∀ {S S' w w' v}, has S w v → Off S w w' → (∀ k, S' k → S k ∨ w.heap.size ≤ k) → has S' w' v
/-- A cell that hangs on no variable of the call's own. -/
inductive CA where
  | val (v : Value)
  | sat (r : Rep)
def CA.has (S : Nat → Prop) (w : World) : CA → Value → Prop
  | .val u, v => v = u
  | .sat r, v => r.has S w v
theorem CA.has.step {c : CA} {S S' : Nat → Prop} {w w' : World} {v : Value} (h : c.has S w v) (ho : Off S w w') (hs : ∀ k, S' k → S k ∨ w.heap.size ≤ k) : c.has S' w' v := by
  cases c with
  | val u => exact h
  | sat r => exact r.step h ho hs

/-- Lists, part by part. -/
def All2 {α β : Type} (p : α → β → Prop) : List α → List β → Prop
  | [], [] => True
  | a :: l, b :: m => p a b ∧ All2 p l m
  | _, _ => False
theorem All2.mono {α β : Type} {p q : α → β → Prop} : ∀ {l : List α} {m : List β}, All2 p l m → (∀ a b, a ∈ l → p a b → q a b) → All2 q l m
  | [], [], _, _ => trivial
  | a :: l, b :: m, h, k => ⟨k a b (by simp) h.1, All2.mono h.2 fun a b ha => k a b (by simp [ha])⟩
  | [], _ :: _, h, _ => h.elim
  | _ :: _, [], h, _ => h.elim
theorem All2.length {α β : Type} {p : α → β → Prop} : ∀ {l : List α} {m : List β}, All2 p l m → l.length = m.length
  | [], [], _ => rfl
  | _ :: l, _ :: m, h => by simp [All2.length h.2]
  | [], _ :: _, h => h.elim
  | _ :: _, [], h => h.elim
theorem All2.get {α β : Type} {p : α → β → Prop} : ∀ {l : List α} {m : List β}, All2 p l m → ∀ {i : Nat} {a : α}, l[i]? = some a → ∃ b, m[i]? = some b ∧ p a b
  | [], [], _, i, a, h => by simp at h
  | x :: l, y :: m, h, 0, a, hi => by simp at hi; subst hi; exact ⟨y, by simp, h.1⟩
  | x :: l, y :: m, h, i + 1, a, hi => by simp at hi; simpa using All2.get h.2 hi
  | [], _ :: _, h, _, _, _ => h.elim
  | _ :: _, [], h, _, _, _ => h.elim
theorem All2.get' {α β : Type} {p : α → β → Prop} : ∀ {l : List α} {m : List β}, All2 p l m → ∀ {i : Nat} {b : β}, m[i]? = some b → ∃ a, l[i]? = some a ∧ p a b
  | [], [], _, i, a, h => by simp at h
  | x :: l, y :: m, h, 0, a, hi => by simp at hi; subst hi; exact ⟨x, by simp, h.1⟩
  | x :: l, y :: m, h, i + 1, a, hi => by simp at hi; simpa using All2.get' h.2 hi
  | [], _ :: _, h, _, _, _ => h.elim
  | _ :: _, [], h, _, _, _ => h.elim
theorem All2.take {α β : Type} {p : α → β → Prop} : ∀ {l : List α} {m : List β} (n : Nat), All2 p l m → All2 p (l.take n) (m.take n)
  | _, _, 0, _ => by simp [All2]
  | [], [], n + 1, _ => by simp [All2]
  | x :: l, y :: m, n + 1, h => by simpa [All2] using ⟨h.1, All2.take n h.2⟩
  | [], _ :: _, _ + 1, h => h.elim
  | _ :: _, [], _ + 1, h => h.elim
theorem All2.drop {α β : Type} {p : α → β → Prop} : ∀ {l : List α} {m : List β} (n : Nat), All2 p l m → All2 p (l.drop n) (m.drop n)
  | _, _, 0, h => by simpa using h
  | [], [], n + 1, _ => by simp [All2]
  | x :: l, y :: m, n + 1, h => by simpa using All2.drop n h.2
  | [], _ :: _, _ + 1, h => h.elim
  | _ :: _, [], _ + 1, h => h.elim
theorem All2.append {α β : Type} {p : α → β → Prop} : ∀ {l : List α} {m : List β} {l' : List α} {m' : List β}, All2 p l m → All2 p l' m' → All2 p (l ++ l') (m ++ m')
  | [], [], _, _, _, k => k
  | x :: l, y :: m, _, _, h, k => ⟨h.1, All2.append h.2 k⟩
  | [], _ :: _, _, _, h, _ => h.elim
  | _ :: _, [], _, _, h, _ => h.elim
theorem All2.set {α β : Type} {p : α → β → Prop} : ∀ {l : List α} {m : List β} (i : Nat) {a : α} {b : β}, All2 p l m → p a b → All2 p (l.set i a) (m.set i b)
  | [], [], _, _, _, _, _ => by simp [All2]
  | x :: l, y :: m, 0, _, _, h, k => ⟨k, h.2⟩
  | x :: l, y :: m, i + 1, _, _, h, k => ⟨h.1, All2.set i h.2 k⟩
  | [], _ :: _, _, _, _, h, _ => h.elim
  | _ :: _, [], _, _, _, h, _ => h.elim

/-- Where the call's own variables and rows lie. -/
structure Env where
  blk : Nat → Nat
  sl : Nat → Value
/-- A cell's value. -/
inductive Atom where
  | c (a : CA)
  | ptr (b off : Nat)
  | own (b : Nat)
  | rptr (b off : Nat)
  | clo (f : FuncId) (cap : List (Nat × Nat))
def Atom.has (E : Env) (S : Nat → Prop) (w : World) : Atom → Value → Prop
  | .c a, v => a.has S w v
  | .ptr b off, v => v = .pointer (some ⟨E.blk b, off, none⟩)
  | .own b, v => v = E.sl b ∧ v.oneCell' = true
  | .rptr b off, v => ∃ g n cap, E.sl b = .slice (some ⟨g, 0, none⟩) n cap ∧ v = .pointer (some ⟨g, off, none⟩)
  | .clo f cap, v => v = .func (.func f) #[] (cap.map fun p => Value.pointer (some ⟨E.blk p.1, p.2, none⟩)).toArray
def Atom.ids : Atom → List Nat
  | .c _ => []
  | .ptr b _ => [b]
  | .own b => [b]
  | .rptr b _ => [b]
  | .clo _ cap => cap.map (·.1)
inductive AV0 where
  | one (a : Atom)
  | agg (l : List Atom)
def AV0.has (E : Env) (S : Nat → Prop) (w : World) : AV0 → Value → Prop
  | .one a, v => a.has E S w v
  | .agg l, v => ∃ vs : List Value, v = .agg vs.toArray ∧ All2 (Atom.has E S w) l vs
def AV0.ids : AV0 → List Nat
  | .one a => a.ids
  | .agg l => l.flatMap Atom.ids
inductive AV where
  | it (x : AV0)
  | tup (l : List AV0)
def AV.has (E : Env) (S : Nat → Prop) (w : World) : AV → Value → Prop
  | .it x, v => x.has E S w v
  | .tup l, v => ∃ vs : List Value, v = .tuple vs.toArray ∧ All2 (AV0.has E S w) l vs
def AV.ids : AV → List Nat
  | .it x => x.ids
  | .tup l => l.flatMap AV0.ids
abbrev AV.v (v : Value) : AV := .it (.one (.c (.val v)))
abbrev AV.r (r : Rep) : AV := .it (.one (.c (.sat r)))
abbrev AV.ptr (b off : Nat) : AV := .it (.one (.ptr b off))
abbrev AV.own (b : Nat) : AV := .it (.one (.own b))
abbrev AV.agg (l : List Atom) : AV := .it (.agg l)

/-- The call's own memory: a variable; a row that grows. -/
inductive Ent where
  | box (t : TypeId) (cells : List Atom)
  | row (t : TypeId) (size n : Nat) (cells : List CA)
def Ent.has (E : Env) (S : Nat → Prop) (w : World) (b : Nat) : Ent → Prop
  | .box t cells => ∃ cs : List Value, w.heap[E.blk b]? = some (.cells cs.toArray t (0, 0)) ∧ All2 (Atom.has E S w) cells cs
  | .row t size n cells => ∃ vs : List Value, w.ownsRow 0 t size (E.sl b) n vs ∧ All2 (CA.has S w) cells vs
def Ent.blk (E : Env) (b : Nat) : Ent → Option Nat
  | .box _ _ => some (E.blk b)
  | .row _ _ _ _ => (E.sl b).ownBlock
def Ent.ids : Ent → List Nat
  | .box _ cells => cells.flatMap Atom.ids
  | .row _ _ _ _ => []
inductive Slot where
  | free
  | gone
  | ent (e : Ent)
def Slot.used : Slot → Bool
  | .free => false
  | _ => true
/-- A symbolic state. -/
structure St where
  tm : Nat → Option AV
  hp : Nat → Slot
def upd {α : Type} (f : Nat → α) (k : Nat) (v : α) : Nat → α := fun j => match Nat.beq j k with | true => v | false => f j
@[simp] theorem upd_same {α : Type} (f : Nat → α) (k : Nat) (v : α) : upd f k v k = v := by simp [upd]
theorem upd_ne {α : Type} (f : Nat → α) {k j : Nat} (v : α) (h : j ≠ k) : upd f k v j = f j := by
  have : Nat.beq j k = false := by rw [Bool.eq_false_iff]; simpa using h
  simp [upd, this]
theorem upd_comm {α : Type} (f : Nat → α) {k j : Nat} (v u : α) (h : j ≠ k) : upd (upd f k v) j u = upd (upd f j u) k v := by
  funext i
  by_cases h1 : i = k
  · subst h1; rw [upd_ne _ _ (fun e => h e.symm), upd_same, upd_same]
  · by_cases h2 : i = j
    · subst h2; rw [upd_same, upd_ne _ _ h1, upd_same]
    · rw [upd_ne _ _ h2, upd_ne _ _ h1, upd_ne _ _ h1, upd_ne _ _ h2]

/-- What a call begins with: its world, its caller's own blocks, those of them that it may write, and how many temporaries there are. -/
structure Ctx where
  w0 : World
  T : Nat → Prop
  B : Nat → Prop
  nt : Nat
  E0 : Env
  fix : Nat → Bool
structure SatE (C : Ctx) (st : St) (E : Env) (S : Nat → Prop) (a : Act) (w : World) : Prop where
  dfr : a.defers = []
  nt : a.tmps.size = C.nt
  cT : ∀ k, C.T k → S k
  cT0 : ∀ k, C.T k → k < C.w0.heap.size
  cS : ∀ k, S k → C.T k ∨ C.w0.heap.size ≤ k
  lt : ∀ k, S k → k < w.heap.size
  tm : ∀ t v, st.tm t = some v → v.has E S w (a.tmps.getD t undef)
  tid : ∀ t v, st.tm t = some v → ∀ b ∈ v.ids, (st.hp b).used = true
  hp : ∀ b e, st.hp b = .ent e → e.has E S w b
  hid : ∀ b e, st.hp b = .ent e → ∀ b' ∈ e.ids, (st.hp b').used = true
  blk : ∀ b e k, st.hp b = .ent e → e.blk E b = some k → S k ∧ (C.B k ∨ C.w0.heap.size ≤ k)
  sep : ∀ b b' e e' k, b ≠ b' → st.hp b = .ent e → st.hp b' = .ent e' → e.blk E b = some k → e'.blk E b' ≠ some k
  off : Off C.B C.w0 w
  env : ∀ b, C.fix b = true → E.blk b = C.E0.blk b ∧ E.sl b = C.E0.sl b ∧ (st.hp b).used = true
def Sat (C : Ctx) (st : St) (a : Act) (w : World) : Prop := ∃ E S, SatE C st E S a w
end SX

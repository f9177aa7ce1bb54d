import Derived.WalkKit
import Derived.WalkSpells
import Derived.Orders
/- Package variables that are never written, with what they hold: none here. -/
namespace SX
open Go
def glob : List (Nat × List Value) := []
end SX
/- A symbolic run over facts that bear new memory: what becomes of memory; representations; states. No program in sight. -/
set_option linter.unusedVariables false
set_option linter.unusedSimpArgs false
namespace SX
open Go Go.RowKit

/-- Off S nothing that was there has turned. -/
structure Off (S : Nat → Prop) (w w' : World) : Prop where
  os : w'.os = w.os
  tape : w'.tape = w.tape
  output : w'.output = w.output
  size : w.heap.size ≤ w'.heap.size
  block : ∀ k, k < w.heap.size → ¬ S k → w'.heap[k]? = w.heap[k]?
def none' : Nat → Prop := fun _ => False
theorem Off.refl (S : Nat → Prop) (w : World) : Off S w w := ⟨rfl, rfl, rfl, Nat.le_refl _, fun _ _ _ => rfl⟩
theorem Off.trans {S : Nat → Prop} {a b c : World} (h : Off S a b) (k : Off S b c) : Off S a c :=
  ⟨k.os.trans h.os, k.tape.trans h.tape, k.output.trans h.output, Nat.le_trans h.size k.size, fun i hi hs => (k.block i (Nat.lt_of_lt_of_le hi h.size) hs).trans (h.block i hi hs)⟩
/-- Two steps, each with its own exempted blocks; new blocks may be in the second one's. -/
theorem Off.trans2 {S S' T : Nat → Prop} {a b c : World} (h : Off S a b) (k : Off S' b c) (h1 : ∀ k, S k → T k) (h2 : ∀ k, S' k → T k ∨ a.heap.size ≤ k) : Off T a c :=
  ⟨k.os.trans h.os, k.tape.trans h.tape, k.output.trans h.output, Nat.le_trans h.size k.size, fun i hi hs =>
    (k.block i (Nat.lt_of_lt_of_le hi h.size) (fun e => (h2 i e).elim hs (fun e => by omega))).trans (h.block i hi (fun e => hs (h1 i e)))⟩
theorem Off.mono {S S' : Nat → Prop} {w w' : World} (h : Off S w w') (hs : ∀ k, S k → S' k) : Off S' w w' :=
  ⟨h.os, h.tape, h.output, h.size, fun k hk hn => h.block k hk (fun e => hn (hs k e))⟩
theorem Off.alloc (S : Nat → Prop) (w : World) (o : Obj) : Off S w (w.alloc o) := ⟨rfl, rfl, rfl, by simp, fun k hk _ => Below.heap_alloc w o k hk⟩
theorem Off.drew (S : Nat → Prop) (w : World) : Off S w w.drew := ⟨rfl, rfl, rfl, Nat.le_refl _, fun _ _ _ => rfl⟩
theorem Off.setRow {S : Nat → Prop} (w : World) (g : Nat) (cs : Array Value) (h : S g) : Off S w (w.setRow g cs) :=
  ⟨rfl, rfl, rfl, by simp, fun k _ hn => setRow_other w g k cs (fun e => hn (e ▸ h))⟩
theorem Off.below {w w' : World} (h : Off none' w w') : Below w.heap.size w w' := ⟨h.os, h.tape, h.output, h.size, fun k hk => h.block k hk (fun e => e)⟩
theorem Off.of_below {S : Nat → Prop} {w w' : World} (h : Below w.heap.size w w') : Off S w w' := ⟨h.os, h.tape, h.output, h.size, fun k hk _ => h.block k hk⟩
theorem Off.cell {S : Nat → Prop} {w w' : World} (h : Off S w w') {a : Addr} {v : Value} (hs : ¬ S a.block) (hc : w.cell? a = some v) : w'.cell? a = some v := by
  have hl := World.block_lt_of_cell? w a hc
  rw [← hc]
  exact World.cell?_of_block (h.block _ hl hs)

/-- What a value of one cell stands for in a world; it hangs on no block of S. -/
structure Rep where
  has : (Nat → Prop) → World → Value → Prop
  one : ∀ {S w v}, has S w v → v.oneCell' = true
  step : ∀ {S S' w w' v}, has S w v → Off S w w' → (∀ k, S' k → S k ∨ w.heap.size ≤ k) → has S' w' v
/-- A cell that hangs on no variable of the call's own. -/
inductive CA where
  | val (v : Value)
  | sat (r : Rep)
def CA.has (S : Nat → Prop) (w : World) : CA → Value → Prop
  | .val u, v => v = u
  | .sat r, v => r.has S w v
theorem CA.has.step {c : CA} {S S' : Nat → Prop} {w w' : World} {v : Value} (h : c.has S w v) (ho : Off S w w') (hs : ∀ k, S' k → S k ∨ w.heap.size ≤ k) : c.has S' w' v := by
  cases c with
  | val u => exact h
  | sat r => exact r.step h ho hs

/-- The package's variables that are never written hold what they hold. -/
def GlobOK (S : Nat → Prop) (w : World) : Prop := ∀ g l, (g, l) ∈ glob → ¬ S g ∧ g < w.heap.size ∧ ∀ (i : Nat) (u : Value), l[i]? = some u → w.cell? ⟨g, i, none⟩ = some u
theorem GlobOK.step {S S' : Nat → Prop} {w w' : World} (h : GlobOK S w) (ho : Off S w w') (hs : ∀ k, S' k → S k ∨ w.heap.size ≤ k) : GlobOK S' w' := fun g l hg => by
  obtain ⟨h1, h2, h3⟩ := h g l hg
  refine ⟨fun hk => ?_, Nat.lt_of_lt_of_le h2 ho.size, fun i u hi => ho.cell h1 (h3 i u hi)⟩
  rcases hs g hk with h4 | h4
  · exact h1 h4
  · omega
theorem GlobOK.sub {S S' : Nat → Prop} {w : World} (h : GlobOK S w) (hs : ∀ k, S' k → S k) : GlobOK S' w := fun g l hg => let ⟨h1, h2⟩ := h g l hg; ⟨fun hk => h1 (hs g hk), h2⟩
/-- Lists, part by part. -/
def All2 {α β : Type} (p : α → β → Prop) : List α → List β → Prop
  | [], [] => True
  | a :: l, b :: m => p a b ∧ All2 p l m
  | _, _ => False
theorem All2.mono {α β : Type} {p q : α → β → Prop} : ∀ {l : List α} {m : List β}, All2 p l m → (∀ a b, a ∈ l → p a b → q a b) → All2 q l m
  | [], [], _, _ => trivial
  | a :: l, b :: m, h, k => ⟨k a b (by simp) h.1, All2.mono h.2 fun a b ha => k a b (by simp [ha])⟩
  | [], _ :: _, h, _ => h.elim
  | _ :: _, [], h, _ => h.elim
theorem All2.length {α β : Type} {p : α → β → Prop} : ∀ {l : List α} {m : List β}, All2 p l m → l.length = m.length
  | [], [], _ => rfl
  | _ :: l, _ :: m, h => by simp [All2.length h.2]
  | [], _ :: _, h => h.elim
  | _ :: _, [], h => h.elim
theorem All2.get {α β : Type} {p : α → β → Prop} : ∀ {l : List α} {m : List β}, All2 p l m → ∀ {i : Nat} {a : α}, l[i]? = some a → ∃ b, m[i]? = some b ∧ p a b
  | [], [], _, i, a, h => by simp at h
  | x :: l, y :: m, h, 0, a, hi => by simp at hi; subst hi; exact ⟨y, by simp, h.1⟩
  | x :: l, y :: m, h, i + 1, a, hi => by simp at hi; simpa using All2.get h.2 hi
  | [], _ :: _, h, _, _, _ => h.elim
  | _ :: _, [], h, _, _, _ => h.elim
theorem All2.get' {α β : Type} {p : α → β → Prop} : ∀ {l : List α} {m : List β}, All2 p l m → ∀ {i : Nat} {b : β}, m[i]? = some b → ∃ a, l[i]? = some a ∧ p a b
  | [], [], _, i, a, h => by simp at h
  | x :: l, y :: m, h, 0, a, hi => by simp at hi; subst hi; exact ⟨x, by simp, h.1⟩
  | x :: l, y :: m, h, i + 1, a, hi => by simp at hi; simpa using All2.get' h.2 hi
  | [], _ :: _, h, _, _, _ => h.elim
  | _ :: _, [], h, _, _, _ => h.elim
theorem All2.take {α β : Type} {p : α → β → Prop} : ∀ {l : List α} {m : List β} (n : Nat), All2 p l m → All2 p (l.take n) (m.take n)
  | _, _, 0, _ => by simp [All2]
  | [], [], n + 1, _ => by simp [All2]
  | x :: l, y :: m, n + 1, h => by simpa [All2] using ⟨h.1, All2.take n h.2⟩
  | [], _ :: _, _ + 1, h => h.elim
  | _ :: _, [], _ + 1, h => h.elim
theorem All2.drop {α β : Type} {p : α → β → Prop} : ∀ {l : List α} {m : List β} (n : Nat), All2 p l m → All2 p (l.drop n) (m.drop n)
  | _, _, 0, h => by simpa using h
  | [], [], n + 1, _ => by simp [All2]
  | x :: l, y :: m, n + 1, h => by simpa using All2.drop n h.2
  | [], _ :: _, _ + 1, h => h.elim
  | _ :: _, [], _ + 1, h => h.elim
theorem All2.append {α β : Type} {p : α → β → Prop} : ∀ {l : List α} {m : List β} {l' : List α} {m' : List β}, All2 p l m → All2 p l' m' → All2 p (l ++ l') (m ++ m')
  | [], [], _, _, _, k => k
  | x :: l, y :: m, _, _, h, k => ⟨h.1, All2.append h.2 k⟩
  | [], _ :: _, _, _, h, _ => h.elim
  | _ :: _, [], _, _, h, _ => h.elim
/-- Where the call's own variables and rows lie. -/
structure Env where
  blk : Nat → Nat
  sl : Nat → Value
  fp : Nat → Nat → Prop
/-- A cell's value. -/
inductive Atom where
  | c (a : CA)
  | ptr (b off : Nat)
  | own (b : Nat)
  | rptr (b off : Nat)
  | clo (f : FuncId) (cap : List (Nat × Nat))
  | bnd (f : FuncId) (b : Nat)
  | rel (b : Nat) (R : Nat → Value → Value → Prop)
def Atom.has (E : Env) (S : Nat → Prop) (w : World) : Atom → Value → Prop
  | .c a, v => a.has S w v
  | .ptr b off, v => v = .pointer (some ⟨E.blk b, off, none⟩)
  | .own b, v => v = E.sl b ∧ v.oneCell' = true
  | .rptr b off, v => ∃ g n cap, E.sl b = .slice (some ⟨g, 0, none⟩) n cap ∧ v = .pointer (some ⟨g, off, none⟩)
  | .clo f cap, v => v = .func (.func f) #[] (cap.map fun p => Value.pointer (some ⟨E.blk p.1, p.2, none⟩)).toArray
  | .bnd f b, v => v = .func (.func f) #[.pointer (some ⟨E.blk b, 0, none⟩)] #[]
  | .rel b R, v => R (E.blk b) (E.sl b) v ∧ v.oneCell' = true
def Atom.ids : Atom → List Nat
  | .c _ => []
  | .ptr b _ => [b]
  | .own b => [b]
  | .rptr b _ => [b]
  | .clo _ cap => cap.map (·.1)
  | .bnd _ b => [b]
  | .rel b _ => [b]
inductive AV0 where
  | one (a : Atom)
  | agg (l : List Atom)
def AV0.has (E : Env) (S : Nat → Prop) (w : World) : AV0 → Value → Prop
  | .one a, v => a.has E S w v
  | .agg l, v => ∃ vs : List Value, v = .agg vs.toArray ∧ All2 (Atom.has E S w) l vs
def AV0.ids : AV0 → List Nat
  | .one a => a.ids
  | .agg l => l.flatMap Atom.ids
inductive AV where
  | it (x : AV0)
  | tup (l : List AV0)
def AV.has (E : Env) (S : Nat → Prop) (w : World) : AV → Value → Prop
  | .it x, v => x.has E S w v
  | .tup l, v => ∃ vs : List Value, v = .tuple vs.toArray ∧ All2 (AV0.has E S w) l vs
def AV.ids : AV → List Nat
  | .it x => x.ids
  | .tup l => l.flatMap AV0.ids
abbrev AV.v (v : Value) : AV := .it (.one (.c (.val v)))
abbrev AV.r (r : Rep) : AV := .it (.one (.c (.sat r)))
abbrev AV.ptr (b off : Nat) : AV := .it (.one (.ptr b off))
abbrev AV.own (b : Nat) : AV := .it (.one (.own b))
abbrev AV.agg (l : List Atom) : AV := .it (.agg l)

/-- What lies in blocks of the call's own, told by a meaning of one's own: its block, its value, its blocks. -/
structure AEnt where
  has : Nat → Value → (Nat → Prop) → (Nat → Prop) → World → Prop
  step : ∀ {b v X S S' w w'}, has b v X S w → Off S w w' → (∀ k, S' k → S k ∨ w.heap.size ≤ k) → (∀ k, X k → w'.heap[k]? = w.heap[k]?) → has b v X S' w'
/-- The call's own memory: a variable; a row that grows; what is told by a meaning of one's own. -/
inductive Ent where
  | abs (A : AEnt)
  | box (t : TypeId) (cells : List Atom)
  | row (t : TypeId) (size n : Nat) (cells : List CA)
def Ent.has (E : Env) (S : Nat → Prop) (w : World) (b : Nat) : Ent → Prop
  | .box t cells => ∃ cs : List Value, w.heap[E.blk b]? = some (.cells cs.toArray t (0, 0)) ∧ All2 (Atom.has E S w) cells cs
  | .row t size n cells => ∃ vs : List Value, w.ownsRow 0 t size (E.sl b) n vs ∧ All2 (CA.has S w) cells vs
  | .abs A => A.has (E.blk b) (E.sl b) (E.fp b) S w
def Ent.at (e : Ent) (E : Env) (b : Nat) (k : Nat) : Prop := match e with
  | .box _ _ => some (E.blk b) = some k
  | .row _ _ _ _ => (E.sl b).ownBlock = some k
  | .abs _ => E.fp b k
def Ent.ids : Ent → List Nat
  | .abs _ => []
  | .box _ cells => cells.flatMap Atom.ids
  | .row _ _ _ _ => []
inductive Slot where
  | free
  | gone
  | ent (e : Ent)
def Slot.used : Slot → Bool
  | .free => false
  | _ => true
/-- A symbolic state. -/
structure St where
  tm : Nat → Option AV
  hp : Nat → Slot
def upd {α : Type} (f : Nat → α) (k : Nat) (v : α) : Nat → α := fun j => match Nat.beq j k with | true => v | false => f j
@[simp] theorem upd_same {α : Type} (f : Nat → α) (k : Nat) (v : α) : upd f k v k = v := by simp [upd]
theorem upd_ne {α : Type} (f : Nat → α) {k j : Nat} (v : α) (h : j ≠ k) : upd f k v j = f j := by
  have : Nat.beq j k = false := by rw [Bool.eq_false_iff]; simpa using h
  simp [upd, this]
theorem upd_comm {α : Type} (f : Nat → α) {k j : Nat} (v u : α) (h : j ≠ k) : upd (upd f k v) j u = upd (upd f j u) k v := by
  funext i
  by_cases h1 : i = k
  · subst h1; rw [upd_ne _ _ (fun e => h e.symm), upd_same, upd_same]
  · by_cases h2 : i = j
    · subst h2; rw [upd_same, upd_ne _ _ h1, upd_same]
    · rw [upd_ne _ _ h2, upd_ne _ _ h1, upd_ne _ _ h1, upd_ne _ _ h2]

/-- What a call begins with: its world, its caller's own blocks, those of them that it may write, and how many temporaries there are. -/
structure Ctx where
  w0 : World
  T : Nat → Prop
  B : Nat → Prop
  nt : Nat
  E0 : Env
  fix : Nat → Bool
structure SatE (C : Ctx) (st : St) (E : Env) (S : Nat → Prop) (a : Act) (w : World) : Prop where
  dfr : a.defers = []
  nt : a.tmps.size = C.nt
  cT : ∀ k, C.T k → S k
  cT0 : ∀ k, C.T k → k < C.w0.heap.size
  cS : ∀ k, S k → C.T k ∨ C.w0.heap.size ≤ k
  lt : ∀ k, S k → k < w.heap.size
  tm : ∀ t v, st.tm t = some v → v.has E S w (a.tmps.getD t undef)
  tid : ∀ t v, st.tm t = some v → ∀ b ∈ v.ids, (st.hp b).used = true
  hp : ∀ b e, st.hp b = .ent e → e.has E S w b
  hid : ∀ b e, st.hp b = .ent e → ∀ b' ∈ e.ids, (st.hp b').used = true
  blk : ∀ b e k, st.hp b = .ent e → e.at E b k → S k ∧ (C.B k ∨ C.w0.heap.size ≤ k)
  sep : ∀ b b' e e' k, b ≠ b' → st.hp b = .ent e → st.hp b' = .ent e' → e.at E b k → ¬ e'.at E b' k
  off : Off C.B C.w0 w
  env : ∀ b, C.fix b = true → E.blk b = C.E0.blk b ∧ E.sl b = C.E0.sl b ∧ (st.hp b).used = true
  gl : GlobOK S w
def Sat (C : Ctx) (st : St) (a : Act) (w : World) : Prop := ∃ E S, SatE C st E S a w
end SX
/- A region's operations in text order, and in every order that its edges allow. No program in sight. -/
set_option linter.unusedVariables false
set_option linter.unusedSimpArgs false
namespace SX
open Go Go.RowKit

/-- What an operation leaves: its value, and what becomes of the call's own memory. -/
structure Out where
  res : AV
  hp : List (Nat × Slot)
def updL (f : Nat → Slot) : List (Nat × Slot) → Nat → Slot
  | [] => f
  | (k, s) :: l => updL (upd f k s) l
def putT (f : Nat → Option AV) (dst : Option Tmp) (v : Option AV) : Nat → Option AV :=
  match dst with
  | some d => upd f d v
  | none => f
def St.put (st : St) (dst : Option Tmp) (v : Option AV) : St := ⟨putT st.tm dst v, st.hp⟩
def St.app (st : St) (dst : Option Tmp) (out : Out) : St := ⟨putT st.tm dst (some out.res), updL st.hp out.hp⟩
def St.ev (st : St) : Operand → Option AV
  | .tmp t => st.tm t
  | .const (.agg _) => none
  | .const (.tuple _) => none
  | .const v => some (.v v)
  | .global g => some (.v (.pointer (some ⟨g, 0, none⟩)))
  | .func f => some (.it (.one (.clo f [])))

/-- In a state: an operation does what is told, whatever stands in the places that it does not look at. -/
def OpOK (P : Program) (C : Ctx) (o : Oper) (st : St) (fp : List Nat) (out : Out) : Prop :=
  ∀ st' : St, (∀ x ∈ o.op.operands, st'.ev x = st.ev x) → (∀ b ∈ fp, st'.hp b = st.hp b) → ∀ a w, Sat C st' a w → ∀ (K : Act → World → Prop) (Q : Exit → Act → World → Prop),
    (∀ v w', Sat C (st'.app o.dst out) (a.put o.dst v) w' → K (a.put o.dst v) w') → o.wp P a w K Q

/-- What is decided of an operation: it runs, or its guard shuts it out. -/
inductive Dec where
  | run (fp : List Nat) (out : Out)
  | skip
def Dec.app (d : Dec) (o : Oper) (st : St) : St :=
  match d with
  | .run _ out => st.app o.dst out
  | .skip => st.put o.dst (some (.v undef))
def Dec.fp : Dec → List Nat
  | .run fp _ => fp
  | .skip => []
def Dec.wr : Dec → List Nat
  | .run _ out => out.hp.map (·.1)
  | .skip => []
/-- The guard as it stands. -/
def Guard (ops : List Oper) (o : Oper) (st : St) (want : Bool) : Prop :=
  match o.guard with
  | none => want = true
  | some (j, b) => ∃ t, (ops[j]?).bind (·.dst) = some t ∧ ((∃ b', st.tm t = some (.v (.bool b')) ∧ (b' == b) = want) ∨ (st.tm t = some (.v undef) ∧ want = false))
def DecOK (P : Program) (C : Ctx) (ops : List Oper) (o : Oper) (st : St) : Dec → Prop
  | .run fp out => Guard ops o st true ∧ OpOK P C o st fp out
  | .skip => Guard ops o st false
/-- The text's run. -/
def Tr (P : Program) (C : Ctx) (ops : List Oper) : List (Oper × Dec) → St → St → Prop
  | [], st, st' => st = st'
  | (o, d) :: l, st, st' => DecOK P C ops o st d ∧ Tr P C ops l (d.app o st) st'

/-- The edges' masks. -/
def mask (acc : List Nat) (o : Oper) : Nat :=
  o.after.toList.foldl (fun s e => if Region.binds .any e then s ||| (2 ^ e.on ||| acc.getD e.on 0) else s) 0
def befs : List Oper → List Nat → List Nat
  | [], acc => acc
  | o :: rest, acc => befs rest (acc ++ [mask acc o])
def bef (ops : List Oper) (j i : Nat) : Bool := ((befs ops []).getD j 0).testBit i
def disj (l m : List Nat) : Bool := l.all fun x => !m.contains x
/-- Do two operations' footprints lie apart? -/
def far (x y : List Nat × List Nat) : Bool := disj x.2 y.1 && disj y.2 x.1
/-- One operation against those before it: their numbers from 'i' on. -/
def checkOne (ops : Array Oper) (m : Nat) (oj : Oper) (fj : List Nat × List Nat) : Nat → List (Oper × (List Nat × List Nat)) → Bool
  | _, [] => true
  | i, (o, f) :: l => (m.testBit i || (o.apart ops oj && far f fj)) && checkOne ops m oj fj (i + 1) l
/-- All pairs. -/
def checkAll (ops : Array Oper) : List (Oper × (List Nat × List Nat)) → List (Oper × (List Nat × List Nat)) → List Nat → Bool
  | _, [], _ => true
  | done, (o, f) :: l, m :: ms => checkOne ops m o f 0 done && f.2.all f.1.contains && o.after.all (fun e => !Region.binds .any e || decide (e.on < done.length)) && checkAll ops (done ++ [(o, f)]) l ms
  | _, _ :: _, [] => false
def check (ops : Array Oper) (feet : List (List Nat × List Nat)) : Bool :=
  feet.length == ops.size && checkAll ops [] (ops.toList.zip feet) (befs ops.toList [])
def foot (d : Dec) : List Nat × List Nat := (d.fp, d.wr)

theorem put_hp {st : St} {dst : Option Tmp} {v : Option AV} : (st.put dst v).hp = st.hp := rfl
theorem updL_comm1 (f : Nat → Slot) (k : Nat) (s : Slot) : ∀ l : List (Nat × Slot), (∀ p ∈ l, p.1 ≠ k) → updL (upd f k s) l = upd (updL f l) k s
  | [], _ => rfl
  | (j, u) :: l, h => by
    have hj : j ≠ k := h (j, u) (by simp)
    show updL (upd (upd f k s) j u) l = upd (updL (upd f j u) l) k s
    rw [upd_comm f s u hj]
    exact updL_comm1 (upd f j u) k s l (fun p hp => h p (by simp [hp]))
theorem updL_comm (f : Nat → Slot) (m : List (Nat × Slot)) : ∀ l : List (Nat × Slot), (∀ p ∈ l, ∀ q ∈ m, p.1 ≠ q.1) → updL (updL f l) m = updL (updL f m) l
  | [], _ => rfl
  | (j, u) :: l, h => by
    show updL (updL (upd f j u) l) m = updL (upd (updL f m) j u) l
    rw [updL_comm (upd f j u) m l (fun p hp q hq => h p (by simp [hp]) q hq), updL_comm1 f j u m (fun q hq => (h (j, u) (by simp) q hq).symm)]
theorem updL_other (b : Nat) : ∀ (l : List (Nat × Slot)) (f : Nat → Slot), (∀ p ∈ l, p.1 ≠ b) → updL f l b = f b
  | [], _, _ => rfl
  | (j, u) :: l, f, h => by
    show updL (upd f j u) l b = f b
    rw [updL_other b l _ (fun p hp => h p (by simp [hp])), upd_ne _ _ (fun e => h (j, u) (by simp) e.symm)]

theorem disj_spec {l m : List Nat} (h : disj l m = true) {x : Nat} (hx : x ∈ l) : x ∉ m := by
  unfold disj at h
  rw [List.all_eq_true] at h
  have := h x hx
  simpa using this
theorem Dec.app_comm {d e : Dec} {o p : Oper} {ops : Array Oper} (st : St) (h1 : o.apart ops p = true) (h2 : far (foot d) (foot e) = true) (hd : ∀ x ∈ d.wr, x ∈ d.fp) :
    d.app o (e.app p st) = e.app p (d.app o st) := by
  obtain ⟨_, hne, _⟩ := Oper.apart_spec h1
  have hw : ∀ x ∈ d.wr, ∀ y ∈ e.wr, x ≠ y := by
    intro x hx y hy e
    subst e
    unfold far at h2
    rw [Bool.and_eq_true] at h2
    exact disj_spec h2.2 hy (hd x hx)
  have hput : ∀ (f : Nat → Option AV) (v u : Option AV), putT (putT f p.dst u) o.dst v = putT (putT f o.dst v) p.dst u := by
    intro f v u
    cases ho : o.dst with
    | none => rfl
    | some x =>
      cases hp : p.dst with
      | none => rfl
      | some y =>
        have : x ≠ y := fun e => hne x ho (by rw [hp, e])
        exact upd_comm f u v this
  have hext : ∀ {x y : St}, x.tm = y.tm → x.hp = y.hp → x = y := by
    intro x y h1 h2; cases x; cases y; simp_all
  cases d with
  | run fd od =>
    cases e with
    | run fe oe =>
      refine hext (hput _ _ _) (updL_comm st.hp od.hp oe.hp (fun q hq q' hq' e => hw q'.1 (by simp [Dec.wr]; exact ⟨_, hq'⟩) q.1 (by simp [Dec.wr]; exact ⟨_, hq⟩) e.symm))
    | skip => exact hext (hput _ _ _) rfl
  | skip =>
    cases e with
    | run fe oe => exact hext (hput _ _ _) rfl
    | skip => exact hext (hput _ _ _) rfl

/-- The state behind those operations of a list, numbered from 'i' on, that are among L, in text order. -/
def appL (L : Nat → Bool) : Nat → List (Oper × Dec) → St → St
  | _, [], st => st
  | i, (o, d) :: l, st => appL L (i + 1) l (match L i with | true => d.app o st | false => st)
theorem appL_append (L : Nat → Bool) : ∀ (l m : List (Oper × Dec)) (i : Nat) (st : St), appL L i (l ++ m) st = appL L (i + l.length) m (appL L i l st)
  | [], m, i, st => rfl
  | (o, d) :: l, m, i, st => by
    show appL L (i + 1) (l ++ m) _ = _
    rw [appL_append L l m (i + 1)]
    simp [appL, Nat.add_assoc, Nat.add_comm 1]
theorem appL_congr (L L' : Nat → Bool) : ∀ (l : List (Oper × Dec)) (i : Nat) (st : St), (∀ k, i ≤ k → k < i + l.length → L k = L' k) → appL L i l st = appL L' i l st
  | [], _, _, _ => rfl
  | (o, d) :: l, i, st, h => by
    simp only [appL, h i (Nat.le_refl _) (by simp)]
    exact appL_congr L L' l (i + 1) _ (fun k h1 h2 => h k (by omega) (by simp; omega))
theorem put_tm_other {st : St} {dst : Option Tmp} {v : Option AV} {t : Tmp} (h : dst ≠ some t) : (st.put dst v).tm t = st.tm t := by
  cases dst with
  | none => rfl
  | some d => exact upd_ne _ _ (fun e => h (by rw [e]))
theorem Dec.app_tm {d : Dec} {o : Oper} {st : St} {t : Tmp} (h : o.dst ≠ some t) : (d.app o st).tm t = st.tm t := by
  cases d with
  | run fp out => exact put_tm_other h
  | skip => exact put_tm_other h
theorem Dec.app_hp {d : Dec} {o : Oper} {st : St} {b : Nat} (h : b ∉ d.wr) : (d.app o st).hp b = st.hp b := by
  cases d with
  | run fp out =>
    refine updL_other b out.hp st.hp (fun p hp e => h ?_)
    rw [← e]; exact List.mem_map.2 ⟨p, hp, rfl⟩
  | skip => rw [show (Dec.skip.app o st) = st.put o.dst (some (.v undef)) from rfl, put_hp]
/-- A temporary hangs on its writers alone. -/
theorem appL_tm (L : Nat → Bool) (t : Tmp) : ∀ (l : List (Oper × Dec)) (i : Nat) (st st' : St), st.tm t = st'.tm t → ∀ L' : Nat → Bool,
    (∀ k o d, l[k]? = some (o, d) → o.dst = some t → L (i + k) = L' (i + k)) → (appL L i l st).tm t = (appL L' i l st').tm t
  | [], _, _, _, h, _, _ => h
  | (o, d) :: l, i, st, st', h, L', hl => by
    have h0 : (match L i with | true => d.app o st | false => st).tm t = (match L' i with | true => d.app o st' | false => st').tm t := by
      by_cases ht : o.dst = some t
      · have := hl 0 o d (by simp) ht
        simp only [Nat.add_zero] at this
        rw [this]
        cases L' i with
        | false => exact h
        | true => cases d <;> simp [Dec.app, St.app, St.put, putT, ht]
      · cases L i <;> cases L' i <;> simp only [Dec.app_tm ht] <;> exact h
    exact appL_tm L t l (i + 1) _ _ h0 L' (fun k o' d' hk hd => by have := hl (k + 1) o' d' (by simpa using hk) hd; rwa [show i + (k + 1) = i + 1 + k by omega] at this)
theorem updL_eq (b : Nat) : ∀ (l : List (Nat × Slot)) (f g : Nat → Slot), f b = g b → updL f l b = updL g l b
  | [], _, _, h => h
  | (j, u) :: l, f, g, h => by
    refine updL_eq b l _ _ ?_
    by_cases e : b = j
    · subst e; simp
    · rw [upd_ne _ _ e, upd_ne _ _ e]; exact h
theorem updL_wr (b : Nat) : ∀ (l : List (Nat × Slot)) (f g : Nat → Slot), b ∈ l.map (·.1) → updL f l b = updL g l b
  | [], _, _, h => by simp at h
  | (j, u) :: l, f, g, h => by
    by_cases e : b ∈ l.map (·.1)
    · exact updL_wr b l _ _ e
    · have : b = j := by
        simp only [List.map_cons, List.mem_cons] at h
        exact h.resolve_right e
      subst this
      exact updL_eq b l _ _ (by simp)
theorem appL_hp (L : Nat → Bool) (b : Nat) : ∀ (l : List (Oper × Dec)) (i : Nat) (st st' : St), st.hp b = st'.hp b → ∀ L' : Nat → Bool,
    (∀ k o d, l[k]? = some (o, d) → b ∈ d.wr → L (i + k) = L' (i + k)) → (appL L i l st).hp b = (appL L' i l st').hp b
  | [], _, _, _, h, _, _ => h
  | (o, d) :: l, i, st, st', h, L', hl => by
    have h0 : (match L i with | true => d.app o st | false => st).hp b = (match L' i with | true => d.app o st' | false => st').hp b := by
      by_cases ht : b ∈ d.wr
      · have := hl 0 o d (by simp) ht
        simp only [Nat.add_zero] at this
        rw [this]
        cases L' i with
        | false => exact h
        | true =>
          cases d with
          | run fp out => exact updL_wr b out.hp _ _ ht
          | skip => simp [Dec.wr] at ht
      · cases L i <;> cases L' i <;> simp only [Dec.app_hp ht] <;> exact h
    exact appL_hp L b l (i + 1) _ _ h0 L' (fun k o' d' hk hd => by have := hl (k + 1) o' d' (by simpa using hk) hd; rwa [show i + (k + 1) = i + 1 + k by omega] at this)
/-- An operation may be done last if it lies apart from all those behind it that are done. -/
theorem appL_last (ops : Array Oper) (L : Nat → Bool) (o : Oper) (d : Dec) (hd : ∀ x ∈ d.wr, x ∈ d.fp) : ∀ (l : List (Oper × Dec)) (i : Nat) (st : St),
    (∀ k p e, l[k]? = some (p, e) → L (i + k) = true → o.apart ops p = true ∧ far (foot d) (foot e) = true) →
    appL L i l (d.app o st) = d.app o (appL L i l st)
  | [], _, _, _ => rfl
  | (p, e) :: l, i, st, h => by
    have hrec := fun st => appL_last ops L o d hd l (i + 1) st (fun k p' e' hk hL => h (k + 1) p' e' (by simpa using hk) (by rwa [show i + (k + 1) = i + 1 + k by omega]))
    simp only [appL]
    cases hL : L i with
    | false => exact hrec st
    | true =>
      obtain ⟨h1, h2⟩ := h 0 p e (by simp) (by simpa using hL)
      simp only []
      rw [← Dec.app_comm st h1 h2 hd]
      exact hrec _
end SX
/- A region's operations in every order that its edges allow. No program in sight. -/
set_option linter.unusedVariables false
set_option linter.unusedSimpArgs false
namespace SX
open Go Go.RowKit

theorem checkOne_spec {ops : Array Oper} {m : Nat} {oj : Oper} {fj : List Nat × List Nat} : ∀ (l : List (Oper × (List Nat × List Nat))) (i : Nat), checkOne ops m oj fj i l = true →
    ∀ k o f, l[k]? = some (o, f) → m.testBit (i + k) = true ∨ (o.apart ops oj = true ∧ far f fj = true)
  | [], _, _, k, o, f, h => by simp at h
  | (p, g) :: l, i, hc, k, o, f, h => by
    simp only [checkOne, Bool.and_eq_true, Bool.or_eq_true] at hc
    cases k with
    | zero => simp at h; obtain ⟨rfl, rfl⟩ := h; simpa using hc.1
    | succ k =>
      have := checkOne_spec l (i + 1) hc.2 k o f (by simpa using h)
      rwa [show i + (k + 1) = i + 1 + k by omega]
theorem checkAll_spec {ops : Array Oper} : ∀ (l done : List (Oper × (List Nat × List Nat))) (ms : List Nat), checkAll ops done l ms = true → ∀ j o f, l[j]? = some (o, f) →
    (∃ m, ms[j]? = some m ∧ checkOne ops m o f 0 (done ++ l.take j) = true) ∧ (∀ x ∈ f.2, x ∈ f.1) ∧ (∀ e ∈ o.after, Region.binds .any e = true → e.on < done.length + j)
  | [], _, _, _, j, o, f, h => by simp at h
  | (p, g) :: l, done, [], hc, j, o, f, h => by simp [checkAll] at hc
  | (p, g) :: l, done, m :: ms, hc, j, o, f, h => by
    simp only [checkAll, Bool.and_eq_true] at hc
    obtain ⟨⟨⟨h1, h2⟩, h3⟩, h4⟩ := hc
    cases j with
    | zero =>
      simp at h
      obtain ⟨rfl, rfl⟩ := h
      refine ⟨⟨m, rfl, by simpa using h1⟩, fun x hx => ?_, fun e he hb => ?_⟩
      · rw [List.all_eq_true] at h2; simpa using h2 x hx
      · have := Array.all_eq_true_iff_forall_mem.1 h3 e he
        simp [hb] at this
        simpa using this
    | succ j =>
      obtain ⟨⟨m', a, b⟩, c, d⟩ := checkAll_spec l (done ++ [(p, g)]) ms h4 j o f (by simpa using h)
      refine ⟨⟨m', by simpa using a, by simpa using b⟩, c, fun e he hb => ?_⟩
      have := d e he hb
      simp at this
      omega
theorem mask_spec {acc : List Nat} {o : Oper} {k : Nat} (h : (mask acc o).testBit k = true) : ∃ e ∈ o.after, Region.binds .any e = true ∧ (e.on = k ∨ (acc.getD e.on 0).testBit k = true) := by
  have key : ∀ (l : List Edge) (s : Nat), (l.foldl (fun s e => if Region.binds .any e then s ||| (2 ^ e.on ||| acc.getD e.on 0) else s) s).testBit k = true →
      s.testBit k = true ∨ ∃ e ∈ l, Region.binds .any e = true ∧ (e.on = k ∨ (acc.getD e.on 0).testBit k = true) := by
    intro l
    induction l with
    | nil => intro s h; exact .inl h
    | cons e l ih =>
      intro s h
      simp only [List.foldl_cons] at h
      rcases ih _ h with h1 | ⟨e', he', hb', hk'⟩
      · by_cases hb : Region.binds .any e = true
        · simp only [hb, if_true, Nat.testBit_or, Bool.or_eq_true] at h1
          rcases h1 with h1 | h1 | h1
          · exact .inl h1
          · rw [Nat.testBit_two_pow] at h1
            exact .inr ⟨e, by simp, hb, .inl (by simpa using h1)⟩
          · exact .inr ⟨e, by simp, hb, .inr h1⟩
        · simp only [hb] at h1
          exact .inl h1
      · exact .inr ⟨e', by simp [he'], hb', hk'⟩
  unfold mask at h
  rcases key _ _ h with h1 | ⟨e, he, hb, hk⟩
  · simp at h1
  · exact ⟨e, Array.mem_toList_iff.1 he, hb, hk⟩
theorem befs_pre : ∀ (l : List Oper) (acc : List Nat), (befs l acc).take acc.length = acc ∧ (befs l acc).length = acc.length + l.length
  | [], acc => by simp [befs]
  | o :: l, acc => by
    obtain ⟨h1, h2⟩ := befs_pre l (acc ++ [mask acc o])
    refine ⟨?_, by rw [befs, h2]; simp; omega⟩
    have := congrArg (List.take acc.length) h1
    rw [List.take_take] at this
    simpa [befs, Nat.min_eq_left] using this
theorem befs_at : ∀ (l : List Oper) (acc : List Nat) (j : Nat) (o : Oper), l[j]? = some o → (befs l acc)[acc.length + j]? = some (mask ((befs l acc).take (acc.length + j)) o)
  | [], _, _, _, h => by simp at h
  | p :: l, acc, 0, o, h => by
    simp at h
    subst h
    obtain ⟨h1, h2⟩ := befs_pre l (acc ++ [mask acc p])
    have h3 : (befs (p :: l) acc).take acc.length = acc := (befs_pre (p :: l) acc).1
    rw [Nat.add_zero, h3]
    have : ((befs l (acc ++ [mask acc p])).take (acc ++ [mask acc p]).length)[acc.length]? = some (mask acc p) := by rw [h1]; simp
    rw [List.getElem?_take] at this
    simpa [befs] using this
  | p :: l, acc, j + 1, o, h => by
    have := befs_at l (acc ++ [mask acc p]) j o (by simpa using h)
    simp only [List.length_append, List.length_singleton] at this
    rw [show acc.length + 1 + j = acc.length + (j + 1) by omega] at this
    exact this
theorem bef_spec {ops : List Oper} {j k : Nat} {o : Oper} (ho : ops[j]? = some o) (h : bef ops j k = true) :
    ∃ e ∈ o.after, Region.binds .any e = true ∧ (e.on = k ∨ bef ops e.on k = true) := by
  have h1 := befs_at ops [] j o ho
  simp only [List.length_nil, Nat.zero_add] at h1
  unfold bef at h
  rw [List.getD_eq_getElem?_getD, h1] at h
  obtain ⟨e, he, hb, hk⟩ := mask_spec h
  refine ⟨e, he, hb, hk.imp id fun hk => ?_⟩
  unfold bef
  rw [List.getD_eq_getElem?_getD, List.getElem?_take] at hk
  split at hk
  · simpa [List.getD_eq_getElem?_getD] using hk
  · simp at hk

theorem count_set : ∀ (l : List Bool) (i : Nat), l[i]? = some false → (l.set i true).count false + 1 = l.count false
  | [], i, h => by simp at h
  | b :: l, 0, h => by simp at h; subst h; simp
  | b :: l, i + 1, h => by
    have := count_set l i (by simpa using h)
    cases b <;> simp <;> omega
theorem count_zero : ∀ (l : List Bool), l.count false = 0 → ∀ i, i < l.length → l[i]? = some true
  | [], _, i, h => by simp at h
  | b :: l, hc, i, h => by
    cases b with
    | false => simp at hc
    | true =>
      cases i with
      | zero => simp
      | succ i => simpa using count_zero l (by simpa using hc) i (by simpa using h)

section
variable {P : Program} {C : Ctx} {ops : Array Oper} {ods : List (Oper × Dec)} {st : St} {Q : Exit → Act → World → Prop}

theorem ev_of_tm {st st' : St} {o : Oper} (h : ∀ t, t ∈ o.looksAt ops → st'.tm t = st.tm t) : ∀ x ∈ o.op.operands, st'.ev x = st.ev x := by
  intro x hx
  cases x with
  | tmp t =>
    refine h t ?_
    unfold Oper.looksAt
    rw [List.mem_append, List.mem_filterMap]
    exact .inl ⟨.tmp t, Array.mem_toList_iff.2 hx, rfl⟩
  | const v => cases v <;> rfl
  | global g => rfl
  | func f => rfl
theorem undef_ne_bool {b : Bool} : undef ≠ Value.bool b := by intro h; cases h
theorem Sat.bool {a : Act} {w : World} {t : Tmp} {b : Bool} (h : Sat C st a w) (ht : st.tm t = some (.v (.bool b))) : a.tmps[t]? = some (.bool b) := by
  obtain ⟨E, S, h⟩ := h
  have h1 : a.tmps.getD t undef = .bool b := h.tm t _ ht
  rw [Array.getD_eq_getD_getElem?] at h1
  cases h2 : a.tmps[t]? with
  | none => rw [h2] at h1; exact absurd h1 undef_ne_bool
  | some v => rw [h2] at h1; simp at h1; rw [h1]
theorem Sat.undef {a : Act} {w : World} {t : Tmp} (h : Sat C st a w) (ht : st.tm t = some (.v Go.undef)) : a.tmps.getD t Go.undef = Go.undef := by
  obtain ⟨E, S, h⟩ := h
  exact h.tm t _ ht
theorem guard_wanted {o : Oper} {a : Act} {w : World} {want : Bool} (hg : Guard ops.toList o st want) (h : Sat C st a w) : Region.wanted o (yielded ops a.tmps) = want := by
  unfold Guard at hg
  unfold Region.wanted
  cases hgd : o.guard with
  | none => rw [hgd] at hg; exact hg.symm
  | some p =>
    obtain ⟨j, b⟩ := p
    rw [hgd] at hg
    obtain ⟨t, h1, ⟨b', h2, h3⟩ | ⟨h2, h3⟩⟩ := hg
    · have h4 := h.bool h2
      simp only [yielded]
      rw [Array.getElem?_toList] at h1
      simp only [h1, Option.bind_some, h4]
      rw [← h3]
      cases b <;> cases b' <;> rfl
    · rw [Array.getElem?_toList] at h1
      rw [h3]
      simp only [yielded, h1, Option.bind_some]
      have h4 := h.undef h2
      rw [Array.getD_eq_getD_getElem?] at h4
      cases h5 : a.tmps[t]? with
      | none => rfl
      | some v =>
        rw [h5] at h4
        have h6 : v = Go.undef := h4
        subst h6; rfl
theorem Guard.congr {o : Oper} {st st' : St} {want : Bool} (hg : Guard ops.toList o st want) (h : ∀ t, t ∈ o.looksAt ops → st'.tm t = st.tm t) : Guard ops.toList o st' want := by
  unfold Guard at *
  cases hgd : o.guard with
  | none => rw [hgd] at hg; exact hg
  | some p =>
    obtain ⟨j, b⟩ := p
    rw [hgd] at hg
    obtain ⟨t, h1, h2⟩ := hg
    refine ⟨t, h1, ?_⟩
    rw [h t ?_]; exact h2
    unfold Oper.looksAt
    rw [hgd, List.mem_append]
    rw [Array.getElem?_toList] at h1
    exact .inr (by simp [h1])
/-- A skipped operation's place holds what is none. -/
theorem Sat.skip {o : Oper} {a : Act} {w : World} (h : Sat C st a w) : Sat C (st.put o.dst (some (.v Go.undef))) (a.put o.dst Go.undef) w := by
  obtain ⟨E, S, h⟩ := h
  cases hd : o.dst with
  | none => exact ⟨E, S, h⟩
  | some d =>
    refine ⟨E, S, { h with nt := ?_, tm := fun t v ht => ?_, tid := fun t v ht b hb => ?_ }⟩
    · simpa [Act.put] using h.nt
    · have ht' : (upd st.tm d (some (.v Go.undef))) t = some v := ht
      by_cases e : t = d
      · subst e
        rw [upd_same] at ht'
        cases ht'
        show (a.tmps.setIfInBounds t Go.undef).getD t Go.undef = Go.undef
        rw [Array.getD_eq_getD_getElem?, Array.getElem?_setIfInBounds]
        simp; split <;> rfl
      · rw [upd_ne _ _ e] at ht'
        have := h.tm t v ht'
        simp only [Act.put, Array.getD_eq_getD_getElem?] at *
        rw [Array.getElem?_setIfInBounds_ne (fun e' => e e'.symm)]
        exact this
    · have ht' : (upd st.tm d (some (.v Go.undef))) t = some v := ht
      by_cases e : t = d
      · subst e
        rw [upd_same] at ht'
        cases ht'
        cases hb
      · rw [upd_ne _ _ e] at ht'
        exact h.tid t v ht' b hb
theorem dec_wp {i : Nat} {o : Oper} {d : Dec} {st st' : St} {a : Act} {w : World} {K : Act → World → Prop} (hi : ops[i]? = some o) (hd : DecOK P C ops.toList o st d)
    (h1 : ∀ t, t ∈ o.looksAt ops → st'.tm t = st.tm t) (h2 : ∀ b ∈ d.fp, st'.hp b = st.hp b) (hs : Sat C st' a w)
    (hk : ∀ a w, Sat C (d.app o st') a w → K a w) : wpOp P ops Q i K a w := by
  unfold wpOp
  rw [hi]
  cases d with
  | run fp out =>
    obtain ⟨hg, hop⟩ := hd
    have hw := guard_wanted (Guard.congr hg h1) hs
    simp only [hw, if_true]
    exact .inl (hop st' (ev_of_tm h1) h2 a w hs K Q fun v w' h => hk _ _ h)
  | skip =>
    have hw := guard_wanted (Guard.congr hd h1) hs
    simp only [hw]
    exact hk _ _ hs.skip

theorem mem_some {l : List (Oper × Dec)} {i : Nat} (h : i < l.length) : ∃ o d, l[i]? = some (o, d) := ⟨l[i].1, l[i].2, by simp [h]⟩
theorem any_order (hops : ops.toList = ods.map (·.1)) (hc : check ops (ods.map fun p => foot p.2) = true)
    (htr : ∀ (i : Nat) (o : Oper) (d : Dec), ods[i]? = some (o, d) → DecOK P C ops.toList o (appL (fun k => decide (k < i)) 0 ods st) d)
    (hQ : ∀ a w, Sat C (appL (fun _ => true) 0 ods st) a w → Q .normal a w) :
    ∀ (fuel : Nat) (listed : Array Bool) (a : Act) (w : World), listed.size = ods.length → listed.toList.count false = fuel →
      (∀ j k, listed.getD j false = true → bef ops.toList j k = true → listed.getD k false = true) →
      Sat C (appL (fun k => listed.getD k false) 0 ods st) a w → wpAny P .any ops Q fuel listed a w := by
  have hsz : ods.length = ops.size := by have := congrArg List.length hops; simpa using this.symm
  have hat : ∀ (i : Nat) (o : Oper) (d : Dec), ods[i]? = some (o, d) → ops[i]? = some o := by
    intro i o d h
    rw [← Array.getElem?_toList, hops, List.getElem?_map, h]; rfl
  unfold check at hc
  rw [Bool.and_eq_true] at hc
  have hz : ∀ (i : Nat) (o : Oper) (d : Dec), ods[i]? = some (o, d) → (ops.toList.zip (ods.map fun p => foot p.2))[i]? = some (o, foot d) := by
    intro i o d h
    rw [List.getElem?_zip_eq_some]
    exact ⟨by rw [Array.getElem?_toList]; exact hat i o d h, by rw [List.getElem?_map, h]; rfl⟩
  have hpair : ∀ (i j : Nat) (o : Oper) (d : Dec) (p : Oper) (e : Dec), i < j → ods[i]? = some (o, d) → ods[j]? = some (p, e) → bef ops.toList j i = true ∨ (o.apart ops p = true ∧ far (foot d) (foot e) = true) := by
    intro i j o d p e hij h1 h2
    obtain ⟨⟨m, hm, h3⟩, _, _⟩ := checkAll_spec _ [] _ hc.2 j p (foot e) (hz j p e h2)
    have := checkOne_spec _ 0 h3 i o (foot d) (by rw [List.nil_append, List.getElem?_take, if_pos hij]; exact hz i o d h1)
    rw [Nat.zero_add] at this
    refine this.imp (fun h => ?_) id
    unfold bef
    rw [List.getD_eq_getElem?_getD, hm]; exact h
  have hwr : ∀ (i : Nat) (o : Oper) (d : Dec), ods[i]? = some (o, d) → ∀ x ∈ d.wr, x ∈ d.fp := fun i o d h => (checkAll_spec _ [] _ hc.2 i o (foot d) (hz i o d h)).2.1
  have hed : ∀ (i : Nat) (o : Oper) (d : Dec), ods[i]? = some (o, d) → ∀ e ∈ o.after, Region.binds .any e = true → e.on < i := fun i o d h e he hb => by
    have := (checkAll_spec _ [] _ hc.2 i o (foot d) (hz i o d h)).2.2 e he hb
    simpa using this
  intro fuel
  have fin : ∀ (listed : Array Bool) (a : Act) (w : World), listed.size = ods.length → (∀ i, i < ods.length → listed.getD i false = true) → Sat C (appL (fun k => listed.getD k false) 0 ods st) a w → Q .normal a w := by
    intro listed a w _ hall hs
    refine hQ a w ?_
    rwa [appL_congr _ (fun k => listed.getD k false) ods 0 st (fun k _ hk => (hall k (by omega)).symm)]
  have empty : ∀ (listed : Array Bool), listed.size = ods.length → Region.ready .any ops listed = [] → ∀ i, i < ods.length → listed.getD i false = true := by
    intro listed hls hr i
    induction i using Nat.strongRecOn with
    | _ i ih =>
      intro hi
      obtain ⟨o, d, ho⟩ := mem_some hi
      cases hli : listed.getD i false with
      | true => rfl
      | false =>
        have : i ∈ Region.ready .any ops listed := by
          rw [mem_ready]
          refine ⟨?_, o, hat i o d ho, fun e he hb => ih e.on (hed i o d ho e he hb) (Nat.lt_trans (hed i o d ho e he hb) hi)⟩
          have h9 : i < listed.size := by omega
          simp [h9] at hli ⊢
          exact hli
        rw [hr] at this
        cases this
  induction fuel with
  | zero =>
    intro listed a w hls hcnt hcl hs
    have hall : ∀ i, i < ods.length → listed.getD i false = true := by
      intro i hi
      have := count_zero _ hcnt i (by simpa using (by omega : i < listed.size))
      simp only [Array.getElem?_toList] at this
      simp [this]
    refine ⟨?_, fin listed a w hls hall hs⟩
    cases hr : Region.ready .any ops listed with
    | nil => rfl
    | cons i r =>
      have hi : i ∈ Region.ready .any ops listed := by rw [hr]; simp
      rw [mem_ready] at hi
      obtain ⟨h0, o, ho, _⟩ := hi
      have hlt : i < ods.length := by rw [hsz]; exact (Array.getElem?_eq_some_iff.1 ho).1
      have h1 := hall i hlt
      have h9 : i < listed.size := by omega
      simp [h9] at h0 h1
      rw [h0] at h1; cases h1
  | succ fuel ih =>
    intro listed a w hls hcnt hcl hs
    refine ⟨fun hr => fin listed a w hls (empty listed hls hr) hs, fun i hi => ?_⟩
    rw [mem_ready] at hi
    obtain ⟨h0, o', ho', hedge⟩ := hi
    have hlt : i < ods.length := by rw [hsz]; exact (Array.getElem?_eq_some_iff.1 ho').1
    obtain ⟨o, d, hod⟩ := mem_some hlt
    have hoo : o' = o := by rw [hat i o d hod] at ho'; exact (Option.some.inj ho').symm
    subst hoo
    have hli : i < listed.size := by omega
    have hfalse : listed.getD i false = false := by simp [hli] at h0 ⊢; exact h0
    -- all that must come before i is done
    have hbefore : ∀ k, bef ops.toList i k = true → listed.getD k false = true := by
      intro k hk
      obtain ⟨e, he, hb, h⟩ := bef_spec (by rw [Array.getElem?_toList]; exact ho') hk
      have h1 := hedge e he hb
      rcases h with h | h
      · rw [← h]; exact h1
      · exact hcl e.on k h1 h
    -- what i meets of those done behind it in the text lies apart
    have hafter : ∀ (k : Nat) (p : Oper) (e : Dec), i < k → ods[k]? = some (p, e) → listed.getD k false = true → o'.apart ops p = true ∧ far (foot d) (foot e) = true := by
      intro k p e hik hk hL
      rcases hpair i k o' d p e hik hod hk with h | h
      · have := hcl k i hL h
        rw [hfalse] at this; cases this
      · exact h
    have hwho : ∀ (k : Nat) (p : Oper) (e : Dec), ods[k]? = some (p, e) → ¬ (k ≠ i ∧ ((k < i → p.apart ops o' = true ∧ far (foot e) (foot d) = true) ∧ (i < k → o'.apart ops p = true ∧ far (foot d) (foot e) = true))) → decide (k < i) = listed.getD k false := by
      intro k p e hk hconf
      rcases Nat.lt_trichotomy k i with hlt' | heq | hgt
      · rw [decide_eq_true hlt']
        rcases hpair k i p e o' d hlt' hk hod with h | h
        · exact (hbefore k h).symm
        · exact absurd ⟨by omega, fun _ => h, fun h' => by omega⟩ hconf
      · subst heq; rw [hfalse]; simp
      · rw [decide_eq_false (by omega)]
        cases hL : listed.getD k false with
        | false => rfl
        | true => exact absurd ⟨by omega, fun h' => by omega, fun _ => hafter k p e hgt hk hL⟩ hconf
    refine dec_wp ho' (htr i o' d hod) (fun t ht => ?_) (fun b hb => ?_) hs (fun a' w' hs' => ?_)
    · refine appL_tm _ t ods 0 st st rfl _ (fun k p e hk hdst => ?_)
      rw [Nat.zero_add]
      refine (hwho k p e hk (fun ⟨hne, h1, h2⟩ => ?_)).symm
      rcases Nat.lt_or_gt_of_ne hne with hlt' | hgt
      · exact (Oper.apart_spec (h1 hlt').1).1 t hdst ht
      · exact (Oper.apart_spec (h2 hgt).1).2.2 t hdst ht
    · refine appL_hp _ b ods 0 st st rfl _ (fun k p e hk hw => ?_)
      rw [Nat.zero_add]
      refine (hwho k p e hk (fun ⟨hne, h1, h2⟩ => ?_)).symm
      rcases Nat.lt_or_gt_of_ne hne with hlt' | hgt
      · have := (h1 hlt').2
        unfold far at this
        rw [Bool.and_eq_true] at this
        exact disj_spec this.1 hw hb
      · have := (h2 hgt).2
        unfold far at this
        rw [Bool.and_eq_true] at this
        exact disj_spec this.2 hw hb
    · refine ih (listed.setIfInBounds i true) a' w' (by simpa using hls) ?_ ?_ ?_
      · rw [Array.toList_setIfInBounds]
        have := count_set listed.toList i (by
          rw [Array.getElem?_toList]
          simp [hli] at h0 ⊢
          exact h0)
        omega
      · intro j k hj hjk
        by_cases hji : j = i
        · subst hji
          exact getD_set_true (hbefore k hjk)
        · rw [getD_set_ne false (fun e => hji e.symm)] at hj
          exact getD_set_true (hcl j k hj hjk)
      · have hsplit : ods = ods.take i ++ (o', d) :: ods.drop (i + 1) := by
          have : ods.drop i = (o', d) :: ods.drop (i + 1) := by
            have h9 := List.drop_eq_getElem_cons hlt
            rw [List.getElem?_eq_getElem hlt] at hod
            rw [h9, Option.some.inj hod]
          rw [← this, List.take_append_drop]
        have hlen : (ods.take i).length = i := by simp; omega
        have e1 : appL (fun k => (listed.setIfInBounds i true).getD k false) 0 ods st = d.app o' (appL (fun k => listed.getD k false) 0 ods st) := by
          rw [hsplit, appL_append, appL_append, hlen, Nat.zero_add]
          have hti : (listed.setIfInBounds i true).getD i false = true := by simp [hli]
          rw [appL_congr (fun k => (listed.setIfInBounds i true).getD k false) (fun k => listed.getD k false) (ods.take i) 0 st (fun k _ hk => by
            rw [hlen] at hk; exact getD_set_ne false (by omega))]
          simp only [appL, hti, hfalse]
          rw [appL_congr (fun k => (listed.setIfInBounds i true).getD k false) (fun k => listed.getD k false) (ods.drop (i + 1)) (i + 1) _ (fun k hk _ => getD_set_ne false (by omega))]
          exact appL_last ops _ o' d (hwr i o' d hod) (ods.drop (i + 1)) (i + 1) _ (fun k p e hk hL => hafter (i + 1 + k) p e (by omega) (by rw [List.getElem?_drop] at hk; exact hk) hL)
        rw [e1]
        exact hs'
end
end SX
/- What an operation leaves; the rules of the symbolic run. No program in sight. -/
set_option linter.unusedVariables false
set_option linter.unusedSimpArgs false
namespace SX
open Go Go.RowKit

/-- The environments agree at these numbers. -/
def Env.at' (E E' : Env) (b : Nat) : Prop := E'.blk b = E.blk b ∧ E'.sl b = E.sl b
theorem Atom.has.step {a : Atom} {E E' : Env} {S S' : Nat → Prop} {w w' : World} {v : Value} (h : a.has E S w v) (he : ∀ b ∈ a.ids, E.at' E' b) (ho : Off S w w') (hs : ∀ k, S' k → S k ∨ w.heap.size ≤ k) : a.has E' S' w' v := by
  cases a with
  | c a => exact CA.has.step h ho hs
  | ptr b off => exact h.trans (by rw [(he b (by simp [Atom.ids])).1])
  | own b => exact ⟨h.1.trans (he b (by simp [Atom.ids])).2.symm, h.2⟩
  | rptr b off =>
    obtain ⟨g, n, cap, h1, h2⟩ := h
    exact ⟨g, n, cap, (he b (by simp [Atom.ids])).2.trans h1, h2⟩
  | bnd f b => exact h.trans (by rw [(he b (by simp [Atom.ids])).1])
  | rel b R =>
    obtain ⟨h1, h2⟩ := h
    have hb := he b (by simp [Atom.ids])
    exact ⟨by rw [hb.1, hb.2]; exact h1, h2⟩
  | clo f cap =>
    refine h.trans ?_
    congr 2
    refine List.map_congr_left fun p hp => ?_
    rw [(he p.1 (by simp [Atom.ids]; exact ⟨p.2, hp⟩)).1]
theorem AV0.has.step {a : AV0} {E E' : Env} {S S' : Nat → Prop} {w w' : World} {v : Value} (h : a.has E S w v) (he : ∀ b ∈ a.ids, E.at' E' b) (ho : Off S w w') (hs : ∀ k, S' k → S k ∨ w.heap.size ≤ k) : a.has E' S' w' v := by
  cases a with
  | one a => exact Atom.has.step (a := a) h he ho hs
  | agg l =>
    obtain ⟨vs, hv, h⟩ := h
    exact ⟨vs, hv, h.mono fun a b ha hab => hab.step (fun i hi => he i (List.mem_flatMap.2 ⟨a, ha, hi⟩)) ho hs⟩
theorem AV.has.step {a : AV} {E E' : Env} {S S' : Nat → Prop} {w w' : World} {v : Value} (h : a.has E S w v) (he : ∀ b ∈ a.ids, E.at' E' b) (ho : Off S w w') (hs : ∀ k, S' k → S k ∨ w.heap.size ≤ k) : a.has E' S' w' v := by
  cases a with
  | it a => exact AV0.has.step (a := a) h he ho hs
  | tup l =>
    obtain ⟨vs, hv, h⟩ := h
    exact ⟨vs, hv, h.mono fun a b ha hab => hab.step (fun i hi => he i (List.mem_flatMap.2 ⟨a, ha, hi⟩)) ho hs⟩
theorem ownsRow_block {w w' : World} {base : Nat} {e : TypeId} {size : Nat} {v : Value} {n : Nat} {xs : List Value} (h : w.ownsRow base e size v n xs) (hb : ∀ k, v.ownBlock = some k → w'.heap[k]? = w.heap[k]?) : w'.ownsRow base e size v n xs := by
  refine ⟨h.1, ?_⟩
  rcases h.2 with hn | ⟨g, cap, cur, rfl, hb', hgg, rest⟩
  · exact .inl hn
  · exact .inr ⟨g, cap, cur, rfl, hb', by rw [hb g rfl]; exact hgg, rest⟩
theorem Ent.has.step {e : Ent} {b : Nat} {E E' : Env} {S S' : Nat → Prop} {w w' : World} (h : e.has E S w b) (he : ∀ i ∈ e.ids, E.at' E' i) (hb : E.at' E' b) (ho : Off S w w') (hs : ∀ k, S' k → S k ∨ w.heap.size ≤ k)
    (hk : ∀ k, e.at E b k → w'.heap[k]? = w.heap[k]?) (hf : E'.fp b = E.fp b) : e.has E' S' w' b := by
  cases e with
  | abs A =>
    show A.has (E'.blk b) (E'.sl b) (E'.fp b) S' w'
    rw [hb.1, hb.2, hf]
    exact A.step h ho hs hk
  | box t cells =>
    obtain ⟨cs, h1, h2⟩ := h
    refine ⟨cs, by rw [hb.1, hk _ rfl]; exact h1, h2.mono fun a x ha hax => hax.step (fun i hi => he i (List.mem_flatMap.2 ⟨a, ha, hi⟩)) ho hs⟩
  | row t size n cells =>
    obtain ⟨vs, h1, h2⟩ := h
    refine ⟨vs, by rw [hb.2]; exact ownsRow_block h1 hk, h2.mono fun a x _ hax => hax.step ho hs⟩
theorem Ent.at_congr {e : Ent} {b : Nat} {E E' : Env} (hb : E.at' E' b) (hf : E'.fp b = E.fp b) : e.at E' b = e.at E b := by
  funext k
  cases e with
  | abs A => simp [Ent.at, hf]
  | box t cells => simp [Ent.at, hb.1]
  | row t size n cells => simp [Ent.at, hb.2]

/-- What an operation, or a call, leaves: 'pre': what it may write. -/
structure Eff (E : Env) (S : Nat → Prop) (w : World) (pre : List (Nat × Ent)) (out : Out) (v : Value) (w' : World) (E' : Env) (S' : Nat → Prop) : Prop where
  env : ∀ b, ((∃ s, (b, s) ∈ out.hp) → ∃ e, (b, e) ∈ pre) → E.at' E' b
  fpe : ∀ b, (∀ s, (b, s) ∉ out.hp) → E'.fp b = E.fp b
  sub : ∀ k, S k → S' k
  new : ∀ k, S' k → S k ∨ w.heap.size ≤ k
  lt : ∀ k, S' k → k < w'.heap.size
  off : Off (fun k => ∃ b e, (b, e) ∈ pre ∧ e.at E b k) w w'
  res : out.res.has E' S' w' v
  ents : ∀ b e, (b, Slot.ent e) ∈ out.hp → e.has E' S' w' b
  blk : ∀ b e k, (b, Slot.ent e) ∈ out.hp → e.at E' b k → S' k ∧ ((∃ b e, (b, e) ∈ pre ∧ e.at E b k) ∨ w.heap.size ≤ k)
  sep : ∀ b b' e e' k, b ≠ b' → (b, Slot.ent e) ∈ out.hp → (b', Slot.ent e') ∈ out.hp → e.at E' b k → ¬ e'.at E' b' k
theorem updL_cases (b : Nat) : ∀ (l : List (Nat × Slot)) (f : Nat → Slot), (∃ s, (b, s) ∈ l ∧ updL f l b = s) ∨ ((∀ s, (b, s) ∉ l) ∧ updL f l b = f b)
  | [], f => .inr ⟨by simp, rfl⟩
  | (j, u) :: l, f => by
    rcases updL_cases b l (upd f j u) with ⟨s, h1, h2⟩ | ⟨h1, h2⟩
    · exact .inl ⟨s, by simp [h1], h2⟩
    · by_cases e : b = j
      · subst e; exact .inl ⟨u, by simp, h2.trans (by simp)⟩
      · exact .inr ⟨fun s hs => by simp at hs; exact hs.elim (fun h => e h.1) (h1 s), h2.trans (upd_ne _ _ e)⟩
theorem putT_cases {f : Nat → Option AV} {dst : Option Tmp} {v : Option AV} {t : Nat} : (dst = some t ∧ putT f dst v t = v) ∨ (dst ≠ some t ∧ putT f dst v t = f t) := by
  cases dst with
  | none => exact .inr ⟨by simp, rfl⟩
  | some d =>
    by_cases e : t = d
    · subst e; exact .inl ⟨rfl, upd_same _ _ _⟩
    · exact .inr ⟨fun h => e (Option.some.inj h).symm, upd_ne _ _ e⟩
/-- The ids of what an operation leaves are at hand. -/
def Out.known (out : Out) (hp : Nat → Slot) : Prop :=
  (∀ i ∈ out.res.ids, (updL hp out.hp i).used = true) ∧ (∀ b e, (b, Slot.ent e) ∈ out.hp → ∀ i ∈ e.ids, (updL hp out.hp i).used = true)
theorem SatE.eff {C : Ctx} {st : St} {E E' : Env} {S S' : Nat → Prop} {a : Act} {w w' : World} {pre : List (Nat × Ent)} {out : Out} {v : Value} {dst : Option Tmp} (h : SatE C st E S a w)
    (hd : ∀ d, dst = some d → d < C.nt) (hpre : ∀ b e, (b, e) ∈ pre → st.hp b = .ent e ∧ ∃ s, (b, s) ∈ out.hp) (hnew : ∀ b s, (b, s) ∈ out.hp → (∃ e, (b, e) ∈ pre) ∨ st.hp b = .free)
    (hkeep : ∀ b s, (b, s) ∈ out.hp → s.used = true) (hid : out.known st.hp) (x : Eff E S w pre out v w' E' S') : SatE C (st.app dst out) E' S' (a.put dst v) w' := by
  have hoffS : Off S w w' := x.off.mono fun k ⟨b, e, hb, hk⟩ => (h.blk b e k (hpre b e hb).1 hk).1
  have hnotkey : ∀ b, (st.hp b).used = true → E.at' E' b := fun b hb => x.env b fun ⟨s, hs⟩ => (hnew b s hs).resolve_right (fun e => by rw [e] at hb; cases hb)
  have hused : ∀ b, (st.hp b).used = true → (updL st.hp out.hp b).used = true := by
    intro b hb
    rcases updL_cases b out.hp st.hp with ⟨s, h1, h2⟩ | ⟨_, h2⟩
    · rw [h2]; exact hkeep b s h1
    · rw [h2]; exact hb
  have hent : ∀ b e, updL st.hp out.hp b = .ent e → (b, Slot.ent e) ∈ out.hp ∨ (st.hp b = .ent e ∧ ∀ s, (b, s) ∉ out.hp) := by
    intro b e hb
    rcases updL_cases b out.hp st.hp with ⟨s, h1, h2⟩ | ⟨h1, h2⟩
    · rw [hb] at h2; subst h2; exact .inl h1
    · exact .inr ⟨h2.symm.trans hb, h1⟩
  have hpreblk : ∀ k, (∃ b e, (b, e) ∈ pre ∧ e.at E b k) → k < w.heap.size ∧ S k ∧ (C.B k ∨ C.w0.heap.size ≤ k) := fun k ⟨b, e, hb, hk⟩ => by
    have := h.blk b e k (hpre b e hb).1 hk
    exact ⟨h.lt k this.1, this⟩
  have hold : ∀ b e, st.hp b = .ent e → (∀ s, (b, s) ∉ out.hp) → ∀ k, e.at E b k → k < w.heap.size ∧ ¬ ∃ b e, (b, e) ∈ pre ∧ e.at E b k := by
    intro b e hb hn k hk
    refine ⟨h.lt k (h.blk b e k hb hk).1, fun ⟨b', e', hb', hk'⟩ => ?_⟩
    have hne : b ≠ b' := fun e1 => by subst e1; obtain ⟨s, hs⟩ := (hpre b e' hb').2; exact hn s hs
    exact h.sep b b' e e' k hne hb (hpre b' e' hb').1 hk hk'
  refine
    { dfr := ?_, nt := ?_, cT := fun k hk => x.sub k (h.cT k hk), cT0 := h.cT0, cS := fun k hk => ?_, lt := x.lt, tm := fun t u ht => ?_, tid := fun t u ht i hi => ?_, hp := fun b e hb => ?_, hid := fun b e hb i hi => ?_,
      blk := fun b e k hb hk => ?_, sep := fun b b' e e' k hne hb hb' hk hk' => ?_, off := ?_, env := fun b hb => ?_, gl := h.gl.step hoffS x.new }
  · rw [← h.dfr]; cases dst <;> rfl
  · rw [← h.nt]; cases dst <;> simp [Act.put]
  · rcases x.new k hk with h1 | h1
    · exact h.cS k h1
    · exact .inr (Nat.le_trans h.off.size h1)
  · rcases putT_cases (f := st.tm) (dst := dst) (v := some out.res) (t := t) with ⟨h1, h2⟩ | ⟨h1, h2⟩
    · have : u = out.res := by have := h2.symm.trans ht; exact (Option.some.inj this).symm
      subst this
      subst h1
      have hlt : t < a.tmps.size := by rw [h.nt]; exact hd t rfl
      simp only [Act.put]
      simpa [hlt] using x.res
    · have h3 := h.tm t u (h2.symm.trans ht)
      have h4 : (a.put dst v).tmps.getD t undef = a.tmps.getD t undef := by
        cases dst with
        | none => rfl
        | some d =>
          have : d ≠ t := fun e => h1 (by rw [e])
          simp [Act.put, Array.getElem?_setIfInBounds_ne this]
      rw [h4]
      exact h3.step (fun b hb => hnotkey b (h.tid t u (h2.symm.trans ht) b hb)) hoffS x.new
  · rcases putT_cases (f := st.tm) (dst := dst) (v := some out.res) (t := t) with ⟨h1, h2⟩ | ⟨h1, h2⟩
    · have : u = out.res := by have := h2.symm.trans ht; exact (Option.some.inj this).symm
      subst this
      exact hid.1 i hi
    · exact hused i (h.tid t u (h2.symm.trans ht) i hi)
  · rcases hent b e hb with h1 | ⟨h1, h2⟩
    · exact x.ents b e h1
    · have hat := hnotkey b (by rw [h1]; rfl)
      refine (h.hp b e h1).step (fun i hi => hnotkey i (h.hid b e h1 i hi)) hat hoffS x.new (fun k hk => ?_) (x.fpe b h2)
      obtain ⟨h3, h4⟩ := hold b e h1 h2 k hk
      exact x.off.block k h3 h4
  · rcases hent b e hb with h1 | ⟨h1, h2⟩
    · exact hid.2 b e h1 i hi
    · exact hused i (h.hid b e h1 i hi)
  · rcases hent b e hb with h1 | ⟨h1, h2⟩
    · obtain ⟨h3, h4⟩ := x.blk b e k h1 hk
      refine ⟨h3, h4.elim (fun h5 => (hpreblk k h5).2.2) (fun h5 => .inr (Nat.le_trans h.off.size h5))⟩
    · have hat := hnotkey b (by rw [h1]; rfl)
      rw [Ent.at_congr hat (x.fpe b h2)] at hk
      obtain ⟨h3, h4⟩ := h.blk b e k h1 hk
      exact ⟨x.sub k h3, h4⟩
  · rcases hent b e hb with h1 | ⟨h1, h2⟩
    · rcases hent b' e' hb' with h1' | ⟨h1', h2'⟩
      · exact x.sep b b' e e' k hne h1 h1' hk hk'
      · rw [Ent.at_congr (hnotkey b' (by rw [h1']; rfl)) (x.fpe b' h2')] at hk'
        obtain ⟨h3, h4⟩ := hold b' e' h1' h2' k hk'
        exact (x.blk b e k h1 hk).2.elim h4 (fun h5 => by omega)
    · rw [Ent.at_congr (hnotkey b (by rw [h1]; rfl)) (x.fpe b h2)] at hk
      obtain ⟨h3, h4⟩ := hold b e h1 h2 k hk
      rcases hent b' e' hb' with h1' | ⟨h1', h2'⟩
      · exact (x.blk b' e' k h1' hk').2.elim h4 (fun h5 => by omega)
      · rw [Ent.at_congr (hnotkey b' (by rw [h1']; rfl)) (x.fpe b' h2')] at hk'
        exact h.sep b b' e e' k hne h1 h1' hk hk'
  · exact h.off.trans2 x.off (fun k hk => hk) (fun k hk => (hpreblk k hk).2.2.imp id id)
  · obtain ⟨h1, h2, h3⟩ := h.env b hb
    have hat := hnotkey b h3
    exact ⟨hat.1.trans h1, hat.2.trans h2, hused b h3⟩

/-- The operation's rule out of what it leaves. 'rd': what it reads of the call's own, 'pre': what it may write. -/
theorem OpOK.eff {P : Program} {C : Ctx} {o : Oper} {st : St} {fp : List Nat} {out : Out} (rd pre : List (Nat × Ent))
    (hfp : ∀ b, ((∃ e, (b, e) ∈ rd) ∨ (∃ e, (b, e) ∈ pre) ∨ ∃ s, (b, s) ∈ out.hp) → b ∈ fp) (hd : ∀ d, o.dst = some d → d < C.nt)
    (hrd : ∀ b e, (b, e) ∈ rd → st.hp b = .ent e) (hpre : ∀ b e, (b, e) ∈ pre → st.hp b = .ent e ∧ ∃ s, (b, s) ∈ out.hp) (hnew : ∀ b s, (b, s) ∈ out.hp → (∃ e, (b, e) ∈ pre) ∨ st.hp b = .free)
    (hkeep : ∀ b s, (b, s) ∈ out.hp → s.used = true)
    (h : ∀ st' E S a w, (∀ x ∈ o.op.operands, st'.ev x = st.ev x) → (∀ b ∈ fp, st'.hp b = st.hp b) → SatE C st' E S a w → (∀ b e, (b, e) ∈ rd → st'.hp b = .ent e) → (∀ b e, (b, e) ∈ pre → st'.hp b = .ent e) →
      out.known st'.hp ∧ ∀ (K : Act → World → Prop) (Q : Exit → Act → World → Prop), (∀ v w' E' S', Eff E S w pre out v w' E' S' → K (a.put o.dst v) w') → o.wp P a w K Q) :
    OpOK P C o st fp out := by
  intro st' hev hhp a w ⟨E, S, hs⟩ K Q hK
  have e1 : ∀ b e, (b, e) ∈ rd → st'.hp b = .ent e := fun b e hb => by rw [hhp b (hfp b (.inl ⟨e, hb⟩))]; exact hrd b e hb
  have e2 : ∀ b e, (b, e) ∈ pre → st'.hp b = .ent e := fun b e hb => by rw [hhp b (hfp b (.inr (.inl ⟨e, hb⟩)))]; exact (hpre b e hb).1
  obtain ⟨hk, hw⟩ := h st' E S a w hev hhp hs e1 e2
  refine hw K Q fun v w' E' S' x => hK v w' ⟨E', S', hs.eff hd (fun b e hb => ⟨e2 b e hb, (hpre b e hb).2⟩) (fun b s hb => ?_) hkeep hk x⟩
  exact (hnew b s hb).imp id fun h1 => by rw [hhp b (hfp b (.inr (.inr ⟨s, hb⟩)))]; exact h1
end SX
/- The rules of the symbolic run for a function's text: regions, branches, loops, calls, returns. No program in sight. -/
set_option linter.unusedVariables false
set_option linter.unusedSimpArgs false
namespace SX
open Go Go.RowKit

/-- A text's run in a state: what it comes to. -/
def WP (P : Program) (C : Ctx) (c : Code) (st : St) (Q : Exit → St → Prop) : Prop :=
  ∀ a w, Sat C st a w → c.wp P (fun ex a w => ∃ st', Q ex st' ∧ Sat C st' a w) a w
def thenK (k : St → Prop) (Q : Exit → St → Prop) : Exit → St → Prop
  | .normal, st => k st
  | e, st => Q e st
def inBlk (id : Nat) (Q : Exit → St → Prop) : Exit → St → Prop
  | .exit j, st => match Nat.beq j id with | true => Q .normal st | false => Q (.exit j) st
  | e, st => Q e st
section
variable {P : Program} {C : Ctx} {st : St} {Q : Exit → St → Prop}
theorem WP.skip (h : Q .normal st) : WP P C .skip st Q := fun a w hs => wp_skip ⟨st, h, hs⟩
theorem WP.exit {i : Nat} (h : Q (.exit i) st) : WP P C (.exit i) st Q := fun a w hs => wp_exit ⟨st, h, hs⟩
theorem WP.ret (h : Q .ret st) : WP P C .ret st Q := fun a w hs => wp_ret ⟨st, h, hs⟩
theorem WP.seq {x y : Code} (h : WP P C x st (thenK (fun s => WP P C y s Q) Q)) : WP P C (.seq x y) st Q := fun a w hs =>
  wp_seq (wp_mono (h a w hs) fun e a w ⟨s, hq, hs⟩ => by
    cases e with
    | normal => exact hq a w hs
    | _ => exact ⟨s, hq, hs⟩)
theorem WP.block {i : Nat} {c : Code} (h : WP P C c st (inBlk i Q)) : WP P C (.block i c) st Q := fun a w hs =>
  wp_block (wp_mono (h a w hs) fun e a w ⟨s, hq, hs⟩ => by
    cases e with
    | exit j =>
      simp only [Exit.inBlock, inBlk] at *
      by_cases hj : j = i
      · subst hj; simp at hq; simp; exact ⟨s, hq, hs⟩
      · have : Nat.beq j i = false := by rw [Bool.eq_false_iff]; simpa using hj
        simp only [this] at hq
        rw [if_neg hj]; exact ⟨s, hq, hs⟩
    | _ => exact ⟨s, hq, hs⟩)
theorem ev_const_has {E : Env} {S : Nat → Prop} {w : World} {v : Value} {av : AV} (h : st.ev (.const v) = some av) : av.has E S w v ∧ av.ids = [] := by
  cases v <;> simp only [St.ev] at h <;> first | (cases h; done) | (obtain rfl := Option.some.inj h; exact ⟨rfl, rfl⟩)
/-- What an operand stands for. -/
theorem SatE.ev {E : Env} {S : Nat → Prop} {a : Act} {w : World} (h : SatE C st E S a w) {x : Operand} {av : AV} (hx : st.ev x = some av) : av.has E S w (a.eval x) ∧ ∀ b ∈ av.ids, (st.hp b).used = true := by
  cases x with
  | tmp t => exact ⟨h.tm t av hx, h.tid t av hx⟩
  | const v =>
    obtain ⟨h1, h2⟩ := ev_const_has (E := E) (S := S) (w := w) hx
    exact ⟨h1, fun b hb => by rw [h2] at hb; cases hb⟩
  | global g => obtain rfl := Option.some.inj hx; exact ⟨rfl, fun b hb => by cases hb⟩
  | func f => obtain rfl := Option.some.inj hx; exact ⟨rfl, fun b hb => by cases hb⟩
theorem WP.cond {c : Operand} {x y : Code} {t : Bool} (hc : st.ev c = some (.v (.bool t))) (h1 : t = true → WP P C x st Q) (h2 : t = false → WP P C y st Q) : WP P C (.cond c x y) st Q := fun a w hs => by
  obtain ⟨E, S, hse⟩ := id hs
  refine wp_cond_split (t := t) (hse.ev hc).1 (fun ht => h1 ht a w hs) (fun ht => h2 ht a w hs)
theorem WP.condT {c : Operand} {x y : Code} (hc : st.ev c = some (.v (.bool true))) (h1 : WP P C x st Q) : WP P C (.cond c x y) st Q := WP.cond hc (fun _ => h1) (fun h => by cases h)
theorem WP.condF {c : Operand} {x y : Code} (hc : st.ev c = some (.v (.bool false))) (h1 : WP P C y st Q) : WP P C (.cond c x y) st Q := WP.cond hc (fun h => by cases h) (fun _ => h1)
/-- One state says no more than another. -/
def St.le (C : Ctx) (st st' : St) : Prop := ∀ a w, Sat C st a w → Sat C st' a w
theorem WP.weaken {c : Code} {st' : St} (h : St.le C st st') (k : WP P C c st' Q) : WP P C c st Q := fun a w hs => k a w (h a w hs)
theorem WP.mono {c : Code} {Q' : Exit → St → Prop} (h : WP P C c st Q) (k : ∀ e s, Q e s → Q' e s) : WP P C c st Q' := fun a w hs =>
  wp_mono (h a w hs) fun _ _ _ ⟨s, hq, hs⟩ => ⟨s, k _ _ hq, hs⟩
theorem WP.loop {c : Code} {ι : Type} (I : ι → St) (μ : ι → Nat) (i0 : ι) (h0 : St.le C st (I i0))
    (round : ∀ i, WP P C c (I i) (thenK (fun s => ∃ j, St.le C s (I j) ∧ μ j < μ i) Q)) : WP P C (.loop c) st Q := fun a w hs => by
  have key : ∀ n i a w, μ i < n → Sat C (I i) a w → Code.rounds P c (fun ex a w => ∃ st', Q ex st' ∧ Sat C st' a w) n a w := by
    intro n
    induction n with
    | zero => intro i a w h; omega
    | succ n ih =>
      intro i a w hlt hs
      rw [rounds_succ]
      refine wp_mono (round i a w hs) fun e a w ⟨s, hq, hs⟩ => ?_
      cases e with
      | normal =>
        obtain ⟨j, hle, hj⟩ := hq
        exact ih j a w (by omega) (hle a w hs)
      | _ => exact ⟨s, hq, hs⟩
  exact wp_loop_rounds (μ i0 + 1) (key _ i0 a w (by omega) (h0 a w hs))
end

section
variable {P : Program} {C : Ctx}
/-- A region's operations in text order; 'acc': the footprints so far, the last one first. -/
def Reg (P : Program) (C : Ctx) (ops rest : List Oper) (st : St) (acc : List (List Nat × List Nat)) (K : List (List Nat × List Nat) → St → Prop) : Prop :=
  ∃ ods st', ods.map (·.1) = rest ∧ Tr P C ops ods st st' ∧ K (acc.reverse ++ ods.map fun p => foot p.2) st'
variable {ops rest : List Oper} {st : St} {acc : List (List Nat × List Nat)} {K : List (List Nat × List Nat) → St → Prop} {o : Oper}
theorem Reg.nil (h : K acc.reverse st) : Reg P C ops [] st acc K := ⟨[], st, rfl, rfl, by simpa using h⟩
theorem Reg.cons {d : Dec} (hd : DecOK P C ops o st d) (h : Reg P C ops rest (d.app o st) (foot d :: acc) K) : Reg P C ops (o :: rest) st acc K := by
  obtain ⟨ods, st', h1, h2, h3⟩ := h
  exact ⟨(o, d) :: ods, st', by simp [h1], ⟨hd, h2⟩, by simpa using h3⟩
theorem Reg.run {fp : List Nat} {out : Out} (hg : o.guard = none) (h : OpOK P C o st fp out) (next : Reg P C ops rest (st.app o.dst out) ((fp, out.hp.map (·.1)) :: acc) K) : Reg P C ops (o :: rest) st acc K :=
  Reg.cons (d := .run fp out) ⟨by unfold Guard; rw [hg], h⟩ next
theorem Reg.runG {fp : List Nat} {out : Out} {j t : Nat} {b b' : Bool} (hg : o.guard = some (j, b)) (ht : (ops[j]?).bind (·.dst) = some t) (hv : st.tm t = some (.v (.bool b'))) (hb : b' = b) (h : OpOK P C o st fp out) (next : Reg P C ops rest (st.app o.dst out) ((fp, out.hp.map (·.1)) :: acc) K) : Reg P C ops (o :: rest) st acc K :=
  Reg.cons (d := .run fp out) ⟨by unfold Guard; rw [hg]; exact ⟨t, ht, .inl ⟨b', hv, by subst hb; simp⟩⟩, h⟩ next
theorem Reg.skipG {j t : Nat} {b b' : Bool} (hg : o.guard = some (j, b)) (ht : (ops[j]?).bind (·.dst) = some t) (hv : st.tm t = some (.v (.bool b'))) (hb : b' = !b) (next : Reg P C ops rest (st.put o.dst (some (.v undef))) (([], []) :: acc) K) : Reg P C ops (o :: rest) st acc K :=
  Reg.cons (d := .skip) (show Guard ops o st false by unfold Guard; rw [hg]; exact ⟨t, ht, .inl ⟨b', hv, by subst hb; cases b <;> rfl⟩⟩) next
theorem Reg.skipU {j t : Nat} {b : Bool} (hg : o.guard = some (j, b)) (ht : (ops[j]?).bind (·.dst) = some t) (hv : st.tm t = some (.v undef)) (next : Reg P C ops rest (st.put o.dst (some (.v undef))) (([], []) :: acc) K) : Reg P C ops (o :: rest) st acc K :=
  Reg.cons (d := .skip) (show Guard ops o st false by unfold Guard; rw [hg]; exact ⟨t, ht, .inr ⟨hv, rfl⟩⟩) next

theorem appL_false : ∀ (l : List (Oper × Dec)) (i : Nat) (st : St) (L : Nat → Bool), (∀ k, i ≤ k → L k = false) → appL L i l st = st
  | [], _, _, _, _ => rfl
  | (o, d) :: l, i, st, L, h => by
    simp only [appL, h i (Nat.le_refl _)]
    exact appL_false l (i + 1) st L (fun k hk => h k (by omega))
theorem tr_at : ∀ (l : List (Oper × Dec)) (i : Nat) (st st' : St), Tr P C ops l st st' →
    (∀ (k : Nat) (o : Oper) (d : Dec), l[k]? = some (o, d) → DecOK P C ops o (appL (fun j => decide (j < i + k)) i l st) d) ∧ st' = appL (fun _ => true) i l st
  | [], _, _, _, h => ⟨by simp, h.symm⟩
  | (p, e) :: l, i, st, st', h => by
    obtain ⟨h1, h2⟩ := tr_at l (i + 1) _ st' h.2
    refine ⟨fun k o d hk => ?_, by rw [h2]; rfl⟩
    cases k with
    | zero =>
      simp at hk
      obtain ⟨rfl, rfl⟩ := hk
      rw [appL_false _ _ _ _ (fun k hk => by simp; omega)]
      exact h.1
    | succ k =>
      have := h1 k o d (by simpa using hk)
      simp only [appL]
      rw [decide_eq_true (show i < i + (k + 1) by omega), show i + (k + 1) = i + 1 + k by omega]
      exact this
theorem text_order {ops : Array Oper} {Q : Exit → Act → World → Prop} : ∀ (l : List (Oper × Dec)) (i : Nat) (st st' : St) (a : Act) (w : World), ops.toList.drop i = l.map (·.1) → Tr P C ops.toList l st st' → Sat C st a w →
    (∀ a w, Sat C st' a w → Q .normal a w) → wpOps P ops Q (List.range' i l.length) a w
  | [], i, st, st', a, w, _, h, hs, hQ => by
    have : st = st' := h
    subst this
    exact hQ a w hs
  | (o, d) :: l, i, st, st', a, w, hd, h, hs, hQ => by
    have hi : ops[i]? = some o := by
      have := congrArg (fun m => m[0]?) hd
      simpa [List.getElem?_drop] using this
    have htl : ops.toList.drop (i + 1) = l.map (·.1) := by
      have := congrArg (List.drop 1) hd
      simpa [List.drop_drop, Nat.add_comm] using this
    rw [List.length_cons, List.range'_succ, wpOps_cons]
    exact dec_wp hi h.1 (fun _ _ => rfl) (fun _ _ => rfl) hs (fun a' w' hs' => text_order l (i + 1) _ st' a' w' htl h.2 hs' hQ)
theorem Sat.drew {a : Act} {w : World} (h : Sat C st a w) : Sat C st a w.drew := by
  obtain ⟨E, S, h⟩ := h
  refine ⟨E, S, { h with lt := h.lt, tm := fun t v ht => (h.tm t v ht).step (fun _ _ => ⟨rfl, rfl⟩) (Off.drew S w) (fun k hk => .inl hk), hp := fun b e hb => (h.hp b e hb).step (fun _ _ => ⟨rfl, rfl⟩) ⟨rfl, rfl⟩ (Off.drew S w) (fun k hk => .inl hk) (fun _ _ => rfl) rfl, off := h.off.trans (Off.drew _ _) }⟩
variable {Q : Exit → St → Prop}
theorem WP.region {id : Nat} {ops : Array Oper} (h : Reg P C ops.toList ops.toList st [] (fun _ st' => Q .normal st')) : WP P C (.region id ops false) st Q := fun a w hs => by
  obtain ⟨ods, st', h1, h2, h3⟩ := h
  refine wp_region ?_
  have hl : ods.length = ops.size := by have := congrArg List.length h1; simpa using this
  rw [List.range_eq_range', ← hl]
  exact text_order ods 0 st st' a w (by simpa using h1.symm) h2 hs fun a w hs' => ⟨st', h3, hs'⟩
theorem WP.regionD {id : Nat} {ops : Array Oper} (hm : P.follows .mixedOrders = true) (h : Reg P C ops.toList ops.toList st [] (fun feet st' => check ops feet = true ∧ Q .normal st')) : WP P C (.region id ops true) st Q := fun a w hs => by
  obtain ⟨ods, st', h1, h2, hc, h3⟩ := h
  obtain ⟨h4, h5⟩ := tr_at ods 0 st st' h2
  have hl : ods.length = ops.size := by have := congrArg List.length h1; simpa using this
  have hrep : ∀ k, (Array.replicate ops.size false).getD k false = false := fun k => by
    rw [Array.getD_eq_getD_getElem?, Array.getElem?_replicate]; split <;> rfl
  refine wp_region_any hm (any_order (C := C) (ods := ods) (st := st) h1.symm (by simpa using hc) (fun i o d hi => by simpa using h4 i o d hi) (fun a w hs' => ⟨st', h3, by rw [h5]; exact hs'⟩) ops.size _ a _ (by simp [hl]) (by simp) (fun j k hj => ?_) ?_)
  · rw [hrep] at hj; cases hj
  · rw [appL_false _ _ _ _ (fun k _ => hrep k)]
    exact hs.drew
theorem WP.regionL {id : Nat} {l : List Oper} (h : Reg P C l l st [] (fun _ st' => Q .normal st')) : WP P C (.region id l.toArray false) st Q := WP.region h
theorem WP.regionDL {id : Nat} {l : List Oper} (hm : P.follows .mixedOrders = true) (h : Reg P C l l st [] (fun feet st' => check l.toArray feet = true ∧ Q .normal st')) : WP P C (.region id l.toArray true) st Q := WP.regionD hm h
end
end SX
/- The rules of the symbolic run, operation by operation. No program in sight. -/
set_option linter.unusedVariables false
set_option linter.unusedSimpArgs false
namespace SX
open Go Go.RowKit

def dstOK (d : Option Tmp) (nt : Nat) : Bool := match d with | some d => Nat.blt d nt | none => true
theorem dstOK_spec {d : Option Tmp} {nt : Nat} (h : dstOK d nt = true) : ∀ x, d = some x → x < nt := by
  intro x hx; subst hx; simpa [dstOK, Nat.blt_eq] using h
theorem Eff.same {E : Env} {S : Nat → Prop} {w : World} {r : AV} {v : Value} (hl : ∀ k, S k → k < w.heap.size) (h : r.has E S w v) : Eff E S w [] ⟨r, []⟩ v w E S :=
  { env := fun _ _ => ⟨rfl, rfl⟩, fpe := fun _ _ => rfl, sub := fun _ h => h, new := fun _ h => .inl h, lt := hl, off := Off.refl _ _, res := h, ents := fun _ _ h => (by cases h), blk := fun _ _ _ h => (by cases h), sep := fun _ _ _ _ _ _ h => (by cases h) }
section
variable {P : Program} {C : Ctx} {st : St}
theorem OpOK.pureV {o : Oper} {fp : List Nat} (rd : List (Nat × Ent)) (r : AV) (hfp : ∀ b e, (b, e) ∈ rd → b ∈ fp) (hd : dstOK o.dst C.nt = true) (hrd : ∀ b e, (b, e) ∈ rd → st.hp b = .ent e)
    (h : ∀ st' E S a w, (∀ x ∈ o.op.operands, st'.ev x = st.ev x) → SatE C st' E S a w → (∀ b e, (b, e) ∈ rd → st'.hp b = .ent e) →
      (∀ i ∈ r.ids, (st'.hp i).used = true) ∧ ∃ v, (execOp a.eval o).run P w = .ok (.value v) w ∧ r.has E S w v) : OpOK P C o st fp ⟨r, []⟩ := by
  refine OpOK.eff rd [] (fun b hb => ?_) (dstOK_spec hd) hrd (fun b e hb => by cases hb) (fun b s hb => by cases hb) (fun b s hb => by cases hb) (fun st' E S a w h1 _ h2 h3 _ => ?_)
  · rcases hb with ⟨e, h1⟩ | ⟨e, h1⟩ | ⟨s, h1⟩
    · exact hfp b e h1
    · cases h1
    · cases h1
  · obtain ⟨hid, v, hr, hv⟩ := h st' E S a w h1 h2 h3
    refine ⟨⟨hid, fun b e hb => by cases hb⟩, fun K Q hK => ?_⟩
    unfold Oper.wp
    rw [hr]
    exact hK v w E S (Eff.same h2.lt hv)

/-- One operation, its guard decided. -/
def Go1 (P : Program) (C : Ctx) (ops : List Oper) (dst : Option Tmp) (op : Op) (ty : TypeId) (rest : List Oper) (st : St) (acc : List (List Nat × List Nat)) (K : List (List Nat × List Nat) → St → Prop) : Prop :=
  ∃ fp out, (∀ o : Oper, o.dst = dst → o.op = op → o.type = ty → OpOK P C o st fp out) ∧ Reg P C ops rest (st.app dst out) ((fp, out.hp.map (·.1)) :: acc) K
variable {ops rest : List Oper} {acc : List (List Nat × List Nat)} {K : List (List Nat × List Nat) → St → Prop} {dst : Option Tmp} {op : Op} {ty : TypeId} {pos : String} {af : Array Edge}
theorem Reg.go (h : Go1 P C ops dst op ty rest st acc K) : Reg P C ops (⟨dst, op, ty, pos, af, none⟩ :: rest) st acc K := by
  obtain ⟨fp, out, h1, h2⟩ := h
  exact Reg.run rfl (h1 _ rfl rfl rfl) h2
theorem Reg.goT {j t : Nat} {b b' : Bool} (ht : (ops[j]?).bind (·.dst) = some t) (hv : st.tm t = some (.v (.bool b'))) (hb : b' = b) (h : Go1 P C ops dst op ty rest st acc K) : Reg P C ops (⟨dst, op, ty, pos, af, some (j, b)⟩ :: rest) st acc K := by
  obtain ⟨fp, out, h1, h2⟩ := h
  exact Reg.runG rfl ht hv hb (h1 _ rfl rfl rfl) h2
theorem Reg.goF {j t : Nat} {b b' : Bool} (ht : (ops[j]?).bind (·.dst) = some t) (hv : st.tm t = some (.v (.bool b'))) (hb : b' = !b) (h : Reg P C ops rest (st.put dst (some (.v undef))) (([], []) :: acc) K) : Reg P C ops (⟨dst, op, ty, pos, af, some (j, b)⟩ :: rest) st acc K :=
  Reg.skipG rfl ht hv hb h
theorem Reg.goU {j t : Nat} {b : Bool} (ht : (ops[j]?).bind (·.dst) = some t) (hv : st.tm t = some (.v undef)) (h : Reg P C ops rest (st.put dst (some (.v undef))) (([], []) :: acc) K) : Reg P C ops (⟨dst, op, ty, pos, af, some (j, b)⟩ :: rest) st acc K :=
  Reg.skipU rfl ht hv h

/-- An operation that only reckons. -/
theorem Go1.pureV {r : AV} (rd : List (Nat × Ent)) (fp : List Nat) (hfp : ∀ b e, (b, e) ∈ rd → b ∈ fp) (hd : dstOK dst C.nt = true) (hrd : ∀ b e, (b, e) ∈ rd → st.hp b = .ent e)
    (h : ∀ o : Oper, o.op = op → o.type = ty → ∀ st' E S a w, (∀ x ∈ o.op.operands, st'.ev x = st.ev x) → SatE C st' E S a w → (∀ b e, (b, e) ∈ rd → st'.hp b = .ent e) →
      (∀ i ∈ r.ids, (st'.hp i).used = true) ∧ ∃ v, (execOp a.eval o).run P w = .ok (.value v) w ∧ r.has E S w v)
    (next : Reg P C ops rest (st.app dst ⟨r, []⟩) ((fp, []) :: acc) K) : Go1 P C ops dst op ty rest st acc K :=
  ⟨fp, ⟨r, []⟩, fun o h1 h2 h3 => OpOK.pureV rd r hfp (h1 ▸ hd) hrd (h o h2 h3), next⟩
theorem Go1.move {x : Operand} {r : AV} (hd : dstOK dst C.nt = true) (hx : st.ev x = some r) (next : Reg P C ops rest (st.app dst ⟨r, []⟩) (([], []) :: acc) K) : Go1 P C ops dst (.move x) ty rest st acc K :=
  Go1.pureV [] [] (by simp) hd (by simp) (fun o ho _ st' E S a w hev hs _ => by
    have hx' := hs.ev ((hev x (by simp [ho, Op.operands])).trans hx)
    exact ⟨hx'.2, _, by unfold execOp; rw [ho]; rfl, hx'.1⟩) next
theorem Go1.assign {x : Operand} {r : AV} (hd : dstOK dst C.nt = true) (hx : st.ev x = some r) (next : Reg P C ops rest (st.app dst ⟨r, []⟩) (([], []) :: acc) K) : Go1 P C ops dst (.assign x) ty rest st acc K :=
  Go1.pureV [] [] (by simp) hd (by simp) (fun o ho _ st' E S a w hev hs _ => by
    have hx' := hs.ev ((hev x (by simp [ho, Op.operands])).trans hx)
    exact ⟨hx'.2, _, by unfold execOp; rw [ho]; rfl, hx'.1⟩) next
theorem Go1.pick {x y c : Operand} {b : Bool} {r : AV} (hd : dstOK dst C.nt = true) (hc : st.ev c = some (.v (.bool b))) (hx : st.ev (match b with | true => x | false => y) = some r) (next : Reg P C ops rest (st.app dst ⟨r, []⟩) (([], []) :: acc) K) : Go1 P C ops dst (.pick c x y) ty rest st acc K :=
  Go1.pureV [] [] (by simp) hd (by simp) (fun o ho _ st' E S a w hev hs _ => by
    have hc' : a.eval c = .bool b := (hs.ev ((hev c (by simp [ho, Op.operands])).trans hc)).1
    cases b with
    | true =>
      have hx' := hs.ev ((hev x (by simp [ho, Op.operands])).trans hx)
      exact ⟨hx'.2, _, by unfold execOp; rw [ho]; simp [hc', asBool], hx'.1⟩
    | false =>
      have hx' := hs.ev ((hev y (by simp [ho, Op.operands])).trans hx)
      exact ⟨hx'.2, _, by unfold execOp; rw [ho]; simp [hc', asBool], hx'.1⟩) next
/-- What reckons with values alone. -/
theorem Go1.val1 {x : Operand} {u r : Value} (hd : dstOK dst C.nt = true) (hop : op.operands = #[x]) (hx : st.ev x = some (.v u)) (hrun : ∀ (ρ : Operand → Value) (o : Oper) (w : World), o.op = op → ρ x = u → (execOp ρ o).run P w = .ok (.value r) w)
    (next : Reg P C ops rest (st.app dst ⟨.v r, []⟩) (([], []) :: acc) K) : Go1 P C ops dst op ty rest st acc K :=
  Go1.pureV [] [] (by simp) hd (by simp) (fun o ho _ st' E S a w hev hs _ => by
    have hx' := hs.ev ((hev x (by rw [ho, hop]; simp)).trans hx)
    exact ⟨fun i hi => (by cases hi), r, hrun _ o w ho hx'.1, rfl⟩) next
theorem Go1.val2 {x y : Operand} {u v r : Value} (hd : dstOK dst C.nt = true) (hop : op.operands = #[x, y]) (hx : st.ev x = some (.v u)) (hy : st.ev y = some (.v v)) (hrun : ∀ (ρ : Operand → Value) (o : Oper) (w : World), o.op = op → ρ x = u → ρ y = v → (execOp ρ o).run P w = .ok (.value r) w)
    (next : Reg P C ops rest (st.app dst ⟨.v r, []⟩) (([], []) :: acc) K) : Go1 P C ops dst op ty rest st acc K :=
  Go1.pureV [] [] (by simp) hd (by simp) (fun o ho _ st' E S a w hev hs _ => by
    have hx' := hs.ev ((hev x (by rw [ho, hop]; simp)).trans hx)
    have hy' := hs.ev ((hev y (by rw [ho, hop]; simp)).trans hy)
    exact ⟨fun i hi => (by cases hi), r, hrun _ o w ho hx'.1 hy'.1, rfl⟩) next
variable {x y : Operand} {t t' : TypeId} {k : IntKind} {m n : Int}
theorem Go1.add {z : Int} (hd : dstOK dst C.nt = true) (hx : st.ev x = some (.v (.int k m))) (hy : st.ev y = some (.v (.int k n))) (hw : k.wrap (m + n) = z) (next : Reg P C ops rest (st.app dst ⟨.v (.int k z), []⟩) (([], []) :: acc) K) : Go1 P C ops dst (.binOp .add t x y t') ty rest st acc K :=
  Go1.val2 hd rfl hx hy (fun ρ o w ho h1 h2 => by unfold execOp; rw [ho]; simp [h1, h2, eqGuard, binOp, Op.intArith, hw]) next
theorem Go1.sub {z : Int} (hd : dstOK dst C.nt = true) (hx : st.ev x = some (.v (.int k m))) (hy : st.ev y = some (.v (.int k n))) (hw : k.wrap (m - n) = z) (next : Reg P C ops rest (st.app dst ⟨.v (.int k z), []⟩) (([], []) :: acc) K) : Go1 P C ops dst (.binOp .sub t x y t') ty rest st acc K :=
  Go1.val2 hd rfl hx hy (fun ρ o w ho h1 h2 => by unfold execOp; rw [ho]; simp [h1, h2, eqGuard, binOp, Op.intArith, hw]) next
theorem Go1.mul {z : Int} (hd : dstOK dst C.nt = true) (hx : st.ev x = some (.v (.int k m))) (hy : st.ev y = some (.v (.int k n))) (hw : k.wrap (m * n) = z) (next : Reg P C ops rest (st.app dst ⟨.v (.int k z), []⟩) (([], []) :: acc) K) : Go1 P C ops dst (.binOp .mul t x y t') ty rest st acc K :=
  Go1.val2 hd rfl hx hy (fun ρ o w ho h1 h2 => by unfold execOp; rw [ho]; simp [h1, h2, eqGuard, binOp, Op.intArith, hw]) next
theorem Go1.quo {z : Int} (hd : dstOK dst C.nt = true) (hx : st.ev x = some (.v (.int k m))) (hy : st.ev y = some (.v (.int k n))) (h0 : n ≠ 0) (hw : k.wrap (m.tdiv n) = z) (next : Reg P C ops rest (st.app dst ⟨.v (.int k z), []⟩) (([], []) :: acc) K) : Go1 P C ops dst (.binOp .quo t x y t') ty rest st acc K :=
  Go1.val2 hd rfl hx hy (fun ρ o w ho h1 h2 => by unfold execOp; rw [ho]; simp [h1, h2, eqGuard, binOp, Op.intDiv, hw, h0]) next
theorem Go1.rem {z : Int} (hd : dstOK dst C.nt = true) (hx : st.ev x = some (.v (.int k m))) (hy : st.ev y = some (.v (.int k n))) (h0 : n ≠ 0) (hw : m.tmod n = z) (next : Reg P C ops rest (st.app dst ⟨.v (.int k z), []⟩) (([], []) :: acc) K) : Go1 P C ops dst (.binOp .rem t x y t') ty rest st acc K :=
  Go1.val2 hd rfl hx hy (fun ρ o w ho h1 h2 => by unfold execOp; rw [ho]; simp [h1, h2, eqGuard, binOp, Op.intDiv, hw, h0]) next
theorem Go1.lss (hd : dstOK dst C.nt = true) (hx : st.ev x = some (.v (.int k m))) (hy : st.ev y = some (.v (.int k n))) (next : Reg P C ops rest (st.app dst ⟨.v (.bool (decide (m < n))), []⟩) (([], []) :: acc) K) : Go1 P C ops dst (.binOp .lss t x y t') ty rest st acc K :=
  Go1.val2 hd rfl hx hy (fun ρ o w ho h1 h2 => by unfold execOp; rw [ho]; simp [h1, h2, eqGuard, binOp, Op.intCmp]) next
theorem Go1.leq (hd : dstOK dst C.nt = true) (hx : st.ev x = some (.v (.int k m))) (hy : st.ev y = some (.v (.int k n))) (next : Reg P C ops rest (st.app dst ⟨.v (.bool (decide (m ≤ n))), []⟩) (([], []) :: acc) K) : Go1 P C ops dst (.binOp .leq t x y t') ty rest st acc K :=
  Go1.val2 hd rfl hx hy (fun ρ o w ho h1 h2 => by unfold execOp; rw [ho]; simp [h1, h2, eqGuard, binOp, Op.intCmp]) next
theorem Go1.gtr (hd : dstOK dst C.nt = true) (hx : st.ev x = some (.v (.int k m))) (hy : st.ev y = some (.v (.int k n))) (next : Reg P C ops rest (st.app dst ⟨.v (.bool (decide (n < m))), []⟩) (([], []) :: acc) K) : Go1 P C ops dst (.binOp .gtr t x y t') ty rest st acc K :=
  Go1.val2 hd rfl hx hy (fun ρ o w ho h1 h2 => by unfold execOp; rw [ho]; simp [h1, h2, eqGuard, binOp, Op.intCmp]) next
theorem Go1.geq (hd : dstOK dst C.nt = true) (hx : st.ev x = some (.v (.int k m))) (hy : st.ev y = some (.v (.int k n))) (next : Reg P C ops rest (st.app dst ⟨.v (.bool (decide (n ≤ m))), []⟩) (([], []) :: acc) K) : Go1 P C ops dst (.binOp .geq t x y t') ty rest st acc K :=
  Go1.val2 hd rfl hx hy (fun ρ o w ho h1 h2 => by unfold execOp; rw [ho]; simp [h1, h2, eqGuard, binOp, Op.intCmp]) next
theorem Go1.eql (hd : dstOK dst C.nt = true) (hx : st.ev x = some (.v (.int k m))) (hy : st.ev y = some (.v (.int k n))) (next : Reg P C ops rest (st.app dst ⟨.v (.bool (decide (m = n))), []⟩) (([], []) :: acc) K) : Go1 P C ops dst (.binOp .eql t x y t') ty rest st acc K :=
  Go1.val2 hd rfl hx hy (fun ρ o w ho h1 h2 => by
    unfold execOp; rw [ho]; simp [h1, h2, eqGuard, binOp, Op.intCmp]
    by_cases e : m = n <;> simp [e]) next
theorem Go1.neq (hd : dstOK dst C.nt = true) (hx : st.ev x = some (.v (.int k m))) (hy : st.ev y = some (.v (.int k n))) (next : Reg P C ops rest (st.app dst ⟨.v (.bool (decide (m ≠ n))), []⟩) (([], []) :: acc) K) : Go1 P C ops dst (.binOp .neq t x y t') ty rest st acc K :=
  Go1.val2 hd rfl hx hy (fun ρ o w ho h1 h2 => by
    unfold execOp; rw [ho]; simp [h1, h2, eqGuard, binOp, Op.intCmp]
    by_cases e : m = n <;> simp [e]) next
class TBool (P : Program) (t : TypeId) : Prop where
  h : P.underlying t = some .bool
theorem Go1.eqlB {b c : Bool} [hb : TBool P t] (hd : dstOK dst C.nt = true) (hx : st.ev x = some (.v (.bool b))) (hy : st.ev y = some (.v (.bool c))) (next : Reg P C ops rest (st.app dst ⟨.v (.bool (b == c)), []⟩) (([], []) :: acc) K) : Go1 P C ops dst (.binOp .eql t x y t') ty rest st acc K :=
  Go1.val2 hd rfl hx hy (fun ρ o w ho h1 h2 => by
    unfold execOp; rw [ho]
    have := run_eql_bool (P := P) w t b c hb.h
    simp [h1, h2, eqGuard, this]) next
theorem Go1.neqB {b c : Bool} [hb : TBool P t] (hd : dstOK dst C.nt = true) (hx : st.ev x = some (.v (.bool b))) (hy : st.ev y = some (.v (.bool c))) (next : Reg P C ops rest (st.app dst ⟨.v (.bool (!(b == c))), []⟩) (([], []) :: acc) K) : Go1 P C ops dst (.binOp .neq t x y t') ty rest st acc K :=
  Go1.val2 hd rfl hx hy (fun ρ o w ho h1 h2 => by
    unfold execOp; rw [ho]
    have := run_neq_bool (P := P) w t b c hb.h
    simp [h1, h2, eqGuard, this]) next
theorem Go1.not {b : Bool} (hd : dstOK dst C.nt = true) (hx : st.ev x = some (.v (.bool b))) (next : Reg P C ops rest (st.app dst ⟨.v (.bool (!b)), []⟩) (([], []) :: acc) K) : Go1 P C ops dst (.unOp .not t x) ty rest st acc K :=
  Go1.val1 hd rfl hx (fun ρ o w ho h1 => by unfold execOp; rw [ho]; simp [h1, Op.unary]) next
theorem Go1.neg {z : Int} (hd : dstOK dst C.nt = true) (hx : st.ev x = some (.v (.int k m))) (hw : k.wrap (0 - m) = z) (next : Reg P C ops rest (st.app dst ⟨.v (.int k z), []⟩) (([], []) :: acc) K) : Go1 P C ops dst (.unOp .neg t x) ty rest st acc K :=
  Go1.val1 hd rfl hx (fun ρ o w ho h1 => by unfold execOp; rw [ho]; simp only [h1, Op.unary, Op.intArith, hw]; rfl) next
class TInt (P : Program) (t : TypeId) (k : outParam IntKind) : Prop where
  h : P.underlying t = some (.int k)
theorem Go1.conv {k' : IntKind} {z : Int} [h1 : TInt P t k] [h2 : TInt P t' k'] (hd : dstOK dst C.nt = true) (hx : st.ev x = some (.v (.int k m))) (hw : k'.wrap m = z) (next : Reg P C ops rest (st.app dst ⟨.v (.int k' z), []⟩) (([], []) :: acc) K) : Go1 P C ops dst (.convert t t' x) ty rest st acc K :=
  Go1.val1 hd rfl hx (fun ρ o w ho h => by
    unfold execOp; rw [ho]
    simp [h, convert, run_underlying h1.h, run_underlying h2.h, Conv.intToInt, hw]) next
theorem Go1.extract {l : List AV0} {i : Nat} {r : AV0} (hd : dstOK dst C.nt = true) (hx : st.ev x = some (.tup l)) (hi : l[i]? = some r) (next : Reg P C ops rest (st.app dst ⟨.it r, []⟩) (([], []) :: acc) K) : Go1 P C ops dst (.extract x i) ty rest st acc K :=
  Go1.pureV [] [] (by simp) hd (by simp) (fun o ho _ st' E S a w hev hs _ => by
    obtain ⟨⟨vs, hv, hall⟩, hids⟩ := hs.ev ((hev x (by simp [ho, Op.operands])).trans hx)
    obtain ⟨v, h1, h2⟩ := hall.get hi
    refine ⟨fun j hj => hids j (List.mem_flatMap.2 ⟨r, List.mem_of_getElem? hi, hj⟩), v, ?_, h2⟩
    unfold execOp; rw [ho]; simp [hv, Instr.extract, h1]) next
end
end SX
/- The rules of the symbolic run: memory of the call's own, calls, entry and return. No program in sight. -/
set_option linter.unusedVariables false
set_option linter.unusedSimpArgs false
namespace SX
open Go Go.RowKit

def aggD : TypeDesc → Bool
  | .struct _ | .array _ _ => true
  | _ => false
class TAgg (P : Program) (t : TypeId) (n : outParam Nat) : Prop where
  h : (P.underlying t).map aggD = some true
  s : (P.info? t).map (·.size) = some n
class TOne (P : Program) (t : TypeId) : Prop where
  h : (P.underlying t).map aggD = some false
  s : (P.info? t).map (·.size) = some 1
class TZero (P : Program) (t : TypeId) (cells : outParam (List Value)) : Prop where
  h : (P.info? t).map (fun i => i.zero.map (·.cells)) = some (some cells.toArray)
def fieldOf : TypeDesc → Nat → Option (Nat × TypeId)
  | .struct fs, i => (fs[i]?).map fun f => (f.offset, f.type)
  | _, _ => none
class TField (P : Program) (t : TypeId) (f : Nat) (off : outParam Nat) : Prop where
  h : ∃ ft, ((P.underlying t).bind (fieldOf · f) = some (off, ft)) ∧ ((P.info? ft).map (fun i => i.size == 0)) = some false
section
variable {P : Program}
theorem run_isAgg {t : TypeId} {b : Bool} (h : (P.underlying t).map aggD = some b) (w : World) : (isAgg t).run P w = .ok b w := by
  obtain ⟨d, hd, hb⟩ := Option.map_eq_some_iff.1 h
  unfold isAgg
  rw [Sem.run_bind, run_underlying hd w]
  cases d <;> simp_all [aggD]
theorem run_sizeOf {t : TypeId} {n : Nat} (h : (P.info? t).map (·.size) = some n) (w : World) : (Go.sizeOf t).run P w = .ok n w := by
  obtain ⟨i, hi, hn⟩ := Option.map_eq_some_iff.1 h
  simp [Go.sizeOf, typeInfo, hi, hn]
theorem run_zeroCells {t : TypeId} {cells : List Value} (h : (P.info? t).map (fun i => i.zero.map (·.cells)) = some (some cells.toArray)) (w : World) : ∃ z, (zeroValue t).run P w = .ok z w ∧ z.cells = cells.toArray := by
  obtain ⟨i, hi, hn⟩ := Option.map_eq_some_iff.1 h
  obtain ⟨z, hz, hc⟩ := Option.map_eq_some_iff.1 hn
  exact ⟨z, by simp [zeroValue, typeInfo, hi, hz], hc⟩
theorem cells_of_block {w : World} {g : Nat} {cs : List Value} {t : TypeId} (hg : w.heap[g]? = some (.cells cs.toArray t (0, 0))) (off : Nat) : ∀ j u, (cs.drop off)[j]? = some u → w.cell? ((⟨g, off, none⟩ : Addr).add j) = some u := by
  intro j u hj
  rw [Addr.add_lit, cell_of_row w g (off + j) cs.toArray t (0, 0) hg]
  rw [List.getElem?_drop] at hj
  simpa using hj
theorem run_load_agg {t T : TypeId} {n g off : Nat} {cs : List Value} (h : TAgg P t n) (w : World) (hg : w.heap[g]? = some (.cells cs.toArray T (0, 0))) (hl : off + n ≤ cs.length) :
    (loadVar t ⟨g, off, none⟩).run P w = .ok (.agg ((cs.drop off).take n).toArray) w := by
  have h1 := run_loadCells_list (P := P) w ⟨g, off, none⟩ ((cs.drop off).take n) (fun j u hj => cells_of_block hg off j u (by
    rw [List.getElem?_take] at hj; split at hj
    · exact hj
    · cases hj))
  rw [show ((cs.drop off).take n).length = n by simp; omega] at h1
  simp [loadVar, run_isAgg h.h, run_sizeOf h.s, h1]
theorem run_load_one {t T : TypeId} {g off : Nat} {cs : List Value} {u : Value} (h : TOne P t) (w : World) (hg : w.heap[g]? = some (.cells cs.toArray T (0, 0))) (hl : cs[off]? = some u) :
    (loadVar t ⟨g, off, none⟩).run P w = .ok u w := by
  have h1 : w.cell? ⟨g, off, none⟩ = some u := by rw [cell_of_row w g off cs.toArray T (0, 0) hg]; simpa using hl
  simp [loadVar, run_isAgg h.h, h1]

/-- A list with a part written over. -/
def spl {α : Type} : List α → Nat → List α → List α
  | cs, 0, [] => cs
  | _ :: cs, 0, x :: xs => x :: spl cs 0 xs
  | [], 0, _ :: _ => []
  | c :: cs, n + 1, l => c :: spl cs n l
  | [], _ + 1, _ => []
theorem spl_eq {α : Type} : ∀ (cs : List α) (off : Nat) (l : List α), off + l.length ≤ cs.length → spl cs off l = cs.take off ++ l ++ cs.drop (off + l.length)
  | cs, 0, [], _ => by cases cs <;> simp [spl]
  | c :: cs, 0, x :: xs, h => by
    have := spl_eq cs 0 xs (by simp at h ⊢; omega)
    simp at this
    simp [spl, this]
  | [], 0, _ :: _, h => by simp at h
  | c :: cs, n + 1, l, h => by
    have := spl_eq cs n l (by simp at h; omega)
    simp [spl, this, Nat.add_right_comm]
  | [], _ + 1, _, h => by simp at h
theorem All2.spl {α β : Type} {p : α → β → Prop} : ∀ {cs : List α} {vs : List β} (off : Nat) {l : List α} {us : List β}, All2 p cs vs → All2 p l us → All2 p (spl cs off l) (spl vs off us)
  | cs, vs, 0, [], [], h, _ => by cases cs <;> cases vs <;> simpa [SX.spl] using h
  | c :: cs, v :: vs, 0, x :: xs, u :: us, h, k => ⟨k.1, All2.spl 0 h.2 k.2⟩
  | [], [], 0, x :: xs, u :: us, _, _ => by simp [SX.spl, All2]
  | c :: cs, v :: vs, n + 1, l, us, h, k => ⟨h.1, All2.spl n h.2 k⟩
  | [], [], n + 1, l, us, _, _ => by simp [SX.spl, All2]
  | [], _ :: _, _, _, _, h, _ => h.elim
  | _ :: _, [], _, _, _, h, _ => h.elim
  | _, _, 0, [], _ :: _, _, k => k.elim
  | _, _, 0, _ :: _, [], _, k => k.elim
/-- Is it surely one cell? -/
def Atom.oneB : Atom → Bool
  | .c (.val v) => v.oneCell'
  | _ => true
theorem Atom.has.one {a : Atom} {E : Env} {S : Nat → Prop} {w : World} {v : Value} (h : a.has E S w v) (hb : a.oneB = true) : v.oneCell' = true := by
  cases a with
  | c a =>
    cases a with
    | val u => rw [show v = u from h]; exact hb
    | sat r => exact r.one h
  | ptr b off => rw [show v = _ from h]; rfl
  | own b => exact h.2
  | rptr b off => obtain ⟨g, n, cap, _, h⟩ := h; rw [h]; rfl
  | clo f cap => rw [show v = _ from h]; rfl
  | bnd f b => rw [show v = _ from h]; rfl
  | rel b R => exact h.2
theorem run_store {t T : TypeId} {n g off : Nat} {cs us : List Value} {v : Value} (hs : (P.info? t).map (·.size) = some n) (hv : v.cells = us.toArray) (hn : us.length = n) (w : World) (hg : w.heap[g]? = some (.cells cs.toArray T (0, 0))) (hl : off + n ≤ cs.length) (h1 : ∀ u ∈ us, u.oneCell' = true) :
    (storeVar t ⟨g, off, none⟩ v).run P w = .ok () (w.setRow g (spl cs off us).toArray) := by
  have hst := run_storeCells_at P g off T us 0 cs.toArray w hg (by simp; omega) h1
  rw [spl_eq cs off us (by omega)]
  simp only [Nat.add_zero] at hst
  simp [storeVar, run_sizeOf hs, hv, hn, hst]
/-- The cells of what stands for a value. -/
def AV0.cells : AV0 → List Atom
  | .one a => [a]
  | .agg l => l
theorem AV0.has.cells {x : AV0} {E : Env} {S : Nat → Prop} {w : World} {v : Value} (h : x.has E S w v) (h1 : x.cells.all Atom.oneB = true) : ∃ us, v.cells = us.toArray ∧ All2 (Atom.has E S w) x.cells us ∧ ∀ u ∈ us, u.oneCell' = true := by
  rw [List.all_eq_true] at h1
  have key : ∀ {l : List Atom} {us : List Value}, All2 (Atom.has E S w) l us → (∀ a ∈ l, a.oneB = true) → ∀ u ∈ us, u.oneCell' = true := by
    intro l us hall hb u hu
    obtain ⟨i, hi⟩ := List.mem_iff_getElem?.1 hu
    obtain ⟨a, ha, hau⟩ := hall.get' hi
    exact hau.one (hb a (List.mem_of_getElem? ha))
  cases x with
  | one a =>
    have ho := Atom.has.one h (h1 a (by simp [AV0.cells]))
    refine ⟨[v], ?_, ⟨h, trivial⟩, by simpa using ho⟩
    cases v <;> first | rfl | (simp [Value.oneCell'] at ho; done)
  | agg l =>
    obtain ⟨us, hv, hall⟩ := h
    exact ⟨us, by rw [hv]; rfl, hall, key hall h1⟩
theorem AV0.ids_cells (x : AV0) : x.cells.flatMap Atom.ids = x.ids := by cases x <;> simp [AV0.cells, AV0.ids]

/-- A new block of the call's own. -/
theorem Eff.alloc {E : Env} {S : Nat → Prop} {w : World} {b : Nat} {T : TypeId} {cells : List Atom} {cs : List Value} (hl : ∀ k, S k → k < w.heap.size) (hb : ∀ c ∈ cells, b ∉ c.ids) (hcs : All2 (Atom.has E S w) cells cs) :
    Eff E S w [] ⟨.ptr b 0, [(b, .ent (.box T cells))]⟩ (.pointer (some ⟨w.heap.size, 0, none⟩)) (w.alloc (.cells cs.toArray T)) ⟨upd E.blk b w.heap.size, E.sl, E.fp⟩ (fun k => S k ∨ k = w.heap.size) := by
  have hnew : ∀ i, i ≠ b → E.at' ⟨upd E.blk b w.heap.size, E.sl, E.fp⟩ i := fun i hi => ⟨upd_ne _ _ hi, rfl⟩
  refine
    { env := fun i hi => ?_, fpe := fun _ _ => rfl, sub := fun k hk => .inl hk, new := fun k hk => hk.imp id (fun e => by omega), lt := fun k hk => ?_, off := Off.alloc _ _ _, res := ?_,
      ents := fun i e hi => ?_, blk := fun i e k hi hk => ?_, sep := fun i i' e e' k hne h1 h2 => ?_ }
  · by_cases e : i = b
    · subst e; obtain ⟨e, he⟩ := hi ⟨_, by simp; rfl⟩; cases he
    · exact hnew i e
  · rw [World.size_alloc]
    rcases hk with hk | hk
    · have := hl k hk; omega
    · omega
  · show Value.pointer _ = Value.pointer _
    simp
  · simp at hi
    obtain ⟨rfl, rfl⟩ := hi
    exact ⟨cs, by show (w.alloc _).heap[upd E.blk i w.heap.size i]? = _; rw [upd_same]; exact heap_alloc_new w _, hcs.mono fun a v ha hav => hav.step (fun j hj => hnew j (fun e => hb a ha (e ▸ hj))) (Off.alloc _ _ _) (fun k hk => hk.imp id (fun e => by omega))⟩
  · simp at hi
    obtain ⟨rfl, rfl⟩ := hi
    simp [Ent.at] at hk
    subst hk
    exact ⟨.inr rfl, .inr (Nat.le_refl _)⟩
  · simp at h1 h2
    exact absurd (h1.1.trans h2.1.symm) hne
/-- A store into a variable of the call's own. -/
theorem Eff.store {E : Env} {S : Nat → Prop} {w : World} {b : Nat} {T : TypeId} {cells cells' : List Atom} {cs cs' : List Value} {r : AV} {v : Value} (hl : ∀ k, S k → k < w.heap.size) (hS : S (E.blk b)) (hg : w.heap[E.blk b]? = some (.cells cs.toArray T (0, 0))) (hr : r.has E S w v)
    (hcs : All2 (Atom.has E S w) cells' cs') : Eff E S w [(b, .box T cells)] ⟨r, [(b, .ent (.box T cells'))]⟩ v (w.setRow (E.blk b) cs'.toArray) E S := by
  have ho : Off S w (w.setRow (E.blk b) cs'.toArray) := Off.setRow w _ _ hS
  refine
    { env := fun i hi => ⟨rfl, rfl⟩, fpe := fun _ _ => rfl, sub := fun k hk => hk, new := fun k hk => .inl hk, lt := fun k hk => by rw [size_setRow]; exact hl k hk, off := Off.setRow w _ _ ⟨b, Ent.box T cells, by simp, rfl⟩, res := hr.step (fun _ _ => ⟨rfl, rfl⟩) ho (fun k hk => .inl hk),
      ents := fun i e hi => ?_, blk := fun i e k hi hk => ?_, sep := fun i i' e e' k hne h1 h2 => ?_ }
  · simp at hi
    obtain ⟨rfl, rfl⟩ := hi
    exact ⟨cs', setRow_heap w _ _ _ T _ hg, hcs.mono fun a v ha hav => hav.step (fun _ _ => ⟨rfl, rfl⟩) ho (fun k hk => .inl hk)⟩
  · simp at hi
    obtain ⟨rfl, rfl⟩ := hi
    simp [Ent.at] at hk
    subst hk
    exact ⟨hS, .inl ⟨_, Ent.box T cells, by simp, rfl⟩⟩
  · simp at h1 h2
    exact absurd (h1.1.trans h2.1.symm) hne
end

section
variable {P : Program} {C : Ctx} {st : St}
variable {ops rest : List Oper} {acc : List (List Nat × List Nat)} {K : List (List Nat × List Nat) → St → Prop} {d : Tmp} {op : Op} {ty t : TypeId} {x y : Operand}
/-- A variable of the call's own is made. -/
theorem OpOK.alloc {o : Oper} {d : Tmp} {cells : List Atom} (hdst : o.dst = some d) (hd : dstOK (some d) C.nt = true) (hf : st.hp d = .free)
    (h : ∀ st' E S a w, (∀ x ∈ o.op.operands, st'.ev x = st.ev x) → SatE C st' E S a w →
      (∀ i ∈ cells.flatMap Atom.ids, (st'.hp i).used = true) ∧ ∃ cs, (execOp a.eval o).run P w = .ok (.value (.pointer (some ⟨w.heap.size, 0, none⟩))) (w.alloc (.cells cs t)) ∧ All2 (Atom.has E S w) cells cs.toList) :
    OpOK P C o st [d] ⟨.ptr d 0, [(d, .ent (.box t cells))]⟩ := by
  refine OpOK.eff [] [] (fun b hb => ?_) (hdst ▸ dstOK_spec hd) (fun b e hb => by cases hb) (fun b e hb => by cases hb) (fun b s hb => ?_) (fun b s hb => ?_) (fun st' E S a w hev hhp hs _ _ => ?_)
  · rcases hb with ⟨e, hb⟩ | ⟨e, hb⟩ | ⟨s, hb⟩
    · cases hb
    · cases hb
    · simp at hb; simp [hb.1]
  · simp at hb; rw [hb.1]; exact .inr hf
  · simp at hb; rw [hb.2]; rfl
  · obtain ⟨hid, cs, hr, hall⟩ := h st' E S a w hev hs
    have hfree : st'.hp d = .free := (hhp d (by simp)).trans hf
    refine ⟨⟨fun i hi => ?_, fun b e hb i hi => ?_⟩, fun K Q hK => ?_⟩
    · simp [AV.ids, AV0.ids, Atom.ids] at hi; subst hi; simp [updL, Slot.used]
    · simp at hb
      obtain ⟨rfl, rfl⟩ := hb
      by_cases e : i = b
      · subst e; simp [updL, Slot.used]
      · simp only [updL]; rw [upd_ne _ _ e]; exact hid i hi
    · have hE := Eff.alloc (E := E) (S := S) (w := w) (b := d) (T := t) (cells := cells) (cs := cs.toList) hs.lt (fun c hc1 hc2 => by
        have := hid d (List.mem_flatMap.2 ⟨c, hc1, hc2⟩)
        rw [hfree] at this; cases this) hall
      unfold Oper.wp
      rw [hr]
      exact hK _ _ _ _ hE
theorem Go1.box {v : AV0} (hd : dstOK (some d) C.nt = true) (hx : st.ev x = some (.it v)) (hf : st.hp d = .free) (h1 : v.cells.all Atom.oneB = true)
    (next : Reg P C ops rest (st.app (some d) ⟨.ptr d 0, [(d, .ent (.box t v.cells))]⟩) (([d], [d]) :: acc) K) : Go1 P C ops (some d) (.box t x) ty rest st acc K :=
  ⟨[d], ⟨.ptr d 0, [(d, .ent (.box t v.cells))]⟩, fun o h2 h3 h4 => OpOK.alloc h2 hd hf (fun st' E S a w hev hs => by
    obtain ⟨hv, hids⟩ := hs.ev ((hev x (by simp [h3, Op.operands])).trans hx)
    obtain ⟨us, hc, hall, hone⟩ := AV0.has.cells hv h1
    refine ⟨fun i hi => hids i (by rw [AV0.ids_cells] at hi; exact hi), us.toArray, ?_, by simpa using hall⟩
    unfold execOp; rw [h3]; simp [Instr.box, newVar, newRow, hc]), next⟩
theorem all2_vals {E : Env} {S : Nat → Prop} {w : World} : ∀ l : List Value, All2 (Atom.has E S w) (l.map fun v => Atom.c (.val v)) l
  | [] => trivial
  | _ :: l => ⟨rfl, all2_vals l⟩
theorem Go1.alloc {cells : List Value} [hz : TZero P t cells] (hd : dstOK (some d) C.nt = true) (hf : st.hp d = .free)
    (next : Reg P C ops rest (st.app (some d) ⟨.ptr d 0, [(d, .ent (.box t (cells.map fun v => Atom.c (.val v))))]⟩) (([d], [d]) :: acc) K) : Go1 P C ops (some d) (.alloc t) ty rest st acc K :=
  ⟨[d], ⟨.ptr d 0, [(d, .ent (.box t (cells.map fun v => Atom.c (.val v))))]⟩, fun o h2 h3 h4 => OpOK.alloc h2 hd hf (fun st' E S a w hev hs => by
    obtain ⟨z, hz1, hz2⟩ := run_zeroCells hz.h w
    refine ⟨fun i hi => ?_, cells.toArray, ?_, by simpa using all2_vals cells⟩
    · obtain ⟨c, hc, hi⟩ := List.mem_flatMap.1 hi
      obtain ⟨v, _, rfl⟩ := List.mem_map.1 hc
      cases hi
    · unfold execOp; rw [h3]; simp [Instr.alloc, newVar, newRow, hz1, hz2]), next⟩
/-- A variable of the call's own is read: a struct, of one cell, of two, three, or more. -/
theorem Go1.loadAgg {b off n : Nat} {T : TypeId} {cells l : List Atom} [ht : TAgg P t n] (hd : dstOK (some d) C.nt = true) (hx : st.ev x = some (.ptr b off)) (hb : st.hp b = .ent (.box T cells)) (hl : Nat.ble (off + n) cells.length = true) (hr : (cells.drop off).take n = l)
    (next : Reg P C ops rest (st.app (some d) ⟨.agg l, []⟩) (([b], []) :: acc) K) : Go1 P C ops (some d) (.load t x) ty rest st acc K :=
  Go1.pureV [(b, .box T cells)] [b] (by simp) hd (by simpa using hb) (fun o ho _ st' E S a w hev hs hrd => by
    obtain ⟨hv, _⟩ := hs.ev ((hev x (by simp [ho, Op.operands])).trans hx)
    have hb' := hrd b (.box T cells) (by simp)
    obtain ⟨cs, hg, hall⟩ := hs.hp b _ hb'
    have hlen := hall.length
    rw [Nat.ble_eq] at hl
    have hrun := run_load_agg (P := P) (n := n) (off := off) ht w hg (by omega)
    refine ⟨fun i hi => ?_, .agg ((cs.drop off).take n).toArray, ?_, ?_⟩
    · have : i ∈ (Ent.box T cells).ids := by
        simp only [AV.ids, AV0.ids, List.mem_flatMap] at hi
        obtain ⟨c, hc, hi⟩ := hi
        subst hr
        exact List.mem_flatMap.2 ⟨c, List.mem_of_mem_drop (List.mem_of_mem_take hc), hi⟩
      exact hs.hid b _ hb' i this
    · unfold execOp; rw [ho]; simp [show a.eval x = _ from hv, Instr.loadAt, Instr.sureAddr, hrun]
    · subst hr
      exact ⟨_, rfl, (hall.drop off).take n⟩) next
theorem Go1.load2 {b off : Nat} {T : TypeId} {cells : List Atom} {a1 a2 : Atom} [ht : TAgg P t 2] (hd : dstOK (some d) C.nt = true) (hx : st.ev x = some (.ptr b off)) (hb : st.hp b = .ent (.box T cells)) (hr : (cells.drop off).take 2 = [a1, a2])
    (next : Reg P C ops rest (st.app (some d) ⟨.agg [a1, a2], []⟩) (([b], []) :: acc) K) : Go1 P C ops (some d) (.load t x) ty rest st acc K :=
  Go1.loadAgg hd hx hb (by have := congrArg List.length hr; simp at this; rw [Nat.ble_eq]; omega) hr next
theorem Go1.load3 {b off : Nat} {T : TypeId} {cells : List Atom} {a1 a2 a3 : Atom} [ht : TAgg P t 3] (hd : dstOK (some d) C.nt = true) (hx : st.ev x = some (.ptr b off)) (hb : st.hp b = .ent (.box T cells)) (hr : (cells.drop off).take 3 = [a1, a2, a3])
    (next : Reg P C ops rest (st.app (some d) ⟨.agg [a1, a2, a3], []⟩) (([b], []) :: acc) K) : Go1 P C ops (some d) (.load t x) ty rest st acc K :=
  Go1.loadAgg hd hx hb (by have := congrArg List.length hr; simp at this; rw [Nat.ble_eq]; omega) hr next
theorem Go1.load4 {b off : Nat} {T : TypeId} {cells : List Atom} {a1 a2 a3 a4 : Atom} [ht : TAgg P t 4] (hd : dstOK (some d) C.nt = true) (hx : st.ev x = some (.ptr b off)) (hb : st.hp b = .ent (.box T cells)) (hr : (cells.drop off).take 4 = [a1, a2, a3, a4])
    (next : Reg P C ops rest (st.app (some d) ⟨.agg [a1, a2, a3, a4], []⟩) (([b], []) :: acc) K) : Go1 P C ops (some d) (.load t x) ty rest st acc K :=
  Go1.loadAgg hd hx hb (by have := congrArg List.length hr; simp at this; rw [Nat.ble_eq]; omega) hr next
theorem Go1.load1 {b off : Nat} {T : TypeId} {cells : List Atom} {c : Atom} [ht : TOne P t] (hd : dstOK (some d) C.nt = true) (hx : st.ev x = some (.ptr b off)) (hb : st.hp b = .ent (.box T cells)) (hr : cells[off]? = some c)
    (next : Reg P C ops rest (st.app (some d) ⟨.it (.one c), []⟩) (([b], []) :: acc) K) : Go1 P C ops (some d) (.load t x) ty rest st acc K :=
  Go1.pureV [(b, .box T cells)] [b] (by simp) hd (by simpa using hb) (fun o ho _ st' E S a w hev hs hrd => by
    obtain ⟨hv, _⟩ := hs.ev ((hev x (by simp [ho, Op.operands])).trans hx)
    have hb' := hrd b (.box T cells) (by simp)
    obtain ⟨cs, hg, hall⟩ := hs.hp b _ hb'
    obtain ⟨u, hu, hcu⟩ := hall.get hr
    refine ⟨fun i hi => hs.hid b _ hb' i (List.mem_flatMap.2 ⟨c, List.mem_of_getElem? hr, hi⟩), u, ?_, hcu⟩
    unfold execOp; rw [ho]; simp [show a.eval x = _ from hv, Instr.loadAt, Instr.sureAddr, run_load_one ht w hg hu]) next
/-- A variable of the call's own is written. -/
theorem Go1.store {b off n : Nat} {T : TypeId} {cells cells' : List Atom} {v : AV0} (hs : (P.info? t).map (·.size) = some n) (hx : st.ev x = some (.ptr b off)) (hy : st.ev y = some (.it v)) (hb : st.hp b = .ent (.box T cells)) (hn : v.cells.length = n) (hl : Nat.ble (off + n) cells.length = true) (h1 : v.cells.all Atom.oneB = true) (hr : spl cells off v.cells = cells')
    (next : Reg P C ops rest (st.app none ⟨.v undef, [(b, .ent (.box T cells'))]⟩) (([b], [b]) :: acc) K) : Go1 P C ops none (.store t x y) ty rest st acc K := by
  refine ⟨[b], ⟨.v undef, [(b, .ent (.box T cells'))]⟩, fun o h2 h3 h4 => OpOK.eff [] [(b, .box T cells)] (fun i hi => ?_) (h2 ▸ (fun x hx => by cases hx)) (fun b e hb => by cases hb) (fun i e hi => ?_) (fun i s hi => ?_) (fun i s hi => ?_) (fun st' E S a w hev hhp hse _ hpre => ?_), next⟩
  · rcases hi with ⟨e, hi⟩ | ⟨e, hi⟩ | ⟨s, hi⟩
    · cases hi
    · simp at hi; simp [hi.1]
    · simp at hi; simp [hi.1]
  · simp at hi
    obtain ⟨rfl, rfl⟩ := hi
    exact ⟨hb, _, by simp; rfl⟩
  · simp at hi; obtain ⟨rfl, _⟩ := hi; exact .inl ⟨Ent.box T cells, by simp⟩
  · simp at hi; rw [hi.2]; rfl
  · obtain ⟨hv, _⟩ := hse.ev ((hev x (by simp [h3, Op.operands])).trans hx)
    obtain ⟨hu, hids⟩ := hse.ev ((hev y (by simp [h3, Op.operands])).trans hy)
    have hb' := hpre b (.box T cells) (by simp)
    obtain ⟨cs, hg, hall⟩ := hse.hp b _ hb'
    obtain ⟨us, hc, hallu, hone⟩ := AV0.has.cells hu h1
    have hlen := hall.length
    have hlu := hallu.length
    rw [Nat.ble_eq] at hl
    have hrun := run_store (P := P) (off := off) (n := n) hs hc (by omega) w hg (by omega) hone
    have hall' := All2.spl off hall hallu
    rw [hr] at hall'
    have hE := Eff.store (E := E) (S := S) (w := w) (b := b) (T := T) (cells := cells) (cells' := cells') (cs := cs) (cs' := spl cs off us) (r := .v undef) (v := undef) hse.lt (hse.blk b _ _ hb' rfl).1 hg rfl hall'
    refine ⟨⟨fun i hi => (by cases hi), fun i e hi j hj => ?_⟩, fun K Q hK => ?_⟩
    · simp at hi
      obtain ⟨rfl, rfl⟩ := hi
      have hj' : j ∈ (cells.flatMap Atom.ids) ∨ j ∈ v.cells.flatMap Atom.ids := by
        subst hr
        obtain ⟨c, hc1, hc2⟩ := List.mem_flatMap.1 hj
        rw [spl_eq _ _ _ (by omega)] at hc1
        simp only [List.mem_append] at hc1
        rcases hc1 with (hc1 | hc1) | hc1
        · exact .inl (List.mem_flatMap.2 ⟨c, List.mem_of_mem_take hc1, hc2⟩)
        · exact .inr (List.mem_flatMap.2 ⟨c, hc1, hc2⟩)
        · exact .inl (List.mem_flatMap.2 ⟨c, List.mem_of_mem_drop hc1, hc2⟩)
      by_cases e : j = i
      · subst e; simp [updL, Slot.used]
      · simp only [updL]; rw [upd_ne _ _ e]
        rcases hj' with h5 | h5
        · exact hse.hid i _ hb' j h5
        · exact hids j (by rw [AV0.ids_cells] at h5; exact h5)
    · unfold Oper.wp execOp
      rw [h3]
      simp only [show a.eval x = _ from hv, Instr.storeAt, Instr.sureAddr, Sem.run_bind, Sem.run_pure, Result.andThen_ok, hrun]
      have := hK undef _ _ _ hE
      exact this
theorem Go1.fieldAddr {b off f o1 : Nat} [ht : TField P t f o1] (hd : dstOK (some d) C.nt = true) (hx : st.ev x = some (.ptr b off))
    (next : Reg P C ops rest (st.app (some d) ⟨.ptr b (off + o1), []⟩) (([], []) :: acc) K) : Go1 P C ops (some d) (.fieldAddr t x f) ty rest st acc K :=
  Go1.pureV [] [] (by simp) hd (by simp) (fun o ho _ st' E S a w hev hs hrd => by
    obtain ⟨hv, hids⟩ := hs.ev ((hev x (by simp [ho, Op.operands])).trans hx)
    obtain ⟨ft, h1, h2⟩ := ht.h
    obtain ⟨dd, hd1, hd2⟩ := Option.bind_eq_some_iff.1 h1
    obtain ⟨i, hi, hz⟩ := Option.map_eq_some_iff.1 h2
    refine ⟨fun i hi => hids i hi, .pointer (some ⟨E.blk b, off + o1, none⟩), ?_, rfl⟩
    cases dd <;> simp [fieldOf] at hd2
    rename_i fs
    obtain ⟨fd, hfd, he1, he2⟩ := hd2
    subst he1 he2
    unfold execOp; rw [ho]
    have hsz : (Go.sizeOf fd.type).run P w = .ok i.size w := by simp [Go.sizeOf, typeInfo, hi]
    simp [show a.eval x = _ from hv, Instr.fieldAt, Instr.sureAddr, run_underlying hd1, hfd, fieldPlace, hsz]
    simp at hz
    simp [hz, Addr.add_lit]) next
end
end SX
/- The rules of the symbolic run: calls, entry and return. No program in sight. -/
set_option linter.unusedVariables false
set_option linter.unusedSimpArgs false
namespace SX
open Go Go.RowKit

/-- What a call does: of these arguments, with these blocks of its caller's own before it. -/
def CallOK (P : Program) (f : FuncId) (args : List AV) (pre : List (Nat × Ent)) (out : Out) : Prop :=
  (∃ fn, P.funcs[f]? = some fn ∧ (fn.name == "runtime.NumGoroutine") = false ∧ fn.body.isNone = false) ∧
  ∀ (E : Env) (S : Nat → Prop) (w : World) (vs : List Value), (∀ k, S k → k < w.heap.size) → GlobOK S w → All2 (AV.has E S w) args vs →
    (∀ b e, (b, e) ∈ pre → e.has E S w b) → (∀ b e k, (b, e) ∈ pre → e.at E b k → S k) → (∀ b b' e e' k, b ≠ b' → (b, e) ∈ pre → (b', e') ∈ pre → e.at E b k → ¬ e'.at E b' k) →
    Calls P f vs.toArray w fun e w' => ∃ v E' S', e = .returned v ∧ Eff E S w pre out v w' E' S'
/-- A call that only makes memory. -/
abbrev PureOK (P : Program) (f : FuncId) (args : List AV) (r : AV) : Prop := CallOK P f args [] ⟨r, []⟩
def evs (st : St) : List Operand → Option (List AV)
  | [] => some []
  | x :: xs => match st.ev x, evs st xs with
    | some v, some vs => some (v :: vs)
    | _, _ => none
section
variable {P : Program} {C : Ctx} {st : St}
theorem evs_has {E : Env} {S : Nat → Prop} {a : Act} {w : World} (h : SatE C st E S a w) : ∀ {xs : List Operand} {l : List AV}, evs st xs = some l → All2 (AV.has E S w) l (xs.map a.eval) ∧ ∀ v ∈ l, ∀ b ∈ v.ids, (st.hp b).used = true
  | [], l, hl => by simp [evs] at hl; subst hl; exact ⟨trivial, by simp⟩
  | x :: xs, l, hl => by
    unfold evs at hl
    cases hx : st.ev x with
    | none => simp [hx] at hl
    | some v =>
      cases hxs : evs st xs with
      | none => simp [hx, hxs] at hl
      | some vs =>
        simp [hx, hxs] at hl
        subst hl
        obtain ⟨h1, h2⟩ := h.ev hx
        obtain ⟨h3, h4⟩ := evs_has h hxs
        exact ⟨⟨h1, h3⟩, fun u hu => by
          rcases List.mem_cons.1 hu with rfl | hu
          · exact h2
          · exact h4 u hu⟩
theorem evs_congr {st st' : St} : ∀ {xs : List Operand}, (∀ x ∈ xs, st'.ev x = st.ev x) → evs st' xs = evs st xs
  | [], _ => rfl
  | x :: xs, h => by unfold evs; rw [h x (by simp), evs_congr (fun y hy => h y (by simp [hy]))]
theorem run_enter {o : Oper} {f : FuncId} {as : Array Operand} {tys : Array TypeId} {cap : Array Value} {fx : Operand} {ρ : Operand → Value} (ho : o.op = .call ⟨.value fx, as, tys⟩) (hf : ρ fx = .func (.func f) #[] cap)
    (he : ∃ fn, P.funcs[f]? = some fn ∧ (fn.name == "runtime.NumGoroutine") = false ∧ fn.body.isNone = false) (w : World) : (execOp ρ o).run P w = .ok (.enter f (as.map ρ ++ cap)) w := by
  obtain ⟨fn, h1, h2, h3⟩ := he
  unfold execOp
  rw [ho]
  have h2' : fn.name ≠ "runtime.NumGoroutine" := by simpa using h2
  have h3' : fn.body ≠ none := by intro e; rw [e] at h3; cases h3
  simp [resolve, hf, Deferred.ofValue, invoke, callFunc, h1, h2', h3']
variable {ops rest : List Oper} {acc : List (List Nat × List Nat)} {K : List (List Nat × List Nat) → St → Prop} {dst : Option Tmp} {op : Op} {ty : TypeId}
theorem Go1.callG {fx : Operand} {f : FuncId} {cap : List (Nat × Nat)} {as : Array Operand} {tys : Array TypeId} {args : List AV} {pre : List (Nat × Ent)} {out : Out} {fp : List Nat} (hd : dstOK dst C.nt = true) (hf : st.ev fx = some (.it (.one (.clo f cap)))) (ha : evs st as.toList = some args)
    (hc : CallOK P f (args ++ cap.map fun p => .ptr p.1 p.2) pre out) (hpre : ∀ b e, (b, e) ∈ pre → st.hp b = .ent e ∧ ∃ s, (b, s) ∈ out.hp) (hnew : ∀ b s, (b, s) ∈ out.hp → (∃ e, (b, e) ∈ pre) ∨ st.hp b = .free) (hkeep : ∀ b s, (b, s) ∈ out.hp → s.used = true)
    (hfp : ∀ b s, (b, s) ∈ out.hp → b ∈ fp)
    (hid : ∀ i, (i ∈ out.res.ids ∨ ∃ b e, (b, Slot.ent e) ∈ out.hp ∧ i ∈ e.ids) → (∃ s, (i, s) ∈ out.hp) ∨ (∃ v ∈ args, i ∈ v.ids) ∨ (∃ b e, (b, e) ∈ pre ∧ i ∈ e.ids))
    (next : Reg P C ops rest (st.app dst out) ((fp, out.hp.map (·.1)) :: acc) K) : Go1 P C ops dst (.call ⟨.value fx, as, tys⟩) ty rest st acc K := by
  refine ⟨fp, out, fun o h2 h3 h4 => OpOK.eff [] pre (fun b hb => ?_) (h2 ▸ dstOK_spec hd) (fun b e hb => by cases hb) hpre hnew hkeep (fun st' E S a w hev hhp hs _ hpre' => ?_), next⟩
  · rcases hb with ⟨e, hb⟩ | ⟨e, hb⟩ | ⟨s, hb⟩
    · cases hb
    · obtain ⟨_, s, hs⟩ := hpre b e hb; exact hfp b s hs
    · exact hfp b s hb
  · have hop : o.op.operands = #[fx] ++ as := by rw [h3]; rfl
    have ha' : evs st' as.toList = some args := by rw [evs_congr (fun x hx => hev x (by rw [hop]; simp at hx; simp [hx]))]; exact ha
    obtain ⟨hall, hids⟩ := evs_has hs ha'
    have hcl := hs.ev ((hev fx (by rw [hop]; simp)).trans hf)
    obtain ⟨hent, hcall⟩ := hc
    refine ⟨⟨fun i hi => ?_, fun b e hb i hi => ?_⟩, fun K Q hK => ?_⟩
    · have key : ∀ i, ((∃ s, (i, s) ∈ out.hp) ∨ (∃ v ∈ args, i ∈ v.ids) ∨ (∃ b e, (b, e) ∈ pre ∧ i ∈ e.ids)) → (updL st'.hp out.hp i).used = true := by
        intro i hi
        rcases updL_cases i out.hp st'.hp with ⟨s, g1, g2⟩ | ⟨g1, g2⟩
        · rw [g2]; exact hkeep i s g1
        · rw [g2]
          rcases hi with ⟨s, hi⟩ | ⟨v, hv, hi⟩ | ⟨b, e, hb, hi⟩
          · exact absurd hi (g1 s)
          · exact hids v hv i hi
          · exact hs.hid b e (hpre' b e hb) i hi
      exact key i (hid i (.inl hi))
    · have key : ∀ i, ((∃ s, (i, s) ∈ out.hp) ∨ (∃ v ∈ args, i ∈ v.ids) ∨ (∃ b e, (b, e) ∈ pre ∧ i ∈ e.ids)) → (updL st'.hp out.hp i).used = true := by
        intro i hi
        rcases updL_cases i out.hp st'.hp with ⟨s, g1, g2⟩ | ⟨g1, g2⟩
        · rw [g2]; exact hkeep i s g1
        · rw [g2]
          rcases hi with ⟨s, hi⟩ | ⟨v, hv, hi⟩ | ⟨b, e, hb, hi⟩
          · exact absurd hi (g1 s)
          · exact hids v hv i hi
          · exact hs.hid b e (hpre' b e hb) i hi
      exact key i (hid i (.inr ⟨b, e, hb, hi⟩))
    · have hcap : All2 (AV.has E S w) (cap.map fun p => AV.ptr p.1 p.2) (cap.map fun p => Value.pointer (some ⟨E.blk p.1, p.2, none⟩)) := by
        clear hcl hf hcall
        induction cap with
        | nil => trivial
        | cons p l ih => exact ⟨rfl, ih⟩
      have hcalls := hcall E S w (as.toList.map a.eval ++ cap.map fun p => Value.pointer (some ⟨E.blk p.1, p.2, none⟩)) hs.lt hs.gl (hall.append hcap) (fun b e hb => hs.hp b e (hpre' b e hb)) (fun b e k hb hk => (hs.blk b e k (hpre' b e hb) hk).1)
        (fun b b' e e' k hne hb hb' => hs.sep b b' e e' k hne (hpre' b e hb) (hpre' b' e' hb'))
      unfold Oper.wp
      rw [run_enter h3 hcl.1 hent w]
      have harr : as.map a.eval ++ (cap.map fun p => Value.pointer (some ⟨E.blk p.1, p.2, none⟩)).toArray = (as.toList.map a.eval ++ cap.map fun p => Value.pointer (some ⟨E.blk p.1, p.2, none⟩)).toArray := by
        apply Array.ext'; simp
      show Calls P f _ w _
      rw [harr]
      exact hcalls.mono fun e w' ⟨v, E', S', he, hE⟩ => by subst he; exact hK v w' E' S' hE
/-- A call by name that only makes memory, and answers what hangs on no variable of the caller's own. -/
theorem Go1.call {f : FuncId} {as : Array Operand} {tys : Array TypeId} {args : List AV} {r : AV} (ha : evs st as.toList = some args) (hc : PureOK P f args r) (hd : dstOK dst C.nt = true) (hid : r.ids = [])
    (next : Reg P C ops rest (st.app dst ⟨r, []⟩) (([], []) :: acc) K) : Go1 P C ops dst (.call ⟨.value (.func f), as, tys⟩) ty rest st acc K :=
  Go1.callG (cap := []) (pre := []) (out := ⟨r, []⟩) (fp := []) hd rfl ha (by simpa using hc) (fun b e hb => by cases hb) (fun b e hb => by cases hb) (fun b e hb => by cases hb) (fun b e hb => by cases hb)
    (fun i hi => by
      rcases hi with hi | ⟨b, e, hb, _⟩
      · rw [hid] at hi; cases hi
      · cases hb) next

/-- One result. -/
def resRun (rv : ResultVar) (tmps : Array Value) : Sem Value :=
  match rv with
  | .tmp t => pure (tmps.getD t undef)
  | .cell a t => do loadVar t (← asAddr (tmps.getD a undef))
def ResOK (P : Program) (st : St) (rv : ResultVar) (x : AV0) : Prop :=
  ∀ C E S a w, SatE C st E S a w → ∃ v, (resRun rv a.tmps).run P w = .ok v w ∧ x.has E S w v
def resAV : List AV0 → AV
  | [x] => .it x
  | xs => .tup xs
theorem ResOK.tmp {t : Tmp} {x : AV0} (h : st.tm t = some (.it x)) : ResOK P st (.tmp t) x := fun C E S a w hs => ⟨_, rfl, hs.tm t _ h⟩
theorem ResOK.agg {t : Tmp} {T T' : TypeId} {n b off : Nat} {cells l : List Atom} [ht : TAgg P T n] (h : st.tm t = some (.ptr b off)) (hb : st.hp b = .ent (.box T' cells)) (hl : Nat.ble (off + n) cells.length = true) (hr : (cells.drop off).take n = l) : ResOK P st (.cell t T) (.agg l) := fun C E S a w hs => by
  have hv : a.tmps.getD t undef = _ := hs.tm t _ h
  obtain ⟨cs, hg, hall⟩ := hs.hp b _ hb
  have hlen := hall.length
  rw [Nat.ble_eq] at hl
  have hrun := run_load_agg (P := P) (n := n) (off := off) ht w hg (by omega)
  refine ⟨.agg ((cs.drop off).take n).toArray, ?_, ?_⟩
  · simp only [resRun, hv, asAddr, pure_bind, hrun]
  · subst hr; exact ⟨_, rfl, (hall.drop off).take n⟩
theorem ResOK.agg2 {t : Tmp} {T T' : TypeId} {b off : Nat} {cells : List Atom} {a1 a2 : Atom} [ht : TAgg P T 2] (h : st.tm t = some (.ptr b off)) (hb : st.hp b = .ent (.box T' cells)) (hr : (cells.drop off).take 2 = [a1, a2]) : ResOK P st (.cell t T) (.agg [a1, a2]) :=
  ResOK.agg h hb (by have := congrArg List.length hr; simp at this; rw [Nat.ble_eq]; omega) hr
theorem ResOK.agg3 {t : Tmp} {T T' : TypeId} {b off : Nat} {cells : List Atom} {a1 a2 a3 : Atom} [ht : TAgg P T 3] (h : st.tm t = some (.ptr b off)) (hb : st.hp b = .ent (.box T' cells)) (hr : (cells.drop off).take 3 = [a1, a2, a3]) : ResOK P st (.cell t T) (.agg [a1, a2, a3]) :=
  ResOK.agg h hb (by have := congrArg List.length hr; simp at this; rw [Nat.ble_eq]; omega) hr
theorem ResOK.agg4 {t : Tmp} {T T' : TypeId} {b off : Nat} {cells : List Atom} {a1 a2 a3 a4 : Atom} [ht : TAgg P T 4] (h : st.tm t = some (.ptr b off)) (hb : st.hp b = .ent (.box T' cells)) (hr : (cells.drop off).take 4 = [a1, a2, a3, a4]) : ResOK P st (.cell t T) (.agg [a1, a2, a3, a4]) :=
  ResOK.agg h hb (by have := congrArg List.length hr; simp at this; rw [Nat.ble_eq]; omega) hr
theorem run_results {fn : Func} {st : St} {xs : List AV0} (h : All2 (ResOK P st) fn.results.toList xs) {C : Ctx} {E : Env} {S : Nat → Prop} {a : Act} {w : World} (hs : SatE C st E S a w) :
    ∃ v, (results fn a.tmps).run P w = .ok v w ∧ (resAV xs).has E S w v := by
  have key : ∀ {rs : List ResultVar} {xs : List AV0}, All2 (ResOK P st) rs xs → ∃ vs : List Value, (rs.mapM fun r => resRun r a.tmps).run P w = .ok vs w ∧ All2 (AV0.has E S w) xs vs := by
    intro rs
    induction rs with
    | nil => intro xs h; cases xs with
      | nil => exact ⟨[], rfl, trivial⟩
      | cons x xs => exact h.elim
    | cons r rs ih =>
      intro xs h
      cases xs with
      | nil => exact h.elim
      | cons x xs =>
        obtain ⟨v, h1, h2⟩ := h.1 C E S a w hs
        obtain ⟨vs, h3, h4⟩ := ih h.2
        exact ⟨v :: vs, by simp [List.mapM_cons, h1, h3], h2, h4⟩
  obtain ⟨vs, h1, h2⟩ := key h
  have hr : (fn.results.mapM fun r => resRun r a.tmps).run P w = .ok vs.toArray w := by
    have : fn.results = fn.results.toList.toArray := by simp
    rw [this, List.mapM_toArray, Sem.run_map, h1]
    rfl
  have hrr : (results fn a.tmps).run P w = .ok (if h : vs.toArray.size = 1 then vs.toArray[0] else .tuple vs.toArray) w := by
    unfold results
    show ((fn.results.mapM fun r => resRun r a.tmps) >>= _).run P w = _
    rw [Sem.run_bind, hr]; rfl
  refine ⟨_, hrr, ?_⟩
  match xs, vs, h2 with
  | [], [], _ => exact ⟨[], rfl, trivial⟩
  | [x], [v], h => exact h.1
  | x :: y :: xs, v :: u :: vs, h => exact ⟨v :: u :: vs, by simp, h⟩

def RetOK (P : Program) (rs : List ResultVar) (out : Out) (st : St) : Prop :=
  ∃ xs, All2 (ResOK P st) rs xs ∧ out.res = resAV xs ∧ ∀ b e, (b, Slot.ent e) ∈ out.hp → st.hp b = .ent e
def retQ (P : Program) (rs : List ResultVar) (out : Out) : Exit → St → Prop
  | .ret, st => RetOK P rs out st
  | .normal, st => RetOK P rs out st
  | _, _ => False
theorem RetOK.mk1 {r : ResultVar} {x : AV0} {st : St} (h : ResOK P st r x) : RetOK P [r] ⟨.it x, []⟩ st := ⟨[x], ⟨h, trivial⟩, rfl, fun b e hb => (by cases hb)⟩
theorem RetOK.mk2 {r1 r2 : ResultVar} {x1 x2 : AV0} {st : St} (h1 : ResOK P st r1 x1) (h2 : ResOK P st r2 x2) : RetOK P [r1, r2] ⟨.tup [x1, x2], []⟩ st := ⟨[x1, x2], ⟨h1, h2, trivial⟩, rfl, fun b e hb => (by cases hb)⟩
theorem RetOK.mk3 {r1 r2 r3 : ResultVar} {x1 x2 x3 : AV0} {st : St} (h1 : ResOK P st r1 x1) (h2 : ResOK P st r2 x2) (h3 : ResOK P st r3 x3) : RetOK P [r1, r2, r3] ⟨.tup [x1, x2, x3], []⟩ st := ⟨[x1, x2, x3], ⟨h1, h2, h3, trivial⟩, rfl, fun b e hb => (by cases hb)⟩
def AV0.imp (x y : AV0) : Prop := ∀ E S w v, x.has E S w v → y.has E S w v
theorem AV0.imp.refl (x : AV0) : x.imp x := fun _ _ _ _ h => h
theorem ResOK.imp {r : ResultVar} {x y : AV0} {st : St} (h : ResOK P st r x) (e : x.imp y) : ResOK P st r y := fun C E S a w hs => let ⟨v, h1, h2⟩ := h C E S a w hs; ⟨v, h1, e E S w v h2⟩
theorem RetOK.eq1 {r : ResultVar} {x y : AV0} {st : St} (h : ResOK P st r x) (e : x = y) : RetOK P [r] ⟨.it y, []⟩ st := e ▸ RetOK.mk1 h
theorem RetOK.eq3 {r1 r2 r3 : ResultVar} {x1 x2 x3 y1 y2 y3 : AV0} {st : St} (h1 : ResOK P st r1 x1) (h2 : ResOK P st r2 x2) (h3 : ResOK P st r3 x3) (e1 : x1 = y1) (e2 : x2 = y2) (e3 : x3 = y3) : RetOK P [r1, r2, r3] ⟨.tup [y1, y2, y3], []⟩ st := e1 ▸ e2 ▸ e3 ▸ RetOK.mk3 h1 h2 h3
theorem thenN {k : St → Prop} {Q : Exit → St → Prop} {st : St} (h : k st) : thenK k Q .normal st := h
def startSt (args : List AV) (pre : List (Nat × Ent)) : St := ⟨fun t => args[t]?, fun b => match pre.lookup b with | some e => .ent e | none => .free⟩
theorem thenE {k : St → Prop} {Q : Exit → St → Prop} {st : St} {i : Nat} (h : Q (.exit i) st) : thenK k Q (.exit i) st := h
theorem thenR {k : St → Prop} {Q : Exit → St → Prop} {st : St} (h : Q .ret st) : thenK k Q .ret st := h
theorem inBlkN {Q : Exit → St → Prop} {st : St} {i : Nat} (h : Q .normal st) : inBlk i Q .normal st := h
theorem inBlkR {Q : Exit → St → Prop} {st : St} {i : Nat} (h : Q .ret st) : inBlk i Q .ret st := h
theorem inBlkE {Q : Exit → St → Prop} {st : St} {i : Nat} (h : Q .normal st) : inBlk i Q (.exit i) st := by simp [inBlk]; exact h
theorem retR {rs : List ResultVar} {out : Out} {st : St} (h : RetOK P rs out st) : retQ P rs out .ret st := h
open Classical in
/-- A function's contract out of its text's run. -/
theorem CallOK.fn {P : Program} {f : FuncId} {fn : Func} {c : Code} {args : List AV} {pre : List (Nat × Ent)} {out : Out} {nt : Nat} {rs : List ResultVar} (hf : P.funcs[f]? = some fn) (hres : fn.results = rs.toArray) (hnt : fn.ntmps = nt) (hb : fn.body = some c) (hn : (fn.name == "runtime.NumGoroutine") = false) (hna : Nat.ble args.length nt = true)
    (hlook : ∀ b e, (b, e) ∈ pre → pre.lookup b = some e) (haid : ∀ v ∈ args, ∀ i ∈ v.ids, (pre.lookup i).isSome = true) (hpid : ∀ b e, (b, e) ∈ pre → ∀ i ∈ e.ids, (pre.lookup i).isSome = true)
    (hkey : ∀ b e, (b, e) ∈ pre → ∃ s, (b, s) ∈ out.hp) (hoid : ∀ i, (i ∈ out.res.ids ∨ ∃ b e, (b, Slot.ent e) ∈ out.hp ∧ i ∈ e.ids) → (pre.lookup i).isSome = true ∨ ∃ s, (i, s) ∈ out.hp)
    (h : ∀ (w0 : World) (T B : Nat → Prop) (E0 : Env), (∀ k, B k → ∃ b e, (b, e) ∈ pre ∧ e.at E0 b k) → WP P ⟨w0, T, B, nt, E0, fun b => (pre.lookup b).isSome⟩ c (startSt args pre) (retQ P rs out)) : CallOK P f args pre out := by
  refine ⟨⟨fn, hf, hn, by rw [hb]; rfl⟩, fun E S w vs hl hgl hall hpre hblk hsep => ?_⟩
  refine calls_of_wp hf hb ?_
  have hlen := hall.length
  rw [Nat.ble_eq] at hna
  have hp : ∀ b e, (startSt args pre).hp b = .ent e → pre.lookup b = some e := by
    intro b e hb
    simp only [startSt] at hb
    cases hlk : pre.lookup b with
    | none => simp [hlk] at hb
    | some e' => simp [hlk] at hb; rw [hb]
  have hmem : ∀ b e, pre.lookup b = some e → (b, e) ∈ pre := by
    intro b e hb
    clear hlook haid hpid hkey hoid h hpre hblk hsep hp
    induction pre with
    | nil => cases hb
    | cons p l ih =>
      rw [List.lookup_cons] at hb
      cases hbe : b == p.1 with
      | true => simp [hbe] at hb; have : b = p.1 := by simpa using hbe
                subst this; simp; left; rw [← hb]
      | false => simp [hbe] at hb; exact List.mem_cons_of_mem _ (ih hb)
  have hused : ∀ b, (pre.lookup b).isSome = true → ((startSt args pre).hp b).used = true := by
    intro b hb
    obtain ⟨e, he⟩ := Option.isSome_iff_exists.1 hb
    simp [startSt, he, Slot.used]
  have hs : SatE ⟨w, S, fun k => ∃ b e, (b, e) ∈ pre ∧ e.at E b k, nt, E, fun b => (pre.lookup b).isSome⟩ (startSt args pre) E S { tmps := vs.toArray ++ Array.replicate (fn.ntmps - vs.toArray.size) undef, defers := [] } w :=
    { dfr := rfl
      nt := by simp [hnt]; omega
      cT := fun k hk => hk
      cT0 := hl
      cS := fun k hk => .inl hk
      lt := hl
      tm := fun t v ht => by
        obtain ⟨u, hu, huv⟩ := hall.get (show args[t]? = some v from ht)
        have hlt : t < vs.length := (List.getElem?_eq_some_iff.1 hu).1
        simp [Array.getElem?_append, hlt]
        have h5 : vs[t] = u := by rw [List.getElem?_eq_getElem hlt] at hu; exact Option.some.inj hu
        rw [h5]; exact huv
      tid := fun t v ht i hi => hused i (haid v (List.mem_of_getElem? (show args[t]? = some v from ht)) i hi)
      hp := fun b e hb => hpre b e (hmem b e (hp b e hb))
      hid := fun b e hb i hi => hused i (hpid b e (hmem b e (hp b e hb)) i hi)
      blk := fun b e k hb hk => ⟨hblk b e k (hmem b e (hp b e hb)) hk, .inl ⟨b, e, hmem b e (hp b e hb), hk⟩⟩
      sep := fun b b' e e' k hne hb hb' => hsep b b' e e' k hne (hmem b e (hp b e hb)) (hmem b' e' (hp b' e' hb'))
      off := Off.refl _ _
      env := fun b hb => ⟨rfl, rfl, hused b hb⟩
      gl := hgl }
  refine wp_mono (h w S _ E (fun k hk => hk) _ w ⟨E, S, hs⟩) fun ex a' w' ⟨st', hq, E', S', hs'⟩ => ?_
  have fin : RetOK P rs out st' → a'.defers = [] ∧ ∃ v, (results fn a'.tmps).run P w' = .ok v w' ∧ ∃ u E' S', Ending.returned v = .returned u ∧ Eff E S w pre out u w' E' S' := by
    rintro ⟨xs, h1, h2, h3⟩
    obtain ⟨v, h4, h5⟩ := run_results (fn := fn) (by rw [hres]; simpa using h1) hs'
    refine ⟨hs'.dfr, v, h4, v, ⟨fun b => if (pre.lookup b).isSome = true ∨ ¬ ∃ s, (b, s) ∈ out.hp then E.blk b else E'.blk b, fun b => if (pre.lookup b).isSome = true ∨ ¬ ∃ s, (b, s) ∈ out.hp then E.sl b else E'.sl b, fun b => if ∃ s, (b, s) ∈ out.hp then E'.fp b else E.fp b⟩, S', rfl, ?_⟩
    have hat : ∀ b, ((pre.lookup b).isSome = true ∨ ∃ s, (b, s) ∈ out.hp) → E'.at' ⟨fun b => if (pre.lookup b).isSome = true ∨ ¬ ∃ s, (b, s) ∈ out.hp then E.blk b else E'.blk b, fun b => if (pre.lookup b).isSome = true ∨ ¬ ∃ s, (b, s) ∈ out.hp then E.sl b else E'.sl b, fun b => if ∃ s, (b, s) ∈ out.hp then E'.fp b else E.fp b⟩ b := by
      intro b hb
      by_cases hpb : (pre.lookup b).isSome = true
      · obtain ⟨g1, g2, _⟩ := hs'.env b hpb
        exact ⟨by simp only [hpb, true_or, if_true]; exact g1.symm, by simp only [hpb, true_or, if_true]; exact g2.symm⟩
      · have hk := hb.resolve_left hpb
        exact ⟨by simp [hpb, hk], by simp [hpb, hk]⟩
    have hfp : ∀ b, (∃ s, (b, s) ∈ out.hp) → (fun b => if ∃ s, (b, s) ∈ out.hp then E'.fp b else E.fp b) b = E'.fp b := fun b hb => by simp [hb]
    refine
      { env := fun b hb => ?_, fpe := fun b hb => by simp [hb], sub := fun k hk => hs'.cT k hk, new := fun k hk => hs'.cS k hk, lt := hs'.lt, off := hs'.off, res := ?_, ents := fun b e hbe => ?_, blk := fun b e k hbe hk => ?_, sep := fun b b' e e' k hne hb hb' hk hk' => ?_ }
    · by_cases hk : ∃ s, (b, s) ∈ out.hp
      · obtain ⟨e, he⟩ := hb hk
        have := hlook b e he
        exact ⟨by simp [this], by simp [this]⟩
      · exact ⟨by simp [hk], by simp [hk]⟩
    · rw [h2]
      exact AV.has.step h5 (fun b hb => hat b (hoid b (.inl (by rw [h2]; exact hb)))) (Off.refl S' w') (fun k hk => .inl hk)
    · have hst := h3 b e hbe
      exact (hs'.hp b e hst).step (fun i hi => hat i (hoid i (.inr ⟨b, e, hbe, hi⟩))) (hat b (.inr ⟨_, hbe⟩)) (Off.refl S' w') (fun k hk => .inl hk) (fun _ _ => rfl) (hfp b ⟨_, hbe⟩)
    · rw [Ent.at_congr (hat b (.inr ⟨_, hbe⟩)) (hfp b ⟨_, hbe⟩)] at hk
      exact hs'.blk b e k (h3 b e hbe) hk
    · rw [Ent.at_congr (hat b (.inr ⟨_, hb⟩)) (hfp b ⟨_, hb⟩)] at hk
      rw [Ent.at_congr (hat b' (.inr ⟨_, hb'⟩)) (hfp b' ⟨_, hb'⟩)] at hk'
      exact hs'.sep b b' e e' k hne (h3 b e hb) (h3 b' e' hb') hk hk'
  cases ex with
  | normal => exact fin hq
  | ret => exact fin hq
  | _ => exact hq.elim
theorem PureOK.fn {P : Program} {f : FuncId} {fn : Func} {c : Code} {args : List AV} {r : AV} {nt : Nat} {rs : List ResultVar} (hf : P.funcs[f]? = some fn) (hres : fn.results = rs.toArray) (hnt : fn.ntmps = nt) (hb : fn.body = some c) (hn : (fn.name == "runtime.NumGoroutine") = false) (hna : Nat.ble args.length nt = true)
    (haid : ∀ v ∈ args, v.ids = []) (hr : r.ids = []) (h : ∀ (w0 : World) (T B : Nat → Prop) (E0 : Env), (∀ k, ¬ B k) → WP P ⟨w0, T, B, nt, E0, fun _ => false⟩ c ⟨fun t => args[t]?, fun _ => .free⟩ (retQ P rs ⟨r, []⟩)) : PureOK P f args r :=
  CallOK.fn hf hres hnt hb hn hna (fun b e hb => by cases hb) (fun v hv i hi => by rw [haid v hv] at hi; cases hi) (fun b e hb => by cases hb) (fun b e hb => by cases hb)
    (fun i hi => by
      rcases hi with hi | ⟨b, e, hb, _⟩
      · have : i ∈ r.ids := hi
        rw [hr] at this; cases this
      · cases hb) (fun w0 T B E0 hB => h w0 T B E0 fun k hk => let ⟨_, _, hb, _⟩ := hB k hk; by cases hb)
/-- A contract for arguments of which more is known. -/
theorem PureOK.args {P : Program} {f : FuncId} {args args' : List AV} {r : AV} (h : PureOK P f args' r) (hm : ∀ E S w vs, All2 (AV.has E S w) args vs → All2 (AV.has E S w) args' vs) : PureOK P f args r :=
  ⟨h.1, fun E S w vs hl hg hv h1 h2 h3 => h.2 E S w vs hl hg (hm E S w vs hv) h1 h2 h3⟩
/-- What the arguments say may be used. -/
theorem PureOK.fact {P : Program} {f : FuncId} {args args' : List AV} {r : AV} {φ : Prop} (he : ∃ fn, P.funcs[f]? = some fn ∧ (fn.name == "runtime.NumGoroutine") = false ∧ fn.body.isNone = false) (h : φ → PureOK P f args' r) (hm : ∀ E S w vs, All2 (AV.has E S w) args vs → All2 (AV.has E S w) args' vs ∧ φ) : PureOK P f args r :=
  ⟨he, fun E S w vs hl hg hv h1 h2 h3 => let ⟨a, b⟩ := hm E S w vs hv; (h b).2 E S w vs hl hg a h1 h2 h3⟩
/-- The contract as a plain one. -/
theorem PureOK.calls {P : Program} {f : FuncId} {args : List AV} {r : AV} (h : PureOK P f args r) {S : Nat → Prop} {w : World} {vs : List Value} (hl : ∀ k, S k → k < w.heap.size) (hg : GlobOK S w) (E : Env) (hv : All2 (AV.has E S w) args vs) :
    Calls P f vs.toArray w fun e w' => ∃ v E' S', e = .returned v ∧ r.has E' S' w' v ∧ Off none' w w' := by
  refine (h.2 E S w vs hl hg hv (fun b e hb => by cases hb) (fun b e k hb => by cases hb) (fun b b' e e' k _ hb => by cases hb)).mono ?_
  rintro e w' ⟨v, E', S', rfl, hE⟩
  exact ⟨v, E', S', rfl, hE.res, hE.off.mono fun k ⟨b, e, hb, _⟩ => by cases hb⟩
/-- A pure contract out of a plain one. -/
theorem PureOK.of_calls {P : Program} {f : FuncId} {args : List AV} {r : AV} (he : ∃ fn, P.funcs[f]? = some fn ∧ (fn.name == "runtime.NumGoroutine") = false ∧ fn.body.isNone = false) (haid : r.ids = [])
    (h : ∀ (E : Env) (S : Nat → Prop) (w : World) (vs : List Value), (∀ k, S k → k < w.heap.size) → All2 (AV.has E S w) args vs → Calls P f vs.toArray w fun e w' => ∃ v, e = .returned v ∧ r.has E S w' v ∧ Off none' w w') : PureOK P f args r := by
  refine ⟨he, fun E S w vs hl _ hv _ _ _ => (h E S w vs hl hv).mono ?_⟩
  rintro e w' ⟨v, rfl, hr, ho⟩
  refine ⟨v, E, S, rfl, { env := fun _ _ => ⟨rfl, rfl⟩, fpe := fun _ _ => rfl, sub := fun _ h => h, new := fun _ h => .inl h, lt := fun k hk => Nat.lt_of_lt_of_le (hl k hk) ho.size, off := ho.mono (fun k hk => hk.elim), res := hr, ents := fun _ _ h => (by cases h), blk := fun _ _ _ h => (by cases h), sep := fun _ _ _ _ _ _ h => (by cases h) }⟩
end
end SX
/- Slices that nobody of the call writes: what they stand for. No program in sight. -/
set_option linter.unusedVariables false
set_option linter.unusedSimpArgs false
namespace SX
open Go Go.RowKit

/-- A slice of so many elements, each of so many cells. -/
def sliceR (size n : Nat) (cells : List CA) : Rep where
  has S w v := ∃ oa cap, v = .slice oa n cap ∧ n ≤ cap ∧ cap ≤ maxLen ∧ (oa = none → cap = 0) ∧ cells.length = n * size ∧
    ∀ i c, cells[i]? = some c → ∃ b o u, oa = some ⟨b, o, none⟩ ∧ ¬ S b ∧ w.cell? ⟨b, o + i, none⟩ = some u ∧ c.has S w u
  one h := by obtain ⟨oa, cap, rfl, _⟩ := h; rfl
  step h ho hs := by
    obtain ⟨oa, cap, h1, h2, h3, h4, h5, h6⟩ := h
    refine ⟨oa, cap, h1, h2, h3, h4, h5, fun i c hc => ?_⟩
    obtain ⟨b, o, u, e1, e2, e3, e4⟩ := h6 i c hc
    have hb := World.block_lt_of_cell? _ _ e3
    exact ⟨b, o, u, e1, fun h => (hs b h).elim e2 (fun h => by simp at hb; omega), ho.cell e2 e3, e4.step ho hs⟩
theorem sliceR_iff {size n : Nat} {cells : List CA} {S : Nat → Prop} {w : World} {v : Value} : (sliceR size n cells).has S w v ↔ ∃ oa cap, v = .slice oa n cap ∧ n ≤ cap ∧ cap ≤ maxLen ∧ (oa = none → cap = 0) ∧ cells.length = n * size ∧
    ∀ i c, cells[i]? = some c → ∃ b o u, oa = some ⟨b, o, none⟩ ∧ ¬ S b ∧ w.cell? ⟨b, o + i, none⟩ = some u ∧ c.has S w u := Iff.rfl
/-- A pointer to cells. -/
def ptrR (cells : List CA) : Rep where
  has S w v := ∃ b o, v = .pointer (some ⟨b, o, none⟩) ∧ ∀ i c, cells[i]? = some c → ∃ u, ¬ S b ∧ w.cell? ⟨b, o + i, none⟩ = some u ∧ c.has S w u
  one h := by obtain ⟨b, o, rfl, _⟩ := h; rfl
  step h ho hs := by
    obtain ⟨b, o, h1, h6⟩ := h
    refine ⟨b, o, h1, fun i c hc => ?_⟩
    obtain ⟨u, e2, e3, e4⟩ := h6 i c hc
    have hb := World.block_lt_of_cell? _ _ e3
    exact ⟨u, fun h => (hs b h).elim e2 (fun h => by simp at hb; omega), ho.cell e2 e3, e4.step ho hs⟩
theorem ptrR_iff {cells : List CA} {S : Nat → Prop} {w : World} {v : Value} : (ptrR cells).has S w v ↔ ∃ b o, v = .pointer (some ⟨b, o, none⟩) ∧ ∀ i c, cells[i]? = some c → ∃ u, ¬ S b ∧ w.cell? ⟨b, o + i, none⟩ = some u ∧ c.has S w u := Iff.rfl
section
variable {P : Program} {C : Ctx} {st : St}
variable {ops rest : List Oper} {acc : List (List Nat × List Nat)} {K : List (List Nat × List Nat) → St → Prop} {dst : Option Tmp} {ty t : TypeId} {x y : Operand}
class TSlice (P : Program) (t : TypeId) (e : outParam TypeId) (size : outParam Nat) : Prop where
  h : P.underlying t = some (.slice e)
  s : (P.info? e).map (·.size) = some size
  p : 0 < size
class TStr (P : Program) (t : TypeId) : Prop where
  h : P.underlying t = some .string
/-- A struct's places: where each field lies, and how many cells it takes. -/
def structPl (P : Program) (t : TypeId) : Option (List (Nat × Option Nat)) :=
  match P.underlying t with
  | some (.struct fs) => some (fs.toList.map fun f => (f.offset, (P.info? f.type).map (·.size)))
  | _ => none
class TStruct (P : Program) (t : TypeId) (pl : outParam (List (Nat × Nat))) : Prop where
  h : structPl P t = some (pl.map fun p => (p.1, some p.2))
/-- An element's zero, and its bytes. -/
class TElem (P : Program) (e : TypeId) (zero : outParam (List Value)) (bytes : outParam Nat) : Prop where
  h : (P.info? e).map (fun i => (i.zero.map (·.cells), i.bytes)) = some (some zero.toArray, bytes)
/-- What stands for a slice of so many elements. -/
class AsSlice (r : Rep) (size n : outParam Nat) (cells : outParam (List CA)) : Prop where
  h : ∀ S w v, r.has S w v → (sliceR size n cells).has S w v
instance (size n : Nat) (cells : List CA) : AsSlice (sliceR size n cells) size n cells := ⟨fun _ _ _ h => h⟩
/-- len of a slice; of a text. -/
theorem Go1.lenR {e : TypeId} {size sz n : Nat} {cells : List CA} {r : Rep} [ht : TSlice P t e sz] [hr : AsSlice r size n cells] (hd : dstOK dst C.nt = true) (hx : st.ev x = some (.r r))
    (next : Reg P C ops rest (st.app dst ⟨.v (.int .i64 (n : Int)), []⟩) (([], []) :: acc) K) : Go1 P C ops dst (.call ⟨.builtin .len, #[x], #[t]⟩) ty rest st acc K :=
  Go1.pureV [] [] (by simp) hd (by simp) (fun o ho _ st' E S a w hev hs _ => by
    obtain ⟨hx1, _⟩ := hs.ev ((hev x (by simp [ho, Op.operands, Call.operands])).trans hx)
    obtain ⟨oa, cap, hv, _⟩ := hr.h _ _ _ hx1
    refine ⟨fun i hi => (by cases hi), .int .i64 (n : Int), ?_, rfl⟩
    unfold execOp; rw [ho]
    simp [resolve, invoke, builtin, Builtin.len_, run_underlying ht.h, hv, goInt]) next
/-- The place of an element. -/
theorem Go1.indexAddrR {e : TypeId} {size n i : Nat} {k : IntKind} {cells : List CA} {r : Rep} [ht : TSlice P t e size] [hr : AsSlice r size n cells] (hd : dstOK dst C.nt = true) (hx : st.ev x = some (.r r)) (hy : st.ev y = some (.v (.int k (i : Int)))) (hi : i < n)
    (next : Reg P C ops rest (st.app dst ⟨.r (ptrR ((cells.drop (i * size)).take size)), []⟩) (([], []) :: acc) K) : Go1 P C ops dst (.indexAddr t x y) ty rest st acc K :=
  Go1.pureV [] [] (by simp) hd (by simp) (fun o ho _ st' E S a w hev hs _ => by
    obtain ⟨hx1, _⟩ := hs.ev ((hev x (by simp [ho, Op.operands])).trans hx)
    obtain ⟨oa, cap, hv, h2, h3, h4, h5, h6⟩ := hr.h _ _ _ hx1
    have hyv : a.eval y = .int k (i : Int) := (hs.ev ((hev y (by simp [ho, Op.operands])).trans hy)).1
    have hsz := run_sizeOf ht.s w
    have h0 := ht.p
    obtain ⟨b, o', u, e1, e2, e3, e4⟩ := h6 (i * size) (cells[i * size]'(by rw [h5]; exact Nat.mul_lt_mul_of_pos_right hi h0)) (by simp)
    subst e1
    refine ⟨fun j hj => (by cases hj), .pointer (some ⟨b, o' + i * size, none⟩), ?_, b, o' + i * size, rfl, fun j c hc => ?_⟩
    · unfold execOp; rw [ho]
      simp [hv, hyv, Instr.indexAt, asIntOf, run_underlying ht.h, hsz, Addr.add_lit, hi]
    · rw [List.getElem?_take] at hc
      split at hc
      · rw [List.getElem?_drop] at hc
        obtain ⟨b', o'', u', g1, g2, g3, g4⟩ := h6 _ c hc
        simp at g1
        obtain ⟨rfl, rfl⟩ := g1
        exact ⟨u', g2, by rw [Nat.add_assoc]; exact g3, g4⟩
      · cases hc) next
variable {d : Tmp}
theorem ptr_vals {E : Env} {S : Nat → Prop} {w : World} {b : Nat} : ∀ (l : List CA) (o'' : Nat), (∀ (i : Nat) (c : CA), l[i]? = some c → ∃ u, ¬ S b ∧ w.cell? ⟨b, o'' + i, none⟩ = some u ∧ c.has S w u) →
    ∃ us : List Value, All2 (Atom.has E S w) (l.map Atom.c) us ∧ ∀ j u, us[j]? = some u → w.cell? ((⟨b, o'', none⟩ : Addr).add j) = some u
  | [], _, _ => ⟨[], trivial, by simp⟩
  | c' :: l, o'', h => by
    obtain ⟨u', k1, k2, k3⟩ := h 0 c' (by simp)
    obtain ⟨us, k4, k5⟩ := ptr_vals (E := E) l (o'' + 1) (fun i c hi => by have := h (i + 1) c (by simpa using hi); rwa [show o'' + (i + 1) = o'' + 1 + i by omega] at this)
    refine ⟨u' :: us, ⟨k3, k4⟩, fun j u hj => ?_⟩
    cases j with
    | zero => simp at hj; subst hj; rw [Addr.add_lit]; exact k2
    | succ j =>
      have := k5 j u (by simpa using hj)
      rw [Addr.add_lit] at *
      rwa [show o'' + (j + 1) = o'' + 1 + j by omega]
/-- What stands behind a pointer is read. -/
theorem Go1.loadRAgg {n : Nat} {cells : List CA} [ht : TAgg P t n] (hd : dstOK dst C.nt = true) (hx : st.ev x = some (.r (ptrR cells))) (hl : cells.length = n)
    (next : Reg P C ops rest (st.app dst ⟨.agg (cells.map Atom.c), []⟩) (([], []) :: acc) K) : Go1 P C ops dst (.load t x) ty rest st acc K :=
  Go1.pureV [] [] (by simp) hd (by simp) (fun o ho _ st' E S a w hev hs _ => by
    obtain ⟨⟨b, o', hv, h6⟩, _⟩ := hs.ev ((hev x (by simp [ho, Op.operands])).trans hx)
    have hex := ptr_vals (E := E) cells o' h6
    obtain ⟨us, hall, hus⟩ := hex
    have hlen := hall.length
    have hrun := run_loadCells_list (P := P) w ⟨b, o', none⟩ us hus
    have hsz : (P.info? t).map (·.size) = some us.length := by rw [ht.s, ← hl]; simp at hlen; rw [hlen]
    refine ⟨fun j hj => ?_, .agg us.toArray, ?_, us, rfl, hall⟩
    · simp only [AV.ids, AV0.ids, List.mem_flatMap] at hj
      obtain ⟨c, hc, hj⟩ := hj
      obtain ⟨c', _, rfl⟩ := List.mem_map.1 hc
      cases hj
    · unfold execOp; rw [ho]
      simp [hv, Instr.loadAt, Instr.sureAddr, loadVar, run_isAgg ht.h, run_sizeOf hsz, hrun]) next
theorem Go1.loadR2 {c1 c2 : CA} {cells : List CA} [ht : TAgg P t 2] (hd : dstOK dst C.nt = true) (hx : st.ev x = some (.r (ptrR cells))) (hl : cells = [c1, c2])
    (next : Reg P C ops rest (st.app dst ⟨.agg [.c c1, .c c2], []⟩) (([], []) :: acc) K) : Go1 P C ops dst (.load t x) ty rest st acc K := by
  subst hl; exact Go1.loadRAgg hd hx rfl next
theorem Go1.loadR3 {c1 c2 c3 : CA} {cells : List CA} [ht : TAgg P t 3] (hd : dstOK dst C.nt = true) (hx : st.ev x = some (.r (ptrR cells))) (hl : cells = [c1, c2, c3])
    (next : Reg P C ops rest (st.app dst ⟨.agg [.c c1, .c c2, .c c3], []⟩) (([], []) :: acc) K) : Go1 P C ops dst (.load t x) ty rest st acc K := by
  subst hl; exact Go1.loadRAgg hd hx rfl next
theorem Go1.loadR4 {c1 c2 c3 c4 : CA} {cells : List CA} [ht : TAgg P t 4] (hd : dstOK dst C.nt = true) (hx : st.ev x = some (.r (ptrR cells))) (hl : cells = [c1, c2, c3, c4])
    (next : Reg P C ops rest (st.app dst ⟨.agg [.c c1, .c c2, .c c3, .c c4], []⟩) (([], []) :: acc) K) : Go1 P C ops dst (.load t x) ty rest st acc K := by
  subst hl; exact Go1.loadRAgg hd hx rfl next
theorem Go1.loadR1 {c : CA} {cells : List CA} [ht : TOne P t] (hd : dstOK dst C.nt = true) (hx : st.ev x = some (.r (ptrR cells))) (hl : cells[0]? = some c)
    (next : Reg P C ops rest (st.app dst ⟨.it (.one (.c c)), []⟩) (([], []) :: acc) K) : Go1 P C ops dst (.load t x) ty rest st acc K :=
  Go1.pureV [] [] (by simp) hd (by simp) (fun o ho _ st' E S a w hev hs _ => by
    obtain ⟨⟨b, o', hv, h6⟩, _⟩ := hs.ev ((hev x (by simp [ho, Op.operands])).trans hx)
    obtain ⟨u, g1, g2, g3⟩ := h6 0 c hl
    refine ⟨fun j hj => (by cases hj), u, ?_, g3⟩
    unfold execOp; rw [ho]
    have g2' : w.cell? ⟨b, o', none⟩ = some u := g2
    simp [hv, Instr.loadAt, Instr.sureAddr, loadVar, run_isAgg ht.h, g2']) next
theorem Go1.fieldAddrR {f o1 : Nat} {cells : List CA} [ht : TField P t f o1] (hd : dstOK dst C.nt = true) (hx : st.ev x = some (.r (ptrR cells)))
    (next : Reg P C ops rest (st.app dst ⟨.r (ptrR (cells.drop o1)), []⟩) (([], []) :: acc) K) : Go1 P C ops dst (.fieldAddr t x f) ty rest st acc K :=
  Go1.pureV [] [] (by simp) hd (by simp) (fun o ho _ st' E S a w hev hs _ => by
    obtain ⟨⟨b, o', hv, h6⟩, _⟩ := hs.ev ((hev x (by simp [ho, Op.operands])).trans hx)
    obtain ⟨ft, h1, h2⟩ := ht.h
    obtain ⟨dd, hd1, hd2⟩ := Option.bind_eq_some_iff.1 h1
    obtain ⟨i, hi, hz⟩ := Option.map_eq_some_iff.1 h2
    refine ⟨fun j hj => (by cases hj), .pointer (some ⟨b, o' + o1, none⟩), ?_, b, o' + o1, rfl, fun i c hc => ?_⟩
    · cases dd <;> simp [fieldOf] at hd2
      rename_i fs
      obtain ⟨fd, hfd, he1, he2⟩ := hd2
      subst he1 he2
      unfold execOp; rw [ho]
      have hsz : (Go.sizeOf fd.type).run P w = .ok i.size w := by simp [Go.sizeOf, typeInfo, hi]
      simp [hv, Instr.fieldAt, Instr.sureAddr, run_underlying hd1, hfd, fieldPlace, hsz]
      simp at hz
      simp [hz, Addr.add_lit]
    · rw [List.getElem?_drop] at hc
      obtain ⟨u, g1, g2, g3⟩ := h6 _ c hc
      exact ⟨u, g1, by rw [Nat.add_assoc]; exact g2, g3⟩) next
end
attribute [irreducible] sliceR ptrR
end SX
/- A struct's value out of its parts. No program in sight. -/
set_option linter.unusedVariables false
set_option linter.unusedSimpArgs false
namespace SX
open Go Go.RowKit
def fillA (pl : List (Nat × Nat)) : List Atom → List (Nat × AV0) → Option (List Atom)
  | cells, [] => some cells
  | cells, (i, x) :: rest => match pl[i]? with
    | none => none
    | some (off, size) => match Nat.beq x.cells.length size && Nat.ble (off + size) cells.length with
      | true => fillA pl (spl cells off x.cells) rest
      | false => none
def evp (st : St) : List (Nat × Operand) → Option (List (Nat × AV0))
  | [] => some []
  | (i, x) :: xs => match st.ev x, evp st xs with
    | some (.it v), some vs => some ((i, v) :: vs)
    | _, _ => none
section
variable {P : Program} {C : Ctx} {st : St}
theorem evp_congr {st st' : St} : ∀ {xs : List (Nat × Operand)}, (∀ x ∈ xs, st'.ev x.2 = st.ev x.2) → evp st' xs = evp st xs
  | [], _ => rfl
  | (i, x) :: xs, h => by unfold evp; rw [h (i, x) (by simp), evp_congr (fun y hy => h y (by simp [hy]))]
theorem evp_has {E : Env} {S : Nat → Prop} {a : Act} {w : World} (h : SatE C st E S a w) : ∀ {xs : List (Nat × Operand)} {l : List (Nat × AV0)}, evp st xs = some l → All2 (fun p q => p.1 = q.1 ∧ p.2.has E S w q.2) l (xs.map fun x => (x.1, a.eval x.2)) ∧ ∀ p ∈ l, ∀ b ∈ p.2.ids, (st.hp b).used = true
  | [], l, hl => by simp [evp] at hl; subst hl; exact ⟨trivial, by simp⟩
  | (i, x) :: xs, l, hl => by
    unfold evp at hl
    cases hx : st.ev x with
    | none => simp [hx] at hl
    | some v =>
      cases v with
      | tup l' => simp [hx] at hl
      | it v =>
        cases hxs : evp st xs with
        | none => simp [hx, hxs] at hl
        | some vs =>
          simp [hx, hxs] at hl
          subst hl
          obtain ⟨h1, h2⟩ := h.ev hx
          obtain ⟨h3, h4⟩ := evp_has h hxs
          exact ⟨⟨⟨rfl, h1⟩, h3⟩, fun u hu => by
            rcases List.mem_cons.1 hu with rfl | hu
            · exact h2
            · exact h4 u hu⟩
theorem foldl_set : ∀ (us : List Value) (cs : List Value) (off j : Nat), off + j + us.length ≤ cs.length →
    ((us.zipIdx j).foldl (fun (cs : Array Value) (p : Value × Nat) => cs.setIfInBounds (off + p.2) p.1) cs.toArray) = (spl cs (off + j) us).toArray
  | [], cs, off, j, h => by
    rw [spl_eq _ _ _ h]; simp
  | u :: us, cs, off, j, h => by
    simp only [List.zipIdx_cons, List.foldl_cons]
    have h2 : cs.toArray.setIfInBounds (off + j) u = (cs.set (off + j) u).toArray := by simp
    rw [h2, foldl_set us (cs.set (off + j) u) off (j + 1) (by simp at h ⊢; omega)]
    congr 1
    rw [spl_eq _ _ _ (by simp at h ⊢; omega), spl_eq _ _ _ h]
    have := list_seg_step cs (off + j) u us (by simpa using h)
    simpa [Nat.add_assoc] using this
theorem fill_has {E : Env} {S : Nat → Prop} {w : World} {pl : List (Nat × Nat)} : ∀ {ps : List (Nat × AV0)} {qs : List (Nat × Value)} {cells l : List Atom} {cs : List Value}, All2 (fun p q => p.1 = q.1 ∧ p.2.has E S w q.2) ps qs → (∀ p ∈ ps, p.2.cells.all Atom.oneB = true) →
    All2 (Atom.has E S w) cells cs → fillA pl cells ps = some l → ∃ us, Instr.fill (fun i => pl[i]?) cs.toArray qs = some us.toArray ∧ All2 (Atom.has E S w) l us
  | [], [], cells, l, cs, _, _, hc, hf => by simp [fillA] at hf; subst hf; exact ⟨cs, rfl, hc⟩
  | (i, x) :: ps, (j, v) :: qs, cells, l, cs, h, h1, hc, hf => by
    obtain ⟨⟨e, hx⟩, h⟩ := h
    simp only at e hx
    subst e
    obtain ⟨us, hus, hall, _⟩ := AV0.has.cells hx (h1 (i, x) (by simp))
    unfold fillA at hf
    cases hp : pl[i]? with
    | none => simp [hp] at hf
    | some q =>
      obtain ⟨off, size⟩ := q
      simp only [hp] at hf
      cases hb : Nat.beq x.cells.length size && Nat.ble (off + size) cells.length with
      | false => simp [hb] at hf
      | true =>
        simp only [hb] at hf
        rw [Bool.and_eq_true, Nat.ble_eq] at hb
        obtain ⟨hb1, hb2⟩ := hb
        have hb1' : x.cells.length = size := Nat.eq_of_beq_eq_true hb1
        have hl1 := hall.length
        have hl2 := hc.length
        obtain ⟨us', h3, h4⟩ := fill_has h (fun p hp => h1 p (by simp [hp])) (hc.spl off hall) hf
        refine ⟨us', ?_, h4⟩
        unfold Instr.fill
        simp only [hp, hus, List.size_toArray]
        rw [if_neg (by simp; omega)]
        have h5 := foldl_set us cs off 0 (by simp; omega)
        rw [← h3]
        congr 1
        simpa [Array.foldl_toList] using h5
  | [], _ :: _, _, _, _, h, _, _, _ => h.elim
  | _ :: _, [], _, _, _, h, _, _, _ => h.elim
theorem run_places {t : TypeId} {pl : List (Nat × Nat)} (h : TStruct P t pl) (w : World) : ∃ fs, P.underlying t = some (.struct fs) ∧ (fs.mapM fun f => do pure (f.offset, ← Go.sizeOf f.type) : Sem (Array (Nat × Nat))).run P w = .ok pl.toArray w := by
  have h := h.h
  unfold structPl at h
  cases hu : P.underlying t with
  | none => simp [hu] at h
  | some d =>
    cases d <;> simp [hu] at h
    rename_i fs
    refine ⟨fs, rfl, ?_⟩
    have key : ∀ (l : List Field) (m : List (Nat × Nat)), (l.map fun f => (f.offset, (P.info? f.type).map (·.size))) = m.map (fun p => (p.1, some p.2)) → (l.mapM fun f => do pure (f.offset, ← Go.sizeOf f.type) : Sem (List (Nat × Nat))).run P w = .ok m w := by
      intro l
      induction l with
      | nil => intro m hm; cases m with
        | nil => rfl
        | cons _ _ => simp at hm
      | cons f l ih =>
        intro m hm
        cases m with
        | nil => simp at hm
        | cons p m =>
          simp only [List.map_cons, List.cons.injEq, Prod.mk.injEq] at hm
          have hs := run_sizeOf hm.1.2 w
          have := ih m hm.2
          simp only [List.mapM_cons, Sem.run_bind, Sem.run_pure, hs, this, hm.1.1, Result.andThen_ok]
    have : fs = fs.toList.toArray := by simp
    rw [this, List.mapM_toArray, Sem.run_map, key fs.toList pl (by simpa using h)]
    rfl
variable {ops rest : List Oper} {acc : List (List Nat × List Nat)} {K : List (List Nat × List Nat) → St → Prop} {d : Tmp} {ty t : TypeId}
theorem Go1.build {pl : List (Nat × Nat)} {zs : List Value} {parts : Array (Nat × Operand)} {ps : List (Nat × AV0)} {l : List Atom} [ht : TStruct P t pl] [hz : TZero P t zs] (hd : dstOK (some d) C.nt = true) (hp : evp st parts.toList = some ps) (h1 : (ps.all fun p => p.2.cells.all Atom.oneB) = true)
    (hf : fillA pl (zs.map fun v => Atom.c (.val v)) ps = some l) (next : Reg P C ops rest (st.app (some d) ⟨.agg l, []⟩) (([], []) :: acc) K) : Go1 P C ops (some d) (.build t parts) ty rest st acc K :=
  Go1.pureV [] [] (by simp) hd (by simp) (fun o ho _ st' E S a w hev hs _ => by
    have hp' : evp st' parts.toList = some ps := by
      rw [evp_congr (fun x hx => hev x.2 (by rw [ho]; simp [Op.operands]; exact ⟨x.1, by simpa using hx⟩))]; exact hp
    obtain ⟨hall, hids⟩ := evp_has hs hp'
    obtain ⟨z, hz1, hz2⟩ := run_zeroCells hz.h w
    obtain ⟨fs, hu, hpl⟩ := run_places ht w
    obtain ⟨us, hfill, hus⟩ := fill_has (w := w) (cs := zs) hall (fun p hp => by rw [List.all_eq_true] at h1; exact h1 p hp) (all2_vals zs) hf
    have hfill' : Instr.fill (fun i : Nat => pl.toArray[i]?) zs.toArray (parts.toList.map fun x => (x.1, a.eval x.2)) = some us.toArray := by
      have e1 : (fun i : Nat => pl.toArray[i]?) = (fun i : Nat => pl[i]?) := by funext i; simp
      rw [e1]; exact hfill
    refine ⟨?_, .agg us.toArray, ?_, us, rfl, hus⟩
    · -- the ids
      have key : ∀ (ps : List (Nat × AV0)) (cells l : List Atom), fillA pl cells ps = some l → (∀ i ∈ cells.flatMap Atom.ids, (st'.hp i).used = true) → (∀ p ∈ ps, ∀ b ∈ p.2.ids, (st'.hp b).used = true) → ∀ i ∈ l.flatMap Atom.ids, (st'.hp i).used = true := by
        intro ps
        induction ps with
        | nil => intro cells l hf hc _ i hi; simp [fillA] at hf; subst hf; exact hc i hi
        | cons p ps ih =>
          intro cells l hf hc hps i hi
          obtain ⟨j, x⟩ := p
          unfold fillA at hf
          cases hpj : pl[j]? with
          | none => simp [hpj] at hf
          | some q =>
            obtain ⟨off, size⟩ := q
            simp only [hpj] at hf
            cases hb : Nat.beq x.cells.length size && Nat.ble (off + size) cells.length with
            | false => simp [hb] at hf
            | true =>
              simp only [hb] at hf
              rw [Bool.and_eq_true, Nat.ble_eq] at hb
              have hb1' : x.cells.length = size := Nat.eq_of_beq_eq_true hb.1
              refine ih _ l hf (fun i hi => ?_) (fun p hp => hps p (by simp [hp])) i hi
              obtain ⟨c, hc1, hc2⟩ := List.mem_flatMap.1 hi
              rw [spl_eq _ _ _ (by omega)] at hc1
              simp only [List.mem_append] at hc1
              rcases hc1 with (hc1 | hc1) | hc1
              · exact hc i (List.mem_flatMap.2 ⟨c, List.mem_of_mem_take hc1, hc2⟩)
              · refine hps (j, x) (by simp) i ?_
                rw [← AV0.ids_cells]; exact List.mem_flatMap.2 ⟨c, hc1, hc2⟩
              · exact hc i (List.mem_flatMap.2 ⟨c, List.mem_of_mem_drop hc1, hc2⟩)
      exact key ps _ l hf (fun i hi => by
        obtain ⟨c, hc, hi⟩ := List.mem_flatMap.1 hi
        obtain ⟨v, _, rfl⟩ := List.mem_map.1 hc
        cases hi) hids
    · unfold execOp; rw [ho]
      have hparts : (parts.map fun x => (x.1, a.eval x.2)).toList = parts.toList.map fun x => (x.1, a.eval x.2) := by simp
      simp only [Instr.build, Sem.run_bind, hz1, Result.andThen_ok, run_underlying hu, hpl, hz2, hparts]
      simp only [hfill', Sem.run_pure, Result.andThen_ok]) next
theorem Go1.build2 {pl : List (Nat × Nat)} {zs : List Value} {parts : Array (Nat × Operand)} {ps : List (Nat × AV0)} {a1 a2 : Atom} [ht : TStruct P t pl] [hz : TZero P t zs] (hd : dstOK (some d) C.nt = true) (hp : evp st parts.toList = some ps) (h1 : (ps.all fun p => p.2.cells.all Atom.oneB) = true)
    (hf : fillA pl (zs.map fun v => Atom.c (.val v)) ps = some [a1, a2]) (next : Reg P C ops rest (st.app (some d) ⟨.agg [a1, a2], []⟩) (([], []) :: acc) K) : Go1 P C ops (some d) (.build t parts) ty rest st acc K := Go1.build hd hp h1 hf next
theorem Go1.build3 {pl : List (Nat × Nat)} {zs : List Value} {parts : Array (Nat × Operand)} {ps : List (Nat × AV0)} {a1 a2 a3 : Atom} [ht : TStruct P t pl] [hz : TZero P t zs] (hd : dstOK (some d) C.nt = true) (hp : evp st parts.toList = some ps) (h1 : (ps.all fun p => p.2.cells.all Atom.oneB) = true)
    (hf : fillA pl (zs.map fun v => Atom.c (.val v)) ps = some [a1, a2, a3]) (next : Reg P C ops rest (st.app (some d) ⟨.agg [a1, a2, a3], []⟩) (([], []) :: acc) K) : Go1 P C ops (some d) (.build t parts) ty rest st acc K := Go1.build hd hp h1 hf next
theorem Go1.build4 {pl : List (Nat × Nat)} {zs : List Value} {parts : Array (Nat × Operand)} {ps : List (Nat × AV0)} {a1 a2 a3 a4 : Atom} [ht : TStruct P t pl] [hz : TZero P t zs] (hd : dstOK (some d) C.nt = true) (hp : evp st parts.toList = some ps) (h1 : (ps.all fun p => p.2.cells.all Atom.oneB) = true)
    (hf : fillA pl (zs.map fun v => Atom.c (.val v)) ps = some [a1, a2, a3, a4]) (next : Reg P C ops rest (st.app (some d) ⟨.agg [a1, a2, a3, a4], []⟩) (([], []) :: acc) K) : Go1 P C ops (some d) (.build t parts) ty rest st acc K := Go1.build hd hp h1 hf next
end
section
variable {P : Program} {C : Ctx} {st : St} {ops rest : List Oper} {acc : List (List Nat × List Nat)} {K : List (List Nat × List Nat) → St → Prop} {dst : Option Tmp} {op : Op} {ty t t' : TypeId} {x y : Operand} {b : BinOp} {u : UnOp} {cl : Call} {i : Nat} {c : Code} {Q : Exit → St → Prop} {parts : Array (Nat × Operand)} {n : Nat}
theorem WP.condHT {x y : Code} {c : Operand} {t : Bool} (hc : st.ev c = some (.v (.bool t))) (ht : t = true) (h : WP P C x st Q) : WP P C (.cond c x y) st Q := WP.cond hc (fun _ => h) (fun e => by rw [ht] at e; cases e)
theorem WP.condHF {x y : Code} {c : Operand} {t : Bool} (hc : st.ev c = some (.v (.bool t))) (ht : t = false) (h : WP P C y st Q) : WP P C (.cond c x y) st Q := WP.cond hc (fun e => by rw [ht] at e; cases e) (fun _ => h)
theorem Go1.pickHT {c : Operand} {t : Bool} {r : AV} (hd : dstOK dst C.nt = true) (hc : st.ev c = some (.v (.bool t))) (ht : t = true) (hx : st.ev x = some r) (next : Reg P C ops rest (st.app dst ⟨r, []⟩) (([], []) :: acc) K) : Go1 P C ops dst (.pick c x y) ty rest st acc K := by
  subst ht; exact Go1.pick hd hc hx next
theorem Go1.pickHF {c : Operand} {t : Bool} {r : AV} (hd : dstOK dst C.nt = true) (hc : st.ev c = some (.v (.bool t))) (ht : t = false) (hx : st.ev y = some r) (next : Reg P C ops rest (st.app dst ⟨r, []⟩) (([], []) :: acc) K) : Go1 P C ops dst (.pick c x y) ty rest st acc K := by
  subst ht; exact Go1.pick hd hc hx next
theorem wrapI64 {z : Int} (h1 : -9223372036854775808 ≤ z) (h2 : z ≤ 9223372036854775807) : IntKind.i64.wrap z = z := IntWalk.i64_in z ⟨h1, h2⟩
theorem wrapU64 {z : Int} (h1 : 0 ≤ z) (h2 : z ≤ 18446744073709551615) : IntKind.u64.wrap z = z := by
  simp only [IntKind.wrap, IntKind.bits, IntKind.signed]; simp; omega
/- The same again: for a quick look at what stands next. -/
theorem Go1.is (h : Go1 P C ops dst op ty rest st acc K) : Go1 P C ops dst op ty rest st acc K := h
theorem Reg.is {l : List Oper} (h : Reg P C ops l st acc K) : Reg P C ops l st acc K := h
theorem WP.is (h : WP P C c st Q) : WP P C c st Q := h
theorem Go1.isLoad (h : Go1 P C ops dst (.load t x) ty rest st acc K) : Go1 P C ops dst (.load t x) ty rest st acc K := h
theorem Go1.isBin (h : Go1 P C ops dst (.binOp b t x y t') ty rest st acc K) : Go1 P C ops dst (.binOp b t x y t') ty rest st acc K := h
theorem Go1.isUn (h : Go1 P C ops dst (.unOp u t x) ty rest st acc K) : Go1 P C ops dst (.unOp u t x) ty rest st acc K := h
theorem Go1.isCall (h : Go1 P C ops dst (.call cl) ty rest st acc K) : Go1 P C ops dst (.call cl) ty rest st acc K := h
theorem Go1.isField (h : Go1 P C ops dst (.fieldAddr t x i) ty rest st acc K) : Go1 P C ops dst (.fieldAddr t x i) ty rest st acc K := h
theorem Go1.isBuild (h : Go1 P C ops dst (.build t parts) ty rest st acc K) : Go1 P C ops dst (.build t parts) ty rest st acc K := h
theorem Go1.isBuildS (h : Go1 P C ops dst (.buildSlice t n parts) ty rest st acc K) : Go1 P C ops dst (.buildSlice t n parts) ty rest st acc K := h
theorem Go1.isStore (h : Go1 P C ops dst (.store t x y) ty rest st acc K) : Go1 P C ops dst (.store t x y) ty rest st acc K := h
theorem Go1.isIx (h : Go1 P C ops dst (.indexAddr t x y) ty rest st acc K) : Go1 P C ops dst (.indexAddr t x y) ty rest st acc K := h
end
end SX

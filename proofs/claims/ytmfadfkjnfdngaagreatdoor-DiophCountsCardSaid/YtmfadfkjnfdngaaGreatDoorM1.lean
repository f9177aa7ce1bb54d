import Derived.WalkKit
import Derived.Test.YtmfadfkjnfdngaaGreatDoorM0
import Derived.WalkSpells
import Derived.Orders
set_option linter.unusedVariables false
set_option linter.unusedSimpArgs false
namespace SX
open Go Go.RowKit

structure Off (S : Nat → Prop) (w w' : World) : Prop where
  os : w'.os = w.os
  tape : w'.tape = w.tape
  output : w'.output = w.output
  size : w.heap.size ≤ w'.heap.size
  block : ∀ k, k < w.heap.size → ¬ S k → w'.heap[k]? = w.heap[k]?
def none' : Nat → Prop := fun _ => False
theorem Off.refl (S : Nat → Prop) (w : World) : Off S w w := ⟨rfl, rfl, rfl, Nat.le_refl _, fun _ _ _ => rfl⟩
theorem Off.trans {S : Nat → Prop} {a b c : World} (h : Off S a b) (k : Off S b c) : Off S a c :=
  ⟨k.os.trans h.os, k.tape.trans h.tape, k.output.trans h.output, Nat.le_trans h.size k.size, fun i hi hs => (k.block i (Nat.lt_of_lt_of_le hi h.size) hs).trans (h.block i hi hs)⟩
theorem Off.trans2 {S S' T : Nat → Prop} {a b c : World} (h : Off S a b) (k : Off S' b c) (h1 : ∀ k, S k → T k) (h2 : ∀ k, S' k → T k ∨ a.heap.size ≤ k) : Off T a c :=
  ⟨k.os.trans h.os, k.tape.trans h.tape, k.output.trans h.output, Nat.le_trans h.size k.size, fun i hi hs =>
    (k.block i (Nat.lt_of_lt_of_le hi h.size) (fun e => (h2 i e).elim hs (fun e => by omega))).trans (h.block i hi (fun e => hs (h1 i e)))⟩
theorem Off.mono {S S' : Nat → Prop} {w w' : World} (h : Off S w w') (hs : ∀ k, S k → S' k) : Off S' w w' :=
  ⟨h.os, h.tape, h.output, h.size, fun k hk hn => h.block k hk (fun e => hn (hs k e))⟩
theorem Off.alloc (S : Nat → Prop) (w : World) (o : Obj) : Off S w (w.alloc o) := ⟨rfl, rfl, rfl, by simp, fun k hk _ => Below.heap_alloc w o k hk⟩
theorem Off.drew (S : Nat → Prop) (w : World) : Off S w w.drew := ⟨rfl, rfl, rfl, Nat.le_refl _, fun _ _ _ => rfl⟩
theorem Off.setRow {S : Nat → Prop} (w : World) (g : Nat) (cs : Array Value) (h : S g) : Off S w (w.setRow g cs) :=
  ⟨rfl, rfl, rfl, by simp, fun k _ hn => setRow_other w g k cs (fun e => hn (e ▸ h))⟩
theorem Off.below {w w' : World} (h : Off none' w w') : Below w.heap.size w w' := ⟨h.os, h.tape, h.output, h.size, fun k hk => h.block k hk (fun e => e)⟩
theorem Off.of_below {S : Nat → Prop} {w w' : World} (h : Below w.heap.size w w') : Off S w w' := ⟨h.os, h.tape, h.output, h.size, fun k hk _ => h.block k hk⟩
theorem Off.cell {S : Nat → Prop} {w w' : World} (h : Off S w w') {a : Addr} {v : Value} (hs : ¬ S a.block) (hc : w.cell? a = some v) : w'.cell? a = some v := by
  have hl := World.block_lt_of_cell? w a hc
  rw [← hc]
  exact World.cell?_of_block (h.block _ hl hs)

structure Rep where
  has : (Nat → Prop) → World → Value → Prop
  one : ∀ {S w v}, has S w v → v.oneCell' = true
  step : ∀ {S S' w w' v}, has S w v → Off S w w' → (∀ k, S' k → S k ∨ w.heap.size ≤ k) → has S' w' v
inductive CA where
  | val (v : Value)
  | sat (r : Rep)
def CA.has (S : Nat → Prop) (w : World) : CA → Value → Prop
  | .val u, v => v = u
  | .sat r, v => r.has S w v
theorem CA.has.step {c : CA} {S S' : Nat → Prop} {w w' : World} {v : Value} (h : c.has S w v) (ho : Off S w w') (hs : ∀ k, S' k → S k ∨ w.heap.size ≤ k) : c.has S' w' v := by
  cases c with
  | val u => exact h
  | sat r => exact r.step h ho hs

def GlobOK (S : Nat → Prop) (w : World) : Prop := (∀ g l, (g, l) ∈ glob → ¬ S g ∧ g < w.heap.size ∧ ∀ (i : Nat) (u : Value), l[i]? = some u → w.cell? ⟨g, i, none⟩ = some u) ∧ ∀ g, g ∈ globI → ¬ S g ∧ g < w.heap.size ∧ ∃ m, w.cell? ⟨g, 0, none⟩ = some (.int .i64 m)
theorem GlobOK.step {S S' : Nat → Prop} {w w' : World} (h : GlobOK S w) (ho : Off S w w') (hs : ∀ k, S' k → S k ∨ w.heap.size ≤ k) : GlobOK S' w' := by
  have key : ∀ g, ¬ S g → g < w.heap.size → ¬ S' g := fun g h1 h2 hk => by
    rcases hs g hk with h4 | h4
    · exact h1 h4
    · omega
  refine ⟨fun g l hg => ?_, fun g hg => ?_⟩
  · obtain ⟨h1, h2, h3⟩ := h.1 g l hg
    exact ⟨key g h1 h2, Nat.lt_of_lt_of_le h2 ho.size, fun i u hi => ho.cell h1 (h3 i u hi)⟩
  · obtain ⟨h1, h2, m, h3⟩ := h.2 g hg
    exact ⟨key g h1 h2, Nat.lt_of_lt_of_le h2 ho.size, m, ho.cell h1 h3⟩
theorem GlobOK.sub {S S' : Nat → Prop} {w : World} (h : GlobOK S w) (hs : ∀ k, S' k → S k) : GlobOK S' w := ⟨fun g l hg => let ⟨h1, h2⟩ := h.1 g l hg; ⟨fun hk => h1 (hs g hk), h2⟩, fun g hg => let ⟨h1, h2⟩ := h.2 g hg; ⟨fun hk => h1 (hs g hk), h2⟩⟩
def All2 {α β : Type} (p : α → β → Prop) : List α → List β → Prop
  | [], [] => True
  | a :: l, b :: m => p a b ∧ All2 p l m
  | _, _ => False
theorem All2.mono {α β : Type} {p q : α → β → Prop} : ∀ {l : List α} {m : List β}, All2 p l m → (∀ a b, a ∈ l → p a b → q a b) → All2 q l m
  | [], [], _, _ => trivial
  | a :: l, b :: m, h, k => ⟨k a b (by simp) h.1, All2.mono h.2 fun a b ha => k a b (by simp [ha])⟩
  | [], _ :: _, h, _ => h.elim
  | _ :: _, [], h, _ => h.elim
theorem All2.length {α β : Type} {p : α → β → Prop} : ∀ {l : List α} {m : List β}, All2 p l m → l.length = m.length
  | [], [], _ => rfl
  | _ :: l, _ :: m, h => by simp [All2.length h.2]
  | [], _ :: _, h => h.elim
  | _ :: _, [], h => h.elim
theorem All2.get {α β : Type} {p : α → β → Prop} : ∀ {l : List α} {m : List β}, All2 p l m → ∀ {i : Nat} {a : α}, l[i]? = some a → ∃ b, m[i]? = some b ∧ p a b
  | [], [], _, i, a, h => by simp at h
  | x :: l, y :: m, h, 0, a, hi => by simp at hi; subst hi; exact ⟨y, by simp, h.1⟩
  | x :: l, y :: m, h, i + 1, a, hi => by simp at hi; simpa using All2.get h.2 hi
  | [], _ :: _, h, _, _, _ => h.elim
  | _ :: _, [], h, _, _, _ => h.elim
theorem All2.get' {α β : Type} {p : α → β → Prop} : ∀ {l : List α} {m : List β}, All2 p l m → ∀ {i : Nat} {b : β}, m[i]? = some b → ∃ a, l[i]? = some a ∧ p a b
  | [], [], _, i, a, h => by simp at h
  | x :: l, y :: m, h, 0, a, hi => by simp at hi; subst hi; exact ⟨x, by simp, h.1⟩
  | x :: l, y :: m, h, i + 1, a, hi => by simp at hi; simpa using All2.get' h.2 hi
  | [], _ :: _, h, _, _, _ => h.elim
  | _ :: _, [], h, _, _, _ => h.elim
theorem All2.take {α β : Type} {p : α → β → Prop} : ∀ {l : List α} {m : List β} (n : Nat), All2 p l m → All2 p (l.take n) (m.take n)
  | _, _, 0, _ => by simp [All2]
  | [], [], n + 1, _ => by simp [All2]
  | x :: l, y :: m, n + 1, h => by simpa [All2] using ⟨h.1, All2.take n h.2⟩
  | [], _ :: _, _ + 1, h => h.elim
  | _ :: _, [], _ + 1, h => h.elim
theorem All2.drop {α β : Type} {p : α → β → Prop} : ∀ {l : List α} {m : List β} (n : Nat), All2 p l m → All2 p (l.drop n) (m.drop n)
  | _, _, 0, h => by simpa using h
  | [], [], n + 1, _ => by simp [All2]
  | x :: l, y :: m, n + 1, h => by simpa using All2.drop n h.2
  | [], _ :: _, _ + 1, h => h.elim
  | _ :: _, [], _ + 1, h => h.elim
theorem All2.append {α β : Type} {p : α → β → Prop} : ∀ {l : List α} {m : List β} {l' : List α} {m' : List β}, All2 p l m → All2 p l' m' → All2 p (l ++ l') (m ++ m')
  | [], [], _, _, _, k => k
  | x :: l, y :: m, _, _, h, k => ⟨h.1, All2.append h.2 k⟩
  | [], _ :: _, _, _, h, _ => h.elim
  | _ :: _, [], _, _, h, _ => h.elim
structure Env where
  blk : Nat → Nat
  sl : Nat → Value
  fp : Nat → Nat → Prop
inductive Atom where
  | c (a : CA)
  | ptr (b off : Nat)
  | own (b : Nat)
  | rptr (b off : Nat)
  | clo (f : FuncId) (cap : List (Nat × Nat))
  | bnd (f : FuncId) (b : Nat)
  | rel (b : Nat) (R : Nat → Value → Value → Prop)
def Atom.has (E : Env) (S : Nat → Prop) (w : World) : Atom → Value → Prop
  | .c a, v => a.has S w v
  | .ptr b off, v => v = .pointer (some ⟨E.blk b, off, none⟩)
  | .own b, v => v = E.sl b ∧ v.oneCell' = true
  | .rptr b off, v => ∃ g n cap, E.sl b = .slice (some ⟨g, 0, none⟩) n cap ∧ v = .pointer (some ⟨g, off, none⟩)
  | .clo f cap, v => v = .func (.func f) #[] (cap.map fun p => Value.pointer (some ⟨E.blk p.1, p.2, none⟩)).toArray
  | .bnd f b, v => v = .func (.func f) #[.pointer (some ⟨E.blk b, 0, none⟩)] #[]
  | .rel b R, v => R (E.blk b) (E.sl b) v ∧ v.oneCell' = true
def Atom.ids : Atom → List Nat
  | .c _ => []
  | .ptr b _ => [b]
  | .own b => [b]
  | .rptr b _ => [b]
  | .clo _ cap => cap.map (·.1)
  | .bnd _ b => [b]
  | .rel b _ => [b]
inductive AV0 where
  | one (a : Atom)
  | agg (l : List Atom)
def AV0.has (E : Env) (S : Nat → Prop) (w : World) : AV0 → Value → Prop
  | .one a, v => a.has E S w v
  | .agg l, v => ∃ vs : List Value, v = .agg vs.toArray ∧ All2 (Atom.has E S w) l vs
def AV0.ids : AV0 → List Nat
  | .one a => a.ids
  | .agg l => l.flatMap Atom.ids
inductive AV where
  | it (x : AV0)
  | tup (l : List AV0)
def AV.has (E : Env) (S : Nat → Prop) (w : World) : AV → Value → Prop
  | .it x, v => x.has E S w v
  | .tup l, v => ∃ vs : List Value, v = .tuple vs.toArray ∧ All2 (AV0.has E S w) l vs
def AV.ids : AV → List Nat
  | .it x => x.ids
  | .tup l => l.flatMap AV0.ids
abbrev AV.v (v : Value) : AV := .it (.one (.c (.val v)))
abbrev AV.r (r : Rep) : AV := .it (.one (.c (.sat r)))
abbrev AV.ptr (b off : Nat) : AV := .it (.one (.ptr b off))
abbrev AV.own (b : Nat) : AV := .it (.one (.own b))
abbrev AV.agg (l : List Atom) : AV := .it (.agg l)

structure AEnt where
  has : Nat → Value → (Nat → Prop) → (Nat → Prop) → World → Prop
  step : ∀ {b v X S S' w w'}, has b v X S w → Off S w w' → (∀ k, S' k → S k ∨ w.heap.size ≤ k) → (∀ k, X k → w'.heap[k]? = w.heap[k]?) → has b v X S' w'
inductive Ent where
  | abs (A : AEnt)
  | box (t : TypeId) (cells : List Atom)
  | row (t : TypeId) (size n : Nat) (cells : List CA)
def Ent.has (E : Env) (S : Nat → Prop) (w : World) (b : Nat) : Ent → Prop
  | .box t cells => ∃ cs : List Value, w.heap[E.blk b]? = some (.cells cs.toArray t (0, 0)) ∧ All2 (Atom.has E S w) cells cs
  | .row t size n cells => ∃ vs : List Value, w.ownsRow 0 t size (E.sl b) n vs ∧ All2 (CA.has S w) cells vs
  | .abs A => A.has (E.blk b) (E.sl b) (E.fp b) S w
def Ent.at (e : Ent) (E : Env) (b : Nat) (k : Nat) : Prop := match e with
  | .box _ _ => some (E.blk b) = some k
  | .row _ _ _ _ => (E.sl b).ownBlock = some k
  | .abs _ => E.fp b k
def Ent.ids : Ent → List Nat
  | .abs _ => []
  | .box _ cells => cells.flatMap Atom.ids
  | .row _ _ _ _ => []
inductive Slot where
  | free
  | gone
  | ent (e : Ent)
def Slot.used : Slot → Bool
  | .free => false
  | _ => true
structure St where
  tm : Nat → Option AV
  hp : Nat → Slot
def upd {α : Type} (f : Nat → α) (k : Nat) (v : α) : Nat → α := fun j => match Nat.beq j k with | true => v | false => f j
@[simp] theorem upd_same {α : Type} (f : Nat → α) (k : Nat) (v : α) : upd f k v k = v := by simp [upd]
theorem upd_ne {α : Type} (f : Nat → α) {k j : Nat} (v : α) (h : j ≠ k) : upd f k v j = f j := by
  have : Nat.beq j k = false := by rw [Bool.eq_false_iff]; simpa using h
  simp [upd, this]
theorem upd_comm {α : Type} (f : Nat → α) {k j : Nat} (v u : α) (h : j ≠ k) : upd (upd f k v) j u = upd (upd f j u) k v := by
  funext i
  by_cases h1 : i = k
  · subst h1; rw [upd_ne _ _ (fun e => h e.symm), upd_same, upd_same]
  · by_cases h2 : i = j
    · subst h2; rw [upd_same, upd_ne _ _ h1, upd_same]
    · rw [upd_ne _ _ h2, upd_ne _ _ h1, upd_ne _ _ h1, upd_ne _ _ h2]

structure Ctx where
  w0 : World
  T : Nat → Prop
  B : Nat → Prop
  nt : Nat
  E0 : Env
  fix : Nat → Bool
structure SatE (C : Ctx) (st : St) (E : Env) (S : Nat → Prop) (a : Act) (w : World) : Prop where
  dfr : a.defers = []
  nt : a.tmps.size = C.nt
  cT : ∀ k, C.T k → S k
  cT0 : ∀ k, C.T k → k < C.w0.heap.size
  cS : ∀ k, S k → C.T k ∨ C.w0.heap.size ≤ k
  lt : ∀ k, S k → k < w.heap.size
  tm : ∀ t v, st.tm t = some v → v.has E S w (a.tmps.getD t undef)
  tid : ∀ t v, st.tm t = some v → ∀ b ∈ v.ids, (st.hp b).used = true
  hp : ∀ b e, st.hp b = .ent e → e.has E S w b
  hid : ∀ b e, st.hp b = .ent e → ∀ b' ∈ e.ids, (st.hp b').used = true
  blk : ∀ b e k, st.hp b = .ent e → e.at E b k → S k ∧ (C.B k ∨ C.w0.heap.size ≤ k)
  sep : ∀ b b' e e' k, b ≠ b' → st.hp b = .ent e → st.hp b' = .ent e' → e.at E b k → ¬ e'.at E b' k
  off : Off C.B C.w0 w
  env : ∀ b, C.fix b = true → E.blk b = C.E0.blk b ∧ E.sl b = C.E0.sl b ∧ (st.hp b).used = true
  gl : GlobOK S w
def Sat (C : Ctx) (st : St) (a : Act) (w : World) : Prop := ∃ E S, SatE C st E S a w
end SX
set_option linter.unusedVariables false
set_option linter.unusedSimpArgs false
namespace SX
open Go Go.RowKit

structure Out where
  res : AV
  hp : List (Nat × Slot)
def updL (f : Nat → Slot) : List (Nat × Slot) → Nat → Slot
  | [] => f
  | (k, s) :: l => updL (upd f k s) l
def putT (f : Nat → Option AV) (dst : Option Tmp) (v : Option AV) : Nat → Option AV :=
  match dst with
  | some d => upd f d v
  | none => f
def St.put (st : St) (dst : Option Tmp) (v : Option AV) : St := ⟨putT st.tm dst v, st.hp⟩
def St.app (st : St) (dst : Option Tmp) (out : Out) : St := ⟨putT st.tm dst (some out.res), updL st.hp out.hp⟩
def St.ev (st : St) : Operand → Option AV
  | .tmp t => st.tm t
  | .const (.agg _) => none
  | .const (.tuple _) => none
  | .const v => some (.v v)
  | .global g => some (.v (.pointer (some ⟨g, 0, none⟩)))
  | .func f => some (.it (.one (.clo f [])))

def OpOK (P : Program) (C : Ctx) (o : Oper) (st : St) (fp : List Nat) (out : Out) : Prop :=
  ∀ st' : St, (∀ x ∈ o.op.operands, st'.ev x = st.ev x) → (∀ b ∈ fp, st'.hp b = st.hp b) → ∀ a w, Sat C st' a w → ∀ (K : Act → World → Prop) (Q : Exit → Act → World → Prop),
    (∀ v w', Sat C (st'.app o.dst out) (a.put o.dst v) w' → K (a.put o.dst v) w') → o.wp P a w K Q

inductive Dec where
  | run (fp : List Nat) (out : Out)
  | skip
def Dec.app (d : Dec) (o : Oper) (st : St) : St :=
  match d with
  | .run _ out => st.app o.dst out
  | .skip => st.put o.dst (some (.v undef))
def Dec.fp : Dec → List Nat
  | .run fp _ => fp
  | .skip => []
def Dec.wr : Dec → List Nat
  | .run _ out => out.hp.map (·.1)
  | .skip => []
def Guard (ops : List Oper) (o : Oper) (st : St) (want : Bool) : Prop :=
  match o.guard with
  | none => want = true
  | some (j, b) => ∃ t, (ops[j]?).bind (·.dst) = some t ∧ ((∃ b', st.tm t = some (.v (.bool b')) ∧ (b' == b) = want) ∨ (st.tm t = some (.v undef) ∧ want = false))
def DecOK (P : Program) (C : Ctx) (ops : List Oper) (o : Oper) (st : St) : Dec → Prop
  | .run fp out => Guard ops o st true ∧ OpOK P C o st fp out
  | .skip => Guard ops o st false
def Tr (P : Program) (C : Ctx) (ops : List Oper) : List (Oper × Dec) → St → St → Prop
  | [], st, st' => st = st'
  | (o, d) :: l, st, st' => DecOK P C ops o st d ∧ Tr P C ops l (d.app o st) st'

def mask (acc : List Nat) (o : Oper) : Nat :=
  o.after.toList.foldl (fun s e => if Region.binds .any e then s ||| (2 ^ e.on ||| acc.getD e.on 0) else s) 0
def befs : List Oper → List Nat → List Nat
  | [], acc => acc
  | o :: rest, acc => befs rest (acc ++ [mask acc o])
def bef (ops : List Oper) (j i : Nat) : Bool := ((befs ops []).getD j 0).testBit i
def disj (l m : List Nat) : Bool := l.all fun x => !m.contains x
def far (x y : List Nat × List Nat) : Bool := disj x.2 y.1 && disj y.2 x.1
def checkOne (ops : Array Oper) (m : Nat) (oj : Oper) (fj : List Nat × List Nat) : Nat → List (Oper × (List Nat × List Nat)) → Bool
  | _, [] => true
  | i, (o, f) :: l => (m.testBit i || (o.apart ops oj && far f fj)) && checkOne ops m oj fj (i + 1) l
def checkAll (ops : Array Oper) : List (Oper × (List Nat × List Nat)) → List (Oper × (List Nat × List Nat)) → List Nat → Bool
  | _, [], _ => true
  | done, (o, f) :: l, m :: ms => checkOne ops m o f 0 done && f.2.all f.1.contains && o.after.all (fun e => !Region.binds .any e || decide (e.on < done.length)) && checkAll ops (done ++ [(o, f)]) l ms
  | _, _ :: _, [] => false
def check (ops : Array Oper) (feet : List (List Nat × List Nat)) : Bool :=
  feet.length == ops.size && checkAll ops [] (ops.toList.zip feet) (befs ops.toList [])
def foot (d : Dec) : List Nat × List Nat := (d.fp, d.wr)

theorem put_hp {st : St} {dst : Option Tmp} {v : Option AV} : (st.put dst v).hp = st.hp := rfl
theorem updL_comm1 (f : Nat → Slot) (k : Nat) (s : Slot) : ∀ l : List (Nat × Slot), (∀ p ∈ l, p.1 ≠ k) → updL (upd f k s) l = upd (updL f l) k s
  | [], _ => rfl
  | (j, u) :: l, h => by
    have hj : j ≠ k := h (j, u) (by simp)
    show updL (upd (upd f k s) j u) l = upd (updL (upd f j u) l) k s
    rw [upd_comm f s u hj]
    exact updL_comm1 (upd f j u) k s l (fun p hp => h p (by simp [hp]))
theorem updL_comm (f : Nat → Slot) (m : List (Nat × Slot)) : ∀ l : List (Nat × Slot), (∀ p ∈ l, ∀ q ∈ m, p.1 ≠ q.1) → updL (updL f l) m = updL (updL f m) l
  | [], _ => rfl
  | (j, u) :: l, h => by
    show updL (updL (upd f j u) l) m = updL (upd (updL f m) j u) l
    rw [updL_comm (upd f j u) m l (fun p hp q hq => h p (by simp [hp]) q hq), updL_comm1 f j u m (fun q hq => (h (j, u) (by simp) q hq).symm)]
theorem updL_other (b : Nat) : ∀ (l : List (Nat × Slot)) (f : Nat → Slot), (∀ p ∈ l, p.1 ≠ b) → updL f l b = f b
  | [], _, _ => rfl
  | (j, u) :: l, f, h => by
    show updL (upd f j u) l b = f b
    rw [updL_other b l _ (fun p hp => h p (by simp [hp])), upd_ne _ _ (fun e => h (j, u) (by simp) e.symm)]

theorem disj_spec {l m : List Nat} (h : disj l m = true) {x : Nat} (hx : x ∈ l) : x ∉ m := by
  unfold disj at h
  rw [List.all_eq_true] at h
  have := h x hx
  simpa using this
theorem Dec.app_comm {d e : Dec} {o p : Oper} {ops : Array Oper} (st : St) (h1 : o.apart ops p = true) (h2 : far (foot d) (foot e) = true) (hd : ∀ x ∈ d.wr, x ∈ d.fp) :
    d.app o (e.app p st) = e.app p (d.app o st) := by
  obtain ⟨_, hne, _⟩ := Oper.apart_spec h1
  have hw : ∀ x ∈ d.wr, ∀ y ∈ e.wr, x ≠ y := by
    intro x hx y hy e
    subst e
    unfold far at h2
    rw [Bool.and_eq_true] at h2
    exact disj_spec h2.2 hy (hd x hx)
  have hput : ∀ (f : Nat → Option AV) (v u : Option AV), putT (putT f p.dst u) o.dst v = putT (putT f o.dst v) p.dst u := by
    intro f v u
    cases ho : o.dst with
    | none => rfl
    | some x =>
      cases hp : p.dst with
      | none => rfl
      | some y =>
        have : x ≠ y := fun e => hne x ho (by rw [hp, e])
        exact upd_comm f u v this
  have hext : ∀ {x y : St}, x.tm = y.tm → x.hp = y.hp → x = y := by
    intro x y h1 h2; cases x; cases y; simp_all
  cases d with
  | run fd od =>
    cases e with
    | run fe oe =>
      refine hext (hput _ _ _) (updL_comm st.hp od.hp oe.hp (fun q hq q' hq' e => hw q'.1 (by simp [Dec.wr]; exact ⟨_, hq'⟩) q.1 (by simp [Dec.wr]; exact ⟨_, hq⟩) e.symm))
    | skip => exact hext (hput _ _ _) rfl
  | skip =>
    cases e with
    | run fe oe => exact hext (hput _ _ _) rfl
    | skip => exact hext (hput _ _ _) rfl

def appL (L : Nat → Bool) : Nat → List (Oper × Dec) → St → St
  | _, [], st => st
  | i, (o, d) :: l, st => appL L (i + 1) l (match L i with | true => d.app o st | false => st)
theorem appL_append (L : Nat → Bool) : ∀ (l m : List (Oper × Dec)) (i : Nat) (st : St), appL L i (l ++ m) st = appL L (i + l.length) m (appL L i l st)
  | [], m, i, st => rfl
  | (o, d) :: l, m, i, st => by
    show appL L (i + 1) (l ++ m) _ = _
    rw [appL_append L l m (i + 1)]
    simp [appL, Nat.add_assoc, Nat.add_comm 1]
theorem appL_congr (L L' : Nat → Bool) : ∀ (l : List (Oper × Dec)) (i : Nat) (st : St), (∀ k, i ≤ k → k < i + l.length → L k = L' k) → appL L i l st = appL L' i l st
  | [], _, _, _ => rfl
  | (o, d) :: l, i, st, h => by
    simp only [appL, h i (Nat.le_refl _) (by simp)]
    exact appL_congr L L' l (i + 1) _ (fun k h1 h2 => h k (by omega) (by simp; omega))
theorem put_tm_other {st : St} {dst : Option Tmp} {v : Option AV} {t : Tmp} (h : dst ≠ some t) : (st.put dst v).tm t = st.tm t := by
  cases dst with
  | none => rfl
  | some d => exact upd_ne _ _ (fun e => h (by rw [e]))
theorem Dec.app_tm {d : Dec} {o : Oper} {st : St} {t : Tmp} (h : o.dst ≠ some t) : (d.app o st).tm t = st.tm t := by
  cases d with
  | run fp out => exact put_tm_other h
  | skip => exact put_tm_other h
theorem Dec.app_hp {d : Dec} {o : Oper} {st : St} {b : Nat} (h : b ∉ d.wr) : (d.app o st).hp b = st.hp b := by
  cases d with
  | run fp out =>
    refine updL_other b out.hp st.hp (fun p hp e => h ?_)
    rw [← e]; exact List.mem_map.2 ⟨p, hp, rfl⟩
  | skip => rw [show (Dec.skip.app o st) = st.put o.dst (some (.v undef)) from rfl, put_hp]
theorem appL_tm (L : Nat → Bool) (t : Tmp) : ∀ (l : List (Oper × Dec)) (i : Nat) (st st' : St), st.tm t = st'.tm t → ∀ L' : Nat → Bool,
    (∀ k o d, l[k]? = some (o, d) → o.dst = some t → L (i + k) = L' (i + k)) → (appL L i l st).tm t = (appL L' i l st').tm t
  | [], _, _, _, h, _, _ => h
  | (o, d) :: l, i, st, st', h, L', hl => by
    have h0 : (match L i with | true => d.app o st | false => st).tm t = (match L' i with | true => d.app o st' | false => st').tm t := by
      by_cases ht : o.dst = some t
      · have := hl 0 o d (by simp) ht
        simp only [Nat.add_zero] at this
        rw [this]
        cases L' i with
        | false => exact h
        | true => cases d <;> simp [Dec.app, St.app, St.put, putT, ht]
      · cases L i <;> cases L' i <;> simp only [Dec.app_tm ht] <;> exact h
    exact appL_tm L t l (i + 1) _ _ h0 L' (fun k o' d' hk hd => by have := hl (k + 1) o' d' (by simpa using hk) hd; rwa [show i + (k + 1) = i + 1 + k by omega] at this)
theorem updL_eq (b : Nat) : ∀ (l : List (Nat × Slot)) (f g : Nat → Slot), f b = g b → updL f l b = updL g l b
  | [], _, _, h => h
  | (j, u) :: l, f, g, h => by
    refine updL_eq b l _ _ ?_
    by_cases e : b = j
    · subst e; simp
    · rw [upd_ne _ _ e, upd_ne _ _ e]; exact h
theorem updL_wr (b : Nat) : ∀ (l : List (Nat × Slot)) (f g : Nat → Slot), b ∈ l.map (·.1) → updL f l b = updL g l b
  | [], _, _, h => by simp at h
  | (j, u) :: l, f, g, h => by
    by_cases e : b ∈ l.map (·.1)
    · exact updL_wr b l _ _ e
    · have : b = j := by
        simp only [List.map_cons, List.mem_cons] at h
        exact h.resolve_right e
      subst this
      exact updL_eq b l _ _ (by simp)
theorem appL_hp (L : Nat → Bool) (b : Nat) : ∀ (l : List (Oper × Dec)) (i : Nat) (st st' : St), st.hp b = st'.hp b → ∀ L' : Nat → Bool,
    (∀ k o d, l[k]? = some (o, d) → b ∈ d.wr → L (i + k) = L' (i + k)) → (appL L i l st).hp b = (appL L' i l st').hp b
  | [], _, _, _, h, _, _ => h
  | (o, d) :: l, i, st, st', h, L', hl => by
    have h0 : (match L i with | true => d.app o st | false => st).hp b = (match L' i with | true => d.app o st' | false => st').hp b := by
      by_cases ht : b ∈ d.wr
      · have := hl 0 o d (by simp) ht
        simp only [Nat.add_zero] at this
        rw [this]
        cases L' i with
        | false => exact h
        | true =>
          cases d with
          | run fp out => exact updL_wr b out.hp _ _ ht
          | skip => simp [Dec.wr] at ht
      · cases L i <;> cases L' i <;> simp only [Dec.app_hp ht] <;> exact h
    exact appL_hp L b l (i + 1) _ _ h0 L' (fun k o' d' hk hd => by have := hl (k + 1) o' d' (by simpa using hk) hd; rwa [show i + (k + 1) = i + 1 + k by omega] at this)
theorem appL_last (ops : Array Oper) (L : Nat → Bool) (o : Oper) (d : Dec) (hd : ∀ x ∈ d.wr, x ∈ d.fp) : ∀ (l : List (Oper × Dec)) (i : Nat) (st : St),
    (∀ k p e, l[k]? = some (p, e) → L (i + k) = true → o.apart ops p = true ∧ far (foot d) (foot e) = true) →
    appL L i l (d.app o st) = d.app o (appL L i l st)
  | [], _, _, _ => rfl
  | (p, e) :: l, i, st, h => by
    have hrec := fun st => appL_last ops L o d hd l (i + 1) st (fun k p' e' hk hL => h (k + 1) p' e' (by simpa using hk) (by rwa [show i + (k + 1) = i + 1 + k by omega]))
    simp only [appL]
    cases hL : L i with
    | false => exact hrec st
    | true =>
      obtain ⟨h1, h2⟩ := h 0 p e (by simp) (by simpa using hL)
      simp only []
      rw [← Dec.app_comm st h1 h2 hd]
      exact hrec _
end SX
set_option linter.unusedVariables false
set_option linter.unusedSimpArgs false
namespace SX
open Go Go.RowKit

theorem checkOne_spec {ops : Array Oper} {m : Nat} {oj : Oper} {fj : List Nat × List Nat} : ∀ (l : List (Oper × (List Nat × List Nat))) (i : Nat), checkOne ops m oj fj i l = true →
    ∀ k o f, l[k]? = some (o, f) → m.testBit (i + k) = true ∨ (o.apart ops oj = true ∧ far f fj = true)
  | [], _, _, k, o, f, h => by simp at h
  | (p, g) :: l, i, hc, k, o, f, h => by
    simp only [checkOne, Bool.and_eq_true, Bool.or_eq_true] at hc
    cases k with
    | zero => simp at h; obtain ⟨rfl, rfl⟩ := h; simpa using hc.1
    | succ k =>
      have := checkOne_spec l (i + 1) hc.2 k o f (by simpa using h)
      rwa [show i + (k + 1) = i + 1 + k by omega]
theorem checkAll_spec {ops : Array Oper} : ∀ (l done : List (Oper × (List Nat × List Nat))) (ms : List Nat), checkAll ops done l ms = true → ∀ j o f, l[j]? = some (o, f) →
    (∃ m, ms[j]? = some m ∧ checkOne ops m o f 0 (done ++ l.take j) = true) ∧ (∀ x ∈ f.2, x ∈ f.1) ∧ (∀ e ∈ o.after, Region.binds .any e = true → e.on < done.length + j)
  | [], _, _, _, j, o, f, h => by simp at h
  | (p, g) :: l, done, [], hc, j, o, f, h => by simp [checkAll] at hc
  | (p, g) :: l, done, m :: ms, hc, j, o, f, h => by
    simp only [checkAll, Bool.and_eq_true] at hc
    obtain ⟨⟨⟨h1, h2⟩, h3⟩, h4⟩ := hc
    cases j with
    | zero =>
      simp at h
      obtain ⟨rfl, rfl⟩ := h
      refine ⟨⟨m, rfl, by simpa using h1⟩, fun x hx => ?_, fun e he hb => ?_⟩
      · rw [List.all_eq_true] at h2; simpa using h2 x hx
      · have := Array.all_eq_true_iff_forall_mem.1 h3 e he
        simp [hb] at this
        simpa using this
    | succ j =>
      obtain ⟨⟨m', a, b⟩, c, d⟩ := checkAll_spec l (done ++ [(p, g)]) ms h4 j o f (by simpa using h)
      refine ⟨⟨m', by simpa using a, by simpa using b⟩, c, fun e he hb => ?_⟩
      have := d e he hb
      simp at this
      omega
theorem mask_spec {acc : List Nat} {o : Oper} {k : Nat} (h : (mask acc o).testBit k = true) : ∃ e ∈ o.after, Region.binds .any e = true ∧ (e.on = k ∨ (acc.getD e.on 0).testBit k = true) := by
  have key : ∀ (l : List Edge) (s : Nat), (l.foldl (fun s e => if Region.binds .any e then s ||| (2 ^ e.on ||| acc.getD e.on 0) else s) s).testBit k = true →
      s.testBit k = true ∨ ∃ e ∈ l, Region.binds .any e = true ∧ (e.on = k ∨ (acc.getD e.on 0).testBit k = true) := by
    intro l
    induction l with
    | nil => intro s h; exact .inl h
    | cons e l ih =>
      intro s h
      simp only [List.foldl_cons] at h
      rcases ih _ h with h1 | ⟨e', he', hb', hk'⟩
      · by_cases hb : Region.binds .any e = true
        · simp only [hb, if_true, Nat.testBit_or, Bool.or_eq_true] at h1
          rcases h1 with h1 | h1 | h1
          · exact .inl h1
          · rw [Nat.testBit_two_pow] at h1
            exact .inr ⟨e, by simp, hb, .inl (by simpa using h1)⟩
          · exact .inr ⟨e, by simp, hb, .inr h1⟩
        · simp only [hb] at h1
          exact .inl h1
      · exact .inr ⟨e', by simp [he'], hb', hk'⟩
  unfold mask at h
  rcases key _ _ h with h1 | ⟨e, he, hb, hk⟩
  · simp at h1
  · exact ⟨e, Array.mem_toList_iff.1 he, hb, hk⟩
theorem befs_pre : ∀ (l : List Oper) (acc : List Nat), (befs l acc).take acc.length = acc ∧ (befs l acc).length = acc.length + l.length
  | [], acc => by simp [befs]
  | o :: l, acc => by
    obtain ⟨h1, h2⟩ := befs_pre l (acc ++ [mask acc o])
    refine ⟨?_, by rw [befs, h2]; simp; omega⟩
    have := congrArg (List.take acc.length) h1
    rw [List.take_take] at this
    simpa [befs, Nat.min_eq_left] using this
theorem befs_at : ∀ (l : List Oper) (acc : List Nat) (j : Nat) (o : Oper), l[j]? = some o → (befs l acc)[acc.length + j]? = some (mask ((befs l acc).take (acc.length + j)) o)
  | [], _, _, _, h => by simp at h
  | p :: l, acc, 0, o, h => by
    simp at h
    subst h
    obtain ⟨h1, h2⟩ := befs_pre l (acc ++ [mask acc p])
    have h3 : (befs (p :: l) acc).take acc.length = acc := (befs_pre (p :: l) acc).1
    rw [Nat.add_zero, h3]
    have : ((befs l (acc ++ [mask acc p])).take (acc ++ [mask acc p]).length)[acc.length]? = some (mask acc p) := by rw [h1]; simp
    rw [List.getElem?_take] at this
    simpa [befs] using this
  | p :: l, acc, j + 1, o, h => by
    have := befs_at l (acc ++ [mask acc p]) j o (by simpa using h)
    simp only [List.length_append, List.length_singleton] at this
    rw [show acc.length + 1 + j = acc.length + (j + 1) by omega] at this
    exact this
theorem bef_spec {ops : List Oper} {j k : Nat} {o : Oper} (ho : ops[j]? = some o) (h : bef ops j k = true) :
    ∃ e ∈ o.after, Region.binds .any e = true ∧ (e.on = k ∨ bef ops e.on k = true) := by
  have h1 := befs_at ops [] j o ho
  simp only [List.length_nil, Nat.zero_add] at h1
  unfold bef at h
  rw [List.getD_eq_getElem?_getD, h1] at h
  obtain ⟨e, he, hb, hk⟩ := mask_spec h
  refine ⟨e, he, hb, hk.imp id fun hk => ?_⟩
  unfold bef
  rw [List.getD_eq_getElem?_getD, List.getElem?_take] at hk
  split at hk
  · simpa [List.getD_eq_getElem?_getD] using hk
  · simp at hk

theorem count_set : ∀ (l : List Bool) (i : Nat), l[i]? = some false → (l.set i true).count false + 1 = l.count false
  | [], i, h => by simp at h
  | b :: l, 0, h => by simp at h; subst h; simp
  | b :: l, i + 1, h => by
    have := count_set l i (by simpa using h)
    cases b <;> simp <;> omega
theorem count_zero : ∀ (l : List Bool), l.count false = 0 → ∀ i, i < l.length → l[i]? = some true
  | [], _, i, h => by simp at h
  | b :: l, hc, i, h => by
    cases b with
    | false => simp at hc
    | true =>
      cases i with
      | zero => simp
      | succ i => simpa using count_zero l (by simpa using hc) i (by simpa using h)

section
variable {P : Program} {C : Ctx} {ops : Array Oper} {ods : List (Oper × Dec)} {st : St} {Q : Exit → Act → World → Prop}

theorem ev_of_tm {st st' : St} {o : Oper} (h : ∀ t, t ∈ o.looksAt ops → st'.tm t = st.tm t) : ∀ x ∈ o.op.operands, st'.ev x = st.ev x := by
  intro x hx
  cases x with
  | tmp t =>
    refine h t ?_
    unfold Oper.looksAt
    rw [List.mem_append, List.mem_filterMap]
    exact .inl ⟨.tmp t, Array.mem_toList_iff.2 hx, rfl⟩
  | const v => cases v <;> rfl
  | global g => rfl
  | func f => rfl
theorem undef_ne_bool {b : Bool} : undef ≠ Value.bool b := by intro h; cases h
theorem Sat.bool {a : Act} {w : World} {t : Tmp} {b : Bool} (h : Sat C st a w) (ht : st.tm t = some (.v (.bool b))) : a.tmps[t]? = some (.bool b) := by
  obtain ⟨E, S, h⟩ := h
  have h1 : a.tmps.getD t undef = .bool b := h.tm t _ ht
  rw [Array.getD_eq_getD_getElem?] at h1
  cases h2 : a.tmps[t]? with
  | none => rw [h2] at h1; exact absurd h1 undef_ne_bool
  | some v => rw [h2] at h1; simp at h1; rw [h1]
theorem Sat.undef {a : Act} {w : World} {t : Tmp} (h : Sat C st a w) (ht : st.tm t = some (.v Go.undef)) : a.tmps.getD t Go.undef = Go.undef := by
  obtain ⟨E, S, h⟩ := h
  exact h.tm t _ ht
theorem guard_wanted {o : Oper} {a : Act} {w : World} {want : Bool} (hg : Guard ops.toList o st want) (h : Sat C st a w) : Region.wanted o (yielded ops a.tmps) = want := by
  unfold Guard at hg
  unfold Region.wanted
  cases hgd : o.guard with
  | none => rw [hgd] at hg; exact hg.symm
  | some p =>
    obtain ⟨j, b⟩ := p
    rw [hgd] at hg
    obtain ⟨t, h1, ⟨b', h2, h3⟩ | ⟨h2, h3⟩⟩ := hg
    · have h4 := h.bool h2
      simp only [yielded]
      rw [Array.getElem?_toList] at h1
      simp only [h1, Option.bind_some, h4]
      rw [← h3]
      cases b <;> cases b' <;> rfl
    · rw [Array.getElem?_toList] at h1
      rw [h3]
      simp only [yielded, h1, Option.bind_some]
      have h4 := h.undef h2
      rw [Array.getD_eq_getD_getElem?] at h4
      cases h5 : a.tmps[t]? with
      | none => rfl
      | some v =>
        rw [h5] at h4
        have h6 : v = Go.undef := h4
        subst h6; rfl
theorem Guard.congr {o : Oper} {st st' : St} {want : Bool} (hg : Guard ops.toList o st want) (h : ∀ t, t ∈ o.looksAt ops → st'.tm t = st.tm t) : Guard ops.toList o st' want := by
  unfold Guard at *
  cases hgd : o.guard with
  | none => rw [hgd] at hg; exact hg
  | some p =>
    obtain ⟨j, b⟩ := p
    rw [hgd] at hg
    obtain ⟨t, h1, h2⟩ := hg
    refine ⟨t, h1, ?_⟩
    rw [h t ?_]; exact h2
    unfold Oper.looksAt
    rw [hgd, List.mem_append]
    rw [Array.getElem?_toList] at h1
    exact .inr (by simp [h1])
theorem Sat.skip {o : Oper} {a : Act} {w : World} (h : Sat C st a w) : Sat C (st.put o.dst (some (.v Go.undef))) (a.put o.dst Go.undef) w := by
  obtain ⟨E, S, h⟩ := h
  cases hd : o.dst with
  | none => exact ⟨E, S, h⟩
  | some d =>
    refine ⟨E, S, { h with nt := ?_, tm := fun t v ht => ?_, tid := fun t v ht b hb => ?_ }⟩
    · simpa [Act.put] using h.nt
    · have ht' : (upd st.tm d (some (.v Go.undef))) t = some v := ht
      by_cases e : t = d
      · subst e
        rw [upd_same] at ht'
        cases ht'
        show (a.tmps.setIfInBounds t Go.undef).getD t Go.undef = Go.undef
        rw [Array.getD_eq_getD_getElem?, Array.getElem?_setIfInBounds]
        simp; split <;> rfl
      · rw [upd_ne _ _ e] at ht'
        have := h.tm t v ht'
        simp only [Act.put, Array.getD_eq_getD_getElem?] at *
        rw [Array.getElem?_setIfInBounds_ne (fun e' => e e'.symm)]
        exact this
    · have ht' : (upd st.tm d (some (.v Go.undef))) t = some v := ht
      by_cases e : t = d
      · subst e
        rw [upd_same] at ht'
        cases ht'
        cases hb
      · rw [upd_ne _ _ e] at ht'
        exact h.tid t v ht' b hb
theorem dec_wp {i : Nat} {o : Oper} {d : Dec} {st st' : St} {a : Act} {w : World} {K : Act → World → Prop} (hi : ops[i]? = some o) (hd : DecOK P C ops.toList o st d)
    (h1 : ∀ t, t ∈ o.looksAt ops → st'.tm t = st.tm t) (h2 : ∀ b ∈ d.fp, st'.hp b = st.hp b) (hs : Sat C st' a w)
    (hk : ∀ a w, Sat C (d.app o st') a w → K a w) : wpOp P ops Q i K a w := by
  unfold wpOp
  rw [hi]
  cases d with
  | run fp out =>
    obtain ⟨hg, hop⟩ := hd
    have hw := guard_wanted (Guard.congr hg h1) hs
    simp only [hw, if_true]
    exact .inl (hop st' (ev_of_tm h1) h2 a w hs K Q fun v w' h => hk _ _ h)
  | skip =>
    have hw := guard_wanted (Guard.congr hd h1) hs
    simp only [hw]
    exact hk _ _ hs.skip

theorem mem_some {l : List (Oper × Dec)} {i : Nat} (h : i < l.length) : ∃ o d, l[i]? = some (o, d) := ⟨l[i].1, l[i].2, by simp [h]⟩
theorem any_order (hops : ops.toList = ods.map (·.1)) (hc : check ops (ods.map fun p => foot p.2) = true)
    (htr : ∀ (i : Nat) (o : Oper) (d : Dec), ods[i]? = some (o, d) → DecOK P C ops.toList o (appL (fun k => decide (k < i)) 0 ods st) d)
    (hQ : ∀ a w, Sat C (appL (fun _ => true) 0 ods st) a w → Q .normal a w) :
    ∀ (fuel : Nat) (listed : Array Bool) (a : Act) (w : World), listed.size = ods.length → listed.toList.count false = fuel →
      (∀ j k, listed.getD j false = true → bef ops.toList j k = true → listed.getD k false = true) →
      Sat C (appL (fun k => listed.getD k false) 0 ods st) a w → wpAny P .any ops Q fuel listed a w := by
  have hsz : ods.length = ops.size := by have := congrArg List.length hops; simpa using this.symm
  have hat : ∀ (i : Nat) (o : Oper) (d : Dec), ods[i]? = some (o, d) → ops[i]? = some o := by
    intro i o d h
    rw [← Array.getElem?_toList, hops, List.getElem?_map, h]; rfl
  unfold check at hc
  rw [Bool.and_eq_true] at hc
  have hz : ∀ (i : Nat) (o : Oper) (d : Dec), ods[i]? = some (o, d) → (ops.toList.zip (ods.map fun p => foot p.2))[i]? = some (o, foot d) := by
    intro i o d h
    rw [List.getElem?_zip_eq_some]
    exact ⟨by rw [Array.getElem?_toList]; exact hat i o d h, by rw [List.getElem?_map, h]; rfl⟩
  have hpair : ∀ (i j : Nat) (o : Oper) (d : Dec) (p : Oper) (e : Dec), i < j → ods[i]? = some (o, d) → ods[j]? = some (p, e) → bef ops.toList j i = true ∨ (o.apart ops p = true ∧ far (foot d) (foot e) = true) := by
    intro i j o d p e hij h1 h2
    obtain ⟨⟨m, hm, h3⟩, _, _⟩ := checkAll_spec _ [] _ hc.2 j p (foot e) (hz j p e h2)
    have := checkOne_spec _ 0 h3 i o (foot d) (by rw [List.nil_append, List.getElem?_take, if_pos hij]; exact hz i o d h1)
    rw [Nat.zero_add] at this
    refine this.imp (fun h => ?_) id
    unfold bef
    rw [List.getD_eq_getElem?_getD, hm]; exact h
  have hwr : ∀ (i : Nat) (o : Oper) (d : Dec), ods[i]? = some (o, d) → ∀ x ∈ d.wr, x ∈ d.fp := fun i o d h => (checkAll_spec _ [] _ hc.2 i o (foot d) (hz i o d h)).2.1
  have hed : ∀ (i : Nat) (o : Oper) (d : Dec), ods[i]? = some (o, d) → ∀ e ∈ o.after, Region.binds .any e = true → e.on < i := fun i o d h e he hb => by
    have := (checkAll_spec _ [] _ hc.2 i o (foot d) (hz i o d h)).2.2 e he hb
    simpa using this
  intro fuel
  have fin : ∀ (listed : Array Bool) (a : Act) (w : World), listed.size = ods.length → (∀ i, i < ods.length → listed.getD i false = true) → Sat C (appL (fun k => listed.getD k false) 0 ods st) a w → Q .normal a w := by
    intro listed a w _ hall hs
    refine hQ a w ?_
    rwa [appL_congr _ (fun k => listed.getD k false) ods 0 st (fun k _ hk => (hall k (by omega)).symm)]
  have empty : ∀ (listed : Array Bool), listed.size = ods.length → Region.ready .any ops listed = [] → ∀ i, i < ods.length → listed.getD i false = true := by
    intro listed hls hr i
    induction i using Nat.strongRecOn with
    | _ i ih =>
      intro hi
      obtain ⟨o, d, ho⟩ := mem_some hi
      cases hli : listed.getD i false with
      | true => rfl
      | false =>
        have : i ∈ Region.ready .any ops listed := by
          rw [mem_ready]
          refine ⟨?_, o, hat i o d ho, fun e he hb => ih e.on (hed i o d ho e he hb) (Nat.lt_trans (hed i o d ho e he hb) hi)⟩
          have h9 : i < listed.size := by omega
          simp [h9] at hli ⊢
          exact hli
        rw [hr] at this
        cases this
  induction fuel with
  | zero =>
    intro listed a w hls hcnt hcl hs
    have hall : ∀ i, i < ods.length → listed.getD i false = true := by
      intro i hi
      have := count_zero _ hcnt i (by simpa using (by omega : i < listed.size))
      simp only [Array.getElem?_toList] at this
      simp [this]
    refine ⟨?_, fin listed a w hls hall hs⟩
    cases hr : Region.ready .any ops listed with
    | nil => rfl
    | cons i r =>
      have hi : i ∈ Region.ready .any ops listed := by rw [hr]; simp
      rw [mem_ready] at hi
      obtain ⟨h0, o, ho, _⟩ := hi
      have hlt : i < ods.length := by rw [hsz]; exact (Array.getElem?_eq_some_iff.1 ho).1
      have h1 := hall i hlt
      have h9 : i < listed.size := by omega
      simp [h9] at h0 h1
      rw [h0] at h1; cases h1
  | succ fuel ih =>
    intro listed a w hls hcnt hcl hs
    refine ⟨fun hr => fin listed a w hls (empty listed hls hr) hs, fun i hi => ?_⟩
    rw [mem_ready] at hi
    obtain ⟨h0, o', ho', hedge⟩ := hi
    have hlt : i < ods.length := by rw [hsz]; exact (Array.getElem?_eq_some_iff.1 ho').1
    obtain ⟨o, d, hod⟩ := mem_some hlt
    have hoo : o' = o := by rw [hat i o d hod] at ho'; exact (Option.some.inj ho').symm
    subst hoo
    have hli : i < listed.size := by omega
    have hfalse : listed.getD i false = false := by simp [hli] at h0 ⊢; exact h0
    -- all that must come before i is done
    have hbefore : ∀ k, bef ops.toList i k = true → listed.getD k false = true := by
      intro k hk
      obtain ⟨e, he, hb, h⟩ := bef_spec (by rw [Array.getElem?_toList]; exact ho') hk
      have h1 := hedge e he hb
      rcases h with h | h
      · rw [← h]; exact h1
      · exact hcl e.on k h1 h
    -- what i meets of those done behind it in the text lies apart
    have hafter : ∀ (k : Nat) (p : Oper) (e : Dec), i < k → ods[k]? = some (p, e) → listed.getD k false = true → o'.apart ops p = true ∧ far (foot d) (foot e) = true := by
      intro k p e hik hk hL
      rcases hpair i k o' d p e hik hod hk with h | h
      · have := hcl k i hL h
        rw [hfalse] at this; cases this
      · exact h
    have hwho : ∀ (k : Nat) (p : Oper) (e : Dec), ods[k]? = some (p, e) → ¬ (k ≠ i ∧ ((k < i → p.apart ops o' = true ∧ far (foot e) (foot d) = true) ∧ (i < k → o'.apart ops p = true ∧ far (foot d) (foot e) = true))) → decide (k < i) = listed.getD k false := by
      intro k p e hk hconf
      rcases Nat.lt_trichotomy k i with hlt' | heq | hgt
      · rw [decide_eq_true hlt']
        rcases hpair k i p e o' d hlt' hk hod with h | h
        · exact (hbefore k h).symm
        · exact absurd ⟨by omega, fun _ => h, fun h' => by omega⟩ hconf
      · subst heq; rw [hfalse]; simp
      · rw [decide_eq_false (by omega)]
        cases hL : listed.getD k false with
        | false => rfl
        | true => exact absurd ⟨by omega, fun h' => by omega, fun _ => hafter k p e hgt hk hL⟩ hconf
    refine dec_wp ho' (htr i o' d hod) (fun t ht => ?_) (fun b hb => ?_) hs (fun a' w' hs' => ?_)
    · refine appL_tm _ t ods 0 st st rfl _ (fun k p e hk hdst => ?_)
      rw [Nat.zero_add]
      refine (hwho k p e hk (fun ⟨hne, h1, h2⟩ => ?_)).symm
      rcases Nat.lt_or_gt_of_ne hne with hlt' | hgt
      · exact (Oper.apart_spec (h1 hlt').1).1 t hdst ht
      · exact (Oper.apart_spec (h2 hgt).1).2.2 t hdst ht
    · refine appL_hp _ b ods 0 st st rfl _ (fun k p e hk hw => ?_)
      rw [Nat.zero_add]
      refine (hwho k p e hk (fun ⟨hne, h1, h2⟩ => ?_)).symm
      rcases Nat.lt_or_gt_of_ne hne with hlt' | hgt
      · have := (h1 hlt').2
        unfold far at this
        rw [Bool.and_eq_true] at this
        exact disj_spec this.1 hw hb
      · have := (h2 hgt).2
        unfold far at this
        rw [Bool.and_eq_true] at this
        exact disj_spec this.2 hw hb
    · refine ih (listed.setIfInBounds i true) a' w' (by simpa using hls) ?_ ?_ ?_
      · rw [Array.toList_setIfInBounds]
        have := count_set listed.toList i (by
          rw [Array.getElem?_toList]
          simp [hli] at h0 ⊢
          exact h0)
        omega
      · intro j k hj hjk
        by_cases hji : j = i
        · subst hji
          exact getD_set_true (hbefore k hjk)
        · rw [getD_set_ne false (fun e => hji e.symm)] at hj
          exact getD_set_true (hcl j k hj hjk)
      · have hsplit : ods = ods.take i ++ (o', d) :: ods.drop (i + 1) := by
          have : ods.drop i = (o', d) :: ods.drop (i + 1) := by
            have h9 := List.drop_eq_getElem_cons hlt
            rw [List.getElem?_eq_getElem hlt] at hod
            rw [h9, Option.some.inj hod]
          rw [← this, List.take_append_drop]
        have hlen : (ods.take i).length = i := by simp; omega
        have e1 : appL (fun k => (listed.setIfInBounds i true).getD k false) 0 ods st = d.app o' (appL (fun k => listed.getD k false) 0 ods st) := by
          rw [hsplit, appL_append, appL_append, hlen, Nat.zero_add]
          have hti : (listed.setIfInBounds i true).getD i false = true := by simp [hli]
          rw [appL_congr (fun k => (listed.setIfInBounds i true).getD k false) (fun k => listed.getD k false) (ods.take i) 0 st (fun k _ hk => by
            rw [hlen] at hk; exact getD_set_ne false (by omega))]
          simp only [appL, hti, hfalse]
          rw [appL_congr (fun k => (listed.setIfInBounds i true).getD k false) (fun k => listed.getD k false) (ods.drop (i + 1)) (i + 1) _ (fun k hk _ => getD_set_ne false (by omega))]
          exact appL_last ops _ o' d (hwr i o' d hod) (ods.drop (i + 1)) (i + 1) _ (fun k p e hk hL => hafter (i + 1 + k) p e (by omega) (by rw [List.getElem?_drop] at hk; exact hk) hL)
        rw [e1]
        exact hs'
end
end SX
set_option linter.unusedVariables false
set_option linter.unusedSimpArgs false
namespace SX
open Go Go.RowKit

def Env.at' (E E' : Env) (b : Nat) : Prop := E'.blk b = E.blk b ∧ E'.sl b = E.sl b
theorem Atom.has.step {a : Atom} {E E' : Env} {S S' : Nat → Prop} {w w' : World} {v : Value} (h : a.has E S w v) (he : ∀ b ∈ a.ids, E.at' E' b) (ho : Off S w w') (hs : ∀ k, S' k → S k ∨ w.heap.size ≤ k) : a.has E' S' w' v := by
  cases a with
  | c a => exact CA.has.step h ho hs
  | ptr b off => exact h.trans (by rw [(he b (by simp [Atom.ids])).1])
  | own b => exact ⟨h.1.trans (he b (by simp [Atom.ids])).2.symm, h.2⟩
  | rptr b off =>
    obtain ⟨g, n, cap, h1, h2⟩ := h
    exact ⟨g, n, cap, (he b (by simp [Atom.ids])).2.trans h1, h2⟩
  | bnd f b => exact h.trans (by rw [(he b (by simp [Atom.ids])).1])
  | rel b R =>
    obtain ⟨h1, h2⟩ := h
    have hb := he b (by simp [Atom.ids])
    exact ⟨by rw [hb.1, hb.2]; exact h1, h2⟩
  | clo f cap =>
    refine h.trans ?_
    congr 2
    refine List.map_congr_left fun p hp => ?_
    rw [(he p.1 (by simp [Atom.ids]; exact ⟨p.2, hp⟩)).1]
theorem AV0.has.step {a : AV0} {E E' : Env} {S S' : Nat → Prop} {w w' : World} {v : Value} (h : a.has E S w v) (he : ∀ b ∈ a.ids, E.at' E' b) (ho : Off S w w') (hs : ∀ k, S' k → S k ∨ w.heap.size ≤ k) : a.has E' S' w' v := by
  cases a with
  | one a => exact Atom.has.step (a := a) h he ho hs
  | agg l =>
    obtain ⟨vs, hv, h⟩ := h
    exact ⟨vs, hv, h.mono fun a b ha hab => hab.step (fun i hi => he i (List.mem_flatMap.2 ⟨a, ha, hi⟩)) ho hs⟩
theorem AV.has.step {a : AV} {E E' : Env} {S S' : Nat → Prop} {w w' : World} {v : Value} (h : a.has E S w v) (he : ∀ b ∈ a.ids, E.at' E' b) (ho : Off S w w') (hs : ∀ k, S' k → S k ∨ w.heap.size ≤ k) : a.has E' S' w' v := by
  cases a with
  | it a => exact AV0.has.step (a := a) h he ho hs
  | tup l =>
    obtain ⟨vs, hv, h⟩ := h
    exact ⟨vs, hv, h.mono fun a b ha hab => hab.step (fun i hi => he i (List.mem_flatMap.2 ⟨a, ha, hi⟩)) ho hs⟩
theorem ownsRow_block {w w' : World} {base : Nat} {e : TypeId} {size : Nat} {v : Value} {n : Nat} {xs : List Value} (h : w.ownsRow base e size v n xs) (hb : ∀ k, v.ownBlock = some k → w'.heap[k]? = w.heap[k]?) : w'.ownsRow base e size v n xs := by
  refine ⟨h.1, ?_⟩
  rcases h.2 with hn | ⟨g, cap, cur, rfl, hb', hgg, rest⟩
  · exact .inl hn
  · exact .inr ⟨g, cap, cur, rfl, hb', by rw [hb g rfl]; exact hgg, rest⟩
theorem Ent.has.step {e : Ent} {b : Nat} {E E' : Env} {S S' : Nat → Prop} {w w' : World} (h : e.has E S w b) (he : ∀ i ∈ e.ids, E.at' E' i) (hb : E.at' E' b) (ho : Off S w w') (hs : ∀ k, S' k → S k ∨ w.heap.size ≤ k)
    (hk : ∀ k, e.at E b k → w'.heap[k]? = w.heap[k]?) (hf : E'.fp b = E.fp b) : e.has E' S' w' b := by
  cases e with
  | abs A =>
    show A.has (E'.blk b) (E'.sl b) (E'.fp b) S' w'
    rw [hb.1, hb.2, hf]
    exact A.step h ho hs hk
  | box t cells =>
    obtain ⟨cs, h1, h2⟩ := h
    refine ⟨cs, by rw [hb.1, hk _ rfl]; exact h1, h2.mono fun a x ha hax => hax.step (fun i hi => he i (List.mem_flatMap.2 ⟨a, ha, hi⟩)) ho hs⟩
  | row t size n cells =>
    obtain ⟨vs, h1, h2⟩ := h
    refine ⟨vs, by rw [hb.2]; exact ownsRow_block h1 hk, h2.mono fun a x _ hax => hax.step ho hs⟩
theorem Ent.at_congr {e : Ent} {b : Nat} {E E' : Env} (hb : E.at' E' b) (hf : E'.fp b = E.fp b) : e.at E' b = e.at E b := by
  funext k
  cases e with
  | abs A => simp [Ent.at, hf]
  | box t cells => simp [Ent.at, hb.1]
  | row t size n cells => simp [Ent.at, hb.2]

structure Eff (E : Env) (S : Nat → Prop) (w : World) (pre : List (Nat × Ent)) (out : Out) (v : Value) (w' : World) (E' : Env) (S' : Nat → Prop) : Prop where
  env : ∀ b, ((∃ s, (b, s) ∈ out.hp) → ∃ e, (b, e) ∈ pre) → E.at' E' b
  fpe : ∀ b, (∀ s, (b, s) ∉ out.hp) → E'.fp b = E.fp b
  sub : ∀ k, S k → S' k
  new : ∀ k, S' k → S k ∨ w.heap.size ≤ k
  lt : ∀ k, S' k → k < w'.heap.size
  off : Off (fun k => ∃ b e, (b, e) ∈ pre ∧ e.at E b k) w w'
  res : out.res.has E' S' w' v
  ents : ∀ b e, (b, Slot.ent e) ∈ out.hp → e.has E' S' w' b
  blk : ∀ b e k, (b, Slot.ent e) ∈ out.hp → e.at E' b k → S' k ∧ ((∃ b e, (b, e) ∈ pre ∧ e.at E b k) ∨ w.heap.size ≤ k)
  sep : ∀ b b' e e' k, b ≠ b' → (b, Slot.ent e) ∈ out.hp → (b', Slot.ent e') ∈ out.hp → e.at E' b k → ¬ e'.at E' b' k
theorem updL_cases (b : Nat) : ∀ (l : List (Nat × Slot)) (f : Nat → Slot), (∃ s, (b, s) ∈ l ∧ updL f l b = s) ∨ ((∀ s, (b, s) ∉ l) ∧ updL f l b = f b)
  | [], f => .inr ⟨by simp, rfl⟩
  | (j, u) :: l, f => by
    rcases updL_cases b l (upd f j u) with ⟨s, h1, h2⟩ | ⟨h1, h2⟩
    · exact .inl ⟨s, by simp [h1], h2⟩
    · by_cases e : b = j
      · subst e; exact .inl ⟨u, by simp, h2.trans (by simp)⟩
      · exact .inr ⟨fun s hs => by simp at hs; exact hs.elim (fun h => e h.1) (h1 s), h2.trans (upd_ne _ _ e)⟩
theorem putT_cases {f : Nat → Option AV} {dst : Option Tmp} {v : Option AV} {t : Nat} : (dst = some t ∧ putT f dst v t = v) ∨ (dst ≠ some t ∧ putT f dst v t = f t) := by
  cases dst with
  | none => exact .inr ⟨by simp, rfl⟩
  | some d =>
    by_cases e : t = d
    · subst e; exact .inl ⟨rfl, upd_same _ _ _⟩
    · exact .inr ⟨fun h => e (Option.some.inj h).symm, upd_ne _ _ e⟩
def Out.known (out : Out) (hp : Nat → Slot) : Prop :=
  (∀ i ∈ out.res.ids, (updL hp out.hp i).used = true) ∧ (∀ b e, (b, Slot.ent e) ∈ out.hp → ∀ i ∈ e.ids, (updL hp out.hp i).used = true)
theorem SatE.eff {C : Ctx} {st : St} {E E' : Env} {S S' : Nat → Prop} {a : Act} {w w' : World} {pre : List (Nat × Ent)} {out : Out} {v : Value} {dst : Option Tmp} (h : SatE C st E S a w)
    (hd : ∀ d, dst = some d → d < C.nt) (hpre : ∀ b e, (b, e) ∈ pre → st.hp b = .ent e ∧ ∃ s, (b, s) ∈ out.hp) (hnew : ∀ b s, (b, s) ∈ out.hp → (∃ e, (b, e) ∈ pre) ∨ st.hp b = .free)
    (hkeep : ∀ b s, (b, s) ∈ out.hp → s.used = true) (hid : out.known st.hp) (x : Eff E S w pre out v w' E' S') : SatE C (st.app dst out) E' S' (a.put dst v) w' := by
  have hoffS : Off S w w' := x.off.mono fun k ⟨b, e, hb, hk⟩ => (h.blk b e k (hpre b e hb).1 hk).1
  have hnotkey : ∀ b, (st.hp b).used = true → E.at' E' b := fun b hb => x.env b fun ⟨s, hs⟩ => (hnew b s hs).resolve_right (fun e => by rw [e] at hb; cases hb)
  have hused : ∀ b, (st.hp b).used = true → (updL st.hp out.hp b).used = true := by
    intro b hb
    rcases updL_cases b out.hp st.hp with ⟨s, h1, h2⟩ | ⟨_, h2⟩
    · rw [h2]; exact hkeep b s h1
    · rw [h2]; exact hb
  have hent : ∀ b e, updL st.hp out.hp b = .ent e → (b, Slot.ent e) ∈ out.hp ∨ (st.hp b = .ent e ∧ ∀ s, (b, s) ∉ out.hp) := by
    intro b e hb
    rcases updL_cases b out.hp st.hp with ⟨s, h1, h2⟩ | ⟨h1, h2⟩
    · rw [hb] at h2; subst h2; exact .inl h1
    · exact .inr ⟨h2.symm.trans hb, h1⟩
  have hpreblk : ∀ k, (∃ b e, (b, e) ∈ pre ∧ e.at E b k) → k < w.heap.size ∧ S k ∧ (C.B k ∨ C.w0.heap.size ≤ k) := fun k ⟨b, e, hb, hk⟩ => by
    have := h.blk b e k (hpre b e hb).1 hk
    exact ⟨h.lt k this.1, this⟩
  have hold : ∀ b e, st.hp b = .ent e → (∀ s, (b, s) ∉ out.hp) → ∀ k, e.at E b k → k < w.heap.size ∧ ¬ ∃ b e, (b, e) ∈ pre ∧ e.at E b k := by
    intro b e hb hn k hk
    refine ⟨h.lt k (h.blk b e k hb hk).1, fun ⟨b', e', hb', hk'⟩ => ?_⟩
    have hne : b ≠ b' := fun e1 => by subst e1; obtain ⟨s, hs⟩ := (hpre b e' hb').2; exact hn s hs
    exact h.sep b b' e e' k hne hb (hpre b' e' hb').1 hk hk'
  refine
    { dfr := ?_, nt := ?_, cT := fun k hk => x.sub k (h.cT k hk), cT0 := h.cT0, cS := fun k hk => ?_, lt := x.lt, tm := fun t u ht => ?_, tid := fun t u ht i hi => ?_, hp := fun b e hb => ?_, hid := fun b e hb i hi => ?_,
      blk := fun b e k hb hk => ?_, sep := fun b b' e e' k hne hb hb' hk hk' => ?_, off := ?_, env := fun b hb => ?_, gl := h.gl.step hoffS x.new }
  · rw [← h.dfr]; cases dst <;> rfl
  · rw [← h.nt]; cases dst <;> simp [Act.put]
  · rcases x.new k hk with h1 | h1
    · exact h.cS k h1
    · exact .inr (Nat.le_trans h.off.size h1)
  · rcases putT_cases (f := st.tm) (dst := dst) (v := some out.res) (t := t) with ⟨h1, h2⟩ | ⟨h1, h2⟩
    · have : u = out.res := by have := h2.symm.trans ht; exact (Option.some.inj this).symm
      subst this
      subst h1
      have hlt : t < a.tmps.size := by rw [h.nt]; exact hd t rfl
      simp only [Act.put]
      simpa [hlt] using x.res
    · have h3 := h.tm t u (h2.symm.trans ht)
      have h4 : (a.put dst v).tmps.getD t undef = a.tmps.getD t undef := by
        cases dst with
        | none => rfl
        | some d =>
          have : d ≠ t := fun e => h1 (by rw [e])
          simp [Act.put, Array.getElem?_setIfInBounds_ne this]
      rw [h4]
      exact h3.step (fun b hb => hnotkey b (h.tid t u (h2.symm.trans ht) b hb)) hoffS x.new
  · rcases putT_cases (f := st.tm) (dst := dst) (v := some out.res) (t := t) with ⟨h1, h2⟩ | ⟨h1, h2⟩
    · have : u = out.res := by have := h2.symm.trans ht; exact (Option.some.inj this).symm
      subst this
      exact hid.1 i hi
    · exact hused i (h.tid t u (h2.symm.trans ht) i hi)
  · rcases hent b e hb with h1 | ⟨h1, h2⟩
    · exact x.ents b e h1
    · have hat := hnotkey b (by rw [h1]; rfl)
      refine (h.hp b e h1).step (fun i hi => hnotkey i (h.hid b e h1 i hi)) hat hoffS x.new (fun k hk => ?_) (x.fpe b h2)
      obtain ⟨h3, h4⟩ := hold b e h1 h2 k hk
      exact x.off.block k h3 h4
  · rcases hent b e hb with h1 | ⟨h1, h2⟩
    · exact hid.2 b e h1 i hi
    · exact hused i (h.hid b e h1 i hi)
  · rcases hent b e hb with h1 | ⟨h1, h2⟩
    · obtain ⟨h3, h4⟩ := x.blk b e k h1 hk
      refine ⟨h3, h4.elim (fun h5 => (hpreblk k h5).2.2) (fun h5 => .inr (Nat.le_trans h.off.size h5))⟩
    · have hat := hnotkey b (by rw [h1]; rfl)
      rw [Ent.at_congr hat (x.fpe b h2)] at hk
      obtain ⟨h3, h4⟩ := h.blk b e k h1 hk
      exact ⟨x.sub k h3, h4⟩
  · rcases hent b e hb with h1 | ⟨h1, h2⟩
    · rcases hent b' e' hb' with h1' | ⟨h1', h2'⟩
      · exact x.sep b b' e e' k hne h1 h1' hk hk'
      · rw [Ent.at_congr (hnotkey b' (by rw [h1']; rfl)) (x.fpe b' h2')] at hk'
        obtain ⟨h3, h4⟩ := hold b' e' h1' h2' k hk'
        exact (x.blk b e k h1 hk).2.elim h4 (fun h5 => by omega)
    · rw [Ent.at_congr (hnotkey b (by rw [h1]; rfl)) (x.fpe b h2)] at hk
      obtain ⟨h3, h4⟩ := hold b e h1 h2 k hk
      rcases hent b' e' hb' with h1' | ⟨h1', h2'⟩
      · exact (x.blk b' e' k h1' hk').2.elim h4 (fun h5 => by omega)
      · rw [Ent.at_congr (hnotkey b' (by rw [h1']; rfl)) (x.fpe b' h2')] at hk'
        exact h.sep b b' e e' k hne h1 h1' hk hk'
  · exact h.off.trans2 x.off (fun k hk => hk) (fun k hk => (hpreblk k hk).2.2.imp id id)
  · obtain ⟨h1, h2, h3⟩ := h.env b hb
    have hat := hnotkey b h3
    exact ⟨hat.1.trans h1, hat.2.trans h2, hused b h3⟩

theorem OpOK.eff {P : Program} {C : Ctx} {o : Oper} {st : St} {fp : List Nat} {out : Out} (rd pre : List (Nat × Ent))
    (hfp : ∀ b, ((∃ e, (b, e) ∈ rd) ∨ (∃ e, (b, e) ∈ pre) ∨ ∃ s, (b, s) ∈ out.hp) → b ∈ fp) (hd : ∀ d, o.dst = some d → d < C.nt)
    (hrd : ∀ b e, (b, e) ∈ rd → st.hp b = .ent e) (hpre : ∀ b e, (b, e) ∈ pre → st.hp b = .ent e ∧ ∃ s, (b, s) ∈ out.hp) (hnew : ∀ b s, (b, s) ∈ out.hp → (∃ e, (b, e) ∈ pre) ∨ st.hp b = .free)
    (hkeep : ∀ b s, (b, s) ∈ out.hp → s.used = true)
    (h : ∀ st' E S a w, (∀ x ∈ o.op.operands, st'.ev x = st.ev x) → (∀ b ∈ fp, st'.hp b = st.hp b) → SatE C st' E S a w → (∀ b e, (b, e) ∈ rd → st'.hp b = .ent e) → (∀ b e, (b, e) ∈ pre → st'.hp b = .ent e) →
      out.known st'.hp ∧ ∀ (K : Act → World → Prop) (Q : Exit → Act → World → Prop), (∀ v w' E' S', Eff E S w pre out v w' E' S' → K (a.put o.dst v) w') → o.wp P a w K Q) :
    OpOK P C o st fp out := by
  intro st' hev hhp a w ⟨E, S, hs⟩ K Q hK
  have e1 : ∀ b e, (b, e) ∈ rd → st'.hp b = .ent e := fun b e hb => by rw [hhp b (hfp b (.inl ⟨e, hb⟩))]; exact hrd b e hb
  have e2 : ∀ b e, (b, e) ∈ pre → st'.hp b = .ent e := fun b e hb => by rw [hhp b (hfp b (.inr (.inl ⟨e, hb⟩)))]; exact (hpre b e hb).1
  obtain ⟨hk, hw⟩ := h st' E S a w hev hhp hs e1 e2
  refine hw K Q fun v w' E' S' x => hK v w' ⟨E', S', hs.eff hd (fun b e hb => ⟨e2 b e hb, (hpre b e hb).2⟩) (fun b s hb => ?_) hkeep hk x⟩
  exact (hnew b s hb).imp id fun h1 => by rw [hhp b (hfp b (.inr (.inr ⟨s, hb⟩)))]; exact h1
end SX
set_option linter.unusedVariables false
set_option linter.unusedSimpArgs false
namespace SX
open Go Go.RowKit

def WP (P : Program) (C : Ctx) (c : Code) (st : St) (Q : Exit → St → Prop) : Prop :=
  ∀ a w, Sat C st a w → c.wp P (fun ex a w => ∃ st', Q ex st' ∧ Sat C st' a w) a w
def thenK (k : St → Prop) (Q : Exit → St → Prop) : Exit → St → Prop
  | .normal, st => k st
  | e, st => Q e st
def inBlk (id : Nat) (Q : Exit → St → Prop) : Exit → St → Prop
  | .exit j, st => match Nat.beq j id with | true => Q .normal st | false => Q (.exit j) st
  | e, st => Q e st
section
variable {P : Program} {C : Ctx} {st : St} {Q : Exit → St → Prop}
theorem WP.skip (h : Q .normal st) : WP P C .skip st Q := fun a w hs => wp_skip ⟨st, h, hs⟩
theorem WP.label {l : Nat} (h : Q .normal st) : WP P C (.label l) st Q := fun a w hs => wp_label ⟨st, h, hs⟩
theorem WP.exit {i : Nat} (h : Q (.exit i) st) : WP P C (.exit i) st Q := fun a w hs => wp_exit ⟨st, h, hs⟩
theorem WP.ret (h : Q .ret st) : WP P C .ret st Q := fun a w hs => wp_ret ⟨st, h, hs⟩
theorem WP.seq {x y : Code} (h : WP P C x st (thenK (fun s => WP P C y s Q) Q)) : WP P C (.seq x y) st Q := fun a w hs =>
  wp_seq (wp_mono (h a w hs) fun e a w ⟨s, hq, hs⟩ => by
    cases e with
    | normal => exact hq a w hs
    | _ => exact ⟨s, hq, hs⟩)
theorem WP.block {i : Nat} {c : Code} (h : WP P C c st (inBlk i Q)) : WP P C (.block i c) st Q := fun a w hs =>
  wp_block (wp_mono (h a w hs) fun e a w ⟨s, hq, hs⟩ => by
    cases e with
    | exit j =>
      simp only [Exit.inBlock, inBlk] at *
      by_cases hj : j = i
      · subst hj; simp at hq; simp; exact ⟨s, hq, hs⟩
      · have : Nat.beq j i = false := by rw [Bool.eq_false_iff]; simpa using hj
        simp only [this] at hq
        rw [if_neg hj]; exact ⟨s, hq, hs⟩
    | _ => exact ⟨s, hq, hs⟩)
theorem ev_const_has {E : Env} {S : Nat → Prop} {w : World} {v : Value} {av : AV} (h : st.ev (.const v) = some av) : av.has E S w v ∧ av.ids = [] := by
  cases v <;> simp only [St.ev] at h <;> first | (cases h; done) | (obtain rfl := Option.some.inj h; exact ⟨rfl, rfl⟩)
theorem SatE.ev {E : Env} {S : Nat → Prop} {a : Act} {w : World} (h : SatE C st E S a w) {x : Operand} {av : AV} (hx : st.ev x = some av) : av.has E S w (a.eval x) ∧ ∀ b ∈ av.ids, (st.hp b).used = true := by
  cases x with
  | tmp t => exact ⟨h.tm t av hx, h.tid t av hx⟩
  | const v =>
    obtain ⟨h1, h2⟩ := ev_const_has (E := E) (S := S) (w := w) hx
    exact ⟨h1, fun b hb => by rw [h2] at hb; cases hb⟩
  | global g => obtain rfl := Option.some.inj hx; exact ⟨rfl, fun b hb => by cases hb⟩
  | func f => obtain rfl := Option.some.inj hx; exact ⟨rfl, fun b hb => by cases hb⟩
theorem WP.cond {c : Operand} {x y : Code} {t : Bool} (hc : st.ev c = some (.v (.bool t))) (h1 : t = true → WP P C x st Q) (h2 : t = false → WP P C y st Q) : WP P C (.cond c x y) st Q := fun a w hs => by
  obtain ⟨E, S, hse⟩ := id hs
  refine wp_cond_split (t := t) (hse.ev hc).1 (fun ht => h1 ht a w hs) (fun ht => h2 ht a w hs)
theorem WP.condT {c : Operand} {x y : Code} (hc : st.ev c = some (.v (.bool true))) (h1 : WP P C x st Q) : WP P C (.cond c x y) st Q := WP.cond hc (fun _ => h1) (fun h => by cases h)
theorem WP.condF {c : Operand} {x y : Code} (hc : st.ev c = some (.v (.bool false))) (h1 : WP P C y st Q) : WP P C (.cond c x y) st Q := WP.cond hc (fun h => by cases h) (fun _ => h1)
def St.le (C : Ctx) (st st' : St) : Prop := ∀ a w, Sat C st a w → Sat C st' a w
theorem WP.weaken {c : Code} {st' : St} (h : St.le C st st') (k : WP P C c st' Q) : WP P C c st Q := fun a w hs => k a w (h a w hs)
theorem WP.mono {c : Code} {Q' : Exit → St → Prop} (h : WP P C c st Q) (k : ∀ e s, Q e s → Q' e s) : WP P C c st Q' := fun a w hs =>
  wp_mono (h a w hs) fun _ _ _ ⟨s, hq, hs⟩ => ⟨s, k _ _ hq, hs⟩
theorem WP.loop {c : Code} {ι : Type} (I : ι → St) (μ : ι → Nat) (i0 : ι) (h0 : St.le C st (I i0))
    (round : ∀ i, WP P C c (I i) (thenK (fun s => ∃ j, St.le C s (I j) ∧ μ j < μ i) Q)) : WP P C (.loop c) st Q := fun a w hs => by
  have key : ∀ n i a w, μ i < n → Sat C (I i) a w → Code.rounds P c (fun ex a w => ∃ st', Q ex st' ∧ Sat C st' a w) n a w := by
    intro n
    induction n with
    | zero => intro i a w h; omega
    | succ n ih =>
      intro i a w hlt hs
      rw [rounds_succ]
      refine wp_mono (round i a w hs) fun e a w ⟨s, hq, hs⟩ => ?_
      cases e with
      | normal =>
        obtain ⟨j, hle, hj⟩ := hq
        exact ih j a w (by omega) (hle a w hs)
      | _ => exact ⟨s, hq, hs⟩
  exact wp_loop_rounds (μ i0 + 1) (key _ i0 a w (by omega) (h0 a w hs))
end

section
variable {P : Program} {C : Ctx}
def Reg (P : Program) (C : Ctx) (ops rest : List Oper) (st : St) (acc : List (List Nat × List Nat)) (K : List (List Nat × List Nat) → St → Prop) : Prop :=
  ∃ ods st', ods.map (·.1) = rest ∧ Tr P C ops ods st st' ∧ K (acc.reverse ++ ods.map fun p => foot p.2) st'
variable {ops rest : List Oper} {st : St} {acc : List (List Nat × List Nat)} {K : List (List Nat × List Nat) → St → Prop} {o : Oper}
theorem Reg.nil (h : K acc.reverse st) : Reg P C ops [] st acc K := ⟨[], st, rfl, rfl, by simpa using h⟩
theorem Reg.cons {d : Dec} (hd : DecOK P C ops o st d) (h : Reg P C ops rest (d.app o st) (foot d :: acc) K) : Reg P C ops (o :: rest) st acc K := by
  obtain ⟨ods, st', h1, h2, h3⟩ := h
  exact ⟨(o, d) :: ods, st', by simp [h1], ⟨hd, h2⟩, by simpa using h3⟩
theorem Reg.run {fp : List Nat} {out : Out} (hg : o.guard = none) (h : OpOK P C o st fp out) (next : Reg P C ops rest (st.app o.dst out) ((fp, out.hp.map (·.1)) :: acc) K) : Reg P C ops (o :: rest) st acc K :=
  Reg.cons (d := .run fp out) ⟨by unfold Guard; rw [hg], h⟩ next
theorem Reg.runG {fp : List Nat} {out : Out} {j t : Nat} {b b' : Bool} (hg : o.guard = some (j, b)) (ht : (ops[j]?).bind (·.dst) = some t) (hv : st.tm t = some (.v (.bool b'))) (hb : b' = b) (h : OpOK P C o st fp out) (next : Reg P C ops rest (st.app o.dst out) ((fp, out.hp.map (·.1)) :: acc) K) : Reg P C ops (o :: rest) st acc K :=
  Reg.cons (d := .run fp out) ⟨by unfold Guard; rw [hg]; exact ⟨t, ht, .inl ⟨b', hv, by subst hb; simp⟩⟩, h⟩ next
theorem Reg.skipG {j t : Nat} {b b' : Bool} (hg : o.guard = some (j, b)) (ht : (ops[j]?).bind (·.dst) = some t) (hv : st.tm t = some (.v (.bool b'))) (hb : b' = !b) (next : Reg P C ops rest (st.put o.dst (some (.v undef))) (([], []) :: acc) K) : Reg P C ops (o :: rest) st acc K :=
  Reg.cons (d := .skip) (show Guard ops o st false by unfold Guard; rw [hg]; exact ⟨t, ht, .inl ⟨b', hv, by subst hb; cases b <;> rfl⟩⟩) next
theorem Reg.skipU {j t : Nat} {b : Bool} (hg : o.guard = some (j, b)) (ht : (ops[j]?).bind (·.dst) = some t) (hv : st.tm t = some (.v undef)) (next : Reg P C ops rest (st.put o.dst (some (.v undef))) (([], []) :: acc) K) : Reg P C ops (o :: rest) st acc K :=
  Reg.cons (d := .skip) (show Guard ops o st false by unfold Guard; rw [hg]; exact ⟨t, ht, .inr ⟨hv, rfl⟩⟩) next

theorem appL_false : ∀ (l : List (Oper × Dec)) (i : Nat) (st : St) (L : Nat → Bool), (∀ k, i ≤ k → L k = false) → appL L i l st = st
  | [], _, _, _, _ => rfl
  | (o, d) :: l, i, st, L, h => by
    simp only [appL, h i (Nat.le_refl _)]
    exact appL_false l (i + 1) st L (fun k hk => h k (by omega))
theorem tr_at : ∀ (l : List (Oper × Dec)) (i : Nat) (st st' : St), Tr P C ops l st st' →
    (∀ (k : Nat) (o : Oper) (d : Dec), l[k]? = some (o, d) → DecOK P C ops o (appL (fun j => decide (j < i + k)) i l st) d) ∧ st' = appL (fun _ => true) i l st
  | [], _, _, _, h => ⟨by simp, h.symm⟩
  | (p, e) :: l, i, st, st', h => by
    obtain ⟨h1, h2⟩ := tr_at l (i + 1) _ st' h.2
    refine ⟨fun k o d hk => ?_, by rw [h2]; rfl⟩
    cases k with
    | zero =>
      simp at hk
      obtain ⟨rfl, rfl⟩ := hk
      rw [appL_false _ _ _ _ (fun k hk => by simp; omega)]
      exact h.1
    | succ k =>
      have := h1 k o d (by simpa using hk)
      simp only [appL]
      rw [decide_eq_true (show i < i + (k + 1) by omega), show i + (k + 1) = i + 1 + k by omega]
      exact this
theorem text_order {ops : Array Oper} {Q : Exit → Act → World → Prop} : ∀ (l : List (Oper × Dec)) (i : Nat) (st st' : St) (a : Act) (w : World), ops.toList.drop i = l.map (·.1) → Tr P C ops.toList l st st' → Sat C st a w →
    (∀ a w, Sat C st' a w → Q .normal a w) → wpOps P ops Q (List.range' i l.length) a w
  | [], i, st, st', a, w, _, h, hs, hQ => by
    have : st = st' := h
    subst this
    exact hQ a w hs
  | (o, d) :: l, i, st, st', a, w, hd, h, hs, hQ => by
    have hi : ops[i]? = some o := by
      have := congrArg (fun m => m[0]?) hd
      simpa [List.getElem?_drop] using this
    have htl : ops.toList.drop (i + 1) = l.map (·.1) := by
      have := congrArg (List.drop 1) hd
      simpa [List.drop_drop, Nat.add_comm] using this
    rw [List.length_cons, List.range'_succ, wpOps_cons]
    exact dec_wp hi h.1 (fun _ _ => rfl) (fun _ _ => rfl) hs (fun a' w' hs' => text_order l (i + 1) _ st' a' w' htl h.2 hs' hQ)
theorem Sat.drew {a : Act} {w : World} (h : Sat C st a w) : Sat C st a w.drew := by
  obtain ⟨E, S, h⟩ := h
  refine ⟨E, S, { h with lt := h.lt, tm := fun t v ht => (h.tm t v ht).step (fun _ _ => ⟨rfl, rfl⟩) (Off.drew S w) (fun k hk => .inl hk), hp := fun b e hb => (h.hp b e hb).step (fun _ _ => ⟨rfl, rfl⟩) ⟨rfl, rfl⟩ (Off.drew S w) (fun k hk => .inl hk) (fun _ _ => rfl) rfl, off := h.off.trans (Off.drew _ _) }⟩
variable {Q : Exit → St → Prop}
theorem WP.region {id : Nat} {ops : Array Oper} (h : Reg P C ops.toList ops.toList st [] (fun _ st' => Q .normal st')) : WP P C (.region id ops false) st Q := fun a w hs => by
  obtain ⟨ods, st', h1, h2, h3⟩ := h
  refine wp_region ?_
  have hl : ods.length = ops.size := by have := congrArg List.length h1; simpa using this
  rw [List.range_eq_range', ← hl]
  exact text_order ods 0 st st' a w (by simpa using h1.symm) h2 hs fun a w hs' => ⟨st', h3, hs'⟩
theorem WP.regionD {id : Nat} {ops : Array Oper} (hm : P.follows .mixedOrders = true) (h : Reg P C ops.toList ops.toList st [] (fun feet st' => check ops feet = true ∧ Q .normal st')) : WP P C (.region id ops true) st Q := fun a w hs => by
  obtain ⟨ods, st', h1, h2, hc, h3⟩ := h
  obtain ⟨h4, h5⟩ := tr_at ods 0 st st' h2
  have hl : ods.length = ops.size := by have := congrArg List.length h1; simpa using this
  have hrep : ∀ k, (Array.replicate ops.size false).getD k false = false := fun k => by
    rw [Array.getD_eq_getD_getElem?, Array.getElem?_replicate]; split <;> rfl
  refine wp_region_any hm (any_order (C := C) (ods := ods) (st := st) h1.symm (by simpa using hc) (fun i o d hi => by simpa using h4 i o d hi) (fun a w hs' => ⟨st', h3, by rw [h5]; exact hs'⟩) ops.size _ a _ (by simp [hl]) (by simp) (fun j k hj => ?_) ?_)
  · rw [hrep] at hj; cases hj
  · rw [appL_false _ _ _ _ (fun k _ => hrep k)]
    exact hs.drew
theorem WP.regionL {id : Nat} {l : List Oper} (h : Reg P C l l st [] (fun _ st' => Q .normal st')) : WP P C (.region id l.toArray false) st Q := WP.region h
theorem WP.regionDL {id : Nat} {l : List Oper} (hm : P.follows .mixedOrders = true) (h : Reg P C l l st [] (fun feet st' => check l.toArray feet = true ∧ Q .normal st')) : WP P C (.region id l.toArray true) st Q := WP.regionD hm h
end
end SX

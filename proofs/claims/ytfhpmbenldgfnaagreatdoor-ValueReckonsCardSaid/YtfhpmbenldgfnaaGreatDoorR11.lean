import Derived.Test.YtfhpmbenldgfnaaGreatDoorR10
import Derived.Test.YtfhpmbenldgfnaaGreatDoorR7
set_option linter.unusedVariables false
set_option linter.unusedSimpArgs false
namespace Go.Proofs.YtfhpmbenldgfnaaGreatDoor
open Go.RowKit QM SX
attribute [local irreducible] IntKind.wrap Go1 Reg WP thenK inBlk retQ retF RetF RetOK ResOK CallOK OpOK Sat
attribute [local irreducible] qsub qmul qquo qcmp qadd qv
abbrev q4C (q : Q4) : List CA := [.val (.bool q.1), .sat q.2.1, .val (.bool q.2.2.1), .sat q.2.2.2]
instance : EncLen q4C 4 := ⟨fun _ => rfl⟩
abbrev matQ (r c : Nat) (l : List Q4) : List Atom := [.c (.val (.int .i64 (r : Int))), .c (.val (.int .i64 (c : Int))), .c (.sat (rowR 4 q4C l))]
structure MV (l : List Q4) (vs : List Rat) (K : Nat) : Prop where
  len : l.length = vs.length
  ra : ∀ (i : Nat) q v, l[i]? = some q → vs[i]? = some v → Ra (q4A q) v K
instance con_Formed (r c : Int) {n : Nat} {cells : List CA} : Con Tryz.prog 88 [.agg [.c (.val (.int .i64 r)), .c (.val (.int .i64 c)), .c (.sat (sliceR 4 n cells))]] True (.v (.bool (decide (0 ≤ r ∧ r ≤ 64 ∧ 0 ≤ c ∧ c ≤ 64 ∧ (n : Int) = r * c)))) := ⟨fun _ => by
  refine PureOK.fnF Tryz.func88 Tryz.results88 Tryz.ntmps88 rfl rfl rfl (by simp [AV.ids, AV0.ids, Atom.ids]) rfl (fun w0 T B E0 hB => ?_)
  by_cases h1 : r ≥ 0
  · by_cases h2 : r ≤ 64
    · by_cases h3 : c ≥ 0
      · by_cases h4 : c ≤ 64
        · have hp : 0 ≤ r * c := Int.mul_nonneg h1 h3
          have hp2 : r * c ≤ 64 * 64 := Int.mul_le_mul h2 h4 h3 (by decide)
          refine SX.goQ ?_
          refine retB ?_
          rw [decide_eq_decide]
          exact ⟨fun h => ⟨h1, h2, h3, h4, h⟩, fun h => h.2.2.2.2⟩
        · refine SX.goQ ?_
          refine retB ?_; exact (decide_eq_false fun h => h4 h.2.2.2.1).symm
      · refine SX.goQ ?_
        refine retB ?_; exact (decide_eq_false fun h => h3 h.2.2.1).symm
    · refine SX.goQ ?_
      refine retB ?_; exact (decide_eq_false fun h => h2 h.2.1).symm
  · refine SX.goQ ?_
    refine retB ?_; exact (decide_eq_false fun h => h1 h.1).symm⟩
theorem con_get {r c i k : Nat} {l : List Q4} {q : Q4} (hq : l[i * c + k]? = some q) (hi : i ≤ 100) (hc : c ≤ 100) (hk : k ≤ 100) :
    PureOK Tryz.prog 161 [.agg (matQ r c l), .v (.int .i64 (i : Int)), .v (.int .i64 (k : Int))] (.agg (q4A q)) := by
  have hb := Nat.mul_le_mul hi hc
  have hlt : i * c + k < l.length := by
    rcases Nat.lt_or_ge (i * c + k) l.length with h | h
    · exact h
    · rw [List.getElem?_eq_none h] at hq; cases hq
  refine PureOK.fnF Tryz.func161 Tryz.results161 Tryz.ntmps161 rfl rfl rfl (by simp [AV.ids, AV0.ids, Atom.ids]) rfl (fun w0 T B E0 hB => ?_)
  refine SX.goQ ?_
  exact retA (ResOK.agg4 rfl rfl rfl) rfl
end Go.Proofs.YtfhpmbenldgfnaaGreatDoor
set_option linter.unusedVariables false
set_option linter.unusedSimpArgs false
namespace Go.Proofs.YtfhpmbenldgfnaaGreatDoor
open Go.RowKit QM SX
attribute [local irreducible] IntKind.wrap Go1 Reg WP thenK inBlk retQ retF RetF RetOK ResOK CallOK OpOK Sat
attribute [local irreducible] qsub qmul qquo qcmp qadd qv
def piC (n : Nat) : List CA := [.val (.int .i64 (n : Int))]
abbrev RowsA (js : List Nat) (c : List (List Rat)) : AEnt := rowsE 28 27 4 qC js c
abbrev PivE (ps : List Nat) : Ent := .row 3 1 ps.length (ps.flatMap piC)
abbrev WkI := List Nat × List (List Rat)
def wkE (M : List (List Rat)) (cols : Nat) (ps : List Nat) : AEnt :=
  bunE 81 (fun p : WkI => p.1.Nodup ∧ (∀ j ∈ p.1, j < p.2.length) ∧ p.1.map (fun j => p.2.getD j []) = M) 155 (fun _ => [hdrA 91 0, .c (.val (.int .i64 (cols : Int))), .own 92]) (fun p => [(91, .abs (RowsA p.1 p.2)), (92, PivE ps)])
def bgR (c d : Nat) (va vb : Nat → Nat → Rat) (i : Nat) : List Rat := rowK va i c ++ rowK vb i d
def bgM (c d : Nat) (va vb : Nat → Nat → Rat) (r : Nat) : List (List Rat) := (List.range r).map (bgR c d va vb)
abbrev matR (r c : Nat) (x : Rep) : List Atom := [.c (.val (.int .i64 (r : Int))), .c (.val (.int .i64 (c : Int))), .c (.sat x)]
end Go.Proofs.YtfhpmbenldgfnaaGreatDoor
set_option linter.unusedVariables false
set_option linter.unusedSimpArgs false
namespace Go.Proofs.YtfhpmbenldgfnaaGreatDoor
open Go.RowKit QM SX
attribute [local irreducible] IntKind.wrap Go1 Reg WP thenK inBlk retQ retF RetF RetOK ResOK CallOK OpOK Sat
attribute [local irreducible] qsub qmul qquo qcmp qadd qv
def rowC (r : List Rat) : List CA := [.sat (rowR 4 qC r)]
def fi {α : Type} (p : α → Bool) : List α → Nat → Int
  | [], _ => -1
  | a :: l, k => if p a then (k : Int) else fi p l (k + 1)
theorem fi_drop {α : Type} {p : α → Bool} {l : List α} {k : Nat} {a : α} (h : l[k]? = some a) : fi p (l.drop k) k = if p a then (k : Int) else fi p (l.drop (k + 1)) (k + 1) := by
  have hk : k < l.length := by
    rcases Nat.lt_or_ge k l.length with h2 | h2
    · exact h2
    · rw [List.getElem?_eq_none h2] at h; cases h
  rw [List.drop_eq_getElem_cons hk]
  rw [List.getElem?_eq_getElem hk] at h
  rw [Option.some.inj h]; rfl
def nz (col : Nat) (r : List Rat) : Bool := decide (r.getD col 0 ≠ 0)
end Go.Proofs.YtfhpmbenldgfnaaGreatDoor
set_option linter.unusedVariables false
set_option linter.unusedSimpArgs false
namespace Go.Proofs.YtfhpmbenldgfnaaGreatDoor
open Go.RowKit QM SX
attribute [local irreducible] IntKind.wrap Go1 Reg WP thenK inBlk retQ retF RetF RetOK ResOK CallOK OpOK Sat
attribute [local irreducible] qsub qmul qquo qcmp qadd qv
abbrev wkL (js : List Nat) (c : List (List Rat)) (ps : List Nat) : List (Nat × Ent) := [(91, .abs (RowsA js c)), (92, PivE ps)]
def mlL (s : List Rat) (f : Rat) (k : Nat) : List Rat := (s.take k).map (· * f) ++ s.drop k
def colI (M : List (List Rat)) (top col : Nat) : Int := fi (nz col) (M.drop top) 0
def sw {α : Type} (l : List α) (i j : Nat) : List α := match l[i]?, l[j]? with | some a, some b => (l.set i b).set j a | _, _ => l
def colBy (M : List (List Rat)) (top i col : Nat) : List Rat := let s := (sw M top (top + i)).getD top []; mlL s (1 / s.getD col 0) s.length
def colR (by_ : List Rat) (col : Nat) (r : List Rat) : List Rat := tkL r by_ (r.getD col 0) r.length
def colM (M : List (List Rat)) (top col : Nat) : List (List Rat) := if colI M top col < 0 then M else
  ((sw M top (top + (colI M top col).toNat)).map (colR (colBy M top (colI M top col).toNat col) col)).set top (colBy M top (colI M top col).toNat col)
def colP (M : List (List Rat)) (ps : List Nat) (col : Nat) : List Nat := if colI M ps.length col < 0 then ps else ps ++ [col]
theorem fi_spec {α : Type} {p : α → Bool} : ∀ (l : List α) (k : Nat), ¬ fi p l k < 0 → ∃ i a, fi p l k = ((k + i : Nat) : Int) ∧ l[i]? = some a ∧ p a = true
  | [], k, h => absurd (show (-1 : Int) < 0 by decide) h
  | a :: l, k, h => by
    unfold fi at h ⊢
    cases hp : p a with
    | true => exact ⟨0, a, by simp, rfl, hp⟩
    | false =>
      rw [hp] at h
      obtain ⟨i, b, h1, h2, h3⟩ := fi_spec l (k + 1) h
      exact ⟨i + 1, b, by rw [if_neg (by decide), h1]; congr 1; omega, h2, h3⟩
def cRun (js : List Nat) (top col : Nat) (b : List Rat) (c : List (List Rat)) : Nat → List (List Rat)
  | 0 => c
  | r + 1 => if r = top then cRun js top col b c r else match js[r]? with
    | some j => (cRun js top col b c r).set j (colR b col ((cRun js top col b c r).getD j []))
    | none => cRun js top col b c r
end Go.Proofs.YtfhpmbenldgfnaaGreatDoor
set_option linter.unusedVariables false
set_option linter.unusedSimpArgs false
namespace Go.Proofs.YtfhpmbenldgfnaaGreatDoor
open Go.RowKit QM SX
attribute [local irreducible] IntKind.wrap Go1 Reg WP thenK inBlk retQ retF RetF RetOK ResOK CallOK OpOK Sat
attribute [local irreducible] qsub qmul qquo qcmp qadd qv
def redS : Nat → Nat → List (List Rat) → List Nat → List (List Rat) × List Nat
  | 0, _, M, ps => (M, ps)
  | n + 1, col, M, ps => if ps.length < M.length then redS n (col + 1) (colM M ps.length col) (colP M ps col) else (M, ps)
def kb (K : Nat) : Nat → Nat
  | 0 => K
  | n + 1 => kb (4 * K + 2) n
def RW (M : List (List Rat)) (w K : Nat) : Prop := ∀ r ∈ M, r.length = w ∧ ∀ v ∈ r, RB v K
end Go.Proofs.YtfhpmbenldgfnaaGreatDoor
set_option linter.unusedVariables false
set_option linter.unusedSimpArgs false
namespace Go.Proofs.YtfhpmbenldgfnaaGreatDoor
open Go.RowKit QM SX
attribute [local irreducible] IntKind.wrap Go1 Reg WP thenK inBlk retQ retF RetF RetOK ResOK CallOK OpOK Sat
attribute [local irreducible] qsub qmul qquo qcmp qadd qv
structure RdS where
  col : Nat
  M : List (List Rat)
  ps : List Nat
end Go.Proofs.YtfhpmbenldgfnaaGreatDoor
set_option linter.unusedVariables false
set_option linter.unusedSimpArgs false
namespace Go.Proofs.YtfhpmbenldgfnaaGreatDoor
open Go.RowKit QM SX
theorem weakArgs {P : Program} {f : FuncId} {args args' : List AV} {r : AV} (h : PureOK P f args' r) (hi : ∀ E S w vs, All2 (AV.has E S w) args vs → All2 (AV.has E S w) args' vs) : PureOK P f args r :=
  ⟨h.1, fun E S w vs hl hg hv a b c => h.2 E S w vs hl hg (hi E S w vs hv) a b c⟩
attribute [local irreducible] IntKind.wrap Go1 Reg WP thenK inBlk retQ retF RetF RetOK ResOK CallOK OpOK Sat
attribute [local irreducible] qsub qmul qquo qcmp qadd qv
abbrev q4v (v : Rat) : Q4 := (decide (v.num < 0), nrmN v.num.natAbs, decide ((v.den : Int) < 0), nrmN (v.den : Int).natAbs)
abbrev wkP (M : List (List Rat)) (cols : Nat) (ps : List Nat) : Rep := ptrR [.sat (rowR 1 rowC M), .val (.int .i64 (cols : Int)), .sat (rowR 1 piC ps)]
theorem nil_row {α : Type} {enc : α → List CA} {size : Nat} {S : Nat → Prop} {w : World} : (rowR size enc ([] : List α)).has S w (.slice none 0 0) :=
  sliceR_iff.2 ⟨none, 0, rfl, Nat.le_refl _, Nat.zero_le _, fun _ => rfl, by simp, fun i c h => by simp at h⟩
end Go.Proofs.YtfhpmbenldgfnaaGreatDoor
set_option linter.unusedVariables false
set_option linter.unusedSimpArgs false
namespace LA
def sm : Nat → (Nat → Rat) → Rat
  | 0, _ => 0
  | n + 1, f => sm n f + f n
def Sp (n W : Nat) (m : Nat → Nat → Rat) (v : Nat → Rat) : Prop := ∃ c : Nat → Rat, ∀ k, k < W → v k = sm n (fun r => c r * m r k)
structure Eqv (n n' W : Nat) (m m' : Nat → Nat → Rat) : Prop where
  fwd : ∀ r, r < n' → Sp n W m (m' r)
  back : ∀ r, r < n → Sp n' W m' (m r)
structure Rref (n w : Nat) (m : Nat → Nat → Rat) (ps : List Nat) : Prop where
  len : ps.length ≤ n
  inc : ps.Pairwise (· < ·)
  lt : ∀ p ∈ ps, p < w
  one : ∀ i p, ps[i]? = some p → ∀ r, r < n → m r p = if r = i then 1 else 0
  low : ∀ i p, ps[i]? = some p → ∀ k, k < p → m i k = 0
  zero : ∀ r, ps.length ≤ r → r < n → ∀ k, k < w → m r k = 0
end LA
set_option linter.unusedVariables false
set_option linter.unusedSimpArgs false
namespace Go.Proofs.YtfhpmbenldgfnaaGreatDoor
open LA
def mf (M : List (List Rat)) (r k : Nat) : Rat := (M.getD r []).getD k 0
def Wd (M : List (List Rat)) (w : Nat) : Prop := ∀ r ∈ M, r.length = w
theorem fi_none {α : Type} {p : α → Bool} : ∀ {l : List α} {k : Nat}, fi p l k < 0 → ∀ a ∈ l, p a = false
  | [], k, _, a, h => by cases h
  | b :: l, k, h, a, ha => by
    unfold fi at h
    cases hp : p b with
    | true => rw [hp] at h; simp at h; omega
    | false =>
      rw [hp] at h
      rcases List.mem_cons.1 ha with rfl | ha
      · exact hp
      · exact fi_none (k := k + 1) (by simpa using h) a ha
structure ColS (n W : Nat) (m m' : Nat → Nat → Rat) (top i col : Nat) : Prop where
  hi : top ≤ i ∧ i < n
  ne : m i col ≠ 0
  at_ : ∀ r, r < n → ∀ k, k < W → m' r k = if r = top then m i k / m i col else (if r = i then m top k else m r k) - (if r = i then m top col else m r col) * (m i k / m i col)
end Go.Proofs.YtfhpmbenldgfnaaGreatDoor
set_option linter.unusedVariables false
set_option linter.unusedSimpArgs false
namespace Go.Proofs.YtfhpmbenldgfnaaGreatDoor
open LA
abbrev red (r c d : Nat) (va vb : Nat → Nat → Rat) : List (List Rat) × List Nat := redS c 0 (bgM c d va vb r) []
abbrev rdM (r c d : Nat) (va vb : Nat → Nat → Rat) : Nat → Nat → Rat := mf (red r c d va vb).1
abbrev rdP (r c d : Nat) (va vb : Nat → Nat → Rat) : List Nat := (red r c d va vb).2
section
variable {r c d : Nat} {va vb : Nat → Nat → Rat}
end
def idv (i k : Nat) : Rat := if i = k then 1 else 0
def frees (c : Nat) (ps : List Nat) : List Nat := (List.range c).filter fun k => decide (k ∉ ps)
end Go.Proofs.YtfhpmbenldgfnaaGreatDoor
set_option linter.unusedVariables false
set_option linter.unusedSimpArgs false
namespace Go.Proofs.YtfhpmbenldgfnaaGreatDoor
open Go.RowKit QM SX
attribute [local irreducible] IntKind.wrap Go1 Reg WP thenK inBlk retQ retF RetF RetOK ResOK CallOK OpOK Sat
attribute [local irreducible] qsub qmul qquo qcmp qadd qv mf
attribute [local irreducible] redS
theorem Ra.rb {l : List Atom} {v : Rat} {K : Nat} (h : Ra l v K) (hK : 1 ≤ K) : RB v K := by
  obtain ⟨x0, x1, x2, x3, p, q, k, m, _, _, _, h1, h2, h3, h4, h5⟩ := h.h
  by_cases hq : q = 0
  · subst hq
    have : v = 0 := by rw [← h5]; unfold qv; grind
    rw [this]; exact RB.zero hK
  · exact RB.of hq h5 (Nat.lt_of_lt_of_le h3.h (Nat.pow_le_pow_right WB_pos h1)) (Nat.lt_of_lt_of_le h4.h (Nat.pow_le_pow_right WB_pos h2))
def vat (vs : List Rat) (c i k : Nat) : Rat := vs.getD (i * c + k) 0
theorem idx_lt {r c i k : Nat} (hi : i < r) (hk : k < c) : i * c + k < r * c := by
  have := Nat.mul_le_mul_right c (show i + 1 ≤ r from hi)
  rw [Nat.succ_mul] at this; omega
theorem vat_at {vs : List Rat} {r c i k : Nat} (hl : vs.length = r * c) (hi : i < r) (hk : k < c) : vs[i * c + k]? = some (vat vs c i k) := by
  have h := idx_lt hi hk
  unfold vat
  rw [List.getD_eq_getElem?_getD, List.getElem?_eq_getElem (by omega)]; rfl
theorem MV.rb {l : List Q4} {vs : List Rat} {K : Nat} (h : MV l vs K) (hK : 1 ≤ K) : ∀ v ∈ vs, RB v K := by
  intro v hv
  obtain ⟨i, hi⟩ := List.mem_iff_getElem?.1 hv
  have hlt : i < vs.length := by
    rcases Nat.lt_or_ge i vs.length with h | h
    · exact h
    · rw [List.getElem?_eq_none h] at hi; cases hi
  exact Ra.rb (h.ra i _ v (List.getElem?_eq_getElem (show i < l.length by rw [h.len]; exact hlt)) hi) hK
theorem vat_RB {vs : List Rat} {K : Nat} (h : ∀ v ∈ vs, RB v K) (hK : 1 ≤ K) (c i k : Nat) : RB (vat vs c i k) K := by
  unfold vat
  rw [List.getD_eq_getElem?_getD]
  cases e : vs[i * c + k]? with
  | none => exact RB.zero hK
  | some v => exact h v (List.mem_of_getElem? e)
theorem tabR_RB {c r K : Nat} {val : Nat → Nat → Rat} (h : ∀ i k, i < r → k < c → RB (val i k) K) : ∀ v ∈ tabR c val r, RB v K := by
  intro v hv
  unfold tabR at hv
  obtain ⟨i, hi, hv⟩ := List.mem_flatMap.1 hv
  obtain ⟨k, hk, rfl⟩ := List.mem_map.1 hv
  exact h i k (List.mem_range.1 hi) (List.mem_range.1 hk)
theorem MV.made {vs : List Rat} {K : Nat} (h : ∀ v ∈ vs, RB v K) : MV (vs.map q4v) vs K := by
  refine ⟨List.length_map _, fun i q v hq hv => ?_⟩
  rw [List.getElem?_map, hv] at hq
  cases hq
  exact (h v (List.mem_of_getElem? hv)).ra
theorem matA_matQ (r c : Nat) (l : List Rat) : matA r c l = matQ r c (l.map q4v) := by
  have e : rowR 4 qC l = rowR 4 q4C (l.map q4v) := by
    show sliceR 4 l.length (l.flatMap qC) = sliceR 4 (l.map q4v).length ((l.map q4v).flatMap q4C)
    rw [List.length_map, List.flatMap_map]
  unfold matA matQ
  rw [e]
theorem cF_true {r c : Nat} {n : Nat} {cells : List CA} (hl : n = r * c) (hr : r ≤ 64) (hc : c ≤ 64) : PureOK Tryz.prog 88 [.agg [.c (.val (.int .i64 (r : Int))), .c (.val (.int .i64 (c : Int))), .c (.sat (sliceR 4 n cells))]] (.v (.bool true)) := by
  have h := (con_Formed (r : Int) (c : Int) (n := n) (cells := cells)).h trivial
  rw [decide_eq_true (show 0 ≤ (r : Int) ∧ (r : Int) ≤ 64 ∧ 0 ≤ (c : Int) ∧ (c : Int) ≤ 64 ∧ (n : Int) = (r : Int) * (c : Int) from ⟨by omega, by omega, by omega, by omega, by rw [hl]; simp⟩)] at h
  exact h
abbrev mat0 : List Atom := [.c (.val (.int .i64 0)), .c (.val (.int .i64 0)), .c (.val (.slice none 0 0))]
abbrev matZ (r c : Int) (l : List Q4) : List Atom := [.c (.val (.int .i64 r)), .c (.val (.int .i64 c)), .c (.sat (rowR 4 q4C l))]
abbrev eNo (z : Int) : AV0 := .one (.c (.val (.int .i64 z)))
def FormedP (r c : Int) (n : Nat) : Prop := 0 ≤ r ∧ r ≤ 64 ∧ 0 ≤ c ∧ c ≤ 64 ∧ (n : Int) = r * c
end Go.Proofs.YtfhpmbenldgfnaaGreatDoor
set_option linter.unusedVariables false
set_option linter.unusedSimpArgs false
namespace Go.Proofs.YtfhpmbenldgfnaaGreatDoor
open Go.RowKit QM SX
attribute [local irreducible] IntKind.wrap Go1 Reg WP thenK inBlk retQ retF RetF RetOK ResOK CallOK OpOK Sat
attribute [local irreducible] qsub qmul qquo qcmp qadd qv redS mf
theorem fnArg {f : FuncId} {E : Env} {S : Nat → Prop} {w : World} {v : Value} (h : (AV.it (.one (.clo f []))).has E S w v) : (AV.it (.one (.c (.sat (cloR f [] []))))).has E S w v :=
  ⟨[], [], h, trivial, trivial⟩
end Go.Proofs.YtfhpmbenldgfnaaGreatDoor
set_option linter.unusedVariables false
set_option linter.unusedSimpArgs false
namespace Go.Proofs.YtfhpmbenldgfnaaGreatDoor
open Go.RowKit QM SX
attribute [local irreducible] IntKind.wrap Go1 Reg WP thenK inBlk retQ retF RetF RetOK ResOK CallOK OpOK Sat
attribute [local irreducible] qsub qmul qquo qcmp qadd qv redS mf
def isI (i a : Nat) : Bool := decide (i = a)
def nzQ (v : Rat) : Bool := decide (v ≠ 0)
def anyNZ (l : List Rat) : Bool := decide (¬ fi nzQ l 0 < 0)
end Go.Proofs.YtfhpmbenldgfnaaGreatDoor
set_option linter.unusedVariables false
set_option linter.unusedSimpArgs false
namespace Go.Proofs.YtfhpmbenldgfnaaGreatDoor
open Go.RowKit QM SX
attribute [local irreducible] IntKind.wrap Go1 Reg WP thenK inBlk retQ retF RetF RetOK ResOK CallOK OpOK Sat
attribute [local irreducible] qsub qmul qquo qcmp qadd qv redS mf
def solX (ps : List Nat) (m : Nat → Nat → Rat) (c i k : Nat) : Rat := if i ∈ ps then m (fi (isI i) ps 0).toNat (c + k) else 0
def SolOK (r c d : Nat) (va vb : Nat → Nat → Rat) : Prop := ∀ i, (rdP r c d va vb).length ≤ i → i < r → ∀ k, k < d → rdM r c d va vb i (c + k) = 0
end Go.Proofs.YtfhpmbenldgfnaaGreatDoor
set_option linter.unusedVariables false
set_option linter.unusedSimpArgs false
namespace Go.Proofs.YtfhpmbenldgfnaaGreatDoor
open Go.RowKit QM SX
attribute [local irreducible] IntKind.wrap Go1 Reg WP thenK inBlk retQ retF RetF RetOK ResOK CallOK OpOK Sat
attribute [local irreducible] qsub qmul qquo qcmp qadd qv redS mf
def kerX (ps fr : List Nat) (m : Nat → Nat → Rat) (i k : Nat) : Rat := if i ∈ ps then -m (fi (isI i) ps 0).toNat (fr.getD k 0) else if fr.getD k 0 = i then 1 else 0
end Go.Proofs.YtfhpmbenldgfnaaGreatDoor
set_option linter.unusedVariables false
set_option linter.unusedSimpArgs false
namespace Go.Proofs.YtfhpmbenldgfnaaGreatDoor
open Go.RowKit QM SX
attribute [local irreducible] IntKind.wrap Go1 Reg WP thenK inBlk retQ retF RetF RetOK ResOK CallOK OpOK Sat
attribute [local irreducible] qsub qmul qquo qcmp qadd qv redS mf
abbrev RawQ := Bool × List Nat × Bool × List Nat
abbrev rq (x : RawQ) : Q4 := (x.1, rawN x.2.1, x.2.2.1, rawN x.2.2.2)
def rqv (x : RawQ) : Rat := qv (sgn x.1 (nval WB x.2.1)) (sgn x.2.2.1 (nval WB x.2.2.2))
def RSm (l : List RawQ) : Prop := ∀ x ∈ l, Sm WB x.2.1 ∧ Sm WB x.2.2.2
def RLen (l : List RawQ) (K : Nat) : Prop := ∀ x ∈ l, x.2.1.length ≤ K ∧ x.2.2.2.length ≤ K
theorem MV.raw {l : List RawQ} {K : Nat} (hs : RSm l) (hl : RLen l K) : MV (l.map rq) (l.map rqv) K := by
  refine ⟨by rw [List.length_map, List.length_map], fun i q v hq hv => ?_⟩
  rw [List.getElem?_map] at hq hv
  cases hx : l[i]? with
  | none => rw [hx] at hq; cases hq
  | some x =>
    rw [hx] at hq hv
    cases hq; cases hv
    have h1 := hs x (List.mem_of_getElem? hx)
    have h2 := hl x (List.mem_of_getElem? hx)
    exact Ra.raw ⟨nn_lt h1.1 (Nat.le_refl _)⟩ ⟨nn_lt h1.2 (Nat.le_refl _)⟩ h2.1 h2.2
theorem con_rFormed (r c : Int) {n : Nat} {cells : List CA} : PureOK Tryz.prog 37 [.agg [.c (.val (.int .i64 r)), .c (.val (.int .i64 c)), .c (.sat (sliceR 4 n cells))]] (.v (.bool (decide (0 ≤ r ∧ r ≤ 64 ∧ 0 ≤ c ∧ c ≤ 64 ∧ (n : Int) = r * c)))) := by
  refine PureOK.fnF Tryz.func37 Tryz.results37 Tryz.ntmps37 rfl rfl rfl (by simp [AV.ids, AV0.ids, Atom.ids]) rfl (fun w0 T B E0 hB => ?_)
  by_cases h1 : r ≥ 0
  · by_cases h2 : r ≤ 64
    · by_cases h3 : c ≥ 0
      · by_cases h4 : c ≤ 64
        · have hp : 0 ≤ r * c := Int.mul_nonneg h1 h3
          have hp2 : r * c ≤ 64 * 64 := Int.mul_le_mul h2 h4 h3 (by decide)
          refine SX.goF ?_
          refine retB ?_
          rw [decide_eq_decide]
          exact ⟨fun h => ⟨h1, h2, h3, h4, h⟩, fun h => h.2.2.2.2⟩
        · refine SX.goF ?_
          refine retB ?_; exact (decide_eq_false fun h => h4 h.2.2.2.1).symm
      · refine SX.goF ?_
        refine retB ?_; exact (decide_eq_false fun h => h3 h.2.2.1).symm
    · refine SX.goF ?_
      refine retB ?_; exact (decide_eq_false fun h => h2 h.2.1).symm
  · refine SX.goF ?_
    refine retB ?_; exact (decide_eq_false fun h => h1 h.1).symm
def FewP (r c : Int) (l : List RawQ) (s w : Int) : Prop := (∀ k x, k < 100 → l[k]? = some x → (x.2.1.length : Int) ≤ w ∧ (x.2.2.2.length : Int) ≤ w) ∧ r ≤ s ∧ c ≤ s ∧ l.length ≤ 100
theorem con_rFew (r c : Int) (l : List RawQ) (s w : Int) :
    (FewP r c l s w → PureOK Tryz.prog 34 [.agg (matZ r c (l.map rq)), .v (.int .i64 s), .v (.int .i64 w)] (.v (.bool true))) ∧
    (¬ FewP r c l s w → PureOK Tryz.prog 34 [.agg (matZ r c (l.map rq)), .v (.int .i64 s), .v (.int .i64 w)] (.v (.bool false))) := by
  have hlen : (l.map rq).length = l.length := List.length_map _
  have key : ∀ (goal : Bool), (goal = true ↔ FewP r c l s w) → PureOK Tryz.prog 34 [.agg (matZ r c (l.map rq)), .v (.int .i64 s), .v (.int .i64 w)] (.v (.bool goal)) := by
    intro goal hg
    refine PureOK.fnF Tryz.func34 Tryz.results34 Tryz.ntmps34 rfl rfl rfl (by simp [AV.ids, AV0.ids, Atom.ids]) rfl (fun w0 T B E0 hB => ?_)
    refine SX.goF ?_
    refine W.loop (fun k => k ≤ l.length ∧ k ≤ 100 ∧ ∀ j x, j < k → l[j]? = some x → (x.2.1.length : Int) ≤ w ∧ (x.2.2.2.length : Int) ≤ w) (fun k => [(1, .v (.int .i64 s)), (2, .v (.int .i64 w)), (3, .ptr 3 0), (7, .v (.int .i64 (k : Int)))]) (fun k => [(3, .box 30 (matZ r c (l.map rq)))]) (fun k => l.length - k) 0 ⟨Nat.zero_le _, Nat.zero_le _, fun j x h => absurd h (Nat.not_lt_zero _)⟩ (fun k ⟨hk, hk2, he⟩ => ?_)
    by_cases h : k < l.length
    · have h' : k < (l.map rq).length := by omega
      by_cases h2 : k < 100
      · obtain ⟨x, hx⟩ : ∃ x, l[k]? = some x := ⟨_, List.getElem?_eq_getElem h⟩
        have hq : (l.map rq)[k]? = some (rq x) := by rw [List.getElem?_map, hx]; rfl
        have cF := (con_Few x.1 x.2.1 x.2.2.1 x.2.2.2 w).h trivial
        by_cases h3 : (x.2.1.length : Int) ≤ w ∧ (x.2.2.2.length : Int) ≤ w
        · rw [decide_eq_true h3] at cF
          refine SX.goF ?_
          refine W.next (k + 1) ⟨h, h2, fun j b hj hb => ?_⟩ (by omega)
          by_cases hjk : j < k
          · exact he j b hjk hb
          · obtain rfl : j = k := by omega
            rw [hx] at hb; rw [← Option.some.inj hb]; exact h3
        · rw [decide_eq_false h3] at cF
          refine SX.goF ?_
          refine retB ?_
          exact (Bool.eq_false_iff.2 fun ht => h3 ((hg.1 ht).1 k x h2 hx)).symm
      · obtain rfl : k = 100 := by omega
        have hno : ¬ (l.map rq).length ≤ 100 := by omega
        by_cases h3 : r ≤ s
        · by_cases h4 : c ≤ s
          · refine SX.goF ?_
            refine retB ?_
            rw [Bool.eq_iff_iff, hg, decide_eq_true_iff]
            exact ⟨fun h => by omega, fun h => by have := h.2.2.2; omega⟩
          · refine SX.goF ?_
            refine retB ?_
            exact (Bool.eq_false_iff.2 fun ht => h4 (hg.1 ht).2.2.1).symm
        · refine SX.goF ?_
          refine retB ?_
          exact (Bool.eq_false_iff.2 fun ht => h3 (hg.1 ht).2.1).symm
    · obtain rfl : k = l.length := by omega
      have h' : ¬ l.length < (l.map rq).length := by omega
      have all : ∀ k x, k < 100 → l[k]? = some x → (x.2.1.length : Int) ≤ w ∧ (x.2.2.2.length : Int) ≤ w := fun j x hj hx => by
        have hjl : j < l.length := by
          rcases Nat.lt_or_ge j l.length with h | h
          · exact h
          · rw [List.getElem?_eq_none h] at hx; cases hx
        exact he j x hjl hx
      by_cases h3 : r ≤ s
      · by_cases h4 : c ≤ s
        · refine SX.goF ?_
          refine retB ?_
          rw [Bool.eq_iff_iff, hg, decide_eq_true_iff]
          exact ⟨fun h => ⟨all, h3, h4, by omega⟩, fun h => by have := h.2.2.2; omega⟩
        · refine SX.goF ?_
          refine retB ?_
          exact (Bool.eq_false_iff.2 fun ht => h4 (hg.1 ht).2.2.1).symm
      · refine SX.goF ?_
        refine retB ?_
        exact (Bool.eq_false_iff.2 fun ht => h3 (hg.1 ht).2.1).symm
  exact ⟨fun h => key true ⟨fun _ => h, fun _ => rfl⟩, fun h => key false ⟨fun h => (by cases h), fun h2 => absurd h2 h⟩⟩
end Go.Proofs.YtfhpmbenldgfnaaGreatDoor
set_option linter.unusedVariables false
set_option linter.unusedSimpArgs false
namespace Go.Proofs.YtfhpmbenldgfnaaGreatDoor
open Go.RowKit QM SX LA
attribute [local irreducible] IntKind.wrap Go1 Reg WP thenK inBlk retQ retF RetF RetOK ResOK CallOK OpOK Sat
attribute [local irreducible] qsub qmul qquo qcmp qadd qv redS mf
section
variable {l l' : List Atom} {v : Rat} {K K' : Nat}
end
theorem of_1 : PureOK Tryz.prog 23 [.v (.int .i64 1)] (.agg (zN 1)) := con_zOf.h ⟨by decide, by decide⟩
theorem at_lt {α : Type} {l : List α} {i : Nat} {a : α} (h : l[i]? = some a) : i < l.length := by
  rcases Nat.lt_or_ge i l.length with h2 | h2
  · exact h2
  · rw [List.getElem?_eq_none h2] at h; cases h
theorem MV.at {r c i k K : Nat} {l : List Q4} {vs : List Rat} (hM : MV l vs K) (hl : l.length = r * c) (hi : i < r) (hk : k < c) : ∃ q, l[i * c + k]? = some q ∧ Ra (q4A q) (vat vs c i k) K := by
  have h := idx_lt hi hk
  obtain ⟨q, hq⟩ : ∃ q, l[i * c + k]? = some q := ⟨_, List.getElem?_eq_getElem (by omega)⟩
  exact ⟨q, hq, hM.ra _ _ _ hq (vat_at (by rw [← hM.len]; exact hl) hi hk)⟩
end Go.Proofs.YtfhpmbenldgfnaaGreatDoor
set_option linter.unusedVariables false
set_option linter.unusedSimpArgs false
namespace Go.Proofs.YtfhpmbenldgfnaaGreatDoor
open Go.RowKit QM SX LA
attribute [local irreducible] IntKind.wrap Go1 Reg WP thenK inBlk retQ retF RetF RetOK ResOK CallOK OpOK Sat
attribute [local irreducible] qsub qmul qquo qcmp qadd qv redS mf
theorem sm_RB {f : Nat → Rat} {L : Nat} : ∀ {n : Nat}, (∀ j, j < n → RB (f j) L) → RB (sm n f) (1 + n * (L + 1))
  | 0, _ => RB.zero (by omega)
  | n + 1, h => by
    have h1 := sm_RB (n := n) fun j hj => h j (by omega)
    refine ((h1.add (h n (by omega))).mono ?_ : RB (sm n f + f n) _)
    rw [Nat.succ_mul]; omega
abbrev prodV (c : Nat) (va vb : Nat → Nat → Rat) (i k : Nat) : Rat := sm c (fun j => va i j * vb j k)
end Go.Proofs.YtfhpmbenldgfnaaGreatDoor
set_option linter.unusedVariables false
set_option linter.unusedSimpArgs false
namespace Go.Proofs.YtfhpmbenldgfnaaGreatDoor
open Go.RowKit QM SX LA
attribute [local irreducible] IntKind.wrap Go1 Reg WP thenK inBlk retQ retF RetF RetOK ResOK CallOK OpOK Sat
attribute [local irreducible] qsub qmul qquo qcmp qadd qv redS mf
end Go.Proofs.YtfhpmbenldgfnaaGreatDoor
set_option linter.unusedVariables false
set_option linter.unusedSimpArgs false
namespace Go.Proofs.YtfhpmbenldgfnaaGreatDoor
open Go.RowKit QM SX LA
attribute [local irreducible] IntKind.wrap Go1 Reg WP thenK inBlk retQ retF RetF RetOK ResOK CallOK OpOK Sat
attribute [local irreducible] qsub qmul qquo qcmp qadd qv redS mf
abbrev Z2 := Bool × Rep
abbrev z2A (q : Z2) : List Atom := [.c (.val (.bool q.1)), .c (.sat q.2)]
abbrev z2C (q : Z2) : List CA := [.val (.bool q.1), .sat q.2]
instance : EncLen z2C 2 := ⟨fun _ => rfl⟩
abbrev zC (z : Int) : List CA := [.val (.bool (decide (z < 0))), .sat (nrmN z.natAbs)]
abbrev z2v (z : Int) : Z2 := (decide (z < 0), nrmN z.natAbs)
structure ZQ (q : Z2) (z : Int) (K : Nat) : Prop where
  h : ∃ n k, z = sgn q.1 n ∧ NI (.sat q.2) n k ∧ k ≤ K
  b : z.natAbs < WB ^ K
theorem NI.le {a : CA} {n k K : Nat} (x : NI a n k) (hK : k ≤ K) : NI a n K := ⟨fun S w v h => by
  obtain ⟨l, h1, h2, h3⟩ := natR_iff.1 (x.p S w v h)
  exact natR_iff.2 ⟨l, h1, Nat.le_trans h2 hK, h3⟩⟩
theorem ZQ.zi {q : Z2} {z : Int} {K : Nat} (h : ZQ q z K) : ZI (z2A q) z K := by
  obtain ⟨n, k, h1, h2, h3⟩ := h.h
  exact h1 ▸ ZI.mk' (neg := q.1) (h2.le h3)
theorem z_sgn (z : Int) : sgn (decide (z < 0)) z.natAbs = z := by
  unfold sgn
  by_cases h : z < 0
  · rw [decide_eq_true h]; simp; omega
  · rw [decide_eq_false h]; simp; omega
theorem ZQ.made {z : Int} {K : Nat} (h : z.natAbs < WB ^ K) : ZQ (z2v z) z K :=
  ⟨⟨z.natAbs, K, (z_sgn z).symm, NI.nrm' h, Nat.le_refl _⟩, h⟩
theorem ZQ.raw {b : Bool} {l : List Nat} {K : Nat} (hs : Sm WB l) (hl : l.length ≤ K) : ZQ (b, rawN l) (sgn b (nval WB l)) K :=
  ⟨⟨_, _, rfl, NI.raw l, hl⟩, by
    have h1 : (sgn b (nval WB l)).natAbs = nval WB l := by unfold sgn; split <;> omega
    rw [h1]; exact Nat.lt_of_lt_of_le (nn_lt hs (Nat.le_refl _)) (Nat.pow_le_pow_right WB_pos hl)⟩
structure MZ (l : List Z2) (zs : List Int) (K : Nat) : Prop where
  len : l.length = zs.length
  z : ∀ (i : Nat) q z, l[i]? = some q → zs[i]? = some z → ZQ q z K
abbrev matW (r c : Int) (l : List Z2) : List Atom := [.c (.val (.int .i64 r)), .c (.val (.int .i64 c)), .c (.sat (rowR 2 z2C l))]
abbrev matY (r c : Nat) (l : List Z2) : List Atom := [.c (.val (.int .i64 (r : Int))), .c (.val (.int .i64 (c : Int))), .c (.sat (rowR 2 z2C l))]
abbrev matN (r c : Nat) (l : List Int) : List Atom := [.c (.val (.int .i64 (r : Int))), .c (.val (.int .i64 (c : Int))), .c (.sat (rowR 2 zC l))]
def zat (zs : List Int) (c i k : Nat) : Int := zs.getD (i * c + k) 0
theorem from_z {q : Z2} {z : Int} {K : Nat} (h : ZQ q z K) (hK : K ≤ 1000000) : PureOK Tryz.prog 64 [.it (.one (.c (.sat q.2))), .v (.bool q.1)] (.agg (zN z)) := by
  obtain ⟨n, k, h1, h2, h3⟩ := h.h
  rw [h1]
  exact con_zFrom (h := h2) q.1 |>.h (by omega)
end Go.Proofs.YtfhpmbenldgfnaaGreatDoor
set_option linter.unusedVariables false
set_option linter.unusedSimpArgs false
namespace Go.Proofs.YtfhpmbenldgfnaaGreatDoor
open Go.RowKit QM SX LA
attribute [local irreducible] IntKind.wrap Go1 Reg WP thenK inBlk retQ retF RetF RetOK ResOK CallOK OpOK Sat
attribute [local irreducible] qsub qmul qquo qcmp qadd qv redS mf
def tabZ (c : Nat) (val : Nat → Nat → Int) (i : Nat) : List Int := (List.range i).flatMap fun i => (List.range c).map (val i)
theorem tabZ_zero {c : Nat} {val : Nat → Nat → Int} : tabZ c val 0 = [] := rfl
def rowZ (val : Nat → Nat → Int) (i k : Nat) : List Int := (List.range k).map (val i)
def i64C (z : Int) : List CA := [.val (.int .i64 z)]
end Go.Proofs.YtfhpmbenldgfnaaGreatDoor
set_option linter.unusedVariables false
set_option linter.unusedSimpArgs false
namespace Go.Proofs.YtfhpmbenldgfnaaGreatDoor
open Go.RowKit QM SX LA
section
attribute [local irreducible] IntKind.wrap Go1 Reg WP thenK inBlk retQ retF RetF RetOK ResOK CallOK OpOK Sat
attribute [local irreducible] qsub qmul qquo qcmp qadd qv redS mf
end
end Go.Proofs.YtfhpmbenldgfnaaGreatDoor
set_option linter.unusedVariables false
set_option linter.unusedSimpArgs false
namespace Go.Proofs.YtfhpmbenldgfnaaGreatDoor
open Go.RowKit QM SX LA
def awV : List Rat := tabR 2 (fun i k => qv (zat (tabZ 2 (zat [1, 2, 3, 4] 2) 2) 2 i k) 1) 2
section
attribute [local irreducible] IntKind.wrap Go1 Reg WP thenK inBlk retQ retF RetF RetOK ResOK CallOK OpOK Sat
attribute [local irreducible] qsub qmul qquo qcmp qadd qv redS mf awV
end
end Go.Proofs.YtfhpmbenldgfnaaGreatDoor

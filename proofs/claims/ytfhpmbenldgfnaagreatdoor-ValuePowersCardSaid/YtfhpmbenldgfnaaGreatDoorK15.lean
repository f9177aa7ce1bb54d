import Derived.Test.YtfhpmbenldgfnaaGreatDoorK14
import Derived.Test.YtfhpmbenldgfnaaGreatDoorK9
set_option linter.unusedVariables false
set_option linter.unusedSimpArgs false
namespace Go.Proofs.YtfhpmbenldgfnaaGreatDoor
open LA
theorem bgM_len {c d : Nat} {va vb : Nat → Nat → Rat} {r : Nat} : (bgM c d va vb r).length = r := by simp [bgM]
theorem bgR_len {c d : Nat} {va vb : Nat → Nat → Rat} {i : Nat} : (bgR c d va vb i).length = c + d := by simp [bgR, rowK]
theorem bgM_wd {c d : Nat} {va vb : Nat → Nat → Rat} {r : Nat} : Wd (bgM c d va vb r) (c + d) := by
  intro x hx
  obtain ⟨i, _, rfl⟩ := List.mem_map.1 hx
  exact bgR_len
theorem rowK_at {va : Nat → Nat → Rat} {i n k : Nat} (hk : k < n) : (rowK va i n)[k]? = some (va i k) := by
  unfold rowK; rw [List.getElem?_map, List.getElem?_range hk]; rfl
theorem bgM_at {c d : Nat} {va vb : Nat → Nat → Rat} {r i k : Nat} (hi : i < r) (hk : k < c + d) : mf (bgM c d va vb r) i k = if k < c then va i k else vb i (k - c) := by
  have e : (bgM c d va vb r).getD i [] = bgR c d va vb i := by
    unfold bgM
    rw [List.getD_eq_getElem?_getD, List.getElem?_map, List.getElem?_range hi]; rfl
  unfold mf
  rw [e]
  unfold bgR
  rw [List.getD_eq_getElem?_getD]
  by_cases h : k < c
  · rw [if_pos h, List.getElem?_append_left (by rw [rowK_len]; exact h), rowK_at h]; rfl
  · rw [if_neg h, List.getElem?_append_right (by rw [rowK_len]; omega), rowK_len, rowK_at (by omega)]; rfl
abbrev red (r c d : Nat) (va vb : Nat → Nat → Rat) : List (List Rat) × List Nat := redS c 0 (bgM c d va vb r) []
abbrev rdM (r c d : Nat) (va vb : Nat → Nat → Rat) : Nat → Nat → Rat := mf (red r c d va vb).1
abbrev rdP (r c d : Nat) (va vb : Nat → Nat → Rat) : List Nat := (red r c d va vb).2
section
variable {r c d : Nat} {va vb : Nat → Nat → Rat}
theorem red_spec : Rref r c (rdM r c d va vb) (rdP r c d va vb) ∧ Eqv r r (c + d) (mf (bgM c d va vb r)) (rdM r c d va vb) ∧ (red r c d va vb).1.length = r ∧ Wd (red r c d va vb).1 (c + d) := by
  have h := redS_spec (W := c + d) c 0 (bgM c d va vb r) [] bgM_wd (by omega) (by rw [bgM_len]; exact rref_nil)
  rw [bgM_len, Nat.zero_add] at h
  exact h
theorem red_rref : Rref r c (rdM r c d va vb) (rdP r c d va vb) := red_spec.1
theorem red_len : (red r c d va vb).1.length = r := red_spec.2.2.1
theorem red_wd : Wd (red r c d va vb).1 (c + d) := red_spec.2.2.2
theorem red_row {i : Nat} (hi : i < r) : ∃ row, (red r c d va vb).1[i]? = some row ∧ row.length = c + d ∧ ∀ k, k < c + d → row[k]? = some (rdM r c d va vb i k) := by
  have h1 : i < (red r c d va vb).1.length := by rw [red_len]; exact hi
  refine ⟨_, List.getElem?_eq_getElem h1, red_wd _ (List.getElem_mem h1), fun k hk => ?_⟩
  have h2 : k < ((red r c d va vb).1[i]).length := by rw [red_wd _ (List.getElem_mem h1)]; exact hk
  rw [List.getElem?_eq_getElem h2]
  have e1 : (red r c d va vb).1.getD i [] = (red r c d va vb).1[i] := by rw [List.getD_eq_getElem?_getD, List.getElem?_eq_getElem h1]; rfl
  unfold rdM mf
  rw [e1, List.getD_eq_getElem?_getD, List.getElem?_eq_getElem h2]; rfl
end
theorem inc_all : ∀ {l : List Nat} {a n : Nat}, l.Pairwise (· < ·) → (∀ p ∈ l, a ≤ p ∧ p < n) → a + l.length = n → ∀ i, i < l.length → l.getD i 0 = a + i
  | [], a, n, _, _, _, i, hi => absurd hi (Nat.not_lt_zero _)
  | b :: l, a, n, h, hb, hl, i, hi => by
    rw [List.pairwise_cons] at h
    rw [List.length_cons] at hl hi
    have hab := hb b (by simp)
    have key : ∀ {l : List Nat} {b n : Nat}, l.Pairwise (· < ·) → (∀ p ∈ l, b < p ∧ p < n) → l.length + b + 1 ≤ n ∨ l = [] := by
      intro l
      induction l with
      | nil => intro _ _ _ _; exact .inr rfl
      | cons x l ih =>
        intro b n h hb
        rw [List.pairwise_cons] at h
        have hx := hb x (by simp)
        rcases ih h.2 (fun p hp => ⟨h.1 p hp, (hb p (by simp [hp])).2⟩) with h1 | h1
        · left; rw [List.length_cons]; omega
        · subst h1; left; rw [List.length_cons, List.length_nil]; omega
    have hba : b = a := by
      rcases key h.2 (fun p hp => ⟨h.1 p hp, (hb p (by simp [hp])).2⟩) with h1 | h1
      · omega
      · subst h1; rw [List.length_nil] at hl; omega
    subst hba
    cases i with
    | zero => rfl
    | succ i =>
      show l.getD i 0 = _
      rw [inc_all (a := b + 1) (n := n) h.2 (fun p hp => ⟨h.1 p hp, (hb p (by simp [hp])).2⟩) (by omega) i (by omega)]; omega
def idv (i k : Nat) : Rat := if i = k then 1 else 0
theorem rref_id {n : Nat} {m : Nat → Nat → Rat} {ps : List Nat} (h : Rref n n m ps) (hl : ps.length = n) {i k : Nat} (hi : i < n) (hk : k < n) : m i k = idv i k := by
  have e := inc_all (a := 0) (n := n) h.inc (fun p hp => ⟨Nat.zero_le _, h.lt p hp⟩) (by omega) k (by omega)
  have hp := getE (l := ps) (i := k) (by omega)
  rw [e, Nat.zero_add] at hp
  exact h.one k k hp i hi
theorem red_inv {n : Nat} {va : Nat → Nat → Rat} (hl : (rdP n n n va idv).length = n) :
    (∀ i, i < n → ∀ k, k < n → sm n (fun j => va i j * rdM n n n va idv j (n + k)) = idv i k) ∧ ∀ i, i < n → ∀ k, k < n → sm n (fun j => rdM n n n va idv i (n + j) * va j k) = idv i k := by
  have hr := red_rref (r := n) (c := n) (d := n) (va := va) (vb := idv)
  have hE : Eqv n n (n + n) (mf (bgM n n va idv n)) (rdM n n n va idv) := red_spec.2.1
  have at1 : ∀ i, i < n → ∀ k, k < n → mf (bgM n n va idv n) i k = va i k := fun i hi k hk => by rw [bgM_at hi (by omega), if_pos hk]
  have at2 : ∀ i, i < n → ∀ k, k < n → mf (bgM n n va idv n) i (n + k) = idv i k := fun i hi k hk => by rw [bgM_at hi (by omega), if_neg (by omega), Nat.add_sub_cancel_left]
  constructor
  · obtain ⟨s, hs⟩ := Sp.all hE.back
    intro i hi k hk
    have e1 : ∀ j, j < n → s i j = va i j := fun j hj => by
      have h := hs i hi j (by omega)
      rw [at1 i hi j hj, sm_one (k := j) hj (fun a ha hne => by rw [rref_id hr hl ha hj]; unfold idv; rw [if_neg hne]; grind), rref_id hr hl hj hj] at h
      unfold idv at h; rw [if_pos rfl] at h; grind
    have h := hs i hi (n + k) (by omega)
    rw [at2 i hi k hk] at h
    rw [h]
    exact sm_congr fun j hj => by rw [e1 j hj]
  · obtain ⟨t, ht⟩ := Sp.all hE.fwd
    intro i hi k hk
    have e1 : ∀ j, j < n → rdM n n n va idv i (n + j) = t i j := fun j hj => by
      rw [ht i hi (n + j) (by omega), sm_one (k := j) hj (fun a ha hne => by rw [at2 a ha j hj]; unfold idv; rw [if_neg hne]; grind), at2 j hj j hj]
      unfold idv; rw [if_pos rfl]; grind
    rw [← rref_id hr hl hi hk, ht i hi k (by omega)]
    exact sm_congr fun j hj => by rw [e1 j hj, at1 j hj k hk]
def frees (c : Nat) (ps : List Nat) : List Nat := (List.range c).filter fun k => decide (k ∉ ps)
end Go.Proofs.YtfhpmbenldgfnaaGreatDoor
set_option linter.unusedVariables false
set_option linter.unusedSimpArgs false
namespace Go.Proofs.YtfhpmbenldgfnaaGreatDoor
open Go.RowKit QM SX
attribute [local irreducible] IntKind.wrap Go1 Reg WP thenK inBlk retQ retF RetF RetOK ResOK CallOK OpOK Sat
attribute [local irreducible] qsub qmul qquo qcmp qadd qv mf
theorem redS_RW {w : Nat} : ∀ (n col : Nat) (M : List (List Rat)) (ps : List Nat) (K : Nat), RW M w K → col + n ≤ w → RW (redS n col M ps).1 w (kb K n)
  | 0, col, M, ps, K, h, _ => h
  | n + 1, col, M, ps, K, h, hw => by
    by_cases hl : ps.length < M.length
    · rw [show redS (n + 1) col M ps = redS n (col + 1) (colM M ps.length col) (colP M ps col) from if_pos hl]
      exact redS_RW n (col + 1) _ _ (4 * K + 2) (colM_RW h hl (by omega)) (by omega)
    · rw [redS_stop (.inr hl)]
      exact h.mono (kb_ge _ _)
attribute [local irreducible] redS
theorem Ra.rb {l : List Atom} {v : Rat} {K : Nat} (h : Ra l v K) (hK : 1 ≤ K) : RB v K := by
  obtain ⟨x0, x1, x2, x3, p, q, k, m, _, _, _, h1, h2, h3, h4, h5⟩ := h.h
  by_cases hq : q = 0
  · subst hq
    have : v = 0 := by rw [← h5]; unfold qv; grind
    rw [this]; exact RB.zero hK
  · exact RB.of hq h5 (Nat.lt_of_lt_of_le h3.h (Nat.pow_le_pow_right WB_pos h1)) (Nat.lt_of_lt_of_le h4.h (Nat.pow_le_pow_right WB_pos h2))
def vat (vs : List Rat) (c i k : Nat) : Rat := vs.getD (i * c + k) 0
theorem idx_lt {r c i k : Nat} (hi : i < r) (hk : k < c) : i * c + k < r * c := by
  have := Nat.mul_le_mul_right c (show i + 1 ≤ r from hi)
  rw [Nat.succ_mul] at this; omega
theorem vat_at {vs : List Rat} {r c i k : Nat} (hl : vs.length = r * c) (hi : i < r) (hk : k < c) : vs[i * c + k]? = some (vat vs c i k) := by
  have h := idx_lt hi hk
  unfold vat
  rw [List.getD_eq_getElem?_getD, List.getElem?_eq_getElem (by omega)]; rfl
theorem MV.rb {l : List Q4} {vs : List Rat} {K : Nat} (h : MV l vs K) (hK : 1 ≤ K) : ∀ v ∈ vs, RB v K := by
  intro v hv
  obtain ⟨i, hi⟩ := List.mem_iff_getElem?.1 hv
  have hlt : i < vs.length := by
    rcases Nat.lt_or_ge i vs.length with h | h
    · exact h
    · rw [List.getElem?_eq_none h] at hi; cases hi
  exact Ra.rb (h.ra i _ v (List.getElem?_eq_getElem (show i < l.length by rw [h.len]; exact hlt)) hi) hK
theorem vat_RB {vs : List Rat} {K : Nat} (h : ∀ v ∈ vs, RB v K) (hK : 1 ≤ K) (c i k : Nat) : RB (vat vs c i k) K := by
  unfold vat
  rw [List.getD_eq_getElem?_getD]
  cases e : vs[i * c + k]? with
  | none => exact RB.zero hK
  | some v => exact h v (List.mem_of_getElem? e)
theorem bgM_RW {r c d : Nat} {va vb : Nat → Nat → Rat} {K : Nat} (ha : ∀ i k, i < r → k < c → RB (va i k) K) (hb : ∀ i k, i < r → k < d → RB (vb i k) K) : RW (bgM c d va vb r) (c + d) K := by
  intro x hx
  refine ⟨bgM_wd x hx, fun v hv => ?_⟩
  obtain ⟨i, hi, rfl⟩ := List.mem_map.1 hx
  have hi := List.mem_range.1 hi
  rcases List.mem_append.1 hv with h | h
  · obtain ⟨k, hk, rfl⟩ := List.mem_map.1 h; exact ha i k hi (List.mem_range.1 hk)
  · obtain ⟨k, hk, rfl⟩ := List.mem_map.1 h; exact hb i k hi (List.mem_range.1 hk)
theorem red_RB {r c d K : Nat} {va vb : Nat → Nat → Rat} (h : RW (bgM c d va vb r) (c + d) K) {i k : Nat} (hi : i < r) (hk : k < c + d) : RB (rdM r c d va vb i k) (kb K c) := by
  have hR := redS_RW c 0 (bgM c d va vb r) [] K h (by omega)
  obtain ⟨row, h1, h2, h3⟩ := red_row (r := r) (c := c) (d := d) (va := va) (vb := vb) hi
  exact (hR row (List.mem_of_getElem? h1)).2 _ (List.mem_of_getElem? (h3 k hk))
theorem tabR_at {c : Nat} {val : Nat → Nat → Rat} {k : Nat} (hk : k < c) : ∀ {r i : Nat}, i < r → (tabR c val r)[i * c + k]? = some (val i k)
  | 0, i, h => absurd h (Nat.not_lt_zero _)
  | r + 1, i, h => by
    rw [tabR_succ]
    by_cases hi : i < r
    · rw [List.getElem?_append_left (by rw [tabR_len]; exact idx_lt hi hk)]
      exact tabR_at hk hi
    · obtain rfl : i = r := by omega
      rw [List.getElem?_append_right (by rw [tabR_len]; omega), tabR_len, Nat.add_sub_cancel_left, List.getElem?_map, List.getElem?_range hk]; rfl
theorem tabR_RB {c r K : Nat} {val : Nat → Nat → Rat} (h : ∀ i k, i < r → k < c → RB (val i k) K) : ∀ v ∈ tabR c val r, RB v K := by
  intro v hv
  unfold tabR at hv
  obtain ⟨i, hi, hv⟩ := List.mem_flatMap.1 hv
  obtain ⟨k, hk, rfl⟩ := List.mem_map.1 hv
  exact h i k (List.mem_range.1 hi) (List.mem_range.1 hk)
theorem MV.made {vs : List Rat} {K : Nat} (h : ∀ v ∈ vs, RB v K) : MV (vs.map q4v) vs K := by
  refine ⟨List.length_map _, fun i q v hq hv => ?_⟩
  rw [List.getElem?_map, hv] at hq
  cases hq
  exact (h v (List.mem_of_getElem? hv)).ra
theorem matA_matQ (r c : Nat) (l : List Rat) : matA r c l = matQ r c (l.map q4v) := by
  have e : rowR 4 qC l = rowR 4 q4C (l.map q4v) := by
    show sliceR 4 l.length (l.flatMap qC) = sliceR 4 (l.map q4v).length ((l.map q4v).flatMap q4C)
    rw [List.length_map, List.flatMap_map]
  unfold matA matQ
  rw [e]
theorem vat_tab {r c i k : Nat} {val : Nat → Nat → Rat} (hi : i < r) (hk : k < c) : vat (tabR c val r) c i k = val i k := by
  unfold vat
  rw [List.getD_eq_getElem?_getD, tabR_at hk hi]; rfl
theorem cF_true {r c : Nat} {n : Nat} {cells : List CA} (hl : n = r * c) (hr : r ≤ 64) (hc : c ≤ 64) : PureOK Tryz.prog 88 [.agg [.c (.val (.int .i64 (r : Int))), .c (.val (.int .i64 (c : Int))), .c (.sat (sliceR 4 n cells))]] (.v (.bool true)) := by
  have h := (con_Formed (r : Int) (c : Int) (n := n) (cells := cells)).h trivial
  rw [decide_eq_true (show 0 ≤ (r : Int) ∧ (r : Int) ≤ 64 ∧ 0 ≤ (c : Int) ∧ (c : Int) ≤ 64 ∧ (n : Int) = (r : Int) * (c : Int) from ⟨by omega, by omega, by omega, by omega, by rw [hl]; simp⟩)] at h
  exact h
abbrev mat0 : List Atom := [.c (.val (.int .i64 0)), .c (.val (.int .i64 0)), .c (.val (.slice none 0 0))]
abbrev matZ (r c : Int) (l : List Q4) : List Atom := [.c (.val (.int .i64 r)), .c (.val (.int .i64 c)), .c (.sat (rowR 4 q4C l))]
abbrev eNo (z : Int) : AV0 := .one (.c (.val (.int .i64 z)))
def FormedP (r c : Int) (n : Nat) : Prop := 0 ≤ r ∧ r ≤ 64 ∧ 0 ≤ c ∧ c ≤ 64 ∧ (n : Int) = r * c
theorem cA_at {r c : Nat} {l : List Q4} {vs : List Rat} {K : Nat} (hM : MV l vs K) (hl : l.length = r * c) (hr : r ≤ 64) (hc : c ≤ 64) (hK : K + 1 ≤ 1000000) : ∀ i k, i < r → k < c → PureOK Tryz.prog 93 [.agg (matR r c (rowR 4 q4C l)), .v (.int .i64 (i : Int)), .v (.int .i64 (k : Int))] (.agg (qA (vat vs c i k))) :=
  fun i k hi hk => con_At hM hl hr hc hi hk (vat_at (by rw [← hM.len]; exact hl) hi hk) hK
end Go.Proofs.YtfhpmbenldgfnaaGreatDoor
set_option linter.unusedVariables false
set_option linter.unusedSimpArgs false
namespace Go.Proofs.YtfhpmbenldgfnaaGreatDoor
open Go.RowKit QM SX
attribute [local irreducible] IntKind.wrap Go1 Reg WP thenK inBlk retQ retF RetF RetOK ResOK CallOK OpOK Sat
attribute [local irreducible] qsub qmul qquo qcmp qadd qv redS mf
theorem fnArg {f : FuncId} {E : Env} {S : Nat → Prop} {w : World} {v : Value} (h : (AV.it (.one (.clo f []))).has E S w v) : (AV.it (.one (.c (.sat (cloR f [] []))))).has E S w v :=
  ⟨[], [], h, trivial, trivial⟩
theorem con_inv1 (i k : Nat) : PureOK Tryz.prog 134 [.v (.int .i64 (i : Int)), .v (.int .i64 (k : Int))] (.agg (q4A (q4v (idv i k)))) := by
  refine PureOK.fnF Tryz.func134 Tryz.results134 Tryz.ntmps134 rfl rfl rfl (by simp [AV.ids, AV0.ids, Atom.ids]) rfl (fun w0 T B E0 hB => ?_)
  by_cases h : i = k
  · rw [show idv i k = 1 from if_pos h]
    have h' : (i : Int) = (k : Int) := by omega
    refine SX.goF ?_
    exact retA (ResOK.agg4 rfl rfl rfl) rfl
  · rw [show idv i k = 0 from if_neg h]
    have h' : ¬ (i : Int) = (k : Int) := by omega
    refine SX.goF ?_
    exact retA (ResOK.agg4 rfl rfl rfl) rfl
theorem idv_RB (i k : Nat) : RB (idv i k) 1 := by
  unfold idv; split
  · exact RB.one (Nat.le_refl 1)
  · exact RB.zero (Nat.le_refl 1)
theorem con_inv2 {M : List (List Rat)} {cols : Nat} {ps : List Nat} {r c : Nat} {y : Rep} {i k : Nat} {row : List Rat} {v : Rat} (hi : M[i]? = some row) (hk : row[c + k]? = some v) (hc : c ≤ 100) (hk2 : k ≤ 100) :
    PureOK Tryz.prog 137 [.v (.int .i64 (i : Int)), .v (.int .i64 (k : Int)), .r (ptrR [.sat (wkP M cols ps)]), .r (ptrR [.val (.int .i64 (r : Int)), .val (.int .i64 (c : Int)), .sat y])] (.agg (q4A (q4v v))) := by
  have h1 : i < M.length := by
    rcases Nat.lt_or_ge i M.length with h | h
    · exact h
    · rw [List.getElem?_eq_none h] at hi; cases hi
  have h2 : c + k < row.length := by
    rcases Nat.lt_or_ge (c + k) row.length with h | h
    · exact h
    · rw [List.getElem?_eq_none h] at hk; cases hk
  refine PureOK.fnF Tryz.func137 Tryz.results137 Tryz.ntmps137 rfl rfl rfl (by simp [AV.ids, AV0.ids, Atom.ids]) rfl (fun w0 T B E0 hB => ?_)
  refine SX.goF ?_
  exact retA (ResOK.agg4 rfl rfl rfl) rfl
theorem con_Inverse {n : Nat} {l : List Q4} {vs : List Rat} {K : Nat} (hM : MV l vs K) (hl : l.length = n * n) (hr : n ≤ 64) (hK1 : 1 ≤ K) (hkb : ∀ k, k < n → kb K k ≤ 49000) (hkc : kb K n ≤ 400000) :
    PureOK Tryz.prog 70 [.agg (matQ n n l)] (if (rdP n n n (vat vs n) idv).length < n then .tup [.agg mat0, eNo 3] else .tup [.agg (matA n n (tabR n (fun i k => rdM n n n (vat vs n) idv i (n + k)) n)), eNo 0]) := by
  have hK : K ≤ 400000 := Nat.le_trans (kb_ge n K) hkc
  have cF := cF_true (cells := l.flatMap q4C) hl hr hr
  have hRB := vat_RB (hM.rb hK1) hK1 n
  have hRW : RW (bgM n n (vat vs n) idv n) (n + n) K := bgM_RW (fun i k _ _ => hRB i k) (fun i k _ _ => (idv_RB i k).mono hK1)
  have hlt : (tabR n idv n).length = n * n := tabR_len n
  have cB := cA_at (r := n) (c := n) (MV.made (tabR_RB (c := n) (r := n) fun i k _ _ => idv_RB i k)) (by rw [List.length_map]; exact hlt) hr hr (by omega)
  have cR : PureOK Tryz.prog 132 [.agg (matR n n (rowR 4 q4C l)), .agg (matR n n (rowR 4 q4C ((tabR n idv n).map q4v)))] (.r (wkP (red n n n (vat vs n) idv).1 n (rdP n n n (vat vs n) idv))) := con_reduced n n n n (rowR 4 q4C l) (rowR 4 q4C ((tabR n idv n).map q4v)) (vat vs n) idv K (by omega) (by omega) (by omega) (cA_at hM hl hr hr (by omega)) (fun i k hi hk => by
    have h := cB i k hi hk
    rw [vat_tab hi hk] at h; exact h) hRW hkb
  have cI : PureOK Tryz.prog 133 [.v (.int .i64 (n : Int)), .v (.int .i64 (n : Int)), .it (.one (.clo 134 []))] (.agg (matQ n n ((tabR n idv n).map q4v))) := by
    have h := con_made n n (.sat (cloR 134 [] [])) (fun i k => q4v (idv i k)) idv 1 (by omega) (by omega) (by omega) (fun i k _ _ => FnV.const (con_inv1 i k)) (fun i k _ _ => (idv_RB i k).ra) rfl
    rw [matA_matQ] at h
    refine weakArgs h fun E S w vs hv => ?_
    match vs, hv with
    | [u1, u2, u3], ⟨h1, h2, h3, _⟩ => exact ⟨h1, h2, fnArg h3, trivial⟩
  have cM := con_made n n (.sat (cloR 137 [] [.sat (ptrR [.sat (wkP (red n n n (vat vs n) idv).1 n (rdP n n n (vat vs n) idv))]), .sat (ptrR [.val (.int .i64 (n : Int)), .val (.int .i64 (n : Int)), .sat (rowR 4 q4C l)])])) (fun i k => q4v (rdM n n n (vat vs n) idv i (n + k))) (fun i k => rdM n n n (vat vs n) idv i (n + k)) (kb K n) (by omega) (by omega) (by omega)
    (fun i k hi hk => by
      obtain ⟨row, h1, _, h3⟩ := red_row (r := n) (c := n) (d := n) (va := vat vs n) (vb := idv) hi
      exact FnV.clo (con_inv2 h1 (h3 (n + k) (by omega)) (by omega) (by omega))) (fun i k hi hk => (red_RB hRW hi (by omega)).ra) rfl
  generalize rdP n n n (vat vs n) idv = ps at *
  generalize (red n n n (vat vs n) idv).1 = M at *
  by_cases hp : ps.length < n
  · rw [if_pos hp]
    refine PureOK.fnF Tryz.func70 Tryz.results70 Tryz.ntmps70 rfl rfl rfl (by simp [AV.ids, AV0.ids, Atom.ids]) rfl (fun w0 T B E0 hB => ?_)
    refine SX.goF ?_
    exact .ok (RetOK.mk2 (ResOK.agg3 rfl rfl rfl) (ResOK.tmp rfl))
  · rw [if_neg hp]
    refine PureOK.fnF Tryz.func70 Tryz.results70 Tryz.ntmps70 rfl rfl rfl (by simp [AV.ids, AV0.ids, Atom.ids]) rfl (fun w0 T B E0 hB => ?_)
    refine SX.goF ?_
    refine SX.WP.freezeB 4 hB rfl rfl ?_
    refine SX.WP.freezeB 1 hB rfl rfl ?_
    refine SX.WP.regionL ?_
    refine SX.goF ?_
    exact .ok (RetOK.mk2 (ResOK.agg3 rfl rfl rfl) (ResOK.tmp rfl))
end Go.Proofs.YtfhpmbenldgfnaaGreatDoor
set_option linter.unusedVariables false
set_option linter.unusedSimpArgs false
namespace Go.Proofs.YtfhpmbenldgfnaaGreatDoor
open Go.RowKit QM SX
attribute [local irreducible] IntKind.wrap Go1 Reg WP thenK inBlk retQ retF RetF RetOK ResOK CallOK OpOK Sat
attribute [local irreducible] qsub qmul qquo qcmp qadd qv redS mf
def isI (i a : Nat) : Bool := decide (i = a)
def nzQ (v : Rat) : Bool := decide (v ≠ 0)
def anyNZ (l : List Rat) : Bool := decide (¬ fi nzQ l 0 < 0)
end Go.Proofs.YtfhpmbenldgfnaaGreatDoor
set_option linter.unusedVariables false
set_option linter.unusedSimpArgs false
namespace Go.Proofs.YtfhpmbenldgfnaaGreatDoor
open Go.RowKit QM SX
attribute [local irreducible] IntKind.wrap Go1 Reg WP thenK inBlk retQ retF RetF RetOK ResOK CallOK OpOK Sat
attribute [local irreducible] qsub qmul qquo qcmp qadd qv redS mf
def solX (ps : List Nat) (m : Nat → Nat → Rat) (c i k : Nat) : Rat := if i ∈ ps then m (fi (isI i) ps 0).toNat (c + k) else 0
def SolOK (r c d : Nat) (va vb : Nat → Nat → Rat) : Prop := ∀ i, (rdP r c d va vb).length ≤ i → i < r → ∀ k, k < d → rdM r c d va vb i (c + k) = 0
end Go.Proofs.YtfhpmbenldgfnaaGreatDoor
set_option linter.unusedVariables false
set_option linter.unusedSimpArgs false
namespace Go.Proofs.YtfhpmbenldgfnaaGreatDoor
open Go.RowKit QM SX
attribute [local irreducible] IntKind.wrap Go1 Reg WP thenK inBlk retQ retF RetF RetOK ResOK CallOK OpOK Sat
attribute [local irreducible] qsub qmul qquo qcmp qadd qv redS mf
def kerX (ps fr : List Nat) (m : Nat → Nat → Rat) (i k : Nat) : Rat := if i ∈ ps then -m (fi (isI i) ps 0).toNat (fr.getD k 0) else if fr.getD k 0 = i then 1 else 0
end Go.Proofs.YtfhpmbenldgfnaaGreatDoor
set_option linter.unusedVariables false
set_option linter.unusedSimpArgs false
namespace Go.Proofs.YtfhpmbenldgfnaaGreatDoor
open Go.RowKit QM SX
attribute [local irreducible] IntKind.wrap Go1 Reg WP thenK inBlk retQ retF RetF RetOK ResOK CallOK OpOK Sat
attribute [local irreducible] qsub qmul qquo qcmp qadd qv redS mf
abbrev RawQ := Bool × List Nat × Bool × List Nat
abbrev rq (x : RawQ) : Q4 := (x.1, rawN x.2.1, x.2.2.1, rawN x.2.2.2)
def rqv (x : RawQ) : Rat := qv (sgn x.1 (nval WB x.2.1)) (sgn x.2.2.1 (nval WB x.2.2.2))
def RSm (l : List RawQ) : Prop := ∀ x ∈ l, Sm WB x.2.1 ∧ Sm WB x.2.2.2
def RLen (l : List RawQ) (K : Nat) : Prop := ∀ x ∈ l, x.2.1.length ≤ K ∧ x.2.2.2.length ≤ K
theorem MV.raw {l : List RawQ} {K : Nat} (hs : RSm l) (hl : RLen l K) : MV (l.map rq) (l.map rqv) K := by
  refine ⟨by rw [List.length_map, List.length_map], fun i q v hq hv => ?_⟩
  rw [List.getElem?_map] at hq hv
  cases hx : l[i]? with
  | none => rw [hx] at hq; cases hq
  | some x =>
    rw [hx] at hq hv
    cases hq; cases hv
    have h1 := hs x (List.mem_of_getElem? hx)
    have h2 := hl x (List.mem_of_getElem? hx)
    exact Ra.raw ⟨nn_lt h1.1 (Nat.le_refl _)⟩ ⟨nn_lt h1.2 (Nat.le_refl _)⟩ h2.1 h2.2
theorem con_rFormed (r c : Int) {n : Nat} {cells : List CA} : PureOK Tryz.prog 37 [.agg [.c (.val (.int .i64 r)), .c (.val (.int .i64 c)), .c (.sat (sliceR 4 n cells))]] (.v (.bool (decide (0 ≤ r ∧ r ≤ 64 ∧ 0 ≤ c ∧ c ≤ 64 ∧ (n : Int) = r * c)))) := by
  refine PureOK.fnF Tryz.func37 Tryz.results37 Tryz.ntmps37 rfl rfl rfl (by simp [AV.ids, AV0.ids, Atom.ids]) rfl (fun w0 T B E0 hB => ?_)
  by_cases h1 : r ≥ 0
  · by_cases h2 : r ≤ 64
    · by_cases h3 : c ≥ 0
      · by_cases h4 : c ≤ 64
        · have hp : 0 ≤ r * c := Int.mul_nonneg h1 h3
          have hp2 : r * c ≤ 64 * 64 := Int.mul_le_mul h2 h4 h3 (by decide)
          refine SX.goF ?_
          refine retB ?_
          rw [decide_eq_decide]
          exact ⟨fun h => ⟨h1, h2, h3, h4, h⟩, fun h => h.2.2.2.2⟩
        · refine SX.goF ?_
          refine retB ?_; exact (decide_eq_false fun h => h4 h.2.2.2.1).symm
      · refine SX.goF ?_
        refine retB ?_; exact (decide_eq_false fun h => h3 h.2.2.1).symm
    · refine SX.goF ?_
      refine retB ?_; exact (decide_eq_false fun h => h2 h.2.1).symm
  · refine SX.goF ?_
    refine retB ?_; exact (decide_eq_false fun h => h1 h.1).symm
def FewP (r c : Int) (l : List RawQ) (s w : Int) : Prop := (∀ k x, k < 100 → l[k]? = some x → (x.2.1.length : Int) ≤ w ∧ (x.2.2.2.length : Int) ≤ w) ∧ r ≤ s ∧ c ≤ s ∧ l.length ≤ 100
theorem con_rFew (r c : Int) (l : List RawQ) (s w : Int) :
    (FewP r c l s w → PureOK Tryz.prog 34 [.agg (matZ r c (l.map rq)), .v (.int .i64 s), .v (.int .i64 w)] (.v (.bool true))) ∧
    (¬ FewP r c l s w → PureOK Tryz.prog 34 [.agg (matZ r c (l.map rq)), .v (.int .i64 s), .v (.int .i64 w)] (.v (.bool false))) := by
  have hlen : (l.map rq).length = l.length := List.length_map _
  have key : ∀ (goal : Bool), (goal = true ↔ FewP r c l s w) → PureOK Tryz.prog 34 [.agg (matZ r c (l.map rq)), .v (.int .i64 s), .v (.int .i64 w)] (.v (.bool goal)) := by
    intro goal hg
    refine PureOK.fnF Tryz.func34 Tryz.results34 Tryz.ntmps34 rfl rfl rfl (by simp [AV.ids, AV0.ids, Atom.ids]) rfl (fun w0 T B E0 hB => ?_)
    refine SX.goF ?_
    refine W.loop (fun k => k ≤ l.length ∧ k ≤ 100 ∧ ∀ j x, j < k → l[j]? = some x → (x.2.1.length : Int) ≤ w ∧ (x.2.2.2.length : Int) ≤ w) (fun k => [(1, .v (.int .i64 s)), (2, .v (.int .i64 w)), (3, .ptr 3 0), (7, .v (.int .i64 (k : Int)))]) (fun k => [(3, .box 30 (matZ r c (l.map rq)))]) (fun k => l.length - k) 0 ⟨Nat.zero_le _, Nat.zero_le _, fun j x h => absurd h (Nat.not_lt_zero _)⟩ (fun k ⟨hk, hk2, he⟩ => ?_)
    by_cases h : k < l.length
    · have h' : k < (l.map rq).length := by omega
      by_cases h2 : k < 100
      · obtain ⟨x, hx⟩ : ∃ x, l[k]? = some x := ⟨_, List.getElem?_eq_getElem h⟩
        have hq : (l.map rq)[k]? = some (rq x) := by rw [List.getElem?_map, hx]; rfl
        have cF := (con_Few x.1 x.2.1 x.2.2.1 x.2.2.2 w).h trivial
        by_cases h3 : (x.2.1.length : Int) ≤ w ∧ (x.2.2.2.length : Int) ≤ w
        · rw [decide_eq_true h3] at cF
          refine SX.goF ?_
          refine W.next (k + 1) ⟨h, h2, fun j b hj hb => ?_⟩ (by omega)
          by_cases hjk : j < k
          · exact he j b hjk hb
          · obtain rfl : j = k := by omega
            rw [hx] at hb; rw [← Option.some.inj hb]; exact h3
        · rw [decide_eq_false h3] at cF
          refine SX.goF ?_
          refine retB ?_
          exact (Bool.eq_false_iff.2 fun ht => h3 ((hg.1 ht).1 k x h2 hx)).symm
      · obtain rfl : k = 100 := by omega
        have hno : ¬ (l.map rq).length ≤ 100 := by omega
        by_cases h3 : r ≤ s
        · by_cases h4 : c ≤ s
          · refine SX.goF ?_
            refine retB ?_
            rw [Bool.eq_iff_iff, hg, decide_eq_true_iff]
            exact ⟨fun h => by omega, fun h => by have := h.2.2.2; omega⟩
          · refine SX.goF ?_
            refine retB ?_
            exact (Bool.eq_false_iff.2 fun ht => h4 (hg.1 ht).2.2.1).symm
        · refine SX.goF ?_
          refine retB ?_
          exact (Bool.eq_false_iff.2 fun ht => h3 (hg.1 ht).2.1).symm
    · obtain rfl : k = l.length := by omega
      have h' : ¬ l.length < (l.map rq).length := by omega
      have all : ∀ k x, k < 100 → l[k]? = some x → (x.2.1.length : Int) ≤ w ∧ (x.2.2.2.length : Int) ≤ w := fun j x hj hx => by
        have hjl : j < l.length := by
          rcases Nat.lt_or_ge j l.length with h | h
          · exact h
          · rw [List.getElem?_eq_none h] at hx; cases hx
        exact he j x hjl hx
      by_cases h3 : r ≤ s
      · by_cases h4 : c ≤ s
        · refine SX.goF ?_
          refine retB ?_
          rw [Bool.eq_iff_iff, hg, decide_eq_true_iff]
          exact ⟨fun h => ⟨all, h3, h4, by omega⟩, fun h => by have := h.2.2.2; omega⟩
        · refine SX.goF ?_
          refine retB ?_
          exact (Bool.eq_false_iff.2 fun ht => h4 (hg.1 ht).2.2.1).symm
      · refine SX.goF ?_
        refine retB ?_
        exact (Bool.eq_false_iff.2 fun ht => h3 (hg.1 ht).2.1).symm
  exact ⟨fun h => key true ⟨fun _ => h, fun _ => rfl⟩, fun h => key false ⟨fun h => (by cases h), fun h2 => absurd h2 h⟩⟩
end Go.Proofs.YtfhpmbenldgfnaaGreatDoor
set_option linter.unusedVariables false
set_option linter.unusedSimpArgs false
namespace Go.Proofs.YtfhpmbenldgfnaaGreatDoor
open Go.RowKit QM SX LA
attribute [local irreducible] IntKind.wrap Go1 Reg WP thenK inBlk retQ retF RetF RetOK ResOK CallOK OpOK Sat
attribute [local irreducible] qsub qmul qquo qcmp qadd qv redS mf
section
variable {l l' : List Atom} {v : Rat} {K K' : Nat}
theorem sign_0 [a : Ra l 0 K] (h : K ≤ 400000) : PureOK Tryz.prog 21 [.agg l] (.v (.int .i64 0)) := by
  obtain ⟨z, c, hz, _⟩ := eSign l h
  rw [show z = 0 from hz.2 rfl] at c; exact c
end
theorem of_0 : PureOK Tryz.prog 23 [.v (.int .i64 0)] (.agg (zN 0)) := con_zOf.h ⟨by decide, by decide⟩
theorem of_1 : PureOK Tryz.prog 23 [.v (.int .i64 1)] (.agg (zN 1)) := con_zOf.h ⟨by decide, by decide⟩
theorem rof_1 : PureOK Tryz.prog 36 [.agg (zN 1)] (.agg (qA 1)) := con_rOf.h (by decide)
theorem at_lt {α : Type} {l : List α} {i : Nat} {a : α} (h : l[i]? = some a) : i < l.length := by
  rcases Nat.lt_or_ge i l.length with h2 | h2
  · exact h2
  · rw [List.getElem?_eq_none h2] at h; cases h
theorem MV.at {r c i k K : Nat} {l : List Q4} {vs : List Rat} (hM : MV l vs K) (hl : l.length = r * c) (hi : i < r) (hk : k < c) : ∃ q, l[i * c + k]? = some q ∧ Ra (q4A q) (vat vs c i k) K := by
  have h := idx_lt hi hk
  obtain ⟨q, hq⟩ : ∃ q, l[i * c + k]? = some q := ⟨_, List.getElem?_eq_getElem (by omega)⟩
  exact ⟨q, hq, hM.ra _ _ _ hq (vat_at (by rw [← hM.len]; exact hl) hi hk)⟩
end Go.Proofs.YtfhpmbenldgfnaaGreatDoor
set_option linter.unusedVariables false
set_option linter.unusedSimpArgs false
namespace Go.Proofs.YtfhpmbenldgfnaaGreatDoor
open Go.RowKit QM SX LA
attribute [local irreducible] IntKind.wrap Go1 Reg WP thenK inBlk retQ retF RetF RetOK ResOK CallOK OpOK Sat
attribute [local irreducible] qsub qmul qquo qcmp qadd qv redS mf
theorem sm_RB {f : Nat → Rat} {L : Nat} : ∀ {n : Nat}, (∀ j, j < n → RB (f j) L) → RB (sm n f) (1 + n * (L + 1))
  | 0, _ => RB.zero (by omega)
  | n + 1, h => by
    have h1 := sm_RB (n := n) fun j hj => h j (by omega)
    refine ((h1.add (h n (by omega))).mono ?_ : RB (sm n f + f n) _)
    rw [Nat.succ_mul]; omega
abbrev prodV (c : Nat) (va vb : Nat → Nat → Rat) (i k : Nat) : Rat := sm c (fun j => va i j * vb j k)
end Go.Proofs.YtfhpmbenldgfnaaGreatDoor
set_option linter.unusedVariables false
set_option linter.unusedSimpArgs false
namespace Go.Proofs.YtfhpmbenldgfnaaGreatDoor
open Go.RowKit QM SX LA
attribute [local irreducible] IntKind.wrap Go1 Reg WP thenK inBlk retQ retF RetF RetOK ResOK CallOK OpOK Sat
attribute [local irreducible] qsub qmul qquo qcmp qadd qv redS mf
end Go.Proofs.YtfhpmbenldgfnaaGreatDoor
set_option linter.unusedVariables false
set_option linter.unusedSimpArgs false
namespace Go.Proofs.YtfhpmbenldgfnaaGreatDoor
open Go.RowKit QM SX LA
attribute [local irreducible] IntKind.wrap Go1 Reg WP thenK inBlk retQ retF RetF RetOK ResOK CallOK OpOK Sat
attribute [local irreducible] qsub qmul qquo qcmp qadd qv redS mf
abbrev Z2 := Bool × Rep
abbrev z2A (q : Z2) : List Atom := [.c (.val (.bool q.1)), .c (.sat q.2)]
abbrev z2C (q : Z2) : List CA := [.val (.bool q.1), .sat q.2]
instance : EncLen z2C 2 := ⟨fun _ => rfl⟩
abbrev zC (z : Int) : List CA := [.val (.bool (decide (z < 0))), .sat (nrmN z.natAbs)]
abbrev z2v (z : Int) : Z2 := (decide (z < 0), nrmN z.natAbs)
structure ZQ (q : Z2) (z : Int) (K : Nat) : Prop where
  h : ∃ n k, z = sgn q.1 n ∧ NI (.sat q.2) n k ∧ k ≤ K
  b : z.natAbs < WB ^ K
theorem NI.le {a : CA} {n k K : Nat} (x : NI a n k) (hK : k ≤ K) : NI a n K := ⟨fun S w v h => by
  obtain ⟨l, h1, h2, h3⟩ := natR_iff.1 (x.p S w v h)
  exact natR_iff.2 ⟨l, h1, Nat.le_trans h2 hK, h3⟩⟩
theorem ZQ.zi {q : Z2} {z : Int} {K : Nat} (h : ZQ q z K) : ZI (z2A q) z K := by
  obtain ⟨n, k, h1, h2, h3⟩ := h.h
  exact h1 ▸ ZI.mk' (neg := q.1) (h2.le h3)
theorem z_sgn (z : Int) : sgn (decide (z < 0)) z.natAbs = z := by
  unfold sgn
  by_cases h : z < 0
  · rw [decide_eq_true h]; simp; omega
  · rw [decide_eq_false h]; simp; omega
theorem ZQ.made {z : Int} {K : Nat} (h : z.natAbs < WB ^ K) : ZQ (z2v z) z K :=
  ⟨⟨z.natAbs, K, (z_sgn z).symm, NI.nrm' h, Nat.le_refl _⟩, h⟩
theorem ZQ.raw {b : Bool} {l : List Nat} {K : Nat} (hs : Sm WB l) (hl : l.length ≤ K) : ZQ (b, rawN l) (sgn b (nval WB l)) K :=
  ⟨⟨_, _, rfl, NI.raw l, hl⟩, by
    have h1 : (sgn b (nval WB l)).natAbs = nval WB l := by unfold sgn; split <;> omega
    rw [h1]; exact Nat.lt_of_lt_of_le (nn_lt hs (Nat.le_refl _)) (Nat.pow_le_pow_right WB_pos hl)⟩
structure MZ (l : List Z2) (zs : List Int) (K : Nat) : Prop where
  len : l.length = zs.length
  z : ∀ (i : Nat) q z, l[i]? = some q → zs[i]? = some z → ZQ q z K
abbrev matW (r c : Int) (l : List Z2) : List Atom := [.c (.val (.int .i64 r)), .c (.val (.int .i64 c)), .c (.sat (rowR 2 z2C l))]
abbrev matY (r c : Nat) (l : List Z2) : List Atom := [.c (.val (.int .i64 (r : Int))), .c (.val (.int .i64 (c : Int))), .c (.sat (rowR 2 z2C l))]
abbrev matN (r c : Nat) (l : List Int) : List Atom := [.c (.val (.int .i64 (r : Int))), .c (.val (.int .i64 (c : Int))), .c (.sat (rowR 2 zC l))]
def zat (zs : List Int) (c i k : Nat) : Int := zs.getD (i * c + k) 0
theorem from_z {q : Z2} {z : Int} {K : Nat} (h : ZQ q z K) (hK : K ≤ 1000000) : PureOK Tryz.prog 64 [.it (.one (.c (.sat q.2))), .v (.bool q.1)] (.agg (zN z)) := by
  obtain ⟨n, k, h1, h2, h3⟩ := h.h
  rw [h1]
  exact con_zFrom (h := h2) q.1 |>.h (by omega)
end Go.Proofs.YtfhpmbenldgfnaaGreatDoor
set_option linter.unusedVariables false
set_option linter.unusedSimpArgs false
namespace Go.Proofs.YtfhpmbenldgfnaaGreatDoor
open Go.RowKit QM SX LA
attribute [local irreducible] IntKind.wrap Go1 Reg WP thenK inBlk retQ retF RetF RetOK ResOK CallOK OpOK Sat
attribute [local irreducible] qsub qmul qquo qcmp qadd qv redS mf
def tabZ (c : Nat) (val : Nat → Nat → Int) (i : Nat) : List Int := (List.range i).flatMap fun i => (List.range c).map (val i)
theorem tabZ_zero {c : Nat} {val : Nat → Nat → Int} : tabZ c val 0 = [] := rfl
def rowZ (val : Nat → Nat → Int) (i k : Nat) : List Int := (List.range k).map (val i)
def i64C (z : Int) : List CA := [.val (.int .i64 z)]
end Go.Proofs.YtfhpmbenldgfnaaGreatDoor
set_option linter.unusedVariables false
set_option linter.unusedSimpArgs false
namespace Go.Proofs.YtfhpmbenldgfnaaGreatDoor
open Go.RowKit QM SX LA
section
attribute [local irreducible] IntKind.wrap Go1 Reg WP thenK inBlk retQ retF RetF RetOK ResOK CallOK OpOK Sat
attribute [local irreducible] qsub qmul qquo qcmp qadd qv redS mf
end
end Go.Proofs.YtfhpmbenldgfnaaGreatDoor
set_option linter.unusedVariables false
set_option linter.unusedSimpArgs false
namespace Go.Proofs.YtfhpmbenldgfnaaGreatDoor
open Go.RowKit QM SX LA
def awV : List Rat := tabR 2 (fun i k => qv (zat (tabZ 2 (zat [1, 2, 3, 4] 2) 2) 2 i k) 1) 2
section
attribute [local irreducible] IntKind.wrap Go1 Reg WP thenK inBlk retQ retF RetF RetOK ResOK CallOK OpOK Sat
attribute [local irreducible] qsub qmul qquo qcmp qadd qv redS mf awV
end
end Go.Proofs.YtfhpmbenldgfnaaGreatDoor

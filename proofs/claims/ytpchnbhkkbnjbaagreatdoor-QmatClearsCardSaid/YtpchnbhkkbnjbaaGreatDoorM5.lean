import Derived.Test.YtpchnbhkkbnjbaaGreatDoorM4
import Derived.Test.YtpchnbhkkbnjbaaGreatDoorM3
/- Reduced rows: the walk. -/
set_option linter.unusedVariables false
set_option linter.unusedSimpArgs false
namespace Go.Proofs.YtpchnbhkkbnjbaaGreatDoor
open Go.RowKit QM SX
attribute [local irreducible] IntKind.wrap Go1 Reg WP thenK inBlk retQ retF RetF RetOK ResOK CallOK OpOK Sat
attribute [local irreducible] qsub qmul qquo qcmp qadd qv
theorem wk_frz {M : List (List Rat)} {cols : Nat} {ps : List Nat} : ∀ bk v X S w, (wkE M cols ps).has bk v X S w → (∃ (t : TypeId) (cs : List Value), w.heap[bk]? = some (.cells cs.toArray t (0, 0)) ∧ All2 (CA.has (fun k => S k ∧ ¬ X k) w) [.sat (rowR 1 rowC M), .val (.int .i64 (cols : Int)), .sat (rowR 1 piC ps)] cs) ∧ X bk := by
  rintro bk v X S w ⟨⟨js, c⟩, E, hB⟩
  obtain ⟨cs, g1, g2⟩ := hB.box
  have hR : RowsHas 22 52 4 qC js c (E.sl 91) (E.fp 91) S w := hB.ents 91 (.abs (RowsA js c)) (by simp)
  obtain ⟨vs, hp1, hp2⟩ : (PivE ps).has E S w 92 := hB.ents 92 (PivE ps) (by simp)
  have hM : js.map (fun j => c.getD j []) = M := hB.φ.2.2
  refine ⟨⟨_, cs, g1, ?_⟩, (hB.X bk).2 (.inl rfl)⟩
  match cs, g2 with
  | [u1, u2, u3], ⟨k1, k2, k3, _⟩ =>
    refine ⟨?_, k2, ?_, trivial⟩
    · have hf := hR.frz (S' := fun k => S k ∧ ¬ X k) (fun k hk => hk.1) (fun k hX hk => hk.2 ((hB.X k).2 (.inr ⟨91, .abs (RowsA js c), by simp, hX⟩)))
      have ec : js.map (fun j => CA.sat (rowR 4 qC (c.getD j []))) = M.flatMap rowC := by rw [rowC_map, ← hM, List.map_map]; rfl
      rw [ec, show js.length = M.length by rw [← hM, List.length_map]] at hf
      rw [show u1 = hdrAt (E.sl 91) 0 from k1.1]
      exact hf
    · rw [show u3 = E.sl 92 from k3.1]
      exact own_frz hp1 (hp2.mono fun a u _ ha => ha.step (Off.refl S w) (fun k hk => .inl hk.1)) (fun k hk hS => hS.2 ((hB.X k).2 (.inr ⟨92, PivE ps, by simp, hk⟩)))
theorem kb_succ : ∀ (n K : Nat), kb K (n + 1) = 4 * kb K n + 2
  | 0, K => rfl
  | n + 1, K => by
    show kb (4 * K + 2) (n + 1) = 4 * kb (4 * K + 2) n + 2
    exact kb_succ n (4 * K + 2)
theorem redS_stop {n col : Nat} {M : List (List Rat)} {ps : List Nat} (h : n = 0 ∨ ¬ ps.length < M.length) : redS n col M ps = (M, ps) := by
  cases n with
  | zero => rfl
  | succ n => exact if_neg (h.resolve_left (by omega))
structure RdS where
  col : Nat
  M : List (List Rat)
  ps : List Nat
theorem con_reduced (r c rb d : Nat) (x y : Rep) (va vb : Nat → Nat → Rat) (K : Nat) (hr : r ≤ 100) (hc : c ≤ 100) (hd : d ≤ 100)
    (hA : ∀ i k, i < r → k < c → PureOK Tryz.prog 53 [.agg (matR r c x), .v (.int .i64 (i : Int)), .v (.int .i64 (k : Int))] (.agg (qA (va i k))))
    (hBt : ∀ i k, i < r → k < d → PureOK Tryz.prog 53 [.agg (matR rb d y), .v (.int .i64 (i : Int)), .v (.int .i64 (k : Int))] (.agg (qA (vb i k))))
    (hRW : RW (bgM c d va vb r) (c + d) K) (hkb : ∀ n, n < c → kb K n ≤ 49000) :
    PureOK Tryz.prog 56 [.agg (matR r c x), .agg (matR rb d y)] (.r (ptrR [.sat (rowR 1 rowC (redS c 0 (bgM c d va vb r) []).1), .val (.int .i64 (c : Int)), .sat (rowR 1 piC (redS c 0 (bgM c d va vb r) []).2)])) := by
  have cb := con_begun r c rb d x y va vb hr hc hd hA hBt
  refine PureOK.fnF Tryz.func56 Tryz.results56 Tryz.ntmps56 rfl rfl rfl (by simp [AV.ids, AV0.ids, Atom.ids]) rfl (fun w0 T B E0 hB => ?_)
  refine SX.goQ ?_
  refine SX.Go1.callG (cap := []) (args := [.agg (matR r c x), .agg (matR rb d y)]) (pre := []) (fp := [81]) rfl rfl rfl cb (by intro b e h; cases h) (by intro b s h; simp at h; obtain ⟨rfl, _⟩ := h; exact .inr rfl) (by intro b s h; simp at h; rw [h.2]; rfl) (by intro b s h; simp at h; simp [h.1]) (by
    intro i h
    rcases h with h | ⟨b, e, hb, h⟩
    · have : i = 81 := by simpa [AV.ids, AV0.ids, Atom.ids] using h
      subst this; exact .inl ⟨_, List.mem_singleton.2 rfl⟩
    · simp at hb; obtain ⟨rfl, rfl⟩ := hb; cases h) ?_
  refine SX.goQ ?_
  have hM0 : (bgM c d va vb r).length = r := by simp [bgM]
  refine W.loop (fun q : RdS => q.col ≤ c ∧ redS (c - q.col) q.col q.M q.ps = redS c 0 (bgM c d va vb r) [] ∧ RW q.M (c + d) (kb K q.col) ∧ q.M.length = r) (fun q => [(5, .ptr 81 0), (6, .v (.int .i64 (q.col : Int)))]) (fun q => [(81, .abs (wkE q.M c q.ps))]) (fun q => c - q.col) ⟨0, bgM c d va vb r, []⟩ ⟨Nat.zero_le _, rfl, hRW, hM0⟩ (fun q hq => ?_)
    (by
      refine SX.St.le_to [] (by intro b h; cases h) ?_ ?_ rfl
      · repeat (first | exact trivial | refine ⟨⟨_, rfl, SX.AVto.same rfl⟩, ?_⟩)
      · exact ⟨SX.EntTo.same rfl rfl, trivial⟩)
  obtain ⟨col, M, ps⟩ := q
  dsimp only at hq
  obtain ⟨hq1, hq2, hq3, hq4⟩ := hq
  show WP _ _ _ (mkSt [(5, .ptr 81 0), (6, .v (.int .i64 (col : Int)))] [(81, .abs (wkE M c ps))]) _
  refine wk_open rfl rfl rfl rfl rfl (fun js cc hnd hlt hjM => ?_)
  have hlen : js.length = M.length := by rw [← hjM, List.length_map]
  by_cases h1 : col < c
  · by_cases h2 : ps.length < M.length
    · have hh := Hide.mk h2
      clear h2
      refine SX.goQ ?_
      refine SX.WP.weaken (wk_close js cc [] [91, 92] hnd hlt hjM rfl ⟨AtomTo.same rfl, AtomTo.same rfl, AtomTo.same rfl, trivial⟩ ⟨SX.EntTo.same rfl rfl, SX.EntTo.same rfl rfl, trivial⟩ rfl rfl rfl) ?_
      have h2 := hh.out
      have cC := con_column M c ps col (c + d) (kb K col) hq3 (hkb col h1) (by omega) (by omega) (by omega) h2
      refine SX.goQ ?_
      refine W.next ⟨col + 1, colM M ps.length col, colP M ps col⟩ ⟨h1, ?_, ?_, ?_⟩ (by dsimp only; omega) (by
        refine SX.St.le_to [] (by intro b h; cases h) ?_ ?_ rfl
        · repeat (first | exact trivial | refine ⟨⟨_, rfl, SX.AVto.same rfl⟩, ?_⟩)
        · exact ⟨SX.EntTo.same rfl rfl, trivial⟩)
      · rw [← hq2]
        dsimp only
        obtain ⟨n, hn⟩ : ∃ n, c - col = n + 1 := ⟨c - col - 1, by omega⟩
        rw [hn, show c - (col + 1) = n by omega]
        conv => rhs; unfold redS; rw [if_pos h2]
      · dsimp only
        rw [kb_succ]
        exact colM_RW hq3 h2 (by omega)
      · dsimp only
        rw [colM_len]; exact hq4
    · refine SX.goQ ?_
      refine RetF.le (wk_close js cc [] [91, 92] hnd hlt hjM rfl ⟨AtomTo.same rfl, AtomTo.same rfl, AtomTo.same rfl, trivial⟩ ⟨SX.EntTo.same rfl rfl, SX.EntTo.same rfl rfl, trivial⟩ rfl rfl rfl) ?_
      refine RetF.le (St.le_bfzA hB (b := 81) rfl wk_frz) ?_
      rw [← hq2, redS_stop (.inr h2)]
      exact ret1 rfl
  · refine SX.goQ ?_
    refine RetF.le (wk_close js cc [] [91, 92] hnd hlt hjM rfl ⟨AtomTo.same rfl, AtomTo.same rfl, AtomTo.same rfl, trivial⟩ ⟨SX.EntTo.same rfl rfl, SX.EntTo.same rfl rfl, trivial⟩ rfl rfl rfl) ?_
    refine RetF.le (St.le_bfzA hB (b := 81) rfl wk_frz) ?_
    rw [← hq2, redS_stop (.inl (by omega))]
    exact ret1 rfl
end Go.Proofs.YtpchnbhkkbnjbaaGreatDoor
/- The reduced form: the walk. -/
set_option linter.unusedVariables false
set_option linter.unusedSimpArgs false
namespace Go.Proofs.YtpchnbhkkbnjbaaGreatDoor
open Go.RowKit QM SX
theorem weakArgs {P : Program} {f : FuncId} {args args' : List AV} {r : AV} (h : PureOK P f args' r) (hi : ∀ E S w vs, All2 (AV.has E S w) args vs → All2 (AV.has E S w) args' vs) : PureOK P f args r :=
  ⟨h.1, fun E S w vs hl hv a b c => h.2 E S w vs hl (hi E S w vs hv) a b c⟩
attribute [local irreducible] IntKind.wrap Go1 Reg WP thenK inBlk retQ retF RetF RetOK ResOK CallOK OpOK Sat
attribute [local irreducible] qsub qmul qquo qcmp qadd qv
abbrev q4v (v : Rat) : Q4 := (decide (v.num < 0), nrmN v.num.natAbs, decide ((v.den : Int) < 0), nrmN (v.den : Int).natAbs)
abbrev wkP (M : List (List Rat)) (cols : Nat) (ps : List Nat) : Rep := ptrR [.sat (rowR 1 rowC M), .val (.int .i64 (cols : Int)), .sat (rowR 1 piC ps)]
theorem con_red1 {M : List (List Rat)} {cols : Nat} {ps : List Nat} {i k : Nat} {row : List Rat} {v : Rat} (hi : M[i]? = some row) (hk : row[k]? = some v) :
    PureOK Tryz.prog 58 [.v (.int .i64 (i : Int)), .v (.int .i64 (k : Int)), .r (ptrR [.sat (wkP M cols ps)])] (.agg (q4A (q4v v))) := by
  have h1 : i < M.length := by
    rcases Nat.lt_or_ge i M.length with h | h
    · exact h
    · rw [List.getElem?_eq_none h] at hi; cases hi
  have h2 : k < row.length := by
    rcases Nat.lt_or_ge k row.length with h | h
    · exact h
    · rw [List.getElem?_eq_none h] at hk; cases hk
  refine PureOK.fnF Tryz.func58 Tryz.results58 Tryz.ntmps58 rfl rfl rfl (by simp [AV.ids, AV0.ids, Atom.ids]) rfl (fun w0 T B E0 hB => ?_)
  refine SX.goQ ?_
  exact retA (ResOK.agg4 rfl rfl rfl) rfl
theorem nil_row {α : Type} {enc : α → List CA} {size : Nat} {S : Nat → Prop} {w : World} : (rowR size enc ([] : List α)).has S w (.slice none 0 0) :=
  sliceR_iff.2 ⟨none, 0, rfl, Nat.le_refl _, Nat.zero_le _, fun _ => rfl, by simp, fun i c h => by simp at h⟩
/-- The rows of one matrix, reduced. -/
theorem con_reduced0 (r c : Nat) (x : Rep) (va vb : Nat → Nat → Rat) (K : Nat) (hr : r ≤ 100) (hc : c ≤ 100)
    (hA : ∀ i k, i < r → k < c → PureOK Tryz.prog 53 [.agg (matR r c x), .v (.int .i64 (i : Int)), .v (.int .i64 (k : Int))] (.agg (qA (va i k))))
    (hRW : RW (bgM c 0 va vb r) c K) (hkb : ∀ n, n < c → kb K n ≤ 49000) :
    PureOK Tryz.prog 56 [.agg (matR r c x), .agg [.c (.val (.int .i64 (r : Int))), .c (.val (.int .i64 0)), .c (.val (.slice none 0 0))]] (.r (wkP (redS c 0 (bgM c 0 va vb r) []).1 c (redS c 0 (bgM c 0 va vb r) []).2)) := by
  refine weakArgs (con_reduced r c r 0 x (rowR 4 q4C []) va vb K hr hc (by decide) hA (fun i k _ h => absurd h (Nat.not_lt_zero _)) hRW hkb) fun E S w vs h => ?_
  match vs, h with
  | [u1, u2], ⟨h1, ⟨us, hu, h2⟩, _⟩ =>
    refine ⟨h1, ⟨us, hu, ?_⟩, trivial⟩
    clear hu
    match us, h2 with
    | [a, b, c], ⟨k1, k2, k3, _⟩ =>
      refine ⟨k1, k2, ?_, trivial⟩
      rw [show c = .slice none 0 0 from k3]
      exact nil_row
end Go.Proofs.YtpchnbhkkbnjbaaGreatDoor
/- Linear algebra over fractions: sums, spans of rows, the reduced form. No program in sight. -/
set_option linter.unusedVariables false
set_option linter.unusedSimpArgs false
namespace LA
/-- The sum of the first so many. -/
def sm : Nat → (Nat → Rat) → Rat
  | 0, _ => 0
  | n + 1, f => sm n f + f n
theorem sm_congr {f g : Nat → Rat} : ∀ {n : Nat}, (∀ i, i < n → f i = g i) → sm n f = sm n g
  | 0, _ => rfl
  | n + 1, h => by
    show sm n f + f n = sm n g + g n
    rw [sm_congr (fun i hi => h i (by omega)), h n (by omega)]
theorem sm_zero {f : Nat → Rat} : ∀ {n : Nat}, (∀ i, i < n → f i = 0) → sm n f = 0
  | 0, _ => rfl
  | n + 1, h => by
    show sm n f + f n = 0
    rw [sm_zero (fun i hi => h i (by omega)), h n (by omega)]; grind
theorem sm_add {f g : Nat → Rat} : ∀ (n : Nat), sm n (fun i => f i + g i) = sm n f + sm n g
  | 0 => by show (0 : Rat) = 0 + 0; grind
  | n + 1 => by
    show sm n _ + _ = (sm n f + f n) + (sm n g + g n)
    rw [sm_add n]; grind
theorem sm_mulL {f : Nat → Rat} {c : Rat} : ∀ (n : Nat), sm n (fun i => c * f i) = c * sm n f
  | 0 => by show (0 : Rat) = c * 0; grind
  | n + 1 => by
    show sm n _ + _ = c * (sm n f + f n)
    rw [sm_mulL n]; grind
theorem sm_mulR {f : Nat → Rat} {c : Rat} (n : Nat) : sm n (fun i => f i * c) = sm n f * c := by
  rw [show (fun i => f i * c) = fun i => c * f i from funext fun i => by grind, sm_mulL]; grind
theorem sm_sub {f g : Nat → Rat} (n : Nat) : sm n (fun i => f i - g i) = sm n f - sm n g := by
  rw [show (fun i => f i - g i) = fun i => f i + (-1) * g i from funext fun i => by grind, sm_add, sm_mulL]; grind
theorem sm_swap {f : Nat → Nat → Rat} (m : Nat) : ∀ (n : Nat), sm n (fun i => sm m (f i)) = sm m (fun j => sm n (fun i => f i j))
  | 0 => by
    show (0 : Rat) = _
    exact (sm_zero fun i _ => rfl).symm
  | n + 1 => by
    show sm n _ + sm m (f n) = sm m (fun j => sm n (fun i => f i j) + f n j)
    rw [sm_swap m n, sm_add]
theorem sm_one {f : Nat → Rat} : ∀ {n k : Nat}, k < n → (∀ i, i < n → i ≠ k → f i = 0) → sm n f = f k
  | 0, k, h, _ => absurd h (Nat.not_lt_zero _)
  | n + 1, k, h, hz => by
    show sm n f + f n = f k
    by_cases hk : k = n
    · subst hk; rw [sm_zero (fun i hi => hz i (by omega) (by omega))]; grind
    · rw [sm_one (k := k) (by omega) (fun i hi => hz i (by omega)), hz n (by omega) (fun e => hk e.symm)]; grind
theorem sm_pad {f : Nat → Rat} {n : Nat} : ∀ {m : Nat}, n ≤ m → (∀ i, n ≤ i → i < m → f i = 0) → sm m f = sm n f
  | 0, h, _ => by obtain rfl : n = 0 := by omega
                  rfl
  | m + 1, h, hz => by
    by_cases hn : n = m + 1
    · subst hn; rfl
    · show sm m f + f m = sm n f
      rw [sm_pad (m := m) (by omega) (fun i h1 h2 => hz i h1 (by omega)), hz m (by omega) (by omega)]; grind
theorem sm_upd {f : Nat → Rat} {x : Rat} {k : Nat} : ∀ {n : Nat}, k < n → sm n (fun i => if i = k then x else f i) = sm n f - f k + x
  | 0, h => absurd h (Nat.not_lt_zero _)
  | n + 1, h => by
    show sm n _ + (if n = k then x else f n) = sm n f + f n - f k + x
    by_cases hk : k = n
    · subst hk
      rw [if_pos rfl, sm_congr (g := f) (fun i hi => if_neg (by omega))]; grind
    · rw [if_neg (fun e => hk e.symm), sm_upd (by omega)]; grind
/-- More unknowns than equations: one that isn't 0 solves them. -/
theorem hom (q : Nat) : ∀ (n : Nat) (A : Nat → Nat → Rat), q < n → ∃ c : Nat → Rat, (∃ i, i < n ∧ c i ≠ 0) ∧ ∀ j, j < q → sm n (fun i => c i * A i j) = 0 := by
  induction q with
  | zero => exact fun n A h => ⟨fun _ => 1, ⟨0, h, by decide⟩, fun j hj => absurd hj (Nat.not_lt_zero _)⟩
  | succ q ih =>
    intro n A h
    by_cases hz : ∀ i, i < n → A i q = 0
    · obtain ⟨c, hc, he⟩ := ih n A (by omega)
      refine ⟨c, hc, fun j hj => ?_⟩
      by_cases hjq : j = q
      · subst hjq; exact sm_zero fun i hi => by rw [hz i hi]; grind
      · exact he j (by omega)
    · obtain ⟨i0, h0, hA⟩ : ∃ i, i < n ∧ A i q ≠ 0 := by
        refine Classical.byContradiction fun hn => hz fun i hi => Classical.byContradiction fun h2 => hn ⟨i, hi, h2⟩
      obtain ⟨n', rfl⟩ : ∃ n', n = n' + 1 := ⟨n - 1, by omega⟩
      -- the unknown i0 changes places with the last one
      let σ : Nat → Nat := fun i => if i = i0 then n' else i
      obtain ⟨c, ⟨i1, hi1, hc1⟩, he⟩ := ih n' (fun i j => A (σ i) j - A (σ i) q / A i0 q * A i0 j) (by omega)
      let x : Rat := -(sm n' (fun i => c i * (A (σ i) q / A i0 q)))
      refine ⟨fun i => if i = i0 then x else if i = n' then c i0 else c i, ?_, fun j hj => ?_⟩
      · by_cases h1 : i1 = i0
        · refine ⟨n', by omega, ?_⟩
          subst h1
          show (if n' = i1 then x else if n' = n' then c i1 else c n') ≠ 0
          rw [if_neg (by omega), if_pos rfl]; exact hc1
        · refine ⟨i1, by omega, ?_⟩
          show (if i1 = i0 then x else if i1 = n' then c i0 else c i1) ≠ 0
          rw [if_neg h1, if_neg (by omega)]; exact hc1
      · have key : sm (n' + 1) (fun i => (if i = i0 then x else if i = n' then c i0 else c i) * A i j) = sm n' (fun i => c i * A (σ i) j) + x * A i0 j := by
          by_cases hn : i0 = n'
          · subst hn
            show sm i0 _ + (if i0 = i0 then x else _) * A i0 j = _
            rw [if_pos rfl]
            congr 1
            refine sm_congr fun i hi => ?_
            rw [if_neg (by omega), if_neg (by omega)]
            show _ = c i * A (if i = i0 then i0 else i) j
            rw [if_neg (by omega)]
          · show sm n' _ + (if n' = i0 then x else if n' = n' then c i0 else c n') * A n' j = _
            rw [if_neg (fun e => hn e.symm), if_pos rfl]
            have e1 : sm n' (fun i => (if i = i0 then x else if i = n' then c i0 else c i) * A i j) = sm n' (fun i => if i = i0 then x * A i0 j else c i * A i j) := by
              refine sm_congr fun i hi => ?_
              by_cases hi0 : i = i0
              · subst hi0; rw [if_pos rfl, if_pos rfl]
              · rw [if_neg hi0, if_neg hi0, if_neg (by omega)]
            have e2 : sm n' (fun i => c i * A (σ i) j) = sm n' (fun i => if i = i0 then c i0 * A n' j else c i * A i j) := by
              refine sm_congr fun i hi => ?_
              show c i * A (if i = i0 then n' else i) j = _
              by_cases hi0 : i = i0
              · subst hi0; rw [if_pos rfl, if_pos rfl]
              · rw [if_neg hi0, if_neg hi0]
            rw [e1, e2, sm_upd (f := fun i => c i * A i j) (by omega), sm_upd (f := fun i => c i * A i j) (by omega)]
            grind
        rw [key]
        have hx : x * A i0 j = -(sm n' (fun i => c i * (A (σ i) q / A i0 q * A i0 j))) := by
          show -(sm n' (fun i => c i * (A (σ i) q / A i0 q))) * A i0 j = _
          rw [show (fun i => c i * (A (σ i) q / A i0 q * A i0 j)) = fun i => (c i * (A (σ i) q / A i0 q)) * A i0 j from funext fun i => by grind, sm_mulR]; grind
        by_cases hjq : j = q
        · subst hjq
          rw [hx, show (fun i => c i * (A (σ i) j / A i0 j * A i0 j)) = fun i => c i * A (σ i) j from funext fun i => by
            rw [show A (σ i) j / A i0 j * A i0 j = A (σ i) j by grind]]
          grind
        · have h3 := he j (by omega)
          rw [hx]
          have e3 : sm n' (fun i => c i * (A (σ i) j - A (σ i) q / A i0 q * A i0 j)) = sm n' (fun i => c i * A (σ i) j) - sm n' (fun i => c i * (A (σ i) q / A i0 q * A i0 j)) := by
            rw [← sm_sub]; exact sm_congr fun i _ => by grind
          rw [e3] at h3
          grind
/-- A row that is a sum of multiples of so many rows. -/
def Sp (n W : Nat) (m : Nat → Nat → Rat) (v : Nat → Rat) : Prop := ∃ c : Nat → Rat, ∀ k, k < W → v k = sm n (fun r => c r * m r k)
theorem Sp.row {n W : Nat} {m : Nat → Nat → Rat} {r : Nat} (hr : r < n) : Sp n W m (m r) := by
  refine ⟨fun i => if i = r then 1 else 0, fun k _ => ?_⟩
  have h0 : sm n (fun i => (if i = r then (1 : Rat) else 0) * m i k) = (if r = r then (1 : Rat) else 0) * m r k := sm_one hr (fun i _ hi => by rw [if_neg hi]; grind)
  show m r k = sm n (fun i => (if i = r then (1 : Rat) else 0) * m i k)
  rw [h0, if_pos rfl]; grind
theorem Sp.congr {n W : Nat} {m : Nat → Nat → Rat} {u v : Nat → Rat} (h : Sp n W m u) (he : ∀ k, k < W → v k = u k) : Sp n W m v := by
  obtain ⟨c, hc⟩ := h
  exact ⟨c, fun k hk => (he k hk).trans (hc k hk)⟩
theorem Sp.add {n W : Nat} {m : Nat → Nat → Rat} {u v : Nat → Rat} (h : Sp n W m u) (h' : Sp n W m v) (a b : Rat) : Sp n W m (fun k => a * u k + b * v k) := by
  obtain ⟨c, hc⟩ := h
  obtain ⟨d, hd⟩ := h'
  refine ⟨fun r => a * c r + b * d r, fun k hk => ?_⟩
  show a * u k + b * v k = _
  rw [hc k hk, hd k hk, ← sm_mulL, ← sm_mulL, ← sm_add]
  exact sm_congr fun i _ => by grind
theorem Sp.width {n W W' : Nat} {m : Nat → Nat → Rat} {v : Nat → Rat} (h : Sp n W m v) (hw : W' ≤ W) : Sp n W' m v := by
  obtain ⟨c, hc⟩ := h
  exact ⟨c, fun k hk => hc k (by omega)⟩
/-- Rows that are sums of multiples of other ones: the multiples. -/
theorem Sp.all {n n' W : Nat} {m m' : Nat → Nat → Rat} (h : ∀ r, r < n → Sp n' W m' (m r)) : ∃ t : Nat → Nat → Rat, ∀ r, r < n → ∀ k, k < W → m r k = sm n' (fun j => t r j * m' j k) :=
by
  have h2 : ∀ r, ∃ c : Nat → Rat, r < n → ∀ k, k < W → m r k = sm n' (fun j => c j * m' j k) := fun r => by
    by_cases hr : r < n
    · obtain ⟨c, hc⟩ := h r hr; exact ⟨c, fun _ => hc⟩
    · exact ⟨fun _ => 0, fun h => absurd h hr⟩
  exact ⟨fun r => Classical.choose (h2 r), fun r hr k hk => Classical.choose_spec (h2 r) hr k hk⟩
theorem Sp.trans {n n' W : Nat} {m m' : Nat → Nat → Rat} {v : Nat → Rat} (h : ∀ r, r < n → Sp n' W m' (m r)) (hv : Sp n W m v) : Sp n' W m' v := by
  obtain ⟨t, ht⟩ := Sp.all h
  obtain ⟨c, hc⟩ := hv
  refine ⟨fun j => sm n (fun r => c r * t r j), fun k hk => ?_⟩
  rw [hc k hk]
  have e1 : sm n (fun r => c r * m r k) = sm n (fun r => sm n' (fun j => c r * (t r j * m' j k))) := sm_congr fun r hr => by rw [ht r hr k hk, ← sm_mulL]
  rw [e1, sm_swap]
  refine sm_congr fun j _ => ?_
  rw [← sm_mulR]
  exact sm_congr fun r _ => by grind
/-- The same rows, by their sums of multiples. -/
structure Eqv (n n' W : Nat) (m m' : Nat → Nat → Rat) : Prop where
  fwd : ∀ r, r < n' → Sp n W m (m' r)
  back : ∀ r, r < n → Sp n' W m' (m r)
theorem Eqv.refl {n W : Nat} {m : Nat → Nat → Rat} : Eqv n n W m m := ⟨fun r hr => Sp.row hr, fun r hr => Sp.row hr⟩
theorem Eqv.trans {n n' n'' W : Nat} {m m' m'' : Nat → Nat → Rat} (h : Eqv n n' W m m') (k : Eqv n' n'' W m' m'') : Eqv n n'' W m m'' :=
  ⟨fun r hr => Sp.trans h.fwd (k.fwd r hr), fun r hr => Sp.trans k.back (h.back r hr)⟩
theorem Eqv.symm {n n' W : Nat} {m m' : Nat → Nat → Rat} (h : Eqv n n' W m m') : Eqv n' n W m' m := ⟨h.back, h.fwd⟩
theorem Eqv.width {n n' W W' : Nat} {m m' : Nat → Nat → Rat} (h : Eqv n n' W m m') (hw : W' ≤ W) : Eqv n n' W' m m' :=
  ⟨fun r hr => (h.fwd r hr).width hw, fun r hr => (h.back r hr).width hw⟩
/-- More rows than those that they are made of hang on each other. -/
theorem hang {q n W : Nat} {m u : Nat → Nat → Rat} (h : ∀ i, i < n → Sp q W m (u i)) (hq : q < n) : ∃ c : Nat → Rat, (∃ i, i < n ∧ c i ≠ 0) ∧ ∀ k, k < W → sm n (fun i => c i * u i k) = 0 := by
  obtain ⟨t, ht⟩ := Sp.all h
  obtain ⟨c, hc, he⟩ := hom q n t hq
  refine ⟨c, hc, fun k hk => ?_⟩
  have e1 : sm n (fun i => c i * u i k) = sm n (fun i => sm q (fun j => c i * (t i j * m j k))) := sm_congr fun i hi => by rw [ht i hi k hk, ← sm_mulL]
  rw [e1, sm_swap]
  refine sm_zero fun j hj => ?_
  have e2 : sm n (fun i => c i * (t i j * m j k)) = sm n (fun i => c i * t i j) * m j k := by
    rw [← sm_mulR]; exact sm_congr fun i _ => by grind
  rw [e2, he j hj]; grind
/-- The reduced form's shape as far as so many columns. -/
structure Rref (n w : Nat) (m : Nat → Nat → Rat) (ps : List Nat) : Prop where
  len : ps.length ≤ n
  inc : ps.Pairwise (· < ·)
  lt : ∀ p ∈ ps, p < w
  one : ∀ i p, ps[i]? = some p → ∀ r, r < n → m r p = if r = i then 1 else 0
  low : ∀ i p, ps[i]? = some p → ∀ k, k < p → m i k = 0
  zero : ∀ r, ps.length ≤ r → r < n → ∀ k, k < w → m r k = 0
theorem getE {l : List Nat} {i : Nat} (h : i < l.length) : l[i]? = some (l.getD i 0) := by
  rw [List.getD_eq_getElem?_getD, List.getElem?_eq_getElem h]; rfl
/-- A row that is made of rows in the reduced form is told by its numbers at the pivots. -/
theorem Rref.told {n w : Nat} {m : Nat → Nat → Rat} {ps : List Nat} (h : Rref n w m ps) {v : Nat → Rat} (hv : Sp n w m v) {k : Nat} (hk : k < w) : v k = sm ps.length (fun r => v (ps.getD r 0) * m r k) := by
  obtain ⟨c, hc⟩ := hv
  have e1 : ∀ k, k < w → v k = sm ps.length (fun r => c r * m r k) := fun k hk => by
    rw [hc k hk]; exact sm_pad h.len fun i h1 h2 => by rw [h.zero i h1 h2 k hk]; grind
  rw [e1 k hk]
  refine sm_congr fun r hr => ?_
  have hp := getE hr
  have hlt := h.lt _ (List.mem_of_getElem? hp)
  rw [e1 _ hlt, sm_one (k := r) hr (fun i hi hne => by
    rw [h.one r _ hp i (by have := h.len; omega), if_neg hne]; grind), h.one r _ hp r (by have := h.len; omega), if_pos rfl]
  grind
/-- A pivot is where a row that is made of the rows begins. -/
theorem Rref.lead {n w : Nat} {m : Nat → Nat → Rat} {ps : List Nat} (h : Rref n w m ps) {k : Nat} : k ∈ ps ↔ k < w ∧ ∃ v, Sp n w m v ∧ v k ≠ 0 ∧ ∀ j, j < k → v j = 0 := by
  constructor
  · intro hk
    obtain ⟨i, hi⟩ := List.mem_iff_getElem?.1 hk
    have hl : i < ps.length := by
      rcases Nat.lt_or_ge i ps.length with h | h
      · exact h
      · rw [List.getElem?_eq_none h] at hi; cases hi
    have hn : i < n := by have := h.len; omega
    refine ⟨h.lt k hk, m i, Sp.row hn, ?_, h.low i k hi⟩
    rw [h.one i k hi i hn, if_pos rfl]; decide
  · rintro ⟨hk, v, hv, hne, hz⟩
    refine Classical.byContradiction fun hn => hne ?_
    rw [h.told hv hk]
    refine sm_zero fun r hr => ?_
    have hp := getE hr
    rcases Nat.lt_trichotomy (ps.getD r 0) k with h1 | h1 | h1
    · rw [hz _ h1]; grind
    · exact absurd (h1 ▸ List.mem_of_getElem? hp) hn
    · rw [h.low r _ hp k h1]; grind
theorem inc_eq : ∀ {l l' : List Nat}, l.Pairwise (· < ·) → l'.Pairwise (· < ·) → (∀ k, k ∈ l ↔ k ∈ l') → l = l'
  | [], [], _, _, _ => rfl
  | [], b :: l', _, _, h => absurd ((h b).2 (by simp)) (by simp)
  | a :: l, [], _, _, h => absurd ((h a).1 (by simp)) (by simp)
  | a :: l, b :: l', h1, h2, h => by
    rw [List.pairwise_cons] at h1 h2
    have hab : a = b := by
      have k1 := (h a).1 (by simp)
      have k2 := (h b).2 (by simp)
      rw [List.mem_cons] at k1 k2
      rcases k1 with e | k1
      · exact e
      · rcases k2 with e | k2
        · exact e.symm
        · have := h1.1 b k2
          have := h2.1 a k1
          omega
    subst hab
    rw [inc_eq h1.2 h2.2 fun k => ?_]
    have hk := h k
    rw [List.mem_cons, List.mem_cons] at hk
    constructor
    · intro hm
      rcases hk.1 (.inr hm) with rfl | h3
      · exact absurd (h1.1 k hm) (Nat.lt_irrefl _)
      · exact h3
    · intro hm
      rcases hk.2 (.inr hm) with rfl | h3
      · exact absurd (h2.1 k hm) (Nat.lt_irrefl _)
      · exact h3
/-- The reduced form is the only one of its rows. -/
theorem Rref.uniq {n n' w : Nat} {m m' : Nat → Nat → Rat} {ps ps' : List Nat} (h : Rref n w m ps) (h' : Rref n' w m' ps') (he : Eqv n n' w m m') : ps = ps' ∧ ∀ r, r < ps.length → ∀ k, k < w → m r k = m' r k := by
  have e : ps = ps' := by
    refine inc_eq h.inc h'.inc fun k => ?_
    rw [h.lead, h'.lead]
    exact ⟨fun ⟨hk, v, hv, r⟩ => ⟨hk, v, Sp.trans he.back hv, r⟩, fun ⟨hk, v, hv, r⟩ => ⟨hk, v, Sp.trans he.fwd hv, r⟩⟩
  subst e
  refine ⟨rfl, fun r hr k hk => ?_⟩
  have hp := getE hr
  have hn : r < n := by have := h.len; omega
  have hn' : r < n' := by have := h'.len; omega
  have h1 := h.told (he.fwd r hn') hk
  rw [sm_one (k := r) hr (fun i hi hne => by
    rw [h'.one i _ (getE hi) r hn', if_neg (fun e => hne e.symm)]; grind), h'.one r _ hp r hn', if_pos rfl] at h1
  rw [h1]; grind
end LA
/- What the columns' steps make of rows: the reduced form. No program in sight. -/
set_option linter.unusedVariables false
set_option linter.unusedSimpArgs false
namespace Go.Proofs.YtpchnbhkkbnjbaaGreatDoor
open LA
/-- Rows as numbers at places. -/
def mf (M : List (List Rat)) (r k : Nat) : Rat := (M.getD r []).getD k 0
/-- Rows of a width. -/
def Wd (M : List (List Rat)) (w : Nat) : Prop := ∀ r ∈ M, r.length = w
theorem RW.wd {M : List (List Rat)} {w K : Nat} (h : RW M w K) : Wd M w := fun r hr => (h r hr).1
theorem getD_set {α : Type} {l : List α} {i r : Nat} {a d : α} (hr : r < l.length) : (l.set i a).getD r d = if r = i then a else l.getD r d := by
  rw [List.getD_eq_getElem?_getD, List.getD_eq_getElem?_getD, List.getElem?_set]
  by_cases h : i = r
  · subst h; rw [if_pos rfl, if_pos hr, if_pos rfl]; rfl
  · rw [if_neg h, if_neg (fun e => h e.symm)]
theorem getD_map {α β : Type} {l : List α} {f : α → β} {r : Nat} {d : β} {e : α} (hr : r < l.length) : (l.map f).getD r d = f (l.getD r e) := by
  rw [List.getD_eq_getElem?_getD, List.getD_eq_getElem?_getD, List.getElem?_map, List.getElem?_eq_getElem hr]; rfl
theorem sw_getD {α : Type} {l : List α} {i j r : Nat} {d : α} (hi : i < l.length) (hj : j < l.length) (hr : r < l.length) : (sw l i j).getD r d = if r = j then l.getD i d else if r = i then l.getD j d else l.getD r d := by
  unfold sw
  rw [List.getElem?_eq_getElem hi, List.getElem?_eq_getElem hj]
  dsimp only
  have e1 : l[i] = l.getD i d := by rw [List.getD_eq_getElem?_getD, List.getElem?_eq_getElem hi]; rfl
  have e2 : l[j] = l.getD j d := by rw [List.getD_eq_getElem?_getD, List.getElem?_eq_getElem hj]; rfl
  rw [e1, e2, getD_set (by rw [List.length_set]; exact hr), getD_set hr]
theorem mlL_getD {s : List Rat} {f : Rat} {k : Nat} (hk : k < s.length) : (mlL s f s.length).getD k 0 = s.getD k 0 * f := by
  unfold mlL
  rw [List.drop_length, List.append_nil, List.take_length, getD_map (e := 0) hk]
theorem tkL_getD {r s : List Rat} {f : Rat} {k : Nat} (h : r.length = s.length) (hk : k < r.length) : (tkL r s f r.length).getD k 0 = r.getD k 0 - f * s.getD k 0 := by
  unfold tkL
  rw [List.drop_length, List.append_nil, List.take_length, h, List.take_length]
  rw [List.getD_eq_getElem?_getD, List.getElem?_zipWith, List.getElem?_eq_getElem hk, List.getElem?_eq_getElem (h ▸ hk), List.getD_eq_getElem?_getD, List.getD_eq_getElem?_getD, List.getElem?_eq_getElem hk, List.getElem?_eq_getElem (h ▸ hk)]
  rfl
theorem fi_none {α : Type} {p : α → Bool} : ∀ {l : List α} {k : Nat}, fi p l k < 0 → ∀ a ∈ l, p a = false
  | [], k, _, a, h => by cases h
  | b :: l, k, h, a, ha => by
    unfold fi at h
    cases hp : p b with
    | true => rw [hp] at h; simp at h; omega
    | false =>
      rw [hp] at h
      rcases List.mem_cons.1 ha with rfl | ha
      · exact hp
      · exact fi_none (k := k + 1) (by simpa using h) a ha
/-- One column's step, by numbers. -/
structure ColS (n W : Nat) (m m' : Nat → Nat → Rat) (top i col : Nat) : Prop where
  hi : top ≤ i ∧ i < n
  ne : m i col ≠ 0
  at_ : ∀ r, r < n → ∀ k, k < W → m' r k = if r = top then m i k / m i col else (if r = i then m top k else m r k) - (if r = i then m top col else m r col) * (m i k / m i col)
theorem colM_none {M : List (List Rat)} {top col : Nat} (h : colI M top col < 0) : colM M top col = M ∧ ∀ r, top ≤ r → r < M.length → mf M r col = 0 := by
  refine ⟨by unfold colM; rw [if_pos h], fun r h1 h2 => ?_⟩
  have hm : M.getD r [] ∈ M.drop top := by
    rw [List.getD_eq_getElem?_getD, List.getElem?_eq_getElem h2]
    refine List.mem_iff_getElem?.2 ⟨r - top, ?_⟩
    rw [List.getElem?_drop, show top + (r - top) = r by omega, List.getElem?_eq_getElem h2]; rfl
  have := fi_none h _ hm
  unfold nz at this
  exact Decidable.byContradiction fun hn => by rw [decide_eq_true (show (M.getD r []).getD col 0 ≠ 0 from hn)] at this; cases this
theorem colM_some {M : List (List Rat)} {top col W : Nat} (hw : Wd M W) (hcol : col < W) (htop : top < M.length) (h : ¬ colI M top col < 0) : ∃ i, ColS M.length W (mf M) (mf (colM M top col)) top i col := by
  obtain ⟨i0, a, h1, h2, h3⟩ := fi_spec (M.drop top) 0 h
  rw [Nat.zero_add] at h1
  have h1' : colI M top col = (i0 : Int) := h1
  have hi : top + i0 < M.length := by
    rcases Nat.lt_or_ge (top + i0) M.length with h | h
    · exact h
    · rw [List.getElem?_drop, List.getElem?_eq_none h] at h2; cases h2
  have ea : a = M.getD (top + i0) [] := by
    rw [List.getElem?_drop, List.getElem?_eq_getElem hi] at h2
    rw [List.getD_eq_getElem?_getD, List.getElem?_eq_getElem hi]; exact (Option.some.inj h2).symm
  have hne : mf M (top + i0) col ≠ 0 := by
    unfold nz at h3
    have := of_decide_eq_true h3
    rw [ea] at this; exact this
  refine ⟨top + i0, ⟨Nat.le_add_right _ _, hi⟩, hne, fun r hr k hk => ?_⟩
  have hcm : colM M top col = ((sw M top (top + i0)).map (colR (colBy M top i0 col) col)).set top (colBy M top i0 col) := by
    unfold colM; rw [if_neg h, h1', Int.toNat_natCast]
  have wid : ∀ r, r < M.length → (M.getD r []).length = W := fun r hr => hw _ (getD_mem hr)
  have hsT : (sw M top (top + i0)).getD top [] = M.getD (top + i0) [] := by
    rw [sw_getD htop hi htop]
    by_cases h0 : top = top + i0
    · rw [if_pos h0, ← h0]
    · rw [if_neg h0, if_pos rfl]
  have hby : colBy M top i0 col = mlL (M.getD (top + i0) []) (1 / (M.getD (top + i0) []).getD col 0) (M.getD (top + i0) []).length := by
    unfold colBy; rw [hsT]
  have hbyl : (colBy M top i0 col).length = W := by rw [hby, mlL_len (Nat.le_refl _)]; exact wid _ hi
  have hbyk : ∀ k, k < W → (colBy M top i0 col).getD k 0 = mf M (top + i0) k / mf M (top + i0) col := fun k hk => by
    rw [hby, mlL_getD (by rw [wid _ hi]; exact hk)]
    show mf M (top + i0) k * (1 / mf M (top + i0) col) = _
    grind
  have hl : (sw M top (top + i0)).length = M.length := sw_len
  show ((colM M top col).getD r []).getD k 0 = _
  rw [hcm, getD_set (by rw [List.length_map, hl]; exact hr)]
  by_cases hrt : r = top
  · rw [if_pos hrt, if_pos hrt]; exact hbyk k hk
  · rw [if_neg hrt, if_neg hrt, getD_map (e := []) (by rw [hl]; exact hr), sw_getD htop hi hr, if_neg hrt]
    by_cases hri : r = top + i0
    · rw [if_pos hri, if_pos hri, if_pos hri]
      unfold colR
      rw [tkL_getD (by rw [wid _ htop, hbyl]) (by rw [wid _ htop]; exact hk), hbyk k hk]; rfl
    · rw [if_neg hri, if_neg hri, if_neg hri]
      unfold colR
      rw [tkL_getD (by rw [wid _ hr, hbyl]) (by rw [wid _ hr]; exact hk), hbyk k hk]; rfl
theorem ColS.eqv {n W : Nat} {m m' : Nat → Nat → Rat} {top i col : Nat} (h : ColS n W m m' top i col) (hcol : col < W) : Eqv n n W m m' := by
  obtain ⟨h1, h2⟩ := h.hi
  have hne := h.ne
  have htop : top < n := by omega
  have hti := h.at_ top htop
  refine ⟨fun r hr => ?_, fun r hr => ?_⟩
  · -- new rows out of the old ones
    have ha := h.at_ r hr
    by_cases hrt : r = top
    · subst hrt
      refine (Sp.add (Sp.row (W := W) (m := m) h2) (Sp.row h2) (1 / m i col) 0).congr fun k hk => ?_
      rw [ha k hk, if_pos rfl]; grind
    · by_cases hri : r = i
      · subst hri
        refine (Sp.add (Sp.row (W := W) (m := m) htop) (Sp.row hr) 1 (-(m top col / m r col))).congr fun k hk => ?_
        rw [ha k hk, if_neg hrt, if_pos rfl, if_pos rfl]; grind
      · refine (Sp.add (Sp.row (W := W) (m := m) hr) (Sp.row h2) 1 (-(m r col / m i col))).congr fun k hk => ?_
        rw [ha k hk, if_neg hrt, if_neg hri, if_neg hri]; grind
  · -- the old rows out of the new ones
    by_cases hri : r = i
    · subst hri
      refine (Sp.add (Sp.row (W := W) (m := m') htop) (Sp.row htop) (m r col) 0).congr fun k hk => ?_
      rw [hti k hk, if_pos rfl]; grind
    · by_cases hrt : r = top
      · subst hrt
        have hai := h.at_ i h2
        refine (Sp.add (Sp.row (W := W) (m := m') h2) (Sp.row htop) 1 (m r col)).congr fun k hk => ?_
        rw [hai k hk, hti k hk, if_pos rfl, if_neg (fun e => hri e.symm), if_pos rfl, if_pos rfl]; grind
      · have ha := h.at_ r hr
        refine (Sp.add (Sp.row (W := W) (m := m') hr) (Sp.row htop) 1 (m r col)).congr fun k hk => ?_
        rw [ha k hk, hti k hk, if_pos rfl, if_neg hrt, if_neg hri, if_neg hri]; grind
theorem pw_snoc {ps : List Nat} {col : Nat} (h : ps.Pairwise (· < ·)) (hl : ∀ p ∈ ps, p < col) : (ps ++ [col]).Pairwise (· < ·) := by
  rw [List.pairwise_append]
  refine ⟨h, List.pairwise_singleton _ _, fun a ha b hb => ?_⟩
  rw [List.mem_singleton.1 hb]; exact hl a ha
theorem snoc_at {ps : List Nat} {col i p : Nat} (h : (ps ++ [col])[i]? = some p) : ps[i]? = some p ∧ i < ps.length ∨ i = ps.length ∧ p = col := by
  rcases Nat.lt_or_ge i ps.length with h1 | h1
  · rw [List.getElem?_append_left h1] at h; exact .inl ⟨h, h1⟩
  · rw [List.getElem?_append_right h1] at h
    by_cases h2 : i = ps.length
    · subst h2; rw [Nat.sub_self] at h; exact .inr ⟨rfl, (Option.some.inj h).symm⟩
    · rw [List.getElem?_eq_none (by simp; omega)] at h; cases h
theorem ColS.rref {n W : Nat} {m m' : Nat → Nat → Rat} {ps : List Nat} {i col : Nat} (h : ColS n W m m' ps.length i col) (hcol : col < W) (hr : Rref n col m ps) : Rref n (col + 1) m' (ps ++ [col]) := by
  obtain ⟨h1, h2⟩ := h.hi
  have hne := h.ne
  have htop : ps.length < n := by omega
  -- old columns stand as they stood
  have hold : ∀ r, r < n → ∀ k, k < col → m' r k = m r k := fun r hrn k hk => by
    have hik : m i k = 0 := hr.zero i h1 h2 k hk
    have htk : m ps.length k = 0 := hr.zero _ (Nat.le_refl _) htop k hk
    rw [h.at_ r hrn k (by omega), hik, show (0 : Rat) / m i col = 0 by grind]
    by_cases hrt : r = ps.length
    · rw [if_pos hrt, hrt, htk]
    · rw [if_neg hrt]
      by_cases hri : r = i
      · rw [if_pos hri, if_pos hri, hri, htk, hik]; grind
      · rw [if_neg hri, if_neg hri]; grind
  have hnew : ∀ r, r < n → m' r col = if r = ps.length then 1 else 0 := fun r hrn => by
    rw [h.at_ r hrn col hcol, show m i col / m i col = 1 by grind]
    by_cases hrt : r = ps.length
    · rw [if_pos hrt, if_pos hrt]
    · rw [if_neg hrt, if_neg hrt]; grind
  refine ⟨by simp; omega, pw_snoc hr.inc hr.lt, fun p hp => ?_, fun j p hp r hrn => ?_, fun j p hp k hk => ?_, fun r h3 h4 k hk => ?_⟩
  · rcases List.mem_append.1 hp with h | h
    · have := hr.lt p h; omega
    · rw [List.mem_singleton.1 h]; omega
  · rcases snoc_at hp with ⟨h3, h4⟩ | ⟨rfl, rfl⟩
    · rw [hold r hrn p (hr.lt p (List.mem_of_getElem? h3))]; exact hr.one j p h3 r hrn
    · exact hnew r hrn
  · rcases snoc_at hp with ⟨h3, h4⟩ | ⟨rfl, rfl⟩
    · have := hr.lt p (List.mem_of_getElem? h3)
      rw [hold j (by omega) k (by omega)]; exact hr.low j p h3 k hk
    · rw [hold _ htop k hk]; exact hr.zero _ (Nat.le_refl _) htop k hk
  · rw [List.length_append, List.length_singleton] at h3
    by_cases hk2 : k = col
    · subst hk2; rw [hnew r h4, if_neg (by omega)]
    · rw [hold r h4 k (by omega)]; exact hr.zero r (by omega) h4 k (by omega)
theorem rref_none {n : Nat} {m : Nat → Nat → Rat} {ps : List Nat} {col : Nat} (hz : ∀ r, ps.length ≤ r → r < n → m r col = 0) (hr : Rref n col m ps) : Rref n (col + 1) m ps :=
  ⟨hr.len, hr.inc, fun p hp => by have := hr.lt p hp; omega, hr.one, hr.low, fun r h1 h2 k hk => by
    by_cases hk2 : k = col
    · subst hk2; exact hz r h1 h2
    · exact hr.zero r h1 h2 k (by omega)⟩
theorem rref_full {n w w' : Nat} {m : Nat → Nat → Rat} {ps : List Nat} (hr : Rref n w m ps) (hf : ¬ ps.length < n) (hw : w ≤ w') : Rref n w' m ps :=
  ⟨hr.len, hr.inc, fun p hp => by have := hr.lt p hp; omega, hr.one, hr.low, fun r h1 h2 => by omega⟩
theorem colM_wd {M : List (List Rat)} {top col W : Nat} (h : Wd M W) (htop : top < M.length) : Wd (colM M top col) W := by
  unfold colM
  split
  · exact h
  · generalize (colI M top col).toNat = i
    have hs := h ((sw M top (top + i)).getD top []) (sw_mem (getD_mem (by rw [sw_len]; exact htop)))
    have hby : colBy M top i col = mlL ((sw M top (top + i)).getD top []) (1 / ((sw M top (top + i)).getD top []).getD col 0) ((sw M top (top + i)).getD top []).length := rfl
    rw [hby]
    generalize (sw M top (top + i)).getD top [] = s at *
    intro r hr
    rcases List.mem_or_eq_of_mem_set hr with hr | hr
    · obtain ⟨x, hx, rfl⟩ := List.mem_map.1 hr
      have hxw := h x (sw_mem hx)
      unfold colR
      rw [tkL_len (by rw [mlL_len (Nat.le_refl _)]; omega) (Nat.le_refl _)]; exact hxw
    · rw [hr, mlL_len (Nat.le_refl _)]; exact hs
/-- What the columns' steps make. -/
theorem redS_spec {W : Nat} : ∀ (n col : Nat) (M : List (List Rat)) (ps : List Nat), Wd M W → col + n ≤ W → Rref M.length col (mf M) ps →
    Rref M.length (col + n) (mf (redS n col M ps).1) (redS n col M ps).2 ∧ Eqv M.length M.length W (mf M) (mf (redS n col M ps).1) ∧ (redS n col M ps).1.length = M.length ∧ Wd (redS n col M ps).1 W
  | 0, col, M, ps, hw, hc, hr => ⟨hr, Eqv.refl, rfl, hw⟩
  | n + 1, col, M, ps, hw, hc, hr => by
    unfold redS
    by_cases h : ps.length < M.length
    · rw [if_pos h]
      have hl : (colM M ps.length col).length = M.length := colM_len
      have key : Rref M.length (col + 1) (mf (colM M ps.length col)) (colP M ps col) ∧ Eqv M.length M.length W (mf M) (mf (colM M ps.length col)) := by
        by_cases hi : colI M ps.length col < 0
        · obtain ⟨e, hz⟩ := colM_none hi
          unfold colP
          rw [if_pos hi, e]
          exact ⟨rref_none hz hr, Eqv.refl⟩
        · obtain ⟨i, hS⟩ := colM_some hw (by omega) h hi
          unfold colP
          rw [if_neg hi]
          exact ⟨hS.rref (by omega) hr, hS.eqv (by omega)⟩
      have ih := redS_spec n (col + 1) (colM M ps.length col) (colP M ps col) (colM_wd hw h) (by omega) (by rw [hl]; exact key.1)
      rw [hl, show col + 1 + n = col + (n + 1) by omega] at ih
      exact ⟨ih.1, key.2.trans ih.2.1, ih.2.2⟩
    · rw [if_neg h]
      exact ⟨rref_full hr h (by omega), Eqv.refl, rfl, hw⟩
theorem rref_nil {n : Nat} {m : Nat → Nat → Rat} : Rref n 0 m [] :=
  ⟨Nat.zero_le _, List.Pairwise.nil, fun p h => (by cases h), fun i p h => (by cases h), fun i p h => (by cases h), fun r _ _ k hk => absurd hk (Nat.not_lt_zero _)⟩
end Go.Proofs.YtpchnbhkkbnjbaaGreatDoor
/- Rows of two matrices side by side, reduced: what holds of them. No program in sight. -/
set_option linter.unusedVariables false
set_option linter.unusedSimpArgs false
namespace Go.Proofs.YtpchnbhkkbnjbaaGreatDoor
open LA
theorem bgM_len {c d : Nat} {va vb : Nat → Nat → Rat} {r : Nat} : (bgM c d va vb r).length = r := by simp [bgM]
theorem bgR_len {c d : Nat} {va vb : Nat → Nat → Rat} {i : Nat} : (bgR c d va vb i).length = c + d := by simp [bgR, rowK]
theorem bgM_wd {c d : Nat} {va vb : Nat → Nat → Rat} {r : Nat} : Wd (bgM c d va vb r) (c + d) := by
  intro x hx
  obtain ⟨i, _, rfl⟩ := List.mem_map.1 hx
  exact bgR_len
theorem rowK_at {va : Nat → Nat → Rat} {i n k : Nat} (hk : k < n) : (rowK va i n)[k]? = some (va i k) := by
  unfold rowK; rw [List.getElem?_map, List.getElem?_range hk]; rfl
theorem bgM_at {c d : Nat} {va vb : Nat → Nat → Rat} {r i k : Nat} (hi : i < r) (hk : k < c + d) : mf (bgM c d va vb r) i k = if k < c then va i k else vb i (k - c) := by
  have e : (bgM c d va vb r).getD i [] = bgR c d va vb i := by
    unfold bgM
    rw [List.getD_eq_getElem?_getD, List.getElem?_map, List.getElem?_range hi]; rfl
  unfold mf
  rw [e]
  unfold bgR
  rw [List.getD_eq_getElem?_getD]
  by_cases h : k < c
  · rw [if_pos h, List.getElem?_append_left (by rw [rowK_len]; exact h), rowK_at h]; rfl
  · rw [if_neg h, List.getElem?_append_right (by rw [rowK_len]; omega), rowK_len, rowK_at (by omega)]; rfl
/-- Two matrices' rows side by side, reduced by the first one's columns. -/
abbrev red (r c d : Nat) (va vb : Nat → Nat → Rat) : List (List Rat) × List Nat := redS c 0 (bgM c d va vb r) []
abbrev rdM (r c d : Nat) (va vb : Nat → Nat → Rat) : Nat → Nat → Rat := mf (red r c d va vb).1
abbrev rdP (r c d : Nat) (va vb : Nat → Nat → Rat) : List Nat := (red r c d va vb).2
section
variable {r c d : Nat} {va vb : Nat → Nat → Rat}
theorem red_spec : Rref r c (rdM r c d va vb) (rdP r c d va vb) ∧ Eqv r r (c + d) (mf (bgM c d va vb r)) (rdM r c d va vb) ∧ (red r c d va vb).1.length = r ∧ Wd (red r c d va vb).1 (c + d) := by
  have h := redS_spec (W := c + d) c 0 (bgM c d va vb r) [] bgM_wd (by omega) (by rw [bgM_len]; exact rref_nil)
  rw [bgM_len, Nat.zero_add] at h
  exact h
theorem red_rref : Rref r c (rdM r c d va vb) (rdP r c d va vb) := red_spec.1
theorem red_len : (red r c d va vb).1.length = r := red_spec.2.2.1
theorem red_wd : Wd (red r c d va vb).1 (c + d) := red_spec.2.2.2
theorem red_row {i : Nat} (hi : i < r) : ∃ row, (red r c d va vb).1[i]? = some row ∧ row.length = c + d ∧ ∀ k, k < c + d → row[k]? = some (rdM r c d va vb i k) := by
  have h1 : i < (red r c d va vb).1.length := by rw [red_len]; exact hi
  refine ⟨_, List.getElem?_eq_getElem h1, red_wd _ (List.getElem_mem h1), fun k hk => ?_⟩
  have h2 : k < ((red r c d va vb).1[i]).length := by rw [red_wd _ (List.getElem_mem h1)]; exact hk
  rw [List.getElem?_eq_getElem h2]
  have e1 : (red r c d va vb).1.getD i [] = (red r c d va vb).1[i] := by rw [List.getD_eq_getElem?_getD, List.getElem?_eq_getElem h1]; rfl
  unfold rdM mf
  rw [e1, List.getD_eq_getElem?_getD, List.getElem?_eq_getElem h2]; rfl
/-- The first matrix's rows, and the reduced ones. -/
theorem Eqv.of {n n' W : Nat} {m m' u : Nat → Nat → Rat} (h : Eqv n n' W m m') (he : ∀ i, i < n → ∀ k, k < W → u i k = m i k) : Eqv n n' W u m' :=
  Eqv.trans ⟨fun i hi => (Sp.row (W := W) (m := u) hi).congr fun k hk => (he i hi k hk).symm, fun i hi => (Sp.row (W := W) (m := m) hi).congr fun k hk => he i hi k hk⟩ h
theorem red_eqv : Eqv r r c va (rdM r c d va vb) :=
  Eqv.of (red_spec.2.1.width (Nat.le_add_right c d)) fun i hi k hk => by rw [bgM_at hi (by omega), if_pos hk]
/-- A matrix's row is the sum of the reduced ones, each times the number at its pivot. -/
theorem red_hangs {i k : Nat} (hi : i < r) (hk : k < c) : va i k = sm (rdP r c d va vb).length (fun j => va i ((rdP r c d va vb).getD j 0) * rdM r c d va vb j k) :=
  red_rref.told (red_eqv.back i hi) hk
end
/-- The pivots are the rows' own. -/
theorem red_uniq {r c d r' d' : Nat} {va vb va' vb' : Nat → Nat → Rat} (h : Eqv r r' c va va') : rdP r c d va vb = rdP r' c d' va' vb' ∧ ∀ i, i < (rdP r c d va vb).length → ∀ k, k < c → rdM r c d va vb i k = rdM r' c d' va' vb' i k :=
  Rref.uniq red_rref red_rref (red_eqv.symm.trans (h.trans red_eqv))
/-- A matrix over what it is reduced to. -/
theorem red_stack {r c d d' : Nat} {va vb vb' vs : Nat → Nat → Rat} (h1 : ∀ i, i < r → ∀ k, k < c → vs i k = va i k) (h2 : ∀ i, i < r → ∀ k, k < c → vs (r + i) k = rdM r c d va vb i k) :
    rdP (r + r) c d' vs vb' = rdP r c d va vb := by
  refine ((red_uniq (r := r) (r' := r + r) (d := d) (vb := vb) ⟨fun i hi => ?_, fun i hi => ?_⟩).1).symm
  · by_cases h : i < r
    · exact (Sp.row (W := c) (m := va) h).congr fun k hk => h1 i h k hk
    · have e : ∀ k, k < c → vs i k = rdM r c d va vb (i - r) k := fun k hk => by
        have := h2 (i - r) (by omega) k hk
        rw [show r + (i - r) = i by omega] at this; exact this
      exact (red_eqv.fwd (i - r) (by omega)).congr e
  · exact (Sp.row (W := c) (m := vs) (show i < r + r by omega)).congr fun k hk => (h1 i hi k hk).symm
/-- As many pivots as columns: each stands at its place. -/
theorem inc_all : ∀ {l : List Nat} {a n : Nat}, l.Pairwise (· < ·) → (∀ p ∈ l, a ≤ p ∧ p < n) → a + l.length = n → ∀ i, i < l.length → l.getD i 0 = a + i
  | [], a, n, _, _, _, i, hi => absurd hi (Nat.not_lt_zero _)
  | b :: l, a, n, h, hb, hl, i, hi => by
    rw [List.pairwise_cons] at h
    rw [List.length_cons] at hl hi
    have hab := hb b (by simp)
    have key : ∀ {l : List Nat} {b n : Nat}, l.Pairwise (· < ·) → (∀ p ∈ l, b < p ∧ p < n) → l.length + b + 1 ≤ n ∨ l = [] := by
      intro l
      induction l with
      | nil => intro _ _ _ _; exact .inr rfl
      | cons x l ih =>
        intro b n h hb
        rw [List.pairwise_cons] at h
        have hx := hb x (by simp)
        rcases ih h.2 (fun p hp => ⟨h.1 p hp, (hb p (by simp [hp])).2⟩) with h1 | h1
        · left; rw [List.length_cons]; omega
        · subst h1; left; rw [List.length_cons, List.length_nil]; omega
    have hba : b = a := by
      rcases key h.2 (fun p hp => ⟨h.1 p hp, (hb p (by simp [hp])).2⟩) with h1 | h1
      · omega
      · subst h1; rw [List.length_nil] at hl; omega
    subst hba
    cases i with
    | zero => rfl
    | succ i =>
      show l.getD i 0 = _
      rw [inc_all (a := b + 1) (n := n) h.2 (fun p hp => ⟨h.1 p hp, (hb p (by simp [hp])).2⟩) (by omega) i (by omega)]; omega
/-- One, place by place. -/
def idv (i k : Nat) : Rat := if i = k then 1 else 0
theorem rref_id {n : Nat} {m : Nat → Nat → Rat} {ps : List Nat} (h : Rref n n m ps) (hl : ps.length = n) {i k : Nat} (hi : i < n) (hk : k < n) : m i k = idv i k := by
  have e := inc_all (a := 0) (n := n) h.inc (fun p hp => ⟨Nat.zero_le _, h.lt p hp⟩) (by omega) k (by omega)
  have hp := getE (l := ps) (i := k) (by omega)
  rw [e, Nat.zero_add] at hp
  exact h.one k k hp i hi
/-- An inverse, on both sides. -/
theorem red_inv {n : Nat} {va : Nat → Nat → Rat} (hl : (rdP n n n va idv).length = n) :
    (∀ i, i < n → ∀ k, k < n → sm n (fun j => va i j * rdM n n n va idv j (n + k)) = idv i k) ∧ ∀ i, i < n → ∀ k, k < n → sm n (fun j => rdM n n n va idv i (n + j) * va j k) = idv i k := by
  have hr := red_rref (r := n) (c := n) (d := n) (va := va) (vb := idv)
  have hE : Eqv n n (n + n) (mf (bgM n n va idv n)) (rdM n n n va idv) := red_spec.2.1
  have at1 : ∀ i, i < n → ∀ k, k < n → mf (bgM n n va idv n) i k = va i k := fun i hi k hk => by rw [bgM_at hi (by omega), if_pos hk]
  have at2 : ∀ i, i < n → ∀ k, k < n → mf (bgM n n va idv n) i (n + k) = idv i k := fun i hi k hk => by rw [bgM_at hi (by omega), if_neg (by omega), Nat.add_sub_cancel_left]
  constructor
  · obtain ⟨s, hs⟩ := Sp.all hE.back
    intro i hi k hk
    have e1 : ∀ j, j < n → s i j = va i j := fun j hj => by
      have h := hs i hi j (by omega)
      rw [at1 i hi j hj, sm_one (k := j) hj (fun a ha hne => by rw [rref_id hr hl ha hj]; unfold idv; rw [if_neg hne]; grind), rref_id hr hl hj hj] at h
      unfold idv at h; rw [if_pos rfl] at h; grind
    have h := hs i hi (n + k) (by omega)
    rw [at2 i hi k hk] at h
    rw [h]
    exact sm_congr fun j hj => by rw [e1 j hj]
  · obtain ⟨t, ht⟩ := Sp.all hE.fwd
    intro i hi k hk
    have e1 : ∀ j, j < n → rdM n n n va idv i (n + j) = t i j := fun j hj => by
      rw [ht i hi (n + j) (by omega), sm_one (k := j) hj (fun a ha hne => by rw [at2 a ha j hj]; unfold idv; rw [if_neg hne]; grind), at2 j hj j hj]
      unfold idv; rw [if_pos rfl]; grind
    rw [← rref_id hr hl hi hk, ht i hi k (by omega)]
    exact sm_congr fun j hj => by rw [e1 j hj, at1 j hj k hk]
/-- What has an inverse on its left changes no reduced form. -/
theorem red_turn {n c : Nat} {va b t ba : Nat → Nat → Rat} (ht : ∀ i, i < n → ∀ k, k < n → sm n (fun j => t i j * b j k) = idv i k) (hb : ∀ i, i < n → ∀ k, k < c → ba i k = sm n (fun j => b i j * va j k)) : Eqv n n c va ba := by
  refine ⟨fun i hi => ⟨b i, fun k hk => hb i hi k hk⟩, fun i hi => ⟨t i, fun k hk => ?_⟩⟩
  have e1 : sm n (fun j => t i j * ba j k) = sm n (fun j => sm n (fun l => t i j * (b j l * va l k))) := sm_congr fun j hj => by rw [hb j hj k hk, ← sm_mulL]
  rw [e1, sm_swap]
  have e2 : sm n (fun l => sm n (fun j => t i j * (b j l * va l k))) = sm n (fun l => idv i l * va l k) := sm_congr fun l hl => by
    rw [← ht i hi l hl, ← sm_mulR]; exact sm_congr fun j _ => by grind
  rw [e2, sm_one (k := i) hi (fun l hl hne => by unfold idv; rw [if_neg (fun e => hne e.symm)]; grind)]
  unfold idv; rw [if_pos rfl]; grind
/-- What solves the equations. -/
theorem red_solves {r c d : Nat} {va vb x : Nat → Nat → Rat} (hz : ∀ i, (rdP r c d va vb).length ≤ i → i < r → ∀ k, k < d → rdM r c d va vb i (c + k) = 0)
    (h1 : ∀ j, j < (rdP r c d va vb).length → ∀ k, k < d → x ((rdP r c d va vb).getD j 0) k = rdM r c d va vb j (c + k)) (h2 : ∀ i, i < c → i ∉ rdP r c d va vb → ∀ k, k < d → x i k = 0)
    {i k : Nat} (hi : i < r) (hk : k < d) : sm c (fun j => va i j * x j k) = vb i k := by
  have hr := red_rref (r := r) (c := c) (d := d) (va := va) (vb := vb)
  have hE : Eqv r r (c + d) (mf (bgM c d va vb r)) (rdM r c d va vb) := red_spec.2.1
  obtain ⟨s, hs⟩ := Sp.all hE.back
  have hlen := hr.len
  have e1 : ∀ j, j < (rdP r c d va vb).length → s i j = va i ((rdP r c d va vb).getD j 0) := fun j hj => by
    have hp := getE hj
    have hlt := hr.lt _ (List.mem_of_getElem? hp)
    have h := hs i hi _ (show (rdP r c d va vb).getD j 0 < c + d by omega)
    rw [bgM_at hi (by omega), if_pos hlt, sm_one (k := j) (by omega) (fun a ha hne => by rw [hr.one j _ hp a ha, if_neg hne]; grind), hr.one j _ hp j (by omega), if_pos rfl] at h
    grind
  have hb : vb i k = sm (rdP r c d va vb).length (fun j => va i ((rdP r c d va vb).getD j 0) * rdM r c d va vb j (c + k)) := by
    have h := hs i hi (c + k) (by omega)
    rw [bgM_at hi (by omega), if_neg (by omega), Nat.add_sub_cancel_left] at h
    rw [h, sm_pad hlen fun a h3 h4 => by rw [hz a h3 h4 k hk]; grind]
    exact sm_congr fun j hj => by rw [e1 j hj]
  rw [hb]
  -- the sum over all columns is that over the pivots
  have key : ∀ j, j < c → va i j * x j k = sm (rdP r c d va vb).length (fun l => if (rdP r c d va vb).getD l 0 = j then va i j * x j k else 0) := fun j hj => by
    by_cases hm : j ∈ rdP r c d va vb
    · obtain ⟨l, hl⟩ := List.mem_iff_getElem?.1 hm
      have hll : l < (rdP r c d va vb).length := by
        rcases Nat.lt_or_ge l (rdP r c d va vb).length with h | h
        · exact h
        · rw [List.getElem?_eq_none h] at hl; cases hl
      have hle : (rdP r c d va vb).getD l 0 = j := by rw [List.getD_eq_getElem?_getD, hl]; rfl
      rw [sm_one (k := l) hll (fun l' hl' hne => if_neg fun e => ?_), if_pos hle]
      refine hne ?_
      have h3 := hr.one l' _ (getE hl') l (by omega)
      have h4 := hr.one l _ hl l (by omega)
      rw [e] at h3
      rw [if_pos rfl] at h4
      rw [h4] at h3
      by_cases hll2 : l = l'
      · exact hll2.symm
      · rw [if_neg hll2] at h3; exact absurd h3 (by decide)
    · rw [h2 j hj hm k hk, sm_zero fun l hl => by split <;> grind]; grind
  rw [sm_congr key, sm_swap]
  refine sm_congr fun l hl => ?_
  have hp := getE hl
  have hlt := hr.lt _ (List.mem_of_getElem? hp)
  rw [sm_one (k := (rdP r c d va vb).getD l 0) hlt (fun j hj hne => if_neg fun e => hne e.symm), if_pos rfl, h1 l hl k hk]
/-- What a matrix's kernel makes 0. -/
theorem red_kernel {r c d : Nat} {va vb x : Nat → Nat → Rat} {f k : Nat} (hf : f < c) (hfp : f ∉ rdP r c d va vb)
    (h1 : ∀ j, j < (rdP r c d va vb).length → x ((rdP r c d va vb).getD j 0) k = -rdM r c d va vb j f) (h2 : ∀ i, i < c → i ∉ rdP r c d va vb → x i k = if i = f then 1 else 0)
    {i : Nat} (hi : i < r) : sm c (fun j => va i j * x j k) = 0 := by
  have hr := red_rref (r := r) (c := c) (d := d) (va := va) (vb := vb)
  have hlen := hr.len
  have hb := red_hangs (r := r) (d := d) (va := va) (vb := vb) hi hf
  have key : ∀ j, j < c → va i j * x j k = (if j = f then va i f else 0) + sm (rdP r c d va vb).length (fun l => if (rdP r c d va vb).getD l 0 = j then va i j * x j k else 0) := fun j hj => by
    by_cases hm : j ∈ rdP r c d va vb
    · obtain ⟨l, hl⟩ := List.mem_iff_getElem?.1 hm
      have hll : l < (rdP r c d va vb).length := by
        rcases Nat.lt_or_ge l (rdP r c d va vb).length with h | h
        · exact h
        · rw [List.getElem?_eq_none h] at hl; cases hl
      have hle : (rdP r c d va vb).getD l 0 = j := by rw [List.getD_eq_getElem?_getD, hl]; rfl
      rw [if_neg (fun e : j = f => hfp (e ▸ hm)), sm_one (k := l) hll (fun l' hl' hne => if_neg fun e => ?_), if_pos hle]
      · grind
      refine hne ?_
      have h3 := hr.one l' _ (getE hl') l (by omega)
      have h4 := hr.one l _ hl l (by omega)
      rw [e] at h3
      rw [if_pos rfl] at h4
      rw [h4] at h3
      by_cases hll2 : l = l'
      · exact hll2.symm
      · rw [if_neg hll2] at h3; exact absurd h3 (by decide)
    · have hz : sm (rdP r c d va vb).length (fun l => if (rdP r c d va vb).getD l 0 = j then va i j * x j k else 0) = 0 := sm_zero fun l hl => if_neg fun e : (rdP r c d va vb).getD l 0 = j => hm (e ▸ List.mem_of_getElem? (getE hl))
      rw [hz, h2 j hj hm]
      by_cases hjf : j = f
      · rw [if_pos hjf, if_pos hjf, hjf]; grind
      · rw [if_neg hjf, if_neg hjf]; grind
  have e1 : sm c (fun j => if j = f then va i f else 0) = va i f := by
    rw [sm_one (k := f) hf (fun j hj hne => if_neg hne), if_pos rfl]
  rw [sm_congr key, sm_add, e1, sm_swap, hb, ← sm_add]
  refine sm_zero fun l hl => ?_
  have hp := getE hl
  have hlt := hr.lt _ (List.mem_of_getElem? hp)
  rw [sm_one (k := (rdP r c d va vb).getD l 0) hlt (fun j hj hne => if_neg fun e => hne e.symm), if_pos rfl, h1 l hl]; grind
/-- Where the right side hangs on more than the columns: turned, there are more pivots. -/
theorem red_never {r c d : Nat} {va vb vt : Nat → Nat → Rat} {vx : Nat → Nat → Rat} {e i0 k0 : Nat} (hi0 : (rdP r c d va vb).length ≤ i0 ∧ i0 < r) (hk0 : k0 < d) (hne : rdM r c d va vb i0 (c + k0) ≠ 0)
    (ht1 : ∀ j, j < c → ∀ i, i < r → vt j i = va i j) (ht2 : ∀ j, j < d → ∀ i, i < r → vt (c + j) i = vb i j) : (rdP r c d va vb).length < (rdP (c + d) r e vt vx).length := by
  have hr := red_rref (r := r) (c := c) (d := d) (va := va) (vb := vb)
  have hr' := red_rref (r := c + d) (c := r) (d := e) (va := vt) (vb := vx)
  have hE' := red_eqv (r := c + d) (c := r) (d := e) (va := vt) (vb := vx)
  have hE : Eqv r r (c + d) (mf (bgM c d va vb r)) (rdM r c d va vb) := red_spec.2.1
  obtain ⟨t, ht⟩ := Sp.all hE.fwd
  refine Classical.byContradiction fun hcon => ?_
  have hq : (rdP (c + d) r e vt vx).length ≤ (rdP r c d va vb).length := by omega
  generalize hN : (rdP r c d va vb).length = N at *
  -- the columns at the pivots, and one more
  let col : Nat → Nat := fun l => if l < N then (rdP r c d va vb).getD l 0 else c + k0
  have hcol : ∀ l, l < N + 1 → col l < c + d := fun l hl => by
    show (if l < N then _ else _) < c + d
    by_cases h : l < N
    · rw [if_pos h]
      have := hr.lt _ (List.mem_of_getElem? (getE (l := rdP r c d va vb) (i := l) (by omega)))
      omega
    · rw [if_neg h]; omega
  have hrows : ∀ l, l < N + 1 → Sp (rdP (c + d) r e vt vx).length r (rdM (c + d) r e vt vx) (vt (col l)) := fun l hl => by
    refine ⟨fun j => vt (col l) ((rdP (c + d) r e vt vx).getD j 0), fun k hk => ?_⟩
    exact hr'.told (hE'.back _ (hcol l hl)) hk
  obtain ⟨x, ⟨l0, hl0, hx0⟩, hx⟩ := hang hrows (by omega)
  -- turned back: the reduced rows' columns hang on each other
  have hvt : ∀ q, q < c + d → ∀ i, i < r → vt q i = mf (bgM c d va vb r) i q := fun q hq i hi => by
    rw [bgM_at hi hq]
    by_cases h : q < c
    · rw [if_pos h]; exact ht1 q h i hi
    · rw [if_neg h]
      have := ht2 (q - c) (by omega) i hi
      rw [show c + (q - c) = q by omega] at this; exact this
  have hred : ∀ i, i < r → sm (N + 1) (fun l => x l * rdM r c d va vb i (col l)) = 0 := fun i hi => by
    have e1 : sm (N + 1) (fun l => x l * rdM r c d va vb i (col l)) = sm (N + 1) (fun l => sm r (fun j => x l * (t i j * mf (bgM c d va vb r) j (col l)))) := sm_congr fun l hl => by
      rw [ht i hi _ (hcol l hl), ← sm_mulL]
    rw [e1, sm_swap]
    refine sm_zero fun j hj => ?_
    have h3 := hx j hj
    have e2 : sm (N + 1) (fun l => x l * (t i j * mf (bgM c d va vb r) j (col l))) = t i j * sm (N + 1) (fun l => x l * vt (col l) j) := by
      rw [← sm_mulL]; exact sm_congr fun l hl => by rw [hvt _ (hcol l hl) j hj]; grind
    rw [e2, h3]; grind
  have hcN : col N = c + k0 := if_neg (Nat.lt_irrefl _)
  have hcl : ∀ l, l < N → col l = (rdP r c d va vb).getD l 0 := fun l hl => if_pos hl
  have hxN : x N = 0 := by
    have h := hred i0 hi0.2
    have e : sm (N + 1) (fun l => x l * rdM r c d va vb i0 (col l)) = x N * rdM r c d va vb i0 (c + k0) := by
      rw [sm_one (k := N) (by omega) (fun l hl hne => by
        have hlN : l < N := by omega
        rw [hcl l hlN, hr.zero i0 (by omega) hi0.2 _ (hr.lt _ (List.mem_of_getElem? (getE (l := rdP r c d va vb) (i := l) (by omega))))]; grind), hcN]
    rw [e] at h
    grind
  have hxl : ∀ l, l < N → x l = 0 := fun l hl => by
    have hlr : l < r := by omega
    have h := hred l hlr
    have hp := getE (l := rdP r c d va vb) (i := l) (by omega)
    have e : sm (N + 1) (fun j => x j * rdM r c d va vb l (col j)) = x l := by
      rw [sm_one (k := l) (by omega) (fun j hj hne => by
        by_cases hjN : j < N
        · rw [hcl j hjN, hr.one j _ (getE (l := rdP r c d va vb) (i := j) (by omega)) l hlr, if_neg (fun e => hne e.symm)]; grind
        · obtain rfl : j = N := by omega
          rw [hxN]; grind), hcl l hl, hr.one l _ hp l hlr, if_pos rfl]; grind
    rw [e] at h; exact h
  by_cases h : l0 < N
  · exact hx0 (hxl l0 h)
  · obtain rfl : l0 = N := by omega
    exact hx0 hxN
/-- The columns beside the pivots. -/
def frees (c : Nat) (ps : List Nat) : List Nat := (List.range c).filter fun k => decide (k ∉ ps)
theorem frees_succ {c : Nat} {ps : List Nat} : frees (c + 1) ps = if c ∈ ps then frees c ps else frees c ps ++ [c] := by
  unfold frees
  rw [List.range_succ, List.filter_append]
  by_cases h : c ∈ ps
  · rw [if_pos h]; simp [h]
  · rw [if_neg h]; simp [h]
theorem frees_mem {c : Nat} {ps : List Nat} {k : Nat} : k ∈ frees c ps ↔ k < c ∧ k ∉ ps := by
  unfold frees; rw [List.mem_filter, List.mem_range, decide_eq_true_iff]
theorem frees_len {c : Nat} : ∀ {ps : List Nat}, ps.Nodup → (∀ p ∈ ps, p < c) → (frees c ps).length + ps.length = c
  | [], _, _ => by
    unfold frees
    rw [show (fun k : Nat => decide (k ∉ ([] : List Nat))) = fun _ => true from funext fun k => by simp, List.filter_eq_self.2 (fun _ _ => rfl)]
    simp
  | p :: ps, h, hl => by
    rw [List.nodup_cons] at h
    have ih := frees_len h.2 fun q hq => hl q (by simp [hq])
    have hp := hl p (by simp)
    have key : ∀ n, (frees n (p :: ps)).length + (if p < n then 1 else 0) = (frees n ps).length := by
      intro n
      induction n with
      | zero => rfl
      | succ n ihn =>
        rw [frees_succ, frees_succ]
        by_cases hnp : n = p
        · subst hnp
          rw [if_pos (by simp), if_neg h.1, if_pos (by omega), List.length_append, List.length_singleton]
          rw [if_neg (by omega)] at ihn; omega
        · have e : (n ∈ p :: ps) ↔ n ∈ ps := by simp [hnp]
          have e2 : (if p < n + 1 then 1 else 0) = if p < n then 1 else 0 := by
            by_cases hpn : p < n
            · rw [if_pos hpn, if_pos (by omega)]
            · rw [if_neg hpn, if_neg (by omega)]
          rw [e2]
          by_cases hn : n ∈ ps
          · rw [if_pos (e.2 hn), if_pos hn]; exact ihn
          · rw [if_neg (fun h => hn (e.1 h)), if_neg hn, List.length_append, List.length_append, List.length_singleton]; omega
    have h2 := key c
    rw [if_pos hp] at h2
    rw [List.length_cons]; omega
/-- The place of a free column among them. -/
theorem frees_at {c i : Nat} {ps : List Nat} (hi : i < c) (h : i ∉ ps) : (frees c ps)[(frees i ps).length]? = some i := by
  induction c with
  | zero => omega
  | succ c ih =>
    rw [frees_succ]
    by_cases hic : i = c
    · subst hic
      rw [if_neg h, List.getElem?_append_right (Nat.le_refl _), Nat.sub_self]; rfl
    · have := ih (by omega)
      split
      · exact this
      · rw [List.getElem?_append_left]
        · exact this
        · rcases Nat.lt_or_ge (frees i ps).length (frees c ps).length with h | h
          · exact h
          · rw [List.getElem?_eq_none h] at this; cases this
theorem frees_nodup {c : Nat} {ps : List Nat} : (frees c ps).Nodup := List.Pairwise.filter _ List.nodup_range
theorem inc_nodup {ps : List Nat} (h : ps.Pairwise (· < ·)) : ps.Nodup := List.Pairwise.imp (fun h => Nat.ne_of_lt h) h
end Go.Proofs.YtpchnbhkkbnjbaaGreatDoor
/- The reduced form, an inverse: the walks. -/
set_option linter.unusedVariables false
set_option linter.unusedSimpArgs false
namespace Go.Proofs.YtpchnbhkkbnjbaaGreatDoor
open Go.RowKit QM SX
attribute [local irreducible] IntKind.wrap Go1 Reg WP thenK inBlk retQ retF RetF RetOK ResOK CallOK OpOK Sat
attribute [local irreducible] qsub qmul qquo qcmp qadd qv mf
theorem redS_RW {w : Nat} : ∀ (n col : Nat) (M : List (List Rat)) (ps : List Nat) (K : Nat), RW M w K → col + n ≤ w → RW (redS n col M ps).1 w (kb K n)
  | 0, col, M, ps, K, h, _ => h
  | n + 1, col, M, ps, K, h, hw => by
    by_cases hl : ps.length < M.length
    · rw [show redS (n + 1) col M ps = redS n (col + 1) (colM M ps.length col) (colP M ps col) from if_pos hl]
      exact redS_RW n (col + 1) _ _ (4 * K + 2) (colM_RW h hl (by omega)) (by omega)
    · rw [redS_stop (.inr hl)]
      exact h.mono (kb_ge _ _)
attribute [local irreducible] redS
theorem Ra.rb {l : List Atom} {v : Rat} {K : Nat} (h : Ra l v K) (hK : 1 ≤ K) : RB v K := by
  obtain ⟨x0, x1, x2, x3, p, q, k, m, _, _, _, h1, h2, h3, h4, h5⟩ := h.h
  by_cases hq : q = 0
  · subst hq
    have : v = 0 := by rw [← h5]; unfold qv; grind
    rw [this]; exact RB.zero hK
  · exact RB.of hq h5 (Nat.lt_of_lt_of_le h3.h (Nat.pow_le_pow_right WB_pos h1)) (Nat.lt_of_lt_of_le h4.h (Nat.pow_le_pow_right WB_pos h2))
/-- A matrix's number at a place. -/
def vat (vs : List Rat) (c i k : Nat) : Rat := vs.getD (i * c + k) 0
theorem idx_lt {r c i k : Nat} (hi : i < r) (hk : k < c) : i * c + k < r * c := by
  have := Nat.mul_le_mul_right c (show i + 1 ≤ r from hi)
  rw [Nat.succ_mul] at this; omega
theorem vat_at {vs : List Rat} {r c i k : Nat} (hl : vs.length = r * c) (hi : i < r) (hk : k < c) : vs[i * c + k]? = some (vat vs c i k) := by
  have h := idx_lt hi hk
  unfold vat
  rw [List.getD_eq_getElem?_getD, List.getElem?_eq_getElem (by omega)]; rfl
theorem MV.rb {l : List Q4} {vs : List Rat} {K : Nat} (h : MV l vs K) (hK : 1 ≤ K) : ∀ v ∈ vs, RB v K := by
  intro v hv
  obtain ⟨i, hi⟩ := List.mem_iff_getElem?.1 hv
  have hlt : i < vs.length := by
    rcases Nat.lt_or_ge i vs.length with h | h
    · exact h
    · rw [List.getElem?_eq_none h] at hi; cases hi
  exact Ra.rb (h.ra i _ v (List.getElem?_eq_getElem (show i < l.length by rw [h.len]; exact hlt)) hi) hK
theorem vat_RB {vs : List Rat} {K : Nat} (h : ∀ v ∈ vs, RB v K) (hK : 1 ≤ K) (c i k : Nat) : RB (vat vs c i k) K := by
  unfold vat
  rw [List.getD_eq_getElem?_getD]
  cases e : vs[i * c + k]? with
  | none => exact RB.zero hK
  | some v => exact h v (List.mem_of_getElem? e)
theorem bgM_RW {r c d : Nat} {va vb : Nat → Nat → Rat} {K : Nat} (ha : ∀ i k, i < r → k < c → RB (va i k) K) (hb : ∀ i k, i < r → k < d → RB (vb i k) K) : RW (bgM c d va vb r) (c + d) K := by
  intro x hx
  refine ⟨bgM_wd x hx, fun v hv => ?_⟩
  obtain ⟨i, hi, rfl⟩ := List.mem_map.1 hx
  have hi := List.mem_range.1 hi
  rcases List.mem_append.1 hv with h | h
  · obtain ⟨k, hk, rfl⟩ := List.mem_map.1 h; exact ha i k hi (List.mem_range.1 hk)
  · obtain ⟨k, hk, rfl⟩ := List.mem_map.1 h; exact hb i k hi (List.mem_range.1 hk)
theorem red_RB {r c d K : Nat} {va vb : Nat → Nat → Rat} (h : RW (bgM c d va vb r) (c + d) K) {i k : Nat} (hi : i < r) (hk : k < c + d) : RB (rdM r c d va vb i k) (kb K c) := by
  have hR := redS_RW c 0 (bgM c d va vb r) [] K h (by omega)
  obtain ⟨row, h1, h2, h3⟩ := red_row (r := r) (c := c) (d := d) (va := va) (vb := vb) hi
  exact (hR row (List.mem_of_getElem? h1)).2 _ (List.mem_of_getElem? (h3 k hk))
theorem tabR_at {c : Nat} {val : Nat → Nat → Rat} {k : Nat} (hk : k < c) : ∀ {r i : Nat}, i < r → (tabR c val r)[i * c + k]? = some (val i k)
  | 0, i, h => absurd h (Nat.not_lt_zero _)
  | r + 1, i, h => by
    rw [tabR_succ]
    by_cases hi : i < r
    · rw [List.getElem?_append_left (by rw [tabR_len]; exact idx_lt hi hk)]
      exact tabR_at hk hi
    · obtain rfl : i = r := by omega
      rw [List.getElem?_append_right (by rw [tabR_len]; omega), tabR_len, Nat.add_sub_cancel_left, List.getElem?_map, List.getElem?_range hk]; rfl
theorem tabR_RB {c r K : Nat} {val : Nat → Nat → Rat} (h : ∀ i k, i < r → k < c → RB (val i k) K) : ∀ v ∈ tabR c val r, RB v K := by
  intro v hv
  unfold tabR at hv
  obtain ⟨i, hi, hv⟩ := List.mem_flatMap.1 hv
  obtain ⟨k, hk, rfl⟩ := List.mem_map.1 hv
  exact h i k (List.mem_range.1 hi) (List.mem_range.1 hk)
theorem MV.made {vs : List Rat} {K : Nat} (h : ∀ v ∈ vs, RB v K) : MV (vs.map q4v) vs K := by
  refine ⟨List.length_map _, fun i q v hq hv => ?_⟩
  rw [List.getElem?_map, hv] at hq
  cases hq
  exact (h v (List.mem_of_getElem? hv)).ra
theorem matA_matQ (r c : Nat) (l : List Rat) : matA r c l = matQ r c (l.map q4v) := by
  have e : rowR 4 qC l = rowR 4 q4C (l.map q4v) := by
    show sliceR 4 l.length (l.flatMap qC) = sliceR 4 (l.map q4v).length ((l.map q4v).flatMap q4C)
    rw [List.length_map, List.flatMap_map]
  unfold matA matQ
  rw [e]
theorem vat_tab {r c i k : Nat} {val : Nat → Nat → Rat} (hi : i < r) (hk : k < c) : vat (tabR c val r) c i k = val i k := by
  unfold vat
  rw [List.getD_eq_getElem?_getD, tabR_at hk hi]; rfl
theorem cF_true {r c : Nat} {n : Nat} {cells : List CA} (hl : n = r * c) (hr : r ≤ 64) (hc : c ≤ 64) : PureOK Tryz.prog 55 [.agg [.c (.val (.int .i64 (r : Int))), .c (.val (.int .i64 (c : Int))), .c (.sat (sliceR 4 n cells))]] (.v (.bool true)) := by
  have h := (con_Formed (r : Int) (c : Int) (n := n) (cells := cells)).h trivial
  rw [decide_eq_true (show 0 ≤ (r : Int) ∧ (r : Int) ≤ 64 ∧ 0 ≤ (c : Int) ∧ (c : Int) ≤ 64 ∧ (n : Int) = (r : Int) * (c : Int) from ⟨by omega, by omega, by omega, by omega, by rw [hl]; simp⟩)] at h
  exact h
theorem cF_false {r c : Int} {n : Nat} {cells : List CA} (h : ¬ (0 ≤ r ∧ r ≤ 64 ∧ 0 ≤ c ∧ c ≤ 64 ∧ (n : Int) = r * c)) : PureOK Tryz.prog 55 [.agg [.c (.val (.int .i64 r)), .c (.val (.int .i64 c)), .c (.sat (sliceR 4 n cells))]] (.v (.bool false)) := by
  have h2 := (con_Formed r c (n := n) (cells := cells)).h trivial
  rw [decide_eq_false h] at h2
  exact h2
/-- No matrix. -/
abbrev mat0 : List Atom := [.c (.val (.int .i64 0)), .c (.val (.int .i64 0)), .c (.val (.slice none 0 0))]
abbrev matZ (r c : Int) (l : List Q4) : List Atom := [.c (.val (.int .i64 r)), .c (.val (.int .i64 c)), .c (.sat (rowR 4 q4C l))]
abbrev eNo (z : Int) : AV0 := .one (.c (.val (.int .i64 z)))
/-- Is a matrix formed? -/
def FormedP (r c : Int) (n : Nat) : Prop := 0 ≤ r ∧ r ≤ 64 ∧ 0 ≤ c ∧ c ≤ 64 ∧ (n : Int) = r * c
theorem con_Reduce0 {r c : Int} {l : List Q4} (h : ¬ FormedP r c l.length) : PureOK Tryz.prog 12 [.agg (matZ r c l)] (.tup [.agg mat0, .one (.c (.val (.slice none 0 0))), eNo 2]) := by
  have cF := cF_false (cells := l.flatMap q4C) h
  refine PureOK.fnF Tryz.func12 Tryz.results12 Tryz.ntmps12 rfl rfl rfl (by simp [AV.ids, AV0.ids, Atom.ids]) rfl (fun w0 T B E0 hB => ?_)
  refine SX.goQ ?_
  exact .ok (RetOK.mk3 (ResOK.agg3 rfl rfl rfl) (ResOK.tmp rfl) (ResOK.tmp rfl))
/-- What reading a matrix needs. -/
theorem cA_at {r c : Nat} {l : List Q4} {vs : List Rat} {K : Nat} (hM : MV l vs K) (hl : l.length = r * c) (hr : r ≤ 64) (hc : c ≤ 64) (hK : K + 1 ≤ 1000000) : ∀ i k, i < r → k < c → PureOK Tryz.prog 53 [.agg (matR r c (rowR 4 q4C l)), .v (.int .i64 (i : Int)), .v (.int .i64 (k : Int))] (.agg (qA (vat vs c i k))) :=
  fun i k hi hk => con_At hM hl hr hc hi hk (vat_at (by rw [← hM.len]; exact hl) hi hk) hK
theorem con_Reduce {r c : Nat} {l : List Q4} {vs : List Rat} {K : Nat} (hM : MV l vs K) (hl : l.length = r * c) (hr : r ≤ 64) (hc : c ≤ 64) (hK1 : 1 ≤ K) (hkb : ∀ n, n < c → kb K n ≤ 49000) (hkc : kb K c ≤ 400000) :
    PureOK Tryz.prog 12 [.agg (matQ r c l)] (.tup [.agg (matA r c (tabR c (rdM r c 0 (vat vs c) idv) r)), .one (.c (.sat (rowR 1 piC (rdP r c 0 (vat vs c) idv)))), eNo 0]) := by
  have hK : K ≤ 400000 := Nat.le_trans (kb_ge c K) hkc
  have cF := cF_true (cells := l.flatMap q4C) hl hr hc
  have hRB := vat_RB (hM.rb hK1) hK1 c
  have hRW : RW (bgM c 0 (vat vs c) idv r) (c + 0) K := bgM_RW (fun i k _ _ => hRB i k) (fun i k _ h => absurd h (Nat.not_lt_zero _))
  have cR := con_reduced0 r c (rowR 4 q4C l) (vat vs c) idv K (by omega) (by omega) (cA_at hM hl hr hc (by omega)) hRW hkb
  have cM := con_made r c (.sat (cloR 58 [] [.sat (ptrR [.sat (wkP (red r c 0 (vat vs c) idv).1 c (rdP r c 0 (vat vs c) idv))])])) (fun i k => q4v (rdM r c 0 (vat vs c) idv i k)) (rdM r c 0 (vat vs c) idv) (kb K c) (by omega) (by omega) (by omega)
    (fun i k hi hk => by
      obtain ⟨row, h1, _, h3⟩ := red_row (r := r) (c := c) (d := 0) (va := vat vs c) (vb := idv) hi
      exact FnV.clo (con_red1 h1 (h3 k (by omega)))) (fun i k hi hk => (red_RB hRW hi (by omega)).ra) rfl
  refine PureOK.fnF Tryz.func12 Tryz.results12 Tryz.ntmps12 rfl rfl rfl (by simp [AV.ids, AV0.ids, Atom.ids]) rfl (fun w0 T B E0 hB => ?_)
  refine SX.goF ?_
  refine SX.WP.freezeB 5 hB rfl rfl ?_
  refine SX.WP.regionDL (by kernel_rfl) ?_
  refine SX.goF ?_
  exact .ok (RetOK.mk3 (ResOK.agg3 rfl rfl rfl) (ResOK.tmp rfl) (ResOK.tmp rfl))
end Go.Proofs.YtpchnbhkkbnjbaaGreatDoor
/- An inverse; what solves equations: the walks. -/
set_option linter.unusedVariables false
set_option linter.unusedSimpArgs false
namespace Go.Proofs.YtpchnbhkkbnjbaaGreatDoor
open Go.RowKit QM SX
attribute [local irreducible] IntKind.wrap Go1 Reg WP thenK inBlk retQ retF RetF RetOK ResOK CallOK OpOK Sat
attribute [local irreducible] qsub qmul qquo qcmp qadd qv redS mf
/-- A function without anything bound to it, as it stands in a text. -/
theorem fnArg {f : FuncId} {E : Env} {S : Nat → Prop} {w : World} {v : Value} (h : (AV.it (.one (.clo f []))).has E S w v) : (AV.it (.one (.c (.sat (cloR f [] []))))).has E S w v :=
  ⟨[], [], h, trivial, trivial⟩
theorem con_inv1 (i k : Nat) : PureOK Tryz.prog 62 [.v (.int .i64 (i : Int)), .v (.int .i64 (k : Int))] (.agg (q4A (q4v (idv i k)))) := by
  refine PureOK.fnF Tryz.func62 Tryz.results62 Tryz.ntmps62 rfl rfl rfl (by simp [AV.ids, AV0.ids, Atom.ids]) rfl (fun w0 T B E0 hB => ?_)
  by_cases h : i = k
  · rw [show idv i k = 1 from if_pos h]
    have h' : (i : Int) = (k : Int) := by omega
    refine SX.goF ?_
    exact retA (ResOK.agg4 rfl rfl rfl) rfl
  · rw [show idv i k = 0 from if_neg h]
    have h' : ¬ (i : Int) = (k : Int) := by omega
    refine SX.goF ?_
    exact retA (ResOK.agg4 rfl rfl rfl) rfl
theorem idv_RB (i k : Nat) : RB (idv i k) 1 := by
  unfold idv; split
  · exact RB.one (Nat.le_refl 1)
  · exact RB.zero (Nat.le_refl 1)
theorem con_inv2 {M : List (List Rat)} {cols : Nat} {ps : List Nat} {r c : Nat} {y : Rep} {i k : Nat} {row : List Rat} {v : Rat} (hi : M[i]? = some row) (hk : row[c + k]? = some v) (hc : c ≤ 100) (hk2 : k ≤ 100) :
    PureOK Tryz.prog 65 [.v (.int .i64 (i : Int)), .v (.int .i64 (k : Int)), .r (ptrR [.sat (wkP M cols ps)]), .r (ptrR [.val (.int .i64 (r : Int)), .val (.int .i64 (c : Int)), .sat y])] (.agg (q4A (q4v v))) := by
  have h1 : i < M.length := by
    rcases Nat.lt_or_ge i M.length with h | h
    · exact h
    · rw [List.getElem?_eq_none h] at hi; cases hi
  have h2 : c + k < row.length := by
    rcases Nat.lt_or_ge (c + k) row.length with h | h
    · exact h
    · rw [List.getElem?_eq_none h] at hk; cases hk
  refine PureOK.fnF Tryz.func65 Tryz.results65 Tryz.ntmps65 rfl rfl rfl (by simp [AV.ids, AV0.ids, Atom.ids]) rfl (fun w0 T B E0 hB => ?_)
  refine SX.goF ?_
  exact retA (ResOK.agg4 rfl rfl rfl) rfl
theorem con_Inverse0 {r c : Int} {l : List Q4} (h : ¬ (FormedP r c l.length ∧ r = c)) : PureOK Tryz.prog 19 [.agg (matZ r c l)] (.tup [.agg mat0, eNo 2]) := by
  by_cases hf : FormedP r c l.length
  · have h2 : ¬ r = c := fun e => h ⟨hf, e⟩
    have cF := (con_Formed r c (n := l.length) (cells := l.flatMap q4C)).h trivial
    rw [decide_eq_true (show 0 ≤ r ∧ r ≤ 64 ∧ 0 ≤ c ∧ c ≤ 64 ∧ (l.length : Int) = r * c from hf)] at cF
    refine PureOK.fnF Tryz.func19 Tryz.results19 Tryz.ntmps19 rfl rfl rfl (by simp [AV.ids, AV0.ids, Atom.ids]) rfl (fun w0 T B E0 hB => ?_)
    refine SX.goF ?_
    exact .ok (RetOK.mk2 (ResOK.agg3 rfl rfl rfl) (ResOK.tmp rfl))
  · have cF := cF_false (cells := l.flatMap q4C) hf
    refine PureOK.fnF Tryz.func19 Tryz.results19 Tryz.ntmps19 rfl rfl rfl (by simp [AV.ids, AV0.ids, Atom.ids]) rfl (fun w0 T B E0 hB => ?_)
    refine SX.goF ?_
    exact .ok (RetOK.mk2 (ResOK.agg3 rfl rfl rfl) (ResOK.tmp rfl))
/-- What an inverse's rows are reduced to. -/
theorem con_Inverse {n : Nat} {l : List Q4} {vs : List Rat} {K : Nat} (hM : MV l vs K) (hl : l.length = n * n) (hr : n ≤ 64) (hK1 : 1 ≤ K) (hkb : ∀ k, k < n → kb K k ≤ 49000) (hkc : kb K n ≤ 400000) :
    PureOK Tryz.prog 19 [.agg (matQ n n l)] (if (rdP n n n (vat vs n) idv).length < n then .tup [.agg mat0, eNo 3] else .tup [.agg (matA n n (tabR n (fun i k => rdM n n n (vat vs n) idv i (n + k)) n)), eNo 0]) := by
  have hK : K ≤ 400000 := Nat.le_trans (kb_ge n K) hkc
  have cF := cF_true (cells := l.flatMap q4C) hl hr hr
  have hRB := vat_RB (hM.rb hK1) hK1 n
  have hRW : RW (bgM n n (vat vs n) idv n) (n + n) K := bgM_RW (fun i k _ _ => hRB i k) (fun i k _ _ => (idv_RB i k).mono hK1)
  have hlt : (tabR n idv n).length = n * n := tabR_len n
  have cB := cA_at (r := n) (c := n) (MV.made (tabR_RB (c := n) (r := n) fun i k _ _ => idv_RB i k)) (by rw [List.length_map]; exact hlt) hr hr (by omega)
  have cR : PureOK Tryz.prog 56 [.agg (matR n n (rowR 4 q4C l)), .agg (matR n n (rowR 4 q4C ((tabR n idv n).map q4v)))] (.r (wkP (red n n n (vat vs n) idv).1 n (rdP n n n (vat vs n) idv))) := con_reduced n n n n (rowR 4 q4C l) (rowR 4 q4C ((tabR n idv n).map q4v)) (vat vs n) idv K (by omega) (by omega) (by omega) (cA_at hM hl hr hr (by omega)) (fun i k hi hk => by
    have h := cB i k hi hk
    rw [vat_tab hi hk] at h; exact h) hRW hkb
  have cI : PureOK Tryz.prog 57 [.v (.int .i64 (n : Int)), .v (.int .i64 (n : Int)), .it (.one (.clo 62 []))] (.agg (matQ n n ((tabR n idv n).map q4v))) := by
    have h := con_made n n (.sat (cloR 62 [] [])) (fun i k => q4v (idv i k)) idv 1 (by omega) (by omega) (by omega) (fun i k _ _ => FnV.const (con_inv1 i k)) (fun i k _ _ => (idv_RB i k).ra) rfl
    rw [matA_matQ] at h
    refine weakArgs h fun E S w vs hv => ?_
    match vs, hv with
    | [u1, u2, u3], ⟨h1, h2, h3, _⟩ => exact ⟨h1, h2, fnArg h3, trivial⟩
  have cM := con_made n n (.sat (cloR 65 [] [.sat (ptrR [.sat (wkP (red n n n (vat vs n) idv).1 n (rdP n n n (vat vs n) idv))]), .sat (ptrR [.val (.int .i64 (n : Int)), .val (.int .i64 (n : Int)), .sat (rowR 4 q4C l)])])) (fun i k => q4v (rdM n n n (vat vs n) idv i (n + k))) (fun i k => rdM n n n (vat vs n) idv i (n + k)) (kb K n) (by omega) (by omega) (by omega)
    (fun i k hi hk => by
      obtain ⟨row, h1, _, h3⟩ := red_row (r := n) (c := n) (d := n) (va := vat vs n) (vb := idv) hi
      exact FnV.clo (con_inv2 h1 (h3 (n + k) (by omega)) (by omega) (by omega))) (fun i k hi hk => (red_RB hRW hi (by omega)).ra) rfl
  generalize rdP n n n (vat vs n) idv = ps at *
  generalize (red n n n (vat vs n) idv).1 = M at *
  by_cases hp : ps.length < n
  · rw [if_pos hp]
    refine PureOK.fnF Tryz.func19 Tryz.results19 Tryz.ntmps19 rfl rfl rfl (by simp [AV.ids, AV0.ids, Atom.ids]) rfl (fun w0 T B E0 hB => ?_)
    refine SX.goF ?_
    exact .ok (RetOK.mk2 (ResOK.agg3 rfl rfl rfl) (ResOK.tmp rfl))
  · rw [if_neg hp]
    refine PureOK.fnF Tryz.func19 Tryz.results19 Tryz.ntmps19 rfl rfl rfl (by simp [AV.ids, AV0.ids, Atom.ids]) rfl (fun w0 T B E0 hB => ?_)
    refine SX.goF ?_
    refine SX.WP.freezeB 4 hB rfl rfl ?_
    refine SX.WP.freezeB 1 hB rfl rfl ?_
    refine SX.WP.regionL ?_
    refine SX.goF ?_
    exact .ok (RetOK.mk2 (ResOK.agg3 rfl rfl rfl) (ResOK.tmp rfl))
end Go.Proofs.YtpchnbhkkbnjbaaGreatDoor
/- Places in rows; what solves equations; what becomes 0: the walks. -/
set_option linter.unusedVariables false
set_option linter.unusedSimpArgs false
namespace Go.Proofs.YtpchnbhkkbnjbaaGreatDoor
open Go.RowKit QM SX
attribute [local irreducible] IntKind.wrap Go1 Reg WP thenK inBlk retQ retF RetF RetOK ResOK CallOK OpOK Sat
attribute [local irreducible] qsub qmul qquo qcmp qadd qv redS mf
/-- Is it this number? -/
def isI (i a : Nat) : Bool := decide (i = a)
theorem con_IndexI (ps : List Nat) (i : Nat) (hl : ps.length ≤ 1000) : PureOK Tryz.prog 82 [.r (rowR 1 piC ps), .v (.int .i64 (i : Int))] (.v (.int .i64 (fi (isI i) ps 0))) := by
  refine PureOK.fnF Tryz.func82 Tryz.results82 Tryz.ntmps82 rfl rfl rfl (by simp [AV.ids, AV0.ids, Atom.ids]) rfl (fun w0 T B E0 hB => ?_)
  refine SX.goF ?_
  refine W.loop (fun k => k ≤ ps.length ∧ fi (isI i) (ps.drop k) k = fi (isI i) ps 0) (fun k => [(0, .r (rowR 1 piC ps)), (1, .v (.int .i64 (i : Int))), (7, .v (.int .i64 (ps.length : Int))), (8, .v (.int .i64 (k : Int)))]) (fun _ => []) (fun k => ps.length - k) 0 ⟨Nat.zero_le _, rfl⟩ (fun k ⟨hk, he⟩ => ?_)
  by_cases h : k < ps.length
  · obtain ⟨a, ha⟩ : ∃ a, ps[k]? = some a := ⟨_, List.getElem?_eq_getElem h⟩
    rw [fi_drop ha] at he
    by_cases hia : i = a
    · rw [if_pos (show isI i a = true from decide_eq_true hia)] at he
      have h2 : (i : Int) = (a : Int) := by omega
      refine SX.goF ?_
      refine retI ?_; rw [← he]
    · rw [if_neg (show ¬ isI i a = true by unfold isI; simpa using hia)] at he
      have h2 : ¬ (i : Int) = (a : Int) := by omega
      refine SX.goF ?_
      exact W.next (k + 1) ⟨h, he⟩ (by omega)
  · obtain rfl : k = ps.length := by omega
    rw [List.drop_length] at he
    refine SX.goF ?_
    refine retI ?_; rw [← he]; rfl
theorem fi_ge {α : Type} {p : α → Bool} : ∀ {l : List α} {k : Nat}, fi p l k < 0 ∨ (k : Int) ≤ fi p l k
  | [], k => .inl (by show (-1 : Int) < 0; decide)
  | a :: l, k => by
    unfold fi
    split
    · exact .inr (Int.le_refl _)
    · rcases fi_ge (p := p) (l := l) (k := k + 1) with h | h
      · exact .inl h
      · exact .inr (by omega)
theorem fi_in {ps : List Nat} {i : Nat} (h : i ∈ ps) : ¬ fi (isI i) ps 0 < 0 := fun hn => by
  have := fi_none hn i h
  unfold isI at this
  rw [decide_eq_true rfl] at this; cases this
theorem fi_out {ps : List Nat} {i : Nat} (h : i ∉ ps) : fi (isI i) ps 0 < 0 := Decidable.byContradiction fun hn => by
  obtain ⟨j, a, _, h2, h3⟩ := fi_spec ps 0 hn
  have e := of_decide_eq_true (show decide (i = a) = true from h3)
  exact h (e ▸ List.mem_of_getElem? h2)
theorem fi_at {ps : List Nat} {i : Nat} (h : i ∈ ps) : ∃ j : Nat, fi (isI i) ps 0 = (j : Int) ∧ ps[j]? = some i := by
  obtain ⟨j, a, h1, h2, h3⟩ := fi_spec ps 0 (fi_in h)
  have e := of_decide_eq_true (show decide (i = a) = true from h3)
  exact ⟨j, by rw [h1, Nat.zero_add], by rw [h2, e]⟩
theorem con_Contains (ps : List Nat) (i : Nat) (hl : ps.length ≤ 1000) : PureOK Tryz.prog 80 [.r (rowR 1 piC ps), .v (.int .i64 (i : Int))] (.v (.bool (decide (i ∈ ps)))) := by
  have c := con_IndexI ps i hl
  refine PureOK.fnF Tryz.func80 Tryz.results80 Tryz.ntmps80 rfl rfl rfl (by simp [AV.ids, AV0.ids, Atom.ids]) rfl (fun w0 T B E0 hB => ?_)
  by_cases h : i ∈ ps
  · have h2 := fi_in h
    refine SX.goF ?_
    refine retB ?_; rw [decide_eq_true h]; exact decide_eq_true (by omega)
  · have h2 := fi_out h
    refine SX.goF ?_
    refine retB ?_; rw [decide_eq_false h]; exact decide_eq_false (by omega)
theorem con_IndexQ (l : List Rat) (x : CA) (p : Rat → Bool) (hx : ∀ v ∈ l, FnV Tryz.prog x [.agg (qA v)] (.v (.bool (p v)))) (hl : l.length ≤ 100000) (hx1 : x.oneB = true) :
    PureOK Tryz.prog 118 [.r (rowR 4 qC l), .it (.one (.c x))] (.v (.int .i64 (fi p l 0))) := by
  refine PureOK.fnF Tryz.func118 Tryz.results118 Tryz.ntmps118 rfl rfl rfl (by simp [AV.ids, AV0.ids, Atom.ids]) rfl (fun w0 T B E0 hB => ?_)
  refine SX.goF ?_
  refine W.loop (fun k => k ≤ l.length ∧ fi p (l.drop k) k = fi p l 0) (fun k => [(0, .r (rowR 4 qC l)), (1, .it (.one (.c x))), (7, .v (.int .i64 (l.length : Int))), (8, .v (.int .i64 (k : Int)))]) (fun _ => []) (fun k => l.length - k) 0 ⟨Nat.zero_le _, rfl⟩ (fun k ⟨hk, he⟩ => ?_)
  by_cases h : k < l.length
  · obtain ⟨r, hr⟩ : ∃ r, l[k]? = some r := ⟨_, List.getElem?_eq_getElem h⟩
    have hf := hx r (List.mem_of_getElem? hr)
    rw [fi_drop hr] at he
    cases hp : p r with
    | true =>
      rw [hp] at hf he
      refine SX.goF ?_
      refine retI ?_; rw [← he]; rfl
    | false =>
      rw [hp] at hf he
      refine SX.goF ?_
      exact W.next (k + 1) ⟨h, he⟩ (by omega)
  · obtain rfl : k = l.length := by omega
    rw [List.drop_length] at he
    refine SX.goF ?_
    refine retI ?_; rw [← he]; rfl
def nzQ (v : Rat) : Bool := decide (v ≠ 0)
theorem con_sol1 (v : Rat) (K : Nat) (hv : RB v K) (hK : K ≤ 400000) : PureOK Tryz.prog 85 [.agg (qA v)] (.v (.bool (nzQ v))) := by
  have iv := hv.ra
  obtain ⟨z, cz, hz, _⟩ := eSign (qA v) hK
  have e : nzQ v = decide (z ≠ 0) := by
    unfold nzQ; rw [decide_eq_decide, Ne, Ne, hz]
  rw [e]
  refine PureOK.fnF Tryz.func85 Tryz.results85 Tryz.ntmps85 rfl rfl rfl (by simp [AV.ids, AV0.ids, Atom.ids]) rfl (fun w0 T B E0 hB => ?_)
  refine SX.goF ?_
  exact retB rfl
/-- Does a row hold anything but noughts? -/
def anyNZ (l : List Rat) : Bool := decide (¬ fi nzQ l 0 < 0)
theorem con_AnyNZ (l : List Rat) (K : Nat) (hv : ∀ v ∈ l, RB v K) (hK : K ≤ 400000) (hl : l.length ≤ 1000) : PureOK Tryz.prog 84 [.r (rowR 4 qC l), .it (.one (.clo 85 []))] (.v (.bool (anyNZ l))) := by
  have c : PureOK Tryz.prog 118 [.r (rowR 4 qC l), .it (.one (.clo 85 []))] (.v (.int .i64 (fi nzQ l 0))) :=
    weakArgs (con_IndexQ l (.sat (cloR 85 [] [])) nzQ (fun v h => FnV.const (con_sol1 v K (hv v h) hK)) (by omega) rfl) fun E S w vs hv => by
      match vs, hv with
      | [u1, u2], ⟨h1, h2, _⟩ => exact ⟨h1, fnArg h2, trivial⟩
  refine PureOK.fnF Tryz.func84 Tryz.results84 Tryz.ntmps84 rfl rfl rfl (by simp [AV.ids, AV0.ids, Atom.ids]) rfl (fun w0 T B E0 hB => ?_)
  refine SX.goF ?_
  refine retB ?_
  unfold anyNZ; rw [decide_eq_decide]; omega
theorem anyNZ_iff {l : List Rat} : anyNZ l = true ↔ ∃ (k : Nat) (v : Rat), l[k]? = some v ∧ v ≠ 0 := by
  unfold anyNZ
  rw [decide_eq_true_iff]
  constructor
  · intro h
    obtain ⟨j, a, _, h2, h3⟩ := fi_spec l 0 h
    exact ⟨j, a, h2, of_decide_eq_true h3⟩
  · rintro ⟨k, v, h1, h2⟩ hn
    have := fi_none hn v (List.mem_of_getElem? h1)
    unfold nzQ at this
    rw [decide_eq_true h2] at this; cases this
end Go.Proofs.YtpchnbhkkbnjbaaGreatDoor
/- What solves equations: the walk. -/
set_option linter.unusedVariables false
set_option linter.unusedSimpArgs false
namespace Go.Proofs.YtpchnbhkkbnjbaaGreatDoor
open Go.RowKit QM SX
attribute [local irreducible] IntKind.wrap Go1 Reg WP thenK inBlk retQ retF RetF RetOK ResOK CallOK OpOK Sat
attribute [local irreducible] qsub qmul qquo qcmp qadd qv redS mf
/-- What is told to solve: at the pivots what stands behind the columns. -/
def solX (ps : List Nat) (m : Nat → Nat → Rat) (c i k : Nat) : Rat := if i ∈ ps then m (fi (isI i) ps 0).toNat (c + k) else 0
theorem con_sol2 {M : List (List Rat)} {cols : Nat} {ps : List Nat} {r c : Nat} {y : Rep} {i k W : Nat} (hw : ∀ j, j < ps.length → ∃ row, M[j]? = some row ∧ row.length = W ∧ ∀ k, k < W → row[k]? = some (mf M j k)) (hl : ps.length ≤ M.length) (hps : ps.length ≤ 1000) (hc : c ≤ 100) (hk2 : k ≤ 100) (hk : c + k < W) :
    PureOK Tryz.prog 86 [.v (.int .i64 (i : Int)), .v (.int .i64 (k : Int)), .r (ptrR [.sat (wkP M cols ps)]), .r (ptrR [.val (.int .i64 (r : Int)), .val (.int .i64 (c : Int)), .sat y])] (.agg (q4A (q4v (solX ps (mf M) c i k)))) := by
  have cI := con_IndexI ps i hps
  by_cases hi : i ∈ ps
  · obtain ⟨j, h1, h2⟩ := fi_at hi
    have hjl : j < ps.length := by
      rcases Nat.lt_or_ge j ps.length with h | h
      · exact h
      · rw [List.getElem?_eq_none h] at h2; cases h2
    obtain ⟨row, h3, h4, h5⟩ := hw j hjl
    have e : solX ps (mf M) c i k = mf M j (c + k) := by unfold solX; rw [if_pos hi, h1]; rfl
    rw [e]
    have h6 := h5 (c + k) hk
    rw [h1] at cI
    have hj0 : j < M.length := by omega
    refine PureOK.fnF Tryz.func86 Tryz.results86 Tryz.ntmps86 rfl rfl rfl (by simp [AV.ids, AV0.ids, Atom.ids]) rfl (fun w0 T B E0 hB => ?_)
    refine SX.goF ?_
    exact retA (ResOK.agg4 rfl rfl rfl) rfl
  · have e : solX ps (mf M) c i k = 0 := by unfold solX; rw [if_neg hi]
    rw [e]
    have h1 := fi_out hi
    generalize fi (isI i) ps 0 = z at *
    refine PureOK.fnF Tryz.func86 Tryz.results86 Tryz.ntmps86 rfl rfl rfl (by simp [AV.ids, AV0.ids, Atom.ids]) rfl (fun w0 T B E0 hB => ?_)
    refine SX.goF ?_
    exact retA (ResOK.agg4 rfl rfl rfl) rfl
theorem con_SolveS {r c r' d : Int} {l l' : List Q4} (h : ¬ (FormedP r c l.length ∧ FormedP r' d l'.length ∧ r = r')) : PureOK Tryz.prog 40 [.agg (matZ r c l), .agg (matZ r' d l')] (.tup [.agg mat0, eNo 2]) := by
  by_cases hf : FormedP r c l.length
  · have cF := (con_Formed r c (n := l.length) (cells := l.flatMap q4C)).h trivial
    rw [decide_eq_true (show 0 ≤ r ∧ r ≤ 64 ∧ 0 ≤ c ∧ c ≤ 64 ∧ (l.length : Int) = r * c from hf)] at cF
    by_cases hf' : FormedP r' d l'.length
    · have h2 : ¬ r = r' := fun e => h ⟨hf, hf', e⟩
      have cF' := (con_Formed r' d (n := l'.length) (cells := l'.flatMap q4C)).h trivial
      rw [decide_eq_true (show 0 ≤ r' ∧ r' ≤ 64 ∧ 0 ≤ d ∧ d ≤ 64 ∧ (l'.length : Int) = r' * d from hf')] at cF'
      refine PureOK.fnF Tryz.func40 Tryz.results40 Tryz.ntmps40 rfl rfl rfl (by simp [AV.ids, AV0.ids, Atom.ids]) rfl (fun w0 T B E0 hB => ?_)
      refine SX.goF ?_
      exact .ok (RetOK.mk2 (ResOK.agg3 rfl rfl rfl) (ResOK.tmp rfl))
    · have cF' := cF_false (cells := l'.flatMap q4C) hf'
      refine PureOK.fnF Tryz.func40 Tryz.results40 Tryz.ntmps40 rfl rfl rfl (by simp [AV.ids, AV0.ids, Atom.ids]) rfl (fun w0 T B E0 hB => ?_)
      refine SX.goF ?_
      exact .ok (RetOK.mk2 (ResOK.agg3 rfl rfl rfl) (ResOK.tmp rfl))
  · have cF := cF_false (cells := l.flatMap q4C) hf
    refine PureOK.fnF Tryz.func40 Tryz.results40 Tryz.ntmps40 rfl rfl rfl (by simp [AV.ids, AV0.ids, Atom.ids]) rfl (fun w0 T B E0 hB => ?_)
    refine SX.goF ?_
    exact .ok (RetOK.mk2 (ResOK.agg3 rfl rfl rfl) (ResOK.tmp rfl))
/-- Behind the pivots' rows there are noughts alone. -/
def SolOK (r c d : Nat) (va vb : Nat → Nat → Rat) : Prop := ∀ i, (rdP r c d va vb).length ≤ i → i < r → ∀ k, k < d → rdM r c d va vb i (c + k) = 0
theorem any_row {r c d : Nat} {va vb : Nat → Nat → Rat} {i : Nat} {row : List Rat} (h2 : row.length = c + d) (h3 : ∀ k, k < c + d → row[k]? = some (rdM r c d va vb i k)) : anyNZ (row.drop c) = true ↔ ∃ k, k < d ∧ rdM r c d va vb i (c + k) ≠ 0 := by
  rw [anyNZ_iff]
  constructor
  · rintro ⟨k, v, h4, h5⟩
    have hk : k < d := by
      rcases Nat.lt_or_ge k d with h | h
      · exact h
      · rw [List.getElem?_eq_none (by rw [List.length_drop]; omega)] at h4; cases h4
    rw [List.getElem?_drop, h3 (c + k) (by omega)] at h4
    exact ⟨k, hk, by rw [Option.some.inj h4]; exact h5⟩
  · rintro ⟨k, hk, hne⟩
    exact ⟨k, _, by rw [List.getElem?_drop]; exact h3 (c + k) (by omega), hne⟩
theorem con_Solve {r c d : Nat} {l l' : List Q4} {vs vs' : List Rat} {K : Nat} (hM : MV l vs K) (hl : l.length = r * c) (hM' : MV l' vs' K) (hl' : l'.length = r * d) (hr : r ≤ 64) (hc : c ≤ 64) (hd : d ≤ 64) (hK1 : 1 ≤ K) (hkb : ∀ k, k < c → kb K k ≤ 49000) (hkc : kb K c ≤ 400000) :
    (SolOK r c d (vat vs c) (vat vs' d) → PureOK Tryz.prog 40 [.agg (matQ r c l), .agg (matQ r d l')] (.tup [.agg (matA c d (tabR d (solX (rdP r c d (vat vs c) (vat vs' d)) (rdM r c d (vat vs c) (vat vs' d)) c) c)), eNo 0])) ∧
    (¬ SolOK r c d (vat vs c) (vat vs' d) → PureOK Tryz.prog 40 [.agg (matQ r c l), .agg (matQ r d l')] (.tup [.agg mat0, eNo 10])) := by
  have hK : K ≤ 400000 := Nat.le_trans (kb_ge c K) hkc
  have cF := cF_true (cells := l.flatMap q4C) hl hr hc
  have cF' := cF_true (cells := l'.flatMap q4C) hl' hr hd
  have hRB := vat_RB (hM.rb hK1) hK1 c
  have hRB' := vat_RB (hM'.rb hK1) hK1 d
  have hRW : RW (bgM c d (vat vs c) (vat vs' d) r) (c + d) K := bgM_RW (fun i k _ _ => hRB i k) (fun i k _ _ => hRB' i k)
  have hrow := fun i hi => red_row (r := r) (c := c) (d := d) (va := vat vs c) (vb := vat vs' d) (i := i) hi
  have hany := fun i row h2 h3 => any_row (r := r) (c := c) (d := d) (va := vat vs c) (vb := vat vs' d) (i := i) (row := row) h2 h3
  have hrb := fun i k hi hk => red_RB (r := r) (c := c) (d := d) (va := vat vs c) (vb := vat vs' d) hRW (i := i) (k := k) hi hk
  have hspec := red_rref (r := r) (c := c) (d := d) (va := vat vs c) (vb := vat vs' d)
  have hlen := red_len (r := r) (c := c) (d := d) (va := vat vs c) (vb := vat vs' d)
  have cR : PureOK Tryz.prog 56 [.agg (matR r c (rowR 4 q4C l)), .agg (matR r d (rowR 4 q4C l'))] (.r (wkP (red r c d (vat vs c) (vat vs' d)).1 c (rdP r c d (vat vs c) (vat vs' d)))) :=
    con_reduced r c r d (rowR 4 q4C l) (rowR 4 q4C l') (vat vs c) (vat vs' d) K (by omega) (by omega) (by omega) (cA_at hM hl hr hc (by omega)) (cA_at hM' hl' hr hd (by omega)) hRW hkb
  have hplen := hspec.len
  unfold SolOK
  unfold rdM at *
  generalize rdP r c d (vat vs c) (vat vs' d) = ps at *
  generalize (red r c d (vat vs c) (vat vs' d)).1 = M at *
  have hw : ∀ j, j < ps.length → ∃ row, M[j]? = some row ∧ row.length = c + d ∧ ∀ k, k < c + d → row[k]? = some (mf M j k) := fun j hj => hrow j (by omega)
  have cM := con_made c d (.sat (cloR 86 [] [.sat (ptrR [.sat (wkP M c ps)]), .sat (ptrR [.val (.int .i64 (r : Int)), .val (.int .i64 (c : Int)), .sat (rowR 4 q4C l)])])) (fun i k => q4v (solX ps (mf M) c i k)) (solX ps (mf M) c) (kb K c) (by omega) (by omega) (by omega)
    (fun i k hi hk => FnV.clo (con_sol2 hw (by omega) (by omega) (by omega) (by omega) (by omega)))
    (fun i k hi hk => RB.ra (by
      unfold solX
      split
      · rename_i h
        obtain ⟨j, h1, h2⟩ := fi_at h
        rw [h1]
        have hjl : j < ps.length := by
          rcases Nat.lt_or_ge j ps.length with h | h
          · exact h
          · rw [List.getElem?_eq_none h] at h2; cases h2
        exact hrb j (c + k) (by omega) (by omega)
      · exact RB.zero (Nat.le_trans hK1 (kb_ge c K)))) rfl
  have hdl : (M.drop ps.length).length = r - ps.length := by rw [List.length_drop, hlen]
  constructor
  · intro hok
    refine PureOK.fnF Tryz.func40 Tryz.results40 Tryz.ntmps40 rfl rfl rfl (by simp [AV.ids, AV0.ids, Atom.ids]) rfl (fun w0 T B E0 hB => ?_)
    refine SX.goF ?_
    refine W.loop (fun j => j ≤ r - ps.length) (fun j => [(2, .ptr 2 0), (3, .ptr 3 0), (4, .ptr 4 0), (6, .ptr 6 0), (37, .r (rowR 1 rowC (M.drop ps.length))), (38, .v (.int .i64 ((r - ps.length : Nat) : Int))), (39, .v (.int .i64 (j : Int)))]) (fun j => [(2, .box 24 (matQ r c l)), (3, .box 24 (matQ r d l')), (4, .box 24 mat0), (6, .box 75 [.c (.sat (wkP M c ps))])]) (fun j => r - ps.length - j) 0 (Nat.zero_le _) (fun j hj => ?_)
    by_cases h : j < r - ps.length
    · obtain ⟨row, h1, h2, h3⟩ := hrow (ps.length + j) (by omega)
      have h1' : (M.drop ps.length)[j]? = some row := by rw [List.getElem?_drop]; exact h1
      have hv : ∀ v ∈ row.drop c, RB v (kb K c) := fun v hv => by
        obtain ⟨k, hk⟩ := List.mem_iff_getElem?.1 (List.mem_of_mem_drop hv)
        have hkl : k < c + d := by
          rcases Nat.lt_or_ge k row.length with h | h
          · omega
          · rw [List.getElem?_eq_none h] at hk; cases hk
        rw [h3 k hkl] at hk
        rw [← Option.some.inj hk]; exact hrb _ k (by omega) hkl
      have cA := con_AnyNZ (row.drop c) (kb K c) hv hkc (by rw [List.length_drop]; omega)
      have hno : anyNZ (row.drop c) = false := by
        rw [Bool.eq_false_iff]; intro ht
        obtain ⟨k, hk, hne⟩ := (hany _ row h2 h3).1 ht
        exact hne (hok _ (by omega) (by omega) k hk)
      rw [hno] at cA
      refine SX.goF ?_
      exact W.next (j + 1) h (by omega)
    · obtain rfl : j = r - ps.length := by omega
      refine SX.goF ?_
      refine SX.WP.freezeB 6 hB rfl rfl ?_
      refine SX.WP.freezeB 2 hB rfl rfl ?_
      refine SX.WP.regionL ?_
      refine SX.goF ?_
      exact .ok (RetOK.mk2 (ResOK.agg3 rfl rfl rfl) (ResOK.tmp rfl))
  · intro hno
    refine PureOK.fnF Tryz.func40 Tryz.results40 Tryz.ntmps40 rfl rfl rfl (by simp [AV.ids, AV0.ids, Atom.ids]) rfl (fun w0 T B E0 hB => ?_)
    refine SX.goF ?_
    refine W.loop (fun j => j ≤ r - ps.length ∧ ∀ i, ps.length ≤ i → i < ps.length + j → ∀ k, k < d → mf M i (c + k) = 0) (fun j => [(2, .ptr 2 0), (3, .ptr 3 0), (4, .ptr 4 0), (6, .ptr 6 0), (37, .r (rowR 1 rowC (M.drop ps.length))), (38, .v (.int .i64 ((r - ps.length : Nat) : Int))), (39, .v (.int .i64 (j : Int)))]) (fun j => [(2, .box 24 (matQ r c l)), (3, .box 24 (matQ r d l')), (4, .box 24 mat0), (6, .box 75 [.c (.sat (wkP M c ps))])]) (fun j => r - ps.length - j) 0 ⟨Nat.zero_le _, fun i h1 h2 => by omega⟩ (fun j ⟨hj, hz⟩ => ?_)
    by_cases h : j < r - ps.length
    · obtain ⟨row, h1, h2, h3⟩ := hrow (ps.length + j) (by omega)
      have h1' : (M.drop ps.length)[j]? = some row := by rw [List.getElem?_drop]; exact h1
      have hv : ∀ v ∈ row.drop c, RB v (kb K c) := fun v hv => by
        obtain ⟨k, hk⟩ := List.mem_iff_getElem?.1 (List.mem_of_mem_drop hv)
        have hkl : k < c + d := by
          rcases Nat.lt_or_ge k row.length with h | h
          · omega
          · rw [List.getElem?_eq_none h] at hk; cases hk
        rw [h3 k hkl] at hk
        rw [← Option.some.inj hk]; exact hrb _ k (by omega) hkl
      have cA := con_AnyNZ (row.drop c) (kb K c) hv hkc (by rw [List.length_drop]; omega)
      cases hnz : anyNZ (row.drop c) with
      | true =>
        rw [hnz] at cA
        refine SX.goF ?_
        exact .ok (RetOK.mk2 (ResOK.agg3 rfl rfl rfl) (ResOK.tmp rfl))
      | false =>
        rw [hnz] at cA
        refine SX.goF ?_
        refine W.next (j + 1) ⟨h, fun i hi1 hi2 k hk => ?_⟩ (by omega)
        by_cases hij : i < ps.length + j
        · exact hz i hi1 hij k hk
        · obtain rfl : i = ps.length + j := by omega
          refine Classical.byContradiction fun hne => ?_
          have := (hany _ row h2 h3).2 ⟨k, hk, hne⟩
          rw [hnz] at this; cases this
    · exact absurd (fun i h1 h2 => hz i h1 (by omega)) hno
end Go.Proofs.YtpchnbhkkbnjbaaGreatDoor
/- What becomes 0: the walk. -/
set_option linter.unusedVariables false
set_option linter.unusedSimpArgs false
namespace Go.Proofs.YtpchnbhkkbnjbaaGreatDoor
open Go.RowKit QM SX
attribute [local irreducible] IntKind.wrap Go1 Reg WP thenK inBlk retQ retF RetF RetOK ResOK CallOK OpOK Sat
attribute [local irreducible] qsub qmul qquo qcmp qadd qv redS mf
/-- What is told to become 0. -/
def kerX (ps fr : List Nat) (m : Nat → Nat → Rat) (i k : Nat) : Rat := if i ∈ ps then -m (fi (isI i) ps 0).toNat (fr.getD k 0) else if fr.getD k 0 = i then 1 else 0
theorem con_ker1 {M : List (List Rat)} {cols : Nat} {ps fr : List Nat} {i k W K : Nat} (hw : ∀ j, j < ps.length → ∃ row, M[j]? = some row ∧ row.length = W ∧ ∀ k, k < W → row[k]? = some (mf M j k)) (hl : ps.length ≤ M.length) (hps : ps.length ≤ 1000) (hfr : fr.length ≤ 1000) (hk : k < fr.length) (hfw : ∀ f ∈ fr, f < W) (hRB : ∀ j k, j < ps.length → k < W → RB (mf M j k) K) (hK : K ≤ 400000) :
    PureOK Tryz.prog 81 [.v (.int .i64 (i : Int)), .v (.int .i64 (k : Int)), .r (ptrR [.sat (wkP M cols ps)]), .r (ptrR [.sat (rowR 1 piC fr)])] (.agg (q4A (q4v (kerX ps fr (mf M) i k)))) := by
  have cI := con_IndexI ps i hps
  obtain ⟨f, hf⟩ : ∃ f, fr[k]? = some f := ⟨_, List.getElem?_eq_getElem hk⟩
  have hfd : fr.getD k 0 = f := by rw [List.getD_eq_getElem?_getD, hf]; rfl
  by_cases hi : i ∈ ps
  · obtain ⟨j, h1, h2⟩ := fi_at hi
    have hjl : j < ps.length := by
      rcases Nat.lt_or_ge j ps.length with h | h
      · exact h
      · rw [List.getElem?_eq_none h] at h2; cases h2
    obtain ⟨row, h3, h4, h5⟩ := hw j hjl
    have e : kerX ps fr (mf M) i k = -mf M j f := by unfold kerX; rw [if_pos hi, h1, hfd]; rfl
    rw [e]
    have hfW := hfw f (List.mem_of_getElem? hf)
    have h6 := h5 f hfW
    have i6 := (hRB j f hjl hfW).ra
    rw [h1] at cI
    have hj0 : j < M.length := by omega
    have hf0 : f < row.length := by omega
    refine PureOK.fnF Tryz.func81 Tryz.results81 Tryz.ntmps81 rfl rfl rfl (by simp [AV.ids, AV0.ids, Atom.ids]) rfl (fun w0 T B E0 hB => ?_)
    refine SX.goF ?_
    exact retA (ResOK.agg4 rfl rfl rfl) rfl
  · have h1 := fi_out hi
    generalize fi (isI i) ps 0 = z at *
    by_cases hfi : f = i
    · have e : kerX ps fr (mf M) i k = 1 := by unfold kerX; rw [if_neg hi, hfd, if_pos hfi]
      rw [e]
      have h2 : (f : Int) = (i : Int) := by omega
      refine PureOK.fnF Tryz.func81 Tryz.results81 Tryz.ntmps81 rfl rfl rfl (by simp [AV.ids, AV0.ids, Atom.ids]) rfl (fun w0 T B E0 hB => ?_)
      refine SX.goF ?_
      exact retA (ResOK.agg4 rfl rfl rfl) rfl
    · have e : kerX ps fr (mf M) i k = 0 := by unfold kerX; rw [if_neg hi, hfd, if_neg hfi]
      rw [e]
      have h2 : ¬ (f : Int) = (i : Int) := by omega
      refine PureOK.fnF Tryz.func81 Tryz.results81 Tryz.ntmps81 rfl rfl rfl (by simp [AV.ids, AV0.ids, Atom.ids]) rfl (fun w0 T B E0 hB => ?_)
      refine SX.goF ?_
      exact retA (ResOK.agg4 rfl rfl rfl) rfl
theorem con_Kernel0 {r c : Int} {l : List Q4} (h : ¬ FormedP r c l.length) : PureOK Tryz.prog 35 [.agg (matZ r c l)] (.tup [.agg mat0, eNo 2]) := by
  have cF := cF_false (cells := l.flatMap q4C) h
  refine PureOK.fnF Tryz.func35 Tryz.results35 Tryz.ntmps35 rfl rfl rfl (by simp [AV.ids, AV0.ids, Atom.ids]) rfl (fun w0 T B E0 hB => ?_)
  refine SX.goF ?_
  exact .ok (RetOK.mk2 (ResOK.agg3 rfl rfl rfl) (ResOK.tmp rfl))
theorem frees_lt {c : Nat} {ps : List Nat} : (frees c ps).length ≤ c := by
  have := List.length_filter_le (fun k => decide (k ∉ ps)) (List.range c)
  rw [List.length_range] at this; exact this
theorem con_Kernel {r c : Nat} {l : List Q4} {vs : List Rat} {K : Nat} (hM : MV l vs K) (hl : l.length = r * c) (hr : r ≤ 64) (hc : c ≤ 64) (hK1 : 1 ≤ K) (hkb : ∀ n, n < c → kb K n ≤ 49000) (hkc : kb K c ≤ 400000) :
    PureOK Tryz.prog 35 [.agg (matQ r c l)] (.tup [.agg (matA c (frees c (rdP r c 0 (vat vs c) idv)).length (tabR (frees c (rdP r c 0 (vat vs c) idv)).length (kerX (rdP r c 0 (vat vs c) idv) (frees c (rdP r c 0 (vat vs c) idv)) (rdM r c 0 (vat vs c) idv)) c)), eNo 0]) := by
  have hK : K ≤ 400000 := Nat.le_trans (kb_ge c K) hkc
  have cF := cF_true (cells := l.flatMap q4C) hl hr hc
  have hRB := vat_RB (hM.rb hK1) hK1 c
  have hRW : RW (bgM c 0 (vat vs c) idv r) (c + 0) K := bgM_RW (fun i k _ _ => hRB i k) (fun i k _ h => absurd h (Nat.not_lt_zero _))
  have cR : PureOK Tryz.prog 56 [.agg (matR r c (rowR 4 q4C l)), .agg [.c (.val (.int .i64 (r : Int))), .c (.val (.int .i64 0)), .c (.val (.slice none 0 0))]] (.r (wkP (red r c 0 (vat vs c) idv).1 c (rdP r c 0 (vat vs c) idv))) :=
    con_reduced0 r c (rowR 4 q4C l) (vat vs c) idv K (by omega) (by omega) (cA_at hM hl hr hc (by omega)) hRW hkb
  have hrow := fun i hi => red_row (r := r) (c := c) (d := 0) (va := vat vs c) (vb := idv) (i := i) hi
  have hrb := fun i k hi hk => red_RB (r := r) (c := c) (d := 0) (va := vat vs c) (vb := idv) hRW (i := i) (k := k) hi hk
  have hspec := red_rref (r := r) (c := c) (d := 0) (va := vat vs c) (vb := idv)
  have hlen := red_len (r := r) (c := c) (d := 0) (va := vat vs c) (vb := idv)
  have hplen := hspec.len
  unfold rdM at *
  generalize rdP r c 0 (vat vs c) idv = ps at *
  generalize (red r c 0 (vat vs c) idv).1 = M at *
  have hfl := frees_lt (c := c) (ps := ps)
  have hw : ∀ j, j < ps.length → ∃ row, M[j]? = some row ∧ row.length = c + 0 ∧ ∀ k, k < c + 0 → row[k]? = some (mf M j k) := fun j hj => hrow j (by omega)
  have hbK : ∀ j k, j < ps.length → k < c + 0 → RB (mf M j k) (kb K c) := fun j k hj hk => hrb j k (by omega) hk
  have hfw : ∀ f ∈ frees c ps, f < c + 0 := fun f hf => (frees_mem.1 hf).1
  have cM := con_made c (frees c ps).length (.sat (cloR 81 [] [.sat (ptrR [.sat (wkP M c ps)]), .sat (ptrR [.sat (rowR 1 piC (frees c ps))])])) (fun i k => q4v (kerX ps (frees c ps) (mf M) i k)) (kerX ps (frees c ps) (mf M)) (kb K c) (by omega) (by omega) (by omega)
    (fun i k hi hk => FnV.clo (con_ker1 hw (by omega) (by omega) (by omega) hk hfw hbK hkc))
    (fun i k hi hk => RB.ra (by
      have h1 : 1 ≤ kb K c := Nat.le_trans hK1 (kb_ge c K)
      obtain ⟨f, hf⟩ : ∃ f, (frees c ps)[k]? = some f := ⟨_, List.getElem?_eq_getElem hk⟩
      have hfd : (frees c ps).getD k 0 = f := by rw [List.getD_eq_getElem?_getD, hf]; rfl
      unfold kerX
      rw [hfd]
      split
      · rename_i h
        obtain ⟨j, h1, h2⟩ := fi_at h
        rw [h1]
        have hjl : j < ps.length := by
          rcases Nat.lt_or_ge j ps.length with h | h
          · exact h
          · rw [List.getElem?_eq_none h] at h2; cases h2
        exact (hbK j f hjl (hfw f (List.mem_of_getElem? hf))).neg
      · split
        · exact RB.one h1
        · exact RB.zero h1)) rfl
  refine PureOK.fnF Tryz.func35 Tryz.results35 Tryz.ntmps35 rfl rfl rfl (by simp [AV.ids, AV0.ids, Atom.ids]) rfl (fun w0 T B E0 hB => ?_)
  refine SX.goF ?_
  refine W.loop (fun k => k ≤ c) (fun k => [(1, .ptr 1 0), (2, .ptr 2 0), (4, .ptr 4 0), (5, .ptr 5 0), (17, .v (.int .i64 (c : Int))), (18, .v (.int .i64 (k : Int)))]) (fun k => [(1, .box 24 (matQ r c l)), (2, .box 24 mat0), (4, .box 75 [.c (.sat (wkP M c ps))]), (5, .box 27 [.own 100]), (100, .row 3 1 (frees k ps).length ((frees k ps).flatMap piC))]) (fun k => c - k) 0 (Nat.zero_le _) (fun k hk => ?_)
    (by
      refine SX.St.le_to [(100, none)] (by intro b h; cases h) ?_ ?_ rfl
      · repeat (first | exact trivial | refine ⟨⟨_, rfl, SX.AVto.same rfl⟩, ?_⟩)
      · exact ⟨SX.EntTo.same rfl rfl, SX.EntTo.same rfl rfl, SX.EntTo.same rfl rfl, SX.EntTo.boxTo rfl rfl ⟨AtomTo.nil rfl, trivial⟩, SX.EntTo.nilRow rfl, trivial⟩)
  by_cases h : k < c
  · have cC := con_Contains ps k (by omega)
    have hkl := frees_lt (c := k) (ps := ps)
    by_cases hk : k ∈ ps
    · rw [decide_eq_true hk] at cC
      have e2 : frees k ps = frees (k + 1) ps := by rw [frees_succ, if_pos hk]
      refine SX.goF ?_
      refine W.next (k + 1) h (by omega) (by
        rw [← e2]
        refine SX.St.le_to [] (by intro b h; cases h) ?_ ?_ rfl
        · repeat (first | exact trivial | refine ⟨⟨_, rfl, SX.AVto.same rfl⟩, ?_⟩)
        · exact ⟨SX.EntTo.same rfl rfl, SX.EntTo.same rfl rfl, SX.EntTo.same rfl rfl, SX.EntTo.same rfl rfl, SX.EntTo.same rfl rfl, trivial⟩)
    · rw [decide_eq_false hk] at cC
      have e2 : (frees k ps).flatMap piC ++ piC k = (frees (k + 1) ps).flatMap piC := by rw [frees_succ, if_neg hk, List.flatMap_append]; simp
      have e3 : (frees k ps).length + 1 = (frees (k + 1) ps).length := by rw [frees_succ, if_neg hk, List.length_append]; rfl
      refine SX.goF ?_
      refine W.next (k + 1) h (by omega) (by
        refine SX.St.le_to [(100, some 31)] (by intro b h; cases h) ?_ ?_ rfl
        · repeat (first | exact trivial | refine ⟨⟨_, rfl, SX.AVto.same rfl⟩, ?_⟩)
        · exact ⟨SX.EntTo.same rfl rfl, SX.EntTo.same rfl rfl, SX.EntTo.same rfl rfl, SX.EntTo.boxTo rfl rfl ⟨AtomTo.own rfl, trivial⟩, SX.EntTo.row rfl rfl e3 e2, trivial⟩)
  · obtain rfl : k = c := by omega
    refine SX.goF ?_
    refine SX.WP.freeze 100 hB rfl ?_
    refine SX.WP.freezeB 5 hB rfl rfl ?_
    refine SX.WP.freezeB 4 hB rfl rfl ?_
    refine SX.WP.regionL ?_
    refine SX.goF ?_
    exact .ok (RetOK.mk2 (ResOK.agg3 rfl rfl rfl) (ResOK.tmp rfl))
end Go.Proofs.YtpchnbhkkbnjbaaGreatDoor
/- The reference for matrices of fractions (package quincunxref13). -/
set_option linter.unusedVariables false
set_option linter.unusedSimpArgs false
namespace Go.Proofs.YtpchnbhkkbnjbaaGreatDoor
open Go.RowKit QM SX
attribute [local irreducible] IntKind.wrap Go1 Reg WP thenK inBlk retQ retF RetF RetOK ResOK CallOK OpOK Sat
attribute [local irreducible] qsub qmul qquo qcmp qadd qv redS mf
/-- A fraction as it comes in. -/
abbrev RawQ := Bool × List Nat × Bool × List Nat
abbrev rq (x : RawQ) : Q4 := (x.1, rawN x.2.1, x.2.2.1, rawN x.2.2.2)
/-- A fraction's value, as it comes in. -/
def rqv (x : RawQ) : Rat := qv (sgn x.1 (nval WB x.2.1)) (sgn x.2.2.1 (nval WB x.2.2.2))
def RSm (l : List RawQ) : Prop := ∀ x ∈ l, Sm WB x.2.1 ∧ Sm WB x.2.2.2
def RLen (l : List RawQ) (K : Nat) : Prop := ∀ x ∈ l, x.2.1.length ≤ K ∧ x.2.2.2.length ≤ K
theorem MV.raw {l : List RawQ} {K : Nat} (hs : RSm l) (hl : RLen l K) : MV (l.map rq) (l.map rqv) K := by
  refine ⟨by rw [List.length_map, List.length_map], fun i q v hq hv => ?_⟩
  rw [List.getElem?_map] at hq hv
  cases hx : l[i]? with
  | none => rw [hx] at hq; cases hq
  | some x =>
    rw [hx] at hq hv
    cases hq; cases hv
    have h1 := hs x (List.mem_of_getElem? hx)
    have h2 := hl x (List.mem_of_getElem? hx)
    exact Ra.raw ⟨nn_lt h1.1 (Nat.le_refl _)⟩ ⟨nn_lt h1.2 (Nat.le_refl _)⟩ h2.1 h2.2
theorem con_rFormed (r c : Int) {n : Nat} {cells : List CA} : PureOK Tryz.prog 13 [.agg [.c (.val (.int .i64 r)), .c (.val (.int .i64 c)), .c (.sat (sliceR 4 n cells))]] (.v (.bool (decide (0 ≤ r ∧ r ≤ 64 ∧ 0 ≤ c ∧ c ≤ 64 ∧ (n : Int) = r * c)))) := by
  refine PureOK.fnF Tryz.func13 Tryz.results13 Tryz.ntmps13 rfl rfl rfl (by simp [AV.ids, AV0.ids, Atom.ids]) rfl (fun w0 T B E0 hB => ?_)
  by_cases h1 : r ≥ 0
  · by_cases h2 : r ≤ 64
    · by_cases h3 : c ≥ 0
      · by_cases h4 : c ≤ 64
        · have hp : 0 ≤ r * c := Int.mul_nonneg h1 h3
          have hp2 : r * c ≤ 64 * 64 := Int.mul_le_mul h2 h4 h3 (by decide)
          refine SX.goF ?_
          refine retB ?_
          rw [decide_eq_decide]
          exact ⟨fun h => ⟨h1, h2, h3, h4, h⟩, fun h => h.2.2.2.2⟩
        · refine SX.goF ?_
          refine retB ?_; exact (decide_eq_false fun h => h4 h.2.2.2.1).symm
      · refine SX.goF ?_
        refine retB ?_; exact (decide_eq_false fun h => h3 h.2.2.1).symm
    · refine SX.goF ?_
      refine retB ?_; exact (decide_eq_false fun h => h2 h.2.1).symm
  · refine SX.goF ?_
    refine retB ?_; exact (decide_eq_false fun h => h1 h.1).symm
theorem con_rF {r c : Int} {n : Nat} {cells : List CA} (h : FormedP r c n) : PureOK Tryz.prog 13 [.agg [.c (.val (.int .i64 r)), .c (.val (.int .i64 c)), .c (.sat (sliceR 4 n cells))]] (.v (.bool true)) := by
  have h2 := con_rFormed r c (n := n) (cells := cells)
  rw [decide_eq_true (show 0 ≤ r ∧ r ≤ 64 ∧ 0 ≤ c ∧ c ≤ 64 ∧ (n : Int) = r * c from h)] at h2
  exact h2
theorem con_rF0 {r c : Int} {n : Nat} {cells : List CA} (h : ¬ FormedP r c n) : PureOK Tryz.prog 13 [.agg [.c (.val (.int .i64 r)), .c (.val (.int .i64 c)), .c (.sat (sliceR 4 n cells))]] (.v (.bool false)) := by
  have h2 := con_rFormed r c (n := n) (cells := cells)
  rw [decide_eq_false (show ¬ (0 ≤ r ∧ r ≤ 64 ∧ 0 ≤ c ∧ c ≤ 64 ∧ (n : Int) = r * c) from h)] at h2
  exact h2
theorem con_rNone : PureOK Tryz.prog 14 [.agg mat0] (.v (.bool true)) := by
  refine PureOK.fnF Tryz.func14 Tryz.results14 Tryz.ntmps14 rfl rfl rfl (by simp [AV.ids, AV0.ids, Atom.ids]) rfl (fun w0 T B E0 hB => ?_)
  refine SX.goF ?_
  first | exact retB rfl | (refine retB ?_; rfl)
theorem con_rAt {r c i k : Nat} {l : List Q4} {q : Q4} (hq : l[i * c + k]? = some q) (hi : i ≤ 1000) (hc : c ≤ 1000) (hk : k ≤ 1000) :
    PureOK Tryz.prog 38 [.agg (matQ r c l), .v (.int .i64 (i : Int)), .v (.int .i64 (k : Int))] (.agg (q4A q)) := by
  have hb := Nat.mul_le_mul hi hc
  have hlt : i * c + k < l.length := by
    rcases Nat.lt_or_ge (i * c + k) l.length with h | h
    · exact h
    · rw [List.getElem?_eq_none h] at hq; cases hq
  refine PureOK.fnF Tryz.func38 Tryz.results38 Tryz.ntmps38 rfl rfl rfl (by simp [AV.ids, AV0.ids, Atom.ids]) rfl (fun w0 T B E0 hB => ?_)
  refine SX.goF ?_
  exact retA (ResOK.agg4 rfl rfl rfl) rfl
theorem con_rIn (ps : List Nat) (i : Nat) (hl : ps.length ≤ 1000) : PureOK Tryz.prog 37 [.r (rowR 1 piC ps), .v (.int .i64 (i : Int))] (.v (.bool (decide (i ∈ ps)))) := by
  refine PureOK.fnF Tryz.func37 Tryz.results37 Tryz.ntmps37 rfl rfl rfl (by simp [AV.ids, AV0.ids, Atom.ids]) rfl (fun w0 T B E0 hB => ?_)
  refine SX.goF ?_
  refine W.loop (fun k => k ≤ ps.length ∧ ∀ j a, j < k → ps[j]? = some a → a ≠ i) (fun k => [(0, .r (rowR 1 piC ps)), (1, .v (.int .i64 (i : Int))), (5, .v (.int .i64 (k : Int)))]) (fun _ => []) (fun k => ps.length - k) 0 ⟨Nat.zero_le _, fun j a h => absurd h (Nat.not_lt_zero _)⟩ (fun k ⟨hk, he⟩ => ?_)
  by_cases h : k < ps.length
  · obtain ⟨a, ha⟩ : ∃ a, ps[k]? = some a := ⟨_, List.getElem?_eq_getElem h⟩
    by_cases hia : a = i
    · have h2 : (a : Int) = (i : Int) := by omega
      refine SX.goF ?_
      refine retB ?_; exact (decide_eq_true (hia ▸ List.mem_of_getElem? ha)).symm
    · have h2 : ¬ (a : Int) = (i : Int) := by omega
      refine SX.goF ?_
      refine W.next (k + 1) ⟨h, fun j b hj hb => ?_⟩ (by omega)
      by_cases hjk : j < k
      · exact he j b hjk hb
      · obtain rfl : j = k := by omega
        rw [ha] at hb; rw [← Option.some.inj hb]; exact hia
  · obtain rfl : k = ps.length := by omega
    refine SX.goF ?_
    refine retB ?_
    refine (decide_eq_false fun hm => ?_).symm
    obtain ⟨j, hj⟩ := List.mem_iff_getElem?.1 hm
    have hjl : j < ps.length := by
      rcases Nat.lt_or_ge j ps.length with h | h
      · exact h
      · rw [List.getElem?_eq_none h] at hj; cases hj
    exact he j i hjl hj rfl
/-- A matrix of a size that is looked at. -/
def FewP (r c : Int) (l : List RawQ) (s w : Int) : Prop := (∀ k x, k < 100 → l[k]? = some x → (x.2.1.length : Int) ≤ w ∧ (x.2.2.2.length : Int) ≤ w) ∧ r ≤ s ∧ c ≤ s ∧ l.length ≤ 100
theorem con_rFew (r c : Int) (l : List RawQ) (s w : Int) :
    (FewP r c l s w → PureOK Tryz.prog 11 [.agg (matZ r c (l.map rq)), .v (.int .i64 s), .v (.int .i64 w)] (.v (.bool true))) ∧
    (¬ FewP r c l s w → PureOK Tryz.prog 11 [.agg (matZ r c (l.map rq)), .v (.int .i64 s), .v (.int .i64 w)] (.v (.bool false))) := by
  have hlen : (l.map rq).length = l.length := List.length_map _
  have key : ∀ (goal : Bool), (goal = true ↔ FewP r c l s w) → PureOK Tryz.prog 11 [.agg (matZ r c (l.map rq)), .v (.int .i64 s), .v (.int .i64 w)] (.v (.bool goal)) := by
    intro goal hg
    refine PureOK.fnF Tryz.func11 Tryz.results11 Tryz.ntmps11 rfl rfl rfl (by simp [AV.ids, AV0.ids, Atom.ids]) rfl (fun w0 T B E0 hB => ?_)
    refine SX.goF ?_
    refine W.loop (fun k => k ≤ l.length ∧ k ≤ 100 ∧ ∀ j x, j < k → l[j]? = some x → (x.2.1.length : Int) ≤ w ∧ (x.2.2.2.length : Int) ≤ w) (fun k => [(1, .v (.int .i64 s)), (2, .v (.int .i64 w)), (3, .ptr 3 0), (7, .v (.int .i64 (k : Int)))]) (fun k => [(3, .box 24 (matZ r c (l.map rq)))]) (fun k => l.length - k) 0 ⟨Nat.zero_le _, Nat.zero_le _, fun j x h => absurd h (Nat.not_lt_zero _)⟩ (fun k ⟨hk, hk2, he⟩ => ?_)
    by_cases h : k < l.length
    · have h' : k < (l.map rq).length := by omega
      by_cases h2 : k < 100
      · obtain ⟨x, hx⟩ : ∃ x, l[k]? = some x := ⟨_, List.getElem?_eq_getElem h⟩
        have hq : (l.map rq)[k]? = some (rq x) := by rw [List.getElem?_map, hx]; rfl
        have cF := (con_Few x.1 x.2.1 x.2.2.1 x.2.2.2 w).h trivial
        by_cases h3 : (x.2.1.length : Int) ≤ w ∧ (x.2.2.2.length : Int) ≤ w
        · rw [decide_eq_true h3] at cF
          refine SX.goF ?_
          refine W.next (k + 1) ⟨h, h2, fun j b hj hb => ?_⟩ (by omega)
          by_cases hjk : j < k
          · exact he j b hjk hb
          · obtain rfl : j = k := by omega
            rw [hx] at hb; rw [← Option.some.inj hb]; exact h3
        · rw [decide_eq_false h3] at cF
          refine SX.goF ?_
          refine retB ?_
          exact (Bool.eq_false_iff.2 fun ht => h3 ((hg.1 ht).1 k x h2 hx)).symm
      · obtain rfl : k = 100 := by omega
        have hno : ¬ (l.map rq).length ≤ 100 := by omega
        by_cases h3 : r ≤ s
        · by_cases h4 : c ≤ s
          · refine SX.goF ?_
            refine retB ?_
            rw [Bool.eq_iff_iff, hg, decide_eq_true_iff]
            exact ⟨fun h => by omega, fun h => by have := h.2.2.2; omega⟩
          · refine SX.goF ?_
            refine retB ?_
            exact (Bool.eq_false_iff.2 fun ht => h4 (hg.1 ht).2.2.1).symm
        · refine SX.goF ?_
          refine retB ?_
          exact (Bool.eq_false_iff.2 fun ht => h3 (hg.1 ht).2.1).symm
    · obtain rfl : k = l.length := by omega
      have h' : ¬ l.length < (l.map rq).length := by omega
      have all : ∀ k x, k < 100 → l[k]? = some x → (x.2.1.length : Int) ≤ w ∧ (x.2.2.2.length : Int) ≤ w := fun j x hj hx => by
        have hjl : j < l.length := by
          rcases Nat.lt_or_ge j l.length with h | h
          · exact h
          · rw [List.getElem?_eq_none h] at hx; cases hx
        exact he j x hjl hx
      by_cases h3 : r ≤ s
      · by_cases h4 : c ≤ s
        · refine SX.goF ?_
          refine retB ?_
          rw [Bool.eq_iff_iff, hg, decide_eq_true_iff]
          exact ⟨fun h => ⟨all, h3, h4, by omega⟩, fun h => by have := h.2.2.2; omega⟩
        · refine SX.goF ?_
          refine retB ?_
          exact (Bool.eq_false_iff.2 fun ht => h4 (hg.1 ht).2.2.1).symm
      · refine SX.goF ?_
        refine retB ?_
        exact (Bool.eq_false_iff.2 fun ht => h3 (hg.1 ht).2.1).symm
  exact ⟨fun h => key true ⟨fun _ => h, fun _ => rfl⟩, fun h => key false ⟨fun h => (by cases h), fun h2 => absurd h2 h⟩⟩
theorem con_rStacked {r c r' c' : Nat} {l l' : List Q4} (hr : r ≤ 1000) (hr' : r' ≤ 1000) (hl : l.length ≤ 100000) (hl' : l'.length ≤ 100000) :
    PureOK Tryz.prog 18 [.agg (matQ r c l), .agg (matQ r' c' l')] (.agg (matQ (r + r') c (l ++ l'))) := by
  refine PureOK.fnF Tryz.func18 Tryz.results18 Tryz.ntmps18 rfl rfl rfl (by simp [AV.ids, AV0.ids, Atom.ids]) rfl (fun w0 T B E0 hB => ?_)
  refine SX.goF ?_
  have hm : matQ (r + r') c (l ++ l') = [.c (.val (.int .i64 ((r : Int) + (r' : Int)))), .c (.val (.int .i64 (c : Int))), .c (.sat (sliceR 4 (l.length + l'.length) (l.flatMap q4C ++ l'.flatMap q4C)))] := by
    show [Atom.c (.val (.int .i64 ((r + r' : Nat) : Int))), _, Atom.c (.sat (sliceR 4 (l ++ l').length ((l ++ l').flatMap q4C)))] = _
    rw [List.length_append, List.flatMap_append, Int.natCast_add]
  rw [hm]
  refine RetF.frz 24 ?_
  exact retA (ResOK.agg3 rfl rfl rfl) rfl
end Go.Proofs.YtpchnbhkkbnjbaaGreatDoor
/- The reference for matrices of fractions (package quincunxref13): what it answers where all is as it should be. -/
set_option linter.unusedVariables false
set_option linter.unusedSimpArgs false
namespace Go.Proofs.YtpchnbhkkbnjbaaGreatDoor
open Go.RowKit QM SX LA
attribute [local irreducible] IntKind.wrap Go1 Reg WP thenK inBlk retQ retF RetF RetOK ResOK CallOK OpOK Sat
attribute [local irreducible] qsub qmul qquo qcmp qadd qv redS mf
section
variable {l l' : List Atom} {v : Rat} {K K' : Nat}
theorem cmp_eq [a : Ra l v K] [b : Ra l' v K'] (h : K + K' ≤ 400000) : PureOK Tryz.prog 28 [.agg l, .agg l'] (.v (.int .i64 0)) := by
  obtain ⟨z, c, hz, _, _⟩ := eCmp l l' h
  rw [show z = 0 from hz.2 rfl] at c; exact c
theorem sign_0 [a : Ra l 0 K] (h : K ≤ 400000) : PureOK Tryz.prog 42 [.agg l] (.v (.int .i64 0)) := by
  obtain ⟨z, c, hz, _⟩ := eSign l h
  rw [show z = 0 from hz.2 rfl] at c; exact c
end
theorem of_0 : PureOK Tryz.prog 33 [.v (.int .i64 0)] (.agg (zN 0)) := con_zOf.h ⟨by decide, by decide⟩
theorem of_1 : PureOK Tryz.prog 33 [.v (.int .i64 1)] (.agg (zN 1)) := con_zOf.h ⟨by decide, by decide⟩
theorem rof_0 : PureOK Tryz.prog 39 [.agg (zN 0)] (.agg (qA 0)) := con_rOf.h (by decide)
theorem rof_1 : PureOK Tryz.prog 39 [.agg (zN 1)] (.agg (qA 1)) := con_rOf.h (by decide)
theorem nrm_q (v : Rat) (K : Nat) (hv : RB v K) (hK : K ≤ 400000) : PureOK Tryz.prog 59 [.agg (q4A (q4v v))] (.v (.bool true)) := by
  haveI b1 : Bd v.num K := ⟨hv.n⟩
  haveI b2 : Bd (v.den : Int) K := ⟨by rw [Int.natAbs_natCast]; exact hv.d⟩
  have h := (con_Normal v.num (v.den : Int) K K).h (by omega)
  rw [decide_eq_true ⟨by have := v.den_nz; omega, by
    have h2 : Nat.Coprime v.num.natAbs v.den := v.reduced
    have : Int.gcd v.num v.den = 1 := by unfold Int.gcd; rw [Int.natAbs_natCast]; exact h2
    rw [this]; rfl⟩] at h
  exact h
theorem at_lt {α : Type} {l : List α} {i : Nat} {a : α} (h : l[i]? = some a) : i < l.length := by
  rcases Nat.lt_or_ge i l.length with h2 | h2
  · exact h2
  · rw [List.getElem?_eq_none h2] at h; cases h
theorem con_mNormal {r c : Nat} {vs : List Rat} {K : Nat} (hv : ∀ v ∈ vs, RB v K) (hK : K ≤ 400000) (hl : vs.length = r * c) (hr : r ≤ 64) (hc : c ≤ 64) :
    PureOK Tryz.prog 15 [.agg (matQ r c (vs.map q4v))] (.v (.bool true)) := by
  have hlen : (vs.map q4v).length = vs.length := List.length_map _
  have hb := Nat.mul_le_mul hr hc
  have cF := con_rF (r := (r : Int)) (c := (c : Int)) (n := (vs.map q4v).length) (cells := (vs.map q4v).flatMap q4C) ⟨by omega, by omega, by omega, by omega, by rw [hlen, hl]; simp⟩
  refine PureOK.fnF Tryz.func15 Tryz.results15 Tryz.ntmps15 rfl rfl rfl (by simp [AV.ids, AV0.ids, Atom.ids]) rfl (fun w0 T B E0 hB => ?_)
  refine SX.goF ?_
  refine W.loop (fun k => k ≤ vs.length) (fun k => [(1, .ptr 1 0), (3, .v (.int .i64 (k : Int)))]) (fun k => [(1, .box 24 (matQ r c (vs.map q4v)))]) (fun k => vs.length - k) 0 (Nat.zero_le _) (fun k hk => ?_)
  by_cases h : k < vs.length
  · have h' : k < (vs.map q4v).length := by omega
    obtain ⟨v, hx⟩ : ∃ v, vs[k]? = some v := ⟨_, List.getElem?_eq_getElem h⟩
    have hq : (vs.map q4v)[k]? = some (q4v v) := by rw [List.getElem?_map, hx]; rfl
    have cN := nrm_q v K (hv v (List.mem_of_getElem? hx)) hK
    refine SX.goF ?_
    exact W.next (k + 1) h (by omega)
  · obtain rfl : k = vs.length := by omega
    have h' : ¬ vs.length < (vs.map q4v).length := by omega
    refine SX.goF ?_
    exact retB rfl
theorem con_mSame {r c : Nat} {l l' : List Q4} {vs : List Rat} {K K' : Nat} (hM : MV l vs K) (hM' : MV l' vs K') (hK : K + K' ≤ 400000) (hb : l.length ≤ 100000) :
    PureOK Tryz.prog 23 [.agg (matQ r c l), .agg (matQ r c l')] (.v (.bool true)) := by
  have hl := hM.len
  have hl' := hM'.len
  refine PureOK.fnF Tryz.func23 Tryz.results23 Tryz.ntmps23 rfl rfl rfl (by simp [AV.ids, AV0.ids, Atom.ids]) rfl (fun w0 T B E0 hB => ?_)
  refine SX.goF ?_
  refine W.loop (fun k => k ≤ l.length) (fun k => [(2, .ptr 2 0), (3, .ptr 3 0), (5, .v (.int .i64 (k : Int)))]) (fun k => [(2, .box 24 (matQ r c l)), (3, .box 24 (matQ r c l'))]) (fun k => l.length - k) 0 (Nat.zero_le _) (fun k hk => ?_)
  by_cases h : k < l.length
  · have h' : k < l'.length := by omega
    obtain ⟨q, hq⟩ : ∃ q, l[k]? = some q := ⟨_, List.getElem?_eq_getElem h⟩
    obtain ⟨q', hq'⟩ : ∃ q, l'[k]? = some q := ⟨_, List.getElem?_eq_getElem h'⟩
    obtain ⟨v, hx⟩ : ∃ v, vs[k]? = some v := ⟨_, List.getElem?_eq_getElem (by omega)⟩
    have i1 := hM.ra _ _ _ hq hx
    have i2 := hM'.ra _ _ _ hq' hx
    have cC := cmp_eq (l := q4A q) (l' := q4A q') (v := v) hK
    refine SX.goF ?_
    exact W.next (k + 1) h (by omega)
  · obtain rfl : k = l.length := by omega
    refine SX.goF ?_
    exact retB rfl
theorem con_mZero {r c : Nat} {l : List Q4} {vs : List Rat} {K : Nat} (hM : MV l vs K) (hz : ∀ v ∈ vs, v = 0) (hK : K ≤ 400000) (hb : l.length ≤ 100000) :
    PureOK Tryz.prog 36 [.agg (matQ r c l)] (.v (.bool true)) := by
  have hl := hM.len
  refine PureOK.fnF Tryz.func36 Tryz.results36 Tryz.ntmps36 rfl rfl rfl (by simp [AV.ids, AV0.ids, Atom.ids]) rfl (fun w0 T B E0 hB => ?_)
  refine SX.goF ?_
  refine W.loop (fun k => k ≤ l.length) (fun k => [(1, .ptr 1 0), (3, .v (.int .i64 (k : Int)))]) (fun k => [(1, .box 24 (matQ r c l))]) (fun k => l.length - k) 0 (Nat.zero_le _) (fun k hk => ?_)
  by_cases h : k < l.length
  · obtain ⟨q, hq⟩ : ∃ q, l[k]? = some q := ⟨_, List.getElem?_eq_getElem h⟩
    obtain ⟨v, hx⟩ : ∃ v, vs[k]? = some v := ⟨_, List.getElem?_eq_getElem (by omega)⟩
    have i1 := hM.ra _ _ _ hq hx
    rw [hz v (List.mem_of_getElem? hx)] at i1
    have cC := sign_0 (l := q4A q) hK
    refine SX.goF ?_
    exact W.next (k + 1) h (by omega)
  · obtain rfl : k = l.length := by omega
    refine SX.goF ?_
    exact retB rfl
/-- A cell and its value at a place. -/
theorem MV.at {r c i k K : Nat} {l : List Q4} {vs : List Rat} (hM : MV l vs K) (hl : l.length = r * c) (hi : i < r) (hk : k < c) : ∃ q, l[i * c + k]? = some q ∧ Ra (q4A q) (vat vs c i k) K := by
  have h := idx_lt hi hk
  obtain ⟨q, hq⟩ : ∃ q, l[i * c + k]? = some q := ⟨_, List.getElem?_eq_getElem (by omega)⟩
  exact ⟨q, hq, hM.ra _ _ _ hq (vat_at (by rw [← hM.len]; exact hl) hi hk)⟩
theorem cmp_id {q : Q4} {K : Nat} (i k : Nat) (h : Ra (q4A q) (idv i k) K) (hK : K + 1 ≤ 400000) :
    (i = k → PureOK Tryz.prog 28 [.agg (q4A q), .agg (qA 1)] (.v (.int .i64 0))) ∧ (¬ i = k → PureOK Tryz.prog 28 [.agg (q4A q), .agg (qA 0)] (.v (.int .i64 0))) := by
  have i1 : Ra (qA 1) 1 1 := (RB.one (Nat.le_refl 1)).ra
  have i0 : Ra (qA 0) 0 1 := (RB.zero (Nat.le_refl 1)).ra
  constructor
  · intro e
    rw [show idv i k = 1 from if_pos e] at h
    exact cmp_eq (v := 1) hK
  · intro e
    rw [show idv i k = 0 from if_neg e] at h
    exact cmp_eq (v := 0) hK
theorem con_mOne {n : Nat} {l : List Q4} {vs : List Rat} {K : Nat} (hM : MV l vs K) (hl : l.length = n * n) (hn : n ≤ 1000) (h1 : ∀ i k, i < n → k < n → vat vs n i k = idv i k) (hK : K + 1 ≤ 400000) :
    PureOK Tryz.prog 20 [.agg (matQ n n l)] (.v (.bool true)) := by
  have o0 := of_0
  have o1 := of_1
  have r0 := rof_0
  have r1 := rof_1
  refine PureOK.fnF Tryz.func20 Tryz.results20 Tryz.ntmps20 rfl rfl rfl (by simp [AV.ids, AV0.ids, Atom.ids]) rfl (fun w0 T B E0 hB => ?_)
  refine SX.goF ?_
  refine W.loop (fun i => i ≤ n) (fun i => [(1, .ptr 1 0), (3, .v (.int .i64 (i : Int)))]) (fun i => [(1, .box 24 (matQ n n l))]) (fun i => n - i) 0 (Nat.zero_le _) (fun i hi => ?_)
  by_cases hi2 : i < n
  · refine SX.goF ?_
    refine W.loop (fun k => k ≤ n) (fun k => [(1, .ptr 1 0), (3, .v (.int .i64 (i : Int))), (4, .v (.int .i64 (k : Int)))]) (fun k => [(1, .box 24 (matQ n n l))]) (fun k => n - k) 0 (Nat.zero_le _) (fun k hk => ?_)
    by_cases hk2 : k < n
    · obtain ⟨q, hq, ra⟩ := hM.at hl hi2 hk2
      rw [h1 i k hi2 hk2] at ra
      have cA := con_rAt (r := n) hq (by omega) (by omega) (by omega)
      have cC := cmp_id i k ra hK
      by_cases hik : i = k
      · have cC1 := cC.1 hik
        have h2 : (i : Int) = (k : Int) := by omega
        clear cC
        refine SX.goF ?_
        exact W.next (k + 1) hk2 (by omega)
      · have cC1 := cC.2 hik
        have h2 : ¬ (i : Int) = (k : Int) := by omega
        clear cC
        refine SX.goF ?_
        exact W.next (k + 1) hk2 (by omega)
    · obtain rfl : k = n := by omega
      refine SX.goF ?_
      exact W.next (i + 1) hi2 (by omega)
  · obtain rfl : i = n := by omega
    refine SX.goF ?_
    refine retB ?_; exact decide_eq_true rfl
end Go.Proofs.YtpchnbhkkbnjbaaGreatDoor
/- The reference for matrices of fractions: products, the reduced form's shape; rows that hang on others. -/
set_option linter.unusedVariables false
set_option linter.unusedSimpArgs false
namespace Go.Proofs.YtpchnbhkkbnjbaaGreatDoor
open Go.RowKit QM SX LA
attribute [local irreducible] IntKind.wrap Go1 Reg WP thenK inBlk retQ retF RetF RetOK ResOK CallOK OpOK Sat
attribute [local irreducible] qsub qmul qquo qcmp qadd qv redS mf
theorem sm_RB {f : Nat → Rat} {L : Nat} : ∀ {n : Nat}, (∀ j, j < n → RB (f j) L) → RB (sm n f) (1 + n * (L + 1))
  | 0, _ => RB.zero (by omega)
  | n + 1, h => by
    have h1 := sm_RB (n := n) fun j hj => h j (by omega)
    refine ((h1.add (h n (by omega))).mono ?_ : RB (sm n f + f n) _)
    rw [Nat.succ_mul]; omega
/-- A place of a product. -/
abbrev prodV (c : Nat) (va vb : Nat → Nat → Rat) (i k : Nat) : Rat := sm c (fun j => va i j * vb j k)
theorem con_mMul {r c d : Nat} {l l' : List Q4} {vs vs' : List Rat} {K K' : Nat} (hM : MV l vs K) (hl : l.length = r * c) (hM' : MV l' vs' K') (hl' : l'.length = c * d) (hr : r ≤ 100) (hc : c ≤ 100) (hd : d ≤ 100) (h1 : 1 ≤ K) (h1' : 1 ≤ K') (hB : 1 + (c + 1) * (K + K' + 1) ≤ 400000) :
    PureOK Tryz.prog 21 [.agg (matQ r c l), .agg (matQ c d l')] (.agg (matA r d (tabR d (prodV c (vat vs c) (vat vs' d)) r))) := by
  have o0 := of_0
  have r0 := rof_0
  have hKK : K + K' ≤ 400000 := by
    have := Nat.mul_le_mul_right (K + K' + 1) (show 1 ≤ c + 1 by omega)
    omega
  have hRB := vat_RB (hM.rb h1) h1 c
  have hRB' := vat_RB (hM'.rb h1') h1' d
  have hsm : ∀ i k j, j ≤ c → RB (sm j (fun j => vat vs c i j * vat vs' d j k)) (1 + j * (K + K' + 1)) := fun i k j _ => sm_RB fun j _ => (hRB i j).mul (hRB' j k)
  generalize hval : prodV c (vat vs c) (vat vs' d) = val
  refine PureOK.fnF Tryz.func21 Tryz.results21 Tryz.ntmps21 rfl rfl rfl (by simp [AV.ids, AV0.ids, Atom.ids]) rfl (fun w0 T B E0 hB => ?_)
  refine SX.goF ?_
  refine W.loop (fun i => i ≤ r) (fun i => [(2, .ptr 2 0), (3, .ptr 3 0), (4, .ptr 4 0), (5, .ptr 5 0), (6, .v (.int .i64 (i : Int)))]) (fun i => [(2, .box 24 (matQ r c l)), (3, .box 24 (matQ c d l')), (4, .box 24 mat0), (5, .box 24 [.c (.val (.int .i64 (r : Int))), .c (.val (.int .i64 (d : Int))), .own 100]), (100, .row 52 4 (i * d) ((tabR d val i).flatMap qC))]) (fun i => r - i) 0 (Nat.zero_le _) (fun i hi => ?_)
    (by
      refine SX.St.le_to [(100, none)] (by intro b h; cases h) ?_ ?_ rfl
      · repeat (first | exact trivial | refine ⟨⟨_, rfl, SX.AVto.same rfl⟩, ?_⟩)
      · exact ⟨SX.EntTo.same rfl rfl, SX.EntTo.same rfl rfl, SX.EntTo.same rfl rfl, SX.EntTo.boxTo rfl rfl ⟨AtomTo.same rfl, AtomTo.same rfl, AtomTo.nil rfl, trivial⟩, by rw [Nat.zero_mul]; exact SX.EntTo.nilRow rfl, trivial⟩)
  by_cases hi2 : i < r
  · refine SX.goF ?_
    refine W.loop (fun k => k ≤ d) (fun k => [(2, .ptr 2 0), (3, .ptr 3 0), (4, .ptr 4 0), (5, .ptr 5 0), (6, .v (.int .i64 (i : Int))), (7, .v (.int .i64 (k : Int)))]) (fun k => [(2, .box 24 (matQ r c l)), (3, .box 24 (matQ c d l')), (4, .box 24 mat0), (5, .box 24 [.c (.val (.int .i64 (r : Int))), .c (.val (.int .i64 (d : Int))), .own 100]), (100, .row 52 4 (i * d + k) ((tabR d val i ++ rowK val i k).flatMap qC))]) (fun k => d - k) 0 (Nat.zero_le _) (fun k hk => ?_)
      (by
        have e : Ent.row 52 4 (i * d) ((tabR d val i).flatMap qC) = Ent.row 52 4 (i * d + 0) ((tabR d val i ++ rowK val i 0).flatMap qC) := by simp [rowK]
        refine SX.St.le_to [] (by intro b h; cases h) ?_ ?_ rfl
        · repeat (first | exact trivial | refine ⟨⟨_, rfl, SX.AVto.same rfl⟩, ?_⟩)
        · exact ⟨SX.EntTo.same rfl rfl, SX.EntTo.same rfl rfl, SX.EntTo.same rfl rfl, SX.EntTo.same rfl rfl, SX.EntTo.eq rfl e rfl, trivial⟩)
    by_cases hk2 : k < d
    · have hlen : i * d + k ≤ 20000 := by
        have := Nat.mul_le_mul (show i ≤ 100 by omega) hd
        omega
      refine SX.goF ?_
      refine W.loop (fun j => j ≤ c) (fun j => [(2, .ptr 2 0), (3, .ptr 3 0), (4, .ptr 4 0), (5, .ptr 5 0), (6, .v (.int .i64 (i : Int))), (7, .v (.int .i64 (k : Int))), (8, .ptr 8 0), (9, .v (.int .i64 (j : Int)))]) (fun j => [(2, .box 24 (matQ r c l)), (3, .box 24 (matQ c d l')), (4, .box 24 mat0), (5, .box 24 [.c (.val (.int .i64 (r : Int))), .c (.val (.int .i64 (d : Int))), .own 100]), (100, .row 52 4 (i * d + k) ((tabR d val i ++ rowK val i k).flatMap qC)), (8, .box 52 (qA (sm j (fun j => vat vs c i j * vat vs' d j k))))]) (fun j => c - j) 0 (Nat.zero_le _) (fun j hj => ?_)
        (by
          refine SX.St.le_to [] (by intro b h; cases h) ?_ ?_ rfl
          · repeat (first | exact trivial | refine ⟨⟨_, rfl, SX.AVto.same rfl⟩, ?_⟩)
          · exact ⟨SX.EntTo.same rfl rfl, SX.EntTo.same rfl rfl, SX.EntTo.same rfl rfl, SX.EntTo.same rfl rfl, SX.EntTo.same rfl rfl, SX.EntTo.same rfl rfl, trivial⟩)
      by_cases hj2 : j < c
      · obtain ⟨q, hq, ra⟩ := hM.at hl hi2 hj2
        obtain ⟨q', hq', ra'⟩ := hM'.at hl' hj2 hk2
        have cA := con_rAt (r := r) hq (by omega) (by omega) (by omega)
        have cA' := con_rAt (r := c) hq' (by omega) (by omega) (by omega)
        have rs := (hsm i k j hj).ra
        have rp := ((hRB i j).mul (hRB' j k)).ra
        have hb2 := Nat.mul_le_mul_right (K + K' + 1) (show j + 1 ≤ c + 1 by omega)
        rw [Nat.succ_mul] at hb2
        have cM := (con_qMul (l := q4A q) (l' := q4A q')).h (by omega)
        have cD := (con_qAdd (a := rs) (b := rp)).h (by omega)
        refine SX.goF ?_
        refine W.next (j + 1) hj2 (by omega) (by
          refine SX.St.le_to [] (by intro b h; cases h) ?_ ?_ rfl
          · repeat (first | exact trivial | refine ⟨⟨_, rfl, SX.AVto.same rfl⟩, ?_⟩)
          · exact ⟨SX.EntTo.same rfl rfl, SX.EntTo.same rfl rfl, SX.EntTo.same rfl rfl, SX.EntTo.same rfl rfl, SX.EntTo.same rfl rfl, SX.EntTo.same rfl rfl, trivial⟩)
      · obtain rfl : j = c := by omega
        refine SX.goF ?_
        refine W.next (k + 1) hk2 (by omega) (by
          have e2 : (tabR d val i ++ rowK val i k).flatMap qC ++ qC (sm j (fun j_1 => vat vs j i j_1 * vat vs' d j_1 k)) = (tabR d val i ++ rowK val i (k + 1)).flatMap qC := by
            rw [rowK_succ, ← hval, ← List.append_assoc, List.flatMap_append (xs := tabR d _ i ++ rowK _ i k)]; simp
          refine SX.St.le_to [(100, some 50)] (by intro b h; cases h) ?_ ?_ rfl
          · repeat (first | exact trivial | refine ⟨⟨_, rfl, SX.AVto.same rfl⟩, ?_⟩)
          · exact ⟨SX.EntTo.same rfl rfl, SX.EntTo.same rfl rfl, SX.EntTo.same rfl rfl, SX.EntTo.boxTo rfl rfl ⟨AtomTo.same rfl, AtomTo.same rfl, AtomTo.own rfl, trivial⟩, SX.EntTo.row rfl rfl (by omega) e2, trivial⟩)
    · obtain rfl : k = d := by omega
      refine SX.goF ?_
      refine W.next (i + 1) hi2 (by omega) (by
        have e2 : Ent.row 52 4 (i * k + k) ((tabR k val i ++ rowK val i k).flatMap qC) = Ent.row 52 4 ((i + 1) * k) ((tabR k val (i + 1)).flatMap qC) := by rw [Nat.succ_mul, tabR_succ]; rfl
        refine SX.St.le_to [] (by intro b h; cases h) ?_ ?_ rfl
        · repeat (first | exact trivial | refine ⟨⟨_, rfl, SX.AVto.same rfl⟩, ?_⟩)
        · exact ⟨SX.EntTo.same rfl rfl, SX.EntTo.same rfl rfl, SX.EntTo.same rfl rfl, SX.EntTo.same rfl rfl, SX.EntTo.eq rfl e2 rfl, trivial⟩)
  · obtain rfl : i = r := by omega
    refine SX.goF ?_
    have hm : matA i d (tabR d val i) = [.c (.val (.int .i64 (i : Int))), .c (.val (.int .i64 (d : Int))), .c (.sat (sliceR 4 (i * d) ((tabR d val i).flatMap qC)))] := by
      show [_, _, Atom.c (.sat (sliceR 4 (tabR d val i).length _))] = _
      rw [tabR_len]
    rw [hm]
    refine RetF.frz 100 ?_
    exact retA (ResOK.agg3 rfl rfl rfl) rfl
theorem con_hangs {r c i m : Nat} {l l' : List Q4} {vs vs' : List Rat} {ps : List Nat} {K K' : Nat} (hM : MV l vs K) (hl : l.length = r * c) (hM' : MV l' vs' K') (hl' : l'.length = m * c) (hi : i < r) (hr : r ≤ 100) (hc : c ≤ 100) (hm : m ≤ 100) (hps : ps.length ≤ m) (hlt : ∀ p ∈ ps, p < c) (h1 : 1 ≤ K) (h1' : 1 ≤ K') (hB : K + (m + 1) * (K + K' + 1) ≤ 400000)
    (hh : ∀ k, k < c → vat vs c i k = sm ps.length (fun j => vat vs c i (ps.getD j 0) * vat vs' c j k)) :
    PureOK Tryz.prog 17 [.agg (matQ r c l), .v (.int .i64 (i : Int)), .agg (matQ m c l'), .r (rowR 1 piC ps)] (.v (.bool true)) := by
  have hRB := vat_RB (hM.rb h1) h1 c
  have hRB' := vat_RB (hM'.rb h1') h1' c
  have hKK : K + K' ≤ 400000 := by
    have := Nat.mul_le_mul_right (K + K' + 1) (show 1 ≤ m + 1 by omega)
    omega
  refine PureOK.fnF Tryz.func17 Tryz.results17 Tryz.ntmps17 rfl rfl rfl (by simp [AV.ids, AV0.ids, Atom.ids]) rfl (fun w0 T B E0 hB => ?_)
  refine SX.goF ?_
  refine W.loop (fun k => k ≤ c) (fun k => [(1, .v (.int .i64 (i : Int))), (3, .r (rowR 1 piC ps)), (4, .ptr 4 0), (6, .ptr 6 0), (9, .v (.int .i64 (k : Int)))]) (fun k => [(4, .box 24 (matQ r c l)), (6, .box 24 (matQ m c l'))]) (fun k => c - k) 0 (Nat.zero_le _) (fun k hk => ?_)
  by_cases hk2 : k < c
  · obtain ⟨q0, hq0, ra0⟩ := hM.at hl hi hk2
    have cA0 := con_rAt (r := r) hq0 (by omega) (by omega) (by omega)
    refine SX.goF ?_
    refine W.loop2 (fun j (q : Q4) => j ≤ ps.length ∧ Ra (q4A q) (vat vs c i k - sm j (fun j => vat vs c i (ps.getD j 0) * vat vs' c j k)) (K + j * (K + K' + 1))) (fun j q => [(1, .v (.int .i64 (i : Int))), (3, .r (rowR 1 piC ps)), (4, .ptr 4 0), (6, .ptr 6 0), (9, .v (.int .i64 (k : Int))), (10, .ptr 10 0), (11, .v (.int .i64 (j : Int)))]) (fun j q => [(4, .box 24 (matQ r c l)), (6, .box 24 (matQ m c l')), (10, .box 52 (q4A q))]) (fun j q => ps.length - j) 0 q0 ⟨Nat.zero_le _, by
      rw [Nat.zero_mul, Nat.add_zero, show vat vs c i k - sm 0 (fun j => vat vs c i (ps.getD j 0) * vat vs' c j k) = vat vs c i k by show _ - (0 : Rat) = _; grind]; exact ra0⟩ (fun j q hjq => ?_)
    obtain ⟨hj, rq⟩ := hjq
    by_cases hj2 : j < ps.length
    · have hp := getE hj2
      have hplt := hlt _ (List.mem_of_getElem? hp)
      generalize hpd : ps.getD j 0 = p at *
      obtain ⟨q1, hq1, ra1⟩ := hM.at hl hi hplt
      obtain ⟨q2, hq2, ra2⟩ := hM'.at hl' (show j < m by omega) hk2
      have cA1 := con_rAt (r := r) hq1 (by omega) (by omega) (by omega)
      have cA2 := con_rAt (r := m) hq2 (by omega) (by omega) (by omega)
      have rp := ((hRB i p).mul (hRB' j k)).ra
      have hb2 := Nat.mul_le_mul_right (K + K' + 1) (show j + 1 ≤ m + 1 by omega)
      rw [Nat.succ_mul] at hb2
      have cM := (con_qMul (a := ra1) (b := ra2)).h (by omega)
      have cS := (con_qSub (a := rq) (b := rp)).h (by omega)
      refine SX.goF ?_
      refine W.next2 (j + 1) (q4v (vat vs c i k - sm j (fun j => vat vs c i (ps.getD j 0) * vat vs' c j k) - vat vs c i p * vat vs' c j k)) ⟨hj2, ?_⟩ (by omega)
      have e : vat vs c i k - sm (j + 1) (fun j => vat vs c i (ps.getD j 0) * vat vs' c j k) = vat vs c i k - sm j (fun j => vat vs c i (ps.getD j 0) * vat vs' c j k) - vat vs c i p * vat vs' c j k := by
        show _ - (sm j _ + vat vs c i (ps.getD j 0) * vat vs' c j k) = _
        rw [hpd]; grind
      rw [e]
      refine (((Ra.rb rq (by omega)).sub ((hRB i p).mul (hRB' j k))).mono ?_).ra
      rw [Nat.succ_mul]; omega
    · obtain rfl : j = ps.length := by omega
      have hb2 := Nat.mul_le_mul_right (K + K' + 1) (show ps.length ≤ m + 1 by omega)
      rw [show vat vs c i k - sm ps.length (fun j => vat vs c i (ps.getD j 0) * vat vs' c j k) = 0 by rw [← hh k hk2]; grind] at rq
      have cS := sign_0 (a := rq) (by omega)
      refine SX.goF ?_
      exact W.next (k + 1) hk2 (by omega)
  · obtain rfl : k = c := by omega
    refine SX.goF ?_
    exact retB rfl
end Go.Proofs.YtpchnbhkkbnjbaaGreatDoor
/- The reference for matrices of fractions: the reduced form's shape. -/
set_option linter.unusedVariables false
set_option linter.unusedSimpArgs false
namespace Go.Proofs.YtpchnbhkkbnjbaaGreatDoor
open Go.RowKit QM SX LA
attribute [local irreducible] IntKind.wrap Go1 Reg WP thenK inBlk retQ retF RetF RetOK ResOK CallOK OpOK Sat
attribute [local irreducible] qsub qmul qquo qcmp qadd qv redS mf
theorem con_mReduced {r c : Nat} {l : List Q4} {vs : List Rat} {ps : List Nat} {K : Nat} (hM : MV l vs K) (hl : l.length = r * c) (hr : r ≤ 100) (hc : c ≤ 100) (hK : K + 1 ≤ 400000) (hR : Rref r c (vat vs c) ps) :
    PureOK Tryz.prog 16 [.agg (matQ r c l), .r (rowR 1 piC ps)] (.v (.bool true)) := by
  have o0 := of_0
  have o1 := of_1
  have r0 := rof_0
  have r1 := rof_1
  have hlen := hR.len
  refine PureOK.fnF Tryz.func16 Tryz.results16 Tryz.ntmps16 rfl rfl rfl (by simp [AV.ids, AV0.ids, Atom.ids]) rfl (fun w0 T B E0 hB => ?_)
  refine SX.goF ?_
  refine W.loop (fun i => i ≤ r) (fun i => [(1, .r (rowR 1 piC ps)), (2, .ptr 2 0), (5, .v (.int .i64 (i : Int)))]) (fun i => [(2, .box 24 (matQ r c l))]) (fun i => r - i) 0 (Nat.zero_le _) (fun i hi => ?_)
  by_cases hi2 : i < r
  · refine SX.goF ?_
    refine W.loop (fun k => k ≤ c) (fun k => [(1, .r (rowR 1 piC ps)), (2, .ptr 2 0), (5, .v (.int .i64 (i : Int))), (6, .v (.int .i64 (k : Int)))]) (fun k => [(2, .box 24 (matQ r c l))]) (fun k => c - k) 0 (Nat.zero_le _) (fun k hk => ?_)
    by_cases hk2 : k < c
    · obtain ⟨q, hq, ra⟩ := hM.at hl hi2 hk2
      have cA := con_rAt (r := r) hq (by omega) (by omega) (by omega)
      by_cases hil : i < ps.length
      · obtain ⟨p, hp⟩ : ∃ p, ps[i]? = some p := ⟨_, List.getElem?_eq_getElem hil⟩
        by_cases hkp : k < p
        · rw [hR.low i p hp k hkp] at ra
          have cS := sign_0 (l := q4A q) (by omega)
          refine SX.goF ?_
          exact W.next (k + 1) hk2 (by omega)
        · refine SX.goF ?_
          exact W.next (k + 1) hk2 (by omega)
      · rw [hR.zero i (by omega) hi2 k hk2] at ra
        have cS := sign_0 (l := q4A q) (by omega)
        refine SX.goF ?_
        exact W.next (k + 1) hk2 (by omega)
    · obtain rfl : k = c := by omega
      refine SX.goF ?_
      exact W.next (i + 1) hi2 (by omega)
  · obtain rfl : i = r := by omega
    refine SX.goF ?_
    refine W.loop2 (fun j (z : Int) => j ≤ ps.length ∧ ∀ j' p, j ≤ j' → ps[j']? = some p → z < p) (fun j z => [(1, .r (rowR 1 piC ps)), (2, .ptr 2 0), (7, .v (.int .i64 z)), (8, .v (.int .i64 (j : Int)))]) (fun j z => [(2, .box 24 (matQ i c l))]) (fun j z => ps.length - j) 0 (-1) ⟨Nat.zero_le _, fun j' p _ _ => by omega⟩ (fun j z hjz => ?_)
    obtain ⟨hj, hz⟩ := hjz
    by_cases hj2 : j < ps.length
    · obtain ⟨p, hp⟩ : ∃ p, ps[j]? = some p := ⟨_, List.getElem?_eq_getElem hj2⟩
      have hzp := hz j p (Nat.le_refl _) hp
      have hpc := hR.lt p (List.mem_of_getElem? hp)
      have h1 : ¬ (p : Int) ≤ z := by omega
      have h2 : ¬ (p : Int) ≥ (c : Int) := by omega
      refine SX.goF ?_
      refine W.loop (fun k => k ≤ i) (fun k => [(1, .r (rowR 1 piC ps)), (2, .ptr 2 0), (7, .v (.int .i64 (p : Int))), (8, .v (.int .i64 (j : Int))), (9, .v (.int .i64 (k : Int)))]) (fun k => [(2, .box 24 (matQ i c l))]) (fun k => i - k) 0 (Nat.zero_le _) (fun k hk => ?_)
      by_cases hk2 : k < i
      · obtain ⟨q, hq, ra⟩ := hM.at hl hk2 hpc
        have cA := con_rAt (r := i) hq (by omega) (by omega) (by omega)
        rw [show vat vs c k p = idv k j from hR.one j p hp k hk2] at ra
        have cC := cmp_id k j ra hK
        by_cases hkj : k = j
        · have cC1 := cC.1 hkj
          have h3 : (k : Int) = (j : Int) := by omega
          clear cC
          refine SX.goF ?_
          exact W.next (k + 1) hk2 (by omega)
        · have cC1 := cC.2 hkj
          have h3 : ¬ (k : Int) = (j : Int) := by omega
          clear cC
          refine SX.goF ?_
          exact W.next (k + 1) hk2 (by omega)
      · obtain rfl : k = i := by omega
        refine SX.goF ?_
        refine W.next2 (j + 1) (p : Int) ⟨hj2, fun j' p' hj' hp' => ?_⟩ (by omega)
        have hl' := at_lt hp'
        have := List.pairwise_iff_getElem.1 hR.inc j j' hj2 hl' (by omega)
        rw [List.getElem?_eq_getElem hj2] at hp
        rw [List.getElem?_eq_getElem hl'] at hp'
        rw [Option.some.inj hp, Option.some.inj hp'] at this
        omega
    · obtain rfl : j = ps.length := by omega
      refine SX.goF ?_
      exact retB rfl
end Go.Proofs.YtpchnbhkkbnjbaaGreatDoor
/- Matrices of whole numbers; such over one number. -/
set_option linter.unusedVariables false
set_option linter.unusedSimpArgs false
namespace Go.Proofs.YtpchnbhkkbnjbaaGreatDoor
open Go.RowKit QM SX LA
attribute [local irreducible] IntKind.wrap Go1 Reg WP thenK inBlk retQ retF RetF RetOK ResOK CallOK OpOK Sat
attribute [local irreducible] qsub qmul qquo qcmp qadd qv redS mf
abbrev Z2 := Bool × Rep
abbrev z2A (q : Z2) : List Atom := [.c (.val (.bool q.1)), .c (.sat q.2)]
abbrev z2C (q : Z2) : List CA := [.val (.bool q.1), .sat q.2]
instance : EncLen z2C 2 := ⟨fun _ => rfl⟩
instance : EncOne z2C := ⟨fun _ => rfl⟩
abbrev zC (z : Int) : List CA := [.val (.bool (decide (z < 0))), .sat (nrmN z.natAbs)]
instance : EncLen zC 2 := ⟨fun _ => rfl⟩
instance : EncOne zC := ⟨fun _ => rfl⟩
abbrev z2v (z : Int) : Z2 := (decide (z < 0), nrmN z.natAbs)
/-- A whole number's cells and its value, so many words. -/
structure ZQ (q : Z2) (z : Int) (K : Nat) : Prop where
  h : ∃ n k, z = sgn q.1 n ∧ NI (.sat q.2) n k ∧ k ≤ K
  b : z.natAbs < WB ^ K
theorem NI.le {a : CA} {n k K : Nat} (x : NI a n k) (hK : k ≤ K) : NI a n K := ⟨fun S w v h => by
  obtain ⟨l, h1, h2, h3⟩ := natR_iff.1 (x.p S w v h)
  exact natR_iff.2 ⟨l, h1, Nat.le_trans h2 hK, h3⟩⟩
theorem ZQ.zi {q : Z2} {z : Int} {K : Nat} (h : ZQ q z K) : ZI (z2A q) z K := by
  obtain ⟨n, k, h1, h2, h3⟩ := h.h
  exact h1 ▸ ZI.mk' (neg := q.1) (h2.le h3)
theorem z_sgn (z : Int) : sgn (decide (z < 0)) z.natAbs = z := by
  unfold sgn
  by_cases h : z < 0
  · rw [decide_eq_true h]; simp; omega
  · rw [decide_eq_false h]; simp; omega
theorem ZQ.made {z : Int} {K : Nat} (h : z.natAbs < WB ^ K) : ZQ (z2v z) z K :=
  ⟨⟨z.natAbs, K, (z_sgn z).symm, NI.nrm' h, Nat.le_refl _⟩, h⟩
theorem ZQ.raw {b : Bool} {l : List Nat} {K : Nat} (hs : Sm WB l) (hl : l.length ≤ K) : ZQ (b, rawN l) (sgn b (nval WB l)) K :=
  ⟨⟨_, _, rfl, NI.raw l, hl⟩, by
    have h1 : (sgn b (nval WB l)).natAbs = nval WB l := by unfold sgn; split <;> omega
    rw [h1]; exact Nat.lt_of_lt_of_le (nn_lt hs (Nat.le_refl _)) (Nat.pow_le_pow_right WB_pos hl)⟩
theorem ZQ.mono {q : Z2} {z : Int} {K L : Nat} (h : ZQ q z K) (hK : K ≤ L) : ZQ q z L := by
  obtain ⟨n, k, h1, h2, h3⟩ := h.h
  exact ⟨⟨n, k, h1, h2, by omega⟩, Nat.lt_of_lt_of_le h.b (Nat.pow_le_pow_right WB_pos hK)⟩
/-- A quotient's cells. -/
theorem ZQ.ra {q d : Z2} {z y : Int} {K L : Nat} (h : ZQ q z K) (k : ZQ d y L) : Ra (q4A (q.1, q.2, d.1, d.2)) (qv z y) (max K L) := by
  exact ⟨_, _, _, _, z, y, K, L, rfl, h.zi, k.zi, by omega, by omega, ⟨h.b⟩, ⟨k.b⟩, rfl⟩
structure MZ (l : List Z2) (zs : List Int) (K : Nat) : Prop where
  len : l.length = zs.length
  z : ∀ (i : Nat) q z, l[i]? = some q → zs[i]? = some z → ZQ q z K
abbrev matW (r c : Int) (l : List Z2) : List Atom := [.c (.val (.int .i64 r)), .c (.val (.int .i64 c)), .c (.sat (rowR 2 z2C l))]
abbrev matY (r c : Nat) (l : List Z2) : List Atom := [.c (.val (.int .i64 (r : Int))), .c (.val (.int .i64 (c : Int))), .c (.sat (rowR 2 z2C l))]
abbrev matN (r c : Nat) (l : List Int) : List Atom := [.c (.val (.int .i64 (r : Int))), .c (.val (.int .i64 (c : Int))), .c (.sat (rowR 2 zC l))]
def zat (zs : List Int) (c i k : Nat) : Int := zs.getD (i * c + k) 0
theorem zat_at {zs : List Int} {r c i k : Nat} (hl : zs.length = r * c) (hi : i < r) (hk : k < c) : zs[i * c + k]? = some (zat zs c i k) := by
  have h := idx_lt hi hk
  unfold zat
  rw [List.getD_eq_getElem?_getD, List.getElem?_eq_getElem (by omega)]; rfl
theorem MZ.at {r c i k K : Nat} {l : List Z2} {zs : List Int} (hM : MZ l zs K) (hl : l.length = r * c) (hi : i < r) (hk : k < c) : ∃ q, l[i * c + k]? = some q ∧ ZQ q (zat zs c i k) K := by
  have h := idx_lt hi hk
  obtain ⟨q, hq⟩ : ∃ q, l[i * c + k]? = some q := ⟨_, List.getElem?_eq_getElem (by omega)⟩
  exact ⟨q, hq, hM.z _ _ _ hq (zat_at (by rw [← hM.len]; exact hl) hi hk)⟩
theorem matN_matY (r c : Nat) (l : List Int) : matN r c l = matY r c (l.map z2v) := by
  have e : rowR 2 zC l = rowR 2 z2C (l.map z2v) := by
    show sliceR 2 l.length (l.flatMap zC) = sliceR 2 (l.map z2v).length ((l.map z2v).flatMap z2C)
    rw [List.length_map, List.flatMap_map]
  unfold matN matY
  rw [e]
theorem MZ.made {zs : List Int} {K : Nat} (h : ∀ z ∈ zs, z.natAbs < WB ^ K) : MZ (zs.map z2v) zs K := by
  refine ⟨List.length_map _, fun i q z hq hz => ?_⟩
  rw [List.getElem?_map, hz] at hq
  cases hq
  exact ZQ.made (h z (List.mem_of_getElem? hz))
instance con_zside (n : Int) : Con Tryz.prog 102 [.v (.int .i64 n)] True (.v (.bool (decide (0 ≤ n ∧ n ≤ 64)))) := ⟨fun _ => by
  refine PureOK.fnF Tryz.func102 Tryz.results102 Tryz.ntmps102 rfl rfl rfl (by simp [AV.ids, AV0.ids, Atom.ids]) rfl (fun w0 T B E0 hB => ?_)
  by_cases h1 : n ≥ 0
  · by_cases h2 : n ≤ 64
    · refine SX.goF ?_
      refine retB ?_; rw [decide_eq_true (show 0 ≤ n ∧ n ≤ 64 from ⟨h1, h2⟩)]; exact decide_eq_true h2
    · refine SX.goF ?_
      refine retB ?_; rw [decide_eq_false (show ¬ (0 ≤ n ∧ n ≤ 64) from fun h => h2 h.2)]; exact decide_eq_false h2
  · refine SX.goF ?_
    refine retB ?_; rw [decide_eq_false (show ¬ (0 ≤ n ∧ n ≤ 64) from fun h => h1 h.1)]⟩
theorem con_zFormed (r c : Int) {n : Nat} {cells : List CA} (goal : Bool) (hg : goal = true ↔ FormedP r c n) : PureOK Tryz.prog 70 [.agg [.c (.val (.int .i64 r)), .c (.val (.int .i64 c)), .c (.sat (sliceR 2 n cells))]] (.v (.bool goal)) := by
  have s1 := (con_zside r).h trivial
  have s2 := (con_zside c).h trivial
  refine PureOK.fnF Tryz.func70 Tryz.results70 Tryz.ntmps70 rfl rfl rfl (by simp [AV.ids, AV0.ids, Atom.ids]) rfl (fun w0 T B E0 hB => ?_)
  by_cases h1 : 0 ≤ r ∧ r ≤ 64
  · rw [decide_eq_true h1] at s1
    by_cases h2 : 0 ≤ c ∧ c ≤ 64
    · rw [decide_eq_true h2] at s2
      have hp : 0 ≤ r * c := Int.mul_nonneg h1.1 h2.1
      have hp2 : r * c ≤ 64 * 64 := Int.mul_le_mul h1.2 h2.2 h2.1 (by decide)
      refine SX.goF ?_
      refine retB ?_
      rw [Bool.eq_iff_iff, hg, decide_eq_true_iff]
      exact ⟨fun h => ⟨h1.1, h1.2, h2.1, h2.2, h⟩, fun h => h.2.2.2.2⟩
    · rw [decide_eq_false h2] at s2
      refine SX.goF ?_
      refine retB ?_; exact (Bool.eq_false_iff.2 fun ht => h2 ⟨(hg.1 ht).2.2.1, (hg.1 ht).2.2.2.1⟩).symm
  · rw [decide_eq_false h1] at s1
    refine SX.goF ?_
    refine retB ?_; exact (Bool.eq_false_iff.2 fun ht => h1 ⟨(hg.1 ht).1, (hg.1 ht).2.1⟩).symm
theorem con_zF {r c : Int} {n : Nat} {cells : List CA} (h : FormedP r c n) : PureOK Tryz.prog 70 [.agg [.c (.val (.int .i64 r)), .c (.val (.int .i64 c)), .c (.sat (sliceR 2 n cells))]] (.v (.bool true)) := con_zFormed r c true ⟨fun _ => h, fun _ => rfl⟩
theorem con_zF0 {r c : Int} {n : Nat} {cells : List CA} (h : ¬ FormedP r c n) : PureOK Tryz.prog 70 [.agg [.c (.val (.int .i64 r)), .c (.val (.int .i64 c)), .c (.sat (sliceR 2 n cells))]] (.v (.bool false)) := con_zFormed r c false ⟨fun h => (by cases h), fun h2 => absurd h2 h⟩
theorem FormedP.nat {r c n : Nat} (hr : r ≤ 64) (hc : c ≤ 64) (h : n = r * c) : FormedP r c n := ⟨by omega, by omega, by omega, by omega, by rw [h]; simp⟩
theorem con_zget {r c i k : Nat} {l : List Z2} {q : Z2} (hq : l[i * c + k]? = some q) (hi : i ≤ 1000) (hc : c ≤ 1000) (hk : k ≤ 1000) :
    PureOK Tryz.prog 92 [.agg (matY r c l), .v (.int .i64 (i : Int)), .v (.int .i64 (k : Int))] (.agg (z2A q)) := by
  have hb := Nat.mul_le_mul hi hc
  have hlt := at_lt hq
  refine PureOK.fnF Tryz.func92 Tryz.results92 Tryz.ntmps92 rfl rfl rfl (by simp [AV.ids, AV0.ids, Atom.ids]) rfl (fun w0 T B E0 hB => ?_)
  refine SX.goF ?_
  exact retA (ResOK.agg2 rfl rfl rfl) rfl
theorem con_zhas {r c i : Nat} {l : List Z2} (h : i < r) : PureOK Tryz.prog 109 [.agg (matY r c l), .v (.int .i64 (i : Int))] (.v (.bool true)) := by
  refine PureOK.fnF Tryz.func109 Tryz.results109 Tryz.ntmps109 rfl rfl rfl (by simp [AV.ids, AV0.ids, Atom.ids]) rfl (fun w0 T B E0 hB => ?_)
  refine SX.goF ?_
  refine retB ?_; exact decide_eq_true (by omega)
theorem from_z {q : Z2} {z : Int} {K : Nat} (h : ZQ q z K) (hK : K ≤ 1000000) : PureOK Tryz.prog 74 [.it (.one (.c (.sat q.2))), .v (.bool q.1)] (.agg (zN z)) := by
  obtain ⟨n, k, h1, h2, h3⟩ := h.h
  rw [h1]
  exact con_zFrom (h := h2) q.1 |>.h (by omega)
theorem con_zAt {r c i k : Nat} {l : List Z2} {zs : List Int} {K : Nat} (hM : MZ l zs K) (hl : l.length = r * c) (hr : r ≤ 64) (hc : c ≤ 64) (hi : i < r) (hk : k < c) (hK : K ≤ 1000000) :
    PureOK Tryz.prog 72 [.agg (matY r c l), .v (.int .i64 (i : Int)), .v (.int .i64 (k : Int))] (.agg (zN (zat zs c i k))) := by
  obtain ⟨q, hq, hz⟩ := hM.at hl hi hk
  have cg := con_zget (r := r) hq (by omega) (by omega) (by omega)
  have ch := con_zhas (c := c) (l := l) hi
  have cF := con_zF (cells := l.flatMap z2C) (FormedP.nat hr hc hl)
  have cR := from_z hz hK
  refine PureOK.fnF Tryz.func72 Tryz.results72 Tryz.ntmps72 rfl rfl rfl (by simp [AV.ids, AV0.ids, Atom.ids]) rfl (fun w0 T B E0 hB => ?_)
  refine SX.goF ?_
  exact retA (ResOK.agg2 rfl rfl rfl) rfl
end Go.Proofs.YtpchnbhkkbnjbaaGreatDoor
/- A matrix of whole numbers that is made, place by place; over one number. -/
set_option linter.unusedVariables false
set_option linter.unusedSimpArgs false
namespace Go.Proofs.YtpchnbhkkbnjbaaGreatDoor
open Go.RowKit QM SX LA
attribute [local irreducible] IntKind.wrap Go1 Reg WP thenK inBlk retQ retF RetF RetOK ResOK CallOK OpOK Sat
attribute [local irreducible] qsub qmul qquo qcmp qadd qv redS mf
def tabZ (c : Nat) (val : Nat → Nat → Int) (i : Nat) : List Int := (List.range i).flatMap fun i => (List.range c).map (val i)
theorem tabZ_zero {c : Nat} {val : Nat → Nat → Int} : tabZ c val 0 = [] := rfl
theorem tabZ_succ {c i : Nat} {val : Nat → Nat → Int} : tabZ c val (i + 1) = tabZ c val i ++ (List.range c).map (val i) := by
  unfold tabZ; rw [List.range_succ, List.flatMap_append]; simp
theorem tabZ_len {c : Nat} {val : Nat → Nat → Int} : ∀ i, (tabZ c val i).length = i * c
  | 0 => by simp [tabZ_zero]
  | i + 1 => by rw [tabZ_succ, List.length_append, tabZ_len i]; simp [Nat.succ_mul]
theorem tabZ_at {c : Nat} {val : Nat → Nat → Int} {k : Nat} (hk : k < c) : ∀ {r i : Nat}, i < r → (tabZ c val r)[i * c + k]? = some (val i k)
  | 0, i, h => absurd h (Nat.not_lt_zero _)
  | r + 1, i, h => by
    rw [tabZ_succ]
    by_cases hi : i < r
    · rw [List.getElem?_append_left (by rw [tabZ_len]; exact idx_lt hi hk)]
      exact tabZ_at hk hi
    · obtain rfl : i = r := by omega
      rw [List.getElem?_append_right (by rw [tabZ_len]; omega), tabZ_len, Nat.add_sub_cancel_left, List.getElem?_map, List.getElem?_range hk]; rfl
theorem zat_tab {r c i k : Nat} {val : Nat → Nat → Int} (hi : i < r) (hk : k < c) : zat (tabZ c val r) c i k = val i k := by
  unfold zat
  rw [List.getD_eq_getElem?_getD, tabZ_at hk hi]; rfl
theorem tabZ_bd {c r K : Nat} {val : Nat → Nat → Int} (h : ∀ i k, i < r → k < c → (val i k).natAbs < WB ^ K) : ∀ v ∈ tabZ c val r, v.natAbs < WB ^ K := by
  intro v hv
  unfold tabZ at hv
  obtain ⟨i, hi, hv⟩ := List.mem_flatMap.1 hv
  obtain ⟨k, hk, rfl⟩ := List.mem_map.1 hv
  exact h i k (List.mem_range.1 hi) (List.mem_range.1 hk)
def rowZ (val : Nat → Nat → Int) (i k : Nat) : List Int := (List.range k).map (val i)
theorem rowZ_succ {val : Nat → Nat → Int} {i k : Nat} : rowZ val i (k + 1) = rowZ val i k ++ [val i k] := by
  unfold rowZ; rw [List.range_succ, List.map_append]; rfl
theorem con_zmade (r c : Nat) (x : CA) (L : Nat → Nat → Z2) (val : Nat → Nat → Int) (K : Nat) (hr : r ≤ 100) (hc : c ≤ 100) (hK : K ≤ 1000000)
    (hx : ∀ i k, i < r → k < c → FnV Tryz.prog x [.v (.int .i64 (i : Int)), .v (.int .i64 (k : Int))] (.agg (z2A (L i k)))) (hL : ∀ i k, i < r → k < c → ZQ (L i k) (val i k) K) (hx1 : x.oneB = true) :
    PureOK Tryz.prog 89 [.v (.int .i64 (r : Int)), .v (.int .i64 (c : Int)), .it (.one (.c x))] (.agg (matN r c (tabZ c val r))) := by
  refine PureOK.fnF Tryz.func89 Tryz.results89 Tryz.ntmps89 rfl rfl rfl (by simp [AV.ids, AV0.ids, Atom.ids]) rfl (fun w0 T B E0 hB => ?_)
  refine SX.goF ?_
  refine W.loop (fun i => i ≤ r) (fun i => [(1, .v (.int .i64 (c : Int))), (2, .it (.one (.c x))), (6, .ptr 6 0), (7, .ptr 7 0), (14, .v (.int .i64 (r : Int))), (15, .v (.int .i64 (i : Int)))]) (fun i => [(6, .box 41 [.c (.val (.int .i64 0)), .c (.val (.int .i64 0)), .c (.val (.slice none 0 0))]), (7, .box 41 [.c (.val (.int .i64 (r : Int))), .c (.val (.int .i64 (c : Int))), .own 100]), (100, .row 45 2 (i * c) ((tabZ c val i).flatMap zC))]) (fun i => r - i) 0 (Nat.zero_le _) (fun i hi => ?_)
    (by
      refine SX.St.le_to [(100, none)] (by intro b h; cases h) ?_ ?_ rfl
      · repeat (first | exact trivial | refine ⟨⟨_, rfl, SX.AVto.same rfl⟩, ?_⟩)
      · exact ⟨SX.EntTo.same rfl rfl, SX.EntTo.boxTo rfl rfl ⟨AtomTo.same rfl, AtomTo.same rfl, AtomTo.nil rfl, trivial⟩, by rw [Nat.zero_mul]; exact SX.EntTo.nilRow rfl, trivial⟩)
  by_cases h : i < r
  · refine SX.goF ?_
    refine W.loop (fun k => k ≤ c) (fun k => [(1, .v (.int .i64 (c : Int))), (2, .it (.one (.c x))), (6, .ptr 6 0), (7, .ptr 7 0), (8, .v (.int .i64 (i : Int))), (14, .v (.int .i64 (r : Int))), (15, .v (.int .i64 (i : Int))), (18, .v (.int .i64 (c : Int))), (19, .v (.int .i64 (k : Int)))]) (fun k => [(6, .box 41 [.c (.val (.int .i64 0)), .c (.val (.int .i64 0)), .c (.val (.slice none 0 0))]), (7, .box 41 [.c (.val (.int .i64 (r : Int))), .c (.val (.int .i64 (c : Int))), .own 100]), (100, .row 45 2 (i * c + k) ((tabZ c val i ++ rowZ val i k).flatMap zC))]) (fun k => c - k) 0 (Nat.zero_le _) (fun k hk => ?_)
      (by
        have e : Ent.row 45 2 (i * c) ((tabZ c val i).flatMap zC) = Ent.row 45 2 (i * c + 0) ((tabZ c val i ++ rowZ val i 0).flatMap zC) := by simp [rowZ]
        refine SX.St.le_to [] (by intro b h; cases h) ?_ ?_ rfl
        · repeat (first | exact trivial | refine ⟨⟨_, rfl, SX.AVto.same rfl⟩, ?_⟩)
        · exact ⟨SX.EntTo.same rfl rfl, SX.EntTo.same rfl rfl, SX.EntTo.eq rfl e rfl, trivial⟩)
    by_cases h2 : k < c
    · have hf := hx i k h h2
      have cR := from_z (hL i k h h2) hK
      have hlen : i * c + k ≤ 20000 := by
        have := Nat.mul_le_mul (show i ≤ 100 by omega) hc
        omega
      refine SX.goF ?_
      refine W.next (k + 1) h2 (by omega) (by
        have e2 : (tabZ c val i ++ rowZ val i k).flatMap zC ++ zC (val i k) = (tabZ c val i ++ rowZ val i (k + 1)).flatMap zC := by
          rw [rowZ_succ, ← List.append_assoc, List.flatMap_append (xs := tabZ c val i ++ rowZ val i k)]; simp
        refine SX.St.le_to [(100, some 34)] (by intro b h; cases h) ?_ ?_ rfl
        · repeat (first | exact trivial | refine ⟨⟨_, rfl, SX.AVto.same rfl⟩, ?_⟩)
        · exact ⟨SX.EntTo.same rfl rfl, SX.EntTo.boxTo rfl rfl ⟨AtomTo.same rfl, AtomTo.same rfl, AtomTo.own rfl, trivial⟩, SX.EntTo.row rfl rfl (by omega) e2, trivial⟩)
    · obtain rfl : k = c := by omega
      refine SX.goF ?_
      refine W.next (i + 1) h (by omega) (by
        have e2 : Ent.row 45 2 (i * k + k) ((tabZ k val i ++ rowZ val i k).flatMap zC) = Ent.row 45 2 ((i + 1) * k) ((tabZ k val (i + 1)).flatMap zC) := by rw [Nat.succ_mul, tabZ_succ]; rfl
        refine SX.St.le_to [] (by intro b h; cases h) ?_ ?_ rfl
        · repeat (first | exact trivial | refine ⟨⟨_, rfl, SX.AVto.same rfl⟩, ?_⟩)
        · exact ⟨SX.EntTo.same rfl rfl, SX.EntTo.same rfl rfl, SX.EntTo.eq rfl e2 rfl, trivial⟩)
  · obtain rfl : i = r := by omega
    refine SX.goF ?_
    have hm : matN i c (tabZ c val i) = [.c (.val (.int .i64 (i : Int))), .c (.val (.int .i64 (c : Int))), .c (.sat (sliceR 2 (i * c) ((tabZ c val i).flatMap zC)))] := by
      show [_, _, Atom.c (.sat (sliceR 2 (tabZ c val i).length _))] = _
      rw [tabZ_len]
    rw [hm]
    refine RetF.frz 100 ?_
    exact retA (ResOK.agg3 rfl rfl rfl) rfl
def i64C (z : Int) : List CA := [.val (.int .i64 z)]
instance : EncLen i64C 1 := ⟨fun _ => rfl⟩
instance : EncOne i64C := ⟨fun _ => rfl⟩
theorem con_zmOf1 {l : List Int} {c i k : Nat} {z : Int} (hz : l[i * c + k]? = some z) (hi : i ≤ 100) (hc : c ≤ 100) (hk : k ≤ 100) (hz1 : -9223372036854775808 ≤ z) (hz2 : z ≤ 9223372036854775807) :
    PureOK Tryz.prog 103 [.v (.int .i64 (i : Int)), .v (.int .i64 (k : Int)), .r (ptrR [.sat (rowR 1 i64C l)]), .r (ptrR [.val (.int .i64 (c : Int))])] (.agg (zN z)) := by
  have hb := Nat.mul_le_mul hi hc
  have hlt := at_lt hz
  have cO := (con_zOf (x := z)).h ⟨hz1, hz2⟩
  refine PureOK.fnF Tryz.func103 Tryz.results103 Tryz.ntmps103 rfl rfl rfl (by simp [AV.ids, AV0.ids, Atom.ids]) rfl (fun w0 T B E0 hB => ?_)
  refine SX.goF ?_
  exact retA (ResOK.agg2 rfl rfl rfl) rfl
theorem i64_bd {z : Int} (h1 : -9223372036854775808 ≤ z) (h2 : z ≤ 9223372036854775807) : z.natAbs < WB ^ 1 := by
  rw [Nat.pow_one, WB_eq]; omega
theorem con_zmOf {r c : Nat} {l : List Int} (hl : l.length = r * c) (hr : r ≤ 64) (hc : c ≤ 64) (hz : ∀ z ∈ l, -9223372036854775808 ≤ z ∧ z ≤ 9223372036854775807) :
    PureOK Tryz.prog 51 [.v (.int .i64 (r : Int)), .v (.int .i64 (c : Int)), .r (rowR 1 i64C l)] (.tup [.agg (matN r c (tabZ c (zat l c) r)), eNo 0]) := by
  have s1 := (con_zside (r : Int)).h trivial
  have s2 := (con_zside (c : Int)).h trivial
  rw [decide_eq_true (show 0 ≤ (r : Int) ∧ (r : Int) ≤ 64 by omega)] at s1
  rw [decide_eq_true (show 0 ≤ (c : Int) ∧ (c : Int) ≤ 64 by omega)] at s2
  have hb := Nat.mul_le_mul hr hc
  have hbd : ∀ i k, i < r → k < c → l[i * c + k]? = some (zat l c i k) := fun i k hi hk => zat_at hl hi hk
  have cM := con_zmade r c (.sat (cloR 103 [] [.sat (ptrR [.sat (rowR 1 i64C l)]), .sat (ptrR [.val (.int .i64 (c : Int))])])) (fun i k => z2v (zat l c i k)) (zat l c) 1 (by omega) (by omega) (by omega)
    (fun i k hi hk => FnV.clo (by
      have h := hz _ (List.mem_of_getElem? (hbd i k hi hk))
      exact con_zmOf1 (hbd i k hi hk) (by omega) (by omega) (by omega) h.1 h.2))
    (fun i k hi hk => by
      have h := hz _ (List.mem_of_getElem? (hbd i k hi hk))
      exact ZQ.made (i64_bd h.1 h.2)) rfl
  have hmul : (r : Int) * (c : Int) = ((r * c : Nat) : Int) := by simp
  refine PureOK.fnF Tryz.func51 Tryz.results51 Tryz.ntmps51 rfl rfl rfl (by simp [AV.ids, AV0.ids, Atom.ids]) rfl (fun w0 T B E0 hB => ?_)
  refine SX.goF ?_
  refine SX.WP.freezeB 5 hB rfl rfl ?_
  refine SX.WP.freezeB 4 hB rfl rfl ?_
  refine SX.WP.regionL ?_
  refine SX.goF ?_
  exact .ok (RetOK.mk2 (ResOK.agg3 rfl rfl rfl) (ResOK.tmp rfl))
end Go.Proofs.YtpchnbhkkbnjbaaGreatDoor
/- A matrix of whole numbers over one number; awake. -/
set_option linter.unusedVariables false
set_option linter.unusedSimpArgs false
namespace Go.Proofs.YtpchnbhkkbnjbaaGreatDoor
open Go.RowKit QM SX LA
section
attribute [local irreducible] IntKind.wrap Go1 Reg WP thenK inBlk retQ retF RetF RetOK ResOK CallOK OpOK Sat
attribute [local irreducible] qsub qmul qquo qcmp qadd qv redS mf
theorem con_over1 {r c i k : Nat} {l : List Z2} {zs : List Int} {K : Nat} {d : Z2} (hM : MZ l zs K) (hl : l.length = r * c) (hr : r ≤ 64) (hc : c ≤ 64) (hi : i < r) (hk : k < c) (hK : K ≤ 1000000) :
    PureOK Tryz.prog 71 [.v (.int .i64 (i : Int)), .v (.int .i64 (k : Int)), .r (ptrR [.val (.int .i64 (r : Int)), .val (.int .i64 (c : Int)), .sat (rowR 2 z2C l)]), .r (ptrR [.val (.bool d.1), .sat d.2])] (.agg (q4A ((z2v (zat zs c i k)).1, (z2v (zat zs c i k)).2, d.1, d.2))) := by
  have cA := con_zAt hM hl hr hc hi hk hK
  refine PureOK.fnF Tryz.func71 Tryz.results71 Tryz.ntmps71 rfl rfl rfl (by simp [AV.ids, AV0.ids, Atom.ids]) rfl (fun w0 T B E0 hB => ?_)
  refine SX.goF ?_
  exact retA (ResOK.agg4 rfl rfl rfl) rfl
theorem con_Over {r c : Nat} {l : List Z2} {zs : List Int} {K L : Nat} {d : Z2} {y : Int} (hM : MZ l zs K) (hl : l.length = r * c) (hr : r ≤ 64) (hc : c ≤ 64) (hd : ZQ d y L) (hy : y ≠ 0) (hK : K ≤ 10000) (hL : L ≤ 10000) (hKL : K ≤ L) :
    PureOK Tryz.prog 25 [.agg (matY r c l), .agg (z2A d)] (.tup [.agg (matA r c (tabR c (fun i k => qv (zat zs c i k) y) r)), eNo 0]) := by
  have cF := con_zF (cells := l.flatMap z2C) (FormedP.nat hr hc hl)
  haveI := hd.zi
  have cS := (con_zSign (l := z2A d) (x := y)).h (by omega)
  have hs : ¬ isign y = 0 := fun e => hy ((isign0 y).1 e)
  have cM := con_made r c (.sat (cloR 71 [] [.sat (ptrR [.val (.int .i64 (r : Int)), .val (.int .i64 (c : Int)), .sat (rowR 2 z2C l)]), .sat (ptrR [.val (.bool d.1), .sat d.2])])) (fun i k => ((z2v (zat zs c i k)).1, (z2v (zat zs c i k)).2, d.1, d.2)) (fun i k => qv (zat zs c i k) y) (max K L) (by omega) (by omega) (by omega)
    (fun i k hi hk => FnV.clo (con_over1 hM hl hr hc hi hk (by omega)))
    (fun i k hi hk => by
      obtain ⟨q, _, hz⟩ := hM.at hl hi hk
      exact (ZQ.made hz.b).ra hd) rfl
  refine PureOK.fnF Tryz.func25 Tryz.results25 Tryz.ntmps25 rfl rfl rfl (by simp [AV.ids, AV0.ids, Atom.ids]) rfl (fun w0 T B E0 hB => ?_)
  refine SX.goF ?_
  refine SX.WP.freezeB 2 hB rfl rfl ?_
  refine SX.WP.freezeB 3 hB rfl rfl ?_
  refine SX.WP.regionL ?_
  refine SX.goF ?_
  exact .ok (RetOK.mk2 (ResOK.agg3 rfl rfl rfl) (ResOK.tmp rfl))
theorem con_OverD {r c : Int} {l : List Z2} {L : Nat} {d : Z2} (h : FormedP r c l.length) (hd : ZQ d 0 L) (hL : L ≤ 10000) : PureOK Tryz.prog 25 [.agg (matW r c l), .agg (z2A d)] (.tup [.agg mat0, eNo 3]) := by
  have cF := con_zF (cells := l.flatMap z2C) h
  haveI := hd.zi
  have cS := (con_zSign (l := z2A d) (x := 0)).h (by omega)
  rw [show isign 0 = 0 from rfl] at cS
  refine PureOK.fnF Tryz.func25 Tryz.results25 Tryz.ntmps25 rfl rfl rfl (by simp [AV.ids, AV0.ids, Atom.ids]) rfl (fun w0 T B E0 hB => ?_)
  refine SX.goF ?_
  exact .ok (RetOK.mk2 (ResOK.agg3 rfl rfl rfl) (ResOK.tmp rfl))
theorem con_OverS {r c : Int} {l : List Z2} {d : Z2} (h : ¬ FormedP r c l.length) : PureOK Tryz.prog 25 [.agg (matW r c l), .agg (z2A d)] (.tup [.agg mat0, eNo 2]) := by
  have cF := con_zF0 (cells := l.flatMap z2C) h
  refine PureOK.fnF Tryz.func25 Tryz.results25 Tryz.ntmps25 rfl rfl rfl (by simp [AV.ids, AV0.ids, Atom.ids]) rfl (fun w0 T B E0 hB => ?_)
  refine SX.goF ?_
  exact .ok (RetOK.mk2 (ResOK.agg3 rfl rfl rfl) (ResOK.tmp rfl))
theorem zq1 : ZQ (z2v 1) 1 1 := ZQ.made (by rw [Nat.pow_one, WB_eq]; decide)
theorem con_From {r c : Nat} {l : List Z2} {zs : List Int} {K : Nat} (hM : MZ l zs K) (hl : l.length = r * c) (hr : r ≤ 64) (hc : c ≤ 64) (hK : K ≤ 10000) (hK1 : 1 ≤ K) :
    PureOK Tryz.prog 43 [.agg (matY r c l)] (.tup [.agg (matA r c (tabR c (fun i k => qv (zat zs c i k) 1) r)), eNo 0]) := by
  have o1 := of_1
  have cO := con_Over hM hl hr hc (zq1.mono hK1) (by decide) hK hK (Nat.le_refl _)
  refine PureOK.fnF Tryz.func43 Tryz.results43 Tryz.ntmps43 rfl rfl rfl (by simp [AV.ids, AV0.ids, Atom.ids]) rfl (fun w0 T B E0 hB => ?_)
  refine SX.goF ?_
  exact .ok (RetOK.mk2 (ResOK.agg3 rfl rfl rfl) (ResOK.tmp rfl))
theorem con_FromS {r c : Int} {l : List Z2} (h : ¬ FormedP r c l.length) : PureOK Tryz.prog 43 [.agg (matW r c l)] (.tup [.agg mat0, eNo 2]) := by
  have o1 := of_1
  have cO := con_OverS (d := z2v 1) h
  refine PureOK.fnF Tryz.func43 Tryz.results43 Tryz.ntmps43 rfl rfl rfl (by simp [AV.ids, AV0.ids, Atom.ids]) rfl (fun w0 T B E0 hB => ?_)
  refine SX.goF ?_
  exact .ok (RetOK.mk2 (ResOK.agg3 rfl rfl rfl) (ResOK.tmp rfl))
end
end Go.Proofs.YtpchnbhkkbnjbaaGreatDoor
/- Awake. -/
set_option linter.unusedVariables false
set_option linter.unusedSimpArgs false
namespace Go.Proofs.YtpchnbhkkbnjbaaGreatDoor
open Go.RowKit QM SX LA
/-- The fixed matrix, its inverse. -/
def awV : List Rat := tabR 2 (fun i k => qv (zat (tabZ 2 (zat [1, 2, 3, 4] 2) 2) 2 i k) 1) 2
theorem aw_len : ¬ (rdP 2 2 2 (vat awV 2) idv).length < 2 := by decide +kernel
theorem aw_at : (rdM 2 2 2 (vat awV 2) idv 1 (2 + 0)).num = 3 ∧ (rdM 2 2 2 (vat awV 2) idv 1 (2 + 0)).den = 2 := by decide +kernel
theorem aw_RB : ∀ v ∈ awV, RB v 1 := by
  intro v hv
  have h : v = 1 ∨ v = 2 ∨ v = 3 ∨ v = 4 := by
    have e : awV = [1, 2, 3, 4] := by decide +kernel
    rw [e] at hv; simpa using hv
  have hw := WB_eq
  rcases h with rfl | rfl | rfl | rfl
  all_goals
    constructor
    · rw [Nat.pow_one, hw]; decide +kernel
    · rw [Nat.pow_one, hw]; decide +kernel
section
attribute [local irreducible] IntKind.wrap Go1 Reg WP thenK inBlk retQ retF RetF RetOK ResOK CallOK OpOK Sat
attribute [local irreducible] qsub qmul qquo qcmp qadd qv redS mf awV
theorem con_awake13 : PureOK Tryz.prog 10 [] (.v (.bool true)) := by
  have cO := con_zmOf (r := 2) (c := 2) (l := [1, 2, 3, 4]) rfl (by decide) (by decide) (by decide)
  rw [matN_matY] at cO
  have hl1 : ((tabZ 2 (zat [1, 2, 3, 4] 2) 2).map z2v).length = 2 * 2 := by rw [List.length_map]; exact tabZ_len 2
  have cF := con_From (r := 2) (c := 2) (l := (tabZ 2 (zat [1, 2, 3, 4] 2) 2).map z2v) (zs := tabZ 2 (zat [1, 2, 3, 4] 2) 2) (K := 1) (MZ.made (by
    have h : ∀ z ∈ tabZ 2 (zat [1, 2, 3, 4] 2) 2, z = 1 ∨ z = 2 ∨ z = 3 ∨ z = 4 := by decide +kernel
    intro z hz
    rw [Nat.pow_one, WB_eq]
    have := h z hz
    omega)) hl1 (by decide) (by decide) (by decide) (by decide)
  rw [matA_matQ, show tabR 2 (fun i k => qv (zat (tabZ 2 (zat [1, 2, 3, 4] 2) 2) 2 i k) 1) 2 = awV by unfold awV; rfl] at cF
  have hl2 : awV.length = 2 * 2 := by unfold awV; exact tabR_len 2
  have cI := con_Inverse (n := 2) (K := 1) (MV.made aw_RB) (by rw [List.length_map]; exact hl2) (by decide) (by decide) (by decide) (by decide)
  rw [if_neg aw_len, matA_matQ] at cI
  have hRW : RW (bgM 2 2 (vat awV 2) idv 2) (2 + 2) 1 := bgM_RW (fun i k _ _ => vat_RB aw_RB (by decide) 2 i k) (fun i k _ _ => idv_RB i k)
  have hM : MV ((tabR 2 (fun i k => rdM 2 2 2 (vat awV 2) idv i (2 + k)) 2).map q4v) (tabR 2 (fun i k => rdM 2 2 2 (vat awV 2) idv i (2 + k)) 2) (kb 1 2) := MV.made (tabR_RB fun i k hi hk => red_RB hRW hi (by omega))
  have cA := con_At (r := 2) (c := 2) (i := 1) (k := 0) hM (by rw [List.length_map]; exact tabR_len 2) (by decide) (by decide) (by decide) (by decide) (tabR_at (by decide) (by decide)) (by decide)
  generalize (tabR 2 (fun i k => rdM 2 2 2 (vat awV 2) idv i (2 + k)) 2).map q4v = inv at cI cA
  have hv := aw_at
  generalize rdM 2 2 2 (vat awV 2) idv 1 (2 + 0) = v at hv cA
  have cP : PureOK Tryz.prog 52 [.agg (qA v)] (.v (str [51, 47, 50])) := by
    have hs : rS (rmk 3 2) = [51, 47, 50] := by
      have e2 : rmk 3 2 = (3, 2) := by unfold rmk; decide +kernel
      rw [e2]
      unfold rS zS decS
      rw [show ((3 : Int).natAbs) = 3 from rfl, show ((2 : Int).natAbs) = 2 from rfl, dig1 (by decide) (by decide), dig1 (by decide) (by decide)]
      decide
    haveI b2 : Bd 3 1 := ⟨by rw [Nat.pow_one, WB_eq]; decide⟩
    haveI b4 : Bd 2 1 := ⟨by rw [Nat.pow_one, WB_eq]; decide⟩
    have h := (con_rPrint (p := 3) (q := 2) (x0 := .c (.val (.bool (decide ((3 : Int) < 0))))) (x1 := .c (.sat (nrmN (3 : Int).natAbs))) (x2 := .c (.val (.bool (decide ((2 : Int) < 0))))) (x3 := .c (.sat (nrmN (2 : Int).natAbs)))).h (by decide)
    rw [hs] at h
    have e : qA v = [.c (.val (.bool (decide ((3 : Int) < 0)))), .c (.sat (nrmN (3 : Int).natAbs)), .c (.val (.bool (decide ((2 : Int) < 0)))), .c (.sat (nrmN (2 : Int).natAbs))] := by
      unfold qA; rw [hv.1, hv.2]; rfl
    rw [e]; exact h
  generalize (tabZ 2 (zat [1, 2, 3, 4] 2) 2).map z2v = l1 at cO cF
  generalize awV.map q4v = l2 at cF cI
  refine PureOK.fnF Tryz.func10 Tryz.results10 Tryz.ntmps10 rfl rfl rfl (by simp [AV.ids, AV0.ids, Atom.ids]) rfl (fun w0 T B E0 hB => ?_)
  refine SX.goF ?_
  refine SX.Go1.buildSliceF (size := 1) (m := [.val (.int .i64 1), .val (.int .i64 2), .val (.int .i64 3), .val (.int .i64 4)]) (l := [.c (.val (.int .i64 1)), .c (.val (.int .i64 2)), .c (.val (.int .i64 3)), .c (.val (.int .i64 4))]) rfl rfl rfl rfl (by kernel_rfl) rfl rfl ?_
  refine SX.goF ?_
  refine retB ?_; decide
end
end Go.Proofs.YtpchnbhkkbnjbaaGreatDoor

set_option linter.unusedVariables false
set_option linter.unusedSectionVars false
set_option maxHeartbeats 200000
namespace SNW
theorem fm_of {p : Int} (x : Int) (h : p ≠ 0) : x = p * x.fdiv p + x.fmod p ∧ (0 < p → 0 ≤ x.fmod p ∧ x.fmod p < p) ∧ (p < 0 → p < x.fmod p ∧ x.fmod p ≤ 0) := by
  refine ⟨(Int.mul_fdiv_add_fmod x p).symm, fun hp => ⟨Int.fmod_nonneg_of_pos x hp, Int.fmod_lt_of_pos x hp⟩, fun hp => ?_⟩
  have h1 := Int.fmod_nonneg_of_pos (-x) (b := -p) (by omega)
  have h2 := Int.fmod_lt_of_pos (-x) (b := -p) (by omega)
  rw [Int.neg_fmod_neg] at h1 h2
  omega
theorem fm_uniq {x p : Int} (q r : Int) (h : x = p * q + r) (h1 : 0 < p → 0 ≤ r ∧ r < p) (h2 : p < 0 → p < r ∧ r ≤ 0) (h0 : p ≠ 0) : x.fdiv p = q ∧ x.fmod p = r := by
  obtain ⟨e, e1, e2⟩ := fm_of x h0
  have hd : p * (x.fdiv p - q) = r - x.fmod p := by rw [Int.mul_sub]; omega
  have hq : x.fdiv p = q := by
    rcases Int.lt_trichotomy (x.fdiv p) q with hl | hl | hl
    · exfalso
      rcases Int.lt_or_gt_of_ne h0 with hp | hp
      · have t := Int.mul_le_mul_of_nonneg_left (a := x.fdiv p - q) (b := -1) (c := -p) (by omega) (by omega)
        rw [Int.neg_mul] at t
        have := e2 hp; have := h2 hp; omega
      · have := Int.mul_le_mul_of_nonneg_left (a := x.fdiv p - q) (b := -1) (c := p) (by omega) (by omega)
        have := e1 hp; have := h1 hp; omega
    · exact hl
    · exfalso
      rcases Int.lt_or_gt_of_ne h0 with hp | hp
      · have t := Int.mul_le_mul_of_nonneg_left (a := 1) (b := x.fdiv p - q) (c := -p) (by omega) (by omega)
        rw [Int.neg_mul, Int.neg_mul] at t
        have := e2 hp; have := h2 hp; omega
      · have := Int.mul_le_mul_of_nonneg_left (a := 1) (b := x.fdiv p - q) (c := p) (by omega) (by omega)
        have := e1 hp; have := h1 hp; omega
  refine ⟨hq, ?_⟩
  rw [hq, Int.sub_self, Int.mul_zero] at hd
  omega
theorem fd0 {p : Int} (h : p ≠ 0) : (0 : Int).fdiv p = 0 ∧ (0 : Int).fmod p = 0 := fm_uniq 0 0 (by omega) (by omega) (by omega) h
theorem fm_neg {p : Int} (x : Int) (h : p ≠ 0) : (-x).fdiv (-p) = x.fdiv p ∧ (-x).fmod (-p) = -x.fmod p := by
  obtain ⟨e, e1, e2⟩ := fm_of x h
  refine fm_uniq _ _ ?_ ?_ ?_ (by omega)
  · rw [Int.neg_mul]; omega
  · intro hp; have := e2 (by omega); omega
  · intro hp; have := e1 (by omega); omega
structure Rnd (n m : Nat) (B B' : Nat → Nat → Int) (r c r' c' : Nat) : Prop where
  hr : r < n
  hc : c < m
  hr' : r' < n
  hc' : c' < m
  nz : B' r' c' ≠ 0
  piv : B' r c = B r c
  inn : ∀ i j, i < n → j < m → i ≠ r → j ≠ c → B' i j = B i j - (B i c).fdiv (B r c) * B r j - (B r j).fdiv (B r c) * (B i c).fmod (B r c)
  col : ∀ i, i < n → i ≠ r → B' i c = (B i c).fmod (B r c)
  row : (∀ j, j < m → j ≠ c → B' r j = (B r j).fmod (B r c)) ∨ ((∀ j, j < m → j ≠ c → (B r j).fmod (B r c) = 0) ∧ (∀ i, i < n → i ≠ r → (B i c).fmod (B r c) = 0) ∧ ∀ j, j < m → j ≠ c → ∃ z : Int, B' r j = z.fmod (B r c))
  least : ∀ i j, i < n → j < m → B' i j = 0 ∨ (B' r' c').natAbs ≤ (B' i j).natAbs
  dec : (B' r' c').natAbs < (B r c).natAbs
  tie1 : r' ≠ r → ∀ j, j < m → B' r j = 0 ∨ (B' r' c').natAbs < (B' r j).natAbs
  tie2 : c' ≠ c → B' r' c = 0 ∨ (B' r' c').natAbs < (B' r' c).natAbs
variable {n m : Nat} {B B' B0 B1 B2 B3 B4 B5 : Nat → Nat → Int} {r c r' c' r0 c0 r1 c1 r2 c2 r3 c3 r4 c4 : Nat}
theorem Rnd.p0 (h : Rnd n m B B' r c r' c') : B r c ≠ 0 := by have := h.dec; omega
theorem Rnd.neg (h : Rnd n m B B' r c r' c') : Rnd n m (fun i j => -B i j) (fun i j => -B' i j) r c r' c' := by
  have f := fun x => fm_neg x h.p0
  refine ⟨h.hr, h.hc, h.hr', h.hc', by have := h.nz; omega, by have := h.piv; omega, ?_, ?_, ?_, ?_, ?_, ?_, ?_⟩
  · intro i j a b d e
    show -B' i j = _
    rw [(f _).1, (f _).2, (f _).1, h.inn i j a b d e, Int.mul_neg, Int.mul_neg]; omega
  · intro i a d
    show -B' i c = _
    rw [(f _).2, h.col i a d]
  · rcases h.row with h | ⟨h1, h2, h3⟩
    · left; intro j a b
      show -B' r j = _
      rw [(f _).2, h j a b]
    · right
      refine ⟨fun j a b => ?_, fun i a b => ?_, fun j a b => ?_⟩
      · rw [(f _).2, h1 j a b]; rfl
      · rw [(f _).2, h2 i a b]; rfl
      · obtain ⟨z, hz⟩ := h3 j a b
        refine ⟨-z, ?_⟩
        show -B' r j = _
        rw [(f _).2, hz]
  · intro i j a b; have := h.least i j a b; omega
  · have := h.dec; omega
  · intro a j b; have := h.tie1 a j b; omega
  · intro a; have := h.tie2 a; omega
theorem Rnd.rowU (h : Rnd n m B B' r c r' c') (u : (∃ j, j < m ∧ j ≠ c ∧ (B r j).fmod (B r c) ≠ 0) ∨ ∃ i, i < n ∧ i ≠ r ∧ (B i c).fmod (B r c) ≠ 0) {j : Nat} (hj : j < m) (hc : j ≠ c) : B' r j = (B r j).fmod (B r c) := by
  rcases h.row with h1 | ⟨h1, h2, h3⟩
  · exact h1 j hj hc
  · rcases u with ⟨k, a, b, d⟩ | ⟨k, a, b, d⟩
    · exact absurd (h1 k a b) d
    · exact absurd (h2 k a b) d
theorem Rnd.rowZ (h : Rnd n m B B' r c r' c') {j : Nat} (hj : j < m) (hc : j ≠ c) : ∃ z : Int, B' r j = z.fmod (B r c) := by
  rcases h.row with h1 | ⟨h1, h2, h3⟩
  · exact ⟨_, h1 j hj hc⟩
  · exact h3 j hj hc
theorem Rnd.row0 (h : Rnd n m B B' r c r' c') {i j : Nat} (hi : i < n) (hr : i ≠ r) (z : B i c = 0) (hj : j < m) : B' i j = B i j := by
  by_cases e : j = c
  · subst e; rw [h.col i hi hr, z, (fd0 h.p0).2]
  · rw [h.inn i j hi hj hr e, z, (fd0 h.p0).1, (fd0 h.p0).2]; omega
theorem Rnd.col0 (h : Rnd n m B B' r c r' c') {i j : Nat} (hi : i < n) (hr : i ≠ r) (z : B r j = 0) (hj : j < m) (hc : j ≠ c) : B' i j = B i j := by
  rw [h.inn i j hi hj hr hc, z, (fd0 h.p0).1]; omega
theorem Rnd.leastI (h : Rnd n m B B' r c r' c') {P : Int} (q : P = ((B' r' c').natAbs : Int)) (i j : Nat) (hi : i < n) (hj : j < m) : B' i j = 0 ∨ P ≤ B' i j ∨ B' i j ≤ -P := by
  have := h.least i j hi hj; omega
theorem Rnd.tie1I (h : Rnd n m B B' r c r' c') {P : Int} (q : P = ((B' r' c').natAbs : Int)) (a : r' ≠ r) (j : Nat) (hj : j < m) : B' r j = 0 ∨ P < B' r j ∨ B' r j < -P := by
  have := h.tie1 a j hj; omega
theorem Rnd.tie2I (h : Rnd n m B B' r c r' c') {P : Int} (q : P = ((B' r' c').natAbs : Int)) (a : c' ≠ c) : B' r' c = 0 ∨ P < B' r' c ∨ B' r' c < -P := by
  have := h.tie2 a; omega
def W (P p : Int) : Prop := 50 * P.natAbs ≤ P.natAbs + 50 * p.natAbs
theorem W.neg {P p : Int} (h : W P p) : W (-P) (-p) := by unfold W at *; omega
def V (P p : Int) : Prop := 7 * P.natAbs ≤ P.natAbs + 7 * p.natAbs
theorem W.V {P p : Int} (h : W P p) : V P p := by unfold W at h; unfold SNW.V; omega
theorem clA_pos (p : 0 < B r c) (h1 : Rnd n m B B1 r c r1 c1) (h2 : Rnd n m B1 B2 r1 c1 r2 c2) (w : (B r c).natAbs < 2 * (B2 r2 c2).natAbs) : r1 ≠ r ∧ c1 ≠ c := by
  have d1 := h1.dec
  have d2 := h2.dec
  have pv := h1.piv
  constructor
  · intro e; subst e
    have hc : c1 ≠ c := by intro e; subst e; omega
    obtain ⟨z, hz⟩ := h1.rowZ h1.hc' hc
    have f := (fm_of z (p := B r1 c) (by omega)).2.1 p
    rw [← hz] at f
    have g := fm_uniq (x := B1 r1 c) (p := B1 r1 c1) 1 (B1 r1 c - B1 r1 c1) (by omega) (by omega) (by omega) (by omega)
    have k := h2.rowU (.inl ⟨c, h1.hc, Ne.symm hc, by omega⟩) h1.hc (Ne.symm hc)
    have l := h2.least r1 c h1.hr h1.hc
    rw [k, g.2] at l; omega
  · intro e; subst e
    have hr : r1 ≠ r := by intro e; subst e; omega
    have hz := h1.col r1 h1.hr' hr
    have f := (fm_of (B r1 c1) (p := B r c1) (by omega)).2.1 p
    rw [← hz] at f
    have g := fm_uniq (x := B1 r c1) (p := B1 r1 c1) 1 (B1 r c1 - B1 r1 c1) (by omega) (by omega) (by omega) (by omega)
    have k := h2.col r h1.hr (Ne.symm hr)
    have l := h2.least r c1 h1.hr h1.hc
    rw [k, g.2] at l; omega
theorem clH (h1 : Rnd n m B B1 r c r1 c1) (h2 : Rnd n m B1 B2 r1 c1 r2 c2) (w : (B r c).natAbs < 2 * (B2 r2 c2).natAbs) : r1 ≠ r ∧ c1 ≠ c := by
  rcases Int.lt_or_gt_of_ne h1.p0 with p | p
  · exact clA_pos (B := fun i j => -B i j) (by omega) h1.neg h2.neg (by omega)
  · exact clA_pos p h1 h2 w
theorem clA (h1 : Rnd n m B B1 r c r1 c1) (h2 : Rnd n m B1 B2 r1 c1 r2 c2) (w : V (B r c) (B2 r2 c2)) : r1 ≠ r ∧ c1 ≠ c :=
  clH h1 h2 (by have := h1.dec; unfold V at w; omega)
theorem old_piv (p : 0 < B r c) (h1 : Rnd n m B B1 r c r1 c1) (h2 : Rnd n m B1 B2 r1 c1 r2 c2) (w : V (B r c) (B2 r2 c2)) (hr : r1 ≠ r) (hc : c1 ≠ c)
    (x0 : B1 r c1 ≠ 0) : B1 r1 c1 < 0 ∧ -B1 r1 c1 < B1 r c1 ∧ B1 r c1 < B r c ∧ B2 r c1 = B1 r c1 + 2 * B1 r1 c1 ∧ B r c ≤ B2 r c ∧ B2 r c ≤ B r c + 4 * (B r c + B1 r1 c1) := by
  have d1 := h1.dec
  have d2 := h2.dec
  have pv := h1.piv
  unfold V at w
  obtain ⟨z, hz⟩ := h1.rowZ h1.hc' hc
  have f := (fm_of z (p := B r c) (by omega)).2.1 p
  rw [← hz] at f
  have t := h1.tie1 hr c1 h1.hc'
  have hx := h2.col r h1.hr (Ne.symm hr)
  have l := h2.least r c1 h1.hr h2.hc
  have n1 : B1 r1 c1 < 0 := by
    refine Int.not_le.1 fun hn => ?_
    have g := fm_uniq (x := B1 r c1) (p := B1 r1 c1) 1 (B1 r c1 - B1 r1 c1) (by omega) (by omega) (by omega) (by omega)
    rw [hx, g.2] at l; omega
  have g := fm_uniq (x := B1 r c1) (p := B1 r1 c1) (-2) (B1 r c1 + 2 * B1 r1 c1) (by omega) (by omega) (by omega) (by omega)
  refine ⟨n1, by omega, by omega, by rw [hx, g.2], ?_⟩
  have hb := h2.inn r c h1.hr h1.hc (Ne.symm hr) (Ne.symm hc)
  rw [g.1, g.2, pv] at hb
  have hy := h1.col r1 h1.hr' hr
  have fy := (fm_of (B r1 c) (p := B r c) (by omega)).2.1 p
  rw [← hy] at fy
  rcases h1.tie2 hc with y0 | y0
  · rw [y0, (fd0 (by omega)).1] at hb; omega
  · have gy := fm_uniq (x := B1 r1 c) (p := B1 r1 c1) (-2) (B1 r1 c + 2 * B1 r1 c1) (by omega) (by omega) (by omega) (by omega)
    rw [gy.1] at hb; omega
theorem clBr_pos (p : 0 < B r c) (h1 : Rnd n m B B1 r c r1 c1) (h2 : Rnd n m B1 B2 r1 c1 r2 c2) (h3 : Rnd n m B2 B3 r2 c2 r3 c3) (w : V (B r c) (B3 r3 c3)) (hr : r1 ≠ r) (hc : c1 ≠ c) (hr2 : r2 ≠ r1) (hc2 : c2 ≠ c1) : r2 ≠ r := by
  intro e; subst e
  have d1 := h1.dec
  have d2 := h2.dec
  have d3 := h3.dec
  have w' := w
  unfold V at w
  by_cases x0 : B1 r2 c1 = 0
  · have s := h2.row0 h1.hr (Ne.symm hr) x0 h2.hc'
    have l := h1.least r2 c2 h1.hr h2.hc'
    have := h2.nz
    omega
  · obtain ⟨n1, a1, a2, a3, b1, b2⟩ := old_piv p h1 h2 (by unfold V; omega) hr hc x0
    have t := h2.tie2 hc2
    have cc : c2 ≠ c := by intro e; subst e; omega
    rcases Int.lt_or_gt_of_ne h3.p0 with q | q
    · have g := fm_uniq (x := B2 r2 c1) (p := B2 r2 c2) 1 (B2 r2 c1 - B2 r2 c2) (by omega) (by omega) (by omega) (by omega)
      have k := h3.rowU (.inl ⟨c1, h1.hc', Ne.symm hc2, by omega⟩) h1.hc' (Ne.symm hc2)
      have l := h3.least r2 c1 h1.hr h1.hc'
      rw [k, g.2] at l; omega
    · have g := fm_uniq (x := B2 r2 c) (p := B2 r2 c2) 1 (B2 r2 c - B2 r2 c2) (by omega) (by omega) (by omega) (by omega)
      have k := h3.rowU (.inl ⟨c, h1.hc, Ne.symm cc, by omega⟩) h1.hc (Ne.symm cc)
      have l := h3.least r2 c h1.hr h1.hc
      rw [k, g.2] at l; omega
theorem clBc_pos (p : 0 < B r c) (h1 : Rnd n m B B1 r c r1 c1) (h2 : Rnd n m B1 B2 r1 c1 r2 c2) (h3 : Rnd n m B2 B3 r2 c2 r3 c3) (w : V (B r c) (B3 r3 c3)) (hr : r1 ≠ r) (hc : c1 ≠ c) (hr2 : r2 ≠ r1) (hc2 : c2 ≠ c1) : c2 ≠ c := by
  intro e; subst e
  have d1 := h1.dec
  have d2 := h2.dec
  have d3 := h3.dec
  have pv := h1.piv
  unfold V at w
  by_cases y0 : B1 r1 c2 = 0
  · have s := h2.col0 h2.hr' hr2 y0 h1.hc (Ne.symm hc)
    have l := h1.least r2 c2 h2.hr' h1.hc
    have := h2.nz
    omega
  · have hy := h1.col r1 h1.hr' hr
    have fy := (fm_of (B r1 c2) (p := B r c2) (by omega)).2.1 p
    rw [← hy] at fy
    have ty := h1.tie2 hc
    have ly := h2.least r1 c2 h1.hr' h1.hc
    have n1 : B1 r1 c1 < 0 := by
      refine Int.not_le.1 fun hn => ?_
      have g := fm_uniq (x := B1 r1 c2) (p := B1 r1 c1) 1 (B1 r1 c2 - B1 r1 c1) (by omega) (by omega) (by omega) (by omega)
      have k := h2.rowU (.inl ⟨c2, h1.hc, Ne.symm hc, by omega⟩) h1.hc (Ne.symm hc)
      rw [k, g.2] at ly; omega
    have gy := fm_uniq (x := B1 r1 c2) (p := B1 r1 c1) (-2) (B1 r1 c2 + 2 * B1 r1 c1) (by omega) (by omega) (by omega) (by omega)
    have ky := h2.rowU (.inl ⟨c2, h1.hc, Ne.symm hc, by omega⟩) h1.hc (Ne.symm hc)
    rw [gy.2] at ky
    have hb := h2.inn r c2 h1.hr h1.hc (Ne.symm hr) (Ne.symm hc)
    rw [gy.1, pv] at hb
    have b1 : B r c2 ≤ B2 r c2 ∧ B2 r c2 ≤ B r c2 + 4 * (B r c2 + B1 r1 c1) := by
      by_cases x0 : B1 r c1 = 0
      · rw [x0, (fd0 (by omega)).1, (fd0 (by omega)).2] at hb; omega
      · obtain ⟨_, _, _, _, b1, b2⟩ := old_piv p h1 h2 (by unfold V; omega) hr hc x0
        exact ⟨b1, b2⟩
    have rr : r2 ≠ r := by intro e; subst e; omega
    have t := h2.tie1 hr2 c2 h1.hc
    rcases Int.lt_or_gt_of_ne h3.p0 with q | q
    · have g := fm_uniq (x := B2 r1 c2) (p := B2 r2 c2) 1 (B2 r1 c2 - B2 r2 c2) (by omega) (by omega) (by omega) (by omega)
      have k := h3.col r1 h1.hr' (Ne.symm hr2)
      have l := h3.least r1 c2 h1.hr' h1.hc
      rw [k, g.2] at l; omega
    · have g := fm_uniq (x := B2 r c2) (p := B2 r2 c2) 1 (B2 r c2 - B2 r2 c2) (by omega) (by omega) (by omega) (by omega)
      have k := h3.col r h1.hr (Ne.symm rr)
      have l := h3.least r c2 h1.hr h1.hc
      rw [k, g.2] at l; omega
theorem clB (h1 : Rnd n m B B1 r c r1 c1) (h2 : Rnd n m B1 B2 r1 c1 r2 c2) (h3 : Rnd n m B2 B3 r2 c2 r3 c3) (w : V (B r c) (B3 r3 c3)) : r2 ≠ r ∧ c2 ≠ c := by
  have d1 := h1.dec
  have d2 := h2.dec
  have d3 := h3.dec
  have w1 : V (B r c) (B2 r2 c2) := by unfold V at *; omega
  have w2 : V (B1 r1 c1) (B3 r3 c3) := by unfold V at *; omega
  obtain ⟨a1, a2⟩ := clA h1 h2 w1
  obtain ⟨a3, a4⟩ := clA h2 h3 w2
  rcases Int.lt_or_gt_of_ne h1.p0 with p | p
  · have w3 : V (-B r c) (-B3 r3 c3) := by unfold V at *; omega
    exact ⟨clBr_pos (B := fun i j => -B i j) (by omega) h1.neg h2.neg h3.neg w3 a1 a2 a3 a4, clBc_pos (B := fun i j => -B i j) (by omega) h1.neg h2.neg h3.neg w3 a1 a2 a3 a4⟩
  · exact ⟨clBr_pos p h1 h2 h3 w a1 a2 a3 a4, clBc_pos p h1 h2 h3 w a1 a2 a3 a4⟩
theorem mul_fm {u v p Q e G g : Int} (h1 : u = p * Q + e) (h2 : v = p * G + g) : p * (Q * v + G * e) = u * v - g * e := by
  have a1 : p * (Q * v) = (u - e) * v := by rw [h1, Int.add_sub_cancel, Int.mul_assoc]
  have a2 : p * (G * e) = (v - g) * e := by rw [h2, Int.add_sub_cancel, Int.mul_assoc]
  rw [Int.mul_add, a1, a2, Int.sub_mul, Int.sub_mul, Int.mul_comm e v]; omega
theorem abs_mul (u v : Int) : ((u * v).natAbs : Int) = (u.natAbs : Int) * (v.natAbs : Int) := by rw [Int.natAbs_mul, Int.natCast_mul]
section
variable (h0 : Rnd n m B0 B1 r0 c0 r1 c1) (h1 : Rnd n m B1 B2 r1 c1 r2 c2) (h2 : Rnd n m B2 B3 r2 c2 r0 c3) (h3 : Rnd n m B3 B4 r0 c3 r4 c4) (w : W (B0 r0 c0) (B4 r4 c4))
include h0 h1 h2 h3 w
theorem dist : (r1 ≠ r0 ∧ r2 ≠ r0 ∧ r2 ≠ r1) ∧ c1 ≠ c0 ∧ c2 ≠ c0 ∧ c2 ≠ c1 ∧ c3 ≠ c1 ∧ c3 ≠ c2 := by
  have d0 := h0.dec
  have d1 := h1.dec
  have d2 := h2.dec
  have d3 := h3.dec
  obtain ⟨a1, a2⟩ := clA h0 h1 (by unfold W at w; unfold V; omega)
  obtain ⟨a3, a4⟩ := clA h1 h2 (by unfold W at w; unfold V; omega)
  obtain ⟨a5, a6⟩ := clA h2 h3 (by unfold W at w; unfold V; omega)
  obtain ⟨b1, b2⟩ := clB h0 h1 h2 (by unfold W at w; unfold V; omega)
  obtain ⟨b3, b4⟩ := clB h1 h2 h3 (by unfold W at w; unfold V; omega)
  exact ⟨⟨a1, b1, a3⟩, a2, b2, a4, b4, a6⟩
theorem pre (p : 0 < B0 r0 c0) : ∃ P1 P2 P3 P4 : Int, P1 = ((B1 r1 c1).natAbs : Int) ∧ P2 = ((B2 r2 c2).natAbs : Int) ∧ P3 = ((B3 r0 c3).natAbs : Int) ∧ P4 = ((B4 r4 c4).natAbs : Int) ∧ (0 < P4 ∧ P4 < P3 ∧ P3 < P2 ∧ P2 < P1 ∧ P1 < B0 r0 c0 ∧ 49 * B0 r0 c0 ≤ 50 * P4) ∧ (B1 r1 c1 = P1 ∨ B1 r1 c1 = -P1) ∧ (B2 r2 c2 = P2 ∨ B2 r2 c2 = -P2) ∧ (B3 r0 c3 = P3 ∨ B3 r0 c3 = -P3) := by
  have d0 := h0.dec
  have d1 := h1.dec
  have d2 := h2.dec
  have d3 := h3.dec
  have nz := h3.nz
  unfold W at w
  refine ⟨_, _, _, _, rfl, rfl, rfl, rfl, ?_, ?_, ?_, ?_⟩
  · clear h0 h1 h2 h3; omega
  · clear h0 h1 h2 h3 w d0 d1 d2 d3; omega
  · clear h0 h1 h2 h3 w d0 d1 d2 d3; omega
  · clear h0 h1 h2 h3 w d0 d1 d2 d3; omega
theorem clC_pos (p : 0 < B0 r0 c0) : B1 r0 c1 ≠ 0 := by
  intro x0
  obtain ⟨⟨e1, e2, e3⟩, k1, k2, k3, k4, k5⟩ := dist h0 h1 h2 h3 w
  obtain ⟨P1, P2, P3, P4, q1, q2, q3, q4, D, s1, s2', s3'⟩ := pre h0 h1 h2 h3 w p
  have pv := h0.piv
  have s : ∀ j, j < m → B2 r0 j = B1 r0 j := fun j hj => h1.row0 h0.hr (Ne.symm e1) x0 hj
  obtain ⟨z, hz⟩ := h0.rowZ h1.hc' k2
  have f := (fm_of z (p := B0 r0 c0) (by omega)).2.1 p
  rw [← hz] at f
  have lz := h0.leastI q1 r0 c2 h0.hr h1.hc'
  have s2 := s c2 h1.hc'
  have s3 := s c3 h2.hc'
  have lz3 := h0.leastI q1 r0 c3 h0.hr h2.hc'
  have hx := h2.col r0 h0.hr (Ne.symm e2)
  by_cases z0 : B1 r0 c2 = 0
  · have s4 := h2.row0 h0.hr (Ne.symm e2) (by omega) h2.hc'
    clear q1 q2 q3 q4; omega
  have lx := h2.leastI q3 r0 c2 h0.hr h1.hc'
  rcases s2' with q | q
  · have g := fm_uniq (x := B2 r0 c2) (p := B2 r2 c2) 1 (B2 r0 c2 - B2 r2 c2) (by omega) (by clear q1 q2 q3 q4; omega) (by clear q1 q2 q3 q4; omega) (by clear q1 q2 q3 q4; omega)
    rw [g.2] at hx
    clear q1 q2 q3 q4; omega
  · have g := fm_uniq (x := B2 r0 c2) (p := B2 r2 c2) (-2) (B2 r0 c2 + 2 * B2 r2 c2) (by omega) (by clear q1 q2 q3 q4; omega) (by clear q1 q2 q3 q4; omega) (by clear q1 q2 q3 q4; omega)
    have hx' := hx
    rw [g.2] at hx
    have t := h2.tie2I q3 k5
    rcases s3' with q' | q'
    · have hi := h2.inn r0 c3 h0.hr h2.hc' (Ne.symm e2) k5
      have kv := h2.rowU (.inr ⟨r0, h0.hr, Ne.symm e2, by rw [g.2]; clear q1 q2 q3 q4 hi; omega⟩) h2.hc' k5
      have lv := h2.leastI q3 r2 c3 h1.hr' h2.hc'
      obtain ⟨v1, _, v3⟩ := fm_of (B2 r2 c3) h2.p0
      have v3 := v3 (by clear q1 q2 q3 q4; omega)
      rw [← kv] at v1 v3
      rw [g.1, g.2, s3] at hi
      have zd : 0 ≤ B1 r0 c3 ∧ B1 r0 c3 ≤ B0 r0 c0 := by
        by_cases e : c3 = c0
        · rw [e]; omega
        · obtain ⟨z, hz⟩ := h0.rowZ h2.hc' e
          have f := (fm_of z (p := B0 r0 c0) (by omega)).2.1 p
          rw [← hz] at f; omega
      generalize (B2 r2 c3).fdiv (B2 r2 c2) = G at *
      rw [Int.mul_add, s2, Int.mul_left_comm, Int.mul_comm G (B2 r2 c2)] at hi
      have hG : G ≤ -4 ∨ G = -3 ∨ G = -2 ∨ G = -1 ∨ G = 0 ∨ G = 1 ∨ 2 ≤ G := by omega
      have hX : B3 r0 c3 = B1 r0 c3 + 2 * B3 r2 c3 - G * B1 r0 c2 := by clear q1 q2 q3 q4 hx lx t g lz lz3 lv zd hG D s1; omega
      clear hi v1 hx lx t g q1 q2 q3 q4 s1 s2 s3 pv hx' kv x0 hz
      rcases hG with hG | hG | hG | hG | hG | hG | hG
      · have := Int.mul_le_mul_of_nonneg_right (a := G) (b := -4) (c := B1 r0 c2) (by omega) (by omega)
        omega
      · subst hG; omega
      · subst hG; omega
      · subst hG; omega
      · subst hG; omega
      · subst hG; omega
      · have := Int.mul_le_mul_of_nonneg_right (a := 2) (b := G) (c := B1 r0 c2) (by omega) (by omega)
        omega
    · have g3 := fm_uniq (x := B3 r0 c2) (p := B3 r0 c3) 1 (B3 r0 c2 - B3 r0 c3) (by omega) (by clear q1 q2 q3 q4; omega) (by clear q1 q2 q3 q4; omega) (by clear q1 q2 q3 q4; omega)
      have k := h3.rowU (.inl ⟨c2, h1.hc', Ne.symm k5, by rw [g3.2]; clear q1 q2 q3 q4; omega⟩) h1.hc' (Ne.symm k5)
      have l := h3.leastI q4 r0 c2 h0.hr h1.hc'
      rw [k, g3.2] at l; clear q1 q2 q3 q4; omega
theorem clD_pos (p : 0 < B0 r0 c0) (x0 : B1 r0 c1 ≠ 0) (n2 : 0 < B2 r2 c2) (n3 : B3 r0 c3 < 0) : B2 r2 c1 ≠ 0 := by
  intro y0
  obtain ⟨⟨e1, e2, e3⟩, k1, k2, k3, k4, k5⟩ := dist h0 h1 h2 h3 w
  obtain ⟨P1, P2, P3, P4, q1, q2, q3, q4, D, s1, s2', s3'⟩ := pre h0 h1 h2 h3 w p
  obtain ⟨n1, a1, a2, a3, _, _⟩ := old_piv p h0 h1 (by have := h0.dec; unfold V; omega) e1 k1 x0
  have s := h2.col0 h0.hr (Ne.symm e2) y0 h0.hc' (Ne.symm k3)
  have l := h1.leastI q2 r0 c1 h0.hr h0.hc'
  have g := fm_uniq (x := B3 r0 c1) (p := B3 r0 c3) 1 (B3 r0 c1 - B3 r0 c3) (by omega) (by clear q1 q2 q3 q4; omega) (by clear q1 q2 q3 q4; omega) (by omega)
  have k := h3.rowU (.inl ⟨c1, h0.hc', Ne.symm k4, by rw [g.2]; clear q1 q2 q3 q4; omega⟩) h0.hc' (Ne.symm k4)
  have l := h3.leastI q4 r0 c1 h0.hr h0.hc'
  rw [k, g.2] at l; clear q1 q2 q3 q4; omega
section
variable (p : 0 < B0 r0 c0) (x0 : B1 r0 c1 ≠ 0) (x1 : B2 r1 c2 ≠ 0) (y1 : B2 r2 c1 ≠ 0) (y2 : B3 r0 c2 ≠ 0) (n2 : 0 < B2 r2 c2) (n3 : B3 r0 c3 < 0)
include p x0 x1 y1 y2 n2 n3
set_option maxHeartbeats 2000000 in
theorem clU_pos : 10 * B0 r0 c0 ≤ (B2 r0 c2).natAbs := by
  obtain ⟨⟨e1, e2, e3⟩, k1, k2, k3, k4, k5⟩ := dist h0 h1 h2 h3 w
  obtain ⟨P1, P2, P3, P4, q1, q2, q3, q4, D, s1, s2', s3'⟩ := pre h0 h1 h2 h3 w p
  obtain ⟨n1, a1, a2, a3, _, _⟩ := old_piv p h0 h1 (by have := h0.dec; unfold V; omega) e1 k1 x0
  have s1 : B1 r1 c1 = -P1 := by clear q1 q2 q3 q4; omega
  have s2 : B2 r2 c2 = P2 := by clear q1 q2 q3 q4; omega
  have s3 : B3 r0 c3 = -P3 := by clear q1 q2 q3 q4; omega
  clear s2' s3'
  refine Int.not_lt.1 fun hu' => ?_
  have hu : B2 r0 c2 < 10 * B0 r0 c0 ∧ -10 * B0 r0 c0 < B2 r0 c2 := by clear q1 q2 q3 q4 s1 s2 s3; omega
  clear hu'
  -- the cross numbers
  have hx := h2.col r0 h0.hr (Ne.symm e2)
  obtain ⟨u1, u2, _⟩ := fm_of (B2 r0 c2) h2.p0
  have u2 := u2 n2
  rw [← hx] at u1 u2
  have t2 := h2.tie2I q3 k5
  have hy := h1.col r2 h1.hr' e3
  have fy := (fm_of (B1 r2 c1) h1.p0).2.2 n1
  rw [← hy] at fy
  have ty := h1.tie2I q2 k3
  have gy := fm_uniq (x := B2 r2 c1) (p := B2 r2 c2) (-2) (B2 r2 c1 + 2 * B2 r2 c2) (by omega) (by clear q1 q2 q3 q4; omega) (by clear q1 q2 q3 q4; omega) (by omega)
  have gx := fm_uniq (x := B1 r0 c1) (p := B1 r1 c1) (-2) (B1 r0 c1 + 2 * B1 r1 c1) (by omega) (by clear q1 q2 q3 q4; omega) (by clear q1 q2 q3 q4; omega) (by omega)
  have hw := h1.rowU (.inr ⟨r0, h0.hr, Ne.symm e1, by rw [gx.2]; clear q1 q2 q3 q4; omega⟩) h1.hc' k3
  obtain ⟨w1, _, w3⟩ := fm_of (B1 r1 c2) h1.p0
  have w3 := w3 n1
  rw [← hw] at w1 w3
  have tw := h1.tie1I q2 e3 c2 h1.hc'
  have hU := h1.inn r0 c2 h0.hr h1.hc' (Ne.symm e1) k3
  rw [gx.1, gx.2] at hU
  obtain ⟨z, hz⟩ := h0.rowZ h1.hc' k2
  have fz := (fm_of z (p := B0 r0 c0) (by omega)).2.1 p
  rw [← hz] at fz
  have lz := h0.leastI q1 r0 c2 h0.hr h1.hc'
  have hA := h2.inn r0 c1 h0.hr h0.hc' (Ne.symm e2) (Ne.symm k3)
  rw [← hx, gy.1] at hA
  have ge := fm_uniq (x := B3 r0 c2) (p := B3 r0 c3) (-2) (B3 r0 c2 + 2 * B3 r0 c3) (by omega) (by clear q1 q2 q3 q4; omega) (by clear q1 q2 q3 q4; omega) (by omega)
  have kA := h3.rowU (.inl ⟨c2, h1.hc', Ne.symm k5, by rw [ge.2]; clear q1 q2 q3 q4; omega⟩) h0.hc' (Ne.symm k4)
  have lA := h3.leastI q4 r0 c1 h0.hr h0.hc'
  have la := h1.leastI q2 r0 c1 h0.hr h0.hc'
  have lu := h1.leastI q2 r0 c2 h0.hr h1.hc'
  have p30 := h3.p0
  clear ge gy gx hx hy hw hz e1 e2 e3 k1 k2 k3 k4 k5 q1 q2 q3 q4 h0 h1 h2 h3 w
  generalize (B2 r0 c2).fdiv (B2 r2 c2) = Q at *
  generalize (B1 r1 c2).fdiv (B1 r1 c1) = f2 at *
  generalize B2 r0 c2 = u at *
  generalize B3 r0 c2 = e at *
  generalize B1 r0 c1 = x at *
  generalize B1 r1 c1 = p1 at *
  generalize B2 r2 c2 = p2 at *
  generalize B3 r0 c3 = p3 at *
  generalize B2 r0 c1 = a at *
  generalize B2 r2 c1 = y at *
  generalize B2 r1 c2 = ga at *
  generalize B1 r0 c2 = z2 at *
  generalize B1 r1 c2 = ww at *
  generalize B3 r0 c1 = aa at *
  generalize B0 r0 c0 = P0 at *
  subst s2
  have hU2 : u = z2 + 2 * ga - f2 * x := by
    rw [Int.mul_add, Int.mul_left_comm, Int.mul_comm f2 p1] at hU; clear lA la lu lz ty tw t2 hA; omega
  clear hU w1
  have ty : y < -p2 ∧ -P1 < y := by clear lA la lu lz tw t2 hA hU2 u1; omega
  have tw : ga < -p2 ∧ -P1 < ga := by clear lA la lu lz ty t2 hA hU2 u1; omega
  have t2 : P3 < e ∧ e < p2 := by clear lA la lu lz ty tw hA hU2 u1; omega
  clear fy w3 u2 n1 n2 n3 y1 x1 y2 x0 p
  have hQ : Q ≤ -2 ∨ Q = -1 ∨ 0 ≤ Q := by omega
  rcases hQ with hQ | hQ | hQ
  · clear lz hU2 lu fz tw
    have b1 : -12 ≤ Q := by
      refine Int.not_lt.1 fun hn => ?_
      have := Int.mul_le_mul_of_nonneg_left (a := Q) (b := -13) (c := p2) (by omega) (by omega)
      clear lA la hA; omega
    have m1 := Int.mul_le_mul_of_nonneg_right (a := -12) (b := Q) (c := -y + p3) (by omega) (by clear lA la hA; omega)
    have m2 := Int.mul_le_mul_of_nonneg_right (a := Q) (b := -2) (c := -y + p3) (by omega) (by clear lA la hA; omega)
    have m1 : -12 * (-y + p3) ≤ -(Q * y) + Q * p3 := by rw [← Int.mul_neg, ← Int.mul_add]; exact m1
    have m2 : -(Q * y) + Q * p3 ≤ -2 * (-y + p3) := by rw [← Int.mul_neg, ← Int.mul_add]; exact m2
    have la : a ≤ -p2 := by clear lA hA u1 m1 m2; omega
    have R : aa - p3 * (-Q - 1) < 0 ∧ -P4 < aa - p3 * (-Q - 1) := by
      rw [Int.mul_sub, Int.mul_neg, Int.mul_comm p3 Q]; clear lA; omega
    have g := fm_uniq (x := aa) (p := p3) (-Q - 1) (aa - p3 * (-Q - 1)) (by omega) (by clear lA hA u1 m1 m2; omega) (by clear lA hA u1 m1 m2; omega) p30
    rw [kA, g.2] at lA
    clear hA u1 m1 m2 g; omega
  · subst hQ; clear lA la hA; omega
  · clear lA la hA kA
    have b1 : Q ≤ 11 := by
      refine Int.not_lt.1 fun hn => ?_
      have := Int.mul_le_mul_of_nonneg_left (a := 12) (b := Q) (c := p2) (by omega) (by omega)
      omega
    have m1 := Int.mul_le_mul_of_nonneg_right (a := 0) (b := Q) (c := x - p2) (by omega) (by omega)
    have m2 := Int.mul_le_mul_of_nonneg_right (a := Q) (b := 11) (c := x - p2) (by omega) (by omega)
    have m1 : 0 ≤ Q * x - p2 * Q := by rw [Int.mul_comm p2 Q, ← Int.mul_sub]; rw [Int.zero_mul] at m1; exact m1
    have m2 : Q * x - p2 * Q ≤ 11 * (x - p2) := by rw [Int.mul_comm p2 Q, ← Int.mul_sub]; exact m2
    by_cases z0 : z2 = 0
    · rcases Int.lt_or_le (-f2) (Q + 3) with hm | hm
      · have := Int.mul_le_mul_of_nonneg_right (a := -f2) (b := Q + 2) (c := x) (by omega) (by omega)
        rw [Int.neg_mul, Int.add_mul] at this; omega
      · have := Int.mul_le_mul_of_nonneg_right (a := Q + 3) (b := -f2) (c := x) (by omega) (by omega)
        rw [Int.neg_mul, Int.add_mul] at this; omega
    · rcases Int.lt_or_le (-f2) (Q + 2) with hm | hm
      · have := Int.mul_le_mul_of_nonneg_right (a := -f2) (b := Q + 1) (c := x) (by omega) (by omega)
        rw [Int.neg_mul, Int.add_mul] at this; omega
      · have := Int.mul_le_mul_of_nonneg_right (a := Q + 2) (b := -f2) (c := x) (by omega) (by omega)
        rw [Int.neg_mul, Int.add_mul] at this; omega
theorem old_prod : ∃ g : Int, 0 ≤ g ∧ g < B2 r2 c2 ∧ B2 r2 c0 = B2 r2 c2 * (B2 r2 c0).fdiv (B2 r2 c2) + g ∧ B2 r2 c2 * (B2 r0 c0 - B3 r0 c0) = B2 r0 c2 * B2 r2 c0 - g * B3 r0 c2 ∧ 0 ≤ B3 r0 c2 ∧ B3 r0 c2 < B2 r2 c2 := by
  obtain ⟨⟨e1, e2, e3⟩, k1, k2, k3, k4, k5⟩ := dist h0 h1 h2 h3 w
  have hx := h2.col r0 h0.hr (Ne.symm e2)
  obtain ⟨u1, u2, _⟩ := fm_of (B2 r0 c2) h2.p0
  have u2 := u2 n2
  obtain ⟨v1, v2, _⟩ := fm_of (B2 r2 c0) h2.p0
  have v2 := v2 n2
  have hi := h2.inn r0 c0 h0.hr h0.hc (Ne.symm e2) (Ne.symm k2)
  rw [← hx] at u1 u2 hi
  have hm := mul_fm u1 v1
  refine ⟨_, v2.1, v2.2, v1, ?_, u2.1, u2.2⟩
  rw [← hm, hi]; congr 1; omega
theorem clE_pos : c3 ≠ c0 := by
  have hu := clU_pos h0 h1 h2 h3 w p x0 x1 y1 y2 n2 n3
  obtain ⟨g, g1, g2, g3, g4, g5, g6⟩ := old_prod h0 h1 h2 h3 w p x0 x1 y1 y2 n2 n3
  obtain ⟨⟨e1, e2, e3⟩, k1, k2, k3, k4, k5⟩ := dist h0 h1 h2 h3 w
  obtain ⟨P1, P2, P3, P4, q1, q2, q3, q4, D, s1, s2', s3'⟩ := pre h0 h1 h2 h3 w p
  obtain ⟨n1, a1, a2, a3, b1, b2⟩ := old_piv p h0 h1 (by have := h0.dec; unfold W at w; unfold V; omega) e1 k1 x0
  intro e
  have s1 : B1 r1 c1 = -P1 := by clear q1 q2 q3 q4; omega
  have s2 : B2 r2 c2 = P2 := by clear q1 q2 q3 q4; omega
  have s3 : B3 r0 c3 = -P3 := by clear q1 q2 q3 q4; omega
  rw [e] at s3
  clear s2' s3' q1 q3 q4
  have lv := h1.least r2 c0 h1.hr' h0.hc
  have lv : B2 r2 c0 = 0 ∨ P2 ≤ ((B2 r2 c0).natAbs : Int) := by omega
  clear q2 n3 w e h0 h1 h2 h3
  generalize (B2 r2 c0).fdiv (B2 r2 c2) = G at *
  generalize B0 r0 c0 = P0 at *
  generalize B2 r2 c2 = p2 at *
  generalize B2 r0 c0 = b at *
  generalize B3 r0 c0 = bb at *
  generalize B2 r2 c0 = v at *
  generalize B2 r0 c2 = u at *
  generalize B3 r0 c2 = e at *
  subst s2 s3
  have ab := abs_mul u v
  have gE0 := Int.mul_nonneg g1 g5
  have gE := Int.mul_le_mul (a := g) (b := e) (c := p2) (d := P0) (by omega) (by omega) (by omega) (by omega)
  have bB := Int.mul_le_mul_of_nonneg_left (a := b - -P3) (b := 3 * P0) (c := p2) (by omega) (by omega)
  have bB0 := Int.mul_pos (a := p2) (b := b - -P3) (by omega) (by omega)
  have K0 := Int.mul_pos n2 p
  rw [Int.mul_left_comm] at bB
  rcases lv with lv | lv
  · rw [lv, Int.mul_zero] at g4
    clear hu ab; omega
  · have hh := Int.mul_le_mul (a := 10 * P0) (b := p2) (c := (u.natAbs : Int)) (d := (v.natAbs : Int)) (by omega) lv (by omega) (by omega)
    rw [Int.mul_assoc, Int.mul_comm P0, ← ab] at hh
    clear hu lv ab; omega
end
end
theorem clF_num {P0 P1 p2 P3 P4 u v g e b bb k k0 p4 u1 h ee G ga : Int} (D : 0 < P4 ∧ P4 < P3 ∧ P3 < p2 ∧ p2 < P1 ∧ P1 < P0 ∧ 49 * P0 ≤ 50 * P4) (hu : 10 * P0 ≤ u.natAbs) (hu1 : 10 * P1 ≤ u1.natAbs)
    (g1 : 0 ≤ g) (g2 : g < p2) (e1 : 0 ≤ e) (e2 : e < p2) (g3 : v = p2 * G + g) (g4 : p2 * (b - bb) = u * v - g * e) (lv : v = 0 ∧ G = 0 ∨ p2 ≤ v.natAbs) (b1 : P0 ≤ b) (b2 : b ≤ 2 * P0)
    (hk : k = k0 + 2 * g - G * ga) (k1 : -P1 < k0 ∧ k0 ≤ 0) (ga1 : -P1 < ga ∧ ga ≤ 0) (hp4 : 0 ≤ p4 ∧ p4 ≤ P0) (h1 : -P3 < h ∧ h ≤ 0) (h2 : -P3 < ee ∧ ee ≤ 0) (hP : -P3 * (k - p4) = u1 * bb - h * ee) : False := by
  have h3 : 0 ≤ h * ee ∧ h * ee ≤ P3 * P3 := by
    refine ⟨Int.mul_nonneg_of_nonpos_of_nonpos h1.2 h2.2, ?_⟩
    have t1 := Int.mul_le_mul (a := -h) (b := -ee) (c := P3) (d := P3) (by omega) (by omega) (by omega) (by omega)
    rw [Int.neg_mul_neg] at t1; exact t1
  have aP := abs_mul (-P3) (k - p4)
  have aU := abs_mul u1 bb
  have aV := abs_mul u v
  have aB := abs_mul p2 (b - bb)
  rw [show ((-P3).natAbs : Int) = P3 by omega] at aP
  rw [show (p2.natAbs : Int) = p2 by omega] at aB
  rw [hP] at aP
  rw [g4] at aB
  generalize hN : ((k - p4).natAbs : Int) = N at *
  have hN0 : 0 ≤ N := by omega
  rcases lv with ⟨lv, lG⟩ | lv
  · subst lv lG
    have hg : g = 0 := by omega
    subst hg
    have hb : b - bb = 0 := by
      rcases Int.mul_eq_zero.1 (show p2 * (b - bb) = 0 by rw [g4]; omega) with t | t <;> omega
    have hN1 : N ≤ 2 * P0 := by clear aP aU aV aB hP g4 hu hu1 h3; omega
    clear aV aB g4 hu hP hN
    have hbb : ((bb.natAbs : Int)) = b := by omega
    rw [hbb] at aU
    have t1 := Int.mul_le_mul (a := 10 * P1) (b := P0) (c := (u1.natAbs : Int)) (d := b) (by omega) (by omega) (by omega) (by omega)
    have t2 := Int.mul_le_mul (a := P3) (b := N) (c := P1) (d := 2 * P0) (by omega) (by omega) (by omega) (by omega)
    have t3 := Int.mul_le_mul (a := P3) (b := P3) (c := P1) (d := P0) (by omega) (by omega) (by omega) (by omega)
    have t4 := Int.mul_pos (a := P1) (b := P0) (by omega) (by omega)
    rw [Int.mul_assoc] at t1
    rw [Int.mul_left_comm] at t2
    clear hbb hu1
    omega
  · generalize hV : (v.natAbs : Int) = V at *
    have t1 := Int.mul_le_mul (a := 10 * P0) (b := V) (c := (u.natAbs : Int)) (d := V) hu (Int.le_refl V) (by omega) (by omega)
    have t2 := Int.mul_le_mul (a := e) (b := g) (c := P0) (d := V) (by omega) (by omega) g1 (by omega)
    have t3 := Int.mul_nonneg g1 e1
    rw [Int.mul_assoc] at t1
    rw [Int.mul_comm e g] at t2
    generalize hM : ((b - bb).natAbs : Int) = M at *
    have t4 : 9 * (P0 * V) ≤ p2 * M := by clear aP aU hP hN hM hV hu hu1; omega
    have t5 := Int.mul_le_mul_of_nonneg_right (a := p2) (b := P0) (c := V) (by omega) (by omega)
    have t6 : 9 * V ≤ M := by
      refine Int.not_lt.1 fun hn => ?_
      have t := Int.mul_lt_mul_of_pos_left hn (show 0 < p2 by omega)
      rw [Int.mul_left_comm] at t
      clear aP aU hP hN hM hV hu hu1 aV aB; omega
    generalize hBB : (bb.natAbs : Int) = BB at *
    have t7 : 6 * V ≤ BB := by clear aP aU hP aV aB hu hu1; omega
    have t8 := Int.mul_le_mul (a := 10 * P1) (b := 6 * V) (c := (u1.natAbs : Int)) (d := BB) hu1 t7 (by omega) (by omega)
    rw [Int.mul_assoc, Int.mul_left_comm P1] at t8
    have sq := Int.mul_le_mul (a := P3) (b := P3) (c := P1) (d := V) (by omega) (by omega) (by omega) (by omega)
    have p1v := Int.mul_nonneg (a := P1) (b := V) (by omega) (by omega)
    have t9 : 50 * (P1 * V) ≤ P3 * N := by clear hP aV aB hN hM hV hBB hu hu1 t1 t2 t3 t4 t5 t6 t7; omega
    have t10 : 50 * V ≤ N := by
      refine Int.not_lt.1 fun hn => ?_
      have t := Int.mul_lt_mul_of_pos_left hn (show 0 < P3 by omega)
      rw [Int.mul_left_comm] at t
      have t' := Int.mul_le_mul_of_nonneg_right (a := P3) (b := P1) (c := V) (by omega) (by omega)
      clear hP aP aU aV aB hN hM hV hBB hu hu1 t1 t2 t3 t4 t5 t6 t7 t8; omega
    have aG := abs_mul G ga
    have aG2 := abs_mul p2 G
    rw [show (p2.natAbs : Int) = p2 by omega] at aG2
    have t11 := Int.mul_le_mul_of_nonneg_left (a := (ga.natAbs : Int)) (b := 2 * p2) (c := (G.natAbs : Int)) (by omega) (by omega)
    rw [Int.mul_left_comm, Int.mul_comm (G.natAbs : Int) p2, ← aG2, ← aG] at t11
    have t12 : ((p2 * G).natAbs : Int) ≤ V + p2 := by clear hP aP aU aV aB hN hM hBB hu hu1 t1 t2 t3 t4 t5 t6 t7 t8 t9 t10 t11 aG aG2 sq; omega
    clear hP aP aU aV aB hM hBB hu hu1 t1 t2 t3 t4 t5 t6 t7 t8 t9 aG aG2 sq p1v h3 g3 g4 h1 h2
    have t13 : ((G * ga).natAbs : Int) ≤ 4 * V := by omega
    clear t11 t12 hV
    omega
set_option maxHeartbeats 4000000 in
theorem clF_pos (h0 : Rnd n m B0 B1 r0 c0 r1 c1) (h1 : Rnd n m B1 B2 r1 c1 r2 c2) (h2 : Rnd n m B2 B3 r2 c2 r0 c3) (h3 : Rnd n m B3 B4 r0 c3 r1 c0) (w : W (B0 r0 c0) (B4 r1 c0))
    (p : 0 < B0 r0 c0) (x0 : B1 r0 c1 ≠ 0) (x1 : B2 r1 c2 ≠ 0) (y1 : B2 r2 c1 ≠ 0) (y2 : B3 r0 c2 ≠ 0) (n2 : 0 < B2 r2 c2) (n3 : B3 r0 c3 < 0) (n4 : 0 < B4 r1 c0) (hu1 : 10 * -B1 r1 c1 ≤ (B3 r1 c3).natAbs) : False := by
  have hu := clU_pos h0 h1 h2 h3 w p x0 x1 y1 y2 n2 n3
  obtain ⟨g, g1, g2, g3, g4, g5, g6⟩ := old_prod h0 h1 h2 h3 w p x0 x1 y1 y2 n2 n3
  obtain ⟨⟨e1, e2, e3⟩, k1, k2, k3, k4, k5⟩ := dist h0 h1 h2 h3 w
  obtain ⟨P1, P2, P3, P4, q1, q2, q3, q4, D, s1, s2', s3'⟩ := pre h0 h1 h2 h3 w p
  obtain ⟨n1, a1, a2, a3, b1, b2⟩ := old_piv p h0 h1 (by have := h0.dec; unfold W at w; unfold V; omega) e1 k1 x0
  have s1 : B1 r1 c1 = -P1 := by clear q1 q2 q3 q4; omega
  have s2 : B2 r2 c2 = P2 := by clear q1 q2 q3 q4; omega
  have s3 : B3 r0 c3 = -P3 := by clear q1 q2 q3 q4; omega
  have s4 : B4 r1 c0 = P4 := by omega
  clear s2' s3'
  have k8 : c0 ≠ c3 := fun e => clE_pos h0 h1 h2 h3 w p x0 x1 y1 y2 n2 n3 e.symm
  have gx := fm_uniq (x := B1 r0 c1) (p := B1 r1 c1) (-2) (B1 r0 c1 + 2 * B1 r1 c1) (by omega) (by clear q1 q2 q3 q4; omega) (by clear q1 q2 q3 q4; omega) (by omega)
  have un : (∃ j, j < m ∧ j ≠ c1 ∧ (B1 r1 j).fmod (B1 r1 c1) ≠ 0) ∨ ∃ i, i < n ∧ i ≠ r1 ∧ (B1 i c1).fmod (B1 r1 c1) ≠ 0 := .inr ⟨r0, h0.hr, Ne.symm e1, by rw [gx.2]; clear q1 q2 q3 q4; omega⟩
  have hw := h1.rowU un h1.hc' k3
  have w3 := (fm_of (B1 r1 c2) h1.p0).2.2 n1
  rw [← hw] at w3
  have tw := h1.tie1I q2 e3 c2 h1.hc'
  have hv := h1.rowU un h0.hc (Ne.symm k1)
  have v3 := (fm_of (B1 r1 c0) h1.p0).2.2 n1
  rw [← hv] at v3
  have gg := fm_uniq (x := B2 r1 c2) (p := B2 r2 c2) (-2) (B2 r1 c2 + 2 * B2 r2 c2) (by omega) (by clear q1 q2 q3 q4; omega) (by clear q1 q2 q3 q4; omega) (by omega)
  have hk := h2.inn r1 c0 h0.hr' h0.hc (Ne.symm e3) (Ne.symm k2)
  rw [gg.1, gg.2] at hk
  obtain ⟨t1, _, t3⟩ := fm_of (B3 r1 c3) h3.p0
  have t3 := t3 n3
  obtain ⟨t4, _, t6⟩ := fm_of (B3 r0 c0) h3.p0
  have t6 := t6 n3
  have hp4 := h3.inn r1 c0 h0.hr' h0.hc e1 k8
  have hm := mul_fm t1 t4
  have hP : B3 r0 c3 * (B3 r1 c0 - B4 r1 c0) = B3 r1 c3 * B3 r0 c0 - (B3 r0 c0).fmod (B3 r0 c3) * (B3 r1 c3).fmod (B3 r0 c3) := by
    rw [← hm, hp4]; congr 1; omega
  have lv := h1.leastI q2 r2 c0 h1.hr' h0.hc
  have z0 := fd0 h2.p0
  rw [s3] at hP t3 t6
  rw [s2] at g2 g3 g4 g6 hk z0
  rw [s4] at hP
  refine clF_num (P0 := B0 r0 c0) (G := (B2 r2 c0).fdiv P2) D hu (by rw [s1] at hu1; omega) g1 g2 g5 g6 g3 g4 ?_ b1 (by rw [s1] at b2; omega) (k0 := B2 r1 c0) (ga := B2 r1 c2) ?_ (by rw [s1] at v3; exact v3) (by rw [s1] at w3; exact w3) (by omega) t6 t3 hP
  · rcases lv with lv | lv
    · left; exact ⟨lv, by rw [lv]; exact z0.1⟩
    · right; omega
  · rw [Int.mul_add, Int.mul_left_comm, Int.mul_comm _ P2] at hk
    clear q1 q2 q3 q4 hP hu hu1 g4 lv; omega
theorem win_pos {B : Nat → Nat → Nat → Int} {r c : Nat → Nat} (hn : n ≤ 3) (hm : m ≤ 4) (h : ∀ l, l < 8 → Rnd n m (B l) (B (l + 1)) (r l) (c l) (r (l + 1)) (c (l + 1))) (p : 0 < B 0 (r 0) (c 0)) : ¬ W (B 0 (r 0) (c 0)) (B 8 (r 8) (c 8)) := by
  intro w
  have hd : ∀ l, l < 8 → (B (l + 1) (r (l + 1)) (c (l + 1))).natAbs < (B l (r l) (c l)).natAbs := fun l hl => (h l hl).dec
  have mono : ∀ d i, i + d ≤ 8 → (B (i + d) (r (i + d)) (c (i + d))).natAbs ≤ (B i (r i) (c i)).natAbs := by
    intro d
    induction d with
    | zero => intro i _; exact Nat.le_refl _
    | succ d ih =>
      intro i hi
      have a := ih i (by omega)
      have b := hd (i + d) (by omega)
      show (B (i + d + 1) _ _).natAbs ≤ _
      exact Nat.le_trans (Nat.le_of_lt b) a
  have hW : ∀ i d, i + d ≤ 8 → W (B i (r i) (c i)) (B (i + d) (r (i + d)) (c (i + d))) := by
    intro i d hi
    have a := mono i 0 (by omega)
    rw [Nat.zero_add] at a
    have b := mono (8 - (i + d)) (i + d) (by omega)
    rw [show i + d + (8 - (i + d)) = 8 by omega] at b
    unfold W at *; omega
  have hA : ∀ l, l ≤ 6 → r (l + 1) ≠ r l ∧ c (l + 1) ≠ c l := fun l hl => clA (h l (by omega)) (h (l + 1) (by omega)) (hW l 2 (by omega)).V
  have hB : ∀ l, l ≤ 5 → r (l + 2) ≠ r l ∧ c (l + 2) ≠ c l := fun l hl => clB (h l (by omega)) (h (l + 1) (by omega)) (h (l + 2) (by omega)) (hW l 3 (by omega)).V
  have hr : ∀ l, l ≤ 4 → r (l + 3) = r l := fun l hl => by
    have a1 := (hA l (by omega)).1
    have a2 := (hA (l + 1) (by omega)).1
    have a3 := (hA (l + 2) (by omega)).1
    have b1 := (hB l (by omega)).1
    have b2 := (hB (l + 1) (by omega)).1
    have l1 := (h l (by omega)).hr
    have l2 := (h (l + 1) (by omega)).hr
    have l3 := (h (l + 2) (by omega)).hr
    have l4 := (h (l + 2) (by omega)).hr'
    rw [show l + 1 + 1 = l + 2 from rfl] at a2
    rw [show l + 2 + 1 = l + 3 from rfl] at a3 l4
    rw [show l + 1 + 2 = l + 3 from rfl] at b2
    omega
  have h2' : ∀ l, l ≤ 4 → Rnd n m (B (l + 2)) (B (l + 3)) (r (l + 2)) (c (l + 2)) (r l) (c (l + 3)) := fun l hl => by
    have t := h (l + 2) (by omega)
    rw [show l + 2 + 1 = l + 3 from rfl, hr l hl] at t; exact t
  have h3' : ∀ l, l ≤ 4 → Rnd n m (B (l + 3)) (B (l + 4)) (r l) (c (l + 3)) (r (l + 4)) (c (l + 4)) := fun l hl => by
    have t := h (l + 3) (by omega)
    rw [hr l hl] at t; exact t
  have hX : ∀ l, l ≤ 4 → B (l + 1) (r l) (c (l + 1)) ≠ 0 := fun l hl => by
    rcases Int.lt_or_gt_of_ne (h l (by omega)).p0 with q | q
    · have t := clC_pos (h l (by omega)).neg (h (l + 1) (by omega)).neg (h2' l hl).neg (h3' l hl).neg (hW l 4 (by omega)).neg (by omega)
      omega
    · exact clC_pos (h l (by omega)) (h (l + 1) (by omega)) (h2' l hl) (h3' l hl) (hW l 4 (by omega)) q
  have hS : ∀ l, l ≤ 4 → (0 < B l (r l) (c l) → B (l + 1) (r (l + 1)) (c (l + 1)) < 0) ∧ (B l (r l) (c l) < 0 → 0 < B (l + 1) (r (l + 1)) (c (l + 1))) := fun l hl => by
    have x := hX l hl
    obtain ⟨a1, a2⟩ := hA l (by omega)
    constructor
    · intro q
      exact (old_piv q (h l (by omega)) (h (l + 1) (by omega)) (hW l 2 (by omega)).V a1 a2 x).1
    · intro q
      have := (old_piv (B := fun i j => -B l i j) (by omega) (h l (by omega)).neg (h (l + 1) (by omega)).neg (hW l 2 (by omega)).neg.V a1 a2 (by omega)).1
      omega
  have s1 : B 1 (r 1) (c 1) < 0 := (hS 0 (by omega)).1 p
  have s2 : 0 < B 2 (r 2) (c 2) := (hS 1 (by omega)).2 s1
  have s3 : B 3 (r 3) (c 3) < 0 := (hS 2 (by omega)).1 s2
  have s4 : 0 < B 4 (r 4) (c 4) := (hS 3 (by omega)).2 s3
  have s5 : B 5 (r 5) (c 5) < 0 := (hS 4 (by omega)).1 s4
  have r3 : r 3 = r 0 := hr 0 (by omega)
  have r4 : r 4 = r 1 := hr 1 (by omega)
  have r5 : r 5 = r 2 := hr 2 (by omega)
  have y1 := clD_pos (h 0 (by omega)) (h 1 (by omega)) (h2' 0 (by omega)) (h3' 0 (by omega)) (hW 0 4 (by omega)) p (hX 0 (by omega)) s2 (by rw [← r3]; exact s3)
  have y2 := clD_pos (h 1 (by omega)).neg (h 2 (by omega)).neg (h2' 1 (by omega)).neg (h3' 1 (by omega)).neg (hW 1 4 (by omega)).neg (by omega) (by have := hX 1 (by omega); omega) (by show 0 < -B 3 (r 3) (c 3); exact Int.neg_pos_of_neg s3) (by rw [← r4]; show -B 4 (r 4) (c 4) < 0; omega)
  have y3 := clD_pos (h 2 (by omega)) (h 3 (by omega)) (h2' 2 (by omega)) (h3' 2 (by omega)) (hW 2 4 (by omega)) s2 (hX 2 (by omega)) s4 (by rw [← r5]; exact s5)
  have y2' : B 3 (r 3) (c 2) ≠ 0 := fun e => y2 (by show -B 3 (r 3) (c 2) = 0; omega)
  have y2'' : B 3 (r 0) (c 2) ≠ 0 := by rw [← r3]; exact y2'
  have y3' : B 4 (r 1) (c 3) ≠ 0 := by rw [← r4]; exact y3
  have s3' : B 3 (r 0) (c 3) < 0 := by rw [← r3]; exact s3
  have s4' : 0 < B 4 (r 1) (c 4) := by rw [← r4]; exact s4
  have w1 : W (-B 1 (r 1) (c 1)) (-B 5 (r 5) (c 5)) := (hW 1 4 (by omega)).neg
  have x1n : -B 2 (r 1) (c 2) ≠ 0 := by have : B 2 (r 1) (c 2) ≠ 0 := hX 1 (by omega); omega
  have x2n : -B 3 (r 2) (c 3) ≠ 0 := by have : B 3 (r 2) (c 3) ≠ 0 := hX 2 (by omega); omega
  have U1 := clU_pos (h 1 (by omega)).neg (h 2 (by omega)).neg (h2' 1 (by omega)).neg (h3' 1 (by omega)).neg w1 (Int.neg_pos_of_neg s1) x1n x2n y2 (show -B 4 (r 1) (c 3) ≠ 0 by omega) (Int.neg_pos_of_neg s3) (show -B 4 (r 1) (c 4) < 0 by omega)
  have E0 := clE_pos (h 0 (by omega)) (h 1 (by omega)) (h2' 0 (by omega)) (h3' 0 (by omega)) (hW 0 4 (by omega)) p (hX 0 (by omega)) (hX 1 (by omega)) y1 y2'' s2 s3'
  have E1 := clE_pos (h 1 (by omega)).neg (h 2 (by omega)).neg (h2' 1 (by omega)).neg (h3' 1 (by omega)).neg w1 (Int.neg_pos_of_neg s1) x1n x2n y2 (show -B 4 (r 1) (c 3) ≠ 0 by omega) (Int.neg_pos_of_neg s3) (show -B 4 (r 1) (c 4) < 0 by omega)
  have c4 : c 4 = c 0 := by
    have a1 := (hA 0 (by omega)).2
    have a2 := (hA 1 (by omega)).2
    have a3 := (hA 2 (by omega)).2
    have a4 := (hA 3 (by omega)).2
    have b1 := (hB 0 (by omega)).2
    have b2 := (hB 1 (by omega)).2
    have b3 := (hB 2 (by omega)).2
    have l0 := (h 0 (by omega)).hc
    have l1 := (h 1 (by omega)).hc
    have l2 := (h 2 (by omega)).hc
    have l3 := (h 3 (by omega)).hc
    have l4 := (h 3 (by omega)).hc'
    rw [show 0 + 1 = 1 from rfl] at a1
    rw [show 1 + 1 = 2 from rfl] at a2
    rw [show 2 + 1 = 3 from rfl] at a3
    rw [show 3 + 1 = 4 from rfl] at a4 l4
    rw [show 0 + 2 = 2 from rfl] at b1
    rw [show 1 + 2 = 3 from rfl] at b2
    rw [show 2 + 2 = 4 from rfl] at b3
    rw [show 0 + 3 = 3 from rfl] at E0
    rw [show 1 + 3 = 4 from rfl] at E1
    omega
  have h3 := h3' 0 (by omega)
  have w0 := hW 0 4 (by omega)
  rw [show 0 + 4 = 4 from rfl, show r 4 = r 1 from r4, c4] at h3 w0
  rw [c4] at s4'
  refine clF_pos (h 0 (by omega)) (h 1 (by omega)) (h2' 0 (by omega)) h3 w0 p (hX 0 (by omega)) (hX 1 (by omega)) y1 y2'' s2 s3' s4' ?_
  have U1' : 10 * (-B 1 (r 1) (c 1)) ≤ ((-B 3 (r 1) (c 3)).natAbs : Int) := U1
  show 10 * -B 1 (r 1) (c 1) ≤ ((B 3 (r 1) (c 3)).natAbs : Int)
  omega
theorem win {B : Nat → Nat → Nat → Int} {r c : Nat → Nat} (hn : n ≤ 3) (hm : m ≤ 4) (h : ∀ l, l < 8 → Rnd n m (B l) (B (l + 1)) (r l) (c l) (r (l + 1)) (c (l + 1))) : ¬ W (B 0 (r 0) (c 0)) (B 8 (r 8) (c 8)) := by
  rcases Int.lt_or_gt_of_ne (h 0 (by omega)).p0 with q | q
  · intro w
    exact win_pos (B := fun l i j => -B l i j) hn hm (fun l hl => (h l hl).neg) (Int.neg_pos_of_neg q) w.neg
  · exact win_pos hn hm h q
end SNW

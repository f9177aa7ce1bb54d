import Derived.Test.YtmfadfkjnfdngaaGreatDoorM11
namespace SNW
variable {n m R b : Nat} {B : Nat → Nat → Nat → Int} {r c : Nat → Nat}
def Chain (n m R : Nat) (B : Nat → Nat → Nat → Int) (r c : Nat → Nat) : Prop := ∀ l, l < R → Rnd n m (B l) (B (l + 1)) (r l) (c l) (r (l + 1)) (c (l + 1))
theorem Chain.shift (h : Chain n m R B r c) {k d : Nat} (hk : k + d ≤ R) : Chain n m d (fun l => B (k + l)) (fun l => r (k + l)) (fun l => c (k + l)) := fun l hl => h (k + l) (by omega)
theorem Chain.p0 (h : Chain n m R B r c) (h0 : B 0 (r 0) (c 0) ≠ 0) {l : Nat} (hl : l ≤ R) : B l (r l) (c l) ≠ 0 := by
  cases l with
  | zero => exact h0
  | succ l => exact (h l (by omega)).nz
theorem fall {d u v : Nat} (h : Chain n m R B r c) (hf : ∀ k, k + d ≤ R → v * (B (k + d) (r (k + d)) (c (k + d))).natAbs ≤ u * (B k (r k) (c k)).natAbs) :
    ∀ k, d * k ≤ R → v ^ k * (B (d * k) (r (d * k)) (c (d * k))).natAbs ≤ u ^ k * (B 0 (r 0) (c 0)).natAbs
  | 0, _ => by simp
  | k + 1, hk => by
    have ih := fall h hf k (by rw [Nat.mul_succ] at hk; omega)
    have t := hf (d * k) (by rw [Nat.mul_succ] at hk; omega)
    have e : d * (k + 1) = d * k + d := Nat.mul_succ d k
    rw [e, Nat.pow_succ, Nat.pow_succ]
    have t1 := Nat.mul_le_mul_left (v ^ k) t
    have t2 := Nat.mul_le_mul_left u ih
    rw [Nat.mul_assoc, Nat.mul_comm (u ^ k) u, Nat.mul_assoc]
    refine Nat.le_trans t1 ?_
    rw [Nat.mul_left_comm]; exact t2
theorem count {d u v q : Nat} (hq : 2 * u ^ q ≤ v ^ q) (hu : 0 < u) (h : Chain n m R B r c) (h0 : B 0 (r 0) (c 0) ≠ 0) (hb : (B 0 (r 0) (c 0)).natAbs < 2 ^ b)
    (hf : ∀ k, k + d ≤ R → v * (B (k + d) (r (k + d)) (c (k + d))).natAbs ≤ u * (B k (r k) (c k)).natAbs) : R < d * (q * b + 1) := by
  refine Nat.not_le.1 fun hR => ?_
  have hk : d * (q * b) ≤ R := Nat.le_trans (Nat.mul_le_mul_left d (Nat.le_succ _)) hR
  have t := fall h hf (q * b) hk
  have p := Int.natAbs_pos.2 (h.p0 h0 hk)
  have t1 : (2 * u ^ q) ^ b ≤ (v ^ q) ^ b := Nat.pow_le_pow_left hq b
  rw [Nat.mul_pow, ← Nat.pow_mul, ← Nat.pow_mul] at t1
  have t2 := Nat.mul_lt_mul_of_pos_left hb (Nat.pow_pos (n := q * b) hu)
  have t3 := Nat.mul_le_mul_left (v ^ (q * b)) p
  rw [Nat.mul_comm (2 ^ b)] at t1
  omega
theorem rounds3 (hn : n ≤ 3) (hm : m ≤ 4) (h : Chain n m R B r c) (h0 : B 0 (r 0) (c 0) ≠ 0) (hb : (B 0 (r 0) (c 0)).natAbs < 2 ^ b) : R < 8 * (35 * b + 1) := by
  refine count (u := 49) (v := 50) (by decide) (by decide) h h0 hb fun k hk => ?_
  have w := win hn hm (h.shift hk)
  unfold W at w
  show 50 * (B (k + 8) (r (k + 8)) (c (k + 8))).natAbs ≤ _
  have w' : ¬ 50 * (B k (r k) (c k)).natAbs ≤ (B k (r k) (c k)).natAbs + 50 * (B (k + 8) (r (k + 8)) (c (k + 8))).natAbs := w
  omega
theorem rounds2 (hn : n ≤ 2 ∨ m ≤ 2) (h : Chain n m R B r c) (h0 : B 0 (r 0) (c 0) ≠ 0) (hb : (B 0 (r 0) (c 0)).natAbs < 2 ^ b) : R < 3 * (5 * b + 1) := by
  refine count (u := 6) (v := 7) (by decide) (by decide) h h0 hb fun k hk => ?_
  clear h0 hb
  refine Nat.not_lt.1 fun hv => ?_
  have hv : 6 * (B k (r k) (c k)).natAbs < 7 * (B (k + 3) (r (k + 3)) (c (k + 3))).natAbs := hv
  have h1 : Rnd n m (B k) (B (k + 1)) (r k) (c k) (r (k + 1)) (c (k + 1)) := h k (by omega)
  have h2 : Rnd n m (B (k + 1)) (B (k + 2)) (r (k + 1)) (c (k + 1)) (r (k + 2)) (c (k + 2)) := h (k + 1) (by omega)
  have h3 : Rnd n m (B (k + 2)) (B (k + 3)) (r (k + 2)) (c (k + 2)) (r (k + 3)) (c (k + 3)) := h (k + 2) (by omega)
  have w : V (B k (r k) (c k)) (B (k + 3) (r (k + 3)) (c (k + 3))) := by unfold V; omega
  have d3 := h3.dec
  have d2 := h2.dec
  have d1 := h1.dec
  have w1 : V (B k (r k) (c k)) (B (k + 2) (r (k + 2)) (c (k + 2))) := by
    unfold V at *
    generalize (B k (r k) (c k)).natAbs = P0 at *
    generalize (B (k + 1) (r (k + 1)) (c (k + 1))).natAbs = P1 at *
    generalize (B (k + 2) (r (k + 2)) (c (k + 2))).natAbs = P2 at *
    generalize (B (k + 3) (r (k + 3)) (c (k + 3))).natAbs = P3 at *
    omega
  have w2 : V (B (k + 1) (r (k + 1)) (c (k + 1))) (B (k + 3) (r (k + 3)) (c (k + 3))) := by
    unfold V at *
    generalize (B k (r k) (c k)).natAbs = P0 at *
    generalize (B (k + 1) (r (k + 1)) (c (k + 1))).natAbs = P1 at *
    generalize (B (k + 2) (r (k + 2)) (c (k + 2))).natAbs = P2 at *
    generalize (B (k + 3) (r (k + 3)) (c (k + 3))).natAbs = P3 at *
    omega
  have a1 := clA h1 h2 w1
  have a2 := clA h2 h3 w2
  have a3 := clB h1 h2 h3 w
  have b1 := h1.hr
  have b2 := h2.hr
  have b3 := h3.hr
  have c1 := h1.hc
  have c2 := h2.hc
  have c3 := h3.hc
  clear d1 d2 d3 hv w w1 w2 h1 h2 h3 h
  omega
theorem rounds1 (hn : n ≤ 1 ∨ m ≤ 1) (h : Chain n m R B r c) (h0 : B 0 (r 0) (c 0) ≠ 0) (hb : (B 0 (r 0) (c 0)).natAbs < 2 ^ b) : R < 2 * (1 * b + 1) := by
  refine count (u := 1) (v := 2) (by decide) (by decide) h h0 hb fun k hk => ?_
  refine Nat.not_lt.1 fun hv => ?_
  have h1 := h k (by omega)
  have h2 := h (k + 1) (by omega)
  have a1 := clH h1 h2 (by show (B k (r k) (c k)).natAbs < 2 * (B (k + 2) (r (k + 2)) (c (k + 2))).natAbs; omega)
  have b1 := h1.hr
  have b2 := h2.hr
  have c1 := h1.hc
  have c2 := h2.hc
  omega
end SNW
set_option linter.unusedVariables false
namespace SNW
def swp (k x : Nat) : Nat := if x = 0 then k else if x = k then 0 else x
theorem swp_swp (k x : Nat) : swp k (swp k x) = x := by
  unfold swp
  by_cases h1 : x = 0
  · by_cases h3 : k = 0 <;> simp_all
  · by_cases h2 : x = k <;> simp_all
theorem swp_0 (k : Nat) : swp k 0 = k := by unfold swp; simp
theorem swp_k (k : Nat) : swp k k = 0 := by unfold swp; split <;> simp_all
theorem swp_lt {N k x : Nat} (hk : k < N) (hx : x < N) : swp k x < N := by
  unfold swp
  by_cases h1 : x = 0
  · rw [if_pos h1]; exact hk
  · rw [if_neg h1]; by_cases h2 : x = k
    · rw [if_pos h2]; omega
    · rw [if_neg h2]; exact hx
structure Bij (N : Nat) (f : Nat → Nat) : Prop where
  lt : ∀ i, i < N → f i < N
  inj : ∀ i j, i < N → j < N → f i = f j → i = j
  sur : ∀ x, x < N → ∃ i, i < N ∧ f i = x
theorem Bij.swp {N k : Nat} {f : Nat → Nat} (h : Bij N f) (hk : k < N) : Bij N (fun i => swp k (f i)) := by
  refine ⟨fun i hi => swp_lt hk (h.lt i hi), fun i j hi hj e => h.inj i j hi hj ?_, fun x hx => ?_⟩
  · have := congrArg (SNW.swp k) e
    simpa only [swp_swp] using this
  · obtain ⟨i, hi, e⟩ := h.sur (SNW.swp k x) (swp_lt hk hx)
    exact ⟨i, hi, by show SNW.swp k (f i) = x; rw [e, swp_swp]⟩
theorem Bij.id (N : Nat) : Bij N (fun i => i) := ⟨fun i hi => hi, fun i j _ _ e => e, fun x hx => ⟨x, hx, rfl⟩⟩
def PH (N M R b : Nat) (A : Nat → Nat → Int) : Prop := ∃ (B : Nat → Nat → Nat → Int) (r c f g : Nat → Nat), Chain N M R B r c ∧ (∀ i j, i < N → j < M → B R i j = A (f i) (g j)) ∧ Bij N f ∧ Bij M g ∧ r R < N ∧ c R < M ∧ f (r R) = 0 ∧ g (c R) = 0 ∧ B 0 (r 0) (c 0) ≠ 0 ∧ (B 0 (r 0) (c 0)).natAbs < 2 ^ b
theorem Chain.congr {n m R : Nat} {B B' : Nat → Nat → Nat → Int} {r c r' c' : Nat → Nat} (h : Chain n m R B r c) (hB : ∀ l, l ≤ R → B' l = B l) (hr : ∀ l, l ≤ R → r' l = r l) (hc : ∀ l, l ≤ R → c' l = c l) : Chain n m R B' r' c' := fun l hl => by
  rw [hB l (by omega), hB (l + 1) (by omega), hr l (by omega), hr (l + 1) (by omega), hc l (by omega), hc (l + 1) (by omega)]
  exact h l hl
theorem PH.first {N M b i0 k0 : Nat} {A : Nat → Nat → Int} (hi : i0 < N) (hk : k0 < M) (h0 : A i0 k0 ≠ 0) (hb : (A i0 k0).natAbs < 2 ^ b) : PH N M 0 b (fun i j => A (swp i0 i) (swp k0 j)) := by
  refine ⟨fun _ => A, fun _ => i0, fun _ => k0, swp i0, swp k0, fun l hl => by omega, fun i j _ _ => ?_, (Bij.id N).swp hi, (Bij.id M).swp hk, hi, hk, swp_k _, swp_k _, h0, hb⟩
  show A i j = A (swp i0 (swp i0 i)) (swp k0 (swp k0 j))
  rw [swp_swp, swp_swp]
theorem PH.step {N M R b i0 k0 : Nat} {A A1 : Nat → Nat → Int} (h : PH N M R b A) (hi : i0 < N) (hk : k0 < M) (h00 : A1 0 0 = A 0 0)
    (hcol : ∀ i, 0 < i → i < N → A1 i 0 = (A i 0).fmod (A 0 0))
    (hinn : ∀ i j, 0 < i → i < N → 0 < j → j < M → A1 i j = A i j - (A i 0).fdiv (A 0 0) * A 0 j - (A 0 j).fdiv (A 0 0) * (A i 0).fmod (A 0 0))
    (hrow : (∀ j, 0 < j → j < M → A1 0 j = (A 0 j).fmod (A 0 0)) ∨ ((∀ j, 0 < j → j < M → (A 0 j).fmod (A 0 0) = 0) ∧ (∀ i, 0 < i → i < N → (A i 0).fmod (A 0 0) = 0) ∧ ∀ j, 0 < j → j < M → ∃ z : Int, A1 0 j = z.fmod (A 0 0)))
    (nz : A1 i0 k0 ≠ 0) (least : ∀ i j, i < N → j < M → A1 i j = 0 ∨ (A1 i0 k0).natAbs ≤ (A1 i j).natAbs)
    (first : ∀ i j, i < N → j < M → (i < i0 ∨ i = i0 ∧ j < k0) → A1 i j = 0 ∨ (A1 i0 k0).natAbs < (A1 i j).natAbs)
    (dec : (A1 i0 k0).natAbs < (A 0 0).natAbs) : PH N M (R + 1) b (fun i j => A1 (swp i0 i) (swp k0 j)) := by
  obtain ⟨B, r, c, f, g, hC, hB, hf, hg, rR, cR, fr, gc, b0, b1⟩ := h
  obtain ⟨r1, hr1, er1⟩ := hf.sur i0 hi
  obtain ⟨c1, hc1, ec1⟩ := hg.sur k0 hk
  have fne : ∀ i, i < N → i ≠ r R → 0 < f i := fun i hi hne => Nat.pos_of_ne_zero fun e => hne (hf.inj i (r R) hi rR (e.trans fr.symm))
  have gne : ∀ j, j < M → j ≠ c R → 0 < g j := fun j hj hne => Nat.pos_of_ne_zero fun e => hne (hg.inj j (c R) hj cR (e.trans gc.symm))
  have hp : B R (r R) (c R) = A 0 0 := by rw [hB _ _ rR cR, fr, gc]
  let B' : Nat → Nat → Nat → Int := fun l => if l ≤ R then B l else fun i j => A1 (f i) (g j)
  let r' : Nat → Nat := fun l => if l ≤ R then r l else r1
  let c' : Nat → Nat := fun l => if l ≤ R then c l else c1
  have eB : ∀ l, l ≤ R → B' l = B l := fun l hl => if_pos hl
  have er : ∀ l, l ≤ R → r' l = r l := fun l hl => if_pos hl
  have ec : ∀ l, l ≤ R → c' l = c l := fun l hl => if_pos hl
  have eB1 : B' (R + 1) = fun i j => A1 (f i) (g j) := if_neg (by omega)
  have er' : r' (R + 1) = r1 := if_neg (by omega)
  have ec' : c' (R + 1) = c1 := if_neg (by omega)
  refine ⟨B', r', c', fun i => swp i0 (f i), fun j => swp k0 (g j), ?_, ?_, hf.swp hi, hg.swp hk, ?_, ?_, ?_, ?_, ?_, ?_⟩
  · intro l hl
    by_cases hlR : l < R
    · exact (hC.congr eB er ec) l hlR
    · have e : l = R := by omega
      subst e
      rw [eB l (Nat.le_refl _), er l (Nat.le_refl _), ec l (Nat.le_refl _), eB1, er', ec']
      refine ⟨rR, cR, hr1, hc1, ?_, ?_, ?_, ?_, ?_, ?_, ?_, ?_, ?_⟩
      · show A1 (f r1) (g c1) ≠ 0
        rw [er1, ec1]; exact nz
      · show A1 (f (r l)) (g (c l)) = _
        rw [fr, gc, h00, hp]
      · intro i j hi' hj' hne hne'
        show A1 (f i) (g j) = _
        rw [hp, hB i j hi' hj', hB i _ hi' cR, hB _ j rR hj', fr, gc]
        exact hinn _ _ (fne i hi' hne) (hf.lt i hi') (gne j hj' hne') (hg.lt j hj')
      · intro i hi' hne
        show A1 (f i) (g (c l)) = _
        rw [hp, hB i _ hi' cR, gc]
        exact hcol _ (fne i hi' hne) (hf.lt i hi')
      · rcases hrow with hrow | ⟨h1, h2, h3⟩
        · left
          intro j hj' hne
          show A1 (f (r l)) (g j) = _
          rw [hp, hB _ j rR hj', fr]
          exact hrow _ (gne j hj' hne) (hg.lt j hj')
        · right
          refine ⟨fun j hj' hne => ?_, fun i hi' hne => ?_, fun j hj' hne => ?_⟩
          · rw [hp, hB _ j rR hj', fr]; exact h1 _ (gne j hj' hne) (hg.lt j hj')
          · rw [hp, hB i _ hi' cR, gc]; exact h2 _ (fne i hi' hne) (hf.lt i hi')
          · obtain ⟨z, hz⟩ := h3 _ (gne j hj' hne) (hg.lt j hj')
            refine ⟨z, ?_⟩
            show A1 (f (r l)) (g j) = _
            rw [hp, fr]; exact hz
      · intro i j hi' hj'
        show A1 (f i) (g j) = 0 ∨ (A1 (f r1) (g c1)).natAbs ≤ (A1 (f i) (g j)).natAbs
        rw [er1, ec1]; exact least _ _ (hf.lt i hi') (hg.lt j hj')
      · show (A1 (f r1) (g c1)).natAbs < _
        rw [er1, ec1, hp]; exact dec
      · intro hne j hj'
        show A1 (f (r l)) (g j) = 0 ∨ (A1 (f r1) (g c1)).natAbs < (A1 (f (r l)) (g j)).natAbs
        rw [er1, ec1, fr]
        have i1 : 0 < i0 := by
          rw [← er1]; exact fne r1 hr1 hne
        exact first 0 _ (by omega) (hg.lt j hj') (.inl i1)
      · intro hne
        show A1 (f r1) (g (c l)) = 0 ∨ (A1 (f r1) (g c1)).natAbs < (A1 (f r1) (g (c l))).natAbs
        rw [er1, ec1, gc]
        have k1 : 0 < k0 := by
          rw [← ec1]; exact gne c1 hc1 hne
        exact first i0 0 hi (by omega) (.inr ⟨rfl, k1⟩)
  · intro i j hi' hj'
    rw [eB1]
    show A1 (f i) (g j) = A1 (swp i0 (swp i0 (f i))) (swp k0 (swp k0 (g j)))
    rw [swp_swp, swp_swp]
  · rw [er']; exact hr1
  · rw [ec']; exact hc1
  · rw [er']; show swp i0 (f r1) = 0; rw [er1, swp_k]
  · rw [ec']; show swp k0 (g c1) = 0; rw [ec1, swp_k]
  · rw [eB 0 (Nat.zero_le _), er 0 (Nat.zero_le _), ec 0 (Nat.zero_le _)]; exact b0
  · rw [eB 0 (Nat.zero_le _), er 0 (Nat.zero_le _), ec 0 (Nat.zero_le _)]; exact b1
def rdMax (N M b : Nat) : Nat := if N ≤ 1 ∨ M ≤ 1 then 2 * (1 * b + 1) else if N ≤ 2 ∨ M ≤ 2 then 3 * (5 * b + 1) else 8 * (35 * b + 1)
theorem PH.rounds {N M R b : Nat} {A : Nat → Nat → Int} (hN : N ≤ 3) (hM : M ≤ 4) (h : PH N M R b A) : R < rdMax N M b := by
  obtain ⟨B, r, c, f, g, hC, hB, hf, hg, rR, cR, fr, gc, b0, b1⟩ := h
  unfold rdMax
  split
  · exact rounds1 (by assumption) hC b0 b1
  · split
    · exact rounds2 (by assumption) hC b0 b1
    · exact rounds3 hN hM hC b0 b1
end SNW
set_option linter.unusedVariables false
namespace SNW
abbrev Mx := Nat → Nat → Int
def mi (A : Mx) (i k j l : Nat) : Int := A i j * A k l - A i l * A k j
def de (A : Mx) (i k h j l m : Nat) : Int := A i j * (A k l * A h m - A k m * A h l) - A i l * (A k j * A h m - A k m * A h j) + A i m * (A k j * A h l - A k l * A h j)
structure Rd (A A' : Mx) (r c : Nat) (e f : Nat → Int) (p : Int) : Prop where
  hp : A r c = p
  er : e r = p
  fc : f c = p
  eq : ∀ i j, p * A' i j = mi A r i c j + e i * f j
  eb : ∀ i, (e i).natAbs ≤ p.natAbs
  fb : ∀ j, (f j).natAbs ≤ p.natAbs
  p0 : p ≠ 0
variable {A A' : Mx} {r c : Nat} {e f : Nat → Int} {p : Int}
theorem mi_r (A : Mx) (r c j : Nat) : mi A r r c j = 0 := by unfold mi; rw [Int.mul_comm]; omega
theorem syl (A : Mx) (r c i k j l : Nat) : mi A r i c j * mi A r k c l - mi A r i c l * mi A r k c j = A r c * de A r i k c j l := by
  unfold mi de; grind
theorem Rd.miE (h : Rd A A' r c e f p) (i k j l : Nat) : p * p * mi A' i k j l = p * de A r i k c j l + (mi A r i c j * (e k * f l) + mi A r k c l * (e i * f j) - mi A r i c l * (e k * f j) - mi A r k c j * (e i * f l)) := by
  have s := syl A r c i k j l
  have a := h.eq i j
  have b := h.eq k l
  have d := h.eq i l
  have g := h.eq k j
  have hp := h.hp
  generalize mi A r i c j = m1 at *
  generalize mi A r k c l = m2 at *
  generalize mi A r i c l = m3 at *
  generalize mi A r k c j = m4 at *
  generalize de A r i k c j l = dd at *
  unfold mi
  grind
theorem Rd.deE (h : Rd A A' r c e f p) (i k g j l m : Nat) : p * p * de A' i k g j l m * p = mi A r i c j * (p * de A r k g c l m) - mi A r i c l * (p * de A r k g c j m) + mi A r i c m * (p * de A r k g c j l)
    + (e i * f j * (p * de A r k g c l m) - e i * f l * (p * de A r k g c j m) + e i * f m * (p * de A r k g c j l)
      - e k * f j * (p * de A r i g c l m) + e k * f l * (p * de A r i g c j m) - e k * f m * (p * de A r i g c j l)
      + e g * f j * (p * de A r i k c l m) - e g * f l * (p * de A r i k c j m) + e g * f m * (p * de A r i k c j l)) := by
  have hp := h.hp
  have s1 := syl A r c k g l m
  have s2 := syl A r c k g j m
  have s3 := syl A r c k g j l
  have s4 := syl A r c i g l m
  have s5 := syl A r c i g j m
  have s6 := syl A r c i g j l
  have s7 := syl A r c i k l m
  have s8 := syl A r c i k j m
  have s9 := syl A r c i k j l
  have a1 := h.eq i j
  have a2 := h.eq i l
  have a3 := h.eq i m
  have b1 := h.eq k j
  have b2 := h.eq k l
  have b3 := h.eq k m
  have c1 := h.eq g j
  have c2 := h.eq g l
  have c3 := h.eq g m
  rw [hp] at s1 s2 s3 s4 s5 s6 s7 s8 s9
  rw [← s1, ← s2, ← s3, ← s4, ← s5, ← s6, ← s7, ← s8, ← s9]
  clear s1 s2 s3 s4 s5 s6 s7 s8 s9
  generalize mi A r i c j = x1 at *
  generalize mi A r i c l = x2 at *
  generalize mi A r i c m = x3 at *
  generalize mi A r k c j = y1 at *
  generalize mi A r k c l = y2 at *
  generalize mi A r k c m = y3 at *
  generalize mi A r g c j = z1 at *
  generalize mi A r g c l = z2 at *
  generalize mi A r g c m = z3 at *
  have e1 : x1 = p * A' i j - e i * f j := by omega
  have e2 : x2 = p * A' i l - e i * f l := by omega
  have e3 : x3 = p * A' i m - e i * f m := by omega
  have f1 : y1 = p * A' k j - e k * f j := by omega
  have f2 : y2 = p * A' k l - e k * f l := by omega
  have f3 : y3 = p * A' k m - e k * f m := by omega
  have g1 : z1 = p * A' g j - e g * f j := by omega
  have g2 : z2 = p * A' g l - e g * f l := by omega
  have g3 : z3 = p * A' g m - e g * f m := by omega
  subst e1 e2 e3 f1 f2 f3 g1 g2 g3
  unfold de
  clear a1 a2 a3 b1 b2 b3 c1 c2 c3 hp h
  grind
theorem na_mul {a b : Int} {X Y : Nat} (h1 : a.natAbs ≤ X) (h2 : b.natAbs ≤ Y) : (a * b).natAbs ≤ X * Y := by
  rw [Int.natAbs_mul]; exact Nat.mul_le_mul h1 h2
theorem na_cancel {p a : Int} {X : Nat} (p0 : p ≠ 0) (h : (p * a).natAbs ≤ p.natAbs * X) : a.natAbs ≤ X := by
  rw [Int.natAbs_mul] at h
  exact Nat.le_of_mul_le_mul_left h (Int.natAbs_pos.2 p0)
theorem na_iff {x : Int} {K : Nat} (h : x.natAbs ≤ K) : -(K : Int) ≤ x ∧ x ≤ K := by omega
theorem nine {x1 x2 x3 x4 x5 x6 x7 x8 x9 : Int} {K : Nat} (h1 : x1.natAbs ≤ K) (h2 : x2.natAbs ≤ K) (h3 : x3.natAbs ≤ K) (h4 : x4.natAbs ≤ K) (h5 : x5.natAbs ≤ K) (h6 : x6.natAbs ≤ K) (h7 : x7.natAbs ≤ K) (h8 : x8.natAbs ≤ K) (h9 : x9.natAbs ≤ K) : (0 + (x1 - x2 + x3 - x4 + x5 - x6 + x7 - x8 + x9)).natAbs ≤ 9 * K := by
  have h1 := na_iff h1; have h2 := na_iff h2; have h3 := na_iff h3; have h4 := na_iff h4; have h5 := na_iff h5; have h6 := na_iff h6; have h7 := na_iff h7; have h8 := na_iff h8; have h9 := na_iff h9
  have : -(9 * K : Int) ≤ 0 + (x1 - x2 + x3 - x4 + x5 - x6 + x7 - x8 + x9) ∧ 0 + (x1 - x2 + x3 - x4 + x5 - x6 + x7 - x8 + x9) ≤ 9 * K := by omega
  generalize 0 + (x1 - x2 + x3 - x4 + x5 - x6 + x7 - x8 + x9) = y at *
  clear h1 h2 h3 h4 h5 h6 h7 h8 h9
  omega
section
variable (h : Rd A A' r c e f p)
include h
theorem Rd.b1 {X1 X2 : Nat} (h1 : ∀ i j, (A i j).natAbs ≤ X1) (h2 : ∀ i k j l, (mi A i k j l).natAbs ≤ X2) (i j : Nat) : (A' i j).natAbs ≤ X2 + X1 := by
  refine na_cancel h.p0 ?_
  have e1 := h.eq i j
  have hM : (mi A r i c j).natAbs ≤ X2 := h2 _ _ _ _
  have hE := na_mul (h.eb i) (h.fb j)
  have hp : p.natAbs ≤ X1 := by rw [← h.hp]; exact h1 _ _
  have h0 := Int.natAbs_pos.2 h.p0
  have t1 := Nat.mul_le_mul_left p.natAbs hp
  have t2 := Nat.mul_le_mul_right X2 h0
  rw [Nat.mul_add]
  rw [e1]
  omega
theorem Rd.b2 {X2 X3 : Nat} (h2 : ∀ i k j l, (mi A i k j l).natAbs ≤ X2) (h3 : ∀ i k g j l m, (de A i k g j l m).natAbs ≤ X3) (i k j l : Nat) : (mi A' i k j l).natAbs ≤ X3 + 4 * X2 := by
  have hpp : p * p ≠ 0 := by have := h.p0; exact Int.mul_ne_zero this this
  refine na_cancel hpp ?_
  rw [h.miE i k j l, Int.natAbs_mul]
  have ef := fun i j => na_mul (h.eb i) (h.fb j)
  have t1 := na_mul (Nat.le_refl p.natAbs) (h3 r i k c j l)
  have t2 := na_mul (h2 r i c j) (ef k l)
  have t3 := na_mul (h2 r k c l) (ef i j)
  have t4 := na_mul (h2 r i c l) (ef k j)
  have t5 := na_mul (h2 r k c j) (ef i l)
  have h0 := Int.natAbs_pos.2 h.p0
  have t6 := Nat.mul_le_mul_right (p.natAbs * X3) h0
  rw [Nat.mul_add, Nat.mul_left_comm _ 4, Nat.mul_comm _ X2, Nat.mul_assoc]
  omega
theorem Rd.b2r {X2 : Nat} (h2 : ∀ i k j l, (mi A i k j l).natAbs ≤ X2) (i k j l : Nat) (hr : i = k ∨ i = r ∨ k = r) : (mi A' i k j l).natAbs ≤ 2 * X2 := by
  have hpp : p * p ≠ 0 := by have := h.p0; exact Int.mul_ne_zero this this
  rcases hr with hr | hr | hr
  · subst hr
    have : mi A' i i j l = 0 := by unfold mi; rw [Int.mul_comm]; omega
    rw [this]; omega
  · subst hr
    refine na_cancel hpp ?_
    have d0 : de A i i k c j l = 0 := by unfold de; grind
    rw [h.miE i k j l, Int.natAbs_mul, d0, mi_r, mi_r]
    have ef := fun i j => na_mul (h.eb i) (h.fb j)
    have t3 := na_mul (h2 i k c l) (ef i j)
    have t5 := na_mul (h2 i k c j) (ef i l)
    rw [Nat.mul_left_comm _ 2, Nat.mul_comm _ X2]
    omega
  · subst hr
    refine na_cancel hpp ?_
    have d0 : de A k i k c j l = 0 := by unfold de; grind
    rw [h.miE i k j l, Int.natAbs_mul, d0, mi_r, mi_r]
    have ef := fun i j => na_mul (h.eb i) (h.fb j)
    have t2 := na_mul (h2 k i c j) (ef k l)
    have t4 := na_mul (h2 k i c l) (ef k j)
    rw [Nat.mul_left_comm _ 2, Nat.mul_comm _ X2]
    omega
theorem Rd.b3 {X3 : Nat} (h3 : ∀ i k g j l m, (de A i k g j l m).natAbs ≤ X3) (i k g j l m : Nat) (hr : i = k ∨ i = g ∨ k = g ∨ i = r ∨ k = r ∨ g = r) : (de A' i k g j l m).natAbs ≤ 9 * X3 := by
  have hpp : p * p * p ≠ 0 := by have := h.p0; exact Int.mul_ne_zero (Int.mul_ne_zero this this) this
  by_cases hq : i = k ∨ i = g ∨ k = g
  · have : de A' i k g j l m = 0 := by rcases hq with hq | hq | hq <;> subst hq <;> unfold de <;> grind
    rw [this]; omega
  · have hr : i = r ∨ k = r ∨ g = r := by omega
    have z0 : mi A r i c j * (p * de A r k g c l m) - mi A r i c l * (p * de A r k g c j m) + mi A r i c m * (p * de A r k g c j l) = 0 := by
      rcases hr with hr | hr | hr
      · subst hr; rw [mi_r, mi_r, mi_r]; omega
      · subst hr
        have d0 : ∀ j l, de A k k g c j l = 0 := fun j l => by unfold de; grind
        rw [d0, d0, d0, Int.mul_zero]; omega
      · subst hr
        have d0 : ∀ j l, de A g k g c j l = 0 := fun j l => by unfold de; grind
        rw [d0, d0, d0, Int.mul_zero]; omega
    refine na_cancel hpp ?_
    have hh := h.deE i k g j l m
    rw [z0] at hh
    have ef := fun a b u v w x y z => na_mul (na_mul (h.eb a) (h.fb b)) (na_mul (Nat.le_refl p.natAbs) (h3 u v w x y z))
    have t1 := ef i j r k g c l m
    have t2 := ef i l r k g c j m
    have t3 := ef i m r k g c j l
    have t4 := ef k j r i g c l m
    have t5 := ef k l r i g c j m
    have t6 := ef k m r i g c j l
    have t7 := ef g j r i k c l m
    have t8 := ef g l r i k c j m
    have t9 := ef g m r i k c j l
    have e1 : p * p * p * de A' i k g j l m = p * p * de A' i k g j l m * p := by grind
    rw [e1, hh]
    have e2 : (p * p * p).natAbs * (9 * X3) = 9 * (p.natAbs * p.natAbs * (p.natAbs * X3)) := by rw [Int.natAbs_mul, Int.natAbs_mul]; grind
    rw [e2]
    exact nine t1 t2 t3 t4 t5 t6 t7 t8 t9
end
end SNW
set_option linter.unusedVariables false
namespace SNW
structure Rnd0 (N M : Nat) (A A1 : Mx) : Prop where
  p0 : A 0 0 ≠ 0
  h00 : A1 0 0 = A 0 0
  col : ∀ i, 0 < i → i < N → A1 i 0 = (A i 0).fmod (A 0 0)
  inn : ∀ i j, 0 < i → i < N → 0 < j → j < M → A1 i j = A i j - (A i 0).fdiv (A 0 0) * A 0 j - (A 0 j).fdiv (A 0 0) * (A i 0).fmod (A 0 0)
  row : (∀ j, 0 < j → j < M → A1 0 j = (A 0 j).fmod (A 0 0)) ∨ ((∀ j, 0 < j → j < M → (A 0 j).fmod (A 0 0) = 0) ∧ (∀ i, 0 < i → i < N → (A i 0).fmod (A 0 0) = 0) ∧ ∀ j, 0 < j → j < M → ∃ z : Int, A1 0 j = z.fmod (A 0 0))
  out : ∀ i j, N ≤ i ∨ M ≤ j → A i j = 0
  out1 : ∀ i j, N ≤ i ∨ M ≤ j → A1 i j = 0
  hN : 0 < N
  hM : 0 < M
theorem fmod_abs (x : Int) {p : Int} (h : p ≠ 0) : (x.fmod p).natAbs ≤ p.natAbs := by
  obtain ⟨_, e1, e2⟩ := fm_of x h
  rcases Int.lt_or_gt_of_ne h with q | q
  · have := e2 q; omega
  · have := e1 q; omega
theorem Rnd0.rd {N M : Nat} {A A1 : Mx} (h : Rnd0 N M A A1) : Rd A A1 0 0 (fun i => A1 i 0) (fun j => A1 0 j) (A 0 0) := by
  have zr : ∀ i, N ≤ i → A i 0 = 0 ∧ A1 i 0 = 0 := fun i hi => ⟨h.out i 0 (.inl hi), h.out1 i 0 (.inl hi)⟩
  have zc : ∀ j, M ≤ j → A 0 j = 0 ∧ A1 0 j = 0 := fun j hj => ⟨h.out 0 j (.inr hj), h.out1 0 j (.inr hj)⟩
  refine ⟨rfl, h.h00, h.h00, ?_, ?_, ?_, h.p0⟩
  · intro i j
    by_cases hi : N ≤ i
    · rw [h.out1 i j (.inl hi), (zr i hi).2]; unfold mi; rw [h.out i j (.inl hi), (zr i hi).1]; simp
    by_cases hj : M ≤ j
    · rw [h.out1 i j (.inr hj), (zc j hj).2]; unfold mi; rw [h.out i j (.inr hj), (zc j hj).1]; simp
    rcases Nat.eq_zero_or_pos i with i0 | i0
    · subst i0
      rw [mi_r, h.h00]; omega
    rcases Nat.eq_zero_or_pos j with j0 | j0
    · subst j0
      rw [h.h00]; unfold mi
      rw [Int.mul_comm (A1 i 0), Int.sub_self, Int.zero_add]
    rw [h.inn i j i0 (by omega) j0 (by omega), h.col i i0 (by omega)]
    unfold mi
    obtain ⟨e1, _⟩ := fm_of (A i 0) h.p0
    obtain ⟨e2, _⟩ := fm_of (A 0 j) h.p0
    rcases h.row with hr | ⟨h1, h2, h3⟩
    · rw [hr j j0 (by omega)]
      generalize (A i 0).fdiv (A 0 0) = q at *
      generalize (A 0 j).fdiv (A 0 0) = s at *
      generalize (A i 0).fmod (A 0 0) = x at *
      generalize (A 0 j).fmod (A 0 0) = y at *
      rw [e1, e2]; grind
    · rw [h2 i i0 (by omega)]
      rw [h2 i i0 (by omega)] at e1
      generalize (A i 0).fdiv (A 0 0) = q at *
      rw [e1]; grind
  · intro i
    show (A1 i 0).natAbs ≤ _
    by_cases hi : N ≤ i
    · rw [(zr i hi).2]; simp
    rcases Nat.eq_zero_or_pos i with i0 | i0
    · subst i0; rw [h.h00]; exact Nat.le_refl _
    rw [h.col i i0 (by omega)]; exact fmod_abs _ h.p0
  · intro j
    show (A1 0 j).natAbs ≤ _
    by_cases hj : M ≤ j
    · rw [(zc j hj).2]; simp
    rcases Nat.eq_zero_or_pos j with j0 | j0
    · subst j0; rw [h.h00]; exact Nat.le_refl _
    rcases h.row with hr | ⟨h1, h2, h3⟩
    · rw [hr j j0 (by omega)]; exact fmod_abs _ h.p0
    · obtain ⟨z, hz⟩ := h3 j j0 (by omega)
      rw [hz]; exact fmod_abs _ h.p0
structure Sz (Z : Nat) (A : Mx) : Prop where
  b1 : ∀ i j, (A i j).natAbs ≤ Z
  b2 : ∀ i k j l, (mi A i k j l).natAbs ≤ Z
  b3 : ∀ i k g j l m, (de A i k g j l m).natAbs ≤ Z
theorem Sz.swap {Z : Nat} {A : Mx} (h : Sz Z A) (f g : Nat → Nat) : Sz Z (fun i j => A (f i) (g j)) :=
  ⟨fun i j => h.b1 _ _, fun i k j l => h.b2 (f i) (f k) (g j) (g l), fun i k g' j l m => h.b3 (f i) (f k) (f g') (g j) (g l) (g m)⟩
def grw (N M : Nat) : Nat := if N ≤ 1 ∨ M ≤ 1 then 1 else if N ≤ 2 then 2 else 9
theorem mi_z1 {N M : Nat} {A : Mx} (h : ∀ i j, N ≤ i ∨ M ≤ j → A i j = 0) (hN : N ≤ 1 ∨ M ≤ 1) (i k j l : Nat) : mi A i k j l = 0 := by
  unfold mi
  rcases hN with hN | hN
  · by_cases hi : 1 ≤ i
    · rw [h i j (.inl (by omega)), h i l (.inl (by omega))]; simp
    · by_cases hk : 1 ≤ k
      · rw [h k j (.inl (by omega)), h k l (.inl (by omega))]; simp
      · have e1 : i = 0 := by omega
        have e2 : k = 0 := by omega
        subst e1 e2; rw [Int.mul_comm]; omega
  · by_cases hi : 1 ≤ j
    · rw [h i j (.inr (by omega)), h k j (.inr (by omega))]; simp
    · by_cases hk : 1 ≤ l
      · rw [h i l (.inr (by omega)), h k l (.inr (by omega))]; simp
      · have e1 : j = 0 := by omega
        have e2 : l = 0 := by omega
        subst e1 e2; omega
theorem de_mi (A : Mx) (i k g j l m : Nat) : de A i k g j l m = A i j * mi A k g l m - A i l * mi A k g j m + A i m * mi A k g j l := by
  unfold de mi; grind
theorem de_z2 {N M : Nat} {A : Mx} (h : ∀ i j, N ≤ i ∨ M ≤ j → A i j = 0) (hN : N ≤ 2) (i k g j l m : Nat) : de A i k g j l m = 0 := by
  by_cases hi : 2 ≤ i
  · unfold de; rw [h i j (.inl (by omega)), h i l (.inl (by omega)), h i m (.inl (by omega))]; simp
  by_cases hk : 2 ≤ k
  · unfold de; rw [h k j (.inl (by omega)), h k l (.inl (by omega)), h k m (.inl (by omega))]; simp
  by_cases hg : 2 ≤ g
  · unfold de; rw [h g j (.inl (by omega)), h g l (.inl (by omega)), h g m (.inl (by omega))]; simp
  have : i = k ∨ i = g ∨ k = g := by omega
  rcases this with e | e | e <;> subst e <;> unfold de <;> grind
theorem Sz.step {N M Z : Nat} {A A1 : Mx} (s : Sz Z A) (h : Rnd0 N M A A1) (hN : N ≤ 3) : Sz (grw N M * Z) A1 := by
  have r := h.rd
  unfold grw
  split
  · rename_i h1
    have z := mi_z1 h.out h1
    have z1 := mi_z1 h.out1 h1
    refine ⟨fun i j => ?_, fun i k j l => ?_, fun i k g j l m => ?_⟩
    · have t := r.b1 (X1 := Z) (X2 := 0) s.b1 (fun i k j l => by rw [z]; simp) i j
      omega
    · rw [z1]; simp
    · rw [de_mi, z1, z1, z1]; simp
  · split
    · rename_i h1 h2
      have z1 := de_z2 h.out1 h2
      refine ⟨fun i j => ?_, fun i k j l => ?_, fun i k g j l m => ?_⟩
      · have t := r.b1 s.b1 s.b2 i j; omega
      · by_cases hi : 2 ≤ i
        · unfold mi; rw [h.out1 i j (.inl (by omega)), h.out1 i l (.inl (by omega))]; simp
        by_cases hk : 2 ≤ k
        · unfold mi; rw [h.out1 k j (.inl (by omega)), h.out1 k l (.inl (by omega))]; simp
        exact r.b2r s.b2 i k j l (by omega)
      · rw [z1]; simp
    · refine ⟨fun i j => ?_, fun i k j l => ?_, fun i k g j l m => ?_⟩
      · have t := r.b1 s.b1 s.b2 i j; omega
      · have t := r.b2 s.b2 s.b3 i k j l; omega
      · by_cases hi : 3 ≤ i
        · unfold de; rw [h.out1 i j (.inl (by omega)), h.out1 i l (.inl (by omega)), h.out1 i m (.inl (by omega))]; simp
        by_cases hk : 3 ≤ k
        · unfold de; rw [h.out1 k j (.inl (by omega)), h.out1 k l (.inl (by omega)), h.out1 k m (.inl (by omega))]; simp
        by_cases hg : 3 ≤ g
        · unfold de; rw [h.out1 g j (.inl (by omega)), h.out1 g l (.inl (by omega)), h.out1 g m (.inl (by omega))]; simp
        exact r.b3 s.b3 i k g j l m (by omega)
end SNW
set_option linter.unusedVariables false
namespace SNW
def DV (d : Int) (A : Mx) : Prop := (∀ i j, d ∣ A i j)
def DV2 (d : Int) (A : Mx) : Prop := (∀ i k j l, d ∣ mi A i k j l)
def DV3 (d : Int) (A : Mx) : Prop := (∀ i k g j l m, d ∣ de A i k g j l m)
structure Sub (A A' : Mx) : Prop where
  d1 : ∀ d, DV d A → DV d A'
  d2 : ∀ d, DV2 d A → DV2 d A'
  d3 : ∀ d, DV3 d A → DV3 d A'
theorem Sub.refl (A : Mx) : Sub A A := ⟨fun _ h => h, fun _ h => h, fun _ h => h⟩
theorem Sub.trans {A B C : Mx} (h : Sub A B) (k : Sub B C) : Sub A C := ⟨fun d x => k.d1 d (h.d1 d x), fun d x => k.d2 d (h.d2 d x), fun d x => k.d3 d (h.d3 d x)⟩
def Eqv (A A' : Mx) : Prop := Sub A A' ∧ Sub A' A
theorem Eqv.refl (A : Mx) : Eqv A A := ⟨.refl A, .refl A⟩
theorem Eqv.trans {A B C : Mx} (h : Eqv A B) (k : Eqv B C) : Eqv A C := ⟨h.1.trans k.1, k.2.trans h.2⟩
def rop (A : Mx) (t : Nat) (w : Nat → Int) : Mx := fun i j => A i j + w i * A t j
theorem rop_mi (A : Mx) (t : Nat) (w : Nat → Int) (i k j l : Nat) : mi (rop A t w) i k j l = mi A i k j l + w k * mi A i t j l + w i * mi A t k j l := by
  unfold mi rop; grind
theorem rop_de (A : Mx) (t : Nat) (w : Nat → Int) (i k g j l m : Nat) : de (rop A t w) i k g j l m = de A i k g j l m + w i * de A t k g j l m + w k * de A i t g j l m + w g * de A i k t j l m := by
  unfold de rop; grind
theorem rop_sub (A : Mx) (t : Nat) (w : Nat → Int) : Sub A (rop A t w) := by
  refine ⟨fun d h i j => ?_, fun d h i k j l => ?_, fun d h i k g j l m => ?_⟩
  · exact Int.dvd_add (h i j) (Int.dvd_mul_of_dvd_right (h t j))
  · rw [rop_mi]
    exact Int.dvd_add (Int.dvd_add (h _ _ _ _) (Int.dvd_mul_of_dvd_right (h _ _ _ _))) (Int.dvd_mul_of_dvd_right (h _ _ _ _))
  · rw [rop_de]
    exact Int.dvd_add (Int.dvd_add (Int.dvd_add (h _ _ _ _ _ _) (Int.dvd_mul_of_dvd_right (h _ _ _ _ _ _))) (Int.dvd_mul_of_dvd_right (h _ _ _ _ _ _))) (Int.dvd_mul_of_dvd_right (h _ _ _ _ _ _))
theorem rop_eqv (A : Mx) {t : Nat} {w : Nat → Int} (h : w t = 0) : Eqv A (rop A t w) := by
  refine ⟨rop_sub A t w, ?_⟩
  have e : rop (rop A t w) t (fun i => -w i) = A := by
    funext i j; unfold rop; rw [h]; grind
  have := rop_sub (rop A t w) t (fun i => -w i)
  rw [e] at this; exact this
def tr (A : Mx) : Mx := fun i j => A j i
theorem tr_mi (A : Mx) (i k j l : Nat) : mi (tr A) i k j l = mi A j l i k := by unfold mi tr; grind
theorem tr_de (A : Mx) (i k g j l m : Nat) : de (tr A) i k g j l m = de A j l m i k g := by unfold de tr; grind
theorem Sub.tr {A B : Mx} (h : Sub A B) : Sub (tr A) (tr B) := by
  refine ⟨fun d x i j => h.d1 d (fun a b => x b a) j i, fun d x i k j l => ?_, fun d x i k g j l m => ?_⟩
  · rw [tr_mi]; exact h.d2 d (fun a b c e => by have := x c e a b; rw [tr_mi] at this; exact this) _ _ _ _
  · rw [tr_de]; exact h.d3 d (fun a b c e f g => by have := x e f g a b c; rw [tr_de] at this; exact this) _ _ _ _ _ _
theorem Eqv.tr {A B : Mx} (h : Eqv A B) : Eqv (tr A) (tr B) := ⟨h.1.tr, h.2.tr⟩
def cop (A : Mx) (t : Nat) (w : Nat → Int) : Mx := fun i j => A i j + w j * A i t
theorem cop_eqv (A : Mx) {t : Nat} {w : Nat → Int} (h : w t = 0) : Eqv A (cop A t w) := (rop_eqv (SNW.tr A) h).tr
theorem perm_sub (A : Mx) (f g : Nat → Nat) : Sub A (fun i j => A (f i) (g j)) :=
  ⟨fun d h i j => h _ _, fun d h i k j l => h (f i) (f k) (g j) (g l), fun d h i k e j l m => h (f i) (f k) (f e) (g j) (g l) (g m)⟩
theorem perm_eqv (A : Mx) {f g f' g' : Nat → Nat} (hf : ∀ i, f (f' i) = i) (hg : ∀ j, g (g' j) = j) : Eqv A (fun i j => A (f i) (g j)) := by
  refine ⟨perm_sub A f g, ?_⟩
  have := perm_sub (fun i j => A (f i) (g j)) f' g'
  have e : (fun i j => (fun i j => A (f i) (g j)) (f' i) (g' j)) = A := by funext i j; show A (f (f' i)) (g (g' j)) = _; rw [hf, hg]
  rw [e] at this; exact this
theorem sgn_eqv (A : Mx) {s : Nat → Int} (hs : ∀ i, s i * s i = 1) : Eqv A (fun i j => s i * A i j) := by
  have h1 : ∀ A : Mx, Sub A (fun i j => s i * A i j) := fun A => by
    refine ⟨fun d h i j => Int.dvd_mul_of_dvd_right (h i j), fun d h i k j l => ?_, fun d h i k g j l m => ?_⟩
    · have e : mi (fun i j => s i * A i j) i k j l = (s i * s k) * mi A i k j l := by unfold mi; grind
      rw [e]; exact Int.dvd_mul_of_dvd_right (h _ _ _ _)
    · have e : de (fun i j => s i * A i j) i k g j l m = (s i * s k * s g) * de A i k g j l m := by unfold de; grind
      rw [e]; exact Int.dvd_mul_of_dvd_right (h _ _ _ _ _ _)
  refine ⟨h1 A, ?_⟩
  have := h1 (fun i j => s i * A i j)
  have e : (fun i j => s i * (s i * A i j)) = A := by funext i j; rw [← Int.mul_assoc, hs, Int.one_mul]
  rw [e] at this; exact this
end SNW

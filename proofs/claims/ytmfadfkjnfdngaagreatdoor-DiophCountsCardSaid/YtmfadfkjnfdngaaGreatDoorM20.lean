import Derived.Test.YtmfadfkjnfdngaaGreatDoorM19
import Derived.Test.YtmfadfkjnfdngaaGreatDoorM13
set_option linter.unusedVariables false
set_option linter.unusedSimpArgs false
namespace Go.Proofs.YtmfadfkjnfdngaaGreatDoor
open QM SNW
structure Rel (c : Nat) (A A' : Mx) : Prop where
  e : Eqv A A'
  n : c ≤ 3 → ∀ m, 0 < m → N3 m A = N3 m A'
theorem Rel.refl (c : Nat) (A : Mx) : Rel c A A := ⟨Eqv.refl A, fun _ _ _ => rfl⟩
theorem Rel.trans {c : Nat} {A B C : Mx} (h : Rel c A B) (k : Rel c B C) : Rel c A C := ⟨h.e.trans k.e, fun hc m hm => (h.n hc m hm).trans (k.n hc m hm)⟩
structure Bs (r c t : Nat) (D : Nat → Int) (A : Mx) : Prop where
  out : ∀ i j, r ≤ i ∨ c ≤ j → A i j = 0
  top : ∀ i j, i ≠ j → i < t ∨ j < t → A i j = 0
  dia : ∀ i, i < t → A i i = D i
  dv : ∀ i, i < t → ∀ x y, t ≤ x → t ≤ y → D i ∣ A x y
section
variable {r c t : Nat} {D : Nat → Int} {A : Mx}
theorem Bs.perm (h : Bs r c t D A) {f g : Nat → Nat} (f1 : ∀ x, x < t → f x = x) (f2 : ∀ x, t ≤ x → t ≤ f x) (f3 : ∀ x, r ≤ x → r ≤ f x) (g1 : ∀ x, x < t → g x = x) (g2 : ∀ x, t ≤ x → t ≤ g x) (g3 : ∀ x, c ≤ x → c ≤ g x) : Bs r c t D (fun x y => A (f x) (g y)) := by
  refine ⟨fun i j hij => h.out _ _ (hij.imp (f3 i) (g3 j)), fun i j hne hij => ?_, fun i hi => ?_, fun i hi x y hx hy => h.dv i hi _ _ (f2 x hx) (g2 y hy)⟩
  · show A (f i) (g j) = 0
    by_cases hi : i < t
    · rw [f1 i hi]
      by_cases hj : j < t
      · rw [g1 j hj]; exact h.top i j hne hij
      · have := g2 j (by omega)
        exact h.top i (g j) (by omega) (.inl hi)
    · have hj : j < t := by omega
      rw [g1 j hj]
      have := f2 i (by omega)
      exact h.top (f i) j (by omega) (.inr hj)
  · show A (f i) (g i) = D i
    rw [f1 i hi, g1 i hi]; exact h.dia i hi
theorem Bs.rop (h : Bs r c t D A) {k : Nat} {w : Nat → Int} (hk : t ≤ k) (hw : ∀ x, x < t ∨ r ≤ x → w x = 0) : Bs r c t D (rop A k w) := by
  refine ⟨fun i j hij => ?_, fun i j hne hij => ?_, fun i hi => ?_, fun i hi x y hx hy => ?_⟩
  · show A i j + w i * A k j = 0
    rcases hij with hij | hij
    · rw [h.out i j (.inl hij), hw i (.inr hij), Int.zero_mul]; rfl
    · rw [h.out i j (.inr hij), h.out k j (.inr hij), Int.mul_zero]; rfl
  · show A i j + w i * A k j = 0
    rw [h.top i j hne hij]
    by_cases hi : i < t
    · rw [hw i (.inl hi), Int.zero_mul]; rfl
    · rw [h.top k j (by omega) (.inr (by omega)), Int.mul_zero]; rfl
  · show A i i + w i * A k i = D i
    rw [hw i (.inl hi), Int.zero_mul, Int.add_zero]; exact h.dia i hi
  · exact Int.dvd_add (h.dv i hi x y hx hy) (Int.dvd_mul_of_dvd_right (h.dv i hi k y hk hy))
theorem Bs.cop (h : Bs r c t D A) {k : Nat} {w : Nat → Int} (hk : t ≤ k) (hw : ∀ x, x < t ∨ c ≤ x → w x = 0) : Bs r c t D (cop A k w) := by
  refine ⟨fun i j hij => ?_, fun i j hne hij => ?_, fun i hi => ?_, fun i hi x y hx hy => ?_⟩
  · show A i j + w j * A i k = 0
    rcases hij with hij | hij
    · rw [h.out i j (.inl hij), h.out i k (.inl hij), Int.mul_zero]; rfl
    · rw [h.out i j (.inr hij), hw j (.inr hij), Int.zero_mul]; rfl
  · show A i j + w j * A i k = 0
    rw [h.top i j hne hij]
    by_cases hj : j < t
    · rw [hw j (.inl hj), Int.zero_mul]; rfl
    · rw [h.top i k (by omega) (.inl (by omega)), Int.mul_zero]; rfl
  · show A i i + w i * A i k = D i
    rw [hw i (.inl hi), Int.zero_mul, Int.add_zero]; exact h.dia i hi
  · exact Int.dvd_add (h.dv i hi x y hx hy) (Int.dvd_mul_of_dvd_right (h.dv i hi x k hx hk))
theorem Bs.sgn (h : Bs r c t D A) {s : Nat → Int} (hs : ∀ x, x < t → s x = 1) : Bs r c t D (fun i j => s i * A i j) := by
  refine ⟨fun i j hij => by rw [h.out i j hij, Int.mul_zero], fun i j hne hij => by rw [h.top i j hne hij, Int.mul_zero], fun i hi => by rw [hs i hi, Int.one_mul]; exact h.dia i hi, fun i hi x y hx hy => Int.dvd_mul_of_dvd_right (h.dv i hi x y hx hy)⟩
end
def sg (t i x : Nat) : Nat := if x = i then t else if x = t then i else x
theorem sg_sg (t i x : Nat) : sg t i (sg t i x) = x := by
  unfold sg
  by_cases h1 : x = i
  · rw [if_pos h1]
    by_cases h2 : t = i
    · rw [if_pos h2]; omega
    · rw [if_neg h2, if_pos rfl]; omega
  · rw [if_neg h1]
    by_cases h2 : x = t
    · rw [if_pos h2, if_pos rfl]; omega
    · rw [if_neg h2, if_neg h1, if_neg h2]
theorem sg_lt {t i x : Nat} (hi : t ≤ i) (hx : x < t) : sg t i x = x := by unfold sg; rw [if_neg (by omega), if_neg (by omega)]
theorem sg_ge {t i x : Nat} (hi : t ≤ i) (hx : t ≤ x) : t ≤ sg t i x := by unfold sg; split <;> (try split) <;> omega
theorem sg_out {t i x r : Nat} (ht : t < r) (hi : i < r) (hx : r ≤ x) : r ≤ sg t i x := by unfold sg; rw [if_neg (by omega), if_neg (by omega)]; exact hx
theorem sg_swp (t i x : Nat) : sg t (t + i) (t + x) = t + swp i x := by
  unfold sg swp
  by_cases h1 : x = 0
  · subst h1
    rw [if_pos rfl]
    by_cases h2 : t + 0 = t + i
    · rw [if_pos h2]; omega
    · rw [if_neg h2, if_pos (by omega)]
  · rw [if_neg h1]
    by_cases h2 : x = i
    · subst h2; rw [if_pos rfl, if_pos rfl]; rfl
    · rw [if_neg (by omega), if_neg (by omega), if_neg h2]
section
variable {r c t : Nat} {D : Nat → Int} {A : Mx}
theorem s1_eq (q : Nat × Nat) : swF (srF A t q.1) t q.2 = fun x y => A (sg t q.1 x) (sg t q.2 y) := rfl
theorem s1_bs (h : Bs r c t D A) {q : Nat × Nat} (ht : t < r) (htc : t < c) (h1 : t ≤ q.1) (h2 : q.1 < r) (h3 : t ≤ q.2) (h4 : q.2 < c) : Bs r c t D (swF (srF A t q.1) t q.2) := by
  rw [s1_eq]
  exact h.perm (fun x hx => sg_lt h1 hx) (fun x hx => sg_ge h1 hx) (fun x hx => sg_out ht h2 hx) (fun x hx => sg_lt h3 hx) (fun x hx => sg_ge h3 hx) (fun x hx => sg_out htc h4 hx)
theorem s1_eqv (q : Nat × Nat) (htc : t < c) (h4 : q.2 < c) : Rel c A (swF (srF A t q.1) t q.2) := by
  rw [s1_eq]
  refine ⟨perm_eqv A (f' := sg t q.1) (g' := sg t q.2) (fun i => sg_sg _ _ i) (fun j => sg_sg _ _ j), fun hc m hm => ?_⟩
  rw [rperm_N3 (A := A) (f := sg t q.1) (f' := sg t q.1) (fun i => sg_sg _ _ i)]
  exact cperm_N3 (t := t) (q := q.2) (by omega) (by omega) (fun j => rfl)
def wR (A : Mx) (t r x : Nat) : Int := if t < x ∧ x < r then -(zfq (A x t) (A t t)) else 0
def wC (A : Mx) (t c y : Nat) : Int := if t < y ∧ y < c then -(zfq (A t y) (A t t)) else 0
theorem clR_rop : clR A t r = rop A t (wR A t r) := by
  funext x y
  unfold clR rop wR
  split
  · rfl
  · rw [Int.zero_mul, Int.add_zero]
theorem clC_cop : clC A t c = cop A t (wC A t c) := by
  funext x y
  unfold clC cop wC
  split
  · rfl
  · rw [Int.zero_mul, Int.add_zero]
theorem s2_bs (h : Bs r c t D A) : Bs r c t D (cA A t r c) := by
  unfold cA
  rw [clC_cop, clR_rop]
  refine (h.rop (Nat.le_refl t) fun x hx => ?_).cop (Nat.le_refl t) fun x hx => ?_
  · exact if_neg (by omega)
  · exact if_neg (by omega)
theorem s2_eqv (htc : t < c) : Rel c A (cA A t r c) := by
  unfold cA
  rw [clC_cop, clR_rop]
  refine ⟨(rop_eqv A (if_neg (by omega))).trans (cop_eqv _ (if_neg (by omega))), fun hc m hm => ?_⟩
  rw [rop_N3 (A := A) (t := t) (w := wR A t r) (if_neg (by omega))]
  exact cop_N3 hm (by omega) (if_neg (by omega))
theorem s3_rop {i : Nat} : adF A t i 1 = rop A i (fun x => if x = t then 1 else 0) := by
  funext x y
  unfold adF rop
  dsimp only
  by_cases h : x = t
  · subst h; rw [if_pos rfl, if_pos rfl]
  · rw [if_neg h, if_neg h, Int.zero_mul, Int.add_zero]
theorem s3_bs (h : Bs r c t D A) {i : Nat} (ht : t < r) (hi : t < i) : Bs r c t D (adF A t i 1) := by
  rw [s3_rop]
  exact h.rop (by omega) fun x hx => if_neg (by omega)
theorem s3_eqv {i : Nat} (hi : t < i) : Rel c A (adF A t i 1) := by
  rw [s3_rop]
  exact ⟨rop_eqv A (if_neg (by omega)), fun hc m hm => rop_N3 (if_neg (by omega))⟩
theorem s4_sgn : ngF A t = fun i j => (if i = t then (-1 : Int) else 1) * A i j := by
  funext x y
  unfold ngF
  by_cases h : x = t
  · subst h; rw [if_pos rfl, if_pos rfl, Int.neg_mul, Int.one_mul]
  · rw [if_neg h, if_neg h, Int.one_mul]
theorem s4_bs (h : Bs r c t D A) : Bs r c t D (ngF A t) := by
  rw [s4_sgn]
  exact h.sgn fun x hx => if_neg (by omega)
theorem s4_eqv : Rel c A (ngF A t) := by
  rw [s4_sgn]
  have hs : ∀ i, (if i = t then (-1 : Int) else 1) * (if i = t then (-1 : Int) else 1) = 1 := fun i => by split <;> decide
  exact ⟨sgn_eqv A hs, fun hc m hm => sgn_N3 hs⟩
theorem cA_00 : cA A t r c t t = A t t := by
  unfold cA
  rw [clC_col, clR_row]
theorem mod_z {x p : Int} (h : p ≠ 0) : x + -(zfq x p) * p = x.fmod p := by
  unfold zfq
  rw [if_neg h]
  obtain ⟨e, _⟩ := fm_of x h
  rw [Int.neg_mul, Int.mul_comm]; omega
theorem cA_col (h0 : A t t ≠ 0) {x : Nat} (h1 : t < x) (h2 : x < r) : cA A t r c x t = (A x t).fmod (A t t) := by
  unfold cA
  rw [clC_col]
  unfold clR
  rw [if_pos ⟨h1, h2⟩]; exact mod_z h0
theorem cA_row (h0 : A t t ≠ 0) {y : Nat} (h1 : t < y) (h2 : y < c) : cA A t r c t y = (A t y).fmod (A t t) := by
  unfold cA clC
  rw [if_pos ⟨h1, h2⟩, clR_row, clR_row]; exact mod_z h0
theorem cA_inn (h0 : A t t ≠ 0) {x y : Nat} (h1 : t < x) (h2 : x < r) (h3 : t < y) (h4 : y < c) : cA A t r c x y = A x y - (A x t).fdiv (A t t) * A t y - (A t y).fdiv (A t t) * (A x t).fmod (A t t) := by
  have e1 : clR A t r x t = (A x t).fmod (A t t) := by unfold clR; rw [if_pos ⟨h1, h2⟩]; exact mod_z h0
  unfold cA clC
  rw [if_pos ⟨h3, h4⟩, clR_row, clR_row, e1]
  unfold clR
  rw [if_pos ⟨h1, h2⟩]
  unfold zfq
  rw [if_neg h0, if_neg h0, Int.neg_mul, Int.neg_mul]; omega
theorem zfr_z {x p : Int} (h : p ≠ 0) : decide (isign (zfr x p) = 0) = decide (x.fmod p = 0) := by
  rw [decide_eq_decide, isign_ne]
  unfold zfr
  rw [if_neg h]
theorem flR_spec (h0 : A t t ≠ 0) : ∀ n, flR A t n = true ↔ ∀ x, t < x → x < n → (A x t).fmod (A t t) = 0
  | 0 => ⟨fun _ x _ h => by omega, fun _ => rfl⟩
  | n + 1 => by
    conv => lhs; unfold flR
    rw [Bool.and_eq_true, flR_spec h0 n, Bool.or_eq_true, decide_eq_true_iff, zfr_z h0, decide_eq_true_iff]
    refine ⟨fun ⟨h1, h2⟩ x hx hn => ?_, fun h => ⟨fun x hx hn => h x hx (by omega), ?_⟩⟩
    · by_cases e : x = n
      · subst e; exact h2.resolve_left (by omega)
      · exact h1 x hx (by omega)
    · by_cases e : n ≤ t
      · exact .inl e
      · exact .inr (h n (by omega) (Nat.lt_succ_self _))
theorem flC_spec {b : Bool} (h0 : A t t ≠ 0) : ∀ n, flC A t b n = true ↔ b = true ∧ ∀ y, t < y → y < n → (A t y).fmod (A t t) = 0
  | 0 => ⟨fun h => ⟨h, fun x _ h => by omega⟩, fun h => h.1⟩
  | n + 1 => by
    conv => lhs; unfold flC
    rw [Bool.and_eq_true, flC_spec h0 n, Bool.or_eq_true, decide_eq_true_iff, zfr_z h0, decide_eq_true_iff]
    refine ⟨fun ⟨⟨hb, h1⟩, h2⟩ => ⟨hb, fun x hx hn => ?_⟩, fun ⟨hb, h⟩ => ⟨⟨hb, fun x hx hn => h x hx (by omega)⟩, ?_⟩⟩
    · by_cases e : x = n
      · subst e; exact h2.resolve_left (by omega)
      · exact h1 x hx (by omega)
    · by_cases e : n ≤ t
      · exact .inl e
      · exact .inr (h n (by omega) (Nat.lt_succ_self _))
theorem cF_spec (h0 : A t t ≠ 0) : cF A t r c = true ↔ (∀ x, t < x → x < r → (A x t).fmod (A t t) = 0) ∧ ∀ y, t < y → y < c → (A t y).fmod (A t t) = 0 := by
  have h1 : clR A t r t t ≠ 0 := by rw [clR_row]; exact h0
  unfold cF
  rw [flC_spec h1, flR_spec h0]
  refine and_congr Iff.rfl (forall_congr' fun y => ?_)
  rw [clR_row, clR_row]
end
def sub (A : Mx) (t : Nat) : Mx := fun i j => A (t + i) (t + j)
section
variable {r c t : Nat} {D : Nat → Int} {A : Mx}
theorem sub_out (h : Bs r c t D A) (i j : Nat) (hij : r - t ≤ i ∨ c - t ≤ j) : sub A t i j = 0 := h.out _ _ (by omega)
theorem sub_s1 (q : Nat × Nat) (h1 : t ≤ q.1) (h2 : t ≤ q.2) : sub (swF (srF A t q.1) t q.2) t = fun i j => sub A t (swp (q.1 - t) i) (swp (q.2 - t) j) := by
  funext i j
  show A (sg t q.1 (t + i)) (sg t q.2 (t + j)) = A (t + swp (q.1 - t) i) (t + swp (q.2 - t) j)
  have e1 := sg_swp t (q.1 - t) i
  have e2 := sg_swp t (q.2 - t) j
  rw [show t + (q.1 - t) = q.1 by omega] at e1
  rw [show t + (q.2 - t) = q.2 by omega] at e2
  rw [e1, e2]
theorem rnd_l (h : Bs r c t D A) (ht : t < r) (htc : t < c) (h0 : A t t ≠ 0) : Rnd0 (r - t) (c - t) (sub A t) (sub (cA A t r c) t) := by
  refine ⟨h0, cA_00, fun i hi hr => cA_col h0 (by omega) (by omega), fun i j hi hr hj hc => cA_inn h0 (by omega) (by omega) (by omega) (by omega), .inl fun j hj hc => cA_row h0 (by omega) (by omega), sub_out h, sub_out (s2_bs h), by omega, by omega⟩
theorem rnd_r (h : Bs r c t D A) (ht : t < r) (htc : t < c) (h0 : A t t ≠ 0) (hf : cF A t r c = true) {i : Nat} (hi : t < i) (hir : i < r) :
    Rnd0 (r - t) (c - t) (sub A t) (sub (cA (adF (cA A t r c) t i 1) t r c) t) ∧ adF (cA A t r c) t i 1 t t = A t t ∧ ∀ y, t < y → y < c → cA (adF (cA A t r c) t i 1) t r c t y = (cA A t r c i y).fmod (A t t) := by
  obtain ⟨f1, f2⟩ := (cF_spec h0).1 hf
  have c0 : ∀ x, t < x → x < r → cA A t r c x t = 0 := fun x h1 h2 => by rw [cA_col h0 h1 h2]; exact f1 x h1 h2
  have r0 : ∀ y, t < y → y < c → cA A t r c t y = 0 := fun y h1 h2 => by rw [cA_row h0 h1 h2]; exact f2 y h1 h2
  have hb := s3_bs (s2_bs h) ht hi (i := i)
  have e00 : adF (cA A t r c) t i 1 t t = A t t := by
    unfold adF
    rw [if_pos rfl, cA_00, c0 i hi hir]; omega
  have e0 : adF (cA A t r c) t i 1 t t ≠ 0 := by rw [e00]; exact h0
  have ex : ∀ x y, x ≠ t → adF (cA A t r c) t i 1 x y = cA A t r c x y := fun x y hx => if_neg hx
  have et : ∀ y, t < y → y < c → adF (cA A t r c) t i 1 t y = cA A t r c i y := fun y h1 h2 => by
    unfold adF
    rw [if_pos rfl, r0 y h1 h2]; omega
  have row : ∀ y, t < y → y < c → cA (adF (cA A t r c) t i 1) t r c t y = (cA A t r c i y).fmod (A t t) := fun y h1 h2 => by
    rw [cA_row e0 h1 h2, e00, et y h1 h2]
  have z0 : (0 : Int).fmod (A t t) = 0 := (fd0 h0).2
  have d0 : (0 : Int).fdiv (A t t) = 0 := (fd0 h0).1
  refine ⟨⟨h0, ?_, fun x hx hr => ?_, fun x y hx hr hy hc => ?_, .inr ⟨fun y hy hc => f2 _ (by omega) (by omega), fun x hx hr => f1 _ (by omega) (by omega), fun y hy hc => ⟨_, row (t + y) (by omega) (by omega)⟩⟩, sub_out h, sub_out (s2_bs hb), by omega, by omega⟩, e00, row⟩
  · show cA (adF (cA A t r c) t i 1) t r c t t = A t t
    rw [cA_00]; exact e00
  · show cA (adF (cA A t r c) t i 1) t r c (t + x) t = (A (t + x) t).fmod (A t t)
    rw [cA_col e0 (by omega) (by omega), e00, ex _ _ (by omega), c0 _ (by omega) (by omega), f1 _ (by omega) (by omega)]; exact z0
  · show cA (adF (cA A t r c) t i 1) t r c (t + x) (t + y) = A (t + x) (t + y) - (A (t + x) t).fdiv (A t t) * A t (t + y) - (A t (t + y)).fdiv (A t t) * (A (t + x) t).fmod (A t t)
    rw [cA_inn e0 (by omega) (by omega) (by omega) (by omega), e00, ex _ _ (by omega), ex _ _ (by omega), c0 _ (by omega) (by omega), d0, z0, cA_inn h0 (by omega) (by omega) (by omega) (by omega)]
    rw [Int.zero_mul, Int.mul_zero]; omega
end
end Go.Proofs.YtmfadfkjnfdngaaGreatDoor
set_option linter.unusedVariables false
set_option linter.unusedSimpArgs false
namespace Go.Proofs.YtmfadfkjnfdngaaGreatDoor
open QM SNW
def lgw (N M : Nat) : Nat := if N ≤ 1 ∨ M ≤ 1 then 0 else if N ≤ 2 then 1 else 4
theorem grw_le (N M : Nat) : grw N M ≤ 2 ^ lgw N M := by
  unfold grw lgw
  split
  · decide
  · split <;> decide
theorem _root_.SNW.Sz.mono {Z Z' : Nat} {A : Mx} (h : Sz Z A) (hZ : Z ≤ Z') : Sz Z' A := ⟨fun i j => Nat.le_trans (h.b1 i j) hZ, fun i k j l => Nat.le_trans (h.b2 i k j l) hZ, fun i k g j l m => Nat.le_trans (h.b3 i k g j l m) hZ⟩
theorem _root_.SNW.Sz.next {N M e n : Nat} {A A1 : Mx} (s : Sz (2 ^ (e + lgw N M * n)) A) (h : Rnd0 N M A A1) (hN : N ≤ 3) : Sz (2 ^ (e + lgw N M * (n + 1))) A1 := by
  refine Sz.mono (s.step h hN) ?_
  rw [Nat.mul_succ, ← Nat.add_assoc, Nat.pow_add _ (e + lgw N M * n), Nat.mul_comm]
  exact Nat.mul_le_mul_left _ (grw_le N M)
theorem WB_p2 (K : Nat) : WB ^ K = 2 ^ (64 * K) := by rw [WB_eq, Nat.pow_mul]
theorem fmod_lt' (x : Int) {p : Int} (h : p ≠ 0) : (x.fmod p).natAbs < p.natAbs := by
  obtain ⟨_, e1, e2⟩ := fm_of x h
  rcases Int.lt_or_gt_of_ne h with q | q
  · have := e2 q; omega
  · have := e1 q; omega
theorem zexok_dv {x p : Int} (h : p ≠ 0) (k : zexok x p = true) : p ∣ x := by
  unfold zexok zrem at k
  rw [if_neg h, Bool.and_eq_true, decide_eq_true_iff, decide_eq_true_iff] at k
  exact Int.dvd_of_tmod_eq_zero k.2
theorem zexok_nz {x p : Int} (h : p ≠ 0) (k : zexok x p = false) : x.fmod p ≠ 0 := fun e => by
  obtain ⟨e1, _⟩ := fm_of x h
  rw [e, Int.add_zero] at e1
  have hd : p ∣ x := ⟨_, e1⟩
  unfold zexok zrem at k
  rw [if_neg h, Int.tmod_eq_zero_of_dvd hd, decide_eq_true h] at k
  cases k
structure IV (r c t pb zb K L0 : Nat) (D : Nat → Int) (A0 : Mx) (n : Nat) (s : SW) : Prop where
  bs : Bs r c t D s.a
  eqv : Rel c A0 s.a
  sz : Sz (2 ^ (zb + lgw (r - t) (c - t) * n)) (sub s.a t)
  u : ∀ x y, x < r → y < r → (s.u x y).natAbs < WB ^ (L0 + n * (2 * K + 4))
  v : ∀ x y, x < c → y < c → (s.v x y).natAbs < WB ^ (L0 + n * (2 * K + 4))
  hd : (n = 0 ∧ ∀ i j, (sub s.a t i j).natAbs < 2 ^ pb) ∨ ∃ m P i j, n = m + 1 ∧ PH (r - t) (c - t) m pb P ∧ Rnd0 (r - t) (c - t) P (sub s.a t) ∧ i < r - t ∧ j < c - t ∧ sub s.a t i j ≠ 0 ∧ (sub s.a t i j).natAbs < (P 0 0).natAbs
structure Stg (r c t pb zb K : Nat) (D : Nat → Int) : Prop where
  ht : t < r
  htc : t < c
  hr : r ≤ 3
  hc : c ≤ 4
  hK : zb + lgw (r - t) (c - t) * rdMax (r - t) (c - t) pb < 64 * K
  hD : ∀ i, i < t → (D i).natAbs < WB ^ K
abbrev lBd (r c t pb K L0 : Nat) : Nat := L0 + (rdMax (r - t) (c - t) pb + 1) * (2 * K + 4)
section
variable {r c t pb zb K L0 n : Nat} {D : Nat → Int} {A0 : Mx} {s : SW}
theorem abd {e : Nat} {A : Mx} (S : Stg r c t pb zb K D) (h : Bs r c t D A) (hs : Sz (2 ^ e) (sub A t)) (he : e < 64 * K) (x y : Nat) : (A x y).natAbs < WB ^ K := by
  have h0 : 0 < WB ^ K := Nat.pow_pos WB_pos
  by_cases hx : x < t ∨ y < t
  · by_cases e : x = y
    · subst e
      rw [h.dia x (by omega)]; exact S.hD x (by omega)
    · rw [h.top x y e hx]; exact h0
  · have := hs.b1 (x - t) (y - t)
    unfold sub at this
    rw [show t + (x - t) = x by omega, show t + (y - t) = y by omega] at this
    rw [WB_p2]
    exact Nat.lt_of_le_of_lt this (Nat.pow_lt_pow_right (by decide) he)
theorem IV.nle (S : Stg r c t pb zb K D) (h : IV r c t pb zb K L0 D A0 n s) : n ≤ rdMax (r - t) (c - t) pb := by
  rcases h.hd with ⟨h0, _⟩ | ⟨m, P, i, j, h1, h2, _⟩
  · omega
  · have hr := S.hr
    have hc := S.hc
    have := h2.rounds (by omega) (by omega)
    omega
theorem lbd_le {m : Nat} (h : m ≤ rdMax (r - t) (c - t) pb + 1) : L0 + m * (2 * K + 4) ≤ lBd r c t pb K L0 := Nat.add_le_add_left (Nat.mul_le_mul_right _ h) _
theorem zbd_lt (S : Stg r c t pb zb K D) {m : Nat} (h : m ≤ rdMax (r - t) (c - t) pb) : zb + lgw (r - t) (c - t) * m < 64 * K := Nat.lt_of_le_of_lt (Nat.add_le_add_left (Nat.mul_le_mul_left _ h) _) S.hK
theorem IV.mid (S : Stg r c t pb zb K D) (h : IV r c t pb zb K L0 D A0 n s) {q : Nat × Nat} (ho : lsAll s.a t (c - t) (r - t) = some q) :
    Bs r c t D (sw1 t q s).a ∧ Rel c A0 (sw1 t q s).a ∧ Sz (2 ^ (zb + lgw (r - t) (c - t) * n)) (sub (sw1 t q s).a t) ∧ (sw1 t q s).a t t ≠ 0 ∧ PH (r - t) (c - t) n pb (sub (sw1 t q s).a t) ∧ n < rdMax (r - t) (c - t) pb ∧ q.1 < r ∧ q.2 < c := by
  have ht := S.ht
  have htc := S.htc
  have hr := S.hr
  have hc := S.hc
  obtain ⟨p1, p2, p3, p4⟩ := (lsAll_ok (A := s.a) (show t + (c - t) = c by omega) (r - t)).so q ho
  have q1 : t ≤ q.1 ∧ q.1 < r := by omega
  have q2 : t ≤ q.2 ∧ q.2 < c := by omega
  have es : sub (sw1 t q s).a t = fun i j => sub s.a t (swp (q.1 - t) i) (swp (q.2 - t) j) := sub_s1 q q1.1 q2.1
  have e00 : sub s.a t (q.1 - t) (q.2 - t) = s.a q.1 q.2 := by unfold sub; rw [show t + (q.1 - t) = q.1 by omega, show t + (q.2 - t) = q.2 by omega]
  have nz : sub s.a t (q.1 - t) (q.2 - t) ≠ 0 := by rw [e00]; exact p2
  have lst : ∀ i j, i < r - t → j < c - t → sub s.a t i j = 0 ∨ (sub s.a t (q.1 - t) (q.2 - t)).natAbs ≤ (sub s.a t i j).natAbs := fun i j hi hj => by
    rw [e00]; exact p3 (t + i) (t + j) (by omega)
  have fst : ∀ i j, i < r - t → j < c - t → (i < q.1 - t ∨ i = q.1 - t ∧ j < q.2 - t) → sub s.a t i j = 0 ∨ (sub s.a t (q.1 - t) (q.2 - t)).natAbs < (sub s.a t i j).natAbs := fun i j hi hj hl => by
    rw [e00]; exact p4 (t + i) (t + j) (by omega) (by omega)
  have ph : PH (r - t) (c - t) n pb (sub (sw1 t q s).a t) := by
    rw [es]
    rcases h.hd with ⟨h0, hb⟩ | ⟨m, P, i, j, h1, h2, h3, h4, h5, h6, h7⟩
    · rw [h0]
      exact PH.first (by omega) (by omega) nz (hb _ _)
    · rw [h1]
      exact PH.step h2 (by omega) (by omega) h3.h00 h3.col h3.inn h3.row nz lst fst (Nat.lt_of_le_of_lt ((lst i j h4 h5).resolve_left h6) h7)
  refine ⟨s1_bs h.bs ht htc q1.1 q1.2 q2.1 q2.2, h.eqv.trans (s1_eqv q htc q2.2), ?_, ?_, ph, ph.rounds (by omega) (by omega), q1.2, q2.2⟩
  · rw [es]; exact h.sz.swap _ _
  · have : sub (sw1 t q s).a t 0 0 ≠ 0 := by
      rw [es]
      show sub s.a t (swp (q.1 - t) 0) (swp (q.2 - t) 0) ≠ 0
      rw [swp_0, swp_0]; exact nz
    exact this
theorem IV.ok (S : Stg r c t pb zb K D) (h : IV r c t pb zb K L0 D A0 n s) : PlOK r c t K (lBd r c t pb K L0) s (fun s' => IV r c t pb zb K L0 D A0 (n + 1) s') := by
  have ht := S.ht
  have htc := S.htc
  have hr := S.hr
  have hc := S.hc
  have hn := h.nle S
  have ga := abd S h.bs h.sz (zbd_lt S hn)
  refine ⟨⟨fun x y _ _ => ga x y, fun x y hx hy => upz_lt (h.u x y hx hy) (lbd_le (m := n) (by omega)), fun x y hx hy => upz_lt (h.v x y hx hy) (lbd_le (m := n) (by omega))⟩, fun q ho => ?_⟩
  obtain ⟨b1, b2, b3, b4, b5, b6, q1, q2⟩ := h.mid S ho
  have gB := abd S b1 b3 (zbd_lt S hn)
  have uB : ∀ x y, x < r → y < r → ((sw1 t q s).u x y).natAbs < WB ^ (L0 + n * (2 * K + 4)) := srF_lt h.u ht q1
  have vB : ∀ x y, x < c → y < c → ((sw1 t q s).v x y).natAbs < WB ^ (L0 + n * (2 * K + 4)) := swF_lt h.v htc q2
  generalize sw1 t q s = B at *
  have R := rnd_l b1 ht htc b4
  have z2 := Sz.next b3 R (by omega)
  have e2 := zbd_lt S (show n + 1 ≤ rdMax (r - t) (c - t) pb by omega)
  have bs2 := s2_bs b1
  have eq2 := b2.trans (s2_eqv (r := r) htc)
  have g2 := abd S bs2 z2 e2
  have u2 : ∀ x y, x < r → y < r → (clU B.a B.u t r x y).natAbs < WB ^ (K + (L0 + n * (2 * K + 4)) + 1) := clU_lt (fun x y _ _ => gB x y) uB ht htc
  have v2 : ∀ x y, x < c → y < c → (cV B.a B.v t r c x y).natAbs < WB ^ (K + (L0 + n * (2 * K + 4)) + 1) := clV_lt (fun y _ => by rw [clR_row]; exact gB t y) vB htc
  have hl1 : L0 + (n + 1) * (2 * K + 4) = L0 + n * (2 * K + 4) + (2 * K + 4) := by rw [Nat.succ_mul, Nat.add_assoc]
  have hl2 := lbd_le (r := r) (c := c) (t := t) (pb := pb) (K := K) (L0 := L0) (show n + 1 ≤ rdMax (r - t) (c - t) pb + 1 by omega)
  refine ⟨b4, ⟨fun x y _ _ => g2 x y, fun x y hx hy => upz_lt (u2 x y hx hy) (by omega), fun x y hx hy => upz_lt (v2 x y hx hy) (by omega)⟩, fun hf => ?_, fun hf hlt => ?_⟩
  · refine ⟨bs2, eq2, z2, fun x y hx hy => upz_lt (u2 x y hx hy) (by omega), fun x y hx hy => upz_lt (v2 x y hx hy) (by omega), .inr ?_⟩
    have hnot : ¬ ((∀ x, t < x → x < r → (B.a x t).fmod (B.a t t) = 0) ∧ ∀ y, t < y → y < c → (B.a t y).fmod (B.a t t) = 0) := fun hh => by
      rw [(cF_spec b4).2 hh] at hf; cases hf
    by_cases hx : ∀ x, t < x → x < r → (B.a x t).fmod (B.a t t) = 0
    · obtain ⟨y, hy⟩ := Classical.not_forall.1 fun hy => hnot ⟨hx, hy⟩
      have y1 : t < y ∧ y < c ∧ (B.a t y).fmod (B.a t t) ≠ 0 := ⟨Classical.byContradiction fun h => hy fun h1 => absurd h1 h, Classical.byContradiction fun h => hy fun _ h1 => absurd h1 h, fun h => hy fun _ _ => h⟩
      have ev : sub (sw2 r c t B).a t 0 (y - t) = (B.a t y).fmod (B.a t t) := by
        show cA B.a t r c (t + 0) (t + (y - t)) = _
        rw [show t + (y - t) = y by omega]; exact cA_row b4 y1.1 y1.2.1
      exact ⟨n, _, 0, y - t, rfl, b5, R, by omega, by omega, by rw [ev]; exact y1.2.2, by rw [ev]; exact fmod_lt' _ b4⟩
    · obtain ⟨x, hx⟩ := Classical.not_forall.1 hx
      have x1 : t < x ∧ x < r ∧ (B.a x t).fmod (B.a t t) ≠ 0 := ⟨Classical.byContradiction fun h => hx fun h1 => absurd h1 h, Classical.byContradiction fun h => hx fun _ h1 => absurd h1 h, fun h => hx fun _ _ => h⟩
      have ev : sub (sw2 r c t B).a t (x - t) 0 = (B.a x t).fmod (B.a t t) := by
        show cA B.a t r c (t + (x - t)) (t + 0) = _
        rw [show t + (x - t) = x by omega]; exact cA_col b4 x1.1 x1.2.1
      exact ⟨n, _, x - t, 0, rfl, b5, R, by omega, by omega, by rw [ev]; exact x1.2.2, by rw [ev]; exact fmod_lt' _ b4⟩
  · have e2t : (sw2 r c t B).a = cA B.a t r c := rfl
    rw [e2t] at hlt ⊢
    obtain ⟨o1, o2, o3, o4⟩ := odF_spec (A := cA B.a t r c) (c := c) ht
    have o4 := o4 hlt
    generalize odF (cA B.a t r c) t r c = i at *
    obtain ⟨k, k1, k2, k3, _⟩ := odI_t o4
    rw [cA_00] at k3
    obtain ⟨R3, m1, m2⟩ := rnd_r b1 ht htc b4 hf (show t < i by omega) hlt
    have z3 := Sz.next b3 R3 (by omega)
    have a3 : ∀ x y, x < r → y < c → (adF (cA B.a t r c) t i 1 x y).natAbs < WB ^ (K + 1) := adF_lt (fun x y _ _ => g2 x y) ht hlt
    have u3 : ∀ x y, x < r → y < r → (adF (clU B.a B.u t r) t i 1 x y).natAbs < WB ^ (K + (L0 + n * (2 * K + 4)) + 1 + 1) := adF_lt u2 ht hlt
    have m0 : adF (cA B.a t r c) t i 1 t t ≠ 0 := by rw [m1]; exact b4
    refine ⟨m0, s2_bs (s3_bs bs2 ht (by omega)), (eq2.trans (s3_eqv (by omega))).trans (s2_eqv htc), z3, fun x y hx hy => upz_lt (clU_lt a3 u3 ht htc x y hx hy) (by omega), fun x y hx hy => upz_lt (clV_lt (K := K + 1) (fun y hy => by rw [clR_row]; exact a3 t y ht hy) v2 htc x y hx hy) (by omega), .inr ?_⟩
    have ev : sub (sw2 r c t (sw3 t i (sw2 r c t B))).a t 0 (k - t) = (cA B.a t r c i k).fmod (B.a t t) := by
      show cA (adF (cA B.a t r c) t i 1) t r c (t + 0) (t + (k - t)) = _
      rw [show t + (k - t) = k by omega]; exact m2 k k1 k2
    exact ⟨n, _, 0, k - t, rfl, b5, R3, by omega, by omega, by rw [ev]; exact zexok_nz b4 k3, by rw [ev]; exact fmod_lt' _ b4⟩
theorem PlOK.imp {r c t K L : Nat} {s : SW} {p q : SW → Prop} (h : PlOK r c t K L s p) (k : ∀ s, p s → q s) (hL : L ≤ L) : PlOK r c t K L s q :=
  ⟨h.g, fun a ha => let ⟨h1, h2, h3, h4⟩ := h.n a ha; ⟨h1, h2, fun x => k _ (h3 x), fun x y => ⟨(h4 x y).1, k _ (h4 x y).2⟩⟩⟩
structure Aft (r c t pb zb K L0 : Nat) (D : Nat → Int) (A0 : Mx) (res : Bool × SW) : Prop where
  bs : Bs r c t D res.2.a
  eqv : Rel c A0 res.2.a
  sz : Sz (2 ^ (zb + lgw (r - t) (c - t) * rdMax (r - t) (c - t) pb)) (sub res.2.a (t + 1))
  u : ∀ x y, x < r → y < r → (res.2.u x y).natAbs < WB ^ lBd r c t pb K L0
  v : ∀ x y, x < c → y < c → (res.2.v x y).natAbs < WB ^ lBd r c t pb K L0
  no : res.1 = false → ∀ x y, t ≤ x → t ≤ y → res.2.a x y = 0
  ye : res.1 = true → ∃ p : Int, 0 < p ∧ p.natAbs < WB ^ K ∧ Bs r c (t + 1) (fun i => if i = t then p else D i) res.2.a
theorem sz_sub {e : Nat} {A : Mx} (h : Sz e (sub A t)) : Sz e (sub A (t + 1)) := by
  have := h.swap (fun i => i + 1) (fun j => j + 1)
  have e : sub A (t + 1) = fun i j => sub A t (i + 1) (j + 1) := by
    funext i j
    show A (t + 1 + i) (t + 1 + j) = A (t + (i + 1)) (t + (j + 1))
    rw [show t + 1 + i = t + (i + 1) by omega, show t + 1 + j = t + (j + 1) by omega]
  rw [e]; exact this
theorem sub_ng {A : Mx} : sub (ngF A t) (t + 1) = sub A (t + 1) := by
  funext i j
  exact if_neg (by omega)
theorem bs_up {A : Mx} (h : Bs r c t D A) (h0 : A t t ≠ 0) (hr : ∀ y, t < y → y < c → A t y = 0) (hc : ∀ x, t < x → x < r → A x t = 0) (hd : ∀ x y, t < x → x < r → t < y → y < c → A t t ∣ A x y) : Bs r c (t + 1) (fun i => if i = t then A t t else D i) A := by
  refine ⟨h.out, fun i j hne hij => ?_, fun i hi => ?_, fun i hi x y hx hy => ?_⟩
  · by_cases h1 : i < t ∨ j < t
    · exact h.top i j hne h1
    · by_cases h2 : i = t
      · subst h2
        by_cases h3 : j < c
        · exact hr j (by omega) h3
        · exact h.out i j (.inr (by omega))
      · have h4 : j = t := by omega
        subst h4
        by_cases h3 : i < r
        · exact hc i (by omega) h3
        · exact h.out i j (.inl (by omega))
  · by_cases e : i = t
    · subst e; rw [if_pos rfl]
    · rw [if_neg e]; exact h.dia i (by omega)
  · by_cases e : i = t
    · subst e
      rw [if_pos rfl]
      by_cases h1 : x < r ∧ y < c
      · exact hd x y (by omega) h1.1 (by omega) h1.2
      · rw [h.out x y (by omega)]; exact Int.dvd_zero _
    · rw [if_neg e]; exact h.dv i (by omega) x y (by omega) (by omega)
theorem IV.stop (S : Stg r c t pb zb K D) (h : IV r c t pb zb K L0 D A0 n s) {q : Nat × Nat} (ho : lsAll s.a t (c - t) (r - t) = some q) (hf : cF (sw1 t q s).a t r c = true) (hlt : ¬ odF (sw2 r c t (sw1 t q s)).a t r c < r) : Aft r c t pb zb K L0 D A0 (true, sw4 t (sw2 r c t (sw1 t q s))) := by
  have ht := S.ht
  have htc := S.htc
  have hr := S.hr
  have hc := S.hc
  have hn := h.nle S
  obtain ⟨n1, n2, n3, n4⟩ := (h.ok S).n q ho
  obtain ⟨b1, b2, b3, b4, b5, b6, q1, q2⟩ := h.mid S ho
  clear n3 n4
  generalize sw1 t q s = B at *
  have R := rnd_l b1 ht htc b4
  have z2 := Sz.next b3 R (by omega)
  have e2 := zbd_lt S (show n + 1 ≤ rdMax (r - t) (c - t) pb by omega)
  have bs2 := s2_bs b1
  have eq2 := b2.trans (s2_eqv (r := r) htc)
  have g2 := abd S bs2 z2 e2
  obtain ⟨f1, f2⟩ := (cF_spec b4).1 hf
  have c0 : ∀ x, t < x → x < r → cA B.a t r c x t = 0 := fun x h1 h2 => by rw [cA_col b4 h1 h2]; exact f1 x h1 h2
  have r0 : ∀ y, t < y → y < c → cA B.a t r c t y = 0 := fun y h1 h2 => by rw [cA_row b4 h1 h2]; exact f2 y h1 h2
  have p0 : cA B.a t r c t t ≠ 0 := by rw [cA_00]; exact b4
  obtain ⟨o1, o2, o3, o4⟩ := odF_spec (A := cA B.a t r c) (c := c) ht
  have hlt : ¬ odF (cA B.a t r c) t r c < r := hlt
  have dv : ∀ x y, t < x → x < r → t < y → y < c → cA B.a t r c t t ∣ cA B.a t r c x y := fun x y h1 h2 h3 h4 => zexok_dv p0 (odI_f (o3 x (by omega) (by omega)) y h3 h4)
  have zz := (sz_sub z2).mono (Nat.pow_le_pow_right (show 0 < 2 by decide) (Nat.add_le_add_left (Nat.mul_le_mul_left (lgw (r - t) (c - t)) (show n + 1 ≤ rdMax (r - t) (c - t) pb by omega)) zb))
  have ha : (sw2 r c t B).a = cA B.a t r c := rfl
  by_cases hneg : cA B.a t r c t t < 0
  · have e4 : sw4 t (sw2 r c t B) = ⟨ngF (cA B.a t r c) t, ngF (clU B.a B.u t r) t, cV B.a B.v t r c⟩ := if_pos hneg
    rw [e4]
    have et : ngF (cA B.a t r c) t t t = -(cA B.a t r c t t) := if_pos rfl
    refine ⟨s4_bs bs2, eq2.trans s4_eqv, ?_, fun x y hx hy => ?_, n2.v, fun h => (by cases h), fun _ => ⟨ngF (cA B.a t r c) t t t, by omega, by rw [et, Int.natAbs_neg]; exact g2 t t, ?_⟩⟩
    · show Sz _ (sub (ngF (cA B.a t r c) t) (t + 1))
      rw [sub_ng]; exact zz
    · show (ngF (clU B.a B.u t r) t x y).natAbs < _
      unfold ngF
      split
      · rw [Int.natAbs_neg]; exact n2.u t y ht hy
      · exact n2.u x y hx hy
    · refine bs_up (s4_bs bs2) (by omega) (fun y h1 h2 => ?_) (fun x h1 h2 => ?_) (fun x y h1 h2 h3 h4 => ?_)
      · show ngF (cA B.a t r c) t t y = 0
        unfold ngF
        rw [if_pos rfl, r0 y h1 h2]; rfl
      · show ngF (cA B.a t r c) t x t = 0
        unfold ngF
        rw [if_neg (by omega)]; exact c0 x h1 h2
      · rw [et, Int.neg_dvd]
        show _ ∣ ngF (cA B.a t r c) t x y
        unfold ngF
        rw [if_neg (by omega)]; exact dv x y h1 h2 h3 h4
  · have e4 : sw4 t (sw2 r c t B) = sw2 r c t B := if_neg hneg
    rw [e4]
    refine ⟨bs2, eq2, zz, n2.u, n2.v, fun h => (by cases h), fun _ => ⟨cA B.a t r c t t, by omega, g2 t t, bs_up bs2 p0 r0 c0 dv⟩⟩
theorem IV.none (S : Stg r c t pb zb K D) (h : IV r c t pb zb K L0 D A0 n s) (ho : lsAll s.a t (c - t) (r - t) = none) : Aft r c t pb zb K L0 D A0 (false, s) := by
  have ht := S.ht
  have htc := S.htc
  have hn := h.nle S
  have g := (h.ok S).g
  have hz := (lsAll_ok (A := s.a) (show t + (c - t) = c by omega) (r - t)).no ho
  refine ⟨h.bs, h.eqv, (sz_sub h.sz).mono (Nat.pow_le_pow_right (by decide) (Nat.add_le_add_left (Nat.mul_le_mul_left _ hn) _)), g.u, g.v, fun _ x y hx hy => ?_, fun h => (by cases h)⟩
  by_cases h1 : x < r ∧ y < c
  · exact hz x y (by omega)
  · exact h.bs.out x y (by omega)
theorem IV.ends (S : Stg r c t pb zb K D) : ∀ (f n : Nat) (s : SW), IV r c t pb zb K L0 D A0 n s → n + f = rdMax (r - t) (c - t) pb + 1 → ∃ res, plS r c t f s = some res ∧ Aft r c t pb zb K L0 D A0 res
  | 0, n, s, h, hf => by have := h.nle S; omega
  | f + 1, n, s, h, hf => by
    cases ho : lsAll s.a t (c - t) (r - t) with
    | none => exact ⟨(false, s), by unfold plS; rw [ho], h.none S ho⟩
    | some q =>
      obtain ⟨n1, n2, n3, n4⟩ := (h.ok S).n q ho
      cases hc : cF (sw1 t q s).a t r c with
      | false =>
        obtain ⟨res, h1, h2⟩ := IV.ends S f (n + 1) _ (n3 hc) (by omega)
        refine ⟨res, ?_, h2⟩
        unfold plS
        rw [ho]
        dsimp only
        rw [if_neg (by rw [hc]; decide)]; exact h1
      | true =>
        by_cases hlt : odF (sw2 r c t (sw1 t q s)).a t r c < r
        · obtain ⟨res, h1, h2⟩ := IV.ends S f (n + 1) _ (n4 hc hlt).2 (by omega)
          refine ⟨res, ?_, h2⟩
          unfold plS
          rw [ho]
          dsimp only
          rw [if_pos hc, if_pos hlt]; exact h1
        · refine ⟨_, ?_, h.stop S ho hc hlt⟩
          unfold plS
          rw [ho]
          dsimp only
          rw [if_pos hc, if_neg hlt]
end
end Go.Proofs.YtmfadfkjnfdngaaGreatDoor
set_option linter.unusedVariables false
set_option linter.unusedSimpArgs false
namespace Go.Proofs.YtmfadfkjnfdngaaGreatDoor
open QM SNW
def pbT : Nat → Nat
  | 0 => 64
  | 1 => 71908
  | _ => 1150531
def zbT : Nat → Nat
  | 0 => 195
  | 1 => 71907
  | _ => 1150530
def rT : Nat → Nat
  | 0 => 17928
  | 1 => 1078623
  | _ => 2301064
def lT (K : Nat) : Nat → Nat
  | 0 => 1
  | t + 1 => lT K t + (rT t + 1) * (2 * K + 4)
theorem rd_le {N M t : Nat} (ht : t < 3) (hN : N ≤ 3 - t) : rdMax N M (pbT t) ≤ rT t ∧ zbT t + lgw N M * rdMax N M (pbT t) ≤ zbT (t + 1) ∧ zbT (t + 1) < pbT (t + 1) := by
  have h : t = 0 ∨ t = 1 ∨ t = 2 := by omega
  rcases h with rfl | rfl | rfl
  · have e1 : pbT 0 = 64 := rfl
    have e2 : rT 0 = 17928 := rfl
    have e3 : zbT 0 = 195 := rfl
    have e4 : zbT (0 + 1) = 71907 := rfl
    have e5 : pbT (0 + 1) = 71908 := rfl
    rw [e1, e2, e3, e4, e5]
    unfold rdMax lgw
    split
    · omega
    · split <;> split <;> omega
  · have e1 : pbT 1 = 71908 := rfl
    have e2 : rT 1 = 1078623 := rfl
    have e3 : zbT 1 = 71907 := rfl
    have e4 : zbT (1 + 1) = 1150530 := rfl
    have e5 : pbT (1 + 1) = 1150531 := rfl
    rw [e1, e2, e3, e4, e5]
    unfold rdMax lgw
    split
    · omega
    · split
      · first | omega | (split <;> omega)
      · omega
  · have e1 : pbT 2 = 1150531 := rfl
    have e2 : rT 2 = 2301064 := rfl
    have e3 : zbT 2 = 1150530 := rfl
    have e4 : zbT (2 + 1) = 1150530 := rfl
    have e5 : pbT (2 + 1) = 1150531 := rfl
    rw [e1, e2, e3, e4, e5]
    unfold rdMax lgw
    rw [if_pos (show N ≤ 1 ∨ M ≤ 1 by omega), if_pos (show N ≤ 1 ∨ M ≤ 1 by omega)]
    omega
theorem zbT_le {t : Nat} : zbT t ≤ 1150530 := by
  match t with
  | 0 => decide
  | 1 => decide
  | t + 2 => exact Nat.le_refl _
theorem lT_mono (K : Nat) {t : Nat} (h : t ≤ 3) : lT K t ≤ lT K 3 := by
  have e : ∀ t, lT K t ≤ lT K (t + 1) := fun t => Nat.le_add_right _ _
  have h1 : lT K 0 ≤ lT K 1 := e 0
  have h2 : lT K 1 ≤ lT K 2 := e 1
  have h3 : lT K 2 ≤ lT K 3 := e 2
  match t with
  | 0 => omega
  | 1 => omega
  | 2 => omega
  | 3 => omega
  | t + 4 => omega
theorem lT_3 {K : Nat} (hK : K = 17978) : lT K 3 = 122178343281 := by
  subst hK; rfl
structure StI (r c K t : Nat) (D : Nat → Int) (A0 : Mx) (s : SW) : Prop where
  iv : IV r c t (pbT t) (zbT t) K (lT K t) D A0 0 s
  pos : ∀ i, i < t → 0 < D i
  bd : ∀ i, i < t → (D i).natAbs < WB ^ K
  ch : ∀ i, i + 1 < t → D i ∣ D (i + 1)
structure Fin (r c K : Nat) (A : Mx) : Prop where
  off : ∀ i j, i ≠ j → A i j = 0
  out : ∀ i j, r ≤ i ∨ c ≤ j → A i j = 0
  nn : ∀ i, 0 ≤ A i i
  ch : ∀ i, A i i ∣ A (i + 1) (i + 1)
  bd : ∀ i, (A i i).natAbs < WB ^ K
def smS (r c : Nat) : Nat → Nat → SW → SW
  | 0, _, s => s
  | n + 1, t, s => match plS r c t (rdMax (r - t) (c - t) (pbT t) + 1) s with
    | some (true, s') => smS r c n (t + 1) s'
    | some (false, s') => s'
    | none => s
section
variable {r c K t : Nat} {D : Nat → Int} {A0 : Mx} {s : SW}
theorem StI.stg (h : StI r c K t D A0 s) (ht : t < r) (htc : t < c) (hr : r ≤ 3) (hc : c ≤ 4) (hK : K = 17978) : Stg r c t (pbT t) (zbT t) K D :=
  ⟨ht, htc, hr, hc, by
    have h1 := (rd_le (N := r - t) (M := c - t) (show t < 3 by omega) (by omega)).2.1
    have h2 := zbT_le (t := t + 1)
    omega, h.bd⟩
theorem StI.aft (h : StI r c K t D A0 s) (ht : t < r) (htc : t < c) (hr : r ≤ 3) (hc : c ≤ 4) (hK : K = 17978) : ∃ res, plS r c t (rdMax (r - t) (c - t) (pbT t) + 1) s = some res ∧ Aft r c t (pbT t) (zbT t) K (lT K t) D A0 res :=
  IV.ends (h.stg ht htc hr hc hK) _ 0 s h.iv (by omega)
theorem StI.lBd_le (ht : t < r) (hr : r ≤ 3) : lBd r c t (pbT t) K (lT K t) ≤ lT K (t + 1) := by
  have h1 := (rd_le (N := r - t) (M := c - t) (show t < 3 by omega) (by omega)).1
  exact Nat.add_le_add_left (Nat.mul_le_mul_right _ (Nat.succ_le_succ h1)) _
theorem StI.next (h : StI r c K t D A0 s) (ht : t < r) (htc : t < c) (hr : r ≤ 3) (hc : c ≤ 4) (hK : K = 17978) {s' : SW} (ha : Aft r c t (pbT t) (zbT t) K (lT K t) D A0 (true, s')) : ∃ D', StI r c K (t + 1) D' A0 s' := by
  obtain ⟨p, p0, p1, p2⟩ := ha.ye rfl
  obtain ⟨g1, g2, g3⟩ := rd_le (N := r - t) (M := c - t) (show t < 3 by omega) (by omega)
  have hl := StI.lBd_le (K := K) (c := c) ht hr
  have hpt : s'.a t t = p := by
    have := p2.dia t (Nat.lt_succ_self t)
    dsimp only at this
    rw [if_pos rfl] at this; exact this
  refine ⟨_, ⟨p2, ha.eqv, ?_, fun x y hx hy => upz_lt (ha.u x y hx hy) ?_, fun x y hx hy => upz_lt (ha.v x y hx hy) ?_, .inl ⟨rfl, fun i j => ?_⟩⟩, fun i hi => ?_, fun i hi => ?_, fun i hi => ?_⟩
  · rw [Nat.mul_zero, Nat.add_zero]
    exact ha.sz.mono (Nat.pow_le_pow_right (by decide) g2)
  · rw [Nat.zero_mul, Nat.add_zero]; exact hl
  · rw [Nat.zero_mul, Nat.add_zero]; exact hl
  · exact Nat.lt_of_le_of_lt (Nat.le_trans (ha.sz.b1 i j) (Nat.pow_le_pow_right (by decide) g2)) (Nat.pow_lt_pow_right (by decide) g3)
  · by_cases e : i = t
    · rw [if_pos e]; exact p0
    · rw [if_neg e]; exact h.pos i (by omega)
  · by_cases e : i = t
    · rw [if_pos e]; exact p1
    · rw [if_neg e]; exact h.bd i (by omega)
  · rw [if_neg (show ¬ i = t by omega)]
    by_cases e : i + 1 = t
    · rw [if_pos e, ← hpt]
      exact ha.bs.dv i (by omega) t t (Nat.le_refl t) (Nat.le_refl t)
    · rw [if_neg e]; exact h.ch i (by omega)
theorem fin_of {A : Mx} (hb : Bs r c t D A) (pos : ∀ i, i < t → 0 < D i) (bd : ∀ i, i < t → (D i).natAbs < WB ^ K) (ch : ∀ i, i + 1 < t → D i ∣ D (i + 1)) (hz : ∀ x y, t ≤ x → t ≤ y → A x y = 0) : Fin r c K A := by
  refine ⟨fun i j hne => ?_, hb.out, fun i => ?_, fun i => ?_, fun i => ?_⟩
  · by_cases h : i < t ∨ j < t
    · exact hb.top i j hne h
    · exact hz i j (by omega) (by omega)
  · by_cases h : i < t
    · rw [hb.dia i h]; exact Int.le_of_lt (pos i h)
    · rw [hz i i (by omega) (by omega)]; exact Int.le_refl 0
  · by_cases h : i + 1 < t
    · rw [hb.dia i (by omega), hb.dia (i + 1) h]; exact ch i h
    · rw [hz (i + 1) (i + 1) (by omega) (by omega)]; exact Int.dvd_zero _
  · by_cases h : i < t
    · rw [hb.dia i h]; exact bd i h
    · rw [hz i i (by omega) (by omega)]; exact Nat.pow_pos WB_pos
theorem StI.fin (hr : r ≤ 3) (hc : c ≤ 4) (hK : K = 17978) : ∀ (n t : Nat) (D : Nat → Int) (s : SW), StI r c K t D A0 s → n + t = min r c → Fin r c K (smS r c n t s).a ∧ Rel c A0 (smS r c n t s).a
  | 0, t, D, s, h, ht => by
    refine ⟨fin_of h.iv.bs h.pos h.bd h.ch fun x y hx hy => h.iv.bs.out x y ?_, h.iv.eqv⟩
    omega
  | n + 1, t, D, s, h, ht => by
    have h1 : t < r := by omega
    have h2 : t < c := by omega
    obtain ⟨⟨b, s'⟩, hp, ha⟩ := h.aft h1 h2 hr hc hK
    cases b with
    | true =>
      obtain ⟨D', h'⟩ := h.next h1 h2 hr hc hK ha
      have e : smS r c (n + 1) t s = smS r c n (t + 1) s' := by
        conv => lhs; unfold smS
        rw [hp]
      rw [e]
      exact StI.fin hr hc hK n (t + 1) D' s' h' (by omega)
    | false =>
      have e : smS r c (n + 1) t s = s' := by
        conv => lhs; unfold smS
        rw [hp]
      rw [e]
      exact ⟨fin_of ha.bs h.pos h.bd h.ch (ha.no rfl), ha.eqv⟩
end
theorem mi_le {A : Mx} (h : ∀ i j, (A i j).natAbs < 2 ^ 64) (i k j l : Nat) : (mi A i k j l).natAbs ≤ 2 * (2 ^ 64 * 2 ^ 64) := by
  unfold mi
  have a := na_mul (Nat.le_of_lt (h i j)) (Nat.le_of_lt (h k l))
  have b := na_mul (Nat.le_of_lt (h i l)) (Nat.le_of_lt (h k j))
  omega
theorem sz_0 {A : Mx} (h : ∀ i j, (A i j).natAbs < 2 ^ 64) : Sz (2 ^ 195) A := by
  refine ⟨fun i j => ?_, fun i k j l => ?_, fun i k g j l m => ?_⟩
  · exact Nat.le_trans (Nat.le_of_lt (h i j)) (by decide)
  · exact Nat.le_trans (mi_le h i k j l) (by decide)
  · rw [de_mi]
    have a := na_mul (Nat.le_of_lt (h i j)) (mi_le h k g l m)
    have b := na_mul (Nat.le_of_lt (h i l)) (mi_le h k g j m)
    have c := na_mul (Nat.le_of_lt (h i m)) (mi_le h k g j l)
    have e : 3 * (2 ^ 64 * (2 * (2 ^ 64 * 2 ^ 64))) ≤ 2 ^ 195 := by decide
    omega
theorem StI.start {r c K : Nat} {A0 : Mx} (h0 : ∀ i j, r ≤ i ∨ c ≤ j → A0 i j = 0) (hb : ∀ i j, (A0 i j).natAbs < 2 ^ 64) : StI r c K 0 (fun _ => 0) A0 ⟨A0, idS, idS⟩ := by
  have es : sub A0 0 = A0 := by
    funext i j
    show A0 (0 + i) (0 + j) = A0 i j
    rw [Nat.zero_add, Nat.zero_add]
  have el : lT K 0 + 0 * (2 * K + 4) = 1 := by rw [Nat.zero_mul]; rfl
  refine ⟨⟨⟨h0, fun i j _ h => by omega, fun i h => by omega, fun i h => by omega⟩, Rel.refl c A0, ?_, fun x y _ _ => ?_, fun x y _ _ => ?_, .inl ⟨rfl, fun i j => ?_⟩⟩, fun i h => by omega, fun i h => by omega, fun i h => by omega⟩
  · rw [Nat.mul_zero, Nat.add_zero]
    show Sz (2 ^ 195) (sub A0 0)
    rw [es]; exact sz_0 hb
  · rw [el]; exact idS_lt x y
  · rw [el]; exact idS_lt x y
  · show (sub A0 0 i j).natAbs < 2 ^ 64
    rw [es]; exact hb i j
end Go.Proofs.YtmfadfkjnfdngaaGreatDoor

import Derived.Test.YtkdonndeogihfaaDoorD4
/- Fractions by their values. -/
set_option linter.unusedVariables false
set_option linter.unusedSimpArgs false
namespace Go.Proofs.YtkdonndeogihfaaDoor
open Go.RowKit QM SX
attribute [local irreducible] qsub qmul qquo qcmp qadd
/-- A fraction's value. -/
def qv (p q : Int) : Rat := (p : Rat) / (q : Rat)
theorem c0 {z : Int} (h : z ≠ 0) : (z : Rat) ≠ 0 := fun e => h (Rat.intCast_inj.1 e)
theorem qv_eq {a b c d : Int} (hb : b ≠ 0) (hd : d ≠ 0) (h : a * d = c * b) : qv a b = qv c d := by
  have h1 := c0 hb
  have h2 := c0 hd
  have h3 : (a : Rat) * d = c * b := by rw [← Rat.intCast_mul, ← Rat.intCast_mul, h]
  unfold qv; grind
theorem rmk_pos (p q : Int) : 0 < (rmk p q).2 := by
  by_cases h : q = 0
  · rw [h, rmk_zero]; decide
  · exact (rmk_spec h).1
theorem rmk_gcd (p q : Int) : Int.gcd (rmk p q).1 (rmk p q).2 = 1 := by
  by_cases h : q = 0
  · rw [h, rmk_zero]; decide
  · exact (rmk_spec h).2.1
theorem rmk_val (p q : Int) : qv (rmk p q).1 (rmk p q).2 = qv p q := by
  by_cases h : q = 0
  · rw [h, rmk_zero]; unfold qv; grind
  · have hs := rmk_spec (x := p) h
    exact qv_eq (by omega) h hs.2.2
/-- A fraction that was made: its value, and so many words. -/
structure Rd (X : Int × Int) (v : Rat) (K : Nat) : Prop where
  v : qv X.1 X.2 = v
  d : 0 < X.2
  g : Int.gcd X.1 X.2 = 1
  b1 : Bd X.1 K
  b2 : Bd X.2 K
theorem Rd.rmk {p q : Int} {k m K : Nat} {v : Rat} (h : Bd p k) (h' : Bd q m) (hv : qv p q = v) (hK : k + m + 1 ≤ K) : Rd (rmk p q) v K :=
  ⟨(rmk_val p q).trans hv, rmk_pos p q, rmk_gcd p q, ⟨Bd.mono (Bd.rmk1 p q k m).h hK⟩, ⟨Bd.mono (Bd.rmk2 p q k m).h hK⟩⟩
/-- Cells of a fraction. -/
class Ra (l : List Atom) (v : outParam Rat) (K : outParam Nat) : Prop where
  h : ∃ x0 x1 x2 x3 p q k m, l = [x0, x1, x2, x3] ∧ ZI [x0, x1] p k ∧ ZI [x2, x3] q m ∧ k ≤ K ∧ m ≤ K ∧ Bd p k ∧ Bd q m ∧ qv p q = v
theorem Rd.ra {X : Int × Int} {v : Rat} {K : Nat} (h : Rd X v K) : Ra (ratA X) v K :=
  ⟨_, _, _, _, X.1, X.2, K, K, rfl, (haveI := h.b1; inferInstance), (haveI := h.b2; inferInstance), Nat.le_refl _, Nat.le_refl _, h.b1, h.b2, h.v⟩
theorem Ra.raw {b c : Bool} {l m : List Nat} {K : Nat} (i1 : BdN (nval WB l) l.length) (i2 : BdN (nval WB m) m.length) (h1 : l.length ≤ K) (h2 : m.length ≤ K) : Ra (qW b l c m) (qv (sgn b (nval WB l)) (sgn c (nval WB m))) K :=
  ⟨_, _, _, _, _, _, _, _, rfl, inferInstance, inferInstance, h1, h2, inferInstance, inferInstance, rfl⟩
section
variable {l l' : List Atom} {v v' : Rat} {K K' : Nat}
theorem qv_div {a b c d : Int} : qv (a * d) (b * c) = qv a b / qv c d := by
  unfold qv; rw [Rat.intCast_mul, Rat.intCast_mul]; grind
theorem qv_mul {a b c d : Int} : qv (a * c) (b * d) = qv a b * qv c d := by
  unfold qv; rw [Rat.intCast_mul, Rat.intCast_mul]; grind
theorem qv_add {a b c d : Int} (hb : b ≠ 0) (hd : d ≠ 0) : qv (a * d + c * b) (b * d) = qv a b + qv c d := by
  have h1 := c0 hb
  have h2 := c0 hd
  unfold qv; rw [Rat.intCast_add, Rat.intCast_mul, Rat.intCast_mul, Rat.intCast_mul]; grind
theorem qv_neg {a b : Int} : qv (-a) b = -qv a b := by
  unfold qv; rw [Rat.intCast_neg]; grind
theorem qadd_val (p q r s : Int) : qv (qadd p q r s).1 (qadd p q r s).2 = qv p q + qv r s := by
  have h1 := rmk_pos p q
  have h2 := rmk_pos r s
  unfold qadd
  rw [rmk_val, qv_add (by omega) (by omega), rmk_val, rmk_val]
theorem qmul_val (p q r s : Int) : qv (qmul p q r s).1 (qmul p q r s).2 = qv p q * qv r s := by
  unfold qmul; rw [rmk_val, qv_mul, rmk_val, rmk_val]
theorem qquo_val (p q r s : Int) : qv (qquo p q r s).1 (qquo p q r s).2 = qv p q / qv r s := by
  unfold qquo; rw [rmk_val, qv_div, rmk_val, rmk_val]
theorem qsub_val (p q r s : Int) : qv (qsub p q r s).1 (qsub p q r s).2 = qv p q - qv r s := by
  unfold qsub; rw [qadd_val, qv_neg, rmk_val]; grind
theorem qadd_mk (p q r s : Int) : ∃ x y, qadd p q r s = rmk x y := ⟨_, _, by unfold qadd; rfl⟩
theorem qmul_mk (p q r s : Int) : ∃ x y, qmul p q r s = rmk x y := ⟨_, _, by unfold qmul; rfl⟩
theorem qquo_mk (p q r s : Int) : ∃ x y, qquo p q r s = rmk x y := ⟨_, _, by unfold qquo; rfl⟩
theorem qsub_mk (p q r s : Int) : ∃ x y, qsub p q r s = rmk x y := by unfold qsub; exact qadd_mk _ _ _ _
theorem mk_pos {X : Int × Int} (h : ∃ x y, X = rmk x y) : 0 < X.2 ∧ Int.gcd X.1 X.2 = 1 := by
  obtain ⟨x, y, rfl⟩ := h; exact ⟨rmk_pos x y, rmk_gcd x y⟩
theorem sgn_val {a b : Int} : (isign (a * b) = 0 ↔ qv a b = 0) ∧ (isign (a * b) < 0 ↔ qv a b < 0) := by
  have key : ∀ a b : Int, 0 < b → (a * b = 0 ↔ qv a b = 0) ∧ (a * b < 0 ↔ qv a b < 0) := by
    intro a b hb
    have h1 : (0 : Rat) < b := by rw [show (0 : Rat) = ((0 : Int) : Rat) from rfl]; exact Rat.intCast_lt_intCast.2 hb
    have ea : (a : Rat) = qv a b * b := by unfold qv; grind
    constructor
    · rw [Int.mul_eq_zero]
      constructor
      · rintro (h | h)
        · unfold qv; rw [h]; grind
        · omega
      · intro h; rw [h] at ea; left; exact Rat.intCast_inj.1 (by rw [ea]; grind)
    · have hneg : a * b < 0 ↔ a < 0 := by
        constructor
        · intro h
          exact Decidable.byContradiction fun hn => by
            have := Int.mul_nonneg (show 0 ≤ a by omega) (show 0 ≤ b by omega)
            omega
        · intro h; exact Int.mul_neg_of_neg_of_pos h hb
      have ha : a < 0 ↔ (a : Rat) < 0 := by rw [show (0 : Rat) = ((0 : Int) : Rat) from rfl, Rat.intCast_lt_intCast]
      rw [hneg, ha, ea]
      generalize qv a b = v at *
      generalize (b : Rat) = c at *
      constructor
      · intro h
        exact Decidable.byContradiction fun hn => by
          have := Rat.mul_nonneg (show 0 ≤ v by grind) (show 0 ≤ c by grind)
          grind
      · intro h
        have := Rat.mul_pos (show 0 < -v by grind) h1
        grind
  have hn : isign (a * b) < 0 ↔ a * b < 0 := isignN _
  have hz : isign (a * b) = 0 ↔ a * b = 0 := isign0 _
  rw [hn, hz]
  by_cases hb : b = 0
  · subst hb
    have : qv a 0 = 0 := by unfold qv; grind
    rw [this]; simp
  · by_cases hb0 : 0 < b
    · exact key a b hb0
    · have h := key (-a) (-b) (by omega)
      have e : qv (-a) (-b) = qv a b := qv_eq (by omega) hb (by grind)
      rw [e, show -a * -b = a * b by grind] at h
      exact h
theorem qcmp_val {p q r s : Int} : (qcmp p q r s = 0 ↔ qv p q = qv r s) ∧ (qcmp p q r s < 0 ↔ qv p q < qv r s) ∧ (0 < qcmp p q r s ↔ qv r s < qv p q) := by
  have h := sgn_val (a := (qsub p q r s).1) (b := (qsub p q r s).2)
  rw [qsub_val] at h
  unfold qcmp
  generalize isign ((qsub p q r s).1 * (qsub p q r s).2) = z at *
  have h1 : z = 0 ↔ qv p q = qv r s := by rw [h.1]; constructor <;> intro <;> grind
  have h2 : z < 0 ↔ qv p q < qv r s := by rw [h.2]; constructor <;> intro <;> grind
  refine ⟨h1, h2, ?_⟩
  have : 0 < z ↔ ¬ z = 0 ∧ ¬ z < 0 := by omega
  rw [this, h1, h2]
  constructor
  · intro ⟨a, b⟩; grind
  · intro a; constructor <;> grind
theorem eAdd (l l' : List Atom) [a : Ra l v K] [b : Ra l' v' K'] (h : K + K' ≤ 1000000) : ∃ X, PureOK Tryd.prog 43 [.agg l, .agg l'] (.agg (ratA X)) ∧ Rd X (v + v') (6 * (K + K') + 20) := by
  obtain ⟨x0, x1, x2, x3, p, q, k, m, rfl, z1, z2, hk, hm, b1, b2, hv⟩ := a.h
  obtain ⟨y0, y1, y2, y3, r, s, k', m', rfl, z3, z4, hk', hm', b3, b4, hv'⟩ := b.h
  exact ⟨_, (con_rAdd (h := z1) (h' := z2) (g := z3) (g' := z4)).h (by omega), ⟨by rw [qadd_val, hv, hv'], (mk_pos (qadd_mk ..)).1, (mk_pos (qadd_mk ..)).2, ⟨Bd.mono (Bd.qadd1 p q r s k m k' m').h (by omega)⟩, ⟨Bd.mono (Bd.qadd2 p q r s k m k' m').h (by omega)⟩⟩⟩
theorem eSub (l l' : List Atom) [a : Ra l v K] [b : Ra l' v' K'] (h : K + K' ≤ 400000) : ∃ X, PureOK Tryd.prog 47 [.agg l, .agg l'] (.agg (ratA X)) ∧ Rd X (v - v') (12 * (K + K') + 20) := by
  obtain ⟨x0, x1, x2, x3, p, q, k, m, rfl, z1, z2, hk, hm, b1, b2, hv⟩ := a.h
  obtain ⟨y0, y1, y2, y3, r, s, k', m', rfl, z3, z4, hk', hm', b3, b4, hv'⟩ := b.h
  exact ⟨_, (con_rSub (h := z1) (h' := z2) (g := z3) (g' := z4)).h (by omega), ⟨by rw [qsub_val, hv, hv'], (mk_pos (qsub_mk ..)).1, (mk_pos (qsub_mk ..)).2, ⟨Bd.mono (Bd.qsub1 p q r s k m k' m').h (by omega)⟩, ⟨Bd.mono (Bd.qsub2 p q r s k m k' m').h (by omega)⟩⟩⟩
theorem eMul (l l' : List Atom) [a : Ra l v K] [b : Ra l' v' K'] (h : K + K' ≤ 1000000) : ∃ X, PureOK Tryd.prog 42 [.agg l, .agg l'] (.agg (ratA X)) ∧ Rd X (v * v') (6 * (K + K') + 20) := by
  obtain ⟨x0, x1, x2, x3, p, q, k, m, rfl, z1, z2, hk, hm, b1, b2, hv⟩ := a.h
  obtain ⟨y0, y1, y2, y3, r, s, k', m', rfl, z3, z4, hk', hm', b3, b4, hv'⟩ := b.h
  exact ⟨_, (con_rMul (h := z1) (h' := z2) (g := z3) (g' := z4)).h (by omega), ⟨by rw [qmul_val, hv, hv'], (mk_pos (qmul_mk ..)).1, (mk_pos (qmul_mk ..)).2, ⟨Bd.mono (Bd.qmul1 p q r s k m k' m').h (by omega)⟩, ⟨Bd.mono (Bd.qmul2 p q r s k m k' m').h (by omega)⟩⟩⟩
theorem eQuo (l l' : List Atom) [a : Ra l v K] [b : Ra l' v' K'] (h : K + K' ≤ 1000000) : ∃ X ok, PureOK Tryd.prog 44 [.agg l, .agg l'] (.tup [.agg (ratA X), .one (.c (.val (.bool ok)))]) ∧ Rd X (v / v') (6 * (K + K') + 20) ∧ (ok = true ↔ v' ≠ 0) := by
  obtain ⟨x0, x1, x2, x3, p, q, k, m, rfl, z1, z2, hk, hm, b1, b2, hv⟩ := a.h
  obtain ⟨y0, y1, y2, y3, r, s, k', m', rfl, z3, z4, hk', hm', b3, b4, hv'⟩ := b.h
  refine ⟨_, _, (con_rQuo (h := z1) (h' := z2) (g := z3) (g' := z4)).h (by omega), ⟨by rw [qquo_val, hv, hv'], (mk_pos (qquo_mk ..)).1, (mk_pos (qquo_mk ..)).2, ⟨Bd.mono (Bd.qquo1 p q r s k m k' m').h (by omega)⟩, ⟨Bd.mono (Bd.qquo2 p q r s k m k' m').h (by omega)⟩⟩, ?_⟩
  have h1 := rmk_pos p q
  have h2 := rmk_pos r s
  rw [decide_eq_true_iff, ← hv', ← rmk_val r s]
  have e : qv (rmk r s).1 (rmk r s).2 = 0 ↔ (rmk r s).1 = 0 := by
    have := (sgn_val (a := (rmk r s).1) (b := (rmk r s).2)).1
    rw [← this, isign0, Int.mul_eq_zero]; omega
  rw [Ne, Ne, e, Int.mul_eq_zero]; omega
theorem eCmp (l l' : List Atom) [a : Ra l v K] [b : Ra l' v' K'] (h : K + K' ≤ 400000) : ∃ z : Int, PureOK Tryd.prog 45 [.agg l, .agg l'] (.v (.int .i64 z)) ∧ (z = 0 ↔ v = v') ∧ (z < 0 ↔ v < v') ∧ (0 < z ↔ v' < v) := by
  obtain ⟨x0, x1, x2, x3, p, q, k, m, rfl, z1, z2, hk, hm, b1, b2, hv⟩ := a.h
  obtain ⟨y0, y1, y2, y3, r, s, k', m', rfl, z3, z4, hk', hm', b3, b4, hv'⟩ := b.h
  exact ⟨_, (con_rCmp (h := z1) (h' := z2) (g := z3) (g' := z4)).h (by omega), by rw [← hv, ← hv']; exact qcmp_val⟩
theorem eSign (l : List Atom) [a : Ra l v K] (h : K ≤ 400000) : ∃ z : Int, PureOK Tryd.prog 46 [.agg l] (.v (.int .i64 z)) ∧ (z = 0 ↔ v = 0) ∧ (z < 0 ↔ v < 0) := by
  obtain ⟨x0, x1, x2, x3, p, q, k, m, rfl, z1, z2, hk, hm, b1, b2, hv⟩ := a.h
  exact ⟨_, (con_rSign (h := z1) (h' := z2)).h (by omega), by rw [← hv]; exact sgn_val⟩
theorem eNeg (l : List Atom) [a : Ra l v K] (h : K ≤ 400000) : ∃ X, PureOK Tryd.prog 52 [.agg l] (.agg (ratA X)) ∧ Rd X (-v) (2 * K + 1) := by
  obtain ⟨x0, x1, x2, x3, p, q, k, m, rfl, z1, z2, hk, hm, b1, b2, hv⟩ := a.h
  exact ⟨_, (con_rNeg (h := z1) (h' := z2)).h (by omega), ⟨by show qv (-(rmk p q).1) (rmk p q).2 = _; rw [qv_neg, rmk_val, hv], rmk_pos p q, by show Int.gcd (-(rmk p q).1) _ = 1; rw [Int.neg_gcd]; exact rmk_gcd p q, ⟨by show (-(rmk p q).1).natAbs < _; rw [Int.natAbs_neg]; exact Bd.mono (Bd.rmk1 p q k m).h (by omega)⟩, ⟨Bd.mono (Bd.rmk2 p q k m).h (by omega)⟩⟩⟩
theorem Rd.of {z : Int} {k : Nat} (h : Bd z k) (hk : 1 ≤ k) : Rd (z, 1) (z : Rat) k := ⟨by show qv z 1 = z; unfold qv; grind, by show (0 : Int) < 1; decide, by show Int.gcd z 1 = 1; simp, h, ⟨Bd.mono Bd.one.h hk⟩⟩
end
end Go.Proofs.YtkdonndeogihfaaDoor

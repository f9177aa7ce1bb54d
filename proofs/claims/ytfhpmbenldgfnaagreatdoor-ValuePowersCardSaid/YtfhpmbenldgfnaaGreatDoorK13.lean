import Derived.Test.YtfhpmbenldgfnaaGreatDoorK12
import Derived.Test.YtfhpmbenldgfnaaGreatDoorK8
set_option linter.unusedVariables false
set_option linter.unusedSimpArgs false
namespace Go.Proofs.YtfhpmbenldgfnaaGreatDoor
open Go.RowKit QM SX
attribute [local irreducible] qsub qmul qquo qcmp qadd
def qv (p q : Int) : Rat := (p : Rat) / (q : Rat)
theorem c0 {z : Int} (h : z ≠ 0) : (z : Rat) ≠ 0 := fun e => h (Rat.intCast_inj.1 e)
theorem qv_eq {a b c d : Int} (hb : b ≠ 0) (hd : d ≠ 0) (h : a * d = c * b) : qv a b = qv c d := by
  have h1 := c0 hb
  have h2 := c0 hd
  have h3 : (a : Rat) * d = c * b := by rw [← Rat.intCast_mul, ← Rat.intCast_mul, h]
  unfold qv; grind
theorem rmk_pos (p q : Int) : 0 < (rmk p q).2 := by
  by_cases h : q = 0
  · rw [h, rmk_zero]; decide
  · exact (rmk_spec h).1
theorem rmk_gcd (p q : Int) : Int.gcd (rmk p q).1 (rmk p q).2 = 1 := by
  by_cases h : q = 0
  · rw [h, rmk_zero]; decide
  · exact (rmk_spec h).2.1
theorem rmk_val (p q : Int) : qv (rmk p q).1 (rmk p q).2 = qv p q := by
  by_cases h : q = 0
  · rw [h, rmk_zero]; unfold qv; grind
  · have hs := rmk_spec (x := p) h
    exact qv_eq (by omega) h hs.2.2
structure Rd (X : Int × Int) (v : Rat) (K : Nat) : Prop where
  v : qv X.1 X.2 = v
  d : 0 < X.2
  g : Int.gcd X.1 X.2 = 1
  b1 : Bd X.1 K
  b2 : Bd X.2 K
theorem Rd.rmk {p q : Int} {k m K : Nat} {v : Rat} (h : Bd p k) (h' : Bd q m) (hv : qv p q = v) (hK : k + m + 1 ≤ K) : Rd (rmk p q) v K :=
  ⟨(rmk_val p q).trans hv, rmk_pos p q, rmk_gcd p q, ⟨Bd.mono (Bd.rmk1 p q k m).h hK⟩, ⟨Bd.mono (Bd.rmk2 p q k m).h hK⟩⟩
class Ra (l : List Atom) (v : outParam Rat) (K : outParam Nat) : Prop where
  h : ∃ x0 x1 x2 x3 p q k m, l = [x0, x1, x2, x3] ∧ ZI [x0, x1] p k ∧ ZI [x2, x3] q m ∧ k ≤ K ∧ m ≤ K ∧ Bd p k ∧ Bd q m ∧ qv p q = v
theorem Ra.raw {b c : Bool} {l m : List Nat} {K : Nat} (i1 : BdN (nval WB l) l.length) (i2 : BdN (nval WB m) m.length) (h1 : l.length ≤ K) (h2 : m.length ≤ K) : Ra (qW b l c m) (qv (sgn b (nval WB l)) (sgn c (nval WB m))) K :=
  ⟨_, _, _, _, _, _, _, _, rfl, inferInstance, inferInstance, h1, h2, inferInstance, inferInstance, rfl⟩
section
variable {l l' : List Atom} {v v' : Rat} {K K' : Nat}
theorem qv_div {a b c d : Int} : qv (a * d) (b * c) = qv a b / qv c d := by
  unfold qv; rw [Rat.intCast_mul, Rat.intCast_mul]; grind
theorem qv_mul {a b c d : Int} : qv (a * c) (b * d) = qv a b * qv c d := by
  unfold qv; rw [Rat.intCast_mul, Rat.intCast_mul]; grind
theorem qv_add {a b c d : Int} (hb : b ≠ 0) (hd : d ≠ 0) : qv (a * d + c * b) (b * d) = qv a b + qv c d := by
  have h1 := c0 hb
  have h2 := c0 hd
  unfold qv; rw [Rat.intCast_add, Rat.intCast_mul, Rat.intCast_mul, Rat.intCast_mul]; grind
theorem qv_neg {a b : Int} : qv (-a) b = -qv a b := by
  unfold qv; rw [Rat.intCast_neg]; grind
theorem qadd_val (p q r s : Int) : qv (qadd p q r s).1 (qadd p q r s).2 = qv p q + qv r s := by
  have h1 := rmk_pos p q
  have h2 := rmk_pos r s
  unfold qadd
  rw [rmk_val, qv_add (by omega) (by omega), rmk_val, rmk_val]
theorem qmul_val (p q r s : Int) : qv (qmul p q r s).1 (qmul p q r s).2 = qv p q * qv r s := by
  unfold qmul; rw [rmk_val, qv_mul, rmk_val, rmk_val]
theorem qquo_val (p q r s : Int) : qv (qquo p q r s).1 (qquo p q r s).2 = qv p q / qv r s := by
  unfold qquo; rw [rmk_val, qv_div, rmk_val, rmk_val]
theorem qsub_val (p q r s : Int) : qv (qsub p q r s).1 (qsub p q r s).2 = qv p q - qv r s := by
  unfold qsub; rw [qadd_val, qv_neg, rmk_val]; grind
theorem qadd_mk (p q r s : Int) : ∃ x y, qadd p q r s = rmk x y := ⟨_, _, by unfold qadd; rfl⟩
theorem qmul_mk (p q r s : Int) : ∃ x y, qmul p q r s = rmk x y := ⟨_, _, by unfold qmul; rfl⟩
theorem qquo_mk (p q r s : Int) : ∃ x y, qquo p q r s = rmk x y := ⟨_, _, by unfold qquo; rfl⟩
theorem qsub_mk (p q r s : Int) : ∃ x y, qsub p q r s = rmk x y := by unfold qsub; exact qadd_mk _ _ _ _
theorem mk_pos {X : Int × Int} (h : ∃ x y, X = rmk x y) : 0 < X.2 ∧ Int.gcd X.1 X.2 = 1 := by
  obtain ⟨x, y, rfl⟩ := h; exact ⟨rmk_pos x y, rmk_gcd x y⟩
theorem sgn_val {a b : Int} : (isign (a * b) = 0 ↔ qv a b = 0) ∧ (isign (a * b) < 0 ↔ qv a b < 0) := by
  have key : ∀ a b : Int, 0 < b → (a * b = 0 ↔ qv a b = 0) ∧ (a * b < 0 ↔ qv a b < 0) := by
    intro a b hb
    have h1 : (0 : Rat) < b := by rw [show (0 : Rat) = ((0 : Int) : Rat) from rfl]; exact Rat.intCast_lt_intCast.2 hb
    have ea : (a : Rat) = qv a b * b := by unfold qv; grind
    constructor
    · rw [Int.mul_eq_zero]
      constructor
      · rintro (h | h)
        · unfold qv; rw [h]; grind
        · omega
      · intro h; rw [h] at ea; left; exact Rat.intCast_inj.1 (by rw [ea]; grind)
    · have hneg : a * b < 0 ↔ a < 0 := by
        constructor
        · intro h
          exact Decidable.byContradiction fun hn => by
            have := Int.mul_nonneg (show 0 ≤ a by omega) (show 0 ≤ b by omega)
            omega
        · intro h; exact Int.mul_neg_of_neg_of_pos h hb
      have ha : a < 0 ↔ (a : Rat) < 0 := by rw [show (0 : Rat) = ((0 : Int) : Rat) from rfl, Rat.intCast_lt_intCast]
      rw [hneg, ha, ea]
      generalize qv a b = v at *
      generalize (b : Rat) = c at *
      constructor
      · intro h
        exact Decidable.byContradiction fun hn => by
          have := Rat.mul_nonneg (show 0 ≤ v by grind) (show 0 ≤ c by grind)
          grind
      · intro h
        have := Rat.mul_pos (show 0 < -v by grind) h1
        grind
  have hn : isign (a * b) < 0 ↔ a * b < 0 := isignN _
  have hz : isign (a * b) = 0 ↔ a * b = 0 := isign0 _
  rw [hn, hz]
  by_cases hb : b = 0
  · subst hb
    have : qv a 0 = 0 := by unfold qv; grind
    rw [this]; simp
  · by_cases hb0 : 0 < b
    · exact key a b hb0
    · have h := key (-a) (-b) (by omega)
      have e : qv (-a) (-b) = qv a b := qv_eq (by omega) hb (by grind)
      rw [e, show -a * -b = a * b by grind] at h
      exact h
theorem qcmp_val {p q r s : Int} : (qcmp p q r s = 0 ↔ qv p q = qv r s) ∧ (qcmp p q r s < 0 ↔ qv p q < qv r s) ∧ (0 < qcmp p q r s ↔ qv r s < qv p q) := by
  have h := sgn_val (a := (qsub p q r s).1) (b := (qsub p q r s).2)
  rw [qsub_val] at h
  unfold qcmp
  generalize isign ((qsub p q r s).1 * (qsub p q r s).2) = z at *
  have h1 : z = 0 ↔ qv p q = qv r s := by rw [h.1]; constructor <;> intro <;> grind
  have h2 : z < 0 ↔ qv p q < qv r s := by rw [h.2]; constructor <;> intro <;> grind
  refine ⟨h1, h2, ?_⟩
  have : 0 < z ↔ ¬ z = 0 ∧ ¬ z < 0 := by omega
  rw [this, h1, h2]
  constructor
  · intro ⟨a, b⟩; grind
  · intro a; constructor <;> grind
theorem eAdd (l l' : List Atom) [a : Ra l v K] [b : Ra l' v' K'] (h : K + K' ≤ 1000000) : ∃ X, PureOK Tryz.prog 69 [.agg l, .agg l'] (.agg (ratA X)) ∧ Rd X (v + v') (6 * (K + K') + 20) := by
  obtain ⟨x0, x1, x2, x3, p, q, k, m, rfl, z1, z2, hk, hm, b1, b2, hv⟩ := a.h
  obtain ⟨y0, y1, y2, y3, r, s, k', m', rfl, z3, z4, hk', hm', b3, b4, hv'⟩ := b.h
  exact ⟨_, (con_rAdd (h := z1) (h' := z2) (g := z3) (g' := z4)).h (by omega), ⟨by rw [qadd_val, hv, hv'], (mk_pos (qadd_mk ..)).1, (mk_pos (qadd_mk ..)).2, ⟨Bd.mono (Bd.qadd1 p q r s k m k' m').h (by omega)⟩, ⟨Bd.mono (Bd.qadd2 p q r s k m k' m').h (by omega)⟩⟩⟩
theorem eSub (l l' : List Atom) [a : Ra l v K] [b : Ra l' v' K'] (h : K + K' ≤ 400000) : ∃ X, PureOK Tryz.prog 56 [.agg l, .agg l'] (.agg (ratA X)) ∧ Rd X (v - v') (12 * (K + K') + 20) := by
  obtain ⟨x0, x1, x2, x3, p, q, k, m, rfl, z1, z2, hk, hm, b1, b2, hv⟩ := a.h
  obtain ⟨y0, y1, y2, y3, r, s, k', m', rfl, z3, z4, hk', hm', b3, b4, hv'⟩ := b.h
  exact ⟨_, (con_rSub (h := z1) (h' := z2) (g := z3) (g' := z4)).h (by omega), ⟨by rw [qsub_val, hv, hv'], (mk_pos (qsub_mk ..)).1, (mk_pos (qsub_mk ..)).2, ⟨Bd.mono (Bd.qsub1 p q r s k m k' m').h (by omega)⟩, ⟨Bd.mono (Bd.qsub2 p q r s k m k' m').h (by omega)⟩⟩⟩
theorem eMul (l l' : List Atom) [a : Ra l v K] [b : Ra l' v' K'] (h : K + K' ≤ 1000000) : ∃ X, PureOK Tryz.prog 75 [.agg l, .agg l'] (.agg (ratA X)) ∧ Rd X (v * v') (6 * (K + K') + 20) := by
  obtain ⟨x0, x1, x2, x3, p, q, k, m, rfl, z1, z2, hk, hm, b1, b2, hv⟩ := a.h
  obtain ⟨y0, y1, y2, y3, r, s, k', m', rfl, z3, z4, hk', hm', b3, b4, hv'⟩ := b.h
  exact ⟨_, (con_rMul (h := z1) (h' := z2) (g := z3) (g' := z4)).h (by omega), ⟨by rw [qmul_val, hv, hv'], (mk_pos (qmul_mk ..)).1, (mk_pos (qmul_mk ..)).2, ⟨Bd.mono (Bd.qmul1 p q r s k m k' m').h (by omega)⟩, ⟨Bd.mono (Bd.qmul2 p q r s k m k' m').h (by omega)⟩⟩⟩
theorem eQuo (l l' : List Atom) [a : Ra l v K] [b : Ra l' v' K'] (h : K + K' ≤ 1000000) : ∃ X ok, PureOK Tryz.prog 106 [.agg l, .agg l'] (.tup [.agg (ratA X), .one (.c (.val (.bool ok)))]) ∧ Rd X (v / v') (6 * (K + K') + 20) ∧ (ok = true ↔ v' ≠ 0) := by
  obtain ⟨x0, x1, x2, x3, p, q, k, m, rfl, z1, z2, hk, hm, b1, b2, hv⟩ := a.h
  obtain ⟨y0, y1, y2, y3, r, s, k', m', rfl, z3, z4, hk', hm', b3, b4, hv'⟩ := b.h
  refine ⟨_, _, (con_rQuo (h := z1) (h' := z2) (g := z3) (g' := z4)).h (by omega), ⟨by rw [qquo_val, hv, hv'], (mk_pos (qquo_mk ..)).1, (mk_pos (qquo_mk ..)).2, ⟨Bd.mono (Bd.qquo1 p q r s k m k' m').h (by omega)⟩, ⟨Bd.mono (Bd.qquo2 p q r s k m k' m').h (by omega)⟩⟩, ?_⟩
  have h1 := rmk_pos p q
  have h2 := rmk_pos r s
  rw [decide_eq_true_iff, ← hv', ← rmk_val r s]
  have e : qv (rmk r s).1 (rmk r s).2 = 0 ↔ (rmk r s).1 = 0 := by
    have := (sgn_val (a := (rmk r s).1) (b := (rmk r s).2)).1
    rw [← this, isign0, Int.mul_eq_zero]; omega
  rw [Ne, Ne, e, Int.mul_eq_zero]; omega
theorem eCmp (l l' : List Atom) [a : Ra l v K] [b : Ra l' v' K'] (h : K + K' ≤ 400000) : ∃ z : Int, PureOK Tryz.prog 19 [.agg l, .agg l'] (.v (.int .i64 z)) ∧ (z = 0 ↔ v = v') ∧ (z < 0 ↔ v < v') ∧ (0 < z ↔ v' < v) := by
  obtain ⟨x0, x1, x2, x3, p, q, k, m, rfl, z1, z2, hk, hm, b1, b2, hv⟩ := a.h
  obtain ⟨y0, y1, y2, y3, r, s, k', m', rfl, z3, z4, hk', hm', b3, b4, hv'⟩ := b.h
  exact ⟨_, (con_rCmp (h := z1) (h' := z2) (g := z3) (g' := z4)).h (by omega), by rw [← hv, ← hv']; exact qcmp_val⟩
theorem eSign (l : List Atom) [a : Ra l v K] (h : K ≤ 400000) : ∃ z : Int, PureOK Tryz.prog 21 [.agg l] (.v (.int .i64 z)) ∧ (z = 0 ↔ v = 0) ∧ (z < 0 ↔ v < 0) := by
  obtain ⟨x0, x1, x2, x3, p, q, k, m, rfl, z1, z2, hk, hm, b1, b2, hv⟩ := a.h
  exact ⟨_, (con_rSign (h := z1) (h' := z2)).h (by omega), by rw [← hv]; exact sgn_val⟩
end
end Go.Proofs.YtfhpmbenldgfnaaGreatDoor
set_option linter.unusedVariables false
set_option linter.unusedSimpArgs false
namespace Go.Proofs.YtfhpmbenldgfnaaGreatDoor
open Go.RowKit QM SX
attribute [local irreducible] IntKind.wrap Go1 Reg WP thenK inBlk retQ retF RetF RetOK ResOK CallOK OpOK Sat
attribute [local irreducible] qsub qmul qquo qcmp qadd qv
instance con_Few (b : Bool) (l : List Nat) (c : Bool) (m : List Nat) (z : Int) : Con Tryz.prog 33 [.agg (qW b l c m), .v (.int .i64 z)] True (.v (.bool (decide ((l.length : Int) ≤ z ∧ (m.length : Int) ≤ z)))) := ⟨fun _ => by
  refine PureOK.fnF Tryz.func33 Tryz.results33 Tryz.ntmps33 rfl rfl rfl (by simp [AV.ids, AV0.ids, Atom.ids]) rfl (fun w0 T B E0 hB => ?_)
  by_cases h1 : (l.length : Int) ≤ z
  · refine SX.go2 ?_
    refine retB ?_; rw [decide_eq_decide]; exact ⟨fun h => ⟨h1, h⟩, fun h => h.2⟩
  · refine SX.go2 ?_
    refine retB ?_; rw [eq_comm]; exact decide_eq_false (fun h => h1 h.1)⟩
attribute [local irreducible] zround zfq
end Go.Proofs.YtfhpmbenldgfnaaGreatDoor
set_option linter.unusedVariables false
set_option linter.unusedSimpArgs false
namespace Go.Proofs.YtfhpmbenldgfnaaGreatDoor
open Go.RowKit QM SX
attribute [local irreducible] IntKind.wrap Go1 Reg WP thenK inBlk retQ retF RetF RetOK ResOK CallOK OpOK Sat
attribute [local irreducible] qsub qmul qquo qcmp qadd qv
theorem qv_lt {n d m e : Int} (hd : 0 < d) (he : 0 < e) : (qv n d < qv m e ↔ n * e < m * d) ∧ (qv n d = qv m e ↔ n * e = m * d) := by
  have hd' : (0 : Rat) < d := by rw [show (0 : Rat) = ((0 : Int) : Rat) from rfl]; exact Rat.intCast_lt_intCast.2 hd
  have he' : (0 : Rat) < e := by rw [show (0 : Rat) = ((0 : Int) : Rat) from rfl]; exact Rat.intCast_lt_intCast.2 he
  have en : (n : Rat) = qv n d * d := by unfold qv; grind
  have em : (m : Rat) = qv m e * e := by unfold qv; grind
  have hde := Rat.mul_pos hd' he'
  constructor
  · rw [← Rat.intCast_lt_intCast (a := n * e), Rat.intCast_mul, Rat.intCast_mul, en, em]
    generalize qv n d = v at *
    generalize qv m e = u at *
    constructor
    · intro h
      have := Rat.mul_pos (show 0 < u - v by grind) hde
      grind
    · intro h
      exact Decidable.byContradiction fun hn => by
        have := Rat.mul_nonneg (show 0 ≤ v - u by grind) (show (0 : Rat) ≤ (d : Rat) * e by grind)
        grind
  · rw [← Rat.intCast_inj (a := n * e), Rat.intCast_mul, Rat.intCast_mul, en, em]
    generalize qv n d = v at *
    generalize qv m e = u at *
    constructor
    · intro h; rw [h]; grind
    · intro h
      have h0 : (v - u) * ((d : Rat) * e) = 0 := by grind
      rcases Rat.mul_eq_zero.1 h0 with h1 | h1
      · grind
      · rw [h1] at hde; grind
attribute [local irreducible] isign icmp sgn
end Go.Proofs.YtfhpmbenldgfnaaGreatDoor
set_option linter.unusedVariables false
set_option linter.unusedSimpArgs false
namespace Go.Proofs.YtfhpmbenldgfnaaGreatDoor
open Go.RowKit QM SX
attribute [local irreducible] IntKind.wrap Go1 Reg WP thenK inBlk retQ retF RetF RetOK ResOK CallOK OpOK Sat
attribute [local irreducible] qsub qmul qquo qcmp qadd qv
theorem Rd.uniq {p q r s : Int} (h1 : 0 < q) (g1 : Int.gcd p q = 1) (h2 : 0 < s) (g2 : Int.gcd r s = 1) (hv : qv p q = qv r s) : p = r ∧ q = s := by
  have he := (qv_lt (n := p) (m := r) h1 h2).2.1 hv
  have d1 : q ∣ s := by
    have : q ∣ p * s := ⟨r, by rw [he, Int.mul_comm]⟩
    exact Int.natAbs_dvd_natAbs.1 (Nat.Coprime.dvd_of_dvd_mul_left (show Nat.gcd q.natAbs p.natAbs = 1 by rw [Nat.gcd_comm]; exact g1) (by rw [← Int.natAbs_mul]; exact Int.natAbs_dvd_natAbs.2 this))
  have d2 : s ∣ q := by
    have : s ∣ r * q := ⟨p, by rw [← he, Int.mul_comm]⟩
    exact Int.natAbs_dvd_natAbs.1 (Nat.Coprime.dvd_of_dvd_mul_left (show Nat.gcd s.natAbs r.natAbs = 1 by rw [Nat.gcd_comm]; exact g2) (by rw [← Int.natAbs_mul]; exact Int.natAbs_dvd_natAbs.2 this))
  have e : q = s := Int.dvd_antisymm (by omega) (by omega) d1 d2
  subst e
  exact ⟨Int.eq_of_mul_eq_mul_right (by omega) he, rfl⟩
theorem qv_pow {p q : Int} (hq : q ≠ 0) (n : Nat) : qv (p ^ n) (q ^ n) = qv p q ^ n := by
  induction n with
  | zero => unfold qv; simp; grind
  | succ n ih => rw [Int.pow_succ, Int.pow_succ, qv_mul, ih, Rat.pow_succ]
theorem bd_pow {z : Int} {k : Nat} (h : Bd z k) (n : Nat) (hk : 1 ≤ k) : (z ^ n).natAbs < WB ^ (k * n + 1) := by
  rw [Int.natAbs_pow, Nat.pow_succ, Nat.pow_mul]
  have h1 : z.natAbs ^ n ≤ (WB ^ k) ^ n := Nat.pow_le_pow_left (Nat.le_of_lt h.h) n
  have h2 : 0 < (WB ^ k) ^ n := Nat.pow_pos (Nat.pow_pos WB_pos)
  have h3 := WB_one
  exact Nat.lt_of_le_of_lt h1 ((Nat.lt_mul_iff_one_lt_right h2).2 h3)
theorem bd0 (K : Nat) : Bd 0 K := ⟨Nat.pow_pos WB_pos⟩
theorem bd1 {K : Nat} (h : 1 ≤ K) : Bd 1 K := ⟨Bd.mono Bd.one.h h⟩
theorem bdp {z : Int} {k K : Nat} (h : Bd z k) (n : Nat) (hk : 1 ≤ k) (hK : k * n + 1 ≤ K) : Bd (z ^ n) K := ⟨Bd.mono (bd_pow h n hk) hK⟩
theorem powok_small {x : Nat} {n : Int} {k : Nat} (h : x < WB ^ k) (hk : k ≤ 20) (h0 : 0 ≤ n) (h9 : n ≤ 9) : powok x n = true := by
  have hb := bits_le h
  unfold powok
  rw [decide_eq_true h0, Bool.true_and, Bool.or_eq_true, decide_eq_true_iff, decide_eq_true_iff]
  by_cases hb0 : bitLen x = 0
  · exact .inl hb0
  · right
    have : 9 ≤ 1048576 / bitLen x := (Nat.le_div_iff_mul_le (by omega)).2 (by omega)
    omega
theorem q1v {f : FuncId} {r : AV} {u : Value} {x0 x1 x2 x3 : Atom} {p q : Int} {k m : Nat} [h : ZI [x0, x1] p k] [h' : ZI [x2, x3] q m] (he : ∃ fn, Tryz.prog.funcs[f]? = some fn ∧ (fn.name == "runtime.NumGoroutine") = false ∧ fn.body.isNone = false)
    (hf : ∀ neg n neg' n', p = sgn neg n → q = sgn neg' n' → BdN n k → BdN n' m → PureOK Tryz.prog f [.agg (zR neg n k ++ zR neg' n' m), .v u] r) : PureOK Tryz.prog f [.agg [x0, x1, x2, x3], .v u] r := by
  obtain ⟨neg, n, hz, hm⟩ := h.h
  obtain ⟨neg', n', hz', hm'⟩ := h'.h
  refine PureOK.fact (φ := BdN n k ∧ BdN n' m) he (fun hb => hf neg n neg' n' hz hz' hb.1 hb.2) fun E S w vs hv => ?_
  match vs, hv with
  | [_, y], ⟨⟨[v0, v1, v2, v3], rfl, h0, h1, h2, h3, _⟩, hy, _⟩ =>
    have a1 := hm E S w _ ⟨[v0, v1], rfl, h0, h1, trivial⟩
    have a2 := hm' E S w _ ⟨[v2, v3], rfl, h2, h3, trivial⟩
    refine ⟨⟨⟨[v0, v1, v2, v3], rfl, ?_⟩, hy, trivial⟩, ⟨zR_bd a1⟩, ⟨zR_bd a2⟩⟩
    obtain ⟨us, e1, b1⟩ := a1
    obtain ⟨us', e2, b2⟩ := a2
    match us, us', b1, b2 with
    | [_, _], [_, _], ⟨c0, c1, _⟩, ⟨d0, d1, _⟩ =>
      cases e1; cases e2
      exact ⟨c0, c1, d0, d1, trivial⟩
theorem zpowv_eq {z n : Int} (h : powok z.natAbs n = true) : zpowv z n = z ^ n.toNat := by unfold zpowv; rw [if_pos h]
attribute [local irreducible] zpowv powok sgn isign
section
variable {x0 x1 x2 x3 : Atom} {p q : Int} {k m : Nat}
theorem con_rPowP [h : ZI [x0, x1] p k] [h' : ZI [x2, x3] q m] (hk : k + m ≤ 10) (n : Int) (h0 : 0 ≤ n) (h9 : n ≤ 9) (o1 : powok (rmk p q).1.natAbs n = true) (o2 : powok (rmk p q).2.natAbs n = true) :
    PureOK Tryz.prog 110 [.agg [x0, x1, x2, x3], .v (.int .i64 n)] (.tup [.agg (ratA (rmk (zpowv (rmk p q).1 n) (zpowv (rmk p q).2 n))), .one (.c (.val (.bool true)))]) := by
  refine q1v ⟨_, Tryz.func110, rfl, rfl⟩ fun neg n' neg2 n2 hz hz2 hn hn2 => ?_
  subst hz; subst hz2
  have hpk := pwK_eq
  refine PureOK.fnF Tryz.func110 Tryz.results110 Tryz.ntmps110 rfl rfl rfl (by simp [AV.ids, AV0.ids, Atom.ids]) rfl (fun w0 T B E0 hB => ?_)
  refine SX.go2 ?_
  exact ret2' (ResOK.agg4 rfl rfl rfl) (ResOK.tmp rfl) (AV0.imp.refl _) (AV0.imp.refl _)
theorem con_rPowN [h : ZI [x0, x1] p k] [h' : ZI [x2, x3] q m] (hk : k + m ≤ 10) (n : Int) (h0 : n < 0) (h9 : -9 ≤ n) (hv : isign ((rmk p q).1 * (rmk p q).2) ≠ 0) (o1 : powok (rmk (rmk p q).2 (rmk p q).1).1.natAbs (0 - n) = true) (o2 : powok (rmk (rmk p q).2 (rmk p q).1).2.natAbs (0 - n) = true) :
    PureOK Tryz.prog 110 [.agg [x0, x1, x2, x3], .v (.int .i64 n)] (.tup [.agg (ratA (rmk (zpowv (rmk (rmk p q).2 (rmk p q).1).1 (0 - n)) (zpowv (rmk (rmk p q).2 (rmk p q).1).2 (0 - n)))), .one (.c (.val (.bool true)))]) := by
  refine q1v ⟨_, Tryz.func110, rfl, rfl⟩ fun neg n' neg2 n2 hz hz2 hn hn2 => ?_
  subst hz; subst hz2
  have hpk := pwK_eq
  refine PureOK.fnF Tryz.func110 Tryz.results110 Tryz.ntmps110 rfl rfl rfl (by simp [AV.ids, AV0.ids, Atom.ids]) rfl (fun w0 T B E0 hB => ?_)
  refine SX.go2 ?_
  exact ret2' (ResOK.agg4 rfl rfl rfl) (ResOK.tmp rfl) (AV0.imp.refl _) (AV0.imp.refl _)
theorem con_rPow0 [h : ZI [x0, x1] p k] [h' : ZI [x2, x3] q m] (hk : k + m ≤ 10) (n : Int) (h0 : n < 0) (h9 : -9 ≤ n) (hv : isign ((rmk p q).1 * (rmk p q).2) = 0) :
    PureOK Tryz.prog 110 [.agg [x0, x1, x2, x3], .v (.int .i64 n)] (.tup [.agg (ratA (0, 1)), .one (.c (.val (.bool false)))]) := by
  refine q1v ⟨_, Tryz.func110, rfl, rfl⟩ fun neg n' neg2 n2 hz hz2 hn hn2 => ?_
  subst hz; subst hz2
  refine PureOK.fnF Tryz.func110 Tryz.results110 Tryz.ntmps110 rfl rfl rfl (by simp [AV.ids, AV0.ids, Atom.ids]) rfl (fun w0 T B E0 hB => ?_)
  refine SX.go2 ?_
  exact ret2' (ResOK.agg4 rfl rfl rfl) (ResOK.tmp rfl) (AV0.imp.refl _) (AV0.imp.refl _)
end
theorem ePow (l : List Atom) {v : Rat} {K : Nat} [a : Ra l v K] (hK : K ≤ 4) (n : Int) (h1 : -9 ≤ n) (h2 : n ≤ 9) : ∃ X ok, PureOK Tryz.prog 110 [.agg l, .v (.int .i64 n)] (.tup [.agg (ratA X), .one (.c (.val (.bool ok)))]) ∧ Rd X (if n < 0 then (1 / v) ^ n.natAbs else v ^ n.natAbs) 1000 ∧ (ok = true ↔ 0 ≤ n ∨ v ≠ 0) := by
  obtain ⟨x0, x1, x2, x3, p, q, k, m, rfl, z1, z2, hk, hm, b1, b2, hv⟩ := a.h
  have hd := rmk_pos p q
  have hval := rmk_val p q
  rw [hv] at hval
  have i1 : Bd (rmk p q).1 (k + m + 1) := inferInstance
  have i2 : Bd (rmk p q).2 (k + m + 1) := inferInstance
  by_cases h0 : 0 ≤ n
  · have o1 := powok_small i1.h (by omega) h0 h2
    have o2 := powok_small i2.h (by omega) h0 h2
    refine ⟨_, true, con_rPowP (h := z1) (h' := z2) (by omega) n h0 h2 o1 o2, ?_, by simp [h0]⟩
    rw [zpowv_eq o1, zpowv_eq o2, if_neg (by omega), show n.natAbs = n.toNat by omega]
    have g : (k + m + 1) * n.toNat ≤ 9 * 9 := Nat.mul_le_mul (by omega) (by omega)
    exact Rd.rmk (k := 100) (m := 100) (bdp i1 n.toNat (by omega) (by omega)) (bdp i2 n.toNat (by omega) (by omega)) (by rw [qv_pow (by omega), hval]) (by omega)
  · have hs := (sgn_val (a := (rmk p q).1) (b := (rmk p q).2)).1
    rw [hval] at hs
    by_cases hv0 : isign ((rmk p q).1 * (rmk p q).2) = 0
    · have hvz := hs.1 hv0
      refine ⟨(0, 1), false, con_rPow0 (h := z1) (h' := z2) (by omega) n (by omega) h1 hv0, ⟨?_, by decide, by decide, bd0 _, bd1 (by omega)⟩, by simp [hvz]; omega⟩
      rw [if_pos (by omega), hvz]
      obtain ⟨j, hj⟩ : ∃ j, n.natAbs = j + 1 := ⟨n.natAbs - 1, by omega⟩
      rw [hj, Rat.pow_succ]
      show qv 0 1 = _
      unfold qv; grind
    · have hvz : v ≠ 0 := fun h => hv0 (hs.2 h)
      have j1 : Bd (rmk (rmk p q).2 (rmk p q).1).1 ((k + m + 1) + (k + m + 1) + 1) := inferInstance
      have j2 : Bd (rmk (rmk p q).2 (rmk p q).1).2 ((k + m + 1) + (k + m + 1) + 1) := inferInstance
      have o1 := powok_small (n := 0 - n) j1.h (by omega) (by omega) (by omega)
      have o2 := powok_small (n := 0 - n) j2.h (by omega) (by omega) (by omega)
      refine ⟨_, true, con_rPowN (h := z1) (h' := z2) (by omega) n (by omega) h1 hv0 o1 o2, ?_, by simp [hvz]⟩
      rw [zpowv_eq o1, zpowv_eq o2, if_pos (by omega), show n.natAbs = (0 - n).toNat by omega]
      have g : ((k + m + 1) + (k + m + 1) + 1) * (0 - n).toNat ≤ 19 * 9 := Nat.mul_le_mul (by omega) (by omega)
      have hp2 := rmk_pos (rmk p q).2 (rmk p q).1
      refine Rd.rmk (k := 200) (m := 200) (bdp j1 (0 - n).toNat (by omega) (by omega)) (bdp j2 (0 - n).toNat (by omega) (by omega)) ?_ (by omega)
      rw [qv_pow (by omega), rmk_val]
      congr 1
      rw [← hval]; unfold qv; grind
def pwQ (x y : Int) : Nat → Int × Int
  | 0 => (1, 1)
  | k + 1 => (x ^ (k + 1), y ^ (k + 1))
end Go.Proofs.YtfhpmbenldgfnaaGreatDoor
set_option linter.unusedVariables false
set_option linter.unusedSimpArgs false
namespace Go.Proofs.YtfhpmbenldgfnaaGreatDoor
open Go.RowKit QM SX
attribute [local irreducible] qsub qmul qquo qcmp qadd
abbrev qC (v : Rat) : List CA := [.val (.bool (decide (v.num < 0))), .sat (nrmN v.num.natAbs), .val (.bool (decide ((v.den : Int) < 0))), .sat (nrmN (v.den : Int).natAbs)]
abbrev qA (v : Rat) : List Atom := [.c (.val (.bool (decide (v.num < 0)))), .c (.sat (nrmN v.num.natAbs)), .c (.val (.bool (decide ((v.den : Int) < 0)))), .c (.sat (nrmN (v.den : Int).natAbs))]
instance : EncLen qC 4 := ⟨fun _ => rfl⟩
theorem den_ne (v : Rat) : (v.den : Int) ≠ 0 := by have := v.den_nz; omega
theorem qv_self (v : Rat) : qv v.num v.den = v := by
  unfold qv
  rw [← Rat.divInt_eq_div]; exact Rat.num_divInt_den v
theorem qv_cross {p q : Int} {v : Rat} (hq : q ≠ 0) (h : qv p q = v) : v.num * q = p * v.den := by
  have h2 := qv_self v
  have d1 := c0 hq
  have d2 := c0 (den_ne v)
  unfold qv at h h2
  apply Rat.intCast_inj.1
  rw [Rat.intCast_mul, Rat.intCast_mul]
  generalize ((v.den : Int) : Rat) = d at *
  generalize ((v.num : Int) : Rat) = n at *
  generalize (p : Rat) = a at *
  generalize (q : Rat) = b at *
  subst h2
  grind
theorem qv_parts {p q : Int} {v : Rat} (hq : q ≠ 0) (h : qv p q = v) : ∃ c : Int, q = c * v.den ∧ p = c * v.num := by
  have hx := qv_cross hq h
  have hc : Nat.Coprime v.num.natAbs v.den := v.reduced
  have hd : (v.den : Int) ∣ v.num * q := ⟨p, by rw [hx]; exact Int.mul_comm _ _⟩
  have hd2 : v.den ∣ q.natAbs := by
    have h1 : v.den ∣ (v.num * q).natAbs := Int.natAbs_natCast v.den ▸ (Int.natAbs_dvd_natAbs.2 hd)
    rw [Int.natAbs_mul] at h1
    exact hc.symm.dvd_of_dvd_mul_left h1
  obtain ⟨c, hcq⟩ : (v.den : Int) ∣ q := Int.natAbs_dvd_natAbs.1 (by rw [Int.natAbs_natCast]; exact hd2)
  refine ⟨c, by rw [hcq]; exact Int.mul_comm _ _, ?_⟩
  rw [hcq] at hx
  have h0 := den_ne v
  have : (v.den : Int) * (v.num * c) = (v.den : Int) * p := by grind
  have := Int.eq_of_mul_eq_mul_left h0 this
  grind
structure RB (v : Rat) (K : Nat) : Prop where
  n : v.num.natAbs < WB ^ K
  d : v.den < WB ^ K
theorem RB.of {p q : Int} {v : Rat} {K : Nat} (hq : q ≠ 0) (h : qv p q = v) (h1 : p.natAbs < WB ^ K) (h2 : q.natAbs < WB ^ K) : RB v K := by
  obtain ⟨c, e1, e2⟩ := qv_parts hq h
  have hc : 1 ≤ c.natAbs := by
    rcases Nat.eq_zero_or_pos c.natAbs with h | h
    · have : c = 0 := by omega
      subst this; rw [Int.zero_mul] at e1; exact absurd e1 hq
    · exact h
  have a1 : q.natAbs = c.natAbs * v.den := by rw [e1, Int.natAbs_mul, Int.natAbs_natCast]
  have a2 : p.natAbs = c.natAbs * v.num.natAbs := by rw [e2, Int.natAbs_mul]
  have b1 := Nat.mul_le_mul_right v.den hc
  have b2 := Nat.mul_le_mul_right v.num.natAbs hc
  exact ⟨by omega, by omega⟩
theorem RB.mono {v : Rat} {K L : Nat} (h : RB v K) (hK : K ≤ L) : RB v L := ⟨Nat.lt_of_lt_of_le h.n (Nat.pow_le_pow_right WB_pos hK), Nat.lt_of_lt_of_le h.d (Nat.pow_le_pow_right WB_pos hK)⟩
theorem pow_ge (K : Nat) : 1 ≤ WB ^ K := Nat.pow_pos WB_pos
theorem mul_lt_pow {a b K L : Nat} (h1 : a < WB ^ K) (h2 : b < WB ^ L) : a * b < WB ^ (K + L) := by
  rw [Nat.pow_add]
  have := Nat.mul_le_mul (show a ≤ WB ^ K - 1 by omega) (show b ≤ WB ^ L - 1 by omega)
  have p1 := pow_ge K
  have p2 := pow_ge L
  refine Nat.lt_of_le_of_lt this ?_
  have h3 : (WB ^ K - 1) * (WB ^ L - 1) ≤ (WB ^ K - 1) * WB ^ L := Nat.mul_le_mul_left _ (Nat.sub_le _ _)
  have h4 : (WB ^ K - 1) * WB ^ L < WB ^ K * WB ^ L := (Nat.mul_lt_mul_right (by omega)).2 (by omega)
  omega
theorem two_lt (K : Nat) : 2 * WB ^ K ≤ WB ^ (K + 1) := by
  rw [Nat.pow_succ, Nat.mul_comm]; exact Nat.mul_le_mul_left _ (by rw [WB_eq]; decide)
theorem RB.add {u v : Rat} {K L : Nat} (h : RB u K) (k : RB v L) : RB (u + v) (K + L + 1) := by
  refine RB.of (p := u.num * v.den + v.num * u.den) (q := u.den * v.den) (Int.mul_ne_zero (den_ne u) (den_ne v)) ?_ ?_ ?_
  · rw [qv_add (den_ne u) (den_ne v), qv_self, qv_self]
  · have h1 : (u.num * (v.den : Int)).natAbs < WB ^ (K + L) := by rw [Int.natAbs_mul, Int.natAbs_natCast]; exact mul_lt_pow h.n k.d
    have h2 : (v.num * (u.den : Int)).natAbs < WB ^ (K + L) := by rw [Int.natAbs_mul, Int.natAbs_natCast, Nat.add_comm]; exact mul_lt_pow k.n h.d
    have h3 := two_lt (K + L)
    generalize u.num * (v.den : Int) = x at *
    generalize v.num * (u.den : Int) = y at *
    omega
  · rw [Int.natAbs_mul, Int.natAbs_natCast, Int.natAbs_natCast]
    exact Nat.lt_of_lt_of_le (mul_lt_pow h.d k.d) (Nat.pow_le_pow_right WB_pos (by omega))
theorem RB.mul {u v : Rat} {K L : Nat} (h : RB u K) (k : RB v L) : RB (u * v) (K + L) := by
  refine RB.of (p := u.num * v.num) (q := u.den * v.den) (Int.mul_ne_zero (den_ne u) (den_ne v)) ?_ ?_ ?_
  · rw [qv_mul, qv_self, qv_self]
  · rw [Int.natAbs_mul]; exact mul_lt_pow h.n k.n
  · rw [Int.natAbs_mul, Int.natAbs_natCast, Int.natAbs_natCast]; exact mul_lt_pow h.d k.d
theorem RB.neg {v : Rat} {K : Nat} (h : RB v K) : RB (-v) K := by
  refine RB.of (p := -v.num) (q := v.den) (den_ne v) (by rw [qv_neg, qv_self]) (by rw [Int.natAbs_neg]; exact h.n) (by rw [Int.natAbs_natCast]; exact h.d)
theorem RB.sub {u v : Rat} {K L : Nat} (h : RB u K) (k : RB v L) : RB (u - v) (K + L + 1) := by rw [Rat.sub_eq_add_neg]; exact h.add k.neg
theorem RB.zero {K : Nat} (hK : 1 ≤ K) : RB 0 K := by
  have h : WB ^ 1 ≤ WB ^ K := Nat.pow_le_pow_right WB_pos hK
  rw [Nat.pow_one] at h
  have := WB_eq
  exact ⟨by show (0 : Nat) < _; omega, by show (1 : Nat) < _; omega⟩
theorem RB.one {K : Nat} (hK : 1 ≤ K) : RB 1 K := by
  have h : WB ^ 1 ≤ WB ^ K := Nat.pow_le_pow_right WB_pos hK
  rw [Nat.pow_one] at h
  have := WB_eq
  exact ⟨by show (1 : Nat) < _; omega, by show (1 : Nat) < _; omega⟩
theorem RB.div {u v : Rat} {K L : Nat} (h : RB u K) (k : RB v L) (hv : v ≠ 0) : RB (u / v) (K + L) := by
  have hn : v.num ≠ 0 := fun e => hv (Rat.num_eq_zero.1 e)
  refine RB.of (p := u.num * v.den) (q := u.den * v.num) (Int.mul_ne_zero (den_ne u) hn) ?_ ?_ ?_
  · rw [qv_div, qv_self, qv_self]
  · rw [Int.natAbs_mul, Int.natAbs_natCast]; exact mul_lt_pow h.n k.d
  · rw [Int.natAbs_mul, Int.natAbs_natCast]; exact mul_lt_pow h.d k.n
theorem RB.ra {v : Rat} {K : Nat} (h : RB v K) : Ra (qA v) v K :=
  ⟨_, _, _, _, v.num, (v.den : Int), K, K, rfl, (haveI : Bd v.num K := ⟨h.n⟩; inferInstance), (haveI : Bd (v.den : Int) K := ⟨by rw [Int.natAbs_natCast]; exact h.d⟩; inferInstance), Nat.le_refl _, Nat.le_refl _, ⟨h.n⟩, ⟨by rw [Int.natAbs_natCast]; exact h.d⟩, qv_self v⟩
theorem Rd.nf {X : Int × Int} {v : Rat} {K : Nat} (h : Rd X v K) : X = (v.num, (v.den : Int)) := by
  obtain ⟨p, q⟩ := X
  have hq : q ≠ 0 := by have := h.d; dsimp only at this; omega
  obtain ⟨c, e1, e2⟩ := qv_parts hq (show qv p q = v from h.v)
  have hg : Int.gcd p q = 1 := h.g
  have hc1 : c.natAbs ∣ Int.gcd p q := Nat.dvd_gcd (by rw [e2, Int.natAbs_mul]; exact Nat.dvd_mul_right _ _) (by rw [e1, Int.natAbs_mul]; exact Nat.dvd_mul_right _ _)
  rw [hg] at hc1
  have hca : c.natAbs = 1 := Nat.dvd_one.1 hc1
  have hpos : 0 < q := h.d
  have hden : 0 < (v.den : Int) := by have := v.den_nz; omega
  have hc : c = 1 := by
    rcases Int.natAbs_eq_iff.1 hca with h | h
    · exact h
    · subst h; rw [e1] at hpos; simp at hpos; omega
  subst hc
  rw [Int.one_mul] at e1 e2
  rw [e1, e2]
section
variable {l l' : List Atom} {v v' : Rat} {K K' : Nat}
instance con_qAdd [a : Ra l v K] [b : Ra l' v' K'] : Con Tryz.prog 69 [.agg l, .agg l'] (K + K' ≤ 1000000) (.agg (qA (v + v'))) := ⟨fun h => by
  obtain ⟨X, c, r⟩ := eAdd l l' h
  rw [r.nf] at c; exact c⟩
instance con_qSub [a : Ra l v K] [b : Ra l' v' K'] : Con Tryz.prog 56 [.agg l, .agg l'] (K + K' ≤ 400000) (.agg (qA (v - v'))) := ⟨fun h => by
  obtain ⟨X, c, r⟩ := eSub l l' h
  rw [r.nf] at c; exact c⟩
instance con_qMul [a : Ra l v K] [b : Ra l' v' K'] : Con Tryz.prog 75 [.agg l, .agg l'] (K + K' ≤ 1000000) (.agg (qA (v * v'))) := ⟨fun h => by
  obtain ⟨X, c, r⟩ := eMul l l' h
  rw [r.nf] at c; exact c⟩
instance con_qQuo [a : Ra l v K] [b : Ra l' v' K'] : Con Tryz.prog 106 [.agg l, .agg l'] (K + K' ≤ 1000000) (.tup [.agg (qA (v / v')), .one (.c (.val (.bool (decide (v' ≠ 0)))))]) := ⟨fun h => by
  obtain ⟨X, ok, c, r, ho⟩ := eQuo l l' h
  have e : ok = decide (v' ≠ 0) := by
    cases ok with
    | true => exact (decide_eq_true (ho.1 rfl)).symm
    | false => exact (decide_eq_false fun hn => by have := ho.2 hn; cases this).symm
  rw [r.nf, e] at c; exact c⟩
end
end Go.Proofs.YtfhpmbenldgfnaaGreatDoor
set_option linter.unusedVariables false
set_option linter.unusedSimpArgs false
namespace Go.Proofs.YtfhpmbenldgfnaaGreatDoor
open Go.RowKit QM SX
attribute [local irreducible] IntKind.wrap Go1 Reg WP thenK inBlk retQ retF RetF RetOK ResOK CallOK OpOK Sat
attribute [local irreducible] qsub qmul qquo qcmp qadd qv
instance con_qZero : Con Tryz.prog 136 [] True (.agg (qA 0)) := ⟨fun _ => by
  refine PureOK.fnF Tryz.func136 Tryz.results136 Tryz.ntmps136 rfl rfl rfl (by simp [AV.ids, AV0.ids, Atom.ids]) rfl (fun w0 T B E0 hB => ?_)
  refine SX.go2 ?_
  exact retA (ResOK.agg4 rfl rfl rfl) rfl⟩
instance con_qOne : Con Tryz.prog 135 [] True (.agg (qA 1)) := ⟨fun _ => by
  refine PureOK.fnF Tryz.func135 Tryz.results135 Tryz.ntmps135 rfl rfl rfl (by simp [AV.ids, AV0.ids, Atom.ids]) rfl (fun w0 T B E0 hB => ?_)
  refine SX.go2 ?_
  exact retA (ResOK.agg4 rfl rfl rfl) rfl⟩
def tkL (r s : List Rat) (f : Rat) (k : Nat) : List Rat := (List.zipWith (fun a b => a - f * b) (r.take k) (s.take k)) ++ r.drop k
theorem tkL_len {r s : List Rat} {f : Rat} {k : Nat} (h : r.length = s.length) (hk : k ≤ r.length) : (tkL r s f k).length = r.length := by
  unfold tkL; simp; omega
theorem tkL_get {r s : List Rat} {f : Rat} {k : Nat} {a : Rat} (h : r.length = s.length) (ha : r[k]? = some a) : (tkL r s f k)[k]? = some a := by
  have hk : k < r.length := by
    rcases Nat.lt_or_ge k r.length with h | h
    · exact h
    · rw [List.getElem?_eq_none h] at ha; cases ha
  unfold tkL
  rw [List.getElem?_append_right (by simp; omega)]
  simp only [List.length_zipWith, List.length_take, List.getElem?_drop]
  rw [show min (min k r.length) (min k s.length) = k by omega, Nat.sub_self, Nat.add_zero]; exact ha
theorem tkL_set {r s : List Rat} {f : Rat} {k : Nat} {a b : Rat} (h : r.length = s.length) (ha : r[k]? = some a) (hb : s[k]? = some b) : (tkL r s f k).set k (a - f * b) = tkL r s f (k + 1) := by
  have hk : k < r.length := by
    rcases Nat.lt_or_ge k r.length with h | h
    · exact h
    · rw [List.getElem?_eq_none h] at ha; cases ha
  apply List.ext_getElem?
  intro i
  rw [List.getElem?_set]
  unfold tkL
  by_cases hi : k = i
  · subst hi
    rw [if_pos rfl, if_pos (by simp; omega)]
    rw [List.getElem?_append_left (by simp; omega), List.getElem?_zipWith]
    simp [ha, hb]
  · rw [if_neg hi]
    by_cases hlt : i < k
    · rw [List.getElem?_append_left (by simp; omega), List.getElem?_append_left (by simp; omega), List.getElem?_zipWith, List.getElem?_zipWith]
      simp [List.getElem?_take, hlt, show i < k + 1 by omega]
    · rw [List.getElem?_append_right (by simp; omega), List.getElem?_append_right (by simp; omega)]
      simp only [List.length_zipWith, List.length_take, List.getElem?_drop]
      congr 1
      omega
theorem con_take (r s : List Rat) (f : Rat) (K : Nat) (hrs : r.length = s.length) (hr : ∀ x ∈ r, RB x K) (hs : ∀ x ∈ s, RB x K) (hf : RB f K) (hK : K ≤ 100000) (hl : r.length ≤ 1000) :
    CallOK Tryz.prog 240 [.own 81, .own 82, .agg (qA f)] [(81, .row 27 4 r.length (r.flatMap qC)), (82, .row 27 4 s.length (s.flatMap qC))] ⟨.tup [], [(81, .ent (.row 27 4 r.length ((tkL r s f r.length).flatMap qC))), (82, .ent (.row 27 4 s.length (s.flatMap qC)))]⟩ := by
  refine CallOK.fnA Tryz.func240 Tryz.results240 Tryz.ntmps240 rfl rfl rfl rfl rfl rfl rfl rfl (fun w0 T B E0 hB => ?_)
  refine SX.goQ ?_
  refine W.loop (fun k => k ≤ r.length) (fun k => [(0, .own 81), (1, .own 82), (5, .ptr 5 0), (8, .v (.int .i64 (r.length : Int))), (9, .v (.int .i64 (k : Int)))]) (fun k => [(81, .row 27 4 r.length ((tkL r s f k).flatMap qC)), (82, .row 27 4 s.length (s.flatMap qC)), (5, .box 27 (qA f))]) (fun k => r.length - k) 0 (Nat.zero_le _) (fun k hk => ?_)
  by_cases h : k < r.length
  · obtain ⟨a, ha⟩ : ∃ a, r[k]? = some a := ⟨r[k], List.getElem?_eq_getElem h⟩
    obtain ⟨b, hb⟩ : ∃ b, s[k]? = some b := ⟨s[k]'(by omega), List.getElem?_eq_getElem _⟩
    have g1 := tkL_get (f := f) hrs ha
    have b1 := hr a (List.mem_of_getElem? ha)
    have b2 := hs b (List.mem_of_getElem? hb)
    have ia := b1.ra
    have ib := b2.ra
    have jf := hf.ra
    have im := (hf.mul b2).ra
    have hn := tkL_len (f := f) hrs hk
    have e1 : Ent.row 27 4 r.length (((tkL r s f k).set k (a - f * b)).flatMap qC) = Ent.row 27 4 r.length ((tkL r s f (k + 1)).flatMap qC) := by rw [tkL_set hrs ha hb]
    refine SX.goQ ?_
    refine W.next (k + 1) h (by omega) (by
      refine SX.St.le_to [] (by intro b h; exact SX.fixIs h rfl) ?_ ?_ rfl
      · repeat (first | exact trivial | refine ⟨⟨_, rfl, SX.AVto.same rfl⟩, ?_⟩)
      · exact ⟨SX.EntTo.eq rfl e1 rfl, SX.EntTo.same rfl rfl, SX.EntTo.same rfl rfl, trivial⟩)
  · obtain rfl : k = r.length := by omega
    refine SX.goQ ?_
    exact retP (xs := []) trivial ⟨rfl, rfl, trivial⟩
end Go.Proofs.YtfhpmbenldgfnaaGreatDoor
set_option linter.unusedVariables false
set_option linter.unusedSimpArgs false
namespace Go.Proofs.YtfhpmbenldgfnaaGreatDoor
open Go.RowKit QM SX
attribute [local irreducible] IntKind.wrap Go1 Reg WP thenK inBlk retQ retF RetF RetOK ResOK CallOK OpOK Sat
attribute [local irreducible] qsub qmul qquo qcmp qadd qv
def tabR (c : Nat) (val : Nat → Nat → Rat) (i : Nat) : List Rat := (List.range i).flatMap fun i => (List.range c).map (val i)
theorem tabR_zero {c : Nat} {val : Nat → Nat → Rat} : tabR c val 0 = [] := rfl
theorem tabR_succ {c i : Nat} {val : Nat → Nat → Rat} : tabR c val (i + 1) = tabR c val i ++ (List.range c).map (val i) := by
  unfold tabR; rw [List.range_succ, List.flatMap_append]; simp
theorem tabR_len {c : Nat} {val : Nat → Nat → Rat} : ∀ i, (tabR c val i).length = i * c
  | 0 => by simp [tabR_zero]
  | i + 1 => by rw [tabR_succ, List.length_append, tabR_len i]; simp [Nat.succ_mul]
def rowK (val : Nat → Nat → Rat) (i k : Nat) : List Rat := (List.range k).map (val i)
theorem rowK_succ {val : Nat → Nat → Rat} {i k : Nat} : rowK val i (k + 1) = rowK val i k ++ [val i k] := by
  unfold rowK; rw [List.range_succ, List.map_append]; rfl
theorem rowK_len {val : Nat → Nat → Rat} {i k : Nat} : (rowK val i k).length = k := by simp [rowK]
abbrev Q4 := Bool × Rep × Bool × Rep
abbrev q4A (q : Q4) : List Atom := [.c (.val (.bool q.1)), .c (.sat q.2.1), .c (.val (.bool q.2.2.1)), .c (.sat q.2.2.2)]
abbrev matA (r c : Nat) (l : List Rat) : List Atom := [.c (.val (.int .i64 (r : Int))), .c (.val (.int .i64 (c : Int))), .c (.sat (rowR 4 qC l))]
theorem con_made (r c : Nat) (x : CA) (L : Nat → Nat → Q4) (val : Nat → Nat → Rat) (K : Nat) (hr : r ≤ 100) (hc : c ≤ 100) (hK : K + 1 ≤ 1000000)
    (hx : ∀ i k, i < r → k < c → FnV Tryz.prog x [.v (.int .i64 (i : Int)), .v (.int .i64 (k : Int))] (.agg (q4A (L i k)))) (hL : ∀ i k, i < r → k < c → Ra (q4A (L i k)) (val i k) K) (hx1 : x.oneB = true) :
    PureOK Tryz.prog 133 [.v (.int .i64 (r : Int)), .v (.int .i64 (c : Int)), .it (.one (.c x))] (.agg (matA r c (tabR c val r))) := by
  have iz : Ra (qA 0) 0 1 := (RB.zero (Nat.le_refl 1)).ra
  refine PureOK.fnF Tryz.func133 Tryz.results133 Tryz.ntmps133 rfl rfl rfl (by simp [AV.ids, AV0.ids, Atom.ids]) rfl (fun w0 T B E0 hB => ?_)
  refine SX.goQ ?_
  refine W.loop (fun i => i ≤ r) (fun i => [(1, .v (.int .i64 (c : Int))), (2, .it (.one (.c x))), (6, .ptr 6 0), (7, .ptr 7 0), (13, .v (.int .i64 (r : Int))), (14, .v (.int .i64 (i : Int)))]) (fun i => [(6, .box 30 [.c (.val (.int .i64 0)), .c (.val (.int .i64 0)), .c (.val (.slice none 0 0))]), (7, .box 30 [.c (.val (.int .i64 (r : Int))), .c (.val (.int .i64 (c : Int))), .own 100]), (100, .row 27 4 (i * c) ((tabR c val i).flatMap qC))]) (fun i => r - i) 0 (Nat.zero_le _) (fun i hi => ?_)
    (by
      refine SX.St.le_to [(100, none)] (by intro b h; cases h) ?_ ?_ rfl
      · repeat (first | exact trivial | refine ⟨⟨_, rfl, SX.AVto.same rfl⟩, ?_⟩)
      · exact ⟨SX.EntTo.same rfl rfl, SX.EntTo.boxTo rfl rfl ⟨AtomTo.same rfl, AtomTo.same rfl, AtomTo.nil rfl, trivial⟩, by rw [Nat.zero_mul]; exact SX.EntTo.nilRow rfl, trivial⟩)
  by_cases h : i < r
  · refine SX.goQ ?_
    refine W.loop (fun k => k ≤ c) (fun k => [(1, .v (.int .i64 (c : Int))), (2, .it (.one (.c x))), (6, .ptr 6 0), (7, .ptr 7 0), (8, .v (.int .i64 (i : Int))), (13, .v (.int .i64 (r : Int))), (14, .v (.int .i64 (i : Int))), (17, .v (.int .i64 (c : Int))), (18, .v (.int .i64 (k : Int)))]) (fun k => [(6, .box 30 [.c (.val (.int .i64 0)), .c (.val (.int .i64 0)), .c (.val (.slice none 0 0))]), (7, .box 30 [.c (.val (.int .i64 (r : Int))), .c (.val (.int .i64 (c : Int))), .own 100]), (100, .row 27 4 (i * c + k) ((tabR c val i ++ rowK val i k).flatMap qC))]) (fun k => c - k) 0 (Nat.zero_le _) (fun k hk => ?_)
      (by
        have e : Ent.row 27 4 (i * c) ((tabR c val i).flatMap qC) = Ent.row 27 4 (i * c + 0) ((tabR c val i ++ rowK val i 0).flatMap qC) := by simp [rowK]
        refine SX.St.le_to [] (by intro b h; cases h) ?_ ?_ rfl
        · repeat (first | exact trivial | refine ⟨⟨_, rfl, SX.AVto.same rfl⟩, ?_⟩)
        · exact ⟨SX.EntTo.same rfl rfl, SX.EntTo.same rfl rfl, SX.EntTo.eq rfl e rfl, trivial⟩)
    by_cases h2 : k < c
    · have hf := hx i k h h2
      have ir := hL i k h h2
      have hlen : i * c + k ≤ 20000 := by
        have := Nat.mul_le_mul (show i ≤ 100 by omega) hc
        omega
      refine SX.goQ ?_
      refine W.next (k + 1) h2 (by omega) (by
        have e2 : (tabR c val i ++ rowK val i k).flatMap qC ++ qC (val i k + 0) = (tabR c val i ++ rowK val i (k + 1)).flatMap qC := by
          rw [Rat.add_zero, rowK_succ, ← List.append_assoc, List.flatMap_append (xs := tabR c val i ++ rowK val i k)]; simp
        refine SX.St.le_to [(100, some 30)] (by intro b h; cases h) ?_ ?_ rfl
        · repeat (first | exact trivial | refine ⟨⟨_, rfl, SX.AVto.same rfl⟩, ?_⟩)
        · exact ⟨SX.EntTo.same rfl rfl, SX.EntTo.boxTo rfl rfl ⟨AtomTo.same rfl, AtomTo.same rfl, AtomTo.own rfl, trivial⟩, SX.EntTo.row rfl rfl (by omega) e2, trivial⟩)
    · obtain rfl : k = c := by omega
      refine SX.goQ ?_
      refine W.next (i + 1) h (by omega) (by
        have e2 : Ent.row 27 4 (i * k + k) ((tabR k val i ++ rowK val i k).flatMap qC) = Ent.row 27 4 ((i + 1) * k) ((tabR k val (i + 1)).flatMap qC) := by rw [Nat.succ_mul, tabR_succ]; rfl
        refine SX.St.le_to [] (by intro b h; cases h) ?_ ?_ rfl
        · repeat (first | exact trivial | refine ⟨⟨_, rfl, SX.AVto.same rfl⟩, ?_⟩)
        · exact ⟨SX.EntTo.same rfl rfl, SX.EntTo.same rfl rfl, SX.EntTo.eq rfl e2 rfl, trivial⟩)
  · obtain rfl : i = r := by omega
    refine SX.goQ ?_
    have hm : matA i c (tabR c val i) = [.c (.val (.int .i64 (i : Int))), .c (.val (.int .i64 (c : Int))), .c (.sat (sliceR 4 (i * c) ((tabR c val i).flatMap qC)))] := by
      show [_, _, Atom.c (.sat (sliceR 4 (tabR c val i).length _))] = _
      rw [tabR_len]
    rw [hm]
    refine RetF.frz 100 ?_
    exact retA (ResOK.agg3 rfl rfl rfl) rfl
end Go.Proofs.YtfhpmbenldgfnaaGreatDoor
set_option linter.unusedVariables false
set_option linter.unusedSimpArgs false
namespace Go.Proofs.YtfhpmbenldgfnaaGreatDoor
open Go.RowKit QM SX
attribute [local irreducible] IntKind.wrap Go1 Reg WP thenK inBlk retQ retF RetF RetOK ResOK CallOK OpOK Sat
attribute [local irreducible] qsub qmul qquo qcmp qadd qv
abbrev q4C (q : Q4) : List CA := [.val (.bool q.1), .sat q.2.1, .val (.bool q.2.2.1), .sat q.2.2.2]
instance : EncLen q4C 4 := ⟨fun _ => rfl⟩
abbrev matQ (r c : Nat) (l : List Q4) : List Atom := [.c (.val (.int .i64 (r : Int))), .c (.val (.int .i64 (c : Int))), .c (.sat (rowR 4 q4C l))]
structure MV (l : List Q4) (vs : List Rat) (K : Nat) : Prop where
  len : l.length = vs.length
  ra : ∀ (i : Nat) q v, l[i]? = some q → vs[i]? = some v → Ra (q4A q) v K
instance con_Formed (r c : Int) {n : Nat} {cells : List CA} : Con Tryz.prog 88 [.agg [.c (.val (.int .i64 r)), .c (.val (.int .i64 c)), .c (.sat (sliceR 4 n cells))]] True (.v (.bool (decide (0 ≤ r ∧ r ≤ 64 ∧ 0 ≤ c ∧ c ≤ 64 ∧ (n : Int) = r * c)))) := ⟨fun _ => by
  refine PureOK.fnF Tryz.func88 Tryz.results88 Tryz.ntmps88 rfl rfl rfl (by simp [AV.ids, AV0.ids, Atom.ids]) rfl (fun w0 T B E0 hB => ?_)
  by_cases h1 : r ≥ 0
  · by_cases h2 : r ≤ 64
    · by_cases h3 : c ≥ 0
      · by_cases h4 : c ≤ 64
        · have hp : 0 ≤ r * c := Int.mul_nonneg h1 h3
          have hp2 : r * c ≤ 64 * 64 := Int.mul_le_mul h2 h4 h3 (by decide)
          refine SX.goQ ?_
          refine retB ?_
          rw [decide_eq_decide]
          exact ⟨fun h => ⟨h1, h2, h3, h4, h⟩, fun h => h.2.2.2.2⟩
        · refine SX.goQ ?_
          refine retB ?_; exact (decide_eq_false fun h => h4 h.2.2.2.1).symm
      · refine SX.goQ ?_
        refine retB ?_; exact (decide_eq_false fun h => h3 h.2.2.1).symm
    · refine SX.goQ ?_
      refine retB ?_; exact (decide_eq_false fun h => h2 h.2.1).symm
  · refine SX.goQ ?_
    refine retB ?_; exact (decide_eq_false fun h => h1 h.1).symm⟩
theorem con_get {r c i k : Nat} {l : List Q4} {q : Q4} (hq : l[i * c + k]? = some q) (hi : i ≤ 100) (hc : c ≤ 100) (hk : k ≤ 100) :
    PureOK Tryz.prog 161 [.agg (matQ r c l), .v (.int .i64 (i : Int)), .v (.int .i64 (k : Int))] (.agg (q4A q)) := by
  have hb := Nat.mul_le_mul hi hc
  have hlt : i * c + k < l.length := by
    rcases Nat.lt_or_ge (i * c + k) l.length with h | h
    · exact h
    · rw [List.getElem?_eq_none h] at hq; cases hq
  refine PureOK.fnF Tryz.func161 Tryz.results161 Tryz.ntmps161 rfl rfl rfl (by simp [AV.ids, AV0.ids, Atom.ids]) rfl (fun w0 T B E0 hB => ?_)
  refine SX.goQ ?_
  exact retA (ResOK.agg4 rfl rfl rfl) rfl
theorem con_At {r c i k : Nat} {l : List Q4} {vs : List Rat} {K : Nat} {v : Rat} (hM : MV l vs K) (hl : l.length = r * c) (hr : r ≤ 64) (hc : c ≤ 64) (hi : i < r) (hk : k < c) (hv : vs[i * c + k]? = some v) (hK : K + 1 ≤ 1000000) :
    PureOK Tryz.prog 93 [.agg (matQ r c l), .v (.int .i64 (i : Int)), .v (.int .i64 (k : Int))] (.agg (qA v)) := by
  have hlt : i * c + k < l.length := by
    rcases Nat.lt_or_ge (i * c + k) l.length with h | h
    · exact h
    · rw [hM.len] at h; rw [List.getElem?_eq_none h] at hv; cases hv
  obtain ⟨q, hq⟩ : ∃ q, l[i * c + k]? = some q := ⟨_, List.getElem?_eq_getElem hlt⟩
  have hg := con_get (r := r) hq (by omega) (by omega) (by omega)
  have ir := hM.ra _ _ _ hq hv
  have iz : Ra (qA 0) 0 1 := (RB.zero (Nat.le_refl 1)).ra
  have hf : decide (0 ≤ (r : Int) ∧ (r : Int) ≤ 64 ∧ 0 ≤ (c : Int) ∧ (c : Int) ≤ 64 ∧ (l.length : Int) = (r : Int) * (c : Int)) = true := decide_eq_true ⟨by omega, by omega, by omega, by omega, by rw [hl]; rfl⟩
  have cF : PureOK Tryz.prog 88 [.agg (matQ r c l)] (.v (.bool true)) := by
    have h := (con_Formed (r : Int) (c : Int) (n := l.length) (cells := l.flatMap q4C)).h trivial
    rw [hf] at h; exact h
  refine PureOK.fnF Tryz.func93 Tryz.results93 Tryz.ntmps93 rfl rfl rfl (by simp [AV.ids, AV0.ids, Atom.ids]) rfl (fun w0 T B E0 hB => ?_)
  refine SX.goQ ?_
  rw [Rat.add_zero]
  exact retA (ResOK.agg4 rfl rfl rfl) rfl
end Go.Proofs.YtfhpmbenldgfnaaGreatDoor
set_option linter.unusedVariables false
set_option linter.unusedSimpArgs false
namespace Go.Proofs.YtfhpmbenldgfnaaGreatDoor
open Go.RowKit QM SX
attribute [local irreducible] IntKind.wrap Go1 Reg WP thenK inBlk retQ retF RetF RetOK ResOK CallOK OpOK Sat
attribute [local irreducible] qsub qmul qquo qcmp qadd qv
def piC (n : Nat) : List CA := [.val (.int .i64 (n : Int))]
abbrev RowsA (js : List Nat) (c : List (List Rat)) : AEnt := rowsE 28 27 4 qC js c
abbrev PivE (ps : List Nat) : Ent := .row 3 1 ps.length (ps.flatMap piC)
abbrev WkI := List Nat × List (List Rat)
def wkE (M : List (List Rat)) (cols : Nat) (ps : List Nat) : AEnt :=
  bunE 81 (fun p : WkI => p.1.Nodup ∧ (∀ j ∈ p.1, j < p.2.length) ∧ p.1.map (fun j => p.2.getD j []) = M) 155 (fun _ => [hdrA 91 0, .c (.val (.int .i64 (cols : Int))), .own 92]) (fun p => [(91, .abs (RowsA p.1 p.2)), (92, PivE ps)])
def bgR (c d : Nat) (va vb : Nat → Nat → Rat) (i : Nat) : List Rat := rowK va i c ++ rowK vb i d
def bgM (c d : Nat) (va vb : Nat → Nat → Rat) (r : Nat) : List (List Rat) := (List.range r).map (bgR c d va vb)
abbrev matR (r c : Nat) (x : Rep) : List Atom := [.c (.val (.int .i64 (r : Int))), .c (.val (.int .i64 (c : Int))), .c (.sat x)]
theorem bgM_map {c d : Nat} {va vb : Nat → Nat → Rat} {r : Nat} : (List.range r).map (fun j => (bgM c d va vb r).getD j []) = bgM c d va vb r := by
  unfold bgM
  refine List.map_congr_left fun j hj => ?_
  rw [List.getD_eq_getElem?_getD, List.getElem?_map, List.getElem?_range (List.mem_range.1 hj)]; rfl
theorem wk_close {C : Ctx} {st : St} {M : List (List Rat)} {cols : Nat} {ps : List Nat} {cells0 : List Atom} (js : List Nat) (c : List (List Rat)) (ρ : List (Nat × Option Nat)) (os : List Nat) (hnd : js.Nodup) (hlt : ∀ j ∈ js, j < c.length) (hM : js.map (fun j => c.getD j []) = M) (hb : st.hp 81 = .ent (.box 155 cells0))
    (hc : AtomsTo ρ cells0 [hdrA 91 0, .c (.val (.int .i64 (cols : Int))), .own 92]) (hR : HpTo st ρ [(91, .abs (RowsA js c)), (92, PivE ps)])
    (hos : (([(91, .abs (RowsA js c)), (92, PivE ps)] : List (Nat × Ent)).all fun q => match SX.src ρ q.1 with | some o => memB os o | none => true) = true) (hbo : memB os 81 = false) (hdi : (([(91, .abs (RowsA js c)), (92, PivE ps)] : List (Nat × Ent)).all fun q => ([(91, .abs (RowsA js c)), (92, PivE ps)] : List (Nat × Ent)).all fun q' => Nat.beq q.1 q'.1 || !(eqO (SX.src ρ q.1) (SX.src ρ q'.1))) = true) (hfb : lk ρ 81 = none := by rfl) :
    St.le C st (closeSt st 81 (wkE M cols ps) os) :=
  St.le_close (ι := WkI) (b := 81) (js, c) ρ os ⟨hnd, hlt, hM⟩ hb hc hR hos hbo hdi hfb
theorem rows_next {c d : Nat} {va vb : Nat → Nat → Rat} {i : Nat} : RowsA (List.range i ++ [(bgM c d va vb i).length]) (bgM c d va vb i ++ [bgR c d va vb i]) = RowsA (List.range (i + 1)) (bgM c d va vb (i + 1)) := by
  have e1 : (bgM c d va vb i).length = i := by simp [bgM]
  rw [e1, List.range_succ]
  unfold bgM
  rw [List.range_succ, List.map_append]; rfl
theorem con_begun (r c rb d : Nat) (x y : Rep) (va vb : Nat → Nat → Rat) (hr : r ≤ 100) (hc : c ≤ 100) (hd : d ≤ 100)
    (hA : ∀ i k, i < r → k < c → PureOK Tryz.prog 93 [.agg (matR r c x), .v (.int .i64 (i : Int)), .v (.int .i64 (k : Int))] (.agg (qA (va i k))))
    (hBt : ∀ i k, i < r → k < d → PureOK Tryz.prog 93 [.agg (matR rb d y), .v (.int .i64 (i : Int)), .v (.int .i64 (k : Int))] (.agg (qA (vb i k)))) :
    CallOK Tryz.prog 202 [.agg (matR r c x), .agg (matR rb d y)] [] ⟨.ptr 81 0, [(81, .ent (.abs (wkE (bgM c d va vb r) c [])))]⟩ := by
  have n81 : Named 13 81 := ⟨⟩
  refine CallOK.fnA Tryz.func202 Tryz.results202 Tryz.ntmps202 rfl rfl rfl rfl rfl rfl rfl rfl (fun w0 T B E0 hB => ?_)
  refine SX.goQ ?_
  refine W.loop (fun i => i ≤ r) (fun i => [(2, .ptr 2 0), (3, .ptr 3 0), (5, .ptr 81 0), (15, .v (.int .i64 (r : Int))), (16, .v (.int .i64 (i : Int)))]) (fun i => [(2, .box 30 (matR r c x)), (3, .box 30 (matR rb d y)), (81, .box 155 [hdrA 91 0, .c (.val (.int .i64 (c : Int))), .c (.val (.slice none 0 0))]), (91, .abs (RowsA (List.range i) (bgM c d va vb i)))]) (fun i => r - i) 0 (Nat.zero_le _) (fun i hi => ?_)
    (by
      refine SX.St.le_to [(91, none)] (by intro b h; cases h) ?_ ?_ rfl
      · repeat (first | exact trivial | refine ⟨⟨_, rfl, SX.AVto.same rfl⟩, ?_⟩)
      · exact ⟨SX.EntTo.same rfl rfl, SX.EntTo.same rfl rfl, SX.EntTo.boxTo rfl rfl ⟨AtomTo.nilRel rfl, AtomTo.same rfl, AtomTo.same rfl, trivial⟩, SX.EntTo.nilRows rfl, trivial⟩)
  by_cases h : i < r
  · refine SX.goQ ?_
    refine W.loop (fun k => k ≤ c) (fun k => [(2, .ptr 2 0), (3, .ptr 3 0), (5, .ptr 81 0), (6, .v (.int .i64 (i : Int))), (7, .own 100), (15, .v (.int .i64 (r : Int))), (16, .v (.int .i64 (i : Int))), (20, .v (.int .i64 (c : Int))), (21, .v (.int .i64 (k : Int)))]) (fun k => [(2, .box 30 (matR r c x)), (3, .box 30 (matR rb d y)), (81, .box 155 [hdrA 91 0, .c (.val (.int .i64 (c : Int))), .c (.val (.slice none 0 0))]), (91, .abs (RowsA (List.range i) (bgM c d va vb i))), (100, .row 27 4 k ((rowK va i k).flatMap qC))]) (fun k => c - k) 0 (Nat.zero_le _) (fun k hk => ?_)
      (by
        refine SX.St.le_to [(100, none)] (by intro b h; cases h) ?_ ?_ rfl
        · repeat (first | exact trivial | refine ⟨⟨_, rfl, SX.AVto.same rfl⟩, ?_⟩ | refine ⟨⟨_, rfl, SX.AVto.nil rfl⟩, ?_⟩)
        · exact ⟨SX.EntTo.same rfl rfl, SX.EntTo.same rfl rfl, SX.EntTo.same rfl rfl, SX.EntTo.same rfl rfl, SX.EntTo.nilRow rfl, trivial⟩)
    by_cases h2 : k < c
    · have hf := hA i k h h2
      refine SX.goQ ?_
      refine W.next (k + 1) h2 (by omega) (by
        have e2 : (rowK va i k).flatMap qC ++ qC (va i k) = (rowK va i (k + 1)).flatMap qC := by rw [rowK_succ, List.flatMap_append]; simp
        refine SX.St.le_to [(100, some 30)] (by intro b h; cases h) ?_ ?_ rfl
        · repeat (first | exact trivial | refine ⟨⟨_, rfl, SX.AVto.same rfl⟩, ?_⟩ | refine ⟨⟨_, rfl, SX.AVto.own rfl⟩, ?_⟩)
        · exact ⟨SX.EntTo.same rfl rfl, SX.EntTo.same rfl rfl, SX.EntTo.same rfl rfl, SX.EntTo.same rfl rfl, SX.EntTo.row rfl rfl rfl e2, trivial⟩)
    · obtain rfl : k = c := by omega
      refine SX.goQ ?_
      refine W.loop (fun j => j ≤ d) (fun j => [(2, .ptr 2 0), (3, .ptr 3 0), (5, .ptr 81 0), (6, .v (.int .i64 (i : Int))), (7, .own 100), (15, .v (.int .i64 (r : Int))), (16, .v (.int .i64 (i : Int))), (33, .v (.int .i64 (d : Int))), (34, .v (.int .i64 (j : Int)))]) (fun j => [(2, .box 30 (matR r k x)), (3, .box 30 (matR rb d y)), (81, .box 155 [hdrA 91 0, .c (.val (.int .i64 (k : Int))), .c (.val (.slice none 0 0))]), (91, .abs (RowsA (List.range i) (bgM k d va vb i))), (100, .row 27 4 (k + j) ((rowK va i k ++ rowK vb i j).flatMap qC))]) (fun j => d - j) 0 (Nat.zero_le _) (fun j hj => ?_)
        (by
          have e : Ent.row 27 4 k ((rowK va i k).flatMap qC) = Ent.row 27 4 (k + 0) ((rowK va i k ++ rowK vb i 0).flatMap qC) := by simp [rowK]
          refine SX.St.le_to [] (by intro b h; cases h) ?_ ?_ rfl
          · repeat (first | exact trivial | refine ⟨⟨_, rfl, SX.AVto.same rfl⟩, ?_⟩)
          · exact ⟨SX.EntTo.same rfl rfl, SX.EntTo.same rfl rfl, SX.EntTo.same rfl rfl, SX.EntTo.same rfl rfl, SX.EntTo.eq rfl e rfl, trivial⟩)
      by_cases h3 : j < d
      · have hf := hBt i j h h3
        refine SX.goQ ?_
        refine W.next (j + 1) h3 (by omega) (by
          have e2 : (rowK va i k ++ rowK vb i j).flatMap qC ++ qC (vb i j) = (rowK va i k ++ rowK vb i (j + 1)).flatMap qC := by rw [rowK_succ, ← List.append_assoc, List.flatMap_append (xs := rowK va i k ++ rowK vb i j)]; simp
          refine SX.St.le_to [(100, some 43)] (by intro b h; cases h) ?_ ?_ rfl
          · repeat (first | exact trivial | refine ⟨⟨_, rfl, SX.AVto.same rfl⟩, ?_⟩ | refine ⟨⟨_, rfl, SX.AVto.own rfl⟩, ?_⟩)
          · exact ⟨SX.EntTo.same rfl rfl, SX.EntTo.same rfl rfl, SX.EntTo.same rfl rfl, SX.EntTo.same rfl rfl, SX.EntTo.row rfl rfl (by omega) e2, trivial⟩)
      · obtain rfl : j = d := by omega
        have hlen : k + j = (bgR k j va vb i).length := by simp [bgR, rowK_len]
        have hcell : (rowK va i k ++ rowK vb i j).flatMap qC = (bgR k j va vb i).flatMap qC := rfl
        have hjs : (List.range i).length = i := List.length_range
        refine SX.goQ ?_
        refine SX.Go1.litH (l := bgR k j va vb i) (enc := qC) rfl rfl rfl rfl hlen hcell ?_
        refine SX.goQ ?_
        refine W.next (i + 1) h (by omega) (by
          refine SX.St.le_to [(91, some 52)] (by intro b h; cases h) ?_ ?_ rfl
          · repeat (first | exact trivial | refine ⟨⟨_, rfl, SX.AVto.same rfl⟩, ?_⟩)
          · exact ⟨SX.EntTo.same rfl rfl, SX.EntTo.same rfl rfl, SX.EntTo.boxTo rfl rfl ⟨AtomTo.rel rfl, AtomTo.same rfl, AtomTo.same rfl, trivial⟩, SX.EntTo.abs rfl rfl rows_next, trivial⟩)
  · obtain rfl : i = r := by omega
    refine SX.goQ ?_
    refine RetF.le (wk_close (ps := []) (List.range i) (bgM c d va vb i) [(92, none)] [91] List.nodup_range (fun j hj => by simpa [bgM] using hj) bgM_map rfl ⟨AtomTo.same rfl, AtomTo.same rfl, AtomTo.nil rfl, trivial⟩ ⟨SX.EntTo.same rfl rfl, SX.EntTo.nilRow rfl, trivial⟩ rfl rfl rfl) ?_
    exact retP (xs := [.one (.ptr 81 0)]) ⟨ResOK.tmp rfl, trivial⟩ ⟨rfl, trivial⟩
end Go.Proofs.YtfhpmbenldgfnaaGreatDoor
set_option linter.unusedVariables false
set_option linter.unusedSimpArgs false
namespace Go.Proofs.YtfhpmbenldgfnaaGreatDoor
open Go.RowKit QM SX
attribute [local irreducible] IntKind.wrap Go1 Reg WP thenK inBlk retQ retF RetF RetOK ResOK CallOK OpOK Sat
attribute [local irreducible] qsub qmul qquo qcmp qadd qv
def rowC (r : List Rat) : List CA := [.sat (rowR 4 qC r)]
instance : EncLen rowC 1 := ⟨fun _ => rfl⟩
def fi {α : Type} (p : α → Bool) : List α → Nat → Int
  | [], _ => -1
  | a :: l, k => if p a then (k : Int) else fi p l (k + 1)
theorem fi_drop {α : Type} {p : α → Bool} {l : List α} {k : Nat} {a : α} (h : l[k]? = some a) : fi p (l.drop k) k = if p a then (k : Int) else fi p (l.drop (k + 1)) (k + 1) := by
  have hk : k < l.length := by
    rcases Nat.lt_or_ge k l.length with h2 | h2
    · exact h2
    · rw [List.getElem?_eq_none h2] at h; cases h
  rw [List.drop_eq_getElem_cons hk]
  rw [List.getElem?_eq_getElem hk] at h
  rw [Option.some.inj h]; rfl
theorem con_IndexR (M : List (List Rat)) (x : CA) (p : List Rat → Bool) (hx : ∀ r ∈ M, FnV Tryz.prog x [.r (rowR 4 qC r)] (.v (.bool (p r)))) (hl : M.length ≤ 1000) :
    PureOK Tryz.prog 238 [.r (rowR 1 rowC M), .it (.one (.c x))] (.v (.int .i64 (fi p M 0))) := by
  refine PureOK.fnF Tryz.func238 Tryz.results238 Tryz.ntmps238 rfl rfl rfl (by simp [AV.ids, AV0.ids, Atom.ids]) rfl (fun w0 T B E0 hB => ?_)
  refine SX.goQ ?_
  refine W.loop (fun k => k ≤ M.length ∧ fi p (M.drop k) k = fi p M 0) (fun k => [(0, .r (rowR 1 rowC M)), (1, .it (.one (.c x))), (7, .v (.int .i64 (M.length : Int))), (8, .v (.int .i64 (k : Int)))]) (fun _ => []) (fun k => M.length - k) 0 ⟨Nat.zero_le _, rfl⟩ (fun k ⟨hk, he⟩ => ?_)
  by_cases h : k < M.length
  · obtain ⟨r, hr⟩ : ∃ r, M[k]? = some r := ⟨_, List.getElem?_eq_getElem h⟩
    have hf := hx r (List.mem_of_getElem? hr)
    rw [fi_drop hr] at he
    cases hp : p r with
    | true =>
      rw [hp] at hf he
      refine SX.goQ ?_
      refine retI ?_; rw [← he]; rfl
    | false =>
      rw [hp] at hf he
      refine SX.goQ ?_
      exact W.next (k + 1) ⟨h, he⟩ (by omega)
  · obtain rfl : k = M.length := by omega
    rw [List.drop_length] at he
    refine SX.goQ ?_
    refine retI ?_; rw [← he]; rfl
def nz (col : Nat) (r : List Rat) : Bool := decide (r.getD col 0 ≠ 0)
theorem con_nz (col : Nat) (r : List Rat) (K : Nat) (hcol : col < r.length) (hr : ∀ v ∈ r, RB v K) (hK : K ≤ 400000) : PureOK Tryz.prog 239 [.r (rowR 4 qC r), .r (ptrR [.val (.int .i64 (col : Int))])] (.v (.bool (nz col r))) := by
  obtain ⟨v, hv⟩ : ∃ v, r[col]? = some v := ⟨_, List.getElem?_eq_getElem hcol⟩
  have iv := (hr v (List.mem_of_getElem? hv)).ra
  obtain ⟨z, cz, hz, _⟩ := eSign (qA v) hK
  have e : nz col r = decide (z ≠ 0) := by
    unfold nz; rw [List.getD_eq_getElem?_getD, hv]; show decide (v ≠ 0) = _
    rw [decide_eq_decide, Ne, Ne, hz]
  rw [e]
  refine PureOK.fnF Tryz.func239 Tryz.results239 Tryz.ntmps239 rfl rfl rfl (by simp [AV.ids, AV0.ids, Atom.ids]) rfl (fun w0 T B E0 hB => ?_)
  refine SX.goQ ?_
  exact retB rfl
end Go.Proofs.YtfhpmbenldgfnaaGreatDoor

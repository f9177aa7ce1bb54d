import Derived.Test.YtkdonndeogihfaaDoorD6
/- The statement RatAdds answers true. -/
set_option linter.unusedVariables false
set_option linter.unusedSimpArgs false
namespace Go.Proofs.YtkdonndeogihfaaDoor
open Go.RowKit QM SX
attribute [local irreducible] IntKind.wrap Go1 Reg WP thenK inBlk retQ retF RetF RetOK ResOK CallOK OpOK Sat
attribute [local irreducible] qsub qmul qquo qcmp qadd qv
theorem imp_natR {n k K : Nat} {neg : Bool} {a : CA} [h : NI a n k] (hk : k ≤ K) : AV0.imp (.agg [.c (.val (.bool neg)), .c a]) (.agg (zR neg n K)) := fun E S w v hv => by
  obtain ⟨vs, rfl, hall⟩ := hv
  match vs, hall with
  | [x, y], ⟨h1, h2, _⟩ =>
    refine ⟨[x, y], rfl, h1, ?_, trivial⟩
    obtain ⟨l, e1, e2, e3⟩ := natR_iff.1 (h.p S w y h2)
    exact natR_iff.2 ⟨l, e1, Nat.le_trans e2 hk, e3⟩
theorem eND (b : Bool) (l : List Nat) (c : Bool) (m : List Nat) {K : Nat} (i1 : BdN (nval WB l) l.length) (i2 : BdN (nval WB m) m.length) (h1 : l.length ≤ K) (h2 : m.length ≤ K) (hK : K ≤ 1000) :
    ∃ (β : Bool) (ν : Nat) (δ : Int), PureOK Tryd.prog 48 [.agg (qW b l c m)] (.agg (zR β ν (K + 1))) ∧ PureOK Tryd.prog 49 [.agg (qW b l c m)] (.agg (zN δ)) ∧ BdN ν (K + 1) ∧ Bd δ (K + 1) ∧ 0 < δ ∧ qv (sgn β ν) δ = qv (sgn b (nval WB l)) (sgn c (nval WB m)) := by
  have hs0 := isign0 (sgn c (nval WB m))
  have hsn := isignN (sgn c (nval WB m))
  have bp : Bd (sgn b (nval WB l)) l.length := inferInstance
  have bq : Bd (sgn c (nval WB m)) m.length := inferInstance
  by_cases h0 : sgn c (nval WB m) = 0
  · refine ⟨false, 0, 1, ?_, ?_, ⟨Nat.pow_pos WB_pos⟩, ⟨Bd.mono Bd.one.h (by omega)⟩, by decide, ?_⟩
    · refine PureOK.fnF Tryd.func48 Tryd.results48 Tryd.ntmps48 rfl rfl rfl (by simp [AV.ids, AV0.ids, Atom.ids]) rfl (fun w0 T B E0 hB => ?_)
      refine SX.go2 ?_
      refine .ok (RetOK.mk1 ((ResOK.agg2 rfl rfl rfl).imp (imp_natR (k := 0) (by omega))))
    · refine PureOK.fnF Tryd.func49 Tryd.results49 Tryd.ntmps49 rfl rfl rfl (by simp [AV.ids, AV0.ids, Atom.ids]) rfl (fun w0 T B E0 hB => ?_)
      refine SX.go2 ?_
      exact retA (ResOK.agg2 rfl rfl rfl) rfl
    · rw [h0]; unfold qv sgn; grind
  · by_cases hn : sgn c (nval WB m) < 0
    · refine ⟨decide (-sgn b (nval WB l) < 0), (-sgn b (nval WB l)).natAbs, ((sgn c (nval WB m)).natAbs : Int), ?_, ?_, ⟨?_⟩, ⟨?_⟩, by omega, ?_⟩
      · have bb : Bd (-sgn b (nval WB l)) l.length := inferInstance
        refine PureOK.fnF Tryd.func48 Tryd.results48 Tryd.ntmps48 rfl rfl rfl (by simp [AV.ids, AV0.ids, Atom.ids]) rfl (fun w0 T B E0 hB => ?_)
        refine SX.go2 ?_
        refine .ok (RetOK.mk1 ((ResOK.agg2 rfl rfl rfl).imp (imp_natR (k := l.length) (by omega))))
      · refine PureOK.fnF Tryd.func49 Tryd.results49 Tryd.ntmps49 rfl rfl rfl (by simp [AV.ids, AV0.ids, Atom.ids]) rfl (fun w0 T B E0 hB => ?_)
        refine SX.go2 ?_
        exact retA (ResOK.agg2 rfl rfl rfl) rfl
      · rw [Int.natAbs_neg]; exact Bd.mono bp.h (by omega)
      · rw [Int.natAbs_natCast]; exact Bd.mono bq.h (by omega)
      · rw [sgn_abs]; exact qv_eq (by omega) h0 (by rw [show (((sgn c (nval WB m)).natAbs : Nat) : Int) = -sgn c (nval WB m) by omega]; grind)
    · refine ⟨b, nval WB l, ((sgn c (nval WB m)).natAbs : Int), ?_, ?_, ⟨?_⟩, ⟨?_⟩, by omega, ?_⟩
      · refine PureOK.fnF Tryd.func48 Tryd.results48 Tryd.ntmps48 rfl rfl rfl (by simp [AV.ids, AV0.ids, Atom.ids]) rfl (fun w0 T B E0 hB => ?_)
        refine SX.go2 ?_
        refine .ok (RetOK.mk1 ((ResOK.agg2 rfl rfl rfl).imp (imp_natR (k := l.length) (by omega))))
      · refine PureOK.fnF Tryd.func49 Tryd.results49 Tryd.ntmps49 rfl rfl rfl (by simp [AV.ids, AV0.ids, Atom.ids]) rfl (fun w0 T B E0 hB => ?_)
        refine SX.go2 ?_
        exact retA (ResOK.agg2 rfl rfl rfl) rfl
      · exact Nat.lt_of_lt_of_le i1.h (Nat.pow_le_pow_right WB_pos (by omega))
      · rw [Int.natAbs_natCast]; exact Bd.mono bq.h (by omega)
      · rw [show (((sgn c (nval WB m)).natAbs : Nat) : Int) = sgn c (nval WB m) by omega]
theorem isR_of {X : Int × Int} {v : Rat} {K : Nat} {x y : Int} (h : Rd X v K) (hy : y ≠ 0) (hv : qv x y = v) : decide (isR X.1 X.2 x y) = true := by
  refine decide_eq_true (isR_iff.2 ⟨⟨h.d, by rw [h.g]; rfl⟩, ?_⟩)
  have h1 := h.v
  have h2 := h.d
  rw [← hv] at h1
  have c1 := c0 hy
  have c2 := c0 (show X.2 ≠ 0 by omega)
  apply Rat.intCast_inj.1
  rw [Rat.intCast_mul, Rat.intCast_mul]
  unfold qv at h1; grind
theorem qv_lt {n d m e : Int} (hd : 0 < d) (he : 0 < e) : (qv n d < qv m e ↔ n * e < m * d) ∧ (qv n d = qv m e ↔ n * e = m * d) := by
  have hd' : (0 : Rat) < d := by rw [show (0 : Rat) = ((0 : Int) : Rat) from rfl]; exact Rat.intCast_lt_intCast.2 hd
  have he' : (0 : Rat) < e := by rw [show (0 : Rat) = ((0 : Int) : Rat) from rfl]; exact Rat.intCast_lt_intCast.2 he
  have en : (n : Rat) = qv n d * d := by unfold qv; grind
  have em : (m : Rat) = qv m e * e := by unfold qv; grind
  have hde := Rat.mul_pos hd' he'
  constructor
  · rw [← Rat.intCast_lt_intCast (a := n * e), Rat.intCast_mul, Rat.intCast_mul, en, em]
    generalize qv n d = v at *
    generalize qv m e = u at *
    constructor
    · intro h
      have := Rat.mul_pos (show 0 < u - v by grind) hde
      grind
    · intro h
      exact Decidable.byContradiction fun hn => by
        have := Rat.mul_nonneg (show 0 ≤ v - u by grind) (show (0 : Rat) ≤ (d : Rat) * e by grind)
        grind
  · rw [← Rat.intCast_inj (a := n * e), Rat.intCast_mul, Rat.intCast_mul, en, em]
    generalize qv n d = v at *
    generalize qv m e = u at *
    constructor
    · intro h; rw [h]; grind
    · intro h
      have h0 : (v - u) * ((d : Rat) * e) = 0 := by grind
      rcases Rat.mul_eq_zero.1 h0 with h1 | h1
      · grind
      · rw [h1] at hde; grind
theorem icmp3 (x y : Int) : (x < y ∧ icmp x y = -1) ∨ (x = y ∧ icmp x y = 0) ∨ (y < x ∧ icmp x y = 1) := by
  unfold icmp; (repeat' split) <;> omega
theorem isign3 (x : Int) : (x < 0 ∧ isign x = -1) ∨ (x = 0 ∧ isign x = 0) ∨ (0 < x ∧ isign x = 1) := by
  unfold isign; (repeat' split) <;> omega
theorem eCmp' (l l' : List Atom) {v v' : Rat} {K K' : Nat} [a : Ra l v K] [b : Ra l' v' K'] (h : K + K' ≤ 400000) : ∃ z : Int, PureOK Tryd.prog 45 [.agg l, .agg l'] (.v (.int .i64 z)) ∧ (z = 0 ↔ v = v') ∧ (z < 0 ↔ v < v') ∧ -1 ≤ z ∧ z ≤ 1 := by
  obtain ⟨x0, x1, x2, x3, p, q, k, m, rfl, z1, z2, hk, hm, b1, b2, hv⟩ := a.h
  obtain ⟨y0, y1, y2, y3, r, s, k', m', rfl, z3, z4, hk', hm', b3, b4, hv'⟩ := b.h
  have hq := qcmp_val (p := p) (q := q) (r := r) (s := s)
  have h3 := isign3 ((qsub p q r s).1 * (qsub p q r s).2)
  refine ⟨_, (con_rCmp (h := z1) (h' := z2) (g := z3) (g' := z4)).h (by omega), by rw [← hv, ← hv']; exact hq.1, by rw [← hv, ← hv']; exact hq.2.1, ?_, ?_⟩
  all_goals (unfold qcmp; omega)
theorem eSign' (l : List Atom) {v : Rat} {K : Nat} [a : Ra l v K] (h : K ≤ 400000) : ∃ z : Int, PureOK Tryd.prog 46 [.agg l] (.v (.int .i64 z)) ∧ (z = 0 ↔ v = 0) ∧ (z < 0 ↔ v < 0) ∧ -1 ≤ z ∧ z ≤ 1 := by
  obtain ⟨x0, x1, x2, x3, p, q, k, m, rfl, z1, z2, hk, hm, b1, b2, hv⟩ := a.h
  have hq := sgn_val (a := p) (b := q)
  have h3 := isign3 (p * q)
  exact ⟨_, (con_rSign (h := z1) (h' := z2)).h (by omega), by rw [← hv]; exact hq.1, by rw [← hv]; exact hq.2, by omega, by omega⟩
attribute [local irreducible] isign icmp sgn
set_option maxRecDepth 20000 in
theorem RatAdds_ok (b1 : Bool) (l1 : List Nat) (c1 : Bool) (m1 : List Nat) (b2 : Bool) (l2 : List Nat) (c2 : Bool) (m2 : List Nat) : PureOK Tryd.prog 10 [.agg (qW b1 l1 c1 m1), .agg (qW b2 l2 c2 m2)] (.v (.bool true)) := by
  refine lawQ ⟨_, Tryd.func10, rfl, rfl⟩ fun i1 i2 => ?_
  refine lawQ2 ⟨_, Tryd.func10, rfl, rfl⟩ fun i3 i4 => ?_
  by_cases f1 : l1.length ≤ 4 ∧ m1.length ≤ 4
  · by_cases f2 : l2.length ≤ 4 ∧ m2.length ≤ 4
    · obtain ⟨β, ν, d, cN1, cD1, hν, hd, hd0, hv1⟩ := eND b1 l1 c1 m1 i1 i2 f1.1 f1.2 (by omega)
      obtain ⟨γ, μ, e, cN2, cD2, hμ, he, he0, hv2⟩ := eND b2 l2 c2 m2 i3 i4 f2.1 f2.2 (by omega)
      obtain ⟨A, ra, hA⟩ : ∃ A, Ra (qW b1 l1 c1 m1) A 4 ∧ A = qv (sgn b1 (nval WB l1)) (sgn c1 (nval WB m1)) := ⟨_, Ra.raw i1 i2 f1.1 f1.2, rfl⟩
      obtain ⟨B, rb, hB⟩ : ∃ B, Ra (qW b2 l2 c2 m2) B 4 ∧ B = qv (sgn b2 (nval WB l2)) (sgn c2 (nval WB m2)) := ⟨_, Ra.raw i3 i4 f2.1 f2.2, rfl⟩
      rw [← hA] at hv1
      rw [← hB] at hv2
      clear i1 i2 i3 i4 hA hB
      have bn : Bd (sgn β ν) 5 := inferInstance
      have bm : Bd (sgn γ μ) 5 := inferInstance
      have hde : d * e ≠ 0 := Int.mul_ne_zero (by omega) (by omega)
      have hlt := qv_lt (n := sgn β ν) (m := sgn γ μ) hd0 he0
      rw [hv1, hv2] at hlt
      have hm0 := (sgn_val (a := sgn γ μ) (b := e)).1
      rw [hv2, isign0, Int.mul_eq_zero] at hm0
      have hn3 := sgn_val (a := sgn β ν) (b := d)
      rw [hv1, isign0, isignN, Int.mul_eq_zero] at hn3
      have hnd : sgn β ν * d < 0 ↔ sgn β ν < 0 := by
        constructor
        · intro h
          exact Decidable.byContradiction fun hn => by
            have := Int.mul_nonneg (show 0 ≤ sgn β ν by omega) (show 0 ≤ d by omega)
            omega
        · intro h; exact Int.mul_neg_of_neg_of_pos h hd0
      obtain ⟨X1, cX1, rX1⟩ := eAdd (qW b1 l1 c1 m1) (qW b2 l2 c2 m2) (by omega)
      obtain ⟨X2, cX2, rX2⟩ := eSub (qW b1 l1 c1 m1) (qW b2 l2 c2 m2) (by omega)
      obtain ⟨X3, cX3, rX3⟩ := eMul (qW b1 l1 c1 m1) (qW b2 l2 c2 m2) (by omega)
      obtain ⟨X4, cX4, rX4⟩ := eNeg (qW b1 l1 c1 m1) (by omega)
      obtain ⟨Q, ok, cQ, rQ, hok⟩ := eQuo (qW b1 l1 c1 m1) (qW b2 l2 c2 m2) (by omega)
      obtain ⟨z1, cz1, hz1, hz1', hz1a, hz1b⟩ := eCmp' (qW b1 l1 c1 m1) (qW b2 l2 c2 m2) (by omega)
      obtain ⟨z2, cz2, hz2, hz2', hz2a, hz2b⟩ := eSign' (qW b1 l1 c1 m1) (by omega)
      have y1 := rX1.b1
      have y2 := rX1.b2
      have y3 := rX2.b1
      have y4 := rX2.b2
      have y5 := rX3.b1
      have y6 := rX3.b2
      have y7 := rX4.b1
      have y8 := rX4.b2
      have y9 := rQ.b1
      have y10 := rQ.b2
      have r1 := isR_of rX1 hde (x := sgn β ν * e + sgn γ μ * d) (by rw [qv_add (by omega) (by omega), hv1, hv2])
      have r2 := isR_of rX2 hde (x := sgn β ν * e - sgn γ μ * d) (by rw [show sgn β ν * e - sgn γ μ * d = sgn β ν * e + -sgn γ μ * d by grind, qv_add (by omega) (by omega), qv_neg, hv1, hv2]; grind)
      have r3 := isR_of rX3 hde (x := sgn β ν * sgn γ μ) (by rw [qv_mul, hv1, hv2])
      have r4 := isR_of rX4 (show d ≠ 0 by omega) (x := -sgn β ν) (by rw [qv_neg, hv1])
      have hc : z1 = icmp (sgn β ν * e) (sgn γ μ * d) := by
        have h3 := icmp3 (sgn β ν * e) (sgn γ μ * d)
        rw [← hlt.2, ← hlt.1] at h3
        by_cases h : A < B
        · have : z1 < 0 := hz1'.2 h
          have h4 : A ≠ B := by grind
          rcases h3 with h3 | h3 | h3
          · omega
          · exact absurd h3.1 h4
          · have := hlt.1.1 h; omega
        · have h5 : ¬ z1 < 0 := fun h' => h (hz1'.1 h')
          by_cases h6 : A = B
          · have : z1 = 0 := hz1.2 h6
            rcases h3 with h3 | h3 | h3
            · exact absurd h3.1 h
            · omega
            · have := hlt.2.1 h6; omega
          · have : ¬ z1 = 0 := fun h' => h6 (hz1.1 h')
            rcases h3 with h3 | h3 | h3
            · exact absurd h3.1 h
            · exact absurd h3.1 h6
            · omega
      have hs : z2 = isign (sgn β ν) := by
        have h3 := isign3 (sgn β ν)
        rw [hnd] at hn3
        have a1 : z2 = 0 ↔ sgn β ν = 0 := by rw [hz2, ← hn3.1]; omega
        have a2 : z2 < 0 ↔ sgn β ν < 0 := by rw [hz2', ← hn3.2]
        omega
      have hm3 := isign0 (sgn γ μ)
      have hb : (ok == decide (isign (sgn γ μ) ≠ 0)) = true := by
        cases ok with
        | true =>
          have := hok.1 rfl
          rw [decide_eq_true (by rw [Ne, hm3]; intro h; exact this (hm0.1 (.inl h)))]; rfl
        | false =>
          have : B = 0 := Decidable.byContradiction fun h => by cases hok.2 h
          rw [decide_eq_false (by rw [Ne, hm3]; intro h; exact h ((hm0.2 this).resolve_right (by omega)))]; rfl
      cases ok with
      | true =>
        have hB := hok.1 rfl
        have hr : sgn γ μ * d ≠ 0 := Int.mul_ne_zero (fun h => hB (hm0.1 (.inl h))) (by omega)
        have r5 := isR_of rQ hr (x := sgn β ν * e) (by rw [show sgn γ μ * d = d * sgn γ μ by grind, qv_div, hv1, hv2])
        refine PureOK.fnF Tryd.func10 Tryd.results10 Tryd.ntmps10 rfl rfl rfl (by simp [AV.ids, AV0.ids, Atom.ids]) rfl (fun w0 T B E0 hB => ?_)
        refine SX.go2 ?_
        refine retB ?_; first | rfl | exact r5
      | false =>
        have hB : B = 0 := Decidable.byContradiction fun h => by cases hok.2 h
        have r5 := isR_of rQ (show (1 : Int) ≠ 0 by decide) (x := 0) (by rw [hB]; unfold qv; grind)
        refine PureOK.fnF Tryd.func10 Tryd.results10 Tryd.ntmps10 rfl rfl rfl (by simp [AV.ids, AV0.ids, Atom.ids]) rfl (fun w0 T B E0 hB => ?_)
        refine SX.go2 ?_
        refine retB ?_; first | rfl | exact r5
    · refine PureOK.fnF Tryd.func10 Tryd.results10 Tryd.ntmps10 rfl rfl rfl (by simp [AV.ids, AV0.ids, Atom.ids]) rfl (fun w0 T B E0 hB => ?_)
      refine SX.go2 ?_
      exact retB rfl
  · refine PureOK.fnF Tryd.func10 Tryd.results10 Tryd.ntmps10 rfl rfl rfl (by simp [AV.ids, AV0.ids, Atom.ids]) rfl (fun w0 T B E0 hB => ?_)
    refine SX.go2 ?_
    exact retB rfl
end Go.Proofs.YtkdonndeogihfaaDoor

import Derived.Test.YtkdonndeogihfaaDoorD5
/- The statements RatField, RatRounds answer true. -/
set_option linter.unusedVariables false
set_option linter.unusedSimpArgs false
namespace Go.Proofs.YtkdonndeogihfaaDoor
open Go.RowKit QM SX
attribute [local irreducible] IntKind.wrap Go1 Reg WP thenK inBlk retQ retF RetF RetOK ResOK CallOK OpOK Sat
attribute [local irreducible] qsub qmul qquo qcmp qadd qv
instance con_Few (b : Bool) (l : List Nat) (c : Bool) (m : List Nat) (z : Int) : Con Tryd.prog 41 [.agg (qW b l c m), .v (.int .i64 z)] True (.v (.bool (decide ((l.length : Int) ≤ z ∧ (m.length : Int) ≤ z)))) := ⟨fun _ => by
  refine PureOK.fnF Tryd.func41 Tryd.results41 Tryd.ntmps41 rfl rfl rfl (by simp [AV.ids, AV0.ids, Atom.ids]) rfl (fun w0 T B E0 hB => ?_)
  by_cases h1 : (l.length : Int) ≤ z
  · refine SX.go2 ?_
    refine retB ?_; rw [decide_eq_decide]; exact ⟨fun h => ⟨h1, h⟩, fun h => h.2⟩
  · refine SX.go2 ?_
    refine retB ?_; rw [eq_comm]; exact decide_eq_false (fun h => h1 h.1)⟩
set_option maxRecDepth 20000 in
theorem RatField_ok (b1 : Bool) (l1 : List Nat) (c1 : Bool) (m1 : List Nat) (b2 : Bool) (l2 : List Nat) (c2 : Bool) (m2 : List Nat) (b3 : Bool) (l3 : List Nat) (c3 : Bool) (m3 : List Nat) : PureOK Tryd.prog 9 [.agg (qW b1 l1 c1 m1), .agg (qW b2 l2 c2 m2), .agg (qW b3 l3 c3 m3)] (.v (.bool true)) := by
  refine lawQ ⟨_, Tryd.func9, rfl, rfl⟩ fun i1 i2 => ?_
  refine lawQ2 ⟨_, Tryd.func9, rfl, rfl⟩ fun i3 i4 => ?_
  refine lawQ3 ⟨_, Tryd.func9, rfl, rfl⟩ fun i5 i6 => ?_
  by_cases f1 : l1.length ≤ 3 ∧ m1.length ≤ 3
  · by_cases f2 : l2.length ≤ 3 ∧ m2.length ≤ 3
    · by_cases f3 : l3.length ≤ 3 ∧ m3.length ≤ 3
      · obtain ⟨A, ra⟩ : ∃ A, Ra (qW b1 l1 c1 m1) A 3 := ⟨_, Ra.raw i1 i2 f1.1 f1.2⟩
        obtain ⟨B, rb⟩ : ∃ B, Ra (qW b2 l2 c2 m2) B 3 := ⟨_, Ra.raw i3 i4 f2.1 f2.2⟩
        obtain ⟨C, rc⟩ : ∃ C, Ra (qW b3 l3 c3 m3) C 3 := ⟨_, Ra.raw i5 i6 f3.1 f3.2⟩
        clear i1 i2 i3 i4 i5 i6
        obtain ⟨BC, cBC, rBC⟩ := eAdd (qW b2 l2 c2 m2) (qW b3 l3 c3 m3) (by omega)
        have iBC := rBC.ra
        obtain ⟨S, cS, rS⟩ := eMul (qW b1 l1 c1 m1) (ratA BC) (by omega)
        have iS := rS.ra
        obtain ⟨AB, cAB, rAB⟩ := eMul (qW b1 l1 c1 m1) (qW b2 l2 c2 m2) (by omega)
        have iAB := rAB.ra
        obtain ⟨AC, cAC, rAC⟩ := eMul (qW b1 l1 c1 m1) (qW b3 l3 c3 m3) (by omega)
        have iAC := rAC.ra
        obtain ⟨T1, cT, rT⟩ := eAdd (ratA AB) (ratA AC) (by omega)
        have iT := rT.ra
        obtain ⟨Q, ok, cQ, rQ, hok⟩ := eQuo (qW b1 l1 c1 m1) (qW b2 l2 c2 m2) (by omega)
        have iQ := rQ.ra
        obtain ⟨K1, cK, rK⟩ := eMul (ratA Q) (qW b2 l2 c2 m2) (by omega)
        have iK := rK.ra
        obtain ⟨z1, cz1, hz1, _, _⟩ := eCmp (ratA S) (ratA T1) (by omega)
        obtain ⟨D1, cD, rD⟩ := eSub (qW b1 l1 c1 m1) (qW b1 l1 c1 m1) (by omega)
        have iD := rD.ra
        obtain ⟨z2, cz2, hz2, _⟩ := eSign (ratA D1) (by omega)
        obtain ⟨z3, cz3, hz3, _⟩ := eSign (qW b2 l2 c2 m2) (by omega)
        obtain ⟨z4, cz4, hz4, _, _⟩ := eCmp (ratA K1) (qW b1 l1 c1 m1) (by omega)
        obtain ⟨L, cL, rL⟩ := eAdd (qW b1 l1 c1 m1) (ratA BC) (by omega)
        have iL := rL.ra
        obtain ⟨SB, cSB, rSB⟩ := eAdd (qW b1 l1 c1 m1) (qW b2 l2 c2 m2) (by omega)
        have iSB := rSB.ra
        obtain ⟨R, cR, rR⟩ := eAdd (ratA SB) (qW b3 l3 c3 m3) (by omega)
        have iR := rR.ra
        obtain ⟨z5, cz5, hz5, _, _⟩ := eCmp (ratA L) (ratA R) (by omega)
        have e1 : z1 = 0 := hz1.2 (by grind)
        have e2 : z2 = 0 := hz2.2 (by grind)
        have e5 : z5 = 0 := hz5.2 (by grind)
        clear hz1 hz2 hz5
        cases ok with
        | true =>
          have hB : B ≠ 0 := hok.1 rfl
          have e4 : z4 = 0 := hz4.2 (by grind)
          refine PureOK.fnF Tryd.func9 Tryd.results9 Tryd.ntmps9 rfl rfl rfl (by simp [AV.ids, AV0.ids, Atom.ids]) rfl (fun w0 T B E0 hB => ?_)
          refine SX.go2 ?_
          refine retB ?_; exact decide_eq_true e5
        | false =>
          have hB : B = 0 := Decidable.byContradiction fun h => by cases hok.2 h
          have e3 : z3 = 0 := hz3.2 hB
          refine PureOK.fnF Tryd.func9 Tryd.results9 Tryd.ntmps9 rfl rfl rfl (by simp [AV.ids, AV0.ids, Atom.ids]) rfl (fun w0 T B E0 hB => ?_)
          refine SX.go2 ?_
          refine retB ?_; exact decide_eq_true e5
      · refine PureOK.fnF Tryd.func9 Tryd.results9 Tryd.ntmps9 rfl rfl rfl (by simp [AV.ids, AV0.ids, Atom.ids]) rfl (fun w0 T B E0 hB => ?_)
        refine SX.go2 ?_
        exact retB rfl
    · refine PureOK.fnF Tryd.func9 Tryd.results9 Tryd.ntmps9 rfl rfl rfl (by simp [AV.ids, AV0.ids, Atom.ids]) rfl (fun w0 T B E0 hB => ?_)
      refine SX.go2 ?_
      exact retB rfl
  · refine PureOK.fnF Tryd.func9 Tryd.results9 Tryd.ntmps9 rfl rfl rfl (by simp [AV.ids, AV0.ids, Atom.ids]) rfl (fun w0 T B E0 hB => ?_)
    refine SX.go2 ?_
    exact retB rfl
/-- Rounding. -/
theorem eFloor (l : List Atom) {v : Rat} {K : Nat} [a : Ra l v K] (h : K ≤ 400000) : ∃ z : Int, PureOK Tryd.prog 62 [.agg l] (.agg (zN z)) ∧ (z : Rat) ≤ v ∧ v < (z : Rat) + 1 ∧ Bd z (2 * K + 3) := by
  obtain ⟨x0, x1, x2, x3, p, q, k, m, rfl, z1, z2, hk, hm, b1, b2, hv⟩ := a.h
  refine ⟨_, (con_rFloor (h := z1) (h' := z2)).h (by omega), ?_⟩
  have hd := rmk_pos p q
  have hval := rmk_val p q
  rw [hv] at hval
  have hb : Bd (zfq (rmk p q).1 (rmk p q).2) (k + m + 1 + 1 + 1) := inferInstance
  refine ⟨?_, ?_, ⟨Bd.mono hb.h (by omega)⟩⟩
  all_goals
    have e : zfq (rmk p q).1 (rmk p q).2 = (rmk p q).1.fdiv (rmk p q).2 := by unfold zfq; first | rfl | (rw [if_neg (by omega)])
    rw [e]
    have h1 := Int.fmod_add_mul_fdiv (rmk p q).1 (rmk p q).2
    have h2 := Int.fmod_nonneg_of_pos (rmk p q).1 hd
    have h3 := Int.fmod_lt_of_pos (rmk p q).1 hd
    generalize (rmk p q).1.fdiv (rmk p q).2 = z at *
    generalize (rmk p q).1.fmod (rmk p q).2 = w at *
    generalize (rmk p q).1 = n at *
    generalize (rmk p q).2 = d at *
    have hd' : (0 : Rat) < d := by rw [show (0 : Rat) = ((0 : Int) : Rat) from rfl]; exact Rat.intCast_lt_intCast.2 hd
    have en : (n : Rat) = v * d := by rw [← hval]; unfold qv; grind
    have g1 : (n : Rat) = w + d * z := by rw [← Rat.intCast_mul, ← Rat.intCast_add, h1]
    have g2 : (0 : Rat) ≤ w := by rw [show (0 : Rat) = ((0 : Int) : Rat) from rfl]; exact Rat.intCast_le_intCast.2 h2
    have g3 : (w : Rat) < d := Rat.intCast_lt_intCast.2 h3
  · exact Decidable.byContradiction fun hn => by
      have := Rat.mul_pos (show 0 < (z : Rat) - v by grind) hd'
      grind
  · exact Decidable.byContradiction fun hn => by
      have := Rat.mul_nonneg (show 0 ≤ v - ((z : Rat) + 1) by grind) (show (0 : Rat) ≤ d by grind)
      grind
instance Bd.zround (x y : Int) (k m : Nat) [hx : Bd x k] [hy : Bd y m] : Bd (zround x y) (k + k + 1 + m + 1 + 1 + 1) := ⟨by
  unfold Proofs.YtkdonndeogihfaaDoor.zround
  split
  · exact (Bd.zfq (-x + -x + -y) (-y + -y) _).h
  · exact (Bd.zfq (x + x + y) (y + y) _).h⟩
theorem eRound (l : List Atom) {v : Rat} {K : Nat} [a : Ra l v K] (h : K ≤ 400000) : ∃ z : Int, PureOK Tryd.prog 63 [.agg l] (.agg (zN z)) ∧ 2 * ((z : Rat) - v) ≤ 1 ∧ -1 < 2 * ((z : Rat) - v) ∧ Bd z (6 * K + 10) := by
  obtain ⟨x0, x1, x2, x3, p, q, k, m, rfl, z1, z2, hk, hm, b1, b2, hv⟩ := a.h
  refine ⟨_, (con_rRound (h := z1) (h' := z2)).h (by omega), ?_⟩
  have hd := rmk_pos p q
  have hval := rmk_val p q
  rw [hv] at hval
  have hb : Bd (zround (rmk p q).1 (rmk p q).2) ((k + m + 1) + (k + m + 1) + 1 + (k + m + 1) + 1 + 1 + 1) := inferInstance
  refine ⟨?_, ?_, ⟨Bd.mono hb.h (by omega)⟩⟩
  all_goals
    have e : zround (rmk p q).1 (rmk p q).2 = ((rmk p q).1 + (rmk p q).1 + (rmk p q).2).fdiv ((rmk p q).2 + (rmk p q).2) := by unfold Proofs.YtkdonndeogihfaaDoor.zround; rw [if_neg (by omega)]; unfold zfq; first | rfl | (rw [if_neg (by omega)])
    rw [e]
    have h1 := Int.fmod_add_mul_fdiv ((rmk p q).1 + (rmk p q).1 + (rmk p q).2) ((rmk p q).2 + (rmk p q).2)
    have h2 := Int.fmod_nonneg_of_pos ((rmk p q).1 + (rmk p q).1 + (rmk p q).2) (show 0 < (rmk p q).2 + (rmk p q).2 by omega)
    have h3 := Int.fmod_lt_of_pos ((rmk p q).1 + (rmk p q).1 + (rmk p q).2) (show 0 < (rmk p q).2 + (rmk p q).2 by omega)
    generalize ((rmk p q).1 + (rmk p q).1 + (rmk p q).2).fdiv ((rmk p q).2 + (rmk p q).2) = z at *
    generalize ((rmk p q).1 + (rmk p q).1 + (rmk p q).2).fmod ((rmk p q).2 + (rmk p q).2) = w at *
    generalize (rmk p q).1 = n at *
    generalize (rmk p q).2 = d at *
    have hd' : (0 : Rat) < d := by rw [show (0 : Rat) = ((0 : Int) : Rat) from rfl]; exact Rat.intCast_lt_intCast.2 hd
    have en : (n : Rat) = v * d := by rw [← hval]; unfold qv; grind
    have g1 : (w : Rat) + (d + d) * z = n + n + d := by rw [← Rat.intCast_add, ← Rat.intCast_mul, ← Rat.intCast_add, h1, Rat.intCast_add, Rat.intCast_add]
    have g2 : (0 : Rat) ≤ w := by rw [show (0 : Rat) = ((0 : Int) : Rat) from rfl]; exact Rat.intCast_le_intCast.2 h2
    have g3 : (w : Rat) < d + d := by rw [← Rat.intCast_add]; exact Rat.intCast_lt_intCast.2 h3
  · exact Decidable.byContradiction fun hn => by
      have := Rat.mul_pos (show 0 < 2 * ((z : Rat) - v) - 1 by grind) hd'
      grind
  · exact Decidable.byContradiction fun hn => by
      have := Rat.mul_nonneg (show 0 ≤ -1 - 2 * ((z : Rat) - v) by grind) (show (0 : Rat) ≤ d by grind)
      grind
attribute [local irreducible] zround zfq
set_option maxRecDepth 20000 in
theorem RatRounds_ok (b1 : Bool) (l1 : List Nat) (c1 : Bool) (m1 : List Nat) : PureOK Tryd.prog 12 [.agg (qW b1 l1 c1 m1)] (.v (.bool true)) := by
  refine lawQ ⟨_, Tryd.func12, rfl, rfl⟩ fun i1 i2 => ?_
  by_cases f1 : l1.length ≤ 5 ∧ m1.length ≤ 5
  · obtain ⟨A, ra⟩ : ∃ A, Ra (qW b1 l1 c1 m1) A 5 := ⟨_, Ra.raw i1 i2 f1.1 f1.2⟩
    clear i1 i2
    haveI b2 : Bd 2 1 := ⟨by rw [Nat.pow_one, WB_eq]; decide⟩
    obtain ⟨F, cF, hF1, hF2, bF⟩ := eFloor (qW b1 l1 c1 m1) (by omega)
    obtain ⟨R, cR, hR1, hR2, bR⟩ := eRound (qW b1 l1 c1 m1) (by omega)
    have iF := (Rd.of bF (by omega)).ra
    have iR := (Rd.of bR (by omega)).ra
    have i1 := (Rd.of Bd.one (by omega)).ra
    have i2 := (Rd.of b2 (by omega)).ra
    rw [show ((1 : Int) : Rat) = 1 from rfl] at i1
    rw [show ((2 : Int) : Rat) = 2 from rfl] at i2
    obtain ⟨X, cX, rX⟩ := eSub (ratA (R, 1)) (qW b1 l1 c1 m1) (by omega)
    have iX := rX.ra
    obtain ⟨W, cW, rW⟩ := eMul (ratA X) (ratA (2, 1)) (by omega)
    have iW := rW.ra
    obtain ⟨z1, cz1, _, _, hz1⟩ := eCmp (ratA (F, 1)) (qW b1 l1 c1 m1) (by omega)
    obtain ⟨Y, cY, rY⟩ := eAdd (ratA (F, 1)) (ratA (1, 1)) (by omega)
    have iY := rY.ra
    obtain ⟨z2, cz2, _, hz2, _⟩ := eCmp (qW b1 l1 c1 m1) (ratA Y) (by omega)
    obtain ⟨z3, cz3, _, _, hz3⟩ := eCmp (ratA W) (ratA (1, 1)) (by omega)
    obtain ⟨N, cN, rN⟩ := eNeg (ratA (1, 1)) (by omega)
    have iN := rN.ra
    obtain ⟨z4, cz4, _, _, hz4⟩ := eCmp (ratA W) (ratA N) (by omega)
    have e1 : ¬ 0 < z1 := fun h => by have := hz1.1 h; grind
    have e2 : z2 < 0 := hz2.2 hF2
    have e3 : ¬ 0 < z3 := fun h => by have := hz3.1 h; grind
    have e4 : 0 < z4 := hz4.2 (by grind)
    clear hz1 hz2 hz3 hz4
    refine PureOK.fnF Tryd.func12 Tryd.results12 Tryd.ntmps12 rfl rfl rfl (by simp [AV.ids, AV0.ids, Atom.ids]) rfl (fun w0 T B E0 hB => ?_)
    refine SX.go2 ?_
    refine retB ?_; exact decide_eq_true e4
  · refine PureOK.fnF Tryd.func12 Tryd.results12 Tryd.ntmps12 rfl rfl rfl (by simp [AV.ids, AV0.ids, Atom.ids]) rfl (fun w0 T B E0 hB => ?_)
    refine SX.go2 ?_
    exact retB rfl
end Go.Proofs.YtkdonndeogihfaaDoor

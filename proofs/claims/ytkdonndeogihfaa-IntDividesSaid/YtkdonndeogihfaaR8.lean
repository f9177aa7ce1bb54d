import Derived.Test.YtkdonndeogihfaaR7
/- The reference for whole numbers (package quincunxref05): Quo, Floor, Euclid. -/
set_option linter.unusedVariables false
set_option linter.unusedSimpArgs false
namespace Go.Proofs.Ytkdonndeogihfaa
open Go.RowKit QM SX
attribute [local irreducible] IntKind.wrap bitLen cmpI nval Go1 Reg WP thenK inBlk retQ RetOK ResOK CallOK OpOK Sat
attribute [local irreducible] sgn isign icmp
theorem rDivModZ (x y : Int) (k m : Nat) [hx : Bd x k] [hy : Bd y m] (h0 : y ≠ 0) (hk : k + m ≤ 1000000) : PureOK Try.prog 50 [.r (digR (dgs x.natAbs)), .r (digR (dgs y.natAbs))] (.tup [.one (.c (.sat (digR (dgs (x.natAbs / y.natAbs))))), .one (.c (.sat (digR (dgs (x.natAbs % y.natAbs)))))]) := by
  have l2 := dgsb y m
  exact rDivMod0 x.natAbs y.natAbs (4 * k) (by omega) (by rw [← WB_digs]; exact hx.h) (by omega)
theorem tdiv_sgn (x y : Int) : sgn (!(decide (x < 0) == decide (y < 0))) (x.natAbs / y.natAbs) = x.tdiv y := by rw [sgn_quo, sgn_abs, sgn_abs]
theorem dgs_div_len (x y : Int) (k : Nat) [hx : Bd x k] : (dgs (x.natAbs / y.natAbs)).length ≤ 4 * k := dgs_len (by rw [← WB_digs]; exact Nat.lt_of_le_of_lt (Nat.div_le_self ..) hx.h)
theorem rQuoZ (x y : Int) (k m : Nat) [hx : Bd x k] [hy : Bd y m] (h0 : y ≠ 0) (hk : k + m ≤ 100000) : PureOK Try.prog 19 [.agg (zD x), .agg (zD y)] (.tup [.agg (zD (x.tdiv y)), .agg (zD (x - x.tdiv y * y))]) := by
  have hl := dgs_div_len x y k
  have hn := rNormD (!(decide (x < 0) == decide (y < 0))) (x.natAbs / y.natAbs) k (by omega)
  rw [tdiv_sgn] at hn
  refine PureOK.fn Try.func19 Try.results19 Try.ntmps19 rfl rfl rfl (by simp [AV.ids, AV0.ids, Atom.ids]) rfl (fun w0 T B E0 hB => ?_)
  repeat (first | refine SX.goZ ?_ | (refine SX.Go1.is ?_; refine SX.Go1.isCall ?_; first
        | refine SX.Go1.call rfl (rDivModZ x y k m h0 (by omega)) rfl rfl ?_
        | refine SX.Go1.call rfl (hn) rfl rfl ?_
        | refine SX.Go1.call rfl (rMulZ _ _ _ _ (by omega)) rfl rfl ?_
        | refine SX.Go1.call rfl (rSubZ _ _ _ _ (by omega)) rfl rfl ?_))
  exact RetOK.eq2 (ResOK.agg2 rfl rfl rfl) (ResOK.agg2 rfl rfl rfl) rfl rfl
theorem zD_one : zD 1 = [.c (.val (.bool false)), .c (.sat (digR [1]))] := by
  unfold zD; rw [show (1 : Int).natAbs = 1 from rfl, dgs_one]; rfl
set_option maxRecDepth 100000 in
theorem rFloorZ (x y : Int) (k m : Nat) [hx : Bd x k] [hy : Bd y m] (h0 : y ≠ 0) (hk : k + m ≤ 100000) : PureOK Try.prog 20 [.agg (zD x), .agg (zD y)] (.tup [.agg (zD (x.fdiv y)), .agg (zD (x - x.fdiv y * y))]) := by
  have hl := dgs_div_len x y k
  have hn := rNormD (!(decide (x < 0) == decide (y < 0))) (x.natAbs / y.natAbs) k (by omega)
  rw [tdiv_sgn] at hn
  have h1 := rSubZ (x.tdiv y) 1 k 1 (by omega)
  rw [zD_one] at h1
  have hrl := @dgs_eq_nil (x.natAbs % y.natAbs)
  have hrm : (x.tmod y).natAbs = x.natAbs % y.natAbs := Int.natAbs_tmod ..
  have hm0 := Int.tmod_add_mul_tdiv x y
  refine PureOK.fn Try.func20 Try.results20 Try.ntmps20 rfl rfl rfl (by simp [AV.ids, AV0.ids, Atom.ids]) rfl (fun w0 T B E0 hB => ?_)
  by_cases hs : decide (x < 0) = decide (y < 0)
  · have d1 : (!(decide (x < 0) == decide (y < 0))) = false := by rw [hs]; simp
    have hq : 0 ≤ x.tdiv y := by
      rw [← tdiv_sgn, d1, sgn_false]; exact Int.natCast_nonneg _
    have d2 : decide (x.tdiv y < 0) = false := decide_eq_false (by omega)
    have hf : x.fdiv y = x.tdiv y := by
      refine ((floor_keep h0 ?_).1).symm
      have hs' : (x < 0 ↔ y < 0) := by simpa using hs
      intro hneg
      by_cases hy0 : y < 0
      · have : x.tmod y ≤ 0 := by
          have := Int.tmod_nonneg y (show 0 ≤ -x by have := hs'.2 hy0; omega)
          rw [Int.neg_tmod] at this; omega
        have := Int.mul_nonneg (show 0 ≤ -(x.tmod y) by omega) (show 0 ≤ -y by omega)
        rw [Int.neg_mul_neg] at this; omega
      · have : 0 ≤ x.tmod y := Int.tmod_nonneg y (by have := hs'; omega)
        have := Int.mul_nonneg this (show 0 ≤ y by omega)
        omega
    rw [hf]
    repeat (first | refine SX.goZ ?_ | (refine SX.Go1.is ?_; refine SX.Go1.isCall ?_; first
          | refine SX.Go1.call rfl (rDivModZ x y k m h0 (by omega)) rfl rfl ?_
          | refine SX.Go1.call rfl (hn) rfl rfl ?_
          | refine SX.Go1.call rfl (rMulZ _ _ _ _ (by omega)) rfl rfl ?_
          | refine SX.Go1.call rfl (rSubZ _ _ _ _ (by omega)) rfl rfl ?_))
    exact RetOK.eq2 (ResOK.agg2 rfl rfl rfl) (ResOK.agg2 rfl rfl rfl) rfl rfl
  · have d1 : (!(decide (x < 0) == decide (y < 0))) = true := by simpa using hs
    have hs' : ¬ (x < 0 ↔ y < 0) := by simpa using hs
    by_cases hr : x.natAbs % y.natAbs = 0
    · have d3 : decide ((0 : Int) < ((dgs (x.natAbs % y.natAbs)).length : Int)) = false := decide_eq_false (by omega)
      have hf : x.fdiv y = x.tdiv y := ((floor_keep h0 (by rw [show x.tmod y = 0 by omega]; simp)).1).symm
      rw [hf]
      by_cases hX : x.tdiv y < 0
      · have d2 : decide (x.tdiv y < 0) = true := decide_eq_true hX
        repeat (first | refine SX.goZ ?_ | (refine SX.Go1.is ?_; refine SX.Go1.isCall ?_; first
              | refine SX.Go1.call rfl (rDivModZ x y k m h0 (by omega)) rfl rfl ?_
              | refine SX.Go1.call rfl (hn) rfl rfl ?_
              | refine SX.Go1.call rfl (rMulZ _ _ _ _ (by omega)) rfl rfl ?_
              | refine SX.Go1.call rfl (rSubZ _ _ _ _ (by omega)) rfl rfl ?_))
        exact RetOK.eq2 (ResOK.agg2 rfl rfl rfl) (ResOK.agg2 rfl rfl rfl) rfl rfl
      · have d2 : decide (x.tdiv y < 0) = false := decide_eq_false hX
        repeat (first | refine SX.goZ ?_ | (refine SX.Go1.is ?_; refine SX.Go1.isCall ?_; first
              | refine SX.Go1.call rfl (rDivModZ x y k m h0 (by omega)) rfl rfl ?_
              | refine SX.Go1.call rfl (hn) rfl rfl ?_
              | refine SX.Go1.call rfl (rMulZ _ _ _ _ (by omega)) rfl rfl ?_
              | refine SX.Go1.call rfl (rSubZ _ _ _ _ (by omega)) rfl rfl ?_))
        exact RetOK.eq2 (ResOK.agg2 rfl rfl rfl) (ResOK.agg2 rfl rfl rfl) rfl rfl
    · have d3 : decide ((0 : Int) < ((dgs (x.natAbs % y.natAbs)).length : Int)) = true := decide_eq_true (by omega)
      have hneg : x.tmod y * y < 0 := by
        by_cases hy0 : y < 0
        · have hx0 : 0 ≤ x := by
            rcases Int.lt_or_le x 0 with h | h
            · exact absurd ⟨fun _ => hy0, fun _ => h⟩ hs'
            · exact h
          have := Int.tmod_nonneg y hx0
          exact Int.mul_neg_of_pos_of_neg (by omega) hy0
        · have hx0 : x < 0 := by
            rcases Int.lt_or_le x 0 with h | h
            · exact h
            · exact absurd ⟨fun h' => by omega, fun h' => absurd h' hy0⟩ hs'
          have := Int.tmod_nonneg y (show 0 ≤ -x by omega)
          rw [Int.neg_tmod] at this
          exact Int.mul_neg_of_neg_of_pos (by omega) (by omega)
      have hf : x.fdiv y = x.tdiv y - 1 := ((floor_step h0 hneg).1).symm
      rw [hf]
      by_cases hX : x.tdiv y < 0
      · have d2 : decide (x.tdiv y < 0) = true := decide_eq_true hX
        repeat (first | refine SX.goZ ?_ | (refine SX.Go1.is ?_; refine SX.Go1.isCall ?_; first
              | refine SX.Go1.call rfl (rDivModZ x y k m h0 (by omega)) rfl rfl ?_
              | refine SX.Go1.call rfl (hn) rfl rfl ?_
              | refine SX.Go1.call rfl (h1) rfl rfl ?_
              | refine SX.Go1.call rfl (rMulZ _ _ _ _ (by omega)) rfl rfl ?_
              | refine SX.Go1.call rfl (rSubZ _ _ _ _ (by omega)) rfl rfl ?_))
        exact RetOK.eq2 (ResOK.agg2 rfl rfl rfl) (ResOK.agg2 rfl rfl rfl) rfl rfl
      · have d2 : decide (x.tdiv y < 0) = false := decide_eq_false hX
        repeat (first | refine SX.goZ ?_ | (refine SX.Go1.is ?_; refine SX.Go1.isCall ?_; first
              | refine SX.Go1.call rfl (rDivModZ x y k m h0 (by omega)) rfl rfl ?_
              | refine SX.Go1.call rfl (hn) rfl rfl ?_
              | refine SX.Go1.call rfl (h1) rfl rfl ?_
              | refine SX.Go1.call rfl (rMulZ _ _ _ _ (by omega)) rfl rfl ?_
              | refine SX.Go1.call rfl (rSubZ _ _ _ _ (by omega)) rfl rfl ?_))
        exact RetOK.eq2 (ResOK.agg2 rfl rfl rfl) (ResOK.agg2 rfl rfl rfl) rfl rfl
theorem rEuclidZ (x y : Int) (k m : Nat) [hx : Bd x k] [hy : Bd y m] (h0 : y ≠ 0) (hk : k + m ≤ 10000) : PureOK Try.prog 21 [.agg (zD x), .agg (zD y)] (.tup [.agg (zD (x / y)), .agg (zD (x % y))]) := by
  have hl := dgsb y m
  have hn := rNormD false y.natAbs m (by omega)
  rw [sgn_false] at hn
  have hF := rFloorZ x (y.natAbs : Int) k m (by omega) (by omega)
  have e0 : x.fdiv (y.natAbs : Int) = x / (y.natAbs : Int) := Int.fdiv_eq_ediv_of_nonneg x (by omega)
  have e1 : x - x.fdiv (y.natAbs : Int) * (y.natAbs : Int) = x % y := by
    have h1 := Int.emod_add_mul_ediv x (y.natAbs : Int)
    rw [Int.mul_comm] at h1
    rcases Int.lt_or_le y 0 with h | h
    · rw [e0]
      have e2 : (y.natAbs : Int) = -y := by omega
      rw [e2] at h1 ⊢
      rw [Int.emod_neg] at h1; omega
    · rw [e0]
      have e2 : (y.natAbs : Int) = y := by omega
      rw [e2] at h1 ⊢
      omega
  rw [e1] at hF
  refine PureOK.fn Try.func21 Try.results21 Try.ntmps21 rfl rfl rfl (by simp [AV.ids, AV0.ids, Atom.ids]) rfl (fun w0 T B E0 hB => ?_)
  by_cases hneg : y < 0
  · have d1 : decide (y < 0) = true := decide_eq_true hneg
    have e3 : -(x.fdiv (y.natAbs : Int)) = x / y := by
      rw [e0, show (y.natAbs : Int) = -y by omega, Int.ediv_neg, Int.neg_neg]
    rw [← e3]
    have bf : Bd (x.fdiv (y.natAbs : Int)) (k + 1 + 1) := by
      have := Bd.zfq x (y.natAbs : Int) k
      unfold zfq at this
      rwa [if_neg (by omega)] at this
    repeat (first | refine SX.goZ ?_ | (refine SX.Go1.is ?_; refine SX.Go1.isCall ?_; first
          | refine SX.Go1.call rfl (hn) rfl rfl ?_
          | refine SX.Go1.call rfl (hF) rfl rfl ?_
          | refine SX.Go1.call rfl (rNeg _ _ (by omega)) rfl rfl ?_))
    exact RetOK.eq2 (ResOK.agg2 rfl rfl rfl) (ResOK.agg2 rfl rfl rfl) rfl rfl
  · have d1 : decide (y < 0) = false := decide_eq_false hneg
    have e3 : x.fdiv (y.natAbs : Int) = x / y := by rw [e0, show (y.natAbs : Int) = y by omega]
    rw [← e3]
    repeat (first | refine SX.goZ ?_ | (refine SX.Go1.is ?_; refine SX.Go1.isCall ?_; first
          | refine SX.Go1.call rfl (hn) rfl rfl ?_
          | refine SX.Go1.call rfl (hF) rfl rfl ?_
          | refine SX.Go1.call rfl (rNeg _ _ (by omega)) rfl rfl ?_))
    exact RetOK.eq2 (ResOK.agg2 rfl rfl rfl) (ResOK.agg2 rfl rfl rfl) rfl rfl
end Go.Proofs.Ytkdonndeogihfaa

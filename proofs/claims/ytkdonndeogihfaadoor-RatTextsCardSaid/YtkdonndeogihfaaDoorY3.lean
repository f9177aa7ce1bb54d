import Derived.Test.YtkdonndeogihfaaDoorY2
/- Package zint in the symbolic run: Quo, one, Floor, Euclid, Round, Exact, Gcd. -/
set_option linter.unusedVariables false
set_option linter.unusedSimpArgs false
namespace Go.Proofs.YtkdonndeogihfaaDoor
open Go.RowKit QM SX
attribute [local irreducible] IntKind.wrap bitLen cmpI nval Go1 Reg WP thenK inBlk retQ RetOK ResOK CallOK OpOK Sat
/-- What Quo answers beside the quotient. -/
def zrem (x y : Int) : Int := if y = 0 then 0 else x.tmod y
theorem sgn_quo (a b : Bool) (n m : Nat) : sgn (!(a == b)) (n / m) = (sgn a n).tdiv (sgn b m) := by
  unfold sgn; cases a <;> cases b <;> simp [Int.neg_tdiv, Int.tdiv_neg]
theorem sgn_eq_zero {b : Bool} {m : Nat} : sgn b m = 0 ↔ m = 0 := by unfold sgn; cases b <;> simp
theorem sgn_rem (a b : Bool) (n m : Nat) : sgn a (if m = 0 then 0 else n % m) = zrem (sgn a n) (sgn b m) := by
  unfold zrem
  by_cases h : m = 0
  · rw [if_pos h, if_pos (sgn_eq_zero.2 h)]; cases a <;> rfl
  · rw [if_neg h, if_neg (fun e => h (sgn_eq_zero.1 e))]
    unfold sgn; cases a <;> cases b <;> simp [Int.neg_tmod, Int.tmod_neg, Int.tmod_eq_emod_of_nonneg (Int.natCast_nonneg n)]
instance Bd.tdiv (x y : Int) (k : Nat) [h : Bd x k] : Bd (x.tdiv y) k := ⟨by rw [Int.natAbs_tdiv]; exact Nat.lt_of_le_of_lt (Nat.div_le_self _ _) h.h⟩
instance Bd.zrem (x y : Int) (k : Nat) [h : Bd x k] : Bd (zrem x y) k := ⟨by
  unfold Proofs.YtkdonndeogihfaaDoor.zrem
  split
  · exact Nat.lt_of_lt_of_le (by decide) (WB_one_le k)
  · rw [Int.natAbs_tmod]; exact Nat.lt_of_le_of_lt (Nat.mod_le _ _) h.h⟩
attribute [local irreducible] sgn isign zrem
theorem zQuo {l l' : List Atom} {x y : Int} {k m : Nat} [h : ZI l x k] [h' : ZI l' y m] (hk : k + m ≤ 1099511627770) : PureOK Tryd.prog 38 [.agg l, .agg l'] (.tup [.agg (zN (x.tdiv y)), .agg (zN (zrem x y)), .one (.c (.val (.bool (decide (y ≠ 0)))))]) := by
  refine z2 ⟨_, Tryd.func38, rfl, rfl⟩ fun neg n neg2 n2 hz hz2 hn hn2 => ?_
  subst hz hz2
  rw [← sgn_quo, ← sgn_rem, show decide (sgn neg2 n2 ≠ 0) = decide (n2 ≠ 0) by rw [decide_eq_decide, ne_eq, ne_eq, sgn_eq_zero]]
  refine PureOK.fn Tryd.func38 Tryd.results38 Tryd.ntmps38 rfl rfl rfl (by simp [AV.ids, AV0.ids, Atom.ids]) rfl (fun w0 T B E0 hB => ?_)
  repeat (first | refine SX.goZ ?_ | (refine SX.Go1.is ?_; refine SX.Go1.isCall ?_; first
        | refine SX.Go1.call rfl (dDivMod (by omega)) rfl rfl ?_
        | refine SX.Go1.call rfl (zFrom _ (by omega)) rfl rfl ?_))
  exact RetOK.eq3 (ResOK.agg2 rfl rfl rfl) (ResOK.agg2 rfl rfl rfl) (ResOK.tmp rfl) rfl rfl rfl
theorem zOne : PureOK Tryd.prog 122 [] (.agg (zN 1)) := by
  refine PureOK.fn Tryd.func122 Tryd.results122 Tryd.ntmps122 rfl rfl rfl (by simp) rfl (fun w0 T B E0 hB => ?_)
  repeat (first | refine SX.goZ ?_ | (refine SX.Go1.is ?_; refine SX.Go1.isCall ?_; first
        | refine SX.Go1.call rfl (zOf 1 (by omega) (by omega)) rfl rfl ?_))
  exact RetOK.eq1 (ResOK.agg2 rfl rfl rfl) rfl
/-- What Floor answers. -/
def zfq (x y : Int) : Int := if y = 0 then 0 else x.fdiv y
def zfr (x y : Int) : Int := if y = 0 then 0 else x.fmod y
theorem isign_mul (a b : Int) : decide (IntKind.i64.wrap (isign a * isign b) < 0) = decide (a * b < 0) := by
  rw [decide_eq_decide]
  unfold isign
  rcases Int.lt_trichotomy a 0 with ha | ha | ha <;> rcases Int.lt_trichotomy b 0 with hb | hb | hb
  all_goals first
    | (subst ha; simp [IntKind.wrap_i64]; done)
    | (subst hb; simp [IntKind.wrap_i64]; done)
    | skip
  · have := Int.mul_pos_of_neg_of_neg ha hb
    rw [if_neg (by omega), if_pos ha, if_neg (by omega), if_pos hb]; simp [IntKind.wrap_i64]; omega
  · have := Int.mul_neg_of_neg_of_pos ha hb
    rw [if_neg (by omega), if_pos ha, if_neg (by omega), if_neg (by omega)]; simp [IntKind.wrap_i64]; omega
  · have := Int.mul_neg_of_pos_of_neg ha hb
    rw [if_neg (by omega), if_neg (by omega), if_neg (by omega), if_pos hb]; simp [IntKind.wrap_i64]; omega
  · have := Int.mul_pos ha hb
    rw [if_neg (by omega), if_neg (by omega), if_neg (by omega), if_neg (by omega)]; simp [IntKind.wrap_i64]; omega
theorem floor_step {x y : Int} (hy : y ≠ 0) (h : x.tmod y * y < 0) : x.tdiv y - 1 = x.fdiv y ∧ x.tmod y + y = x.fmod y := by
  have h1 := Int.tmod_add_mul_tdiv x y
  have h2 := Int.fmod_add_mul_fdiv x y
  have hq : x.tdiv y - 1 = x.fdiv y := by
    have h0 : ¬ y ∣ x := fun hd => by rw [Int.tmod_eq_zero_of_dvd hd] at h; simp at h
    rw [Int.tdiv_eq_ediv, Int.fdiv_eq_ediv]
    have hs : (x.tmod y < 0 ∧ 0 < y) ∨ (0 < x.tmod y ∧ y < 0) := by
      rcases Int.lt_trichotomy (x.tmod y) 0 with ha | ha | ha
      · refine .inl ⟨ha, ?_⟩
        rcases Int.lt_trichotomy y 0 with hb | hb | hb
        · have := Int.mul_pos_of_neg_of_neg ha hb; omega
        · exact absurd hb hy
        · exact hb
      · rw [ha] at h; simp at h
      · refine .inr ⟨ha, ?_⟩
        rcases Int.lt_trichotomy y 0 with hb | hb | hb
        · exact hb
        · exact absurd hb hy
        · have := Int.mul_pos ha hb; omega
    rcases hs with ⟨a, b⟩ | ⟨a, b⟩
    · have hx : x < 0 := by
        rcases Int.lt_or_le x 0 with hx | hx
        · exact hx
        · have := Int.tmod_nonneg y hx; omega
      rw [if_neg (by simp [h0]; omega), if_pos (by left; omega)]
      rw [Int.sign_eq_one_of_pos b]; omega
    · have hx : 0 < x := by
        rcases Int.lt_or_le 0 x with hx | hx
        · exact hx
        · have := Int.tmod_nonneg y (show 0 ≤ -x by omega); rw [Int.neg_tmod] at this; omega
      rw [if_pos (by left; omega), if_neg (by simp [h0]; omega)]; omega
  refine ⟨hq, ?_⟩
  rw [← hq, Int.mul_sub] at h2
  omega
theorem floor_keep {x y : Int} (hy : y ≠ 0) (h : ¬ x.tmod y * y < 0) : x.tdiv y = x.fdiv y ∧ x.tmod y = x.fmod y := by
  have h1 := Int.tmod_add_mul_tdiv x y
  have h2 := Int.fmod_add_mul_fdiv x y
  have hq : x.tdiv y = x.fdiv y := by
    rw [Int.tdiv_eq_ediv, Int.fdiv_eq_ediv]
    by_cases hd : y ∣ x
    · rw [if_pos (.inr hd), if_pos (.inr hd)]; omega
    · have h0 : x.tmod y ≠ 0 := fun e => hd (Int.dvd_of_tmod_eq_zero e)
      rcases Int.lt_trichotomy y 0 with hb | hb | hb
      · have : x.tmod y < 0 := by
          rcases Int.lt_trichotomy (x.tmod y) 0 with ha | ha | ha
          · exact ha
          · exact absurd ha h0
          · have := Int.mul_neg_of_pos_of_neg ha hb; omega
        have hx : x < 0 := by
          rcases Int.lt_or_le x 0 with hx | hx
          · exact hx
          · have := Int.tmod_nonneg y hx; omega
        rw [if_neg (by simp [hd]; omega), if_neg (by simp [hd]; omega), Int.sign_eq_neg_one_of_neg hb]; omega
      · exact absurd hb hy
      · have : 0 < x.tmod y := by
          rcases Int.lt_trichotomy (x.tmod y) 0 with ha | ha | ha
          · have := Int.mul_neg_of_neg_of_pos ha hb; omega
          · exact absurd ha h0
          · exact ha
        have hx : 0 ≤ x := by
          rcases Int.lt_or_le x 0 with hx | hx
          · have := Int.tmod_nonneg y (show 0 ≤ -x by omega); rw [Int.neg_tmod] at this; omega
          · exact hx
        rw [if_pos (.inl hx), if_pos (.inl (by omega))]; omega
  refine ⟨hq, ?_⟩
  rw [← hq] at h2
  omega
theorem zFloor {l l' : List Atom} {x y : Int} {k m : Nat} [h : ZI l x k] [h' : ZI l' y m] (hk : k + m ≤ 1099511627760) : PureOK Tryd.prog 95 [.agg l, .agg l'] (.tup [.agg (zN (zfq x y)), .agg (zN (zfr x y)), .one (.c (.val (.bool (decide (y ≠ 0)))))]) := by
  refine z2 ⟨_, Tryd.func95, rfl, rfl⟩ fun neg n neg2 n2 hz hz2 hn hn2 => ?_
  refine PureOK.fn Tryd.func95 Tryd.results95 Tryd.ntmps95 rfl rfl rfl (by simp [AV.ids, AV0.ids, Atom.ids]) rfl (fun w0 T B E0 hB => ?_)
  have hz2' := hz2
  have hbx : Bd x k := by rw [hz]; infer_instance
  have hby : Bd y m := by rw [hz2]; infer_instance
  by_cases hy : y = 0
  · have hok : decide (y ≠ 0) = false := by simp [hy]
    rw [hz2] at hok
    subst hz hz2
    repeat (first | refine SX.goZ ?_ | (refine SX.Go1.is ?_; refine SX.Go1.isCall ?_; first
          | refine SX.Go1.call rfl (zQuo (by omega)) rfl rfl ?_))
    refine RetOK.eq3 (ResOK.agg2 rfl rfl rfl) (ResOK.agg2 rfl rfl rfl) (ResOK.tmp rfl) ?_ ?_ rfl
    · have : zfq (sgn neg n) (sgn neg2 n2) = (sgn neg n).tdiv (sgn neg2 n2) := by unfold zfq; rw [if_pos hy, hy, Int.tdiv_zero]
      rw [this]
    · have : zfr (sgn neg n) (sgn neg2 n2) = zrem (sgn neg n) (sgn neg2 n2) := by unfold zfr zrem; rw [if_pos hy, if_pos hy]
      rw [this]
  · have hok : decide (y ≠ 0) = true := by simp [hy]
    rw [hz2] at hok
    subst hz hz2
    have hr : zrem (sgn neg n) (sgn neg2 n2) = (sgn neg n).tmod (sgn neg2 n2) := by unfold zrem; rw [if_neg hy]
    repeat (first | refine SX.goZ ?_ | (refine SX.Go1.is ?_; refine SX.Go1.isCall ?_; first
          | refine SX.Go1.call rfl (zQuo (by omega)) rfl rfl ?_
          | refine SX.Go1.call rfl (zSign (by omega)) rfl rfl ?_))
    rw [isign_mul, hr]
    have bq : Bd ((sgn neg n).tdiv (sgn neg2 n2)) k := inferInstance
    have br : Bd ((sgn neg n).tmod (sgn neg2 n2)) k := by rw [← hr]; infer_instance
    refine WP.cond rfl (fun hc => ?_) (fun hc => ?_)
    · obtain ⟨e1, e2⟩ := floor_step hy (by simpa using hc)
      repeat (first | refine SX.goZ ?_ | (refine SX.Go1.is ?_; refine SX.Go1.isCall ?_; first
            | refine SX.Go1.call rfl (zOne) rfl rfl ?_
            | refine SX.Go1.call rfl (zSub (by omega)) rfl rfl ?_
            | refine SX.Go1.call rfl (zAdd (by omega)) rfl rfl ?_))
      refine RetOK.eq3 (ResOK.agg2 rfl rfl rfl) (ResOK.agg2 rfl rfl rfl) (ResOK.tmp rfl) ?_ ?_ rfl
      · unfold zfq; rw [if_neg hy, e1]
      · unfold zfr; rw [if_neg hy, e2]
    · obtain ⟨e1, e2⟩ := floor_keep hy (by simpa using hc)
      repeat (first | refine SX.goZ ?_)
      refine RetOK.eq3 (ResOK.agg2 rfl rfl rfl) (ResOK.agg2 rfl rfl rfl) (ResOK.tmp rfl) ?_ ?_ rfl
      · unfold zfq; rw [if_neg hy, e1]
      · unfold zfr; rw [if_neg hy, e2]
instance Bd.zfq (x y : Int) (k : Nat) [h : Bd x k] : Bd (zfq x y) (k + 1 + 1) := ⟨by
  unfold Proofs.YtkdonndeogihfaaDoor.zfq
  split
  · exact Nat.lt_of_lt_of_le (by decide) (WB_one_le _)
  · by_cases h0 : x.tmod y * y < 0
    · rw [← (floor_step (by assumption) h0).1]; exact (Bd.sub (x.tdiv y) 1 k 1).h
    · rw [← (floor_keep (by assumption) h0).1]; exact Bd.mono (Bd.tdiv x y k).h (by omega)⟩
instance Bd.zfr (x y : Int) (k m : Nat) [h : Bd x k] [h' : Bd y m] : Bd (zfr x y) (k + m + 1) := ⟨by
  unfold Proofs.YtkdonndeogihfaaDoor.zfr
  split
  · exact Nat.lt_of_lt_of_le (by decide) (WB_one_le _)
  · have hb : Bd (x.tmod y) k := ⟨by rw [Int.natAbs_tmod]; exact Nat.lt_of_le_of_lt (Nat.mod_le _ _) h.h⟩
    by_cases h0 : x.tmod y * y < 0
    · rw [← (floor_step (by assumption) h0).2]; exact (Bd.add (x.tmod y) y k m).h
    · rw [← (floor_keep (by assumption) h0).2]; exact Bd.mono hb.h (by omega)⟩
attribute [local irreducible] zfq zfr
/-- What Euclid answers. -/
def zeq (x y : Int) : Int := if y = 0 then 0 else x / y
def zer (x y : Int) : Int := if y = 0 then 0 else x % y
theorem euclid_keep {x y : Int} (hy : y ≠ 0) (h : 0 ≤ x.tmod y) : x.tdiv y = x / y ∧ x.tmod y = x % y := by
  have h1 := Int.tmod_add_mul_tdiv x y
  have h2 := Int.emod_add_mul_ediv x y
  have hq : x.tdiv y = x / y := by
    rw [Int.tdiv_eq_ediv]
    by_cases hd : y ∣ x
    · rw [if_pos (.inr hd)]; omega
    · have h0 : x.tmod y ≠ 0 := fun e => hd (Int.dvd_of_tmod_eq_zero e)
      have hx : 0 ≤ x := by
        rcases Int.lt_or_le x 0 with hx | hx
        · have := Int.tmod_nonneg y (show 0 ≤ -x by omega); rw [Int.neg_tmod] at this; omega
        · exact hx
      rw [if_pos (.inl hx)]; omega
  refine ⟨hq, ?_⟩
  rw [← hq] at h2
  omega
theorem euclid_step {x y : Int} (hy : y ≠ 0) (h : x.tmod y < 0) : (0 < y → x.tdiv y - 1 = x / y ∧ x.tmod y + y = x % y) ∧ (y < 0 → x.tdiv y + 1 = x / y ∧ x.tmod y - y = x % y) := by
  have h1 := Int.tmod_add_mul_tdiv x y
  have h2 := Int.emod_add_mul_ediv x y
  have hd : ¬ y ∣ x := fun hd => by rw [Int.tmod_eq_zero_of_dvd hd] at h; omega
  have hx : x < 0 := by
    rcases Int.lt_or_le x 0 with hx | hx
    · exact hx
    · have := Int.tmod_nonneg y hx; omega
  have hq : x.tdiv y = x / y + y.sign := by rw [Int.tdiv_eq_ediv, if_neg (by simp [hd]; omega)]
  constructor
  · intro hp
    rw [Int.sign_eq_one_of_pos hp] at hq
    have e : x.tdiv y - 1 = x / y := by omega
    refine ⟨e, ?_⟩
    rw [← e, Int.mul_sub] at h2
    omega
  · intro hp
    rw [Int.sign_eq_neg_one_of_neg hp] at hq
    have e : x.tdiv y + 1 = x / y := by omega
    refine ⟨e, ?_⟩
    rw [← e, Int.mul_add] at h2
    omega
theorem isign_pos (z : Int) : decide (0 < isign z) = decide (0 < z) := by
  rw [decide_eq_decide]; unfold isign; repeat' split <;> omega
theorem isign_nonneg (z : Int) : decide (0 ≤ isign z) = decide (0 ≤ z) := by
  rw [decide_eq_decide]; unfold isign; repeat' split <;> omega
theorem isign_neg (z : Int) : decide (isign z < 0) = decide (z < 0) := by
  rw [decide_eq_decide]; unfold isign; repeat' split <;> omega
theorem isign_zero (z : Int) : decide (isign z = 0) = decide (z = 0) := by
  rw [decide_eq_decide]; unfold isign; repeat' split <;> omega
end Go.Proofs.YtkdonndeogihfaaDoor

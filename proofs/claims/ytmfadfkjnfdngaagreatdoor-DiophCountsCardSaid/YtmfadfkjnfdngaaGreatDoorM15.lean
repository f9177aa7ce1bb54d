import Derived.Test.YtmfadfkjnfdngaaGreatDoorM14
import Derived.Test.YtmfadfkjnfdngaaGreatDoorM3
import Derived.Test.YtmfadfkjnfdngaaGreatDoorM28
set_option linter.unusedVariables false
set_option linter.unusedSimpArgs false
namespace Go.Proofs.YtmfadfkjnfdngaaGreatDoor
open Go.RowKit QM SX
attribute [local irreducible] IntKind.wrap bitLen cmpI nval Go1 Reg WP thenK inBlk retQ RetOK ResOK CallOK OpOK Sat
def zrem (x y : Int) : Int := if y = 0 then 0 else x.tmod y
theorem sgn_quo (a b : Bool) (n m : Nat) : sgn (!(a == b)) (n / m) = (sgn a n).tdiv (sgn b m) := by
  unfold sgn; cases a <;> cases b <;> simp [Int.neg_tdiv, Int.tdiv_neg]
theorem sgn_eq_zero {b : Bool} {m : Nat} : sgn b m = 0 ↔ m = 0 := by unfold sgn; cases b <;> simp
theorem sgn_rem (a b : Bool) (n m : Nat) : sgn a (if m = 0 then 0 else n % m) = zrem (sgn a n) (sgn b m) := by
  unfold zrem
  by_cases h : m = 0
  · rw [if_pos h, if_pos (sgn_eq_zero.2 h)]; cases a <;> rfl
  · rw [if_neg h, if_neg (fun e => h (sgn_eq_zero.1 e))]
    unfold sgn; cases a <;> cases b <;> simp [Int.neg_tmod, Int.tmod_neg, Int.tmod_eq_emod_of_nonneg (Int.natCast_nonneg n)]
instance Bd.tdiv (x y : Int) (k : Nat) [h : Bd x k] : Bd (x.tdiv y) k := ⟨by rw [Int.natAbs_tdiv]; exact Nat.lt_of_le_of_lt (Nat.div_le_self _ _) h.h⟩
instance Bd.zrem (x y : Int) (k : Nat) [h : Bd x k] : Bd (zrem x y) k := ⟨by
  unfold Proofs.YtmfadfkjnfdngaaGreatDoor.zrem
  split
  · exact Nat.lt_of_lt_of_le (by decide) (WB_one_le k)
  · rw [Int.natAbs_tmod]; exact Nat.lt_of_le_of_lt (Nat.mod_le _ _) h.h⟩
attribute [local irreducible] sgn isign zrem
theorem zQuo {l l' : List Atom} {x y : Int} {k m : Nat} [h : ZI l x k] [h' : ZI l' y m] (hk : k + m ≤ 1099511627770) : PureOK Tryz.prog 44 [.agg l, .agg l'] (.tup [.agg (zN (x.tdiv y)), .agg (zN (zrem x y)), .one (.c (.val (.bool (decide (y ≠ 0)))))]) := by
  refine z2 ⟨_, Tryz.func44, rfl, rfl⟩ fun neg n neg2 n2 hz hz2 hn hn2 => ?_
  subst hz hz2
  rw [← sgn_quo, ← sgn_rem, show decide (sgn neg2 n2 ≠ 0) = decide (n2 ≠ 0) by rw [decide_eq_decide, ne_eq, ne_eq, sgn_eq_zero]]
  refine PureOK.fn Tryz.func44 Tryz.results44 Tryz.ntmps44 rfl rfl rfl (by simp [AV.ids, AV0.ids, Atom.ids]) rfl (fun w0 T B E0 hB => ?_)
  repeat (first | refine SX.goZ ?_ | (refine SX.Go1.is ?_; refine SX.Go1.isCall ?_; first
        | refine SX.Go1.call rfl (dDivMod (by omega)) rfl rfl ?_
        | refine SX.Go1.call rfl (zFrom _ (by omega)) rfl rfl ?_))
  exact RetOK.eq3 (ResOK.agg2 rfl rfl rfl) (ResOK.agg2 rfl rfl rfl) (ResOK.tmp rfl) rfl rfl rfl
theorem zOne : PureOK Tryz.prog 88 [] (.agg (zN 1)) := by
  refine PureOK.fn Tryz.func88 Tryz.results88 Tryz.ntmps88 rfl rfl rfl (by simp) rfl (fun w0 T B E0 hB => ?_)
  repeat (first | refine SX.goZ ?_ | (refine SX.Go1.is ?_; refine SX.Go1.isCall ?_; first
        | refine SX.Go1.call rfl (zOf 1 (by omega) (by omega)) rfl rfl ?_))
  exact RetOK.eq1 (ResOK.agg2 rfl rfl rfl) rfl
def zfq (x y : Int) : Int := if y = 0 then 0 else x.fdiv y
def zfr (x y : Int) : Int := if y = 0 then 0 else x.fmod y
theorem isign_mul (a b : Int) : decide (IntKind.i64.wrap (isign a * isign b) < 0) = decide (a * b < 0) := by
  rw [decide_eq_decide]
  unfold isign
  rcases Int.lt_trichotomy a 0 with ha | ha | ha <;> rcases Int.lt_trichotomy b 0 with hb | hb | hb
  all_goals first
    | (subst ha; simp [IntKind.wrap_i64]; done)
    | (subst hb; simp [IntKind.wrap_i64]; done)
    | skip
  · have := Int.mul_pos_of_neg_of_neg ha hb
    rw [if_neg (by omega), if_pos ha, if_neg (by omega), if_pos hb]; simp [IntKind.wrap_i64]; omega
  · have := Int.mul_neg_of_neg_of_pos ha hb
    rw [if_neg (by omega), if_pos ha, if_neg (by omega), if_neg (by omega)]; simp [IntKind.wrap_i64]; omega
  · have := Int.mul_neg_of_pos_of_neg ha hb
    rw [if_neg (by omega), if_neg (by omega), if_neg (by omega), if_pos hb]; simp [IntKind.wrap_i64]; omega
  · have := Int.mul_pos ha hb
    rw [if_neg (by omega), if_neg (by omega), if_neg (by omega), if_neg (by omega)]; simp [IntKind.wrap_i64]; omega
theorem floor_step {x y : Int} (hy : y ≠ 0) (h : x.tmod y * y < 0) : x.tdiv y - 1 = x.fdiv y ∧ x.tmod y + y = x.fmod y := by
  have h1 := Int.tmod_add_mul_tdiv x y
  have h2 := Int.fmod_add_mul_fdiv x y
  have hq : x.tdiv y - 1 = x.fdiv y := by
    have h0 : ¬ y ∣ x := fun hd => by rw [Int.tmod_eq_zero_of_dvd hd] at h; simp at h
    rw [Int.tdiv_eq_ediv, Int.fdiv_eq_ediv]
    have hs : (x.tmod y < 0 ∧ 0 < y) ∨ (0 < x.tmod y ∧ y < 0) := by
      rcases Int.lt_trichotomy (x.tmod y) 0 with ha | ha | ha
      · refine .inl ⟨ha, ?_⟩
        rcases Int.lt_trichotomy y 0 with hb | hb | hb
        · have := Int.mul_pos_of_neg_of_neg ha hb; omega
        · exact absurd hb hy
        · exact hb
      · rw [ha] at h; simp at h
      · refine .inr ⟨ha, ?_⟩
        rcases Int.lt_trichotomy y 0 with hb | hb | hb
        · exact hb
        · exact absurd hb hy
        · have := Int.mul_pos ha hb; omega
    rcases hs with ⟨a, b⟩ | ⟨a, b⟩
    · have hx : x < 0 := by
        rcases Int.lt_or_le x 0 with hx | hx
        · exact hx
        · have := Int.tmod_nonneg y hx; omega
      rw [if_neg (by simp [h0]; omega), if_pos (by left; omega)]
      rw [Int.sign_eq_one_of_pos b]; omega
    · have hx : 0 < x := by
        rcases Int.lt_or_le 0 x with hx | hx
        · exact hx
        · have := Int.tmod_nonneg y (show 0 ≤ -x by omega); rw [Int.neg_tmod] at this; omega
      rw [if_pos (by left; omega), if_neg (by simp [h0]; omega)]; omega
  refine ⟨hq, ?_⟩
  rw [← hq, Int.mul_sub] at h2
  omega
theorem floor_keep {x y : Int} (hy : y ≠ 0) (h : ¬ x.tmod y * y < 0) : x.tdiv y = x.fdiv y ∧ x.tmod y = x.fmod y := by
  have h1 := Int.tmod_add_mul_tdiv x y
  have h2 := Int.fmod_add_mul_fdiv x y
  have hq : x.tdiv y = x.fdiv y := by
    rw [Int.tdiv_eq_ediv, Int.fdiv_eq_ediv]
    by_cases hd : y ∣ x
    · rw [if_pos (.inr hd), if_pos (.inr hd)]; omega
    · have h0 : x.tmod y ≠ 0 := fun e => hd (Int.dvd_of_tmod_eq_zero e)
      rcases Int.lt_trichotomy y 0 with hb | hb | hb
      · have : x.tmod y < 0 := by
          rcases Int.lt_trichotomy (x.tmod y) 0 with ha | ha | ha
          · exact ha
          · exact absurd ha h0
          · have := Int.mul_neg_of_pos_of_neg ha hb; omega
        have hx : x < 0 := by
          rcases Int.lt_or_le x 0 with hx | hx
          · exact hx
          · have := Int.tmod_nonneg y hx; omega
        rw [if_neg (by simp [hd]; omega), if_neg (by simp [hd]; omega), Int.sign_eq_neg_one_of_neg hb]; omega
      · exact absurd hb hy
      · have : 0 < x.tmod y := by
          rcases Int.lt_trichotomy (x.tmod y) 0 with ha | ha | ha
          · have := Int.mul_neg_of_neg_of_pos ha hb; omega
          · exact absurd ha h0
          · exact ha
        have hx : 0 ≤ x := by
          rcases Int.lt_or_le x 0 with hx | hx
          · have := Int.tmod_nonneg y (show 0 ≤ -x by omega); rw [Int.neg_tmod] at this; omega
          · exact hx
        rw [if_pos (.inl hx), if_pos (.inl (by omega))]; omega
  refine ⟨hq, ?_⟩
  rw [← hq] at h2
  omega
theorem zFloor {l l' : List Atom} {x y : Int} {k m : Nat} [h : ZI l x k] [h' : ZI l' y m] (hk : k + m ≤ 1099511627760) : PureOK Tryz.prog 58 [.agg l, .agg l'] (.tup [.agg (zN (zfq x y)), .agg (zN (zfr x y)), .one (.c (.val (.bool (decide (y ≠ 0)))))]) := by
  refine z2 ⟨_, Tryz.func58, rfl, rfl⟩ fun neg n neg2 n2 hz hz2 hn hn2 => ?_
  refine PureOK.fn Tryz.func58 Tryz.results58 Tryz.ntmps58 rfl rfl rfl (by simp [AV.ids, AV0.ids, Atom.ids]) rfl (fun w0 T B E0 hB => ?_)
  have hz2' := hz2
  have hbx : Bd x k := by rw [hz]; infer_instance
  have hby : Bd y m := by rw [hz2]; infer_instance
  by_cases hy : y = 0
  · have hok : decide (y ≠ 0) = false := by simp [hy]
    rw [hz2] at hok
    subst hz hz2
    repeat (first | refine SX.goZ ?_ | (refine SX.Go1.is ?_; refine SX.Go1.isCall ?_; first
          | refine SX.Go1.call rfl (zQuo (by omega)) rfl rfl ?_))
    refine RetOK.eq3 (ResOK.agg2 rfl rfl rfl) (ResOK.agg2 rfl rfl rfl) (ResOK.tmp rfl) ?_ ?_ rfl
    · have : zfq (sgn neg n) (sgn neg2 n2) = (sgn neg n).tdiv (sgn neg2 n2) := by unfold zfq; rw [if_pos hy, hy, Int.tdiv_zero]
      rw [this]
    · have : zfr (sgn neg n) (sgn neg2 n2) = zrem (sgn neg n) (sgn neg2 n2) := by unfold zfr zrem; rw [if_pos hy, if_pos hy]
      rw [this]
  · have hok : decide (y ≠ 0) = true := by simp [hy]
    rw [hz2] at hok
    subst hz hz2
    have hr : zrem (sgn neg n) (sgn neg2 n2) = (sgn neg n).tmod (sgn neg2 n2) := by unfold zrem; rw [if_neg hy]
    repeat (first | refine SX.goZ ?_ | (refine SX.Go1.is ?_; refine SX.Go1.isCall ?_; first
          | refine SX.Go1.call rfl (zQuo (by omega)) rfl rfl ?_
          | refine SX.Go1.call rfl (zSign (by omega)) rfl rfl ?_))
    rw [isign_mul, hr]
    have bq : Bd ((sgn neg n).tdiv (sgn neg2 n2)) k := inferInstance
    have br : Bd ((sgn neg n).tmod (sgn neg2 n2)) k := by rw [← hr]; infer_instance
    refine WP.cond rfl (fun hc => ?_) (fun hc => ?_)
    · obtain ⟨e1, e2⟩ := floor_step hy (by simpa using hc)
      repeat (first | refine SX.goZ ?_ | (refine SX.Go1.is ?_; refine SX.Go1.isCall ?_; first
            | refine SX.Go1.call rfl (zOne) rfl rfl ?_
            | refine SX.Go1.call rfl (zSub (by omega)) rfl rfl ?_
            | refine SX.Go1.call rfl (zAdd (by omega)) rfl rfl ?_))
      refine RetOK.eq3 (ResOK.agg2 rfl rfl rfl) (ResOK.agg2 rfl rfl rfl) (ResOK.tmp rfl) ?_ ?_ rfl
      · unfold zfq; rw [if_neg hy, e1]
      · unfold zfr; rw [if_neg hy, e2]
    · obtain ⟨e1, e2⟩ := floor_keep hy (by simpa using hc)
      repeat (first | refine SX.goZ ?_)
      refine RetOK.eq3 (ResOK.agg2 rfl rfl rfl) (ResOK.agg2 rfl rfl rfl) (ResOK.tmp rfl) ?_ ?_ rfl
      · unfold zfq; rw [if_neg hy, e1]
      · unfold zfr; rw [if_neg hy, e2]
instance Bd.zfq (x y : Int) (k : Nat) [h : Bd x k] : Bd (zfq x y) (k + 1 + 1) := ⟨by
  unfold Proofs.YtmfadfkjnfdngaaGreatDoor.zfq
  split
  · exact Nat.lt_of_lt_of_le (by decide) (WB_one_le _)
  · by_cases h0 : x.tmod y * y < 0
    · rw [← (floor_step (by assumption) h0).1]; exact (Bd.sub (x.tdiv y) 1 k 1).h
    · rw [← (floor_keep (by assumption) h0).1]; exact Bd.mono (Bd.tdiv x y k).h (by omega)⟩
instance Bd.zfr (x y : Int) (k m : Nat) [h : Bd x k] [h' : Bd y m] : Bd (zfr x y) (k + m + 1) := ⟨by
  unfold Proofs.YtmfadfkjnfdngaaGreatDoor.zfr
  split
  · exact Nat.lt_of_lt_of_le (by decide) (WB_one_le _)
  · have hb : Bd (x.tmod y) k := ⟨by rw [Int.natAbs_tmod]; exact Nat.lt_of_le_of_lt (Nat.mod_le _ _) h.h⟩
    by_cases h0 : x.tmod y * y < 0
    · rw [← (floor_step (by assumption) h0).2]; exact (Bd.add (x.tmod y) y k m).h
    · rw [← (floor_keep (by assumption) h0).2]; exact Bd.mono hb.h (by omega)⟩
attribute [local irreducible] zfq zfr
def zeq (x y : Int) : Int := if y = 0 then 0 else x / y
def zer (x y : Int) : Int := if y = 0 then 0 else x % y
theorem isign_zero (z : Int) : decide (isign z = 0) = decide (z = 0) := by
  rw [decide_eq_decide]; unfold isign; repeat' split <;> omega
end Go.Proofs.YtmfadfkjnfdngaaGreatDoor
set_option linter.unusedVariables false
set_option linter.unusedSimpArgs false
namespace Go.Proofs.YtmfadfkjnfdngaaGreatDoor
open Go.RowKit QM SX
attribute [local irreducible] IntKind.wrap bitLen cmpI nval Go1 Reg WP thenK inBlk retQ RetOK ResOK CallOK OpOK Sat
attribute [local irreducible] sgn isign zrem zfq zfr
def zround (x y : Int) : Int := if y < 0 then zfq (-x + -x + -y) (-y + -y) else zfq (x + x + y) (y + y)
theorem zN0 : AV0.imp (.agg [.c (.val (.bool false)), .c (.val (.slice none 0 0))]) (.agg (zN 0)) := by
  rintro E S w v ⟨vs, hv, hall⟩
  match vs, hall with
  | [a, b], ⟨h1, h2, _⟩ =>
    refine ⟨[a, b], hv, h1, ?_, trivial⟩
    rw [show b = _ from h2]
    exact nrmN.zero
def zexok (x y : Int) : Bool := decide (y ≠ 0) && decide (zrem x y = 0)
def zexq (x y : Int) : Int := if zexok x y then x.tdiv y else 0
instance Bd.zexq (x y : Int) (k : Nat) [h : Bd x k] : Bd (zexq x y) k := ⟨by
  unfold Proofs.YtmfadfkjnfdngaaGreatDoor.zexq
  split
  · exact (Bd.tdiv x y k).h
  · exact Nat.lt_of_lt_of_le (by decide) (WB_one_le _)⟩
theorem zExact {l l' : List Atom} {x y : Int} {k m : Nat} [h : ZI l x k] [h' : ZI l' y m] (hk : k + m ≤ 1099511627760) : PureOK Tryz.prog 52 [.agg l, .agg l'] (.tup [.agg (zN (zexq x y)), .one (.c (.val (.bool (zexok x y))))]) := by
  refine z2 ⟨_, Tryz.func52, rfl, rfl⟩ fun neg n neg2 n2 hz hz2 hn hn2 => ?_
  refine PureOK.fn Tryz.func52 Tryz.results52 Tryz.ntmps52 rfl rfl rfl (by simp [AV.ids, AV0.ids, Atom.ids]) rfl (fun w0 T B E0 hB => ?_)
  by_cases hy : y = 0
  · have hok : decide (y ≠ 0) = false := by simp [hy]
    have hok2 : (!decide (y ≠ 0)) = true := by simp [hy]
    have he : zexok x y = false := by unfold zexok; rw [hok]; rfl
    have hq : zexq x y = 0 := by unfold zexq; rw [he]; rfl
    rw [he, hq]
    rw [hz2] at hok hok2
    subst hz hz2
    repeat (first | refine SX.goZ ?_ | (refine SX.Go1.is ?_; refine SX.Go1.isCall ?_; first
          | refine SX.Go1.call rfl (zQuo (by omega)) rfl rfl ?_))
    exact RetOK.mk2 (ResOK.imp (ResOK.agg2 rfl rfl rfl) zN0) (ResOK.tmp rfl)
  · have hok : decide (y ≠ 0) = true := by simp [hy]
    have hok2 : (!decide (y ≠ 0)) = false := by simp [hy]
    rw [hz2] at hok hok2
    subst hz hz2
    repeat (first | refine SX.goZ ?_ | (refine SX.Go1.is ?_; refine SX.Go1.isCall ?_; first
          | refine SX.Go1.call rfl (zQuo (by omega)) rfl rfl ?_
          | refine SX.Go1.call rfl (zSign (by omega)) rfl rfl ?_))
    have hne : decide (isign (zrem (sgn neg n) (sgn neg2 n2)) ≠ 0) = decide (zrem (sgn neg n) (sgn neg2 n2) ≠ 0) := by
      have := isign_zero (zrem (sgn neg n) (sgn neg2 n2))
      rw [decide_eq_decide] at *
      omega
    rw [hne]
    refine WP.cond rfl (fun hc => ?_) (fun hc => ?_)
    · have hz0 : zrem (sgn neg n) (sgn neg2 n2) ≠ 0 := by simpa using hc
      have he : zexok (sgn neg n) (sgn neg2 n2) = false := by unfold zexok; simp [hz0]
      have hq : zexq (sgn neg n) (sgn neg2 n2) = 0 := by unfold zexq; rw [he]; rfl
      rw [he, hq]
      repeat (first | refine SX.goZ ?_)
      exact RetOK.mk2 (ResOK.imp (ResOK.agg2 rfl rfl rfl) zN0) (ResOK.tmp rfl)
    · have hz0 : zrem (sgn neg n) (sgn neg2 n2) = 0 := by simpa using hc
      have he : zexok (sgn neg n) (sgn neg2 n2) = true := by unfold zexok; rw [hok]; simp [hz0]
      have hq : zexq (sgn neg n) (sgn neg2 n2) = (sgn neg n).tdiv (sgn neg2 n2) := by unfold zexq; rw [he]; rfl
      rw [he, hq]
      repeat (first | refine SX.goZ ?_)
      exact RetOK.mk2 (ResOK.agg2 rfl rfl rfl) (ResOK.tmp rfl)
theorem sgn_false (n : Nat) : sgn false n = (n : Int) := by unfold sgn; simp
theorem zGcd {l l' : List Atom} {x y : Int} {k m : Nat} [h : ZI l x k] [h' : ZI l' y m] (hk : k + m ≤ 1099511627760) : PureOK Tryz.prog 17 [.agg l, .agg l'] (.agg (zN (Int.gcd x y : Int))) := by
  refine z2 ⟨_, Tryz.func17, rfl, rfl⟩ fun neg n neg2 n2 hz hz2 hn hn2 => ?_
  subst hz hz2
  rw [show (Int.gcd (sgn neg n) (sgn neg2 n2) : Int) = sgn false (Nat.gcd n n2) by rw [sgn_false]; unfold Int.gcd; rw [sgn_natAbs, sgn_natAbs]]
  refine PureOK.fn Tryz.func17 Tryz.results17 Tryz.ntmps17 rfl rfl rfl (by simp [AV.ids, AV0.ids, Atom.ids]) rfl (fun w0 T B E0 hB => ?_)
  repeat (first | refine SX.goZ ?_ | (refine SX.Go1.is ?_; refine SX.Go1.isCall ?_; first
        | refine SX.Go1.call rfl (dGcd (by omega)) rfl rfl ?_
        | refine SX.Go1.call rfl (zFrom _ (by omega)) rfl rfl ?_))
  exact RetOK.eq1 (ResOK.agg2 rfl rfl rfl) rfl
instance BdN.igcd (x y : Int) (k m : Nat) [hx : Bd x k] [hy : Bd y m] : BdN (Int.gcd x y) (k + m) := ⟨(BdN.gcd x.natAbs y.natAbs k m).h⟩
end Go.Proofs.YtmfadfkjnfdngaaGreatDoor
set_option linter.unusedVariables false
set_option linter.unusedSimpArgs false
namespace Go.Proofs.YtmfadfkjnfdngaaGreatDoor
open Go.RowKit QM SX
attribute [local irreducible] IntKind.wrap bitLen cmpI nval Go1 Reg WP thenK inBlk retQ RetOK ResOK CallOK OpOK Sat
theorem mSquare {a : CA} {x k : Nat} [ha : NI a x k] (hk : k + k ≤ 274877906944) : PureOK Tryz.prog 119 [.it (.one (.c a))] (.r (nrmN (x * x))) := by
  refine PureOK.fn Tryz.func119 Tryz.results119 Tryz.ntmps119 rfl rfl rfl (by simp [AV.ids, AV0.ids, Atom.ids]) rfl (fun w0 T B E0 hB => ?_)
  repeat (first | refine SX.goZ ?_ | (refine SX.Go1.is ?_; refine SX.Go1.isCall ?_; first
        | refine SX.Go1.call rfl (mMul (by omega)) rfl rfl ?_))
  exact RetOK.eq1 (ResOK.tmp rfl) rfl
def powok (x : Nat) (n : Int) : Bool := decide (0 ≤ n) && (decide (bitLen x = 0) || decide (n ≤ ((1048576 / bitLen x : Nat) : Int)))
def powv (x : Nat) (n : Int) : Nat := if powok x n = true then x ^ n.toNat else 0
theorem pow_lt {x e N b K W : Nat} (hW : 1 < W) (hx : x < 2 ^ b) (he : e ≤ N) (hN : N * b ≤ 64 * K) (hK : 0 < K) (hw : W = 2 ^ 64) : x ^ e < W ^ K := by
  subst hw
  rw [← Nat.pow_mul]
  cases e with
  | zero => rw [Nat.pow_zero]; exact Nat.one_lt_two_pow (by omega)
  | succ e =>
    refine Nat.lt_of_lt_of_le (Nat.pow_lt_pow_left hx (by omega)) ?_
    rw [← Nat.pow_mul]
    exact Nat.pow_le_pow_right (by omega) (Nat.le_trans (by rw [Nat.mul_comm]; exact Nat.mul_le_mul_right b he) hN)
@[irreducible] def pwK : Nat := 16384
theorem pwK_eq : pwK = 16384 := by unfold pwK; rfl
theorem pow_bd {x e N : Nat} (he : e ≤ N) (hN : N * bitLen x ≤ 1048576) : BdN (x ^ e) pwK := ⟨pow_lt (K := pwK) WB_one (bitLen_spec x).1 he (by rw [pwK_eq]; omega) (by rw [pwK_eq]; omega) WB_pow⟩
attribute [local irreducible] powok powv
theorem powv_bd (x : Nat) (n : Int) : powv x n < WB ^ pwK := by
  unfold powv
  split
  · rename_i h
    unfold powok at h
    simp only [Bool.and_eq_true, Bool.or_eq_true, decide_eq_true_eq] at h
    refine (pow_bd (N := n.toNat) (Nat.le_refl _) ?_).h
    rcases h.2 with hb | hb
    · rw [hb]; omega
    · have h5 : n.toNat ≤ 1048576 / bitLen x := by omega
      exact Nat.le_trans (Nat.mul_le_mul_right _ h5) (Nat.div_mul_le_self ..)
  · exact Nat.lt_of_lt_of_le (by decide) (WB_one_le pwK)
instance BdN.powv (x : Nat) (n : Int) : BdN (powv x n) pwK := ⟨powv_bd x n⟩
def zpowv (z : Int) (n : Int) : Int := if powok z.natAbs n = true then z ^ n.toNat else 0
theorem sgn_pow (neg : Bool) (x : Nat) (n : Int) : sgn (neg && decide (n.tmod 2 ≠ 0)) (powv x n) = zpowv (sgn neg x) n := by
  unfold powv zpowv
  rw [sgn_natAbs]
  split
  · rename_i h
    have h0 : 0 ≤ n := by unfold powok at h; simp at h; exact h.1
    have ht : n.tmod 2 = ((n.toNat % 2 : Nat) : Int) := by rw [Int.tmod_eq_emod_of_nonneg h0]; omega
    unfold sgn
    cases neg
    · simp
    · rcases Nat.mod_two_eq_zero_or_one n.toNat with e | e
      · rw [ht, e]; simp; rw [show (-(x : Int)) ^ n.toNat = (x : Int) ^ n.toNat from ?_]
        obtain ⟨m, hm⟩ : ∃ m, n.toNat = 2 * m := ⟨n.toNat / 2, by omega⟩
        rw [hm, Int.pow_mul, Int.pow_mul]; congr 1; simp [Int.pow_succ, Int.neg_mul_neg]
      · rw [ht, e]; simp
        obtain ⟨m, hm⟩ : ∃ m, n.toNat = 2 * m + 1 := ⟨n.toNat / 2, by omega⟩
        rw [hm, Int.pow_succ, Int.pow_succ, Int.pow_mul, Int.pow_mul, show (-(x : Int)) ^ 2 = (x : Int) ^ 2 by simp [Int.pow_succ, Int.neg_mul_neg], Int.mul_neg]
  · unfold sgn; simp
instance Bd.zpowv (z : Int) (n : Int) : Bd (zpowv z n) pwK := ⟨by
  have h := sgn_pow (decide (z < 0)) z.natAbs n
  rw [sgn_abs] at h
  rw [← h, sgn_natAbs]
  exact powv_bd _ _⟩
attribute [local irreducible] sgn zpowv
end Go.Proofs.YtmfadfkjnfdngaaGreatDoor
set_option linter.unusedVariables false
set_option linter.unusedSimpArgs false
namespace Go.Proofs.YtmfadfkjnfdngaaGreatDoor
open Go.RowKit QM SX
def decW : Nat → Nat → List UInt8
  | 0, _ => []
  | n + 1, x => decW n (x / 10) ++ [UInt8.ofNat (48 + x % 10)]
theorem decW_len : ∀ n x, (decW n x).length = n
  | 0, _ => rfl
  | n + 1, x => by rw [decW, List.length_append, decW_len n]; rfl
theorem decW_add : ∀ (m n x : Nat), decW (n + m) x = decW n (x / 10 ^ m) ++ decW m (x % 10 ^ m)
  | 0, n, x => by simp [decW]
  | m + 1, n, x => by
    have e1 : x / 10 ^ (m + 1) = x / 10 / 10 ^ m := by rw [Nat.div_div_eq_div_mul, Nat.pow_succ, Nat.mul_comm]
    have e2 : x % 10 ^ (m + 1) / 10 = x / 10 % 10 ^ m := by rw [Nat.pow_succ, Nat.mul_comm, Nat.mod_mul_right_div_self]
    have e3 : x % 10 ^ (m + 1) % 10 = x % 10 := by rw [Nat.pow_succ, Nat.mul_comm, Nat.mod_mul_right_mod]
    rw [← Nat.add_assoc, decW, decW_add m n, decW, e1, e2, e3, List.append_assoc]
def dig (x : Nat) : List UInt8 := if h : x = 0 then [] else dig (x / 10) ++ [UInt8.ofNat (48 + x % 10)]
decreasing_by omega
theorem dig_zero : dig 0 = [] := by rw [dig]; rfl
theorem dig_succ {x : Nat} (h : x ≠ 0) : dig x = dig (x / 10) ++ [UInt8.ofNat (48 + x % 10)] := by rw [dig, dif_neg h]
theorem decW_zero : ∀ n, (decW n 0).all (· == 48) = true
  | 0 => rfl
  | n + 1 => by rw [decW, List.all_append, show 0 / 10 = 0 from rfl, decW_zero n]; decide
theorem dropWhile_all {p : UInt8 → Bool} : ∀ {l : List UInt8}, l.all p = true → ∀ m, (l ++ m).dropWhile p = m.dropWhile p
  | [], _, m => rfl
  | a :: l, h, m => by
    rw [List.all_cons, Bool.and_eq_true] at h
    rw [List.cons_append, List.dropWhile_cons, if_pos h.1]; exact dropWhile_all h.2 m
theorem dropWhile_ne {p : UInt8 → Bool} : ∀ {l : List UInt8} (m : List UInt8), l.dropWhile p ≠ [] → (l ++ m).dropWhile p = l.dropWhile p ++ m
  | [], m, h => absurd rfl h
  | a :: l, m, h => by
    rw [List.cons_append, List.dropWhile_cons, List.dropWhile_cons] at *
    cases hp : p a
    · simp
    · simp only [hp, if_true] at h ⊢; exact dropWhile_ne m h
theorem dig_ne {x : Nat} (h : x ≠ 0) : dig x ≠ [] := by rw [dig_succ h]; simp
theorem byte_ne {d : Nat} (h0 : d ≠ 0) (h1 : d < 10) : (UInt8.ofNat (48 + d) == 48) = false := by
  rw [beq_eq_false_iff_ne]; intro e
  have := congrArg UInt8.toNat e
  rw [UInt8.toNat_ofNat'] at this
  have h48 : (48 : UInt8).toNat = 48 := rfl
  omega
theorem decW_drop : ∀ (n x : Nat), x < 10 ^ n → (decW n x).dropWhile (· == 48) = dig x
  | 0, x, h => by
    have : x = 0 := by simpa using h
    subst this; rw [dig_zero]; rfl
  | n + 1, x, h => by
    have hx : x / 10 < 10 ^ n := by rw [Nat.pow_succ] at h; omega
    have ih := decW_drop n (x / 10) hx
    rw [decW]
    by_cases h0 : x / 10 = 0
    · rw [h0, dropWhile_all (decW_zero n)]
      by_cases hx0 : x = 0
      · subst hx0; rw [dig_zero]; decide
      · rw [dig_succ hx0, h0, dig_zero, List.dropWhile_cons, byte_ne (by omega) (by omega)]; rfl
    · rw [dropWhile_ne _ (by rw [ih]; exact dig_ne h0), ih, ← dig_succ (by omega)]
def nD : Nat → Nat
  | 0 => 18
  | j + 1 => nD j + nD j
def pw (j : Nat) : Nat := 10 ^ nD j
theorem pw_zero : pw 0 = 1000000000000000000 := rfl
theorem pw_succ (j : Nat) : pw (j + 1) = pw j * pw j := by unfold pw; rw [nD, Nat.pow_add]
theorem pw_pos (j : Nat) : 0 < pw j := Nat.pow_pos (by decide)
theorem nD_ge : ∀ j, j + 18 ≤ nD j
  | 0 => Nat.le_refl _
  | j + 1 => by have := nD_ge j; rw [nD]; omega
instance BdN.pw (j : Nat) : BdN (pw j) (nD j) := ⟨by
  show 10 ^ nD j < WB ^ nD j
  exact Nat.pow_lt_pow_left (by rw [WB_eq]; decide) (by have := nD_ge j; omega)⟩
theorem nD_bits (j : Nat) : nD j ≤ bitLen (pw j) := by
  have h := (bitLen_spec (pw j)).1
  have h2 : 2 ^ nD j ≤ pw j := Nat.pow_le_pow_left (by decide) _
  exact Nat.le_of_lt ((Nat.pow_lt_pow_iff_right (by decide)).1 (Nat.lt_of_le_of_lt h2 h))
theorem bits_le {x k : Nat} (h : x < WB ^ k) : bitLen x ≤ 64 * k := by
  have hs := (bitLen_spec x).2
  by_cases h0 : x = 0
  · subst h0; exact Nat.zero_le _
  · have h1 := hs h0
    have e : WB ^ k = 2 ^ (64 * k) := by rw [Nat.pow_mul]; rfl
    rw [e] at h
    have := (Nat.pow_lt_pow_iff_right (a := 2) (by decide)).1 (Nat.lt_of_le_of_lt h1 h)
    omega
def pwM (x : Nat) : Nat → Nat → Nat
  | 0, j => j
  | f + 1, j => if 2 * bitLen (pw j) ≤ bitLen x + 1 then pwM x f (j + 1) else j
def pwm (x : Nat) : Nat := pwM x (bitLen x + 2) 0
theorem pw_enough {x j : Nat} (h : ¬ 2 * bitLen (pw j) ≤ bitLen x + 1) : x < pw (j + 1) := by
  have h1 := (bitLen_spec x).1
  have h2 := (bitLen_spec (pw j)).2 (Nat.ne_of_gt (pw_pos j))
  have h3 := nD_bits j
  have h4 := nD_ge j
  rw [pw_succ]
  refine Nat.lt_of_lt_of_le h1 (Nat.le_trans ?_ (Nat.mul_le_mul h2 h2))
  rw [← Nat.pow_add]
  exact Nat.pow_le_pow_right (by decide) (by omega)
def decS (x : Nat) : List UInt8 := if x = 0 then [48] else dig x
theorem dig_len {x n : Nat} (h : x < 10 ^ n) : (dig x).length ≤ n := by
  rw [← decW_drop n x h]
  exact Nat.le_trans (List.dropWhile_sublist _).length_le (Nat.le_of_eq (decW_len n x))
end Go.Proofs.YtmfadfkjnfdngaaGreatDoor
set_option linter.unusedVariables false
set_option linter.unusedSimpArgs false
namespace Go.Proofs.YtmfadfkjnfdngaaGreatDoor
open Go.RowKit QM SX
attribute [local irreducible] IntKind.wrap Go1 Reg WP thenK inBlk retQ retF RetF RetOK ResOK CallOK OpOK Sat
attribute [local irreducible] decW pw nD pwM pwm decS
section
variable {a b : CA} {x y k m : Nat}
instance con_nBits [ha : NI a x k] : Con Tryz.prog 21 [.it (.one (.c a))] (k ≤ 1099511627775) (.v (.int .i64 (bitLen x : Int))) := ⟨fun h => nBits h⟩
instance con_mSquare [ha : NI a x k] : Con Tryz.prog 119 [.it (.one (.c a))] (k + k ≤ 274877906944) (.r (nrmN (x * x))) := ⟨fun h => mSquare h⟩
end
theorem decW_z (x : Nat) : decW 0 x = [] := by unfold decW; rfl
theorem decW_s (n x : Nat) : decW (n + 1) x = decW n (x / 10) ++ [UInt8.ofNat (48 + x % 10)] := by rw [decW]
theorem pureS {f : FuncId} {args : List Value} {r : Value} (he : ∃ fn, Tryz.prog.funcs[f]? = some fn ∧ (fn.name == "runtime.NumGoroutine") = false ∧ fn.body.isNone = false) (h : ∀ w, Calls Tryz.prog f args.toArray w fun e w' => e = .returned r ∧ w' = w) : PureOK Tryz.prog f (args.map AV.v) (.v r) :=
  PureOK.of_calls he rfl fun E S w vs hl hv => by
    have hvs : vs = args := by
      clear h
      induction args generalizing vs with
      | nil => cases vs with | nil => rfl | cons _ _ => exact hv.elim
      | cons a l ih => cases vs with | nil => exact hv.elim | cons b m => rw [ih m hv.2, show b = a from hv.1]
    subst hvs
    exact (h w).mono fun e w' ⟨h1, h2⟩ => ⟨r, h1, rfl, by subst h2; exact Off.refl _ _⟩
theorem byte48 (d : Nat) : ((UInt8.ofNat (48 + d % 10)).toNat : Int) = ((48 + d % 10 : Nat) : Int) := by
  rw [UInt8.toNat_ofNat']; omega
theorem con_word (x : Nat) (hx : x < WB) : OwnOK Tryz.prog 118 [.v (.int .u64 (x : Int))] 5 1 18 ((decW 18 x).flatMap bytC) := by
  rw [WB_eq] at hx
  refine OwnOK.fnF Tryz.func118 Tryz.results118 Tryz.ntmps118 rfl rfl rfl (by simp [AV.ids, AV0.ids, Atom.ids]) (fun w0 T B E0 hB => ?_)
  refine SX.go2 ?_
  refine W.loop3 (fun (k y : Nat) (tl : List UInt8) => k + tl.length = 18 ∧ y < 18446744073709551616 ∧ decW k y ++ tl = decW 18 x) (fun k y tl => [(0, .v (.int .u64 (y : Int))), (3, .own 100), (4, .v (.int .i64 ((k : Int) - 1)))])
    (fun k y tl => [(100, .row 5 1 18 ((List.replicate k 0 ++ tl).flatMap bytC))]) (fun k _ _ => k) 18 x [] ⟨rfl, hx, by simp⟩ (fun k y tl ⟨hk, hy, hd⟩ => ?_)
  cases k with
  | zero =>
    have e : (List.replicate 0 0 ++ tl).flatMap bytC = (decW 18 x).flatMap bytC := by rw [← hd, decW_z]; rfl
    refine SX.go2 ?_
    exact retO
  | succ k =>
    rw [show ((k + 1 : Nat) : Int) - 1 = (k : Int) by omega]
    have e : spl ((List.replicate (k + 1) 0 ++ tl).flatMap bytC) (k * 1) [.val (.int .u8 ((48 + y % 10 : Nat) : Int))] = (List.replicate k 0 ++ (UInt8.ofNat (48 + y % 10) :: tl)).flatMap bytC := by
      rw [← byte48, show [CA.val (.int .u8 ((UInt8.ofNat (48 + y % 10)).toNat : Int))] = bytC (UInt8.ofNat (48 + y % 10)) from rfl, flat_set _ _ _ (by simp; omega), List.replicate_succ']
      congr 1
      rw [List.append_assoc, List.set_append_right _ _ (by simp)]
      simp
    refine SX.go2 ?_
    -- ??
    exact W.next3 k (y / 10) (UInt8.ofNat (48 + y % 10) :: tl) ⟨by simp at hk ⊢; omega, by omega, by rw [← hd, decW_s]; simp⟩ (by omega)
def natC (n : Nat) : List CA := [.sat (nrmN n)]
instance : EncLen natC 1 := ⟨fun _ => rfl⟩
def pws (j : Nat) : List Nat := (List.range j).map pw
theorem pws_len (j : Nat) : (pws j).length = j := by simp [pws]
theorem pws_get {i j : Nat} (h : i < j) : (pws j)[i]? = some (pw i) := by simp [pws, h]
theorem pws_take {i j : Nat} (h : i ≤ j) : (pws j).take i = pws i := by
  unfold pws; rw [← List.map_take, List.take_range, Nat.min_eq_left h]
theorem pws_succ (j : Nat) : pws (j + 1) = pws j ++ [pw j] := by simp [pws, List.range_succ]
theorem pw_zero' : pw 0 = 1000000000000000000 := pw_zero
theorem con_powers {a : CA} {x k : Nat} [ha : NI a x k] (hx : x < WB ^ k) (hk : k ≤ 1000000000) : PureOK Tryz.prog 93 [.it (.one (.c a))] (.r (rowR 1 natC (pws (pwm x + 1)))) := by
  have cO : PureOK Tryz.prog 20 [.v (.int .u64 1000000000000000000)] (.r (nrmN (pw 0))) := by rw [pw_zero]; exact nOf 1000000000000000000 (by rw [WB_eq]; decide)
  have hb := bits_le hx
  have mark : OwnLit 5 := ⟨⟩
  have e0 : [CA.sat (nrmN (pw 0))] = (pws (0 + 1)).flatMap natC := rfl
  refine PureOK.fnF Tryz.func93 Tryz.results93 Tryz.ntmps93 rfl rfl rfl (by simp [AV.ids, AV0.ids, Atom.ids]) rfl (fun w0 T B E0 hB => ?_)
  refine SX.go2 ?_
  have hpm : pwM x (bitLen x + 2) 0 = pwm x := by unfold pwm; rfl
  refine W.loop2 (fun (j f : Nat) => (j = 0 ∨ nD j ≤ bitLen x + 1) ∧ pwM x f j = pwm x ∧ f + j = bitLen x + 2) (fun j f => [(0, .it (.one (.c a))), (3, .own 100)]) (fun j f => [(100, .row 28 1 (j + 1) ((pws (j + 1)).flatMap natC))]) (fun j f => f) 0 (bitLen x + 2) ⟨.inl rfl, hpm, rfl⟩ (fun j f ⟨h1, h2, h3⟩ => ?_)
  have hn : nD j ≤ 64000000001 := by
    rcases h1 with rfl | h1
    · have : nD 0 = 18 := by unfold nD; rfl
      omega
    · omega
  have hg : (pws (j + 1))[j + 1 - 1]? = some (pw j) := pws_get (by omega)
  have hbp := nD_bits j
  have hbj := nD_ge j
  have hbu := bits_le (BdN.pw j).h
  by_cases hq : 2 * bitLen (pw j) ≤ bitLen x + 1
  · cases f with
    | zero => exact absurd hq (by omega)
    | succ f =>
      have e1 : (pws (j + 1)).flatMap natC ++ [CA.sat (nrmN (pw j * pw j))] = (pws (j + 1 + 1)).flatMap natC := by
        rw [pws_succ (j + 1), List.flatMap_append, pw_succ]; rfl
      have h2' : pwM x f (j + 1) = pwm x := by rw [← h2]; conv => rhs; unfold pwM; rw [if_pos hq]
      have hs : nD (j + 1) = nD j + nD j := by conv => lhs; unfold nD
      refine SX.go2 ?_
      exact W.next2 (j + 1) f ⟨.inr (by omega), h2', by omega⟩ (by omega)
  · have hjm : j = pwm x := by
      rw [← h2]
      cases f with
      | zero => unfold pwM; rfl
      | succ f => conv => rhs; unfold pwM; rw [if_neg hq]
    refine SX.go2 ?_
    refine RetF.frz 100 ?_
    refine ret1' ?_
    rw [← hjm]
    show AV0.imp _ (.one (.c (.sat (sliceR 1 (pws (j + 1)).length ((pws (j + 1)).flatMap natC)))))
    rw [pws_len]; exact AV0.imp.refl _
theorem con_digits : ∀ (j : Nat) {a : CA} {x k : Nat} [ha : NI a x k] (L : List Nat), L = pws j → x < pw j → nD j ≤ 200000000000 → k ≤ 500000000000 →
    OwnOK Tryz.prog 92 [.it (.one (.c a)), .r (rowR 1 natC L)] 5 1 (nD j) ((decW (nD j) x).flatMap bytC)
  | 0, a, x, k, ha, L, hL, hx, hn, hk => by
    have e18 : nD 0 = 18 := by unfold nD; rfl
    have hxw : x < WB := by rw [pw_zero'] at hx; rw [WB_eq]; omega
    have cW := nWord (a := a) (x := x) (k := k) (by omega)
    rw [if_pos hxw] at cW
    have cw := con_word x hxw
    have hl0 : L.length = 0 := by rw [hL, pws_len]
    rw [e18]
    refine OwnOK.fnF Tryz.func92 Tryz.results92 Tryz.ntmps92 rfl rfl rfl (by simp [AV.ids, AV0.ids, Atom.ids]) (fun w0 T B E0 hB => ?_)
    refine SX.go2 ?_
    exact retO
  | j + 1, a, x, k, ha, L, hL, hx, hn, hk => by
    have hs : nD (j + 1) = nD j + nD j := by conv => lhs; unfold nD
    have hj := nD_ge j
    have hl1 : L.length = j + 1 := by rw [hL, pws_len]
    have hg : L[L.length - 1]? = some (pw j) := by rw [hl1, hL]; exact pws_get (by omega)
    have ht : L.take (L.length - 1) = pws j := by rw [hl1, hL]; exact pws_take (by omega)
    have hp := pw_pos j
    rw [pw_succ] at hx
    have hq : x / pw j < pw j := Nat.div_lt_of_lt_mul hx
    have hr : x % pw j < pw j := Nat.mod_lt _ hp
    have cD := dDivMod (a := a) (x := x) (k := k) (b := .sat (nrmN (pw j))) (y := pw j) (m := nD j) (by omega)
    rw [if_neg (by omega)] at cD
    haveI b1 : BdN (x / pw j) (nD j) := ⟨Nat.lt_trans hq (BdN.pw j).h⟩
    haveI b2 : BdN (x % pw j) (nD j) := ⟨Nat.lt_trans hr (BdN.pw j).h⟩
    have c1 := con_digits j (a := .sat (nrmN (x / pw j))) (k := nD j) (L.take (L.length - 1)) ht hq (by omega) (by omega)
    have c2 := (con_digits j (a := .sat (nrmN (x % pw j))) (k := nD j) (L.take (L.length - 1)) ht hr (by omega) (by omega)).pure
    have e1 : (decW (nD j) (x / pw j)).flatMap bytC ++ (decW (nD j) (x % pw j)).flatMap bytC = (decW (nD j + nD j) x).flatMap bytC := by
      rw [decW_add, List.flatMap_append, show 10 ^ nD j = pw j by unfold pw; rfl]
    rw [hs]
    refine OwnOK.fnF Tryz.func92 Tryz.results92 Tryz.ntmps92 rfl rfl rfl (by simp [AV.ids, AV0.ids, Atom.ids]) (fun w0 T B E0 hB => ?_)
    refine SX.go2 ?_
    exact retO
theorem con_TrimLeft (l : List UInt8) : PureOK Tryz.prog 91 [.v (str l), .v (str [48])] (.v (str (l.dropWhile (· == 48)))) :=
  pureS (args := [str l, str [48]]) ⟨_, Tryz.func91, rfl, rfl⟩ fun w => (Tryz.strings_TrimLeft_one ⟨⟨l⟩⟩ 48 (by decide) w).mono fun e w' ⟨h1, h2⟩ => ⟨h1, h2⟩
theorem pwm_lt (x : Nat) : x < pw (pwm x + 1) := by
  have key : ∀ (f j : Nat), f + j = bitLen x + 2 → ¬ 2 * bitLen (pw (pwM x f j)) ≤ bitLen x + 1 := by
    intro f
    induction f with
    | zero =>
      intro j hj
      have h1 := nD_bits j
      have h2 := nD_ge j
      unfold pwM; omega
    | succ f ih =>
      intro j hj
      unfold pwM
      split
      · exact ih (j + 1) (by omega)
      · assumption
  have := key (bitLen x + 2) 0 rfl
  exact pw_enough (by unfold pwm; exact this)
theorem pwm_nD {x k : Nat} (hx : x < WB ^ k) (hk : k ≤ 1000000000) : nD (pwm x + 1) ≤ 200000000000 := by
  have hb := bits_le hx
  have key : ∀ (f j : Nat), (j = 0 ∨ nD j ≤ bitLen x + 1) → nD (pwM x f j) ≤ 64000000001 := by
    intro f
    induction f with
    | zero =>
      intro j hj
      unfold pwM
      rcases hj with rfl | hj
      · have : nD 0 = 18 := by unfold nD; rfl
        omega
      · omega
    | succ f ih =>
      intro j hj
      unfold pwM
      split
      · rename_i h
        have h1 := nD_bits j
        exact ih (j + 1) (.inr (by conv => lhs; unfold nD
                                   omega))
      · rcases hj with rfl | hj
        · have : nD 0 = 18 := by unfold nD; rfl
          omega
        · omega
  have h1 := key (bitLen x + 2) 0 (.inl rfl)
  have h2 : nD (pwm x + 1) = nD (pwm x) + nD (pwm x) := by conv => lhs; unfold nD
  have h3 : nD (pwm x) ≤ 64000000001 := by unfold pwm; exact h1
  omega
theorem con_Print {a : CA} {x k : Nat} [ha : NI a x k] (hx : x < WB ^ k) (hk : k ≤ 1000000000) : PureOK Tryz.prog 61 [.it (.one (.c a))] (.v (str (decS x))) := by
  have cP := con_powers (a := a) hx hk
  have cD := (con_digits (pwm x + 1) (a := a) (k := k) (pws (pwm x + 1)) rfl (pwm_lt x) (pwm_nD hx hk) (by omega)).pure
  have el : nD (pwm x + 1) = (decW (nD (pwm x + 1)) x).length := (decW_len _ _).symm
  have cD' : PureOK Tryz.prog 92 [.it (.one (.c a)), .r (rowR 1 natC (pws (pwm x + 1)))] (.r (rowR 1 bytC (decW (nD (pwm x + 1)) x))) := by
    show PureOK _ _ _ (.r (sliceR 1 (decW (nD (pwm x + 1)) x).length _))
    rw [decW_len]; exact cD
  clear cD
  have cT := con_TrimLeft (decW (nD (pwm x + 1)) x)
  have hd := decW_drop (nD (pwm x + 1)) x (by have := pwm_lt x; unfold pw at this; exact this)
  rw [hd] at cT
  have hS : decS x = if x = 0 then [48] else dig x := by unfold decS; rfl
  refine PureOK.fnF Tryz.func61 Tryz.results61 Tryz.ntmps61 rfl rfl rfl (by simp [AV.ids, AV0.ids, Atom.ids]) rfl (fun w0 T B E0 hB => ?_)
  by_cases h0 : x = 0
  · have hz : decide (dig x = []) = true := by subst h0; rw [dig_zero]; rfl
    refine SX.go2 ?_
    refine retS ?_; rw [hS, if_pos h0]
  · have hz : decide (dig x = []) = false := decide_eq_false (dig_ne h0)
    refine SX.go2 ?_
    refine retS ?_; rw [hS, if_neg h0]
end Go.Proofs.YtmfadfkjnfdngaaGreatDoor

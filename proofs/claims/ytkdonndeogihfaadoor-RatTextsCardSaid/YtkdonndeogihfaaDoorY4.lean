import Derived.Test.YtkdonndeogihfaaDoorY3
/- Package zint in the symbolic run: Round, Exact, Gcd. -/
set_option linter.unusedVariables false
set_option linter.unusedSimpArgs false
namespace Go.Proofs.YtkdonndeogihfaaDoor
open Go.RowKit QM SX
attribute [local irreducible] IntKind.wrap bitLen cmpI nval Go1 Reg WP thenK inBlk retQ RetOK ResOK CallOK OpOK Sat
attribute [local irreducible] sgn isign zrem zfq zfr
/-- What Round answers. -/
def zround (x y : Int) : Int := if y < 0 then zfq (-x + -x + -y) (-y + -y) else zfq (x + x + y) (y + y)
theorem zRound {l l' : List Atom} {x y : Int} {k m : Nat} [h : ZI l x k] [h' : ZI l' y m] (hk : k + m ≤ 68719476736) : PureOK Tryd.prog 98 [.agg l, .agg l'] (.tup [.agg (zN (zround x y)), .one (.c (.val (.bool (decide (y ≠ 0)))))]) := by
  refine z2 ⟨_, Tryd.func98, rfl, rfl⟩ fun neg n neg2 n2 hz hz2 hn hn2 => ?_
  refine PureOK.fn Tryd.func98 Tryd.results98 Tryd.ntmps98 rfl rfl rfl (by simp [AV.ids, AV0.ids, Atom.ids]) rfl (fun w0 T B E0 hB => ?_)
  subst hz hz2
  repeat (first | refine SX.goZ ?_ | (refine SX.Go1.is ?_; refine SX.Go1.isCall ?_; first
        | refine SX.Go1.call rfl (zSign (by omega)) rfl rfl ?_))
  rw [isign_neg]
  refine WP.cond rfl (fun hc => ?_) (fun hc => ?_)
  · have hy : sgn neg2 n2 < 0 := by simpa using hc
    repeat (first | refine SX.goZ ?_ | (refine SX.Go1.is ?_; refine SX.Go1.isCall ?_; first
          | refine SX.Go1.call rfl (zNeg (by omega)) rfl rfl ?_
          | refine SX.Go1.call rfl (zAdd (by omega)) rfl rfl ?_
          | refine SX.Go1.call rfl (zFloor (by omega)) rfl rfl ?_))
    refine RetOK.eq2 (ResOK.agg2 rfl rfl rfl) (ResOK.tmp rfl) ?_ ?_
    · unfold zround; rw [if_pos hy]
    · have : decide (-sgn neg2 n2 + -sgn neg2 n2 ≠ 0) = decide (sgn neg2 n2 ≠ 0) := by rw [decide_eq_decide]; omega
      rw [this]
  · have hy : ¬ sgn neg2 n2 < 0 := by simpa using hc
    repeat (first | refine SX.goZ ?_ | (refine SX.Go1.is ?_; refine SX.Go1.isCall ?_; first
          | refine SX.Go1.call rfl (zNeg (by omega)) rfl rfl ?_
          | refine SX.Go1.call rfl (zAdd (by omega)) rfl rfl ?_
          | refine SX.Go1.call rfl (zFloor (by omega)) rfl rfl ?_))
    refine RetOK.eq2 (ResOK.agg2 rfl rfl rfl) (ResOK.tmp rfl) ?_ ?_
    · unfold zround; rw [if_neg hy]
    · have : decide (sgn neg2 n2 + sgn neg2 n2 ≠ 0) = decide (sgn neg2 n2 ≠ 0) := by rw [decide_eq_decide]; omega
      rw [this]
theorem zN0 : AV0.imp (.agg [.c (.val (.bool false)), .c (.val (.slice none 0 0))]) (.agg (zN 0)) := by
  rintro E S w v ⟨vs, hv, hall⟩
  match vs, hall with
  | [a, b], ⟨h1, h2, _⟩ =>
    refine ⟨[a, b], hv, h1, ?_, trivial⟩
    rw [show b = _ from h2]
    exact nrmN.zero
/-- What Exact answers. -/
def zexok (x y : Int) : Bool := decide (y ≠ 0) && decide (zrem x y = 0)
def zexq (x y : Int) : Int := if zexok x y then x.tdiv y else 0
instance Bd.zexq (x y : Int) (k : Nat) [h : Bd x k] : Bd (zexq x y) k := ⟨by
  unfold Proofs.YtkdonndeogihfaaDoor.zexq
  split
  · exact (Bd.tdiv x y k).h
  · exact Nat.lt_of_lt_of_le (by decide) (WB_one_le _)⟩
theorem zExact {l l' : List Atom} {x y : Int} {k m : Nat} [h : ZI l x k] [h' : ZI l' y m] (hk : k + m ≤ 1099511627760) : PureOK Tryd.prog 86 [.agg l, .agg l'] (.tup [.agg (zN (zexq x y)), .one (.c (.val (.bool (zexok x y))))]) := by
  refine z2 ⟨_, Tryd.func86, rfl, rfl⟩ fun neg n neg2 n2 hz hz2 hn hn2 => ?_
  refine PureOK.fn Tryd.func86 Tryd.results86 Tryd.ntmps86 rfl rfl rfl (by simp [AV.ids, AV0.ids, Atom.ids]) rfl (fun w0 T B E0 hB => ?_)
  by_cases hy : y = 0
  · have hok : decide (y ≠ 0) = false := by simp [hy]
    have hok2 : (!decide (y ≠ 0)) = true := by simp [hy]
    have he : zexok x y = false := by unfold zexok; rw [hok]; rfl
    have hq : zexq x y = 0 := by unfold zexq; rw [he]; rfl
    rw [he, hq]
    rw [hz2] at hok hok2
    subst hz hz2
    repeat (first | refine SX.goZ ?_ | (refine SX.Go1.is ?_; refine SX.Go1.isCall ?_; first
          | refine SX.Go1.call rfl (zQuo (by omega)) rfl rfl ?_))
    exact RetOK.mk2 (ResOK.imp (ResOK.agg2 rfl rfl rfl) zN0) (ResOK.tmp rfl)
  · have hok : decide (y ≠ 0) = true := by simp [hy]
    have hok2 : (!decide (y ≠ 0)) = false := by simp [hy]
    rw [hz2] at hok hok2
    subst hz hz2
    repeat (first | refine SX.goZ ?_ | (refine SX.Go1.is ?_; refine SX.Go1.isCall ?_; first
          | refine SX.Go1.call rfl (zQuo (by omega)) rfl rfl ?_
          | refine SX.Go1.call rfl (zSign (by omega)) rfl rfl ?_))
    have hne : decide (isign (zrem (sgn neg n) (sgn neg2 n2)) ≠ 0) = decide (zrem (sgn neg n) (sgn neg2 n2) ≠ 0) := by
      have := isign_zero (zrem (sgn neg n) (sgn neg2 n2))
      rw [decide_eq_decide] at *
      omega
    rw [hne]
    refine WP.cond rfl (fun hc => ?_) (fun hc => ?_)
    · have hz0 : zrem (sgn neg n) (sgn neg2 n2) ≠ 0 := by simpa using hc
      have he : zexok (sgn neg n) (sgn neg2 n2) = false := by unfold zexok; simp [hz0]
      have hq : zexq (sgn neg n) (sgn neg2 n2) = 0 := by unfold zexq; rw [he]; rfl
      rw [he, hq]
      repeat (first | refine SX.goZ ?_)
      exact RetOK.mk2 (ResOK.imp (ResOK.agg2 rfl rfl rfl) zN0) (ResOK.tmp rfl)
    · have hz0 : zrem (sgn neg n) (sgn neg2 n2) = 0 := by simpa using hc
      have he : zexok (sgn neg n) (sgn neg2 n2) = true := by unfold zexok; rw [hok]; simp [hz0]
      have hq : zexq (sgn neg n) (sgn neg2 n2) = (sgn neg n).tdiv (sgn neg2 n2) := by unfold zexq; rw [he]; rfl
      rw [he, hq]
      repeat (first | refine SX.goZ ?_)
      exact RetOK.mk2 (ResOK.agg2 rfl rfl rfl) (ResOK.tmp rfl)
theorem sgn_false (n : Nat) : sgn false n = (n : Int) := by unfold sgn; simp
theorem zGcd {l l' : List Atom} {x y : Int} {k m : Nat} [h : ZI l x k] [h' : ZI l' y m] (hk : k + m ≤ 1099511627760) : PureOK Tryd.prog 85 [.agg l, .agg l'] (.agg (zN (Int.gcd x y : Int))) := by
  refine z2 ⟨_, Tryd.func85, rfl, rfl⟩ fun neg n neg2 n2 hz hz2 hn hn2 => ?_
  subst hz hz2
  rw [show (Int.gcd (sgn neg n) (sgn neg2 n2) : Int) = sgn false (Nat.gcd n n2) by rw [sgn_false]; unfold Int.gcd; rw [sgn_natAbs, sgn_natAbs]]
  refine PureOK.fn Tryd.func85 Tryd.results85 Tryd.ntmps85 rfl rfl rfl (by simp [AV.ids, AV0.ids, Atom.ids]) rfl (fun w0 T B E0 hB => ?_)
  repeat (first | refine SX.goZ ?_ | (refine SX.Go1.is ?_; refine SX.Go1.isCall ?_; first
        | refine SX.Go1.call rfl (dGcd (by omega)) rfl rfl ?_
        | refine SX.Go1.call rfl (zFrom _ (by omega)) rfl rfl ?_))
  exact RetOK.eq1 (ResOK.agg2 rfl rfl rfl) rfl
instance BdN.igcd (x y : Int) (k m : Nat) [hx : Bd x k] [hy : Bd y m] : BdN (Int.gcd x y) (k + m) := ⟨(BdN.gcd x.natAbs y.natAbs k m).h⟩
end Go.Proofs.YtkdonndeogihfaaDoor

import Derived.Test.YtkdonndeogihfaaDoorY1
/- Package zint in the symbolic run: Of, Add, Sub, Mul, Cmp, Same, Bits, Small. -/
set_option linter.unusedVariables false
set_option linter.unusedSimpArgs false
namespace Go.Proofs.YtkdonndeogihfaaDoor
open Go.RowKit QM SX
attribute [local irreducible] IntKind.wrap bitLen cmpI nval Go1 Reg WP thenK inBlk retQ RetOK ResOK CallOK OpOK Sat
attribute [local irreducible] sgn isign
theorem wrapI {z : Int} (h1 : -9223372036854775808 ≤ z) (h2 : z ≤ 9223372036854775807) : IntKind.i64.wrap z = z := IntWalk.i64_in z ⟨h1, h2⟩
theorem nOf' (z : Int) (h0 : 0 ≤ z) (h1 : z < 18446744073709551616) : PureOK Tryd.prog 89 [.v (.int .u64 z)] (.r (nrmN z.natAbs)) := by
  have := nOf z.natAbs (by rw [WB_eq]; omega)
  rwa [show ((z.natAbs : Nat) : Int) = z by omega] at this
theorem zOf (z : Int) (h1 : -9223372036854775808 ≤ z) (h2 : z ≤ 9223372036854775807) : PureOK Tryd.prog 36 [.v (.int .i64 z)] (.agg (zN z)) := by
  have hb : NI (.sat (nrmN z.natAbs)) z.natAbs 1 := NI.nrm' (bd_i64 z h1 h2)
  refine PureOK.fn Tryd.func36 Tryd.results36 Tryd.ntmps36 rfl rfl rfl (by simp [AV.ids, AV0.ids, Atom.ids]) rfl (fun w0 T B E0 hB => ?_)
  repeat (first | refine SX.goZ ?_)
  refine WP.cond rfl (fun hc => ?_) (fun hc => ?_)
  · have hz : z < 0 := by simpa using hc
    have hw : IntKind.u64.wrap (0 - IntKind.u64.wrap z) = (z.natAbs : Int) := by
      simp only [IntKind.wrap, IntKind.bits, IntKind.signed]; simp; omega
    have hs : sgn true z.natAbs = z := by unfold sgn; simp; omega
    have hcc := nOf (z.natAbs) (by rw [WB_eq]; omega)
    repeat (first | refine SX.goZ ?_ | (refine SX.Go1.is ?_; refine SX.Go1.isCall ?_; first
          | refine SX.Go1.call rfl (hcc) rfl rfl ?_
          | refine SX.Go1.call rfl (zFrom true (by omega)) rfl rfl ?_))
    rw [hs]
    exact RetOK.eq1 (ResOK.agg2 rfl rfl rfl) rfl
  · have hz : 0 ≤ z := by simpa using hc
    have hw : IntKind.u64.wrap z = (z.natAbs : Int) := by
      simp only [IntKind.wrap, IntKind.bits, IntKind.signed]; simp; omega
    have hs : sgn false z.natAbs = z := by unfold sgn; simp; omega
    have hcc := nOf (z.natAbs) (by rw [WB_eq]; omega)
    repeat (first | refine SX.goZ ?_ | (refine SX.Go1.is ?_; refine SX.Go1.isCall ?_; first
          | refine SX.Go1.call rfl (hcc) rfl rfl ?_
          | refine SX.Go1.call rfl (nOf' _ hz (by omega)) rfl rfl ?_
          | refine SX.Go1.call rfl (zFrom false (by omega)) rfl rfl ?_))
    rw [hs]
    exact RetOK.eq1 (ResOK.agg2 rfl rfl rfl) rfl
theorem sgn_add_same (neg : Bool) (n m : Nat) : sgn neg (n + m) = sgn neg n + sgn neg m := by unfold sgn; split <;> omega
theorem sgn_add_ge (neg : Bool) {n m : Nat} (h : m ≤ n) : sgn neg (n - m) = sgn neg n + sgn (!neg) m := by unfold sgn; cases neg <;> simp <;> omega
theorem sgn_add_lt (neg : Bool) {n m : Nat} (h : n ≤ m) : sgn (!neg) (m - n) = sgn neg n + sgn (!neg) m := by unfold sgn; cases neg <;> simp <;> omega
theorem zAdd {l l' : List Atom} {x y : Int} {k m : Nat} [h : ZI l x k] [h' : ZI l' y m] (hk : k + m ≤ 1099511627774) : PureOK Tryd.prog 50 [.agg l, .agg l'] (.agg (zN (x + y))) := by
  refine z2 ⟨_, Tryd.func50, rfl, rfl⟩ fun neg n neg2 n2 hz hz2 hn hn2 => ?_
  subst hz hz2
  refine PureOK.fn Tryd.func50 Tryd.results50 Tryd.ntmps50 rfl rfl rfl (by simp [AV.ids, AV0.ids, Atom.ids]) rfl (fun w0 T B E0 hB => ?_)
  repeat (first | refine SX.goZ ?_)
  refine WP.cond rfl (fun hc => ?_) (fun hc => ?_)
  · have hq : neg = neg2 := by simpa using hc
    subst hq
    repeat (first | refine SX.goZ ?_ | (refine SX.Go1.is ?_; refine SX.Go1.isCall ?_; first
          | refine SX.Go1.call rfl (nAdd (by omega)) rfl rfl ?_
          | refine SX.Go1.call rfl (zFrom _ (by omega)) rfl rfl ?_))
    rw [← sgn_add_same]
    exact RetOK.eq1 (ResOK.agg2 rfl rfl rfl) rfl
  · have hq : neg2 = !neg := by cases neg <;> cases neg2 <;> simp_all
    subst hq
    repeat (first | refine SX.goZ ?_ | (refine SX.Go1.is ?_; refine SX.Go1.isCall ?_; first
          | refine SX.Go1.call rfl (nSub (by omega)) rfl rfl ?_))
    refine WP.cond rfl (fun hc2 => ?_) (fun hc2 => ?_)
    · have hle : n2 ≤ n := by simpa using hc2
      repeat (first | refine SX.goZ ?_ | (refine SX.Go1.is ?_; refine SX.Go1.isCall ?_; first
            | refine SX.Go1.call rfl (zFrom _ (by omega)) rfl rfl ?_))
      rw [← sgn_add_ge neg hle]
      exact RetOK.eq1 (ResOK.agg2 rfl rfl rfl) rfl
    · have hle : n ≤ n2 := by simp at hc2; omega
      repeat (first | refine SX.goZ ?_ | (refine SX.Go1.is ?_; refine SX.Go1.isCall ?_; first
            | refine SX.Go1.call rfl (nSub (by omega)) rfl rfl ?_
            | refine SX.Go1.call rfl (zFrom _ (by omega)) rfl rfl ?_))
      rw [← sgn_add_lt neg hle]
      exact RetOK.eq1 (ResOK.agg2 rfl rfl rfl) rfl
theorem zSub {l l' : List Atom} {x y : Int} {k m : Nat} [h : ZI l x k] [h' : ZI l' y m] (hk : k + m ≤ 1099511627774) : PureOK Tryd.prog 51 [.agg l, .agg l'] (.agg (zN (x - y))) := by
  refine z2 ⟨_, Tryd.func51, rfl, rfl⟩ fun neg n neg2 n2 hz hz2 hn hn2 => ?_
  subst hz hz2
  rw [Int.sub_eq_add_neg]
  refine PureOK.fn Tryd.func51 Tryd.results51 Tryd.ntmps51 rfl rfl rfl (by simp [AV.ids, AV0.ids, Atom.ids]) rfl (fun w0 T B E0 hB => ?_)
  repeat (first | refine SX.goZ ?_ | (refine SX.Go1.is ?_; refine SX.Go1.isCall ?_; first
        | refine SX.Go1.call rfl (zNeg (by omega)) rfl rfl ?_
        | refine SX.Go1.call rfl (zAdd (by omega)) rfl rfl ?_))
  exact RetOK.eq1 (ResOK.agg2 rfl rfl rfl) rfl
theorem sgn_mul (a b : Bool) (n m : Nat) : sgn (!(a == b)) (n * m) = sgn a n * sgn b m := by unfold sgn; cases a <;> cases b <;> simp [Int.neg_mul, Int.mul_neg]
theorem zMul {l l' : List Atom} {x y : Int} {k m : Nat} [h : ZI l x k] [h' : ZI l' y m] (hk : k + m ≤ 274877906944) : PureOK Tryd.prog 40 [.agg l, .agg l'] (.agg (zN (x * y))) := by
  refine z2 ⟨_, Tryd.func40, rfl, rfl⟩ fun neg n neg2 n2 hz hz2 hn hn2 => ?_
  subst hz hz2
  rw [← sgn_mul]
  refine PureOK.fn Tryd.func40 Tryd.results40 Tryd.ntmps40 rfl rfl rfl (by simp [AV.ids, AV0.ids, Atom.ids]) rfl (fun w0 T B E0 hB => ?_)
  repeat (first | refine SX.goZ ?_ | (refine SX.Go1.is ?_; refine SX.Go1.isCall ?_; first
        | refine SX.Go1.call rfl (mMul (by omega)) rfl rfl ?_
        | refine SX.Go1.call rfl (zFrom _ (by omega)) rfl rfl ?_))
  exact RetOK.eq1 (ResOK.agg2 rfl rfl rfl) rfl
/-- The order's number. -/
def icmp (x y : Int) : Int := if x < y then -1 else if x = y then 0 else 1
theorem isign_sgn (neg : Bool) (n : Nat) : isign (sgn neg n) = if n = 0 then 0 else if neg then -1 else 1 := by
  unfold isign sgn; cases neg <;> simp <;> split <;> (try split) <;> omega
theorem icmp_flip (n m : Nat) : icmp (sgn true n) (sgn true m) = cmpI m n := by
  unfold icmp sgn cmpI; simp; repeat' split <;> omega
theorem icmp_pos (n m : Nat) : icmp (sgn false n) (sgn false m) = cmpI n m := by
  unfold icmp sgn cmpI; simp; repeat' split <;> omega
theorem zCmp {l l' : List Atom} {x y : Int} {k m : Nat} [h : ZI l x k] [h' : ZI l' y m] (hk : k + m ≤ 1099511627774) : PureOK Tryd.prog 54 [.agg l, .agg l'] (.v (.int .i64 (icmp x y))) := by
  refine z2 ⟨_, Tryd.func54, rfl, rfl⟩ fun neg n neg2 n2 hz hz2 hn hn2 => ?_
  subst hz hz2
  refine PureOK.fn Tryd.func54 Tryd.results54 Tryd.ntmps54 rfl rfl rfl (by simp [AV.ids, AV0.ids, Atom.ids]) rfl (fun w0 T B E0 hB => ?_)
  repeat (first | refine SX.goZ ?_ | (refine SX.Go1.is ?_; refine SX.Go1.isCall ?_; first
        | refine SX.Go1.call rfl (zSign (by omega)) rfl rfl ?_))
  have hx : isign (sgn neg n) < 0 ↔ sgn neg n < 0 := by unfold isign; repeat' split <;> omega
  have hx0 : 0 < isign (sgn neg n) ↔ 0 < sgn neg n := by unfold isign; repeat' split <;> omega
  have hy : isign (sgn neg2 n2) < 0 ↔ sgn neg2 n2 < 0 := by unfold isign; repeat' split <;> omega
  have hy0 : 0 < isign (sgn neg2 n2) ↔ 0 < sgn neg2 n2 := by unfold isign; repeat' split <;> omega
  have hxr : -1 ≤ isign (sgn neg n) ∧ isign (sgn neg n) ≤ 1 := by unfold isign; repeat' split <;> omega
  have hyr : -1 ≤ isign (sgn neg2 n2) ∧ isign (sgn neg2 n2) ≤ 1 := by unfold isign; repeat' split <;> omega
  refine WP.cond rfl (fun hc => ?_) (fun hc => ?_)
  · repeat (first | refine SX.goZ ?_)
    refine RetOK.eq1 (ResOK.tmp rfl) ?_
    have : icmp (sgn neg n) (sgn neg2 n2) = -1 := by unfold icmp; rw [if_pos (by simp at hc; omega)]
    rw [this]
  · repeat (first | refine SX.goZ ?_)
    refine WP.cond rfl (fun hc2 => ?_) (fun hc2 => ?_)
    · repeat (first | refine SX.goZ ?_)
      refine RetOK.eq1 (ResOK.tmp rfl) ?_
      have : icmp (sgn neg n) (sgn neg2 n2) = 1 := by unfold icmp; rw [if_neg (by simp at hc2; omega), if_neg (by simp at hc2; omega)]
      rw [this]
    · repeat (first | refine SX.goZ ?_)
      refine WP.cond rfl (fun hc3 => ?_) (fun hc3 => ?_)
      · have e1 : sgn neg n = sgn true n := by simp at hc hc2 hc3; unfold sgn at *; cases neg <;> simp at * <;> omega
        have e2 : sgn neg2 n2 = sgn true n2 := by simp at hc hc2 hc3; unfold sgn at *; cases neg2 <;> simp at * <;> omega
        repeat (first | refine SX.goZ ?_ | (refine SX.Go1.is ?_; refine SX.Go1.isCall ?_; first
              | refine SX.Go1.call rfl (nCmp (by omega)) rfl rfl ?_))
        rw [e1, e2, icmp_flip]
        exact RetOK.eq1 (ResOK.tmp rfl) rfl
      · have e1 : sgn neg n = sgn false n := by simp at hc hc2 hc3; unfold sgn at *; cases neg <;> simp at * <;> omega
        have e2 : sgn neg2 n2 = sgn false n2 := by simp at hc hc2 hc3; unfold sgn at *; cases neg2 <;> simp at * <;> omega
        repeat (first | refine SX.goZ ?_ | (refine SX.Go1.is ?_; refine SX.Go1.isCall ?_; first
              | refine SX.Go1.call rfl (nCmp (by omega)) rfl rfl ?_))
        rw [e1, e2, icmp_pos]
        exact RetOK.eq1 (ResOK.tmp rfl) rfl
theorem icmp_zero (x y : Int) : decide (icmp x y = 0) = decide (x = y) := by
  unfold icmp; rw [decide_eq_decide]; repeat' split <;> omega
theorem zSame {l l' : List Atom} {x y : Int} {k m : Nat} [h : ZI l x k] [h' : ZI l' y m] (hk : k + m ≤ 1099511627774) : PureOK Tryd.prog 39 [.agg l, .agg l'] (.v (.bool (decide (x = y)))) := by
  refine z2 ⟨_, Tryd.func39, rfl, rfl⟩ fun neg n neg2 n2 hz hz2 hn hn2 => ?_
  subst hz hz2
  rw [← icmp_zero]
  refine PureOK.fn Tryd.func39 Tryd.results39 Tryd.ntmps39 rfl rfl rfl (by simp [AV.ids, AV0.ids, Atom.ids]) rfl (fun w0 T B E0 hB => ?_)
  repeat (first | refine SX.goZ ?_ | (refine SX.Go1.is ?_; refine SX.Go1.isCall ?_; first
        | refine SX.Go1.call rfl (zCmp (by omega)) rfl rfl ?_))
  exact RetOK.eq1 (ResOK.tmp rfl) rfl
theorem zBits {l : List Atom} {z : Int} {k : Nat} [h : ZI l z k] (hk : k ≤ 1099511627775) : PureOK Tryd.prog 69 [.agg l] (.v (.int .i64 (bitLen z.natAbs : Int))) := by
  refine z1 ⟨_, Tryd.func69, rfl, rfl⟩ fun neg n hz hn => ?_
  subst hz
  rw [sgn_natAbs]
  refine PureOK.fn Tryd.func69 Tryd.results69 Tryd.ntmps69 rfl rfl rfl (by simp [AV.ids, AV0.ids, Atom.ids]) rfl (fun w0 T B E0 hB => ?_)
  repeat (first | refine SX.goZ ?_ | (refine SX.Go1.is ?_; refine SX.Go1.isCall ?_; first
        | refine SX.Go1.call rfl (nBits (by omega)) rfl rfl ?_))
  exact RetOK.eq1 (ResOK.tmp rfl) rfl
/-- Is it a number of 64 bits? -/
def i64ok (z : Int) : Bool := decide (-9223372036854775808 ≤ z) && decide (z ≤ 9223372036854775807)
def i64of (z : Int) : Int := if i64ok z then z else 0
end Go.Proofs.YtkdonndeogihfaaDoor

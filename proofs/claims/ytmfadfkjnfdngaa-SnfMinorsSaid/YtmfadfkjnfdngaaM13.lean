import Derived.Test.YtmfadfkjnfdngaaM12
import Derived.Test.YtmfadfkjnfdngaaM3
import Derived.Test.YtmfadfkjnfdngaaM25
set_option linter.unusedVariables false
set_option linter.unusedSimpArgs false
namespace Go.Proofs.Ytmfadfkjnfdngaa
open Go.RowKit QM SX
attribute [local irreducible] IntKind.wrap bitLen cmpI nval Go1 Reg WP thenK inBlk retQ RetOK ResOK CallOK OpOK Sat
attribute [local irreducible] sgn isign zrem zfq zfr
def zround (x y : Int) : Int := if y < 0 then zfq (-x + -x + -y) (-y + -y) else zfq (x + x + y) (y + y)
theorem zN0 : AV0.imp (.agg [.c (.val (.bool false)), .c (.val (.slice none 0 0))]) (.agg (zN 0)) := by
  rintro E S w v ⟨vs, hv, hall⟩
  match vs, hall with
  | [a, b], ⟨h1, h2, _⟩ =>
    refine ⟨[a, b], hv, h1, ?_, trivial⟩
    rw [show b = _ from h2]
    exact nrmN.zero
def zexok (x y : Int) : Bool := decide (y ≠ 0) && decide (zrem x y = 0)
def zexq (x y : Int) : Int := if zexok x y then x.tdiv y else 0
theorem zExact {l l' : List Atom} {x y : Int} {k m : Nat} [h : ZI l x k] [h' : ZI l' y m] (hk : k + m ≤ 1099511627760) : PureOK Try.prog 60 [.agg l, .agg l'] (.tup [.agg (zN (zexq x y)), .one (.c (.val (.bool (zexok x y))))]) := by
  refine z2 ⟨_, Try.func60, rfl, rfl⟩ fun neg n neg2 n2 hz hz2 hn hn2 => ?_
  refine PureOK.fn Try.func60 Try.results60 Try.ntmps60 rfl rfl rfl (by simp [AV.ids, AV0.ids, Atom.ids]) rfl (fun w0 T B E0 hB => ?_)
  by_cases hy : y = 0
  · have hok : decide (y ≠ 0) = false := by simp [hy]
    have hok2 : (!decide (y ≠ 0)) = true := by simp [hy]
    have he : zexok x y = false := by unfold zexok; rw [hok]; rfl
    have hq : zexq x y = 0 := by unfold zexq; rw [he]; rfl
    rw [he, hq]
    rw [hz2] at hok hok2
    subst hz hz2
    repeat (first | refine SX.goZ ?_ | (refine SX.Go1.is ?_; refine SX.Go1.isCall ?_; first
          | refine SX.Go1.call rfl (zQuo (by omega)) rfl rfl ?_))
    exact RetOK.mk2 (ResOK.imp (ResOK.agg2 rfl rfl rfl) zN0) (ResOK.tmp rfl)
  · have hok : decide (y ≠ 0) = true := by simp [hy]
    have hok2 : (!decide (y ≠ 0)) = false := by simp [hy]
    rw [hz2] at hok hok2
    subst hz hz2
    repeat (first | refine SX.goZ ?_ | (refine SX.Go1.is ?_; refine SX.Go1.isCall ?_; first
          | refine SX.Go1.call rfl (zQuo (by omega)) rfl rfl ?_
          | refine SX.Go1.call rfl (zSign (by omega)) rfl rfl ?_))
    have hne : decide (isign (zrem (sgn neg n) (sgn neg2 n2)) ≠ 0) = decide (zrem (sgn neg n) (sgn neg2 n2) ≠ 0) := by
      have := isign_zero (zrem (sgn neg n) (sgn neg2 n2))
      rw [decide_eq_decide] at *
      omega
    rw [hne]
    refine WP.cond rfl (fun hc => ?_) (fun hc => ?_)
    · have hz0 : zrem (sgn neg n) (sgn neg2 n2) ≠ 0 := by simpa using hc
      have he : zexok (sgn neg n) (sgn neg2 n2) = false := by unfold zexok; simp [hz0]
      have hq : zexq (sgn neg n) (sgn neg2 n2) = 0 := by unfold zexq; rw [he]; rfl
      rw [he, hq]
      repeat (first | refine SX.goZ ?_)
      exact RetOK.mk2 (ResOK.imp (ResOK.agg2 rfl rfl rfl) zN0) (ResOK.tmp rfl)
    · have hz0 : zrem (sgn neg n) (sgn neg2 n2) = 0 := by simpa using hc
      have he : zexok (sgn neg n) (sgn neg2 n2) = true := by unfold zexok; rw [hok]; simp [hz0]
      have hq : zexq (sgn neg n) (sgn neg2 n2) = (sgn neg n).tdiv (sgn neg2 n2) := by unfold zexq; rw [he]; rfl
      rw [he, hq]
      repeat (first | refine SX.goZ ?_)
      exact RetOK.mk2 (ResOK.agg2 rfl rfl rfl) (ResOK.tmp rfl)
theorem sgn_false (n : Nat) : sgn false n = (n : Int) := by unfold sgn; simp
theorem zGcd {l l' : List Atom} {x y : Int} {k m : Nat} [h : ZI l x k] [h' : ZI l' y m] (hk : k + m ≤ 1099511627760) : PureOK Try.prog 27 [.agg l, .agg l'] (.agg (zN (Int.gcd x y : Int))) := by
  refine z2 ⟨_, Try.func27, rfl, rfl⟩ fun neg n neg2 n2 hz hz2 hn hn2 => ?_
  subst hz hz2
  rw [show (Int.gcd (sgn neg n) (sgn neg2 n2) : Int) = sgn false (Nat.gcd n n2) by rw [sgn_false]; unfold Int.gcd; rw [sgn_natAbs, sgn_natAbs]]
  refine PureOK.fn Try.func27 Try.results27 Try.ntmps27 rfl rfl rfl (by simp [AV.ids, AV0.ids, Atom.ids]) rfl (fun w0 T B E0 hB => ?_)
  repeat (first | refine SX.goZ ?_ | (refine SX.Go1.is ?_; refine SX.Go1.isCall ?_; first
        | refine SX.Go1.call rfl (dGcd (by omega)) rfl rfl ?_
        | refine SX.Go1.call rfl (zFrom _ (by omega)) rfl rfl ?_))
  exact RetOK.eq1 (ResOK.agg2 rfl rfl rfl) rfl
end Go.Proofs.Ytmfadfkjnfdngaa
set_option linter.unusedVariables false
set_option linter.unusedSimpArgs false
namespace Go.Proofs.Ytmfadfkjnfdngaa
open Go.RowKit QM SX
attribute [local irreducible] IntKind.wrap bitLen cmpI nval Go1 Reg WP thenK inBlk retQ RetOK ResOK CallOK OpOK Sat
def powok (x : Nat) (n : Int) : Bool := decide (0 ≤ n) && (decide (bitLen x = 0) || decide (n ≤ ((1048576 / bitLen x : Nat) : Int)))
def powv (x : Nat) (n : Int) : Nat := if powok x n = true then x ^ n.toNat else 0
theorem pow_lt {x e N b K W : Nat} (hW : 1 < W) (hx : x < 2 ^ b) (he : e ≤ N) (hN : N * b ≤ 64 * K) (hK : 0 < K) (hw : W = 2 ^ 64) : x ^ e < W ^ K := by
  subst hw
  rw [← Nat.pow_mul]
  cases e with
  | zero => rw [Nat.pow_zero]; exact Nat.one_lt_two_pow (by omega)
  | succ e =>
    refine Nat.lt_of_lt_of_le (Nat.pow_lt_pow_left hx (by omega)) ?_
    rw [← Nat.pow_mul]
    exact Nat.pow_le_pow_right (by omega) (Nat.le_trans (by rw [Nat.mul_comm]; exact Nat.mul_le_mul_right b he) hN)
@[irreducible] def pwK : Nat := 16384
theorem pwK_eq : pwK = 16384 := by unfold pwK; rfl
theorem pow_bd {x e N : Nat} (he : e ≤ N) (hN : N * bitLen x ≤ 1048576) : BdN (x ^ e) pwK := ⟨pow_lt (K := pwK) WB_one (bitLen_spec x).1 he (by rw [pwK_eq]; omega) (by rw [pwK_eq]; omega) WB_pow⟩
attribute [local irreducible] powok powv
theorem powv_bd (x : Nat) (n : Int) : powv x n < WB ^ pwK := by
  unfold powv
  split
  · rename_i h
    unfold powok at h
    simp only [Bool.and_eq_true, Bool.or_eq_true, decide_eq_true_eq] at h
    refine (pow_bd (N := n.toNat) (Nat.le_refl _) ?_).h
    rcases h.2 with hb | hb
    · rw [hb]; omega
    · have h5 : n.toNat ≤ 1048576 / bitLen x := by omega
      exact Nat.le_trans (Nat.mul_le_mul_right _ h5) (Nat.div_mul_le_self ..)
  · exact Nat.lt_of_lt_of_le (by decide) (WB_one_le pwK)
instance BdN.powv (x : Nat) (n : Int) : BdN (powv x n) pwK := ⟨powv_bd x n⟩
def zpowv (z : Int) (n : Int) : Int := if powok z.natAbs n = true then z ^ n.toNat else 0
theorem sgn_pow (neg : Bool) (x : Nat) (n : Int) : sgn (neg && decide (n.tmod 2 ≠ 0)) (powv x n) = zpowv (sgn neg x) n := by
  unfold powv zpowv
  rw [sgn_natAbs]
  split
  · rename_i h
    have h0 : 0 ≤ n := by unfold powok at h; simp at h; exact h.1
    have ht : n.tmod 2 = ((n.toNat % 2 : Nat) : Int) := by rw [Int.tmod_eq_emod_of_nonneg h0]; omega
    unfold sgn
    cases neg
    · simp
    · rcases Nat.mod_two_eq_zero_or_one n.toNat with e | e
      · rw [ht, e]; simp; rw [show (-(x : Int)) ^ n.toNat = (x : Int) ^ n.toNat from ?_]
        obtain ⟨m, hm⟩ : ∃ m, n.toNat = 2 * m := ⟨n.toNat / 2, by omega⟩
        rw [hm, Int.pow_mul, Int.pow_mul]; congr 1; simp [Int.pow_succ, Int.neg_mul_neg]
      · rw [ht, e]; simp
        obtain ⟨m, hm⟩ : ∃ m, n.toNat = 2 * m + 1 := ⟨n.toNat / 2, by omega⟩
        rw [hm, Int.pow_succ, Int.pow_succ, Int.pow_mul, Int.pow_mul, show (-(x : Int)) ^ 2 = (x : Int) ^ 2 by simp [Int.pow_succ, Int.neg_mul_neg], Int.mul_neg]
  · unfold sgn; simp
instance Bd.zpowv (z : Int) (n : Int) : Bd (zpowv z n) pwK := ⟨by
  have h := sgn_pow (decide (z < 0)) z.natAbs n
  rw [sgn_abs] at h
  rw [← h, sgn_natAbs]
  exact powv_bd _ _⟩
attribute [local irreducible] sgn zpowv
end Go.Proofs.Ytmfadfkjnfdngaa
set_option linter.unusedVariables false
set_option linter.unusedSimpArgs false
namespace Go.Proofs.Ytmfadfkjnfdngaa
open Go.RowKit QM SX
def decW : Nat → Nat → List UInt8
  | 0, _ => []
  | n + 1, x => decW n (x / 10) ++ [UInt8.ofNat (48 + x % 10)]
def dig (x : Nat) : List UInt8 := if h : x = 0 then [] else dig (x / 10) ++ [UInt8.ofNat (48 + x % 10)]
decreasing_by omega
def nD : Nat → Nat
  | 0 => 18
  | j + 1 => nD j + nD j
def pw (j : Nat) : Nat := 10 ^ nD j
def pwM (x : Nat) : Nat → Nat → Nat
  | 0, j => j
  | f + 1, j => if 2 * bitLen (pw j) ≤ bitLen x + 1 then pwM x f (j + 1) else j
def pwm (x : Nat) : Nat := pwM x (bitLen x + 2) 0
def decS (x : Nat) : List UInt8 := if x = 0 then [48] else dig x
end Go.Proofs.Ytmfadfkjnfdngaa
set_option linter.unusedVariables false
set_option linter.unusedSimpArgs false
namespace Go.Proofs.Ytmfadfkjnfdngaa
open Go.RowKit QM SX
attribute [local irreducible] IntKind.wrap Go1 Reg WP thenK inBlk retQ retF RetF RetOK ResOK CallOK OpOK Sat
attribute [local irreducible] decW pw nD pwM pwm decS
section
variable {a b : CA} {x y k m : Nat}
end
def natC (n : Nat) : List CA := [.sat (nrmN n)]
def pws (j : Nat) : List Nat := (List.range j).map pw
end Go.Proofs.Ytmfadfkjnfdngaa
set_option linter.unusedVariables false
set_option linter.unusedSimpArgs false
namespace Go.Proofs.Ytmfadfkjnfdngaa
open Go.RowKit QM SX
attribute [local irreducible] IntKind.wrap Go1 Reg WP thenK inBlk retQ retF RetF RetOK ResOK CallOK OpOK Sat
section
variable {l l' : List Atom} {a : CA} {x y : Int} {n k m : Nat}
instance con_zSign [h : ZI l x k] : Con Try.prog 33 [.agg l] (k ≤ 1099511627775) (.v (.int .i64 (isign x))) := ⟨fun h => zSign h⟩
instance con_zNeg [h : ZI l x k] : Con Try.prog 52 [.agg l] (k ≤ 1099511627775) (.agg (zN (-x))) := ⟨fun h => zNeg h⟩
instance con_zAbs [h : ZI l x k] : Con Try.prog 56 [.agg l] (k ≤ 1099511627775) (.agg (zN (x.natAbs : Int))) := ⟨fun h => zAbs h⟩
instance con_zOf : Con Try.prog 8 [.v (.int .i64 x)] (-9223372036854775808 ≤ x ∧ x ≤ 9223372036854775807) (.agg (zN x)) := ⟨fun h => zOf x h.1 h.2⟩
instance con_zAdd [h : ZI l x k] [h' : ZI l' y m] : Con Try.prog 53 [.agg l, .agg l'] (k + m ≤ 1099511627774) (.agg (zN (x + y))) := ⟨fun h => zAdd h⟩
instance con_zMul [h : ZI l x k] [h' : ZI l' y m] : Con Try.prog 9 [.agg l, .agg l'] (k + m ≤ 274877906944) (.agg (zN (x * y))) := ⟨fun h => zMul h⟩
instance con_zCmp [h : ZI l x k] [h' : ZI l' y m] : Con Try.prog 25 [.agg l, .agg l'] (k + m ≤ 1099511627774) (.v (.int .i64 (icmp x y))) := ⟨fun h => zCmp h⟩
instance con_zSame [h : ZI l x k] [h' : ZI l' y m] : Con Try.prog 11 [.agg l, .agg l'] (k + m ≤ 1099511627774) (.v (.bool (decide (x = y)))) := ⟨fun h => zSame h⟩
instance con_zFloor [h : ZI l x k] [h' : ZI l' y m] : Con Try.prog 58 [.agg l, .agg l'] (k + m ≤ 1099511627760) (.tup [.agg (zN (zfq x y)), .agg (zN (zfr x y)), .one (.c (.val (.bool (decide (y ≠ 0)))))]) := ⟨fun h => zFloor h⟩
instance con_zExact [h : ZI l x k] [h' : ZI l' y m] : Con Try.prog 60 [.agg l, .agg l'] (k + m ≤ 1099511627760) (.tup [.agg (zN (zexq x y)), .one (.c (.val (.bool (zexok x y))))]) := ⟨fun h => zExact h⟩
instance con_zGcd [h : ZI l x k] [h' : ZI l' y m] : Con Try.prog 27 [.agg l, .agg l'] (k + m ≤ 1099511627760) (.agg (zN (Int.gcd x y : Int))) := ⟨fun h => zGcd h⟩
instance con_zFrom [h : NI a n k] (neg : Bool) : Con Try.prog 20 [.it (.one (.c a)), .v (.bool neg)] (k ≤ 1099511627775) (.agg (zN (sgn neg n))) := ⟨fun h => zFrom neg h⟩
end
def zS (z : Int) : List UInt8 := if z < 0 then 45 :: decS z.natAbs else decS z.natAbs
def rmk (x y : Int) : Int × Int := if y = 0 then (0, 1) else if y < 0 then (zexq (-x) (Int.gcd (-x) (-y)), zexq (-y) (Int.gcd (-x) (-y))) else (zexq x (Int.gcd x y), zexq y (Int.gcd x y))
abbrev ratA (q : Int × Int) : List Atom := [.c (.val (.bool (decide (q.1 < 0)))), .c (.sat (nrmN q.1.natAbs)), .c (.val (.bool (decide (q.2 < 0)))), .c (.sat (nrmN q.2.natAbs))]
attribute [irreducible] rmk
section
variable {x0 x1 x2 x3 y0 y1 y2 y3 : Atom} {p q r s : Int} {k m k' m' : Nat}
abbrev qn (p q : Int) : Int × Int := rmk p q
def qadd (p q r s : Int) : Int × Int := rmk ((rmk p q).1 * (rmk r s).2 + (rmk r s).1 * (rmk p q).2) ((rmk p q).2 * (rmk r s).2)
def qmul (p q r s : Int) : Int × Int := rmk ((rmk p q).1 * (rmk r s).1) ((rmk p q).2 * (rmk r s).2)
def qquo (p q r s : Int) : Int × Int := rmk ((rmk p q).1 * (rmk r s).2) ((rmk p q).2 * (rmk r s).1)
end
end Go.Proofs.Ytmfadfkjnfdngaa
set_option linter.unusedVariables false
set_option linter.unusedSimpArgs false
namespace Go.Proofs.Ytmfadfkjnfdngaa
open Go.RowKit QM SX
attribute [local irreducible] IntKind.wrap Go1 Reg WP thenK inBlk retQ retF RetF RetOK ResOK CallOK OpOK Sat
attribute [local irreducible] decS zS
def qsub (p q r s : Int) : Int × Int := qadd p q (-(rmk r s).1) (rmk r s).2
section
variable {x0 x1 x2 x3 y0 y1 y2 y3 : Atom} {p q r s : Int} {k m k' m' : Nat}
def qcmp (p q r s : Int) : Int := isign ((qsub p q r s).1 * (qsub p q r s).2)
def rwhole (p q : Int) : Int := if (rmk p q).2 = 1 then (rmk p q).1 else 0
def rS (q : Int × Int) : List UInt8 := if q.2 = 1 then zS q.1 else zS q.1 ++ [47] ++ zS q.2
abbrev ratP (p q : Int) : List Atom := [.c (.val (.bool (decide (p < 0)))), .c (.sat (nrmN p.natAbs)), .c (.val (.bool (decide (q < 0)))), .c (.sat (nrmN q.natAbs))]
end
def isR (p q x y : Int) : Prop := (0 < q ∧ (Int.gcd p q : Int) = 1) ∧ p * y = x * q
attribute [irreducible] isR
end Go.Proofs.Ytmfadfkjnfdngaa
set_option linter.unusedVariables false
set_option linter.unusedSimpArgs false
namespace Go.Proofs.Ytmfadfkjnfdngaa
open Go.RowKit QM SX
attribute [local irreducible] IntKind.wrap Go1 Reg WP thenK inBlk retQ retF RetF RetOK ResOK CallOK OpOK Sat
attribute [local irreducible] decS zS rwhole qsub qmul qquo qcmp rS
abbrev zW (neg : Bool) (l : List Nat) : List Atom := [.c (.val (.bool neg)), .c (.sat (rawN l))]
abbrev qW (b : Bool) (l : List Nat) (c : Bool) (m : List Nat) : List Atom := [.c (.val (.bool b)), .c (.sat (rawN l)), .c (.val (.bool c)), .c (.sat (rawN m))]
end Go.Proofs.Ytmfadfkjnfdngaa

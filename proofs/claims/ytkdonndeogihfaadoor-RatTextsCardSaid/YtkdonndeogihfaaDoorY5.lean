import Derived.Test.YtkdonndeogihfaaDoorY4
import Derived.Test.YtkdonndeogihfaaDoorSc
/- Package mul: Square, Pow; package zint: Pow. -/
set_option linter.unusedVariables false
set_option linter.unusedSimpArgs false
namespace Go.Proofs.YtkdonndeogihfaaDoor
open Go.RowKit QM SX
attribute [local irreducible] IntKind.wrap bitLen cmpI nval Go1 Reg WP thenK inBlk retQ RetOK ResOK CallOK OpOK Sat
theorem mSquare {a : CA} {x k : Nat} [ha : NI a x k] (hk : k + k ≤ 274877906944) : PureOK Tryd.prog 108 [.it (.one (.c a))] (.r (nrmN (x * x))) := by
  refine PureOK.fn Tryd.func108 Tryd.results108 Tryd.ntmps108 rfl rfl rfl (by simp [AV.ids, AV0.ids, Atom.ids]) rfl (fun w0 T B E0 hB => ?_)
  repeat (first | refine SX.goZ ?_ | (refine SX.Go1.is ?_; refine SX.Go1.isCall ?_; first
        | refine SX.Go1.call rfl (mMul (by omega)) rfl rfl ?_))
  exact RetOK.eq1 (ResOK.tmp rfl) rfl
/-- May a power be reckoned? -/
def powok (x : Nat) (n : Int) : Bool := decide (0 ≤ n) && (decide (bitLen x = 0) || decide (n ≤ ((1048576 / bitLen x : Nat) : Int)))
def powv (x : Nat) (n : Int) : Nat := if powok x n = true then x ^ n.toNat else 0
theorem pow_lt {x e N b K W : Nat} (hW : 1 < W) (hx : x < 2 ^ b) (he : e ≤ N) (hN : N * b ≤ 64 * K) (hK : 0 < K) (hw : W = 2 ^ 64) : x ^ e < W ^ K := by
  subst hw
  rw [← Nat.pow_mul]
  cases e with
  | zero => rw [Nat.pow_zero]; exact Nat.one_lt_two_pow (by omega)
  | succ e =>
    refine Nat.lt_of_lt_of_le (Nat.pow_lt_pow_left hx (by omega)) ?_
    rw [← Nat.pow_mul]
    exact Nat.pow_le_pow_right (by omega) (Nat.le_trans (by rw [Nat.mul_comm]; exact Nat.mul_le_mul_right b he) hN)
/-- The words of a power at most. -/
@[irreducible] def pwK : Nat := 16384
theorem pwK_eq : pwK = 16384 := by unfold pwK; rfl
theorem pow_bd {x e N : Nat} (he : e ≤ N) (hN : N * bitLen x ≤ 1048576) : BdN (x ^ e) pwK := ⟨pow_lt (K := pwK) WB_one (bitLen_spec x).1 he (by rw [pwK_eq]; omega) (by rw [pwK_eq]; omega) WB_pow⟩
theorem quoQ (b : Nat) : IntKind.i64.wrap ((1048576 : Int).tdiv (b : Int)) = ((1048576 / b : Nat) : Int) := by
  rw [show (1048576 : Int).tdiv (b : Int) = ((1048576 / b : Nat) : Int) from rfl]
  have := Nat.div_le_self 1048576 b
  generalize 1048576 / b = Q at *
  exact wrapI64 (by omega) (by omega)
theorem pow_odd {x p q : Nat} (h : q = 2 * p + q % 2) (h1 : decide (((q : Nat) : Int) % 2 = 1) = true) : x ^ p * x ^ p * x = x ^ q := by
  have := of_decide_eq_true h1
  rw [← Nat.pow_add, ← Nat.pow_succ]; congr 1; omega
theorem pow_even {x p q : Nat} (h : q = 2 * p + q % 2) (h1 : decide (((q : Nat) : Int) % 2 = 1) = false) : x ^ p * x ^ p = x ^ q := by
  have := of_decide_eq_false h1
  rw [← Nat.pow_add]; congr 1; omega
theorem half_step (N i : Nat) : N / 2 ^ i = 2 * (N / 2 ^ (i + 1)) + N / 2 ^ i % 2 := by
  rw [Nat.pow_succ, ← Nat.div_div_eq_div_mul]; omega
attribute [local irreducible] powok powv
set_option maxRecDepth 100000 in
set_option maxHeartbeats 1000000 in
theorem mPow {a : CA} {x k : Nat} [ha : NI a x k] (n : Int) (hn : n ≤ 9223372036854775807) (hk : k ≤ 137438953472) : PureOK Tryd.prog 124 [.it (.one (.c a)), .v (.int .i64 n)] (.tup [.one (.c (.sat (nrmN (powv x n)))), .one (.c (.val (.bool (powok x n))))]) := by
  have hpw := pwK_eq
  refine PureOK.fn Tryd.func124 Tryd.results124 Tryd.ntmps124 rfl rfl rfl (by simp [AV.ids, AV0.ids, Atom.ids]) rfl (fun w0 T B E0 hB => ?_)
  have toI : ∀ (C : Ctx) (st : St), (∀ b, C.fix b = false) → st.tm 0 = some (.it (.one (.c a))) → st.tm 1 = some (.v (.int .i64 n)) → St.le C st (mkSt [(0, .it (.one (.c a))), (1, .v (.int .i64 n))] []) := fun C st hf h0 h1 =>
    St.le_to [] (fun b h => by rw [hf b] at h; cases h) ⟨⟨_, h0, AVto.same rfl⟩, ⟨_, h1, AVto.same rfl⟩, trivial⟩ trivial rfl
  refine WP.meet (mkSt [(0, .it (.one (.c a))), (1, .v (.int .i64 n))] []) ?_ ?_
  · repeat (first | refine SX.goZ ?_ | (refine SX.Go1.is ?_; refine SX.Go1.isCall ?_; first
          | refine SX.Go1.call rfl (nBits (by omega)) rfl rfl ?_))
    exact toI _ _ (fun _ => rfl) rfl rfl
  by_cases hok : powok x n = true
  · have hpv : powv x n = x ^ n.toNat := by unfold powv; rw [if_pos hok]
    have hok' := hok
    unfold powok at hok'
    simp only [Bool.and_eq_true, Bool.or_eq_true, decide_eq_true_eq] at hok'
    obtain ⟨hn0, hb⟩ := hok'
    have c1 : decide (n < 0) = false := decide_eq_false (by omega)
    refine WP.meet (mkSt [(0, .it (.one (.c a))), (1, .v (.int .i64 n))] []) ?_ ?_
    · by_cases hz : bitLen x = 0
      · have c2 : decide (0 < (bitLen x : Int)) = false := decide_eq_false (by omega)
        repeat (first | refine SX.goZ ?_ | (refine SX.Go1.is ?_; refine SX.Go1.isCall ?_; first
              | refine SX.Go1.call rfl (nBits (by omega)) rfl rfl ?_))
        exact toI _ _ (fun _ => rfl) rfl rfl
      · have c2 : decide (0 < (bitLen x : Int)) = true := decide_eq_true (by omega)
        have hQ : IntKind.i64.wrap ((1048576 : Int).tdiv (bitLen x : Int)) = ((1048576 / bitLen x : Nat) : Int) := quoQ _
        have c3 : decide (((1048576 / bitLen x : Nat) : Int) < n) = false := decide_eq_false (by omega)
        repeat (first | refine SX.goZ ?_ | (refine SX.Go1.is ?_; refine SX.Go1.isCall ?_; first
              | refine SX.Go1.call rfl (nBits (by omega)) rfl rfl ?_))
        exact toI _ _ (fun _ => rfl) rfl rfl
    by_cases hr : bitLen x ≤ 1 ∧ 0 < n
    · obtain ⟨h1, h2⟩ := hr
      have c4 : decide ((bitLen x : Int) ≤ 1) = true := decide_eq_true (by omega)
      have c5 : decide (0 < n) = true := decide_eq_true (by omega)
      have hv : x = x ^ n.toNat := by
        have := (bitLen_spec x).1
        have h3 : x < 2 := Nat.lt_of_lt_of_le this (by rw [show 2 = 2 ^ 1 from rfl]; exact Nat.pow_le_pow_right (by omega) h1)
        have h4 : n.toNat ≠ 0 := by omega
        match x, h3 with
        | 0, _ => rw [Nat.zero_pow (by omega)]
        | 1, _ => rw [Nat.one_pow]
      repeat (first | refine SX.goZ ?_ | (refine SX.Go1.is ?_; refine SX.Go1.isCall ?_; first
            | refine SX.Go1.call rfl (nBits (by omega)) rfl rfl ?_
            | refine SX.Go1.call rfl (nNorm (by omega)) rfl rfl ?_))
      exact RetOK.eq2 (ResOK.tmp rfl) (ResOK.tmp rfl) (by rw [hpv, ← hv]) (by rw [hok])
    · have hNb : n.toNat * bitLen x ≤ 1048576 := by
        rcases hb with hb | hb
        · rw [hb]; omega
        · have h5 : n.toNat ≤ 1048576 / bitLen x := by omega
          exact Nat.le_trans (Nat.mul_le_mul_right _ h5) (Nat.div_mul_le_self ..)
      refine WP.meet (mkSt [(0, .it (.one (.c a))), (1, .v (.int .i64 n))] []) ?_ ?_
      · by_cases h1 : bitLen x ≤ 1
        · have c4 : decide ((bitLen x : Int) ≤ 1) = true := decide_eq_true (by omega)
          have c5 : decide (0 < n) = false := decide_eq_false (by omega)
          repeat (first | refine SX.goZ ?_ | (refine SX.Go1.is ?_; refine SX.Go1.isCall ?_; first
                | refine SX.Go1.call rfl (nBits (by omega)) rfl rfl ?_))
          exact toI _ _ (fun _ => rfl) rfl rfl
        · have c4 : decide ((bitLen x : Int) ≤ 1) = false := decide_eq_false (by omega)
          repeat (first | refine SX.goZ ?_ | (refine SX.Go1.is ?_; refine SX.Go1.isCall ?_; first
                | refine SX.Go1.call rfl (nBits (by omega)) rfl rfl ?_))
          exact toI _ _ (fun _ => rfl) rfl rfl
      generalize hN : n.toNat = N at *
      have hnN : n = (N : Int) := by omega
      have hbd : ∀ e, e ≤ N → BdN (x ^ e) pwK := fun e he => pow_bd he hNb
      repeat (first | refine SX.goZ ?_ | (refine SX.Go1.is ?_; refine SX.Go1.isCall ?_; first
            | refine SX.Go1.call rfl (nOf' 1 (by omega) (by omega)) rfl rfl ?_))
      refine WP.loop (ι := {p : Nat × Int // p.2 = (p.1 : Int) - 1 ∧ p.1 ≤ 63}) (fun i => mkSt [(0, .it (.one (.c a))), (1, .v (.int .i64 n)), (6, .r (nrmN (x ^ (N / 2 ^ i.val.1)))), (7, .v (.int .i64 i.val.2))] []) (fun i => i.val.1) ⟨(63, 62), by decide, by decide⟩
        (St.le_to [] (fun b h => by cases h) ⟨⟨_, rfl, AVto.same rfl⟩, ⟨_, rfl, AVto.same rfl⟩, ⟨_, rfl, AVto.eq (by rw [Nat.div_eq_of_lt (show N < 2 ^ 63 by omega)]; rfl) rfl⟩, ⟨_, rfl, AVto.same rfl⟩, trivial⟩ trivial rfl) (fun i => ?_)
      obtain ⟨⟨i, j⟩, hj, hi⟩ := i
      simp only at hj hi ⊢
      cases i with
      | zero =>
        have d1 : decide (0 ≤ j) = false := decide_eq_false (by omega)
        repeat (first | refine SX.goZ ?_ | (refine SX.Go1.is ?_; refine SX.Go1.isCall ?_; first
              | refine SX.Go1.call rfl (nBits (by omega)) rfl rfl ?_))
        exact RetOK.eq2 (ResOK.tmp rfl) (ResOK.tmp rfl) (by rw [hpv, Nat.pow_zero, Nat.div_one]) (by rw [hok])
      | succ i =>
        have d1 : decide (0 ≤ j) = true := decide_eq_true (by omega)
        have d2 : n.fdiv (2 ^ (min j.toNat IntKind.i64.bits)) = ((N / 2 ^ i : Nat) : Int) := by
          rw [show min j.toNat IntKind.i64.bits = i by show min j.toNat 64 = i; omega, hnN, Int.fdiv_eq_ediv_of_nonneg _ (by exact Int.le_of_lt (Int.pow_pos (by decide)))]
          push_cast; rfl
        have hs := half_step N i
        have b1 : BdN (x ^ (N / 2 ^ (i + 1))) pwK := hbd _ (Nat.div_le_self ..)
        by_cases hbit : decide (((N / 2 ^ i : Nat) : Int) % 2 = 1) = true
        · have hv : x ^ (N / 2 ^ (i + 1)) * x ^ (N / 2 ^ (i + 1)) * x = x ^ (N / 2 ^ i) := pow_odd hs hbit
          repeat (first | refine SX.goZ ?_ | (refine SX.Go1.is ?_; refine SX.Go1.isCall ?_; first
                | refine SX.Go1.call rfl (mSquare (by omega)) rfl rfl ?_
                | refine SX.Go1.call rfl (mMul (by omega)) rfl rfl ?_))
          refine ⟨⟨(i, j - 1), by simp only; omega, by simp only; omega⟩, St.le_to [] (fun b h => by cases h) ⟨⟨_, rfl, AVto.same rfl⟩, ⟨_, rfl, AVto.same rfl⟩, ⟨_, rfl, AVto.eq (by rw [hv]) rfl⟩, ⟨_, rfl, AVto.same rfl⟩, trivial⟩ trivial rfl, Nat.lt_succ_self i⟩
        · have hbit : decide (((N / 2 ^ i : Nat) : Int) % 2 = 1) = false := Bool.of_not_eq_true hbit
          have hv : x ^ (N / 2 ^ (i + 1)) * x ^ (N / 2 ^ (i + 1)) = x ^ (N / 2 ^ i) := pow_even hs hbit
          repeat (first | refine SX.goZ ?_ | (refine SX.Go1.is ?_; refine SX.Go1.isCall ?_; first
                | refine SX.Go1.call rfl (mSquare (by omega)) rfl rfl ?_
                | refine SX.Go1.call rfl (mMul (by omega)) rfl rfl ?_))
          refine ⟨⟨(i, j - 1), by simp only; omega, by simp only; omega⟩, St.le_to [] (fun b h => by cases h) ⟨⟨_, rfl, AVto.same rfl⟩, ⟨_, rfl, AVto.same rfl⟩, ⟨_, rfl, AVto.eq (by rw [hv]) rfl⟩, ⟨_, rfl, AVto.same rfl⟩, trivial⟩ trivial rfl, Nat.lt_succ_self i⟩
  · have hok : powok x n = false := Bool.of_not_eq_true hok
    have hpv : powv x n = 0 := by unfold powv; rw [if_neg (by rw [hok]; decide)]
    have hok' := hok
    unfold powok at hok'
    have hz : ∀ E S w v, AV0.has E S w (.one (.c (.val (.slice none 0 0)))) v → AV0.has E S w (.one (.c (.sat (nrmN (powv x n))))) v := fun E S w v h => by
      have h' : v = .slice none 0 0 := h
      subst h'; rw [hpv]; exact nrmN.zero
    by_cases hn0 : n < 0
    · have c1 : decide (n < 0) = true := decide_eq_true (by omega)
      repeat (first | refine SX.goZ ?_ | (refine SX.Go1.is ?_; refine SX.Go1.isCall ?_; first
            | refine SX.Go1.call rfl (nBits (by omega)) rfl rfl ?_))
      rw [hok]
      exact RetOK.mk2 (ResOK.imp (ResOK.tmp rfl) hz) (ResOK.tmp rfl)
    · have c1 : decide (n < 0) = false := decide_eq_false (by omega)
      rw [decide_eq_true (show 0 ≤ n by omega), Bool.true_and] at hok'
      simp only [Bool.or_eq_false_iff, decide_eq_false_iff_not] at hok'
      obtain ⟨h1, h2⟩ := hok'
      have c2 : decide (0 < (bitLen x : Int)) = true := decide_eq_true (by omega)
      have hQ : IntKind.i64.wrap ((1048576 : Int).tdiv (bitLen x : Int)) = ((1048576 / bitLen x : Nat) : Int) := quoQ _
      have c3 : decide (((1048576 / bitLen x : Nat) : Int) < n) = true := decide_eq_true (by omega)
      repeat (first | refine SX.goZ ?_ | (refine SX.Go1.is ?_; refine SX.Go1.isCall ?_; first
            | refine SX.Go1.call rfl (nBits (by omega)) rfl rfl ?_))
      rw [hok]
      exact RetOK.mk2 (ResOK.imp (ResOK.tmp rfl) hz) (ResOK.tmp rfl)
theorem powv_bd (x : Nat) (n : Int) : powv x n < WB ^ pwK := by
  unfold powv
  split
  · rename_i h
    unfold powok at h
    simp only [Bool.and_eq_true, Bool.or_eq_true, decide_eq_true_eq] at h
    refine (pow_bd (N := n.toNat) (Nat.le_refl _) ?_).h
    rcases h.2 with hb | hb
    · rw [hb]; omega
    · have h5 : n.toNat ≤ 1048576 / bitLen x := by omega
      exact Nat.le_trans (Nat.mul_le_mul_right _ h5) (Nat.div_mul_le_self ..)
  · exact Nat.lt_of_lt_of_le (by decide) (WB_one_le pwK)
instance BdN.powv (x : Nat) (n : Int) : BdN (powv x n) pwK := ⟨powv_bd x n⟩
/-- What Pow answers. -/
def zpowv (z : Int) (n : Int) : Int := if powok z.natAbs n = true then z ^ n.toNat else 0
theorem sgn_pow (neg : Bool) (x : Nat) (n : Int) : sgn (neg && decide (n.tmod 2 ≠ 0)) (powv x n) = zpowv (sgn neg x) n := by
  unfold powv zpowv
  rw [sgn_natAbs]
  split
  · rename_i h
    have h0 : 0 ≤ n := by unfold powok at h; simp at h; exact h.1
    have ht : n.tmod 2 = ((n.toNat % 2 : Nat) : Int) := by rw [Int.tmod_eq_emod_of_nonneg h0]; omega
    unfold sgn
    cases neg
    · simp
    · rcases Nat.mod_two_eq_zero_or_one n.toNat with e | e
      · rw [ht, e]; simp; rw [show (-(x : Int)) ^ n.toNat = (x : Int) ^ n.toNat from ?_]
        obtain ⟨m, hm⟩ : ∃ m, n.toNat = 2 * m := ⟨n.toNat / 2, by omega⟩
        rw [hm, Int.pow_mul, Int.pow_mul]; congr 1; simp [Int.pow_succ, Int.neg_mul_neg]
      · rw [ht, e]; simp
        obtain ⟨m, hm⟩ : ∃ m, n.toNat = 2 * m + 1 := ⟨n.toNat / 2, by omega⟩
        rw [hm, Int.pow_succ, Int.pow_succ, Int.pow_mul, Int.pow_mul, show (-(x : Int)) ^ 2 = (x : Int) ^ 2 by simp [Int.pow_succ, Int.neg_mul_neg], Int.mul_neg]
  · unfold sgn; simp
instance Bd.zpowv (z : Int) (n : Int) : Bd (zpowv z n) pwK := ⟨by
  have h := sgn_pow (decide (z < 0)) z.natAbs n
  rw [sgn_abs] at h
  rw [← h, sgn_natAbs]
  exact powv_bd _ _⟩
theorem z1i {f : FuncId} {r : AV} {l : List Atom} {z : Int} {k : Nat} {rest : List AV} [h : ZI l z k] (he : ∃ fn, Tryd.prog.funcs[f]? = some fn ∧ (fn.name == "runtime.NumGoroutine") = false ∧ fn.body.isNone = false)
    (hf : ∀ neg n, z = sgn neg n → BdN n k → PureOK Tryd.prog f (.agg (zR neg n k) :: rest) r) : PureOK Tryd.prog f (.agg l :: rest) r := by
  obtain ⟨neg, n, hz, hm⟩ := h.h
  refine PureOK.fact he (fun hb => hf neg n hz hb) fun E S w vs hv => ?_
  match vs, hv with
  | x :: ys, ⟨h1, h2⟩ => exact ⟨⟨hm E S w x h1, h2⟩, ⟨zR_bd (hm E S w x h1)⟩⟩
attribute [local irreducible] sgn zpowv
theorem zPow {l : List Atom} {z : Int} {k : Nat} [h : ZI l z k] (n : Int) (hn0 : -9223372036854775808 ≤ n) (hn : n ≤ 9223372036854775807) (hk : k ≤ 137438953472) : PureOK Tryd.prog 99 [.agg l, .v (.int .i64 n)] (.tup [.agg (zN (zpowv z n)), .one (.c (.val (.bool (powok z.natAbs n))))]) := by
  refine z1i ⟨_, Tryd.func99, rfl, rfl⟩ fun neg x hz hx => ?_
  subst hz
  rw [← sgn_pow, sgn_natAbs]
  have hpw := pwK_eq
  refine PureOK.fn Tryd.func99 Tryd.results99 Tryd.ntmps99 rfl rfl rfl (by simp [AV.ids, AV0.ids, Atom.ids]) rfl (fun w0 T B E0 hB => ?_)
  have hr : n.tmod 2 = n.tmod 2 := rfl
  cases neg
  · repeat (first | refine SX.goZ ?_ | (refine SX.Go1.is ?_; refine SX.Go1.isCall ?_; first
          | refine SX.Go1.call rfl (mPow n hn (by omega)) rfl rfl ?_
          | refine SX.Go1.call rfl (zFrom _ (by omega)) rfl rfl ?_))
    exact RetOK.eq2 (ResOK.agg2 rfl rfl rfl) (ResOK.tmp rfl) rfl rfl
  · repeat (first | refine SX.goZ ?_ | (refine SX.Go1.is ?_; refine SX.Go1.isCall ?_; first
          | refine SX.Go1.call rfl (mPow n hn (by omega)) rfl rfl ?_
          | refine SX.Go1.call rfl (zFrom _ (by omega)) rfl rfl ?_))
    exact RetOK.eq2 (ResOK.agg2 rfl rfl rfl) (ResOK.tmp rfl) rfl rfl
end Go.Proofs.YtkdonndeogihfaaDoor

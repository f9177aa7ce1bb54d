import Derived.Test.YtfhpmbenldgfnaaGreatDoorK11
import Derived.Test.YtfhpmbenldgfnaaGreatDoorK3
import Derived.Test.YtfhpmbenldgfnaaGreatDoorK27
set_option linter.unusedVariables false
set_option linter.unusedSimpArgs false
namespace Go.Proofs.YtfhpmbenldgfnaaGreatDoor
open Go.RowKit QM SX
attribute [local irreducible] IntKind.wrap bitLen cmpI nval Go1 Reg WP thenK inBlk retQ RetOK ResOK CallOK OpOK Sat
theorem mSquare {a : CA} {x k : Nat} [ha : NI a x k] (hk : k + k ≤ 274877906944) : PureOK Tryz.prog 225 [.it (.one (.c a))] (.r (nrmN (x * x))) := by
  refine PureOK.fn Tryz.func225 Tryz.results225 Tryz.ntmps225 rfl rfl rfl (by simp [AV.ids, AV0.ids, Atom.ids]) rfl (fun w0 T B E0 hB => ?_)
  repeat (first | refine SX.goZ ?_ | (refine SX.Go1.is ?_; refine SX.Go1.isCall ?_; first
        | refine SX.Go1.call rfl (mMul (by omega)) rfl rfl ?_))
  exact RetOK.eq1 (ResOK.tmp rfl) rfl
def powok (x : Nat) (n : Int) : Bool := decide (0 ≤ n) && (decide (bitLen x = 0) || decide (n ≤ ((1048576 / bitLen x : Nat) : Int)))
def powv (x : Nat) (n : Int) : Nat := if powok x n = true then x ^ n.toNat else 0
theorem pow_lt {x e N b K W : Nat} (hW : 1 < W) (hx : x < 2 ^ b) (he : e ≤ N) (hN : N * b ≤ 64 * K) (hK : 0 < K) (hw : W = 2 ^ 64) : x ^ e < W ^ K := by
  subst hw
  rw [← Nat.pow_mul]
  cases e with
  | zero => rw [Nat.pow_zero]; exact Nat.one_lt_two_pow (by omega)
  | succ e =>
    refine Nat.lt_of_lt_of_le (Nat.pow_lt_pow_left hx (by omega)) ?_
    rw [← Nat.pow_mul]
    exact Nat.pow_le_pow_right (by omega) (Nat.le_trans (by rw [Nat.mul_comm]; exact Nat.mul_le_mul_right b he) hN)
@[irreducible] def pwK : Nat := 16384
theorem pwK_eq : pwK = 16384 := by unfold pwK; rfl
theorem pow_bd {x e N : Nat} (he : e ≤ N) (hN : N * bitLen x ≤ 1048576) : BdN (x ^ e) pwK := ⟨pow_lt (K := pwK) WB_one (bitLen_spec x).1 he (by rw [pwK_eq]; omega) (by rw [pwK_eq]; omega) WB_pow⟩
theorem quoQ (b : Nat) : IntKind.i64.wrap ((1048576 : Int).tdiv (b : Int)) = ((1048576 / b : Nat) : Int) := by
  rw [show (1048576 : Int).tdiv (b : Int) = ((1048576 / b : Nat) : Int) from rfl]
  have := Nat.div_le_self 1048576 b
  generalize 1048576 / b = Q at *
  exact wrapI64 (by omega) (by omega)
theorem pow_odd {x p q : Nat} (h : q = 2 * p + q % 2) (h1 : decide (((q : Nat) : Int) % 2 = 1) = true) : x ^ p * x ^ p * x = x ^ q := by
  have := of_decide_eq_true h1
  rw [← Nat.pow_add, ← Nat.pow_succ]; congr 1; omega
theorem pow_even {x p q : Nat} (h : q = 2 * p + q % 2) (h1 : decide (((q : Nat) : Int) % 2 = 1) = false) : x ^ p * x ^ p = x ^ q := by
  have := of_decide_eq_false h1
  rw [← Nat.pow_add]; congr 1; omega
theorem half_step (N i : Nat) : N / 2 ^ i = 2 * (N / 2 ^ (i + 1)) + N / 2 ^ i % 2 := by
  rw [Nat.pow_succ, ← Nat.div_div_eq_div_mul]; omega
attribute [local irreducible] powok powv
set_option maxRecDepth 100000 in
set_option maxHeartbeats 1000000 in
theorem mPow {a : CA} {x k : Nat} [ha : NI a x k] (n : Int) (hn : n ≤ 9223372036854775807) (hk : k ≤ 137438953472) : PureOK Tryz.prog 218 [.it (.one (.c a)), .v (.int .i64 n)] (.tup [.one (.c (.sat (nrmN (powv x n)))), .one (.c (.val (.bool (powok x n))))]) := by
  have hpw := pwK_eq
  refine PureOK.fn Tryz.func218 Tryz.results218 Tryz.ntmps218 rfl rfl rfl (by simp [AV.ids, AV0.ids, Atom.ids]) rfl (fun w0 T B E0 hB => ?_)
  have toI : ∀ (C : Ctx) (st : St), (∀ b, C.fix b = false) → st.tm 0 = some (.it (.one (.c a))) → st.tm 1 = some (.v (.int .i64 n)) → St.le C st (mkSt [(0, .it (.one (.c a))), (1, .v (.int .i64 n))] []) := fun C st hf h0 h1 =>
    St.le_to [] (fun b h => by rw [hf b] at h; cases h) ⟨⟨_, h0, AVto.same rfl⟩, ⟨_, h1, AVto.same rfl⟩, trivial⟩ trivial rfl
  refine WP.meet (mkSt [(0, .it (.one (.c a))), (1, .v (.int .i64 n))] []) ?_ ?_
  · repeat (first | refine SX.goZ ?_ | (refine SX.Go1.is ?_; refine SX.Go1.isCall ?_; first
          | refine SX.Go1.call rfl (nBits (by omega)) rfl rfl ?_))
    exact toI _ _ (fun _ => rfl) rfl rfl
  by_cases hok : powok x n = true
  · have hpv : powv x n = x ^ n.toNat := by unfold powv; rw [if_pos hok]
    have hok' := hok
    unfold powok at hok'
    simp only [Bool.and_eq_true, Bool.or_eq_true, decide_eq_true_eq] at hok'
    obtain ⟨hn0, hb⟩ := hok'
    have c1 : decide (n < 0) = false := decide_eq_false (by omega)
    refine WP.meet (mkSt [(0, .it (.one (.c a))), (1, .v (.int .i64 n))] []) ?_ ?_
    · by_cases hz : bitLen x = 0
      · have c2 : decide (0 < (bitLen x : Int)) = false := decide_eq_false (by omega)
        repeat (first | refine SX.goZ ?_ | (refine SX.Go1.is ?_; refine SX.Go1.isCall ?_; first
              | refine SX.Go1.call rfl (nBits (by omega)) rfl rfl ?_))
        exact toI _ _ (fun _ => rfl) rfl rfl
      · have c2 : decide (0 < (bitLen x : Int)) = true := decide_eq_true (by omega)
        have hQ : IntKind.i64.wrap ((1048576 : Int).tdiv (bitLen x : Int)) = ((1048576 / bitLen x : Nat) : Int) := quoQ _
        have c3 : decide (((1048576 / bitLen x : Nat) : Int) < n) = false := decide_eq_false (by omega)
        repeat (first | refine SX.goZ ?_ | (refine SX.Go1.is ?_; refine SX.Go1.isCall ?_; first
              | refine SX.Go1.call rfl (nBits (by omega)) rfl rfl ?_))
        exact toI _ _ (fun _ => rfl) rfl rfl
    by_cases hr : bitLen x ≤ 1 ∧ 0 < n
    · obtain ⟨h1, h2⟩ := hr
      have c4 : decide ((bitLen x : Int) ≤ 1) = true := decide_eq_true (by omega)
      have c5 : decide (0 < n) = true := decide_eq_true (by omega)
      have hv : x = x ^ n.toNat := by
        have := (bitLen_spec x).1
        have h3 : x < 2 := Nat.lt_of_lt_of_le this (by rw [show 2 = 2 ^ 1 from rfl]; exact Nat.pow_le_pow_right (by omega) h1)
        have h4 : n.toNat ≠ 0 := by omega
        match x, h3 with
        | 0, _ => rw [Nat.zero_pow (by omega)]
        | 1, _ => rw [Nat.one_pow]
      repeat (first | refine SX.goZ ?_ | (refine SX.Go1.is ?_; refine SX.Go1.isCall ?_; first
            | refine SX.Go1.call rfl (nBits (by omega)) rfl rfl ?_
            | refine SX.Go1.call rfl (nNorm (by omega)) rfl rfl ?_))
      exact RetOK.eq2 (ResOK.tmp rfl) (ResOK.tmp rfl) (by rw [hpv, ← hv]) (by rw [hok])
    · have hNb : n.toNat * bitLen x ≤ 1048576 := by
        rcases hb with hb | hb
        · rw [hb]; omega
        · have h5 : n.toNat ≤ 1048576 / bitLen x := by omega
          exact Nat.le_trans (Nat.mul_le_mul_right _ h5) (Nat.div_mul_le_self ..)
      refine WP.meet (mkSt [(0, .it (.one (.c a))), (1, .v (.int .i64 n))] []) ?_ ?_
      · by_cases h1 : bitLen x ≤ 1
        · have c4 : decide ((bitLen x : Int) ≤ 1) = true := decide_eq_true (by omega)
          have c5 : decide (0 < n) = false := decide_eq_false (by omega)
          repeat (first | refine SX.goZ ?_ | (refine SX.Go1.is ?_; refine SX.Go1.isCall ?_; first
                | refine SX.Go1.call rfl (nBits (by omega)) rfl rfl ?_))
          exact toI _ _ (fun _ => rfl) rfl rfl
        · have c4 : decide ((bitLen x : Int) ≤ 1) = false := decide_eq_false (by omega)
          repeat (first | refine SX.goZ ?_ | (refine SX.Go1.is ?_; refine SX.Go1.isCall ?_; first
                | refine SX.Go1.call rfl (nBits (by omega)) rfl rfl ?_))
          exact toI _ _ (fun _ => rfl) rfl rfl
      generalize hN : n.toNat = N at *
      have hnN : n = (N : Int) := by omega
      have hbd : ∀ e, e ≤ N → BdN (x ^ e) pwK := fun e he => pow_bd he hNb
      repeat (first | refine SX.goZ ?_ | (refine SX.Go1.is ?_; refine SX.Go1.isCall ?_; first
            | refine SX.Go1.call rfl (nOf' 1 (by omega) (by omega)) rfl rfl ?_))
      refine WP.loop (ι := {p : Nat × Int // p.2 = (p.1 : Int) - 1 ∧ p.1 ≤ 63}) (fun i => mkSt [(0, .it (.one (.c a))), (1, .v (.int .i64 n)), (6, .r (nrmN (x ^ (N / 2 ^ i.val.1)))), (7, .v (.int .i64 i.val.2))] []) (fun i => i.val.1) ⟨(63, 62), by decide, by decide⟩
        (St.le_to [] (fun b h => by cases h) ⟨⟨_, rfl, AVto.same rfl⟩, ⟨_, rfl, AVto.same rfl⟩, ⟨_, rfl, AVto.eq (by rw [Nat.div_eq_of_lt (show N < 2 ^ 63 by omega)]; rfl) rfl⟩, ⟨_, rfl, AVto.same rfl⟩, trivial⟩ trivial rfl) (fun i => ?_)
      obtain ⟨⟨i, j⟩, hj, hi⟩ := i
      simp only at hj hi ⊢
      cases i with
      | zero =>
        have d1 : decide (0 ≤ j) = false := decide_eq_false (by omega)
        repeat (first | refine SX.goZ ?_ | (refine SX.Go1.is ?_; refine SX.Go1.isCall ?_; first
              | refine SX.Go1.call rfl (nBits (by omega)) rfl rfl ?_))
        exact RetOK.eq2 (ResOK.tmp rfl) (ResOK.tmp rfl) (by rw [hpv, Nat.pow_zero, Nat.div_one]) (by rw [hok])
      | succ i =>
        have d1 : decide (0 ≤ j) = true := decide_eq_true (by omega)
        have d2 : n.fdiv (2 ^ (min j.toNat IntKind.i64.bits)) = ((N / 2 ^ i : Nat) : Int) := by
          rw [show min j.toNat IntKind.i64.bits = i by show min j.toNat 64 = i; omega, hnN, Int.fdiv_eq_ediv_of_nonneg _ (by exact Int.le_of_lt (Int.pow_pos (by decide)))]
          push_cast; rfl
        have hs := half_step N i
        have b1 : BdN (x ^ (N / 2 ^ (i + 1))) pwK := hbd _ (Nat.div_le_self ..)
        by_cases hbit : decide (((N / 2 ^ i : Nat) : Int) % 2 = 1) = true
        · have hv : x ^ (N / 2 ^ (i + 1)) * x ^ (N / 2 ^ (i + 1)) * x = x ^ (N / 2 ^ i) := pow_odd hs hbit
          repeat (first | refine SX.goZ ?_ | (refine SX.Go1.is ?_; refine SX.Go1.isCall ?_; first
                | refine SX.Go1.call rfl (mSquare (by omega)) rfl rfl ?_
                | refine SX.Go1.call rfl (mMul (by omega)) rfl rfl ?_))
          refine ⟨⟨(i, j - 1), by simp only; omega, by simp only; omega⟩, St.le_to [] (fun b h => by cases h) ⟨⟨_, rfl, AVto.same rfl⟩, ⟨_, rfl, AVto.same rfl⟩, ⟨_, rfl, AVto.eq (by rw [hv]) rfl⟩, ⟨_, rfl, AVto.same rfl⟩, trivial⟩ trivial rfl, Nat.lt_succ_self i⟩
        · have hbit : decide (((N / 2 ^ i : Nat) : Int) % 2 = 1) = false := Bool.of_not_eq_true hbit
          have hv : x ^ (N / 2 ^ (i + 1)) * x ^ (N / 2 ^ (i + 1)) = x ^ (N / 2 ^ i) := pow_even hs hbit
          repeat (first | refine SX.goZ ?_ | (refine SX.Go1.is ?_; refine SX.Go1.isCall ?_; first
                | refine SX.Go1.call rfl (mSquare (by omega)) rfl rfl ?_
                | refine SX.Go1.call rfl (mMul (by omega)) rfl rfl ?_))
          refine ⟨⟨(i, j - 1), by simp only; omega, by simp only; omega⟩, St.le_to [] (fun b h => by cases h) ⟨⟨_, rfl, AVto.same rfl⟩, ⟨_, rfl, AVto.same rfl⟩, ⟨_, rfl, AVto.eq (by rw [hv]) rfl⟩, ⟨_, rfl, AVto.same rfl⟩, trivial⟩ trivial rfl, Nat.lt_succ_self i⟩
  · have hok : powok x n = false := Bool.of_not_eq_true hok
    have hpv : powv x n = 0 := by unfold powv; rw [if_neg (by rw [hok]; decide)]
    have hok' := hok
    unfold powok at hok'
    have hz : ∀ E S w v, AV0.has E S w (.one (.c (.val (.slice none 0 0)))) v → AV0.has E S w (.one (.c (.sat (nrmN (powv x n))))) v := fun E S w v h => by
      have h' : v = .slice none 0 0 := h
      subst h'; rw [hpv]; exact nrmN.zero
    by_cases hn0 : n < 0
    · have c1 : decide (n < 0) = true := decide_eq_true (by omega)
      repeat (first | refine SX.goZ ?_ | (refine SX.Go1.is ?_; refine SX.Go1.isCall ?_; first
            | refine SX.Go1.call rfl (nBits (by omega)) rfl rfl ?_))
      rw [hok]
      exact RetOK.mk2 (ResOK.imp (ResOK.tmp rfl) hz) (ResOK.tmp rfl)
    · have c1 : decide (n < 0) = false := decide_eq_false (by omega)
      rw [decide_eq_true (show 0 ≤ n by omega), Bool.true_and] at hok'
      simp only [Bool.or_eq_false_iff, decide_eq_false_iff_not] at hok'
      obtain ⟨h1, h2⟩ := hok'
      have c2 : decide (0 < (bitLen x : Int)) = true := decide_eq_true (by omega)
      have hQ : IntKind.i64.wrap ((1048576 : Int).tdiv (bitLen x : Int)) = ((1048576 / bitLen x : Nat) : Int) := quoQ _
      have c3 : decide (((1048576 / bitLen x : Nat) : Int) < n) = true := decide_eq_true (by omega)
      repeat (first | refine SX.goZ ?_ | (refine SX.Go1.is ?_; refine SX.Go1.isCall ?_; first
            | refine SX.Go1.call rfl (nBits (by omega)) rfl rfl ?_))
      rw [hok]
      exact RetOK.mk2 (ResOK.imp (ResOK.tmp rfl) hz) (ResOK.tmp rfl)
theorem powv_bd (x : Nat) (n : Int) : powv x n < WB ^ pwK := by
  unfold powv
  split
  · rename_i h
    unfold powok at h
    simp only [Bool.and_eq_true, Bool.or_eq_true, decide_eq_true_eq] at h
    refine (pow_bd (N := n.toNat) (Nat.le_refl _) ?_).h
    rcases h.2 with hb | hb
    · rw [hb]; omega
    · have h5 : n.toNat ≤ 1048576 / bitLen x := by omega
      exact Nat.le_trans (Nat.mul_le_mul_right _ h5) (Nat.div_mul_le_self ..)
  · exact Nat.lt_of_lt_of_le (by decide) (WB_one_le pwK)
instance BdN.powv (x : Nat) (n : Int) : BdN (powv x n) pwK := ⟨powv_bd x n⟩
def zpowv (z : Int) (n : Int) : Int := if powok z.natAbs n = true then z ^ n.toNat else 0
theorem sgn_pow (neg : Bool) (x : Nat) (n : Int) : sgn (neg && decide (n.tmod 2 ≠ 0)) (powv x n) = zpowv (sgn neg x) n := by
  unfold powv zpowv
  rw [sgn_natAbs]
  split
  · rename_i h
    have h0 : 0 ≤ n := by unfold powok at h; simp at h; exact h.1
    have ht : n.tmod 2 = ((n.toNat % 2 : Nat) : Int) := by rw [Int.tmod_eq_emod_of_nonneg h0]; omega
    unfold sgn
    cases neg
    · simp
    · rcases Nat.mod_two_eq_zero_or_one n.toNat with e | e
      · rw [ht, e]; simp; rw [show (-(x : Int)) ^ n.toNat = (x : Int) ^ n.toNat from ?_]
        obtain ⟨m, hm⟩ : ∃ m, n.toNat = 2 * m := ⟨n.toNat / 2, by omega⟩
        rw [hm, Int.pow_mul, Int.pow_mul]; congr 1; simp [Int.pow_succ, Int.neg_mul_neg]
      · rw [ht, e]; simp
        obtain ⟨m, hm⟩ : ∃ m, n.toNat = 2 * m + 1 := ⟨n.toNat / 2, by omega⟩
        rw [hm, Int.pow_succ, Int.pow_succ, Int.pow_mul, Int.pow_mul, show (-(x : Int)) ^ 2 = (x : Int) ^ 2 by simp [Int.pow_succ, Int.neg_mul_neg], Int.mul_neg]
  · unfold sgn; simp
instance Bd.zpowv (z : Int) (n : Int) : Bd (zpowv z n) pwK := ⟨by
  have h := sgn_pow (decide (z < 0)) z.natAbs n
  rw [sgn_abs] at h
  rw [← h, sgn_natAbs]
  exact powv_bd _ _⟩
theorem z1i {f : FuncId} {r : AV} {l : List Atom} {z : Int} {k : Nat} {rest : List AV} [h : ZI l z k] (he : ∃ fn, Tryz.prog.funcs[f]? = some fn ∧ (fn.name == "runtime.NumGoroutine") = false ∧ fn.body.isNone = false)
    (hf : ∀ neg n, z = sgn neg n → BdN n k → PureOK Tryz.prog f (.agg (zR neg n k) :: rest) r) : PureOK Tryz.prog f (.agg l :: rest) r := by
  obtain ⟨neg, n, hz, hm⟩ := h.h
  refine PureOK.fact he (fun hb => hf neg n hz hb) fun E S w vs hv => ?_
  match vs, hv with
  | x :: ys, ⟨h1, h2⟩ => exact ⟨⟨hm E S w x h1, h2⟩, ⟨zR_bd (hm E S w x h1)⟩⟩
attribute [local irreducible] sgn zpowv
theorem zPow {l : List Atom} {z : Int} {k : Nat} [h : ZI l z k] (n : Int) (hn0 : -9223372036854775808 ≤ n) (hn : n ≤ 9223372036854775807) (hk : k ≤ 137438953472) : PureOK Tryz.prog 188 [.agg l, .v (.int .i64 n)] (.tup [.agg (zN (zpowv z n)), .one (.c (.val (.bool (powok z.natAbs n))))]) := by
  refine z1i ⟨_, Tryz.func188, rfl, rfl⟩ fun neg x hz hx => ?_
  subst hz
  rw [← sgn_pow, sgn_natAbs]
  have hpw := pwK_eq
  refine PureOK.fn Tryz.func188 Tryz.results188 Tryz.ntmps188 rfl rfl rfl (by simp [AV.ids, AV0.ids, Atom.ids]) rfl (fun w0 T B E0 hB => ?_)
  have hr : n.tmod 2 = n.tmod 2 := rfl
  cases neg
  · repeat (first | refine SX.goZ ?_ | (refine SX.Go1.is ?_; refine SX.Go1.isCall ?_; first
          | refine SX.Go1.call rfl (mPow n hn (by omega)) rfl rfl ?_
          | refine SX.Go1.call rfl (zFrom _ (by omega)) rfl rfl ?_))
    exact RetOK.eq2 (ResOK.agg2 rfl rfl rfl) (ResOK.tmp rfl) rfl rfl
  · repeat (first | refine SX.goZ ?_ | (refine SX.Go1.is ?_; refine SX.Go1.isCall ?_; first
          | refine SX.Go1.call rfl (mPow n hn (by omega)) rfl rfl ?_
          | refine SX.Go1.call rfl (zFrom _ (by omega)) rfl rfl ?_))
    exact RetOK.eq2 (ResOK.agg2 rfl rfl rfl) (ResOK.tmp rfl) rfl rfl
end Go.Proofs.YtfhpmbenldgfnaaGreatDoor
set_option linter.unusedVariables false
set_option linter.unusedSimpArgs false
namespace Go.Proofs.YtfhpmbenldgfnaaGreatDoor
open Go.RowKit QM SX
def decW : Nat → Nat → List UInt8
  | 0, _ => []
  | n + 1, x => decW n (x / 10) ++ [UInt8.ofNat (48 + x % 10)]
theorem decW_len : ∀ n x, (decW n x).length = n
  | 0, _ => rfl
  | n + 1, x => by rw [decW, List.length_append, decW_len n]; rfl
theorem decW_add : ∀ (m n x : Nat), decW (n + m) x = decW n (x / 10 ^ m) ++ decW m (x % 10 ^ m)
  | 0, n, x => by simp [decW]
  | m + 1, n, x => by
    have e1 : x / 10 ^ (m + 1) = x / 10 / 10 ^ m := by rw [Nat.div_div_eq_div_mul, Nat.pow_succ, Nat.mul_comm]
    have e2 : x % 10 ^ (m + 1) / 10 = x / 10 % 10 ^ m := by rw [Nat.pow_succ, Nat.mul_comm, Nat.mod_mul_right_div_self]
    have e3 : x % 10 ^ (m + 1) % 10 = x % 10 := by rw [Nat.pow_succ, Nat.mul_comm, Nat.mod_mul_right_mod]
    rw [← Nat.add_assoc, decW, decW_add m n, decW, e1, e2, e3, List.append_assoc]
def dig (x : Nat) : List UInt8 := if h : x = 0 then [] else dig (x / 10) ++ [UInt8.ofNat (48 + x % 10)]
decreasing_by omega
theorem dig_zero : dig 0 = [] := by rw [dig]; rfl
theorem dig_succ {x : Nat} (h : x ≠ 0) : dig x = dig (x / 10) ++ [UInt8.ofNat (48 + x % 10)] := by rw [dig, dif_neg h]
theorem decW_zero : ∀ n, (decW n 0).all (· == 48) = true
  | 0 => rfl
  | n + 1 => by rw [decW, List.all_append, show 0 / 10 = 0 from rfl, decW_zero n]; decide
theorem dropWhile_all {p : UInt8 → Bool} : ∀ {l : List UInt8}, l.all p = true → ∀ m, (l ++ m).dropWhile p = m.dropWhile p
  | [], _, m => rfl
  | a :: l, h, m => by
    rw [List.all_cons, Bool.and_eq_true] at h
    rw [List.cons_append, List.dropWhile_cons, if_pos h.1]; exact dropWhile_all h.2 m
theorem dropWhile_ne {p : UInt8 → Bool} : ∀ {l : List UInt8} (m : List UInt8), l.dropWhile p ≠ [] → (l ++ m).dropWhile p = l.dropWhile p ++ m
  | [], m, h => absurd rfl h
  | a :: l, m, h => by
    rw [List.cons_append, List.dropWhile_cons, List.dropWhile_cons] at *
    cases hp : p a
    · simp
    · simp only [hp, if_true] at h ⊢; exact dropWhile_ne m h
theorem dig_ne {x : Nat} (h : x ≠ 0) : dig x ≠ [] := by rw [dig_succ h]; simp
theorem byte_ne {d : Nat} (h0 : d ≠ 0) (h1 : d < 10) : (UInt8.ofNat (48 + d) == 48) = false := by
  rw [beq_eq_false_iff_ne]; intro e
  have := congrArg UInt8.toNat e
  rw [UInt8.toNat_ofNat'] at this
  have h48 : (48 : UInt8).toNat = 48 := rfl
  omega
theorem decW_drop : ∀ (n x : Nat), x < 10 ^ n → (decW n x).dropWhile (· == 48) = dig x
  | 0, x, h => by
    have : x = 0 := by simpa using h
    subst this; rw [dig_zero]; rfl
  | n + 1, x, h => by
    have hx : x / 10 < 10 ^ n := by rw [Nat.pow_succ] at h; omega
    have ih := decW_drop n (x / 10) hx
    rw [decW]
    by_cases h0 : x / 10 = 0
    · rw [h0, dropWhile_all (decW_zero n)]
      by_cases hx0 : x = 0
      · subst hx0; rw [dig_zero]; decide
      · rw [dig_succ hx0, h0, dig_zero, List.dropWhile_cons, byte_ne (by omega) (by omega)]; rfl
    · rw [dropWhile_ne _ (by rw [ih]; exact dig_ne h0), ih, ← dig_succ (by omega)]
def nD : Nat → Nat
  | 0 => 18
  | j + 1 => nD j + nD j
def pw (j : Nat) : Nat := 10 ^ nD j
theorem pw_zero : pw 0 = 1000000000000000000 := rfl
theorem pw_succ (j : Nat) : pw (j + 1) = pw j * pw j := by unfold pw; rw [nD, Nat.pow_add]
theorem pw_pos (j : Nat) : 0 < pw j := Nat.pow_pos (by decide)
theorem nD_ge : ∀ j, j + 18 ≤ nD j
  | 0 => Nat.le_refl _
  | j + 1 => by have := nD_ge j; rw [nD]; omega
instance BdN.pw (j : Nat) : BdN (pw j) (nD j) := ⟨by
  show 10 ^ nD j < WB ^ nD j
  exact Nat.pow_lt_pow_left (by rw [WB_eq]; decide) (by have := nD_ge j; omega)⟩
theorem nD_bits (j : Nat) : nD j ≤ bitLen (pw j) := by
  have h := (bitLen_spec (pw j)).1
  have h2 : 2 ^ nD j ≤ pw j := Nat.pow_le_pow_left (by decide) _
  exact Nat.le_of_lt ((Nat.pow_lt_pow_iff_right (by decide)).1 (Nat.lt_of_le_of_lt h2 h))
theorem bits_le {x k : Nat} (h : x < WB ^ k) : bitLen x ≤ 64 * k := by
  have hs := (bitLen_spec x).2
  by_cases h0 : x = 0
  · subst h0; exact Nat.zero_le _
  · have h1 := hs h0
    have e : WB ^ k = 2 ^ (64 * k) := by rw [Nat.pow_mul]; rfl
    rw [e] at h
    have := (Nat.pow_lt_pow_iff_right (a := 2) (by decide)).1 (Nat.lt_of_le_of_lt h1 h)
    omega
def pwM (x : Nat) : Nat → Nat → Nat
  | 0, j => j
  | f + 1, j => if 2 * bitLen (pw j) ≤ bitLen x + 1 then pwM x f (j + 1) else j
def pwm (x : Nat) : Nat := pwM x (bitLen x + 2) 0
theorem pw_enough {x j : Nat} (h : ¬ 2 * bitLen (pw j) ≤ bitLen x + 1) : x < pw (j + 1) := by
  have h1 := (bitLen_spec x).1
  have h2 := (bitLen_spec (pw j)).2 (Nat.ne_of_gt (pw_pos j))
  have h3 := nD_bits j
  have h4 := nD_ge j
  rw [pw_succ]
  refine Nat.lt_of_lt_of_le h1 (Nat.le_trans ?_ (Nat.mul_le_mul h2 h2))
  rw [← Nat.pow_add]
  exact Nat.pow_le_pow_right (by decide) (by omega)
def decS (x : Nat) : List UInt8 := if x = 0 then [48] else dig x
theorem dig_len {x n : Nat} (h : x < 10 ^ n) : (dig x).length ≤ n := by
  rw [← decW_drop n x h]
  exact Nat.le_trans (List.dropWhile_sublist _).length_le (Nat.le_of_eq (decW_len n x))
end Go.Proofs.YtfhpmbenldgfnaaGreatDoor
set_option linter.unusedVariables false
set_option linter.unusedSimpArgs false
namespace Go.Proofs.YtfhpmbenldgfnaaGreatDoor
open Go.RowKit QM SX
attribute [local irreducible] IntKind.wrap Go1 Reg WP thenK inBlk retQ retF RetF RetOK ResOK CallOK OpOK Sat
attribute [local irreducible] decW pw nD pwM pwm decS
section
variable {a b : CA} {x y k m : Nat}
instance con_nBits [ha : NI a x k] : Con Tryz.prog 89 [.it (.one (.c a))] (k ≤ 1099511627775) (.v (.int .i64 (bitLen x : Int))) := ⟨fun h => nBits h⟩
instance con_mSquare [ha : NI a x k] : Con Tryz.prog 225 [.it (.one (.c a))] (k + k ≤ 274877906944) (.r (nrmN (x * x))) := ⟨fun h => mSquare h⟩
end
theorem decW_z (x : Nat) : decW 0 x = [] := by unfold decW; rfl
theorem decW_s (n x : Nat) : decW (n + 1) x = decW n (x / 10) ++ [UInt8.ofNat (48 + x % 10)] := by rw [decW]
theorem pureS {f : FuncId} {args : List Value} {r : Value} (he : ∃ fn, Tryz.prog.funcs[f]? = some fn ∧ (fn.name == "runtime.NumGoroutine") = false ∧ fn.body.isNone = false) (h : ∀ w, Calls Tryz.prog f args.toArray w fun e w' => e = .returned r ∧ w' = w) : PureOK Tryz.prog f (args.map AV.v) (.v r) :=
  PureOK.of_calls he rfl fun E S w vs hl hv => by
    have hvs : vs = args := by
      clear h
      induction args generalizing vs with
      | nil => cases vs with | nil => rfl | cons _ _ => exact hv.elim
      | cons a l ih => cases vs with | nil => exact hv.elim | cons b m => rw [ih m hv.2, show b = a from hv.1]
    subst hvs
    exact (h w).mono fun e w' ⟨h1, h2⟩ => ⟨r, h1, rfl, by subst h2; exact Off.refl _ _⟩
theorem byte48 (d : Nat) : ((UInt8.ofNat (48 + d % 10)).toNat : Int) = ((48 + d % 10 : Nat) : Int) := by
  rw [UInt8.toNat_ofNat']; omega
theorem con_word (x : Nat) (hx : x < WB) : OwnOK Tryz.prog 224 [.v (.int .u64 (x : Int))] 5 1 18 ((decW 18 x).flatMap bytC) := by
  rw [WB_eq] at hx
  refine OwnOK.fnF Tryz.func224 Tryz.results224 Tryz.ntmps224 rfl rfl rfl (by simp [AV.ids, AV0.ids, Atom.ids]) (fun w0 T B E0 hB => ?_)
  refine SX.go2 ?_
  refine W.loop3 (fun (k y : Nat) (tl : List UInt8) => k + tl.length = 18 ∧ y < 18446744073709551616 ∧ decW k y ++ tl = decW 18 x) (fun k y tl => [(0, .v (.int .u64 (y : Int))), (3, .own 100), (4, .v (.int .i64 ((k : Int) - 1)))])
    (fun k y tl => [(100, .row 5 1 18 ((List.replicate k 0 ++ tl).flatMap bytC))]) (fun k _ _ => k) 18 x [] ⟨rfl, hx, by simp⟩ (fun k y tl ⟨hk, hy, hd⟩ => ?_)
  cases k with
  | zero =>
    have e : (List.replicate 0 0 ++ tl).flatMap bytC = (decW 18 x).flatMap bytC := by rw [← hd, decW_z]; rfl
    refine SX.go2 ?_
    exact retO
  | succ k =>
    rw [show ((k + 1 : Nat) : Int) - 1 = (k : Int) by omega]
    have e : spl ((List.replicate (k + 1) 0 ++ tl).flatMap bytC) (k * 1) [.val (.int .u8 ((48 + y % 10 : Nat) : Int))] = (List.replicate k 0 ++ (UInt8.ofNat (48 + y % 10) :: tl)).flatMap bytC := by
      rw [← byte48, show [CA.val (.int .u8 ((UInt8.ofNat (48 + y % 10)).toNat : Int))] = bytC (UInt8.ofNat (48 + y % 10)) from rfl, flat_set _ _ _ (by simp; omega), List.replicate_succ']
      congr 1
      rw [List.append_assoc, List.set_append_right _ _ (by simp)]
      simp
    refine SX.go2 ?_
    -- ??
    exact W.next3 k (y / 10) (UInt8.ofNat (48 + y % 10) :: tl) ⟨by simp at hk ⊢; omega, by omega, by rw [← hd, decW_s]; simp⟩ (by omega)
def natC (n : Nat) : List CA := [.sat (nrmN n)]
instance : EncLen natC 1 := ⟨fun _ => rfl⟩
def pws (j : Nat) : List Nat := (List.range j).map pw
theorem pws_len (j : Nat) : (pws j).length = j := by simp [pws]
theorem pws_get {i j : Nat} (h : i < j) : (pws j)[i]? = some (pw i) := by simp [pws, h]
theorem pws_take {i j : Nat} (h : i ≤ j) : (pws j).take i = pws i := by
  unfold pws; rw [← List.map_take, List.take_range, Nat.min_eq_left h]
theorem pws_succ (j : Nat) : pws (j + 1) = pws j ++ [pw j] := by simp [pws, List.range_succ]
theorem pw_zero' : pw 0 = 1000000000000000000 := pw_zero
theorem con_powers {a : CA} {x k : Nat} [ha : NI a x k] (hx : x < WB ^ k) (hk : k ≤ 1000000000) : PureOK Tryz.prog 194 [.it (.one (.c a))] (.r (rowR 1 natC (pws (pwm x + 1)))) := by
  have cO : PureOK Tryz.prog 65 [.v (.int .u64 1000000000000000000)] (.r (nrmN (pw 0))) := by rw [pw_zero]; exact nOf 1000000000000000000 (by rw [WB_eq]; decide)
  have hb := bits_le hx
  have mark : OwnLit 5 := ⟨⟩
  have e0 : [CA.sat (nrmN (pw 0))] = (pws (0 + 1)).flatMap natC := rfl
  refine PureOK.fnF Tryz.func194 Tryz.results194 Tryz.ntmps194 rfl rfl rfl (by simp [AV.ids, AV0.ids, Atom.ids]) rfl (fun w0 T B E0 hB => ?_)
  refine SX.go2 ?_
  have hpm : pwM x (bitLen x + 2) 0 = pwm x := by unfold pwm; rfl
  refine W.loop2 (fun (j f : Nat) => (j = 0 ∨ nD j ≤ bitLen x + 1) ∧ pwM x f j = pwm x ∧ f + j = bitLen x + 2) (fun j f => [(0, .it (.one (.c a))), (3, .own 100)]) (fun j f => [(100, .row 23 1 (j + 1) ((pws (j + 1)).flatMap natC))]) (fun j f => f) 0 (bitLen x + 2) ⟨.inl rfl, hpm, rfl⟩ (fun j f ⟨h1, h2, h3⟩ => ?_)
  have hn : nD j ≤ 64000000001 := by
    rcases h1 with rfl | h1
    · have : nD 0 = 18 := by unfold nD; rfl
      omega
    · omega
  have hg : (pws (j + 1))[j + 1 - 1]? = some (pw j) := pws_get (by omega)
  have hbp := nD_bits j
  have hbj := nD_ge j
  have hbu := bits_le (BdN.pw j).h
  by_cases hq : 2 * bitLen (pw j) ≤ bitLen x + 1
  · cases f with
    | zero => exact absurd hq (by omega)
    | succ f =>
      have e1 : (pws (j + 1)).flatMap natC ++ [CA.sat (nrmN (pw j * pw j))] = (pws (j + 1 + 1)).flatMap natC := by
        rw [pws_succ (j + 1), List.flatMap_append, pw_succ]; rfl
      have h2' : pwM x f (j + 1) = pwm x := by rw [← h2]; conv => rhs; unfold pwM; rw [if_pos hq]
      have hs : nD (j + 1) = nD j + nD j := by conv => lhs; unfold nD
      refine SX.go2 ?_
      exact W.next2 (j + 1) f ⟨.inr (by omega), h2', by omega⟩ (by omega)
  · have hjm : j = pwm x := by
      rw [← h2]
      cases f with
      | zero => unfold pwM; rfl
      | succ f => conv => rhs; unfold pwM; rw [if_neg hq]
    refine SX.go2 ?_
    refine RetF.frz 100 ?_
    refine ret1' ?_
    rw [← hjm]
    show AV0.imp _ (.one (.c (.sat (sliceR 1 (pws (j + 1)).length ((pws (j + 1)).flatMap natC)))))
    rw [pws_len]; exact AV0.imp.refl _
theorem con_digits : ∀ (j : Nat) {a : CA} {x k : Nat} [ha : NI a x k] (L : List Nat), L = pws j → x < pw j → nD j ≤ 200000000000 → k ≤ 500000000000 →
    OwnOK Tryz.prog 193 [.it (.one (.c a)), .r (rowR 1 natC L)] 5 1 (nD j) ((decW (nD j) x).flatMap bytC)
  | 0, a, x, k, ha, L, hL, hx, hn, hk => by
    have e18 : nD 0 = 18 := by unfold nD; rfl
    have hxw : x < WB := by rw [pw_zero'] at hx; rw [WB_eq]; omega
    have cW := nWord (a := a) (x := x) (k := k) (by omega)
    rw [if_pos hxw] at cW
    have cw := con_word x hxw
    have hl0 : L.length = 0 := by rw [hL, pws_len]
    rw [e18]
    refine OwnOK.fnF Tryz.func193 Tryz.results193 Tryz.ntmps193 rfl rfl rfl (by simp [AV.ids, AV0.ids, Atom.ids]) (fun w0 T B E0 hB => ?_)
    refine SX.go2 ?_
    exact retO
  | j + 1, a, x, k, ha, L, hL, hx, hn, hk => by
    have hs : nD (j + 1) = nD j + nD j := by conv => lhs; unfold nD
    have hj := nD_ge j
    have hl1 : L.length = j + 1 := by rw [hL, pws_len]
    have hg : L[L.length - 1]? = some (pw j) := by rw [hl1, hL]; exact pws_get (by omega)
    have ht : L.take (L.length - 1) = pws j := by rw [hl1, hL]; exact pws_take (by omega)
    have hp := pw_pos j
    rw [pw_succ] at hx
    have hq : x / pw j < pw j := Nat.div_lt_of_lt_mul hx
    have hr : x % pw j < pw j := Nat.mod_lt _ hp
    have cD := dDivMod (a := a) (x := x) (k := k) (b := .sat (nrmN (pw j))) (y := pw j) (m := nD j) (by omega)
    rw [if_neg (by omega)] at cD
    haveI b1 : BdN (x / pw j) (nD j) := ⟨Nat.lt_trans hq (BdN.pw j).h⟩
    haveI b2 : BdN (x % pw j) (nD j) := ⟨Nat.lt_trans hr (BdN.pw j).h⟩
    have c1 := con_digits j (a := .sat (nrmN (x / pw j))) (k := nD j) (L.take (L.length - 1)) ht hq (by omega) (by omega)
    have c2 := (con_digits j (a := .sat (nrmN (x % pw j))) (k := nD j) (L.take (L.length - 1)) ht hr (by omega) (by omega)).pure
    have e1 : (decW (nD j) (x / pw j)).flatMap bytC ++ (decW (nD j) (x % pw j)).flatMap bytC = (decW (nD j + nD j) x).flatMap bytC := by
      rw [decW_add, List.flatMap_append, show 10 ^ nD j = pw j by unfold pw; rfl]
    rw [hs]
    refine OwnOK.fnF Tryz.func193 Tryz.results193 Tryz.ntmps193 rfl rfl rfl (by simp [AV.ids, AV0.ids, Atom.ids]) (fun w0 T B E0 hB => ?_)
    refine SX.go2 ?_
    exact retO
theorem con_TrimLeft (l : List UInt8) : PureOK Tryz.prog 192 [.v (str l), .v (str [48])] (.v (str (l.dropWhile (· == 48)))) :=
  pureS (args := [str l, str [48]]) ⟨_, Tryz.func192, rfl, rfl⟩ fun w => (Tryz.strings_TrimLeft_one ⟨⟨l⟩⟩ 48 (by decide) w).mono fun e w' ⟨h1, h2⟩ => ⟨h1, h2⟩
theorem pwm_lt (x : Nat) : x < pw (pwm x + 1) := by
  have key : ∀ (f j : Nat), f + j = bitLen x + 2 → ¬ 2 * bitLen (pw (pwM x f j)) ≤ bitLen x + 1 := by
    intro f
    induction f with
    | zero =>
      intro j hj
      have h1 := nD_bits j
      have h2 := nD_ge j
      unfold pwM; omega
    | succ f ih =>
      intro j hj
      unfold pwM
      split
      · exact ih (j + 1) (by omega)
      · assumption
  have := key (bitLen x + 2) 0 rfl
  exact pw_enough (by unfold pwm; exact this)
theorem pwm_nD {x k : Nat} (hx : x < WB ^ k) (hk : k ≤ 1000000000) : nD (pwm x + 1) ≤ 200000000000 := by
  have hb := bits_le hx
  have key : ∀ (f j : Nat), (j = 0 ∨ nD j ≤ bitLen x + 1) → nD (pwM x f j) ≤ 64000000001 := by
    intro f
    induction f with
    | zero =>
      intro j hj
      unfold pwM
      rcases hj with rfl | hj
      · have : nD 0 = 18 := by unfold nD; rfl
        omega
      · omega
    | succ f ih =>
      intro j hj
      unfold pwM
      split
      · rename_i h
        have h1 := nD_bits j
        exact ih (j + 1) (.inr (by conv => lhs; unfold nD
                                   omega))
      · rcases hj with rfl | hj
        · have : nD 0 = 18 := by unfold nD; rfl
          omega
        · omega
  have h1 := key (bitLen x + 2) 0 (.inl rfl)
  have h2 : nD (pwm x + 1) = nD (pwm x) + nD (pwm x) := by conv => lhs; unfold nD
  have h3 : nD (pwm x) ≤ 64000000001 := by unfold pwm; exact h1
  omega
theorem con_Print {a : CA} {x k : Nat} [ha : NI a x k] (hx : x < WB ^ k) (hk : k ≤ 1000000000) : PureOK Tryz.prog 123 [.it (.one (.c a))] (.v (str (decS x))) := by
  have cP := con_powers (a := a) hx hk
  have cD := (con_digits (pwm x + 1) (a := a) (k := k) (pws (pwm x + 1)) rfl (pwm_lt x) (pwm_nD hx hk) (by omega)).pure
  have el : nD (pwm x + 1) = (decW (nD (pwm x + 1)) x).length := (decW_len _ _).symm
  have cD' : PureOK Tryz.prog 193 [.it (.one (.c a)), .r (rowR 1 natC (pws (pwm x + 1)))] (.r (rowR 1 bytC (decW (nD (pwm x + 1)) x))) := by
    show PureOK _ _ _ (.r (sliceR 1 (decW (nD (pwm x + 1)) x).length _))
    rw [decW_len]; exact cD
  clear cD
  have cT := con_TrimLeft (decW (nD (pwm x + 1)) x)
  have hd := decW_drop (nD (pwm x + 1)) x (by have := pwm_lt x; unfold pw at this; exact this)
  rw [hd] at cT
  have hS : decS x = if x = 0 then [48] else dig x := by unfold decS; rfl
  refine PureOK.fnF Tryz.func123 Tryz.results123 Tryz.ntmps123 rfl rfl rfl (by simp [AV.ids, AV0.ids, Atom.ids]) rfl (fun w0 T B E0 hB => ?_)
  by_cases h0 : x = 0
  · have hz : decide (dig x = []) = true := by subst h0; rw [dig_zero]; rfl
    refine SX.go2 ?_
    refine retS ?_; rw [hS, if_pos h0]
  · have hz : decide (dig x = []) = false := decide_eq_false (dig_ne h0)
    refine SX.go2 ?_
    refine retS ?_; rw [hS, if_neg h0]
end Go.Proofs.YtfhpmbenldgfnaaGreatDoor
set_option linter.unusedVariables false
set_option linter.unusedSimpArgs false
namespace Go.Proofs.YtfhpmbenldgfnaaGreatDoor
open Go.RowKit QM SX
attribute [local irreducible] IntKind.wrap Go1 Reg WP thenK inBlk retQ retF RetF RetOK ResOK CallOK OpOK Sat
section
variable {l l' : List Atom} {a : CA} {x y : Int} {n k m : Nat}
instance con_zSign [h : ZI l x k] : Con Tryz.prog 63 [.agg l] (k ≤ 1099511627775) (.v (.int .i64 (isign x))) := ⟨fun h => zSign h⟩
instance con_zNeg [h : ZI l x k] : Con Tryz.prog 67 [.agg l] (k ≤ 1099511627775) (.agg (zN (-x))) := ⟨fun h => zNeg h⟩
instance con_zOf : Con Tryz.prog 23 [.v (.int .i64 x)] (-9223372036854775808 ≤ x ∧ x ≤ 9223372036854775807) (.agg (zN x)) := ⟨fun h => zOf x h.1 h.2⟩
instance con_zAdd [h : ZI l x k] [h' : ZI l' y m] : Con Tryz.prog 131 [.agg l, .agg l'] (k + m ≤ 1099511627774) (.agg (zN (x + y))) := ⟨fun h => zAdd h⟩
instance con_zSub [h : ZI l x k] [h' : ZI l' y m] : Con Tryz.prog 127 [.agg l, .agg l'] (k + m ≤ 1099511627774) (.agg (zN (x - y))) := ⟨fun h => zSub h⟩
instance con_zMul [h : ZI l x k] [h' : ZI l' y m] : Con Tryz.prog 128 [.agg l, .agg l'] (k + m ≤ 274877906944) (.agg (zN (x * y))) := ⟨fun h => zMul h⟩
instance con_zSame [h : ZI l x k] [h' : ZI l' y m] : Con Tryz.prog 122 [.agg l, .agg l'] (k + m ≤ 1099511627774) (.v (.bool (decide (x = y)))) := ⟨fun h => zSame h⟩
instance con_zBits [h : ZI l x k] : Con Tryz.prog 39 [.agg l] (k ≤ 1099511627775) (.v (.int .i64 (bitLen x.natAbs : Int))) := ⟨fun h => zBits h⟩
instance con_zExact [h : ZI l x k] [h' : ZI l' y m] : Con Tryz.prog 58 [.agg l, .agg l'] (k + m ≤ 1099511627760) (.tup [.agg (zN (zexq x y)), .one (.c (.val (.bool (zexok x y))))]) := ⟨fun h => zExact h⟩
instance con_zGcd [h : ZI l x k] [h' : ZI l' y m] : Con Tryz.prog 68 [.agg l, .agg l'] (k + m ≤ 1099511627760) (.agg (zN (Int.gcd x y : Int))) := ⟨fun h => zGcd h⟩
instance con_zPow [h : ZI l x k] : Con Tryz.prog 188 [.agg l, .v (.int .i64 y)] (-9223372036854775808 ≤ y ∧ y ≤ 9223372036854775807 ∧ k ≤ 137438953472) (.tup [.agg (zN (zpowv x y)), .one (.c (.val (.bool (powok x.natAbs y))))]) := ⟨fun h => zPow y h.1 h.2.1 h.2.2⟩
instance con_zFrom [h : NI a n k] (neg : Bool) : Con Tryz.prog 64 [.it (.one (.c a)), .v (.bool neg)] (k ≤ 1099511627775) (.agg (zN (sgn neg n))) := ⟨fun h => zFrom neg h⟩
end
theorem isign0 (z : Int) : isign z = 0 ↔ z = 0 := by unfold isign; (repeat' split) <;> omega
theorem isignN (z : Int) : isign z < 0 ↔ z < 0 := by unfold isign; (repeat' split) <;> omega
theorem isign_mulw (a b : Int) : IntKind.i64.wrap (isign a * isign b) = isign (a * b) := by
  have h : isign a * isign b = isign (a * b) := by
    unfold isign
    by_cases ha : a = 0
    · simp [ha]
    · by_cases hb : b = 0
      · simp [hb]
      · have hab : a * b ≠ 0 := Int.mul_ne_zero ha hb
        rw [if_neg ha, if_neg hb, if_neg hab]
        by_cases h1 : a < 0
        · by_cases h2 : b < 0
          · have := Int.mul_pos_of_neg_of_neg h1 h2
            rw [if_pos h1, if_pos h2, if_neg (by omega)]; rfl
          · have := Int.mul_neg_of_neg_of_pos h1 (show 0 < b by omega)
            rw [if_pos h1, if_neg h2, if_pos (by omega)]; rfl
        · by_cases h2 : b < 0
          · have := Int.mul_neg_of_pos_of_neg (show 0 < a by omega) h2
            rw [if_neg h1, if_pos h2, if_pos (by omega)]; rfl
          · have := Int.mul_pos (show 0 < a by omega) (show 0 < b by omega)
            rw [if_neg h1, if_neg h2, if_neg (by omega)]; rfl
  rw [h]
  have h1 : -1 ≤ isign (a * b) ∧ isign (a * b) ≤ 1 := by unfold isign; (repeat' split) <;> omega
  exact wrapI64 (by omega) (by omega)
def zS (z : Int) : List UInt8 := if z < 0 then 45 :: decS z.natAbs else decS z.natAbs
theorem decS_len {x k : Nat} (h : x < WB ^ k) : (decS x).length ≤ 20 * k + 1 := by
  unfold decS
  split
  · simp
  · have : WB ^ k ≤ 10 ^ (20 * k) := by rw [Nat.pow_mul]; exact Nat.pow_le_pow_left (by rw [WB_eq]; decide) _
    have := dig_len (Nat.lt_of_lt_of_le h this)
    omega
theorem zS_len {z : Int} {k : Nat} [h : Bd z k] : (zS z).length ≤ 20 * k + 2 := by
  have := decS_len h.h
  unfold zS; split
  · rw [List.length_cons]; omega
  · omega
instance con_zPrint {l : List Atom} {z : Int} {k : Nat} [h : ZI l z k] : Con Tryz.prog 52 [.agg l] (k ≤ 1000000000) (.v (str (zS z))) := ⟨fun hk => by
  refine z1 ⟨_, Tryz.func52, rfl, rfl⟩ fun neg n hz hn => ?_
  subst hz
  have hb := (inferInstance : BdN n k).h
  have cP := con_Print (a := .sat (natR n k)) hb hk
  have hl := decS_len hb
  have hS : zS (sgn neg n) = if sgn neg n < 0 then 45 :: decS n else decS n := by unfold zS; rw [sgn_natAbs]
  have hs := isignN (sgn neg n)
  refine PureOK.fnF Tryz.func52 Tryz.results52 Tryz.ntmps52 rfl rfl rfl (by simp [AV.ids, AV0.ids, Atom.ids]) rfl (fun w0 T B E0 hB => ?_)
  by_cases h0 : sgn neg n < 0
  · refine SX.go2 ?_
    refine retS ?_; rw [hS, if_pos h0]; rfl
  · refine SX.go2 ?_
    refine retS ?_; rw [hS, if_neg h0]⟩
def rmk (x y : Int) : Int × Int := if y = 0 then (0, 1) else if y < 0 then (zexq (-x) (Int.gcd (-x) (-y)), zexq (-y) (Int.gcd (-x) (-y))) else (zexq x (Int.gcd x y), zexq y (Int.gcd x y))
abbrev ratA (q : Int × Int) : List Atom := [.c (.val (.bool (decide (q.1 < 0)))), .c (.sat (nrmN q.1.natAbs)), .c (.val (.bool (decide (q.2 < 0)))), .c (.sat (nrmN q.2.natAbs))]
instance Bd.rmk1 (x y : Int) (k m : Nat) [h : Bd x k] [h' : Bd y m] : Bd (rmk x y).1 (k + m + 1) := ⟨by
  unfold rmk; repeat' split
  · exact Bd.mono (Bd.zero).h (by omega)
  · exact Bd.mono (Bd.zexq (-x) _ k).h (by omega)
  · exact Bd.mono (Bd.zexq x _ k).h (by omega)⟩
instance Bd.rmk2 (x y : Int) (k m : Nat) [h : Bd x k] [h' : Bd y m] : Bd (rmk x y).2 (k + m + 1) := ⟨by
  unfold rmk; repeat' split
  · exact Bd.mono (Bd.one).h (by omega)
  · exact Bd.mono (Bd.zexq (-y) _ m).h (by omega)
  · exact Bd.mono (Bd.zexq y _ m).h (by omega)⟩
instance con_rOf {l : List Atom} {z : Int} {k : Nat} [h : ZI l z k] : Con Tryz.prog 36 [.agg l] (k ≤ 1000000000) (.agg (ratA (z, 1))) := ⟨fun hk => by
  refine z1 ⟨_, Tryz.func36, rfl, rfl⟩ fun neg n hz hn => ?_
  subst hz
  refine PureOK.fnF Tryz.func36 Tryz.results36 Tryz.ntmps36 rfl rfl rfl (by simp [AV.ids, AV0.ids, Atom.ids]) rfl (fun w0 T B E0 hB => ?_)
  refine SX.go2 ?_
  exact retA (ResOK.agg4 rfl rfl rfl) rfl⟩
instance con_rZero : Con Tryz.prog 66 [] True (.agg (ratA (0, 1))) := ⟨fun hk => by
  refine PureOK.fnF Tryz.func66 Tryz.results66 Tryz.ntmps66 rfl rfl rfl (by simp [AV.ids, AV0.ids, Atom.ids]) rfl (fun w0 T B E0 hB => ?_)
  refine SX.go2 ?_
  exact retA (ResOK.agg4 rfl rfl rfl) rfl⟩
instance con_rMake {l l' : List Atom} {x y : Int} {k m : Nat} [h : ZI l x k] [h' : ZI l' y m] : Con Tryz.prog 24 [.agg l, .agg l'] (k + m ≤ 1000000000) (.tup [.agg (ratA (rmk x y)), .one (.c (.val (.bool (decide (y ≠ 0)))))]) := ⟨fun hk => by
  refine z2 ⟨_, Tryz.func24, rfl, rfl⟩ fun neg n neg2 n2 hz hz2 hn hn2 => ?_
  subst hz; subst hz2
  have hs0 := isign0 (sgn neg2 n2)
  have hsn := isignN (sgn neg2 n2)
  refine PureOK.fnF Tryz.func24 Tryz.results24 Tryz.ntmps24 rfl rfl rfl (by simp [AV.ids, AV0.ids, Atom.ids]) rfl (fun w0 T B E0 hB => ?_)
  by_cases h0 : sgn neg2 n2 = 0
  · refine SX.go2 ?_
    have e : rmk (sgn neg n) (sgn neg2 n2) = (0, 1) := by unfold rmk; rw [if_pos h0]
    rw [e]
    exact ret2' (ResOK.agg4 rfl rfl rfl) (ResOK.tmp rfl) (AV0.imp.refl _) (AV0.imp.of_eq (cb (by simp [h0])))
  · by_cases h1 : sgn neg2 n2 < 0
    · refine SX.go2 ?_
      have e : rmk (sgn neg n) (sgn neg2 n2) = (zexq (-sgn neg n) (Int.gcd (-sgn neg n) (-sgn neg2 n2)), zexq (-sgn neg2 n2) (Int.gcd (-sgn neg n) (-sgn neg2 n2))) := by unfold rmk; rw [if_neg h0, if_pos h1]
      rw [e]
      exact ret2' (ResOK.agg4 rfl rfl rfl) (ResOK.tmp rfl) (AV0.imp.refl _) (AV0.imp.of_eq (cb (by simp [h0])))
    · refine SX.go2 ?_
      have e : rmk (sgn neg n) (sgn neg2 n2) = (zexq (sgn neg n) (Int.gcd (sgn neg n) (sgn neg2 n2)), zexq (sgn neg2 n2) (Int.gcd (sgn neg n) (sgn neg2 n2))) := by unfold rmk; rw [if_neg h0, if_neg h1]
      rw [e]
      exact ret2' (ResOK.agg4 rfl rfl rfl) (ResOK.tmp rfl) (AV0.imp.refl _) (AV0.imp.of_eq (cb (by simp [h0])))⟩
theorem q1 {f : FuncId} {r : AV} {x0 x1 x2 x3 : Atom} {p q : Int} {k m : Nat} [h : ZI [x0, x1] p k] [h' : ZI [x2, x3] q m] (he : ∃ fn, Tryz.prog.funcs[f]? = some fn ∧ (fn.name == "runtime.NumGoroutine") = false ∧ fn.body.isNone = false)
    (hf : ∀ neg n neg' n', p = sgn neg n → q = sgn neg' n' → BdN n k → BdN n' m → PureOK Tryz.prog f [.agg (zR neg n k ++ zR neg' n' m)] r) : PureOK Tryz.prog f [.agg [x0, x1, x2, x3]] r := by
  obtain ⟨neg, n, hz, hm⟩ := h.h
  obtain ⟨neg', n', hz', hm'⟩ := h'.h
  refine PureOK.fact (φ := BdN n k ∧ BdN n' m) he (fun hb => hf neg n neg' n' hz hz' hb.1 hb.2) fun E S w vs hv => ?_
  match vs, hv with
  | [_], ⟨⟨[v0, v1, v2, v3], rfl, h0, h1, h2, h3, _⟩, _⟩ =>
    have a1 := hm E S w _ ⟨[v0, v1], rfl, h0, h1, trivial⟩
    have a2 := hm' E S w _ ⟨[v2, v3], rfl, h2, h3, trivial⟩
    refine ⟨⟨⟨[v0, v1, v2, v3], rfl, ?_⟩, trivial⟩, ⟨zR_bd a1⟩, ⟨zR_bd a2⟩⟩
    obtain ⟨us, e1, b1⟩ := a1
    obtain ⟨us', e2, b2⟩ := a2
    match us, us', b1, b2 with
    | [_, _], [_, _], ⟨c0, c1, _⟩, ⟨d0, d1, _⟩ =>
      cases e1; cases e2
      exact ⟨c0, c1, d0, d1, trivial⟩
theorem q2 {f : FuncId} {r : AV} {x0 x1 x2 x3 y0 y1 y2 y3 : Atom} {p q p' q' : Int} {k m k' m' : Nat} [h : ZI [x0, x1] p k] [h' : ZI [x2, x3] q m] [g : ZI [y0, y1] p' k'] [g' : ZI [y2, y3] q' m'] (he : ∃ fn, Tryz.prog.funcs[f]? = some fn ∧ (fn.name == "runtime.NumGoroutine") = false ∧ fn.body.isNone = false)
    (hf : ∀ neg n neg' n' neg2 n2 neg3 n3, p = sgn neg n → q = sgn neg' n' → p' = sgn neg2 n2 → q' = sgn neg3 n3 → BdN n k → BdN n' m → BdN n2 k' → BdN n3 m' → PureOK Tryz.prog f [.agg (zR neg n k ++ zR neg' n' m), .agg (zR neg2 n2 k' ++ zR neg3 n3 m')] r) : PureOK Tryz.prog f [.agg [x0, x1, x2, x3], .agg [y0, y1, y2, y3]] r := by
  obtain ⟨neg, n, hz, hm⟩ := h.h
  obtain ⟨neg', n', hz', hm'⟩ := h'.h
  obtain ⟨neg2, n2, hz2, hm2⟩ := g.h
  obtain ⟨neg3, n3, hz3, hm3⟩ := g'.h
  refine PureOK.fact (φ := BdN n k ∧ BdN n' m ∧ BdN n2 k' ∧ BdN n3 m') he (fun hb => hf neg n neg' n' neg2 n2 neg3 n3 hz hz' hz2 hz3 hb.1 hb.2.1 hb.2.2.1 hb.2.2.2) fun E S w vs hv => ?_
  match vs, hv with
  | [_, _], ⟨⟨[v0, v1, v2, v3], rfl, h0, h1, h2, h3, _⟩, ⟨[w0, w1, w2, w3], rfl, i0, i1, i2, i3, _⟩, _⟩ =>
    have a1 := hm E S w _ ⟨[v0, v1], rfl, h0, h1, trivial⟩
    have a2 := hm' E S w _ ⟨[v2, v3], rfl, h2, h3, trivial⟩
    have a3 := hm2 E S w _ ⟨[w0, w1], rfl, i0, i1, trivial⟩
    have a4 := hm3 E S w _ ⟨[w2, w3], rfl, i2, i3, trivial⟩
    refine ⟨⟨⟨[v0, v1, v2, v3], rfl, ?_⟩, ⟨[w0, w1, w2, w3], rfl, ?_⟩, trivial⟩, ⟨zR_bd a1⟩, ⟨zR_bd a2⟩, ⟨zR_bd a3⟩, ⟨zR_bd a4⟩⟩
    · obtain ⟨us, e1, b1⟩ := a1
      obtain ⟨us', e2, b2⟩ := a2
      match us, us', b1, b2 with
      | [_, _], [_, _], ⟨c0, c1, _⟩, ⟨d0, d1, _⟩ =>
        cases e1; cases e2
        exact ⟨c0, c1, d0, d1, trivial⟩
    · obtain ⟨us, e1, b1⟩ := a3
      obtain ⟨us', e2, b2⟩ := a4
      match us, us', b1, b2 with
      | [_, _], [_, _], ⟨c0, c1, _⟩, ⟨d0, d1, _⟩ =>
        cases e1; cases e2
        exact ⟨c0, c1, d0, d1, trivial⟩
attribute [irreducible] rmk
section
variable {x0 x1 x2 x3 y0 y1 y2 y3 : Atom} {p q r s : Int} {k m k' m' : Nat}
abbrev qn (p q : Int) : Int × Int := rmk p q
instance con_rNorm [h : ZI [x0, x1] p k] [h' : ZI [x2, x3] q m] : Con Tryz.prog 121 [.agg [x0, x1, x2, x3]] (k + m ≤ 1000000000) (.agg (ratA (rmk p q))) := ⟨fun hk => by
  refine q1 ⟨_, Tryz.func121, rfl, rfl⟩ fun neg n neg2 n2 hz hz2 hn hn2 => ?_
  subst hz; subst hz2
  refine PureOK.fnF Tryz.func121 Tryz.results121 Tryz.ntmps121 rfl rfl rfl (by simp [AV.ids, AV0.ids, Atom.ids]) rfl (fun w0 T B E0 hB => ?_)
  refine SX.go2 ?_
  exact retA (ResOK.agg4 rfl rfl rfl) rfl⟩
instance con_rSign [h : ZI [x0, x1] p k] [h' : ZI [x2, x3] q m] : Con Tryz.prog 21 [.agg [x0, x1, x2, x3]] (k + m ≤ 1000000000) (.v (.int .i64 (isign (p * q)))) := ⟨fun hk => by
  refine q1 ⟨_, Tryz.func21, rfl, rfl⟩ fun neg n neg2 n2 hz hz2 hn hn2 => ?_
  subst hz; subst hz2
  have hw : IntKind.i64.wrap (isign (sgn neg n) * isign (sgn neg2 n2)) = isign (sgn neg n * sgn neg2 n2) := isign_mulw _ _
  refine PureOK.fnF Tryz.func21 Tryz.results21 Tryz.ntmps21 rfl rfl rfl (by simp [AV.ids, AV0.ids, Atom.ids]) rfl (fun w0 T B E0 hB => ?_)
  refine SX.go2 ?_
  exact retI rfl⟩
instance con_rNeg [h : ZI [x0, x1] p k] [h' : ZI [x2, x3] q m] : Con Tryz.prog 124 [.agg [x0, x1, x2, x3]] (k + m ≤ 1000000000) (.agg (ratA (-(rmk p q).1, (rmk p q).2))) := ⟨fun hk => by
  refine q1 ⟨_, Tryz.func124, rfl, rfl⟩ fun neg n neg2 n2 hz hz2 hn hn2 => ?_
  subst hz; subst hz2
  refine PureOK.fnF Tryz.func124 Tryz.results124 Tryz.ntmps124 rfl rfl rfl (by simp [AV.ids, AV0.ids, Atom.ids]) rfl (fun w0 T B E0 hB => ?_)
  refine SX.go2 ?_
  exact retA (ResOK.agg4 rfl rfl rfl) rfl⟩
def qadd (p q r s : Int) : Int × Int := rmk ((rmk p q).1 * (rmk r s).2 + (rmk r s).1 * (rmk p q).2) ((rmk p q).2 * (rmk r s).2)
def qmul (p q r s : Int) : Int × Int := rmk ((rmk p q).1 * (rmk r s).1) ((rmk p q).2 * (rmk r s).2)
def qquo (p q r s : Int) : Int × Int := rmk ((rmk p q).1 * (rmk r s).2) ((rmk p q).2 * (rmk r s).1)
instance con_rAdd [h : ZI [x0, x1] p k] [h' : ZI [x2, x3] q m] [g : ZI [y0, y1] r k'] [g' : ZI [y2, y3] s m'] : Con Tryz.prog 69 [.agg [x0, x1, x2, x3], .agg [y0, y1, y2, y3]] (k + m + k' + m' ≤ 10000000) (.agg (ratA (qadd p q r s))) := ⟨fun hk => by
  refine q2 ⟨_, Tryz.func69, rfl, rfl⟩ fun neg n neg2 n2 neg3 n3 neg4 n4 hz hz2 hz3 hz4 hn hn2 hn3 hn4 => ?_
  subst hz; subst hz2; subst hz3; subst hz4
  refine PureOK.fnF Tryz.func69 Tryz.results69 Tryz.ntmps69 rfl rfl rfl (by simp [AV.ids, AV0.ids, Atom.ids]) rfl (fun w0 T B E0 hB => ?_)
  refine SX.go2 ?_
  exact retA (ResOK.agg4 rfl rfl rfl) rfl⟩
end
end Go.Proofs.YtfhpmbenldgfnaaGreatDoor
set_option linter.unusedVariables false
set_option linter.unusedSimpArgs false
namespace Go.Proofs.YtfhpmbenldgfnaaGreatDoor
open Go.RowKit QM SX
attribute [local irreducible] IntKind.wrap Go1 Reg WP thenK inBlk retQ retF RetF RetOK ResOK CallOK OpOK Sat
attribute [local irreducible] decS zS
theorem isignP (z : Int) : 0 < isign z ↔ 0 < z := by unfold isign; (repeat' split) <;> omega
theorem imp_zero : AV0.imp (.agg [.c (.val (.bool false)), .c (.val (.slice none 0 0))]) (.agg (zN 0)) := fun E S w v h => by
  obtain ⟨vs, rfl, hall⟩ := h
  match vs, hall with
  | [a, b], ⟨h1, h2, _⟩ =>
    have h2' : b = .slice none 0 0 := h2
    subst h2'
    exact ⟨[a, _], rfl, h1, nrmN.zero, trivial⟩
def qsub (p q r s : Int) : Int × Int := qadd p q (-(rmk r s).1) (rmk r s).2
section
variable {x0 x1 x2 x3 y0 y1 y2 y3 : Atom} {p q r s : Int} {k m k' m' : Nat}
instance Bd.qadd1 (p q r s : Int) (k m k' m' : Nat) [Bd p k] [Bd q m] [Bd r k'] [Bd s m'] : Bd (qadd p q r s).1 (3 * (k + m + k' + m') + 12) := ⟨by unfold qadd; exact Bd.mono (Bd.rmk1 _ _ _ _).h (by omega)⟩
instance Bd.qadd2 (p q r s : Int) (k m k' m' : Nat) [Bd p k] [Bd q m] [Bd r k'] [Bd s m'] : Bd (qadd p q r s).2 (3 * (k + m + k' + m') + 12) := ⟨by unfold qadd; exact Bd.mono (Bd.rmk2 _ _ _ _).h (by omega)⟩
instance Bd.qsub1 (p q r s : Int) (k m k' m' : Nat) [Bd p k] [Bd q m] [Bd r k'] [Bd s m'] : Bd (qsub p q r s).1 (6 * (k + m + k' + m') + 20) := ⟨by unfold qsub; exact Bd.mono (Bd.qadd1 _ _ _ _ _ _ _ _).h (by omega)⟩
instance Bd.qsub2 (p q r s : Int) (k m k' m' : Nat) [Bd p k] [Bd q m] [Bd r k'] [Bd s m'] : Bd (qsub p q r s).2 (6 * (k + m + k' + m') + 20) := ⟨by unfold qsub; exact Bd.mono (Bd.qadd2 _ _ _ _ _ _ _ _).h (by omega)⟩
instance Bd.qmul1 (p q r s : Int) (k m k' m' : Nat) [Bd p k] [Bd q m] [Bd r k'] [Bd s m'] : Bd (qmul p q r s).1 (3 * (k + m + k' + m') + 12) := ⟨by unfold qmul; exact Bd.mono (Bd.rmk1 _ _ _ _).h (by omega)⟩
instance Bd.qmul2 (p q r s : Int) (k m k' m' : Nat) [Bd p k] [Bd q m] [Bd r k'] [Bd s m'] : Bd (qmul p q r s).2 (3 * (k + m + k' + m') + 12) := ⟨by unfold qmul; exact Bd.mono (Bd.rmk2 _ _ _ _).h (by omega)⟩
instance Bd.qquo1 (p q r s : Int) (k m k' m' : Nat) [Bd p k] [Bd q m] [Bd r k'] [Bd s m'] : Bd (qquo p q r s).1 (3 * (k + m + k' + m') + 12) := ⟨by unfold qquo; exact Bd.mono (Bd.rmk1 _ _ _ _).h (by omega)⟩
instance Bd.qquo2 (p q r s : Int) (k m k' m' : Nat) [Bd p k] [Bd q m] [Bd r k'] [Bd s m'] : Bd (qquo p q r s).2 (3 * (k + m + k' + m') + 12) := ⟨by unfold qquo; exact Bd.mono (Bd.rmk2 _ _ _ _).h (by omega)⟩
instance con_rSub [h : ZI [x0, x1] p k] [h' : ZI [x2, x3] q m] [g : ZI [y0, y1] r k'] [g' : ZI [y2, y3] s m'] : Con Tryz.prog 56 [.agg [x0, x1, x2, x3], .agg [y0, y1, y2, y3]] (k + m + k' + m' ≤ 1000000) (.agg (ratA (qsub p q r s))) := ⟨fun hk => by
  refine q2 ⟨_, Tryz.func56, rfl, rfl⟩ fun neg n neg2 n2 neg3 n3 neg4 n4 hz hz2 hz3 hz4 hn hn2 hn3 hn4 => ?_
  subst hz; subst hz2; subst hz3; subst hz4
  refine PureOK.fnF Tryz.func56 Tryz.results56 Tryz.ntmps56 rfl rfl rfl (by simp [AV.ids, AV0.ids, Atom.ids]) rfl (fun w0 T B E0 hB => ?_)
  refine SX.go2 ?_
  exact retA (ResOK.agg4 rfl rfl rfl) rfl⟩
instance con_rMul [h : ZI [x0, x1] p k] [h' : ZI [x2, x3] q m] [g : ZI [y0, y1] r k'] [g' : ZI [y2, y3] s m'] : Con Tryz.prog 75 [.agg [x0, x1, x2, x3], .agg [y0, y1, y2, y3]] (k + m + k' + m' ≤ 10000000) (.agg (ratA (qmul p q r s))) := ⟨fun hk => by
  refine q2 ⟨_, Tryz.func75, rfl, rfl⟩ fun neg n neg2 n2 neg3 n3 neg4 n4 hz hz2 hz3 hz4 hn hn2 hn3 hn4 => ?_
  subst hz; subst hz2; subst hz3; subst hz4
  refine PureOK.fnF Tryz.func75 Tryz.results75 Tryz.ntmps75 rfl rfl rfl (by simp [AV.ids, AV0.ids, Atom.ids]) rfl (fun w0 T B E0 hB => ?_)
  refine SX.go2 ?_
  exact retA (ResOK.agg4 rfl rfl rfl) rfl⟩
instance con_rQuo [h : ZI [x0, x1] p k] [h' : ZI [x2, x3] q m] [g : ZI [y0, y1] r k'] [g' : ZI [y2, y3] s m'] : Con Tryz.prog 106 [.agg [x0, x1, x2, x3], .agg [y0, y1, y2, y3]] (k + m + k' + m' ≤ 10000000) (.tup [.agg (ratA (qquo p q r s)), .one (.c (.val (.bool (decide ((rmk p q).2 * (rmk r s).1 ≠ 0)))))]) := ⟨fun hk => by
  refine q2 ⟨_, Tryz.func106, rfl, rfl⟩ fun neg n neg2 n2 neg3 n3 neg4 n4 hz hz2 hz3 hz4 hn hn2 hn3 hn4 => ?_
  subst hz; subst hz2; subst hz3; subst hz4
  refine PureOK.fnF Tryz.func106 Tryz.results106 Tryz.ntmps106 rfl rfl rfl (by simp [AV.ids, AV0.ids, Atom.ids]) rfl (fun w0 T B E0 hB => ?_)
  refine SX.go2 ?_
  exact ret2' (ResOK.agg4 rfl rfl rfl) (ResOK.tmp rfl) (AV0.imp.refl _) (AV0.imp.refl _)⟩
def qcmp (p q r s : Int) : Int := isign ((qsub p q r s).1 * (qsub p q r s).2)
instance con_rCmp [h : ZI [x0, x1] p k] [h' : ZI [x2, x3] q m] [g : ZI [y0, y1] r k'] [g' : ZI [y2, y3] s m'] : Con Tryz.prog 19 [.agg [x0, x1, x2, x3], .agg [y0, y1, y2, y3]] (k + m + k' + m' ≤ 1000000) (.v (.int .i64 (qcmp p q r s))) := ⟨fun hk => by
  refine q2 ⟨_, Tryz.func19, rfl, rfl⟩ fun neg n neg2 n2 neg3 n3 neg4 n4 hz hz2 hz3 hz4 hn hn2 hn3 hn4 => ?_
  subst hz; subst hz2; subst hz3; subst hz4
  refine PureOK.fnF Tryz.func19 Tryz.results19 Tryz.ntmps19 rfl rfl rfl (by simp [AV.ids, AV0.ids, Atom.ids]) rfl (fun w0 T B E0 hB => ?_)
  refine SX.go2 ?_
  exact retI rfl⟩
def rwhole (p q : Int) : Int := if (rmk p q).2 = 1 then (rmk p q).1 else 0
instance con_rWhole [h : ZI [x0, x1] p k] [h' : ZI [x2, x3] q m] : Con Tryz.prog 178 [.agg [x0, x1, x2, x3]] (k + m ≤ 1000000) (.tup [.agg (zN (rwhole p q)), .one (.c (.val (.bool (decide ((rmk p q).2 = 1)))))]) := ⟨fun hk => by
  refine q1 ⟨_, Tryz.func178, rfl, rfl⟩ fun neg n neg2 n2 hz hz2 hn hn2 => ?_
  subst hz; subst hz2
  refine PureOK.fnF Tryz.func178 Tryz.results178 Tryz.ntmps178 rfl rfl rfl (by simp [AV.ids, AV0.ids, Atom.ids]) rfl (fun w0 T B E0 hB => ?_)
  by_cases h1 : (rmk (sgn neg n) (sgn neg2 n2)).2 = 1
  · refine SX.go2 ?_
    exact ret2' (ResOK.agg2 rfl rfl rfl) (ResOK.tmp rfl) (AV0.imp.of_eq (by unfold rwhole; rw [if_pos h1])) (AV0.imp.of_eq (cb (decide_eq_true h1).symm))
  · refine SX.go2 ?_
    have e : rwhole (sgn neg n) (sgn neg2 n2) = 0 := by unfold rwhole; rw [if_neg h1]
    rw [e]
    exact ret2' (ResOK.agg2 rfl rfl rfl) (ResOK.tmp rfl) imp_zero (AV0.imp.of_eq (cb (decide_eq_false h1).symm))⟩
def rS (q : Int × Int) : List UInt8 := if q.2 = 1 then zS q.1 else zS q.1 ++ [47] ++ zS q.2
instance con_rPrint [h : ZI [x0, x1] p k] [h' : ZI [x2, x3] q m] : Con Tryz.prog 51 [.agg [x0, x1, x2, x3]] (k + m ≤ 1000000) (.v (str (rS (rmk p q)))) := ⟨fun hk => by
  refine q1 ⟨_, Tryz.func51, rfl, rfl⟩ fun neg n neg2 n2 hz hz2 hn hn2 => ?_
  subst hz; subst hz2
  have l1 := zS_len (z := (rmk (sgn neg n) (sgn neg2 n2)).1)
  have l2 := zS_len (z := (rmk (sgn neg n) (sgn neg2 n2)).2)
  refine PureOK.fnF Tryz.func51 Tryz.results51 Tryz.ntmps51 rfl rfl rfl (by simp [AV.ids, AV0.ids, Atom.ids]) rfl (fun w0 T B E0 hB => ?_)
  by_cases h1 : (rmk (sgn neg n) (sgn neg2 n2)).2 = 1
  · refine SX.go2 ?_
    refine retS ?_; unfold rS; rw [if_pos h1]
  · refine SX.go2 ?_
    refine retS ?_; unfold rS; rw [if_neg h1]⟩
abbrev ratP (p q : Int) : List Atom := [.c (.val (.bool (decide (p < 0)))), .c (.sat (nrmN p.natAbs)), .c (.val (.bool (decide (q < 0)))), .c (.sat (nrmN q.natAbs))]
end
def isR (p q x y : Int) : Prop := (0 < q ∧ (Int.gcd p q : Int) = 1) ∧ p * y = x * q
attribute [irreducible] isR
end Go.Proofs.YtfhpmbenldgfnaaGreatDoor
set_option linter.unusedVariables false
set_option linter.unusedSimpArgs false
namespace Go.Proofs.YtfhpmbenldgfnaaGreatDoor
open Go.RowKit QM SX
attribute [local irreducible] IntKind.wrap Go1 Reg WP thenK inBlk retQ retF RetF RetOK ResOK CallOK OpOK Sat
attribute [local irreducible] decS zS rwhole qsub qmul qquo qcmp rS
theorem zexq_dvd {x y : Int} (hy : y ≠ 0) (h : y ∣ x) : zexq x y = x.tdiv y := by
  have hz : zrem x y = 0 := by unfold zrem; first | (rw [if_neg hy]; exact Int.tmod_eq_zero_of_dvd h) | exact Int.tmod_eq_zero_of_dvd h
  unfold zexq zexok; rw [hz]; simp [hy]
theorem rmk_spec {x y : Int} (hy : y ≠ 0) : 0 < (rmk x y).2 ∧ Int.gcd (rmk x y).1 (rmk x y).2 = 1 ∧ (rmk x y).1 * y = x * (rmk x y).2 := by
  have key : ∀ x y : Int, 0 < y → 0 < zexq y (Int.gcd x y) ∧ Int.gcd (zexq x (Int.gcd x y)) (zexq y (Int.gcd x y)) = 1 ∧ zexq x (Int.gcd x y) * y = x * zexq y (Int.gcd x y) := by
    intro x y hy
    have hg : (Int.gcd x y : Int) ≠ 0 := by
      have := Int.gcd_ne_zero_right (a := x) (b := y) (by omega)
      omega
    have hgp : (0 : Int) < Int.gcd x y := by omega
    obtain ⟨a, ha⟩ := Int.gcd_dvd_left x y
    obtain ⟨b, hb⟩ := Int.gcd_dvd_right x y
    have e1 : zexq x (Int.gcd x y) = a := by
      rw [zexq_dvd hg (Int.gcd_dvd_left x y)]
      conv => lhs; arg 1; rw [ha]
      exact Int.mul_tdiv_cancel_left _ hg
    have e2 : zexq y (Int.gcd x y) = b := by
      rw [zexq_dvd hg (Int.gcd_dvd_right x y)]
      conv => lhs; arg 1; rw [hb]
      exact Int.mul_tdiv_cancel_left _ hg
    rw [e1, e2]
    generalize hG : Int.gcd x y = g at *
    have hbp : 0 < b := by
      rw [hb] at hy
      exact Int.pos_of_mul_pos_right hy (by omega)
    refine ⟨hbp, ?_, ?_⟩
    · have h1 : Int.gcd ((g : Int) * a) ((g : Int) * b) = g * Int.gcd a b := by rw [Int.gcd_mul_left]; simp
      rw [← ha, ← hb, hG] at h1
      have hgn : 0 < g := by omega
      exact Nat.eq_of_mul_eq_mul_left hgn (by omega)
    · rw [ha, hb]; grind
  unfold rmk
  rw [if_neg hy]
  by_cases h : y < 0
  · rw [if_pos h]
    have := key (-x) (-y) (by omega)
    refine ⟨this.1, this.2.1, ?_⟩
    have h3 := this.2.2
    grind
  · rw [if_neg h]; exact key x y (by omega)
theorem rmk_zero (x : Int) : rmk x 0 = (0, 1) := by unfold rmk; rfl
theorem dig1 {x : Nat} (h0 : x ≠ 0) (h : x < 10) : dig x = [UInt8.ofNat (48 + x)] := by
  rw [dig_succ h0, show x / 10 = 0 by omega, dig_zero, show x % 10 = x by omega]; rfl
abbrev zW (neg : Bool) (l : List Nat) : List Atom := [.c (.val (.bool neg)), .c (.sat (rawN l))]
abbrev qW (b : Bool) (l : List Nat) (c : Bool) (m : List Nat) : List Atom := [.c (.val (.bool b)), .c (.sat (rawN l)), .c (.val (.bool c)), .c (.sat (rawN m))]
end Go.Proofs.YtfhpmbenldgfnaaGreatDoor

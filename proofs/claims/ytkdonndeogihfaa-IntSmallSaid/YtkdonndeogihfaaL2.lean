import Derived.Test.YtkdonndeogihfaaL1
/- The statements of layer 5 in the symbolic run: IntGcd, IntSmall. -/
set_option linter.unusedVariables false
set_option linter.unusedSimpArgs false
namespace Go.Proofs.Ytkdonndeogihfaa
open Go.RowKit QM SX
attribute [local irreducible] bitLen cmpI nval Go1 Reg WP thenK inBlk retQ RetOK ResOK CallOK OpOK Sat
theorem zexok_dvd {x y : Int} (hy : y ≠ 0) (h : y ∣ x) : zexok x y = true := by
  unfold zexok zrem; rw [if_neg hy]; simp [hy, Int.tmod_eq_zero_of_dvd h]
attribute [local irreducible] sgn isign zrem zfq zfr zround icmp zexok zexq
set_option maxRecDepth 100000 in
theorem IntGcd_ok (b1 : Bool) (l1 : List Nat) (b2 : Bool) (l2 : List Nat) (b3 : Bool) (l3 : List Nat) : PureOK Try.prog 6 [.agg (zW b1 l1), .agg (zW b2 l2), .agg (zW b3 l3)] (.v (.bool true)) := by
  refine law3 ⟨_, Try.func6, rfl, rfl⟩ fun hb1 hb2 hb3 => ?_
  refine PureOK.fn Try.func6 Try.results6 Try.ntmps6 rfl rfl rfl (by simp [AV.ids, AV0.ids, Atom.ids]) rfl (fun w0 T B E0 => ?_)
  by_cases hfew : (decide ((l1.length : Int) ≤ 5) && decide ((l2.length : Int) ≤ 5) && decide ((l3.length : Int) ≤ 5)) = false
  · have hfew2 : (!(decide ((l1.length : Int) ≤ 5) && decide ((l2.length : Int) ≤ 5) && decide ((l3.length : Int) ≤ 5))) = true := by rw [hfew]; rfl
    repeat (first
      | (refine Go1.is ?_; first
          | (refine Go1.isLoad ?_; first | refine Go1.load2 rfl rfl rfl rfl ?_ | refine Go1.load1 rfl rfl rfl rfl ?_ | refine Go1.loadR1 rfl rfl rfl ?_ | refine Go1.loadR2 rfl rfl rfl ?_ | refine Go1.load4 rfl rfl rfl rfl ?_ | refine Go1.loadR4 rfl rfl rfl ?_ | refine Go1.load3 rfl rfl rfl rfl ?_ | refine Go1.loadR3 rfl rfl rfl ?_)
          | (refine Go1.isBin ?_; first | refine Go1.lss rfl rfl rfl ?_ | refine Go1.eql rfl rfl rfl ?_ | refine Go1.neq rfl rfl rfl ?_ | refine Go1.gtr rfl rfl rfl ?_ | refine Go1.geq rfl rfl rfl ?_ | refine Go1.leq rfl rfl rfl ?_ | refine Go1.add rfl rfl rfl (by first | assumption | exact wrapI64 (by omega) (by omega) | exact wrapU64 (by omega) (by omega) | rfl) ?_ | refine Go1.sub rfl rfl rfl (by first | assumption | exact wrapI64 (by omega) (by omega) | exact wrapU64 (by omega) (by omega) | rfl) ?_ | refine Go1.mul rfl rfl rfl (by first | assumption | exact wrapI64 (by omega) (by omega) | exact wrapU64 (by omega) (by omega) | rfl) ?_ | refine Go1.quo rfl rfl rfl (by omega) (by first | assumption | exact wrapI64 (by omega) (by omega) | exact wrapU64 (by omega) (by omega) | rfl) ?_ | refine Go1.rem rfl rfl rfl (by omega) (by first | assumption | exact wrapI64 (by omega) (by omega) | exact wrapU64 (by omega) (by omega) | rfl) ?_ | refine Go1.eqlB rfl rfl rfl ?_ | refine Go1.neqB rfl rfl rfl ?_)
          | (refine Go1.isUn ?_; first | refine Go1.not rfl rfl ?_ | refine Go1.neg rfl rfl (by first | assumption | exact wrapI64 (by omega) (by omega) | exact wrapU64 (by omega) (by omega) | rfl) ?_)
          | (refine Go1.isField ?_; first | refine Go1.fieldAddr rfl rfl ?_ | refine Go1.fieldAddrR rfl rfl ?_)
          | (refine Go1.isBuild ?_; first | refine Go1.build2 rfl rfl rfl rfl ?_ | refine Go1.build3 rfl rfl rfl rfl ?_ | refine Go1.build4 rfl rfl rfl rfl ?_ | refine Go1.build rfl rfl rfl rfl ?_)
          | (refine Go1.isStore ?_; first | refine Go1.store (by kernel_rfl) rfl rfl rfl rfl rfl rfl rfl ?_)
          | (refine Go1.isIx ?_; first | refine Go1.indexAddrR rfl rfl rfl (by omega) ?_)
          | (refine Go1.isCall ?_; first | refine Go1.lenR rfl rfl ?_ | refine Go1.lenN rfl rfl ?_ | refine Go1.lenS rfl rfl ?_ | refine Go1.call rfl (awake_ok) rfl rfl ?_ | refine Go1.call rfl (few_ok _ _ _ _ _ _ _) rfl rfl ?_)
          | refine Go1.move rfl rfl ?_ | refine Go1.assign rfl rfl ?_ | refine Go1.extract rfl rfl rfl ?_ | refine Go1.box rfl rfl rfl rfl ?_ | refine Go1.alloc rfl rfl ?_ | refine Go1.pick rfl rfl rfl ?_ | refine Go1.pickHT rfl rfl (by assumption) rfl ?_ | refine Go1.pickHF rfl rfl (by assumption) rfl ?_ | refine Go1.pickB rfl rfl rfl rfl ?_ | refine Go1.pickV rfl rfl rfl rfl ?_ | refine Go1.conv rfl rfl (by first | assumption | exact wrapI64 (by omega) (by omega) | exact wrapU64 (by omega) (by omega) | rfl) ?_)
      | (refine Reg.is ?_; first | refine Reg.go ?_ | refine Reg.goT rfl rfl rfl ?_ | refine Reg.goF rfl rfl rfl ?_ | refine Reg.goT rfl rfl (by assumption) ?_ | refine Reg.goF rfl rfl (by assumption) ?_ | refine Reg.nil ⟨by kernel_rfl, ?_⟩ | refine Reg.nil ?_)
      | (refine WP.is ?_; first | refine WP.seq ?_ | refine WP.regionL ?_ | refine WP.regionDL (by kernel_rfl) ?_ | refine WP.block ?_ | refine WP.skip ?_ | refine WP.exit ?_ | refine WP.ret ?_ | refine WP.label ?_ | refine WP.condT rfl ?_ | refine WP.condF rfl ?_ | refine WP.condHT rfl (by assumption) ?_ | refine WP.condHF rfl (by assumption) ?_)
      | refine thenN ?_ | refine thenE ?_ | refine thenR ?_ | refine inBlkN ?_ | refine inBlkR ?_ | refine inBlkE ?_ | refine inBlkO rfl ?_ | refine retR ?_ | refine retN ?_)
    exact RetOK.eq1 (ResOK.tmp rfl) rfl
  · have hfew1 : (decide ((l1.length : Int) ≤ 5) && decide ((l2.length : Int) ≤ 5) && decide ((l3.length : Int) ≤ 5)) = true := Bool.of_not_eq_false hfew
    have hfew2 : (!(decide ((l1.length : Int) ≤ 5) && decide ((l2.length : Int) ≤ 5) && decide ((l3.length : Int) ≤ 5))) = false := by rw [hfew1]; rfl
    have hl : l1.length ≤ 5 ∧ l2.length ≤ 5 ∧ l3.length ≤ 5 := by simp at hfew1; omega
    clear hfew hfew1
    obtain ⟨hl1, hl2, hl3⟩ := hl
    have bx : Bd (sgn b1 (nval WB l1)) l1.length := inferInstance
    have bz : Bd (sgn b2 (nval WB l2)) l2.length := inferInstance
    have bc : Bd (sgn b3 (nval WB l3)) l3.length := inferInstance
    generalize hx : sgn b1 (nval WB l1) = x at *
    generalize hy : sgn b2 (nval WB l2) = y at *
    generalize hc : sgn b3 (nval WB l3) = c at *
    have z1 : ZI (zW b1 l1) x l1.length := by rw [← hx]; infer_instance
    have z2 : ZI (zW b2 l2) y l2.length := by rw [← hy]; infer_instance
    have z3 : ZI (zW b3 l3) c l3.length := by rw [← hc]; infer_instance
    have f1 : (!decide ((Int.gcd x y : Int) = (Int.gcd (-x) y : Int))) = false := by simp
    have f2 : (!decide ((Int.gcd x y : Int) = (Int.gcd y x : Int))) = false := by rw [Int.gcd_comm y x]; simp
    have f3 : decide ((Int.gcd (x * c) (y * c) : Int) = (Int.gcd x y : Int) * (c.natAbs : Int)) = true := by rw [Int.gcd_mul_right]; simp
    clear hx hy hc
    by_cases h0 : (Int.gcd x y : Int) = 0
    · have h1 : x = 0 ∧ y = 0 := by have := Int.gcd_eq_zero_iff.1 (show Int.gcd x y = 0 by omega); exact this
      have g1 : decide (isign (Int.gcd x y : Int) = 0) = true := by rw [isign_zero]; simp [h0]
      have g2 : decide (isign x = 0) = true := by rw [isign_zero]; simp [h1.1]
      have g3 : decide (isign y = 0) = true := by rw [isign_zero]; simp [h1.2]
      repeat (first
        | (refine Go1.is ?_; first
            | (refine Go1.isLoad ?_; first | refine Go1.load2 rfl rfl rfl rfl ?_ | refine Go1.load1 rfl rfl rfl rfl ?_ | refine Go1.loadR1 rfl rfl rfl ?_ | refine Go1.loadR2 rfl rfl rfl ?_ | refine Go1.load4 rfl rfl rfl rfl ?_ | refine Go1.loadR4 rfl rfl rfl ?_ | refine Go1.load3 rfl rfl rfl rfl ?_ | refine Go1.loadR3 rfl rfl rfl ?_)
            | (refine Go1.isBin ?_; first | refine Go1.lss rfl rfl rfl ?_ | refine Go1.eql rfl rfl rfl ?_ | refine Go1.neq rfl rfl rfl ?_ | refine Go1.gtr rfl rfl rfl ?_ | refine Go1.geq rfl rfl rfl ?_ | refine Go1.leq rfl rfl rfl ?_ | refine Go1.add rfl rfl rfl (by first | assumption | exact wrapI64 (by omega) (by omega) | exact wrapU64 (by omega) (by omega) | rfl) ?_ | refine Go1.sub rfl rfl rfl (by first | assumption | exact wrapI64 (by omega) (by omega) | exact wrapU64 (by omega) (by omega) | rfl) ?_ | refine Go1.mul rfl rfl rfl (by first | assumption | exact wrapI64 (by omega) (by omega) | exact wrapU64 (by omega) (by omega) | rfl) ?_ | refine Go1.quo rfl rfl rfl (by omega) (by first | assumption | exact wrapI64 (by omega) (by omega) | exact wrapU64 (by omega) (by omega) | rfl) ?_ | refine Go1.rem rfl rfl rfl (by omega) (by first | assumption | exact wrapI64 (by omega) (by omega) | exact wrapU64 (by omega) (by omega) | rfl) ?_ | refine Go1.eqlB rfl rfl rfl ?_ | refine Go1.neqB rfl rfl rfl ?_)
            | (refine Go1.isUn ?_; first | refine Go1.not rfl rfl ?_ | refine Go1.neg rfl rfl (by first | assumption | exact wrapI64 (by omega) (by omega) | exact wrapU64 (by omega) (by omega) | rfl) ?_)
            | (refine Go1.isField ?_; first | refine Go1.fieldAddr rfl rfl ?_ | refine Go1.fieldAddrR rfl rfl ?_)
            | (refine Go1.isBuild ?_; first | refine Go1.build2 rfl rfl rfl rfl ?_ | refine Go1.build3 rfl rfl rfl rfl ?_ | refine Go1.build4 rfl rfl rfl rfl ?_ | refine Go1.build rfl rfl rfl rfl ?_)
            | (refine Go1.isStore ?_; first | refine Go1.store (by kernel_rfl) rfl rfl rfl rfl rfl rfl rfl ?_)
            | (refine Go1.isIx ?_; first | refine Go1.indexAddrR rfl rfl rfl (by omega) ?_)
            | (refine Go1.isCall ?_; first | refine Go1.lenR rfl rfl ?_ | refine Go1.lenN rfl rfl ?_ | refine Go1.lenS rfl rfl ?_ | refine Go1.call rfl (awake_ok) rfl rfl ?_ | refine Go1.call rfl (few_ok _ _ _ _ _ _ _) rfl rfl ?_ | refine Go1.call rfl (zGcd (by omega)) rfl rfl ?_ | refine Go1.call rfl (zNeg (by omega)) rfl rfl ?_ | refine Go1.call rfl (zSame (by omega)) rfl rfl ?_ | refine Go1.call rfl (zSign (by omega)) rfl rfl ?_)
            | refine Go1.move rfl rfl ?_ | refine Go1.assign rfl rfl ?_ | refine Go1.extract rfl rfl rfl ?_ | refine Go1.box rfl rfl rfl rfl ?_ | refine Go1.alloc rfl rfl ?_ | refine Go1.pick rfl rfl rfl ?_ | refine Go1.pickHT rfl rfl (by assumption) rfl ?_ | refine Go1.pickHF rfl rfl (by assumption) rfl ?_ | refine Go1.pickB rfl rfl rfl rfl ?_ | refine Go1.pickV rfl rfl rfl rfl ?_ | refine Go1.conv rfl rfl (by first | assumption | exact wrapI64 (by omega) (by omega) | exact wrapU64 (by omega) (by omega) | rfl) ?_)
        | (refine Reg.is ?_; first | refine Reg.go ?_ | refine Reg.goT rfl rfl rfl ?_ | refine Reg.goF rfl rfl rfl ?_ | refine Reg.goT rfl rfl (by assumption) ?_ | refine Reg.goF rfl rfl (by assumption) ?_ | refine Reg.nil ⟨by kernel_rfl, ?_⟩ | refine Reg.nil ?_)
        | (refine WP.is ?_; first | refine WP.seq ?_ | refine WP.regionL ?_ | refine WP.regionDL (by kernel_rfl) ?_ | refine WP.block ?_ | refine WP.skip ?_ | refine WP.exit ?_ | refine WP.ret ?_ | refine WP.label ?_ | refine WP.condT rfl ?_ | refine WP.condF rfl ?_ | refine WP.condHT rfl (by assumption) ?_ | refine WP.condHF rfl (by assumption) ?_)
        | refine thenN ?_ | refine thenE ?_ | refine thenR ?_ | refine inBlkN ?_ | refine inBlkR ?_ | refine inBlkE ?_ | refine inBlkO rfl ?_ | refine retR ?_ | refine retN ?_)
      exact RetOK.eq1 (ResOK.tmp rfl) (by rw [g3])
    · have g1 : decide (isign (Int.gcd x y : Int) = 0) = false := by rw [isign_zero]; exact decide_eq_false h0
      have g2 : zexok x (Int.gcd x y : Int) = true := zexok_dvd h0 (Int.gcd_dvd_left ..)
      have g3 : zexok y (Int.gcd x y : Int) = true := zexok_dvd h0 (Int.gcd_dvd_right ..)
      repeat (first
        | (refine Go1.is ?_; first
            | (refine Go1.isLoad ?_; first | refine Go1.load2 rfl rfl rfl rfl ?_ | refine Go1.load1 rfl rfl rfl rfl ?_ | refine Go1.loadR1 rfl rfl rfl ?_ | refine Go1.loadR2 rfl rfl rfl ?_ | refine Go1.load4 rfl rfl rfl rfl ?_ | refine Go1.loadR4 rfl rfl rfl ?_ | refine Go1.load3 rfl rfl rfl rfl ?_ | refine Go1.loadR3 rfl rfl rfl ?_)
            | (refine Go1.isBin ?_; first | refine Go1.lss rfl rfl rfl ?_ | refine Go1.eql rfl rfl rfl ?_ | refine Go1.neq rfl rfl rfl ?_ | refine Go1.gtr rfl rfl rfl ?_ | refine Go1.geq rfl rfl rfl ?_ | refine Go1.leq rfl rfl rfl ?_ | refine Go1.add rfl rfl rfl (by first | assumption | exact wrapI64 (by omega) (by omega) | exact wrapU64 (by omega) (by omega) | rfl) ?_ | refine Go1.sub rfl rfl rfl (by first | assumption | exact wrapI64 (by omega) (by omega) | exact wrapU64 (by omega) (by omega) | rfl) ?_ | refine Go1.mul rfl rfl rfl (by first | assumption | exact wrapI64 (by omega) (by omega) | exact wrapU64 (by omega) (by omega) | rfl) ?_ | refine Go1.quo rfl rfl rfl (by omega) (by first | assumption | exact wrapI64 (by omega) (by omega) | exact wrapU64 (by omega) (by omega) | rfl) ?_ | refine Go1.rem rfl rfl rfl (by omega) (by first | assumption | exact wrapI64 (by omega) (by omega) | exact wrapU64 (by omega) (by omega) | rfl) ?_ | refine Go1.eqlB rfl rfl rfl ?_ | refine Go1.neqB rfl rfl rfl ?_)
            | (refine Go1.isUn ?_; first | refine Go1.not rfl rfl ?_ | refine Go1.neg rfl rfl (by first | assumption | exact wrapI64 (by omega) (by omega) | exact wrapU64 (by omega) (by omega) | rfl) ?_)
            | (refine Go1.isField ?_; first | refine Go1.fieldAddr rfl rfl ?_ | refine Go1.fieldAddrR rfl rfl ?_)
            | (refine Go1.isBuild ?_; first | refine Go1.build2 rfl rfl rfl rfl ?_ | refine Go1.build3 rfl rfl rfl rfl ?_ | refine Go1.build4 rfl rfl rfl rfl ?_ | refine Go1.build rfl rfl rfl rfl ?_)
            | (refine Go1.isStore ?_; first | refine Go1.store (by kernel_rfl) rfl rfl rfl rfl rfl rfl rfl ?_)
            | (refine Go1.isIx ?_; first | refine Go1.indexAddrR rfl rfl rfl (by omega) ?_)
            | (refine Go1.isCall ?_; first | refine Go1.lenR rfl rfl ?_ | refine Go1.lenN rfl rfl ?_ | refine Go1.lenS rfl rfl ?_ | refine Go1.call rfl (awake_ok) rfl rfl ?_ | refine Go1.call rfl (few_ok _ _ _ _ _ _ _) rfl rfl ?_ | refine Go1.call rfl (zGcd (by omega)) rfl rfl ?_ | refine Go1.call rfl (zNeg (by omega)) rfl rfl ?_ | refine Go1.call rfl (zSame (by omega)) rfl rfl ?_ | refine Go1.call rfl (zSign (by omega)) rfl rfl ?_ | refine Go1.call rfl (zExact (by omega)) rfl rfl ?_ | refine Go1.call rfl (zMul (by omega)) rfl rfl ?_ | refine Go1.call rfl (zAbs (by omega)) rfl rfl ?_)
            | refine Go1.move rfl rfl ?_ | refine Go1.assign rfl rfl ?_ | refine Go1.extract rfl rfl rfl ?_ | refine Go1.box rfl rfl rfl rfl ?_ | refine Go1.alloc rfl rfl ?_ | refine Go1.pick rfl rfl rfl ?_ | refine Go1.pickHT rfl rfl (by assumption) rfl ?_ | refine Go1.pickHF rfl rfl (by assumption) rfl ?_ | refine Go1.pickB rfl rfl rfl rfl ?_ | refine Go1.pickV rfl rfl rfl rfl ?_ | refine Go1.conv rfl rfl (by first | assumption | exact wrapI64 (by omega) (by omega) | exact wrapU64 (by omega) (by omega) | rfl) ?_)
        | (refine Reg.is ?_; first | refine Reg.go ?_ | refine Reg.goT rfl rfl rfl ?_ | refine Reg.goF rfl rfl rfl ?_ | refine Reg.goT rfl rfl (by assumption) ?_ | refine Reg.goF rfl rfl (by assumption) ?_ | refine Reg.nil ⟨by kernel_rfl, ?_⟩ | refine Reg.nil ?_)
        | (refine WP.is ?_; first | refine WP.seq ?_ | refine WP.regionL ?_ | refine WP.regionDL (by kernel_rfl) ?_ | refine WP.block ?_ | refine WP.skip ?_ | refine WP.exit ?_ | refine WP.ret ?_ | refine WP.label ?_ | refine WP.condT rfl ?_ | refine WP.condF rfl ?_ | refine WP.condHT rfl (by assumption) ?_ | refine WP.condHF rfl (by assumption) ?_)
        | refine thenN ?_ | refine thenE ?_ | refine thenR ?_ | refine inBlkN ?_ | refine inBlkR ?_ | refine inBlkE ?_ | refine inBlkO rfl ?_ | refine retR ?_ | refine retN ?_)
      exact RetOK.eq1 (ResOK.tmp rfl) (by rw [f3])
theorem tdiv_small {x : Int} (h1 : -9223372036854775808 ≤ x) (h2 : x ≤ 9223372036854775807) : -2147483648 ≤ x.tdiv 4294967296 ∧ x.tdiv 4294967296 ≤ 2147483647 := by
  by_cases h : 0 ≤ x
  · rw [Int.tdiv_eq_ediv_of_nonneg h]; omega
  · have e : x.tdiv 4294967296 = -((-x) / 4294967296) := by
      rw [← Int.tdiv_eq_ediv_of_nonneg (by omega), Int.neg_tdiv, Int.neg_neg]
    rw [e]; omega
theorem mul_small {P Q : Int} (h1 : -2147483648 ≤ P) (h2 : P ≤ 2147483647) (h3 : -2147483648 ≤ Q) (h4 : Q ≤ 2147483647) : -9223372036854775808 ≤ P * Q ∧ P * Q ≤ 9223372036854775807 := by
  have h : (P * Q).natAbs ≤ 2147483648 * 2147483648 := by
    rw [Int.natAbs_mul]
    exact Nat.mul_le_mul (by omega) (by omega)
  constructor
  · omega
  · by_cases hp : (P * Q).natAbs = 4611686018427387904
    · omega
    · omega
theorem i64ok_t {z : Int} (h1 : -9223372036854775808 ≤ z) (h2 : z ≤ 9223372036854775807) : i64ok z = true := by unfold i64ok; simp; omega
theorem i64of_t {z : Int} (h1 : -9223372036854775808 ≤ z) (h2 : z ≤ 9223372036854775807) : i64of z = z := by unfold i64of; rw [i64ok_t h1 h2]; rfl
theorem sq_big {x : Int} (h0 : x ≠ 0) (h1 : x ≠ 1) (h2 : x ≠ -1) : i64ok (x * x * 9223372036854775807) = false := by
  have h : 2 * 2 ≤ (x * x).natAbs := by rw [Int.natAbs_mul]; exact Nat.mul_le_mul (by omega) (by omega)
  have h3 : 0 ≤ x * x := by rw [← Int.natAbs_mul_self]; omega
  unfold i64ok
  generalize x * x = y at *
  simp; omega
attribute [local irreducible] i64ok i64of
set_option maxRecDepth 100000 in
set_option maxHeartbeats 1000000 in
theorem IntSmall_ok (x : Int) (wx : IntKind.i64.wrap x = x) (y : Int) (wy : IntKind.i64.wrap y = y) : PureOK Try.prog 7 [.v (.int .i64 x), .v (.int .i64 y)] (.v (.bool true)) := by
  obtain ⟨x1, x2⟩ : -9223372036854775808 ≤ x ∧ x ≤ 9223372036854775807 := by rw [IntKind.wrap_i64] at wx; omega
  obtain ⟨y1, y2⟩ : -9223372036854775808 ≤ y ∧ y ≤ 9223372036854775807 := by rw [IntKind.wrap_i64] at wy; omega
  obtain ⟨P, hP, p1, p2⟩ : ∃ P, IntKind.i64.wrap (x.tdiv 4294967296) = P ∧ -2147483648 ≤ P ∧ P ≤ 2147483647 := by
    have := tdiv_small x1 x2
    exact ⟨_, wrapI64 (by omega) (by omega), this.1, this.2⟩
  obtain ⟨Q, hQ, q1, q2⟩ : ∃ P, IntKind.i64.wrap (y.tdiv 4294967296) = P ∧ -2147483648 ≤ P ∧ P ≤ 2147483647 := by
    have := tdiv_small y1 y2
    exact ⟨_, wrapI64 (by omega) (by omega), this.1, this.2⟩
  have bx : Bd x 1 := ⟨bd_i64 x x1 x2⟩
  have bY : Bd y 1 := ⟨bd_i64 y y1 y2⟩
  have bP : Bd P 1 := ⟨bd_i64 P (by omega) (by omega)⟩
  have bQ : Bd Q 1 := ⟨bd_i64 Q (by omega) (by omega)⟩
  have bM : Bd 9223372036854775807 1 := ⟨bd_i64 _ (by omega) (by omega)⟩
  have m12 := mul_small p1 p2 q1 q2
  have hM : IntKind.i64.wrap (P * Q) = P * Q := wrapI64 m12.1 m12.2
  have e1 : (!i64ok x) = false := by rw [i64ok_t x1 x2]; rfl
  have e2 : decide (i64of x ≠ x) = false := by rw [i64of_t x1 x2]; simp
  have e3 : (!(decide (icmp x y < 0) == decide (x < y))) = false := by rw [icmp_lt]; simp
  have e4 : (!(decide (x = y) == decide (x = y))) = false := by simp
  have e5 : decide (i64of (P + Q) = P + Q) = true := by rw [i64of_t (by omega) (by omega)]; simp
  have e6 : decide (i64of (P * Q) = P * Q) = true := by rw [i64of_t m12.1 m12.2]; simp
  by_cases h0 : x = 0
  · have g0 : decide (x ≠ 0) = false := by simp [h0]
    have g1 : decide (x = 0) = true := by simp [h0]
    have g2 : i64ok (x * x * 9223372036854775807) = true := i64ok_t (by rw [h0]; decide) (by rw [h0]; decide)
    have g3 : decide (i64of (x * x * 9223372036854775807) ≠ 0) = false := by rw [i64of_t (by rw [h0]; decide) (by rw [h0]; decide), h0]; decide
    have g4 : (!i64ok (x * x * 9223372036854775807)) = false := by rw [g2]; rfl
    refine PureOK.fn Try.func7 Try.results7 Try.ntmps7 rfl rfl rfl (by simp [AV.ids, AV0.ids, Atom.ids]) rfl (fun w0 T B E0 => ?_)
    repeat (first
      | (refine Go1.is ?_; first
          | (refine Go1.isLoad ?_; first | refine Go1.load2 rfl rfl rfl rfl ?_ | refine Go1.load1 rfl rfl rfl rfl ?_ | refine Go1.loadR1 rfl rfl rfl ?_ | refine Go1.loadR2 rfl rfl rfl ?_ | refine Go1.load4 rfl rfl rfl rfl ?_ | refine Go1.loadR4 rfl rfl rfl ?_ | refine Go1.load3 rfl rfl rfl rfl ?_ | refine Go1.loadR3 rfl rfl rfl ?_)
          | (refine Go1.isBin ?_; first | refine Go1.lss rfl rfl rfl ?_ | refine Go1.eql rfl rfl rfl ?_ | refine Go1.neq rfl rfl rfl ?_ | refine Go1.gtr rfl rfl rfl ?_ | refine Go1.geq rfl rfl rfl ?_ | refine Go1.leq rfl rfl rfl ?_ | refine Go1.add rfl rfl rfl (by first | assumption | exact wrapI64 (by omega) (by omega) | exact wrapU64 (by omega) (by omega) | rfl) ?_ | refine Go1.sub rfl rfl rfl (by first | assumption | exact wrapI64 (by omega) (by omega) | exact wrapU64 (by omega) (by omega) | rfl) ?_ | refine Go1.mul rfl rfl rfl (by first | assumption | exact wrapI64 (by omega) (by omega) | exact wrapU64 (by omega) (by omega) | rfl) ?_ | refine Go1.quo rfl rfl rfl (by omega) (by first | assumption | exact wrapI64 (by omega) (by omega) | exact wrapU64 (by omega) (by omega) | rfl) ?_ | refine Go1.rem rfl rfl rfl (by omega) (by first | assumption | exact wrapI64 (by omega) (by omega) | exact wrapU64 (by omega) (by omega) | rfl) ?_ | refine Go1.eqlB rfl rfl rfl ?_ | refine Go1.neqB rfl rfl rfl ?_)
          | (refine Go1.isUn ?_; first | refine Go1.not rfl rfl ?_ | refine Go1.neg rfl rfl (by first | assumption | exact wrapI64 (by omega) (by omega) | exact wrapU64 (by omega) (by omega) | rfl) ?_)
          | (refine Go1.isField ?_; first | refine Go1.fieldAddr rfl rfl ?_ | refine Go1.fieldAddrR rfl rfl ?_)
          | (refine Go1.isBuild ?_; first | refine Go1.build2 rfl rfl rfl rfl ?_ | refine Go1.build3 rfl rfl rfl rfl ?_ | refine Go1.build4 rfl rfl rfl rfl ?_ | refine Go1.build rfl rfl rfl rfl ?_)
          | (refine Go1.isStore ?_; first | refine Go1.store (by kernel_rfl) rfl rfl rfl rfl rfl rfl rfl ?_)
          | (refine Go1.isIx ?_; first | refine Go1.indexAddrR rfl rfl rfl (by omega) ?_)
          | (refine Go1.isCall ?_; first | refine Go1.lenR rfl rfl ?_ | refine Go1.lenN rfl rfl ?_ | refine Go1.lenS rfl rfl ?_ | refine Go1.call rfl (awake_ok) rfl rfl ?_ | refine Go1.call rfl (zOf _ (by omega) (by omega)) rfl rfl ?_ | refine Go1.call rfl (zSmall (by omega)) rfl rfl ?_ | refine Go1.call rfl (zMul (by omega)) rfl rfl ?_ | refine Go1.call rfl (zAdd (by omega)) rfl rfl ?_ | refine Go1.call rfl (zCmp (by omega)) rfl rfl ?_ | refine Go1.call rfl (zSame (by omega)) rfl rfl ?_)
          | refine Go1.move rfl rfl ?_ | refine Go1.assign rfl rfl ?_ | refine Go1.extract rfl rfl rfl ?_ | refine Go1.box rfl rfl rfl rfl ?_ | refine Go1.alloc rfl rfl ?_ | refine Go1.pick rfl rfl rfl ?_ | refine Go1.pickHT rfl rfl (by assumption) rfl ?_ | refine Go1.pickHF rfl rfl (by assumption) rfl ?_ | refine Go1.pickB rfl rfl rfl rfl ?_ | refine Go1.pickV rfl rfl rfl rfl ?_ | refine Go1.conv rfl rfl (by first | assumption | exact wrapI64 (by omega) (by omega) | exact wrapU64 (by omega) (by omega) | rfl) ?_)
      | (refine Reg.is ?_; first | refine Reg.go ?_ | refine Reg.goT rfl rfl rfl ?_ | refine Reg.goF rfl rfl rfl ?_ | refine Reg.goT rfl rfl (by assumption) ?_ | refine Reg.goF rfl rfl (by assumption) ?_ | refine Reg.nil ⟨by kernel_rfl, ?_⟩ | refine Reg.nil ?_)
      | (refine WP.is ?_; first | refine WP.seq ?_ | refine WP.regionL ?_ | refine WP.regionDL (by kernel_rfl) ?_ | refine WP.block ?_ | refine WP.skip ?_ | refine WP.exit ?_ | refine WP.ret ?_ | refine WP.label ?_ | refine WP.condT rfl ?_ | refine WP.condF rfl ?_ | refine WP.condHT rfl (by assumption) ?_ | refine WP.condHF rfl (by assumption) ?_)
      | refine thenN ?_ | refine thenE ?_ | refine thenR ?_ | refine inBlkN ?_ | refine inBlkR ?_ | refine inBlkE ?_ | refine inBlkO rfl ?_ | refine retR ?_ | refine retN ?_)
    exact RetOK.eq1 (ResOK.tmp rfl) (by rw [e6])
  · have g0 : decide (x ≠ 0) = true := by simp [h0]
    have g1 : decide (x = 0) = false := by simp [h0]
    by_cases h1 : x = 1
    · have g5 : decide (x ≠ 1) = false := by simp [h1]
      have g2 : i64ok (x * x * 9223372036854775807) = true := i64ok_t (by rw [h1]; decide) (by rw [h1]; decide)
      have g4 : (!i64ok (x * x * 9223372036854775807)) = false := by rw [g2]; rfl
      refine PureOK.fn Try.func7 Try.results7 Try.ntmps7 rfl rfl rfl (by simp [AV.ids, AV0.ids, Atom.ids]) rfl (fun w0 T B E0 => ?_)
      repeat (first
        | (refine Go1.is ?_; first
            | (refine Go1.isLoad ?_; first | refine Go1.load2 rfl rfl rfl rfl ?_ | refine Go1.load1 rfl rfl rfl rfl ?_ | refine Go1.loadR1 rfl rfl rfl ?_ | refine Go1.loadR2 rfl rfl rfl ?_ | refine Go1.load4 rfl rfl rfl rfl ?_ | refine Go1.loadR4 rfl rfl rfl ?_ | refine Go1.load3 rfl rfl rfl rfl ?_ | refine Go1.loadR3 rfl rfl rfl ?_)
            | (refine Go1.isBin ?_; first | refine Go1.lss rfl rfl rfl ?_ | refine Go1.eql rfl rfl rfl ?_ | refine Go1.neq rfl rfl rfl ?_ | refine Go1.gtr rfl rfl rfl ?_ | refine Go1.geq rfl rfl rfl ?_ | refine Go1.leq rfl rfl rfl ?_ | refine Go1.add rfl rfl rfl (by first | assumption | exact wrapI64 (by omega) (by omega) | exact wrapU64 (by omega) (by omega) | rfl) ?_ | refine Go1.sub rfl rfl rfl (by first | assumption | exact wrapI64 (by omega) (by omega) | exact wrapU64 (by omega) (by omega) | rfl) ?_ | refine Go1.mul rfl rfl rfl (by first | assumption | exact wrapI64 (by omega) (by omega) | exact wrapU64 (by omega) (by omega) | rfl) ?_ | refine Go1.quo rfl rfl rfl (by omega) (by first | assumption | exact wrapI64 (by omega) (by omega) | exact wrapU64 (by omega) (by omega) | rfl) ?_ | refine Go1.rem rfl rfl rfl (by omega) (by first | assumption | exact wrapI64 (by omega) (by omega) | exact wrapU64 (by omega) (by omega) | rfl) ?_ | refine Go1.eqlB rfl rfl rfl ?_ | refine Go1.neqB rfl rfl rfl ?_)
            | (refine Go1.isUn ?_; first | refine Go1.not rfl rfl ?_ | refine Go1.neg rfl rfl (by first | assumption | exact wrapI64 (by omega) (by omega) | exact wrapU64 (by omega) (by omega) | rfl) ?_)
            | (refine Go1.isField ?_; first | refine Go1.fieldAddr rfl rfl ?_ | refine Go1.fieldAddrR rfl rfl ?_)
            | (refine Go1.isBuild ?_; first | refine Go1.build2 rfl rfl rfl rfl ?_ | refine Go1.build3 rfl rfl rfl rfl ?_ | refine Go1.build4 rfl rfl rfl rfl ?_ | refine Go1.build rfl rfl rfl rfl ?_)
            | (refine Go1.isStore ?_; first | refine Go1.store (by kernel_rfl) rfl rfl rfl rfl rfl rfl rfl ?_)
            | (refine Go1.isIx ?_; first | refine Go1.indexAddrR rfl rfl rfl (by omega) ?_)
            | (refine Go1.isCall ?_; first | refine Go1.lenR rfl rfl ?_ | refine Go1.lenN rfl rfl ?_ | refine Go1.lenS rfl rfl ?_ | refine Go1.call rfl (awake_ok) rfl rfl ?_ | refine Go1.call rfl (zOf _ (by omega) (by omega)) rfl rfl ?_ | refine Go1.call rfl (zSmall (by omega)) rfl rfl ?_ | refine Go1.call rfl (zMul (by omega)) rfl rfl ?_ | refine Go1.call rfl (zAdd (by omega)) rfl rfl ?_ | refine Go1.call rfl (zCmp (by omega)) rfl rfl ?_ | refine Go1.call rfl (zSame (by omega)) rfl rfl ?_)
            | refine Go1.move rfl rfl ?_ | refine Go1.assign rfl rfl ?_ | refine Go1.extract rfl rfl rfl ?_ | refine Go1.box rfl rfl rfl rfl ?_ | refine Go1.alloc rfl rfl ?_ | refine Go1.pick rfl rfl rfl ?_ | refine Go1.pickHT rfl rfl (by assumption) rfl ?_ | refine Go1.pickHF rfl rfl (by assumption) rfl ?_ | refine Go1.pickB rfl rfl rfl rfl ?_ | refine Go1.pickV rfl rfl rfl rfl ?_ | refine Go1.conv rfl rfl (by first | assumption | exact wrapI64 (by omega) (by omega) | exact wrapU64 (by omega) (by omega) | rfl) ?_)
        | (refine Reg.is ?_; first | refine Reg.go ?_ | refine Reg.goT rfl rfl rfl ?_ | refine Reg.goF rfl rfl rfl ?_ | refine Reg.goT rfl rfl (by assumption) ?_ | refine Reg.goF rfl rfl (by assumption) ?_ | refine Reg.nil ⟨by kernel_rfl, ?_⟩ | refine Reg.nil ?_)
        | (refine WP.is ?_; first | refine WP.seq ?_ | refine WP.regionL ?_ | refine WP.regionDL (by kernel_rfl) ?_ | refine WP.block ?_ | refine WP.skip ?_ | refine WP.exit ?_ | refine WP.ret ?_ | refine WP.label ?_ | refine WP.condT rfl ?_ | refine WP.condF rfl ?_ | refine WP.condHT rfl (by assumption) ?_ | refine WP.condHF rfl (by assumption) ?_)
        | refine thenN ?_ | refine thenE ?_ | refine thenR ?_ | refine inBlkN ?_ | refine inBlkR ?_ | refine inBlkE ?_ | refine inBlkO rfl ?_ | refine retR ?_ | refine retN ?_)
      exact RetOK.eq1 (ResOK.tmp rfl) (by rw [e6])
    · have g5 : decide (x ≠ 1) = true := by simp [h1]
      by_cases h2 : x = -1
      · have g6 : decide (x ≠ -1) = false := by simp [h2]
        have g2 : i64ok (x * x * 9223372036854775807) = true := i64ok_t (by rw [h2]; decide) (by rw [h2]; decide)
        have g4 : (!i64ok (x * x * 9223372036854775807)) = false := by rw [g2]; rfl
        refine PureOK.fn Try.func7 Try.results7 Try.ntmps7 rfl rfl rfl (by simp [AV.ids, AV0.ids, Atom.ids]) rfl (fun w0 T B E0 => ?_)
        repeat (first
          | (refine Go1.is ?_; first
              | (refine Go1.isLoad ?_; first | refine Go1.load2 rfl rfl rfl rfl ?_ | refine Go1.load1 rfl rfl rfl rfl ?_ | refine Go1.loadR1 rfl rfl rfl ?_ | refine Go1.loadR2 rfl rfl rfl ?_ | refine Go1.load4 rfl rfl rfl rfl ?_ | refine Go1.loadR4 rfl rfl rfl ?_ | refine Go1.load3 rfl rfl rfl rfl ?_ | refine Go1.loadR3 rfl rfl rfl ?_)
              | (refine Go1.isBin ?_; first | refine Go1.lss rfl rfl rfl ?_ | refine Go1.eql rfl rfl rfl ?_ | refine Go1.neq rfl rfl rfl ?_ | refine Go1.gtr rfl rfl rfl ?_ | refine Go1.geq rfl rfl rfl ?_ | refine Go1.leq rfl rfl rfl ?_ | refine Go1.add rfl rfl rfl (by first | assumption | exact wrapI64 (by omega) (by omega) | exact wrapU64 (by omega) (by omega) | rfl) ?_ | refine Go1.sub rfl rfl rfl (by first | assumption | exact wrapI64 (by omega) (by omega) | exact wrapU64 (by omega) (by omega) | rfl) ?_ | refine Go1.mul rfl rfl rfl (by first | assumption | exact wrapI64 (by omega) (by omega) | exact wrapU64 (by omega) (by omega) | rfl) ?_ | refine Go1.quo rfl rfl rfl (by omega) (by first | assumption | exact wrapI64 (by omega) (by omega) | exact wrapU64 (by omega) (by omega) | rfl) ?_ | refine Go1.rem rfl rfl rfl (by omega) (by first | assumption | exact wrapI64 (by omega) (by omega) | exact wrapU64 (by omega) (by omega) | rfl) ?_ | refine Go1.eqlB rfl rfl rfl ?_ | refine Go1.neqB rfl rfl rfl ?_)
              | (refine Go1.isUn ?_; first | refine Go1.not rfl rfl ?_ | refine Go1.neg rfl rfl (by first | assumption | exact wrapI64 (by omega) (by omega) | exact wrapU64 (by omega) (by omega) | rfl) ?_)
              | (refine Go1.isField ?_; first | refine Go1.fieldAddr rfl rfl ?_ | refine Go1.fieldAddrR rfl rfl ?_)
              | (refine Go1.isBuild ?_; first | refine Go1.build2 rfl rfl rfl rfl ?_ | refine Go1.build3 rfl rfl rfl rfl ?_ | refine Go1.build4 rfl rfl rfl rfl ?_ | refine Go1.build rfl rfl rfl rfl ?_)
              | (refine Go1.isStore ?_; first | refine Go1.store (by kernel_rfl) rfl rfl rfl rfl rfl rfl rfl ?_)
              | (refine Go1.isIx ?_; first | refine Go1.indexAddrR rfl rfl rfl (by omega) ?_)
              | (refine Go1.isCall ?_; first | refine Go1.lenR rfl rfl ?_ | refine Go1.lenN rfl rfl ?_ | refine Go1.lenS rfl rfl ?_ | refine Go1.call rfl (awake_ok) rfl rfl ?_ | refine Go1.call rfl (zOf _ (by omega) (by omega)) rfl rfl ?_ | refine Go1.call rfl (zSmall (by omega)) rfl rfl ?_ | refine Go1.call rfl (zMul (by omega)) rfl rfl ?_ | refine Go1.call rfl (zAdd (by omega)) rfl rfl ?_ | refine Go1.call rfl (zCmp (by omega)) rfl rfl ?_ | refine Go1.call rfl (zSame (by omega)) rfl rfl ?_)
              | refine Go1.move rfl rfl ?_ | refine Go1.assign rfl rfl ?_ | refine Go1.extract rfl rfl rfl ?_ | refine Go1.box rfl rfl rfl rfl ?_ | refine Go1.alloc rfl rfl ?_ | refine Go1.pick rfl rfl rfl ?_ | refine Go1.pickHT rfl rfl (by assumption) rfl ?_ | refine Go1.pickHF rfl rfl (by assumption) rfl ?_ | refine Go1.pickB rfl rfl rfl rfl ?_ | refine Go1.pickV rfl rfl rfl rfl ?_ | refine Go1.conv rfl rfl (by first | assumption | exact wrapI64 (by omega) (by omega) | exact wrapU64 (by omega) (by omega) | rfl) ?_)
          | (refine Reg.is ?_; first | refine Reg.go ?_ | refine Reg.goT rfl rfl rfl ?_ | refine Reg.goF rfl rfl rfl ?_ | refine Reg.goT rfl rfl (by assumption) ?_ | refine Reg.goF rfl rfl (by assumption) ?_ | refine Reg.nil ⟨by kernel_rfl, ?_⟩ | refine Reg.nil ?_)
          | (refine WP.is ?_; first | refine WP.seq ?_ | refine WP.regionL ?_ | refine WP.regionDL (by kernel_rfl) ?_ | refine WP.block ?_ | refine WP.skip ?_ | refine WP.exit ?_ | refine WP.ret ?_ | refine WP.label ?_ | refine WP.condT rfl ?_ | refine WP.condF rfl ?_ | refine WP.condHT rfl (by assumption) ?_ | refine WP.condHF rfl (by assumption) ?_)
          | refine thenN ?_ | refine thenE ?_ | refine thenR ?_ | refine inBlkN ?_ | refine inBlkR ?_ | refine inBlkE ?_ | refine inBlkO rfl ?_ | refine retR ?_ | refine retN ?_)
        exact RetOK.eq1 (ResOK.tmp rfl) (by rw [e6])
      · have g2 : i64ok (x * x * 9223372036854775807) = false := sq_big h0 h1 h2
        have g4 : (!i64ok (x * x * 9223372036854775807)) = true := by rw [g2]; rfl
        have g3 : decide (i64of (x * x * 9223372036854775807) ≠ 0) = false := by unfold i64of; rw [g2]; simp
        refine PureOK.fn Try.func7 Try.results7 Try.ntmps7 rfl rfl rfl (by simp [AV.ids, AV0.ids, Atom.ids]) rfl (fun w0 T B E0 => ?_)
        repeat (first
          | (refine Go1.is ?_; first
              | (refine Go1.isLoad ?_; first | refine Go1.load2 rfl rfl rfl rfl ?_ | refine Go1.load1 rfl rfl rfl rfl ?_ | refine Go1.loadR1 rfl rfl rfl ?_ | refine Go1.loadR2 rfl rfl rfl ?_ | refine Go1.load4 rfl rfl rfl rfl ?_ | refine Go1.loadR4 rfl rfl rfl ?_ | refine Go1.load3 rfl rfl rfl rfl ?_ | refine Go1.loadR3 rfl rfl rfl ?_)
              | (refine Go1.isBin ?_; first | refine Go1.lss rfl rfl rfl ?_ | refine Go1.eql rfl rfl rfl ?_ | refine Go1.neq rfl rfl rfl ?_ | refine Go1.gtr rfl rfl rfl ?_ | refine Go1.geq rfl rfl rfl ?_ | refine Go1.leq rfl rfl rfl ?_ | refine Go1.add rfl rfl rfl (by first | assumption | exact wrapI64 (by omega) (by omega) | exact wrapU64 (by omega) (by omega) | rfl) ?_ | refine Go1.sub rfl rfl rfl (by first | assumption | exact wrapI64 (by omega) (by omega) | exact wrapU64 (by omega) (by omega) | rfl) ?_ | refine Go1.mul rfl rfl rfl (by first | assumption | exact wrapI64 (by omega) (by omega) | exact wrapU64 (by omega) (by omega) | rfl) ?_ | refine Go1.quo rfl rfl rfl (by omega) (by first | assumption | exact wrapI64 (by omega) (by omega) | exact wrapU64 (by omega) (by omega) | rfl) ?_ | refine Go1.rem rfl rfl rfl (by omega) (by first | assumption | exact wrapI64 (by omega) (by omega) | exact wrapU64 (by omega) (by omega) | rfl) ?_ | refine Go1.eqlB rfl rfl rfl ?_ | refine Go1.neqB rfl rfl rfl ?_)
              | (refine Go1.isUn ?_; first | refine Go1.not rfl rfl ?_ | refine Go1.neg rfl rfl (by first | assumption | exact wrapI64 (by omega) (by omega) | exact wrapU64 (by omega) (by omega) | rfl) ?_)
              | (refine Go1.isField ?_; first | refine Go1.fieldAddr rfl rfl ?_ | refine Go1.fieldAddrR rfl rfl ?_)
              | (refine Go1.isBuild ?_; first | refine Go1.build2 rfl rfl rfl rfl ?_ | refine Go1.build3 rfl rfl rfl rfl ?_ | refine Go1.build4 rfl rfl rfl rfl ?_ | refine Go1.build rfl rfl rfl rfl ?_)
              | (refine Go1.isStore ?_; first | refine Go1.store (by kernel_rfl) rfl rfl rfl rfl rfl rfl rfl ?_)
              | (refine Go1.isIx ?_; first | refine Go1.indexAddrR rfl rfl rfl (by omega) ?_)
              | (refine Go1.isCall ?_; first | refine Go1.lenR rfl rfl ?_ | refine Go1.lenN rfl rfl ?_ | refine Go1.lenS rfl rfl ?_ | refine Go1.call rfl (awake_ok) rfl rfl ?_ | refine Go1.call rfl (zOf _ (by omega) (by omega)) rfl rfl ?_ | refine Go1.call rfl (zSmall (by omega)) rfl rfl ?_ | refine Go1.call rfl (zMul (by omega)) rfl rfl ?_ | refine Go1.call rfl (zAdd (by omega)) rfl rfl ?_ | refine Go1.call rfl (zCmp (by omega)) rfl rfl ?_ | refine Go1.call rfl (zSame (by omega)) rfl rfl ?_)
              | refine Go1.move rfl rfl ?_ | refine Go1.assign rfl rfl ?_ | refine Go1.extract rfl rfl rfl ?_ | refine Go1.box rfl rfl rfl rfl ?_ | refine Go1.alloc rfl rfl ?_ | refine Go1.pick rfl rfl rfl ?_ | refine Go1.pickHT rfl rfl (by assumption) rfl ?_ | refine Go1.pickHF rfl rfl (by assumption) rfl ?_ | refine Go1.pickB rfl rfl rfl rfl ?_ | refine Go1.pickV rfl rfl rfl rfl ?_ | refine Go1.conv rfl rfl (by first | assumption | exact wrapI64 (by omega) (by omega) | exact wrapU64 (by omega) (by omega) | rfl) ?_)
          | (refine Reg.is ?_; first | refine Reg.go ?_ | refine Reg.goT rfl rfl rfl ?_ | refine Reg.goF rfl rfl rfl ?_ | refine Reg.goT rfl rfl (by assumption) ?_ | refine Reg.goF rfl rfl (by assumption) ?_ | refine Reg.nil ⟨by kernel_rfl, ?_⟩ | refine Reg.nil ?_)
          | (refine WP.is ?_; first | refine WP.seq ?_ | refine WP.regionL ?_ | refine WP.regionDL (by kernel_rfl) ?_ | refine WP.block ?_ | refine WP.skip ?_ | refine WP.exit ?_ | refine WP.ret ?_ | refine WP.label ?_ | refine WP.condT rfl ?_ | refine WP.condF rfl ?_ | refine WP.condHT rfl (by assumption) ?_ | refine WP.condHF rfl (by assumption) ?_)
          | refine thenN ?_ | refine thenE ?_ | refine thenR ?_ | refine inBlkN ?_ | refine inBlkR ?_ | refine inBlkE ?_ | refine inBlkO rfl ?_ | refine retR ?_ | refine retN ?_)
        exact RetOK.eq1 (ResOK.tmp rfl) (by rw [e6])
end Go.Proofs.Ytkdonndeogihfaa

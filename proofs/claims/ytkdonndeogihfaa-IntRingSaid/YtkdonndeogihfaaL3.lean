import Derived.Test.YtkdonndeogihfaaL1
import Derived.Test.YtkdonndeogihfaaY5
/- The statement IntRing in the symbolic run. -/
set_option linter.unusedVariables false
set_option linter.unusedSimpArgs false
namespace Go.Proofs.Ytkdonndeogihfaa
open Go.RowKit QM SX
attribute [local irreducible] bitLen cmpI nval Go1 Reg WP thenK inBlk retQ RetOK ResOK CallOK OpOK Sat
theorem bitLen_lt {x K : Nat} (h : x < 2 ^ K) : bitLen x ≤ K := by
  by_cases h0 : x = 0
  · rw [bitLen_zero.2 h0]; omega
  · have h1 := (bitLen_spec x).2 h0
    have h2 : 2 ^ (bitLen x - 1) < 2 ^ K := Nat.lt_of_le_of_lt h1 h
    have := (Nat.pow_lt_pow_iff_right (a := 2) (by omega)).1 h2
    omega
theorem bd_len {x : Nat} {k : Nat} (h : x < WB ^ k) (n : Nat) (hn : 64 * k ≤ n) : bitLen x ≤ n := by
  refine bitLen_lt (Nat.lt_of_lt_of_le h ?_)
  rw [WB_pow, ← Nat.pow_mul]
  exact Nat.pow_le_pow_right (by omega) hn
attribute [local irreducible] sgn isign zrem zfq zfr zround icmp zpowv powok
set_option maxRecDepth 100000 in
set_option maxHeartbeats 1000000 in
theorem IntRing_ok (b1 : Bool) (l1 : List Nat) (b2 : Bool) (l2 : List Nat) (b3 : Bool) (l3 : List Nat) : PureOK Try.prog 8 [.agg (zW b1 l1), .agg (zW b2 l2), .agg (zW b3 l3)] (.v (.bool true)) := by
  refine law3 ⟨_, Try.func8, rfl, rfl⟩ fun hb1 hb2 hb3 => ?_
  have hpw := pwK_eq
  refine PureOK.fn Try.func8 Try.results8 Try.ntmps8 rfl rfl rfl (by simp [AV.ids, AV0.ids, Atom.ids]) rfl (fun w0 T B E0 => ?_)
  by_cases hfew : (decide ((l1.length : Int) ≤ 5) && decide ((l2.length : Int) ≤ 5) && decide ((l3.length : Int) ≤ 5)) = false
  · have hfew2 : (!(decide ((l1.length : Int) ≤ 5) && decide ((l2.length : Int) ≤ 5) && decide ((l3.length : Int) ≤ 5))) = true := by rw [hfew]; rfl
    repeat (first
      | (refine Go1.is ?_; first
          | (refine Go1.isLoad ?_; first | refine Go1.load2 rfl rfl rfl rfl ?_ | refine Go1.load1 rfl rfl rfl rfl ?_ | refine Go1.loadR1 rfl rfl rfl ?_ | refine Go1.loadR2 rfl rfl rfl ?_ | refine Go1.load4 rfl rfl rfl rfl ?_ | refine Go1.loadR4 rfl rfl rfl ?_ | refine Go1.load3 rfl rfl rfl rfl ?_ | refine Go1.loadR3 rfl rfl rfl ?_)
          | (refine Go1.isBin ?_; first | refine Go1.lss rfl rfl rfl ?_ | refine Go1.eql rfl rfl rfl ?_ | refine Go1.neq rfl rfl rfl ?_ | refine Go1.gtr rfl rfl rfl ?_ | refine Go1.geq rfl rfl rfl ?_ | refine Go1.leq rfl rfl rfl ?_ | refine Go1.add rfl rfl rfl (by first | assumption | exact wrapI64 (by omega) (by omega) | exact wrapU64 (by omega) (by omega) | exact and1_i64 _ | rfl) ?_ | refine Go1.sub rfl rfl rfl (by first | assumption | exact wrapI64 (by omega) (by omega) | exact wrapU64 (by omega) (by omega) | exact and1_i64 _ | rfl) ?_ | refine Go1.mul rfl rfl rfl (by first | assumption | exact wrapI64 (by omega) (by omega) | exact wrapU64 (by omega) (by omega) | exact and1_i64 _ | rfl) ?_ | refine Go1.quo rfl rfl rfl (by omega) (by first | assumption | exact wrapI64 (by omega) (by omega) | exact wrapU64 (by omega) (by omega) | exact and1_i64 _ | rfl) ?_ | refine Go1.rem rfl rfl rfl (by omega) (by first | assumption | exact wrapI64 (by omega) (by omega) | exact wrapU64 (by omega) (by omega) | exact and1_i64 _ | rfl) ?_ | refine Go1.eqlB rfl rfl rfl ?_ | refine Go1.neqB rfl rfl rfl ?_ | refine Go1.shr rfl rfl rfl (by omega) (by first | assumption | exact wrapI64 (by omega) (by omega) | exact wrapU64 (by omega) (by omega) | exact and1_i64 _ | rfl) ?_ | refine Go1.shl rfl rfl rfl (by omega) (by first | assumption | exact wrapI64 (by omega) (by omega) | exact wrapU64 (by omega) (by omega) | exact and1_i64 _ | rfl) ?_ | refine Go1.and rfl rfl rfl (by first | assumption | exact wrapI64 (by omega) (by omega) | exact wrapU64 (by omega) (by omega) | exact and1_i64 _ | rfl) ?_)
          | (refine Go1.isUn ?_; first | refine Go1.not rfl rfl ?_ | refine Go1.neg rfl rfl (by first | assumption | exact wrapI64 (by omega) (by omega) | exact wrapU64 (by omega) (by omega) | exact and1_i64 _ | rfl) ?_)
          | (refine Go1.isField ?_; first | refine Go1.fieldAddr rfl rfl ?_ | refine Go1.fieldAddrR rfl rfl ?_)
          | (refine Go1.isBuild ?_; first | refine Go1.build2 rfl rfl rfl rfl ?_ | refine Go1.build3 rfl rfl rfl rfl ?_ | refine Go1.build4 rfl rfl rfl rfl ?_ | refine Go1.build rfl rfl rfl rfl ?_)
          | (refine Go1.isStore ?_; first | refine Go1.store (by kernel_rfl) rfl rfl rfl rfl rfl rfl rfl ?_)
          | (refine Go1.isIx ?_; first | refine Go1.indexAddrR rfl rfl rfl (by omega) ?_)
          | (refine Go1.isCall ?_; first | refine Go1.lenR rfl rfl ?_ | refine Go1.lenN rfl rfl ?_ | refine Go1.lenS rfl rfl ?_ | refine Go1.call rfl (awake_ok) rfl rfl ?_ | refine Go1.call rfl (few_ok _ _ _ _ _ _ _) rfl rfl ?_)
          | refine Go1.move rfl rfl ?_ | refine Go1.assign rfl rfl ?_ | refine Go1.extract rfl rfl rfl ?_ | refine Go1.box rfl rfl rfl rfl ?_ | refine Go1.alloc rfl rfl ?_ | refine Go1.pick rfl rfl rfl ?_ | refine Go1.pickHT rfl rfl (by assumption) rfl ?_ | refine Go1.pickHF rfl rfl (by assumption) rfl ?_ | refine Go1.pickB rfl rfl rfl rfl ?_ | refine Go1.pickV rfl rfl rfl rfl ?_ | refine Go1.conv rfl rfl (by first | assumption | exact wrapI64 (by omega) (by omega) | exact wrapU64 (by omega) (by omega) | exact and1_i64 _ | rfl) ?_)
      | (refine Reg.is ?_; first | refine Reg.go ?_ | refine Reg.goT rfl rfl rfl ?_ | refine Reg.goF rfl rfl rfl ?_ | refine Reg.goU rfl rfl ?_ | refine Reg.goT rfl rfl (by assumption) ?_ | refine Reg.goF rfl rfl (by assumption) ?_ | refine Reg.nil ⟨by kernel_rfl, ?_⟩ | refine Reg.nil ?_)
      | (refine WP.is ?_; first | refine WP.seq ?_ | refine WP.regionL ?_ | refine WP.regionDL (by kernel_rfl) ?_ | refine WP.block ?_ | refine WP.skip ?_ | refine WP.exit ?_ | refine WP.ret ?_ | refine WP.label ?_ | refine WP.condT rfl ?_ | refine WP.condF rfl ?_ | refine WP.condHT rfl (by assumption) ?_ | refine WP.condHF rfl (by assumption) ?_)
      | refine thenN ?_ | refine thenE ?_ | refine thenR ?_ | refine inBlkN ?_ | refine inBlkR ?_ | refine inBlkE ?_ | refine inBlkO rfl ?_ | refine retR ?_ | refine retN ?_)
    exact RetOK.eq1 (ResOK.tmp rfl) rfl
  · have hfew1 : (decide ((l1.length : Int) ≤ 5) && decide ((l2.length : Int) ≤ 5) && decide ((l3.length : Int) ≤ 5)) = true := Bool.of_not_eq_false hfew
    have hfew2 : (!(decide ((l1.length : Int) ≤ 5) && decide ((l2.length : Int) ≤ 5) && decide ((l3.length : Int) ≤ 5))) = false := by rw [hfew1]; rfl
    have hl : l1.length ≤ 5 ∧ l2.length ≤ 5 ∧ l3.length ≤ 5 := by simp at hfew1; omega
    clear hfew hfew1
    obtain ⟨hl1, hl2, hl3⟩ := hl
    have bx : Bd (sgn b1 (nval WB l1)) l1.length := inferInstance
    have bz : Bd (sgn b2 (nval WB l2)) l2.length := inferInstance
    have bc : Bd (sgn b3 (nval WB l3)) l3.length := inferInstance
    generalize hx : sgn b1 (nval WB l1) = x at *
    generalize hy : sgn b2 (nval WB l2) = y at *
    generalize hc : sgn b3 (nval WB l3) = c at *
    have z1 : ZI (zW b1 l1) x l1.length := by rw [← hx]; infer_instance
    have z2 : ZI (zW b2 l2) y l2.length := by rw [← hy]; infer_instance
    have z3 : ZI (zW b3 l3) c l3.length := by rw [← hc]; infer_instance
    clear hx hy hc
    have f4 : powok x.natAbs 3 = true := by
      have hb := bd_len bx.h 320 (by omega)
      unfold powok
      by_cases h0 : bitLen x.natAbs = 0
      · simp [h0]
      · have h1 : 1048576 / 320 ≤ 1048576 / bitLen x.natAbs := Nat.div_le_div_left hb (by omega)
        have h2 : (3 : Int) ≤ ((1048576 / bitLen x.natAbs : Nat) : Int) := by
          generalize 1048576 / bitLen x.natAbs = Q at *
          omega
        rw [decide_eq_true h2]; simp
    have f5 : (!powok x.natAbs (-1)) = true := by unfold powok; rfl
    have f1 : decide (x * (y + c) = x * y + x * c) = true := by rw [Int.mul_add]; simp
    have f2 : decide (x - x = 0) = true := by simp
    have f3 : decide (x * y = y * x) = true := by rw [Int.mul_comm]; simp
    have f6 : decide (zpowv x 3 = x * (x * x)) = true := by
      unfold zpowv
      rw [if_pos f4, show (3 : Int).toNat = 3 from rfl, Int.pow_succ, Int.pow_succ, Int.pow_succ, Int.pow_zero, Int.one_mul, Int.mul_assoc]; simp
    have f7 : decide ((bitLen x.natAbs : Int) = (bitLen (-x).natAbs : Int)) = true := by rw [Int.natAbs_neg]; simp
    repeat (first
      | (refine Go1.is ?_; first
          | (refine Go1.isLoad ?_; first | refine Go1.load2 rfl rfl rfl rfl ?_ | refine Go1.load1 rfl rfl rfl rfl ?_ | refine Go1.loadR1 rfl rfl rfl ?_ | refine Go1.loadR2 rfl rfl rfl ?_ | refine Go1.load4 rfl rfl rfl rfl ?_ | refine Go1.loadR4 rfl rfl rfl ?_ | refine Go1.load3 rfl rfl rfl rfl ?_ | refine Go1.loadR3 rfl rfl rfl ?_)
          | (refine Go1.isBin ?_; first | refine Go1.lss rfl rfl rfl ?_ | refine Go1.eql rfl rfl rfl ?_ | refine Go1.neq rfl rfl rfl ?_ | refine Go1.gtr rfl rfl rfl ?_ | refine Go1.geq rfl rfl rfl ?_ | refine Go1.leq rfl rfl rfl ?_ | refine Go1.add rfl rfl rfl (by first | assumption | exact wrapI64 (by omega) (by omega) | exact wrapU64 (by omega) (by omega) | exact and1_i64 _ | rfl) ?_ | refine Go1.sub rfl rfl rfl (by first | assumption | exact wrapI64 (by omega) (by omega) | exact wrapU64 (by omega) (by omega) | exact and1_i64 _ | rfl) ?_ | refine Go1.mul rfl rfl rfl (by first | assumption | exact wrapI64 (by omega) (by omega) | exact wrapU64 (by omega) (by omega) | exact and1_i64 _ | rfl) ?_ | refine Go1.quo rfl rfl rfl (by omega) (by first | assumption | exact wrapI64 (by omega) (by omega) | exact wrapU64 (by omega) (by omega) | exact and1_i64 _ | rfl) ?_ | refine Go1.rem rfl rfl rfl (by omega) (by first | assumption | exact wrapI64 (by omega) (by omega) | exact wrapU64 (by omega) (by omega) | exact and1_i64 _ | rfl) ?_ | refine Go1.eqlB rfl rfl rfl ?_ | refine Go1.neqB rfl rfl rfl ?_ | refine Go1.shr rfl rfl rfl (by omega) (by first | assumption | exact wrapI64 (by omega) (by omega) | exact wrapU64 (by omega) (by omega) | exact and1_i64 _ | rfl) ?_ | refine Go1.shl rfl rfl rfl (by omega) (by first | assumption | exact wrapI64 (by omega) (by omega) | exact wrapU64 (by omega) (by omega) | exact and1_i64 _ | rfl) ?_ | refine Go1.and rfl rfl rfl (by first | assumption | exact wrapI64 (by omega) (by omega) | exact wrapU64 (by omega) (by omega) | exact and1_i64 _ | rfl) ?_)
          | (refine Go1.isUn ?_; first | refine Go1.not rfl rfl ?_ | refine Go1.neg rfl rfl (by first | assumption | exact wrapI64 (by omega) (by omega) | exact wrapU64 (by omega) (by omega) | exact and1_i64 _ | rfl) ?_)
          | (refine Go1.isField ?_; first | refine Go1.fieldAddr rfl rfl ?_ | refine Go1.fieldAddrR rfl rfl ?_)
          | (refine Go1.isBuild ?_; first | refine Go1.build2 rfl rfl rfl rfl ?_ | refine Go1.build3 rfl rfl rfl rfl ?_ | refine Go1.build4 rfl rfl rfl rfl ?_ | refine Go1.build rfl rfl rfl rfl ?_)
          | (refine Go1.isStore ?_; first | refine Go1.store (by kernel_rfl) rfl rfl rfl rfl rfl rfl rfl ?_)
          | (refine Go1.isIx ?_; first | refine Go1.indexAddrR rfl rfl rfl (by omega) ?_)
          | (refine Go1.isCall ?_; first | refine Go1.lenR rfl rfl ?_ | refine Go1.lenN rfl rfl ?_ | refine Go1.lenS rfl rfl ?_ | refine Go1.call rfl (awake_ok) rfl rfl ?_ | refine Go1.call rfl (few_ok _ _ _ _ _ _ _) rfl rfl ?_ | refine Go1.call rfl (zOf _ (by omega) (by omega)) rfl rfl ?_ | refine Go1.call rfl (zNeg (by omega)) rfl rfl ?_ | refine Go1.call rfl (zSame (by omega)) rfl rfl ?_ | refine Go1.call rfl (zBits (by omega)) rfl rfl ?_ | refine Go1.call rfl (zMul (by omega)) rfl rfl ?_ | refine Go1.call rfl (zAdd (by omega)) rfl rfl ?_ | refine Go1.call rfl (zSub (by omega)) rfl rfl ?_ | refine Go1.call rfl (zPow 3 (by omega) (by omega) (by omega)) rfl rfl ?_ | refine Go1.call rfl (zPow (-1) (by omega) (by omega) (by omega)) rfl rfl ?_)
          | refine Go1.move rfl rfl ?_ | refine Go1.assign rfl rfl ?_ | refine Go1.extract rfl rfl rfl ?_ | refine Go1.box rfl rfl rfl rfl ?_ | refine Go1.alloc rfl rfl ?_ | refine Go1.pick rfl rfl rfl ?_ | refine Go1.pickHT rfl rfl (by assumption) rfl ?_ | refine Go1.pickHF rfl rfl (by assumption) rfl ?_ | refine Go1.pickB rfl rfl rfl rfl ?_ | refine Go1.pickV rfl rfl rfl rfl ?_ | refine Go1.conv rfl rfl (by first | assumption | exact wrapI64 (by omega) (by omega) | exact wrapU64 (by omega) (by omega) | exact and1_i64 _ | rfl) ?_)
      | (refine Reg.is ?_; first | refine Reg.go ?_ | refine Reg.goT rfl rfl rfl ?_ | refine Reg.goF rfl rfl rfl ?_ | refine Reg.goU rfl rfl ?_ | refine Reg.goT rfl rfl (by assumption) ?_ | refine Reg.goF rfl rfl (by assumption) ?_ | refine Reg.nil ⟨by kernel_rfl, ?_⟩ | refine Reg.nil ?_)
      | (refine WP.is ?_; first | refine WP.seq ?_ | refine WP.regionL ?_ | refine WP.regionDL (by kernel_rfl) ?_ | refine WP.block ?_ | refine WP.skip ?_ | refine WP.exit ?_ | refine WP.ret ?_ | refine WP.label ?_ | refine WP.condT rfl ?_ | refine WP.condF rfl ?_ | refine WP.condHT rfl (by assumption) ?_ | refine WP.condHF rfl (by assumption) ?_)
      | refine thenN ?_ | refine thenE ?_ | refine thenR ?_ | refine inBlkN ?_ | refine inBlkR ?_ | refine inBlkE ?_ | refine inBlkO rfl ?_ | refine retR ?_ | refine retN ?_)
    exact RetOK.eq1 (ResOK.tmp rfl) (by rw [f7])
end Go.Proofs.Ytkdonndeogihfaa

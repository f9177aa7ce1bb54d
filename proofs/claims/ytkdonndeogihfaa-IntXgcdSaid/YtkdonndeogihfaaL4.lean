import Derived.Test.YtkdonndeogihfaaL1
import Derived.Test.YtkdonndeogihfaaY6
/- The statement IntXgcd in the symbolic run. -/
set_option linter.unusedVariables false
set_option linter.unusedSimpArgs false
namespace Go.Proofs.Ytkdonndeogihfaa
open Go.RowKit QM SX
attribute [local irreducible] bitLen cmpI nval Go1 Reg WP thenK inBlk retQ RetOK ResOK CallOK OpOK Sat
attribute [local irreducible] sgn isign zrem zfq zfr zround icmp zexok zexq xgx xgy
set_option maxRecDepth 100000 in
set_option maxHeartbeats 1000000 in
theorem IntXgcd_ok (b1 : Bool) (l1 : List Nat) (b2 : Bool) (l2 : List Nat) : PureOK Try.prog 9 [.agg (zW b1 l1), .agg (zW b2 l2)] (.v (.bool true)) := by
  refine law2 ⟨_, Try.func9, rfl, rfl⟩ fun hb1 hb2 => ?_
  refine PureOK.fn Try.func9 Try.results9 Try.ntmps9 rfl rfl rfl (by simp [AV.ids, AV0.ids, Atom.ids]) rfl (fun w0 T B E0 => ?_)
  by_cases hfew : (decide ((l1.length : Int) ≤ 6) && decide ((l2.length : Int) ≤ 6) && decide ((l1.length : Int) ≤ 6)) = false
  · have hfew2 : (!(decide ((l1.length : Int) ≤ 6) && decide ((l2.length : Int) ≤ 6) && decide ((l1.length : Int) ≤ 6))) = true := by rw [hfew]; rfl
    repeat (first
      | (refine Go1.is ?_; first
          | (refine Go1.isLoad ?_; first | refine Go1.load2 rfl rfl rfl rfl ?_ | refine Go1.load1 rfl rfl rfl rfl ?_ | refine Go1.loadR1 rfl rfl rfl ?_ | refine Go1.loadR2 rfl rfl rfl ?_ | refine Go1.load4 rfl rfl rfl rfl ?_ | refine Go1.loadR4 rfl rfl rfl ?_ | refine Go1.load3 rfl rfl rfl rfl ?_ | refine Go1.loadR3 rfl rfl rfl ?_)
          | (refine Go1.isBin ?_; first | refine Go1.lss rfl rfl rfl ?_ | refine Go1.eql rfl rfl rfl ?_ | refine Go1.neq rfl rfl rfl ?_ | refine Go1.gtr rfl rfl rfl ?_ | refine Go1.geq rfl rfl rfl ?_ | refine Go1.leq rfl rfl rfl ?_ | refine Go1.add rfl rfl rfl (by first | assumption | exact wrapI64 (by omega) (by omega) | exact wrapU64 (by omega) (by omega) | exact and1_i64 _ | rfl) ?_ | refine Go1.sub rfl rfl rfl (by first | assumption | exact wrapI64 (by omega) (by omega) | exact wrapU64 (by omega) (by omega) | exact and1_i64 _ | rfl) ?_ | refine Go1.mul rfl rfl rfl (by first | assumption | exact wrapI64 (by omega) (by omega) | exact wrapU64 (by omega) (by omega) | exact and1_i64 _ | rfl) ?_ | refine Go1.quo rfl rfl rfl (by omega) (by first | assumption | exact wrapI64 (by omega) (by omega) | exact wrapU64 (by omega) (by omega) | exact and1_i64 _ | rfl) ?_ | refine Go1.rem rfl rfl rfl (by omega) (by first | assumption | exact wrapI64 (by omega) (by omega) | exact wrapU64 (by omega) (by omega) | exact and1_i64 _ | rfl) ?_ | refine Go1.eqlB rfl rfl rfl ?_ | refine Go1.neqB rfl rfl rfl ?_ | refine Go1.shr rfl rfl rfl (by omega) (by first | assumption | exact wrapI64 (by omega) (by omega) | exact wrapU64 (by omega) (by omega) | exact and1_i64 _ | rfl) ?_ | refine Go1.shl rfl rfl rfl (by omega) (by first | assumption | exact wrapI64 (by omega) (by omega) | exact wrapU64 (by omega) (by omega) | exact and1_i64 _ | rfl) ?_ | refine Go1.and rfl rfl rfl (by first | assumption | exact wrapI64 (by omega) (by omega) | exact wrapU64 (by omega) (by omega) | exact and1_i64 _ | rfl) ?_)
          | (refine Go1.isUn ?_; first | refine Go1.not rfl rfl ?_ | refine Go1.neg rfl rfl (by first | assumption | exact wrapI64 (by omega) (by omega) | exact wrapU64 (by omega) (by omega) | exact and1_i64 _ | rfl) ?_)
          | (refine Go1.isField ?_; first | refine Go1.fieldAddr rfl rfl ?_ | refine Go1.fieldAddrR rfl rfl ?_)
          | (refine Go1.isBuild ?_; first | refine Go1.build2 rfl rfl rfl rfl ?_ | refine Go1.build3 rfl rfl rfl rfl ?_ | refine Go1.build4 rfl rfl rfl rfl ?_ | refine Go1.build rfl rfl rfl rfl ?_)
          | (refine Go1.isStore ?_; first | refine Go1.store (by kernel_rfl) rfl rfl rfl rfl rfl rfl rfl ?_)
          | (refine Go1.isIx ?_; first | refine Go1.indexAddrR rfl rfl rfl (by omega) ?_)
          | (refine Go1.isCall ?_; first | refine Go1.lenR rfl rfl ?_ | refine Go1.lenN rfl rfl ?_ | refine Go1.lenS rfl rfl ?_ | refine Go1.call rfl (awake_ok) rfl rfl ?_ | refine Go1.call rfl (few_ok _ _ _ _ _ _ _) rfl rfl ?_)
          | refine Go1.move rfl rfl ?_ | refine Go1.assign rfl rfl ?_ | refine Go1.extract rfl rfl rfl ?_ | refine Go1.box rfl rfl rfl rfl ?_ | refine Go1.alloc rfl rfl ?_ | refine Go1.pick rfl rfl rfl ?_ | refine Go1.pickHT rfl rfl (by assumption) rfl ?_ | refine Go1.pickHF rfl rfl (by assumption) rfl ?_ | refine Go1.pickB rfl rfl rfl rfl ?_ | refine Go1.pickV rfl rfl rfl rfl ?_ | refine Go1.conv rfl rfl (by first | assumption | exact wrapI64 (by omega) (by omega) | exact wrapU64 (by omega) (by omega) | exact and1_i64 _ | rfl) ?_)
      | (refine Reg.is ?_; first | refine Reg.go ?_ | refine Reg.goT rfl rfl rfl ?_ | refine Reg.goF rfl rfl rfl ?_ | refine Reg.goU rfl rfl ?_ | refine Reg.goT rfl rfl (by assumption) ?_ | refine Reg.goF rfl rfl (by assumption) ?_ | refine Reg.nil ⟨by kernel_rfl, ?_⟩ | refine Reg.nil ?_)
      | (refine WP.is ?_; first | refine WP.seq ?_ | refine WP.regionL ?_ | refine WP.regionDL (by kernel_rfl) ?_ | refine WP.block ?_ | refine WP.skip ?_ | refine WP.exit ?_ | refine WP.ret ?_ | refine WP.label ?_ | refine WP.condT rfl ?_ | refine WP.condF rfl ?_ | refine WP.condHT rfl (by assumption) ?_ | refine WP.condHF rfl (by assumption) ?_)
      | refine thenN ?_ | refine thenE ?_ | refine thenR ?_ | refine inBlkN ?_ | refine inBlkR ?_ | refine inBlkE ?_ | refine inBlkO rfl ?_ | refine retR ?_ | refine retN ?_)
    exact RetOK.eq1 (ResOK.tmp rfl) rfl
  · have hfew1 : (decide ((l1.length : Int) ≤ 6) && decide ((l2.length : Int) ≤ 6) && decide ((l1.length : Int) ≤ 6)) = true := Bool.of_not_eq_false hfew
    have hfew2 : (!(decide ((l1.length : Int) ≤ 6) && decide ((l2.length : Int) ≤ 6) && decide ((l1.length : Int) ≤ 6))) = false := by rw [hfew1]; rfl
    have hl : l1.length ≤ 6 ∧ l2.length ≤ 6 := by simp at hfew1; omega
    clear hfew hfew1
    obtain ⟨hl1, hl2⟩ := hl
    have bx : Bd (sgn b1 (nval WB l1)) l1.length := inferInstance
    have bz : Bd (sgn b2 (nval WB l2)) l2.length := inferInstance
    generalize hx : sgn b1 (nval WB l1) = x at *
    generalize hy : sgn b2 (nval WB l2) = y at *
    have z1 : ZI (zW b1 l1) x l1.length := by rw [← hx]; infer_instance
    have z2 : ZI (zW b2 l2) y l2.length := by rw [← hy]; infer_instance
    clear hx hy
    have f0 : (!decide ((Int.gcd x y : Int) = (Int.gcd x y : Int))) = false := by simp
    have f2 : decide (isign (Int.gcd x y : Int) < 0) = false := by rw [isign_neg]; exact decide_eq_false (by omega)
    by_cases hy : y = 0
    · have hX : xgx x y = isign x := by unfold xgx; rw [if_pos hy]
      have hY : xgy x y = 0 := by unfold xgy; rw [if_pos hy]
      have hs : -1 ≤ isign x ∧ isign x ≤ 1 := by unfold isign; repeat' split <;> omega
      have f1 : (!decide (xgx x y * x + xgy x y * y = (Int.gcd x y : Int))) = false := by
        have : isign x * x = (x.natAbs : Int) := by
          unfold isign
          by_cases h1 : x = 0
          · simp [h1]
          · by_cases h2 : x < 0
            · rw [if_neg h1, if_pos h2]; omega
            · rw [if_neg h1, if_neg h2]; omega
        rw [hX, hY, this, hy]; simp
      have g1 : decide (isign y = 0) = true := by rw [isign_zero]; simp [hy]
      have g2 : decide (isign (xgy x y) = 0) = true := by rw [isign_zero]; simp [hY]
      have g3 : decide (xgx x y = isign x) = true := by simp [hX]
      repeat (first
        | (refine Go1.is ?_; first
            | (refine Go1.isLoad ?_; first | refine Go1.load2 rfl rfl rfl rfl ?_ | refine Go1.load1 rfl rfl rfl rfl ?_ | refine Go1.loadR1 rfl rfl rfl ?_ | refine Go1.loadR2 rfl rfl rfl ?_ | refine Go1.load4 rfl rfl rfl rfl ?_ | refine Go1.loadR4 rfl rfl rfl ?_ | refine Go1.load3 rfl rfl rfl rfl ?_ | refine Go1.loadR3 rfl rfl rfl ?_)
            | (refine Go1.isBin ?_; first | refine Go1.lss rfl rfl rfl ?_ | refine Go1.eql rfl rfl rfl ?_ | refine Go1.neq rfl rfl rfl ?_ | refine Go1.gtr rfl rfl rfl ?_ | refine Go1.geq rfl rfl rfl ?_ | refine Go1.leq rfl rfl rfl ?_ | refine Go1.add rfl rfl rfl (by first | assumption | exact wrapI64 (by omega) (by omega) | exact wrapU64 (by omega) (by omega) | exact and1_i64 _ | rfl) ?_ | refine Go1.sub rfl rfl rfl (by first | assumption | exact wrapI64 (by omega) (by omega) | exact wrapU64 (by omega) (by omega) | exact and1_i64 _ | rfl) ?_ | refine Go1.mul rfl rfl rfl (by first | assumption | exact wrapI64 (by omega) (by omega) | exact wrapU64 (by omega) (by omega) | exact and1_i64 _ | rfl) ?_ | refine Go1.quo rfl rfl rfl (by omega) (by first | assumption | exact wrapI64 (by omega) (by omega) | exact wrapU64 (by omega) (by omega) | exact and1_i64 _ | rfl) ?_ | refine Go1.rem rfl rfl rfl (by omega) (by first | assumption | exact wrapI64 (by omega) (by omega) | exact wrapU64 (by omega) (by omega) | exact and1_i64 _ | rfl) ?_ | refine Go1.eqlB rfl rfl rfl ?_ | refine Go1.neqB rfl rfl rfl ?_ | refine Go1.shr rfl rfl rfl (by omega) (by first | assumption | exact wrapI64 (by omega) (by omega) | exact wrapU64 (by omega) (by omega) | exact and1_i64 _ | rfl) ?_ | refine Go1.shl rfl rfl rfl (by omega) (by first | assumption | exact wrapI64 (by omega) (by omega) | exact wrapU64 (by omega) (by omega) | exact and1_i64 _ | rfl) ?_ | refine Go1.and rfl rfl rfl (by first | assumption | exact wrapI64 (by omega) (by omega) | exact wrapU64 (by omega) (by omega) | exact and1_i64 _ | rfl) ?_)
            | (refine Go1.isUn ?_; first | refine Go1.not rfl rfl ?_ | refine Go1.neg rfl rfl (by first | assumption | exact wrapI64 (by omega) (by omega) | exact wrapU64 (by omega) (by omega) | exact and1_i64 _ | rfl) ?_)
            | (refine Go1.isField ?_; first | refine Go1.fieldAddr rfl rfl ?_ | refine Go1.fieldAddrR rfl rfl ?_)
            | (refine Go1.isBuild ?_; first | refine Go1.build2 rfl rfl rfl rfl ?_ | refine Go1.build3 rfl rfl rfl rfl ?_ | refine Go1.build4 rfl rfl rfl rfl ?_ | refine Go1.build rfl rfl rfl rfl ?_)
            | (refine Go1.isStore ?_; first | refine Go1.store (by kernel_rfl) rfl rfl rfl rfl rfl rfl rfl ?_)
            | (refine Go1.isIx ?_; first | refine Go1.indexAddrR rfl rfl rfl (by omega) ?_)
            | (refine Go1.isCall ?_; first | refine Go1.lenR rfl rfl ?_ | refine Go1.lenN rfl rfl ?_ | refine Go1.lenS rfl rfl ?_ | refine Go1.call rfl (awake_ok) rfl rfl ?_ | refine Go1.call rfl (few_ok _ _ _ _ _ _ _) rfl rfl ?_ | refine Go1.call rfl (zXgcd (by omega)) rfl rfl ?_ | refine Go1.call rfl (zMul (by omega)) rfl rfl ?_ | refine Go1.call rfl (zAdd (by omega)) rfl rfl ?_ | refine Go1.call rfl (zGcd (by omega)) rfl rfl ?_ | refine Go1.call rfl (zSame (by omega)) rfl rfl ?_ | refine Go1.call rfl (zSign (by omega)) rfl rfl ?_ | refine Go1.call rfl (zOf _ (by omega) (by omega)) rfl rfl ?_)
            | refine Go1.move rfl rfl ?_ | refine Go1.assign rfl rfl ?_ | refine Go1.extract rfl rfl rfl ?_ | refine Go1.box rfl rfl rfl rfl ?_ | refine Go1.alloc rfl rfl ?_ | refine Go1.pick rfl rfl rfl ?_ | refine Go1.pickHT rfl rfl (by assumption) rfl ?_ | refine Go1.pickHF rfl rfl (by assumption) rfl ?_ | refine Go1.pickB rfl rfl rfl rfl ?_ | refine Go1.pickV rfl rfl rfl rfl ?_ | refine Go1.conv rfl rfl (by first | assumption | exact wrapI64 (by omega) (by omega) | exact wrapU64 (by omega) (by omega) | exact and1_i64 _ | rfl) ?_)
        | (refine Reg.is ?_; first | refine Reg.go ?_ | refine Reg.goT rfl rfl rfl ?_ | refine Reg.goF rfl rfl rfl ?_ | refine Reg.goU rfl rfl ?_ | refine Reg.goT rfl rfl (by assumption) ?_ | refine Reg.goF rfl rfl (by assumption) ?_ | refine Reg.nil ⟨by kernel_rfl, ?_⟩ | refine Reg.nil ?_)
        | (refine WP.is ?_; first | refine WP.seq ?_ | refine WP.regionL ?_ | refine WP.regionDL (by kernel_rfl) ?_ | refine WP.block ?_ | refine WP.skip ?_ | refine WP.exit ?_ | refine WP.ret ?_ | refine WP.label ?_ | refine WP.condT rfl ?_ | refine WP.condF rfl ?_ | refine WP.condHT rfl (by assumption) ?_ | refine WP.condHF rfl (by assumption) ?_)
        | refine thenN ?_ | refine thenE ?_ | refine thenR ?_ | refine inBlkN ?_ | refine inBlkR ?_ | refine inBlkE ?_ | refine inBlkO rfl ?_ | refine retR ?_ | refine retN ?_)
      exact RetOK.eq1 (ResOK.tmp rfl) (by rw [g3])
    · obtain ⟨s1, s2, s3, s4⟩ := xg_spec (x := x) hy
      have f1 : (!decide (xgx x y * x + xgy x y * y = (Int.gcd x y : Int))) = false := by rw [s4]; simp
      have g1 : decide (isign y = 0) = false := by rw [isign_zero]; simp [hy]
      have g2 : decide (0 ≤ isign (xgx x y)) = true := by rw [isign_nonneg]; exact decide_eq_true s2
      have g3 : decide (icmp (xgx x y) (zexq (y.natAbs : Int) (Int.gcd x y : Int)) < 0) = true := by rw [icmp_lt]; exact decide_eq_true s3
      repeat (first
        | (refine Go1.is ?_; first
            | (refine Go1.isLoad ?_; first | refine Go1.load2 rfl rfl rfl rfl ?_ | refine Go1.load1 rfl rfl rfl rfl ?_ | refine Go1.loadR1 rfl rfl rfl ?_ | refine Go1.loadR2 rfl rfl rfl ?_ | refine Go1.load4 rfl rfl rfl rfl ?_ | refine Go1.loadR4 rfl rfl rfl ?_ | refine Go1.load3 rfl rfl rfl rfl ?_ | refine Go1.loadR3 rfl rfl rfl ?_)
            | (refine Go1.isBin ?_; first | refine Go1.lss rfl rfl rfl ?_ | refine Go1.eql rfl rfl rfl ?_ | refine Go1.neq rfl rfl rfl ?_ | refine Go1.gtr rfl rfl rfl ?_ | refine Go1.geq rfl rfl rfl ?_ | refine Go1.leq rfl rfl rfl ?_ | refine Go1.add rfl rfl rfl (by first | assumption | exact wrapI64 (by omega) (by omega) | exact wrapU64 (by omega) (by omega) | exact and1_i64 _ | rfl) ?_ | refine Go1.sub rfl rfl rfl (by first | assumption | exact wrapI64 (by omega) (by omega) | exact wrapU64 (by omega) (by omega) | exact and1_i64 _ | rfl) ?_ | refine Go1.mul rfl rfl rfl (by first | assumption | exact wrapI64 (by omega) (by omega) | exact wrapU64 (by omega) (by omega) | exact and1_i64 _ | rfl) ?_ | refine Go1.quo rfl rfl rfl (by omega) (by first | assumption | exact wrapI64 (by omega) (by omega) | exact wrapU64 (by omega) (by omega) | exact and1_i64 _ | rfl) ?_ | refine Go1.rem rfl rfl rfl (by omega) (by first | assumption | exact wrapI64 (by omega) (by omega) | exact wrapU64 (by omega) (by omega) | exact and1_i64 _ | rfl) ?_ | refine Go1.eqlB rfl rfl rfl ?_ | refine Go1.neqB rfl rfl rfl ?_ | refine Go1.shr rfl rfl rfl (by omega) (by first | assumption | exact wrapI64 (by omega) (by omega) | exact wrapU64 (by omega) (by omega) | exact and1_i64 _ | rfl) ?_ | refine Go1.shl rfl rfl rfl (by omega) (by first | assumption | exact wrapI64 (by omega) (by omega) | exact wrapU64 (by omega) (by omega) | exact and1_i64 _ | rfl) ?_ | refine Go1.and rfl rfl rfl (by first | assumption | exact wrapI64 (by omega) (by omega) | exact wrapU64 (by omega) (by omega) | exact and1_i64 _ | rfl) ?_)
            | (refine Go1.isUn ?_; first | refine Go1.not rfl rfl ?_ | refine Go1.neg rfl rfl (by first | assumption | exact wrapI64 (by omega) (by omega) | exact wrapU64 (by omega) (by omega) | exact and1_i64 _ | rfl) ?_)
            | (refine Go1.isField ?_; first | refine Go1.fieldAddr rfl rfl ?_ | refine Go1.fieldAddrR rfl rfl ?_)
            | (refine Go1.isBuild ?_; first | refine Go1.build2 rfl rfl rfl rfl ?_ | refine Go1.build3 rfl rfl rfl rfl ?_ | refine Go1.build4 rfl rfl rfl rfl ?_ | refine Go1.build rfl rfl rfl rfl ?_)
            | (refine Go1.isStore ?_; first | refine Go1.store (by kernel_rfl) rfl rfl rfl rfl rfl rfl rfl ?_)
            | (refine Go1.isIx ?_; first | refine Go1.indexAddrR rfl rfl rfl (by omega) ?_)
            | (refine Go1.isCall ?_; first | refine Go1.lenR rfl rfl ?_ | refine Go1.lenN rfl rfl ?_ | refine Go1.lenS rfl rfl ?_ | refine Go1.call rfl (awake_ok) rfl rfl ?_ | refine Go1.call rfl (few_ok _ _ _ _ _ _ _) rfl rfl ?_ | refine Go1.call rfl (zXgcd (by omega)) rfl rfl ?_ | refine Go1.call rfl (zMul (by omega)) rfl rfl ?_ | refine Go1.call rfl (zAdd (by omega)) rfl rfl ?_ | refine Go1.call rfl (zGcd (by omega)) rfl rfl ?_ | refine Go1.call rfl (zSame (by omega)) rfl rfl ?_ | refine Go1.call rfl (zSign (by omega)) rfl rfl ?_ | refine Go1.call rfl (zExact (by omega)) rfl rfl ?_ | refine Go1.call rfl (zAbs (by omega)) rfl rfl ?_ | refine Go1.call rfl (zCmp (by omega)) rfl rfl ?_)
            | refine Go1.move rfl rfl ?_ | refine Go1.assign rfl rfl ?_ | refine Go1.extract rfl rfl rfl ?_ | refine Go1.box rfl rfl rfl rfl ?_ | refine Go1.alloc rfl rfl ?_ | refine Go1.pick rfl rfl rfl ?_ | refine Go1.pickHT rfl rfl (by assumption) rfl ?_ | refine Go1.pickHF rfl rfl (by assumption) rfl ?_ | refine Go1.pickB rfl rfl rfl rfl ?_ | refine Go1.pickV rfl rfl rfl rfl ?_ | refine Go1.conv rfl rfl (by first | assumption | exact wrapI64 (by omega) (by omega) | exact wrapU64 (by omega) (by omega) | exact and1_i64 _ | rfl) ?_)
        | (refine Reg.is ?_; first | refine Reg.go ?_ | refine Reg.goT rfl rfl rfl ?_ | refine Reg.goF rfl rfl rfl ?_ | refine Reg.goU rfl rfl ?_ | refine Reg.goT rfl rfl (by assumption) ?_ | refine Reg.goF rfl rfl (by assumption) ?_ | refine Reg.nil ⟨by kernel_rfl, ?_⟩ | refine Reg.nil ?_)
        | (refine WP.is ?_; first | refine WP.seq ?_ | refine WP.regionL ?_ | refine WP.regionDL (by kernel_rfl) ?_ | refine WP.block ?_ | refine WP.skip ?_ | refine WP.exit ?_ | refine WP.ret ?_ | refine WP.label ?_ | refine WP.condT rfl ?_ | refine WP.condF rfl ?_ | refine WP.condHT rfl (by assumption) ?_ | refine WP.condHF rfl (by assumption) ?_)
        | refine thenN ?_ | refine thenE ?_ | refine thenR ?_ | refine inBlkN ?_ | refine inBlkR ?_ | refine inBlkE ?_ | refine inBlkO rfl ?_ | refine retR ?_ | refine retN ?_)
      exact RetOK.eq1 (ResOK.tmp rfl) (by rw [g3])
end Go.Proofs.Ytkdonndeogihfaa

import Derived.Test.YtkdonndeogihfaaL0
import Derived.Test.YtkdonndeogihfaaR6
/- The statement IntAdds in the symbolic run. -/
set_option linter.unusedVariables false
set_option linter.unusedSimpArgs false
namespace Go.Proofs.Ytkdonndeogihfaa
open Go.RowKit QM SX
attribute [local irreducible] IntKind.wrap bitLen cmpI nval Go1 Reg WP thenK inBlk retQ RetOK ResOK CallOK OpOK Sat
attribute [local irreducible] sgn isign icmp
set_option maxRecDepth 100000 in
set_option maxHeartbeats 1000000 in
theorem IntAdds_ok (b1 : Bool) (l1 : List Nat) (b2 : Bool) (l2 : List Nat) : PureOK Try.prog 4 [.agg (zW b1 l1), .agg (zW b2 l2)] (.v (.bool true)) := by
  refine law2 ⟨_, Try.func4, rfl, rfl⟩ fun hb1 hb2 => ?_
  refine PureOK.fn Try.func4 Try.results4 Try.ntmps4 rfl rfl rfl (by simp [AV.ids, AV0.ids, Atom.ids]) rfl (fun w0 T B E0 hB => ?_)
  by_cases hfew : (decide ((l1.length : Int) ≤ 12) && decide ((l2.length : Int) ≤ 12) && decide ((l1.length : Int) ≤ 12)) = false
  · have hfew2 : (!(decide ((l1.length : Int) ≤ 12) && decide ((l2.length : Int) ≤ 12) && decide ((l1.length : Int) ≤ 12))) = true := by rw [hfew]; rfl
    repeat (first
      | (refine Go1.is ?_; first
          | (refine Go1.isLoad ?_; first | refine Go1.load2 rfl rfl rfl rfl ?_ | refine Go1.load1 rfl rfl rfl rfl ?_ | refine Go1.loadR1 rfl rfl rfl ?_ | refine Go1.loadR2 rfl rfl rfl ?_ | refine Go1.load4 rfl rfl rfl rfl ?_ | refine Go1.loadR4 rfl rfl rfl ?_ | refine Go1.load3 rfl rfl rfl rfl ?_ | refine Go1.loadR3 rfl rfl rfl ?_)
          | (refine Go1.isBin ?_; first | refine Go1.lss rfl rfl rfl ?_ | refine Go1.eql rfl rfl rfl ?_ | refine Go1.neq rfl rfl rfl ?_ | refine Go1.gtr rfl rfl rfl ?_ | refine Go1.geq rfl rfl rfl ?_ | refine Go1.leq rfl rfl rfl ?_ | refine Go1.add rfl rfl rfl (by first | (with_reducible assumption) | assumption | exact wrapI64 (by omega) (by omega) | exact wrapU64 (by omega) (by omega) | exact and1_i64 _ | rfl) ?_ | refine Go1.sub rfl rfl rfl (by first | (with_reducible assumption) | assumption | exact wrapI64 (by omega) (by omega) | exact wrapU64 (by omega) (by omega) | exact and1_i64 _ | rfl) ?_ | refine Go1.mul rfl rfl rfl (by first | (with_reducible assumption) | assumption | exact wrapI64 (by omega) (by omega) | exact wrapU64 (by omega) (by omega) | exact and1_i64 _ | rfl) ?_ | refine Go1.quo rfl rfl rfl (by omega) (by first | (with_reducible assumption) | assumption | exact wrapI64 (by omega) (by omega) | exact wrapU64 (by omega) (by omega) | exact and1_i64 _ | rfl) ?_ | refine Go1.rem rfl rfl rfl (by omega) (by first | (with_reducible assumption) | assumption | exact wrapI64 (by omega) (by omega) | exact wrapU64 (by omega) (by omega) | exact and1_i64 _ | rfl) ?_ | refine Go1.eqlB rfl rfl rfl ?_ | refine Go1.neqB rfl rfl rfl ?_ | refine Go1.shr rfl rfl rfl (by omega) (by first | (with_reducible assumption) | assumption | exact wrapI64 (by omega) (by omega) | exact wrapU64 (by omega) (by omega) | exact and1_i64 _ | rfl) ?_ | refine Go1.shl rfl rfl rfl (by omega) (by first | (with_reducible assumption) | assumption | exact wrapI64 (by omega) (by omega) | exact wrapU64 (by omega) (by omega) | exact and1_i64 _ | rfl) ?_ | refine Go1.and rfl rfl rfl (by first | (with_reducible assumption) | assumption | exact wrapI64 (by omega) (by omega) | exact wrapU64 (by omega) (by omega) | exact and1_i64 _ | rfl) ?_)
          | (refine Go1.isUn ?_; first | refine Go1.not rfl rfl ?_ | refine Go1.neg rfl rfl (by first | (with_reducible assumption) | assumption | exact wrapI64 (by omega) (by omega) | exact wrapU64 (by omega) (by omega) | exact and1_i64 _ | rfl) ?_)
          | (refine Go1.isField ?_; first | refine Go1.fieldAddr rfl rfl ?_ | refine Go1.fieldAddrR rfl rfl ?_)
          | (refine Go1.isBuild ?_; first | refine Go1.build2 rfl rfl rfl rfl ?_ | refine Go1.build3 rfl rfl rfl rfl ?_ | refine Go1.build4 rfl rfl rfl rfl ?_ | refine Go1.build rfl rfl rfl rfl ?_)
          | (refine Go1.isStore ?_; first | refine Go1.store (by kernel_rfl) rfl rfl rfl rfl rfl rfl rfl ?_)
          | (refine Go1.isIx ?_; first | refine Go1.indexAddrR rfl rfl rfl (by omega) ?_)
          | (refine Go1.isCall ?_; first | refine Go1.lenR rfl rfl ?_ | refine Go1.lenN rfl rfl ?_ | refine Go1.lenS rfl rfl ?_ | refine Go1.call rfl (awake_ok) rfl rfl ?_ | refine Go1.call rfl (few_ok _ _ _ _ _ _ _) rfl rfl ?_)
          | refine Go1.move rfl rfl ?_ | refine Go1.assign rfl rfl ?_ | refine Go1.extract rfl rfl rfl ?_ | refine Go1.box rfl rfl rfl rfl ?_ | refine Go1.alloc rfl rfl ?_ | refine Go1.pick rfl rfl rfl ?_ | refine Go1.pickHT rfl rfl (by first | (with_reducible assumption) | assumption) rfl ?_ | refine Go1.pickHF rfl rfl (by first | (with_reducible assumption) | assumption) rfl ?_ | refine Go1.pickB rfl rfl rfl rfl ?_ | refine Go1.pickV rfl rfl rfl rfl ?_ | refine Go1.conv rfl rfl (by first | (with_reducible assumption) | assumption | exact wrapI64 (by omega) (by omega) | exact wrapU64 (by omega) (by omega) | exact and1_i64 _ | rfl) ?_)
      | (refine Reg.is ?_; first | refine Reg.go ?_ | refine Reg.goT rfl rfl rfl ?_ | refine Reg.goF rfl rfl rfl ?_ | refine Reg.goU rfl rfl ?_ | refine Reg.goT rfl rfl (by first | (with_reducible assumption) | assumption) ?_ | refine Reg.goF rfl rfl (by first | (with_reducible assumption) | assumption) ?_ | refine Reg.nil ⟨by kernel_rfl, ?_⟩ | refine Reg.nil ?_)
      | (refine WP.is ?_; first | refine WP.seq ?_ | refine WP.regionL ?_ | refine WP.regionDL (by kernel_rfl) ?_ | refine WP.block ?_ | refine WP.skip ?_ | refine WP.exit ?_ | refine WP.ret ?_ | refine WP.label ?_ | refine WP.condT rfl ?_ | refine WP.condF rfl ?_ | refine WP.condHT rfl (by first | (with_reducible assumption) | assumption) ?_ | refine WP.condHF rfl (by first | (with_reducible assumption) | assumption) ?_)
      | refine thenN ?_ | refine thenE ?_ | refine thenR ?_ | refine inBlkN ?_ | refine inBlkR ?_ | refine inBlkE ?_ | refine inBlkO rfl ?_ | refine retR ?_ | refine retN ?_)
    exact RetOK.eq1 (ResOK.tmp rfl) rfl
  · have hfew1 : (decide ((l1.length : Int) ≤ 12) && decide ((l2.length : Int) ≤ 12) && decide ((l1.length : Int) ≤ 12)) = true := Bool.of_not_eq_false hfew
    have hfew2 : (!(decide ((l1.length : Int) ≤ 12) && decide ((l2.length : Int) ≤ 12) && decide ((l1.length : Int) ≤ 12))) = false := by rw [hfew1]; rfl
    have hl : l1.length ≤ 12 ∧ l2.length ≤ 12 := by simp at hfew1; omega
    clear hfew hfew1
    obtain ⟨hl1, hl2⟩ := hl
    have bx : Bd (sgn b1 (nval WB l1)) l1.length := inferInstance
    have bz : Bd (sgn b2 (nval WB l2)) l2.length := inferInstance
    generalize hx : sgn b1 (nval WB l1) = x at *
    generalize hy : sgn b2 (nval WB l2) = y at *
    have z1 : ZI (zW b1 l1) x l1.length := by rw [← hx]; infer_instance
    have z2 : ZI (zW b2 l2) y l2.length := by rw [← hy]; infer_instance
    clear hx hy
    have f1 : (!decide (x + y = x + y)) = false := by simp
    have f2 : (!decide (x - y = x - y)) = false := by simp
    have f3 : (!decide (x * y = x * y)) = false := by simp
    have g1 : decide (-x = -x) = true := by simp
    have g2 : decide ((x.natAbs : Int) = (x.natAbs : Int)) = true := by simp
    have g3 : decide (isign x = isign x) = true := by simp
    have g4 : decide (icmp x y = isign (x - y)) = true := by
      refine decide_eq_true ?_
      unfold icmp isign; repeat' split <;> omega
    have g5 : (decide (x = y) == decide (isign (x - y) = 0)) = true := by
      rw [isign_zero]
      have : decide (x = y) = decide (x - y = 0) := by rw [decide_eq_decide]; omega
      rw [this]; simp
    repeat (first
      | (refine Go1.is ?_; first
          | (refine Go1.isLoad ?_; first | refine Go1.load2 rfl rfl rfl rfl ?_ | refine Go1.load1 rfl rfl rfl rfl ?_ | refine Go1.loadR1 rfl rfl rfl ?_ | refine Go1.loadR2 rfl rfl rfl ?_ | refine Go1.load4 rfl rfl rfl rfl ?_ | refine Go1.loadR4 rfl rfl rfl ?_ | refine Go1.load3 rfl rfl rfl rfl ?_ | refine Go1.loadR3 rfl rfl rfl ?_)
          | (refine Go1.isBin ?_; first | refine Go1.lss rfl rfl rfl ?_ | refine Go1.eql rfl rfl rfl ?_ | refine Go1.neq rfl rfl rfl ?_ | refine Go1.gtr rfl rfl rfl ?_ | refine Go1.geq rfl rfl rfl ?_ | refine Go1.leq rfl rfl rfl ?_ | refine Go1.add rfl rfl rfl (by first | (with_reducible assumption) | assumption | exact wrapI64 (by omega) (by omega) | exact wrapU64 (by omega) (by omega) | exact and1_i64 _ | rfl) ?_ | refine Go1.sub rfl rfl rfl (by first | (with_reducible assumption) | assumption | exact wrapI64 (by omega) (by omega) | exact wrapU64 (by omega) (by omega) | exact and1_i64 _ | rfl) ?_ | refine Go1.mul rfl rfl rfl (by first | (with_reducible assumption) | assumption | exact wrapI64 (by omega) (by omega) | exact wrapU64 (by omega) (by omega) | exact and1_i64 _ | rfl) ?_ | refine Go1.quo rfl rfl rfl (by omega) (by first | (with_reducible assumption) | assumption | exact wrapI64 (by omega) (by omega) | exact wrapU64 (by omega) (by omega) | exact and1_i64 _ | rfl) ?_ | refine Go1.rem rfl rfl rfl (by omega) (by first | (with_reducible assumption) | assumption | exact wrapI64 (by omega) (by omega) | exact wrapU64 (by omega) (by omega) | exact and1_i64 _ | rfl) ?_ | refine Go1.eqlB rfl rfl rfl ?_ | refine Go1.neqB rfl rfl rfl ?_ | refine Go1.shr rfl rfl rfl (by omega) (by first | (with_reducible assumption) | assumption | exact wrapI64 (by omega) (by omega) | exact wrapU64 (by omega) (by omega) | exact and1_i64 _ | rfl) ?_ | refine Go1.shl rfl rfl rfl (by omega) (by first | (with_reducible assumption) | assumption | exact wrapI64 (by omega) (by omega) | exact wrapU64 (by omega) (by omega) | exact and1_i64 _ | rfl) ?_ | refine Go1.and rfl rfl rfl (by first | (with_reducible assumption) | assumption | exact wrapI64 (by omega) (by omega) | exact wrapU64 (by omega) (by omega) | exact and1_i64 _ | rfl) ?_)
          | (refine Go1.isUn ?_; first | refine Go1.not rfl rfl ?_ | refine Go1.neg rfl rfl (by first | (with_reducible assumption) | assumption | exact wrapI64 (by omega) (by omega) | exact wrapU64 (by omega) (by omega) | exact and1_i64 _ | rfl) ?_)
          | (refine Go1.isField ?_; first | refine Go1.fieldAddr rfl rfl ?_ | refine Go1.fieldAddrR rfl rfl ?_)
          | (refine Go1.isBuild ?_; first | refine Go1.build2 rfl rfl rfl rfl ?_ | refine Go1.build3 rfl rfl rfl rfl ?_ | refine Go1.build4 rfl rfl rfl rfl ?_ | refine Go1.build rfl rfl rfl rfl ?_)
          | (refine Go1.isStore ?_; first | refine Go1.store (by kernel_rfl) rfl rfl rfl rfl rfl rfl rfl ?_)
          | (refine Go1.isIx ?_; first | refine Go1.indexAddrR rfl rfl rfl (by omega) ?_)
          | (refine Go1.isCall ?_; first | refine Go1.lenR rfl rfl ?_ | refine Go1.lenN rfl rfl ?_ | refine Go1.lenS rfl rfl ?_ | refine Go1.call rfl (awake_ok) rfl rfl ?_ | refine Go1.call rfl (few_ok _ _ _ _ _ _ _) rfl rfl ?_ | refine Go1.call rfl (zNeg (by omega)) rfl rfl ?_ | refine Go1.call rfl (zSame (by omega)) rfl rfl ?_ | refine Go1.call rfl (zMul (by omega)) rfl rfl ?_ | refine Go1.call rfl (zAdd (by omega)) rfl rfl ?_ | refine Go1.call rfl (zSub (by omega)) rfl rfl ?_ | refine Go1.call rfl (zAbs (by omega)) rfl rfl ?_ | refine Go1.call rfl (zSign (by omega)) rfl rfl ?_ | refine Go1.call rfl (zCmp (by omega)) rfl rfl ?_ | refine Go1.call rfl (rFromZ (by omega)) rfl rfl ?_ | refine Go1.call rfl (rIs _ _ _ _ (by omega)) rfl rfl ?_ | refine Go1.call rfl (rAddZ _ _ _ _ (by omega)) rfl rfl ?_ | refine Go1.call rfl (rSubZ _ _ _ _ (by omega)) rfl rfl ?_ | refine Go1.call rfl (rMulZ _ _ _ _ (by omega)) rfl rfl ?_ | refine Go1.call rfl (rNeg _ _ (by omega)) rfl rfl ?_ | refine Go1.call rfl (rAbs _) rfl rfl ?_ | refine Go1.call rfl (rSign _) rfl rfl ?_ | refine Go1.call rfl (rCmpZ _ _ _ _ (by omega)) rfl rfl ?_)
          | refine Go1.move rfl rfl ?_ | refine Go1.assign rfl rfl ?_ | refine Go1.extract rfl rfl rfl ?_ | refine Go1.box rfl rfl rfl rfl ?_ | refine Go1.alloc rfl rfl ?_ | refine Go1.pick rfl rfl rfl ?_ | refine Go1.pickHT rfl rfl (by first | (with_reducible assumption) | assumption) rfl ?_ | refine Go1.pickHF rfl rfl (by first | (with_reducible assumption) | assumption) rfl ?_ | refine Go1.pickB rfl rfl rfl rfl ?_ | refine Go1.pickV rfl rfl rfl rfl ?_ | refine Go1.conv rfl rfl (by first | (with_reducible assumption) | assumption | exact wrapI64 (by omega) (by omega) | exact wrapU64 (by omega) (by omega) | exact and1_i64 _ | rfl) ?_)
      | (refine Reg.is ?_; first | refine Reg.go ?_ | refine Reg.goT rfl rfl rfl ?_ | refine Reg.goF rfl rfl rfl ?_ | refine Reg.goU rfl rfl ?_ | refine Reg.goT rfl rfl (by first | (with_reducible assumption) | assumption) ?_ | refine Reg.goF rfl rfl (by first | (with_reducible assumption) | assumption) ?_ | refine Reg.nil ⟨by kernel_rfl, ?_⟩ | refine Reg.nil ?_)
      | (refine WP.is ?_; first | refine WP.seq ?_ | refine WP.regionL ?_ | refine WP.regionDL (by kernel_rfl) ?_ | refine WP.block ?_ | refine WP.skip ?_ | refine WP.exit ?_ | refine WP.ret ?_ | refine WP.label ?_ | refine WP.condT rfl ?_ | refine WP.condF rfl ?_ | refine WP.condHT rfl (by first | (with_reducible assumption) | assumption) ?_ | refine WP.condHF rfl (by first | (with_reducible assumption) | assumption) ?_)
      | refine thenN ?_ | refine thenE ?_ | refine thenR ?_ | refine inBlkN ?_ | refine inBlkR ?_ | refine inBlkE ?_ | refine inBlkO rfl ?_ | refine retR ?_ | refine retN ?_)
    exact RetOK.eq1 (ResOK.tmp rfl) (by rw [g5])
end Go.Proofs.Ytkdonndeogihfaa

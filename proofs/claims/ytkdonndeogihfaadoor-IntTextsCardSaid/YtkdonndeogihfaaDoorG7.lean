import Derived.Test.YtkdonndeogihfaaDoorG6
/- The statement DecPrints answers true. -/
set_option linter.unusedVariables false
set_option linter.unusedSimpArgs false
namespace Go.Proofs.YtkdonndeogihfaaDoor
open Go.RowKit QM SX
attribute [local irreducible] IntKind.wrap Go1 Reg WP thenK inBlk retQ retF RetF RetOK ResOK CallOK OpOK Sat
attribute [local irreducible] dgs decS nval
theorem DecPrints_ok (a : List Nat) : PureOK Tryd.prog 3 [.r (rawN a)] (.v (.bool true)) := by
  refine lawN ⟨_, Tryd.func3, rfl, rfl⟩ fun hs => ?_
  have hx := nn_lt hs (Nat.le_refl a.length)
  refine PureOK.fnF Tryd.func3 Tryd.results3 Tryd.ntmps3 rfl rfl rfl (by simp [AV.ids, AV0.ids, Atom.ids]) rfl (fun w0 T B E0 hB => ?_)
  by_cases ha : a.length ≤ 20
  · have cF := rFrom0 a hs (by omega)
    have hx2 : nval WB a < 65536 ^ (4 * a.length) := by
      rw [Nat.pow_mul]; exact Nat.lt_of_lt_of_le hx (Nat.pow_le_pow_left (by rw [WB_eq]; decide) _)
    have cR := con_RPrint (nval WB a) (4 * a.length) hx2 (by omega)
    have cP := con_Print (a := .sat (rawN a)) hx (by omega)
    have cL := con_Len (a := .sat (rawN a)) hx (by omega)
    have hd : decide (decS (nval WB a) = decS (nval WB a)) = true := decide_eq_true rfl
    refine SX.go2 ?_
    refine retB ?_; exact decide_eq_true rfl
  · refine SX.go2 ?_
    exact retB rfl
end Go.Proofs.YtkdonndeogihfaaDoor

import Derived.Test.YtkdonndeogihfaaDoorG4
import Derived.Test.YtkdonndeogihfaaDoorQ4
/- The statement DecBack answers true. -/
set_option linter.unusedVariables false
set_option linter.unusedSimpArgs false
namespace Go.Proofs.YtkdonndeogihfaaDoor
open Go.RowKit QM SX
theorem same_nrm (x y k m : Nat) (hx : x < WB ^ k) (hy : y < WB ^ m) (h : k + m ≤ 1000000000) : PureOK Tryd.prog 22 [.r (nrmN x), .r (nrmN y)] (.v (.bool (decide (x = y)))) := by
  have lx := wds_len hx
  have ly := wds_len hy
  have c := rSame0 (wds x) (wds y) (by omega)
  have e : decide (wds x = wds y) = decide (x = y) := by
    rw [decide_eq_decide]
    exact ⟨fun h => by rw [← wds_val x, ← wds_val y, h], fun h => by rw [h]⟩
  rw [e] at c
  refine PureOK.args c fun E S w vs hv => ?_
  match vs, hv with
  | [u, v], ⟨h1, h2, _⟩ =>
    obtain ⟨l, a1, a2, _, a4⟩ := nrmN_iff.1 h1
    obtain ⟨m, b1, b2, _, b4⟩ := nrmN_iff.1 h2
    have ea : l = wds x := by rw [← a2]; exact wds_uniq (rawN_iff.1 a4).1 a1
    have eb : m = wds y := by rw [← b2]; exact wds_uniq (rawN_iff.1 b4).1 b1
    subst ea; subst eb
    exact ⟨a4, b4, trivial⟩
attribute [local irreducible] IntKind.wrap Go1 Reg WP thenK inBlk retQ retF RetF RetOK ResOK CallOK OpOK Sat
attribute [local irreducible] isN dval decS
theorem DecBack_ok (a : List Nat) (l : List UInt8) (h : l.length ≤ maxLen) : PureOK Tryd.prog 5 [.r (rawN a), .v (str l)] (.v (.bool true)) := by
  refine lawN ⟨_, Tryd.func5, rfl, rfl⟩ fun hs => ?_
  have hx := nn_lt hs (Nat.le_refl a.length)
  refine PureOK.fnF Tryd.func5 Tryd.results5 Tryd.ntmps5 rfl rfl rfl (by simp [AV.ids, AV0.ids, Atom.ids]) rfl (fun w0 T B E0 hB => ?_)
  by_cases ha : a.length ≤ 100
  · by_cases hl : l.length ≤ 2000
    · have hd := isN_decS hx (by omega)
      have cP := con_Print (a := .sat (rawN a)) hx (by omega)
      have hlen : (decS (nval WB a)).length ≤ 1000000000 := Nat.le_trans (isN_all hd.1).2.2 (by decide)
      have cQ := con_Parse (decS (nval WB a)) hlen
      rw [if_pos hd.1, hd.2, hd.1] at cQ
      have cN := nNorm (a := .sat (rawN a)) (show a.length ≤ 1099511627775 by omega)
      have cS := same_nrm (nval WB a) (nval WB a) a.length a.length hx hx (by omega)
      rw [decide_eq_true rfl] at cS
      have cR := con_Parse l (by omega)
      cases hN : isN l with
      | false =>
        rw [hN, if_neg (by simp)] at cR
        refine SX.go2 ?_
        exact retB rfl
      | true =>
        rw [hN, if_pos rfl] at cR
        have hA := isN_all hN
        haveI bd : BdN (dval l) l.length := ⟨bd_dval hA.1⟩
        have cT := con_Print (a := .sat (nrmN (dval l))) bd.h (by omega)
        rw [decS_dval hN] at cT
        refine SX.go2 ?_
        refine retB ?_; first | rfl | exact decide_eq_true rfl
    · refine SX.go2 ?_
      exact retB rfl
  · refine SX.go2 ?_
    exact retB rfl
end Go.Proofs.YtkdonndeogihfaaDoor

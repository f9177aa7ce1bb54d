import Derived.Test.YtkdonndeogihfaaL0
import Derived.Test.YtkdonndeogihfaaR8
import Derived.Test.YtkdonndeogihfaaSc
/- The statement IntDivides in the symbolic run. -/
set_option linter.unusedVariables false
set_option linter.unusedSimpArgs false
namespace Go.Proofs.Ytkdonndeogihfaa
open Go.RowKit QM SX
attribute [local irreducible] IntKind.wrap bitLen cmpI nval Go1 Reg WP thenK inBlk retQ RetOK ResOK CallOK OpOK Sat
attribute [local irreducible] sgn isign icmp zrem zfq zfr zeq zer zexok zexq
/-- Nought written out. -/
abbrev zZ : List Atom := [.c (.val (.bool false)), .c (.val (.slice none 0 0))]
theorem rIs0 (x : Int) (k : Nat) [hx : Bd x k] (hk : k ≤ 1000000) : PureOK Try.prog 18 [.agg (zN x), .agg zZ] (.v (.bool (decide (x = 0)))) :=
  (rIs x 0 k 0 (by omega)).args fun E S w vs hv => by
    match vs, hv with
    | [a, b], ⟨h1, ⟨us, hb, hall⟩, _⟩ =>
      refine ⟨h1, ⟨us, hb, ?_⟩, trivial⟩
      match us, hall with
      | [c, d], ⟨g1, g2, _⟩ =>
        refine ⟨g1, ?_, trivial⟩
        have g2' : d = .slice none 0 0 := g2
        subst g2'
        rw [show (0 : Int).natAbs = 0 from rfl, dgs_zero]
        exact digR_nil
set_option maxRecDepth 100000 in
set_option maxHeartbeats 2000000 in
theorem IntDivides_ok (b1 : Bool) (l1 : List Nat) (b2 : Bool) (l2 : List Nat) : PureOK Try.prog 3 [.agg (zW b1 l1), .agg (zW b2 l2)] (.v (.bool true)) := by
  refine law2 ⟨_, Try.func3, rfl, rfl⟩ fun hb1 hb2 => ?_
  refine PureOK.fn Try.func3 Try.results3 Try.ntmps3 rfl rfl rfl (by simp [AV.ids, AV0.ids, Atom.ids]) rfl (fun w0 T B E0 hB => ?_)
  by_cases hfew : (decide ((l1.length : Int) ≤ 10) && decide ((l2.length : Int) ≤ 10) && decide ((l1.length : Int) ≤ 10)) = false
  · have hfew2 : (!(decide ((l1.length : Int) ≤ 10) && decide ((l2.length : Int) ≤ 10) && decide ((l1.length : Int) ≤ 10))) = true := by rw [hfew]; rfl
    repeat (first | refine SX.goZ ?_ | (refine SX.Go1.is ?_; refine SX.Go1.isCall ?_; first
          | refine SX.Go1.call rfl (awake_ok) rfl rfl ?_
          | refine SX.Go1.call rfl (few_ok _ _ _ _ _ _ _) rfl rfl ?_))
    exact RetOK.eq1 (ResOK.tmp rfl) rfl
  · have hfew1 : (decide ((l1.length : Int) ≤ 10) && decide ((l2.length : Int) ≤ 10) && decide ((l1.length : Int) ≤ 10)) = true := Bool.of_not_eq_false hfew
    have hfew2 : (!(decide ((l1.length : Int) ≤ 10) && decide ((l2.length : Int) ≤ 10) && decide ((l1.length : Int) ≤ 10))) = false := by rw [hfew1]; rfl
    have hl : l1.length ≤ 10 ∧ l2.length ≤ 10 := by simp at hfew1; omega
    clear hfew hfew1
    obtain ⟨hl1, hl2⟩ := hl
    have bx : Bd (sgn b1 (nval WB l1)) l1.length := inferInstance
    have bz : Bd (sgn b2 (nval WB l2)) l2.length := inferInstance
    generalize hx : sgn b1 (nval WB l1) = x at *
    generalize hy : sgn b2 (nval WB l2) = y at *
    have z1 : ZI (zW b1 l1) x l1.length := by rw [← hx]; infer_instance
    have z2 : ZI (zW b2 l2) y l2.length := by rw [← hy]; infer_instance
    clear hx hy
    by_cases h0 : y = 0
    · have g1 : decide (isign y = 0) = true := by rw [isign_zero]; exact decide_eq_true h0
      have g2 : (!decide (y ≠ 0)) = true := by simp [h0]
      have g3 : (!zexok x y) = true := by unfold zexok; simp [h0]
      have g4 : decide (x.tdiv y = 0) = true := by simp [h0]
      have g5 : decide (zfr x y = 0) = true := by unfold zfr; simp [h0]
      have g6 : decide (zeq x y = 0) = true := by unfold zeq; simp [h0]
      have g7 : decide (zexq x y = 0) = true := by unfold zexq zexok; simp [h0]
      have bu : Bd (zeq x y) 0 := ⟨by rw [of_decide_eq_true g6]; simp⟩
      repeat (first | refine SX.goZ ?_ | (refine SX.Go1.is ?_; refine SX.Go1.isCall ?_; first
            | refine SX.Go1.call rfl (awake_ok) rfl rfl ?_
            | refine SX.Go1.call rfl (few_ok _ _ _ _ _ _ _) rfl rfl ?_
            | refine SX.Go1.call rfl (rFromZ (by omega)) rfl rfl ?_
            | refine SX.Go1.call rfl (zQuo (by omega)) rfl rfl ?_
            | refine SX.Go1.call rfl (zFloor (by omega)) rfl rfl ?_
            | refine SX.Go1.call rfl (zEuclid (by omega)) rfl rfl ?_
            | refine SX.Go1.call rfl (zExact (by omega)) rfl rfl ?_
            | refine SX.Go1.call rfl (rSign _) rfl rfl ?_
            | refine SX.Go1.call rfl (rIs0 _ _ (by omega)) rfl rfl ?_))
      exact RetOK.eq1 (ResOK.tmp rfl) (by rw [g7])
    · have g1 : decide (isign y = 0) = false := by rw [isign_zero]; exact decide_eq_false h0
      have g2 : (!decide (y ≠ 0)) = false := by simp [h0]
      have hm := Int.tmod_add_mul_tdiv x y
      have hm2 := Int.fmod_add_mul_fdiv x y
      rw [Int.mul_comm] at hm hm2
      have e2 : zrem x y = x - x.tdiv y * y := by unfold zrem; rw [if_neg h0]; omega
      have e3 : zfq x y = x.fdiv y := by unfold zfq; rw [if_neg h0]
      have e4 : zfr x y = x - x.fdiv y * y := by unfold zfr; rw [if_neg h0]; omega
      have e5 : zeq x y = x / y := by unfold zeq; rw [if_neg h0]
      have e6 : zer x y = x % y := by unfold zer; rw [if_neg h0]
      have bf : Bd (x.fdiv y) (l1.length + 1 + 1) := by rw [← e3]; infer_instance
      have bm : Bd (x % y) l2.length := by rw [← e6]; infer_instance
      have be : Bd (x / y) (l1.length + 1 + 1) := by
        have h1 := Bd.zfq x (y.natAbs : Int) l1.length
        have h2 : zfq x (y.natAbs : Int) = x / (y.natAbs : Int) := by
          unfold zfq; rw [if_neg (by omega)]; exact Int.fdiv_eq_ediv_of_nonneg x (by omega)
        rw [h2] at h1
        rcases Int.lt_or_le y 0 with h | h
        · rw [show (y.natAbs : Int) = -y by omega, Int.ediv_neg] at h1
          exact ⟨by have := h1.h; rwa [Int.natAbs_neg] at this⟩
        · rwa [show (y.natAbs : Int) = y by omega] at h1
      have bu : Bd (zeq x y) (l1.length + 1 + 1) := by rw [e5]; exact be
      have f1 : (!decide (x.tdiv y = x.tdiv y)) = false := by simp
      have f2 : (!decide (zrem x y = x - x.tdiv y * y)) = false := by simp [e2]
      have f3 : (!decide (zfq x y = x.fdiv y)) = false := by simp [e3]
      have f4 : (!decide (zfr x y = x - x.fdiv y * y)) = false := by simp [e4]
      have f5 : (!decide (zeq x y = x / y)) = false := by simp [e5]
      have f6 : (!decide (zer x y = x % y)) = false := by simp [e6]
      have hz := isign_zero (x - x.tdiv y * y)
      by_cases hd : x - x.tdiv y * y = 0
      · have s1 : decide (isign (x - x.tdiv y * y) ≠ 0) = false := by simp [hd] at hz ⊢; exact hz
        have hk : zexok x y = true := by unfold zexok; simp [h0, e2, hd]
        have g7 : decide (zexq x y = x.tdiv y) = true := by unfold zexq; simp [hk]
        repeat (first | refine SX.goZ ?_ | (refine SX.Go1.is ?_; refine SX.Go1.isCall ?_; first
              | refine SX.Go1.call rfl (awake_ok) rfl rfl ?_
              | refine SX.Go1.call rfl (few_ok _ _ _ _ _ _ _) rfl rfl ?_
              | refine SX.Go1.call rfl (rFromZ (by omega)) rfl rfl ?_
              | refine SX.Go1.call rfl (zQuo (by omega)) rfl rfl ?_
              | refine SX.Go1.call rfl (zFloor (by omega)) rfl rfl ?_
              | refine SX.Go1.call rfl (zEuclid (by omega)) rfl rfl ?_
              | refine SX.Go1.call rfl (zExact (by omega)) rfl rfl ?_
              | refine SX.Go1.call rfl (rSign _) rfl rfl ?_
              | refine SX.Go1.call rfl (rQuoZ _ _ _ _ h0 (by omega)) rfl rfl ?_
              | refine SX.Go1.call rfl (rFloorZ _ _ _ _ h0 (by omega)) rfl rfl ?_
              | refine SX.Go1.call rfl (rEuclidZ _ _ _ _ h0 (by omega)) rfl rfl ?_
              | refine SX.Go1.call rfl (rIs0 _ _ (by omega)) rfl rfl ?_
              | refine SX.Go1.call rfl (rIs _ _ _ _ (by omega)) rfl rfl ?_))
        exact RetOK.eq1 (ResOK.tmp rfl) (by rw [g7])
      · have s1 : decide (isign (x - x.tdiv y * y) ≠ 0) = true := by simp [hd] at hz ⊢; exact hz
        have hk0 : zexok x y = false := by unfold zexok; simp [h0, e2, hd]
        have hk : (!zexok x y) = true := by rw [hk0]; rfl
        have g7 : decide (zexq x y = 0) = true := by unfold zexq; simp [hk0]
        repeat (first | refine SX.goZ ?_ | (refine SX.Go1.is ?_; refine SX.Go1.isCall ?_; first
              | refine SX.Go1.call rfl (awake_ok) rfl rfl ?_
              | refine SX.Go1.call rfl (few_ok _ _ _ _ _ _ _) rfl rfl ?_
              | refine SX.Go1.call rfl (rFromZ (by omega)) rfl rfl ?_
              | refine SX.Go1.call rfl (zQuo (by omega)) rfl rfl ?_
              | refine SX.Go1.call rfl (zFloor (by omega)) rfl rfl ?_
              | refine SX.Go1.call rfl (zEuclid (by omega)) rfl rfl ?_
              | refine SX.Go1.call rfl (zExact (by omega)) rfl rfl ?_
              | refine SX.Go1.call rfl (rSign _) rfl rfl ?_
              | refine SX.Go1.call rfl (rQuoZ _ _ _ _ h0 (by omega)) rfl rfl ?_
              | refine SX.Go1.call rfl (rFloorZ _ _ _ _ h0 (by omega)) rfl rfl ?_
              | refine SX.Go1.call rfl (rEuclidZ _ _ _ _ h0 (by omega)) rfl rfl ?_
              | refine SX.Go1.call rfl (rIs0 _ _ (by omega)) rfl rfl ?_
              | refine SX.Go1.call rfl (rIs _ _ _ _ (by omega)) rfl rfl ?_))
        exact RetOK.eq1 (ResOK.tmp rfl) (by rw [g7])
end Go.Proofs.Ytkdonndeogihfaa

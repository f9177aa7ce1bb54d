import Derived.Test.YtkdonndeogihfaaY5
/- Package zint: cofactor, Xgcd. -/
set_option linter.unusedVariables false
set_option linter.unusedSimpArgs false
namespace Go.Proofs.Ytkdonndeogihfaa
open Go.RowKit QM SX
attribute [local irreducible] IntKind.wrap bitLen cmpI nval Go1 Reg WP thenK inBlk retQ RetOK ResOK CallOK OpOK Sat
/-- What the loop of cofactor comes to. -/
def cofL (a b x n : Int) : Int × Int := if h : b = 0 then (a, x) else cofL b (a.tmod b) n (x - a.tdiv b * n)
termination_by b.natAbs
decreasing_by rw [Int.natAbs_tmod]; exact Nat.mod_lt _ (by omega)
theorem cofL_zero (a x n : Int) : cofL a 0 x n = (a, x) := by rw [cofL]; simp
theorem cofL_step {a b x n : Int} (h : b ≠ 0) : cofL a b x n = cofL b (a.tmod b) n (x - a.tdiv b * n) := by rw [cofL]; simp [h]
theorem cof_nat {A B X N Q R M : Nat} (h : B * Q + R = A) (hi : X * B + N * A ≤ M) : N * R + (X + Q * N) * B ≤ M := by
  subst h
  refine Nat.le_trans (Nat.le_of_eq ?_) hi
  grind
structure Cof (a0 b0 a b x n : Int) : Prop where
  inv : x.natAbs * b.natAbs + n.natAbs * a.natAbs ≤ b0.natAbs
  hx : x.natAbs ≤ b0.natAbs + 1
  hn : n.natAbs ≤ b0.natAbs
  ha : a.natAbs ≤ a0.natAbs + b0.natAbs
  hb : b.natAbs ≤ a0.natAbs + b0.natAbs
  eq : cofL a b x n = cofL a0 b0 1 0
theorem Cof.start (a b : Int) : Cof a b a b 1 0 := ⟨by simp, by simp, by simp, by omega, by omega, rfl⟩
theorem Cof.step {a0 b0 a b x n : Int} (hb0 : b ≠ 0) (h : Cof a0 b0 a b x n) : Cof a0 b0 b (zrem a b) n (x - a.tdiv b * n) ∧ (zrem a b).natAbs < b.natAbs := by
  have hr : zrem a b = a.tmod b := by unfold zrem; rw [if_neg hb0]
  have hB : 0 < b.natAbs := by omega
  rw [hr]
  have hN : (x - a.tdiv b * n).natAbs ≤ x.natAbs + a.natAbs / b.natAbs * n.natAbs := by
    have := Int.natAbs_sub_le x (a.tdiv b * n)
    rw [Int.natAbs_mul, Int.natAbs_tdiv] at this
    exact this
  have hi := cof_nat (Nat.div_add_mod a.natAbs b.natAbs) h.inv
  have hi2 : (x - a.tdiv b * n).natAbs * b.natAbs ≤ (x.natAbs + a.natAbs / b.natAbs * n.natAbs) * b.natAbs := Nat.mul_le_mul_right _ hN
  have hm : a.natAbs % b.natAbs < b.natAbs := Nat.mod_lt _ hB
  refine ⟨⟨?_, by have := h.hn; omega, ?_, h.hb, ?_, ?_⟩, ?_⟩
  · rw [Int.natAbs_tmod]; omega
  · have : (x - a.tdiv b * n).natAbs * 1 ≤ (x - a.tdiv b * n).natAbs * b.natAbs := Nat.mul_le_mul_left _ hB
    omega
  · rw [Int.natAbs_tmod]; have := h.hb; omega
  · rw [← h.eq, cofL_step hb0]
  · rw [Int.natAbs_tmod]; exact hm
theorem gcd_tmod (a b : Int) : Int.gcd b (a.tmod b) = Int.gcd a b := by
  unfold Int.gcd
  rw [Int.natAbs_tmod, Nat.gcd_comm b.natAbs, Nat.gcd_comm a.natAbs]
  exact (Nat.gcd_rec b.natAbs a.natAbs).symm
theorem cofL_spec (a0 b0 : Int) : ∀ (m : Nat) (a b x n : Int), b.natAbs ≤ m → (∃ u, x * a0 + u * b0 = a) → (∃ u, n * a0 + u * b0 = b) → (cofL a b x n).1.natAbs = Int.gcd a b ∧ ∃ u, (cofL a b x n).2 * a0 + u * b0 = (cofL a b x n).1
  | m, a, b, x, n, hm, ha, hb => by
    by_cases h0 : b = 0
    · subst h0
      rw [cofL_zero]
      exact ⟨by simp, ha⟩
    · cases m with
      | zero => omega
      | succ m =>
        rw [cofL_step h0, ← gcd_tmod a b]
        refine cofL_spec a0 b0 m b (a.tmod b) n (x - a.tdiv b * n) ?_ hb ?_
        · rw [Int.natAbs_tmod]
          have := Nat.mod_lt a.natAbs (show 0 < b.natAbs by omega)
          omega
        · obtain ⟨u, hu⟩ := ha
          obtain ⟨v, hv⟩ := hb
          refine ⟨u - a.tdiv b * v, ?_⟩
          have h1 := Int.tmod_add_mul_tdiv a b
          have h2 : a.tmod b = a - b * a.tdiv b := by omega
          rw [h2]
          generalize a.tdiv b = q
          rw [← hu, ← hv]
          grind
/-- What cofactor answers. -/
def cofx (a b : Int) : Int := if (cofL a b 1 0).1 < 0 then -(cofL a b 1 0).2 else (cofL a b 1 0).2
theorem cofx_spec (a b : Int) : ∃ u, cofx a b * a + u * b = (Int.gcd a b : Int) := by
  obtain ⟨h1, u, hu⟩ := cofL_spec a b b.natAbs a b 1 0 (Nat.le_refl _) ⟨0, by omega⟩ ⟨1, by omega⟩
  unfold cofx
  split
  · refine ⟨-u, ?_⟩
    rw [← h1, Int.neg_mul, Int.neg_mul]; omega
  · refine ⟨u, ?_⟩
    rw [← h1]; omega
theorem cof_abs (a b : Int) : ((cofL a b 1 0).1 < 0 → -(cofL a b 1 0).1 = (Int.gcd a b : Int)) ∧ (¬ (cofL a b 1 0).1 < 0 → (cofL a b 1 0).1 = (Int.gcd a b : Int)) := by
  obtain ⟨h1, _⟩ := cofL_spec a b b.natAbs a b 1 0 (Nat.le_refl _) ⟨0, by omega⟩ ⟨1, by omega⟩
  omega
theorem cofL_bd (a0 b0 : Int) : ∀ (m : Nat) (a b x n : Int), b.natAbs ≤ m → Cof a0 b0 a b x n → (cofL a b x n).2.natAbs ≤ b0.natAbs + 1
  | m, a, b, x, n, hm, h => by
    by_cases h0 : b = 0
    · subst h0; rw [cofL_zero]; exact h.hx
    · cases m with
      | zero => omega
      | succ m =>
        obtain ⟨h1, h2⟩ := h.step h0
        rw [cofL_step h0]
        have hr : zrem a b = a.tmod b := by unfold zrem; rw [if_neg h0]
        rw [hr] at h1 h2
        exact cofL_bd a0 b0 m b (a.tmod b) n _ (by omega) h1
theorem le_bd {z : Int} {B k : Nat} (h : z.natAbs ≤ B) (hb : B < WB ^ k) : z.natAbs < WB ^ k := Nat.lt_of_le_of_lt h hb
theorem one_bd {B k : Nat} (h : B < WB ^ k) : B + 1 < WB ^ (k + 1 + 1) := bdn_add (x := B) (y := 1) h (by simp [WB])
instance Bd.cofx (a b : Int) (m : Nat) [h : Bd b m] : Bd (cofx a b) (m + 1 + 1) := ⟨by
  have := cofL_bd a b b.natAbs a b 1 0 (Nat.le_refl _) (Cof.start a b)
  unfold Proofs.Ytkdonndeogihfaa.cofx
  refine Nat.lt_of_le_of_lt ?_ (one_bd h.h)
  split <;> omega⟩
instance Bd.zer (x y : Int) (m : Nat) [h : Bd y m] : Bd (zer x y) m := ⟨by
  unfold Proofs.Ytkdonndeogihfaa.zer
  split
  · exact Nat.lt_of_lt_of_le (by decide) (WB_one_le _)
  · have h1 := Int.emod_nonneg x (show y ≠ 0 by assumption)
    have h2 : x % y < (y.natAbs : Int) := by
      rcases Int.lt_or_le y 0 with h | h
      · have := Int.emod_lt_of_pos x (show 0 < -y by omega)
        rw [Int.emod_neg] at this; omega
      · have := Int.emod_lt_of_pos x (show 0 < y by omega)
        omega
    exact Nat.lt_of_le_of_lt (show (x % y).natAbs ≤ y.natAbs by omega) h.h⟩
theorem zexok_of {x y : Int} (hy : y ≠ 0) (h : y ∣ x) : zexok x y = true := by
  unfold zexok zrem; rw [if_neg hy]; simp [hy, Int.tmod_eq_zero_of_dvd h]
theorem zexq_mul {x y : Int} (hy : y ≠ 0) (h : y ∣ x) : zexq x y * y = x := by
  unfold zexq; rw [zexok_of hy h, if_pos rfl]; exact Int.tdiv_mul_cancel h
attribute [local irreducible] sgn isign zrem zexok zexq zer zeq cofx
set_option maxRecDepth 100000 in
set_option maxHeartbeats 1000000 in
theorem zCof {l l' : List Atom} {x y : Int} {k m : Nat} [h : ZI l x k] [h' : ZI l' y m] (hk : k + m ≤ 68719476736) : PureOK Try.prog 64 [.agg l, .agg l'] (.tup [.agg (zN (Int.gcd x y : Int)), .agg (zN (cofx x y))]) := by
  refine z2 ⟨_, Try.func64, rfl, rfl⟩ fun neg n neg2 n2 hz hz2 hn hn2 => ?_
  refine PureOK.fn Try.func64 Try.results64 Try.ntmps64 rfl rfl rfl (by simp [AV.ids, AV0.ids, Atom.ids]) rfl (fun w0 T B E0 hB => ?_)
  have bx0 : Bd x k := by rw [hz]; infer_instance
  have by0 : Bd y m := by rw [hz2]; infer_instance
  repeat (first | refine SX.goZ ?_ | (refine SX.Go1.is ?_; refine SX.Go1.isCall ?_; first
        | refine SX.Go1.call rfl (zOne) rfl rfl ?_
        | refine SX.Go1.call rfl (zFrom _ (by omega)) rfl rfl ?_))
  rw [← hz, ← hz2]
  refine WP.loop (ι := {p : Int × Int × Int × Int // Cof x y p.1 p.2.1 p.2.2.1 p.2.2.2}) (fun i => mkSt [(2, .ptr 2 0), (3, .ptr 3 0), (4, .ptr 4 0), (5, .ptr 5 0), (6, .ptr 6 0), (7, .ptr 7 0)]
      [(2, .box 25 (zN i.val.1)), (3, .box 25 (zN i.val.2.1)), (4, .box 25 [.c (.val (.bool false)), .c (.val (.slice none 0 0))]), (5, .box 25 [.c (.val (.bool false)), .c (.val (.slice none 0 0))]), (6, .box 25 (zN i.val.2.2.1)), (7, .box 25 (zN i.val.2.2.2))])
    (fun i => i.val.2.1.natAbs) ⟨(x, y, 1, 0), Cof.start x y⟩
    (St.le_to [] (fun b h => by cases h) ⟨⟨_, rfl, AVto.same rfl⟩, ⟨_, rfl, AVto.same rfl⟩, ⟨_, rfl, AVto.same rfl⟩, ⟨_, rfl, AVto.same rfl⟩, ⟨_, rfl, AVto.same rfl⟩, ⟨_, rfl, AVto.same rfl⟩, trivial⟩
      ⟨.same rfl rfl, .same rfl rfl, .same rfl rfl, .same rfl rfl, .same rfl rfl, .box rfl zN0 rfl, trivial⟩ rfl) (fun i => ?_)
  obtain ⟨⟨a, b, u, n0⟩, hc⟩ := i
  simp only at hc ⊢
  have ba : Bd a (k + m + 1) := ⟨le_bd hc.ha (bdn_add bx0.h by0.h)⟩
  have bb : Bd b (k + m + 1) := ⟨le_bd hc.hb (bdn_add bx0.h by0.h)⟩
  have bu : Bd u (m + 1 + 1) := ⟨le_bd hc.hx (one_bd by0.h)⟩
  have bn : Bd n0 m := ⟨le_bd hc.hn by0.h⟩
  by_cases hb0 : b = 0
  · have g1 : decide (isign b ≠ 0) = false := by rw [hb0]; unfold isign; rfl
    repeat (first | refine SX.goZ ?_ | (refine SX.Go1.is ?_; refine SX.Go1.isCall ?_; first
          | refine SX.Go1.call rfl (zSign (by omega)) rfl rfl ?_))
    subst hb0
    have he := hc.eq
    rw [cofL_zero] at he
    obtain ⟨e1, e2⟩ := cof_abs x y
    rw [← he] at e1 e2
    simp only at e1 e2
    have hcx : cofx x y = if a < 0 then -u else u := by unfold cofx; rw [← he]
    rw [hcx]
    by_cases ha : a < 0
    · have g2 : decide (isign a < 0) = true := by rw [isign_neg]; simp [ha]
      rw [if_pos ha, ← e1 ha]
      repeat (first | refine SX.goZ ?_ | (refine SX.Go1.is ?_; refine SX.Go1.isCall ?_; first
            | refine SX.Go1.call rfl (zSign (by omega)) rfl rfl ?_
            | refine SX.Go1.call rfl (zNeg (by omega)) rfl rfl ?_))
      exact RetOK.eq2 (ResOK.agg2 rfl rfl rfl) (ResOK.agg2 rfl rfl rfl) rfl rfl
    · have g2 : decide (isign a < 0) = false := by rw [isign_neg]; simp [ha]
      rw [if_neg ha, ← e2 ha]
      repeat (first | refine SX.goZ ?_ | (refine SX.Go1.is ?_; refine SX.Go1.isCall ?_; first
            | refine SX.Go1.call rfl (zSign (by omega)) rfl rfl ?_
            | refine SX.Go1.call rfl (zNeg (by omega)) rfl rfl ?_))
      exact RetOK.eq2 (ResOK.agg2 rfl rfl rfl) (ResOK.agg2 rfl rfl rfl) rfl rfl
  · have g1 : decide (isign b ≠ 0) = true := by
      have := isign_zero b
      simp [hb0] at this
      simp [this]
    repeat (first | refine SX.goZ ?_ | (refine SX.Go1.is ?_; refine SX.Go1.isCall ?_; first
          | refine SX.Go1.call rfl (zSign (by omega)) rfl rfl ?_
          | refine SX.Go1.call rfl (zQuo (by omega)) rfl rfl ?_
          | refine SX.Go1.call rfl (zSub (by omega)) rfl rfl ?_
          | refine SX.Go1.call rfl (zMul (by omega)) rfl rfl ?_))
    obtain ⟨c1, c2⟩ := hc.step hb0
    exact ⟨⟨(b, zrem a b, n0, u - a.tdiv b * n0), c1⟩, St.le_to [] (fun b h => by cases h) ⟨⟨_, rfl, AVto.same rfl⟩, ⟨_, rfl, AVto.same rfl⟩, ⟨_, rfl, AVto.same rfl⟩, ⟨_, rfl, AVto.same rfl⟩, ⟨_, rfl, AVto.same rfl⟩, ⟨_, rfl, AVto.same rfl⟩, trivial⟩
      ⟨.same rfl rfl, .same rfl rfl, .same rfl rfl, .same rfl rfl, .same rfl rfl, .same rfl rfl, trivial⟩ rfl, c2⟩
/-- What Xgcd answers. -/
def xgx (a b : Int) : Int := if b = 0 then isign a else zer (cofx a b) (zexq (b.natAbs : Int) (Int.gcd a b : Int))
def xgy (a b : Int) : Int := if b = 0 then 0 else zexq ((Int.gcd a b : Int) - xgx a b * a) b
set_option maxRecDepth 100000 in
theorem zXgcd {l l' : List Atom} {x y : Int} {k m : Nat} [h : ZI l x k] [h' : ZI l' y m] (hk : k + m ≤ 1073741824) : PureOK Try.prog 42 [.agg l, .agg l'] (.tup [.agg (zN (Int.gcd x y : Int)), .agg (zN (xgx x y)), .agg (zN (xgy x y))]) := by
  refine z2 ⟨_, Try.func42, rfl, rfl⟩ fun neg n neg2 n2 hz hz2 hn hn2 => ?_
  refine PureOK.fn Try.func42 Try.results42 Try.ntmps42 rfl rfl rfl (by simp [AV.ids, AV0.ids, Atom.ids]) rfl (fun w0 T B E0 hB => ?_)
  by_cases hy : y = 0
  · have g1 : decide (isign (sgn neg2 n2) = 0) = true := by rw [isign_zero, ← hz2]; simp [hy]
    have hx : xgx x y = isign (sgn neg n) := by unfold xgx; rw [if_pos hy, hz]
    have hY : xgy x y = 0 := by unfold xgy; rw [if_pos hy]
    have hg : (Int.gcd x y : Int) = ((sgn neg n).natAbs : Int) := by rw [hy, hz]; simp
    have hs : -1 ≤ isign (sgn neg n) ∧ isign (sgn neg n) ≤ 1 := by unfold isign; repeat' split <;> omega
    rw [hx, hY, hg]
    repeat (first | refine SX.goZ ?_ | (refine SX.Go1.is ?_; refine SX.Go1.isCall ?_; first
          | refine SX.Go1.call rfl (zSign (by omega)) rfl rfl ?_
          | refine SX.Go1.call rfl (zAbs (by omega)) rfl rfl ?_
          | refine SX.Go1.call rfl (zOf _ (by omega) (by omega)) rfl rfl ?_))
    exact RetOK.mk3 (ResOK.agg2 rfl rfl rfl) (ResOK.agg2 rfl rfl rfl) (ResOK.imp (ResOK.agg2 rfl rfl rfl) zN0)
  · have g1 : decide (isign (sgn neg2 n2) = 0) = false := by rw [isign_zero, ← hz2]; simp [hy]
    have hx : xgx x y = zer (cofx x y) (zexq (y.natAbs : Int) (Int.gcd x y : Int)) := by unfold xgx; rw [if_neg hy]
    have hY : xgy x y = zexq ((Int.gcd x y : Int) - xgx x y * x) y := by unfold xgy; rw [if_neg hy]
    rw [hY, hx]
    subst hz hz2
    repeat (first | refine SX.goZ ?_ | (refine SX.Go1.is ?_; refine SX.Go1.isCall ?_; first
          | refine SX.Go1.call rfl (zSign (by omega)) rfl rfl ?_
          | refine SX.Go1.call rfl (zAbs (by omega)) rfl rfl ?_
          | refine SX.Go1.call rfl (zCof (by omega)) rfl rfl ?_
          | refine SX.Go1.call rfl (zExact (by omega)) rfl rfl ?_
          | refine SX.Go1.call rfl (zEuclid (by omega)) rfl rfl ?_
          | refine SX.Go1.call rfl (zSub (by omega)) rfl rfl ?_
          | refine SX.Go1.call rfl (zMul (by omega)) rfl rfl ?_))
    exact RetOK.mk3 (ResOK.agg2 rfl rfl rfl) (ResOK.agg2 rfl rfl rfl) (ResOK.agg2 rfl rfl rfl)
instance Bd.isign (x : Int) : Bd (isign x) 1 := ⟨by
  have : (Proofs.Ytkdonndeogihfaa.isign x).natAbs ≤ 1 := by unfold Proofs.Ytkdonndeogihfaa.isign; repeat' split <;> omega
  exact Nat.lt_of_le_of_lt this (by simp [WB])⟩
instance Bd.xgx (x y : Int) (k m : Nat) [hx : Bd x k] [hy : Bd y m] : Bd (xgx x y) (m + 1) := ⟨by
  unfold Proofs.Ytkdonndeogihfaa.xgx
  split
  · exact Bd.mono (Bd.isign x).h (by omega)
  · exact Bd.mono (Bd.zer (Proofs.Ytkdonndeogihfaa.cofx x y) (Proofs.Ytkdonndeogihfaa.zexq (y.natAbs : Int) (Int.gcd x y : Int)) m).h (by omega)⟩
instance Bd.xgy (x y : Int) (k m : Nat) [hx : Bd x k] [hy : Bd y m] : Bd (xgy x y) (k + m + (m + 1 + k) + 1) := ⟨by
  unfold Proofs.Ytkdonndeogihfaa.xgy
  split
  · exact Nat.lt_of_lt_of_le (by decide) (WB_one_le _)
  · exact (Bd.zexq _ _ (k + m + (m + 1 + k) + 1)).h⟩
theorem xg_spec {x y : Int} (hy : y ≠ 0) : zexok (y.natAbs : Int) (Int.gcd x y : Int) = true ∧ 0 ≤ xgx x y ∧ xgx x y < zexq (y.natAbs : Int) (Int.gcd x y : Int) ∧ xgx x y * x + xgy x y * y = (Int.gcd x y : Int) := by
  have hg0 : (Int.gcd x y : Int) ≠ 0 := fun e => hy ((Int.gcd_eq_zero_iff.1 (show Int.gcd x y = 0 by omega)).2)
  have hd : (Int.gcd x y : Int) ∣ (y.natAbs : Int) := Int.dvd_natAbs.2 (Int.gcd_dvd_right ..)
  have hs := zexq_mul hg0 hd
  have hX : xgx x y = zer (cofx x y) (zexq (y.natAbs : Int) (Int.gcd x y : Int)) := by unfold xgx; rw [if_neg hy]
  have hY : xgy x y = zexq ((Int.gcd x y : Int) - xgx x y * x) y := by unfold xgy; rw [if_neg hy]
  obtain ⟨x', hx'⟩ : (Int.gcd x y : Int) ∣ x := Int.gcd_dvd_left ..
  obtain ⟨u, hu⟩ := cofx_spec x y
  generalize hsn : zexq (y.natAbs : Int) (Int.gcd x y : Int) = s at *
  have hs0 : s ≠ 0 := by rintro rfl; rw [Int.zero_mul] at hs; omega
  have hsp : 0 < s := by
    rcases Int.lt_trichotomy s 0 with h | h | h
    · have := Int.mul_neg_of_neg_of_pos h (show 0 < (Int.gcd x y : Int) by omega); omega
    · exact absurd h hs0
    · exact h
  have hXe : xgx x y = cofx x y % s := by rw [hX]; unfold zer; rw [if_neg hs0]
  have hdv : y ∣ (Int.gcd x y : Int) - xgx x y * x := by
    have h1 := Int.emod_add_mul_ediv (cofx x y) s
    have h2 : xgx x y = cofx x y - s * (cofx x y / s) := by omega
    obtain ⟨t, ht⟩ : y ∣ (y.natAbs : Int) := Int.dvd_natAbs.2 (Int.dvd_refl y)
    refine ⟨u + t * (cofx x y / s) * x', ?_⟩
    rw [h2]
    generalize cofx x y / s = q at *
    generalize cofx x y = c at *
    have e1 : s * q * x = y * (t * q * x') := by
      rw [hx']
      generalize (Int.gcd x y : Int) = g at *
      rw [ht] at hs
      have : s * q * (g * x') = (s * g) * (q * x') := by grind
      rw [this, hs]; grind
    rw [Int.sub_mul, e1, Int.mul_add, ← hu]
    grind
  refine ⟨zexok_of hg0 hd, ?_, ?_, ?_⟩
  · rw [hXe]; exact Int.emod_nonneg _ hs0
  · rw [hXe]; exact Int.emod_lt_of_pos _ hsp
  · rw [hY, zexq_mul hy hdv]; omega
end Go.Proofs.Ytkdonndeogihfaa

import Derived.Test.YtkdonndeogihfaaR6
import Derived.Test.YtkdonndeogihfaaSc
/- The reference for division (package quincunxref03): bit, DivMod. -/
set_option linter.unusedVariables false
set_option linter.unusedSimpArgs false
namespace Go.Proofs.Ytkdonndeogihfaa
open Go.RowKit QM SX
attribute [local irreducible] IntKind.wrap bitLen cmpI nval Go1 Reg WP thenK inBlk retQ RetOK ResOK CallOK OpOK Sat
theorem bit_nat {P d h low r : Nat} (hlow : low < P) (hr : r < 16) : (low + P * (d + 65536 * h)) / (P * 2 ^ r) % 2 = d / 2 ^ r % 2 := by
  rw [← Nat.div_div_eq_div_mul]
  have hP : 0 < P := by omega
  have e : (low + P * (d + 65536 * h)) / P = d + 65536 * h := by
    rw [Nat.add_mul_div_left _ _ hP, Nat.div_eq_of_lt hlow, Nat.zero_add]
  rw [e]
  have e2 : 65536 * h = 2 ^ r * (2 * (2 ^ (15 - r) * h)) := by
    have : (65536 : Nat) = 2 ^ r * (2 * 2 ^ (15 - r)) := by
      rw [← Nat.pow_succ', ← Nat.pow_add, show r + (15 - r + 1) = 16 by omega]
    rw [this]; grind
  rw [e2, Nat.add_mul_div_left _ _ (Nat.pow_pos (by omega))]
  omega
theorem bit_val {l : List Nat} (hs : Sm 65536 l) (i : Nat) : nval 65536 l / 2 ^ i % 2 = l.getD (i / 16) 0 / 2 ^ (i % 16) % 2 := by
  have h1 := nval_split (B := 65536) l (i / 16)
  have h2 : nval 65536 (l.drop (i / 16)) = l.getD (i / 16) 0 + 65536 * nval 65536 (l.drop (i / 16 + 1)) := by
    have := nval_dt 65536 l (i / 16) l.length
    rwa [List.take_of_length_le (by rw [List.length_drop]; omega), List.take_of_length_le (by rw [List.length_drop]; omega)] at this
  have h3 : nval 65536 (l.take (i / 16)) < 65536 ^ (i / 16) := by
    refine Nat.lt_of_lt_of_le (nval_lt (hs.take _)) (Nat.pow_le_pow_right (by omega) ?_)
    rw [List.length_take]; exact Nat.min_le_left _ _
  have e : 2 ^ i = 65536 ^ (i / 16) * 2 ^ (i % 16) := by
    rw [show (65536 : Nat) = 2 ^ 16 by decide, ← Nat.pow_mul, ← Nat.pow_add]; congr 1; omega
  rw [e, h1, h2]
  exact bit_nat h3 (Nat.mod_lt _ (by omega))
set_option maxRecDepth 100000 in
theorem rBit (l : List Nat) (i : Nat) (hs : Sm 65536 l) (hi : i / 16 < l.length) (hi2 : i ≤ 100000000000) : PureOK Try.prog 72 [.r (digR l), .v (.int .i64 (i : Int))] (.v (.int .i64 ((nval 65536 l / 2 ^ i % 2 : Nat) : Int))) := by
  rw [bit_val hs]
  refine PureOK.fn Try.func72 Try.results72 Try.ntmps72 rfl rfl rfl (by simp [AV.ids, AV0.ids, Atom.ids]) rfl (fun w0 T B E0 hB => ?_)
  have g := gd_get hi
  have hg := gd_sm hs (i / 16)
  generalize l.getD (i / 16) 0 = x0 at *
  have a1 : IntKind.i64.wrap (((i : Nat) : Int).tdiv 16) = ((i / 16 : Nat) : Int) := by
    rw [show ((i : Nat) : Int).tdiv 16 = ((i / 16 : Nat) : Int) from rfl]; exact wrapI64 (by omega) (by omega)
  have a2 : ((i : Nat) : Int).tmod 16 = ((i % 16 : Nat) : Int) := rfl
  repeat (first | refine SX.goZ ?_)
  refine WP.loop (ι := {k : Nat // k ≤ i % 16}) (fun k => mkSt [(1, .v (.int .i64 (i : Int))), (5, .v (.int .i64 ((x0 / 2 ^ k.val : Nat) : Int))), (6, .v (.int .i64 (k.val : Int)))] []) (fun k => i % 16 - k.val) ⟨0, Nat.zero_le _⟩
    (St.le_to [] (fun b h => by cases h) ⟨⟨_, rfl, AVto.same rfl⟩, ⟨_, rfl, AVto.eq (by rw [Nat.pow_zero, Nat.div_one]; rfl) rfl⟩, ⟨_, rfl, AVto.same rfl⟩, trivial⟩ trivial rfl) (fun k => ?_)
  obtain ⟨k, hk⟩ := k
  simp only
  by_cases hlt : k < i % 16
  · have d1 : decide ((k : Int) < ((i % 16 : Nat) : Int)) = true := decide_eq_true (by omega)
    have hd : x0 / 2 ^ k ≤ x0 := Nat.div_le_self ..
    have e : x0 / 2 ^ (k + 1) = x0 / 2 ^ k / 2 := by rw [Nat.pow_succ, Nat.div_div_eq_div_mul]
    have a3 : IntKind.i64.wrap (((x0 / 2 ^ k : Nat) : Int).tdiv 2) = ((x0 / 2 ^ (k + 1) : Nat) : Int) := by
      rw [e]
      generalize x0 / 2 ^ k = y at *
      rw [show ((y : Nat) : Int).tdiv 2 = ((y / 2 : Nat) : Int) from rfl]; exact wrapI64 (by omega) (by omega)
    have a4 : IntKind.i64.wrap ((k : Int) + 1) = ((k + 1 : Nat) : Int) := by rw [← Int.natCast_add_one]; exact wrapI64 (by omega) (by omega)
    repeat (first | refine SX.goZ ?_)
    exact ⟨⟨k + 1, by omega⟩, St.le_to [] (fun b h => by cases h) ⟨⟨_, rfl, AVto.same rfl⟩, ⟨_, rfl, AVto.same rfl⟩, ⟨_, rfl, AVto.same rfl⟩, trivial⟩ trivial rfl, by simp only; omega⟩
  · obtain rfl : k = i % 16 := by omega
    have d1 : decide (((i % 16 : Nat) : Int) < ((i % 16 : Nat) : Int)) = false := decide_eq_false (by omega)
    have a5 : ((x0 / 2 ^ (i % 16) : Nat) : Int).tmod 2 = ((x0 / 2 ^ (i % 16) % 2 : Nat) : Int) := rfl
    repeat (first | refine SX.goZ ?_)
    exact RetOK.eq1 (ResOK.tmp rfl) rfl
theorem dgs_one : dgs 1 = [1] := by rfl
/-- A division's next bit. -/
theorem dm_step {x y k : Nat} (hy : y ≠ 0) : (2 * (x / 2 ^ (k + 1) % y) + x / 2 ^ k % 2 < y → x / 2 ^ k / y = 2 * (x / 2 ^ (k + 1) / y) ∧ x / 2 ^ k % y = 2 * (x / 2 ^ (k + 1) % y) + x / 2 ^ k % 2) ∧
    (y ≤ 2 * (x / 2 ^ (k + 1) % y) + x / 2 ^ k % 2 → x / 2 ^ k / y = 2 * (x / 2 ^ (k + 1) / y) + 1 ∧ x / 2 ^ k % y = 2 * (x / 2 ^ (k + 1) % y) + x / 2 ^ k % 2 - y) := by
  have hX : x / 2 ^ k = 2 * (x / 2 ^ (k + 1)) + x / 2 ^ k % 2 := half_step x k
  generalize x / 2 ^ (k + 1) = X at *
  have hb : x / 2 ^ k % 2 < 2 := Nat.mod_lt _ (by omega)
  generalize x / 2 ^ k % 2 = b at *
  have e := Nat.div_add_mod X y
  have hm : X % y < y := Nat.mod_lt _ (by omega)
  generalize X / y = q at *
  generalize X % y = r at *
  have e3 : x / 2 ^ k = y * (2 * q) + (2 * r + b) := by rw [hX, ← e]; grind
  rw [e3]
  constructor
  · intro h
    rw [Nat.mul_add_div (by omega), Nat.mul_add_mod, Nat.div_eq_of_lt h, Nat.mod_eq_of_lt h]; simp
  · intro h
    have e4 : y * (2 * q) + (2 * r + b) = y * (2 * q + 1) + (2 * r + b - y) := by rw [Nat.mul_add]; omega
    have h5 : 2 * r + b - y < y := by omega
    rw [e4, Nat.mul_add_div (by omega), Nat.mul_add_mod, Nat.div_eq_of_lt h5, Nat.mod_eq_of_lt h5]; simp
set_option maxRecDepth 100000 in
set_option maxHeartbeats 1000000 in
theorem rDivMod0 (x y lx : Nat) (hy : y ≠ 0) (hx : x < 65536 ^ lx) (hl : lx + (dgs y).length ≤ 10000000) : PureOK Try.prog 50 [.r (digR (dgs x)), .r (digR (dgs y))] (.tup [.one (.c (.sat (digR (dgs (x / y))))), .one (.c (.sat (digR (dgs (x % y)))))]) := by
  refine PureOK.fn Try.func50 Try.results50 Try.ntmps50 rfl rfl rfl (by simp [AV.ids, AV0.ids, Atom.ids]) rfl (fun w0 T B E0 hB => ?_)
  have hlx := dgs_len hx
  have hxs := dgs_sm x
  have hxv := dgs_val x
  have a0 : IntKind.i64.wrap (16 * ((dgs x).length : Int)) = 16 * ((dgs x).length : Int) := wrapI64 (by omega) (by omega)
  have a1 : IntKind.i64.wrap (16 * ((dgs x).length : Int) - 1) = 16 * ((dgs x).length : Int) - 1 := wrapI64 (by omega) (by omega)
  have hx16 : x < 2 ^ (16 * (dgs x).length) := by
    rw [Nat.pow_mul]
    have := nval_lt hxs
    rw [hxv] at this
    exact this
  have hz : x / 2 ^ (16 * (dgs x).length) = 0 := Nat.div_eq_of_lt hx16
  repeat (first | refine SX.goZ ?_)
  refine WP.loop (ι := {c : Nat × Int // c.2 = (c.1 : Int) - 1 ∧ c.1 ≤ 16 * (dgs x).length}) (fun c => mkSt [(0, .r (digR (dgs x))), (1, .r (digR (dgs y))), (6, .r (digR (dgs (x / 2 ^ c.val.1 / y)))), (7, .r (digR (dgs (x / 2 ^ c.val.1 % y)))), (8, .v (.int .i64 c.val.2))] [])
    (fun c => c.val.1) ⟨(16 * (dgs x).length, 16 * ((dgs x).length : Int) - 1), by simp, Nat.le_refl _⟩
    (St.le_to [] (fun b h => by cases h) ⟨⟨_, rfl, AVto.same rfl⟩, ⟨_, rfl, AVto.same rfl⟩, ⟨_, rfl, by simp only [hz, Nat.zero_div, dgs_zero]; exact AVto.nilDig _⟩, ⟨_, rfl, by simp only [hz, Nat.zero_mod, dgs_zero]; exact AVto.nilDig _⟩, ⟨_, rfl, AVto.same rfl⟩, trivial⟩ trivial rfl) (fun c => ?_)
  obtain ⟨⟨k, j⟩, hj, hk⟩ := c
  simp only at hj hk ⊢
  cases k with
  | zero =>
    have d1 : decide ((0 : Int) ≤ j) = false := decide_eq_false (by omega)
    repeat (first | refine SX.goZ ?_)
    exact RetOK.eq2 (ResOK.tmp rfl) (ResOK.tmp rfl) (by rw [Nat.pow_zero, Nat.div_one]) (by rw [Nat.pow_zero, Nat.div_one])
  | succ k =>
    obtain rfl : j = (k : Int) := by omega
    have d1 : decide ((0 : Int) ≤ (k : Int)) = true := decide_eq_true (by omega)
    have a3 : IntKind.i64.wrap ((k : Int) - 1) = (k : Int) - 1 := wrapI64 (by omega) (by omega)
    have hb := rBit (dgs x) k hxs (by omega) (by omega)
    rw [hxv] at hb
    obtain ⟨s1, s2⟩ := dm_step (x := x) (k := k) hy
    have hX : x / 2 ^ (k + 1) ≤ x := Nat.div_le_self ..
    have hq : x / 2 ^ (k + 1) / y ≤ x := Nat.le_trans (Nat.div_le_self ..) hX
    have hr : x / 2 ^ (k + 1) % y ≤ x := Nat.le_trans (Nat.mod_le ..) hX
    have hbit : x / 2 ^ k % 2 < 2 := Nat.mod_lt _ (by omega)
    have hX2 : x / 2 ^ k ≤ x := Nat.div_le_self ..
    have hbig : ∀ n, n ≤ 2 * x + 1 → (dgs n).length ≤ lx + 1 := fun n hn => dgs_len (by rw [Nat.pow_succ]; omega)
    generalize x / 2 ^ (k + 1) / y = q at *
    generalize x / 2 ^ (k + 1) % y = r at *
    generalize x / 2 ^ k % 2 = b at *
    have lq := hbig q (by omega)
    have lr := hbig r (by omega)
    have lqq := hbig (q + q) (by omega)
    have lrr := hbig (r + r) (by omega)
    have lrb := hbig (r + r + 1) (by omega)
    have l1 : (dgs 1).length = 1 := by rw [dgs_one]; rfl
    have c1 := rAddD q q (by omega)
    have c2 := rAddD r r (by omega)
    have c3 := rAddD (r + r) 1 (by omega)
    have c4 := rAddD (q + q) 1 (by omega)
    rw [dgs_one] at c3 c4
    have out : ∀ (C : Ctx) (st : St) (q' r' : Nat), (∀ b, C.fix b = false) → q' = x / 2 ^ k / y → r' = x / 2 ^ k % y → st.tm 0 = some (.r (digR (dgs x))) → st.tm 1 = some (.r (digR (dgs y))) → st.tm 6 = some (.r (digR (dgs q'))) → st.tm 7 = some (.r (digR (dgs r'))) → st.tm 8 = some (.v (.int .i64 ((k : Int) - 1))) →
        ∃ c : {c : Nat × Int // c.2 = (c.1 : Int) - 1 ∧ c.1 ≤ 16 * (dgs x).length}, St.le C st (mkSt [(0, .r (digR (dgs x))), (1, .r (digR (dgs y))), (6, .r (digR (dgs (x / 2 ^ c.val.1 / y)))), (7, .r (digR (dgs (x / 2 ^ c.val.1 % y)))), (8, .v (.int .i64 c.val.2))] []) ∧ c.val.1 < k + 1 := by
      intro C st q' r' hf e1 e2 h0 h1 h6 h7 h8
      subst e1 e2
      exact ⟨⟨(k, (k : Int) - 1), rfl, by simp only; omega⟩, St.le_to [] (fun b h => by rw [hf b] at h; cases h) ⟨⟨_, h0, AVto.same rfl⟩, ⟨_, h1, AVto.same rfl⟩, ⟨_, h6, AVto.same rfl⟩, ⟨_, h7, AVto.same rfl⟩, ⟨_, h8, AVto.same rfl⟩, trivial⟩ trivial rfl, Nat.lt_succ_self k⟩
    by_cases hb1 : b = 1
    · subst hb1
      have d2 : decide (((1 : Nat) : Int) = 1) = true := rfl
      have c5 := rCmpD (r + r + 1) y (by omega)
      by_cases hge : y ≤ 2 * r + 1
      · obtain ⟨e1, e2⟩ := s2 hge
        have d3 : decide (0 ≤ cmpI (r + r + 1) y) = true := by
          rcases Nat.lt_or_eq_of_le (show y ≤ r + r + 1 by omega) with h | h
          · rw [cmpI_gt h]; rfl
          · rw [cmpI_eq h.symm]; rfl
        have c6 := rSubD (r + r + 1) y (by omega) (by omega)
        repeat (first | refine SX.goZ ?_ | (refine SX.Go1.is ?_; refine SX.Go1.isCall ?_; first
              | refine SX.Go1.call rfl (c1) rfl rfl ?_
              | refine SX.Go1.call rfl (c2) rfl rfl ?_
              | refine SX.Go1.call rfl (hb) rfl rfl ?_
              | refine SX.Go1.call rfl (c3) rfl rfl ?_
              | refine SX.Go1.call rfl (c5) rfl rfl ?_
              | refine SX.Go1.call rfl (c6) rfl rfl ?_
              | refine SX.Go1.call rfl (c4) rfl rfl ?_))
        exact out _ _ (q + q + 1) (r + r + 1 - y) (fun _ => rfl) (by omega) (by omega) rfl rfl rfl rfl rfl
      · obtain ⟨e1, e2⟩ := s1 (by omega)
        have d3 : decide (0 ≤ cmpI (r + r + 1) y) = false := by rw [cmpI_lt (by omega)]; rfl
        repeat (first | refine SX.goZ ?_ | (refine SX.Go1.is ?_; refine SX.Go1.isCall ?_; first
              | refine SX.Go1.call rfl (c1) rfl rfl ?_
              | refine SX.Go1.call rfl (c2) rfl rfl ?_
              | refine SX.Go1.call rfl (hb) rfl rfl ?_
              | refine SX.Go1.call rfl (c3) rfl rfl ?_
              | refine SX.Go1.call rfl (c5) rfl rfl ?_
              | refine SX.Go1.call rfl (c4) rfl rfl ?_))
        exact out _ _ (q + q) (r + r + 1) (fun _ => rfl) (by omega) (by omega) rfl rfl rfl rfl rfl
    · obtain rfl : b = 0 := by omega
      have d2 : decide (((0 : Nat) : Int) = 1) = false := rfl
      have c5 := rCmpD (r + r) y (by omega)
      by_cases hge : y ≤ 2 * r + 0
      · obtain ⟨e1, e2⟩ := s2 hge
        have d3 : decide (0 ≤ cmpI (r + r) y) = true := by
          rcases Nat.lt_or_eq_of_le (show y ≤ r + r by omega) with h | h
          · rw [cmpI_gt h]; rfl
          · rw [cmpI_eq h.symm]; rfl
        have c6 := rSubD (r + r) y (by omega) (by omega)
        repeat (first | refine SX.goZ ?_ | (refine SX.Go1.is ?_; refine SX.Go1.isCall ?_; first
              | refine SX.Go1.call rfl (c1) rfl rfl ?_
              | refine SX.Go1.call rfl (c2) rfl rfl ?_
              | refine SX.Go1.call rfl (hb) rfl rfl ?_
              | refine SX.Go1.call rfl (c5) rfl rfl ?_
              | refine SX.Go1.call rfl (c6) rfl rfl ?_
              | refine SX.Go1.call rfl (c4) rfl rfl ?_))
        exact out _ _ (q + q + 1) (r + r - y) (fun _ => rfl) (by omega) (by omega) rfl rfl rfl rfl rfl
      · obtain ⟨e1, e2⟩ := s1 (by omega)
        have d3 : decide (0 ≤ cmpI (r + r) y) = false := by rw [cmpI_lt (by omega)]; rfl
        repeat (first | refine SX.goZ ?_ | (refine SX.Go1.is ?_; refine SX.Go1.isCall ?_; first
              | refine SX.Go1.call rfl (c1) rfl rfl ?_
              | refine SX.Go1.call rfl (c2) rfl rfl ?_
              | refine SX.Go1.call rfl (hb) rfl rfl ?_
              | refine SX.Go1.call rfl (c5) rfl rfl ?_
              | refine SX.Go1.call rfl (c4) rfl rfl ?_))
        exact out _ _ (q + q) (r + r) (fun _ => rfl) (by omega) (by omega) rfl rfl rfl rfl rfl
end Go.Proofs.Ytkdonndeogihfaa

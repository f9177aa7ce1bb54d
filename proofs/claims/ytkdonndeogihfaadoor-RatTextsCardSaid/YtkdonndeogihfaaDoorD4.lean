import Derived.Test.YtkdonndeogihfaaDoorD3
/- The statements of package quincunxlaw07 in the symbolic run: what they begin with; RatMakes. -/
set_option linter.unusedVariables false
set_option linter.unusedSimpArgs false
namespace Go.Proofs.YtkdonndeogihfaaDoor
open Go.RowKit QM SX
attribute [local irreducible] IntKind.wrap Go1 Reg WP thenK inBlk retQ retF RetF RetOK ResOK CallOK OpOK Sat
attribute [local irreducible] decS zS rwhole qsub qmul qquo qcmp rS
instance Bd.rwhole (p q : Int) (k m : Nat) [h : Bd p k] [h' : Bd q m] : Bd (rwhole p q) (k + m + 1) := ⟨by
  unfold Proofs.YtkdonndeogihfaaDoor.rwhole; split
  · exact (Bd.rmk1 p q k m).h
  · exact Bd.mono (Bd.zero).h (by omega)⟩
/-- A fraction's facts. -/
theorem zexq_dvd {x y : Int} (hy : y ≠ 0) (h : y ∣ x) : zexq x y = x.tdiv y := by
  have hz : zrem x y = 0 := by unfold zrem; first | (rw [if_neg hy]; exact Int.tmod_eq_zero_of_dvd h) | exact Int.tmod_eq_zero_of_dvd h
  unfold zexq zexok; rw [hz]; simp [hy]
theorem rmk_spec {x y : Int} (hy : y ≠ 0) : 0 < (rmk x y).2 ∧ Int.gcd (rmk x y).1 (rmk x y).2 = 1 ∧ (rmk x y).1 * y = x * (rmk x y).2 := by
  have key : ∀ x y : Int, 0 < y → 0 < zexq y (Int.gcd x y) ∧ Int.gcd (zexq x (Int.gcd x y)) (zexq y (Int.gcd x y)) = 1 ∧ zexq x (Int.gcd x y) * y = x * zexq y (Int.gcd x y) := by
    intro x y hy
    have hg : (Int.gcd x y : Int) ≠ 0 := by
      have := Int.gcd_ne_zero_right (a := x) (b := y) (by omega)
      omega
    have hgp : (0 : Int) < Int.gcd x y := by omega
    obtain ⟨a, ha⟩ := Int.gcd_dvd_left x y
    obtain ⟨b, hb⟩ := Int.gcd_dvd_right x y
    have e1 : zexq x (Int.gcd x y) = a := by
      rw [zexq_dvd hg (Int.gcd_dvd_left x y)]
      conv => lhs; arg 1; rw [ha]
      exact Int.mul_tdiv_cancel_left _ hg
    have e2 : zexq y (Int.gcd x y) = b := by
      rw [zexq_dvd hg (Int.gcd_dvd_right x y)]
      conv => lhs; arg 1; rw [hb]
      exact Int.mul_tdiv_cancel_left _ hg
    rw [e1, e2]
    generalize hG : Int.gcd x y = g at *
    have hbp : 0 < b := by
      rw [hb] at hy
      exact Int.pos_of_mul_pos_right hy (by omega)
    refine ⟨hbp, ?_, ?_⟩
    · have h1 : Int.gcd ((g : Int) * a) ((g : Int) * b) = g * Int.gcd a b := by rw [Int.gcd_mul_left]; simp
      rw [← ha, ← hb, hG] at h1
      have hgn : 0 < g := by omega
      exact Nat.eq_of_mul_eq_mul_left hgn (by omega)
    · rw [ha, hb]; grind
  unfold rmk
  rw [if_neg hy]
  by_cases h : y < 0
  · rw [if_pos h]
    have := key (-x) (-y) (by omega)
    refine ⟨this.1, this.2.1, ?_⟩
    have h3 := this.2.2
    grind
  · rw [if_neg h]; exact key x y (by omega)
theorem rmk_zero (x : Int) : rmk x 0 = (0, 1) := by unfold rmk; rfl
theorem dig1 {x : Nat} (h0 : x ≠ 0) (h : x < 10) : dig x = [UInt8.ofNat (48 + x)] := by
  rw [dig_succ h0, show x / 10 = 0 by omega, dig_zero, show x % 10 = x by omega]; rfl
instance con_awake07 : Con Tryd.prog 31 [] True (.v (.bool true)) := ⟨fun _ => by
  have e : rmk 2 (-4) = (-1, 2) := by unfold rmk; decide +kernel
  have hs : rS (rmk (-1) 2) = [45, 49, 47, 50] := by
    have e2 : rmk (-1) 2 = (-1, 2) := by unfold rmk; decide +kernel
    rw [e2]
    unfold rS zS decS
    rw [show ((-1 : Int).natAbs) = 1 from rfl, show ((2 : Int).natAbs) = 2 from rfl, dig1 (by decide) (by decide), dig1 (by decide) (by decide)]
    decide
  haveI b2 : Bd 2 1 := ⟨by rw [Nat.pow_one, WB_eq]; decide⟩
  haveI b4 : Bd (-4) 1 := ⟨by rw [Nat.pow_one, WB_eq]; decide⟩
  have cM := (con_rMake (l := zN 2) (l' := zN (-4))).h (by decide)
  rw [e] at cM
  have cP := (con_rPrint (p := -1) (q := 2) (x0 := .c (.val (.bool (decide ((-1 : Int) < 0))))) (x1 := .c (.sat (nrmN (-1 : Int).natAbs))) (x2 := .c (.val (.bool (decide ((2 : Int) < 0))))) (x3 := .c (.sat (nrmN (2 : Int).natAbs)))).h (by decide)
  rw [hs] at cP
  refine PureOK.fnF Tryd.func31 Tryd.results31 Tryd.ntmps31 rfl rfl rfl (by simp [AV.ids, AV0.ids, Atom.ids]) rfl (fun w0 T B E0 hB => ?_)
  refine SX.go2 ?_
  refine retB ?_; decide⟩
abbrev zW (neg : Bool) (l : List Nat) : List Atom := [.c (.val (.bool neg)), .c (.sat (rawN l))]
abbrev qW (b : Bool) (l : List Nat) (c : Bool) (m : List Nat) : List Atom := [.c (.val (.bool b)), .c (.sat (rawN l)), .c (.val (.bool c)), .c (.sat (rawN m))]
theorem raw_sm {neg : Bool} {l : List Nat} {E : Env} {S : Nat → Prop} {w : World} {v : Value} (h : (AV.agg (zW neg l)).has E S w v) : Sm WB l := by
  obtain ⟨vs, _, hall⟩ := h
  match vs, hall with
  | [_, _], ⟨_, h2, _⟩ => exact (rawN.rn h2).sm
theorem raw_smq {b c : Bool} {l m : List Nat} {E : Env} {S : Nat → Prop} {w : World} {v : Value} (h : (AV.agg (qW b l c m)).has E S w v) : Sm WB l ∧ Sm WB m := by
  obtain ⟨vs, _, hall⟩ := h
  match vs, hall with
  | [_, _, _, _], ⟨_, h2, _, h3, _⟩ => exact ⟨(rawN.rn h2).sm, (rawN.rn h3).sm⟩
theorem law2 {f : FuncId} {b1 b2 : Bool} {l1 l2 : List Nat} {r : AV} (he : ∃ fn, Tryd.prog.funcs[f]? = some fn ∧ (fn.name == "runtime.NumGoroutine") = false ∧ fn.body.isNone = false)
    (hf : BdN (nval WB l1) l1.length → BdN (nval WB l2) l2.length → PureOK Tryd.prog f [.agg (zW b1 l1), .agg (zW b2 l2)] r) : PureOK Tryd.prog f [.agg (zW b1 l1), .agg (zW b2 l2)] r := by
  refine PureOK.fact (φ := Sm WB l1 ∧ Sm WB l2) he (fun hs => hf ⟨nn_lt hs.1 (Nat.le_refl _)⟩ ⟨nn_lt hs.2 (Nat.le_refl _)⟩) fun E S w vs hv => ?_
  match vs, hv with
  | [x, y], ⟨h1, h2, _⟩ => exact ⟨⟨h1, h2, trivial⟩, raw_sm h1, raw_sm h2⟩
theorem lawQ {f : FuncId} {b c : Bool} {l m : List Nat} {args : List AV} {r : AV} (he : ∃ fn, Tryd.prog.funcs[f]? = some fn ∧ (fn.name == "runtime.NumGoroutine") = false ∧ fn.body.isNone = false)
    (hf : BdN (nval WB l) l.length → BdN (nval WB m) m.length → PureOK Tryd.prog f (.agg (qW b l c m) :: args) r) : PureOK Tryd.prog f (.agg (qW b l c m) :: args) r := by
  refine PureOK.fact (φ := Sm WB l ∧ Sm WB m) he (fun hs => hf ⟨nn_lt hs.1 (Nat.le_refl _)⟩ ⟨nn_lt hs.2 (Nat.le_refl _)⟩) fun E S w vs hv => ?_
  match vs, hv with
  | x :: xs, ⟨h1, h2⟩ => exact ⟨⟨h1, h2⟩, raw_smq h1⟩
theorem lawQ2 {f : FuncId} {A : AV} {b c : Bool} {l m : List Nat} {args : List AV} {r : AV} (he : ∃ fn, Tryd.prog.funcs[f]? = some fn ∧ (fn.name == "runtime.NumGoroutine") = false ∧ fn.body.isNone = false)
    (hf : BdN (nval WB l) l.length → BdN (nval WB m) m.length → PureOK Tryd.prog f (A :: .agg (qW b l c m) :: args) r) : PureOK Tryd.prog f (A :: .agg (qW b l c m) :: args) r := by
  refine PureOK.fact (φ := Sm WB l ∧ Sm WB m) he (fun hs => hf ⟨nn_lt hs.1 (Nat.le_refl _)⟩ ⟨nn_lt hs.2 (Nat.le_refl _)⟩) fun E S w vs hv => ?_
  match vs, hv with
  | y :: x :: xs, ⟨h0, h1, h2⟩ => exact ⟨⟨h0, h1, h2⟩, raw_smq h1⟩
theorem lawQ3 {f : FuncId} {A B : AV} {b c : Bool} {l m : List Nat} {args : List AV} {r : AV} (he : ∃ fn, Tryd.prog.funcs[f]? = some fn ∧ (fn.name == "runtime.NumGoroutine") = false ∧ fn.body.isNone = false)
    (hf : BdN (nval WB l) l.length → BdN (nval WB m) m.length → PureOK Tryd.prog f (A :: B :: .agg (qW b l c m) :: args) r) : PureOK Tryd.prog f (A :: B :: .agg (qW b l c m) :: args) r := by
  refine PureOK.fact (φ := Sm WB l ∧ Sm WB m) he (fun hs => hf ⟨nn_lt hs.1 (Nat.le_refl _)⟩ ⟨nn_lt hs.2 (Nat.le_refl _)⟩) fun E S w vs hv => ?_
  match vs, hv with
  | y :: z :: x :: xs, ⟨h0, h0', h1, h2⟩ => exact ⟨⟨h0, h0', h1, h2⟩, raw_smq h1⟩
theorem isR_mk {x y : Int} (hy : y ≠ 0) : isR (rmk x y).1 (rmk x y).2 x y := by
  have h := rmk_spec (x := x) hy
  rw [isR_iff]; exact ⟨⟨h.1, by rw [h.2.1]; rfl⟩, h.2.2⟩
theorem zrem_dvd {x y : Int} (hy : y ≠ 0) : zrem x y = 0 ↔ y ∣ x := by
  unfold zrem; first | (rw [if_neg hy]; exact (Int.dvd_iff_tmod_eq_zero ..).symm) | exact (Int.dvd_iff_tmod_eq_zero ..).symm
theorem whole_iff {x y : Int} (hy : y ≠ 0) : (rmk x y).2 = 1 ↔ zrem x y = 0 := by
  have h := rmk_spec (x := x) hy
  rw [zrem_dvd hy]
  generalize rmk x y = q at *
  obtain ⟨h1, h2, h3⟩ := h
  constructor
  · intro e; rw [e] at h3; exact ⟨q.1, by rw [Int.mul_comm]; omega⟩
  · rintro ⟨c, rfl⟩
    have e : q.1 = c * q.2 := by
      have : (q.1 - c * q.2) * y = 0 := by grind
      rcases Int.mul_eq_zero.1 this with h | h
      · omega
      · exact absurd h hy
    rw [e, Int.gcd_mul_left_left] at h2
    omega
set_option maxRecDepth 20000 in
theorem RatMakes_ok (b : Bool) (l : List Nat) (b' : Bool) (l' : List Nat) : PureOK Tryd.prog 8 [.agg (zW b l), .agg (zW b' l')] (.v (.bool true)) := by
  refine law2 ⟨_, Tryd.func8, rfl, rfl⟩ fun hb1 hb2 => ?_
  refine PureOK.fnF Tryd.func8 Tryd.results8 Tryd.ntmps8 rfl rfl rfl (by simp [AV.ids, AV0.ids, Atom.ids]) rfl (fun w0 T B E0 hB => ?_)
  by_cases hl : l.length ≤ 5 ∧ l'.length ≤ 5
  · obtain ⟨hl1, hl2⟩ := hl
    have hI1 : decide (isR (sgn b (nval WB l)) 1 (sgn b (nval WB l)) 1) = true := decide_eq_true (isR_iff.2 ⟨⟨by decide, by simp⟩, by simp⟩)
    have hsg := isign0 (sgn b' (nval WB l'))
    by_cases hy : sgn b' (nval WB l') = 0
    · have e : rmk (sgn b (nval WB l)) (sgn b' (nval WB l')) = (0, 1) := by rw [hy, rmk_zero]
      have hI2 : decide (isR (rmk (sgn b (nval WB l)) (sgn b' (nval WB l'))).1 (rmk (sgn b (nval WB l)) (sgn b' (nval WB l'))).2 0 1) = true := by rw [e]; exact decide_eq_true (isR_iff.2 ⟨⟨by decide, by simp⟩, rfl⟩)
      have hW : (rmk (sgn b (nval WB l)) (sgn b' (nval WB l'))).2 = 1 := by rw [e]
      have hw : isign (rwhole (sgn b (nval WB l)) (sgn b' (nval WB l'))) = 0 := by unfold rwhole; rw [e]; rfl
      refine SX.go2 ?_
      refine retB ?_; first | rfl | assumption | exact decide_eq_true (by assumption)
    · have hI2 : decide (isR (rmk (sgn b (nval WB l)) (sgn b' (nval WB l'))).1 (rmk (sgn b (nval WB l)) (sgn b' (nval WB l'))).2 (sgn b (nval WB l)) (sgn b' (nval WB l'))) = true := decide_eq_true (isR_mk hy)
      have hiff := whole_iff (x := sgn b (nval WB l)) hy
      have hz := isign0 (zrem (sgn b (nval WB l)) (sgn b' (nval WB l')))
      have hs3 := (rmk_spec (x := sgn b (nval WB l)) hy).2.2
      by_cases hW : (rmk (sgn b (nval WB l)) (sgn b' (nval WB l'))).2 = 1
      · have hB : (decide ((rmk (sgn b (nval WB l)) (sgn b' (nval WB l'))).2 = 1) == decide (isign (zrem (sgn b (nval WB l)) (sgn b' (nval WB l'))) = 0)) = true := by
          rw [decide_eq_true hW, decide_eq_true (hz.2 (hiff.1 hW))]; rfl
        have hM : decide (rwhole (sgn b (nval WB l)) (sgn b' (nval WB l')) * sgn b' (nval WB l') = sgn b (nval WB l)) = true := by
          refine decide_eq_true ?_
          unfold rwhole; rw [if_pos hW, hs3, hW, Int.mul_one]
        refine SX.go2 ?_
        refine retB ?_; first | rfl | assumption | exact decide_eq_true (by assumption)
      · have hB : (decide ((rmk (sgn b (nval WB l)) (sgn b' (nval WB l'))).2 = 1) == decide (isign (zrem (sgn b (nval WB l)) (sgn b' (nval WB l'))) = 0)) = true := by
          rw [decide_eq_false hW, decide_eq_false (fun h => hW (hiff.2 (hz.1 h)))]; rfl
        have hw : isign (rwhole (sgn b (nval WB l)) (sgn b' (nval WB l'))) = 0 := by unfold rwhole; rw [if_neg hW]; rfl
        refine SX.go2 ?_
        refine retB ?_; first | rfl | assumption | exact decide_eq_true (by assumption)
  · by_cases h1 : l.length ≤ 5
    · refine SX.go2 ?_
      exact retB rfl
    · refine SX.go2 ?_
      exact retB rfl
end Go.Proofs.YtkdonndeogihfaaDoor

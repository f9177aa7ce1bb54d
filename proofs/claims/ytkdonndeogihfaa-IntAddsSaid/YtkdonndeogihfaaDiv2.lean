import Derived.Test.YtkdonndeogihfaaDiv1
/- Package div: guess. -/
set_option linter.unusedVariables false
set_option linter.unusedSimpArgs false
namespace Go.Proofs.Ytkdonndeogihfaa
open Go.RowKit QM
theorem hl_le {p r u0 : Nat} (hu : u0 < WB) : (hi64 p < r ∨ hi64 p = r ∧ lo64 p ≤ u0) ↔ p ≤ r * WB + u0 := by
  have h1 := lohi p
  have h2 := lo64_lt p
  rw [WB_eq] at *
  omega
theorem topword : ((WB - 1 : Nat) : Int) = 18446744073709551615 := by decide
/-- What the guess is good for. -/
def Guess (u2 u1 u0 v1 v0 q : Nat) : Prop := q < WB ∧ q * (v1 * WB + v0) ≤ (u2 * WB + u1) * WB + u0 ∧ (q + 1 = WB ∨ (u2 * WB + u1) * WB + u0 < (q + 1) * (v1 * WB + v0))
set_option maxRecDepth 100000 in
set_option maxHeartbeats 2000000 in
theorem guess_any {u2 u1 u0 v1 v0 : Nat} (h2 : u2 ≤ v1) (h1 : u1 < WB) (h0 : u0 < WB) (hv1 : v1 < WB) (hv0 : v0 < WB) (hvp : 0 < v1) (w : World) :
    Calls Try.prog 89 #[.int .u64 (u2 : Int), .int .u64 (u1 : Int), .int .u64 (u0 : Int), .int .u64 (v1 : Int), .int .u64 (v0 : Int)] w fun e w' =>
      (∃ q : Nat, e = .returned (.int .u64 (q : Int)) ∧ Guess u2 u1 u0 v1 v0 q) ∧ Ext w w' := by
  have hgt : decide (v1 < u2) = false := by rw [decide_eq_false_iff_not]; omega
  have HV1 := hid hv1
  have HV0 := hid hv0
  have HU0 := hid h0
  have HU1 := hid h1
  have HVP := hid hvp
  have H2 := hid h2
  clear hv1 hv0 h0 h1 hvp h2
  go_enter Try.func89, Try.ntmps89
  go_upto_if 21 with fail
  go_cut [11, 12, 13] (fun a b c wx => ∃ q r cc : Nat, a = .int .u64 q ∧ b = .int .u64 r ∧ c = .int .u64 cc ∧ Hid (cc ≤ 1 ∧ r < WB ∧ GInv WB u2 u1 u0 v1 v0 q (r + WB * cc)) ∧ Ext w wx)
  case first =>
    by_cases heq : u2 = v1
    · have ha := Add64_runc u1 v1
      have hq : ((u2 : Int) == (v1 : Int)) = true := by rw [beq_iff_eq]; omega
      have hi : GInv WB u2 u1 u0 v1 v0 (WB - 1) (lo64 (u1 + v1) + WB * hi64 (u1 + v1)) := by
        rw [lohi, heq]; exact GInv.top WB_pos
      have hh : hi64 (u1 + v1) ≤ 1 := hi64_one (c := 0) HU1.out HV1.out (by omega)
      have HI := hid (And.intro hh (And.intro (lo64_lt (u1 + v1)) hi))
      clear heq hi hh
      go_wp2
      go_meet
      exact ⟨WB - 1, _, _, by rw [topword], rfl, rfl, HI, Ext.refl _⟩
    · have hq : ((u2 : Int) == (v1 : Int)) = false := by rw [beq_eq_false_iff_ne]; omega
      have hlt : u2 < v1 := by have := H2.out; omega
      have HD := hid (Div64_any hlt HU1.out HV1.out w)
      have hi := GInv.start (W := WB) (v0 := v0) hlt HU1.out HU0.out
      have HI : Hid (0 ≤ 1 ∧ (u2 * WB + u1) % v1 < WB ∧ GInv WB u2 u1 u0 v1 v0 ((u2 * WB + u1) / v1) ((u2 * WB + u1) % v1 + WB * 0)) := hid ⟨by omega, Nat.lt_trans (Nat.mod_lt _ HVP.out) HV1.out, by rw [Nat.mul_zero, Nat.add_zero]; exact hi⟩
      clear heq hi hlt
      generalize (u2 * WB + u1) / v1 = q at *
      generalize (u2 * WB + u1) % v1 = r at *
      go_wp2_with fail
      refine HD.out.mono ?_
      rintro e w1 ⟨rfl, hx⟩
      go_wp2
      go_meet
      exact ⟨q, r, 0, rfl, rfl, rfl, HI, hx⟩
  case rest =>
    obtain ⟨q0, r0, c0, rfl, rfl, rfl, hI0, hx0⟩ := hcut
    go_wp2_with fail
    go_loopw [11, 12, 13] (fun a b c wx => ∃ q r cc : Nat, a = .int .u64 q ∧ b = .int .u64 r ∧ c = .int .u64 cc ∧ Hid (cc ≤ 1 ∧ r < WB ∧ GInv WB u2 u1 u0 v1 v0 q (r + WB * cc)) ∧ Ext w wx) (fun a _ _ _ => (intOf a).toNat)
    case atStart => exact ⟨q0, r0, c0, rfl, rfl, rfl, hI0, hx0⟩
    case round =>
      obtain ⟨q, r, cc, rfl, rfl, rfl, hI, hx⟩ := hrel
      clear hI0 hx0
      by_cases hc : cc = 0
      · subst hc
        have hI' := hI.out.2.2
        rw [Nat.mul_zero, Nat.add_zero] at hI'
        have HM := hid (Mul64_any q v0 hI'.2.1 HV0.out)
        have hr := hI.out.2.1
        by_cases hle : q * v0 ≤ r * WB + u0
        · have hfit := hI'.fits HV0.out (.inr hle)
          have HG : Hid (Guess u2 u1 u0 v1 v0 q) := hid ⟨hI'.2.1, hfit, hI'.2.2⟩
          rcases (hl_le HU0.out).2 hle with hlt | ⟨heq, hle2⟩
          · clear hI' hle hfit hr
            generalize hi64 (q * v0) = h at *
            generalize lo64 (q * v0) = l at *
            have hd : decide (h < r) = true := by rw [decide_eq_true_eq]; exact hlt
            clear hlt
            go_wp2_with fail
            refine (HM.out _).mono ?_
            rintro e w' ⟨rfl, rfl⟩
            go_wp2
            go_ret
            exact ⟨⟨q, rfl, HG.out⟩, hx⟩
          · clear hI' hle hfit hr
            generalize hi64 (q * v0) = h at *
            generalize lo64 (q * v0) = l at *
            have hd : decide (h < r) = false := by rw [decide_eq_false_iff_not]; omega
            have hd2 : ((h : Int) == (r : Int)) = true := by rw [beq_iff_eq]; omega
            have hd3 : decide (l ≤ u0) = true := by rw [decide_eq_true_eq]; exact hle2
            clear heq hle2
            go_wp2_with fail
            refine (HM.out _).mono ?_
            rintro e w' ⟨rfl, rfl⟩
            go_wp2
            go_ret
            exact ⟨⟨q, rfl, HG.out⟩, hx⟩
        · have hnot := fun hh => hle ((hl_le HU0.out).1 hh)
          have hdn := hI'.down (by omega)
          have hq1 := hdn.1
          have ha := Add64_runc r v1
          have hs : GInv WB u2 u1 u0 v1 v0 (q - 1) (lo64 (r + v1) + WB * hi64 (r + v1)) := by rw [lohi]; exact hdn.2
          have hh : hi64 (r + v1) ≤ 1 := hi64_one (c := 0) hr HV1.out (by omega)
          have HS := hid (And.intro hh (And.intro (lo64_lt (r + v1)) hs))
          have hqb : q ≤ 18446744073709551615 := by have := hI'.2.1; rw [WB_eq] at this; omega
          clear hI' hle hdn hs hh hr
          generalize hi64 (q * v0) = h at *
          generalize lo64 (q * v0) = l at *
          have hd : decide (h < r) = false := by rw [decide_eq_false_iff_not]; exact fun hh => hnot (.inl hh)
          by_cases heq : h = r
          · have hd2 : ((h : Int) == (r : Int)) = true := by rw [beq_iff_eq]; omega
            have hd3 : decide (l ≤ u0) = false := by rw [decide_eq_false_iff_not]; exact fun hh => hnot (.inr ⟨heq, hh⟩)
            clear heq hnot
            go_wp2_with fail
            refine (HM.out _).mono ?_
            rintro e w' ⟨rfl, rfl⟩
            go_wp2
            go_roundw
            case rel => exact ⟨q - 1, _, _, by go_num, rfl, rfl, HS, hx⟩
            case measure => simp [intOf]; omega
          · have hd2 : ((h : Int) == (r : Int)) = false := by rw [beq_eq_false_iff_ne]; omega
            clear heq hnot
            go_wp2_with fail
            refine (HM.out _).mono ?_
            rintro e w' ⟨rfl, rfl⟩
            go_wp2
            go_roundw
            case rel => exact ⟨q - 1, _, _, by go_num, rfl, rfl, HS, hx⟩
            case measure => simp [intOf]; omega
      · have hc1 : cc = 1 := by have := hI.out.1; omega
        subst hc1
        have hI' := hI.out.2.2
        have hfit := hI'.fits HV0.out (.inl (by omega))
        have HG : Hid (Guess u2 u1 u0 v1 v0 q) := hid ⟨hI'.2.1, hfit, hI'.2.2⟩
        clear hI' hfit hc
        go_wp2
        go_ret
        exact ⟨⟨q, rfl, HG.out⟩, hx⟩
end Go.Proofs.Ytkdonndeogihfaa

import Derived.Test.YtkdonndeogihfaaNat7
import Derived.Test.YtkdonndeogihfaaBits2
import Derived.Test.YtkdonndeogihfaaMathDiv
import Derived.Deep.CutBlock
/- Package math/bits: Div64. -/
set_option linter.unusedVariables false
set_option linter.unusedSimpArgs false
namespace Go.Proofs.Ytkdonndeogihfaa
open Go.RowKit QM

theorem Div64_zero (lo y : Nat) (hlo : lo < WB) (hy : 0 < y) (w : World) :
    Calls Try.prog 88 #[.int .u64 0, .int .u64 (lo : Int), .int .u64 (y : Int)] w fun e w' => e = .returned (.tuple #[.int .u64 ((lo / y : Nat) : Int), .int .u64 ((lo % y : Nat) : Int)]) ∧ Ext w w' := by
  have hy0 : ((y : Int) == 0) = false := by rw [beq_eq_false_iff_ne]; omega
  have hle : decide ((y : Int) ≤ 0) = false := by rw [decide_eq_false_iff_not]; omega
  have hlo' : lo ≤ 18446744073709551615 := by rw [WB_eq] at hlo; omega
  clear hlo
  go_enter Try.func88, Try.ntmps88
  go_wp2
  go_region
  all_goals
    go_wp2
    go_ret2
    refine ⟨?_, Ext.drew _⟩
    have hw : IntKind.u64.wrap ((lo : Int) / (y : Int)) = ((lo / y : Nat) : Int) := by
      rw [← Int.natCast_ediv]; exact bt_wrapN _ (Nat.lt_of_le_of_lt (Nat.div_le_self _ _) (by omega))
    show Ending.returned (.tuple #[.int .u64 (IntKind.u64.wrap ((lo : Int) / (y : Int))), .int .u64 ((lo : Int) % (y : Int))]) = _
    rw [hw, Int.natCast_emod]
/-- The half words' base. -/
def HB32 : Nat := 4294967296
theorem HB32_eq : HB32 = 4294967296 := rfl
set_option maxRecDepth 100000 in
set_option maxHeartbeats 4000000 in
theorem Div64_pos {hi lo y s Y y1 y0 U L u1 u0 Q1 M1 R1 q1 A1 B1 V Q2 M2 R2 q2 A2 B2 Z : Nat} (hhi : 0 < hi) (hlt : hi < y) (hs : 64 - bitLen y = s) (w : World)
    (hyW : y < WB)
    (hY : IntKind.u64.wrap ((y : Int) * 2 ^ s) = (Y : Int)) (hy1 : (Y : Int) / 4294967296 = (y1 : Int)) (hy0 : bits .and .u64 (Y : Int) 4294967295 = (y0 : Int))
    (hU : bits .or .u64 (IntKind.u64.wrap ((hi : Int) * 2 ^ s)) ((lo : Int) / 2 ^ (64 - s)) = (U : Int)) (hL : IntKind.u64.wrap ((lo : Int) * 2 ^ s) = (L : Int))
    (hu1 : (L : Int) / 4294967296 = (u1 : Int)) (hu0 : bits .and .u64 (L : Int) 4294967295 = (u0 : Int)) (hy1b : 2147483648 ≤ y1) (hy1l : y1 ≤ 4294967295) (hy0l : y0 ≤ 4294967295) (hu1l : u1 ≤ 4294967295) (hu0l : u0 ≤ 4294967295) (hUb : U ≤ 18446744073709551615)
    (hQ1 : IntKind.u64.wrap ((U : Int) / (y1 : Int)) = (Q1 : Int)) (hM1 : IntKind.u64.wrap ((Q1 : Int) * (y1 : Int)) = (M1 : Int)) (hM1l : M1 ≤ U) (hR1 : (U : Int) - (M1 : Int) = (R1 : Int)) (hR1l : R1 ≤ 4294967295) (hi1 : Hid (HInv HB32 y1 y0 U u1 Q1 R1)) (hUY : Hid (U < y1 * HB32 + y0))
    (hq1 : Hid ((U * HB32 + u1) / (y1 * HB32 + y0) = q1)) (hq1l : q1 ≤ 4294967295)
    (hA1 : IntKind.u64.wrap ((U : Int) * 4294967296) = (A1 : Int)) (hA1l : A1 + u1 ≤ 18446744073709551615) (hB1 : IntKind.u64.wrap ((q1 : Int) * (Y : Int)) = (B1 : Int)) (hV : IntKind.u64.wrap ((A1 : Int) + (u1 : Int) - (B1 : Int)) = (V : Int)) (hVb : V ≤ 18446744073709551615)
    (hQ2 : IntKind.u64.wrap ((V : Int) / (y1 : Int)) = (Q2 : Int)) (hM2 : IntKind.u64.wrap ((Q2 : Int) * (y1 : Int)) = (M2 : Int)) (hM2l : M2 ≤ V) (hR2 : (V : Int) - (M2 : Int) = (R2 : Int)) (hR2l : R2 ≤ 4294967295) (hi2 : Hid (HInv HB32 y1 y0 V u0 Q2 R2)) (hVY : Hid (V < y1 * HB32 + y0))
    (hq2 : Hid ((V * HB32 + u0) / (y1 * HB32 + y0) = q2)) (hq2l : q2 ≤ 4294967295)
    (hA2 : IntKind.u64.wrap ((V : Int) * 4294967296) = (A2 : Int)) (hA2l : A2 + u0 ≤ 18446744073709551615) (hB2 : IntKind.u64.wrap ((q2 : Int) * (Y : Int)) = (B2 : Int)) (hZ : IntKind.u64.wrap ((A2 : Int) + (u0 : Int) - (B2 : Int)) = (Z : Int)) :
    Calls Try.prog 88 #[.int .u64 (hi : Int), .int .u64 (lo : Int), .int .u64 (y : Int)] w fun e w' => e = .returned (.tuple #[.int .u64 ((q1 : Int) * 4294967296 + (q2 : Int)), .int .u64 ((Z : Int) / 2 ^ s)]) ∧ w = w' := by
  have hz0 : ((y : Int) == 0) = false := by rw [beq_eq_false_iff_ne]; omega
  have hzh : ((hi : Int) == 0) = false := by rw [beq_eq_false_iff_ne]; omega
  have hle : decide (y ≤ hi) = false := by rw [decide_eq_false_iff_not]; omega
  have hs64 : s ≤ 64 := by omega
  have HZ := hid (LeadingZeros64_any y hyW w)
  rw [hs] at HZ
  clear hyW hs hlt hhi
  go_enter Try.func88, Try.ntmps88
  go_wp2_with fail
  refine HZ.out.mono ?_
  rintro e w' ⟨rfl, rfl⟩
  go_upto_block 0 with fail
  clear hz0 hzh hle hY hy1 hy0 hU hL hu1 hu0 hQ1 hM1 hR1 HZ
  go_cut [15] (fun s15 wx => s15 = .int .u64 q1 ∧ w = wx)
  case first =>
    go_wp2_with fail
    go_loopw [15, 16] (fun a b wr => ∃ q r : Nat, a = .int .u64 q ∧ b = .int .u64 r ∧ Hid (HInv HB32 y1 y0 U u1 q r) ∧ r ≤ 4294967295 ∧ w = wr) (fun a _ _ => (intOf a).toNat)
    case atStart => exact ⟨Q1, R1, rfl, rfl, hi1, hR1l, rfl⟩
    case round =>
      obtain ⟨q, r, rfl, rfl, hv, hrl, rfl⟩ := hrel
      have hq33 : q ≤ 8589934592 := by
        have h1 : q * y1 ≤ U := by have := hv.out.1; omega
        have h2 := Nat.mul_le_mul_left q hy1b
        omega
      by_cases hA : 4294967296 ≤ q
      · have hgr := hv.out.great hUY.out (by rw [HB32_eq]; omega) (.inl (by rw [HB32_eq]; exact hA))
        have hq1p := hgr.1
        have HG := hid hgr.2
        have hd1 : decide ((4294967296 : Int) ≤ (q : Int)) = true := by rw [decide_eq_true_eq]; omega
        by_cases hC : 4294967296 ≤ r + y1
        · have hd3 : decide ((4294967296 : Int) ≤ (r : Int) + (y1 : Int)) = true := by rw [decide_eq_true_eq]; omega
          have hsm := HG.out.small hUY.out (by rw [HB32_eq]; omega) (by rw [HB32_eq]; exact hC)
          have hrt := HG.out.right (by rw [HB32_eq]; omega) hsm (.inl (by rw [HB32_eq]; exact hC))
          rw [hq1.out] at hrt
          have HQ := hid hrt
          clear hrt hsm hgr hC hA hv
          go_wp2
          go_meet
          exact ⟨by rw [← HQ.out]; go_num, rfl⟩
        · have hd3 : decide ((4294967296 : Int) ≤ (r : Int) + (y1 : Int)) = false := by rw [decide_eq_false_iff_not]; omega
          have hrl' : r + y1 ≤ 4294967295 := by omega
          clear hgr hC hA hv
          go_wp2
          go_roundw
          case rel => exact ⟨q - 1, r + y1, by go_num, by go_num, HG, hrl', (by trivial)⟩
          case measure => simp [intOf]; omega
      · have hd1 : decide ((4294967296 : Int) ≤ (q : Int)) = false := by rw [decide_eq_false_iff_not]; omega
        have hqy : q * y0 ≤ 4294967295 * 4294967295 := Nat.mul_le_mul (by omega) hy0l
        have hqi : ((q : Int) * (y0 : Int)) = ((q * y0 : Nat) : Int) := (Int.natCast_mul _ _).symm
        have hb1 : (q : Int) * (y0 : Int) ≤ 18446744073709551615 := by rw [hqi]; omega
        have hb2 : 0 ≤ (q : Int) * (y0 : Int) := by rw [hqi]; omega
        by_cases hB : 4294967296 * r + u1 < q * y0
        · have hd2 : decide (4294967296 * (r : Int) + (u1 : Int) < (q : Int) * (y0 : Int)) = true := by rw [decide_eq_true_eq, hqi]; omega
          have hgr := hv.out.great hUY.out (by rw [HB32_eq]; omega) (.inr (by rw [HB32_eq]; exact hB))
          have hq1p := hgr.1
          have HG := hid hgr.2
          by_cases hC : 4294967296 ≤ r + y1
          · have hd3 : decide ((4294967296 : Int) ≤ (r : Int) + (y1 : Int)) = true := by rw [decide_eq_true_eq]; omega
            have hsm := HG.out.small hUY.out (by rw [HB32_eq]; omega) (by rw [HB32_eq]; exact hC)
            have hrt := HG.out.right (by rw [HB32_eq]; omega) hsm (.inl (by rw [HB32_eq]; exact hC))
            rw [hq1.out] at hrt
            have HQ := hid hrt
            clear hrt hsm hgr hC hA hv hB hqi hqy
            go_wp2
            go_meet
            exact ⟨by rw [← HQ.out]; go_num, rfl⟩
          · have hd3 : decide ((4294967296 : Int) ≤ (r : Int) + (y1 : Int)) = false := by rw [decide_eq_false_iff_not]; omega
            have hrl' : r + y1 ≤ 4294967295 := by omega
            clear hgr hC hA hv hB hqi hqy
            go_wp2
            go_roundw
            case rel => exact ⟨q - 1, r + y1, by go_num, by go_num, HG, hrl', (by trivial)⟩
            case measure => simp [intOf]; omega
        · have hd2 : decide (4294967296 * (r : Int) + (u1 : Int) < (q : Int) * (y0 : Int)) = false := by rw [decide_eq_false_iff_not, hqi]; omega
          have hrt := hv.out.right (by rw [HB32_eq]; omega) (by rw [HB32_eq]; omega) (.inr (by rw [HB32_eq]; omega))
          rw [hq1.out] at hrt
          have HQ := hid hrt
          clear hrt hA hv hB hqi hqy
          go_wp2
          go_meet
          exact ⟨by rw [HQ.out], rfl⟩
  case rest =>
    obtain ⟨rfl, rfl⟩ := hcut
    clear hUb hM1l hR1l hi1 hUY hq1
    go_upto_block 2 with fail
    clear hA1 hB1 hV hQ2 hM2 hR2 hA1l
    go_cut [18] (fun s18 wx => s18 = .int .u64 q2 ∧ w = wx)
    case first =>
      go_wp2_with fail
      go_loopw [18, 16] (fun a b wr => ∃ q r : Nat, a = .int .u64 q ∧ b = .int .u64 r ∧ Hid (HInv HB32 y1 y0 V u0 q r) ∧ r ≤ 4294967295 ∧ w = wr) (fun a _ _ => (intOf a).toNat)
      case atStart => exact ⟨Q2, R2, rfl, rfl, hi2, hR2l, rfl⟩
      case round =>
        obtain ⟨q, r, rfl, rfl, hv, hrl, rfl⟩ := hrel
        have hq33 : q ≤ 8589934592 := by
          have h1 : q * y1 ≤ V := by have := hv.out.1; omega
          have h2 := Nat.mul_le_mul_left q hy1b
          omega
        by_cases hA : 4294967296 ≤ q
        · have hgr := hv.out.great hVY.out (by rw [HB32_eq]; omega) (.inl (by rw [HB32_eq]; exact hA))
          have hq1p := hgr.1
          have HG := hid hgr.2
          have hd1 : decide ((4294967296 : Int) ≤ (q : Int)) = true := by rw [decide_eq_true_eq]; omega
          by_cases hC : 4294967296 ≤ r + y1
          · have hd3 : decide ((4294967296 : Int) ≤ (r : Int) + (y1 : Int)) = true := by rw [decide_eq_true_eq]; omega
            have hsm := HG.out.small hVY.out (by rw [HB32_eq]; omega) (by rw [HB32_eq]; exact hC)
            have hrt := HG.out.right (by rw [HB32_eq]; omega) hsm (.inl (by rw [HB32_eq]; exact hC))
            rw [hq2.out] at hrt
            have HQ := hid hrt
            clear hrt hsm hgr hC hA hv
            go_wp2
            go_meet
            exact ⟨by rw [← HQ.out]; go_num, rfl⟩
          · have hd3 : decide ((4294967296 : Int) ≤ (r : Int) + (y1 : Int)) = false := by rw [decide_eq_false_iff_not]; omega
            have hrl' : r + y1 ≤ 4294967295 := by omega
            clear hgr hC hA hv
            go_wp2
            go_roundw
            case rel => exact ⟨q - 1, r + y1, by go_num, by go_num, HG, hrl', (by trivial)⟩
            case measure => simp [intOf]; omega
        · have hd1 : decide ((4294967296 : Int) ≤ (q : Int)) = false := by rw [decide_eq_false_iff_not]; omega
          have hqy : q * y0 ≤ 4294967295 * 4294967295 := Nat.mul_le_mul (by omega) hy0l
          have hqi : ((q : Int) * (y0 : Int)) = ((q * y0 : Nat) : Int) := (Int.natCast_mul _ _).symm
          have hb1 : (q : Int) * (y0 : Int) ≤ 18446744073709551615 := by rw [hqi]; omega
          have hb2 : 0 ≤ (q : Int) * (y0 : Int) := by rw [hqi]; omega
          by_cases hB : 4294967296 * r + u0 < q * y0
          · have hd2 : decide (4294967296 * (r : Int) + (u0 : Int) < (q : Int) * (y0 : Int)) = true := by rw [decide_eq_true_eq, hqi]; omega
            have hgr := hv.out.great hVY.out (by rw [HB32_eq]; omega) (.inr (by rw [HB32_eq]; exact hB))
            have hq1p := hgr.1
            have HG := hid hgr.2
            by_cases hC : 4294967296 ≤ r + y1
            · have hd3 : decide ((4294967296 : Int) ≤ (r : Int) + (y1 : Int)) = true := by rw [decide_eq_true_eq]; omega
              have hsm := HG.out.small hVY.out (by rw [HB32_eq]; omega) (by rw [HB32_eq]; exact hC)
              have hrt := HG.out.right (by rw [HB32_eq]; omega) hsm (.inl (by rw [HB32_eq]; exact hC))
              rw [hq2.out] at hrt
              have HQ := hid hrt
              clear hrt hsm hgr hC hA hv hB hqi hqy
              go_wp2
              go_meet
              exact ⟨by rw [← HQ.out]; go_num, rfl⟩
            · have hd3 : decide ((4294967296 : Int) ≤ (r : Int) + (y1 : Int)) = false := by rw [decide_eq_false_iff_not]; omega
              have hrl' : r + y1 ≤ 4294967295 := by omega
              clear hgr hC hA hv hB hqi hqy
              go_wp2
              go_roundw
              case rel => exact ⟨q - 1, r + y1, by go_num, by go_num, HG, hrl', (by trivial)⟩
              case measure => simp [intOf]; omega
          · have hd2 : decide (4294967296 * (r : Int) + (u0 : Int) < (q : Int) * (y0 : Int)) = false := by rw [decide_eq_false_iff_not, hqi]; omega
            have hrt := hv.out.right (by rw [HB32_eq]; omega) (by rw [HB32_eq]; omega) (.inr (by rw [HB32_eq]; omega))
            rw [hq2.out] at hrt
            have HQ := hid hrt
            clear hrt hA hv hB hqi hqy
            go_wp2
            go_meet
            exact ⟨by rw [HQ.out], rfl⟩
    case rest =>
      obtain ⟨rfl, rfl⟩ := hcut
      clear hVb hM2l hR2l hi2 hVY hq2
      go_wp2
      go_ret2
      exact ⟨rfl, rfl⟩
theorem w64 (n : Int) : IntKind.u64.wrap n = n % 18446744073709551616 := IntKind.wrap_u64 n
theorem wrapV {X u P V : Nat} (h : X + u = P + V) (hV : V < 18446744073709551616) : (((X % 18446744073709551616 : Nat) : Int) + (u : Int) - ((P % 18446744073709551616 : Nat) : Int)) % 18446744073709551616 = (V : Int) := by omega
/-- One half of the long division, as the text reckons it. -/
theorem half_facts {U u Y y1 y0 : Nat} (hU : U < Y) (hYW : Y < 18446744073709551616) (hu : u ≤ 4294967295) (hY : Y = y1 * 4294967296 + y0) (hy0 : y0 ≤ 4294967295) (hy1 : 2147483648 ≤ y1) :
    ∃ Q M R q A B V : Nat, IntKind.u64.wrap ((U : Int) / (y1 : Int)) = (Q : Int) ∧ IntKind.u64.wrap ((Q : Int) * (y1 : Int)) = (M : Int) ∧ M ≤ U ∧ (U : Int) - (M : Int) = (R : Int) ∧ R ≤ 4294967295 ∧
      HInv HB32 y1 y0 U u Q R ∧ U < y1 * HB32 + y0 ∧ (U * HB32 + u) / (y1 * HB32 + y0) = q ∧ q ≤ 4294967295 ∧ IntKind.u64.wrap ((U : Int) * 4294967296) = (A : Int) ∧ A + u ≤ 18446744073709551615 ∧
      IntKind.u64.wrap ((q : Int) * (Y : Int)) = (B : Int) ∧ IntKind.u64.wrap ((A : Int) + (u : Int) - (B : Int)) = (V : Int) ∧ V < Y ∧ V = (U * 4294967296 + u) % Y ∧ q = (U * 4294967296 + u) / Y := by
  have h1 := Nat.div_add_mod U y1
  have h2 := Nat.mod_lt U (show 0 < y1 by omega)
  have h3 := Nat.mul_comm y1 (U / y1)
  have h4 := Nat.div_le_self U y1
  have hst := HInv.start (b := HB32) (y1 := y1) (y0 := y0) (U := U) (u := u) (by omega) (by rw [HB32_eq]; omega)
  have hq : (U * 4294967296 + u) / Y < 4294967296 := by
    rw [Nat.div_lt_iff_lt_mul (by omega)]; omega
  have hdm := Nat.div_add_mod (U * 4294967296 + u) Y
  have hml := Nat.mod_lt (U * 4294967296 + u) (show 0 < Y by omega)
  have hmc := Nat.mul_comm Y ((U * 4294967296 + u) / Y)
  refine ⟨U / y1, U / y1 * y1, U - U / y1 * y1, (U * 4294967296 + u) / Y, U * 4294967296 % 18446744073709551616, (U * 4294967296 + u) / Y * Y % 18446744073709551616, (U * 4294967296 + u) % Y,
    ?_, ?_, ?_, ?_, ?_, hst, ?_, ?_, ?_, ?_, ?_, ?_, ?_, hml, rfl, rfl⟩
  · rw [← Int.natCast_ediv]; exact bt_wrapN _ (by omega)
  · rw [← Int.natCast_mul]; exact bt_wrapN _ (by omega)
  · omega
  · omega
  · omega
  · rw [HB32_eq]; omega
  · rw [HB32_eq, ← hY]
  · omega
  · rw [w64]; omega
  · omega
  · rw [← Int.natCast_mul]; exact bt_wrapM _
  · rw [w64]
    exact wrapV (by omega) (by omega)
theorem norm_y {y : Nat} (hy : 0 < y) (hyW : y < WB) : ∃ s, 64 - bitLen y = s ∧ s ≤ 63 ∧ 9223372036854775808 ≤ y * 2 ^ s ∧ y * 2 ^ s < 18446744073709551616 := by
  have h1 := bitLen_spec y
  have h2 := bitLen_le64 hyW
  have hb : bitLen y ≠ 0 := by intro h; rw [h] at h1; have := h1.1; simp at this; omega
  refine ⟨_, rfl, by omega, ?_, ?_⟩
  · have := Nat.mul_le_mul_right (2 ^ (64 - bitLen y)) (h1.2 (by omega))
    rw [← Nat.pow_add] at this
    have e : bitLen y - 1 + (64 - bitLen y) = 63 := by omega
    rw [e] at this
    exact this
  · have := Nat.mul_lt_mul_of_pos_right h1.1 (Nat.two_pow_pos (64 - bitLen y))
    rw [← Nat.pow_add] at this
    have e : bitLen y + (64 - bitLen y) = 64 := by omega
    rw [e] at this
    exact this
theorem cast_pow_mul (x s : Nat) : ((x : Int) * 2 ^ s) = ((x * 2 ^ s : Nat) : Int) := by rw [Int.natCast_mul, Int.natCast_pow]; rfl
/-- Div64: the quotient and the rest of two words by one. -/
theorem Div64_any {hi lo y : Nat} (hlt : hi < y) (hlo : lo < WB) (hyW : y < WB) (w : World) :
    Calls Try.prog 88 #[.int .u64 (hi : Int), .int .u64 (lo : Int), .int .u64 (y : Int)] w fun e w' =>
      e = .returned (.tuple #[.int .u64 (((hi * WB + lo) / y : Nat) : Int), .int .u64 (((hi * WB + lo) % y : Nat) : Int)]) ∧ Ext w w' := by
  rcases Nat.eq_zero_or_pos hi with h0 | h0
  · subst h0
    have := Div64_zero lo y hlo hlt w
    simpa using this
  · obtain ⟨s, hs, hs63, hY1, hY2⟩ := norm_y (y := y) (by omega) hyW
    have hlo' : lo < 2 ^ 64 := by rw [WB_pow] at hlo; exact hlo
    have hsh := shl_word (x := lo) (c := 0) (b := s) hlo' (Nat.two_pow_pos _) (by omega)
    have hhs : (hi + 1) * 2 ^ s ≤ y * 2 ^ s := Nat.mul_le_mul_right _ hlt
    rw [Nat.add_mul, Nat.one_mul] at hhs
    have hor : (hi * 2 ^ s ||| lo / 2 ^ (64 - s)) = hi * 2 ^ s + lo / 2 ^ (64 - s) := by
      rw [Nat.mul_comm hi, Nat.two_pow_add_eq_or_of_lt hsh.2.1]
    have hp := Nat.two_pow_pos s
    have hL : lo * 2 ^ s % 18446744073709551616 + 18446744073709551616 * (lo / 2 ^ (64 - s)) = 2 ^ s * lo := by
      have := hsh.2.2; rw [Nat.zero_or, Nat.zero_add] at this; exact this
    have hl2 := hsh.2.1
    clear hsh
    generalize hYd : y * 2 ^ s = Y at *
    generalize hLd : lo * 2 ^ s % 18446744073709551616 = L at *
    have hLlt : L < 18446744073709551616 := by omega
    generalize hld : lo / 2 ^ (64 - s) = l1 at *
    obtain ⟨U, hUd⟩ : ∃ U, U = hi * 2 ^ s + l1 := ⟨_, rfl⟩
    have hUY : U < Y := by omega
    obtain ⟨Q1, M1, R1, q1, A1, B1, V, a1, a2, a3, a4, a5, a6, a7, a8, a9, a10, a11, a12, a13, a14, a15, a16⟩ := half_facts (u := L / 4294967296) (y1 := Y / 4294967296) (y0 := Y % 4294967296) hUY hY2 (by omega) (by omega) (by omega) (by omega)
    obtain ⟨Q2, M2, R2, q2, A2, B2, Z, b1, b2, b3, b4, b5, b6, b7, b8, b9, b10, b11, b12, b13, b14, b15, b16⟩ := half_facts (u := L % 4294967296) (y1 := Y / 4294967296) (y0 := Y % 4294967296) a14 hY2 (by omega) (by omega) (by omega) (by omega)
    have key := Div64_pos (hi := hi) (lo := lo) (y := y) (s := s) (Y := Y) (y1 := Y / 4294967296) (y0 := Y % 4294967296) (U := U) (L := L) (u1 := L / 4294967296) (u0 := L % 4294967296) h0 hlt hs w hyW
      (by rw [cast_pow_mul, hYd]; exact bt_wrapN _ hY2) (by omega) (bt_maskN _ hY2)
      (by
        rw [cast_pow_mul, bt_wrapN _ (by omega), div_z, hld, hUd, ← hor]
        exact bits_or_u64_nat _ _ (by omega) (by omega))
      (by rw [cast_pow_mul, bt_wrapM, hLd]) (by omega) (bt_maskN _ hLlt) (by omega) (by omega) (by omega) (by omega) (by omega) (by omega)
      a1 a2 a3 a4 a5 (hid a6) (hid a7) (hid a8) a9 a10 a11 a12 a13 (by omega) b1 b2 b3 b4 b5 (hid b6) (hid b7) (hid b8) b9 b10 b11 b12 b13
    refine key.mono fun e w' ⟨he, hw⟩ => ?_
    have htd := two_digits (b := 4294967296) (y := Y) (A := U * 4294967296 + L / 4294967296) (u := L % 4294967296) a16 (a15 ▸ b16)
    have hN : (U * 4294967296 + L / 4294967296) * 4294967296 + L % 4294967296 = (hi * WB + lo) * 2 ^ s := by
      have e1 : (hi * WB + lo) * 2 ^ s = hi * 2 ^ s * 18446744073709551616 + 2 ^ s * lo := by rw [WB_eq, Nat.add_mul, Nat.mul_right_comm, Nat.mul_comm lo]
      rw [e1, ← hL, hUd]
      omega
    rw [hN, ← a15, ← b15] at htd
    rw [← hYd, Nat.mul_div_mul_right _ _ hp, Nat.mul_mod_mul_right] at htd
    rw [he]
    subst hw
    refine ⟨?_, Ext.refl _⟩
    have r1 : ((q1 : Int) * 4294967296 + (q2 : Int)) = (((hi * WB + lo) / y : Nat) : Int) := by rw [← htd.1]; omega
    have r2 : ((Z : Int) / 2 ^ s) = (((hi * WB + lo) % y : Nat) : Int) := by rw [div_z, htd.2, Nat.mul_div_cancel _ hp]
    rw [r1, r2]
end Go.Proofs.Ytkdonndeogihfaa

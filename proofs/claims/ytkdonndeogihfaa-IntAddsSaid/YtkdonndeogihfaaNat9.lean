import Derived.Test.YtkdonndeogihfaaNat8
import Derived.Test.YtkdonndeogihfaaBits2
/- Package nat: Word, Bits. -/
set_option linter.unusedVariables false
set_option linter.unusedSimpArgs false
namespace Go.Proofs.Ytkdonndeogihfaa
open Go.RowKit QM
theorem bitLen_mul (x q r : Nat) (hx : x ≠ 0) (hr : r < 2 ^ q) : bitLen (r + 2 ^ q * x) = q + bitLen x := by
  have h1 : (r + 2 ^ q * x) / 2 ^ q = x := by rw [Nat.add_mul_div_left _ _ (Nat.two_pow_pos _), Nat.div_eq_of_lt hr, Nat.zero_add]
  have := bitLen_shift (r + 2 ^ q * x) q (by rw [h1]; exact hx)
  rw [h1] at this; exact this
/-- A number's bits by its last word. -/
theorem bits_nval {l : List Nat} (hs : Sm WB l) (h : tlen l ≠ 0) : bitLen (nval WB l) = 64 * (tlen l - 1) + bitLen (gd l (tlen l - 1)) := by
  have hl := tlen_last h
  have e1 : nval WB l = nval WB (l.take (tlen l - 1)) + WB ^ (tlen l - 1) * gd l (tlen l - 1) := by
    have := nval_take_gd WB l (tlen l - 1)
    rw [show tlen l - 1 + 1 = tlen l from by omega, nval_tlen] at this; exact this
  have e2 := nval_lt (hs.take (tlen l - 1))
  have e3 : (l.take (tlen l - 1)).length = tlen l - 1 := by rw [List.length_take]; have := tlen_le l; omega
  rw [e3] at e2
  have e4 : WB ^ (tlen l - 1) = 2 ^ (64 * (tlen l - 1)) := by rw [WB_pow, ← Nat.pow_mul]
  rw [e1, e4]
  rw [e4] at e2
  exact bitLen_mul _ _ _ hl e2
theorem Bits_any {w : World} {va : Value} {la : List Nat} (ha : RN w va la) (hna : la.length ≤ 1099511627775) :
    Calls Try.prog 58 #[va] w fun e w' => e = .returned (.int .i64 ((bitLen (nval WB la) : Nat) : Int)) ∧ w = w' := by
  have ka := tlen_le la
  by_cases h0 : tlen la = 0
  · obtain ⟨oa, ca, rfl, _⟩ := id ha
    have CA := trim_any ha (by omega)
    rw [h0] at CA
    have hv := (nval_eq_zero WB_pos).2 h0
    have HV := hid hv
    have HCA := hid CA
    clear hv CA ha h0 ka
    go_enter Try.func58, Try.ntmps58
    go_wp2_with fail
    refine HCA.out.mono ?_
    rintro e w' ⟨rfl, rfl⟩
    go_wp2
    go_ret
    exact ⟨by rw [HV.out]; rfl, rfl⟩
  · rcases ha.shape with ⟨rfl, _⟩ | ⟨bx, ox, ca, rfl, a0, a1, a2, a3⟩
    · exact absurd (by simp [tlen]) h0
    have CA := hid (trim_any ha (by omega))
    have hc := a3 (tlen la - 1) (by omega)
    have hgl := gd_lt ha.sm (tlen la - 1)
    have HL := hid (Len64_any _ hgl w)
    have hb := bitLen_le64 hgl
    have hv := bits_nval ha.sm h0
    have hz : ((tlen la : Int) == 0) = false := by simp; omega
    have h0' : 0 < tlen la := by omega
    have HV := hid hv
    clear hv ha h0 a3 hgl
    go_enter Try.func58, Try.ntmps58
    go_wp2_with fail
    refine CA.out.mono ?_
    rintro e w' ⟨rfl, rfl⟩
    go_wp2_with fail
    refine HL.out.mono ?_
    rintro e w' ⟨rfl, rfl⟩
    go_wp2
    go_ret
    exact ⟨by rw [HV.out]; exact congrArg Ending.returned (by go_num), rfl⟩
theorem Word_zero {w : World} {va : Value} {la : List Nat} (ha : RN w va la) (hna : la.length ≤ 1099511627775) (h0 : tlen la = 0) :
    Calls Try.prog 62 #[va] w fun e w' => e = .returned (.tuple #[.int .u64 0, .bool true]) ∧ w = w' := by
  obtain ⟨oa, ca, rfl, _⟩ := id ha
  have CA := trim_any ha (by omega)
  rw [h0] at CA
  have HCA := hid CA
  clear CA ha h0 hna
  go_enter Try.func62, Try.ntmps62
  go_wp2_with fail
  refine HCA.out.mono ?_
  rintro e w' ⟨rfl, rfl⟩
  go_wp2
  go_ret2
  exact ⟨rfl, rfl⟩
theorem Word_one {w : World} {va : Value} {la : List Nat} (ha : RN w va la) (hna : la.length ≤ 1099511627775) (h0 : tlen la = 1) :
    Calls Try.prog 62 #[va] w fun e w' => e = .returned (.tuple #[.int .u64 ((gd la 0 : Nat) : Int), .bool true]) ∧ w = w' := by
  have ka := tlen_le la
  rcases ha.shape with ⟨rfl, _⟩ | ⟨bx, ox, ca, rfl, a0, a1, a2, a3⟩
  · exact absurd h0 (by simp [tlen])
  have CA := trim_any ha (by omega)
  rw [h0] at CA
  have hc := a3 0 (by omega)
  rw [Nat.add_zero] at hc
  have HCA := hid CA
  clear CA ha h0 a3
  go_enter Try.func62, Try.ntmps62
  go_wp2_with fail
  refine HCA.out.mono ?_
  rintro e w' ⟨rfl, rfl⟩
  go_wp2
  go_ret2
  exact ⟨rfl, rfl⟩
theorem Word_more {w : World} {va : Value} {la : List Nat} (ha : RN w va la) (hna : la.length ≤ 1099511627775) (h0 : 1 < tlen la) :
    Calls Try.prog 62 #[va] w fun e w' => e = .returned (.tuple #[.int .u64 0, .bool false]) ∧ w = w' := by
  obtain ⟨oa, ca, rfl, _⟩ := id ha
  have CA := hid (trim_any ha (by omega))
  have hz : ((tlen la : Int) == 0) = false := by simp; omega
  have hz1 : ((tlen la : Int) == 1) = false := by simp; omega
  clear ha hna
  go_enter Try.func62, Try.ntmps62
  go_wp2_with fail
  refine CA.out.mono ?_
  rintro e w' ⟨rfl, rfl⟩
  go_wp2
  go_ret2
  exact ⟨rfl, rfl⟩
/-- Word: a number's word, if it is one. -/
theorem Word_any {w : World} {va : Value} {la : List Nat} (ha : RN w va la) (hna : la.length ≤ 1099511627775) :
    Calls Try.prog 62 #[va] w fun e w' => e = .returned (.tuple #[.int .u64 (((if nval WB la < WB then nval WB la else 0 : Nat)) : Int), .bool (decide (nval WB la < WB))]) ∧ w = w' := by
  have hs := ha.sm
  have ht := nval_tlen (B := WB) la
  rcases Nat.lt_trichotomy (tlen la) 1 with h | h | h
  · have h0 : tlen la = 0 := by omega
    refine (Word_zero ha hna h0).mono fun e w' ⟨he, hw⟩ => ?_
    have hv := (nval_eq_zero WB_pos).2 h0
    rw [hv]
    exact ⟨by rw [he]; simp [WB_pos], hw⟩
  · refine (Word_one ha hna h).mono fun e w' ⟨he, hw⟩ => ?_
    have hv : nval WB la = gd la 0 := by
      have := nval_take_gd WB la 0
      rw [Nat.zero_add, ← h, ht] at this
      rw [this]; simp [nval]
    rw [hv]
    have := gd_lt hs 0
    exact ⟨by rw [he]; simp [this], hw⟩
  · refine (Word_more ha hna h).mono fun e w' ⟨he, hw⟩ => ?_
    have hv : ¬ nval WB la < WB := by
      have h1 := (nrm_tlen la).pos (B := WB) (by intro e; have := congrArg List.length e; rw [List.length_take, Nat.min_eq_left (tlen_le la)] at this; simp only [List.length_nil] at this; omega)
      rw [List.length_take, Nat.min_eq_left (tlen_le la), ht] at h1
      have h2 : WB ^ 1 ≤ WB ^ (tlen la - 1) := Nat.pow_le_pow_right WB_pos (by omega)
      rw [Nat.pow_one] at h2
      omega
    exact ⟨by rw [he]; simp [hv], hw⟩
end Go.Proofs.Ytkdonndeogihfaa

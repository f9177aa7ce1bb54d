import Derived.Test.YtkdonndeogihfaaDoorG2
/- Package dec: printing and reading are each other's inverse; awake. -/
set_option linter.unusedVariables false
set_option linter.unusedSimpArgs false
namespace Go.Proofs.YtkdonndeogihfaaDoor
open Go.RowKit QM SX
theorem digit_isD {d : Nat} (h : d < 10) : isD (UInt8.ofNat (48 + d)) = true ∧ (UInt8.ofNat (48 + d)).toNat - 48 = d := by
  have e : (UInt8.ofNat (48 + d)).toNat = 48 + d := by rw [UInt8.toNat_ofNat']; omega
  exact ⟨decide_eq_true (by omega), by omega⟩
theorem isD_ofNat {c : UInt8} (h : isD c = true) : UInt8.ofNat (48 + (c.toNat - 48)) = c := by
  have h2 : 48 ≤ c.toNat ∧ c.toNat ≤ 57 := of_decide_eq_true h
  apply UInt8.toNat_inj.1
  rw [UInt8.toNat_ofNat']; omega
theorem dig_facts (x : Nat) : (dig x).all isD = true ∧ dval (dig x) = x ∧ (x ≠ 0 → (byt (dig x) 0).toNat ≠ 48 ∧ 1 ≤ (dig x).length) := by
  induction x using Nat.strongRecOn with
  | _ x ih =>
    by_cases h0 : x = 0
    · subst h0; rw [dig_zero]; exact ⟨rfl, dval_nil, fun h => absurd rfl h⟩
    · obtain ⟨h1, h2, h3⟩ := ih (x / 10) (by omega)
      have hd := digit_isD (d := x % 10) (by omega)
      rw [dig_succ h0]
      refine ⟨by rw [List.all_append, h1, List.all_cons, hd.1]; rfl, by rw [dval_snoc, h2, hd.2]; omega, fun _ => ⟨?_, by simp⟩⟩
      by_cases hq : x / 10 = 0
      · rw [hq, dig_zero]
        show (UInt8.ofNat (48 + x % 10)).toNat ≠ 48
        rw [UInt8.toNat_ofNat']; omega
      · have h4 := h3 hq
        have : byt (dig (x / 10) ++ [UInt8.ofNat (48 + x % 10)]) 0 = byt (dig (x / 10)) 0 := by
          unfold byt
          rw [List.getD_eq_getElem?_getD, List.getD_eq_getElem?_getD, List.getElem?_append_left (by omega)]
        rw [this]; exact h4.1
theorem isN_mk {l : List UInt8} (h : l.all isD = true) (h1 : 1 ≤ l.length) (h2 : l.length ≤ 20000) (h3 : l.length = 1 ∨ (byt l 0).toNat ≠ 48) : isN l = true := by
  unfold isN; rw [Bool.and_eq_true, decide_eq_true_iff]; exact ⟨⟨h1, h2, h3⟩, h⟩
theorem isN_decS {x k : Nat} (h : x < WB ^ k) (hk : k ≤ 900) : isN (decS x) = true ∧ dval (decS x) = x := by
  have hl : (decS x).length ≤ 20 * k + 1 := by
    unfold decS
    split
    · simp
    · have : WB ^ k ≤ 10 ^ (20 * k) := by rw [Nat.pow_mul]; exact Nat.pow_le_pow_left (by rw [WB_eq]; decide) _
      have := dig_len (Nat.lt_of_lt_of_le h this)
      omega
  unfold decS at *
  by_cases h0 : x = 0
  · subst h0
    rw [if_pos rfl] at *
    exact ⟨isN_mk (by decide) (by decide) (by decide) (.inl rfl), by unfold dval; rfl⟩
  · rw [if_neg h0] at *
    have hf := dig_facts x
    exact ⟨isN_mk hf.1 (hf.2.2 h0).2 (by omega) (.inr (hf.2.2 h0).1), hf.2.1⟩
theorem dig_dval : ∀ (n : Nat) (l : List UInt8), l.length = n → l.all isD = true → 1 ≤ l.length → (byt l 0).toNat ≠ 48 → dig (dval l) = l ∧ dval l ≠ 0
  | 0, l, hn, _, h1, _ => by omega
  | n + 1, l, hn, hD, h1, h0 => by
    obtain ⟨m, c, rfl⟩ : ∃ m c, l = m ++ [c] := ⟨l.dropLast, l.getLast (by intro e; rw [e] at h1; simp at h1), (List.dropLast_concat_getLast _).symm⟩
    rw [List.all_append, Bool.and_eq_true] at hD
    have hc : isD c = true := by simpa using hD.2
    have hc2 : 48 ≤ c.toNat ∧ c.toNat ≤ 57 := of_decide_eq_true hc
    rw [dval_snoc]
    by_cases hm : m = []
    · subst hm
      have h0' : c.toNat ≠ 48 := h0
      rw [dval_nil, dig_succ (by omega), show (10 * 0 + (c.toNat - 48)) / 10 = 0 by omega, dig_zero, show (10 * 0 + (c.toNat - 48)) % 10 = c.toNat - 48 by omega, isD_ofNat hc]
      exact ⟨rfl, by omega⟩
    · have hml : 1 ≤ m.length := by
        rcases Nat.eq_zero_or_pos m.length with h | h
        · exact absurd (List.eq_nil_of_length_eq_zero h) hm
        · exact h
      have hb : byt (m ++ [c]) 0 = byt m 0 := by
        unfold byt
        rw [List.getD_eq_getElem?_getD, List.getD_eq_getElem?_getD, List.getElem?_append_left (by omega)]
      rw [hb] at h0
      have ih := dig_dval n m (by simp at hn; omega) hD.1 hml h0
      rw [dig_succ (by omega), show (10 * dval m + (c.toNat - 48)) / 10 = dval m by omega, ih.1, show (10 * dval m + (c.toNat - 48)) % 10 = c.toNat - 48 by omega, isD_ofNat hc]
      exact ⟨rfl, by omega⟩
theorem decS_dval {l : List UInt8} (h : isN l = true) : decS (dval l) = l := by
  have h0 := h
  unfold isN at h0
  rw [Bool.and_eq_true, decide_eq_true_iff] at h0
  obtain ⟨⟨h1, h2, h3⟩, hD⟩ := h0
  by_cases h4 : (byt l 0).toNat = 48
  · have h5 := h3.resolve_right (fun hn => hn h4)
    obtain ⟨c, rfl⟩ : ∃ c, l = [c] := by
      match l, h5 with
      | [c], _ => exact ⟨c, rfl⟩
    have hc : c = 48 := UInt8.toNat_inj.1 h4
    subst hc
    unfold dval decS; rfl
  · have := dig_dval _ l rfl hD h1 h4
    unfold decS
    rw [if_neg this.2, this.1]
theorem dval_zero {l : List UInt8} (h : isN l = true) (h0 : dval l = 0) : l = [48] := by
  have := decS_dval h
  rw [h0] at this
  rw [← this]; unfold decS; rfl
end Go.Proofs.YtkdonndeogihfaaDoor

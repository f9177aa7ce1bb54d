import Derived.Test.YtkdonndeogihfaaDoorY5
/- Digits of naturals: plain laws. -/
set_option linter.unusedVariables false
set_option linter.unusedSimpArgs false
namespace Go.Proofs.YtkdonndeogihfaaDoor
open Go.RowKit QM SX
/-- So many digits of a number, with noughts ahead. -/
def decW : Nat → Nat → List UInt8
  | 0, _ => []
  | n + 1, x => decW n (x / 10) ++ [UInt8.ofNat (48 + x % 10)]
theorem decW_len : ∀ n x, (decW n x).length = n
  | 0, _ => rfl
  | n + 1, x => by rw [decW, List.length_append, decW_len n]; rfl
theorem decW_add : ∀ (m n x : Nat), decW (n + m) x = decW n (x / 10 ^ m) ++ decW m (x % 10 ^ m)
  | 0, n, x => by simp [decW]
  | m + 1, n, x => by
    have e1 : x / 10 ^ (m + 1) = x / 10 / 10 ^ m := by rw [Nat.div_div_eq_div_mul, Nat.pow_succ, Nat.mul_comm]
    have e2 : x % 10 ^ (m + 1) / 10 = x / 10 % 10 ^ m := by rw [Nat.pow_succ, Nat.mul_comm, Nat.mod_mul_right_div_self]
    have e3 : x % 10 ^ (m + 1) % 10 = x % 10 := by rw [Nat.pow_succ, Nat.mul_comm, Nat.mod_mul_right_mod]
    rw [← Nat.add_assoc, decW, decW_add m n, decW, e1, e2, e3, List.append_assoc]
/-- A number's digits; of 0 none. -/
def dig (x : Nat) : List UInt8 := if h : x = 0 then [] else dig (x / 10) ++ [UInt8.ofNat (48 + x % 10)]
decreasing_by omega
theorem dig_zero : dig 0 = [] := by rw [dig]; rfl
theorem dig_succ {x : Nat} (h : x ≠ 0) : dig x = dig (x / 10) ++ [UInt8.ofNat (48 + x % 10)] := by rw [dig, dif_neg h]
theorem decW_zero : ∀ n, (decW n 0).all (· == 48) = true
  | 0 => rfl
  | n + 1 => by rw [decW, List.all_append, show 0 / 10 = 0 from rfl, decW_zero n]; decide
theorem dropWhile_all {p : UInt8 → Bool} : ∀ {l : List UInt8}, l.all p = true → ∀ m, (l ++ m).dropWhile p = m.dropWhile p
  | [], _, m => rfl
  | a :: l, h, m => by
    rw [List.all_cons, Bool.and_eq_true] at h
    rw [List.cons_append, List.dropWhile_cons, if_pos h.1]; exact dropWhile_all h.2 m
theorem dropWhile_ne {p : UInt8 → Bool} : ∀ {l : List UInt8} (m : List UInt8), l.dropWhile p ≠ [] → (l ++ m).dropWhile p = l.dropWhile p ++ m
  | [], m, h => absurd rfl h
  | a :: l, m, h => by
    rw [List.cons_append, List.dropWhile_cons, List.dropWhile_cons] at *
    cases hp : p a
    · simp
    · simp only [hp, if_true] at h ⊢; exact dropWhile_ne m h
theorem dig_ne {x : Nat} (h : x ≠ 0) : dig x ≠ [] := by rw [dig_succ h]; simp
theorem byte_ne {d : Nat} (h0 : d ≠ 0) (h1 : d < 10) : (UInt8.ofNat (48 + d) == 48) = false := by
  rw [beq_eq_false_iff_ne]; intro e
  have := congrArg UInt8.toNat e
  rw [UInt8.toNat_ofNat'] at this
  have h48 : (48 : UInt8).toNat = 48 := rfl
  omega
theorem decW_drop : ∀ (n x : Nat), x < 10 ^ n → (decW n x).dropWhile (· == 48) = dig x
  | 0, x, h => by
    have : x = 0 := by simpa using h
    subst this; rw [dig_zero]; rfl
  | n + 1, x, h => by
    have hx : x / 10 < 10 ^ n := by rw [Nat.pow_succ] at h; omega
    have ih := decW_drop n (x / 10) hx
    rw [decW]
    by_cases h0 : x / 10 = 0
    · rw [h0, dropWhile_all (decW_zero n)]
      by_cases hx0 : x = 0
      · subst hx0; rw [dig_zero]; decide
      · rw [dig_succ hx0, h0, dig_zero, List.dropWhile_cons, byte_ne (by omega) (by omega)]; rfl
    · rw [dropWhile_ne _ (by rw [ih]; exact dig_ne h0), ih, ← dig_succ (by omega)]
/-- The digits by a power. -/
def nD : Nat → Nat
  | 0 => 18
  | j + 1 => nD j + nD j
def pw (j : Nat) : Nat := 10 ^ nD j
theorem pw_zero : pw 0 = 1000000000000000000 := rfl
theorem pw_succ (j : Nat) : pw (j + 1) = pw j * pw j := by unfold pw; rw [nD, Nat.pow_add]
theorem pw_pos (j : Nat) : 0 < pw j := Nat.pow_pos (by decide)
theorem nD_ge : ∀ j, j + 18 ≤ nD j
  | 0 => Nat.le_refl _
  | j + 1 => by have := nD_ge j; rw [nD]; omega
instance BdN.pw (j : Nat) : BdN (pw j) (nD j) := ⟨by
  show 10 ^ nD j < WB ^ nD j
  exact Nat.pow_lt_pow_left (by rw [WB_eq]; decide) (by have := nD_ge j; omega)⟩
theorem nD_bits (j : Nat) : nD j ≤ bitLen (pw j) := by
  have h := (bitLen_spec (pw j)).1
  have h2 : 2 ^ nD j ≤ pw j := Nat.pow_le_pow_left (by decide) _
  exact Nat.le_of_lt ((Nat.pow_lt_pow_iff_right (by decide)).1 (Nat.lt_of_le_of_lt h2 h))
theorem bits_le {x k : Nat} (h : x < WB ^ k) : bitLen x ≤ 64 * k := by
  have hs := (bitLen_spec x).2
  by_cases h0 : x = 0
  · subst h0; exact Nat.zero_le _
  · have h1 := hs h0
    have e : WB ^ k = 2 ^ (64 * k) := by rw [Nat.pow_mul]; rfl
    rw [e] at h
    have := (Nat.pow_lt_pow_iff_right (a := 2) (by decide)).1 (Nat.lt_of_le_of_lt h1 h)
    omega
/-- How often the first power is squared. -/
def pwM (x : Nat) : Nat → Nat → Nat
  | 0, j => j
  | f + 1, j => if 2 * bitLen (pw j) ≤ bitLen x + 1 then pwM x f (j + 1) else j
def pwm (x : Nat) : Nat := pwM x (bitLen x + 2) 0
theorem pw_enough {x j : Nat} (h : ¬ 2 * bitLen (pw j) ≤ bitLen x + 1) : x < pw (j + 1) := by
  have h1 := (bitLen_spec x).1
  have h2 := (bitLen_spec (pw j)).2 (Nat.ne_of_gt (pw_pos j))
  have h3 := nD_bits j
  have h4 := nD_ge j
  rw [pw_succ]
  refine Nat.lt_of_lt_of_le h1 (Nat.le_trans ?_ (Nat.mul_le_mul h2 h2))
  rw [← Nat.pow_add]
  exact Nat.pow_le_pow_right (by decide) (by omega)
/-- A numeral's text. -/
def decS (x : Nat) : List UInt8 := if x = 0 then [48] else dig x
theorem dig_len {x n : Nat} (h : x < 10 ^ n) : (dig x).length ≤ n := by
  rw [← decW_drop n x h]
  exact Nat.le_trans (List.dropWhile_sublist _).length_le (Nat.le_of_eq (decW_len n x))
end Go.Proofs.YtkdonndeogihfaaDoor

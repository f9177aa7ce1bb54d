import Derived.Test.YtkdonndeogihfaaProg
import Derived.Test.YtkdonndeogihfaaRn
import Derived.Laws.Externs
import Derived.Laws.Bits64b
/- Package math/bits: Add64, Sub64, Mul64, Len64, LeadingZeros64. -/
set_option linter.unusedVariables false
set_option linter.unusedSimpArgs false
namespace Go.Proofs.Ytkdonndeogihfaa
open Go.RowKit QM

/-- The lower, the upper word of a number. -/
def lo64 (n : Nat) : Nat := n % 18446744073709551616
def hi64 (n : Nat) : Nat := n / 18446744073709551616
theorem lohi (n : Nat) : lo64 n + WB * hi64 n = n := by unfold lo64 hi64 WB; omega
theorem lo64_lt (n : Nat) : lo64 n < WB := by unfold lo64 WB; omega

theorem Add64_run (x y c : Nat) (hc : c ≤ 1) (w : World) :
    (callFunc 74 #[.int .u64 (x : Int), .int .u64 (y : Int), .int .u64 (c : Int)]).run Try.prog w =
      .ok (.value (.tuple #[.int .u64 ((lo64 (x + y + c) : Nat) : Int), .int .u64 ((hi64 (x + y + c) : Nat) : Int)])) w := by
  rw [run_callFunc_extern Try.func74 (by kernel_rfl) (by kernel_rfl) (by kernel_rfl) (e := add64Entry) (by kernel_rfl), run_add64 x y c (by omega) (by omega) (by omega) (by omega)]
  simp only [Result.andThen, lo64, hi64]
  congr 5 <;> omega
theorem Add64_run0 (x y c : Nat) (hc : c ≤ 1) (hy : y = 0) (w : World) :
    (callFunc 74 #[.int .u64 (x : Int), .int .u64 0, .int .u64 (c : Int)]).run Try.prog w =
      .ok (.value (.tuple #[.int .u64 ((lo64 (x + y + c) : Nat) : Int), .int .u64 ((hi64 (x + y + c) : Nat) : Int)])) w := by
  subst hy; exact Add64_run x 0 c hc w
theorem Add64_runc (x y : Nat) (w : World) :
    (callFunc 74 #[.int .u64 (x : Int), .int .u64 (y : Int), .int .u64 0]).run Try.prog w =
      .ok (.value (.tuple #[.int .u64 ((lo64 (x + y) : Nat) : Int), .int .u64 ((hi64 (x + y) : Nat) : Int)])) w := Add64_run x y 0 (by omega) w
/-- A word's product with one, and two words more. -/
theorem mac64 {x y g c : Nat} (hx : x < WB) (hy : y < WB) (hg : g < WB) (hc : c < WB) :
    hi64 (x * y) + hi64 (lo64 (x * y) + g) + hi64 (lo64 (lo64 (x * y) + g) + c) < WB ∧
    lo64 (lo64 (lo64 (x * y) + g) + c) + WB * (hi64 (x * y) + hi64 (lo64 (x * y) + g) + hi64 (lo64 (lo64 (x * y) + g) + c)) = g + x * y + c := by
  have h := mac_bound hx hy hg hc
  have h1 := lohi (x * y)
  have h2 := lohi (lo64 (x * y) + g)
  have h3 := lohi (lo64 (lo64 (x * y) + g) + c)
  generalize x * y = p at *
  unfold WB at *
  omega
def sub64E : Array Value → Sem Value := fun args => do
  let (x, y, b) ← Extern.MathBitsCarry.three "Sub64" args
  pure (Extern.MathBitsCarry.pair ((x + Extern.MathBitsCarry.m64 - y - b) % Extern.MathBitsCarry.m64) (if x < y + b then 1 else 0))
/-- The borrow of a difference. -/
def bw64 (x y b : Nat) : Nat := if x < y + b then 1 else 0
def sb64 (x y b : Nat) : Nat := (x + 18446744073709551616 - y - b) % 18446744073709551616
theorem sb64_spec {x y b : Nat} (hx : x < WB) (hy : y < WB) (hb : b ≤ 1) : sb64 x y b + y + b = x + WB * bw64 x y b ∧ sb64 x y b < WB ∧ bw64 x y b ≤ 1 := by
  unfold sb64 bw64
  rw [WB_eq] at *
  split <;> omega
theorem Sub64_run (x y b : Nat) (hb : b ≤ 1) (w : World) :
    (callFunc 76 #[.int .u64 (x : Int), .int .u64 (y : Int), .int .u64 (b : Int)]).run Try.prog w =
      .ok (.value (.tuple #[.int .u64 ((sb64 x y b : Nat) : Int), .int .u64 ((bw64 x y b : Nat) : Int)])) w := by
  rw [run_callFunc_extern Try.func76 (by kernel_rfl) (by kernel_rfl) (by kernel_rfl) (e := sub64E) (by kernel_rfl)]
  have : b = 0 ∨ b = 1 := by omega
  rcases this with rfl | rfl <;> rfl

theorem Sub64_run0 (x y b : Nat) (hb : b ≤ 1) (hy : y = 0) (w : World) :
    (callFunc 76 #[.int .u64 (x : Int), .int .u64 0, .int .u64 (b : Int)]).run Try.prog w =
      .ok (.value (.tuple #[.int .u64 ((sb64 x y b : Nat) : Int), .int .u64 ((bw64 x y b : Nat) : Int)])) w := by
  subst hy; exact Sub64_run x 0 b hb w
theorem bt_maskN (a : Nat) (ha : a < 18446744073709551616) : bits .and .u64 (a : Int) 4294967295 = ((a % 4294967296 : Nat) : Int) := by
  have h := bits_and_u64_nat a 4294967295 ha (by omega)
  have e : a &&& 4294967295 = a % 4294967296 := Nat.and_two_pow_sub_one_eq_mod a 32
  rw [e] at h
  exact h
theorem bt_divN (a : Nat) : (a : Int) / 4294967296 = ((a / 4294967296 : Nat) : Int) := by omega
theorem bt_mulN (a b : Nat) : (a : Int) * (b : Int) = ((a * b : Nat) : Int) := (Int.natCast_mul a b).symm
theorem bt_addN (a b : Nat) : (a : Int) + (b : Int) = ((a + b : Nat) : Int) := (Int.natCast_add a b).symm
theorem bt_wrapN (a : Nat) (ha : a < 18446744073709551616) : IntKind.u64.wrap (a : Int) = (a : Int) := by rw [IntKind.wrap_u64]; omega
theorem bt_wrapM (a : Nat) : IntKind.u64.wrap (a : Int) = ((a % 18446744073709551616 : Nat) : Int) := by rw [IntKind.wrap_u64]; omega
theorem bt_split (x1 x0 y1 y0 K : Nat) : (x1 * K + x0) * (y1 * K + y0) = x1 * y1 * (K * K) + (x1 * y0 + x0 * y1) * K + x0 * y0 := by grind
theorem bt_half {a b : Nat} (ha : a ≤ 4294967295) (hb : b ≤ 4294967295) : a * b ≤ 18446744065119617025 := Nat.mul_le_mul ha hb
theorem bt_hi (x y : Nat) (hx : x < 18446744073709551616) (hy : y < 18446744073709551616) :
    (x % 4294967296) * (y % 4294967296) < 18446744073709551616 ∧
    (x / 4294967296) * (y % 4294967296) + (x % 4294967296) * (y % 4294967296) / 4294967296 < 18446744073709551616 ∧
    ((x / 4294967296) * (y % 4294967296) + (x % 4294967296) * (y % 4294967296) / 4294967296) % 4294967296 + (x % 4294967296) * (y / 4294967296) < 18446744073709551616 ∧
    (x / 4294967296) * (y / 4294967296) + ((x / 4294967296) * (y % 4294967296) + (x % 4294967296) * (y % 4294967296) / 4294967296) / 4294967296 +
      (((x / 4294967296) * (y % 4294967296) + (x % 4294967296) * (y % 4294967296) / 4294967296) % 4294967296 + (x % 4294967296) * (y / 4294967296)) / 4294967296 = x * y / 18446744073709551616 := by
  have e : x * y = (x / 4294967296) * (y / 4294967296) * (4294967296 * 4294967296) + ((x / 4294967296) * (y % 4294967296) + (x % 4294967296) * (y / 4294967296)) * 4294967296 + (x % 4294967296) * (y % 4294967296) := by
    rw [← bt_split, Nat.div_add_mod' x 4294967296, Nat.div_add_mod' y 4294967296]
  have ha := bt_half (a := x / 4294967296) (b := y / 4294967296) (by omega) (by omega)
  have hb := bt_half (a := x / 4294967296) (b := y % 4294967296) (by omega) (by omega)
  have hc := bt_half (a := x % 4294967296) (b := y / 4294967296) (by omega) (by omega)
  have hd := bt_half (a := x % 4294967296) (b := y % 4294967296) (by omega) (by omega)
  rw [e]
  generalize (x / 4294967296) * (y / 4294967296) = a at *
  generalize (x / 4294967296) * (y % 4294967296) = b at *
  generalize (x % 4294967296) * (y / 4294967296) = c at *
  generalize (x % 4294967296) * (y % 4294967296) = d at *
  refine ⟨by omega, by omega, by omega, by omega⟩
set_option maxHeartbeats 1000000 in
theorem Mul64_any (x y : Nat) (hx : x < WB) (hy : y < WB) (w : World) :
    Calls Try.prog 94 #[.int .u64 (x : Int), .int .u64 (y : Int)] w fun e w' => e = .returned (.tuple #[.int .u64 ((hi64 (x * y) : Nat) : Int), .int .u64 ((lo64 (x * y) : Nat) : Int)]) ∧ w = w' := by
  unfold WB at hx hy
  unfold hi64 lo64
  obtain ⟨bd, bt, bw, hhi⟩ := bt_hi x y hx hy
  have ba := bt_half (a := x / 4294967296) (b := y / 4294967296) (by omega) (by omega)
  have bb := bt_half (a := x / 4294967296) (b := y % 4294967296) (by omega) (by omega)
  have bc := bt_half (a := x % 4294967296) (b := y / 4294967296) (by omega) (by omega)
  have ba' : x / 4294967296 * (y / 4294967296) < 18446744073709551616 := by omega
  have bb' : x / 4294967296 * (y % 4294967296) < 18446744073709551616 := by omega
  have bc' : x % 4294967296 * (y / 4294967296) < 18446744073709551616 := by omega
  have bh1 : x / 4294967296 * (y / 4294967296) + (x / 4294967296 * (y % 4294967296) + x % 4294967296 * (y % 4294967296) / 4294967296) / 4294967296 < 18446744073709551616 := by omega
  have bh : x / 4294967296 * (y / 4294967296) + (x / 4294967296 * (y % 4294967296) + x % 4294967296 * (y % 4294967296) / 4294967296) / 4294967296 + ((x / 4294967296 * (y % 4294967296) + x % 4294967296 * (y % 4294967296) / 4294967296) % 4294967296 + x % 4294967296 * (y / 4294967296)) / 4294967296 < 18446744073709551616 := by omega
  go_enter Try.func94, Try.ntmps94
  go_wp2
  simp only [bt_maskN x hx, bt_maskN y hy, bt_divN, bt_mulN, bt_addN, bt_wrapN _ bd, bt_wrapN _ bb', bt_wrapN _ bt, bt_maskN _ bt, bt_wrapN _ bc', bt_wrapN _ bw, bt_wrapN _ ba', bt_wrapN _ bh1, bt_wrapN _ bh, bt_wrapM (x * y)]
  rw [hhi]
  go_ret2
  exact ⟨rfl, rfl⟩
end Go.Proofs.Ytkdonndeogihfaa

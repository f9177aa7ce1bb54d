import Derived.Test.YtkdonndeogihfaaBits
import Derived.Deep.Cut
import Derived.Deep.DeepCutAuto
import Derived.Lib.Tables
import Derived.Lib.BitFns
import Derived.Laws.MathBits
/- Package math/bits: Len64, LeadingZeros64. -/
set_option linter.unusedVariables false
set_option linter.unusedSimpArgs false
namespace Go.Proofs.Ytkdonndeogihfaa
open Go.RowKit QM
theorem wpList_index_tab {P : Program} {w : World} {ops : Array Oper} {rest : List Oper} {o : Oper} {a : Act} {Q : Exit → Act → World → Prop}
    (hg : o.guard = none) (t : TypeId) (s : ByteArray) (k : Nat) (hop : o.op = Op.index t (.const (.string s)) (.tmp k)) (hs : s = Lib.len8tab) (ht : P.underlying t = some .string)
    (y : Nat) (hy : y < 256) (hk : a.eval (.tmp k) = .int .u8 (y : Int)) (hK : wpList P ops Q rest (a.put o.dst (.int .u8 ((bitLen y : Nat) : Int))) w) :
    wpList P ops Q (o :: rest) a w := by
  subst hs
  have h1 := Lib.run_index_len8tab (P := P) (w := w) t .u8 (y : Int) ht (by omega) (by omega)
  have h2 : Lib.len8 (y : Int) = ((bitLen y : Nat) : Int) := by
    have : ∀ n : Fin 256, Lib.len8 (n.val : Int) = (bitLen n.val : Int) := by decide +kernel
    exact this ⟨y, hy⟩
  refine wpList_plain hg fun K hK' => ?_
  unfold Oper.wp
  have h3 : a.eval (.const (.string Lib.len8tab)) = .string Lib.len8tab := rfl
  simp only [execOp, hop, h3, hk]
  rw [Sem.run_bind, h1, h2]
  exact hK' _ _ hK
def LenR (x y n m : Nat) : Prop := bitLen x = n + bitLen y ∧ y < m ∧ n ≤ 64
theorem LenR.next {x y n m : Nat} (h : LenR x y n m) (b : Nat) (hb : n + b ≤ 64) (hb0 : 2 ^ b ≤ y) (m' : Nat) (hm : y / 2 ^ b < m') : LenR x (y / 2 ^ b) (n + b) m' :=
  ⟨by rw [h.1, bitLen_shift y b (Nat.ne_of_gt (Nat.div_pos hb0 (Nat.two_pow_pos _)))]; omega, hm, hb⟩
theorem castdiv32 (x : Nat) : (x : Int) / 4294967296 = ((x / 2 ^ 32 : Nat) : Int) := by omega
theorem castdiv16 (x : Nat) : (x : Int) / 65536 = ((x / 2 ^ 16 : Nat) : Int) := by omega
theorem castdiv8 (x : Nat) : (x : Int) / 256 = ((x / 2 ^ 8 : Nat) : Int) := by omega
set_option maxHeartbeats 2000000 in
set_option maxRecDepth 1000000 in
theorem Len64_any (x : Nat) (hx : x < WB) (w : World) :
    Calls Try.prog 84 #[.int .u64 (x : Int)] w fun e w' => e = .returned (.int .i64 (bitLen x : Nat)) ∧ w = w' := by
  have HX := hid hx
  clear hx
  go_enter Try.func84, Try.ntmps84
  go_upto_if 4 with fail
  go_cut [0, 2] (fun s0 s2 wx => ∃ y n : Nat, s0 = .int .u64 y ∧ s2 = .int .i64 n ∧ Hid (LenR x y n 4294967296 ∧ n ≤ 32) ∧ w = wx)
  case first =>
    by_cases h : 4294967296 ≤ x
    · have hd : decide ((4294967296 : Int) ≤ (x : Int)) = true := by simp; omega
      have h0 : LenR x x 0 (x + 1) := ⟨by omega, by omega, by omega⟩
      have hr := h0.next 32 (by omega) h 4294967296 (by have := HX.out; rw [WB_eq] at this; omega)
      have HR : Hid (LenR x (x / 2 ^ 32) 32 4294967296 ∧ 32 ≤ 32) := hid ⟨hr, by omega⟩
      clear hr h h0
      simp only [hd]
      clear hd
      go_wp2
      go_meet
      exact ⟨_, 32, by rw [castdiv32], rfl, HR, rfl⟩
    · have hd : decide ((4294967296 : Int) ≤ (x : Int)) = false := by simp; omega
      have hr : LenR x x 0 4294967296 := ⟨by omega, by omega, by omega⟩
      have HR : Hid (LenR x x 0 4294967296 ∧ 0 ≤ 32) := hid ⟨hr, by omega⟩
      clear hr h
      simp only [hd]
      clear hd
      go_wp2
      go_meet
      exact ⟨x, 0, rfl, rfl, HR, rfl⟩
  case rest =>
    obtain ⟨y, n, rfl, rfl, hl, rfl⟩ := hcut
    have hn32 : n ≤ 32 := hl.out.2
    go_upto_if 8 with fail
    go_cut [0, 2] (fun s0 s2 wx => ∃ y n : Nat, s0 = .int .u64 y ∧ s2 = .int .i64 n ∧ Hid (LenR x y n 65536 ∧ n ≤ 48) ∧ w = wx)
    case first =>
      by_cases h : 65536 ≤ y
      · have hd : decide ((65536 : Int) ≤ (y : Int)) = true := by simp; omega
        have hr := hl.out.1.next 16 (by omega) h 65536 (by have := hl.out.1.2.1; omega)
        have HR : Hid (LenR x (y / 2 ^ 16) (n + 16) 65536 ∧ n + 16 ≤ 48) := hid ⟨hr, by omega⟩
        clear hr h
        simp only [hd]
        clear hd
        go_wp2
        go_meet
        exact ⟨_, n + 16, by rw [castdiv16], by go_num, HR, rfl⟩
      · have hd : decide ((65536 : Int) ≤ (y : Int)) = false := by simp; omega
        have hr : LenR x y n 65536 := ⟨hl.out.1.1, by omega, by omega⟩
        have HR : Hid (LenR x y n 65536 ∧ n ≤ 48) := hid ⟨hr, by omega⟩
        clear hr h
        simp only [hd]
        clear hd
        go_wp2
        go_meet
        exact ⟨y, n, rfl, rfl, HR, rfl⟩
    case rest =>
      clear hl hn32
      obtain ⟨y, n, rfl, rfl, hl, rfl⟩ := hcut
      have hn32 : n ≤ 48 := hl.out.2
      go_upto_if 14 with fail
      go_cut [0, 2] (fun s0 s2 wx => ∃ y n : Nat, s0 = .int .u64 y ∧ s2 = .int .i64 n ∧ Hid (LenR x y n 256 ∧ n ≤ 56) ∧ w = wx)
      case first =>
        by_cases h : 256 ≤ y
        · have hd : decide ((256 : Int) ≤ (y : Int)) = true := by simp; omega
          have hr := hl.out.1.next 8 (by omega) h 256 (by have := hl.out.1.2.1; omega)
          have HR : Hid (LenR x (y / 2 ^ 8) (n + 8) 256 ∧ n + 8 ≤ 56) := hid ⟨hr, by omega⟩
          clear hr h
          simp only [hd]
          clear hd
          go_wp2
          go_meet
          exact ⟨_, n + 8, by rw [castdiv8], by go_num, HR, rfl⟩
        · have hd : decide ((256 : Int) ≤ (y : Int)) = false := by simp; omega
          have hr : LenR x y n 256 := ⟨hl.out.1.1, by omega, by omega⟩
          have HR : Hid (LenR x y n 256 ∧ n ≤ 56) := hid ⟨hr, by omega⟩
          clear hr h
          simp only [hd]
          clear hd
          go_wp2
          go_meet
          exact ⟨y, n, rfl, rfl, HR, rfl⟩
      case rest =>
        clear hl hn32
        obtain ⟨y, n, rfl, rfl, hl, rfl⟩ := hcut
        have hn32 : n ≤ 56 := hl.out.2
        have hy : y ≤ 255 := by have := hl.out.1.2.1; omega
        have hb8 : bitLen y ≤ 8 := bitLen_le8 y (by omega)
        go_wp2_with (with_reducible (refine wpList_index_tab rfl _ _ 21 rfl (by kernel_rfl) rfl y (by omega) rfl ?_))
        go_ret
        exact ⟨by rw [hl.out.1.1]; simp, rfl⟩
theorem bitLen_le64 {x : Nat} (hx : x < WB) : bitLen x ≤ 64 := by
  unfold bitLen
  split
  · omega
  · rename_i h0
    have := (Nat.log2_lt h0).2 (show x < 2 ^ 64 by rw [WB_eq] at hx; omega)
    omega
theorem LeadingZeros64_any (x : Nat) (hx : x < WB) (w : World) :
    Calls Try.prog 68 #[.int .u64 (x : Int)] w fun e w' => e = .returned (.int .i64 ((64 - bitLen x : Nat) : Int)) ∧ w = w' := by
  have hl := bitLen_le64 hx
  have HL := hid (Len64_any x hx w)
  clear hx
  go_enter Try.func68, Try.ntmps68
  go_wp2_with fail
  refine HL.out.mono ?_
  rintro e w' ⟨rfl, rfl⟩
  go_wp2
  go_ret
  exact ⟨congrArg Ending.returned (by go_num), rfl⟩
end Go.Proofs.Ytkdonndeogihfaa

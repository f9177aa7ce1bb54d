import Derived.Test.YtmfadfkjnfdngaaGreatDoorM12
set_option linter.unusedVariables false
set_option linter.unusedSimpArgs false
namespace SNW
open Classical
def sm (f : Int → Nat) : Nat → Nat
  | 0 => 0
  | n + 1 => sm f n + f (n : Int)
theorem sm_congr {f g : Int → Nat} : ∀ {n : Nat}, (∀ x : Nat, x < n → f x = g x) → sm f n = sm g n
  | 0, _ => rfl
  | n + 1, h => by
    unfold sm
    rw [sm_congr fun x hx => h x (by omega), h n (Nat.lt_succ_self n)]
theorem sm_fun {f g : Int → Nat} {n : Nat} (h : ∀ x, f x = g x) : sm f n = sm g n := sm_congr fun x _ => h x
theorem sm_add {f g : Int → Nat} : ∀ n, sm (fun x => f x + g x) n = sm f n + sm g n
  | 0 => rfl
  | n + 1 => by
    unfold sm
    rw [sm_add n]; omega
theorem sm_zero : ∀ n, sm (fun _ => 0) n = 0
  | 0 => rfl
  | n + 1 => by unfold sm; rw [sm_zero n]
theorem sm_mul {f : Int → Nat} {a : Nat} : ∀ n, sm (fun x => a * f x) n = a * sm f n
  | 0 => rfl
  | n + 1 => by
    unfold sm
    rw [sm_mul n, Nat.mul_add]
theorem sm_swap {f : Int → Int → Nat} {k : Nat} : ∀ n, sm (fun x => sm (fun y => f x y) k) n = sm (fun y => sm (fun x => f x y) n) k
  | 0 => by
    show 0 = sm (fun y => 0) k
    rw [sm_zero]
  | n + 1 => by
    have e : sm (fun y => sm (fun x => f x y) (n + 1)) k = sm (fun y => sm (fun x => f x y) n + f n y) k := rfl
    rw [e, sm_add, ← sm_swap n]; rfl
theorem sm_succ {f : Int → Nat} : ∀ n, sm (fun x => f (x + 1)) n + f 0 = sm f (n + 1)
  | 0 => by
    show 0 + f 0 = 0 + f ((0 : Nat) : Int)
    rfl
  | n + 1 => by
    have h := sm_succ (f := f) n
    have e1 : sm (fun x => f (x + 1)) (n + 1) = sm (fun x => f (x + 1)) n + f ((n : Int) + 1) := rfl
    have e2 : sm f (n + 1 + 1) = sm f (n + 1) + f ((n + 1 : Nat) : Int) := rfl
    have e3 : ((n + 1 : Nat) : Int) = (n : Int) + 1 := by omega
    rw [e1, e2, e3]; omega
theorem sm_sh1 {f : Int → Nat} {m : Nat} (hp : f (m : Int) = f 0) : sm (fun x => f (x + 1)) m = sm f m := by
  have h := sm_succ (f := f) m
  have e : sm f (m + 1) = sm f m + f (m : Int) := rfl
  omega
theorem sm_shn {f : Int → Nat} {m : Nat} (hp : ∀ x k : Int, f (x + k * m) = f x) : ∀ s : Nat, sm (fun x => f (x + s)) m = sm f m
  | 0 => sm_fun fun x => by rw [show x + ((0 : Nat) : Int) = x by omega]
  | s + 1 => by
    rw [← sm_shn hp s]
    have := sm_sh1 (f := fun x => f (x + s)) (m := m) (by
      show f ((m : Int) + s) = f (0 + s)
      have := hp (0 + s) 1
      rw [Int.one_mul] at this
      rw [← this]
      congr 1; omega)
    rw [← this]
    exact sm_fun fun x => by
      congr 1; omega
theorem sm_sh {f : Int → Nat} {m : Nat} (hm : 0 < m) (hp : ∀ x k : Int, f (x + k * m) = f x) (s : Int) : sm (fun x => f (x + s)) m = sm f m := by
  rw [← sm_shn hp (s % m).toNat]
  refine sm_fun fun x => ?_
  have h1 := Int.emod_nonneg s (show (m : Int) ≠ 0 by omega)
  have h2 := Int.mul_ediv_add_emod s m
  have e : x + s = (x + ((s % m).toNat : Nat)) + s / m * m := by
    rw [Int.toNat_of_nonneg h1, Int.mul_comm (s / m)]; omega
  rw [e, hp]
def zs (m : Nat) (A : Mx) (x y z : Int) : Prop := ∀ i, (m : Int) ∣ A i 0 * x + A i 1 * y + A i 2 * z
noncomputable def pt (m : Nat) (A : Mx) (x y z : Int) : Nat := if zs m A x y z then 1 else 0
noncomputable def N3 (m : Nat) (A : Mx) : Nat := sm (fun x => sm (fun y => sm (fun z => pt m A x y z) m) m) m
theorem pt_congr {m : Nat} {A B : Mx} {x y z x' y' z' : Int} (h : zs m A x y z ↔ zs m B x' y' z') : pt m A x y z = pt m B x' y' z' := by
  unfold pt
  by_cases h1 : zs m A x y z
  · rw [if_pos h1, if_pos (h.1 h1)]
  · rw [if_neg h1, if_neg (fun h2 => h1 (h.2 h2))]
theorem N3_rows {m : Nat} {A B : Mx} (h : ∀ x y z, zs m A x y z ↔ zs m B x y z) : N3 m A = N3 m B := by
  unfold N3
  exact sm_fun fun x => sm_fun fun y => sm_fun fun z => pt_congr (h x y z)
theorem rop_zs {m : Nat} {A : Mx} {t : Nat} {w : Nat → Int} {x y z : Int} (h : zs m A x y z) : zs m (rop A t w) x y z := fun i => by
  have e : rop A t w i 0 * x + rop A t w i 1 * y + rop A t w i 2 * z = (A i 0 * x + A i 1 * y + A i 2 * z) + w i * (A t 0 * x + A t 1 * y + A t 2 * z) := by unfold rop; grind
  rw [e]
  exact Int.dvd_add (h i) (Int.dvd_mul_of_dvd_right (h t))
theorem rop_N3 {m : Nat} {A : Mx} {t : Nat} {w : Nat → Int} (h : w t = 0) : N3 m A = N3 m (rop A t w) := N3_rows fun x y z => ⟨rop_zs, fun g => by
  have e : rop (rop A t w) t (fun i => -w i) = A := by
    funext i j; unfold rop; rw [h]; grind
  have := rop_zs (t := t) (w := fun i => -w i) g
  rw [e] at this; exact this⟩
theorem rperm_N3 {m : Nat} {A : Mx} {f f' : Nat → Nat} (h : ∀ i, f (f' i) = i) : N3 m A = N3 m (fun i j => A (f i) j) := N3_rows fun x y z => ⟨fun g i => g (f i), fun g i => by
  have := g (f' i)
  dsimp only at this
  rw [h] at this; exact this⟩
theorem sgn_N3 {m : Nat} {A : Mx} {s : Nat → Int} (h : ∀ i, s i * s i = 1) : N3 m A = N3 m (fun i j => s i * A i j) := N3_rows fun x y z => ⟨fun g i => by
  have e : s i * A i 0 * x + s i * A i 1 * y + s i * A i 2 * z = s i * (A i 0 * x + A i 1 * y + A i 2 * z) := by grind
  show _ ∣ s i * A i 0 * x + s i * A i 1 * y + s i * A i 2 * z
  rw [e]; exact Int.dvd_mul_of_dvd_right (g i), fun g i => by
  have e : A i 0 * x + A i 1 * y + A i 2 * z = s i * (s i * A i 0 * x + s i * A i 1 * y + s i * A i 2 * z) := by
    have := h i
    grind
  rw [e]; exact Int.dvd_mul_of_dvd_right (g i)⟩
section
variable {m : Nat} {A : Mx}
theorem zs_x (x y z k : Int) : zs m A (x + k * m) y z ↔ zs m A x y z := forall_congr' fun i => by
  have e : A i 0 * (x + k * m) + A i 1 * y + A i 2 * z = (A i 0 * x + A i 1 * y + A i 2 * z) + m * (A i 0 * k) := by grind
  rw [e]
  exact ⟨fun h => by have := Int.dvd_sub h (Int.dvd_mul_right (m : Int) (A i 0 * k)); rw [Int.add_sub_cancel] at this; exact this, fun h => Int.dvd_add h (Int.dvd_mul_right _ _)⟩
theorem zs_y (x y z k : Int) : zs m A x (y + k * m) z ↔ zs m A x y z := forall_congr' fun i => by
  have e : A i 0 * x + A i 1 * (y + k * m) + A i 2 * z = (A i 0 * x + A i 1 * y + A i 2 * z) + m * (A i 1 * k) := by grind
  rw [e]
  exact ⟨fun h => by have := Int.dvd_sub h (Int.dvd_mul_right (m : Int) (A i 1 * k)); rw [Int.add_sub_cancel] at this; exact this, fun h => Int.dvd_add h (Int.dvd_mul_right _ _)⟩
theorem zs_z (x y z k : Int) : zs m A x y (z + k * m) ↔ zs m A x y z := forall_congr' fun i => by
  have e : A i 0 * x + A i 1 * y + A i 2 * (z + k * m) = (A i 0 * x + A i 1 * y + A i 2 * z) + m * (A i 2 * k) := by grind
  rw [e]
  exact ⟨fun h => by have := Int.dvd_sub h (Int.dvd_mul_right (m : Int) (A i 2 * k)); rw [Int.add_sub_cancel] at this; exact this, fun h => Int.dvd_add h (Int.dvd_mul_right _ _)⟩
theorem N3_x : N3 m A = sm (fun y => sm (fun z => sm (fun x => pt m A x y z) m) m) m := by
  unfold N3
  rw [sm_swap]
  exact sm_fun fun y => sm_swap m
theorem N3_y : N3 m A = sm (fun x => sm (fun z => sm (fun y => pt m A x y z) m) m) m := by
  unfold N3
  exact sm_fun fun x => sm_swap m
theorem cop_N3 {t : Nat} {w : Nat → Int} (hm : 0 < m) (ht : t < 3) (h : w t = 0) : N3 m A = N3 m (cop A t w) := by
  have ht : t = 0 ∨ t = 1 ∨ t = 2 := by omega
  rcases ht with rfl | rfl | rfl
  · rw [N3_x, N3_x]
    refine sm_fun fun y => sm_fun fun z => ?_
    rw [← sm_sh hm (f := fun x => pt m A x y z) (fun x k => pt_congr (zs_x x y z k)) (w 1 * y + w 2 * z)]
    refine sm_fun fun x => pt_congr (forall_congr' fun i => ?_)
    have e : cop A 0 w i 0 * x + cop A 0 w i 1 * y + cop A 0 w i 2 * z = A i 0 * (x + (w 1 * y + w 2 * z)) + A i 1 * y + A i 2 * z := by unfold cop; rw [h]; grind
    rw [e]
  · rw [N3_y, N3_y]
    refine sm_fun fun x => sm_fun fun z => ?_
    rw [← sm_sh hm (f := fun y => pt m A x y z) (fun y k => pt_congr (zs_y x y z k)) (w 0 * x + w 2 * z)]
    refine sm_fun fun y => pt_congr (forall_congr' fun i => ?_)
    have e : cop A 1 w i 0 * x + cop A 1 w i 1 * y + cop A 1 w i 2 * z = A i 0 * x + A i 1 * (y + (w 0 * x + w 2 * z)) + A i 2 * z := by unfold cop; rw [h]; grind
    rw [e]
  · unfold N3
    refine sm_fun fun x => sm_fun fun y => ?_
    rw [← sm_sh hm (f := fun z => pt m A x y z) (fun z k => pt_congr (zs_z x y z k)) (w 0 * x + w 1 * y)]
    refine sm_fun fun z => pt_congr (forall_congr' fun i => ?_)
    have e : cop A 2 w i 0 * x + cop A 2 w i 1 * y + cop A 2 w i 2 * z = A i 0 * x + A i 1 * y + A i 2 * (z + (w 0 * x + w 1 * y)) := by unfold cop; rw [h]; grind
    rw [e]
theorem sw01 {B : Mx} (h0 : ∀ i, B i 0 = A i 1) (h1 : ∀ i, B i 1 = A i 0) (h2 : ∀ i, B i 2 = A i 2) : N3 m A = N3 m B := by
  unfold N3
  rw [sm_swap]
  refine sm_fun fun y => sm_fun fun x => sm_fun fun z => pt_congr (forall_congr' fun i => ?_)
  rw [h0, h1, h2, show A i 1 * y + A i 0 * x + A i 2 * z = A i 0 * x + A i 1 * y + A i 2 * z by omega]
theorem sw12 {B : Mx} (h0 : ∀ i, B i 0 = A i 0) (h1 : ∀ i, B i 1 = A i 2) (h2 : ∀ i, B i 2 = A i 1) : N3 m A = N3 m B := by
  unfold N3
  refine sm_fun fun x => ?_
  rw [sm_swap]
  refine sm_fun fun z => sm_fun fun y => pt_congr (forall_congr' fun i => ?_)
  rw [h0, h1, h2, show A i 0 * x + A i 2 * z + A i 1 * y = A i 0 * x + A i 1 * y + A i 2 * z by omega]
theorem sw02 {B : Mx} (h0 : ∀ i, B i 0 = A i 2) (h1 : ∀ i, B i 1 = A i 1) (h2 : ∀ i, B i 2 = A i 0) : N3 m A = N3 m B := by
  have e1 := sw01 (m := m) (A := A) (B := fun i j => if j = 0 then A i 1 else if j = 1 then A i 0 else A i j) (fun i => rfl) (fun i => rfl) (fun i => rfl)
  have e2 := sw12 (m := m) (A := fun i j => if j = 0 then A i 1 else if j = 1 then A i 0 else A i j) (B := fun i j => if j = 0 then A i 1 else if j = 1 then A i 2 else A i 0) (fun i => rfl) (fun i => rfl) (fun i => rfl)
  have e3 := sw01 (m := m) (A := fun i j => if j = 0 then A i 1 else if j = 1 then A i 2 else A i 0) (B := B) h0 h1 h2
  rw [e1, e2, e3]
theorem cperm_N3 {t q : Nat} {g : Nat → Nat} (ht : t < 3) (hq : q < 3) (hg : ∀ j, g j = if j = q then t else if j = t then q else j) : N3 m A = N3 m (fun i j => A i (g j)) := by
  have h : ∀ i j, (fun i j => A i (g j)) i j = A i (if j = q then t else if j = t then q else j) := fun i j => by show A i (g j) = _; rw [hg]
  have ht : t = 0 ∨ t = 1 ∨ t = 2 := by omega
  have hq : q = 0 ∨ q = 1 ∨ q = 2 := by omega
  rcases ht with rfl | rfl | rfl <;> rcases hq with rfl | rfl | rfl
  · exact N3_rows fun x y z => forall_congr' fun i => by rw [h, h, h]; exact Iff.rfl
  · exact sw01 (fun i => h i 0) (fun i => h i 1) (fun i => h i 2)
  · exact sw02 (fun i => h i 0) (fun i => h i 1) (fun i => h i 2)
  · exact sw01 (fun i => h i 0) (fun i => h i 1) (fun i => h i 2)
  · exact N3_rows fun x y z => forall_congr' fun i => by rw [h, h, h]; exact Iff.rfl
  · exact sw12 (fun i => h i 0) (fun i => h i 1) (fun i => h i 2)
  · exact sw02 (fun i => h i 0) (fun i => h i 1) (fun i => h i 2)
  · exact sw12 (fun i => h i 0) (fun i => h i 1) (fun i => h i 2)
  · exact N3_rows fun x y z => forall_congr' fun i => by rw [h, h, h]; exact Iff.rfl
end
def gk (m : Nat) (d : Int) : Nat := sm (fun x => if (m : Int) ∣ d * x then 1 else 0) m
theorem zs_diag {m : Nat} {D : Mx} (h : ∀ i j, i ≠ j → D i j = 0) (x y z : Int) : zs m D x y z ↔ (m : Int) ∣ D 0 0 * x ∧ (m : Int) ∣ D 1 1 * y ∧ (m : Int) ∣ D 2 2 * z := by
  have e0 : D 0 0 * x + D 0 1 * y + D 0 2 * z = D 0 0 * x := by rw [h 0 1 (by decide), h 0 2 (by decide)]; omega
  have e1 : D 1 0 * x + D 1 1 * y + D 1 2 * z = D 1 1 * y := by rw [h 1 0 (by decide), h 1 2 (by decide)]; omega
  have e2 : D 2 0 * x + D 2 1 * y + D 2 2 * z = D 2 2 * z := by rw [h 2 0 (by decide), h 2 1 (by decide)]; omega
  refine ⟨fun g => ⟨e0 ▸ g 0, e1 ▸ g 1, e2 ▸ g 2⟩, fun ⟨g0, g1, g2⟩ i => ?_⟩
  match i with
  | 0 => rw [e0]; exact g0
  | 1 => rw [e1]; exact g1
  | 2 => rw [e2]; exact g2
  | i + 3 =>
    rw [h (i + 3) 0 (by omega), h (i + 3) 1 (by omega), h (i + 3) 2 (by omega)]
    rw [Int.zero_mul, Int.zero_mul, Int.zero_mul]; exact Int.dvd_zero _
theorem N3_diag {m : Nat} {D : Mx} (h : ∀ i j, i ≠ j → D i j = 0) : N3 m D = gk m (D 0 0) * (gk m (D 1 1) * gk m (D 2 2)) := by
  have e : ∀ x y z, pt m D x y z = (if (m : Int) ∣ D 0 0 * x then 1 else 0) * ((if (m : Int) ∣ D 1 1 * y then 1 else 0) * (if (m : Int) ∣ D 2 2 * z then 1 else 0)) := fun x y z => by
    unfold pt
    by_cases h0 : (m : Int) ∣ D 0 0 * x
    · by_cases h1 : (m : Int) ∣ D 1 1 * y
      · by_cases h2 : (m : Int) ∣ D 2 2 * z
        · rw [if_pos ((zs_diag h x y z).2 ⟨h0, h1, h2⟩), if_pos h0, if_pos h1, if_pos h2]
        · rw [if_neg (fun g => h2 ((zs_diag h x y z).1 g).2.2), if_pos h0, if_pos h1, if_neg h2]
      · rw [if_neg (fun g => h1 ((zs_diag h x y z).1 g).2.1), if_pos h0, if_neg h1, Nat.zero_mul]
    · rw [if_neg (fun g => h0 ((zs_diag h x y z).1 g).1), if_neg h0, Nat.zero_mul]
  unfold N3 gk
  have e1 : ∀ x, sm (fun y => sm (fun z => pt m D x y z) m) m = (sm (fun y => if (m : Int) ∣ D 1 1 * y then 1 else 0) m * sm (fun z => if (m : Int) ∣ D 2 2 * z then 1 else 0) m) * (if (m : Int) ∣ D 0 0 * x then 1 else 0) := fun x => by
    have e2 : ∀ y, sm (fun z => pt m D x y z) m = ((if (m : Int) ∣ D 0 0 * x then 1 else 0) * sm (fun z => if (m : Int) ∣ D 2 2 * z then 1 else 0) m) * (if (m : Int) ∣ D 1 1 * y then 1 else 0) := fun y => by
      rw [sm_fun (e x y), sm_mul, sm_mul, Nat.mul_right_comm, Nat.mul_assoc]
    rw [sm_fun e2, sm_mul]
    ac_rfl
  rw [sm_fun e1, sm_mul, Nat.mul_comm]
theorem gk_all : ∀ m : Nat, m < 7 → 0 < m → ∀ e : Nat, e < m → gk m (e : Int) = Int.gcd (e : Int) m := by decide
theorem gk_gcd {m : Nat} (h1 : 0 < m) (h2 : m < 7) (d : Int) : gk m d = Int.gcd d m := by
  have hn := Int.emod_nonneg d (show (m : Int) ≠ 0 by omega)
  have hl := Int.emod_lt_of_pos d (show (0 : Int) < m by omega)
  have hd := Int.mul_ediv_add_emod d m
  have e1 : gk m d = gk m (d % m) := by
    unfold gk
    refine sm_fun fun x => ?_
    have e : d * x = d % m * x + m * (d / m * x) := by
      conv => lhs; rw [← hd]
      grind
    have hiff : (m : Int) ∣ d * x ↔ (m : Int) ∣ d % m * x := by
      rw [e]
      exact ⟨fun h => by have := Int.dvd_sub h (Int.dvd_mul_right (m : Int) (d / m * x)); rw [Int.add_sub_cancel] at this; exact this, fun h => Int.dvd_add h (Int.dvd_mul_right _ _)⟩
    by_cases h : (m : Int) ∣ d * x
    · rw [if_pos h, if_pos (hiff.1 h)]
    · rw [if_neg h, if_neg (fun g => h (hiff.2 g))]
  have e2 : Int.gcd d m = Int.gcd (d % m) m := by
    have a : ((Int.gcd d m : Nat) : Int) ∣ ((Int.gcd (d % m) m : Nat) : Int) := by
      rw [Int.dvd_coe_gcd_iff]
      refine ⟨?_, Int.gcd_dvd_right ..⟩
      rw [show d % m = d - m * (d / m) by omega]
      exact Int.dvd_sub (Int.gcd_dvd_left ..) (Int.dvd_mul_of_dvd_left (Int.gcd_dvd_right ..))
    have b : ((Int.gcd (d % m) m : Nat) : Int) ∣ ((Int.gcd d m : Nat) : Int) := by
      rw [Int.dvd_coe_gcd_iff]
      refine ⟨?_, Int.gcd_dvd_right ..⟩
      conv => rhs; rw [← hd]
      exact Int.dvd_add (Int.dvd_mul_of_dvd_left (Int.gcd_dvd_right ..)) (Int.gcd_dvd_left ..)
    exact Nat.dvd_antisymm (Int.natCast_dvd_natCast.1 a) (Int.natCast_dvd_natCast.1 b)
  rw [e1, e2, show d % m = (((d % m).toNat : Nat) : Int) by omega]
  exact gk_all m h2 h1 _ (by omega)
end SNW
set_option linter.unusedVariables false
namespace SNW
structure Dg (D : Mx) : Prop where
  off : ∀ i j, i ≠ j → D i j = 0
  d01 : D 0 0 ∣ D 1 1
  d12 : D 1 1 ∣ D 2 2
  out : ∀ i, 3 ≤ i → D i i = 0
variable {D : Mx}
end SNW

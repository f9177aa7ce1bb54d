import Derived.Test.YtmfadfkjnfdngaaM18
import Derived.Test.YtmfadfkjnfdngaaM17
set_option linter.unusedVariables false
set_option linter.unusedSimpArgs false
namespace Go.Proofs.Ytmfadfkjnfdngaa
open QM SNW
theorem dt1 (g : Nat → Nat → Int) : dtF 1 g = g 0 0 := by
  simp [dtF, dsF]
theorem dt2 (g : Nat → Nat → Int) : dtF 2 g = g 0 0 * g 1 1 - g 0 1 * g 1 0 := by
  have e : dtF 2 g = 0 + g 0 0 * dtF 1 (fun x y => g (x + 1) (skp 0 y)) + -(g 0 1 * dtF 1 (fun x y => g (x + 1) (skp 1 y))) := rfl
  rw [e, dt1, dt1]
  show 0 + g 0 0 * g 1 1 + -(g 0 1 * g 1 0) = _
  omega
theorem dt3 (g : Nat → Nat → Int) : dtF 3 g = g 0 0 * (g 1 1 * g 2 2 - g 1 2 * g 2 1) - g 0 1 * (g 1 0 * g 2 2 - g 1 2 * g 2 0) + g 0 2 * (g 1 0 * g 2 1 - g 1 1 * g 2 0) := by
  have e : dtF 3 g = 0 + g 0 0 * dtF 2 (fun x y => g (x + 1) (skp 0 y)) + -(g 0 1 * dtF 2 (fun x y => g (x + 1) (skp 1 y))) + g 0 2 * dtF 2 (fun x y => g (x + 1) (skp 2 y)) := rfl
  rw [e, dt2, dt2, dt2]
  show 0 + g 0 0 * (g 1 1 * g 2 2 - g 1 2 * g 2 1) + -(g 0 1 * (g 1 0 * g 2 2 - g 1 2 * g 2 0)) + g 0 2 * (g 1 0 * g 2 1 - g 1 1 * g 2 0) = _
  omega
theorem chs1 : ∀ m, m < 5 → ∀ i, i < m → [i] ∈ chs m 1 := by decide
theorem chs2 : ∀ m, m < 5 → ∀ j, j < m → ∀ i, i < j → [i, j] ∈ chs m 2 := by decide
theorem chs3' : ∀ m, m < 5 → ∀ k, k < m → ∀ j, j < k → [j, k] ∈ chs m 2 ∧ ∀ i, i < j → [i, j, k] ∈ chs m 3 := by
  intro m hm k hk j hj
  refine ⟨chs2 m hm k hk j hj, fun i hi => ?_⟩
  have h : m = 3 ∨ m = 4 := by omega
  rcases h with rfl | rfl
  · obtain rfl : k = 2 := by omega
    obtain rfl : j = 1 := by omega
    obtain rfl : i = 0 := by omega
    decide
  · have hk' : k = 2 ∨ k = 3 := by omega
    have hj' : j = 1 ∨ j = 2 := by omega
    have hi' : i = 0 ∨ i = 1 := by omega
    have hall : ∀ k, (k = 2 ∨ k = 3) → ∀ j, (j = 1 ∨ j = 2) → j < k → ∀ i, (i = 0 ∨ i = 1) → i < j → [i, j, k] ∈ chs 4 3 := by
      intro k hk j hj hjk i hi hij
      rcases hk with rfl | rfl
      · rcases hj with rfl | rfl
        · rcases hi with rfl | rfl
          · decide
          · exact absurd hij (by decide)
        · exact absurd hjk (by decide)
      · rcases hj with rfl | rfl
        · rcases hi with rfl | rfl
          · decide
          · exact absurd hij (by decide)
        · rcases hi with rfl | rfl <;> decide
    exact hall k hk' j hj' hj i hi' hi
theorem chs3 (m : Nat) (hm : m < 5) (k : Nat) (hk : k < m) (j : Nat) (hj : j < k) (i : Nat) (hi : i < j) : [i, j, k] ∈ chs m 3 := (chs3' m hm k hk j hj).2 i hi
theorem sort2 {P : Nat → Nat → Prop} (s1 : ∀ a b, P a b → P b a) (h0 : ∀ a, P a a) (h : ∀ a b, a < b → P a b) (a b : Nat) : P a b := by
  rcases Nat.lt_trichotomy a b with e | e | e
  · exact h a b e
  · subst e; exact h0 a
  · exact s1 b a (h b a e)
theorem sort3 {P : Nat → Nat → Nat → Prop} (s1 : ∀ a b c, P a b c → P b a c) (s2 : ∀ a b c, P a b c → P a c b) (h0 : ∀ a b c, a = b ∨ a = c ∨ b = c → P a b c) (h : ∀ a b c, a < b → b < c → P a b c) (a b c : Nat) : P a b c := by
  by_cases e : a = b ∨ a = c ∨ b = c
  · exact h0 a b c e
  · have o : (a < b ∧ b < c) ∨ (a < c ∧ c < b) ∨ (b < a ∧ a < c) ∨ (b < c ∧ c < a) ∨ (c < a ∧ a < b) ∨ (c < b ∧ b < a) := by omega
    rcases o with o | o | o | o | o | o
    · exact h a b c o.1 o.2
    · exact s2 a c b (h a c b o.1 o.2)
    · exact s1 b a c (h b a c o.1 o.2)
    · exact s1 b a c (s2 b c a (h b c a o.1 o.2))
    · exact s2 a c b (s1 c a b (h c a b o.1 o.2))
    · exact s1 b a c (s2 b c a (s1 c b a (h c b a o.1 o.2)))
section
variable {r c : Nat} {Z A : Nat → Nat → Int} {e : Int}
theorem list1 {l : List Nat} (h : l.length = 1) : ∃ a, l = [a] := by
  match l, h with
  | [a], _ => exact ⟨a, rfl⟩
theorem list2 {l : List Nat} (h : l.length = 2) : ∃ a b, l = [a, b] := by
  match l, h with
  | [a, b], _ => exact ⟨a, b, rfl⟩
theorem list3 {l : List Nat} (h : l.length = 3) : ∃ a b c, l = [a, b, c] := by
  match l, h with
  | [a, b, c], _ => exact ⟨a, b, c, rfl⟩
theorem mn1 (i j : Nat) : mnD Z 1 [i] [j] = Z i j := by
  unfold mnD
  rw [dt1]; rfl
theorem mn2 (i k j l : Nat) : mnD Z 2 [i, k] [j, l] = mi Z i k j l := by
  unfold mnD
  rw [dt2]; rfl
theorem mn3 (i k g j l m : Nat) : mnD Z 3 [i, k, g] [j, l, m] = de Z i k g j l m := by
  unfold mnD
  rw [dt3]; rfl
theorem mi_sw1 (i k j l : Nat) : mi A k i j l = -(mi A i k j l) := by unfold mi; grind
theorem mi_sw2 (i k j l : Nat) : mi A i k l j = -(mi A i k j l) := by unfold mi; grind
theorem de_sw1 (i k g j l m : Nat) : de A k i g j l m = -(de A i k g j l m) := by unfold de; grind
theorem de_sw2 (i k g j l m : Nat) : de A i g k j l m = -(de A i k g j l m) := by unfold de; grind
theorem de_sw3 (i k g j l m : Nat) : de A i k g l j m = -(de A i k g j l m) := by unfold de; grind
theorem de_sw4 (i k g j l m : Nat) : de A i k g j m l = -(de A i k g j l m) := by unfold de; grind
theorem dvd_neg_of {a b : Int} (h : e ∣ a) (hb : b = -a) : e ∣ b := by rw [hb]; exact (Int.dvd_neg).2 h
section
variable (hr : r ≤ 4) (hc : c ≤ 4) (hZ : ∀ i j, i < r → j < c → A i j = Z i j) (h0 : ∀ i j, r ≤ i ∨ c ≤ j → A i j = 0)
include hr hc hZ h0
theorem dv1 : DV e A ↔ e ∣ gcM Z 1 (chs r 1) (chs c 1) := by
  rw [gcM_dvd]
  refine ⟨fun h R hR C hC => ?_, fun h i j => ?_⟩
  · obtain ⟨i, rfl⟩ := list1 (chs_len hR)
    obtain ⟨j, rfl⟩ := list1 (chs_len hC)
    rw [mn1, ← hZ i j (chs_lt hR i (by simp)) (chs_lt hC j (by simp))]
    exact h i j
  · by_cases hi : i < r ∧ j < c
    · have := h _ (chs1 r (by omega) i hi.1) _ (chs1 c (by omega) j hi.2)
      rw [mn1] at this
      rw [hZ i j hi.1 hi.2]; exact this
    · rw [h0 i j (by omega)]; exact Int.dvd_zero e
theorem dv2 : DV2 e A ↔ e ∣ gcM Z 2 (chs r 2) (chs c 2) := by
  rw [gcM_dvd]
  refine ⟨fun h R hR C hC => ?_, fun h i k j l => ?_⟩
  · obtain ⟨i, k, rfl⟩ := list2 (chs_len hR)
    obtain ⟨j, l, rfl⟩ := list2 (chs_len hC)
    have a1 := chs_lt hR i (by simp)
    have a2 := chs_lt hR k (by simp)
    have b1 := chs_lt hC j (by simp)
    have b2 := chs_lt hC l (by simp)
    have := h i k j l
    unfold mi at this
    rw [hZ i j a1 b1, hZ k l a2 b2, hZ i l a1 b2, hZ k j a2 b1] at this
    rw [mn2]; exact this
  · refine sort2 (P := fun i k => e ∣ mi A i k j l) (fun a b x => dvd_neg_of x (mi_sw1 a b j l)) (fun a => ?_) (fun a b hab => ?_) i k
    · rw [mi_r]; exact Int.dvd_zero e
    · refine sort2 (P := fun j l => e ∣ mi A a b j l) (fun x y z => dvd_neg_of z (mi_sw2 a b x y)) (fun x => ?_) (fun x y hxy => ?_) j l
      · have : mi A a b x x = 0 := by unfold mi; grind
        rw [this]; exact Int.dvd_zero e
      · by_cases hin : b < r ∧ y < c
        · have := h _ (chs2 r (by omega) b hin.1 a hab) _ (chs2 c (by omega) y hin.2 x hxy)
          rw [mn2] at this
          unfold mi at this ⊢
          rw [hZ a x (by omega) (by omega), hZ b y (by omega) (by omega), hZ a y (by omega) (by omega), hZ b x (by omega) (by omega)]
          exact this
        · have : mi A a b x y = 0 := by
            unfold mi
            rcases (show r ≤ b ∨ c ≤ y by omega) with q | q
            · rw [h0 b y (.inl q), h0 b x (.inl q)]; simp
            · rw [h0 b y (.inr q), h0 a y (.inr q)]; simp
          rw [this]; exact Int.dvd_zero e
theorem dv3 : DV3 e A ↔ e ∣ gcM Z 3 (chs r 3) (chs c 3) := by
  rw [gcM_dvd]
  refine ⟨fun h R hR C hC => ?_, fun h i k g j l m => ?_⟩
  · obtain ⟨i, k, g, rfl⟩ := list3 (chs_len hR)
    obtain ⟨j, l, m, rfl⟩ := list3 (chs_len hC)
    have a1 := chs_lt hR i (by simp)
    have a2 := chs_lt hR k (by simp)
    have a3 := chs_lt hR g (by simp)
    have b1 := chs_lt hC j (by simp)
    have b2 := chs_lt hC l (by simp)
    have b3 := chs_lt hC m (by simp)
    have := h i k g j l m
    unfold de at this
    rw [hZ i j a1 b1, hZ i l a1 b2, hZ i m a1 b3, hZ k j a2 b1, hZ k l a2 b2, hZ k m a2 b3, hZ g j a3 b1, hZ g l a3 b2, hZ g m a3 b3] at this
    rw [mn3]; exact this
  · refine sort3 (P := fun i k g => e ∣ de A i k g j l m) (fun a b d x => dvd_neg_of x (de_sw1 a b d j l m)) (fun a b d x => dvd_neg_of x (de_sw2 a b d j l m)) (fun a b d q => ?_) (fun a b d hab hbd => ?_) i k g
    · have : de A a b d j l m = 0 := by rcases q with q | q | q <;> subst q <;> unfold de <;> grind
      rw [this]; exact Int.dvd_zero e
    · refine sort3 (P := fun j l m => e ∣ de A a b d j l m) (fun x y z w => dvd_neg_of w (de_sw3 a b d x y z)) (fun x y z w => dvd_neg_of w (de_sw4 a b d x y z)) (fun x y z q => ?_) (fun x y z hxy hyz => ?_) j l m
      · have : de A a b d x y z = 0 := by rcases q with q | q | q <;> subst q <;> unfold de <;> grind
        rw [this]; exact Int.dvd_zero e
      · by_cases hin : d < r ∧ z < c
        · have := h _ (chs3 r (by omega) d hin.1 b hbd a hab) _ (chs3 c (by omega) z hin.2 y hyz x hxy)
          rw [mn3] at this
          unfold de at this ⊢
          rw [hZ a x (by omega) (by omega), hZ a y (by omega) (by omega), hZ a z (by omega) (by omega), hZ b x (by omega) (by omega), hZ b y (by omega) (by omega), hZ b z (by omega) (by omega), hZ d x (by omega) (by omega), hZ d y (by omega) (by omega), hZ d z (by omega) (by omega)]
          exact this
        · have : de A a b d x y z = 0 := by
            unfold de
            rcases (show r ≤ d ∨ c ≤ z by omega) with q | q
            · rw [h0 d x (.inl q), h0 d y (.inl q), h0 d z (.inl q)]; simp
            · rw [h0 a z (.inr q), h0 b z (.inr q), h0 d z (.inr q)]; simp
          rw [this]; exact Int.dvd_zero e
end
end
def prP (D : Nat → Nat → Int) : Nat → Int
  | 0 => 1
  | k + 1 => prP D k * D k k
theorem Fin.dg {r c K : Nat} {D : Mx} (h : Fin r c K D) (hr : r ≤ 3) : Dg D := ⟨h.off, h.ch 0, h.ch 1, fun i hi => h.out i i (.inl (by omega))⟩
theorem prP_nn {r c K : Nat} {D : Mx} (h : Fin r c K D) : ∀ k, 0 ≤ prP D k
  | 0 => (by decide : (0 : Int) ≤ 1)
  | k + 1 => Int.mul_nonneg (prP_nn h k) (h.nn k)
theorem prP_law {r c K : Nat} {Z A D : Nat → Nat → Int} (h : Fin r c K D) (hr : r ≤ 3) (hc : c ≤ 4) (hZ : ∀ i j, i < r → j < c → A i j = Z i j) (h0 : ∀ i j, r ≤ i ∨ c ≤ j → A i j = 0) (he : Eqv A D) (k : Nat) (hk : k < 3) : prP D (k + 1) = gcM Z (k + 1) (chs r (k + 1)) (chs c (k + 1)) := by
  have g := h.dg hr
  refine nn_eq (prP_nn h (k + 1)) (gcM_nn _ 0 (Int.le_refl 0)) fun d => ?_
  have hk : k = 0 ∨ k = 1 ∨ k = 2 := by omega
  rcases hk with rfl | rfl | rfl
  · have e1 : prP D (0 + 1) = D 0 0 := by show 1 * D 0 0 = _; rw [Int.one_mul]
    rw [e1, ← g.m1 d]
    exact ⟨fun x => (dv1 (by omega) hc hZ h0).1 (he.2.d1 d x), fun x => he.1.d1 d ((dv1 (by omega) hc hZ h0).2 x)⟩
  · have e1 : prP D (1 + 1) = D 0 0 * D 1 1 := by show 1 * D 0 0 * D 1 1 = _; rw [Int.one_mul]
    rw [e1, ← g.m2 d]
    exact ⟨fun x => (dv2 (by omega) hc hZ h0).1 (he.2.d2 d x), fun x => he.1.d2 d ((dv2 (by omega) hc hZ h0).2 x)⟩
  · have e1 : prP D (2 + 1) = D 0 0 * D 1 1 * D 2 2 := by show 1 * D 0 0 * D 1 1 * D 2 2 = _; rw [Int.one_mul]
    rw [e1, ← g.m3 d]
    exact ⟨fun x => (dv3 (by omega) hc hZ h0).1 (he.2.d3 d x), fun x => he.1.d3 d ((dv3 (by omega) hc hZ h0).2 x)⟩
theorem prP_lt {r c K : Nat} {D : Mx} (h : Fin r c K D) (hK : 0 < K) : ∀ k, (prP D k).natAbs < WB ^ ((k + 1) * K)
  | 0 => by
    show (1 : Int).natAbs < WB ^ ((0 + 1) * K)
    rw [Nat.zero_add, Nat.one_mul]
    exact Nat.lt_of_lt_of_le (show (1 : Int).natAbs < WB ^ 1 by rw [Nat.pow_one, WB_eq]; decide) (Nat.pow_le_pow_right WB_pos hK)
  | k + 1 => by
    show (prP D k * D k k).natAbs < _
    rw [Int.natAbs_mul, Nat.succ_mul (k + 1), Nat.pow_add]
    exact Nat.mul_lt_mul'' (prP_lt h hK k) (h.bd k)
end Go.Proofs.Ytmfadfkjnfdngaa
set_option linter.unusedVariables false
set_option linter.unusedSimpArgs false
namespace Go.Proofs.Ytmfadfkjnfdngaa
open Go.RowKit QM SX SNW
open Go.ChangeShapes Go.WideShapes Go.ChangeAt Go.Joins
section
variable {H : Type} {enc : TypeId × Value → H} {W : World} {base : Nat} {sp : Nat → Bool} {hd : Bool}
theorem sm_of {l : List Nat} : ∀ {cs : List Value}, All2 (CA.has none' W) [.sat (rawN l)] cs → Sm WB l
  | [v], h => (rawN_iff.1 h.1).1
theorem decNatS (n : Nat) : DecF enc Try.prog W base sp hd n 32 (fun l : List Nat => [.sat (rawN l)]) (fun l => Sm WB l) :=
  fun cs x hx => let ⟨l, _, h2⟩ := decNat n cs x hx; ⟨l, sm_of h2, h2⟩
theorem decZS (n : Nat) : DecF enc Try.prog W base sp hd n 34 (fun p : Bool × List Nat => [.val (.bool p.1), .sat (rawN p.2)]) (fun p => Sm WB p.2) :=
  DecF.all (fun n => DecF.conv (dec_struct2 Try.underlying34 rfl (by kernel_rfl) (by kernel_rfl) (dec_bool Try.underlying4) (decNatS n)) id (fun _ h => h.2) (fun _ => rfl)) n
end
abbrev RawZ := Bool × List Nat
abbrev rz (x : RawZ) : Z2 := (x.1, rawN x.2)
def rzv (x : RawZ) : Int := sgn x.1 (nval WB x.2)
def rzC (p : RawZ) : List CA := z2C (rz p)
instance : EncLen rzC 2 := ⟨fun _ => rfl⟩
abbrev RawW := Int × Int × List RawZ
section
variable {H : Type} {enc : TypeId × Value → H} {W : World} {base : Nat} {sp : Nat → Bool} {hd : Bool}
theorem rz_row (l : List RawZ) : rowR 2 rzC l = rowR 2 z2C (l.map rz) := by
  show sliceR 2 l.length (l.flatMap rzC) = sliceR 2 (l.map rz).length ((l.map rz).flatMap z2C)
  rw [List.length_map, List.flatMap_map]; rfl
theorem decZsS (n : Nat) : DecF enc Try.prog W base sp hd n 22 (fun l : List RawZ => [.sat (rowR 2 rzC l)]) (fun l => l.length ≤ maxLen ∧ ∀ a ∈ l, Sm WB a.2) :=
  DecF.all (fun n => dec_slice (enc' := rzC) Try.underlying22 (by kernel_rfl) (DecF.conv (decZS n) id (fun _ h => h) (fun _ => rfl))) n
theorem decZMat (n : Nat) : DecF enc Try.prog W base sp hd n 24 (fun p : RawW => [.val (.int .i64 p.1), .val (.int .i64 p.2.1), .sat (rowR 2 z2C (p.2.2.map rz))]) (fun p => ∀ a ∈ p.2.2, Sm WB a.2) :=
  DecF.all (fun n => DecF.conv (dec_struct3 Try.underlying24 rfl (by kernel_rfl) (by kernel_rfl) (by kernel_rfl) (dec_int Try.underlying3) (dec_int Try.underlying3) (decZsS n)) id (fun p h => h.2.2.2) (fun p => by
    show [CA.val (.int .i64 p.1), CA.val (.int .i64 p.2.1), CA.sat (rowR 2 z2C (p.2.2.map rz))] = [CA.val (.int .i64 p.1), CA.val (.int .i64 p.2.1), CA.sat (rowR 2 rzC p.2.2)]
    rw [rz_row])) n
end
attribute [local irreducible] IntKind.wrap Go1 Reg WP thenK inBlk retQ retF RetF RetOK ResOK CallOK OpOK Sat
theorem MZ.raw {l : List RawZ} {K : Nat} (hs : ∀ a ∈ l, Sm WB a.2) (hl : ∀ a ∈ l, a.2.length ≤ K) : MZ (l.map rz) (l.map rzv) K := by
  refine ⟨by rw [List.length_map, List.length_map], fun i q z hq hz => ?_⟩
  rw [List.getElem?_map] at hq hz
  cases hx : l[i]? with
  | none => rw [hx] at hq; cases hq
  | some x =>
    rw [hx] at hq hz
    cases hq; cases hz
    exact ZQ.raw (hs x (List.mem_of_getElem? hx)) (hl x (List.mem_of_getElem? hx))
theorem con_r11Formed (r c : Int) {n : Nat} {cells : List CA} (goal : Bool) (hg : goal = true ↔ FormedP r c n) : PureOK Try.prog 6 [.agg [.c (.val (.int .i64 r)), .c (.val (.int .i64 c)), .c (.sat (sliceR 2 n cells))]] (.v (.bool goal)) := by
  refine PureOK.fnF Try.func6 Try.results6 Try.ntmps6 rfl rfl rfl (by simp [AV.ids, AV0.ids, Atom.ids]) rfl (fun w0 T B E0 hB => ?_)
  by_cases h1 : r ≥ 0
  · by_cases h2 : r ≤ 64
    · by_cases h3 : c ≥ 0
      · by_cases h4 : c ≤ 64
        · have hp : 0 ≤ r * c := Int.mul_nonneg h1 h3
          have hp2 : r * c ≤ 64 * 64 := Int.mul_le_mul h2 h4 h3 (by decide)
          refine SX.goF ?_
          refine retB ?_
          rw [Bool.eq_iff_iff, hg, decide_eq_true_iff]
          exact ⟨fun h => ⟨h1, h2, h3, h4, h⟩, fun h => h.2.2.2.2⟩
        · refine SX.goF ?_
          refine retB ?_; exact (Bool.eq_false_iff.2 fun ht => h4 (hg.1 ht).2.2.2.1).symm
      · refine SX.goF ?_
        refine retB ?_; exact (Bool.eq_false_iff.2 fun ht => h3 (hg.1 ht).2.2.1).symm
    · refine SX.goF ?_
      refine retB ?_; exact (Bool.eq_false_iff.2 fun ht => h2 (hg.1 ht).2.1).symm
  · refine SX.goF ?_
    refine retB ?_; exact (Bool.eq_false_iff.2 fun ht => h1 (hg.1 ht).1).symm
def FewZ (r c : Int) (l : List RawZ) (s w : Int) : Prop := ((∀ k x, k < 100 → l[k]? = some x → (x.2.length : Int) ≤ w) ∧ l.length ≤ 100) ∧ r ≤ s ∧ c ≤ s
theorem con_r10Few (l : List RawZ) (w : Int) (goal : Bool) (hg : goal = true ↔ (∀ k x, k < 100 → l[k]? = some x → (x.2.length : Int) ≤ w) ∧ l.length ≤ 100) :
    PureOK Try.prog 15 [.r (rowR 2 z2C (l.map rz)), .v (.int .i64 100), .v (.int .i64 w)] (.v (.bool goal)) := by
  have hlen : (l.map rz).length = l.length := List.length_map _
  refine PureOK.fnF Try.func15 Try.results15 Try.ntmps15 rfl rfl rfl (by simp [AV.ids, AV0.ids, Atom.ids]) rfl (fun w0 T B E0 hB => ?_)
  refine SX.goF ?_
  refine W.loop (fun k => k ≤ l.length ∧ k ≤ 100 ∧ ∀ j x, j < k → l[j]? = some x → (x.2.length : Int) ≤ w) (fun k => [(0, .r (rowR 2 z2C (l.map rz))), (1, .v (.int .i64 100)), (2, .v (.int .i64 w)), (7, .v (.int .i64 (k : Int)))]) (fun _ => []) (fun k => l.length - k) 0 ⟨Nat.zero_le _, Nat.zero_le _, fun j x h => absurd h (Nat.not_lt_zero _)⟩ (fun k ⟨hk, hk2, he⟩ => ?_)
  by_cases h : k < l.length
  · have h' : k < (l.map rz).length := by omega
    by_cases h2 : k < 100
    · obtain ⟨x, hx⟩ : ∃ x, l[k]? = some x := ⟨_, List.getElem?_eq_getElem h⟩
      have hq : (l.map rz)[k]? = some (rz x) := by rw [List.getElem?_map, hx]; rfl
      by_cases h3 : (x.2.length : Int) ≤ w
      · refine SX.goF ?_
        refine W.next (k + 1) ⟨h, h2, fun j b hj hb => ?_⟩ (by omega)
        by_cases hjk : j < k
        · exact he j b hjk hb
        · obtain rfl : j = k := by omega
          rw [hx] at hb; rw [← Option.some.inj hb]; exact h3
      · refine SX.goF ?_
        refine retB ?_
        exact (Bool.eq_false_iff.2 fun ht => h3 ((hg.1 ht).1 k x h2 hx)).symm
    · obtain rfl : k = 100 := by omega
      refine SX.goF ?_
      refine retB ?_
      rw [Bool.eq_iff_iff, hg, decide_eq_true_iff]
      exact ⟨fun h => by omega, fun h => by have := h.2; omega⟩
  · obtain rfl : k = l.length := by omega
    have h' : ¬ l.length < (l.map rz).length := by omega
    have all : ∀ k x, k < 100 → l[k]? = some x → (x.2.length : Int) ≤ w := fun j x hj hx => he j x (at_lt hx) hx
    refine SX.goF ?_
    refine retB ?_
    rw [Bool.eq_iff_iff, hg, decide_eq_true_iff]
    exact ⟨fun h => ⟨all, by omega⟩, fun h => by have := h.2; omega⟩
theorem con_r11Few (r c : Int) (l : List RawZ) (s w : Int) (goal : Bool) (hg : goal = true ↔ FewZ r c l s w) :
    PureOK Try.prog 5 [.agg (matW r c (l.map rz)), .v (.int .i64 s), .v (.int .i64 w)] (.v (.bool goal)) := by
  by_cases h1 : r ≤ s
  · by_cases h2 : c ≤ s
    · have cF := con_r10Few l w goal (hg.trans ⟨fun h => h.1, fun h => ⟨h, h1, h2⟩⟩)
      refine PureOK.fnF Try.func5 Try.results5 Try.ntmps5 rfl rfl rfl (by simp [AV.ids, AV0.ids, Atom.ids]) rfl (fun w0 T B E0 hB => ?_)
      refine SX.goF ?_
      exact retB rfl
    · refine PureOK.fnF Try.func5 Try.results5 Try.ntmps5 rfl rfl rfl (by simp [AV.ids, AV0.ids, Atom.ids]) rfl (fun w0 T B E0 hB => ?_)
      refine SX.goF ?_
      refine retB ?_; exact (Bool.eq_false_iff.2 fun ht => h2 (hg.1 ht).2.2).symm
  · refine PureOK.fnF Try.func5 Try.results5 Try.ntmps5 rfl rfl rfl (by simp [AV.ids, AV0.ids, Atom.ids]) rfl (fun w0 T B E0 hB => ?_)
    refine SX.goF ?_
    refine retB ?_; exact (Bool.eq_false_iff.2 fun ht => h1 (hg.1 ht).2.1).symm

def zO (r c : Nat) (Z : Nat → Nat → Int) (i j : Nat) : Int := if i < r ∧ j < c then Z i j else 0
theorem zO_in {r c : Nat} {Z : Nat → Nat → Int} (i j : Nat) (hi : i < r) (hj : j < c) : zO r c Z i j = Z i j := if_pos ⟨hi, hj⟩
theorem zO_out {r c : Nat} {Z : Nat → Nat → Int} (i j : Nat) (h : r ≤ i ∨ c ≤ j) : zO r c Z i j = 0 := if_neg (by omega)
theorem zO_lt {r c : Nat} {Z : Nat → Nat → Int} (h : ∀ i j, i < r → j < c → (Z i j).natAbs < 2 ^ 64) (i j : Nat) : (zO r c Z i j).natAbs < 2 ^ 64 := by
  unfold zO
  split
  · rename_i hh; exact h i j hh.1 hh.2
  · decide
abbrev awZ : Nat → Nat → Int := zat [2, 0, 0, 3] 2
theorem awZ_lt (i j : Nat) (hi : i < 2) (hj : j < 2) : (awZ i j).natAbs < 2 ^ 64 := by
  have h1 : i = 0 ∨ i = 1 := by omega
  have h2 : j = 0 ∨ j = 1 := by omega
  rcases h1 with rfl | rfl <;> rcases h2 with rfl | rfl <;> decide
theorem aw_fc : fcL (smF 2 2 (zO 2 2 awZ)).a (min 2 2) = [1, 6] := by
  obtain ⟨h1, h2⟩ := StI.fin (K := 17978) (show 2 ≤ 3 by decide) (show 2 ≤ 4 by decide) rfl (min 2 2) 0 _ _ (StI.start (r := 2) (c := 2) (K := 17978) zO_out (zO_lt awZ_lt)) (by decide)
  have e1 := prP_law (Z := awZ) h1 (by decide) (by decide) zO_in zO_out h2 0 (by decide)
  have e2 := prP_law (Z := awZ) h1 (by decide) (by decide) zO_in zO_out h2 1 (by decide)
  have g1 : gcM awZ (0 + 1) (chs 2 (0 + 1)) (chs 2 (0 + 1)) = 1 := by decide +kernel
  have g2 : gcM awZ (1 + 1) (chs 2 (1 + 1)) (chs 2 (1 + 1)) = 6 := by decide +kernel
  unfold smF
  rw [g1] at e1
  rw [g2] at e2
  generalize (smS 2 2 (min 2 2) 0 ⟨zO 2 2 awZ, idS, idS⟩).a = D at *
  have e1 : 1 * D 0 0 = 1 := e1
  have e2 : 1 * D 0 0 * D 1 1 = 6 := e2
  have d0 : D 0 0 = 1 := by omega
  have d1 : D 1 1 = 6 := by rw [d0] at e2; omega
  show (if D 1 1 = 0 then (if D 0 0 = 0 then [] else [] ++ [D 0 0]) else (if D 0 0 = 0 then [] else [] ++ [D 0 0]) ++ [D 1 1]) = [1, 6]
  rw [d0, d1]
  decide
attribute [local irreducible] smS fcL prP gcM chs zO
theorem con_awake16 : PureOK Try.prog 4 [] (.v (.bool true)) := by
  have cO : PureOK Try.prog 13 [.v (.int .i64 2), .v (.int .i64 2), .r (rowR 1 i64C [2, 0, 0, 3])] (.tup [.agg (matN 2 2 (tabZ 2 awZ 2)), eNo 0]) := con_zmOf (r := 2) (c := 2) (l := [2, 0, 0, 3]) rfl (by decide) (by decide) (by decide)
  have cF : PureOK Try.prog 14 [.agg (matN 2 2 (tabZ 2 awZ 2))] (.tup [.one (.c (.sat (rowR 2 zC [1, 6]))), eNo 0]) := by
    have hM := MZ.made (K := 1) (tabZ_bd (r := 2) (c := 2) (val := awZ) (K := 1) fun i k hi hk => by have := awZ_lt i k hi hk; rw [WB_p2]; exact this)
    have h := con_Factors (r := 2) (c := 2) (K := 17978) (x := mxR 2 2 awZ) (A0 := zO 2 2 awZ) (by decide) (by decide) rfl (con_zF (FormedP.nat (r := 2) (c := 2) (by decide) (by decide) (by rw [tabZ_len])))
      (fun i k hi hk => by rw [zO_in i k hi hk]; exact con_mxAt (K := 1) (by decide) (by decide) (fun i k hi hk => by have := awZ_lt i k hi hk; rw [WB_p2]; exact this) hi hk (by decide)) zO_out (zO_lt awZ_lt)
    rw [aw_fc] at h
    exact h
  have o1 : PureOK Try.prog 8 [.v (.int .i64 1)] (.agg (zN 1)) := of_1
  have o6 : PureOK Try.prog 8 [.v (.int .i64 6)] (.agg (zN 6)) := con_zOf.h ⟨by decide, by decide⟩
  haveI b1 : Bd 1 1 := ⟨by rw [Nat.pow_one, WB_eq]; decide⟩
  haveI b6 : Bd 6 1 := ⟨by rw [Nat.pow_one, WB_eq]; decide⟩
  have s1 : PureOK Try.prog 11 [.agg (zN 1), .agg (zN 1)] (.v (.bool true)) := by
    have := con_zSame (l := zN 1) (l' := zN 1) |>.h (by decide)
    rw [decide_eq_true rfl] at this; exact this
  have s6 : PureOK Try.prog 11 [.agg (zN 6), .agg (zN 6)] (.v (.bool true)) := by
    have := con_zSame (l := zN 6) (l' := zN 6) |>.h (by decide)
    rw [decide_eq_true rfl] at this; exact this
  have h0 : ([1, 6] : List Int)[0]? = some 1 := rfl
  have h1 : ([1, 6] : List Int)[1]? = some 6 := rfl
  have hl : ([1, 6] : List Int).length = 2 := rfl
  have cO : PureOK Try.prog 13 [.v (.int .i64 2), .v (.int .i64 2), .r (sliceR 1 4 [.val (.int .i64 2), .val (.int .i64 0), .val (.int .i64 0), .val (.int .i64 3)])] (.tup [.agg (matN 2 2 (tabZ 2 awZ 2)), eNo 0]) := cO
  generalize tabZ 2 awZ 2 = l1 at cO cF
  refine PureOK.fnF Try.func4 Try.results4 Try.ntmps4 rfl rfl rfl (by simp [AV.ids, AV0.ids, Atom.ids]) rfl (fun w0 T B E0 hB => ?_)
  refine SX.goB ?_
  refine SX.Go1.buildSliceF (size := 1) (m := [.val (.int .i64 2), .val (.int .i64 0), .val (.int .i64 0), .val (.int .i64 3)]) (l := [.c (.val (.int .i64 2)), .c (.val (.int .i64 0)), .c (.val (.int .i64 0)), .c (.val (.int .i64 3))]) rfl rfl rfl rfl (by kernel_rfl) rfl rfl ?_
  refine SX.goB ?_
  exact retB rfl
theorem prP_1 (D : Nat → Nat → Int) : prP D 0 = 1 := by unfold prP; rfl
theorem bdD_3 {k : Nat} (hk : k < 3) : bdD 1 (k + 1) ≤ 100000 := by
  have h : k = 0 ∨ k = 1 ∨ k = 2 := by omega
  rcases h with rfl | rfl | rfl <;> decide
theorem SnfMinors_ok (q : RawW) (hw : ∀ a ∈ q.2.2, Sm WB a.2) : PureOK Try.prog 3 [.agg (matW q.1 q.2.1 (q.2.2.map rz))] (.v (.bool true)) := by
  obtain ⟨r, c, l⟩ := q
  have hw : ∀ a ∈ l, Sm WB a.2 := hw
  show PureOK Try.prog 3 [.agg (matW r c (l.map rz))] (.v (.bool true))
  have aw := con_awake16
  have hlen : (l.map rz).length = l.length := List.length_map _
  by_cases hf : FewZ r c l 4 1
  · have cFew := con_r11Few r c l 4 1 true ⟨fun _ => hf, fun _ => rfl⟩
    by_cases h3 : r ≤ 3
    · by_cases hF : FormedP r c (l.map rz).length
      · have cFo := con_r11Formed r c (cells := (l.map rz).flatMap z2C) true ⟨fun _ => hF, fun _ => rfl⟩
        obtain ⟨f1, f2, f3, f4, f5⟩ := hF
        obtain ⟨⟨hwd, hl1⟩, hr4, hc4⟩ := hf
        obtain ⟨R, rfl⟩ := Int.eq_ofNat_of_zero_le f1
        obtain ⟨C, rfl⟩ := Int.eq_ofNat_of_zero_le f3
        have hR : R ≤ 3 := by omega
        have hC : C ≤ 4 := by omega
        have hlc : (l.map rz).length = R * C := by
          have : (((l.map rz).length : Nat) : Int) = ((R * C : Nat) : Int) := by rw [f5]; simp
          omega
        have hM : MZ (l.map rz) (l.map rzv) 1 := MZ.raw hw fun a ha => by
          obtain ⟨i, hi⟩ := List.mem_iff_getElem?.1 ha
          have hil := at_lt hi
          have hRC := Nat.mul_le_mul hR hC
          have := hwd i a (by omega) hi
          omega
        have hZ : ∀ i j, i < R → j < C → (zat (l.map rzv) C i j).natAbs < 2 ^ 64 := fun i j hi hj => by
          obtain ⟨q, _, hq⟩ := hM.at hlc hi hj
          have := hq.b
          rw [WB_p2] at this; exact this
        have cS := con_Smith (r := R) (c := C) (K := 17978) (x := rowR 2 z2C (l.map rz)) (A0 := zO R C (zat (l.map rzv) C)) hR hC rfl (con_zF (FormedP.nat (by omega) (by omega) hlc))
          (fun i k hi hk => by rw [zO_in i k hi hk]; exact con_zAt hM hlc (by omega) (by omega) hi hk (by decide)) zO_out (zO_lt hZ)
        obtain ⟨hfin, heq⟩ := StI.fin (K := 17978) hR hC rfl (min R C) 0 _ _ (StI.start (r := R) (c := C) (K := 17978) zO_out (zO_lt hZ)) (by omega)
        have claw := prP_law (Z := zat (l.map rzv) C) hfin hR hC zO_in zO_out heq
        obtain ⟨K, hK⟩ : ∃ K : Nat, K = 17978 := ⟨_, rfl⟩
        rw [← hK] at hfin
        have hbd := prP_lt hfin (by omega)
        have hD := hfin.all
        unfold smF at cS
        generalize smS R C (min R C) 0 ⟨zO R C (zat (l.map rzv) C), idS, idS⟩ = S at *
        have o1 := of_1
        refine PureOK.fnF Try.func3 Try.results3 Try.ntmps3 rfl rfl rfl (by simp [AV.ids, AV0.ids, Atom.ids]) rfl (fun w0 T B E0 hB => ?_)
        refine SX.goB ?_
        refine W.loop (fun k => k ≤ R ∧ k ≤ C) (fun k => [(1, .ptr 1 0), (3, .ptr 3 0), (7, .ptr 7 0), (8, .v (.int .i64 (k : Int)))]) (fun k => [(1, .box 24 (matW (R : Int) (C : Int) (l.map rz))), (3, .box 24 (matN R C (tabZ C S.a R))), (7, .box 34 (zN (prP S.a k)))]) (fun k => R - k) 0 ⟨Nat.zero_le _, Nat.zero_le _⟩ (fun k ⟨hk1, hk2⟩ => ?_)
          (by
            refine SX.St.le_to [] (by intro b h; cases h) ?_ ?_ rfl
            · repeat (first | exact trivial | refine ⟨⟨_, rfl, SX.AVto.same rfl⟩, ?_⟩)
            · exact ⟨SX.EntTo.same rfl rfl, SX.EntTo.same rfl rfl, by rw [prP_1]; exact SX.EntTo.same rfl rfl, trivial⟩)
        by_cases h1 : k < R
        · by_cases h2 : k < C
          · haveI i1 : Bd (prP S.a k) ((k + 1) * K) := ⟨hbd k⟩
            haveI i2 : Bd (S.a k k) K := ⟨hD k k⟩
            haveI i3 : Bd (prP S.a (k + 1)) ((k + 1 + 1) * K) := ⟨hbd (k + 1)⟩
            have m1 := Nat.mul_le_mul_right K (show k + 1 ≤ 3 by omega)
            have m2 := Nat.mul_le_mul_right K (show k + 1 + 1 ≤ 4 by omega)
            have cA := con_mxAt (r := R) (c := C) (A := S.a) (i := k) (k := k) (by omega) (by omega) (fun i k _ _ => hD i k) h1 h2 (show K ≤ 1000000 by omega)
            have cM : PureOK Try.prog 9 [.agg (zN (prP S.a k)), .agg (zN (S.a k k))] (.agg (zN (prP S.a (k + 1)))) := by
              have e : prP S.a (k + 1) = prP S.a k * S.a k k := by conv => lhs; unfold prP
              rw [e]
              exact con_zMul.h (by omega)
            have cN := con_Minors (k := k + 1) hM hlc (by omega) (by omega) (by omega) (bdD_3 (by omega))
            rw [← claw k (by omega)] at cN
            have cE : PureOK Try.prog 11 [.agg (zN (prP S.a (k + 1))), .agg (zN (prP S.a (k + 1)))] (.v (.bool true)) := by
              have := con_zSame (l := zN (prP S.a (k + 1))) (l' := zN (prP S.a (k + 1))) |>.h (by omega)
              rw [decide_eq_true rfl] at this; exact this
            refine SX.goB ?_
            exact W.next (k + 1) ⟨h1, h2⟩ (by omega)
          · refine SX.goB ?_
            exact retB rfl
        · refine SX.goB ?_
          exact retB rfl
      · have cFo := con_r11Formed r c (cells := (l.map rz).flatMap z2C) false ⟨fun h => (by cases h), fun h => absurd h hF⟩
        refine PureOK.fnF Try.func3 Try.results3 Try.ntmps3 rfl rfl rfl (by simp [AV.ids, AV0.ids, Atom.ids]) rfl (fun w0 T B E0 hB => ?_)
        refine SX.goB ?_
        exact retB rfl
    · refine PureOK.fnF Try.func3 Try.results3 Try.ntmps3 rfl rfl rfl (by simp [AV.ids, AV0.ids, Atom.ids]) rfl (fun w0 T B E0 hB => ?_)
      refine SX.goB ?_
      exact retB rfl
  · have cFew := con_r11Few r c l 4 1 false ⟨fun h => (by cases h), fun h => absurd h hf⟩
    refine PureOK.fnF Try.func3 Try.results3 Try.ntmps3 rfl rfl rfl (by simp [AV.ids, AV0.ids, Atom.ids]) rfl (fun w0 T B E0 hB => ?_)
    refine SX.goB ?_
    exact retB rfl
end Go.Proofs.Ytmfadfkjnfdngaa

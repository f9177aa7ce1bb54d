import Derived.Test.YtmfadfkjnfdngaaM16
import Derived.Test.YtmfadfkjnfdngaaM11
set_option linter.unusedVariables false
set_option linter.unusedSimpArgs false
namespace Go.Proofs.Ytmfadfkjnfdngaa
open QM SNW
def lgw (N M : Nat) : Nat := if N ≤ 1 ∨ M ≤ 1 then 0 else if N ≤ 2 then 1 else 4
theorem grw_le (N M : Nat) : grw N M ≤ 2 ^ lgw N M := by
  unfold grw lgw
  split
  · decide
  · split <;> decide
theorem _root_.SNW.Sz.mono {Z Z' : Nat} {A : Mx} (h : Sz Z A) (hZ : Z ≤ Z') : Sz Z' A := ⟨fun i j => Nat.le_trans (h.b1 i j) hZ, fun i k j l => Nat.le_trans (h.b2 i k j l) hZ, fun i k g j l m => Nat.le_trans (h.b3 i k g j l m) hZ⟩
theorem _root_.SNW.Sz.next {N M e n : Nat} {A A1 : Mx} (s : Sz (2 ^ (e + lgw N M * n)) A) (h : Rnd0 N M A A1) (hN : N ≤ 3) : Sz (2 ^ (e + lgw N M * (n + 1))) A1 := by
  refine Sz.mono (s.step h hN) ?_
  rw [Nat.mul_succ, ← Nat.add_assoc, Nat.pow_add _ (e + lgw N M * n), Nat.mul_comm]
  exact Nat.mul_le_mul_left _ (grw_le N M)
theorem WB_p2 (K : Nat) : WB ^ K = 2 ^ (64 * K) := by rw [WB_eq, Nat.pow_mul]
theorem fmod_lt' (x : Int) {p : Int} (h : p ≠ 0) : (x.fmod p).natAbs < p.natAbs := by
  obtain ⟨_, e1, e2⟩ := fm_of x h
  rcases Int.lt_or_gt_of_ne h with q | q
  · have := e2 q; omega
  · have := e1 q; omega
theorem zexok_dv {x p : Int} (h : p ≠ 0) (k : zexok x p = true) : p ∣ x := by
  unfold zexok zrem at k
  rw [if_neg h, Bool.and_eq_true, decide_eq_true_iff, decide_eq_true_iff] at k
  exact Int.dvd_of_tmod_eq_zero k.2
theorem zexok_nz {x p : Int} (h : p ≠ 0) (k : zexok x p = false) : x.fmod p ≠ 0 := fun e => by
  obtain ⟨e1, _⟩ := fm_of x h
  rw [e, Int.add_zero] at e1
  have hd : p ∣ x := ⟨_, e1⟩
  unfold zexok zrem at k
  rw [if_neg h, Int.tmod_eq_zero_of_dvd hd, decide_eq_true h] at k
  cases k
structure IV (r c t pb zb K L0 : Nat) (D : Nat → Int) (A0 : Mx) (n : Nat) (s : SW) : Prop where
  bs : Bs r c t D s.a
  eqv : Eqv A0 s.a
  sz : Sz (2 ^ (zb + lgw (r - t) (c - t) * n)) (sub s.a t)
  u : ∀ x y, x < r → y < r → (s.u x y).natAbs < WB ^ (L0 + n * (2 * K + 4))
  v : ∀ x y, x < c → y < c → (s.v x y).natAbs < WB ^ (L0 + n * (2 * K + 4))
  hd : (n = 0 ∧ ∀ i j, (sub s.a t i j).natAbs < 2 ^ pb) ∨ ∃ m P i j, n = m + 1 ∧ PH (r - t) (c - t) m pb P ∧ Rnd0 (r - t) (c - t) P (sub s.a t) ∧ i < r - t ∧ j < c - t ∧ sub s.a t i j ≠ 0 ∧ (sub s.a t i j).natAbs < (P 0 0).natAbs
structure Stg (r c t pb zb K : Nat) (D : Nat → Int) : Prop where
  ht : t < r
  htc : t < c
  hr : r ≤ 3
  hc : c ≤ 4
  hK : zb + lgw (r - t) (c - t) * rdMax (r - t) (c - t) pb < 64 * K
  hD : ∀ i, i < t → (D i).natAbs < WB ^ K
abbrev lBd (r c t pb K L0 : Nat) : Nat := L0 + (rdMax (r - t) (c - t) pb + 1) * (2 * K + 4)
section
variable {r c t pb zb K L0 n : Nat} {D : Nat → Int} {A0 : Mx} {s : SW}
theorem abd {e : Nat} {A : Mx} (S : Stg r c t pb zb K D) (h : Bs r c t D A) (hs : Sz (2 ^ e) (sub A t)) (he : e < 64 * K) (x y : Nat) : (A x y).natAbs < WB ^ K := by
  have h0 : 0 < WB ^ K := Nat.pow_pos WB_pos
  by_cases hx : x < t ∨ y < t
  · by_cases e : x = y
    · subst e
      rw [h.dia x (by omega)]; exact S.hD x (by omega)
    · rw [h.top x y e hx]; exact h0
  · have := hs.b1 (x - t) (y - t)
    unfold sub at this
    rw [show t + (x - t) = x by omega, show t + (y - t) = y by omega] at this
    rw [WB_p2]
    exact Nat.lt_of_le_of_lt this (Nat.pow_lt_pow_right (by decide) he)
theorem IV.nle (S : Stg r c t pb zb K D) (h : IV r c t pb zb K L0 D A0 n s) : n ≤ rdMax (r - t) (c - t) pb := by
  rcases h.hd with ⟨h0, _⟩ | ⟨m, P, i, j, h1, h2, _⟩
  · omega
  · have hr := S.hr
    have hc := S.hc
    have := h2.rounds (by omega) (by omega)
    omega
theorem lbd_le {m : Nat} (h : m ≤ rdMax (r - t) (c - t) pb + 1) : L0 + m * (2 * K + 4) ≤ lBd r c t pb K L0 := Nat.add_le_add_left (Nat.mul_le_mul_right _ h) _
theorem zbd_lt (S : Stg r c t pb zb K D) {m : Nat} (h : m ≤ rdMax (r - t) (c - t) pb) : zb + lgw (r - t) (c - t) * m < 64 * K := Nat.lt_of_le_of_lt (Nat.add_le_add_left (Nat.mul_le_mul_left _ h) _) S.hK
theorem IV.mid (S : Stg r c t pb zb K D) (h : IV r c t pb zb K L0 D A0 n s) {q : Nat × Nat} (ho : lsAll s.a t (c - t) (r - t) = some q) :
    Bs r c t D (sw1 t q s).a ∧ Eqv A0 (sw1 t q s).a ∧ Sz (2 ^ (zb + lgw (r - t) (c - t) * n)) (sub (sw1 t q s).a t) ∧ (sw1 t q s).a t t ≠ 0 ∧ PH (r - t) (c - t) n pb (sub (sw1 t q s).a t) ∧ n < rdMax (r - t) (c - t) pb ∧ q.1 < r ∧ q.2 < c := by
  have ht := S.ht
  have htc := S.htc
  have hr := S.hr
  have hc := S.hc
  obtain ⟨p1, p2, p3, p4⟩ := (lsAll_ok (A := s.a) (show t + (c - t) = c by omega) (r - t)).so q ho
  have q1 : t ≤ q.1 ∧ q.1 < r := by omega
  have q2 : t ≤ q.2 ∧ q.2 < c := by omega
  have es : sub (sw1 t q s).a t = fun i j => sub s.a t (swp (q.1 - t) i) (swp (q.2 - t) j) := sub_s1 q q1.1 q2.1
  have e00 : sub s.a t (q.1 - t) (q.2 - t) = s.a q.1 q.2 := by unfold sub; rw [show t + (q.1 - t) = q.1 by omega, show t + (q.2 - t) = q.2 by omega]
  have nz : sub s.a t (q.1 - t) (q.2 - t) ≠ 0 := by rw [e00]; exact p2
  have lst : ∀ i j, i < r - t → j < c - t → sub s.a t i j = 0 ∨ (sub s.a t (q.1 - t) (q.2 - t)).natAbs ≤ (sub s.a t i j).natAbs := fun i j hi hj => by
    rw [e00]; exact p3 (t + i) (t + j) (by omega)
  have fst : ∀ i j, i < r - t → j < c - t → (i < q.1 - t ∨ i = q.1 - t ∧ j < q.2 - t) → sub s.a t i j = 0 ∨ (sub s.a t (q.1 - t) (q.2 - t)).natAbs < (sub s.a t i j).natAbs := fun i j hi hj hl => by
    rw [e00]; exact p4 (t + i) (t + j) (by omega) (by omega)
  have ph : PH (r - t) (c - t) n pb (sub (sw1 t q s).a t) := by
    rw [es]
    rcases h.hd with ⟨h0, hb⟩ | ⟨m, P, i, j, h1, h2, h3, h4, h5, h6, h7⟩
    · rw [h0]
      exact PH.first (by omega) (by omega) nz (hb _ _)
    · rw [h1]
      exact PH.step h2 (by omega) (by omega) h3.h00 h3.col h3.inn h3.row nz lst fst (Nat.lt_of_le_of_lt ((lst i j h4 h5).resolve_left h6) h7)
  refine ⟨s1_bs h.bs ht htc q1.1 q1.2 q2.1 q2.2, h.eqv.trans (s1_eqv q), ?_, ?_, ph, ph.rounds (by omega) (by omega), q1.2, q2.2⟩
  · rw [es]; exact h.sz.swap _ _
  · have : sub (sw1 t q s).a t 0 0 ≠ 0 := by
      rw [es]
      show sub s.a t (swp (q.1 - t) 0) (swp (q.2 - t) 0) ≠ 0
      rw [swp_0, swp_0]; exact nz
    exact this
theorem IV.ok (S : Stg r c t pb zb K D) (h : IV r c t pb zb K L0 D A0 n s) : PlOK r c t K (lBd r c t pb K L0) s (fun s' => IV r c t pb zb K L0 D A0 (n + 1) s') := by
  have ht := S.ht
  have htc := S.htc
  have hr := S.hr
  have hc := S.hc
  have hn := h.nle S
  have ga := abd S h.bs h.sz (zbd_lt S hn)
  refine ⟨⟨fun x y _ _ => ga x y, fun x y hx hy => upz_lt (h.u x y hx hy) (lbd_le (m := n) (by omega)), fun x y hx hy => upz_lt (h.v x y hx hy) (lbd_le (m := n) (by omega))⟩, fun q ho => ?_⟩
  obtain ⟨b1, b2, b3, b4, b5, b6, q1, q2⟩ := h.mid S ho
  have gB := abd S b1 b3 (zbd_lt S hn)
  have uB : ∀ x y, x < r → y < r → ((sw1 t q s).u x y).natAbs < WB ^ (L0 + n * (2 * K + 4)) := srF_lt h.u ht q1
  have vB : ∀ x y, x < c → y < c → ((sw1 t q s).v x y).natAbs < WB ^ (L0 + n * (2 * K + 4)) := swF_lt h.v htc q2
  generalize sw1 t q s = B at *
  have R := rnd_l b1 ht htc b4
  have z2 := Sz.next b3 R (by omega)
  have e2 := zbd_lt S (show n + 1 ≤ rdMax (r - t) (c - t) pb by omega)
  have bs2 := s2_bs b1
  have eq2 := b2.trans (s2_eqv (r := r) (c := c) (t := t))
  have g2 := abd S bs2 z2 e2
  have u2 : ∀ x y, x < r → y < r → (clU B.a B.u t r x y).natAbs < WB ^ (K + (L0 + n * (2 * K + 4)) + 1) := clU_lt (fun x y _ _ => gB x y) uB ht htc
  have v2 : ∀ x y, x < c → y < c → (cV B.a B.v t r c x y).natAbs < WB ^ (K + (L0 + n * (2 * K + 4)) + 1) := clV_lt (fun y _ => by rw [clR_row]; exact gB t y) vB htc
  have hl1 : L0 + (n + 1) * (2 * K + 4) = L0 + n * (2 * K + 4) + (2 * K + 4) := by rw [Nat.succ_mul, Nat.add_assoc]
  have hl2 := lbd_le (r := r) (c := c) (t := t) (pb := pb) (K := K) (L0 := L0) (show n + 1 ≤ rdMax (r - t) (c - t) pb + 1 by omega)
  refine ⟨b4, ⟨fun x y _ _ => g2 x y, fun x y hx hy => upz_lt (u2 x y hx hy) (by omega), fun x y hx hy => upz_lt (v2 x y hx hy) (by omega)⟩, fun hf => ?_, fun hf hlt => ?_⟩
  · refine ⟨bs2, eq2, z2, fun x y hx hy => upz_lt (u2 x y hx hy) (by omega), fun x y hx hy => upz_lt (v2 x y hx hy) (by omega), .inr ?_⟩
    have hnot : ¬ ((∀ x, t < x → x < r → (B.a x t).fmod (B.a t t) = 0) ∧ ∀ y, t < y → y < c → (B.a t y).fmod (B.a t t) = 0) := fun hh => by
      rw [(cF_spec b4).2 hh] at hf; cases hf
    by_cases hx : ∀ x, t < x → x < r → (B.a x t).fmod (B.a t t) = 0
    · obtain ⟨y, hy⟩ := Classical.not_forall.1 fun hy => hnot ⟨hx, hy⟩
      have y1 : t < y ∧ y < c ∧ (B.a t y).fmod (B.a t t) ≠ 0 := ⟨Classical.byContradiction fun h => hy fun h1 => absurd h1 h, Classical.byContradiction fun h => hy fun _ h1 => absurd h1 h, fun h => hy fun _ _ => h⟩
      have ev : sub (sw2 r c t B).a t 0 (y - t) = (B.a t y).fmod (B.a t t) := by
        show cA B.a t r c (t + 0) (t + (y - t)) = _
        rw [show t + (y - t) = y by omega]; exact cA_row b4 y1.1 y1.2.1
      exact ⟨n, _, 0, y - t, rfl, b5, R, by omega, by omega, by rw [ev]; exact y1.2.2, by rw [ev]; exact fmod_lt' _ b4⟩
    · obtain ⟨x, hx⟩ := Classical.not_forall.1 hx
      have x1 : t < x ∧ x < r ∧ (B.a x t).fmod (B.a t t) ≠ 0 := ⟨Classical.byContradiction fun h => hx fun h1 => absurd h1 h, Classical.byContradiction fun h => hx fun _ h1 => absurd h1 h, fun h => hx fun _ _ => h⟩
      have ev : sub (sw2 r c t B).a t (x - t) 0 = (B.a x t).fmod (B.a t t) := by
        show cA B.a t r c (t + (x - t)) (t + 0) = _
        rw [show t + (x - t) = x by omega]; exact cA_col b4 x1.1 x1.2.1
      exact ⟨n, _, x - t, 0, rfl, b5, R, by omega, by omega, by rw [ev]; exact x1.2.2, by rw [ev]; exact fmod_lt' _ b4⟩
  · have e2t : (sw2 r c t B).a = cA B.a t r c := rfl
    rw [e2t] at hlt ⊢
    obtain ⟨o1, o2, o3, o4⟩ := odF_spec (A := cA B.a t r c) (c := c) ht
    have o4 := o4 hlt
    generalize odF (cA B.a t r c) t r c = i at *
    obtain ⟨k, k1, k2, k3, _⟩ := odI_t o4
    rw [cA_00] at k3
    obtain ⟨R3, m1, m2⟩ := rnd_r b1 ht htc b4 hf (show t < i by omega) hlt
    have z3 := Sz.next b3 R3 (by omega)
    have a3 : ∀ x y, x < r → y < c → (adF (cA B.a t r c) t i 1 x y).natAbs < WB ^ (K + 1) := adF_lt (fun x y _ _ => g2 x y) ht hlt
    have u3 : ∀ x y, x < r → y < r → (adF (clU B.a B.u t r) t i 1 x y).natAbs < WB ^ (K + (L0 + n * (2 * K + 4)) + 1 + 1) := adF_lt u2 ht hlt
    have m0 : adF (cA B.a t r c) t i 1 t t ≠ 0 := by rw [m1]; exact b4
    refine ⟨m0, s2_bs (s3_bs bs2 ht (by omega)), (eq2.trans (s3_eqv (by omega))).trans s2_eqv, z3, fun x y hx hy => upz_lt (clU_lt a3 u3 ht htc x y hx hy) (by omega), fun x y hx hy => upz_lt (clV_lt (K := K + 1) (fun y hy => by rw [clR_row]; exact a3 t y ht hy) v2 htc x y hx hy) (by omega), .inr ?_⟩
    have ev : sub (sw2 r c t (sw3 t i (sw2 r c t B))).a t 0 (k - t) = (cA B.a t r c i k).fmod (B.a t t) := by
      show cA (adF (cA B.a t r c) t i 1) t r c (t + 0) (t + (k - t)) = _
      rw [show t + (k - t) = k by omega]; exact m2 k k1 k2
    exact ⟨n, _, 0, k - t, rfl, b5, R3, by omega, by omega, by rw [ev]; exact zexok_nz b4 k3, by rw [ev]; exact fmod_lt' _ b4⟩
theorem PlOK.imp {r c t K L : Nat} {s : SW} {p q : SW → Prop} (h : PlOK r c t K L s p) (k : ∀ s, p s → q s) (hL : L ≤ L) : PlOK r c t K L s q :=
  ⟨h.g, fun a ha => let ⟨h1, h2, h3, h4⟩ := h.n a ha; ⟨h1, h2, fun x => k _ (h3 x), fun x y => ⟨(h4 x y).1, k _ (h4 x y).2⟩⟩⟩
structure Aft (r c t pb zb K L0 : Nat) (D : Nat → Int) (A0 : Mx) (res : Bool × SW) : Prop where
  bs : Bs r c t D res.2.a
  eqv : Eqv A0 res.2.a
  sz : Sz (2 ^ (zb + lgw (r - t) (c - t) * rdMax (r - t) (c - t) pb)) (sub res.2.a (t + 1))
  u : ∀ x y, x < r → y < r → (res.2.u x y).natAbs < WB ^ lBd r c t pb K L0
  v : ∀ x y, x < c → y < c → (res.2.v x y).natAbs < WB ^ lBd r c t pb K L0
  no : res.1 = false → ∀ x y, t ≤ x → t ≤ y → res.2.a x y = 0
  ye : res.1 = true → ∃ p : Int, 0 < p ∧ p.natAbs < WB ^ K ∧ Bs r c (t + 1) (fun i => if i = t then p else D i) res.2.a
theorem sz_sub {e : Nat} {A : Mx} (h : Sz e (sub A t)) : Sz e (sub A (t + 1)) := by
  have := h.swap (fun i => i + 1) (fun j => j + 1)
  have e : sub A (t + 1) = fun i j => sub A t (i + 1) (j + 1) := by
    funext i j
    show A (t + 1 + i) (t + 1 + j) = A (t + (i + 1)) (t + (j + 1))
    rw [show t + 1 + i = t + (i + 1) by omega, show t + 1 + j = t + (j + 1) by omega]
  rw [e]; exact this
theorem sub_ng {A : Mx} : sub (ngF A t) (t + 1) = sub A (t + 1) := by
  funext i j
  exact if_neg (by omega)
theorem bs_up {A : Mx} (h : Bs r c t D A) (h0 : A t t ≠ 0) (hr : ∀ y, t < y → y < c → A t y = 0) (hc : ∀ x, t < x → x < r → A x t = 0) (hd : ∀ x y, t < x → x < r → t < y → y < c → A t t ∣ A x y) : Bs r c (t + 1) (fun i => if i = t then A t t else D i) A := by
  refine ⟨h.out, fun i j hne hij => ?_, fun i hi => ?_, fun i hi x y hx hy => ?_⟩
  · by_cases h1 : i < t ∨ j < t
    · exact h.top i j hne h1
    · by_cases h2 : i = t
      · subst h2
        by_cases h3 : j < c
        · exact hr j (by omega) h3
        · exact h.out i j (.inr (by omega))
      · have h4 : j = t := by omega
        subst h4
        by_cases h3 : i < r
        · exact hc i (by omega) h3
        · exact h.out i j (.inl (by omega))
  · by_cases e : i = t
    · subst e; rw [if_pos rfl]
    · rw [if_neg e]; exact h.dia i (by omega)
  · by_cases e : i = t
    · subst e
      rw [if_pos rfl]
      by_cases h1 : x < r ∧ y < c
      · exact hd x y (by omega) h1.1 (by omega) h1.2
      · rw [h.out x y (by omega)]; exact Int.dvd_zero _
    · rw [if_neg e]; exact h.dv i (by omega) x y (by omega) (by omega)
theorem IV.stop (S : Stg r c t pb zb K D) (h : IV r c t pb zb K L0 D A0 n s) {q : Nat × Nat} (ho : lsAll s.a t (c - t) (r - t) = some q) (hf : cF (sw1 t q s).a t r c = true) (hlt : ¬ odF (sw2 r c t (sw1 t q s)).a t r c < r) : Aft r c t pb zb K L0 D A0 (true, sw4 t (sw2 r c t (sw1 t q s))) := by
  have ht := S.ht
  have htc := S.htc
  have hr := S.hr
  have hc := S.hc
  have hn := h.nle S
  obtain ⟨n1, n2, n3, n4⟩ := (h.ok S).n q ho
  obtain ⟨b1, b2, b3, b4, b5, b6, q1, q2⟩ := h.mid S ho
  clear n3 n4
  generalize sw1 t q s = B at *
  have R := rnd_l b1 ht htc b4
  have z2 := Sz.next b3 R (by omega)
  have e2 := zbd_lt S (show n + 1 ≤ rdMax (r - t) (c - t) pb by omega)
  have bs2 := s2_bs b1
  have eq2 := b2.trans (s2_eqv (r := r) (c := c) (t := t))
  have g2 := abd S bs2 z2 e2
  obtain ⟨f1, f2⟩ := (cF_spec b4).1 hf
  have c0 : ∀ x, t < x → x < r → cA B.a t r c x t = 0 := fun x h1 h2 => by rw [cA_col b4 h1 h2]; exact f1 x h1 h2
  have r0 : ∀ y, t < y → y < c → cA B.a t r c t y = 0 := fun y h1 h2 => by rw [cA_row b4 h1 h2]; exact f2 y h1 h2
  have p0 : cA B.a t r c t t ≠ 0 := by rw [cA_00]; exact b4
  obtain ⟨o1, o2, o3, o4⟩ := odF_spec (A := cA B.a t r c) (c := c) ht
  have hlt : ¬ odF (cA B.a t r c) t r c < r := hlt
  have dv : ∀ x y, t < x → x < r → t < y → y < c → cA B.a t r c t t ∣ cA B.a t r c x y := fun x y h1 h2 h3 h4 => zexok_dv p0 (odI_f (o3 x (by omega) (by omega)) y h3 h4)
  have zz := (sz_sub z2).mono (Nat.pow_le_pow_right (show 0 < 2 by decide) (Nat.add_le_add_left (Nat.mul_le_mul_left (lgw (r - t) (c - t)) (show n + 1 ≤ rdMax (r - t) (c - t) pb by omega)) zb))
  have ha : (sw2 r c t B).a = cA B.a t r c := rfl
  by_cases hneg : cA B.a t r c t t < 0
  · have e4 : sw4 t (sw2 r c t B) = ⟨ngF (cA B.a t r c) t, ngF (clU B.a B.u t r) t, cV B.a B.v t r c⟩ := if_pos hneg
    rw [e4]
    have et : ngF (cA B.a t r c) t t t = -(cA B.a t r c t t) := if_pos rfl
    refine ⟨s4_bs bs2, eq2.trans s4_eqv, ?_, fun x y hx hy => ?_, n2.v, fun h => (by cases h), fun _ => ⟨ngF (cA B.a t r c) t t t, by omega, by rw [et, Int.natAbs_neg]; exact g2 t t, ?_⟩⟩
    · show Sz _ (sub (ngF (cA B.a t r c) t) (t + 1))
      rw [sub_ng]; exact zz
    · show (ngF (clU B.a B.u t r) t x y).natAbs < _
      unfold ngF
      split
      · rw [Int.natAbs_neg]; exact n2.u t y ht hy
      · exact n2.u x y hx hy
    · refine bs_up (s4_bs bs2) (by omega) (fun y h1 h2 => ?_) (fun x h1 h2 => ?_) (fun x y h1 h2 h3 h4 => ?_)
      · show ngF (cA B.a t r c) t t y = 0
        unfold ngF
        rw [if_pos rfl, r0 y h1 h2]; rfl
      · show ngF (cA B.a t r c) t x t = 0
        unfold ngF
        rw [if_neg (by omega)]; exact c0 x h1 h2
      · rw [et, Int.neg_dvd]
        show _ ∣ ngF (cA B.a t r c) t x y
        unfold ngF
        rw [if_neg (by omega)]; exact dv x y h1 h2 h3 h4
  · have e4 : sw4 t (sw2 r c t B) = sw2 r c t B := if_neg hneg
    rw [e4]
    refine ⟨bs2, eq2, zz, n2.u, n2.v, fun h => (by cases h), fun _ => ⟨cA B.a t r c t t, by omega, g2 t t, bs_up bs2 p0 r0 c0 dv⟩⟩
theorem IV.none (S : Stg r c t pb zb K D) (h : IV r c t pb zb K L0 D A0 n s) (ho : lsAll s.a t (c - t) (r - t) = none) : Aft r c t pb zb K L0 D A0 (false, s) := by
  have ht := S.ht
  have htc := S.htc
  have hn := h.nle S
  have g := (h.ok S).g
  have hz := (lsAll_ok (A := s.a) (show t + (c - t) = c by omega) (r - t)).no ho
  refine ⟨h.bs, h.eqv, (sz_sub h.sz).mono (Nat.pow_le_pow_right (by decide) (Nat.add_le_add_left (Nat.mul_le_mul_left _ hn) _)), g.u, g.v, fun _ x y hx hy => ?_, fun h => (by cases h)⟩
  by_cases h1 : x < r ∧ y < c
  · exact hz x y (by omega)
  · exact h.bs.out x y (by omega)
theorem IV.ends (S : Stg r c t pb zb K D) : ∀ (f n : Nat) (s : SW), IV r c t pb zb K L0 D A0 n s → n + f = rdMax (r - t) (c - t) pb + 1 → ∃ res, plS r c t f s = some res ∧ Aft r c t pb zb K L0 D A0 res
  | 0, n, s, h, hf => by have := h.nle S; omega
  | f + 1, n, s, h, hf => by
    cases ho : lsAll s.a t (c - t) (r - t) with
    | none => exact ⟨(false, s), by unfold plS; rw [ho], h.none S ho⟩
    | some q =>
      obtain ⟨n1, n2, n3, n4⟩ := (h.ok S).n q ho
      cases hc : cF (sw1 t q s).a t r c with
      | false =>
        obtain ⟨res, h1, h2⟩ := IV.ends S f (n + 1) _ (n3 hc) (by omega)
        refine ⟨res, ?_, h2⟩
        unfold plS
        rw [ho]
        dsimp only
        rw [if_neg (by rw [hc]; decide)]; exact h1
      | true =>
        by_cases hlt : odF (sw2 r c t (sw1 t q s)).a t r c < r
        · obtain ⟨res, h1, h2⟩ := IV.ends S f (n + 1) _ (n4 hc hlt).2 (by omega)
          refine ⟨res, ?_, h2⟩
          unfold plS
          rw [ho]
          dsimp only
          rw [if_pos hc, if_pos hlt]; exact h1
        · refine ⟨_, ?_, h.stop S ho hc hlt⟩
          unfold plS
          rw [ho]
          dsimp only
          rw [if_pos hc, if_neg hlt]
end
end Go.Proofs.Ytmfadfkjnfdngaa
set_option linter.unusedVariables false
set_option linter.unusedSimpArgs false
namespace Go.Proofs.Ytmfadfkjnfdngaa
open QM SNW
def pbT : Nat → Nat
  | 0 => 64
  | 1 => 71908
  | _ => 1150531
def zbT : Nat → Nat
  | 0 => 195
  | 1 => 71907
  | _ => 1150530
def rT : Nat → Nat
  | 0 => 17928
  | 1 => 1078623
  | _ => 2301064
def lT (K : Nat) : Nat → Nat
  | 0 => 1
  | t + 1 => lT K t + (rT t + 1) * (2 * K + 4)
theorem rd_le {N M t : Nat} (ht : t < 3) (hN : N ≤ 3 - t) : rdMax N M (pbT t) ≤ rT t ∧ zbT t + lgw N M * rdMax N M (pbT t) ≤ zbT (t + 1) ∧ zbT (t + 1) < pbT (t + 1) := by
  have h : t = 0 ∨ t = 1 ∨ t = 2 := by omega
  rcases h with rfl | rfl | rfl
  · have e1 : pbT 0 = 64 := rfl
    have e2 : rT 0 = 17928 := rfl
    have e3 : zbT 0 = 195 := rfl
    have e4 : zbT (0 + 1) = 71907 := rfl
    have e5 : pbT (0 + 1) = 71908 := rfl
    rw [e1, e2, e3, e4, e5]
    unfold rdMax lgw
    split
    · omega
    · split <;> split <;> omega
  · have e1 : pbT 1 = 71908 := rfl
    have e2 : rT 1 = 1078623 := rfl
    have e3 : zbT 1 = 71907 := rfl
    have e4 : zbT (1 + 1) = 1150530 := rfl
    have e5 : pbT (1 + 1) = 1150531 := rfl
    rw [e1, e2, e3, e4, e5]
    unfold rdMax lgw
    split
    · omega
    · split
      · first | omega | (split <;> omega)
      · omega
  · have e1 : pbT 2 = 1150531 := rfl
    have e2 : rT 2 = 2301064 := rfl
    have e3 : zbT 2 = 1150530 := rfl
    have e4 : zbT (2 + 1) = 1150530 := rfl
    have e5 : pbT (2 + 1) = 1150531 := rfl
    rw [e1, e2, e3, e4, e5]
    unfold rdMax lgw
    rw [if_pos (show N ≤ 1 ∨ M ≤ 1 by omega), if_pos (show N ≤ 1 ∨ M ≤ 1 by omega)]
    omega
theorem zbT_le {t : Nat} : zbT t ≤ 1150530 := by
  match t with
  | 0 => decide
  | 1 => decide
  | t + 2 => exact Nat.le_refl _
theorem lT_mono (K : Nat) {t : Nat} (h : t ≤ 3) : lT K t ≤ lT K 3 := by
  have e : ∀ t, lT K t ≤ lT K (t + 1) := fun t => Nat.le_add_right _ _
  have h1 : lT K 0 ≤ lT K 1 := e 0
  have h2 : lT K 1 ≤ lT K 2 := e 1
  have h3 : lT K 2 ≤ lT K 3 := e 2
  match t with
  | 0 => omega
  | 1 => omega
  | 2 => omega
  | 3 => omega
  | t + 4 => omega
theorem lT_3 {K : Nat} (hK : K = 17978) : lT K 3 = 122178343281 := by
  subst hK; rfl
structure StI (r c K t : Nat) (D : Nat → Int) (A0 : Mx) (s : SW) : Prop where
  iv : IV r c t (pbT t) (zbT t) K (lT K t) D A0 0 s
  pos : ∀ i, i < t → 0 < D i
  bd : ∀ i, i < t → (D i).natAbs < WB ^ K
  ch : ∀ i, i + 1 < t → D i ∣ D (i + 1)
structure Fin (r c K : Nat) (A : Mx) : Prop where
  off : ∀ i j, i ≠ j → A i j = 0
  out : ∀ i j, r ≤ i ∨ c ≤ j → A i j = 0
  nn : ∀ i, 0 ≤ A i i
  ch : ∀ i, A i i ∣ A (i + 1) (i + 1)
  bd : ∀ i, (A i i).natAbs < WB ^ K
def smS (r c : Nat) : Nat → Nat → SW → SW
  | 0, _, s => s
  | n + 1, t, s => match plS r c t (rdMax (r - t) (c - t) (pbT t) + 1) s with
    | some (true, s') => smS r c n (t + 1) s'
    | some (false, s') => s'
    | none => s
section
variable {r c K t : Nat} {D : Nat → Int} {A0 : Mx} {s : SW}
theorem StI.stg (h : StI r c K t D A0 s) (ht : t < r) (htc : t < c) (hr : r ≤ 3) (hc : c ≤ 4) (hK : K = 17978) : Stg r c t (pbT t) (zbT t) K D :=
  ⟨ht, htc, hr, hc, by
    have h1 := (rd_le (N := r - t) (M := c - t) (show t < 3 by omega) (by omega)).2.1
    have h2 := zbT_le (t := t + 1)
    omega, h.bd⟩
theorem StI.aft (h : StI r c K t D A0 s) (ht : t < r) (htc : t < c) (hr : r ≤ 3) (hc : c ≤ 4) (hK : K = 17978) : ∃ res, plS r c t (rdMax (r - t) (c - t) (pbT t) + 1) s = some res ∧ Aft r c t (pbT t) (zbT t) K (lT K t) D A0 res :=
  IV.ends (h.stg ht htc hr hc hK) _ 0 s h.iv (by omega)
theorem StI.lBd_le (ht : t < r) (hr : r ≤ 3) : lBd r c t (pbT t) K (lT K t) ≤ lT K (t + 1) := by
  have h1 := (rd_le (N := r - t) (M := c - t) (show t < 3 by omega) (by omega)).1
  exact Nat.add_le_add_left (Nat.mul_le_mul_right _ (Nat.succ_le_succ h1)) _
theorem StI.next (h : StI r c K t D A0 s) (ht : t < r) (htc : t < c) (hr : r ≤ 3) (hc : c ≤ 4) (hK : K = 17978) {s' : SW} (ha : Aft r c t (pbT t) (zbT t) K (lT K t) D A0 (true, s')) : ∃ D', StI r c K (t + 1) D' A0 s' := by
  obtain ⟨p, p0, p1, p2⟩ := ha.ye rfl
  obtain ⟨g1, g2, g3⟩ := rd_le (N := r - t) (M := c - t) (show t < 3 by omega) (by omega)
  have hl := StI.lBd_le (K := K) (c := c) ht hr
  have hpt : s'.a t t = p := by
    have := p2.dia t (Nat.lt_succ_self t)
    dsimp only at this
    rw [if_pos rfl] at this; exact this
  refine ⟨_, ⟨p2, ha.eqv, ?_, fun x y hx hy => upz_lt (ha.u x y hx hy) ?_, fun x y hx hy => upz_lt (ha.v x y hx hy) ?_, .inl ⟨rfl, fun i j => ?_⟩⟩, fun i hi => ?_, fun i hi => ?_, fun i hi => ?_⟩
  · rw [Nat.mul_zero, Nat.add_zero]
    exact ha.sz.mono (Nat.pow_le_pow_right (by decide) g2)
  · rw [Nat.zero_mul, Nat.add_zero]; exact hl
  · rw [Nat.zero_mul, Nat.add_zero]; exact hl
  · exact Nat.lt_of_le_of_lt (Nat.le_trans (ha.sz.b1 i j) (Nat.pow_le_pow_right (by decide) g2)) (Nat.pow_lt_pow_right (by decide) g3)
  · by_cases e : i = t
    · rw [if_pos e]; exact p0
    · rw [if_neg e]; exact h.pos i (by omega)
  · by_cases e : i = t
    · rw [if_pos e]; exact p1
    · rw [if_neg e]; exact h.bd i (by omega)
  · rw [if_neg (show ¬ i = t by omega)]
    by_cases e : i + 1 = t
    · rw [if_pos e, ← hpt]
      exact ha.bs.dv i (by omega) t t (Nat.le_refl t) (Nat.le_refl t)
    · rw [if_neg e]; exact h.ch i (by omega)
theorem fin_of {A : Mx} (hb : Bs r c t D A) (pos : ∀ i, i < t → 0 < D i) (bd : ∀ i, i < t → (D i).natAbs < WB ^ K) (ch : ∀ i, i + 1 < t → D i ∣ D (i + 1)) (hz : ∀ x y, t ≤ x → t ≤ y → A x y = 0) : Fin r c K A := by
  refine ⟨fun i j hne => ?_, hb.out, fun i => ?_, fun i => ?_, fun i => ?_⟩
  · by_cases h : i < t ∨ j < t
    · exact hb.top i j hne h
    · exact hz i j (by omega) (by omega)
  · by_cases h : i < t
    · rw [hb.dia i h]; exact Int.le_of_lt (pos i h)
    · rw [hz i i (by omega) (by omega)]; exact Int.le_refl 0
  · by_cases h : i + 1 < t
    · rw [hb.dia i (by omega), hb.dia (i + 1) h]; exact ch i h
    · rw [hz (i + 1) (i + 1) (by omega) (by omega)]; exact Int.dvd_zero _
  · by_cases h : i < t
    · rw [hb.dia i h]; exact bd i h
    · rw [hz i i (by omega) (by omega)]; exact Nat.pow_pos WB_pos
theorem StI.fin (hr : r ≤ 3) (hc : c ≤ 4) (hK : K = 17978) : ∀ (n t : Nat) (D : Nat → Int) (s : SW), StI r c K t D A0 s → n + t = min r c → Fin r c K (smS r c n t s).a ∧ Eqv A0 (smS r c n t s).a
  | 0, t, D, s, h, ht => by
    refine ⟨fin_of h.iv.bs h.pos h.bd h.ch fun x y hx hy => h.iv.bs.out x y ?_, h.iv.eqv⟩
    omega
  | n + 1, t, D, s, h, ht => by
    have h1 : t < r := by omega
    have h2 : t < c := by omega
    obtain ⟨⟨b, s'⟩, hp, ha⟩ := h.aft h1 h2 hr hc hK
    cases b with
    | true =>
      obtain ⟨D', h'⟩ := h.next h1 h2 hr hc hK ha
      have e : smS r c (n + 1) t s = smS r c n (t + 1) s' := by
        conv => lhs; unfold smS
        rw [hp]
      rw [e]
      exact StI.fin hr hc hK n (t + 1) D' s' h' (by omega)
    | false =>
      have e : smS r c (n + 1) t s = s' := by
        conv => lhs; unfold smS
        rw [hp]
      rw [e]
      exact ⟨fin_of ha.bs h.pos h.bd h.ch (ha.no rfl), ha.eqv⟩
end
theorem mi_le {A : Mx} (h : ∀ i j, (A i j).natAbs < 2 ^ 64) (i k j l : Nat) : (mi A i k j l).natAbs ≤ 2 * (2 ^ 64 * 2 ^ 64) := by
  unfold mi
  have a := na_mul (Nat.le_of_lt (h i j)) (Nat.le_of_lt (h k l))
  have b := na_mul (Nat.le_of_lt (h i l)) (Nat.le_of_lt (h k j))
  omega
theorem sz_0 {A : Mx} (h : ∀ i j, (A i j).natAbs < 2 ^ 64) : Sz (2 ^ 195) A := by
  refine ⟨fun i j => ?_, fun i k j l => ?_, fun i k g j l m => ?_⟩
  · exact Nat.le_trans (Nat.le_of_lt (h i j)) (by decide)
  · exact Nat.le_trans (mi_le h i k j l) (by decide)
  · rw [de_mi]
    have a := na_mul (Nat.le_of_lt (h i j)) (mi_le h k g l m)
    have b := na_mul (Nat.le_of_lt (h i l)) (mi_le h k g j m)
    have c := na_mul (Nat.le_of_lt (h i m)) (mi_le h k g j l)
    have e : 3 * (2 ^ 64 * (2 * (2 ^ 64 * 2 ^ 64))) ≤ 2 ^ 195 := by decide
    omega
theorem StI.start {r c K : Nat} {A0 : Mx} (h0 : ∀ i j, r ≤ i ∨ c ≤ j → A0 i j = 0) (hb : ∀ i j, (A0 i j).natAbs < 2 ^ 64) : StI r c K 0 (fun _ => 0) A0 ⟨A0, idS, idS⟩ := by
  have es : sub A0 0 = A0 := by
    funext i j
    show A0 (0 + i) (0 + j) = A0 i j
    rw [Nat.zero_add, Nat.zero_add]
  have el : lT K 0 + 0 * (2 * K + 4) = 1 := by rw [Nat.zero_mul]; rfl
  refine ⟨⟨⟨h0, fun i j _ h => by omega, fun i h => by omega, fun i h => by omega⟩, Eqv.refl A0, ?_, fun x y _ _ => ?_, fun x y _ _ => ?_, .inl ⟨rfl, fun i j => ?_⟩⟩, fun i h => by omega, fun i h => by omega, fun i h => by omega⟩
  · rw [Nat.mul_zero, Nat.add_zero]
    show Sz (2 ^ 195) (sub A0 0)
    rw [es]; exact sz_0 hb
  · rw [el]; exact idS_lt x y
  · rw [el]; exact idS_lt x y
  · show (sub A0 0 i j).natAbs < 2 ^ 64
    rw [es]; exact hb i j
end Go.Proofs.Ytmfadfkjnfdngaa
set_option linter.unusedVariables false
set_option linter.unusedSimpArgs false
namespace Go.Proofs.Ytmfadfkjnfdngaa
open Go.RowKit QM SX SNW
attribute [local irreducible] IntKind.wrap Go1 Reg WP thenK inBlk retQ retF RetF RetOK ResOK CallOK OpOK Sat
attribute [local irreducible] adK ngK zrK RL isign icmp zfq zfr zexok zexq wkS odF lsAll flR flC clR clU clC clV smS plS pbT zbT rT lT rdMax
abbrev smF (r c : Nat) (A : Nat → Nat → Int) : SW := smS r c (min r c) 0 ⟨A, idS, idS⟩
theorem con_sStep {r c K t : Nat} {D : Nat → Int} {A0 : Mx} {s : SW} {res : Bool × SW} (h : StI r c K t D A0 s) (ht : t < r) (htc : t < c) (hr : r ≤ 3) (hc : c ≤ 4) (hK : K = 17978) (hp : plS r c t (rdMax (r - t) (c - t) (pbT t) + 1) s = some res) :
    CallOK Try.prog 18 [.ptr 81 0, .v (.int .i64 (t : Int))] [(81, .abs (swE r c s))] ⟨.v (.bool res.1), [(81, .ent (.abs (swE r c res.2)))]⟩ := by
  have S := h.stg ht htc hr hc hK
  have l1 := StI.lBd_le (K := K) (c := c) ht hr
  have l2 := lT_mono K (show t + 1 ≤ 3 by omega)
  have l3 := lT_3 hK
  exact con_sPlace (L := lBd r c t (pbT t) K (lT K t)) ht htc (by omega) (by omega) (fun s => ∃ n, IV r c t (pbT t) (zbT t) K (lT K t) D A0 n s) (fun s ⟨n, hn⟩ => (hn.ok S).imp (fun s' h' => ⟨n + 1, h'⟩) (Nat.le_refl _)) (by omega) (by omega) _ s res ⟨0, h.iv⟩ hp
set_option maxRecDepth 20000 in
set_option maxHeartbeats 1000000 in
theorem con_Smith {r c K : Nat} {x : Rep} {A0 : Nat → Nat → Int} (hr : r ≤ 3) (hc : c ≤ 4) (hK : K = 17978) (hF : PureOK Try.prog 16 [.agg (matR r c x)] (.v (.bool true)))
    (hA : ∀ i k, i < r → k < c → PureOK Try.prog 10 [.agg (matR r c x), .v (.int .i64 (i : Int)), .v (.int .i64 (k : Int))] (.agg (zN (A0 i k)))) (h0 : ∀ i j, r ≤ i ∨ c ≤ j → A0 i j = 0) (hb : ∀ i j, (A0 i j).natAbs < 2 ^ 64) :
    PureOK Try.prog 7 [.agg (matR r c x)] (.tup [.agg (matN r c (tabZ c (smF r c A0).a r)), .agg (matN r r (tabZ r (smF r c A0).u r)), .agg (matN c c (tabZ c (smF r c A0).v c)), eNo 0]) := by
  have cb := con_sBegun r c x A0 (by omega) (by omega) hA
  have hs0 := StI.start (K := K) h0 hb
  unfold smF
  generalize hS : smS r c (min r c) 0 ⟨A0, idS, idS⟩ = S
  have m1 := con_sMatrix (A := S.a) (show r ≤ 64 by omega) (show c ≤ 64 by omega)
  have m2 := con_sMatrix (A := S.u) (show r ≤ 64 by omega) (show r ≤ 64 by omega)
  have m3 := con_sMatrix (A := S.v) (show c ≤ 64 by omega) (show c ≤ 64 by omega)
  refine PureOK.fnF Try.func7 Try.results7 Try.ntmps7 rfl rfl rfl (by simp [AV.ids, AV0.ids, Atom.ids]) rfl (fun w0 T B E0 hB => ?_)
  refine SX.goB ?_
  refine callNewA (b := 81) cb rfl rfl rfl rfl ?_
  refine SX.goB ?_
  refine W.loop2 (fun (t : Nat) (s : SW) => t ≤ min r c ∧ (∃ D, StI r c K t D A0 s) ∧ smS r c (min r c - t) t s = S) (fun t s => [(1, .ptr 1 0), (2, .ptr 2 0), (3, .ptr 3 0), (4, .ptr 4 0), (6, .ptr 81 0), (7, .v (.int .i64 (t : Int)))]) (fun t s => [(1, .box 24 (matR r c x)), (2, .box 24 [.c (.val (.int .i64 0)), .c (.val (.int .i64 0)), .c (.val (.slice none 0 0))]), (3, .box 24 [.c (.val (.int .i64 0)), .c (.val (.int .i64 0)), .c (.val (.slice none 0 0))]), (4, .box 24 [.c (.val (.int .i64 0)), .c (.val (.int .i64 0)), .c (.val (.slice none 0 0))]), (81, .abs (swE r c s))]) (fun t s => min r c - t) 0 ⟨A0, idS, idS⟩ ⟨Nat.zero_le _, ⟨_, hs0⟩, hS⟩ (fun t s ⟨ht, ⟨D, hD⟩, hs⟩ => ?_)
    (by
      refine SX.St.le_to [] (by intro b h; cases h) ?_ ?_ rfl
      · repeat (first | exact trivial | refine ⟨⟨_, rfl, SX.AVto.same rfl⟩, ?_⟩)
      · exact ⟨SX.EntTo.same rfl rfl, SX.EntTo.same rfl rfl, SX.EntTo.same rfl rfl, SX.EntTo.same rfl rfl, SX.EntTo.same rfl rfl, trivial⟩)
  by_cases h : t < min r c
  · have h1 : t < r := by omega
    have h2 : t < c := by omega
    obtain ⟨⟨b, s'⟩, hp, ha⟩ := hD.aft h1 h2 hr hc hK
    have cP := con_sStep hD h1 h2 hr hc hK hp
    obtain ⟨n, hn⟩ : ∃ n, min r c - t = n + 1 := ⟨min r c - t - 1, by omega⟩
    rw [hn] at hs
    cases b with
    | true =>
      obtain ⟨D', hD'⟩ := hD.next h1 h2 hr hc hK ha
      have e : smS r c (n + 1) t s = smS r c n (t + 1) s' := by
        conv => lhs; unfold smS
        rw [hp]
      rw [e] at hs
      have cP : CallOK Try.prog 18 [.ptr 81 0, .v (.int .i64 (t : Int))] [(81, .abs (swE r c s))] ⟨.v (.bool true), [(81, .ent (.abs (swE r c s')))]⟩ := cP
      refine SX.goB ?_
      exact W.next2 (t + 1) s' ⟨h, ⟨D', hD'⟩, by rw [show min r c - (t + 1) = n by omega]; exact hs⟩ (by omega)
    | false =>
      have e : smS r c (n + 1) t s = s' := by
        conv => lhs; unfold smS
        rw [hp]
      rw [e] at hs
      subst hs
      obtain ⟨b, hb'⟩ : ∃ b : Bool, Hide (b = false) := ⟨_, ⟨rfl⟩⟩
      have cP : CallOK Try.prog 18 [.ptr 81 0, .v (.int .i64 (t : Int))] [(81, .abs (swE r c s))] ⟨.v (.bool b), [(81, .ent (.abs (swE r c s')))]⟩ := by rw [hb'.out]; exact cP
      refine SX.goB ?_
      have hb' := hb'.out
      subst hb'
      refine SX.WP.freezeA 81 _ hB rfl ws_frz ?_
      refine SX.goB ?_
      exact retP (xs := [.agg _, .agg _, .agg _, eNo 0]) ⟨ResOK.agg3 rfl rfl rfl, ResOK.agg3 rfl rfl rfl, ResOK.agg3 rfl rfl rfl, ResOK.tmp rfl, trivial⟩ trivial
  · have ht' : t = min r c := by omega
    rw [ht', Nat.sub_self] at hs
    have e : smS r c 0 (min r c) s = s := by unfold smS; rfl
    rw [e] at hs
    subst hs
    refine SX.WP.freezeA 81 _ hB rfl ws_frz ?_
    refine SX.goB ?_
    exact retP (xs := [.agg _, .agg _, .agg _, eNo 0]) ⟨ResOK.agg3 rfl rfl rfl, ResOK.agg3 rfl rfl rfl, ResOK.agg3 rfl rfl rfl, ResOK.tmp rfl, trivial⟩ trivial
end Go.Proofs.Ytmfadfkjnfdngaa
set_option linter.unusedVariables false
set_option linter.unusedSimpArgs false
namespace Go.Proofs.Ytmfadfkjnfdngaa
open Go.RowKit QM SX SNW
def fcL (A : Nat → Nat → Int) : Nat → List Int
  | 0 => []
  | i + 1 => if A i i = 0 then fcL A i else fcL A i ++ [A i i]
theorem fcL_len {A : Nat → Nat → Int} : ∀ n, (fcL A n).length ≤ n
  | 0 => Nat.le_refl _
  | n + 1 => by
    unfold fcL
    split
    · have := fcL_len (A := A) n; omega
    · have := fcL_len (A := A) n; rw [List.length_append]; simp; omega
theorem Fin.all {r c K : Nat} {A : Mx} (h : Fin r c K A) (i j : Nat) : (A i j).natAbs < WB ^ K := by
  by_cases e : i = j
  · subst e; exact h.bd i
  · rw [h.off i j e]; exact Nat.pow_pos WB_pos
attribute [local irreducible] IntKind.wrap Go1 Reg WP thenK inBlk retQ retF RetF RetOK ResOK CallOK OpOK Sat
attribute [local irreducible] isign smS fcL
theorem con_Factors {r c K : Nat} {x : Rep} {A0 : Nat → Nat → Int} (hr : r ≤ 3) (hc : c ≤ 4) (hK : K = 17978) (hF : PureOK Try.prog 16 [.agg (matR r c x)] (.v (.bool true)))
    (hA : ∀ i k, i < r → k < c → PureOK Try.prog 10 [.agg (matR r c x), .v (.int .i64 (i : Int)), .v (.int .i64 (k : Int))] (.agg (zN (A0 i k)))) (h0 : ∀ i j, r ≤ i ∨ c ≤ j → A0 i j = 0) (hb : ∀ i j, (A0 i j).natAbs < 2 ^ 64) :
    PureOK Try.prog 14 [.agg (matR r c x)] (.tup [.one (.c (.sat (rowR 2 zC (fcL (smF r c A0).a (min r c))))), eNo 0]) := by
  have cS := con_Smith hr hc hK hF hA h0 hb
  have hfin := (StI.fin hr hc hK (min r c) 0 _ _ (StI.start (K := K) h0 hb) (by omega)).1
  unfold smF at *
  generalize smS r c (min r c) 0 ⟨A0, idS, idS⟩ = S at *
  have hD := hfin.all
  refine PureOK.fnF Try.func14 Try.results14 Try.ntmps14 rfl rfl rfl (by simp [AV.ids, AV0.ids, Atom.ids]) rfl (fun w0 T B E0 hB => ?_)
  refine SX.goB ?_
  refine W.loop (fun i => i ≤ min r c) (fun i => [(4, .ptr 4 0), (7, .it (eNo 0)), (8, .own 100), (25, .v (.int .i64 ((min r c : Nat) : Int))), (26, .v (.int .i64 (i : Int)))]) (fun i => [(4, .box 24 (matN r c (tabZ c S.a r))), (100, .row 34 2 (fcL S.a i).length ((fcL S.a i).flatMap zC))]) (fun i => min r c - i) 0 (Nat.zero_le _) (fun i hi => ?_)
    (by
      have e : fcL S.a 0 = [] := by unfold fcL; rfl
      refine SX.St.le_to [(100, none)] (by intro b h; cases h) ?_ ?_ rfl
      · repeat (first | exact trivial | refine ⟨⟨_, rfl, SX.AVto.same rfl⟩, ?_⟩ | refine ⟨⟨_, rfl, SX.AVto.nil rfl⟩, ?_⟩ | refine ⟨⟨_, rfl, SX.AVto.int (by omega)⟩, ?_⟩)
      · exact ⟨SX.EntTo.same rfl rfl, by rw [e]; exact SX.EntTo.nilRow rfl, trivial⟩)
  by_cases h : i < min r c
  · have cA := con_mxAt (r := r) (c := c) (A := S.a) (i := i) (k := i) (by omega) (by omega) (fun i k _ _ => hD i k) (by omega) (by omega) (show K ≤ 1000000 by omega)
    haveI iD : Bd (S.a i i) K := ⟨hD i i⟩
    have hl := fcL_len (A := S.a) i
    by_cases hz : S.a i i = 0
    · have hs : isign (S.a i i) = 0 := isign_ne.2 hz
      have e : fcL S.a (i + 1) = fcL S.a i := by
        conv => lhs; unfold fcL
        rw [if_pos hz]
      refine SX.goB ?_
      refine W.next (i + 1) h (by omega) (by
        refine SX.St.le_to [] (by intro b h; cases h) ?_ ?_ rfl
        · repeat (first | exact trivial | refine ⟨⟨_, rfl, SX.AVto.same rfl⟩, ?_⟩ | refine ⟨⟨_, rfl, SX.AVto.int (by omega)⟩, ?_⟩)
        · exact ⟨SX.EntTo.same rfl rfl, by rw [e]; exact SX.EntTo.same rfl rfl, trivial⟩)
    · have hs : isign (S.a i i) ≠ 0 := fun e => hz (isign_ne.1 e)
      have e : fcL S.a (i + 1) = fcL S.a i ++ [S.a i i] := by
        conv => lhs; unfold fcL
        rw [if_neg hz]
      refine SX.goB ?_
      refine W.next (i + 1) h (by omega) (by
        refine SX.St.le_to [(100, some 39)] (by intro b h; cases h) ?_ ?_ rfl
        · repeat (first | exact trivial | refine ⟨⟨_, rfl, SX.AVto.same rfl⟩, ?_⟩ | refine ⟨⟨_, rfl, SX.AVto.own rfl⟩, ?_⟩ | refine ⟨⟨_, rfl, SX.AVto.int (by omega)⟩, ?_⟩)
        · exact ⟨SX.EntTo.same rfl rfl, SX.EntTo.row rfl rfl (by rw [e, List.length_append]; rfl) (by rw [e, List.flatMap_append]; rfl), trivial⟩)
  · obtain rfl : i = min r c := by omega
    refine SX.goB ?_
    refine RetF.frz 100 ?_
    exact .ok (RetOK.mk2 (ResOK.tmp rfl) (ResOK.tmp rfl))
end Go.Proofs.Ytmfadfkjnfdngaa

import Derived.Test.YtmfadfkjnfdngaaGreatDoorM18
set_option linter.unusedVariables false
set_option linter.unusedSimpArgs false
namespace Go.Proofs.YtmfadfkjnfdngaaGreatDoor
open Go.RowKit QM SX
attribute [local irreducible] IntKind.wrap Go1 Reg WP thenK inBlk retQ retF RetF RetOK ResOK CallOK OpOK Sat
attribute [local irreducible] adK ngK zrK RL isign icmp zfq zfr flR flC clR clU clC clV
set_option maxRecDepth 20000 in
set_option maxHeartbeats 1000000 in
theorem con_sClear {r c t K L : Nat} {A U V : Nat → Nat → Int} (ht : t < r) (htc : t < c) (hr : r ≤ 64) (hc : c ≤ 64) (h0 : A t t ≠ 0) (hA : ∀ x y, x < r → y < c → (A x y).natAbs < WB ^ K) (hU : ∀ x y, x < r → y < r → (U x y).natAbs < WB ^ L) (hV : ∀ x y, x < c → y < c → (V x y).natAbs < WB ^ L) (hK : 5 * K + L ≤ 260000000000) (hL : 2 * L + 3 * K ≤ 269000000000) :
    CallOK Tryz.prog 78 [.ptr 81 0, .v (.int .i64 (t : Int))] [(81, .abs (wkS r c A U V))] ⟨.v (.bool (cF A t r c)), [(81, .ent (.abs (wkS r c (cA A t r c) (clU A U t r) (cV A V t r c))))]⟩ := by
  have hK0 : K ≤ 60000000000 := by omega
  haveI iP : Bd (A t t) K := ⟨hA t t ht htc⟩
  refine CallOK.fnA Tryz.func78 Tryz.results78 Tryz.ntmps78 rfl rfl rfl rfl rfl rfl rfl rfl (fun w0 T B E0 hB => ?_)
  refine ws_open rfl rfl rfl rfl rfl rfl rfl ?_
  refine rl_open 82 rfl fun js cc q => ?_
  have hjl : js.length = r := q.len
  obtain ⟨jt, hjt, ljt, cjt⟩ := q.get ht
  have hjt : js[t]? = some jt := hjt
  have ljt : jt < cc.length := ljt
  have cjt : cc[jt]? = some (zrK A t c) := cjt
  have hwt : (zrK A t c).length = c := zrK_len
  have gt := zrK_at (A := A) (i := t) htc
  refine SX.goB ?_
  refine W.loop (fun n => t + 1 ≤ n ∧ n ≤ r) (fun n => [(0, .ptr 81 0), (1, .v (.int .i64 (t : Int))), (5, .ptr 5 0), (6, .v (.bool (flR A t n))), (7, .v (.int .i64 (n : Int)))]) (fun n => [(81, .box 86 (wsC c)), (82, .abs (RL r c (clR A t n))), (83, .abs (RL r r (clU A U t n))), (84, .abs (RL c c V)), (5, .box 30 (zN (A t t)))]) (fun n => r - n) (t + 1) ⟨Nat.le_refl _, ht⟩ (fun n ⟨hn0, hn⟩ => ?_)
    (by
      refine SX.St.le_to [] (by intro b h; exact SX.fixIs h rfl) ?_ ?_ rfl
      · repeat (first | exact trivial | refine ⟨⟨_, rfl, SX.AVto.same rfl⟩, ?_⟩ | refine ⟨⟨_, rfl, SX.AVto.bool (flR_start _ (Nat.le_refl _)).symm⟩, ?_⟩ | refine ⟨⟨_, rfl, SX.AVto.int (by omega)⟩, ?_⟩)
      · exact ⟨SX.EntTo.same rfl rfl, rl_to rfl (q.congr fun x y _ _ => (clR_0 x y).symm) rfl, SX.EntTo.eq rfl (congrArg Ent.abs (RL_congr fun x y _ _ => (clU_0 x y).symm)) rfl, SX.EntTo.same rfl rfl, SX.EntTo.same rfl rfl, trivial⟩)
  refine rl_open 82 rfl fun js cc q => ?_
  have hjl : js.length = r := q.len
  have hR := clR_lt (n := n) hA ht htc
  have hU1 := clU_lt (n := n) hA hU ht htc
  by_cases h : n < r
  · obtain ⟨jn, hjn, ljn, cjn⟩ := q.get h
    have hjn : js[n]? = some jn := hjn
    have ljn : jn < cc.length := ljn
    have cjn : cc[jn]? = some (zrK (clR A t n) n c) := cjn
    have hwn : (zrK (clR A t n) n c).length = c := zrK_len
    have gn : (zrK (clR A t n) n c)[t]? = some (A n t) := (zrK_at htc).trans (congrArg some (by unfold clR; exact if_neg (by omega)))
    haveI iN : Bd (A n t) K := ⟨hA n t h htc⟩
    have hq := zfq_lt (p := A t t) (hA n t h htc)
    haveI iQ : Bd (zfq (A n t) (A t t)) K := ⟨hq⟩
    haveI iR : Bd (zfr (A n t) (A t t)) K := ⟨by unfold zfr; rw [if_neg h0]; exact Nat.lt_of_le_of_lt (SNW.fmod_abs _ h0) (hA t t ht htc)⟩
    have cA1 := rl_pre (con_addRow (A := clR A t n) (z := -(zfq (A n t) (A t t))) h ht (by omega) (show r ≤ 100 by omega) (show c ≤ 100 by omega) hR (ngz_lt hq) (by omega)) q
    have cU1 := CallOK.relTo (con_addRow (A := clU A U t n) (z := -(zfq (A n t) (A t t))) h ht (by omega) (show r ≤ 100 by omega) (show r ≤ 100 by omega) hU1 (ngz_lt hq) (by omega)) (by intro a ha; simp at ha; rcases ha with rfl | rfl | rfl <;> rfl) 83
    have e1 : RL r c (adF (clR A t n) n t (-(zfq (A n t) (A t t)))) = RL r c (clR A t (n + 1)) := RL_congr fun x y _ _ => clR_next (by omega) x y
    have e2 : RL r r (adF (clU A U t n) n t (-(zfq (A n t) (A t t)))) = RL r r (clU A U t (n + 1)) := RL_congr fun x y _ _ => clU_next (by omega) x y
    have hfl := flR_next (A := A) (show t < n by omega)
    cases hb : flR A t n with
    | true =>
      rw [hb, Bool.true_and] at hfl
      refine SX.goB ?_
      refine W.next (n + 1) ⟨by omega, h⟩ (by omega) (by
        refine SX.St.le_to [] (by intro b h; exact SX.fixIs h rfl) ?_ ?_ rfl
        · repeat (first | exact trivial | refine ⟨⟨_, rfl, SX.AVto.same rfl⟩, ?_⟩ | refine ⟨⟨_, rfl, SX.AVto.bool hfl.symm⟩, ?_⟩ | refine ⟨⟨_, rfl, SX.AVto.int (by omega)⟩, ?_⟩)
        · exact ⟨SX.EntTo.same rfl rfl, SX.EntTo.eq rfl (congrArg Ent.abs e1) rfl, SX.EntTo.eq rfl (congrArg Ent.abs e2) rfl, SX.EntTo.same rfl rfl, SX.EntTo.same rfl rfl, trivial⟩)
    | false =>
      rw [hb, Bool.false_and] at hfl
      refine SX.goB ?_
      refine W.next (n + 1) ⟨by omega, h⟩ (by omega) (by
        refine SX.St.le_to [] (by intro b h; exact SX.fixIs h rfl) ?_ ?_ rfl
        · repeat (first | exact trivial | refine ⟨⟨_, rfl, SX.AVto.same rfl⟩, ?_⟩ | refine ⟨⟨_, rfl, SX.AVto.bool hfl.symm⟩, ?_⟩ | refine ⟨⟨_, rfl, SX.AVto.int (by omega)⟩, ?_⟩)
        · exact ⟨SX.EntTo.same rfl rfl, SX.EntTo.eq rfl (congrArg Ent.abs e1) rfl, SX.EntTo.eq rfl (congrArg Ent.abs e2) rfl, SX.EntTo.same rfl rfl, SX.EntTo.same rfl rfl, trivial⟩)
  · obtain rfl : n = r := by omega
    have hA1 : ∀ x, x < n → (clR A t n x t).natAbs < WB ^ K := clR_col_lt hA h0 ht htc
    have hA2 : ∀ y, y < c → (clR A t n t y).natAbs < WB ^ K := fun y hy => by rw [clR_row]; exact hA t y ht hy
    have hp : clR A t n t t = A t t := clR_row t
    show WP _ _ _ _ _
    generalize hA3 : clR A t n = A1 at *
    generalize hb0 : flR A t n = b0 at *
    refine SX.goB ?_
    refine W.loop (fun m => t + 1 ≤ m ∧ m ≤ c) (fun m => [(0, .ptr 81 0), (1, .v (.int .i64 (t : Int))), (5, .ptr 5 0), (6, .v (.bool (flC A1 t b0 m))), (11, .v (.int .i64 (m : Int)))]) (fun m => [(81, .box 86 (wsC c)), (82, .abs (RL n c (clC A1 t m))), (83, .abs (RL n n (clU A U t n))), (84, .abs (RL c c (clV A1 V t m))), (5, .box 30 (zN (A t t)))]) (fun m => c - m) (t + 1) ⟨Nat.le_refl _, htc⟩ (fun m ⟨hm0, hm⟩ => ?_)
      (by
        refine SX.St.le_to [] (by intro b h; exact SX.fixIs h rfl) ?_ ?_ rfl
        · repeat (first | exact trivial | refine ⟨⟨_, rfl, SX.AVto.same rfl⟩, ?_⟩ | refine ⟨⟨_, rfl, SX.AVto.bool (flC_start _ (Nat.le_refl _)).symm⟩, ?_⟩ | refine ⟨⟨_, rfl, SX.AVto.int (by omega)⟩, ?_⟩)
        · exact ⟨SX.EntTo.same rfl rfl, rl_to rfl (q.congr fun x y _ _ => (clC_0 x y).symm) rfl, SX.EntTo.same rfl rfl, SX.EntTo.eq rfl (congrArg Ent.abs (RL_congr fun x y _ _ => (clV_0 x y).symm)) rfl, SX.EntTo.same rfl rfl, trivial⟩)
    refine rl_open 82 rfl fun js cc q => ?_
    have hjl : js.length = n := q.len
    have hC := clC_lt (n := m) hR hA1 hA2 (by omega)
    have hV1 := clV_lt (n := m) hA2 hV htc
    by_cases h2 : m < c
    · obtain ⟨jt, hjt, ljt, cjt⟩ := q.get ht
      have hjt : js[t]? = some jt := hjt
      have ljt : jt < cc.length := ljt
      have cjt : cc[jt]? = some (zrK (clC A1 t m) t c) := cjt
      have hwt : (zrK (clC A1 t m) t c).length = c := zrK_len
      have gt : (zrK (clC A1 t m) t c)[m]? = some (A1 t m) := (zrK_at h2).trans (congrArg some (by unfold clC; exact if_neg (by omega)))
      haveI iN : Bd (A1 t m) K := ⟨hA2 m h2⟩
      have hq := zfq_lt (p := A t t) (hA2 m h2)
      haveI iQ : Bd (zfq (A1 t m) (A t t)) K := ⟨hq⟩
      haveI iR : Bd (zfr (A1 t m) (A t t)) K := ⟨by unfold zfr; rw [if_neg h0]; exact Nat.lt_of_le_of_lt (SNW.fmod_abs _ h0) (hA t t ht htc)⟩
      have cA1 := rl_pre (con_addCol (A := clC A1 t m) (z := -(zfq (A1 t m) (A t t))) h2 htc (show n ≤ 100 by omega) (show c ≤ 100 by omega) hC (ngz_lt hq) (by omega)) q
      have cV1 := CallOK.relTo (con_addCol (A := clV A1 V t m) (z := -(zfq (A1 t m) (A t t))) h2 htc (show c ≤ 100 by omega) (show c ≤ 100 by omega) hV1 (ngz_lt hq) (by omega)) (by intro a ha; simp at ha; rcases ha with rfl | rfl | rfl <;> rfl) 84
      have e1 : RL n c (acF (clC A1 t m) m t (-(zfq (A1 t m) (A t t)))) = RL n c (clC A1 t (m + 1)) := RL_congr fun x y _ _ => by have := clC_next (A := A1) (show t < m by omega) x y; rw [hp] at this; exact this
      have e2 : RL c c (acF (clV A1 V t m) m t (-(zfq (A1 t m) (A t t)))) = RL c c (clV A1 V t (m + 1)) := RL_congr fun x y _ _ => by have := clV_next (A := A1) (V := V) (show t < m by omega) x y; rw [hp] at this; exact this
      have hfl := flC_next (A := A1) (b := b0) (show t < m by omega)
      rw [hp] at hfl
      cases hb : flC A1 t b0 m with
      | true =>
        rw [hb, Bool.true_and] at hfl
        refine SX.goB ?_
        refine W.next (m + 1) ⟨by omega, h2⟩ (by omega) (by
          refine SX.St.le_to [] (by intro b h; exact SX.fixIs h rfl) ?_ ?_ rfl
          · repeat (first | exact trivial | refine ⟨⟨_, rfl, SX.AVto.same rfl⟩, ?_⟩ | refine ⟨⟨_, rfl, SX.AVto.bool hfl.symm⟩, ?_⟩ | refine ⟨⟨_, rfl, SX.AVto.int (by omega)⟩, ?_⟩)
          · exact ⟨SX.EntTo.same rfl rfl, SX.EntTo.eq rfl (congrArg Ent.abs e1) rfl, SX.EntTo.same rfl rfl, SX.EntTo.eq rfl (congrArg Ent.abs e2) rfl, SX.EntTo.same rfl rfl, trivial⟩)
      | false =>
        rw [hb, Bool.false_and] at hfl
        refine SX.goB ?_
        refine W.next (m + 1) ⟨by omega, h2⟩ (by omega) (by
          refine SX.St.le_to [] (by intro b h; exact SX.fixIs h rfl) ?_ ?_ rfl
          · repeat (first | exact trivial | refine ⟨⟨_, rfl, SX.AVto.same rfl⟩, ?_⟩ | refine ⟨⟨_, rfl, SX.AVto.bool hfl.symm⟩, ?_⟩ | refine ⟨⟨_, rfl, SX.AVto.int (by omega)⟩, ?_⟩)
          · exact ⟨SX.EntTo.same rfl rfl, SX.EntTo.eq rfl (congrArg Ent.abs e1) rfl, SX.EntTo.same rfl rfl, SX.EntTo.eq rfl (congrArg Ent.abs e2) rfl, SX.EntTo.same rfl rfl, trivial⟩)
    · obtain rfl : m = c := by omega
      subst hA3 hb0
      refine SX.goB ?_
      refine RetF.le (ws_close [] [82, 83, 84] rfl ⟨AtomTo.same rfl, AtomTo.same rfl, AtomTo.same rfl, AtomTo.same rfl, trivial⟩ ⟨rl_to rfl q rfl, SX.EntTo.same rfl rfl, SX.EntTo.same rfl rfl, trivial⟩ rfl rfl rfl) ?_
      exact retP (xs := [.one (.c (.val (.bool _)))]) ⟨ResOK.tmp rfl, trivial⟩ ⟨rfl, trivial⟩
end Go.Proofs.YtmfadfkjnfdngaaGreatDoor
set_option linter.unusedVariables false
set_option linter.unusedSimpArgs false
namespace Go.Proofs.YtmfadfkjnfdngaaGreatDoor
open Go.RowKit QM SX
def odI (A : Nat → Nat → Int) (t c i : Nat) : Bool := (List.range c).any fun k => decide (t < k) && !(zexok (A i k) (A t t))
def odG (A : Nat → Nat → Int) (t c : Nat) : Nat → Nat → Nat
  | 0, i => i
  | n + 1, i => if odI A t c i then i else odG A t c n (i + 1)
def odF (A : Nat → Nat → Int) (t r c : Nat) : Nat := odG A t c (r - (t + 1)) (t + 1)
section
variable {A : Nat → Nat → Int} {t c : Nat}
theorem odG_spec : ∀ n i, i ≤ odG A t c n i ∧ odG A t c n i ≤ i + n ∧ (∀ j, i ≤ j → j < odG A t c n i → odI A t c j = false) ∧ (odG A t c n i < i + n → odI A t c (odG A t c n i) = true)
  | 0, i => ⟨Nat.le_refl _, Nat.le_refl _, fun j h1 h2 => by unfold odG at h2; omega, fun h => by unfold odG at h; omega⟩
  | n + 1, i => by
    obtain ⟨h1, h2, h3, h4⟩ := odG_spec n (i + 1)
    cases hb : odI A t c i with
    | true =>
      have e : odG A t c (n + 1) i = i := if_pos hb
      rw [e]
      exact ⟨Nat.le_refl _, by omega, fun j g1 g2 => by omega, fun _ => hb⟩
    | false =>
      have e : odG A t c (n + 1) i = odG A t c n (i + 1) := if_neg (by rw [hb]; decide)
      rw [e]
      refine ⟨by omega, by omega, fun j g1 g2 => ?_, fun g => h4 (by omega)⟩
      by_cases hj : j = i
      · rw [hj]; exact hb
      · exact h3 j (by omega) g2
theorem odF_spec {r : Nat} (ht : t < r) : t + 1 ≤ odF A t r c ∧ odF A t r c ≤ r ∧ (∀ j, t + 1 ≤ j → j < odF A t r c → odI A t c j = false) ∧ (odF A t r c < r → odI A t c (odF A t r c) = true) := by
  obtain ⟨h1, h2, h3, h4⟩ := odG_spec (A := A) (t := t) (c := c) (r - (t + 1)) (t + 1)
  exact ⟨h1, by unfold odF; omega, h3, fun h => h4 (by unfold odF at h; omega)⟩
theorem odI_f {i : Nat} (h : odI A t c i = false) : ∀ k, t < k → k < c → zexok (A i k) (A t t) = true := fun k h1 h2 => by
  have := List.any_eq_false.1 h k (List.mem_range.2 h2)
  rw [decide_eq_true h1, Bool.true_and] at this
  cases hz : zexok (A i k) (A t t) with
  | true => rfl
  | false => rw [hz] at this; exact absurd rfl this
theorem first_nat {p : Nat → Prop} : ∀ n, p n → ∃ k, p k ∧ ∀ j, j < k → ¬ p j := by
  intro n
  induction n using Nat.strongRecOn with
  | ind n ih =>
    intro h
    by_cases hx : ∃ m, m < n ∧ p m
    · obtain ⟨m, h1, h2⟩ := hx
      exact ih m h1 h2
    · exact ⟨n, h, fun j hj hp => hx ⟨j, hj, hp⟩⟩
theorem odI_t {i : Nat} (h : odI A t c i = true) : ∃ k, t < k ∧ k < c ∧ zexok (A i k) (A t t) = false ∧ ∀ j, t < j → j < k → zexok (A i j) (A t t) = true := by
  obtain ⟨k, hk, hz⟩ := List.any_eq_true.1 h
  rw [Bool.and_eq_true, decide_eq_true_iff, Bool.not_eq_true'] at hz
  obtain ⟨k0, ⟨g1, g2, g3⟩, g4⟩ := first_nat (p := fun k => t < k ∧ k < c ∧ zexok (A i k) (A t t) = false) k ⟨hz.1, List.mem_range.1 hk, hz.2⟩
  refine ⟨k0, g1, g2, g3, fun j h1 h2 => ?_⟩
  cases hb : zexok (A i j) (A t t) with
  | true => rfl
  | false => exact absurd ⟨h1, by omega, hb⟩ (g4 j h2)
end
def odR (i r : Nat) : Int := if i < r then (i : Int) else -1
attribute [local irreducible] IntKind.wrap Go1 Reg WP thenK inBlk retQ retF RetF RetOK ResOK CallOK OpOK Sat
attribute [local irreducible] adK ngK zrK RL isign icmp zfq zfr zexok zexq
set_option maxRecDepth 20000 in
theorem con_sOdd {r c t K : Nat} {A U V : Nat → Nat → Int} (ht : t < r) (htc : t < c) (hr : r ≤ 64) (hc : c ≤ 64) (hA : ∀ x y, x < r → y < c → (A x y).natAbs < WB ^ K) (hK : K ≤ 200000000000) :
    CallOK Tryz.prog 79 [.ptr 81 0, .v (.int .i64 (t : Int))] [(81, .abs (wkS r c A U V))] ⟨.v (.int .i64 (odR (odF A t r c) r)), [(81, .ent (.abs (wkS r c A U V)))]⟩ := by
  obtain ⟨o1, o2, o3, o4⟩ := odF_spec (A := A) (c := c) ht
  generalize odF A t r c = i0 at *
  haveI iP : Bd (A t t) K := ⟨hA t t ht htc⟩
  refine CallOK.fnA Tryz.func79 Tryz.results79 Tryz.ntmps79 rfl rfl rfl rfl rfl rfl rfl rfl (fun w0 T B E0 hB => ?_)
  refine ws_open rfl rfl rfl rfl rfl rfl rfl ?_
  refine rl_open 82 rfl fun js cc q => ?_
  have hjl : js.length = r := q.len
  obtain ⟨jt, hjt, ljt, cjt⟩ := q.get ht
  have hjt : js[t]? = some jt := hjt
  have ljt : jt < cc.length := ljt
  have cjt : cc[jt]? = some (zrK A t c) := cjt
  have hwt : (zrK A t c).length = c := zrK_len
  have gt := zrK_at (A := A) (i := t) htc
  refine SX.goB ?_
  refine W.loop (fun i => t + 1 ≤ i ∧ i ≤ i0) (fun i => [(0, .ptr 81 0), (1, .v (.int .i64 (t : Int))), (5, .v (.int .i64 (i : Int)))]) (fun i => [(81, .box 86 (wsC c)), (82, .abs (RowsB js cc)), (83, .abs (RL r r U)), (84, .abs (RL c c V))]) (fun i => r - i) (t + 1) ⟨Nat.le_refl _, o1⟩ (fun i ⟨hi0, hi⟩ => ?_)
    (by
      refine SX.St.le_to [] (by intro b h; exact SX.fixIs h rfl) ?_ ?_ rfl
      · repeat (first | exact trivial | refine ⟨⟨_, rfl, SX.AVto.same rfl⟩, ?_⟩ | refine ⟨⟨_, rfl, SX.AVto.int (by omega)⟩, ?_⟩)
      · exact ⟨SX.EntTo.same rfl rfl, SX.EntTo.same rfl rfl, SX.EntTo.same rfl rfl, SX.EntTo.same rfl rfl, trivial⟩)
  by_cases h : i < r
  · obtain ⟨ji, hji, lji, cji⟩ := q.get h
    have hji : js[i]? = some ji := hji
    have lji : ji < cc.length := lji
    have cji : cc[ji]? = some (zrK A i c) := cji
    have hwi : (zrK A i c).length = c := zrK_len
    obtain ⟨k0, hkt, hk0, hka, hkb, hex⟩ : ∃ k0, t < k0 ∧ k0 ≤ c ∧ (k0 < c → i = i0) ∧ (i = i0 → k0 < c) ∧ ∀ k, t < k → k < c → (k < k0 → zexok (A i k) (A t t) = true) ∧ (k = k0 → zexok (A i k) (A t t) = false) := by
      by_cases e : i = i0
      · obtain ⟨k0, g1, g2, g3, g4⟩ := odI_t (o4 (by omega))
        exact ⟨k0, g1, by omega, fun _ => e, fun _ => g2, fun k h1 h2 => ⟨fun h => e ▸ g4 k h1 h, fun h => by rw [h, e]; exact g3⟩⟩
      · have g := odI_f (o3 i hi0 (by omega))
        exact ⟨c, htc, Nat.le_refl _, fun h => by omega, fun h => absurd h e, fun k h1 h2 => ⟨fun _ => g k h1 h2, fun h => by omega⟩⟩
    refine SX.goB ?_
    refine W.loop (fun k => t + 1 ≤ k ∧ k ≤ c ∧ k ≤ k0) (fun k => [(0, .ptr 81 0), (1, .v (.int .i64 (t : Int))), (5, .v (.int .i64 (i : Int))), (6, .v (.int .i64 (k : Int)))]) (fun k => [(81, .box 86 (wsC c)), (82, .abs (RowsB js cc)), (83, .abs (RL r r U)), (84, .abs (RL c c V))]) (fun k => c - k) (t + 1) ⟨Nat.le_refl _, htc, hkt⟩ (fun k ⟨hk1, hk, hk2⟩ => ?_)
      (by
        refine SX.St.le_to [] (by intro b h; exact SX.fixIs h rfl) ?_ ?_ rfl
        · repeat (first | exact trivial | refine ⟨⟨_, rfl, SX.AVto.same rfl⟩, ?_⟩ | refine ⟨⟨_, rfl, SX.AVto.int (by omega)⟩, ?_⟩)
        · exact ⟨SX.EntTo.same rfl rfl, SX.EntTo.same rfl rfl, SX.EntTo.same rfl rfl, SX.EntTo.same rfl rfl, trivial⟩)
    by_cases h2 : k < c
    · obtain ⟨x1, x2⟩ := hex k (by omega) h2
      have gi := zrK_at (A := A) (i := i) h2
      haveI iX : Bd (A i k) K := ⟨hA i k h h2⟩
      by_cases e : k = k0
      · have hk : zexok (A i k) (A t t) = false := x2 e
        have hk' : (!zexok (A i k) (A t t)) = true := by rw [hk]; rfl
        have hii : i = i0 := hka (by omega)
        refine SX.goB ?_
        refine RetF.le (ws_close [] [82, 83, 84] rfl ⟨AtomTo.same rfl, AtomTo.same rfl, AtomTo.same rfl, AtomTo.same rfl, trivial⟩ ⟨rl_to rfl q rfl, SX.EntTo.same rfl rfl, SX.EntTo.same rfl rfl, trivial⟩ rfl rfl rfl) ?_
        have er : odR i0 r = (i : Int) := by unfold odR; rw [if_pos (by omega), hii]
        rw [er]
        exact retP (xs := [.one (.c (.val (.int .i64 (i : Int))))]) ⟨ResOK.tmp rfl, trivial⟩ ⟨rfl, trivial⟩
      · have hk : zexok (A i k) (A t t) = true := x1 (by omega)
        have hk' : (!zexok (A i k) (A t t)) = false := by rw [hk]; rfl
        refine SX.goB ?_
        exact W.next (k + 1) ⟨by omega, h2, by omega⟩ (by omega)
    · have hne : i ≠ i0 := fun e => by
        have := hkb e
        omega
      refine SX.goB ?_
      exact W.next (i + 1) ⟨by omega, by omega⟩ (by omega)
  · have hir : i = r := by omega
    refine SX.goB ?_
    refine RetF.le (ws_close [] [82, 83, 84] rfl ⟨AtomTo.same rfl, AtomTo.same rfl, AtomTo.same rfl, AtomTo.same rfl, trivial⟩ ⟨rl_to rfl q rfl, SX.EntTo.same rfl rfl, SX.EntTo.same rfl rfl, trivial⟩ rfl rfl rfl) ?_
    have er : odR i0 r = -1 := by unfold odR; rw [if_neg (by omega)]
    rw [er]
    exact retP (xs := [.one (.c (.val (.int .i64 (-1))))]) ⟨ResOK.tmp rfl, trivial⟩ ⟨rfl, trivial⟩
end Go.Proofs.YtmfadfkjnfdngaaGreatDoor
set_option linter.unusedVariables false
set_option linter.unusedSimpArgs false
namespace Go.Proofs.YtmfadfkjnfdngaaGreatDoor
open Go.RowKit QM SX
structure SW where
  a : Nat → Nat → Int
  u : Nat → Nat → Int
  v : Nat → Nat → Int
abbrev swE (r c : Nat) (s : SW) : AEnt := wkS r c s.a s.u s.v
def sw1 (t : Nat) (q : Nat × Nat) (s : SW) : SW := ⟨swF (srF s.a t q.1) t q.2, srF s.u t q.1, swF s.v t q.2⟩
def sw2 (r c t : Nat) (s : SW) : SW := ⟨cA s.a t r c, clU s.a s.u t r, cV s.a s.v t r c⟩
def sw3 (t i : Nat) (s : SW) : SW := ⟨adF s.a t i 1, adF s.u t i 1, s.v⟩
def sw4 (t : Nat) (s : SW) : SW := if s.a t t < 0 then ⟨ngF s.a t, ngF s.u t, s.v⟩ else s
def plS (r c t : Nat) : Nat → SW → Option (Bool × SW)
  | 0, _ => none
  | n + 1, s => match lsAll s.a t (c - t) (r - t) with
    | none => some (false, s)
    | some q => if cF (sw1 t q s).a t r c then (if odF (sw2 r c t (sw1 t q s)).a t r c < r then plS r c t n (sw2 r c t (sw3 t (odF (sw2 r c t (sw1 t q s)).a t r c) (sw2 r c t (sw1 t q s)))) else some (true, sw4 t (sw2 r c t (sw1 t q s)))) else plS r c t n (sw2 r c t (sw1 t q s))
structure Gd (r c K L : Nat) (s : SW) : Prop where
  a : ∀ x y, x < r → y < c → (s.a x y).natAbs < WB ^ K
  u : ∀ x y, x < r → y < r → (s.u x y).natAbs < WB ^ L
  v : ∀ x y, x < c → y < c → (s.v x y).natAbs < WB ^ L
structure PlOK (r c t K L : Nat) (s : SW) (next : SW → Prop) : Prop where
  g : Gd r c K L s
  n : ∀ q, lsAll s.a t (c - t) (r - t) = some q → (sw1 t q s).a t t ≠ 0 ∧ Gd r c K L (sw2 r c t (sw1 t q s)) ∧ (cF (sw1 t q s).a t r c = false → next (sw2 r c t (sw1 t q s)))
    ∧ (cF (sw1 t q s).a t r c = true → odF (sw2 r c t (sw1 t q s)).a t r c < r → (sw3 t (odF (sw2 r c t (sw1 t q s)).a t r c) (sw2 r c t (sw1 t q s))).a t t ≠ 0 ∧ next (sw2 r c t (sw3 t (odF (sw2 r c t (sw1 t q s)).a t r c) (sw2 r c t (sw1 t q s)))))
theorem srF_lt {r w t i M : Nat} {A : Nat → Nat → Int} (hA : ∀ x y, x < r → y < w → (A x y).natAbs < M) (ht : t < r) (hi : i < r) (x y : Nat) (hx : x < r) (hy : y < w) : (srF A t i x y).natAbs < M := by
  unfold srF
  refine hA _ _ ?_ hy
  split
  · exact ht
  · split
    · exact hi
    · exact hx
theorem swF_lt {r w t i M : Nat} {A : Nat → Nat → Int} (hA : ∀ x y, x < r → y < w → (A x y).natAbs < M) (ht : t < w) (hi : i < w) (x y : Nat) (hx : x < r) (hy : y < w) : (swF A t i x y).natAbs < M := by
  unfold swF
  refine hA _ _ hx ?_
  split
  · exact ht
  · split
    · exact hi
    · exact hy
theorem Gd.s1 {r c t K L : Nat} {s : SW} {q : Nat × Nat} (g : Gd r c K L s) (ht : t < r) (htc : t < c) (h1 : q.1 < r) (h2 : q.2 < c) : Gd r c K L (sw1 t q s) :=
  ⟨swF_lt (srF_lt g.a ht h1) htc h2, srF_lt g.u ht h1, swF_lt g.v htc h2⟩
theorem adF_lt {r w t i K : Nat} {A : Nat → Nat → Int} (hA : ∀ x y, x < r → y < w → (A x y).natAbs < WB ^ K) (ht : t < r) (hi : i < r) (x y : Nat) (hx : x < r) (hy : y < w) : (adF A t i 1 x y).natAbs < WB ^ (K + 1) := by
  unfold adF
  split
  · rw [Int.one_mul]; exact addz_lt (hA t y ht hy) (hA i y hi hy)
  · exact upz_lt (hA x y hx hy) (by omega)
theorem Gd.s3 {r c t i K L : Nat} {s : SW} (g : Gd r c K L s) (ht : t < r) (hi : i < r) : Gd r c (K + 1) (L + 1) (sw3 t i s) :=
  ⟨adF_lt g.a ht hi, adF_lt g.u ht hi, fun x y hx hy => upz_lt (g.v x y hx hy) (by omega)⟩
theorem lsAll_in {A : Nat → Nat → Int} {r c t : Nat} {q : Nat × Nat} (ht : t < r) (htc : t < c) (h : lsAll A t (c - t) (r - t) = some q) : q.1 < r ∧ q.2 < c := by
  obtain ⟨h1, _⟩ := (lsAll_ok (A := A) (show t + (c - t) = c by omega) (r - t)).so q h
  omega
attribute [local irreducible] IntKind.wrap Go1 Reg WP thenK inBlk retQ retF RetF RetOK ResOK CallOK OpOK Sat
attribute [local irreducible] adK ngK zrK RL isign icmp zfq zfr zexok zexq wkS odF lsAll flR flC clR clU clC clV sw2 sw3 sw4
set_option maxRecDepth 20000 in
set_option maxHeartbeats 1000000 in
theorem con_sPlace {r c t K L : Nat} (ht : t < r) (htc : t < c) (hr : r ≤ 64) (hc : c ≤ 64) (Inv : SW → Prop) (hI : ∀ s, Inv s → PlOK r c t K L s Inv) (hK : 5 * (K + 1) + (L + 1) ≤ 260000000000) (hL : 2 * (L + 1) + 3 * (K + 1) ≤ 269000000000) (n0 : Nat) (s0 : SW) (res : Bool × SW) (h0 : Inv s0) (hp0 : plS r c t n0 s0 = some res) :
    CallOK Tryz.prog 46 [.ptr 81 0, .v (.int .i64 (t : Int))] [(81, .abs (swE r c s0))] ⟨.v (.bool res.1), [(81, .ent (.abs (swE r c res.2)))]⟩ := by
  have o1 := of_1
  refine CallOK.fnA Tryz.func46 Tryz.results46 Tryz.ntmps46 rfl rfl rfl rfl rfl rfl rfl rfl (fun w0 T B E0 hB => ?_)
  refine SX.goB ?_
  refine SX.WP.scopeR ?_
  refine SX.goB ?_
  refine W.loop2 (fun (n : Nat) (s : SW) => Inv s ∧ plS r c t n s = some res) (fun n s => [(0, .ptr 81 0), (1, .v (.int .i64 (t : Int))), (5, .ptr 5 0)]) (fun n s => [(81, .abs (swE r c s)), (5, .box 30 (zN 1))]) (fun n s => n) n0 s0 ⟨h0, hp0⟩ (fun n s ⟨hi, hp⟩ => ?_)
  cases n with
  | zero => exact absurd hp (by unfold plS; exact fun h => by cases h)
  | succ n =>
    obtain ⟨g, hn⟩ := hI s hi
    unfold plS at hp
    cases ho : lsAll s.a t (c - t) (r - t) with
    | none =>
      rw [ho] at hp
      have hp : some (false, s) = some res := hp
      cases hp
      have cL : CallOK Tryz.prog 77 [.ptr 81 0, .v (.int .i64 (t : Int))] [(81, .abs (swE r c s))] ⟨.v (.bool false), [(81, .ent (.abs (swE r c s)))]⟩ := con_sLeast ht htc hr hc g.a (by omega) none ho
      refine SX.goB ?_
      exact retP (xs := [.one (.c (.val (.bool false)))]) ⟨ResOK.tmp rfl, trivial⟩ ⟨rfl, trivial⟩
    | some q =>
      rw [ho] at hp
      have hp : (if cF (sw1 t q s).a t r c then (if odF (sw2 r c t (sw1 t q s)).a t r c < r then plS r c t n (sw2 r c t (sw3 t (odF (sw2 r c t (sw1 t q s)).a t r c) (sw2 r c t (sw1 t q s)))) else some (true, sw4 t (sw2 r c t (sw1 t q s)))) else plS r c t n (sw2 r c t (sw1 t q s))) = some res := hp
      obtain ⟨q1, q2⟩ := lsAll_in ht htc ho
      obtain ⟨n1, n2, n3, n4⟩ := hn q ho
      have cL : CallOK Tryz.prog 77 [.ptr 81 0, .v (.int .i64 (t : Int))] [(81, .abs (swE r c s))] ⟨.v (.bool true), [(81, .ent (.abs (swE r c (sw1 t q s))))]⟩ := con_sLeast ht htc hr hc g.a (by omega) (some q) ho
      have g1 := g.s1 ht htc q1 q2
      have cC : CallOK Tryz.prog 78 [.ptr 81 0, .v (.int .i64 (t : Int))] [(81, .abs (swE r c (sw1 t q s)))] ⟨.v (.bool (cF (sw1 t q s).a t r c)), [(81, .ent (.abs (swE r c (sw2 r c t (sw1 t q s)))))]⟩ := by
        have := con_sClear ht htc hr hc n1 g1.a g1.u g1.v (by omega) (by omega)
        unfold sw2; exact this
      generalize sw1 t q s = s1 at *
      generalize sw2 r c t s1 = s2 at *
      cases hf : cF s1.a t r c with
      | false =>
        rw [hf] at cC hp
        refine SX.goB ?_
        exact W.next2 n s2 ⟨n3 hf, hp⟩ (Nat.lt_succ_self _)
      | true =>
        rw [hf] at cC hp
        have hp : (if odF s2.a t r c < r then plS r c t n (sw2 r c t (sw3 t (odF s2.a t r c) s2)) else some (true, sw4 t s2)) = some res := hp
        have cO : CallOK Tryz.prog 79 [.ptr 81 0, .v (.int .i64 (t : Int))] [(81, .abs (swE r c s2))] ⟨.v (.int .i64 (odR (odF s2.a t r c) r)), [(81, .ent (.abs (swE r c s2)))]⟩ := con_sOdd ht htc hr hc n2.a (by omega)
        obtain ⟨z, hz⟩ : ∃ z : Int, Hide (z = odR (odF s2.a t r c) r) := ⟨_, ⟨rfl⟩⟩
        rw [← hz.out] at cO
        have n4 := n4 hf
        clear n3
        by_cases hlt : odF s2.a t r c < r
        · rw [if_pos hlt] at hp
          obtain ⟨m1, m2⟩ := n4 hlt
          have g3 := n2.s3 ht hlt
          refine SX.goB ?_
          have hz := hz.out
          have hzi : odR (odF s2.a t r c) r = ((odF s2.a t r c : Nat) : Int) := if_pos hlt
          rw [hzi] at hz
          have hne : t ≠ odF s2.a t r c := by
            have := (odF_spec (A := s2.a) (c := c) ht).1
            omega
          have hz0 : ¬ z < 0 := by omega
          generalize odF s2.a t r c = i at *
          subst hz
          have cA := con_addRow (A := s2.a) (z := 1) (L := 1) ht hlt hne (show r ≤ 100 by omega) (show c ≤ 100 by omega) n2.a (by rw [Nat.pow_one, WB_eq]; decide) (by omega)
          have cU := CallOK.relTo (con_addRow (A := s2.u) (z := 1) (L := 1) ht hlt hne (show r ≤ 100 by omega) (show r ≤ 100 by omega) n2.u (by rw [Nat.pow_one, WB_eq]; decide) (by omega)) (by intro a ha; simp at ha; rcases ha with rfl | rfl | rfl <;> rfl) 83
          have cC2 : CallOK Tryz.prog 78 [.ptr 81 0, .v (.int .i64 (t : Int))] [(81, .abs (swE r c (sw3 t i s2)))] ⟨.v (.bool (cF (sw3 t i s2).a t r c)), [(81, .ent (.abs (swE r c (sw2 r c t (sw3 t i s2)))))]⟩ := by
            have := con_sClear ht htc hr hc m1 g3.a g3.u g3.v (by omega) (by omega)
            unfold sw2; exact this
          refine ws_open rfl rfl rfl rfl rfl rfl rfl ?_
          refine W.haltS [(0, .ptr 81 0), (1, .v (.int .i64 (t : Int))), (5, .ptr 5 0), (6, .v (.int .i64 (i : Int)))] ((81, .box 86 (wsC c)) :: (5, .box 30 (zN 1)) :: wsL r c s2.a s2.u s2.v) ?_ ?_
          · refine SX.goB ?_
            refine SX.St.le_to [] (by intro b h; exact SX.fixIs h rfl) ?_ ?_ rfl
            · repeat (first | exact trivial | refine ⟨⟨_, rfl, SX.AVto.same rfl⟩, ?_⟩)
            · exact ⟨SX.EntTo.same rfl rfl, SX.EntTo.same rfl rfl, SX.EntTo.same rfl rfl, SX.EntTo.same rfl rfl, SX.EntTo.same rfl rfl, trivial⟩
          · refine W.meet [(0, .ptr 81 0), (1, .v (.int .i64 (t : Int))), (5, .ptr 5 0), (6, .v (.int .i64 (i : Int)))] ((81, .box 86 (wsC c)) :: (5, .box 30 (zN 1)) :: wsL r c (adF s2.a t i 1) s2.u s2.v) ?_ ?_
            · refine SX.goB ?_
              refine SX.St.le_to [] (by intro b h; exact SX.fixIs h rfl) ?_ ?_ rfl
              · repeat (first | exact trivial | refine ⟨⟨_, rfl, SX.AVto.same rfl⟩, ?_⟩)
              · exact ⟨SX.EntTo.same rfl rfl, SX.EntTo.same rfl rfl, SX.EntTo.same rfl rfl, SX.EntTo.same rfl rfl, SX.EntTo.same rfl rfl, trivial⟩
            · refine W.meet [(0, .ptr 81 0), (1, .v (.int .i64 (t : Int))), (5, .ptr 5 0), (6, .v (.int .i64 (i : Int)))] ((81, .box 86 (wsC c)) :: (5, .box 30 (zN 1)) :: wsL r c (adF s2.a t i 1) (adF s2.u t i 1) s2.v) ?_ ?_
              · refine SX.goB ?_
                refine SX.St.le_to [] (by intro b h; exact SX.fixIs h rfl) ?_ ?_ rfl
                · repeat (first | exact trivial | refine ⟨⟨_, rfl, SX.AVto.same rfl⟩, ?_⟩)
                · exact ⟨SX.EntTo.same rfl rfl, SX.EntTo.same rfl rfl, SX.EntTo.same rfl rfl, SX.EntTo.same rfl rfl, SX.EntTo.same rfl rfl, trivial⟩
              · refine SX.WP.weaken (ws_close [] [82, 83, 84] rfl ⟨AtomTo.same rfl, AtomTo.same rfl, AtomTo.same rfl, AtomTo.same rfl, trivial⟩ ⟨SX.EntTo.same rfl rfl, SX.EntTo.same rfl rfl, SX.EntTo.same rfl rfl, trivial⟩ rfl rfl rfl) ?_
                have e3 : wkS r c (adF s2.a t i 1) (adF s2.u t i 1) s2.v = swE r c (sw3 t i s2) := by unfold sw3; rfl
                rw [e3]
                refine SX.goB ?_
                exact W.next2 n (sw2 r c t (sw3 t i s2)) ⟨m2, hp⟩ (Nat.lt_succ_self _)
        · rw [if_neg hlt] at hp
          cases hp
          clear n4
          refine SX.goB ?_
          have hz := hz.out
          have hzi : odR (odF s2.a t r c) r = -1 := if_neg hlt
          rw [hzi] at hz
          subst hz
          haveI iP : Bd (s2.a t t) K := ⟨n2.a t t ht htc⟩
          refine ws_open rfl rfl rfl rfl rfl rfl rfl ?_
          refine rl_open 82 rfl fun js cc q => ?_
          have hjl : js.length = r := q.len
          obtain ⟨jt, hjt, ljt, cjt⟩ := q.get ht
          have hjt : js[t]? = some jt := hjt
          have ljt : jt < cc.length := ljt
          have cjt : cc[jt]? = some (zrK s2.a t c) := cjt
          have hwt : (zrK s2.a t c).length = c := zrK_len
          have gt := zrK_at (A := s2.a) (i := t) htc
          by_cases hneg : s2.a t t < 0
          · have hs : isign (s2.a t t) < 0 := by unfold isign; rw [if_neg (by omega), if_pos hneg]; decide
            have e4 : sw4 t s2 = ⟨ngF s2.a t, ngF s2.u t, s2.v⟩ := by unfold sw4; rw [if_pos hneg]
            rw [e4]
            have cA := rl_pre (con_negRow (A := s2.a) ht (show r ≤ 100 by omega) (show c ≤ 100 by omega) n2.a (by omega)) q
            have cU := CallOK.relTo (con_negRow (A := s2.u) ht (show r ≤ 100 by omega) (show r ≤ 100 by omega) n2.u (by omega)) (by intro a ha; simp at ha; rcases ha with rfl; rfl) 83
            refine SX.goB ?_
            refine RetF.le (ws_close [] [82, 83, 84] rfl ⟨AtomTo.same rfl, AtomTo.same rfl, AtomTo.same rfl, AtomTo.same rfl, trivial⟩ ⟨SX.EntTo.same rfl rfl, SX.EntTo.same rfl rfl, SX.EntTo.same rfl rfl, trivial⟩ rfl rfl rfl) ?_
            exact retP (xs := [.one (.c (.val (.bool true)))]) ⟨ResOK.tmp rfl, trivial⟩ ⟨rfl, trivial⟩
          · have hs : ¬ isign (s2.a t t) < 0 := by unfold isign; split <;> (try split) <;> omega
            have e4 : sw4 t s2 = s2 := by unfold sw4; rw [if_neg hneg]
            rw [e4]
            refine SX.goB ?_
            refine RetF.le (ws_close [] [82, 83, 84] rfl ⟨AtomTo.same rfl, AtomTo.same rfl, AtomTo.same rfl, AtomTo.same rfl, trivial⟩ ⟨rl_to rfl q rfl, SX.EntTo.same rfl rfl, SX.EntTo.same rfl rfl, trivial⟩ rfl rfl rfl) ?_
            exact retP (xs := [.one (.c (.val (.bool true)))]) ⟨ResOK.tmp rfl, trivial⟩ ⟨rfl, trivial⟩
end Go.Proofs.YtmfadfkjnfdngaaGreatDoor

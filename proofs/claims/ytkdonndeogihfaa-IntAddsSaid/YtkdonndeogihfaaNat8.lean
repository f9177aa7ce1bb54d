import Derived.Test.YtkdonndeogihfaaNat7
/- Package nat: Shr. -/
set_option linter.unusedVariables false
set_option linter.unusedSimpArgs false
namespace Go.Proofs.Ytkdonndeogihfaa
open Go.RowKit QM
theorem shr_z {x y b : Nat} (hx : x < WB) (hb : 0 < b) (hb2 : b < 64) :
    bits BinOp.or IntKind.u64 ((x : Int) / 2 ^ b) (IntKind.u64.wrap ((y : Int) * 2 ^ (64 - b))) = ((x / 2 ^ b + 2 ^ (64 - b) * (y % 2 ^ b) : Nat) : Int) := by
  have e1 : ((y : Int) * 2 ^ (64 - b)) = ((y * 2 ^ (64 - b) : Nat) : Int) := by rw [Int.natCast_mul, Int.natCast_pow]; rfl
  rw [e1, bt_wrapM, div_z]
  have hx' : x < 2 ^ 64 := by rw [WB_pow] at hx; exact hx
  have hd : x / 2 ^ b < 2 ^ 64 := Nat.lt_of_le_of_lt (Nat.div_le_self _ _) hx'
  have := bits_or_u64_nat (x / 2 ^ b) (y * 2 ^ (64 - b) % 2 ^ 64) hd (Nat.mod_lt _ (Nat.two_pow_pos 64))
  rw [shr_word hx' hb hb2] at this
  exact this
theorem Shr_small {w : World} {va : Value} {la : List Nat} {n q b : Nat} (ha : RN w va la) (hna : la.length ≤ 1099511627775) (hn : n ≤ 9223372036854775807) (hnq : n / 64 = q) (hnb : n % 64 = b) (hq0 : tlen la ≤ q) :
    Calls Try.prog 71 #[va, .int .i64 (n : Int)] w fun e w' => e = .returned (.tuple #[.slice none 0 0, .bool true]) ∧ w = w' := by
  obtain ⟨oa, ca, rfl, _⟩ := id ha
  have CA := hid (trim_any ha (by omega))
  have hq : (n : Int) / 64 = (q : Int) := by omega
  have hr : (n : Int) % 64 = (b : Int) := by omega
  have hb64 : b < 64 := by omega
  clear ha hnq hnb
  go_enter Try.func71, Try.ntmps71
  go_wp2_with fail
  refine CA.out.mono ?_
  rintro e w' ⟨rfl, rfl⟩
  go_wp2
  go_ret2
  exact ⟨rfl, rfl⟩
set_option maxRecDepth 100000 in
set_option maxHeartbeats 1000000 in
theorem Shr_big {w : World} {va : Value} {la : List Nat} {n q b : Nat} (ha : RN w va la) (hna : la.length ≤ 1099511627775) (hn : n ≤ 9223372036854775807) (hnq : n / 64 = q) (hnb : n % 64 = b) (hq0 : q < tlen la) :
    Calls Try.prog 71 #[va, .int .i64 (n : Int)] w fun e w' => (∃ v, e = .returned (.tuple #[v, .bool true]) ∧ ON w.heap.size w' v (nval WB la / 2 ^ n)) ∧ Ext w w' := by
  have ka := tlen_le la
  rcases ha.shape with ⟨rfl, _⟩ | ⟨bx, ox, ca, rfl, a0, a1, a2, a3⟩
  · exact absurd hq0 (by simp [tlen])
  have CA := hid (trim_any ha (by omega))
  have sa := hid ha.sm
  have hq : (n : Int) / 64 = (q : Int) := by omega
  have hr : (n : Int) % 64 = (b : Int) := by omega
  have hb64 : b < 64 := by omega
  obtain ⟨D, hD⟩ : ∃ D, D = (la.take (tlen la)).drop q := ⟨_, rfl⟩
  obtain ⟨m, hm⟩ : ∃ m, m = tlen la - q := ⟨_, rfl⟩
  have hDl : D.length = m := by rw [hD, List.length_drop, List.length_take]; omega
  have hDs : Sm WB D := by rw [hD]; exact (ha.sm.take _).drop _
  have hDc : ∀ i, i < m → w.cell? ⟨bx, ox + q + i, none⟩ = some (.int .u64 ((gd D i : Nat) : Int)) := by
    intro i hi
    have := a3 (q + i) (by omega)
    rw [← Nat.add_assoc] at this
    rw [this, hD, gd_drop', gd_take (by omega)]
  have hDv : nval WB D / 2 ^ b = nval WB la / 2 ^ n := by
    rw [hD, nval_drop_div _ _ WB_pos (ha.sm.take _), nval_tlen, Nat.div_div_eq_div_mul]
    congr 1
    rw [WB_pow, ← Nat.pow_mul, ← Nat.pow_add]; congr 1; omega
  have hmi : ((tlen la : Int) - (q : Int)) = (m : Int) := by omega
  have hmn : tlen la - q = m := hm.symm
  have hm1 : m ≤ 1099511627775 := by omega
  have hm0 : 0 < m := by omega
  obtain ⟨i0, hi, hz0, hz1, hz2⟩ := info_parts infoU64
  have HNQ := hid hnq
  have HNB := hid hnb
  have HDL := hid hDl
  have HDS := hid hDs
  have HDC := hid hDc
  have HDV := hid hDv
  have hbytes : i0.bytes * m ≤ 281474976710656 := by rw [hz2]; omega
  have hqc : q < ca := by omega
  clear ha hnq hnb hD hm hDl hDs hDc hDv a3 a0
  go_enter Try.func71, Try.ntmps71
  go_wp2_with fail
  refine CA.out.mono ?_
  rintro e w' ⟨rfl, rfl⟩
  go_wp2_with (at_make; refine wpList_make_full _ rfl (.tmp 28) (.tmp 28) 23 rfl w.heap.size 73 i0 (.int .u64 0) 1 Try.underlying23 hi hz0 hz1 .i64 .i64 _ _ m rfl rfl (by omega) (by omega) hbytes (by unfold maxLen; omega) (Nat.le_refl _) ?_; intro w1 hown hgrow)
  have hA : Arr w.heap.size w1 w.heap.size (List.replicate m 0) := by
    rw [wv_zeros] at hown; unfold Arr; rw [List.length_replicate]; exact hown
  have hE : Ext w w1 := Below.grown (Below.refl _ _) hgrow (Nat.le_refl _) (fun k hk => by cases hk)
  clear hown hgrow hmn hmi
  go_loopw [32] (fun k wr => ∃ (i : Nat) (r : List Nat), i ≤ m ∧ k = .int .i64 i ∧ ShrInvB WB (2 ^ b) D i r ∧ Arr w.heap.size wr w.heap.size (r ++ List.replicate (m - i) 0) ∧ Ext w wr) (fun k _ => m - (intOf k).toNat)
  case atStart => exact ⟨0, [], by omega, rfl, ShrInvB.start _ _ _, hA, hE⟩
  case round =>
    obtain ⟨i, r, hi', rfl, hinv, hAr, hEr⟩ := hrel
    have hrl := hinv.1
    have hlen : (r ++ List.replicate (m - i) 0).length = m := by simp; omega
    by_cases hilt : i < m
    · have hcx := hEr.cell (HDC.out i hilt)
      have hout := hAr.cell (i := i) (by omega)
      have hfz := hAr.frozen i
      have hxl := gd_lt HDS.out i
      have hbd : gd D i / 2 ^ b + 2 ^ (64 - b) * (gd D (i + 1) % 2 ^ b) < WB := by
        have := shr_bound (x := gd D i) (y := gd D (i + 1)) (b := b) (by rw [WB_pow] at hxl; exact hxl) hb64
        rw [WB_pow]; exact this
      have hstep := hinv.step (p := 2 ^ (64 - b)) (by rw [WB_pow, ← Nat.pow_add]; congr 1; omega) hbd
      have e1 : m - i = (m - (i + 1)) + 1 := by omega
      have hset : ∀ x, (r ++ List.replicate (m - i) 0).set i x = (r ++ [x]) ++ List.replicate (m - (i + 1)) 0 := by
        intro x; rw [e1, ← hrl]; exact set_fill
      have hst := hAr.store i (gd D i / 2 ^ b + 2 ^ (64 - b) * (gd D (i + 1) % 2 ^ b))
      rw [hset] at hst
      have hst1 := hAr.store i (gd D i / 2 ^ b)
      have hst2 := hst1.store i (gd D i / 2 ^ b + 2 ^ (64 - b) * (gd D (i + 1) % 2 ^ b))
      rw [List.set_set, hset] at hst2
      have hfz2 := hst1.frozen i
      have HSTEP := hid hstep
      have HST := hid hst
      have HST2 := hid hst2
      have HRL := hid hrl
      have HXL := hid hxl
      clear hlen hAr hinv hstep hst hst2 hst1 e1 hset hrl hbd hxl
      by_cases hb0 : 0 < b
      · by_cases hi1 : i + 1 < m
        · have hcx1 := hEr.cell (HDC.out (i + 1) hi1)
          have hZ := hid (shr_z (y := gd D (i + 1)) HXL.out hb0 hb64)
          have hguard : decide (0 < b) = true := by simpa using hb0
          go_wp2
          go_region
          all_goals
            go_wp2
            go_roundw
            case rel =>
              rw [hZ.out, div_z]
              exact ⟨i + 1, _, by omega, by go_num, HSTEP.out, HST2.out, (Below.setCell (Below.setCell hEr (Nat.le_refl _) _) (Nat.le_refl _) _).drew⟩
            case measure => simp [intOf]; omega
        · have hy0 : gd D (i + 1) = 0 := gd_ge (by have := HDL.out; omega)
          have HY := hid hy0
          clear hy0
          go_wp2
          go_roundw
          case rel =>
            rw [div_z]
            refine ⟨i + 1, _, by omega, by go_num, HSTEP.out, ?_, Below.setCell hEr (Nat.le_refl _) _⟩
            have := HST.out
            rw [HY.out, Nat.zero_mod, Nat.mul_zero, Nat.add_zero] at this ⊢
            exact this
          case measure => simp [intOf]; omega
      · have hb1 : b ≤ 0 := by omega
        have hy0 : gd D (i + 1) % 2 ^ b = 0 := by rw [show b = 0 from by omega, Nat.pow_zero, Nat.mod_one]
        have HY := hid hy0
        clear hy0
        go_wp2
        go_roundw
        case rel =>
          rw [div_z]
          refine ⟨i + 1, _, by omega, by go_num, HSTEP.out, ?_, Below.setCell hEr (Nat.le_refl _) _⟩
          have := HST.out
          rw [HY.out, Nat.mul_zero, Nat.add_zero] at this ⊢
          exact this
        case measure => simp [intOf]; omega
    · have hin : i = m := by omega
      subst hin
      have hno := normal_own hAr.own (by simpa using hinv.2.1) (by rw [hlen]; omega)
      rw [hlen] at hno
      have hv : nval WB (r ++ List.replicate (i - i) 0) = nval WB la / 2 ^ n := by
        rw [Nat.sub_self, List.replicate_zero, List.append_nil, hinv.done (Nat.two_pow_pos _) (Nat.le_of_eq HDL.out)]; exact HDV.out
      have HNO := hid hno
      have HLV := hid hv
      clear hno hv hlen hAr hinv hrl
      go_wp2_with fail
      refine HNO.out.mono ?_
      rintro e w' ⟨⟨v, rfl, ho⟩, rfl⟩
      go_wp2
      go_ret2
      exact ⟨⟨_, rfl, by rw [← HLV.out]; exact ho⟩, hEr⟩
/-- Shr: the quotient by a power of two. -/
theorem Shr_any {w : World} {va : Value} {la : List Nat} {n : Nat} (ha : RN w va la) (hna : la.length ≤ 1099511627775) (hn : n ≤ 9223372036854775807) :
    Calls Try.prog 71 #[va, .int .i64 (n : Int)] w fun e w' => (∃ v, e = .returned (.tuple #[v, .bool true]) ∧ ON w.heap.size w' v (nval WB la / 2 ^ n)) ∧ Ext w w' := by
  rcases Nat.lt_or_ge (n / 64) (tlen la) with h | h
  · exact Shr_big ha hna hn rfl rfl h
  · refine (Shr_small ha hna hn rfl rfl h).mono fun e w' ⟨he, hw⟩ => ?_
    subst he hw
    have hlt : nval WB la < 2 ^ n := by
      rw [← nval_tlen la]
      refine Nat.lt_of_lt_of_le (nval_lt (ha.sm.take _)) ?_
      rw [WB_pow, ← Nat.pow_mul, List.length_take]
      exact Nat.pow_le_pow_right (by omega) (by omega)
    exact ⟨⟨_, rfl, by rw [Nat.div_eq_of_lt hlt]; exact ON.zero _ _⟩, Ext.refl _⟩
end Go.Proofs.Ytkdonndeogihfaa

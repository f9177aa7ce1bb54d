import Derived.Test.YtkdonndeogihfaaNat6
/- Package nat: Shl. -/
set_option linter.unusedVariables false
set_option linter.unusedSimpArgs false
namespace Go.Proofs.Ytkdonndeogihfaa
open Go.RowKit QM
theorem shl_z {x b c : Nat} (hx : x < WB) (hc : c < 2 ^ b) (hb : b < 64) :
    bits BinOp.or IntKind.u64 (c : Int) (IntKind.u64.wrap ((x : Int) * 2 ^ b)) = ((c ||| (x * 2 ^ b % 2 ^ 64) : Nat) : Int) := by
  have e1 : ((x : Int) * 2 ^ b) = ((x * 2 ^ b : Nat) : Int) := by rw [Int.natCast_mul, Int.natCast_pow]; rfl
  have hc64 : c < 2 ^ 64 := Nat.lt_of_lt_of_le hc (Nat.pow_le_pow_right (by omega) (by omega))
  rw [e1, bt_wrapM]
  exact bits_or_u64_nat _ _ hc64 (Nat.mod_lt _ (Nat.two_pow_pos 64))
theorem div_z (x k : Nat) : ((x : Int) / 2 ^ k) = ((x / 2 ^ k : Nat) : Int) := by
  rw [Int.natCast_ediv, Int.natCast_pow]; rfl
theorem WB_pow : WB = 2 ^ 64 := by decide
theorem shl_w {x c b : Nat} (hx : x < WB) (hc : c < 2 ^ b) (hb : b < 64) :
    (c ||| (x * 2 ^ b % 2 ^ 64)) < WB ∧ x / 2 ^ (64 - b) < 2 ^ b ∧ (c ||| (x * 2 ^ b % 2 ^ 64)) + WB * (x / 2 ^ (64 - b)) = c + 2 ^ b * x := by
  rw [WB_pow] at *; exact shl_word hx hc hb
set_option maxRecDepth 100000 in
set_option maxHeartbeats 1000000 in
theorem Shl_any {w : World} {va : Value} {la : List Nat} {n q b : Nat} (ha : RN w va la) (hna : la.length ≤ 1099511627775) (hn : n ≤ 1048576) (hnq : n / 64 = q) (hnb : n % 64 = b) :
    Calls Try.prog 69 #[va, .int .i64 (n : Int)] w fun e w' => (∃ v, e = .returned (.tuple #[v, .bool true]) ∧ ON w.heap.size w' v (nval WB la * 2 ^ n)) ∧ Ext w w' := by
  obtain ⟨oa, ca, rfl, _⟩ := id ha
  have ka := tlen_le la
  have CA := hid (trim_any ha (by omega))
  have hx := ha.take ka
  have hq : (n : Int) / 64 = (q : Int) := by omega
  have hr : (n : Int) % 64 = (b : Int) := by omega
  have hb64 : b < 64 := by omega
  have hqn : q ≤ 16384 := by omega
  obtain ⟨i0, hi, hz0, hz1, hz2⟩ := info_parts infoU64
  have sa := hid ha.sm
  have HNQ := hid hnq
  have HNB := hid hnb
  clear ha hnq hnb
  go_enter Try.func69, Try.ntmps69
  go_wp2_with fail
  refine CA.out.mono ?_
  rintro e w' ⟨rfl, rfl⟩
  generalize hN : tlen la + q + 1 = N
  have hbytes : i0.bytes * N ≤ 281474976710656 := by rw [hz2]; omega
  have hN1 : N ≤ 2199023255551 := by omega
  have hNle : tlen la + q + 1 ≤ N := by omega
  have hNi : ((tlen la : Int) + (q : Int) + 1) = (N : Int) := by omega
  have HNN := hid hN
  have HNI := hid hNi
  clear hN hNi
  go_wp2_with (at_make; refine wpList_make_full _ rfl (.tmp 28) (.tmp 28) 23 rfl w.heap.size 73 i0 (.int .u64 0) 1 Try.underlying23 hi hz0 hz1 .i64 .i64 _ _ N rfl rfl HNI.out HNI.out hbytes (by unfold maxLen; omega) (Nat.le_refl _) ?_; intro w1 hown hgrow)
  have hA : Arr w.heap.size w1 w.heap.size (List.replicate N 0) := by
    rw [wv_zeros] at hown; unfold Arr; rw [List.length_replicate]; exact hown
  have hE : Ext w w1 := Below.grown (Below.refl _ _) hgrow (Nat.le_refl _) (fun k hk => by cases hk)
  clear hown hgrow
  go_loopw [32] (fun k wr => ∃ (i : Nat) (r : List Nat) (c : Nat), i ≤ tlen la ∧ k = .int .i64 i ∧ MacInvB WB [] la (2 ^ b) i r c ∧ c < 2 ^ b ∧ Arr w.heap.size wr w.heap.size (patch (List.replicate N 0) q (r ++ [c])) ∧ Ext w wr) (fun k _ => tlen la - (intOf k).toNat)
  case atStart => exact ⟨0, [], 0, by omega, rfl, MacInvB.start WB_pos _ _ _, Nat.two_pow_pos _, by rw [List.nil_append, patch_zeros (by have := HNN.out; omega)]; exact hA, hE⟩
  case round =>
    obtain ⟨i, r, cc, hi', rfl, hinv, hcb, hAr, hEr⟩ := hrel
    have hrl := hinv.1
    have hlen : (patch (List.replicate N 0) q (r ++ [cc])).length = N := by rw [patch_length (by simp; have := HNN.out; omega)]; simp
    by_cases hilt : i < tlen la
    · obtain ⟨bx, ofx, rfl, hcx⟩ := rd_take hx hEr hilt
      have hout := hAr.cell (i := q + i) (by have := HNN.out; omega)
      have hfz := hAr.frozen (q + i)
      have hout2 := hAr.cell (i := q + i + 1) (by have := HNN.out; omega)
      have hfz2 := hAr.frozen (q + i + 1)
      have hcell : gd (patch (List.replicate N 0) q (r ++ [cc])) (q + i) = cc := by
        rw [patch_append (by simp; have := HNN.out; omega) (by omega) (by simp; omega), hrl, Nat.sub_self]; rfl
      rw [hcell] at hout
      have hsh := shl_w (gd_lt sa.out i) hcb hb64
      have hZ := hid (shl_z (gd_lt sa.out i) hcb hb64)
      have hstep := hinv.step hsh.1 (Nat.lt_of_lt_of_le hsh.2.1 (by rw [WB_pow]; exact Nat.pow_le_pow_right (by omega) (by omega))) (by rw [hsh.2.2]; simp [gd]; omega)
      have hst := hAr.store (q + i) (cc ||| (gd la i * 2 ^ b % 2 ^ 64))
      rw [← hrl, patch_set_in (by simp; have := HNN.out; omega), hrl] at hst
      have hst2 := hst.store (q + i + 1) (gd la i / 2 ^ (64 - b))
      have e2 : q + i + 1 = q + (r ++ [cc ||| (gd la i * 2 ^ b % 2 ^ 64)]).length := by simp [hrl]; omega
      have hl2 : q + (r ++ [cc ||| (gd la i * 2 ^ b % 2 ^ 64)]).length < (List.replicate N 0).length := by simp [hrl]; have := HNN.out; omega
      rw [show (patch (List.replicate N 0) q (r ++ [cc ||| gd la i * 2 ^ b % 2 ^ 64])).set (q + i + 1) (gd la i / 2 ^ (64 - b)) = patch (List.replicate N 0) q ((r ++ [cc ||| (gd la i * 2 ^ b % 2 ^ 64)]) ++ [gd la i / 2 ^ (64 - b)]) from by rw [e2]; exact patch_set hl2] at hst2
      have HSH := hid hsh
      have HSTEP := hid hstep
      have HST := hid hst
      have HST2 := hid hst2
      have HRL := hid hrl
      clear hcell hlen hAr hinv hsh hstep hst hst2 e2 hl2 hrl
      by_cases hb0 : b = 0
      · have hbp : b ≤ 0 := by omega
        have hhi : gd la i / 2 ^ (64 - b) = 0 := by have := HSH.out.2.1; rw [hb0] at this ⊢; omega
        have HHI := hid hhi
        clear hb0 hhi
        go_wp2
        go_roundw
        case rel =>
          rw [hZ.out]
          refine ⟨i + 1, _, _, by omega, by go_num, HSTEP.out, HSH.out.2.1, ?_, ?_⟩
          · rw [HHI.out, patch_pad (by simp [HRL.out]; have := HNN.out; omega) (gd_replicate _ _)]; exact HST.out
          · exact Below.setCell hEr (Nat.le_refl _) _
        case measure => simp [intOf]; omega
      · have hbp : 0 < b := by omega
        go_wp2
        go_roundw
        case rel =>
          rw [hZ.out, div_z]
          refine ⟨i + 1, _, _, by omega, by go_num, HSTEP.out, HSH.out.2.1, HST2.out, ?_⟩
          exact Below.setCell (Below.setCell hEr (Nat.le_refl _) _) (Nat.le_refl _) _
        case measure => simp [intOf]; omega
    · have hin : i = tlen la := by omega
      subst hin
      have hno := normal_own hAr.own (patch_sm (Sm.replicate WB_pos _) (hinv.2.1.append (Sm.nil.cons hinv.2.2.1))) (by rw [hlen]; omega)
      rw [hlen] at hno
      have hv : nval WB (patch (List.replicate N 0) q (r ++ [cc])) = nval WB la * 2 ^ n := by
        rw [patch_zeros_val (by have := HNN.out; omega), nval_snoc, hrl]
        have := hinv.2.2.2
        rw [this, nval_tlen]
        have e3 : 2 ^ n = WB ^ q * 2 ^ b := by rw [WB_pow, ← Nat.pow_mul, ← Nat.pow_add]; congr 1; have := HNQ.out; have := HNB.out; omega
        rw [e3]; simp only [List.take_nil, nval, Nat.zero_add]; rw [Nat.mul_comm (nval WB la), Nat.mul_assoc]
      have HNO := hid hno
      have HLV := hid hv
      clear hno hv hlen hAr hinv hrl hx
      go_wp2_with fail
      refine HNO.out.mono ?_
      rintro e w' ⟨⟨v, rfl, ho⟩, rfl⟩
      go_wp2
      go_ret2
      exact ⟨⟨_, rfl, by rw [← HLV.out]; exact ho⟩, hEr⟩
end Go.Proofs.Ytkdonndeogihfaa

import Derived.Test.YtkdonndeogihfaaNat4
/- Package nat: Sub. -/
set_option linter.unusedVariables false
set_option linter.unusedSimpArgs false
namespace Go.Proofs.Ytkdonndeogihfaa
open Go.RowKit QM
theorem rd_take {w wr : World} {ox : Option Addr} {n cx : Nat} {lx : List Nat} (hx : RN w (.slice ox n cx) (lx.take n)) (hE : Ext w wr) {i : Nat} (hi : i < n) :
    ∃ b o, ox = some ⟨b, o, none⟩ ∧ wr.cell? ⟨b, o + i, none⟩ = some (.int .u64 ((gd lx i : Nat) : Int)) := by
  have hl := hx.len
  obtain ⟨oa', cap', hv, h1, h2, h3, h4, h5⟩ := hx
  simp only [Value.slice.injEq] at hv
  obtain ⟨rfl, e2, rfl⟩ := hv
  obtain ⟨b, o, e, c⟩ := h5 i (by omega)
  rw [gd_take hi] at c
  exact ⟨b, o, e, hE.cell c⟩
def SubInv (la lb : List Nat) (k : Nat) (r : List Nat) (c : Nat) : Prop := SubInvB WB la lb k r c
theorem SubInv.start (la lb : List Nat) : SubInv la lb 0 [] 0 := SubInvB.start _ _ _
theorem SubInv.step {la lb : List Nat} {k c : Nat} {r : List Nat} (h : SubInv la lb k r c) (ha : Sm WB la) (hb : Sm WB lb) :
    SubInv la lb (k + 1) (r ++ [sb64 (gd la k) (gd lb k) c]) (bw64 (gd la k) (gd lb k) c) := by
  have hs := sb64_spec (gd_lt ha k) (gd_lt hb k) h.2.2.1
  exact SubInvB.step h hs.2.1 hs.2.2 hs.1
theorem SubInv.done {la lb : List Nat} {n c : Nat} {r : List Nat} (h : SubInv la lb n r c) (ha : nval WB (la.take n) = nval WB la) (hb : nval WB (lb.take n) = nval WB lb) (hle : nval WB lb ≤ nval WB la) :
    nval WB r = nval WB la - nval WB lb := SubInvB.done h ha hb hle
theorem tlen_mono {la lb : List Nat} (hb : Sm WB lb) (h : nval WB la ≤ nval WB lb) : tlen la ≤ tlen lb := by
  rcases Nat.lt_or_ge (tlen lb) (tlen la) with h1 | h1
  · have := cmp_len_lt hb h1; omega
  · exact h1
theorem Sub_less {w : World} {va vb : Value} {la lb : List Nat} (ha : RN w va la) (hb : RN w vb lb) (hna : la.length ≤ 1099511627775) (hnb : lb.length ≤ 1099511627775) (hlt : nval WB la < nval WB lb) :
    Calls Try.prog 52 #[va, vb] w fun e w' => e = .returned (.tuple #[.slice none 0 0, .bool false]) ∧ Ext w w' := by
  have hc := Cmp_any ha hb (by omega) (by omega)
  rw [cmpI_lt hlt] at hc
  have HC := hid hc
  clear ha hb hc hlt hna hnb
  go_enter Try.func52, Try.ntmps52
  go_wp2_with fail
  refine HC.out.mono ?_
  rintro e w1 ⟨rfl, hx⟩
  go_wp2
  go_ret2
  exact ⟨rfl, hx⟩
set_option maxRecDepth 100000 in
set_option maxHeartbeats 1000000 in
theorem Sub_ge {w : World} {va vb : Value} {la lb : List Nat} (ha : RN w va la) (hb : RN w vb lb) (hna : la.length ≤ 1099511627775) (hnb : lb.length ≤ 1099511627775) (hle : nval WB lb ≤ nval WB la) :
    Calls Try.prog 52 #[va, vb] w fun e w' => (∃ v, e = .returned (.tuple #[v, .bool true]) ∧ ON w.heap.size w' v (nval WB la - nval WB lb)) ∧ Ext w w' := by
  have HC := hid (Cmp_any ha hb (by omega) (by omega))
  have hcge : ¬ cmpI (nval WB la) (nval WB lb) < 0 := by unfold cmpI; rw [if_neg (by omega)]; split <;> omega
  obtain ⟨oa, ca, rfl, _⟩ := id ha
  obtain ⟨ob, cb, rfl, _⟩ := id hb
  have htl := tlen_mono ha.sm hle
  have ka := tlen_le la
  have kb := tlen_le lb
  have sa := hid ha.sm
  have sb := hid hb.sm
  have HLE := hid hle
  have HA := hid ha
  have HB := hid hb
  obtain ⟨i0, hi, hz0, hz1, hz2⟩ := info_parts infoU64
  clear ha hb hle
  go_enter Try.func52, Try.ntmps52
  go_wp2_with fail
  refine HC.out.mono ?_
  rintro e w1 ⟨rfl, hE1⟩
  have ha1 := HA.out.ext hE1
  have hb1 := HB.out.ext hE1
  have CA := hid (trim_any ha1 (by omega))
  have CB := hid (trim_any hb1 (by omega))
  have hx := ha1.take ka
  have hy := hb1.take kb
  clear ha1 hb1
  go_wp2_with fail
  refine CA.out.mono ?_
  rintro e w' ⟨rfl, rfl⟩
  go_wp2_with fail
  refine CB.out.mono ?_
  rintro e w' ⟨rfl, rfl⟩
  have hbytes : i0.bytes * (tlen la) ≤ 281474976710656 := by rw [hz2]; omega
  go_wp2_with (at_make; refine wpList_make_full _ rfl (.tmp 19) (.tmp 19) 23 rfl w.heap.size 73 i0 (.int .u64 0) 1 Try.underlying23 hi hz0 hz1 .i64 .i64 _ _ (tlen la) rfl rfl (by omega) (by omega) hbytes (by unfold maxLen; omega) hE1.size ?_; intro w2 hown hgrow)
  obtain ⟨g, hg⟩ : ∃ g, g = w1.heap.size := ⟨_, rfl⟩
  have hgw : w.heap.size ≤ g := by have := hE1.size; omega
  have hA : Arr w.heap.size w2 g (List.replicate (tlen la) 0) := by
    rw [wv_zeros] at hown; unfold Arr; rw [List.length_replicate, hg]; exact hown
  have hE : Ext w1 w2 := Below.grown (Below.refl _ _) hgrow (Nat.le_refl _) (fun k hk => by cases hk)
  have hE2 := hE1.trans hE
  rw [← hg]
  have HG := hid hg
  clear hown hgrow hg
  go_loopw [7, 23] (fun c k wr => ∃ (i : Nat) (r : List Nat) (cy : Nat), i ≤ tlen la ∧ k = .int .i64 i ∧ c = .int .u64 cy ∧ SubInv la lb i r cy ∧ Arr w.heap.size wr g (r ++ List.replicate (tlen la - i) 0) ∧ Ext w1 wr) (fun _ k _ => tlen la - (intOf k).toNat)
  case atStart => exact ⟨0, [], 0, by omega, rfl, rfl, SubInv.start _ _, hA, hE⟩
  case round =>
    obtain ⟨i, r, cc, hi', rfl, rfl, hinv, hAr, hEr⟩ := hrel
    have hlen : (r ++ List.replicate (tlen la - i) 0).length = tlen la := by have := hinv.1; simp; omega
    have hcy := hinv.2.2.1
    by_cases hilt : i < tlen la
    · obtain ⟨bx, ofx, rfl, hcx⟩ := rd_take hx hEr hilt
      have hout := hAr.cell (i := i) (by omega)
      have hfz := hAr.frozen i
      have hst := hAr.store i (sb64 (gd la i) (gd lb i) cc)
      have hnew : (r ++ List.replicate (tlen la - i) 0).set i (sb64 (gd la i) (gd lb i) cc) = (r ++ [sb64 (gd la i) (gd lb i) cc]) ++ List.replicate (tlen la - (i + 1)) 0 := by
        have e1 : tlen la - i = (tlen la - (i + 1)) + 1 := by omega
        rw [e1, ← hinv.1]; exact set_fill
      rw [hnew] at hst
      have hstep := hinv.step sa.out sb.out
      have hgr : Ext w1 (wr.setCell ⟨g, i, none⟩ (.int .u64 ((sb64 (gd la i) (gd lb i) cc : Nat) : Int))) := Below.setCell hEr (by have := HG.out; simp; omega) _
      have HST := hid hst
      have HSTEP := hid hstep
      have HGR := hid hgr
      clear hst hstep hgr hnew hlen hinv hAr
      by_cases hily : i < tlen lb
      · obtain ⟨by', ofy, rfl, hcyy⟩ := rd_take hy hEr hily
        have hadd := Sub64_run (gd la i) (gd lb i) cc hcy
        clear hx hy hEr
        go_wp2
        go_roundw
        case rel => exact ⟨i + 1, _, _, by omega, by go_num, rfl, HSTEP.out, HST.out, HGR.out⟩
        case measure => simp [intOf]; omega
      · have hadd := Sub64_run0 (gd la i) (gd lb i) cc hcy (tlen_zero (by omega))
        clear hx hy hEr
        go_wp2
        go_roundw
        case rel => exact ⟨i + 1, _, _, by omega, by go_num, rfl, HSTEP.out, HST.out, HGR.out⟩
        case measure => simp [intOf]; omega
    · have hin : i = tlen la := by omega
      subst hin
      have hdone := hinv.done (nval_tlen la) (nval_take_of_zeros fun j hj => tlen_zero (by omega)) HLE.out
      have hnew : r ++ List.replicate (tlen la - tlen la) 0 = r := by simp
      rw [hnew] at hAr
      have hno := normal_own hAr.own hinv.2.1 (by have := hinv.1; omega)
      rw [hinv.1] at hno
      have HNO := hid hno
      have HD := hid hdone
      have HGR := hid (hE1.trans hEr)
      clear hdone hnew hlen hinv hAr hno hx hy hEr
      go_wp2_with fail
      refine HNO.out.mono ?_
      rintro e w' ⟨⟨v, rfl, ho⟩, rfl⟩
      go_wp2
      go_ret2
      exact ⟨⟨_, rfl, by rw [← HD.out]; exact ho⟩, HGR.out⟩
end Go.Proofs.Ytkdonndeogihfaa

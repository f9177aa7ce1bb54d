import Derived.Test.YtkdonndeogihfaaDiv5
import Derived.Laws.CopyOwn
/- Package div: DivMod. -/
set_option linter.unusedVariables false
set_option linter.unusedSimpArgs false
namespace Go.Proofs.Ytkdonndeogihfaa
open Go.RowKit QM
theorem Arr.heap {base g : Nat} {w : World} {l : List Nat} (h : Arr base w g l) : w.heap[g]? = some (.cells (wv l).toArray 73 (0, 0)) := by
  rcases h.2 with ⟨h', _⟩ | ⟨g', cap', cur, h', _, hg, _, _, hcs, htk⟩
  · simp at h'
  · simp only [Value.slice.injEq, Option.some.injEq, Addr.mk.injEq, and_true, true_and] at h'
    obtain ⟨rfl, rfl⟩ := h'
    rw [hg, ← htk, List.take_of_length_le (by simp [hcs])]
theorem Arr.of_heap {base g : Nat} {w : World} {l : List Nat} (hb : base ≤ g) (hl : l.length ≤ maxLen) (h : w.heap[g]? = some (.cells (wv l).toArray 73 (0, 0))) : Arr base w g l :=
  ⟨by rw [wv_len]; omega, .inr ⟨g, l.length, _, rfl, hb, h, Nat.le_refl _, hl, by simp [wv], by simp only [Nat.mul_one]; rw [List.take_of_length_le (by simp [wv])]⟩⟩
theorem DivMod_zero {w : World} {va vb : Value} {la lb : List Nat} (ha : RN w va la) (hb : RN w vb lb) (hna : la.length ≤ 1099511627775) (hnb : lb.length ≤ 1099511627775) (hy : nval WB lb = 0) :
    Calls Try.prog 45 #[va, vb] w fun e w' => e = .returned (.tuple #[.slice none 0 0, .slice none 0 0, .bool false]) ∧ Ext w w' := by
  have HNA := hid (Norm_any ha (by omega))
  have HB := hid hb
  have HY := hid hy
  clear ha hb hy
  go_enter Try.func45, Try.ntmps45
  go_wp2_with fail
  refine HNA.out.mono ?_
  rintro e w1 ⟨⟨v1, rfl, ho1⟩, hx1⟩
  have HNB := hid (Norm_any (HB.out.ext hx1) (by omega))
  have HO1 := hid ho1
  clear ho1
  go_wp2_with fail
  refine HNB.out.mono ?_
  rintro e w2 ⟨⟨v2, rfl, ho2⟩, hx2⟩
  obtain ⟨l2, l2r, l2n, l2v, l2z⟩ := ho2.nn
  have h0 : l2 = [] := l2n.zero WB_pos (by rw [l2v, HY.out])
  have hv2 := l2z h0
  subst hv2
  clear ho2 l2r l2n l2v l2z h0
  go_wp2
  go_ret3
  exact ⟨rfl, hx1.trans hx2⟩
/-- What a division answers. -/
def DivOk (w : World) (x y : Nat) (e : Ending) (w' : World) : Prop := ∃ vq vr, e = .returned (.tuple #[vq, vr, .bool true]) ∧ ON w.heap.size w' vq (x / y) ∧ ON w.heap.size w' vr (x % y)
theorem pow_top {l : List Nat} (h : Nrm l) (hl : l.length ≠ 0) : 0 < gd l (l.length - 1) := by
  rcases h with h | h
  · subst h; exact absurd rfl hl
  · exact Nat.pos_of_ne_zero h
theorem splice_wv {N : Nat} {lw : List Nat} (h : lw.length ≤ N) : splice (wv (List.replicate N 0)) 0 (wv lw) = wv (lw ++ List.replicate (N - lw.length) 0) := by
  simp [splice, wv, List.drop_replicate]
theorem infoU64s : (Try.prog.info? 73).map (·.size) = some 1 := by kernel_rfl
set_option maxRecDepth 100000 in
set_option maxHeartbeats 4000000 in
theorem DivMod_pos {w : World} {va vb : Value} {la lb : List Nat} (ha : RN w va la) (hb : RN w vb lb) (hna : la.length ≤ 1099511627770) (hnb : lb.length ≤ 1099511627770) (hy : 0 < nval WB lb) :
    Calls Try.prog 45 #[va, vb] w fun e w' => DivOk w (nval WB la) (nval WB lb) e w' ∧ Ext w w' := by
  have HNA := hid (Norm_any ha (by omega))
  have HB := hid hb
  have HA := hid ha
  have HY := hid hy
  clear ha hb hy
  go_enter Try.func45, Try.ntmps45
  go_wp2_with fail
  refine HNA.out.mono ?_
  rintro e w1 ⟨⟨v1, rfl, ho1⟩, hx1⟩
  have HNB := hid (Norm_any (HB.out.ext hx1) (by omega))
  have HO1 := hid ho1
  clear ho1
  go_wp2_with fail
  refine HNB.out.mono ?_
  rintro e w2 ⟨⟨v2, rfl, ho2⟩, hx2⟩
  obtain ⟨l1, l1r, l1n, l1v⟩ := NN.own (HO1.out.ext hx2)
  obtain ⟨l2, l2r, l2n, l2v⟩ := NN.own ho2
  have hl1 : l1.length ≤ 1099511627770 := Nat.le_trans (len_le_of WB_two HA.out.sm l1n (Nat.le_of_eq l1v)) hna
  have hl2 : l2.length ≤ 1099511627770 := Nat.le_trans (len_le_of WB_two HB.out.sm l2n (Nat.le_of_eq l2v)) hnb
  have hl20 : 0 < l2.length := by
    rcases Nat.eq_zero_or_pos l2.length with h0 | h0
    · have : l2 = [] := List.eq_nil_of_length_eq_zero h0
      subst this
      have := HY.out
      rw [← l2v] at this
      simp [nval] at this
    · exact h0
  have hx := hx1.trans hx2
  have HV := hid (And.intro l1v l2v)
  have HR1 := hid l1r
  have HR2 := hid l2r
  have HN := hid (And.intro l1n l2n)
  obtain ⟨b2, o2, c2, rfl, hc2l, hc2c, hcells⟩ : ∃ b o cap, v2 = .slice (some ⟨b, o, none⟩) l2.length cap ∧ l2.length ≤ cap ∧ cap ≤ maxLen ∧ ∀ i, i < l2.length → w2.cell? ⟨b, o + i, none⟩ = some (.int .u64 ((gd l2 i : Nat) : Int)) := by
    rcases l2r.shape with ⟨rfl, _⟩ | ⟨b, o, cap, e, _, h1, h2, h3⟩
    · simp at hl20
    · exact ⟨b, o, cap, e, h1, h2, h3⟩
  have HC := hid hcells
  have HCMP := hid (Cmp_any l1r l2r (by omega) (by omega))
  have hz : ((l2.length : Int) == 0) = false := by rw [beq_eq_false_iff_ne]; omega
  have HO1b := hid (HO1.out.ext hx2)
  clear l1v l2v ho2 hx1 l1r l2r l1n l2n hcells HNA HNB
  go_wp2_with fail
  refine HCMP.out.mono ?_
  rintro e w3 ⟨rfl, hx3⟩
  have hx' := hx.trans hx3
  by_cases hlt : nval WB l1 < nval WB l2
  · have hcm : cmpI (nval WB l1) (nval WB l2) = -1 := cmpI_lt hlt
    rw [hcm]
    have HLT := hid hlt
    clear hlt hcm
    go_wp2
    go_ret3
    refine ⟨⟨_, _, rfl, ?_, ?_⟩, hx'⟩
    · have := HLT.out
      rw [HV.out.1, HV.out.2] at this
      rw [Nat.div_eq_of_lt this]; exact ON.zero _ _
    · have := HLT.out
      rw [HV.out.1, HV.out.2] at this
      rw [Nat.mod_eq_of_lt this]
      exact (HO1b.out.ext hx3)
  · have hcm : ¬ cmpI (nval WB l1) (nval WB l2) < 0 := by unfold cmpI; rw [if_neg hlt]; split <;> omega
    have hcd : decide (cmpI (nval WB l1) (nval WB l2) < 0) = false := by rw [decide_eq_false_iff_not]; exact hcm
    have HGE := hid hlt
    clear hlt
    by_cases h1 : l2.length = 1
    · have h1b : ((l2.length : Int) == 1) = true := by rw [beq_iff_eq]; omega
      have hc0 := hx3.cell (HC.out 0 (by omega))
      rw [Nat.add_zero] at hc0
      have hv : nval WB l2 = gd l2 0 := by
        have := nval_take_gd WB l2 0
        rw [Nat.zero_add, List.take_of_length_le (by omega)] at this
        rw [this]; simp [nval]
      have hg0 : 0 < gd l2 0 := by rw [← hv, HV.out.2]; exact HY.out
      have HS := hid (Small_any (HR1.out.ext hx3) (by omega) hg0 (gd_lt HR2.out.sm 0))
      have HVV := hid hv
      have HM := hid (Nat.mod_lt (nval WB l1) hg0)
      have HG := hid (gd_lt HR2.out.sm 0)
      have h1' : l2.length ≤ 1 := by omega
      clear hv hg0 h1 hcm
      go_wp2_with fail
      refine HS.out.mono ?_
      rintro e w4 ⟨⟨v4, rfl, h4⟩, hx4⟩
      have H4 := hid h4
      have HO := hid (Of_own (nval WB l1 % gd l2 0) (Nat.lt_trans HM.out HG.out) w4)
      clear h4
      go_wp2_with fail
      refine HO.out.mono ?_
      rintro e w5 ⟨⟨v5, rfl, h5⟩, hx5⟩
      have H5 := hid h5
      clear h5
      go_wp2
      go_ret3
      refine ⟨⟨_, _, rfl, ?_, ?_⟩, (hx'.trans hx4).trans hx5⟩
      · have := H4.out
        rw [← HVV.out, HV.out.1, HV.out.2] at this
        exact (this.mono hx'.size).ext hx5
      · have := H5.out
        rw [← HVV.out, HV.out.1, HV.out.2] at this
        exact this.mono (hx'.trans hx4).size
    · have h1b : ((l2.length : Int) == 1) = false := by rw [beq_eq_false_iff_ne]; omega
      obtain ⟨n, hn⟩ : ∃ n, l2.length = n + 1 := ⟨l2.length - 1, by omega⟩
      have htp : 0 < gd l2 n := by have := pow_top HN.out.2 (by omega); rwa [hn, Nat.add_sub_cancel] at this
      have hgl := gd_lt HR2.out.sm n
      obtain ⟨s, hs, hs63, hs1, hs2⟩ := norm_y htp hgl
      have hcn : w3.cell? ⟨b2, o2 + (l2.length - 1), none⟩ = some (.int .u64 ((gd l2 n : Nat) : Int)) := by rw [show l2.length - 1 = n from by omega]; exact hx3.cell (HC.out n (by omega))
      have hps := Nat.two_pow_pos s
      have hHs : 2 ^ s ≤ 9223372036854775808 := by have : (2:Nat) ^ s ≤ 2 ^ 63 := Nat.pow_le_pow_right (by omega) hs63; exact this
      have htop : (gd l2 n + 1) * 2 ^ s ≤ WB := by
        have e : (2 : Nat) ^ s * 2 ^ (64 - s) = 2 ^ 64 := by rw [← Nat.pow_add]; congr 1; omega
        have h5 : gd l2 n < 2 ^ (64 - s) := by
          refine Nat.lt_of_mul_lt_mul_right (a := 2 ^ s) ?_
          rw [Nat.mul_comm (2 ^ (64 - s)), e]; exact hs2
        have h6 := Nat.mul_le_mul_right (2 ^ s) (show gd l2 n + 1 ≤ 2 ^ (64 - s) from h5)
        rw [Nat.mul_comm (2 ^ (64 - s)), e] at h6
        rw [WB_pow]; exact h6
      have hge : l2.length ≤ l1.length := by
        refine Nat.le_of_not_lt fun h => HGE.out ?_
        exact nval_len_lt WB_pos HR1.out.sm HN.out.2 h
      have HLZ := hid (LeadingZeros64_any (gd l2 n) hgl w3)
      rw [hs] at HLZ
      have HS := hid (And.intro hs1 (And.intro htop (And.intro hHs hps)))
      have hn2 : 2 ≤ n + 1 := by omega
      have HSH := hid (fun (w : World) (h : RN w (.slice (some ⟨b2, o2, none⟩) l2.length c2) l2) => Shl_any (n := s) (q := 0) (b := s) h (by omega) (by omega) (by omega) (by omega))
      have HR23 := hid (HR2.out.ext hx3)
      have HNE := hid hn
      have HCB := hid (HSH.out w3 HR23.out)
      have HMOD := hid (fun (w5 : World) (h : w5.ownsRow w.heap.size 73 1 v1 0 []) => h)
      have HCA := hid (fun (w : World) (h : RN w v1 l1) => Shl_any (n := s) (q := 0) (b := s) h (by omega) (by omega) (by omega) (by omega))
      clear hcm hn htp hgl hs hs1 hs2 hps hHs htop h1 HMOD
      obtain ⟨o1, c1, rfl, _⟩ := id HR1.out
      obtain ⟨i0, hi, hz0, hz1, hz2⟩ := info_parts infoU64
      have hbytes : i0.bytes * (l1.length + 1) ≤ 281474976710656 := by rw [hz2]; omega
      go_wp2_with fail
      refine HLZ.out.mono ?_
      rintro e w' ⟨rfl, rfl⟩
      go_wp2_with fail
      refine HCB.out.mono ?_
      rintro e w4 ⟨⟨v4, rfl, h4⟩, hx4⟩
      have H4 := hid h4
      have HCA4 := hid (HCA.out w4 (HR1.out.ext (hx3.trans hx4)))
      clear h4
      go_wp2_with fail
      refine HCA4.out.mono ?_
      rintro e w5 ⟨⟨v5, rfl, h5⟩, hx5⟩
      obtain ⟨lv, lvr, lvn, lvv⟩ := NN.own (H4.out.ext hx5)
      obtain ⟨lw, lwr, lwn, lwv⟩ := NN.own h5
      have hnl := norm_len WB_pos HR2.out.sm lvr.sm lvn HNE.out lvv HS.out.2.1 HS.out.1 (by omega)
      have hshl := shift_len WB_pos HR1.out.sm lwn lwv (Nat.le_trans HS.out.2.2.1 (by rw [WB_eq]; omega)) HS.out.2.2.2
      have hlw0 : 0 < lw.length := by
        rcases Nat.eq_zero_or_pos lw.length with h0 | h0
        · have : lw = [] := List.eq_nil_of_length_eq_zero h0
          subst this
          have h1 : 0 < nval WB l1 * 2 ^ s := Nat.mul_pos (by have := HGE.out; have := HY.out; have := HV.out.2; omega) HS.out.2.2.2
          rw [← lwv] at h1; simp [nval] at h1
        · exact h0
      obtain ⟨bw, ow, cw, rfl, hwcells⟩ : ∃ b o cap, v5 = .slice (some ⟨b, o, none⟩) lw.length cap ∧ ∀ j u, (wv lw)[j]? = some u → w5.cell? ((⟨b, o, none⟩ : Addr).add j) = some u := by
        rcases lwr.shape with ⟨rfl, _⟩ | ⟨b, o, cap, e, _⟩
        · simp at hlw0
        · exact ⟨b, o, cap, e, rn_cells (by rw [← e]; exact lwr)⟩
      obtain ⟨bv, ov, cv, rfl, hbv⟩ : ∃ b o cap, v4 = .slice (some ⟨b, o, none⟩) lv.length cap ∧ b < w5.heap.size := by
        rcases lvr.shape with ⟨rfl, _⟩ | ⟨b, o, cap, e, h0, _, _, h3⟩
        · simp at hnl
        · exact ⟨b, o, cap, e, by have := World.block_lt_of_cell? w5 _ (h3 0 h0); simpa using this⟩
      have HMK := hid (fun (w6 : World) (hown : w6.ownsRow w5.heap.size 73 1 (.slice (some ⟨w5.heap.size, 0, none⟩) (l1.length + 1) (l1.length + 1)) (l1.length + 1) (madeCells (Value.int .u64 0).cells ((l1.length + 1) * 1)).toList) => (by
        have hA : Arr w5.heap.size w6 w5.heap.size (List.replicate (l1.length + 1) 0) := by
          rw [wv_zeros] at hown; unfold Arr; rw [List.length_replicate]; exact hown
        exact hA.heap : w6.heap[w5.heap.size]? = some (.cells (wv (List.replicate (l1.length + 1) 0)).toArray 73 (0, 0))))
      have HBL := hid (fun (w6 : World) (hg : w5.grownBy w6 none) => (Below.grown (Below.refl _ _) hg (Nat.le_refl _) (fun k hk => by cases hk) : Below w5.heap.size w5 w6))
      have HWC := hid (fun (w6 : World) (hb : Below w5.heap.size w5 w6) j u (h : (wv lw)[j]? = some u) => Ext.cell hb (hwcells j u h))
      have HLW := hid (And.intro lwv (And.intro hshl (And.intro lwr.sm lwn)))
      have HLV := hid (And.intro lvv (And.intro hnl (And.intro lvr lvn)))
      have hmin : (wv lw).length = Nat.min lw.length (l1.length + 1) := by rw [wv_len]; exact (Nat.min_eq_left hshl).symm
      have hfit : 0 + (wv lw).length ≤ (wv (List.replicate (l1.length + 1) 0)).length := by rw [wv_len, wv_len, List.length_replicate]; omega
      have HMIN := hid hmin
      have HFIT := hid hfit
      have hx35 := hx3.trans (hx4.trans hx5)
      clear lwv lwn lwr lvv lvn lvr hnl hshl hwcells h5 hmin hfit hcn
      go_wp2_with (first | (at_make; refine wpList_make_full _ rfl (.tmp 70) (.tmp 70) 23 rfl w5.heap.size 73 i0 (.int .u64 0) 1 Try.underlying23 hi hz0 hz1 .i64 .i64 _ _ (l1.length + 1) rfl rfl (by omega) (by omega) hbytes (by unfold maxLen; omega) (Nat.le_refl _) ?_; intro w6 hown hgrow; have hh6 := hid (HMK.out w6 hown); have hb6 := hid (HBL.out w6 hgrow); clear hown hgrow) | (with_reducible refine wpList_copy_splice rfl (.tmp 72) (.tmp 73) 23 23 rfl 73 Try.underlying23 infoU64s _ _ _ _ _ _ rfl rfl w5.heap.size 0 (wv (List.replicate (l1.length + 1) 0)) 73 hh6.out (wv lw) HMIN.out (fun _ => ⟨rfl, ⟨bw, ow, none⟩, rfl, HWC.out w6 hb6.out⟩) HFIT.out (wv_one _) w5.heap.size w5 hb6.out (Nat.le_refl _) ?_; intro w7 hc7 hb7))
      obtain ⟨g, hg⟩ : ∃ g, g = w5.heap.size := ⟨_, rfl⟩
      have hc8 := hc7.out
      rw [splice_wv HLW.out.2.1] at hc8
      rw [← hg] at hc8 hb7 hbv ⊢
      have HGW := hid hg
      have hE57 : Ext w5 w7 := by have := HGW.out; subst this; exact hb7
      obtain ⟨L, hL⟩ : ∃ L, L = lw ++ List.replicate (l1.length + 1 - lw.length) 0 := ⟨_, rfl⟩
      rw [← hL] at hc8
      have hLl : L.length = l1.length + 1 := by rw [hL]; simp; have := HLW.out.2.1; omega
      have hLs : Sm WB L := by rw [hL]; exact HLW.out.2.2.1.append (Sm.replicate WB_pos _)
      have hLv : nval WB L = nval WB l1 * 2 ^ s := by rw [hL, nval_append, nval_replicate, HLW.out.1]; simp
      have hArr : Arr g w7 g L := Arr.of_heap (Nat.le_refl _) (by rw [hLl]; unfold maxLen; omega) hc8
      have hlt := high_lt (B := WB) (m := l1.length - n) (n := n) (lv := lv) WB_pos HR1.out.sm hLv (by have := HNE.out; omega) (top_ge HLV.out.2.1.1 HLV.out.2.1.2) HS.out.2.2.1 HS.out.2.2.2
      have hlong := long_any (n := n + 1) (N := l1.length + 1) (m := l1.length - n) hArr (HLV.out.2.2.1.ext hE57) (fun b o e => by simp only [Option.some.injEq, Addr.mk.injEq] at e; have := HGW.out; omega) hLs hLl HLV.out.2.1.1 (by have := HNE.out; omega) hn2 (by have := HNE.out; omega) (by omega) (by rw [Nat.add_sub_cancel]; exact HLV.out.2.1.2) hlt
      rw [show lv.length = n + 1 from HLV.out.2.1.1]
      have HLG := hid hlong
      have HLVV := hid hLv
      clear hlong hLv hlt hArr hLs hLl hc8 hb7 hc7 hL hg HMK HBL HWC HMIN HFIT hh6 hb6
      go_wp2_with fail
      refine HLG.out.mono ?_
      rintro e w8 ⟨⟨L', O, rfl, k1, k2, k3, k4, k5, k6, k7, k8⟩, hg8⟩
      have hE58 : Ext w5 w8 := by
        have h1 := HGW.out
        subst h1
        exact Below.grown hE57 hg8 hE57.size (fun k hk => Nat.le_of_eq (Option.some.inj hk))
      have hrL := own_rn k5 k2
      have hrO := own_rn k6 k4
      rw [k1] at hrL
      rw [k3] at hrO
      have HSR := hid (Shr_any (n := s) hrL (by rw [k1]; omega) (by omega))
      have HRO := hid hrO
      have hds := divmod_shift (x := nval WB l1) (y := nval WB l2) (t := 2 ^ s) (q := nval WB O) (r := nval WB L') HS.out.2.2.2 (by rw [← HLVV.out, k7, HLV.out.1]) (by rw [← HLV.out.1]; exact k8)
      have HDS := hid hds
      have HOL := hid k3
      have hx58 := hx3.trans ((hx4.trans hx5).trans hE58)
      clear k1 k2 k3 k4 k5 k6 k7 k8 hrL hrO hg8 hds
      go_wp2_with fail
      refine HSR.out.mono ?_
      rintro e w9 ⟨⟨v9, rfl, h9⟩, hx9⟩
      have H9 := hid h9
      have HNO := hid (Norm_any (HRO.out.ext hx9) (by rw [HOL.out]; omega))
      clear h9
      go_wp2_with fail
      refine HNO.out.mono ?_
      rintro e w10 ⟨⟨v10, rfl, h10⟩, hx10⟩
      have H10 := hid h10
      clear h10
      go_wp2
      go_ret3
      have hxx := (hx.trans hx58).trans hx9
      refine ⟨⟨_, _, rfl, ?_, ?_⟩, hxx.trans hx10⟩
      · have := H10.out
        rw [HDS.out.1, HV.out.1, HV.out.2] at this
        exact this.mono hxx.size
      · have := H9.out
        rw [HDS.out.2, HV.out.1, HV.out.2] at this
        exact (this.mono ((hx.trans hx58)).size).ext hx10
end Go.Proofs.Ytkdonndeogihfaa

import Derived.Test.YtkdonndeogihfaaNat5
/- Package nat: row, Mul. -/
set_option linter.unusedVariables false
set_option linter.unusedSimpArgs false
namespace Go.Proofs.Ytkdonndeogihfaa
open Go.RowKit QM

/-- A cell of a slice that does not lie in block g. -/
theorem rd_apart {w wr : World} {oa : Option Addr} {n ca g : Nat} {la : List Nat} (ha : RN w (.slice oa n ca) la) (hE : w.grownBy wr (some g)) (hg : ∀ b o, oa = some ⟨b, o, none⟩ → b ≠ g) {i : Nat} (hi : i < n) :
    ∃ b o, oa = some ⟨b, o, none⟩ ∧ wr.cell? ⟨b, o + i, none⟩ = some (.int .u64 ((gd la i : Nat) : Int)) ∧ b ≠ g := by
  have hl := ha.len
  obtain ⟨oa', cap', hv, h1, h2, h3, h4, h5⟩ := ha
  simp only [Value.slice.injEq] at hv
  obtain ⟨rfl, e2, rfl⟩ := hv
  obtain ⟨b, o, e, c⟩ := h5 i (by omega)
  exact ⟨b, o, e, hE.cell c (by simpa using hg b o e), hg b o e⟩
theorem grown_trans {a b c : World} {row : Option Nat} (h : a.grownBy b row) (k : b.grownBy c row) : a.grownBy c row :=
  ⟨k.os.trans h.os, k.tape.trans h.tape, k.output.trans h.output, Nat.le_trans h.size k.size, fun i hi hr => (k.block i (Nat.lt_of_lt_of_le hi h.size) hr).trans (h.block i hi hr)⟩
theorem grown_set (w : World) (g i : Nat) (v : Value) : w.grownBy (w.setCell ⟨g, i, none⟩ v) (some g) :=
  ⟨rfl, rfl, rfl, by simp [World.setCell], fun k _ hk => Below.heap_setCell _ _ _ _ (by intro e; exact hk (by rw [e]))⟩
set_option maxRecDepth 100000 in
set_option maxHeartbeats 1000000 in
theorem row_any {base g o x ca : Nat} {w : World} {L la : List Nat} {oa : Option Addr} (hA : Arr base w g L) (ha : RN w (.slice oa la.length ca) la) (hg : 0 < la.length → ∀ b o, oa = some ⟨b, o, none⟩ → b ≠ g)
    (hx : x < WB) (hL : Sm WB L) (ho : o + la.length < L.length) (hn : L.length ≤ 4398046511104) (h0 : gd L (o + la.length) = 0) :
    Calls Try.prog 92 #[.slice (some ⟨g, o, none⟩) (L.length - o) (L.length - o), .slice oa la.length ca, .int .u64 (x : Int)] w fun e w' => e = .returned (.tuple #[]) ∧
      (∃ r, r.length = la.length + 1 ∧ Arr base w' g (patch L o r) ∧ Sm WB (patch L o r) ∧ nval WB (patch L o r) = nval WB L + WB ^ o * (x * nval WB la)) ∧ w.grownBy w' (some g) := by
  have hsa := hid ha.sm
  generalize hN : L.length = N at ho hn ⊢
  generalize hnn : la.length = n at ha ho h0 hg ⊢
  have HN := hid hN
  have HNN := hid hnn
  have HX := hid hx
  have HL := hid hL
  have H0 := hid h0
  clear hN hnn hx hL h0
  go_enter Try.func92, Try.ntmps92
  go_wp2_with fail
  go_loopw [6, 14] (fun c k wr => ∃ (i : Nat) (r : List Nat) (cy : Nat), i ≤ n ∧ k = .int .i64 i ∧ c = .int .u64 cy ∧ MacInvB WB (L.drop o) la x i r cy ∧ Arr base wr g (patch L o r) ∧ w.grownBy wr (some g)) (fun _ k _ => n - (intOf k).toNat)
  case atStart => exact ⟨0, [], 0, by omega, rfl, rfl, MacInvB.start WB_pos _ _ _, by rw [patch_nil]; exact hA, World.grownBy.refl _ _⟩
  case round =>
    obtain ⟨i, r, cc, hi', rfl, rfl, hinv, hAr, hEr⟩ := hrel
    have hcc := hinv.2.2.1
    have hrl := hinv.1
    have hlen : (patch L o r).length = N := by rw [patch_length (by have := HN.out; omega)]; exact HN.out
    by_cases hilt : i < n
    · obtain ⟨bx, ofx, rfl, hcx, hbg⟩ := rd_apart ha hEr (hg (by omega)) hilt
      have hout := hAr.cell (i := o + i) (by omega)
      rw [patch_gd (by have := HN.out; omega) (by omega)] at hout
      have hfz := hAr.frozen (o + i)
      have hyl := gd_lt hsa.out i
      have hgl := gd_lt HL.out (o + i)
      have hm := mac64 HX.out hyl hgl hcc
      have hM := Mul64_any x (gd la i) HX.out hyl
      have hst := hAr.store (o + i) (lo64 (lo64 (lo64 (x * gd la i) + gd L (o + i)) + cc))
      rw [← hrl, patch_set (by have := HN.out; omega), hrl] at hst
      have hstep := hinv.step (lo64_lt _) hm.1 (by rw [gd_drop']; exact hm.2)
      have hgr := grown_trans hEr (grown_set wr g (o + i) (.int .u64 ((lo64 (lo64 (lo64 (x * gd la i) + gd L (o + i)) + cc) : Nat) : Int)))
      have hb : hi64 (x * gd la i) + hi64 (lo64 (x * gd la i) + gd L (o + i)) + hi64 (lo64 (lo64 (x * gd la i) + gd L (o + i)) + cc) ≤ 18446744073709551615 := by have := hm.1; rw [WB_eq] at this; omega
      have ha1 := Add64_runc (lo64 (x * gd la i)) (gd L (o + i))
      have ha2 := Add64_runc (lo64 (lo64 (x * gd la i) + gd L (o + i))) cc
      have HM := hid hM
      have HST := hid hst
      have HSTEP := hid hstep
      have HGR := hid hgr
      clear hM hst hstep hgr hm hyl hgl hlen hAr hinv hrl hEr hA ha hg hcc
      go_wp2_with fail
      refine (HM.out _).mono ?_
      rintro e w' ⟨rfl, rfl⟩
      go_wp2
      go_roundw
      case rel => exact ⟨i + 1, _, _, by omega, by go_num, by go_num, HSTEP.out, HST.out, HGR.out⟩
      case measure => simp [intOf]; omega
    · have hin : i = n := by omega
      subst hin
      have hout := hAr.cell (i := o + i) (by omega)
      rw [patch_gd (by have := HN.out; omega) (by omega), H0.out] at hout
      have hfz := hAr.frozen (o + i)
      have hd := mac_done WB_one HL.out (Nat.le_of_eq HNN.out) (by have := HN.out; omega) H0.out hinv
      have hst := hAr.store (o + i) cc
      rw [← hrl, patch_set (by have := HN.out; omega), hrl] at hst
      have hgr := grown_trans hEr (grown_set wr g (o + i) (.int .u64 (cc : Int)))
      have hrl2 : (r ++ [cc]).length = i + 1 := by simp [hrl]
      have HST := hid hst
      have HD := hid hd
      have HGR := hid hgr
      have HR := hid hrl2
      clear hst hd hgr hlen hAr hinv hrl hrl2 hEr hA ha hg hcc
      go_wp2
      go_end0
      exact ⟨rfl, ⟨r ++ [cc], HR.out, HST.out, HD.out.1, HD.out.2⟩, HGR.out⟩
theorem mul_step {b q u a y p : Nat} : a * u + p * (y * a) = a * (u + p * y) := by grind
theorem mul_step' {B : Nat} {la lb L : List Nat} {i : Nat} (h : nval B L = nval B la * nval B (lb.take i)) : nval B L + B ^ i * (gd lb i * nval B la) = nval B la * nval B (lb.take (i + 1)) := by
  rw [nval_take_gd, h]; exact mul_step (b := 0) (q := 0)
theorem RN.norm {w : World} {oa : Option Addr} {n ca : Nat} {l : List Nat} (h : RN w (.slice oa n ca) (l.take n)) : RN w (.slice oa (l.take n).length ca) (l.take n) := by
  have := h.len; rw [← this]; exact h
set_option maxRecDepth 100000 in
set_option maxHeartbeats 1000000 in
/-- Mul: the product, word by word. -/
theorem nMul_any {w : World} {va vb : Value} {la lb : List Nat} (ha : RN w va la) (hb : RN w vb lb) (hna : la.length ≤ 1099511627775) (hnb : lb.length ≤ 1099511627775) :
    Calls Try.prog 79 #[va, vb] w fun e w' => (∃ v, e = .returned v ∧ ON w.heap.size w' v (nval WB la * nval WB lb)) ∧ Ext w w' := by
  obtain ⟨oa, ca, rfl, _⟩ := id ha
  obtain ⟨ob, cb, rfl, _⟩ := id hb
  have ka := tlen_le la
  have kb := tlen_le lb
  have CA := hid (trim_any ha (by omega))
  have CB := hid (trim_any hb (by omega))
  have hx := ha.take ka
  have hy := hb.take kb
  have hxl : (la.take (tlen la)).length = tlen la := by rw [List.length_take]; omega
  have hax : ∀ b o, oa = some ⟨b, o, none⟩ → 0 < tlen la → b < w.heap.size := by
    intro b o e h0
    obtain ⟨b', o', e', hc⟩ := rd_take hx (Ext.refl w) h0
    have := World.block_lt_of_cell? w _ hc
    simp only at this
    rw [e'] at e
    simp only [Option.some.injEq, Addr.mk.injEq] at e
    omega
  have HAX := hid hax
  have HXL := hid hxl
  have sb := hid hb.sm
  obtain ⟨i0, hi, hz0, hz1, hz2⟩ := info_parts infoU64
  clear ha hb hax hxl
  go_enter Try.func79, Try.ntmps79
  go_wp2_with fail
  refine CA.out.mono ?_
  rintro e w' ⟨rfl, rfl⟩
  go_wp2_with fail
  refine CB.out.mono ?_
  rintro e w' ⟨rfl, rfl⟩
  generalize hN : tlen la + tlen lb + 1 = N
  have hbytes : i0.bytes * N ≤ 281474976710656 := by rw [hz2]; omega
  have HNN := hid hN
  have hN1 : N ≤ 2199023255551 := by omega
  have hNi : ((tlen la : Int) + (tlen lb : Int) + 1) = (N : Int) := by omega
  have HNI := hid hNi
  clear hN hNi
  go_wp2_with (at_make; refine wpList_make_full _ rfl (.tmp 17) (.tmp 17) 23 rfl w.heap.size 73 i0 (.int .u64 0) 1 Try.underlying23 hi hz0 hz1 .i64 .i64 _ _ N rfl rfl HNI.out HNI.out hbytes (by unfold maxLen; omega) (Nat.le_refl _) ?_; intro w1 hown hgrow)
  have hA : Arr w.heap.size w1 w.heap.size (List.replicate N 0) := by
    rw [wv_zeros] at hown; unfold Arr; rw [List.length_replicate]; exact hown
  have hE : Ext w w1 := Below.grown (Below.refl _ _) hgrow (Nat.le_refl _) (fun k hk => by cases hk)
  clear hown hgrow
  go_loopw [21] (fun k wr => ∃ (i : Nat) (L : List Nat), i ≤ tlen lb ∧ k = .int .i64 i ∧ L.length = N ∧ Sm WB L ∧ nval WB L = nval WB (la.take (tlen la)) * nval WB (lb.take i) ∧ (∀ j, tlen la + i ≤ j → gd L j = 0) ∧ Arr w.heap.size wr w.heap.size L ∧ Ext w wr) (fun k _ => tlen lb - (intOf k).toNat)
  case atStart => exact ⟨0, List.replicate N 0, by omega, rfl, by simp, Sm.replicate WB_pos _, by rw [nval_replicate]; simp [nval], fun j _ => by simp [gd, List.getD_eq_getElem?_getD, List.getElem?_replicate]; split <;> rfl, hA, hE⟩
  case round =>
    obtain ⟨i, L, hi', rfl, hLl, hLs, hLv, hLz, hAr, hEr⟩ := hrel
    by_cases hilt : i < tlen lb
    · obtain ⟨by', ofy, rfl, hcy⟩ := rd_take hy hEr hilt
      have hrx : RN wr (.slice oa (la.take (tlen la)).length ca) (la.take (tlen la)) := by rw [HXL.out]; exact hx.ext hEr
      have hrow := row_any (o := i) (x := gd lb i) hAr hrx ?ap (gd_lt sb.out i) hLs (by rw [HXL.out, hLl]; have := HNN.out; omega) (by omega) (hLz _ (by rw [HXL.out]; omega))
      case ap => intro h0 b o e; have := HAX.out b o e (by rw [HXL.out] at h0; exact h0); omega
      have HR := hid hrow
      rw [HXL.out, hLl] at HR
      have HLV := hid hLv
      have HLZ := hid hLz
      have HLL := hid hLl
      have hlim : i + (tlen la + 1) ≤ N := by have := HNN.out; omega
      clear hrow hLv hLz hLs hLl hAr hrx hx hy
      go_wp2_with fail
      refine HR.out.mono ?_
      rintro e w2 ⟨rfl, ⟨r, hr1, hr2, hr3, hr4⟩, hr5⟩
      have h1 := hid hr1
      have h2 := hid hr2
      have h3 := hid hr3
      have h4 := hid hr4
      have h5 : Ext w w2 := Below.grown hEr hr5 hEr.size (by intro k hk; cases hk; exact Nat.le_refl _)
      clear hr1 hr2 hr3 hr4 hr5
      go_wp2
      go_roundw
      case rel => exact ⟨i + 1, _, by omega, by go_num, by rw [patch_length (by rw [HLL.out, h1.out]; exact hlim)]; exact HLL.out, h3.out, by rw [h4.out]; exact mul_step' HLV.out, fun j hj => by rw [patch_gd (by rw [HLL.out]; omega) (by rw [h1.out]; omega)]; exact HLZ.out j (by omega), h2.out, h5⟩
      case measure => simp [intOf]; omega
    · have hin : i = tlen lb := by omega
      subst hin
      have hno := normal_own hAr.own hLs (by omega)
      rw [hLl] at hno
      rw [nval_tlen, nval_tlen] at hLv
      have HNO := hid hno
      have HLV := hid hLv
      clear hno hLv hLz hLs hLl hAr hx hy
      go_wp2_with fail
      refine HNO.out.mono ?_
      rintro e w' ⟨⟨v, rfl, ho⟩, rfl⟩
      go_wp2
      go_ret
      exact ⟨⟨_, rfl, by rw [← HLV.out]; exact ho⟩, hEr⟩
end Go.Proofs.Ytkdonndeogihfaa

import Derived.Test.YtkdonndeogihfaaDiv3
import Derived.StillTailTactics
/- Package div: long. -/
set_option linter.unusedVariables false
set_option linter.unusedSimpArgs false
namespace Go.Proofs.Ytkdonndeogihfaa
open Go.RowKit QM
theorem Arr.other {base g g' : Nat} {w w' : World} {l : List Nat} (h : Arr base w g l) (he : w.grownBy w' (some g')) (hne : g ≠ g') : Arr base w' g l :=
  World.ownsRow.kept h (w' := w') (row := some g') he (.inr (by simpa [Value.ownBlock] using hne))
theorem Arr.kept0 {base g : Nat} {w w' : World} {l : List Nat} (h : Arr base w g l) (he : w.grownBy w' none) : Arr base w' g l :=
  World.ownsRow.kept h (w' := w') (row := none) he (.inr (by simp [Value.ownBlock]))
theorem Arr.mono {base base' g : Nat} {w : World} {l : List Nat} (h : Arr base' w g l) (hb : base ≤ base') : Arr base w g l := by
  refine ⟨h.1, ?_⟩
  rcases h.2 with h | ⟨g, cap, cur, e1, e2, e3⟩
  · exact .inl h
  · exact .inr ⟨g, cap, cur, e1, Nat.le_trans hb e2, e3⟩
theorem grown_ext {w w1 w2 : World} {row : Option Nat} (h : w.grownBy w1 row) (he : Ext w1 w2) : w.grownBy w2 row :=
  ⟨he.os.trans h.os, he.tape.trans h.tape, he.output.trans h.output, Nat.le_trans h.size he.size, fun k hk hr => (he.block (Nat.lt_of_lt_of_le hk h.size)).trans (h.block k hk hr)⟩
theorem grown_none {w w1 : World} {row : Option Nat} (h : w.grownBy w1 none) : w.grownBy w1 row :=
  ⟨h.os, h.tape, h.output, h.size, fun k hk _ => h.block k hk (by simp)⟩
theorem RN.apart {w wr : World} {oa : Option Addr} {n ca g : Nat} {la : List Nat} (ha : RN w (.slice oa n ca) la) (hE : w.grownBy wr (some g)) (hg : ∀ b o, oa = some ⟨b, o, none⟩ → b ≠ g) : RN wr (.slice oa n ca) la := by
  have hl := ha.len
  obtain ⟨oa', cap', hv, h1, h2, h3, h4, h5⟩ := id ha
  refine ⟨oa', cap', hv, h1, h2, h3, h4, fun i hi => ?_⟩
  obtain ⟨b, o, e, c, _⟩ := rd_apart ha hE hg (by omega : i < n)
  simp only [Value.slice.injEq] at hv
  exact ⟨b, o, by rw [← hv.1]; exact e, c⟩
set_option maxRecDepth 100000 in
set_option maxHeartbeats 4000000 in
theorem long_any {base g cv n N m : Nat} {w : World} {L lv : List Nat} {ov : Option Addr} (hA : Arr base w g L) (hv : RN w (.slice ov lv.length cv) lv) (hg : ∀ b o, ov = some ⟨b, o, none⟩ → b ≠ g)
    (hL : Sm WB L) (hN : L.length = N) (hn : lv.length = n) (hm : N - n = m) (hn2 : 2 ≤ n) (hnN : n < N) (hNb : N ≤ 4398046511104) (htop : 9223372036854775808 ≤ gd lv (n - 1)) (hlt : nval WB (L.drop m) < nval WB lv) :
    Calls Try.prog 70 #[.slice (some ⟨g, 0, none⟩) N N, .slice ov n cv] w fun e w' =>
      (∃ L' O, e = .returned (.slice (some ⟨w.heap.size, 0, none⟩) m m) ∧ L'.length = N ∧ Sm WB L' ∧ O.length = m ∧ Sm WB O ∧ Arr base w' g L' ∧ Arr w.heap.size w' w.heap.size O ∧ nval WB L = nval WB L' + nval WB lv * nval WB O ∧ nval WB L' < nval WB lv) ∧ w.grownBy w' (some g) := by
  have hsv := hid hv.sm
  have hbg := hA.base.2
  have HL := hid hL
  have HN := hid hN
  have HNN := hid hn
  have HT := hid htop
  have hmi : ((N : Int) - (n : Int)) = (m : Int) := by omega
  have hmN : m + n ≤ N := by omega
  have hmN2 : N ≤ m + n := by omega
  have hm1 : 1 ≤ m := by omega
  obtain ⟨i0, hi, hz0, hz1, hz2⟩ := info_parts infoU64
  have hbytes : i0.bytes * m ≤ 281474976710656 := by rw [hz2]; omega
  have HV := hid hv
  have HG := hid hg
  have HA := hid hA
  have HLT := hid hlt
  clear hL hN hn hm htop hv hg hA hlt
  go_enter Try.func70, Try.ntmps70
  go_wp2_with (at_make; refine wpList_make_full _ rfl (.tmp 15) (.tmp 15) 23 rfl w.heap.size 73 i0 (.int .u64 0) 1 Try.underlying23 hi hz0 hz1 .i64 .i64 _ _ m rfl rfl (by omega) (by omega) hbytes (by unfold maxLen; omega) (Nat.le_refl _) ?_; intro w1 hown hgrow)
  have hO : Arr w.heap.size w1 w.heap.size (List.replicate m 0) := by
    rw [wv_zeros] at hown; unfold Arr; rw [List.length_replicate]; exact hown
  have hA1 := HA.out.kept0 hgrow
  have hg1 : w.grownBy w1 (some g) := grown_none hgrow
  clear hown hgrow hmi
  go_loopw [7] (fun k wr => ∃ (i : Nat) (L' O : List Nat), i ≤ m ∧ k = .int .i64 ((i : Int) - 1) ∧ L'.length = N ∧ Sm WB L' ∧ O.length = m ∧ Sm WB O ∧ Arr base wr g L' ∧ Arr w.heap.size wr w.heap.size O ∧
      nval WB L = nval WB L' + nval WB lv * (WB ^ i * nval WB (O.drop i)) ∧ nval WB (L'.drop i) < nval WB lv ∧ w.grownBy wr (some g)) (fun k _ => (intOf k + 1).toNat)
  case atStart =>
    exact ⟨m, L, List.replicate m 0, by omega, rfl, HN.out, HL.out, by simp, Sm.replicate WB_pos _, hA1, hO, by rw [nval_zeros_drop]; simp, HLT.out, hg1⟩
  case round =>
    obtain ⟨i, L', O, him, rfl, hL'l, hL's, hOl, hOs, hAL, hAO, hval, hrem, hgr⟩ := hrel
    clear hO hA1 hg1
    by_cases hi0 : i = 0
    · subst hi0
      have hfin : nval WB L = nval WB L' + nval WB lv * nval WB O := by
        rw [hval]; simp
      have HF := hid hfin
      have HRM := hid hrem
      have HH := hid (And.intro hL'l (And.intro hL's (And.intro hOl (And.intro hOs (And.intro hAL (And.intro hAO hgr))))))
      clear hval hfin hrem hL'l hL's hOl hOs hAL hAO hgr
      go_wp2
      go_ret
      exact ⟨⟨L', O, rfl, HH.out.1, HH.out.2.1, HH.out.2.2.1, HH.out.2.2.2.1, HH.out.2.2.2.2.1, HH.out.2.2.2.2.2.1, HF.out, HRM.out⟩, HH.out.2.2.2.2.2.2⟩
    · obtain ⟨j, rfl⟩ : ∃ j, i = j + 1 := ⟨i - 1, by omega⟩
      have e1 : (((j + 1 : Nat) : Int) - 1) = (j : Int) := by omega
      rw [e1]
      obtain ⟨bv, ofv, rfl, hc1, hbvg⟩ := rd_apart HV.out hgr HG.out (i := n - 1) (by have := HNN.out; omega)
      obtain ⟨bv', ofv', e2, hc2, _⟩ := rd_apart HV.out hgr HG.out (i := n - 2) (by have := HNN.out; omega)
      simp only [Option.some.injEq, Addr.mk.injEq, and_true] at e2
      obtain ⟨rfl, rfl⟩ := e2
      have hu2 := hAL.cell (i := j + n) (by omega)
      have hu1 := hAL.cell (i := j + n - 1) (by omega)
      have hu0 := hAL.cell (i := j + n - 2) (by omega)
      have HH := hid (And.intro hL'l (And.intro hL's (And.intro hOl (And.intro hOs (And.intro hAL (And.intro hAO hgr))))))
      have HVAL := hid hval
      have HRM := hid hrem
      clear hval hrem hL'l hL's hOl hOs hAL hAO hgr e1 hi0
      go_upto_region 6 with fail
      have h2v : gd L' (j + n) ≤ gd lv (n - 1) := top_le WB_pos hsv.out HNN.out (by omega) HRM.out
      have HGS := hid (fun w : World => guess_any (u2 := gd L' (j + n)) (u1 := gd L' (j + n - 1)) (u0 := gd L' (j + n - 2)) (v1 := gd lv (n - 1)) (v0 := gd lv (n - 2)) h2v (gd_lt HH.out.2.1 _) (gd_lt HH.out.2.1 _) (gd_lt hsv.out _) (gd_lt hsv.out _) (by have := HT.out; omega) w)
      go_cut [8] (fun s8 wx => ∃ q : Nat, s8 = .int .u64 q ∧ Hid (Guess (gd L' (j + n)) (gd L' (j + n - 1)) (gd L' (j + n - 2)) (gd lv (n - 1)) (gd lv (n - 2)) q) ∧ Ext wr wx)
      case first =>
        have z1 : (0 : Int) ≤ (j : Int) + (n : Int) ∧ (j : Int) + (n : Int) < (N : Int) := by omega
        have z2 : (0 : Int) ≤ (j : Int) + (n : Int) - 1 ∧ (j : Int) + (n : Int) - 1 < (N : Int) := by omega
        have z3 : (0 : Int) ≤ (j : Int) + (n : Int) - 2 ∧ (j : Int) + (n : Int) - 2 < (N : Int) := by omega
        have z4 : (0 : Int) ≤ (n : Int) - 1 ∧ (n : Int) - 1 < (n : Int) := by omega
        have z5 : (0 : Int) ≤ (n : Int) - 2 ∧ (n : Int) - 2 < (n : Int) := by omega
        have x1 : (1 : Int) ≤ (j : Int) + (n : Int) ∧ (2 : Int) ≤ (j : Int) + (n : Int) ∧ (j : Int) + (n : Int) ≤ (N : Int) ∧ (1 : Int) ≤ (n : Int) ∧ (2 : Int) ≤ (n : Int) := by omega
        have x2 : j + n ≤ N ∧ 1 ≤ n ∧ 1 ≤ j + n ∧ 2 ≤ j + n := by omega
        have t1 : ((j : Int) + (n : Int)).toNat = j + n := by omega
        have t2 : ((j : Int) + (n : Int) - 1).toNat = j + n - 1 := by omega
        have t3 : ((j : Int) + (n : Int) - 2).toNat = j + n - 2 := by omega
        have t4 : ((n : Int) - 1).toNat = n - 1 := by omega
        have t5 : ((n : Int) - 2).toNat = n - 2 := by omega
        have y1 : IntKind.i64.wrap ((j : Int) + (n : Int)) = (j : Int) + (n : Int) := IntWalk.i64_in _ (by omega)
        have y2 : IntKind.i64.wrap ((j : Int) + (n : Int) - 1) = (j : Int) + (n : Int) - 1 := IntWalk.i64_in _ (by clear y1; omega)
        have y3 : IntKind.i64.wrap ((j : Int) + (n : Int) - 2) = (j : Int) + (n : Int) - 2 := IntWalk.i64_in _ (by clear y1 y2; omega)
        have y4 : IntKind.i64.wrap ((n : Int) - 1) = (n : Int) - 1 := IntWalk.i64_in _ (by clear y1 y2 y3; omega)
        have y5 : IntKind.i64.wrap ((n : Int) - 2) = (n : Int) - 2 := IntWalk.i64_in _ (by clear y1 y2 y3 y4; omega)
        obtain ⟨z1, z1'⟩ := z1
        obtain ⟨z2, z2'⟩ := z2
        obtain ⟨z3, z3'⟩ := z3
        obtain ⟨z4, z4'⟩ := z4
        obtain ⟨z5, z5'⟩ := z5
        obtain ⟨x1, x3, x4, x5, x6⟩ := x1
        obtain ⟨x7, x8, x9, x10⟩ := x2
        go_still_tail 30, (by kernel_rfl)
        clear x1 x3 x4 x5 x6 x7 x8 x9 x10 y1 y2 y3 y4 y5 t1 t2 t3 t4 t5 z1 z2 z3 z4 z5 z1' z2' z3' z4' z5'
        change wpList _ _ _ _ _ wr.drew
        go_wp2_with fail
        refine (HGS.out _).mono ?_
        rintro e w2 ⟨⟨q, rfl, hG⟩, hx⟩
        have HG2 := hid hG
        clear hG
        go_wp2_with fail
        go_meet
        exact ⟨_, rfl, HG2, (Ext.drew _).trans hx⟩
      case rest =>
        obtain ⟨q, rfl, HG2, hx2⟩ := hcut
        clear HGS h2v hu2 hu1 hu0 hc1 hc2
        have hld := hid (long_digit WB_one HH.out.2.1 hsv.out HNN.out hn2 (by have := HT.out; omega) HRM.out HG2.out.1 HG2.out.2.1 HG2.out.2.2)
        have hgr2 := grown_ext HH.out.2.2.2.2.2.2 hx2
        have hAL2 := HH.out.2.2.2.2.1.ext hx2
        have hAO2 := HH.out.2.2.2.2.2.1.ext hx2
        have hvr : RN wc (.slice (some ⟨bv, ofv, none⟩) lv.length cv) lv := RN.apart HV.out hgr2 HG.out
        have ht := take_any (j := j) (q := q) (cu := N - j) hAL2 hvr (fun _ b o e => HG.out b o e) HG2.out.1 HH.out.2.1 (by rw [HH.out.1, HNN.out]; omega) (by rw [HH.out.1]; omega)
        rw [HNN.out] at ht
        have HTK := hid ht
        clear ht
        have ec : j + n + 1 - j = n + 1 := by omega
        go_wp2_with fail
        refine HTK.out.mono ?_
        rintro e w3 ⟨⟨r, bw, rfl, hbw, hr1, hr2, hr3, hr4⟩, hg3⟩
        rw [hld.out.2.1] at hr4
        have HR4 := hid hr4
        clear hr4
        have hgr3 := grown_trans hgr2 hg3
        have hne : w.heap.size ≠ g := by omega
        have hAO3 := hAO2.other hg3 hne
        have hpl : (patch L' j r).length = N := by rw [patch_length (by rw [HH.out.1]; omega)]; exact HH.out.1
        have hps : Sm WB (patch L' j r) := patch_sm HH.out.2.1 hr2
        clear hAL2 hAO2 hvr HTK hx2 hgr2 hg3
        rcases (show bw = 0 ∨ bw = 1 from by omega) with rfl | rfl
        · have hrt := long_right0 HR4.out hld.out.2.2.1
          have hpt := long_patch (L := L') (r := r) (O := O) (j := j) (n := n) (q := q) (v := nval WB lv) (B := WB) hr1 (by rw [HH.out.1]; omega) hld.out.1 hrt.2 (by rw [HH.out.2.2.1]; omega)
          have hout := hAO3.cell (i := j) (by rw [HH.out.2.2.1]; omega)
          have hfz := hAO3.frozen j
          have hst := hAO3.store j q
          have hgs := grown_set w3 w.heap.size j (.int .u64 (q : Int))
          have hAL3 := hr3.other hgs (by omega)
          have hgf : w.grownBy (w3.setCell ⟨w.heap.size, j, none⟩ (.int .u64 (q : Int))) (some g) := ⟨hgr3.os, hgr3.tape, hgr3.output, by rw [show (w3.setCell ⟨w.heap.size, j, none⟩ (.int .u64 (q : Int))).heap.size = w3.heap.size from by simp [World.setCell]]; exact hgr3.size, fun k hk hr => (Below.heap_setCell _ _ _ _ (by simp; omega)).trans (hgr3.block k hk hr)⟩
          have HF := hid (And.intro hst (And.intro hAL3 (And.intro hgf (And.intro hpl (And.intro hps (And.intro hpt hrt))))))
          clear hst hgs hAL3 hgf hpl hps hpt hrt hr1 hr2 hr3 hgr3 hAO3 hbw ec
          go_wp2
          go_roundw
          case rel =>
            refine ⟨j, patch L' j r, O.set j q, by omega, by go_num, HF.out.2.2.2.1, HF.out.2.2.2.2.1, by rw [List.length_set]; exact HH.out.2.2.1, HH.out.2.2.2.1.set j HG2.out.1, HF.out.2.1, HF.out.1, ?_, ?_, HF.out.2.2.1⟩
            · rw [HVAL.out]; exact HF.out.2.2.2.2.2.1.2
            · rw [HF.out.2.2.2.2.2.1.1]; exact HF.out.2.2.2.2.2.2.1
          case measure => first | (simp [intOf]; done) | (simp [intOf]; omega)
        · have hb := back_any (j := j) (cu := N - j) hr3 (RN.apart HV.out hgr3 HG.out) (fun _ b o e => HG.out b o e) hps (by rw [hpl, HNN.out]; omega) (by rw [hpl]; omega)
          rw [HNN.out] at hb
          have hq1 : 1 ≤ q := long_one HR4.out hr2 hr1
          obtain ⟨q', hq'⟩ : ∃ q', q = q' + 1 := ⟨q - 1, by omega⟩
          have hqi : (q : Int) - 1 = (q' : Int) := by omega
          have hqb : q ≤ 18446744073709551615 := by have := HG2.out.1; rw [WB_eq] at this; omega
          have hdt : nval WB (((patch L' j r).drop j).take (n + 1)) = nval WB r := by rw [← hr1, patch_drop_take (by rw [HH.out.1]; omega)]
          rw [hdt] at hb
          have HB := hid hb
          have HR := hid (And.intro hr1 (And.intro hr2 HR4.out))
          have HQ := hid hq'
          have HP := hid (And.intro hpl hps)
          have HG3 := hid (And.intro hgr3 hAO3)
          clear hb hr1 hr2 hr3 hq' hdt hpl hps hgr3 hAO3 hbw
          go_wp2_with fail
          refine HB.out.mono ?_
          rintro e w4 ⟨rfl, ⟨r2, ov, k1, k2, k3, k4⟩, hg4⟩
          have hbk := long_back1 WB_one HR.out.2.2 HR.out.2.1 k2 hsv.out HR.out.1 k1 HNN.out hld.out.2.2.2 k4
          have K4 := hid k4
          clear k4
          have hq'' : q - 1 = q' := by have := HQ.out; omega
          rw [hq''] at hbk
          rw [patch_patch (by rw [HH.out.1]; omega) (by rw [k1, HR.out.1])] at k3
          have hpt := long_patch (L := L') (r := r2) (O := O) (j := j) (n := n) (q := q') (v := nval WB lv) (B := WB) k1 (by rw [HH.out.1]; omega) hld.out.1 hbk.2.2 (by rw [HH.out.2.2.1]; omega)
          have hgr4 := grown_trans HG3.out.1 hg4
          have hAO4 := HG3.out.2.other hg4 hne
          have hpl2 : (patch L' j r2).length = N := by rw [patch_length (by rw [HH.out.1]; omega)]; exact HH.out.1
          have hps2 : Sm WB (patch L' j r2) := patch_sm HH.out.2.1 k2
          have hout := hAO4.cell (i := j) (by rw [HH.out.2.2.1]; omega)
          have hfz := hAO4.frozen j
          have hst := hAO4.store j q'
          have hgs := grown_set w4 w.heap.size j (.int .u64 (q' : Int))
          have hAL4 := k3.other hgs (by omega)
          have hgf : w.grownBy (w4.setCell ⟨w.heap.size, j, none⟩ (.int .u64 (q' : Int))) (some g) := ⟨hgr4.os, hgr4.tape, hgr4.output, by rw [show (w4.setCell ⟨w.heap.size, j, none⟩ (.int .u64 (q' : Int))).heap.size = w4.heap.size from by simp [World.setCell]]; exact hgr4.size, fun k hk hr => (Below.heap_setCell _ _ _ _ (by simp; omega)).trans (hgr4.block k hk hr)⟩
          have HF := hid (And.intro hst (And.intro hAL4 (And.intro hgf (And.intro hpl2 (And.intro hps2 (And.intro hpt hbk))))))
          clear hst hgs hAL4 hgf hpl2 hps2 hpt hbk k1 k2 k3 hg4 hgr4 hAO4 hq''
          go_wp2
          go_roundw
          case rel =>
            refine ⟨j, patch L' j r2, O.set j q', by omega, by go_num, HF.out.2.2.2.1, HF.out.2.2.2.2.1, by rw [List.length_set]; exact HH.out.2.2.1, HH.out.2.2.2.1.set j (by have := HG2.out.1; have := HQ.out; omega), HF.out.2.1, HF.out.1, ?_, ?_, HF.out.2.2.1⟩
            · rw [HVAL.out]; exact HF.out.2.2.2.2.2.1.2
            · rw [HF.out.2.2.2.2.2.1.1]; exact HF.out.2.2.2.2.2.2.2.1
          case measure => first | (simp [intOf]; done) | (simp [intOf]; omega)
end Go.Proofs.Ytkdonndeogihfaa

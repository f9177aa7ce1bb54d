import Derived.Test.YtkdonndeogihfaaDiv2
import Derived.Test.YtkdonndeogihfaaNat6
/- Package div: take, back. -/
set_option linter.unusedVariables false
set_option linter.unusedSimpArgs false
namespace Go.Proofs.Ytkdonndeogihfaa
open Go.RowKit QM
theorem mul_carry {x y c : Nat} (hx : x < WB) (hy : y < WB) (hc : c < WB) :
    hi64 (x * y) + hi64 (lo64 (x * y) + c) < WB ∧ lo64 (lo64 (x * y) + c) + WB * (hi64 (x * y) + hi64 (lo64 (x * y) + c)) = x * y + c := by
  have h := mac_bound hx hy (show 0 < WB from WB_pos) hc
  have h1 := lohi (x * y)
  have h2 := lohi (lo64 (x * y) + c)
  generalize x * y = p at *
  unfold WB at *
  omega
set_option maxRecDepth 100000 in
set_option maxHeartbeats 2000000 in
theorem take_any {base g j q cv cu : Nat} {w : World} {L lv : List Nat} {ov : Option Addr} (hA : Arr base w g L) (hv : RN w (.slice ov lv.length cv) lv) (hg : 0 < lv.length → ∀ b o, ov = some ⟨b, o, none⟩ → b ≠ g)
    (hq : q < WB) (hL : Sm WB L) (ho : j + lv.length < L.length) (hn : L.length ≤ 4398046511104) :
    Calls Try.prog 90 #[.slice (some ⟨g, j, none⟩) (lv.length + 1) cu, .slice ov lv.length cv, .int .u64 (q : Int)] w fun e w' =>
      (∃ r bw, e = .returned (.bool (decide (bw = 1))) ∧ bw ≤ 1 ∧ r.length = lv.length + 1 ∧ Sm WB r ∧ Arr base w' g (patch L j r) ∧ nval WB r + q * nval WB lv = nval WB ((L.drop j).take (lv.length + 1)) + WB ^ (lv.length + 1) * bw) ∧ w.grownBy w' (some g) := by
  have hsv := hid hv.sm
  generalize hN : L.length = N at ho hn
  generalize hnn : lv.length = n at hv ho hg ⊢
  have HN := hid hN
  have HNN := hid hnn
  have HQ := hid hq
  have HL := hid hL
  clear hN hnn hq hL
  go_enter Try.func90, Try.ntmps90
  go_wp2_with fail
  go_loopw [7, 8, 16] (fun c b k wr => ∃ (i : Nat) (r : List Nat) (cy bw : Nat), i ≤ n ∧ k = .int .i64 i ∧ c = .int .u64 cy ∧ b = .int .u64 bw ∧ TakeInvB WB q (L.drop j) lv i r cy bw ∧ Arr base wr g (patch L j r) ∧ w.grownBy wr (some g)) (fun _ _ k _ => n - (intOf k).toNat)
  case atStart => exact ⟨0, [], 0, 0, by omega, rfl, rfl, rfl, TakeInvB.start WB_pos _ _, by rw [patch_nil]; exact hA, World.grownBy.refl _ _⟩
  case round =>
    obtain ⟨i, r, cc, bb, hi', rfl, rfl, rfl, hinv, hAr, hEr⟩ := hrel
    have hcc := hinv.2.2.1
    have hbb := hinv.2.2.2.1
    have hrl := hinv.1
    have hlen : (patch L j r).length = N := by rw [patch_length (by have := HN.out; omega)]; exact HN.out
    have hout := hAr.cell (i := j + i) (by omega)
    rw [patch_gd (by have := HN.out; omega) (by omega)] at hout
    have hfz := hAr.frozen (j + i)
    by_cases hilt : i < n
    · obtain ⟨bx, ofx, rfl, hcx, hbg⟩ := rd_apart hv hEr (hg (by omega)) hilt
      have hyl := gd_lt hsv.out i
      have hgl := gd_lt HL.out (j + i)
      have hm := mul_carry HQ.out hyl hcc
      have HM := hid (Mul64_any q (gd lv i) HQ.out hyl)
      have ha := Add64_runc (lo64 (q * gd lv i)) cc
      have hsb := Sub64_run (gd L (j + i)) (lo64 (lo64 (q * gd lv i) + cc)) bb hbb
      have hsp := sb64_spec hgl (lo64_lt (lo64 (q * gd lv i) + cc)) hbb
      have hst := hAr.store (j + i) (sb64 (gd L (j + i)) (lo64 (lo64 (q * gd lv i) + cc)) bb)
      rw [← hrl, patch_set (by have := HN.out; omega), hrl] at hst
      have hstep := hinv.step hsp.2.1 hm.1 hsp.2.2 hm.2 (by rw [gd_drop']; exact hsp.1)
      have hgr := grown_trans hEr (grown_set wr g (j + i) (.int .u64 ((sb64 (gd L (j + i)) (lo64 (lo64 (q * gd lv i) + cc)) bb : Nat) : Int)))
      have hb : hi64 (q * gd lv i) + hi64 (lo64 (q * gd lv i) + cc) ≤ 18446744073709551615 := by have := hm.1; rw [WB_eq] at this; omega
      have HST := hid hst
      have HSTEP := hid hstep
      have HGR := hid hgr
      clear hst hstep hgr hm hyl hgl hlen hAr hinv hrl hEr hA hv hg hcc hsp hbb
      go_wp2_with fail
      refine (HM.out _).mono ?_
      rintro e w' ⟨rfl, rfl⟩
      go_wp2
      go_roundw
      case rel => exact ⟨i + 1, _, _, _, by omega, by go_num, by go_num, rfl, HSTEP.out, HST.out, HGR.out⟩
      case measure => simp [intOf]; omega
    · have hin : i = n := by omega
      subst hin
      have hgl := gd_lt HL.out (j + i)
      have hsb := Sub64_run (gd L (j + i)) cc bb hbb
      have hsp := sb64_spec hgl hcc hbb
      have hst := hAr.store (j + i) (sb64 (gd L (j + i)) cc bb)
      rw [← hrl, patch_set (by have := HN.out; omega), hrl] at hst
      have hdone := hinv.done (Nat.le_of_eq HNN.out) hsp.2.1 (by rw [gd_drop']; exact hsp.1)
      have hgr := grown_trans hEr (grown_set wr g (j + i) (.int .u64 ((sb64 (gd L (j + i)) cc bb : Nat) : Int)))
      have hb1 := hsp.2.2
      have HST := hid hst
      have HD := hid hdone
      have HGR := hid hgr
      generalize hbw : bw64 (gd L (j + i)) cc bb = bw at *
      have hne : ((bw : Int) != 0) = decide (bw = 1) := by
        have : bw = 0 ∨ bw = 1 := by omega
        rcases this with rfl | rfl <;> rfl
      clear hst hdone hgr hlen hAr hinv hrl hEr hA hv hg hcc hsp hbb hgl hbw
      go_wp2
      go_ret
      exact ⟨⟨_, bw, rfl, hb1, HD.out.2.1, HD.out.1, HST.out, HD.out.2.2⟩, HGR.out⟩
set_option maxRecDepth 100000 in
set_option maxHeartbeats 2000000 in
theorem back_any {base g j cv cu : Nat} {w : World} {L lv : List Nat} {ov : Option Addr} (hA : Arr base w g L) (hv : RN w (.slice ov lv.length cv) lv) (hg : 0 < lv.length → ∀ b o, ov = some ⟨b, o, none⟩ → b ≠ g)
    (hL : Sm WB L) (ho : j + lv.length < L.length) (hn : L.length ≤ 4398046511104) :
    Calls Try.prog 91 #[.slice (some ⟨g, j, none⟩) (lv.length + 1) cu, .slice ov lv.length cv] w fun e w' =>
      e = .returned (.tuple #[]) ∧ (∃ r ov, r.length = lv.length + 1 ∧ Sm WB r ∧ Arr base w' g (patch L j r) ∧ nval WB r + WB ^ (lv.length + 1) * ov = nval WB ((L.drop j).take (lv.length + 1)) + nval WB lv) ∧ w.grownBy w' (some g) := by
  have hsv := hid hv.sm
  generalize hN : L.length = N at ho hn
  generalize hnn : lv.length = n at hv ho hg ⊢
  have HN := hid hN
  have HNN := hid hnn
  have HL := hid hL
  clear hN hnn hL
  go_enter Try.func91, Try.ntmps91
  go_wp2_with fail
  go_loopw [4, 9] (fun c k wr => ∃ (i : Nat) (r : List Nat) (cy : Nat), i ≤ n ∧ k = .int .i64 i ∧ c = .int .u64 cy ∧ AddInv (L.drop j) lv i r cy ∧ Arr base wr g (patch L j r) ∧ w.grownBy wr (some g)) (fun _ k _ => n - (intOf k).toNat)
  case atStart => exact ⟨0, [], 0, by omega, rfl, rfl, AddInv.start _ _, by rw [patch_nil]; exact hA, World.grownBy.refl _ _⟩
  case round =>
    obtain ⟨i, r, cc, hi', rfl, rfl, hinv, hAr, hEr⟩ := hrel
    have hcc := hinv.2.2.1
    have hrl := hinv.1
    have hlen : (patch L j r).length = N := by rw [patch_length (by have := HN.out; omega)]; exact HN.out
    have hout := hAr.cell (i := j + i) (by omega)
    rw [patch_gd (by have := HN.out; omega) (by omega)] at hout
    have hfz := hAr.frozen (j + i)
    by_cases hilt : i < n
    · obtain ⟨bx, ofx, rfl, hcx, hbg⟩ := rd_apart hv hEr (hg (by omega)) hilt
      have ha := Add64_run (gd L (j + i)) (gd lv i) cc hcc
      have hst := hAr.store (j + i) (lo64 (gd L (j + i) + gd lv i + cc))
      rw [← hrl, patch_set (by have := HN.out; omega), hrl] at hst
      have hstep := hinv.step (HL.out.drop j) hsv.out
      rw [gd_drop'] at hstep
      have hgr := grown_trans hEr (grown_set wr g (j + i) (.int .u64 ((lo64 (gd L (j + i) + gd lv i + cc) : Nat) : Int)))
      have HST := hid hst
      have HSTEP := hid hstep
      have HGR := hid hgr
      clear hst hstep hgr hlen hAr hinv hrl hEr hA hv hg hcc
      go_wp2
      go_roundw
      case rel => exact ⟨i + 1, _, _, by omega, by go_num, rfl, HSTEP.out, HST.out, HGR.out⟩
      case measure => simp [intOf]; omega
    · have hin : i = n := by omega
      subst hin
      have hst := hAr.store (j + i) (lo64 (gd L (j + i) + cc))
      rw [← hrl, patch_set (by have := HN.out; omega), hrl] at hst
      have hdone := AddInvB.back hinv (Nat.le_of_eq HNN.out) (lo64_lt (gd L (j + i) + cc)) (o := hi64 (gd L (j + i) + cc)) (by rw [gd_drop']; exact lohi _)
      have hgr := grown_trans hEr (grown_set wr g (j + i) (.int .u64 ((lo64 (gd L (j + i) + cc) : Nat) : Int)))
      have hw : IntKind.u64.wrap (((gd L (j + i) : Nat) : Int) + (cc : Int)) = ((lo64 (gd L (j + i) + cc) : Nat) : Int) := by
        rw [← Int.natCast_add, bt_wrapM]; rfl
      have HST := hid hst
      have HD := hid hdone
      have HGR := hid hgr
      clear hst hdone hgr hlen hAr hinv hrl hEr hA hv hg hcc
      go_wp2
      go_end0
      exact ⟨rfl, ⟨_, _, HD.out.2.1, HD.out.1, HST.out, HD.out.2.2⟩, HGR.out⟩
end Go.Proofs.Ytkdonndeogihfaa

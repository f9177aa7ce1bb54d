import Derived.Test.YtkdonndeogihfaaNat1
/- Package nat: Of, Norm, Word, Cmp. -/
set_option linter.unusedVariables false
set_option linter.unusedSimpArgs false
namespace Go.Proofs.Ytkdonndeogihfaa
open Go.RowKit QM

theorem Of_zero (w : World) : Calls Try.prog 61 #[.int .u64 0] w fun e w' => e = .returned (.slice none 0 0) ∧ w = w' := by
  go_enter Try.func61, Try.ntmps61
  go_wp2
  go_ret
  exact ⟨rfl, rfl⟩
theorem Of_pos (x : Nat) (hx : 0 < x) (w : World) : Calls Try.prog 61 #[.int .u64 (x : Int)] w fun e w' => e = .returned (.slice (some ⟨w.heap.size, 0, none⟩) 1 1) ∧ w' = w.alloc (.cells #[.int .u64 (x : Int)] 73) := by
  have hb : ((x : Int) == 0) = false := by simp; omega
  clear hx
  go_enter Try.func61, Try.ntmps61
  go_wp2
  go_ret
  exact ⟨rfl, rfl⟩
/-- Of: a word's number. -/
theorem Of_any (x : Nat) (hx : x < WB) (w : World) : Calls Try.prog 61 #[.int .u64 (x : Int)] w fun e w' => (∃ v, e = .returned v ∧ NN w' v x) ∧ Ext w w' := by
  rcases Nat.eq_zero_or_pos x with h0 | h0
  · subst h0
    exact (Of_zero w).mono fun e w' ⟨he, hw⟩ => by subst he hw; exact ⟨⟨_, rfl, NN.zero _⟩, Ext.refl _⟩
  · refine (Of_pos x h0 w).mono fun e w' ⟨he, hw⟩ => ?_
    subst he hw
    refine ⟨⟨_, rfl, [x], RN.mk (l := [x]) (Sm.nil.cons hx) (Nat.le_refl _) (by simp [maxLen]) ?_, .inr (by simp; omega), by simp [nval], fun e => by simp at e⟩, Ext.alloc _ _⟩
    intro i hi
    simp at hi
    subst hi
    simp [gd]
def cmpI (x y : Nat) : Int := if x < y then -1 else if x = y then 0 else 1
theorem cmpI_lt {x y : Nat} (h : x < y) : cmpI x y = -1 := by simp [cmpI, h]
theorem cmpI_eq {x y : Nat} (h : x = y) : cmpI x y = 0 := by simp [cmpI, h]
theorem cmpI_gt {x y : Nat} (h : y < x) : cmpI x y = 1 := by unfold cmpI; rw [if_neg (by omega), if_neg (by omega)]
theorem drop_eq_of {a b : List Nat} {k : Nat} (h : ∀ j, k ≤ j → gd a j = gd b j) (hl : tlen a = tlen b) : (a.take (tlen a)).drop k = (b.take (tlen b)).drop k := by
  have ha := tlen_le a
  have hb := tlen_le b
  apply List.ext_getElem
  · simp; omega
  · intro i h1 h2
    simp at h1 h2
    have := h (k + i) (by omega)
    simpa [gd, List.getD_eq_getElem?_getD, List.getElem?_eq_getElem (show k + i < a.length by omega), List.getElem?_eq_getElem (show k + i < b.length by omega)] using this
theorem cmp_eq_of {a b : List Nat} (h : ∀ j, gd a j = gd b j) (hl : tlen a = tlen b) : nval WB a = nval WB b := by
  rw [← nval_tlen a, ← nval_tlen b]
  exact congrArg _ (by simpa using drop_eq_of (k := 0) (fun j _ => h j) hl)
theorem cmp_lt_of {a b : List Nat} {k : Nat} (ha : Sm WB a) (hb : Sm WB b) (h : ∀ j, k + 1 ≤ j → gd a j = gd b j) (hl : tlen a = tlen b) (hk : k < tlen a) (hx : gd a k < gd b k) : nval WB a < nval WB b := by
  have la := tlen_le a
  have lb := tlen_le b
  rw [← nval_tlen a, ← nval_tlen b]
  refine nval_lt_of (ha.take _) (hb.take _) (drop_eq_of h hl) (by simp; omega) ?_
  have e1 := gd_take (l := a) (n := tlen a) (i := k) hk
  have e2 := gd_take (l := b) (n := tlen b) (i := k) (by omega)
  unfold gd at *
  rw [e1, e2]; exact hx
theorem cmp_len_lt {a b : List Nat} (ha : Sm WB a) (h : tlen a < tlen b) : nval WB a < nval WB b := by
  have la := tlen_le a
  have lb := tlen_le b
  rw [← nval_tlen a, ← nval_tlen b]
  exact nval_len_lt WB_pos (ha.take _) (nrm_tlen b) (by simp; omega)

theorem Cmp_any {w : World} {va vb : Value} {la lb : List Nat} (ha : RN w va la) (hb : RN w vb lb) (hna : la.length ≤ 4398046511104) (hnb : lb.length ≤ 4398046511104) :
    Calls Try.prog 59 #[va, vb] w fun e w' => e = .returned (.int .i64 (cmpI (nval WB la) (nval WB lb))) ∧ Ext w w' := by
  have sa := ha.sm
  have sb := hb.sm
  have HSA := hid sa
  have HSB := hid sb
  have ka := tlen_le la
  have kb := tlen_le lb
  by_cases hl : tlen la = tlen lb
  · by_cases h0 : tlen la = 0
    · have hf : cmpI (nval WB la) (nval WB lb) = 0 := cmpI_eq (by rw [(nval_eq_zero WB_pos).2 h0, (nval_eq_zero WB_pos).2 (by omega)])
      have HF := hid hf
      obtain ⟨oa, ca, rfl, _⟩ := id ha
      obtain ⟨ob, cb, rfl, _⟩ := id hb
      have hb0 : tlen lb = 0 := by omega
      have hla : (tlen la != tlen lb) = false := by simp [hl]
      have ca := trim_any ha hna
      have cb := trim_any hb hnb
      rw [h0] at ca
      rw [hb0] at cb
      have CA := hid ca
      have CB := hid cb
      clear hf h0 hb0 hl hla ca cb sa sb ka kb ha hb
      go_enter Try.func59, Try.ntmps59
      go_wp2_with fail
      refine CA.out.mono ?_
      rintro e w' ⟨rfl, rfl⟩
      go_wp2_with fail
      refine CB.out.mono ?_
      rintro e w' ⟨rfl, rfl⟩
      go_wp2
      go_loop [5] (fun k => k = .int .i64 (-1)) (fun k => 0)
      case atStart => rfl
      case round =>
        subst hrel
        go_wp2
        go_ret
        exact ⟨by rw [HF.out]; rfl, Ext.refl _⟩
    · rcases ha.shape with ⟨rfl, _⟩ | ⟨b, o, cap, rfl, a0, a1, a2, a3⟩
      · exact absurd (by simpa using ka) h0
      rcases hb.shape with ⟨rfl, _⟩ | ⟨b', o', cap', rfl, b0, b1, b2, b3⟩
      · exact absurd (by simp at kb; omega) h0
      have CA := hid (trim_any ha hna)
      have CB := hid (trim_any hb hnb)
      obtain ⟨n, hn⟩ : ∃ n, n = tlen la := ⟨_, rfl⟩
      rw [← hn] at CA hl ka h0
      rw [← hl] at CB kb
      have HL := hid hl
      have HN := hid hn
      clear hl hn ha hb sa sb
      go_enter Try.func59, Try.ntmps59
      go_wp2_with fail
      refine CA.out.mono ?_
      rintro e w' ⟨rfl, rfl⟩
      go_wp2_with fail
      refine CB.out.mono ?_
      rintro e w' ⟨rfl, rfl⟩
      go_wp2
      go_loopw [5] (fun k wr => ∃ i : Nat, i ≤ n ∧ k = .int .i64 ((i : Int) - 1) ∧ (∀ j, i ≤ j → gd la j = gd lb j) ∧ Ext w wr) (fun k _ => (intOf k + 1).toNat)
      case atStart => exact ⟨n, by omega, rfl, fun j hj => by rw [gd, gd, tlen_zero (by have := HN.out; omega), tlen_zero (by have := HL.out; omega)], Ext.refl _⟩
      case round =>
        obtain ⟨i, hi, rfl, hz, hx⟩ := hrel
        have HZ := hid hz
        clear hz
        by_cases hi0 : i = 0
        · subst hi0
          have hf : cmpI (nval WB la) (nval WB lb) = 0 := cmpI_eq (cmp_eq_of (fun j => HZ.out j (by omega)) (by have := HN.out; have := HL.out; omega))
          have HF := hid hf
          clear hf
          go_wp2
          go_ret
          exact ⟨by rw [HF.out]; rfl, hx⟩
        · have hca := hx.cell (a3 (i - 1) (by omega))
          have hcb := hx.cell (b3 (i - 1) (by omega))
          have hn' := HN.out
          have hl' := HL.out
          have HNL := hid (And.intro hn' hl')
          clear hn' hl'
          rcases Nat.lt_trichotomy (gd la (i - 1)) (gd lb (i - 1)) with hlt | heq | hgt
          · have hf : cmpI (nval WB la) (nval WB lb) = -1 := cmpI_lt (cmp_lt_of (k := i - 1) HSA.out HSB.out (fun j hj => HZ.out j (by omega)) (by have := HNL.out; omega) (by have := HNL.out; omega) hlt)
            have HF := hid hf
            clear hf
            go_wp2
            go_region
            all_goals
              go_wp2
              go_ret
              exact ⟨by rw [HF.out]; rfl, hx.trans (Ext.drew _)⟩
          · have hlt1 : ¬ gd la (i - 1) < gd lb (i - 1) := by omega
            have hlt2 : ¬ gd lb (i - 1) < gd la (i - 1) := by omega
            have HE := hid heq
            clear heq
            go_wp2
            go_region
            all_goals
              go_wp2
              go_region
              all_goals
                go_wp2
                go_roundw
                case rel => exact ⟨i - 1, by omega, by go_num, fun j hj => if h : j = i - 1 then h ▸ HE.out else HZ.out j (by omega), (hx.trans (Ext.drew _)).trans (Ext.drew _)⟩
                case measure => simp [intOf]; omega
          · have hlt1 : ¬ gd la (i - 1) < gd lb (i - 1) := by omega
            have hf : cmpI (nval WB la) (nval WB lb) = 1 := cmpI_gt (cmp_lt_of (k := i - 1) HSB.out HSA.out (fun j hj => (HZ.out j (by omega)).symm) (by have := HNL.out; omega) (by have := HNL.out; omega) hgt)
            have HF := hid hf
            clear hf
            go_wp2
            go_region
            all_goals
              go_wp2
              go_region
              all_goals
                go_wp2
                go_ret
                exact ⟨by rw [HF.out]; rfl, (hx.trans (Ext.drew _)).trans (Ext.drew _)⟩
  · obtain ⟨oa, ca, rfl, _⟩ := id ha
    obtain ⟨ob, cb, rfl, _⟩ := id hb
    have CA := hid (trim_any ha hna)
    have CB := hid (trim_any hb hnb)
    have hne : ((tlen la : Int) != (tlen lb : Int)) = true := by simp; omega
    rcases Nat.lt_or_gt_of_ne hl with hlt | hgt
    · have HF := hid (cmpI_lt (cmp_len_lt sa hlt))
      clear ha hb sa sb hl
      go_enter Try.func59, Try.ntmps59
      go_wp2_with fail
      refine CA.out.mono ?_
      rintro e w' ⟨rfl, rfl⟩
      go_wp2_with fail
      refine CB.out.mono ?_
      rintro e w' ⟨rfl, rfl⟩
      go_wp2
      go_ret
      exact ⟨by rw [HF.out]; rfl, Ext.refl _⟩
    · have HF := hid (cmpI_gt (cmp_len_lt sb hgt))
      have hlt : ¬ tlen la < tlen lb := by omega
      clear ha hb sa sb hl
      go_enter Try.func59, Try.ntmps59
      go_wp2_with fail
      refine CA.out.mono ?_
      rintro e w' ⟨rfl, rfl⟩
      go_wp2_with fail
      refine CB.out.mono ?_
      rintro e w' ⟨rfl, rfl⟩
      go_wp2
      go_ret
      exact ⟨by rw [HF.out]; rfl, Ext.refl _⟩
end Go.Proofs.Ytkdonndeogihfaa

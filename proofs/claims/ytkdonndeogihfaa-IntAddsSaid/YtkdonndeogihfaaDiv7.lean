import Derived.Test.YtkdonndeogihfaaDiv6
import Derived.Deep.LoopGhost
/- Package div: Mod, Gcd. -/
set_option linter.unusedVariables false
set_option linter.unusedSimpArgs false
namespace Go.Proofs.Ytkdonndeogihfaa
open Go.RowKit QM
theorem Mod_pos {w : World} {va vb : Value} {la lb : List Nat} (ha : RN w va la) (hb : RN w vb lb) (hna : la.length ≤ 1099511627770) (hnb : lb.length ≤ 1099511627770) (hy : 0 < nval WB lb) :
    Calls Try.prog 85 #[va, vb] w fun e w' => (∃ v, e = .returned (.tuple #[v, .bool true]) ∧ ON w.heap.size w' v (nval WB la % nval WB lb)) ∧ Ext w w' := by
  have HD := hid (DivMod_pos ha hb hna hnb hy)
  clear ha hb hy
  go_enter Try.func85, Try.ntmps85
  go_wp2_with fail
  refine HD.out.mono ?_
  rintro e w1 ⟨⟨v1, v2, rfl, h1, h2⟩, hx1⟩
  have H2 := hid h2
  clear h1 h2
  go_wp2
  go_ret2
  exact ⟨⟨v2, rfl, H2.out⟩, hx1⟩
theorem nn_len {w : World} {v : Value} {n k : Nat} (h : NN w v n) (hk : n < WB ^ k) : ∃ oa cap l, v = .slice oa l.length cap ∧ RN w v l ∧ nval WB l = n ∧ l.length ≤ k ∧ (l.length = 0 ↔ n = 0) := by
  obtain ⟨l, h1, h2, h3, h4⟩ := h
  obtain ⟨oa, cap, hv, _⟩ := id h1
  refine ⟨oa, cap, l, hv, h1, h3, h2.len_le WB_pos (by rw [h3]; exact hk), ?_⟩
  constructor
  · intro h0
    rw [List.eq_nil_of_length_eq_zero h0] at h3
    exact h3.symm
  · intro h0
    rw [h2.zero WB_pos (by rw [h3]; exact h0)]; rfl
theorem nn_lt {la : List Nat} (h : Sm WB la) {k : Nat} (hk : la.length ≤ k) : nval WB la < WB ^ k :=
  Nat.lt_of_lt_of_le (nval_lt h) (Nat.pow_le_pow_right WB_pos hk)
set_option maxHeartbeats 1000000 in
theorem Gcd_any {w : World} {va vb : Value} {la lb : List Nat} {k : Nat} (ha : RN w va la) (hb : RN w vb lb) (hk : k ≤ 1099511627770) (hna : la.length ≤ k) (hnb : lb.length ≤ k) :
    Calls Try.prog 60 #[va, vb] w fun e w' => (∃ v, e = .returned v ∧ ON w.heap.size w' v (Nat.gcd (nval WB la) (nval WB lb))) ∧ Ext w w' := by
  have HNA := hid (Norm_any ha (by omega))
  have HB := hid hb
  have HK := hid (And.intro (nn_lt ha.sm hna) (nn_lt hb.sm hnb))
  clear ha hb
  go_enter Try.func60, Try.ntmps60
  go_wp2_with fail
  refine HNA.out.mono ?_
  rintro e w1 ⟨⟨v1, rfl, ho1⟩, hx1⟩
  have HNB := hid (Norm_any (HB.out.ext hx1) (by omega))
  have HO1 := hid ho1
  clear ho1
  go_wp2_with fail
  refine HNB.out.mono ?_
  rintro e w2 ⟨⟨v2, rfl, ho2⟩, hx2⟩
  have HI := hid (And.intro (HO1.out.ext hx2) (ho2.mono hx1.size))
  have hx := hx1.trans hx2
  clear ho2 hx1 hx2 HNA HNB
  go_wp2_with fail
  go_loopg [0, 1] (nval WB lb) (fun y a b wr => ∃ x : Nat, Hid (ON w.heap.size wr a x ∧ ON w.heap.size wr b y ∧ x < WB ^ k ∧ y < WB ^ k ∧ Nat.gcd x y = Nat.gcd (nval WB la) (nval WB lb)) ∧ Ext w wr)
  case atStart => exact ⟨_, hid ⟨HI.out.1, HI.out.2, HK.out.1, HK.out.2, rfl⟩, hx⟩
  case round =>
    obtain ⟨x, hI, hE⟩ := hrel
    obtain ⟨oa, ca, l1, rfl, r1, v1, n1, z1⟩ := nn_len hI.out.1.nn hI.out.2.2.1
    obtain ⟨ob, cb, l2, rfl, r2, v2, n2, z2⟩ := nn_len hI.out.2.1.nn hI.out.2.2.2.1
    have HR := hid (And.intro r1 (And.intro r2 (And.intro v1 v2)))
    by_cases hy : gk = 0
    · have h0 : l2.length ≤ 0 := by have := z2.2 hy; omega
      have hfin : ON w.heap.size wr (.slice oa l1.length ca) (Nat.gcd (nval WB la) (nval WB lb)) := by
        have h1 := hI.out.2.2.2.2
        rw [hy, Nat.gcd_zero_right] at h1
        rw [← h1]; exact hI.out.1
      have HF := hid hfin
      clear hy hfin r1 r2 v1 v2 z1 z2
      go_wp2
      go_ret
      exact ⟨⟨_, rfl, HF.out⟩, hE⟩
    · have h0 : 0 < l2.length := by have := z2.1; omega
      have HM := hid (Mod_pos r1 r2 (by omega) (by omega) (by rw [v2]; omega))
      have hlt : x % gk < gk := Nat.mod_lt _ (by omega)
      have HL := hid hlt
      clear hy r1 r2 v1 v2 z1 z2 hlt
      go_wp2_with fail
      refine HM.out.mono ?_
      rintro e w3 ⟨⟨v3, rfl, h3⟩, hx3⟩
      rw [HR.out.2.2.1, HR.out.2.2.2] at h3
      have H3 := hid (h3.mono hE.size)
      have H2 := hid (hI.out.2.1.ext hx3)
      clear h3
      go_wp2
      go_roundg (x % gk)
      case measure => exact HL.out
      case rel =>
        refine ⟨gk, hid ⟨H2.out, H3.out, hI.out.2.2.2.1, Nat.lt_trans HL.out hI.out.2.2.2.1, ?_⟩, hE.trans hx3⟩
        rw [← hI.out.2.2.2.2, Nat.gcd_comm x, Nat.gcd_rec gk x, Nat.gcd_comm]
end Go.Proofs.Ytkdonndeogihfaa

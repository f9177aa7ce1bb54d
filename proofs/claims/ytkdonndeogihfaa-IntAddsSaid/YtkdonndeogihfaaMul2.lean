import Derived.Test.YtkdonndeogihfaaMul1
/- Package mul: Mul. -/
set_option linter.unusedVariables false
set_option linter.unusedSimpArgs false
namespace Go.Proofs.Ytkdonndeogihfaa
open Go.RowKit QM

theorem kara_cross {p q r s : Nat} : (p + q) * (r + s) - p * r - q * s = p * s + q * r := by
  have : (p + q) * (r + s) = p * s + q * r + q * s + p * r := by grind
  rw [this, Nat.add_sub_cancel, Nat.add_sub_cancel]
theorem kara_le {p q r s : Nat} : p * r ≤ (p + q) * (r + s) := Nat.mul_le_mul (by omega) (by omega)
theorem kara_le2 {p q r s : Nat} : q * s ≤ (p + q) * (r + s) - p * r := by
  have : (p + q) * (r + s) = (p * s + q * r + q * s) + p * r := by grind
  rw [this, Nat.add_sub_cancel]; omega
theorem kara {p q r s P : Nat} : p * r + P * (p * s + q * r) + P * P * (q * s) = (p + P * q) * (r + P * s) := by grind
/-- What Mul answers. -/
def MulC (k : Nat) : Prop := ∀ (w : World) (va vb : Value) (la lb : List Nat), RN w va la → RN w vb lb → la.length ≤ k → lb.length ≤ k →
    Calls Try.prog 56 #[va, vb] w fun e w' => (∃ v, e = .returned v ∧ ON w.heap.size w' v (nval WB la * nval WB lb)) ∧ Ext w w'
set_option maxRecDepth 100000 in
set_option maxHeartbeats 1000000 in
theorem Mul_step (k : Nat) (hk : k ≤ 274877906944) (ih : ∀ j, j < k → MulC j) : MulC k := by
  intro w va vb la lb ha hb hla hlb
  have HNA := hid (Norm_any ha (by omega))
  have HB := hid hb
  have HA := hid ha
  have IH := hid ih
  clear ha hb ih
  go_enter Try.func56, Try.ntmps56
  go_wp2_with fail
  refine HNA.out.mono ?_
  rintro e w1 ⟨⟨v1, rfl, ho1⟩, hx1⟩
  have HNB := hid (Norm_any (HB.out.ext hx1) (by omega))
  have HO1 := hid ho1
  clear ho1
  go_wp2_with fail
  refine HNB.out.mono ?_
  rintro e w2 ⟨⟨v2, rfl, ho2⟩, hx2⟩
  obtain ⟨l1, l1r, l1n, l1v⟩ := NN.own (HO1.out.ext hx2)
  obtain ⟨l2, l2r, l2n, l2v⟩ := NN.own ho2
  have hl1 : l1.length ≤ k := Nat.le_trans (len_le_of WB_two HA.out.sm l1n (Nat.le_of_eq l1v)) hla
  have hl2 : l2.length ≤ k := Nat.le_trans (len_le_of WB_two HB.out.sm l2n (Nat.le_of_eq l2v)) hlb
  have hx := hx1.trans hx2
  have HV := hid (And.intro l1v l2v)
  have HR1 := hid l1r
  have HR2 := hid l2r
  obtain ⟨o1, c1, rfl, _⟩ := id l1r
  obtain ⟨o2, c2, rfl, _⟩ := id l2r
  clear l1v l2v ho2 hx1 hx2 l1r l2r l1n l2n
  by_cases hmin : l1.length ≤ 8 ∨ l2.length ≤ 8
  · have HM := hid (nMul_any HR1.out HR2.out (by omega) (by omega))
    have fin : ∀ (e : Ending) (w3 : World), ((∃ v, e = .returned v ∧ ON w2.heap.size w3 v (nval WB l1 * nval WB l2)) ∧ Ext w2 w3) → ((∃ v, e = .returned v ∧ ON w.heap.size w3 v (nval WB la * nval WB lb)) ∧ Ext w w3) := by
      rintro e w3 ⟨⟨v3, rfl, ho3⟩, hx3⟩
      rw [HV.out.1, HV.out.2] at ho3
      exact ⟨⟨_, rfl, ho3.mono hx.size⟩, hx.trans hx3⟩
    have HF := hid fin
    clear fin
    by_cases hc : l2.length < l1.length
    · have h8 : l2.length ≤ 8 := by omega
      clear hmin
      go_wp2_with fail
      refine HM.out.mono ?_
      rintro e w3 ⟨⟨v3, rfl, ho3⟩, hx3⟩
      have HO3 := hid (HF.out _ w3 ⟨⟨v3, rfl, ho3⟩, hx3⟩)
      clear ho3
      go_wp2
      go_ret
      exact HO3.out
    · have h8 : l1.length ≤ 8 := by omega
      clear hmin
      go_wp2_with fail
      refine HM.out.mono ?_
      rintro e w3 ⟨⟨v3, rfl, ho3⟩, hx3⟩
      have HO3 := hid (HF.out _ w3 ⟨⟨v3, rfl, ho3⟩, hx3⟩)
      clear ho3
      go_wp2
      go_ret
      exact HO3.out
  · obtain ⟨n, hn⟩ : ∃ n, n = (max l1.length l2.length + 1) / 2 := ⟨_, rfl⟩
    have hd : decide ((if l2.length < l1.length then (l2.length : Int) else (l1.length : Int)) ≤ 8) = false := by
      rw [decide_eq_false_iff_not]; split <;> omega
    have hk9 : 9 ≤ k := by omega
    have h1n : l1.length ≤ 2 * n := by omega
    have h2n : l2.length ≤ 2 * n := by omega
    have hnk : 2 * n ≤ k + 1 := by omega
    have hmax : (max l1.length l2.length + 1) / 2 = n := hn.symm
    have HMX := hid hmax
    clear hmin hn hmax
    go_upto_region 4 with fail
    go_cut [5] (fun s5 wx => s5 = .int .i64 n ∧ w2 = wx)
    case first =>
      rcases Nat.lt_trichotomy l1.length l2.length with hc | hc | hc
      · have he : ((l2.length : Int) + 1) / 2 = (n : Int) := by have := HMX.out; omega
        have hc2 : ¬ l2.length < l1.length := by omega
        go_wp2
        go_meet
        exact ⟨rfl, rfl⟩
      · have he : ((l1.length : Int) + 1) / 2 = (n : Int) := by have := HMX.out; omega
        have hc2 : ¬ l2.length < l1.length := by omega
        have hc3 : ¬ l1.length < l2.length := by omega
        clear hc
        go_wp2
        go_meet
        exact ⟨rfl, rfl⟩
      · have he : ((l1.length : Int) + 1) / 2 = (n : Int) := by have := HMX.out; omega
        have hc2 : ¬ l1.length < l2.length := by omega
        go_wp2
        go_meet
        exact ⟨rfl, rfl⟩
    case rest =>
      obtain ⟨rfl, rfl⟩ := hcut
      have hn1 : n ≤ 137438953472 := by omega
      have s1 := HR1.out.sm
      have s2 := HR2.out.sm
      have Hs := hid (And.intro s1 s2)
      have HL1 := hid (low_any (n := n) HR1.out (by omega) (by omega))
      have HH1 := hid (high_any (n := n) HR1.out (by omega) (by omega))
      have HL2 := hid (low_any (n := n) HR2.out (by omega) (by omega))
      have HH2 := hid (high_any (n := n) HR2.out (by omega) (by omega))
      have e1 := nval_split (B := WB) l1 n
      have e2 := nval_split (B := WB) l2 n
      have p1 : (l1.take n).length ≤ n := List.length_take_le _ _
      have p2 : (l2.take n).length ≤ n := List.length_take_le _ _
      have p3 : (l1.drop n).length ≤ n := by rw [List.length_drop]; omega
      have p4 : (l2.drop n).length ≤ n := by rw [List.length_drop]; omega
      have HE := hid (And.intro e1 e2)
      have Hss := hid (And.intro (s1.take n) (And.intro (s1.drop n) (And.intro (s2.take n) (s2.drop n))))
      generalize l1.take n = P at *
      generalize l1.drop n = Q at *
      generalize l2.take n = R at *
      generalize l2.drop n = S at *
      clear e1 e2 s1 s2
      go_wp2_with fail
      refine HL1.out.mono ?_
      rintro e w3 ⟨⟨vp, rfl, hp⟩, rfl⟩
      go_wp2_with fail
      refine HH1.out.mono ?_
      rintro e w3 ⟨⟨vq, rfl, hq⟩, rfl⟩
      go_wp2_with fail
      refine HL2.out.mono ?_
      rintro e w3 ⟨⟨vr, rfl, hr⟩, rfl⟩
      go_wp2_with fail
      refine HH2.out.mono ?_
      rintro e w3 ⟨⟨vs, rfl, hs⟩, rfl⟩
      have HM1 := hid (IH.out n (by omega) w2 vp vr P R hp hr p1 p2)
      have HPQ := hid (And.intro hp (And.intro hq (And.intro hr hs)))
      clear hp hq hr hs
      go_wp2_with fail
      refine HM1.out.mono ?_
      rintro e w3 ⟨⟨v3, rfl, h3⟩, hx3⟩
      have HM2 := hid (IH.out n (by omega) w3 vq vs Q S (HPQ.out.2.1.ext hx3) (HPQ.out.2.2.2.ext hx3) p3 p4)
      have H3 := hid h3
      clear h3
      go_wp2_with fail
      refine HM2.out.mono ?_
      rintro e w4 ⟨⟨v4, rfl, h4⟩, hx4⟩
      have hx24 := hx3.trans hx4
      have HA1 := hid (Add_any (HPQ.out.1.ext hx24) (HPQ.out.2.1.ext hx24) (by omega) (by omega))
      have H4 := hid h4
      clear h4
      go_wp2_with fail
      refine HA1.out.mono ?_
      rintro e w5 ⟨⟨v5, rfl, h5⟩, hx5⟩
      have hx25 := hx24.trans hx5
      have HA2 := hid (Add_any (HPQ.out.2.2.1.ext hx25) (HPQ.out.2.2.2.ext hx25) (by omega) (by omega))
      have H5 := hid h5
      clear h5
      go_wp2_with fail
      refine HA2.out.mono ?_
      rintro e w6 ⟨⟨v6, rfl, h6⟩, hx6⟩
      obtain ⟨l5, l5r, l5n, l5v⟩ := NN.own (H5.out.ext hx6)
      obtain ⟨l6, l6r, l6n, l6v⟩ := NN.own h6
      have q5 : l5.length ≤ n + 1 := len_add WB_two Hss.out.1 Hss.out.2.1 l5n l5v p1 p3
      have q6 : l6.length ≤ n + 1 := len_add WB_two Hss.out.2.2.1 Hss.out.2.2.2 l6n l6v p2 p4
      have HM3 := hid (IH.out (n + 1) (by omega) w6 v5 v6 l5 l6 l5r l6r q5 q6)
      have H56 := hid (And.intro l5v l6v)
      have Hs5 := hid (And.intro l5r.sm l6r.sm)
      clear l5r l5n l5v l6r l6n l6v h6
      go_wp2_with fail
      refine HM3.out.mono ?_
      rintro e w7 ⟨⟨v7, rfl, h7⟩, hx7⟩
      obtain ⟨l3, l3r, l3n, l3v⟩ := NN.own (H3.out.ext (((hx4.trans hx5).trans hx6).trans hx7))
      obtain ⟨l4, l4r, l4n, l4v⟩ := NN.own (H4.out.ext ((hx5.trans hx6).trans hx7))
      obtain ⟨l7, l7r, l7n, l7v⟩ := NN.own h7
      have l5v := H56.out.1
      have l6v := H56.out.2
      have q3 : l3.length ≤ n + n := Nat.le_trans (len_mul WB_two Hss.out.1 Hss.out.2.2.1 l3n l3v) (by omega)
      have q4 : l4.length ≤ n + n := Nat.le_trans (len_mul WB_two Hss.out.2.1 Hss.out.2.2.2 l4n l4v) (by omega)
      have q7 : l7.length ≤ n + 1 + (n + 1) := Nat.le_trans (len_mul WB_two Hs5.out.1 Hs5.out.2 l7n l7v) (by omega)
      have v7' : nval WB l7 = (nval WB P + nval WB Q) * (nval WB R + nval WB S) := by rw [l7v, l5v, l6v]
      have le1 : nval WB l3 ≤ nval WB l7 := by rw [l3v, v7']; exact kara_le
      have HS1 := hid (less_any l7r l3r (by omega) (by omega) le1)
      have H37 := hid (And.intro l3v (And.intro v7' (And.intro l4v (And.intro l3r l4r))))
      have Hs7 := hid l7r.sm
      have hx27 := (hx25.trans hx6).trans hx7
      clear l3v l3n l4v l4n l7r l7n l7v v7' l5v l6v le1 h7 l3r l4r hx24 hx25
      go_wp2_with fail
      refine HS1.out.mono ?_
      rintro e w8 ⟨⟨v8, rfl, h8⟩, hx8⟩
      obtain ⟨l8, l8r, l8n, l8v⟩ := NN.own h8
      have q8 : l8.length ≤ l7.length := len_le_of WB_two Hs7.out l8n (by rw [l8v]; omega)
      have le2 : nval WB l4 ≤ nval WB l8 := by rw [l8v, H37.out.2.2.1, H37.out.1, H37.out.2.1]; exact kara_le2
      have HS2 := hid (less_any l8r (H37.out.2.2.2.2.ext hx8) (by omega) (by omega) le2)
      have H8 := hid l8v
      have Hs8 := hid l8r.sm
      clear l8r l8n l8v le2 h8
      go_wp2_with fail
      refine HS2.out.mono ?_
      rintro e w9 ⟨⟨v9, rfl, h9⟩, hx9⟩
      obtain ⟨l9, l9r, l9n, l9v⟩ := NN.own h9
      have q9 : l9.length ≤ l8.length := len_le_of WB_two Hs8.out l9n (by rw [l9v]; omega)
      have hx29 := hx8.trans hx9
      have HJ := hid (joined_any (n := n) (H37.out.2.2.2.1.ext hx29) l9r (H37.out.2.2.2.2.ext hx29) (by omega) (by omega) (by omega) hn1)
      have H9 := hid l9v
      clear l9r l9n l9v h9
      go_wp2_with fail
      refine HJ.out.mono ?_
      rintro e w10 ⟨⟨v10, rfl, h10⟩, hx10⟩
      have hval : nval WB l3 + WB ^ n * nval WB l9 + WB ^ (2 * n) * nval WB l4 = nval WB la * nval WB lb := by
        rw [← HV.out.1, ← HV.out.2, HE.out.1, HE.out.2, H9.out, H8.out, H37.out.1, H37.out.2.2.1, H37.out.2.1, kara_cross, Nat.two_mul, Nat.pow_add]
        exact kara
      rw [hval] at h10
      have hxx := ((hx.trans hx27).trans hx29)
      have H10 := hid (And.intro (h10.mono (hxx.size)) (hxx.trans hx10))
      clear h10 hval hxx
      go_wp2
      go_ret
      exact ⟨⟨_, rfl, H10.out.1⟩, H10.out.2⟩
theorem Mul_all (k : Nat) (hk : k ≤ 274877906944) : MulC k := by
  induction k using Nat.strongRecOn with
  | _ k ih => exact Mul_step k hk fun j hj => ih j hj (by omega)
/-- Mul: the product. -/
theorem Mul_any {w : World} {va vb : Value} {la lb : List Nat} (ha : RN w va la) (hb : RN w vb lb) (hna : la.length ≤ 274877906944) (hnb : lb.length ≤ 274877906944) :
    Calls Try.prog 56 #[va, vb] w fun e w' => (∃ v, e = .returned v ∧ ON w.heap.size w' v (nval WB la * nval WB lb)) ∧ Ext w w' :=
  Mul_all 274877906944 (Nat.le_refl _) w va vb la lb ha hb hna hnb
end Go.Proofs.Ytkdonndeogihfaa

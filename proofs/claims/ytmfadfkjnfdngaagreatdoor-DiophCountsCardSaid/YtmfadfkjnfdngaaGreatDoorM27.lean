import Derived.Test.YtmfadfkjnfdngaaGreatDoorM26
import Derived.Test.YtmfadfkjnfdngaaGreatDoorM24
import Derived.Deep.CutBlock
import Derived.StillTailTactics
import Derived.Laws.CopyOwn
import Derived.Deep.LoopGhost
set_option linter.unusedVariables false
set_option linter.unusedSimpArgs false
namespace Go.Proofs.YtmfadfkjnfdngaaGreatDoor
open Go.RowKit QM

theorem NN.own {base : Nat} {w : World} {v : Value} {n : Nat} (h : ON base w v n) : ∃ l, RN w v l ∧ Nrm l ∧ nval WB l = n := by
  obtain ⟨l, h1, h2, h3, h4⟩ := h.nn; exact ⟨l, h1, h2, h3⟩
theorem ON.mono {base base' : Nat} {w : World} {v : Value} {n : Nat} (h : ON base' w v n) (hb : base ≤ base') : ON base w v n := by
  obtain ⟨l, h1, h2⟩ := h
  refine ⟨l, ⟨h1.1, ?_⟩, h2⟩
  rcases h1.2 with h | ⟨g, cap, cur, e1, e2, e3⟩
  · exact .inl h
  · exact .inr ⟨g, cap, cur, e1, Nat.le_trans hb e2, e3⟩
theorem owns_ext {base e : Nat} {w w' : World} {v : Value} {n : Nat} {xs : List Value} (h : w.ownsRow base e 1 v n xs) (he : Ext w w') : w'.ownsRow base e 1 v n xs :=
  h.kept (w' := w') (row := none) ⟨he.os, he.tape, he.output, he.size, fun _ hk _ => he.block hk⟩ (by cases v.ownBlock <;> simp)
theorem ON.ext {base : Nat} {w w' : World} {v : Value} {n : Nat} (h : ON base w v n) (he : Ext w w') : ON base w' v n := by
  obtain ⟨l, h1, h2⟩ := h; exact ⟨l, owns_ext h1 he, h2⟩
theorem wpList_make_part {P : Program} (w : World) {ops : Array Oper} {rest : List Oper} {o : Oper} {a : Act} {Q : Exit → Act → World → Prop}
    (hg : o.guard = none) (l c : Operand) (t : TypeId) (hop : o.op = Op.makeSlice t l c) (e : TypeId) (i : TypeInfo) (h1 : P.underlying t = some (.slice e)) (h2 : P.info? e = some i) (h3 : i.zero = some (.int .u64 0)) (h4 : i.size = 1)
    (kl kc : IntKind) (L C : Int) (n m : Nat) (hl : a.eval l = .int kl L) (hc : a.eval c = .int kc C) (hL : L = (n : Int)) (hC : C = (m : Int)) (hnm : n ≤ m) (b2 : i.bytes * m ≤ 281474976710656) (b3 : m ≤ maxLen)
    (hK : ∀ w', w'.ownsRow w.heap.size e 1 (.slice (some ⟨w.heap.size, 0, none⟩) n m) n (wv (List.replicate n 0)) → w.grownBy w' none → wpList P ops Q rest (a.put o.dst (.slice (some ⟨w.heap.size, 0, none⟩) n m)) w') :
    wpList P ops Q (o :: rest) a w := by
  refine wpList_plain hg fun K hK' => ?_
  subst hL hC
  have hb' : (i.bytes : Int) * (m : Int) ≤ 281474976710656 := by
    have h : ((i.bytes * m : Nat) : Int) ≤ 281474976710656 := by omega
    rwa [Int.natCast_mul] at h
  have hr := run_make (P := P) w t e i _ h1 h2 h3 kl kc n m (by omega) (by omega) hb' (by simp [maxLen] at b3; omega)
  simp only [Int.toNat_natCast, h4] at hr
  unfold Oper.wp
  simp [execOp, hop, hl, hc, hr, Result.andThen]
  refine hK' _ _ (hK _ ⟨by simp [wv], .inr ⟨w.heap.size, m, _, rfl, Nat.le_refl _, heap_alloc_new w _, hnm, b3, by simp [madeCells], ?_⟩⟩ (World.grownBy_alloc w _ none))
  show (madeCells #[Value.int .u64 0] m).toList.take (n * 1) = _
  rw [toList_madeCells_one]
  simp [wv, List.take_replicate, hnm]

theorem low_any {w : World} {va : Value} {l : List Nat} {n : Nat} (ha : RN w va l) (hna : l.length ≤ 1099511627775) (hn : n ≤ 1099511627775) :
    Calls Tryz.prog 66 #[va, .int .i64 (n : Int)] w fun e w' => (∃ v, e = .returned v ∧ RN w' v (l.take n)) ∧ w = w' := by
  obtain ⟨oa, ca, rfl, h1, _⟩ := id ha
  by_cases h : l.length ≤ n
  · have hr : RN w (.slice oa l.length ca) (l.take n) := by rw [List.take_of_length_le h]; exact ha
    have HR := hid hr
    clear hr ha
    go_enter Tryz.func66, Tryz.ntmps66
    go_wp2
    go_ret
    exact ⟨⟨_, rfl, HR.out⟩, rfl⟩
  · have hr := ha.take (k := n) (by omega)
    have HR := hid hr
    have h' : n < l.length := by omega
    clear hr ha
    go_enter Tryz.func66, Tryz.ntmps66
    go_wp2
    go_ret
    exact ⟨⟨_, rfl, HR.out⟩, rfl⟩
theorem high_any {w : World} {va : Value} {l : List Nat} {n : Nat} (ha : RN w va l) (hna : l.length ≤ 1099511627775) (hn : n ≤ 1099511627775) :
    Calls Tryz.prog 67 #[va, .int .i64 (n : Int)] w fun e w' => (∃ v, e = .returned v ∧ RN w' v (l.drop n)) ∧ w = w' := by
  by_cases h : l.length ≤ n
  · obtain ⟨oa, ca, rfl, h1, _⟩ := id ha
    have hd : l.drop n = [] := List.drop_eq_nil_of_le h
    have HD := hid hd
    clear hd ha
    go_enter Tryz.func67, Tryz.ntmps67
    go_wp2
    go_ret
    exact ⟨⟨_, rfl, by rw [HD.out]; exact RN.nil _⟩, rfl⟩
  · rcases ha.shape with ⟨rfl, _⟩ | ⟨b, o, ca, rfl, a0, a1, a2, a3⟩
    · exact absurd (by simp) h
    have hr : RN w (.slice (some ⟨b, o + n, none⟩) (l.length - n) (ca - n)) (l.drop n) := by
      have := RN.mk (w := w) (b := b) (o := o + n) (cap := ca - n) (l := l.drop n) (ha.sm.drop n) (by rw [List.length_drop]; omega) (by omega) (fun i hi => by
        rw [List.length_drop] at hi
        rw [Nat.add_assoc, a3 (n + i) (by omega), gd_drop'])
      rwa [List.length_drop] at this
    have HR := hid hr
    have h' : n < l.length := by omega
    have hnc : n < ca := by omega
    clear hr ha a3
    go_enter Tryz.func67, Tryz.ntmps67
    go_wp2
    go_ret
    exact ⟨⟨_, rfl, HR.out⟩, rfl⟩
theorem less_any {w : World} {va vb : Value} {la lb : List Nat} (ha : RN w va la) (hb : RN w vb lb) (hna : la.length ≤ 1099511627775) (hnb : lb.length ≤ 1099511627775) (hle : nval WB lb ≤ nval WB la) :
    Calls Tryz.prog 68 #[va, vb] w fun e w' => (∃ v, e = .returned v ∧ ON w.heap.size w' v (nval WB la - nval WB lb)) ∧ Ext w w' := by
  have HS := hid (Sub_ge ha hb hna hnb hle)
  clear ha hb hna hnb hle
  go_enter Tryz.func68, Tryz.ntmps68
  go_wp2_with fail
  refine HS.out.mono ?_
  rintro e w' ⟨⟨v, rfl, ho⟩, hx⟩
  have HO := hid ho
  clear ho
  go_wp2
  go_ret
  exact ⟨⟨_, rfl, HO.out⟩, hx⟩
theorem up_any {w : World} {va : Value} {l : List Nat} {n : Nat} (ha : RN w va l) (hna : l.length ≤ 1099511627775) (hn : n ≤ 1099511627775) :
    Calls Tryz.prog 96 #[va, .int .i64 (n : Int)] w fun e w' => (∃ v r, e = .returned v ∧ RN w' v r ∧ nval WB r = WB ^ n * nval WB l ∧ r.length ≤ n + l.length) ∧ Ext w w' := by
  obtain ⟨oa, ca, rfl, _⟩ := id ha
  by_cases h : l.length = 0
  · have hl : l = [] := List.eq_nil_of_length_eq_zero h
    subst hl
    clear ha h
    go_enter Tryz.func96, Tryz.ntmps96
    go_wp2
    go_ret
    exact ⟨⟨_, [], rfl, RN.nil _, by simp [nval], by simp⟩, Ext.refl _⟩
  · obtain ⟨ad, rfl⟩ : ∃ ad, oa = some ad := by
      rcases ha.shape with ⟨rfl, _⟩ | ⟨b, o, cap, e, _⟩
      · exact absurd rfl h
      · simp only [Value.slice.injEq] at e; exact ⟨_, e.1⟩
    have hz : ((l.length : Int) == 0) = false := by rw [beq_eq_false_iff_ne]; omega
    have HA := hid ha
    have hs := hid ha.sm
    obtain ⟨i0, hi, hz0, hz1, hz2⟩ := info_parts infoU64
    generalize hm : l.length = m at hna hz ⊢
    generalize hM : n + m = M
    have hbytes : i0.bytes * M ≤ 281474976710656 := by rw [hz2]; omega
    have HL := hid (show (wv l).length = m * 1 by rw [wv_len, hm]; omega)
    have HM := hid hm
    have HMM := hid (show ((n : Int) + (m : Int)) = (M : Int) by omega)
    have hM1 : n ≤ M := by omega
    have hM2 : M ≤ 2199023255550 := by omega
    have hM3 : n + m ≤ M := by omega
    clear ha h hm hM
    go_enter Tryz.func96, Tryz.ntmps96
    have hbel : ∀ w1 : World, w.grownBy w1 none → Ext w w1 := fun w1 hg => Below.grown (Below.refl _ _) hg (Nat.le_refl _) (fun k hk => by cases hk)
    have HB := hid hbel
    have HCC := hid (fun (w1 : World) (hE : Ext w w1) => rn_cells (HA.out.ext hE))
    clear hbel
    go_wp2_with (first | (at_make; refine wpList_make_part _ rfl (.tmp 8) (.tmp 12) 28 rfl 56 i0 Tryz.underlying28 hi hz0 hz1 .i64 .i64 _ _ n M rfl rfl rfl HMM.out hM1 hbytes (by unfold maxLen; omega) ?_; intro w1 hown hgrow; have hE := HB.out w1 hgrow) | (at_builtin; refine wpList_append_fits _ rfl (.tmp 13) (.tmp 14) 28 rfl w.heap.size 56 i0 1 Tryz.underlying28 hi hz1 w.heap.size n M _ rfl hown ad m ca (wv l) rfl HL.out (HCC.out w1 hE) (wv_one _) hM3 ?_; intro w2 hown2 hgrow2))
    go_ret
    have e1 : wv (List.replicate n 0) ++ wv l = wv (List.replicate n 0 ++ l) := by simp [wv]
    rw [e1] at hown2
    have e2 : (List.replicate n 0 ++ l).length = n + m := by simp [HM.out]
    rw [← e2] at hown2
    refine ⟨⟨_, _, rfl, by rw [← e2]; exact own_rn hown2 ((Sm.replicate WB_pos _).append hs.out), by rw [nval_append, nval_replicate, List.length_replicate, Nat.zero_add], by rw [e2]; exact hM3⟩, ?_⟩
    exact Below.grown hE hgrow2 hE.size (fun k hk => Nat.le_of_eq (Option.some.inj hk))
theorem WB_two : 2 ≤ WB := by decide
theorem joined_any {w : World} {va vb vc : Value} {la lb lc : List Nat} {n : Nat} (ha : RN w va la) (hb : RN w vb lb) (hc : RN w vc lc) (hna : la.length ≤ 274877906950) (hnb : lb.length ≤ 274877906950) (hnc : lc.length ≤ 274877906950)
    (hn : n ≤ 137438953472) :
    Calls Tryz.prog 70 #[va, vb, vc, .int .i64 (n : Int)] w fun e w' => (∃ v, e = .returned v ∧ ON w.heap.size w' v (nval WB la + WB ^ n * nval WB lb + WB ^ (2 * n) * nval WB lc)) ∧ Ext w w' := by
  have HU := hid (up_any (n := n) hb (by omega) (by omega))
  have HA := hid ha
  have HC := hid hc
  have h2n : 2 * n ≤ 274877906944 := by omega
  clear ha hb hc
  go_enter Tryz.func70, Tryz.ntmps70
  go_wp2_with fail
  refine HU.out.mono ?_
  rintro e w1 ⟨⟨v1, r1, rfl, h1, h2, h3⟩, hx1⟩
  have H1 := hid h1
  have H2 := hid h2
  have hr1 : r1.length ≤ 412316860422 := by omega
  have HD := hid (Add_any (HA.out.ext hx1) h1 (by omega) (by omega))
  clear h1 h2 h3
  go_wp2_with fail
  refine HD.out.mono ?_
  rintro e w2 ⟨⟨v2, rfl, ho⟩, hx2⟩
  have HO := hid ho
  have hx := hx1.trans hx2
  have HU2 := hid (up_any (n := 2 * n) (HC.out.ext hx) (by omega) (by omega))
  have ec : (((2 * n : Nat)) : Int) = 2 * (n : Int) := by omega
  rw [ec] at HU2
  clear ho ec
  go_wp2_with fail
  refine HU2.out.mono ?_
  rintro e w3 ⟨⟨v3, r3, rfl, h1, h2, h3⟩, hx3⟩
  obtain ⟨l2, l2r, l2n, l2v⟩ := NN.own HO.out
  have hl2 : l2.length ≤ 412316860423 := len_add WB_two HA.out.sm H1.out.sm l2n l2v (by omega) hr1
  have HD2 := hid (Add_any (l2r.ext hx3) h1 (by omega) (by omega))
  have H22 := hid h2
  have HL2 := hid l2v
  clear h1 h2 h3 l2r l2n l2v
  go_wp2_with fail
  refine HD2.out.mono ?_
  rintro e w4 ⟨⟨v4, rfl, ho⟩, hx4⟩
  have HO4 := hid ho
  clear ho
  go_wp2
  go_ret
  refine ⟨⟨_, rfl, ?_⟩, (hx.trans hx3).trans hx4⟩
  have := HO4.out
  rw [HL2.out, H2.out, H22.out] at this
  exact this.mono (Ext.size (hx.trans hx3))
end Go.Proofs.YtmfadfkjnfdngaaGreatDoor
set_option linter.unusedVariables false
set_option linter.unusedSimpArgs false
namespace Go.Proofs.YtmfadfkjnfdngaaGreatDoor
open Go.RowKit QM

theorem kara_cross {p q r s : Nat} : (p + q) * (r + s) - p * r - q * s = p * s + q * r := by
  have : (p + q) * (r + s) = p * s + q * r + q * s + p * r := by grind
  rw [this, Nat.add_sub_cancel, Nat.add_sub_cancel]
theorem kara_le {p q r s : Nat} : p * r ≤ (p + q) * (r + s) := Nat.mul_le_mul (by omega) (by omega)
theorem kara_le2 {p q r s : Nat} : q * s ≤ (p + q) * (r + s) - p * r := by
  have : (p + q) * (r + s) = (p * s + q * r + q * s) + p * r := by grind
  rw [this, Nat.add_sub_cancel]; omega
theorem kara {p q r s P : Nat} : p * r + P * (p * s + q * r) + P * P * (q * s) = (p + P * q) * (r + P * s) := by grind
def MulC (k : Nat) : Prop := ∀ (w : World) (va vb : Value) (la lb : List Nat), RN w va la → RN w vb lb → la.length ≤ k → lb.length ≤ k →
    Calls Tryz.prog 37 #[va, vb] w fun e w' => (∃ v, e = .returned v ∧ ON w.heap.size w' v (nval WB la * nval WB lb)) ∧ Ext w w'
set_option maxRecDepth 100000 in
set_option maxHeartbeats 1000000 in
theorem Mul_step (k : Nat) (hk : k ≤ 274877906944) (ih : ∀ j, j < k → MulC j) : MulC k := by
  intro w va vb la lb ha hb hla hlb
  have HNA := hid (Norm_any ha (by omega))
  have HB := hid hb
  have HA := hid ha
  have IH := hid ih
  clear ha hb ih
  go_enter Tryz.func37, Tryz.ntmps37
  go_wp2_with fail
  refine HNA.out.mono ?_
  rintro e w1 ⟨⟨v1, rfl, ho1⟩, hx1⟩
  have HNB := hid (Norm_any (HB.out.ext hx1) (by omega))
  have HO1 := hid ho1
  clear ho1
  go_wp2_with fail
  refine HNB.out.mono ?_
  rintro e w2 ⟨⟨v2, rfl, ho2⟩, hx2⟩
  obtain ⟨l1, l1r, l1n, l1v⟩ := NN.own (HO1.out.ext hx2)
  obtain ⟨l2, l2r, l2n, l2v⟩ := NN.own ho2
  have hl1 : l1.length ≤ k := Nat.le_trans (len_le_of WB_two HA.out.sm l1n (Nat.le_of_eq l1v)) hla
  have hl2 : l2.length ≤ k := Nat.le_trans (len_le_of WB_two HB.out.sm l2n (Nat.le_of_eq l2v)) hlb
  have hx := hx1.trans hx2
  have HV := hid (And.intro l1v l2v)
  have HR1 := hid l1r
  have HR2 := hid l2r
  obtain ⟨o1, c1, rfl, _⟩ := id l1r
  obtain ⟨o2, c2, rfl, _⟩ := id l2r
  clear l1v l2v ho2 hx1 hx2 l1r l2r l1n l2n
  by_cases hmin : l1.length ≤ 8 ∨ l2.length ≤ 8
  · have HM := hid (nMul_any HR1.out HR2.out (by omega) (by omega))
    have fin : ∀ (e : Ending) (w3 : World), ((∃ v, e = .returned v ∧ ON w2.heap.size w3 v (nval WB l1 * nval WB l2)) ∧ Ext w2 w3) → ((∃ v, e = .returned v ∧ ON w.heap.size w3 v (nval WB la * nval WB lb)) ∧ Ext w w3) := by
      rintro e w3 ⟨⟨v3, rfl, ho3⟩, hx3⟩
      rw [HV.out.1, HV.out.2] at ho3
      exact ⟨⟨_, rfl, ho3.mono hx.size⟩, hx.trans hx3⟩
    have HF := hid fin
    clear fin
    by_cases hc : l2.length < l1.length
    · have h8 : l2.length ≤ 8 := by omega
      clear hmin
      go_wp2_with fail
      refine HM.out.mono ?_
      rintro e w3 ⟨⟨v3, rfl, ho3⟩, hx3⟩
      have HO3 := hid (HF.out _ w3 ⟨⟨v3, rfl, ho3⟩, hx3⟩)
      clear ho3
      go_wp2
      go_ret
      exact HO3.out
    · have h8 : l1.length ≤ 8 := by omega
      clear hmin
      go_wp2_with fail
      refine HM.out.mono ?_
      rintro e w3 ⟨⟨v3, rfl, ho3⟩, hx3⟩
      have HO3 := hid (HF.out _ w3 ⟨⟨v3, rfl, ho3⟩, hx3⟩)
      clear ho3
      go_wp2
      go_ret
      exact HO3.out
  · obtain ⟨n, hn⟩ : ∃ n, n = (max l1.length l2.length + 1) / 2 := ⟨_, rfl⟩
    have hd : decide ((if l2.length < l1.length then (l2.length : Int) else (l1.length : Int)) ≤ 8) = false := by
      rw [decide_eq_false_iff_not]; split <;> omega
    have hk9 : 9 ≤ k := by omega
    have h1n : l1.length ≤ 2 * n := by omega
    have h2n : l2.length ≤ 2 * n := by omega
    have hnk : 2 * n ≤ k + 1 := by omega
    have hmax : (max l1.length l2.length + 1) / 2 = n := hn.symm
    have HMX := hid hmax
    clear hmin hn hmax
    go_upto_region 4 with fail
    go_cut [5] (fun s5 wx => s5 = .int .i64 n ∧ w2 = wx)
    case first =>
      rcases Nat.lt_trichotomy l1.length l2.length with hc | hc | hc
      · have he : ((l2.length : Int) + 1) / 2 = (n : Int) := by have := HMX.out; omega
        have hc2 : ¬ l2.length < l1.length := by omega
        go_wp2
        go_meet
        exact ⟨rfl, rfl⟩
      · have he : ((l1.length : Int) + 1) / 2 = (n : Int) := by have := HMX.out; omega
        have hc2 : ¬ l2.length < l1.length := by omega
        have hc3 : ¬ l1.length < l2.length := by omega
        clear hc
        go_wp2
        go_meet
        exact ⟨rfl, rfl⟩
      · have he : ((l1.length : Int) + 1) / 2 = (n : Int) := by have := HMX.out; omega
        have hc2 : ¬ l1.length < l2.length := by omega
        go_wp2
        go_meet
        exact ⟨rfl, rfl⟩
    case rest =>
      obtain ⟨rfl, rfl⟩ := hcut
      have hn1 : n ≤ 137438953472 := by omega
      have s1 := HR1.out.sm
      have s2 := HR2.out.sm
      have Hs := hid (And.intro s1 s2)
      have HL1 := hid (low_any (n := n) HR1.out (by omega) (by omega))
      have HH1 := hid (high_any (n := n) HR1.out (by omega) (by omega))
      have HL2 := hid (low_any (n := n) HR2.out (by omega) (by omega))
      have HH2 := hid (high_any (n := n) HR2.out (by omega) (by omega))
      have e1 := nval_split (B := WB) l1 n
      have e2 := nval_split (B := WB) l2 n
      have p1 : (l1.take n).length ≤ n := List.length_take_le _ _
      have p2 : (l2.take n).length ≤ n := List.length_take_le _ _
      have p3 : (l1.drop n).length ≤ n := by rw [List.length_drop]; omega
      have p4 : (l2.drop n).length ≤ n := by rw [List.length_drop]; omega
      have HE := hid (And.intro e1 e2)
      have Hss := hid (And.intro (s1.take n) (And.intro (s1.drop n) (And.intro (s2.take n) (s2.drop n))))
      generalize l1.take n = P at *
      generalize l1.drop n = Q at *
      generalize l2.take n = R at *
      generalize l2.drop n = S at *
      clear e1 e2 s1 s2
      go_wp2_with fail
      refine HL1.out.mono ?_
      rintro e w3 ⟨⟨vp, rfl, hp⟩, rfl⟩
      go_wp2_with fail
      refine HH1.out.mono ?_
      rintro e w3 ⟨⟨vq, rfl, hq⟩, rfl⟩
      go_wp2_with fail
      refine HL2.out.mono ?_
      rintro e w3 ⟨⟨vr, rfl, hr⟩, rfl⟩
      go_wp2_with fail
      refine HH2.out.mono ?_
      rintro e w3 ⟨⟨vs, rfl, hs⟩, rfl⟩
      have HM1 := hid (IH.out n (by omega) w2 vp vr P R hp hr p1 p2)
      have HPQ := hid (And.intro hp (And.intro hq (And.intro hr hs)))
      clear hp hq hr hs
      go_wp2_with fail
      refine HM1.out.mono ?_
      rintro e w3 ⟨⟨v3, rfl, h3⟩, hx3⟩
      have HM2 := hid (IH.out n (by omega) w3 vq vs Q S (HPQ.out.2.1.ext hx3) (HPQ.out.2.2.2.ext hx3) p3 p4)
      have H3 := hid h3
      clear h3
      go_wp2_with fail
      refine HM2.out.mono ?_
      rintro e w4 ⟨⟨v4, rfl, h4⟩, hx4⟩
      have hx24 := hx3.trans hx4
      have HA1 := hid (Add_any (HPQ.out.1.ext hx24) (HPQ.out.2.1.ext hx24) (by omega) (by omega))
      have H4 := hid h4
      clear h4
      go_wp2_with fail
      refine HA1.out.mono ?_
      rintro e w5 ⟨⟨v5, rfl, h5⟩, hx5⟩
      have hx25 := hx24.trans hx5
      have HA2 := hid (Add_any (HPQ.out.2.2.1.ext hx25) (HPQ.out.2.2.2.ext hx25) (by omega) (by omega))
      have H5 := hid h5
      clear h5
      go_wp2_with fail
      refine HA2.out.mono ?_
      rintro e w6 ⟨⟨v6, rfl, h6⟩, hx6⟩
      obtain ⟨l5, l5r, l5n, l5v⟩ := NN.own (H5.out.ext hx6)
      obtain ⟨l6, l6r, l6n, l6v⟩ := NN.own h6
      have q5 : l5.length ≤ n + 1 := len_add WB_two Hss.out.1 Hss.out.2.1 l5n l5v p1 p3
      have q6 : l6.length ≤ n + 1 := len_add WB_two Hss.out.2.2.1 Hss.out.2.2.2 l6n l6v p2 p4
      have HM3 := hid (IH.out (n + 1) (by omega) w6 v5 v6 l5 l6 l5r l6r q5 q6)
      have H56 := hid (And.intro l5v l6v)
      have Hs5 := hid (And.intro l5r.sm l6r.sm)
      clear l5r l5n l5v l6r l6n l6v h6
      go_wp2_with fail
      refine HM3.out.mono ?_
      rintro e w7 ⟨⟨v7, rfl, h7⟩, hx7⟩
      obtain ⟨l3, l3r, l3n, l3v⟩ := NN.own (H3.out.ext (((hx4.trans hx5).trans hx6).trans hx7))
      obtain ⟨l4, l4r, l4n, l4v⟩ := NN.own (H4.out.ext ((hx5.trans hx6).trans hx7))
      obtain ⟨l7, l7r, l7n, l7v⟩ := NN.own h7
      have l5v := H56.out.1
      have l6v := H56.out.2
      have q3 : l3.length ≤ n + n := Nat.le_trans (len_mul WB_two Hss.out.1 Hss.out.2.2.1 l3n l3v) (by omega)
      have q4 : l4.length ≤ n + n := Nat.le_trans (len_mul WB_two Hss.out.2.1 Hss.out.2.2.2 l4n l4v) (by omega)
      have q7 : l7.length ≤ n + 1 + (n + 1) := Nat.le_trans (len_mul WB_two Hs5.out.1 Hs5.out.2 l7n l7v) (by omega)
      have v7' : nval WB l7 = (nval WB P + nval WB Q) * (nval WB R + nval WB S) := by rw [l7v, l5v, l6v]
      have le1 : nval WB l3 ≤ nval WB l7 := by rw [l3v, v7']; exact kara_le
      have HS1 := hid (less_any l7r l3r (by omega) (by omega) le1)
      have H37 := hid (And.intro l3v (And.intro v7' (And.intro l4v (And.intro l3r l4r))))
      have Hs7 := hid l7r.sm
      have hx27 := (hx25.trans hx6).trans hx7
      clear l3v l3n l4v l4n l7r l7n l7v v7' l5v l6v le1 h7 l3r l4r hx24 hx25
      go_wp2_with fail
      refine HS1.out.mono ?_
      rintro e w8 ⟨⟨v8, rfl, h8⟩, hx8⟩
      obtain ⟨l8, l8r, l8n, l8v⟩ := NN.own h8
      have q8 : l8.length ≤ l7.length := len_le_of WB_two Hs7.out l8n (by rw [l8v]; omega)
      have le2 : nval WB l4 ≤ nval WB l8 := by rw [l8v, H37.out.2.2.1, H37.out.1, H37.out.2.1]; exact kara_le2
      have HS2 := hid (less_any l8r (H37.out.2.2.2.2.ext hx8) (by omega) (by omega) le2)
      have H8 := hid l8v
      have Hs8 := hid l8r.sm
      clear l8r l8n l8v le2 h8
      go_wp2_with fail
      refine HS2.out.mono ?_
      rintro e w9 ⟨⟨v9, rfl, h9⟩, hx9⟩
      obtain ⟨l9, l9r, l9n, l9v⟩ := NN.own h9
      have q9 : l9.length ≤ l8.length := len_le_of WB_two Hs8.out l9n (by rw [l9v]; omega)
      have hx29 := hx8.trans hx9
      have HJ := hid (joined_any (n := n) (H37.out.2.2.2.1.ext hx29) l9r (H37.out.2.2.2.2.ext hx29) (by omega) (by omega) (by omega) hn1)
      have H9 := hid l9v
      clear l9r l9n l9v h9
      go_wp2_with fail
      refine HJ.out.mono ?_
      rintro e w10 ⟨⟨v10, rfl, h10⟩, hx10⟩
      have hval : nval WB l3 + WB ^ n * nval WB l9 + WB ^ (2 * n) * nval WB l4 = nval WB la * nval WB lb := by
        rw [← HV.out.1, ← HV.out.2, HE.out.1, HE.out.2, H9.out, H8.out, H37.out.1, H37.out.2.2.1, H37.out.2.1, kara_cross, Nat.two_mul, Nat.pow_add]
        exact kara
      rw [hval] at h10
      have hxx := ((hx.trans hx27).trans hx29)
      have H10 := hid (And.intro (h10.mono (hxx.size)) (hxx.trans hx10))
      clear h10 hval hxx
      go_wp2
      go_ret
      exact ⟨⟨_, rfl, H10.out.1⟩, H10.out.2⟩
theorem Mul_all (k : Nat) (hk : k ≤ 274877906944) : MulC k := by
  induction k using Nat.strongRecOn with
  | _ k ih => exact Mul_step k hk fun j hj => ih j hj (by omega)
theorem Mul_any {w : World} {va vb : Value} {la lb : List Nat} (ha : RN w va la) (hb : RN w vb lb) (hna : la.length ≤ 274877906944) (hnb : lb.length ≤ 274877906944) :
    Calls Tryz.prog 37 #[va, vb] w fun e w' => (∃ v, e = .returned v ∧ ON w.heap.size w' v (nval WB la * nval WB lb)) ∧ Ext w w' :=
  Mul_all 274877906944 (Nat.le_refl _) w va vb la lb ha hb hna hnb
end Go.Proofs.YtmfadfkjnfdngaaGreatDoor
set_option linter.unusedVariables false
set_option linter.unusedSimpArgs false
namespace Go.Proofs.YtmfadfkjnfdngaaGreatDoor
open Go.RowKit QM

theorem Div64_zero (lo y : Nat) (hlo : lo < WB) (hy : 0 < y) (w : World) :
    Calls Tryz.prog 121 #[.int .u64 0, .int .u64 (lo : Int), .int .u64 (y : Int)] w fun e w' => e = .returned (.tuple #[.int .u64 ((lo / y : Nat) : Int), .int .u64 ((lo % y : Nat) : Int)]) ∧ Ext w w' := by
  have hy0 : ((y : Int) == 0) = false := by rw [beq_eq_false_iff_ne]; omega
  have hle : decide ((y : Int) ≤ 0) = false := by rw [decide_eq_false_iff_not]; omega
  have hlo' : lo ≤ 18446744073709551615 := by rw [WB_eq] at hlo; omega
  clear hlo
  go_enter Tryz.func121, Tryz.ntmps121
  go_wp2
  go_region
  all_goals
    go_wp2
    go_ret2
    refine ⟨?_, Ext.drew _⟩
    have hw : IntKind.u64.wrap ((lo : Int) / (y : Int)) = ((lo / y : Nat) : Int) := by
      rw [← Int.natCast_ediv]; exact bt_wrapN _ (Nat.lt_of_le_of_lt (Nat.div_le_self _ _) (by omega))
    show Ending.returned (.tuple #[.int .u64 (IntKind.u64.wrap ((lo : Int) / (y : Int))), .int .u64 ((lo : Int) % (y : Int))]) = _
    rw [hw, Int.natCast_emod]
def HB32 : Nat := 4294967296
theorem HB32_eq : HB32 = 4294967296 := rfl
set_option maxRecDepth 100000 in
set_option maxHeartbeats 4000000 in
theorem Div64_pos {hi lo y s Y y1 y0 U L u1 u0 Q1 M1 R1 q1 A1 B1 V Q2 M2 R2 q2 A2 B2 Z : Nat} (hhi : 0 < hi) (hlt : hi < y) (hs : 64 - bitLen y = s) (w : World)
    (hyW : y < WB)
    (hY : IntKind.u64.wrap ((y : Int) * 2 ^ s) = (Y : Int)) (hy1 : (Y : Int) / 4294967296 = (y1 : Int)) (hy0 : bits .and .u64 (Y : Int) 4294967295 = (y0 : Int))
    (hU : bits .or .u64 (IntKind.u64.wrap ((hi : Int) * 2 ^ s)) ((lo : Int) / 2 ^ (64 - s)) = (U : Int)) (hL : IntKind.u64.wrap ((lo : Int) * 2 ^ s) = (L : Int))
    (hu1 : (L : Int) / 4294967296 = (u1 : Int)) (hu0 : bits .and .u64 (L : Int) 4294967295 = (u0 : Int)) (hy1b : 2147483648 ≤ y1) (hy1l : y1 ≤ 4294967295) (hy0l : y0 ≤ 4294967295) (hu1l : u1 ≤ 4294967295) (hu0l : u0 ≤ 4294967295) (hUb : U ≤ 18446744073709551615)
    (hQ1 : IntKind.u64.wrap ((U : Int) / (y1 : Int)) = (Q1 : Int)) (hM1 : IntKind.u64.wrap ((Q1 : Int) * (y1 : Int)) = (M1 : Int)) (hM1l : M1 ≤ U) (hR1 : (U : Int) - (M1 : Int) = (R1 : Int)) (hR1l : R1 ≤ 4294967295) (hi1 : Hid (HInv HB32 y1 y0 U u1 Q1 R1)) (hUY : Hid (U < y1 * HB32 + y0))
    (hq1 : Hid ((U * HB32 + u1) / (y1 * HB32 + y0) = q1)) (hq1l : q1 ≤ 4294967295)
    (hA1 : IntKind.u64.wrap ((U : Int) * 4294967296) = (A1 : Int)) (hA1l : A1 + u1 ≤ 18446744073709551615) (hB1 : IntKind.u64.wrap ((q1 : Int) * (Y : Int)) = (B1 : Int)) (hV : IntKind.u64.wrap ((A1 : Int) + (u1 : Int) - (B1 : Int)) = (V : Int)) (hVb : V ≤ 18446744073709551615)
    (hQ2 : IntKind.u64.wrap ((V : Int) / (y1 : Int)) = (Q2 : Int)) (hM2 : IntKind.u64.wrap ((Q2 : Int) * (y1 : Int)) = (M2 : Int)) (hM2l : M2 ≤ V) (hR2 : (V : Int) - (M2 : Int) = (R2 : Int)) (hR2l : R2 ≤ 4294967295) (hi2 : Hid (HInv HB32 y1 y0 V u0 Q2 R2)) (hVY : Hid (V < y1 * HB32 + y0))
    (hq2 : Hid ((V * HB32 + u0) / (y1 * HB32 + y0) = q2)) (hq2l : q2 ≤ 4294967295)
    (hA2 : IntKind.u64.wrap ((V : Int) * 4294967296) = (A2 : Int)) (hA2l : A2 + u0 ≤ 18446744073709551615) (hB2 : IntKind.u64.wrap ((q2 : Int) * (Y : Int)) = (B2 : Int)) (hZ : IntKind.u64.wrap ((A2 : Int) + (u0 : Int) - (B2 : Int)) = (Z : Int)) :
    Calls Tryz.prog 121 #[.int .u64 (hi : Int), .int .u64 (lo : Int), .int .u64 (y : Int)] w fun e w' => e = .returned (.tuple #[.int .u64 ((q1 : Int) * 4294967296 + (q2 : Int)), .int .u64 ((Z : Int) / 2 ^ s)]) ∧ w = w' := by
  have hz0 : ((y : Int) == 0) = false := by rw [beq_eq_false_iff_ne]; omega
  have hzh : ((hi : Int) == 0) = false := by rw [beq_eq_false_iff_ne]; omega
  have hle : decide (y ≤ hi) = false := by rw [decide_eq_false_iff_not]; omega
  have hs64 : s ≤ 64 := by omega
  have HZ := hid (LeadingZeros64_any y hyW w)
  rw [hs] at HZ
  clear hyW hs hlt hhi
  go_enter Tryz.func121, Tryz.ntmps121
  go_wp2_with fail
  refine HZ.out.mono ?_
  rintro e w' ⟨rfl, rfl⟩
  go_upto_block 0 with fail
  clear hz0 hzh hle hY hy1 hy0 hU hL hu1 hu0 hQ1 hM1 hR1 HZ
  go_cut [15] (fun s15 wx => s15 = .int .u64 q1 ∧ w = wx)
  case first =>
    go_wp2_with fail
    go_loopw [15, 16] (fun a b wr => ∃ q r : Nat, a = .int .u64 q ∧ b = .int .u64 r ∧ Hid (HInv HB32 y1 y0 U u1 q r) ∧ r ≤ 4294967295 ∧ w = wr) (fun a _ _ => (intOf a).toNat)
    case atStart => exact ⟨Q1, R1, rfl, rfl, hi1, hR1l, rfl⟩
    case round =>
      obtain ⟨q, r, rfl, rfl, hv, hrl, rfl⟩ := hrel
      have hq33 : q ≤ 8589934592 := by
        have h1 : q * y1 ≤ U := by have := hv.out.1; omega
        have h2 := Nat.mul_le_mul_left q hy1b
        omega
      by_cases hA : 4294967296 ≤ q
      · have hgr := hv.out.great hUY.out (by rw [HB32_eq]; omega) (.inl (by rw [HB32_eq]; exact hA))
        have hq1p := hgr.1
        have HG := hid hgr.2
        have hd1 : decide ((4294967296 : Int) ≤ (q : Int)) = true := by rw [decide_eq_true_eq]; omega
        by_cases hC : 4294967296 ≤ r + y1
        · have hd3 : decide ((4294967296 : Int) ≤ (r : Int) + (y1 : Int)) = true := by rw [decide_eq_true_eq]; omega
          have hsm := HG.out.small hUY.out (by rw [HB32_eq]; omega) (by rw [HB32_eq]; exact hC)
          have hrt := HG.out.right (by rw [HB32_eq]; omega) hsm (.inl (by rw [HB32_eq]; exact hC))
          rw [hq1.out] at hrt
          have HQ := hid hrt
          clear hrt hsm hgr hC hA hv
          go_wp2
          go_meet
          exact ⟨by rw [← HQ.out]; go_num, rfl⟩
        · have hd3 : decide ((4294967296 : Int) ≤ (r : Int) + (y1 : Int)) = false := by rw [decide_eq_false_iff_not]; omega
          have hrl' : r + y1 ≤ 4294967295 := by omega
          clear hgr hC hA hv
          go_wp2
          go_roundw
          case rel => exact ⟨q - 1, r + y1, by go_num, by go_num, HG, hrl', (by trivial)⟩
          case measure => simp [intOf]; omega
      · have hd1 : decide ((4294967296 : Int) ≤ (q : Int)) = false := by rw [decide_eq_false_iff_not]; omega
        have hqy : q * y0 ≤ 4294967295 * 4294967295 := Nat.mul_le_mul (by omega) hy0l
        have hqi : ((q : Int) * (y0 : Int)) = ((q * y0 : Nat) : Int) := (Int.natCast_mul _ _).symm
        have hb1 : (q : Int) * (y0 : Int) ≤ 18446744073709551615 := by rw [hqi]; omega
        have hb2 : 0 ≤ (q : Int) * (y0 : Int) := by rw [hqi]; omega
        by_cases hB : 4294967296 * r + u1 < q * y0
        · have hd2 : decide (4294967296 * (r : Int) + (u1 : Int) < (q : Int) * (y0 : Int)) = true := by rw [decide_eq_true_eq, hqi]; omega
          have hgr := hv.out.great hUY.out (by rw [HB32_eq]; omega) (.inr (by rw [HB32_eq]; exact hB))
          have hq1p := hgr.1
          have HG := hid hgr.2
          by_cases hC : 4294967296 ≤ r + y1
          · have hd3 : decide ((4294967296 : Int) ≤ (r : Int) + (y1 : Int)) = true := by rw [decide_eq_true_eq]; omega
            have hsm := HG.out.small hUY.out (by rw [HB32_eq]; omega) (by rw [HB32_eq]; exact hC)
            have hrt := HG.out.right (by rw [HB32_eq]; omega) hsm (.inl (by rw [HB32_eq]; exact hC))
            rw [hq1.out] at hrt
            have HQ := hid hrt
            clear hrt hsm hgr hC hA hv hB hqi hqy
            go_wp2
            go_meet
            exact ⟨by rw [← HQ.out]; go_num, rfl⟩
          · have hd3 : decide ((4294967296 : Int) ≤ (r : Int) + (y1 : Int)) = false := by rw [decide_eq_false_iff_not]; omega
            have hrl' : r + y1 ≤ 4294967295 := by omega
            clear hgr hC hA hv hB hqi hqy
            go_wp2
            go_roundw
            case rel => exact ⟨q - 1, r + y1, by go_num, by go_num, HG, hrl', (by trivial)⟩
            case measure => simp [intOf]; omega
        · have hd2 : decide (4294967296 * (r : Int) + (u1 : Int) < (q : Int) * (y0 : Int)) = false := by rw [decide_eq_false_iff_not, hqi]; omega
          have hrt := hv.out.right (by rw [HB32_eq]; omega) (by rw [HB32_eq]; omega) (.inr (by rw [HB32_eq]; omega))
          rw [hq1.out] at hrt
          have HQ := hid hrt
          clear hrt hA hv hB hqi hqy
          go_wp2
          go_meet
          exact ⟨by rw [HQ.out], rfl⟩
  case rest =>
    obtain ⟨rfl, rfl⟩ := hcut
    clear hUb hM1l hR1l hi1 hUY hq1
    go_upto_block 2 with fail
    clear hA1 hB1 hV hQ2 hM2 hR2 hA1l
    go_cut [18] (fun s18 wx => s18 = .int .u64 q2 ∧ w = wx)
    case first =>
      go_wp2_with fail
      go_loopw [18, 16] (fun a b wr => ∃ q r : Nat, a = .int .u64 q ∧ b = .int .u64 r ∧ Hid (HInv HB32 y1 y0 V u0 q r) ∧ r ≤ 4294967295 ∧ w = wr) (fun a _ _ => (intOf a).toNat)
      case atStart => exact ⟨Q2, R2, rfl, rfl, hi2, hR2l, rfl⟩
      case round =>
        obtain ⟨q, r, rfl, rfl, hv, hrl, rfl⟩ := hrel
        have hq33 : q ≤ 8589934592 := by
          have h1 : q * y1 ≤ V := by have := hv.out.1; omega
          have h2 := Nat.mul_le_mul_left q hy1b
          omega
        by_cases hA : 4294967296 ≤ q
        · have hgr := hv.out.great hVY.out (by rw [HB32_eq]; omega) (.inl (by rw [HB32_eq]; exact hA))
          have hq1p := hgr.1
          have HG := hid hgr.2
          have hd1 : decide ((4294967296 : Int) ≤ (q : Int)) = true := by rw [decide_eq_true_eq]; omega
          by_cases hC : 4294967296 ≤ r + y1
          · have hd3 : decide ((4294967296 : Int) ≤ (r : Int) + (y1 : Int)) = true := by rw [decide_eq_true_eq]; omega
            have hsm := HG.out.small hVY.out (by rw [HB32_eq]; omega) (by rw [HB32_eq]; exact hC)
            have hrt := HG.out.right (by rw [HB32_eq]; omega) hsm (.inl (by rw [HB32_eq]; exact hC))
            rw [hq2.out] at hrt
            have HQ := hid hrt
            clear hrt hsm hgr hC hA hv
            go_wp2
            go_meet
            exact ⟨by rw [← HQ.out]; go_num, rfl⟩
          · have hd3 : decide ((4294967296 : Int) ≤ (r : Int) + (y1 : Int)) = false := by rw [decide_eq_false_iff_not]; omega
            have hrl' : r + y1 ≤ 4294967295 := by omega
            clear hgr hC hA hv
            go_wp2
            go_roundw
            case rel => exact ⟨q - 1, r + y1, by go_num, by go_num, HG, hrl', (by trivial)⟩
            case measure => simp [intOf]; omega
        · have hd1 : decide ((4294967296 : Int) ≤ (q : Int)) = false := by rw [decide_eq_false_iff_not]; omega
          have hqy : q * y0 ≤ 4294967295 * 4294967295 := Nat.mul_le_mul (by omega) hy0l
          have hqi : ((q : Int) * (y0 : Int)) = ((q * y0 : Nat) : Int) := (Int.natCast_mul _ _).symm
          have hb1 : (q : Int) * (y0 : Int) ≤ 18446744073709551615 := by rw [hqi]; omega
          have hb2 : 0 ≤ (q : Int) * (y0 : Int) := by rw [hqi]; omega
          by_cases hB : 4294967296 * r + u0 < q * y0
          · have hd2 : decide (4294967296 * (r : Int) + (u0 : Int) < (q : Int) * (y0 : Int)) = true := by rw [decide_eq_true_eq, hqi]; omega
            have hgr := hv.out.great hVY.out (by rw [HB32_eq]; omega) (.inr (by rw [HB32_eq]; exact hB))
            have hq1p := hgr.1
            have HG := hid hgr.2
            by_cases hC : 4294967296 ≤ r + y1
            · have hd3 : decide ((4294967296 : Int) ≤ (r : Int) + (y1 : Int)) = true := by rw [decide_eq_true_eq]; omega
              have hsm := HG.out.small hVY.out (by rw [HB32_eq]; omega) (by rw [HB32_eq]; exact hC)
              have hrt := HG.out.right (by rw [HB32_eq]; omega) hsm (.inl (by rw [HB32_eq]; exact hC))
              rw [hq2.out] at hrt
              have HQ := hid hrt
              clear hrt hsm hgr hC hA hv hB hqi hqy
              go_wp2
              go_meet
              exact ⟨by rw [← HQ.out]; go_num, rfl⟩
            · have hd3 : decide ((4294967296 : Int) ≤ (r : Int) + (y1 : Int)) = false := by rw [decide_eq_false_iff_not]; omega
              have hrl' : r + y1 ≤ 4294967295 := by omega
              clear hgr hC hA hv hB hqi hqy
              go_wp2
              go_roundw
              case rel => exact ⟨q - 1, r + y1, by go_num, by go_num, HG, hrl', (by trivial)⟩
              case measure => simp [intOf]; omega
          · have hd2 : decide (4294967296 * (r : Int) + (u0 : Int) < (q : Int) * (y0 : Int)) = false := by rw [decide_eq_false_iff_not, hqi]; omega
            have hrt := hv.out.right (by rw [HB32_eq]; omega) (by rw [HB32_eq]; omega) (.inr (by rw [HB32_eq]; omega))
            rw [hq2.out] at hrt
            have HQ := hid hrt
            clear hrt hA hv hB hqi hqy
            go_wp2
            go_meet
            exact ⟨by rw [HQ.out], rfl⟩
    case rest =>
      obtain ⟨rfl, rfl⟩ := hcut
      clear hVb hM2l hR2l hi2 hVY hq2
      go_wp2
      go_ret2
      exact ⟨rfl, rfl⟩
theorem w64 (n : Int) : IntKind.u64.wrap n = n % 18446744073709551616 := IntKind.wrap_u64 n
theorem wrapV {X u P V : Nat} (h : X + u = P + V) (hV : V < 18446744073709551616) : (((X % 18446744073709551616 : Nat) : Int) + (u : Int) - ((P % 18446744073709551616 : Nat) : Int)) % 18446744073709551616 = (V : Int) := by omega
theorem half_facts {U u Y y1 y0 : Nat} (hU : U < Y) (hYW : Y < 18446744073709551616) (hu : u ≤ 4294967295) (hY : Y = y1 * 4294967296 + y0) (hy0 : y0 ≤ 4294967295) (hy1 : 2147483648 ≤ y1) :
    ∃ Q M R q A B V : Nat, IntKind.u64.wrap ((U : Int) / (y1 : Int)) = (Q : Int) ∧ IntKind.u64.wrap ((Q : Int) * (y1 : Int)) = (M : Int) ∧ M ≤ U ∧ (U : Int) - (M : Int) = (R : Int) ∧ R ≤ 4294967295 ∧
      HInv HB32 y1 y0 U u Q R ∧ U < y1 * HB32 + y0 ∧ (U * HB32 + u) / (y1 * HB32 + y0) = q ∧ q ≤ 4294967295 ∧ IntKind.u64.wrap ((U : Int) * 4294967296) = (A : Int) ∧ A + u ≤ 18446744073709551615 ∧
      IntKind.u64.wrap ((q : Int) * (Y : Int)) = (B : Int) ∧ IntKind.u64.wrap ((A : Int) + (u : Int) - (B : Int)) = (V : Int) ∧ V < Y ∧ V = (U * 4294967296 + u) % Y ∧ q = (U * 4294967296 + u) / Y := by
  have h1 := Nat.div_add_mod U y1
  have h2 := Nat.mod_lt U (show 0 < y1 by omega)
  have h3 := Nat.mul_comm y1 (U / y1)
  have h4 := Nat.div_le_self U y1
  have hst := HInv.start (b := HB32) (y1 := y1) (y0 := y0) (U := U) (u := u) (by omega) (by rw [HB32_eq]; omega)
  have hq : (U * 4294967296 + u) / Y < 4294967296 := by
    rw [Nat.div_lt_iff_lt_mul (by omega)]; omega
  have hdm := Nat.div_add_mod (U * 4294967296 + u) Y
  have hml := Nat.mod_lt (U * 4294967296 + u) (show 0 < Y by omega)
  have hmc := Nat.mul_comm Y ((U * 4294967296 + u) / Y)
  refine ⟨U / y1, U / y1 * y1, U - U / y1 * y1, (U * 4294967296 + u) / Y, U * 4294967296 % 18446744073709551616, (U * 4294967296 + u) / Y * Y % 18446744073709551616, (U * 4294967296 + u) % Y,
    ?_, ?_, ?_, ?_, ?_, hst, ?_, ?_, ?_, ?_, ?_, ?_, ?_, hml, rfl, rfl⟩
  · rw [← Int.natCast_ediv]; exact bt_wrapN _ (by omega)
  · rw [← Int.natCast_mul]; exact bt_wrapN _ (by omega)
  · omega
  · omega
  · omega
  · rw [HB32_eq]; omega
  · rw [HB32_eq, ← hY]
  · omega
  · rw [w64]; omega
  · omega
  · rw [← Int.natCast_mul]; exact bt_wrapM _
  · rw [w64]
    exact wrapV (by omega) (by omega)
theorem norm_y {y : Nat} (hy : 0 < y) (hyW : y < WB) : ∃ s, 64 - bitLen y = s ∧ s ≤ 63 ∧ 9223372036854775808 ≤ y * 2 ^ s ∧ y * 2 ^ s < 18446744073709551616 := by
  have h1 := bitLen_spec y
  have h2 := bitLen_le64 hyW
  have hb : bitLen y ≠ 0 := by intro h; rw [h] at h1; have := h1.1; simp at this; omega
  refine ⟨_, rfl, by omega, ?_, ?_⟩
  · have := Nat.mul_le_mul_right (2 ^ (64 - bitLen y)) (h1.2 (by omega))
    rw [← Nat.pow_add] at this
    have e : bitLen y - 1 + (64 - bitLen y) = 63 := by omega
    rw [e] at this
    exact this
  · have := Nat.mul_lt_mul_of_pos_right h1.1 (Nat.two_pow_pos (64 - bitLen y))
    rw [← Nat.pow_add] at this
    have e : bitLen y + (64 - bitLen y) = 64 := by omega
    rw [e] at this
    exact this
theorem cast_pow_mul (x s : Nat) : ((x : Int) * 2 ^ s) = ((x * 2 ^ s : Nat) : Int) := by rw [Int.natCast_mul, Int.natCast_pow]; rfl
theorem Div64_any {hi lo y : Nat} (hlt : hi < y) (hlo : lo < WB) (hyW : y < WB) (w : World) :
    Calls Tryz.prog 121 #[.int .u64 (hi : Int), .int .u64 (lo : Int), .int .u64 (y : Int)] w fun e w' =>
      e = .returned (.tuple #[.int .u64 (((hi * WB + lo) / y : Nat) : Int), .int .u64 (((hi * WB + lo) % y : Nat) : Int)]) ∧ Ext w w' := by
  rcases Nat.eq_zero_or_pos hi with h0 | h0
  · subst h0
    have := Div64_zero lo y hlo hlt w
    simpa using this
  · obtain ⟨s, hs, hs63, hY1, hY2⟩ := norm_y (y := y) (by omega) hyW
    have hlo' : lo < 2 ^ 64 := by rw [WB_pow] at hlo; exact hlo
    have hsh := shl_word (x := lo) (c := 0) (b := s) hlo' (Nat.two_pow_pos _) (by omega)
    have hhs : (hi + 1) * 2 ^ s ≤ y * 2 ^ s := Nat.mul_le_mul_right _ hlt
    rw [Nat.add_mul, Nat.one_mul] at hhs
    have hor : (hi * 2 ^ s ||| lo / 2 ^ (64 - s)) = hi * 2 ^ s + lo / 2 ^ (64 - s) := by
      rw [Nat.mul_comm hi, Nat.two_pow_add_eq_or_of_lt hsh.2.1]
    have hp := Nat.two_pow_pos s
    have hL : lo * 2 ^ s % 18446744073709551616 + 18446744073709551616 * (lo / 2 ^ (64 - s)) = 2 ^ s * lo := by
      have := hsh.2.2; rw [Nat.zero_or, Nat.zero_add] at this; exact this
    have hl2 := hsh.2.1
    clear hsh
    generalize hYd : y * 2 ^ s = Y at *
    generalize hLd : lo * 2 ^ s % 18446744073709551616 = L at *
    have hLlt : L < 18446744073709551616 := by omega
    generalize hld : lo / 2 ^ (64 - s) = l1 at *
    obtain ⟨U, hUd⟩ : ∃ U, U = hi * 2 ^ s + l1 := ⟨_, rfl⟩
    have hUY : U < Y := by omega
    obtain ⟨Q1, M1, R1, q1, A1, B1, V, a1, a2, a3, a4, a5, a6, a7, a8, a9, a10, a11, a12, a13, a14, a15, a16⟩ := half_facts (u := L / 4294967296) (y1 := Y / 4294967296) (y0 := Y % 4294967296) hUY hY2 (by omega) (by omega) (by omega) (by omega)
    obtain ⟨Q2, M2, R2, q2, A2, B2, Z, b1, b2, b3, b4, b5, b6, b7, b8, b9, b10, b11, b12, b13, b14, b15, b16⟩ := half_facts (u := L % 4294967296) (y1 := Y / 4294967296) (y0 := Y % 4294967296) a14 hY2 (by omega) (by omega) (by omega) (by omega)
    have key := Div64_pos (hi := hi) (lo := lo) (y := y) (s := s) (Y := Y) (y1 := Y / 4294967296) (y0 := Y % 4294967296) (U := U) (L := L) (u1 := L / 4294967296) (u0 := L % 4294967296) h0 hlt hs w hyW
      (by rw [cast_pow_mul, hYd]; exact bt_wrapN _ hY2) (by omega) (bt_maskN _ hY2)
      (by
        rw [cast_pow_mul, bt_wrapN _ (by omega), div_z, hld, hUd, ← hor]
        exact bits_or_u64_nat _ _ (by omega) (by omega))
      (by rw [cast_pow_mul, bt_wrapM, hLd]) (by omega) (bt_maskN _ hLlt) (by omega) (by omega) (by omega) (by omega) (by omega) (by omega)
      a1 a2 a3 a4 a5 (hid a6) (hid a7) (hid a8) a9 a10 a11 a12 a13 (by omega) b1 b2 b3 b4 b5 (hid b6) (hid b7) (hid b8) b9 b10 b11 b12 b13
    refine key.mono fun e w' ⟨he, hw⟩ => ?_
    have htd := two_digits (b := 4294967296) (y := Y) (A := U * 4294967296 + L / 4294967296) (u := L % 4294967296) a16 (a15 ▸ b16)
    have hN : (U * 4294967296 + L / 4294967296) * 4294967296 + L % 4294967296 = (hi * WB + lo) * 2 ^ s := by
      have e1 : (hi * WB + lo) * 2 ^ s = hi * 2 ^ s * 18446744073709551616 + 2 ^ s * lo := by rw [WB_eq, Nat.add_mul, Nat.mul_right_comm, Nat.mul_comm lo]
      rw [e1, ← hL, hUd]
      omega
    rw [hN, ← a15, ← b15] at htd
    rw [← hYd, Nat.mul_div_mul_right _ _ hp, Nat.mul_mod_mul_right] at htd
    rw [he]
    subst hw
    refine ⟨?_, Ext.refl _⟩
    have r1 : ((q1 : Int) * 4294967296 + (q2 : Int)) = (((hi * WB + lo) / y : Nat) : Int) := by rw [← htd.1]; omega
    have r2 : ((Z : Int) / 2 ^ s) = (((hi * WB + lo) % y : Nat) : Int) := by rw [div_z, htd.2, Nat.mul_div_cancel _ hp]
    rw [r1, r2]
end Go.Proofs.YtmfadfkjnfdngaaGreatDoor
set_option linter.unusedVariables false
set_option linter.unusedSimpArgs false
namespace Go.Proofs.YtmfadfkjnfdngaaGreatDoor
open Go.RowKit QM
theorem hl_le {p r u0 : Nat} (hu : u0 < WB) : (hi64 p < r ∨ hi64 p = r ∧ lo64 p ≤ u0) ↔ p ≤ r * WB + u0 := by
  have h1 := lohi p
  have h2 := lo64_lt p
  rw [WB_eq] at *
  omega
theorem topword : ((WB - 1 : Nat) : Int) = 18446744073709551615 := by decide
def Guess (u2 u1 u0 v1 v0 q : Nat) : Prop := q < WB ∧ q * (v1 * WB + v0) ≤ (u2 * WB + u1) * WB + u0 ∧ (q + 1 = WB ∨ (u2 * WB + u1) * WB + u0 < (q + 1) * (v1 * WB + v0))
set_option maxRecDepth 100000 in
set_option maxHeartbeats 2000000 in
theorem guess_any {u2 u1 u0 v1 v0 : Nat} (h2 : u2 ≤ v1) (h1 : u1 < WB) (h0 : u0 < WB) (hv1 : v1 < WB) (hv0 : v0 < WB) (hvp : 0 < v1) (w : World) :
    Calls Tryz.prog 122 #[.int .u64 (u2 : Int), .int .u64 (u1 : Int), .int .u64 (u0 : Int), .int .u64 (v1 : Int), .int .u64 (v0 : Int)] w fun e w' =>
      (∃ q : Nat, e = .returned (.int .u64 (q : Int)) ∧ Guess u2 u1 u0 v1 v0 q) ∧ Ext w w' := by
  have hgt : decide (v1 < u2) = false := by rw [decide_eq_false_iff_not]; omega
  have HV1 := hid hv1
  have HV0 := hid hv0
  have HU0 := hid h0
  have HU1 := hid h1
  have HVP := hid hvp
  have H2 := hid h2
  clear hv1 hv0 h0 h1 hvp h2
  go_enter Tryz.func122, Tryz.ntmps122
  go_upto_if 21 with fail
  go_cut [11, 12, 13] (fun a b c wx => ∃ q r cc : Nat, a = .int .u64 q ∧ b = .int .u64 r ∧ c = .int .u64 cc ∧ Hid (cc ≤ 1 ∧ r < WB ∧ GInv WB u2 u1 u0 v1 v0 q (r + WB * cc)) ∧ Ext w wx)
  case first =>
    by_cases heq : u2 = v1
    · have ha := Add64_runc u1 v1
      have hq : ((u2 : Int) == (v1 : Int)) = true := by rw [beq_iff_eq]; omega
      have hi : GInv WB u2 u1 u0 v1 v0 (WB - 1) (lo64 (u1 + v1) + WB * hi64 (u1 + v1)) := by
        rw [lohi, heq]; exact GInv.top WB_pos
      have hh : hi64 (u1 + v1) ≤ 1 := hi64_one (c := 0) HU1.out HV1.out (by omega)
      have HI := hid (And.intro hh (And.intro (lo64_lt (u1 + v1)) hi))
      clear heq hi hh
      go_wp2
      go_meet
      exact ⟨WB - 1, _, _, by rw [topword], rfl, rfl, HI, Ext.refl _⟩
    · have hq : ((u2 : Int) == (v1 : Int)) = false := by rw [beq_eq_false_iff_ne]; omega
      have hlt : u2 < v1 := by have := H2.out; omega
      have HD := hid (Div64_any hlt HU1.out HV1.out w)
      have hi := GInv.start (W := WB) (v0 := v0) hlt HU1.out HU0.out
      have HI : Hid (0 ≤ 1 ∧ (u2 * WB + u1) % v1 < WB ∧ GInv WB u2 u1 u0 v1 v0 ((u2 * WB + u1) / v1) ((u2 * WB + u1) % v1 + WB * 0)) := hid ⟨by omega, Nat.lt_trans (Nat.mod_lt _ HVP.out) HV1.out, by rw [Nat.mul_zero, Nat.add_zero]; exact hi⟩
      clear heq hi hlt
      generalize (u2 * WB + u1) / v1 = q at *
      generalize (u2 * WB + u1) % v1 = r at *
      go_wp2_with fail
      refine HD.out.mono ?_
      rintro e w1 ⟨rfl, hx⟩
      go_wp2
      go_meet
      exact ⟨q, r, 0, rfl, rfl, rfl, HI, hx⟩
  case rest =>
    obtain ⟨q0, r0, c0, rfl, rfl, rfl, hI0, hx0⟩ := hcut
    go_wp2_with fail
    go_loopw [11, 12, 13] (fun a b c wx => ∃ q r cc : Nat, a = .int .u64 q ∧ b = .int .u64 r ∧ c = .int .u64 cc ∧ Hid (cc ≤ 1 ∧ r < WB ∧ GInv WB u2 u1 u0 v1 v0 q (r + WB * cc)) ∧ Ext w wx) (fun a _ _ _ => (intOf a).toNat)
    case atStart => exact ⟨q0, r0, c0, rfl, rfl, rfl, hI0, hx0⟩
    case round =>
      obtain ⟨q, r, cc, rfl, rfl, rfl, hI, hx⟩ := hrel
      clear hI0 hx0
      by_cases hc : cc = 0
      · subst hc
        have hI' := hI.out.2.2
        rw [Nat.mul_zero, Nat.add_zero] at hI'
        have HM := hid (Mul64_any q v0 hI'.2.1 HV0.out)
        have hr := hI.out.2.1
        by_cases hle : q * v0 ≤ r * WB + u0
        · have hfit := hI'.fits HV0.out (.inr hle)
          have HG : Hid (Guess u2 u1 u0 v1 v0 q) := hid ⟨hI'.2.1, hfit, hI'.2.2⟩
          rcases (hl_le HU0.out).2 hle with hlt | ⟨heq, hle2⟩
          · clear hI' hle hfit hr
            generalize hi64 (q * v0) = h at *
            generalize lo64 (q * v0) = l at *
            have hd : decide (h < r) = true := by rw [decide_eq_true_eq]; exact hlt
            clear hlt
            go_wp2_with fail
            refine (HM.out _).mono ?_
            rintro e w' ⟨rfl, rfl⟩
            go_wp2
            go_ret
            exact ⟨⟨q, rfl, HG.out⟩, hx⟩
          · clear hI' hle hfit hr
            generalize hi64 (q * v0) = h at *
            generalize lo64 (q * v0) = l at *
            have hd : decide (h < r) = false := by rw [decide_eq_false_iff_not]; omega
            have hd2 : ((h : Int) == (r : Int)) = true := by rw [beq_iff_eq]; omega
            have hd3 : decide (l ≤ u0) = true := by rw [decide_eq_true_eq]; exact hle2
            clear heq hle2
            go_wp2_with fail
            refine (HM.out _).mono ?_
            rintro e w' ⟨rfl, rfl⟩
            go_wp2
            go_ret
            exact ⟨⟨q, rfl, HG.out⟩, hx⟩
        · have hnot := fun hh => hle ((hl_le HU0.out).1 hh)
          have hdn := hI'.down (by omega)
          have hq1 := hdn.1
          have ha := Add64_runc r v1
          have hs : GInv WB u2 u1 u0 v1 v0 (q - 1) (lo64 (r + v1) + WB * hi64 (r + v1)) := by rw [lohi]; exact hdn.2
          have hh : hi64 (r + v1) ≤ 1 := hi64_one (c := 0) hr HV1.out (by omega)
          have HS := hid (And.intro hh (And.intro (lo64_lt (r + v1)) hs))
          have hqb : q ≤ 18446744073709551615 := by have := hI'.2.1; rw [WB_eq] at this; omega
          clear hI' hle hdn hs hh hr
          generalize hi64 (q * v0) = h at *
          generalize lo64 (q * v0) = l at *
          have hd : decide (h < r) = false := by rw [decide_eq_false_iff_not]; exact fun hh => hnot (.inl hh)
          by_cases heq : h = r
          · have hd2 : ((h : Int) == (r : Int)) = true := by rw [beq_iff_eq]; omega
            have hd3 : decide (l ≤ u0) = false := by rw [decide_eq_false_iff_not]; exact fun hh => hnot (.inr ⟨heq, hh⟩)
            clear heq hnot
            go_wp2_with fail
            refine (HM.out _).mono ?_
            rintro e w' ⟨rfl, rfl⟩
            go_wp2
            go_roundw
            case rel => exact ⟨q - 1, _, _, by go_num, rfl, rfl, HS, hx⟩
            case measure => simp [intOf]; omega
          · have hd2 : ((h : Int) == (r : Int)) = false := by rw [beq_eq_false_iff_ne]; omega
            clear heq hnot
            go_wp2_with fail
            refine (HM.out _).mono ?_
            rintro e w' ⟨rfl, rfl⟩
            go_wp2
            go_roundw
            case rel => exact ⟨q - 1, _, _, by go_num, rfl, rfl, HS, hx⟩
            case measure => simp [intOf]; omega
      · have hc1 : cc = 1 := by have := hI.out.1; omega
        subst hc1
        have hI' := hI.out.2.2
        have hfit := hI'.fits HV0.out (.inl (by omega))
        have HG : Hid (Guess u2 u1 u0 v1 v0 q) := hid ⟨hI'.2.1, hfit, hI'.2.2⟩
        clear hI' hfit hc
        go_wp2
        go_ret
        exact ⟨⟨q, rfl, HG.out⟩, hx⟩
end Go.Proofs.YtmfadfkjnfdngaaGreatDoor
set_option linter.unusedVariables false
set_option linter.unusedSimpArgs false
namespace Go.Proofs.YtmfadfkjnfdngaaGreatDoor
open Go.RowKit QM
theorem mul_carry {x y c : Nat} (hx : x < WB) (hy : y < WB) (hc : c < WB) :
    hi64 (x * y) + hi64 (lo64 (x * y) + c) < WB ∧ lo64 (lo64 (x * y) + c) + WB * (hi64 (x * y) + hi64 (lo64 (x * y) + c)) = x * y + c := by
  have h := mac_bound hx hy (show 0 < WB from WB_pos) hc
  have h1 := lohi (x * y)
  have h2 := lohi (lo64 (x * y) + c)
  generalize x * y = p at *
  unfold WB at *
  omega
set_option maxRecDepth 100000 in
set_option maxHeartbeats 2000000 in
theorem take_any {base g j q cv cu : Nat} {w : World} {L lv : List Nat} {ov : Option Addr} (hA : Arr base w g L) (hv : RN w (.slice ov lv.length cv) lv) (hg : 0 < lv.length → ∀ b o, ov = some ⟨b, o, none⟩ → b ≠ g)
    (hq : q < WB) (hL : Sm WB L) (ho : j + lv.length < L.length) (hn : L.length ≤ 4398046511104) :
    Calls Tryz.prog 123 #[.slice (some ⟨g, j, none⟩) (lv.length + 1) cu, .slice ov lv.length cv, .int .u64 (q : Int)] w fun e w' =>
      (∃ r bw, e = .returned (.bool (decide (bw = 1))) ∧ bw ≤ 1 ∧ r.length = lv.length + 1 ∧ Sm WB r ∧ Arr base w' g (patch L j r) ∧ nval WB r + q * nval WB lv = nval WB ((L.drop j).take (lv.length + 1)) + WB ^ (lv.length + 1) * bw) ∧ w.grownBy w' (some g) := by
  have hsv := hid hv.sm
  generalize hN : L.length = N at ho hn
  generalize hnn : lv.length = n at hv ho hg ⊢
  have HN := hid hN
  have HNN := hid hnn
  have HQ := hid hq
  have HL := hid hL
  clear hN hnn hq hL
  go_enter Tryz.func123, Tryz.ntmps123
  go_wp2_with fail
  go_loopw [7, 8, 16] (fun c b k wr => ∃ (i : Nat) (r : List Nat) (cy bw : Nat), i ≤ n ∧ k = .int .i64 i ∧ c = .int .u64 cy ∧ b = .int .u64 bw ∧ TakeInvB WB q (L.drop j) lv i r cy bw ∧ Arr base wr g (patch L j r) ∧ w.grownBy wr (some g)) (fun _ _ k _ => n - (intOf k).toNat)
  case atStart => exact ⟨0, [], 0, 0, by omega, rfl, rfl, rfl, TakeInvB.start WB_pos _ _, by rw [patch_nil]; exact hA, World.grownBy.refl _ _⟩
  case round =>
    obtain ⟨i, r, cc, bb, hi', rfl, rfl, rfl, hinv, hAr, hEr⟩ := hrel
    have hcc := hinv.2.2.1
    have hbb := hinv.2.2.2.1
    have hrl := hinv.1
    have hlen : (patch L j r).length = N := by rw [patch_length (by have := HN.out; omega)]; exact HN.out
    have hout := hAr.cell (i := j + i) (by omega)
    rw [patch_gd (by have := HN.out; omega) (by omega)] at hout
    have hfz := hAr.frozen (j + i)
    by_cases hilt : i < n
    · obtain ⟨bx, ofx, rfl, hcx, hbg⟩ := rd_apart hv hEr (hg (by omega)) hilt
      have hyl := gd_lt hsv.out i
      have hgl := gd_lt HL.out (j + i)
      have hm := mul_carry HQ.out hyl hcc
      have HM := hid (Mul64_any q (gd lv i) HQ.out hyl)
      have ha := Add64_runc (lo64 (q * gd lv i)) cc
      have hsb := Sub64_run (gd L (j + i)) (lo64 (lo64 (q * gd lv i) + cc)) bb hbb
      have hsp := sb64_spec hgl (lo64_lt (lo64 (q * gd lv i) + cc)) hbb
      have hst := hAr.store (j + i) (sb64 (gd L (j + i)) (lo64 (lo64 (q * gd lv i) + cc)) bb)
      rw [← hrl, patch_set (by have := HN.out; omega), hrl] at hst
      have hstep := hinv.step hsp.2.1 hm.1 hsp.2.2 hm.2 (by rw [gd_drop']; exact hsp.1)
      have hgr := grown_trans hEr (grown_set wr g (j + i) (.int .u64 ((sb64 (gd L (j + i)) (lo64 (lo64 (q * gd lv i) + cc)) bb : Nat) : Int)))
      have hb : hi64 (q * gd lv i) + hi64 (lo64 (q * gd lv i) + cc) ≤ 18446744073709551615 := by have := hm.1; rw [WB_eq] at this; omega
      have HST := hid hst
      have HSTEP := hid hstep
      have HGR := hid hgr
      clear hst hstep hgr hm hyl hgl hlen hAr hinv hrl hEr hA hv hg hcc hsp hbb
      go_wp2_with fail
      refine (HM.out _).mono ?_
      rintro e w' ⟨rfl, rfl⟩
      go_wp2
      go_roundw
      case rel => exact ⟨i + 1, _, _, _, by omega, by go_num, by go_num, rfl, HSTEP.out, HST.out, HGR.out⟩
      case measure => simp [intOf]; omega
    · have hin : i = n := by omega
      subst hin
      have hgl := gd_lt HL.out (j + i)
      have hsb := Sub64_run (gd L (j + i)) cc bb hbb
      have hsp := sb64_spec hgl hcc hbb
      have hst := hAr.store (j + i) (sb64 (gd L (j + i)) cc bb)
      rw [← hrl, patch_set (by have := HN.out; omega), hrl] at hst
      have hdone := hinv.done (Nat.le_of_eq HNN.out) hsp.2.1 (by rw [gd_drop']; exact hsp.1)
      have hgr := grown_trans hEr (grown_set wr g (j + i) (.int .u64 ((sb64 (gd L (j + i)) cc bb : Nat) : Int)))
      have hb1 := hsp.2.2
      have HST := hid hst
      have HD := hid hdone
      have HGR := hid hgr
      generalize hbw : bw64 (gd L (j + i)) cc bb = bw at *
      have hne : ((bw : Int) != 0) = decide (bw = 1) := by
        have : bw = 0 ∨ bw = 1 := by omega
        rcases this with rfl | rfl <;> rfl
      clear hst hdone hgr hlen hAr hinv hrl hEr hA hv hg hcc hsp hbb hgl hbw
      go_wp2
      go_ret
      exact ⟨⟨_, bw, rfl, hb1, HD.out.2.1, HD.out.1, HST.out, HD.out.2.2⟩, HGR.out⟩
set_option maxRecDepth 100000 in
set_option maxHeartbeats 2000000 in
theorem back_any {base g j cv cu : Nat} {w : World} {L lv : List Nat} {ov : Option Addr} (hA : Arr base w g L) (hv : RN w (.slice ov lv.length cv) lv) (hg : 0 < lv.length → ∀ b o, ov = some ⟨b, o, none⟩ → b ≠ g)
    (hL : Sm WB L) (ho : j + lv.length < L.length) (hn : L.length ≤ 4398046511104) :
    Calls Tryz.prog 124 #[.slice (some ⟨g, j, none⟩) (lv.length + 1) cu, .slice ov lv.length cv] w fun e w' =>
      e = .returned (.tuple #[]) ∧ (∃ r ov, r.length = lv.length + 1 ∧ Sm WB r ∧ Arr base w' g (patch L j r) ∧ nval WB r + WB ^ (lv.length + 1) * ov = nval WB ((L.drop j).take (lv.length + 1)) + nval WB lv) ∧ w.grownBy w' (some g) := by
  have hsv := hid hv.sm
  generalize hN : L.length = N at ho hn
  generalize hnn : lv.length = n at hv ho hg ⊢
  have HN := hid hN
  have HNN := hid hnn
  have HL := hid hL
  clear hN hnn hL
  go_enter Tryz.func124, Tryz.ntmps124
  go_wp2_with fail
  go_loopw [4, 9] (fun c k wr => ∃ (i : Nat) (r : List Nat) (cy : Nat), i ≤ n ∧ k = .int .i64 i ∧ c = .int .u64 cy ∧ AddInv (L.drop j) lv i r cy ∧ Arr base wr g (patch L j r) ∧ w.grownBy wr (some g)) (fun _ k _ => n - (intOf k).toNat)
  case atStart => exact ⟨0, [], 0, by omega, rfl, rfl, AddInv.start _ _, by rw [patch_nil]; exact hA, World.grownBy.refl _ _⟩
  case round =>
    obtain ⟨i, r, cc, hi', rfl, rfl, hinv, hAr, hEr⟩ := hrel
    have hcc := hinv.2.2.1
    have hrl := hinv.1
    have hlen : (patch L j r).length = N := by rw [patch_length (by have := HN.out; omega)]; exact HN.out
    have hout := hAr.cell (i := j + i) (by omega)
    rw [patch_gd (by have := HN.out; omega) (by omega)] at hout
    have hfz := hAr.frozen (j + i)
    by_cases hilt : i < n
    · obtain ⟨bx, ofx, rfl, hcx, hbg⟩ := rd_apart hv hEr (hg (by omega)) hilt
      have ha := Add64_run (gd L (j + i)) (gd lv i) cc hcc
      have hst := hAr.store (j + i) (lo64 (gd L (j + i) + gd lv i + cc))
      rw [← hrl, patch_set (by have := HN.out; omega), hrl] at hst
      have hstep := hinv.step (HL.out.drop j) hsv.out
      rw [gd_drop'] at hstep
      have hgr := grown_trans hEr (grown_set wr g (j + i) (.int .u64 ((lo64 (gd L (j + i) + gd lv i + cc) : Nat) : Int)))
      have HST := hid hst
      have HSTEP := hid hstep
      have HGR := hid hgr
      clear hst hstep hgr hlen hAr hinv hrl hEr hA hv hg hcc
      go_wp2
      go_roundw
      case rel => exact ⟨i + 1, _, _, by omega, by go_num, rfl, HSTEP.out, HST.out, HGR.out⟩
      case measure => simp [intOf]; omega
    · have hin : i = n := by omega
      subst hin
      have hst := hAr.store (j + i) (lo64 (gd L (j + i) + cc))
      rw [← hrl, patch_set (by have := HN.out; omega), hrl] at hst
      have hdone := AddInvB.back hinv (Nat.le_of_eq HNN.out) (lo64_lt (gd L (j + i) + cc)) (o := hi64 (gd L (j + i) + cc)) (by rw [gd_drop']; exact lohi _)
      have hgr := grown_trans hEr (grown_set wr g (j + i) (.int .u64 ((lo64 (gd L (j + i) + cc) : Nat) : Int)))
      have hw : IntKind.u64.wrap (((gd L (j + i) : Nat) : Int) + (cc : Int)) = ((lo64 (gd L (j + i) + cc) : Nat) : Int) := by
        rw [← Int.natCast_add, bt_wrapM]; rfl
      have HST := hid hst
      have HD := hid hdone
      have HGR := hid hgr
      clear hst hdone hgr hlen hAr hinv hrl hEr hA hv hg hcc
      go_wp2
      go_end0
      exact ⟨rfl, ⟨_, _, HD.out.2.1, HD.out.1, HST.out, HD.out.2.2⟩, HGR.out⟩
end Go.Proofs.YtmfadfkjnfdngaaGreatDoor
set_option linter.unusedVariables false
set_option linter.unusedSimpArgs false
namespace Go.Proofs.YtmfadfkjnfdngaaGreatDoor
open Go.RowKit QM
theorem Arr.other {base g g' : Nat} {w w' : World} {l : List Nat} (h : Arr base w g l) (he : w.grownBy w' (some g')) (hne : g ≠ g') : Arr base w' g l :=
  World.ownsRow.kept h (w' := w') (row := some g') he (.inr (by simpa [Value.ownBlock] using hne))
theorem Arr.kept0 {base g : Nat} {w w' : World} {l : List Nat} (h : Arr base w g l) (he : w.grownBy w' none) : Arr base w' g l :=
  World.ownsRow.kept h (w' := w') (row := none) he (.inr (by simp [Value.ownBlock]))
theorem Arr.mono {base base' g : Nat} {w : World} {l : List Nat} (h : Arr base' w g l) (hb : base ≤ base') : Arr base w g l := by
  refine ⟨h.1, ?_⟩
  rcases h.2 with h | ⟨g, cap, cur, e1, e2, e3⟩
  · exact .inl h
  · exact .inr ⟨g, cap, cur, e1, Nat.le_trans hb e2, e3⟩
theorem grown_ext {w w1 w2 : World} {row : Option Nat} (h : w.grownBy w1 row) (he : Ext w1 w2) : w.grownBy w2 row :=
  ⟨he.os.trans h.os, he.tape.trans h.tape, he.output.trans h.output, Nat.le_trans h.size he.size, fun k hk hr => (he.block (Nat.lt_of_lt_of_le hk h.size)).trans (h.block k hk hr)⟩
theorem grown_none {w w1 : World} {row : Option Nat} (h : w.grownBy w1 none) : w.grownBy w1 row :=
  ⟨h.os, h.tape, h.output, h.size, fun k hk _ => h.block k hk (by simp)⟩
theorem RN.apart {w wr : World} {oa : Option Addr} {n ca g : Nat} {la : List Nat} (ha : RN w (.slice oa n ca) la) (hE : w.grownBy wr (some g)) (hg : ∀ b o, oa = some ⟨b, o, none⟩ → b ≠ g) : RN wr (.slice oa n ca) la := by
  have hl := ha.len
  obtain ⟨oa', cap', hv, h1, h2, h3, h4, h5⟩ := id ha
  refine ⟨oa', cap', hv, h1, h2, h3, h4, fun i hi => ?_⟩
  obtain ⟨b, o, e, c, _⟩ := rd_apart ha hE hg (by omega : i < n)
  simp only [Value.slice.injEq] at hv
  exact ⟨b, o, by rw [← hv.1]; exact e, c⟩
set_option maxRecDepth 100000 in
set_option maxHeartbeats 4000000 in
theorem long_any {base g cv n N m : Nat} {w : World} {L lv : List Nat} {ov : Option Addr} (hA : Arr base w g L) (hv : RN w (.slice ov lv.length cv) lv) (hg : ∀ b o, ov = some ⟨b, o, none⟩ → b ≠ g)
    (hL : Sm WB L) (hN : L.length = N) (hn : lv.length = n) (hm : N - n = m) (hn2 : 2 ≤ n) (hnN : n < N) (hNb : N ≤ 4398046511104) (htop : 9223372036854775808 ≤ gd lv (n - 1)) (hlt : nval WB (L.drop m) < nval WB lv) :
    Calls Tryz.prog 101 #[.slice (some ⟨g, 0, none⟩) N N, .slice ov n cv] w fun e w' =>
      (∃ L' O, e = .returned (.slice (some ⟨w.heap.size, 0, none⟩) m m) ∧ L'.length = N ∧ Sm WB L' ∧ O.length = m ∧ Sm WB O ∧ Arr base w' g L' ∧ Arr w.heap.size w' w.heap.size O ∧ nval WB L = nval WB L' + nval WB lv * nval WB O ∧ nval WB L' < nval WB lv) ∧ w.grownBy w' (some g) := by
  have hsv := hid hv.sm
  have hbg := hA.base.2
  have HL := hid hL
  have HN := hid hN
  have HNN := hid hn
  have HT := hid htop
  have hmi : ((N : Int) - (n : Int)) = (m : Int) := by omega
  have hmN : m + n ≤ N := by omega
  have hmN2 : N ≤ m + n := by omega
  have hm1 : 1 ≤ m := by omega
  obtain ⟨i0, hi, hz0, hz1, hz2⟩ := info_parts infoU64
  have hbytes : i0.bytes * m ≤ 281474976710656 := by rw [hz2]; omega
  have HV := hid hv
  have HG := hid hg
  have HA := hid hA
  have HLT := hid hlt
  clear hL hN hn hm htop hv hg hA hlt
  go_enter Tryz.func101, Tryz.ntmps101
  go_wp2_with (at_make; refine wpList_make_full _ rfl (.tmp 15) (.tmp 15) 28 rfl w.heap.size 56 i0 (.int .u64 0) 1 Tryz.underlying28 hi hz0 hz1 .i64 .i64 _ _ m rfl rfl (by omega) (by omega) hbytes (by unfold maxLen; omega) (Nat.le_refl _) ?_; intro w1 hown hgrow)
  have hO : Arr w.heap.size w1 w.heap.size (List.replicate m 0) := by
    rw [wv_zeros] at hown; unfold Arr; rw [List.length_replicate]; exact hown
  have hA1 := HA.out.kept0 hgrow
  have hg1 : w.grownBy w1 (some g) := grown_none hgrow
  clear hown hgrow hmi
  go_loopw [7] (fun k wr => ∃ (i : Nat) (L' O : List Nat), i ≤ m ∧ k = .int .i64 ((i : Int) - 1) ∧ L'.length = N ∧ Sm WB L' ∧ O.length = m ∧ Sm WB O ∧ Arr base wr g L' ∧ Arr w.heap.size wr w.heap.size O ∧
      nval WB L = nval WB L' + nval WB lv * (WB ^ i * nval WB (O.drop i)) ∧ nval WB (L'.drop i) < nval WB lv ∧ w.grownBy wr (some g)) (fun k _ => (intOf k + 1).toNat)
  case atStart =>
    exact ⟨m, L, List.replicate m 0, by omega, rfl, HN.out, HL.out, by simp, Sm.replicate WB_pos _, hA1, hO, by rw [nval_zeros_drop]; simp, HLT.out, hg1⟩
  case round =>
    obtain ⟨i, L', O, him, rfl, hL'l, hL's, hOl, hOs, hAL, hAO, hval, hrem, hgr⟩ := hrel
    clear hO hA1 hg1
    by_cases hi0 : i = 0
    · subst hi0
      have hfin : nval WB L = nval WB L' + nval WB lv * nval WB O := by
        rw [hval]; simp
      have HF := hid hfin
      have HRM := hid hrem
      have HH := hid (And.intro hL'l (And.intro hL's (And.intro hOl (And.intro hOs (And.intro hAL (And.intro hAO hgr))))))
      clear hval hfin hrem hL'l hL's hOl hOs hAL hAO hgr
      go_wp2
      go_ret
      exact ⟨⟨L', O, rfl, HH.out.1, HH.out.2.1, HH.out.2.2.1, HH.out.2.2.2.1, HH.out.2.2.2.2.1, HH.out.2.2.2.2.2.1, HF.out, HRM.out⟩, HH.out.2.2.2.2.2.2⟩
    · obtain ⟨j, rfl⟩ : ∃ j, i = j + 1 := ⟨i - 1, by omega⟩
      have e1 : (((j + 1 : Nat) : Int) - 1) = (j : Int) := by omega
      rw [e1]
      obtain ⟨bv, ofv, rfl, hc1, hbvg⟩ := rd_apart HV.out hgr HG.out (i := n - 1) (by have := HNN.out; omega)
      obtain ⟨bv', ofv', e2, hc2, _⟩ := rd_apart HV.out hgr HG.out (i := n - 2) (by have := HNN.out; omega)
      simp only [Option.some.injEq, Addr.mk.injEq, and_true] at e2
      obtain ⟨rfl, rfl⟩ := e2
      have hu2 := hAL.cell (i := j + n) (by omega)
      have hu1 := hAL.cell (i := j + n - 1) (by omega)
      have hu0 := hAL.cell (i := j + n - 2) (by omega)
      have HH := hid (And.intro hL'l (And.intro hL's (And.intro hOl (And.intro hOs (And.intro hAL (And.intro hAO hgr))))))
      have HVAL := hid hval
      have HRM := hid hrem
      clear hval hrem hL'l hL's hOl hOs hAL hAO hgr e1 hi0
      go_upto_region 6 with fail
      have h2v : gd L' (j + n) ≤ gd lv (n - 1) := top_le WB_pos hsv.out HNN.out (by omega) HRM.out
      have HGS := hid (fun w : World => guess_any (u2 := gd L' (j + n)) (u1 := gd L' (j + n - 1)) (u0 := gd L' (j + n - 2)) (v1 := gd lv (n - 1)) (v0 := gd lv (n - 2)) h2v (gd_lt HH.out.2.1 _) (gd_lt HH.out.2.1 _) (gd_lt hsv.out _) (gd_lt hsv.out _) (by have := HT.out; omega) w)
      go_cut [8] (fun s8 wx => ∃ q : Nat, s8 = .int .u64 q ∧ Hid (Guess (gd L' (j + n)) (gd L' (j + n - 1)) (gd L' (j + n - 2)) (gd lv (n - 1)) (gd lv (n - 2)) q) ∧ Ext wr wx)
      case first =>
        have z1 : (0 : Int) ≤ (j : Int) + (n : Int) ∧ (j : Int) + (n : Int) < (N : Int) := by omega
        have z2 : (0 : Int) ≤ (j : Int) + (n : Int) - 1 ∧ (j : Int) + (n : Int) - 1 < (N : Int) := by omega
        have z3 : (0 : Int) ≤ (j : Int) + (n : Int) - 2 ∧ (j : Int) + (n : Int) - 2 < (N : Int) := by omega
        have z4 : (0 : Int) ≤ (n : Int) - 1 ∧ (n : Int) - 1 < (n : Int) := by omega
        have z5 : (0 : Int) ≤ (n : Int) - 2 ∧ (n : Int) - 2 < (n : Int) := by omega
        have x1 : (1 : Int) ≤ (j : Int) + (n : Int) ∧ (2 : Int) ≤ (j : Int) + (n : Int) ∧ (j : Int) + (n : Int) ≤ (N : Int) ∧ (1 : Int) ≤ (n : Int) ∧ (2 : Int) ≤ (n : Int) := by omega
        have x2 : j + n ≤ N ∧ 1 ≤ n ∧ 1 ≤ j + n ∧ 2 ≤ j + n := by omega
        have t1 : ((j : Int) + (n : Int)).toNat = j + n := by omega
        have t2 : ((j : Int) + (n : Int) - 1).toNat = j + n - 1 := by omega
        have t3 : ((j : Int) + (n : Int) - 2).toNat = j + n - 2 := by omega
        have t4 : ((n : Int) - 1).toNat = n - 1 := by omega
        have t5 : ((n : Int) - 2).toNat = n - 2 := by omega
        have y1 : IntKind.i64.wrap ((j : Int) + (n : Int)) = (j : Int) + (n : Int) := IntWalk.i64_in _ (by omega)
        have y2 : IntKind.i64.wrap ((j : Int) + (n : Int) - 1) = (j : Int) + (n : Int) - 1 := IntWalk.i64_in _ (by clear y1; omega)
        have y3 : IntKind.i64.wrap ((j : Int) + (n : Int) - 2) = (j : Int) + (n : Int) - 2 := IntWalk.i64_in _ (by clear y1 y2; omega)
        have y4 : IntKind.i64.wrap ((n : Int) - 1) = (n : Int) - 1 := IntWalk.i64_in _ (by clear y1 y2 y3; omega)
        have y5 : IntKind.i64.wrap ((n : Int) - 2) = (n : Int) - 2 := IntWalk.i64_in _ (by clear y1 y2 y3 y4; omega)
        obtain ⟨z1, z1'⟩ := z1
        obtain ⟨z2, z2'⟩ := z2
        obtain ⟨z3, z3'⟩ := z3
        obtain ⟨z4, z4'⟩ := z4
        obtain ⟨z5, z5'⟩ := z5
        obtain ⟨x1, x3, x4, x5, x6⟩ := x1
        obtain ⟨x7, x8, x9, x10⟩ := x2
        go_still_tail 30, (by kernel_rfl)
        clear x1 x3 x4 x5 x6 x7 x8 x9 x10 y1 y2 y3 y4 y5 t1 t2 t3 t4 t5 z1 z2 z3 z4 z5 z1' z2' z3' z4' z5'
        change wpList _ _ _ _ _ wr.drew
        go_wp2_with fail
        refine (HGS.out _).mono ?_
        rintro e w2 ⟨⟨q, rfl, hG⟩, hx⟩
        have HG2 := hid hG
        clear hG
        go_wp2_with fail
        go_meet
        exact ⟨_, rfl, HG2, (Ext.drew _).trans hx⟩
      case rest =>
        obtain ⟨q, rfl, HG2, hx2⟩ := hcut
        clear HGS h2v hu2 hu1 hu0 hc1 hc2
        have hld := hid (long_digit WB_one HH.out.2.1 hsv.out HNN.out hn2 (by have := HT.out; omega) HRM.out HG2.out.1 HG2.out.2.1 HG2.out.2.2)
        have hgr2 := grown_ext HH.out.2.2.2.2.2.2 hx2
        have hAL2 := HH.out.2.2.2.2.1.ext hx2
        have hAO2 := HH.out.2.2.2.2.2.1.ext hx2
        have hvr : RN wc (.slice (some ⟨bv, ofv, none⟩) lv.length cv) lv := RN.apart HV.out hgr2 HG.out
        have ht := take_any (j := j) (q := q) (cu := N - j) hAL2 hvr (fun _ b o e => HG.out b o e) HG2.out.1 HH.out.2.1 (by rw [HH.out.1, HNN.out]; omega) (by rw [HH.out.1]; omega)
        rw [HNN.out] at ht
        have HTK := hid ht
        clear ht
        have ec : j + n + 1 - j = n + 1 := by omega
        go_wp2_with fail
        refine HTK.out.mono ?_
        rintro e w3 ⟨⟨r, bw, rfl, hbw, hr1, hr2, hr3, hr4⟩, hg3⟩
        rw [hld.out.2.1] at hr4
        have HR4 := hid hr4
        clear hr4
        have hgr3 := grown_trans hgr2 hg3
        have hne : w.heap.size ≠ g := by omega
        have hAO3 := hAO2.other hg3 hne
        have hpl : (patch L' j r).length = N := by rw [patch_length (by rw [HH.out.1]; omega)]; exact HH.out.1
        have hps : Sm WB (patch L' j r) := patch_sm HH.out.2.1 hr2
        clear hAL2 hAO2 hvr HTK hx2 hgr2 hg3
        rcases (show bw = 0 ∨ bw = 1 from by omega) with rfl | rfl
        · have hrt := long_right0 HR4.out hld.out.2.2.1
          have hpt := long_patch (L := L') (r := r) (O := O) (j := j) (n := n) (q := q) (v := nval WB lv) (B := WB) hr1 (by rw [HH.out.1]; omega) hld.out.1 hrt.2 (by rw [HH.out.2.2.1]; omega)
          have hout := hAO3.cell (i := j) (by rw [HH.out.2.2.1]; omega)
          have hfz := hAO3.frozen j
          have hst := hAO3.store j q
          have hgs := grown_set w3 w.heap.size j (.int .u64 (q : Int))
          have hAL3 := hr3.other hgs (by omega)
          have hgf : w.grownBy (w3.setCell ⟨w.heap.size, j, none⟩ (.int .u64 (q : Int))) (some g) := ⟨hgr3.os, hgr3.tape, hgr3.output, by rw [show (w3.setCell ⟨w.heap.size, j, none⟩ (.int .u64 (q : Int))).heap.size = w3.heap.size from by simp [World.setCell]]; exact hgr3.size, fun k hk hr => (Below.heap_setCell _ _ _ _ (by simp; omega)).trans (hgr3.block k hk hr)⟩
          have HF := hid (And.intro hst (And.intro hAL3 (And.intro hgf (And.intro hpl (And.intro hps (And.intro hpt hrt))))))
          clear hst hgs hAL3 hgf hpl hps hpt hrt hr1 hr2 hr3 hgr3 hAO3 hbw ec
          go_wp2
          go_roundw
          case rel =>
            refine ⟨j, patch L' j r, O.set j q, by omega, by go_num, HF.out.2.2.2.1, HF.out.2.2.2.2.1, by rw [List.length_set]; exact HH.out.2.2.1, HH.out.2.2.2.1.set j HG2.out.1, HF.out.2.1, HF.out.1, ?_, ?_, HF.out.2.2.1⟩
            · rw [HVAL.out]; exact HF.out.2.2.2.2.2.1.2
            · rw [HF.out.2.2.2.2.2.1.1]; exact HF.out.2.2.2.2.2.2.1
          case measure => first | (simp [intOf]; done) | (simp [intOf]; omega)
        · have hb := back_any (j := j) (cu := N - j) hr3 (RN.apart HV.out hgr3 HG.out) (fun _ b o e => HG.out b o e) hps (by rw [hpl, HNN.out]; omega) (by rw [hpl]; omega)
          rw [HNN.out] at hb
          have hq1 : 1 ≤ q := long_one HR4.out hr2 hr1
          obtain ⟨q', hq'⟩ : ∃ q', q = q' + 1 := ⟨q - 1, by omega⟩
          have hqi : (q : Int) - 1 = (q' : Int) := by omega
          have hqb : q ≤ 18446744073709551615 := by have := HG2.out.1; rw [WB_eq] at this; omega
          have hdt : nval WB (((patch L' j r).drop j).take (n + 1)) = nval WB r := by rw [← hr1, patch_drop_take (by rw [HH.out.1]; omega)]
          rw [hdt] at hb
          have HB := hid hb
          have HR := hid (And.intro hr1 (And.intro hr2 HR4.out))
          have HQ := hid hq'
          have HP := hid (And.intro hpl hps)
          have HG3 := hid (And.intro hgr3 hAO3)
          clear hb hr1 hr2 hr3 hq' hdt hpl hps hgr3 hAO3 hbw
          go_wp2_with fail
          refine HB.out.mono ?_
          rintro e w4 ⟨rfl, ⟨r2, ov, k1, k2, k3, k4⟩, hg4⟩
          have hbk := long_back1 WB_one HR.out.2.2 HR.out.2.1 k2 hsv.out HR.out.1 k1 HNN.out hld.out.2.2.2 k4
          have K4 := hid k4
          clear k4
          have hq'' : q - 1 = q' := by have := HQ.out; omega
          rw [hq''] at hbk
          rw [patch_patch (by rw [HH.out.1]; omega) (by rw [k1, HR.out.1])] at k3
          have hpt := long_patch (L := L') (r := r2) (O := O) (j := j) (n := n) (q := q') (v := nval WB lv) (B := WB) k1 (by rw [HH.out.1]; omega) hld.out.1 hbk.2.2 (by rw [HH.out.2.2.1]; omega)
          have hgr4 := grown_trans HG3.out.1 hg4
          have hAO4 := HG3.out.2.other hg4 hne
          have hpl2 : (patch L' j r2).length = N := by rw [patch_length (by rw [HH.out.1]; omega)]; exact HH.out.1
          have hps2 : Sm WB (patch L' j r2) := patch_sm HH.out.2.1 k2
          have hout := hAO4.cell (i := j) (by rw [HH.out.2.2.1]; omega)
          have hfz := hAO4.frozen j
          have hst := hAO4.store j q'
          have hgs := grown_set w4 w.heap.size j (.int .u64 (q' : Int))
          have hAL4 := k3.other hgs (by omega)
          have hgf : w.grownBy (w4.setCell ⟨w.heap.size, j, none⟩ (.int .u64 (q' : Int))) (some g) := ⟨hgr4.os, hgr4.tape, hgr4.output, by rw [show (w4.setCell ⟨w.heap.size, j, none⟩ (.int .u64 (q' : Int))).heap.size = w4.heap.size from by simp [World.setCell]]; exact hgr4.size, fun k hk hr => (Below.heap_setCell _ _ _ _ (by simp; omega)).trans (hgr4.block k hk hr)⟩
          have HF := hid (And.intro hst (And.intro hAL4 (And.intro hgf (And.intro hpl2 (And.intro hps2 (And.intro hpt hbk))))))
          clear hst hgs hAL4 hgf hpl2 hps2 hpt hbk k1 k2 k3 hg4 hgr4 hAO4 hq''
          go_wp2
          go_roundw
          case rel =>
            refine ⟨j, patch L' j r2, O.set j q', by omega, by go_num, HF.out.2.2.2.1, HF.out.2.2.2.2.1, by rw [List.length_set]; exact HH.out.2.2.1, HH.out.2.2.2.1.set j (by have := HG2.out.1; have := HQ.out; omega), HF.out.2.1, HF.out.1, ?_, ?_, HF.out.2.2.1⟩
            · rw [HVAL.out]; exact HF.out.2.2.2.2.2.1.2
            · rw [HF.out.2.2.2.2.2.1.1]; exact HF.out.2.2.2.2.2.2.2.1
          case measure => first | (simp [intOf]; done) | (simp [intOf]; omega)
end Go.Proofs.YtmfadfkjnfdngaaGreatDoor
set_option linter.unusedVariables false
set_option linter.unusedSimpArgs false
namespace Go.Proofs.YtmfadfkjnfdngaaGreatDoor
open Go.RowKit QM
def ArrC (base : Nat) (w : World) (g cap : Nat) (l : List Nat) : Prop :=
  w.ownsRow base 56 1 (.slice (some ⟨g, 0, none⟩) l.length cap) l.length (wv l)
theorem ArrC.cell {base g cap : Nat} {w : World} {l : List Nat} (h : ArrC base w g cap l) {i : Nat} (hi : i < l.length) : w.cell? ⟨g, i, none⟩ = some (.int .u64 ((gd l i : Nat) : Int)) := by
  rw [World.ownsRow.cellAt h i (by omega)]
  simp [wv, List.getElem?_map, List.getElem?_eq_getElem hi, gd, List.getD_eq_getElem?_getD]
theorem ArrC.frozen {base g cap : Nat} {w : World} {l : List Nat} (h : ArrC base w g cap l) (i : Nat) : w.frozen? ⟨g, i, none⟩ = false := World.ownsRow.frozenAt h i
theorem ArrC.store {base g cap : Nat} {w : World} {l : List Nat} (h : ArrC base w g cap l) (i x : Nat) : ArrC base (w.setCell ⟨g, i, none⟩ (.int .u64 (x : Int))) g cap (l.set i x) := by
  have := (World.ownsRow.stored h i (.int .u64 (x : Int))).1
  have e : (wv l).set i (.int .u64 (x : Int)) = wv (l.set i x) := by simp [wv, List.map_set]
  rw [e] at this
  simpa [ArrC] using this
theorem ArrC.ext {base g cap : Nat} {w w' : World} {l : List Nat} (h : ArrC base w g cap l) (he : Ext w w') : ArrC base w' g cap l := owns_ext h he
set_option maxRecDepth 100000 in
set_option maxHeartbeats 2000000 in
theorem Small_any {w : World} {va : Value} {la : List Nat} {x : Nat} (ha : RN w va la) (hna : la.length ≤ 1099511627775) (hx0 : 0 < x) (hx : x < WB) :
    Calls Tryz.prog 98 #[va, .int .u64 (x : Int)] w fun e w' => (∃ v, e = .returned (.tuple #[v, .int .u64 ((nval WB la % x : Nat) : Int), .bool true]) ∧ ON w.heap.size w' v (nval WB la / x)) ∧ Ext w w' := by
  have hz : ((x : Int) == 0) = false := by rw [beq_eq_false_iff_ne]; omega
  have HNA := hid (Norm_any ha (by omega))
  have HA := hid ha
  have HX := hid (And.intro hx0 hx)
  clear ha hx0 hx
  go_enter Tryz.func98, Tryz.ntmps98
  go_wp2_with fail
  refine HNA.out.mono ?_
  rintro e w1 ⟨⟨v1, rfl, ho1⟩, hx1⟩
  obtain ⟨A, h1, h2, h3, h4, h5⟩ := ho1
  have hAl : A.length ≤ 1099511627775 := Nat.le_trans (len_le_of WB_two HA.out.sm h3 (Nat.le_of_eq h4)) hna
  rcases h1.2 with ⟨rfl, h0⟩ | ⟨g, cap, cur, rfl, hbg, hgg, hnc, hcm, hcs, htk⟩
  · have hA0 : A = [] := List.eq_nil_of_length_eq_zero h0
    subst hA0
    have hv0 : nval WB la = 0 := by rw [← h4]; rfl
    have HV := hid hv0
    have HN2 := hid (Norm_any (RN.nil w1) (by simp))
    clear h1 h2 h3 h4 h5 hv0 h0
    go_wp2_with fail
    go_loopw [7, 8] (fun a b wr => a = .int .u64 0 ∧ b = .int .i64 (-1) ∧ w1 = wr) (fun _ _ _ => 0)
    case atStart => exact ⟨rfl, rfl, rfl⟩
    case round =>
      obtain ⟨rfl, rfl, rfl⟩ := hrel
      go_wp2_with fail
      refine HN2.out.mono ?_
      rintro e w2 ⟨⟨v2, rfl, ho⟩, hx2⟩
      have HO := hid ho
      clear ho
      go_wp2
      go_ret3
      refine ⟨⟨v2, ?_, ?_⟩, hx1.trans hx2⟩
      · rw [HV.out, Nat.zero_mod]; rfl
      · rw [HV.out, Nat.zero_div]; exact HO.out.mono hx1.size
  · have hAC : ArrC w.heap.size w1 g cap A := h1
    have H4 := hid h4
    have HS := hid h2
    generalize hn : A.length = n at hAl
    have HN := hid hn
    have hAC2 := hid hAC
    clear h1 h2 h3 h4 h5 hgg hcs htk hn hAC hnc
    go_wp2_with fail
    go_loopw [7, 8] (fun a b wr => ∃ (i : Nat) (L : List Nat) (r : Nat), i ≤ n ∧ a = .int .u64 r ∧ b = .int .i64 ((i : Int) - 1) ∧ SmallInv WB x A L i r ∧ ArrC w.heap.size wr g cap L ∧ Ext w wr) (fun _ b _ => (intOf b + 1).toNat)
    case atStart => exact ⟨n, A, 0, by omega, rfl, rfl, by rw [← HN.out]; exact SmallInv.start HS.out HX.out.1, hAC2.out, hx1⟩
    case round =>
      obtain ⟨i, L, r, hin, rfl, rfl, hinv, hAr, hE⟩ := hrel
      by_cases hi0 : i = 0
      · subst hi0
        have hd := hinv.done
        have hLl := hinv.1
        have hrn : RN wr (.slice (some ⟨g, 0, none⟩) n cap) L := by
          have := own_rn hAr hinv.2.1
          rw [hLl, HN.out] at this; exact this
        have HN2 := hid (Norm_any hrn (by rw [hLl, HN.out]; omega))
        have HD := hid hd
        clear hinv hAr hd hLl hrn
        go_wp2_with fail
        refine HN2.out.mono ?_
        rintro e w2 ⟨⟨v2, rfl, ho⟩, hx2⟩
        have HO := hid ho
        clear ho
        go_wp2
        go_ret3
        refine ⟨⟨v2, ?_, ?_⟩, hE.trans hx2⟩
        · rw [← H4.out, ← HD.out.2]; rfl
        · rw [← H4.out, ← HD.out.1]; exact HO.out.mono hE.size
      · obtain ⟨j, rfl⟩ : ∃ j, i = j + 1 := ⟨i - 1, by omega⟩
        have e1 : (((j + 1 : Nat) : Int) - 1) = (j : Int) := by omega
        rw [e1]
        have hc := hAr.cell (i := j) (by rw [hinv.1, HN.out]; omega)
        rw [hinv.2.2.2.1 j (by omega)] at hc
        have hfz := hAr.frozen j
        have HDV := hid (Div64_any hinv.2.2.1 (gd_lt HS.out j) HX.out.2 wr)
        have hst := hinv.step WB_pos HS.out (by rw [HN.out]; omega)
        have HAR := hid hAr
        have HST := hid hst
        clear hinv hAr hst e1 hi0
        generalize (r * WB + gd A j) / x = q at *
        generalize (r * WB + gd A j) % x = r2 at *
        go_wp2_with fail
        refine HDV.out.mono ?_
        rintro e w2 ⟨rfl, hx2⟩
        have hA2 := (HAR.out.ext hx2).store j q
        have hfz2 := (HAR.out.ext hx2).frozen j
        have hc2 := hx2.cell hc
        have HA2 := hid hA2
        have hbs : Ext w (w2.setCell ⟨g, j, none⟩ (.int .u64 (q : Int))) := Below.setCell (hE.trans hx2) (by simpa using hbg) _
        have HBS := hid hbs
        clear hA2 hbs hx2 hc hfz hE
        go_wp2
        go_roundw
        case rel => exact ⟨j, _, r2, by omega, rfl, by go_num, HST.out, HA2.out, HBS.out⟩
        case measure => first | (simp [intOf]; done) | (simp [intOf]; omega)
end Go.Proofs.YtmfadfkjnfdngaaGreatDoor
set_option linter.unusedVariables false
set_option linter.unusedSimpArgs false
namespace Go.Proofs.YtmfadfkjnfdngaaGreatDoor
open Go.RowKit QM
theorem Arr.heap {base g : Nat} {w : World} {l : List Nat} (h : Arr base w g l) : w.heap[g]? = some (.cells (wv l).toArray 56 (0, 0)) := by
  rcases h.2 with ⟨h', _⟩ | ⟨g', cap', cur, h', _, hg, _, _, hcs, htk⟩
  · simp at h'
  · simp only [Value.slice.injEq, Option.some.injEq, Addr.mk.injEq, and_true, true_and] at h'
    obtain ⟨rfl, rfl⟩ := h'
    rw [hg, ← htk, List.take_of_length_le (by simp [hcs])]
theorem Arr.of_heap {base g : Nat} {w : World} {l : List Nat} (hb : base ≤ g) (hl : l.length ≤ maxLen) (h : w.heap[g]? = some (.cells (wv l).toArray 56 (0, 0))) : Arr base w g l :=
  ⟨by rw [wv_len]; omega, .inr ⟨g, l.length, _, rfl, hb, h, Nat.le_refl _, hl, by simp [wv], by simp only [Nat.mul_one]; rw [List.take_of_length_le (by simp [wv])]⟩⟩
theorem DivMod_zero {w : World} {va vb : Value} {la lb : List Nat} (ha : RN w va la) (hb : RN w vb lb) (hna : la.length ≤ 1099511627775) (hnb : lb.length ≤ 1099511627775) (hy : nval WB lb = 0) :
    Calls Tryz.prog 74 #[va, vb] w fun e w' => e = .returned (.tuple #[.slice none 0 0, .slice none 0 0, .bool false]) ∧ Ext w w' := by
  have HNA := hid (Norm_any ha (by omega))
  have HB := hid hb
  have HY := hid hy
  clear ha hb hy
  go_enter Tryz.func74, Tryz.ntmps74
  go_wp2_with fail
  refine HNA.out.mono ?_
  rintro e w1 ⟨⟨v1, rfl, ho1⟩, hx1⟩
  have HNB := hid (Norm_any (HB.out.ext hx1) (by omega))
  have HO1 := hid ho1
  clear ho1
  go_wp2_with fail
  refine HNB.out.mono ?_
  rintro e w2 ⟨⟨v2, rfl, ho2⟩, hx2⟩
  obtain ⟨l2, l2r, l2n, l2v, l2z⟩ := ho2.nn
  have h0 : l2 = [] := l2n.zero WB_pos (by rw [l2v, HY.out])
  have hv2 := l2z h0
  subst hv2
  clear ho2 l2r l2n l2v l2z h0
  go_wp2
  go_ret3
  exact ⟨rfl, hx1.trans hx2⟩
def DivOk (w : World) (x y : Nat) (e : Ending) (w' : World) : Prop := ∃ vq vr, e = .returned (.tuple #[vq, vr, .bool true]) ∧ ON w.heap.size w' vq (x / y) ∧ ON w.heap.size w' vr (x % y)
theorem pow_top {l : List Nat} (h : Nrm l) (hl : l.length ≠ 0) : 0 < gd l (l.length - 1) := by
  rcases h with h | h
  · subst h; exact absurd rfl hl
  · exact Nat.pos_of_ne_zero h
theorem splice_wv {N : Nat} {lw : List Nat} (h : lw.length ≤ N) : splice (wv (List.replicate N 0)) 0 (wv lw) = wv (lw ++ List.replicate (N - lw.length) 0) := by
  simp [splice, wv, List.drop_replicate]
theorem infoU64s : (Tryz.prog.info? 56).map (·.size) = some 1 := by kernel_rfl
set_option maxRecDepth 100000 in
set_option maxHeartbeats 4000000 in
theorem DivMod_pos {w : World} {va vb : Value} {la lb : List Nat} (ha : RN w va la) (hb : RN w vb lb) (hna : la.length ≤ 1099511627770) (hnb : lb.length ≤ 1099511627770) (hy : 0 < nval WB lb) :
    Calls Tryz.prog 74 #[va, vb] w fun e w' => DivOk w (nval WB la) (nval WB lb) e w' ∧ Ext w w' := by
  have HNA := hid (Norm_any ha (by omega))
  have HB := hid hb
  have HA := hid ha
  have HY := hid hy
  clear ha hb hy
  go_enter Tryz.func74, Tryz.ntmps74
  go_wp2_with fail
  refine HNA.out.mono ?_
  rintro e w1 ⟨⟨v1, rfl, ho1⟩, hx1⟩
  have HNB := hid (Norm_any (HB.out.ext hx1) (by omega))
  have HO1 := hid ho1
  clear ho1
  go_wp2_with fail
  refine HNB.out.mono ?_
  rintro e w2 ⟨⟨v2, rfl, ho2⟩, hx2⟩
  obtain ⟨l1, l1r, l1n, l1v⟩ := NN.own (HO1.out.ext hx2)
  obtain ⟨l2, l2r, l2n, l2v⟩ := NN.own ho2
  have hl1 : l1.length ≤ 1099511627770 := Nat.le_trans (len_le_of WB_two HA.out.sm l1n (Nat.le_of_eq l1v)) hna
  have hl2 : l2.length ≤ 1099511627770 := Nat.le_trans (len_le_of WB_two HB.out.sm l2n (Nat.le_of_eq l2v)) hnb
  have hl20 : 0 < l2.length := by
    rcases Nat.eq_zero_or_pos l2.length with h0 | h0
    · have : l2 = [] := List.eq_nil_of_length_eq_zero h0
      subst this
      have := HY.out
      rw [← l2v] at this
      simp [nval] at this
    · exact h0
  have hx := hx1.trans hx2
  have HV := hid (And.intro l1v l2v)
  have HR1 := hid l1r
  have HR2 := hid l2r
  have HN := hid (And.intro l1n l2n)
  obtain ⟨b2, o2, c2, rfl, hc2l, hc2c, hcells⟩ : ∃ b o cap, v2 = .slice (some ⟨b, o, none⟩) l2.length cap ∧ l2.length ≤ cap ∧ cap ≤ maxLen ∧ ∀ i, i < l2.length → w2.cell? ⟨b, o + i, none⟩ = some (.int .u64 ((gd l2 i : Nat) : Int)) := by
    rcases l2r.shape with ⟨rfl, _⟩ | ⟨b, o, cap, e, _, h1, h2, h3⟩
    · simp at hl20
    · exact ⟨b, o, cap, e, h1, h2, h3⟩
  have HC := hid hcells
  have HCMP := hid (Cmp_any l1r l2r (by omega) (by omega))
  have hz : ((l2.length : Int) == 0) = false := by rw [beq_eq_false_iff_ne]; omega
  have HO1b := hid (HO1.out.ext hx2)
  clear l1v l2v ho2 hx1 l1r l2r l1n l2n hcells HNA HNB
  go_wp2_with fail
  refine HCMP.out.mono ?_
  rintro e w3 ⟨rfl, hx3⟩
  have hx' := hx.trans hx3
  by_cases hlt : nval WB l1 < nval WB l2
  · have hcm : cmpI (nval WB l1) (nval WB l2) = -1 := cmpI_lt hlt
    rw [hcm]
    have HLT := hid hlt
    clear hlt hcm
    go_wp2
    go_ret3
    refine ⟨⟨_, _, rfl, ?_, ?_⟩, hx'⟩
    · have := HLT.out
      rw [HV.out.1, HV.out.2] at this
      rw [Nat.div_eq_of_lt this]; exact ON.zero _ _
    · have := HLT.out
      rw [HV.out.1, HV.out.2] at this
      rw [Nat.mod_eq_of_lt this]
      exact (HO1b.out.ext hx3)
  · have hcm : ¬ cmpI (nval WB l1) (nval WB l2) < 0 := by unfold cmpI; rw [if_neg hlt]; split <;> omega
    have hcd : decide (cmpI (nval WB l1) (nval WB l2) < 0) = false := by rw [decide_eq_false_iff_not]; exact hcm
    have HGE := hid hlt
    clear hlt
    by_cases h1 : l2.length = 1
    · have h1b : ((l2.length : Int) == 1) = true := by rw [beq_iff_eq]; omega
      have hc0 := hx3.cell (HC.out 0 (by omega))
      rw [Nat.add_zero] at hc0
      have hv : nval WB l2 = gd l2 0 := by
        have := nval_take_gd WB l2 0
        rw [Nat.zero_add, List.take_of_length_le (by omega)] at this
        rw [this]; simp [nval]
      have hg0 : 0 < gd l2 0 := by rw [← hv, HV.out.2]; exact HY.out
      have HS := hid (Small_any (HR1.out.ext hx3) (by omega) hg0 (gd_lt HR2.out.sm 0))
      have HVV := hid hv
      have HM := hid (Nat.mod_lt (nval WB l1) hg0)
      have HG := hid (gd_lt HR2.out.sm 0)
      have h1' : l2.length ≤ 1 := by omega
      clear hv hg0 h1 hcm
      go_wp2_with fail
      refine HS.out.mono ?_
      rintro e w4 ⟨⟨v4, rfl, h4⟩, hx4⟩
      have H4 := hid h4
      have HO := hid (Of_own (nval WB l1 % gd l2 0) (Nat.lt_trans HM.out HG.out) w4)
      clear h4
      go_wp2_with fail
      refine HO.out.mono ?_
      rintro e w5 ⟨⟨v5, rfl, h5⟩, hx5⟩
      have H5 := hid h5
      clear h5
      go_wp2
      go_ret3
      refine ⟨⟨_, _, rfl, ?_, ?_⟩, (hx'.trans hx4).trans hx5⟩
      · have := H4.out
        rw [← HVV.out, HV.out.1, HV.out.2] at this
        exact (this.mono hx'.size).ext hx5
      · have := H5.out
        rw [← HVV.out, HV.out.1, HV.out.2] at this
        exact this.mono (hx'.trans hx4).size
    · have h1b : ((l2.length : Int) == 1) = false := by rw [beq_eq_false_iff_ne]; omega
      obtain ⟨n, hn⟩ : ∃ n, l2.length = n + 1 := ⟨l2.length - 1, by omega⟩
      have htp : 0 < gd l2 n := by have := pow_top HN.out.2 (by omega); rwa [hn, Nat.add_sub_cancel] at this
      have hgl := gd_lt HR2.out.sm n
      obtain ⟨s, hs, hs63, hs1, hs2⟩ := norm_y htp hgl
      have hcn : w3.cell? ⟨b2, o2 + (l2.length - 1), none⟩ = some (.int .u64 ((gd l2 n : Nat) : Int)) := by rw [show l2.length - 1 = n from by omega]; exact hx3.cell (HC.out n (by omega))
      have hps := Nat.two_pow_pos s
      have hHs : 2 ^ s ≤ 9223372036854775808 := by have : (2:Nat) ^ s ≤ 2 ^ 63 := Nat.pow_le_pow_right (by omega) hs63; exact this
      have htop : (gd l2 n + 1) * 2 ^ s ≤ WB := by
        have e : (2 : Nat) ^ s * 2 ^ (64 - s) = 2 ^ 64 := by rw [← Nat.pow_add]; congr 1; omega
        have h5 : gd l2 n < 2 ^ (64 - s) := by
          refine Nat.lt_of_mul_lt_mul_right (a := 2 ^ s) ?_
          rw [Nat.mul_comm (2 ^ (64 - s)), e]; exact hs2
        have h6 := Nat.mul_le_mul_right (2 ^ s) (show gd l2 n + 1 ≤ 2 ^ (64 - s) from h5)
        rw [Nat.mul_comm (2 ^ (64 - s)), e] at h6
        rw [WB_pow]; exact h6
      have hge : l2.length ≤ l1.length := by
        refine Nat.le_of_not_lt fun h => HGE.out ?_
        exact nval_len_lt WB_pos HR1.out.sm HN.out.2 h
      have HLZ := hid (LeadingZeros64_any (gd l2 n) hgl w3)
      rw [hs] at HLZ
      have HS := hid (And.intro hs1 (And.intro htop (And.intro hHs hps)))
      have hn2 : 2 ≤ n + 1 := by omega
      have HSH := hid (fun (w : World) (h : RN w (.slice (some ⟨b2, o2, none⟩) l2.length c2) l2) => Shl_any (n := s) (q := 0) (b := s) h (by omega) (by omega) (by omega) (by omega))
      have HR23 := hid (HR2.out.ext hx3)
      have HNE := hid hn
      have HCB := hid (HSH.out w3 HR23.out)
      have HMOD := hid (fun (w5 : World) (h : w5.ownsRow w.heap.size 56 1 v1 0 []) => h)
      have HCA := hid (fun (w : World) (h : RN w v1 l1) => Shl_any (n := s) (q := 0) (b := s) h (by omega) (by omega) (by omega) (by omega))
      clear hcm hn htp hgl hs hs1 hs2 hps hHs htop h1 HMOD
      obtain ⟨o1, c1, rfl, _⟩ := id HR1.out
      obtain ⟨i0, hi, hz0, hz1, hz2⟩ := info_parts infoU64
      have hbytes : i0.bytes * (l1.length + 1) ≤ 281474976710656 := by rw [hz2]; omega
      go_wp2_with fail
      refine HLZ.out.mono ?_
      rintro e w' ⟨rfl, rfl⟩
      go_wp2_with fail
      refine HCB.out.mono ?_
      rintro e w4 ⟨⟨v4, rfl, h4⟩, hx4⟩
      have H4 := hid h4
      have HCA4 := hid (HCA.out w4 (HR1.out.ext (hx3.trans hx4)))
      clear h4
      go_wp2_with fail
      refine HCA4.out.mono ?_
      rintro e w5 ⟨⟨v5, rfl, h5⟩, hx5⟩
      obtain ⟨lv, lvr, lvn, lvv⟩ := NN.own (H4.out.ext hx5)
      obtain ⟨lw, lwr, lwn, lwv⟩ := NN.own h5
      have hnl := norm_len WB_pos HR2.out.sm lvr.sm lvn HNE.out lvv HS.out.2.1 HS.out.1 (by omega)
      have hshl := shift_len WB_pos HR1.out.sm lwn lwv (Nat.le_trans HS.out.2.2.1 (by rw [WB_eq]; omega)) HS.out.2.2.2
      have hlw0 : 0 < lw.length := by
        rcases Nat.eq_zero_or_pos lw.length with h0 | h0
        · have : lw = [] := List.eq_nil_of_length_eq_zero h0
          subst this
          have h1 : 0 < nval WB l1 * 2 ^ s := Nat.mul_pos (by have := HGE.out; have := HY.out; have := HV.out.2; omega) HS.out.2.2.2
          rw [← lwv] at h1; simp [nval] at h1
        · exact h0
      obtain ⟨bw, ow, cw, rfl, hwcells⟩ : ∃ b o cap, v5 = .slice (some ⟨b, o, none⟩) lw.length cap ∧ ∀ j u, (wv lw)[j]? = some u → w5.cell? ((⟨b, o, none⟩ : Addr).add j) = some u := by
        rcases lwr.shape with ⟨rfl, _⟩ | ⟨b, o, cap, e, _⟩
        · simp at hlw0
        · exact ⟨b, o, cap, e, rn_cells (by rw [← e]; exact lwr)⟩
      obtain ⟨bv, ov, cv, rfl, hbv⟩ : ∃ b o cap, v4 = .slice (some ⟨b, o, none⟩) lv.length cap ∧ b < w5.heap.size := by
        rcases lvr.shape with ⟨rfl, _⟩ | ⟨b, o, cap, e, h0, _, _, h3⟩
        · simp at hnl
        · exact ⟨b, o, cap, e, by have := World.block_lt_of_cell? w5 _ (h3 0 h0); simpa using this⟩
      have HMK := hid (fun (w6 : World) (hown : w6.ownsRow w5.heap.size 56 1 (.slice (some ⟨w5.heap.size, 0, none⟩) (l1.length + 1) (l1.length + 1)) (l1.length + 1) (madeCells (Value.int .u64 0).cells ((l1.length + 1) * 1)).toList) => (by
        have hA : Arr w5.heap.size w6 w5.heap.size (List.replicate (l1.length + 1) 0) := by
          rw [wv_zeros] at hown; unfold Arr; rw [List.length_replicate]; exact hown
        exact hA.heap : w6.heap[w5.heap.size]? = some (.cells (wv (List.replicate (l1.length + 1) 0)).toArray 56 (0, 0))))
      have HBL := hid (fun (w6 : World) (hg : w5.grownBy w6 none) => (Below.grown (Below.refl _ _) hg (Nat.le_refl _) (fun k hk => by cases hk) : Below w5.heap.size w5 w6))
      have HWC := hid (fun (w6 : World) (hb : Below w5.heap.size w5 w6) j u (h : (wv lw)[j]? = some u) => Ext.cell hb (hwcells j u h))
      have HLW := hid (And.intro lwv (And.intro hshl (And.intro lwr.sm lwn)))
      have HLV := hid (And.intro lvv (And.intro hnl (And.intro lvr lvn)))
      have hmin : (wv lw).length = Nat.min lw.length (l1.length + 1) := by rw [wv_len]; exact (Nat.min_eq_left hshl).symm
      have hfit : 0 + (wv lw).length ≤ (wv (List.replicate (l1.length + 1) 0)).length := by rw [wv_len, wv_len, List.length_replicate]; omega
      have HMIN := hid hmin
      have HFIT := hid hfit
      have hx35 := hx3.trans (hx4.trans hx5)
      clear lwv lwn lwr lvv lvn lvr hnl hshl hwcells h5 hmin hfit hcn
      go_wp2_with (first | (at_make; refine wpList_make_full _ rfl (.tmp 70) (.tmp 70) 28 rfl w5.heap.size 56 i0 (.int .u64 0) 1 Tryz.underlying28 hi hz0 hz1 .i64 .i64 _ _ (l1.length + 1) rfl rfl (by omega) (by omega) hbytes (by unfold maxLen; omega) (Nat.le_refl _) ?_; intro w6 hown hgrow; have hh6 := hid (HMK.out w6 hown); have hb6 := hid (HBL.out w6 hgrow); clear hown hgrow) | (with_reducible refine wpList_copy_splice rfl (.tmp 72) (.tmp 73) 28 28 rfl 56 Tryz.underlying28 infoU64s _ _ _ _ _ _ rfl rfl w5.heap.size 0 (wv (List.replicate (l1.length + 1) 0)) 56 hh6.out (wv lw) HMIN.out (fun _ => ⟨rfl, ⟨bw, ow, none⟩, rfl, HWC.out w6 hb6.out⟩) HFIT.out (wv_one _) w5.heap.size w5 hb6.out (Nat.le_refl _) ?_; intro w7 hc7 hb7))
      obtain ⟨g, hg⟩ : ∃ g, g = w5.heap.size := ⟨_, rfl⟩
      have hc8 := hc7.out
      rw [splice_wv HLW.out.2.1] at hc8
      rw [← hg] at hc8 hb7 hbv ⊢
      have HGW := hid hg
      have hE57 : Ext w5 w7 := by have := HGW.out; subst this; exact hb7
      obtain ⟨L, hL⟩ : ∃ L, L = lw ++ List.replicate (l1.length + 1 - lw.length) 0 := ⟨_, rfl⟩
      rw [← hL] at hc8
      have hLl : L.length = l1.length + 1 := by rw [hL]; simp; have := HLW.out.2.1; omega
      have hLs : Sm WB L := by rw [hL]; exact HLW.out.2.2.1.append (Sm.replicate WB_pos _)
      have hLv : nval WB L = nval WB l1 * 2 ^ s := by rw [hL, nval_append, nval_replicate, HLW.out.1]; simp
      have hArr : Arr g w7 g L := Arr.of_heap (Nat.le_refl _) (by rw [hLl]; unfold maxLen; omega) hc8
      have hlt := high_lt (B := WB) (m := l1.length - n) (n := n) (lv := lv) WB_pos HR1.out.sm hLv (by have := HNE.out; omega) (top_ge HLV.out.2.1.1 HLV.out.2.1.2) HS.out.2.2.1 HS.out.2.2.2
      have hlong := long_any (n := n + 1) (N := l1.length + 1) (m := l1.length - n) hArr (HLV.out.2.2.1.ext hE57) (fun b o e => by simp only [Option.some.injEq, Addr.mk.injEq] at e; have := HGW.out; omega) hLs hLl HLV.out.2.1.1 (by have := HNE.out; omega) hn2 (by have := HNE.out; omega) (by omega) (by rw [Nat.add_sub_cancel]; exact HLV.out.2.1.2) hlt
      rw [show lv.length = n + 1 from HLV.out.2.1.1]
      have HLG := hid hlong
      have HLVV := hid hLv
      clear hlong hLv hlt hArr hLs hLl hc8 hb7 hc7 hL hg HMK HBL HWC HMIN HFIT hh6 hb6
      go_wp2_with fail
      refine HLG.out.mono ?_
      rintro e w8 ⟨⟨L', O, rfl, k1, k2, k3, k4, k5, k6, k7, k8⟩, hg8⟩
      have hE58 : Ext w5 w8 := by
        have h1 := HGW.out
        subst h1
        exact Below.grown hE57 hg8 hE57.size (fun k hk => Nat.le_of_eq (Option.some.inj hk))
      have hrL := own_rn k5 k2
      have hrO := own_rn k6 k4
      rw [k1] at hrL
      rw [k3] at hrO
      have HSR := hid (Shr_any (n := s) hrL (by rw [k1]; omega) (by omega))
      have HRO := hid hrO
      have hds := divmod_shift (x := nval WB l1) (y := nval WB l2) (t := 2 ^ s) (q := nval WB O) (r := nval WB L') HS.out.2.2.2 (by rw [← HLVV.out, k7, HLV.out.1]) (by rw [← HLV.out.1]; exact k8)
      have HDS := hid hds
      have HOL := hid k3
      have hx58 := hx3.trans ((hx4.trans hx5).trans hE58)
      clear k1 k2 k3 k4 k5 k6 k7 k8 hrL hrO hg8 hds
      go_wp2_with fail
      refine HSR.out.mono ?_
      rintro e w9 ⟨⟨v9, rfl, h9⟩, hx9⟩
      have H9 := hid h9
      have HNO := hid (Norm_any (HRO.out.ext hx9) (by rw [HOL.out]; omega))
      clear h9
      go_wp2_with fail
      refine HNO.out.mono ?_
      rintro e w10 ⟨⟨v10, rfl, h10⟩, hx10⟩
      have H10 := hid h10
      clear h10
      go_wp2
      go_ret3
      have hxx := (hx.trans hx58).trans hx9
      refine ⟨⟨_, _, rfl, ?_, ?_⟩, hxx.trans hx10⟩
      · have := H10.out
        rw [HDS.out.1, HV.out.1, HV.out.2] at this
        exact this.mono hxx.size
      · have := H9.out
        rw [HDS.out.2, HV.out.1, HV.out.2] at this
        exact (this.mono ((hx.trans hx58)).size).ext hx10
end Go.Proofs.YtmfadfkjnfdngaaGreatDoor
set_option linter.unusedVariables false
set_option linter.unusedSimpArgs false
namespace Go.Proofs.YtmfadfkjnfdngaaGreatDoor
open Go.RowKit QM
theorem Mod_pos {w : World} {va vb : Value} {la lb : List Nat} (ha : RN w va la) (hb : RN w vb lb) (hna : la.length ≤ 1099511627770) (hnb : lb.length ≤ 1099511627770) (hy : 0 < nval WB lb) :
    Calls Tryz.prog 64 #[va, vb] w fun e w' => (∃ v, e = .returned (.tuple #[v, .bool true]) ∧ ON w.heap.size w' v (nval WB la % nval WB lb)) ∧ Ext w w' := by
  have HD := hid (DivMod_pos ha hb hna hnb hy)
  clear ha hb hy
  go_enter Tryz.func64, Tryz.ntmps64
  go_wp2_with fail
  refine HD.out.mono ?_
  rintro e w1 ⟨⟨v1, v2, rfl, h1, h2⟩, hx1⟩
  have H2 := hid h2
  clear h1 h2
  go_wp2
  go_ret2
  exact ⟨⟨v2, rfl, H2.out⟩, hx1⟩
theorem nn_len {w : World} {v : Value} {n k : Nat} (h : NN w v n) (hk : n < WB ^ k) : ∃ oa cap l, v = .slice oa l.length cap ∧ RN w v l ∧ nval WB l = n ∧ l.length ≤ k ∧ (l.length = 0 ↔ n = 0) := by
  obtain ⟨l, h1, h2, h3, h4⟩ := h
  obtain ⟨oa, cap, hv, _⟩ := id h1
  refine ⟨oa, cap, l, hv, h1, h3, h2.len_le WB_pos (by rw [h3]; exact hk), ?_⟩
  constructor
  · intro h0
    rw [List.eq_nil_of_length_eq_zero h0] at h3
    exact h3.symm
  · intro h0
    rw [h2.zero WB_pos (by rw [h3]; exact h0)]; rfl
theorem nn_lt {la : List Nat} (h : Sm WB la) {k : Nat} (hk : la.length ≤ k) : nval WB la < WB ^ k :=
  Nat.lt_of_lt_of_le (nval_lt h) (Nat.pow_le_pow_right WB_pos hk)
set_option maxHeartbeats 1000000 in
theorem Gcd_any {w : World} {va vb : Value} {la lb : List Nat} {k : Nat} (ha : RN w va la) (hb : RN w vb lb) (hk : k ≤ 1099511627770) (hna : la.length ≤ k) (hnb : lb.length ≤ k) :
    Calls Tryz.prog 36 #[va, vb] w fun e w' => (∃ v, e = .returned v ∧ ON w.heap.size w' v (Nat.gcd (nval WB la) (nval WB lb))) ∧ Ext w w' := by
  have HNA := hid (Norm_any ha (by omega))
  have HB := hid hb
  have HK := hid (And.intro (nn_lt ha.sm hna) (nn_lt hb.sm hnb))
  clear ha hb
  go_enter Tryz.func36, Tryz.ntmps36
  go_wp2_with fail
  refine HNA.out.mono ?_
  rintro e w1 ⟨⟨v1, rfl, ho1⟩, hx1⟩
  have HNB := hid (Norm_any (HB.out.ext hx1) (by omega))
  have HO1 := hid ho1
  clear ho1
  go_wp2_with fail
  refine HNB.out.mono ?_
  rintro e w2 ⟨⟨v2, rfl, ho2⟩, hx2⟩
  have HI := hid (And.intro (HO1.out.ext hx2) (ho2.mono hx1.size))
  have hx := hx1.trans hx2
  clear ho2 hx1 hx2 HNA HNB
  go_wp2_with fail
  go_loopg [0, 1] (nval WB lb) (fun y a b wr => ∃ x : Nat, Hid (ON w.heap.size wr a x ∧ ON w.heap.size wr b y ∧ x < WB ^ k ∧ y < WB ^ k ∧ Nat.gcd x y = Nat.gcd (nval WB la) (nval WB lb)) ∧ Ext w wr)
  case atStart => exact ⟨_, hid ⟨HI.out.1, HI.out.2, HK.out.1, HK.out.2, rfl⟩, hx⟩
  case round =>
    obtain ⟨x, hI, hE⟩ := hrel
    obtain ⟨oa, ca, l1, rfl, r1, v1, n1, z1⟩ := nn_len hI.out.1.nn hI.out.2.2.1
    obtain ⟨ob, cb, l2, rfl, r2, v2, n2, z2⟩ := nn_len hI.out.2.1.nn hI.out.2.2.2.1
    have HR := hid (And.intro r1 (And.intro r2 (And.intro v1 v2)))
    by_cases hy : gk = 0
    · have h0 : l2.length ≤ 0 := by have := z2.2 hy; omega
      have hfin : ON w.heap.size wr (.slice oa l1.length ca) (Nat.gcd (nval WB la) (nval WB lb)) := by
        have h1 := hI.out.2.2.2.2
        rw [hy, Nat.gcd_zero_right] at h1
        rw [← h1]; exact hI.out.1
      have HF := hid hfin
      clear hy hfin r1 r2 v1 v2 z1 z2
      go_wp2
      go_ret
      exact ⟨⟨_, rfl, HF.out⟩, hE⟩
    · have h0 : 0 < l2.length := by have := z2.1; omega
      have HM := hid (Mod_pos r1 r2 (by omega) (by omega) (by rw [v2]; omega))
      have hlt : x % gk < gk := Nat.mod_lt _ (by omega)
      have HL := hid hlt
      clear hy r1 r2 v1 v2 z1 z2 hlt
      go_wp2_with fail
      refine HM.out.mono ?_
      rintro e w3 ⟨⟨v3, rfl, h3⟩, hx3⟩
      rw [HR.out.2.2.1, HR.out.2.2.2] at h3
      have H3 := hid (h3.mono hE.size)
      have H2 := hid (hI.out.2.1.ext hx3)
      clear h3
      go_wp2
      go_roundg (x % gk)
      case measure => exact HL.out
      case rel =>
        refine ⟨gk, hid ⟨H2.out, H3.out, hI.out.2.2.2.1, Nat.lt_trans HL.out hI.out.2.2.2.1, ?_⟩, hE.trans hx3⟩
        rw [← hI.out.2.2.2.2, Nat.gcd_comm x, Nat.gcd_rec gk x, Nat.gcd_comm]
end Go.Proofs.YtmfadfkjnfdngaaGreatDoor

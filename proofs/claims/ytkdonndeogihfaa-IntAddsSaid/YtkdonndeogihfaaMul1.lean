import Derived.Test.YtkdonndeogihfaaNat9
/- Package mul: low, high, less, joined. -/
set_option linter.unusedVariables false
set_option linter.unusedSimpArgs false
namespace Go.Proofs.Ytkdonndeogihfaa
open Go.RowKit QM

theorem NN.own {base : Nat} {w : World} {v : Value} {n : Nat} (h : ON base w v n) : ∃ l, RN w v l ∧ Nrm l ∧ nval WB l = n := by
  obtain ⟨l, h1, h2, h3, h4⟩ := h.nn; exact ⟨l, h1, h2, h3⟩
theorem ON.mono {base base' : Nat} {w : World} {v : Value} {n : Nat} (h : ON base' w v n) (hb : base ≤ base') : ON base w v n := by
  obtain ⟨l, h1, h2⟩ := h
  refine ⟨l, ⟨h1.1, ?_⟩, h2⟩
  rcases h1.2 with h | ⟨g, cap, cur, e1, e2, e3⟩
  · exact .inl h
  · exact .inr ⟨g, cap, cur, e1, Nat.le_trans hb e2, e3⟩
theorem owns_ext {base e : Nat} {w w' : World} {v : Value} {n : Nat} {xs : List Value} (h : w.ownsRow base e 1 v n xs) (he : Ext w w') : w'.ownsRow base e 1 v n xs :=
  h.kept (w' := w') (row := none) ⟨he.os, he.tape, he.output, he.size, fun _ hk _ => he.block hk⟩ (by cases v.ownBlock <;> simp)
theorem ON.ext {base : Nat} {w w' : World} {v : Value} {n : Nat} (h : ON base w v n) (he : Ext w w') : ON base w' v n := by
  obtain ⟨l, h1, h2⟩ := h; exact ⟨l, owns_ext h1 he, h2⟩
/-- 'make([]T, n, c)'. -/
theorem wpList_make_part {P : Program} (w : World) {ops : Array Oper} {rest : List Oper} {o : Oper} {a : Act} {Q : Exit → Act → World → Prop}
    (hg : o.guard = none) (l c : Operand) (t : TypeId) (hop : o.op = Op.makeSlice t l c) (e : TypeId) (i : TypeInfo) (h1 : P.underlying t = some (.slice e)) (h2 : P.info? e = some i) (h3 : i.zero = some (.int .u64 0)) (h4 : i.size = 1)
    (kl kc : IntKind) (L C : Int) (n m : Nat) (hl : a.eval l = .int kl L) (hc : a.eval c = .int kc C) (hL : L = (n : Int)) (hC : C = (m : Int)) (hnm : n ≤ m) (b2 : i.bytes * m ≤ 281474976710656) (b3 : m ≤ maxLen)
    (hK : ∀ w', w'.ownsRow w.heap.size e 1 (.slice (some ⟨w.heap.size, 0, none⟩) n m) n (wv (List.replicate n 0)) → w.grownBy w' none → wpList P ops Q rest (a.put o.dst (.slice (some ⟨w.heap.size, 0, none⟩) n m)) w') :
    wpList P ops Q (o :: rest) a w := by
  refine wpList_plain hg fun K hK' => ?_
  subst hL hC
  have hb' : (i.bytes : Int) * (m : Int) ≤ 281474976710656 := by
    have h : ((i.bytes * m : Nat) : Int) ≤ 281474976710656 := by omega
    rwa [Int.natCast_mul] at h
  have hr := run_make (P := P) w t e i _ h1 h2 h3 kl kc n m (by omega) (by omega) hb' (by simp [maxLen] at b3; omega)
  simp only [Int.toNat_natCast, h4] at hr
  unfold Oper.wp
  simp [execOp, hop, hl, hc, hr, Result.andThen]
  refine hK' _ _ (hK _ ⟨by simp [wv], .inr ⟨w.heap.size, m, _, rfl, Nat.le_refl _, heap_alloc_new w _, hnm, b3, by simp [madeCells], ?_⟩⟩ (World.grownBy_alloc w _ none))
  show (madeCells #[Value.int .u64 0] m).toList.take (n * 1) = _
  rw [toList_madeCells_one]
  simp [wv, List.take_replicate, hnm]

theorem low_any {w : World} {va : Value} {l : List Nat} {n : Nat} (ha : RN w va l) (hna : l.length ≤ 1099511627775) (hn : n ≤ 1099511627775) :
    Calls Try.prog 80 #[va, .int .i64 (n : Int)] w fun e w' => (∃ v, e = .returned v ∧ RN w' v (l.take n)) ∧ w = w' := by
  obtain ⟨oa, ca, rfl, h1, _⟩ := id ha
  by_cases h : l.length ≤ n
  · have hr : RN w (.slice oa l.length ca) (l.take n) := by rw [List.take_of_length_le h]; exact ha
    have HR := hid hr
    clear hr ha
    go_enter Try.func80, Try.ntmps80
    go_wp2
    go_ret
    exact ⟨⟨_, rfl, HR.out⟩, rfl⟩
  · have hr := ha.take (k := n) (by omega)
    have HR := hid hr
    have h' : n < l.length := by omega
    clear hr ha
    go_enter Try.func80, Try.ntmps80
    go_wp2
    go_ret
    exact ⟨⟨_, rfl, HR.out⟩, rfl⟩
theorem high_any {w : World} {va : Value} {l : List Nat} {n : Nat} (ha : RN w va l) (hna : l.length ≤ 1099511627775) (hn : n ≤ 1099511627775) :
    Calls Try.prog 81 #[va, .int .i64 (n : Int)] w fun e w' => (∃ v, e = .returned v ∧ RN w' v (l.drop n)) ∧ w = w' := by
  by_cases h : l.length ≤ n
  · obtain ⟨oa, ca, rfl, h1, _⟩ := id ha
    have hd : l.drop n = [] := List.drop_eq_nil_of_le h
    have HD := hid hd
    clear hd ha
    go_enter Try.func81, Try.ntmps81
    go_wp2
    go_ret
    exact ⟨⟨_, rfl, by rw [HD.out]; exact RN.nil _⟩, rfl⟩
  · rcases ha.shape with ⟨rfl, _⟩ | ⟨b, o, ca, rfl, a0, a1, a2, a3⟩
    · exact absurd (by simp) h
    have hr : RN w (.slice (some ⟨b, o + n, none⟩) (l.length - n) (ca - n)) (l.drop n) := by
      have := RN.mk (w := w) (b := b) (o := o + n) (cap := ca - n) (l := l.drop n) (ha.sm.drop n) (by rw [List.length_drop]; omega) (by omega) (fun i hi => by
        rw [List.length_drop] at hi
        rw [Nat.add_assoc, a3 (n + i) (by omega), gd_drop'])
      rwa [List.length_drop] at this
    have HR := hid hr
    have h' : n < l.length := by omega
    have hnc : n < ca := by omega
    clear hr ha a3
    go_enter Try.func81, Try.ntmps81
    go_wp2
    go_ret
    exact ⟨⟨_, rfl, HR.out⟩, rfl⟩
theorem less_any {w : World} {va vb : Value} {la lb : List Nat} (ha : RN w va la) (hb : RN w vb lb) (hna : la.length ≤ 1099511627775) (hnb : lb.length ≤ 1099511627775) (hle : nval WB lb ≤ nval WB la) :
    Calls Try.prog 82 #[va, vb] w fun e w' => (∃ v, e = .returned v ∧ ON w.heap.size w' v (nval WB la - nval WB lb)) ∧ Ext w w' := by
  have HS := hid (Sub_ge ha hb hna hnb hle)
  clear ha hb hna hnb hle
  go_enter Try.func82, Try.ntmps82
  go_wp2_with fail
  refine HS.out.mono ?_
  rintro e w' ⟨⟨v, rfl, ho⟩, hx⟩
  have HO := hid ho
  clear ho
  go_wp2
  go_ret
  exact ⟨⟨_, rfl, HO.out⟩, hx⟩
/-- up: a number's words behind so many noughts. -/
theorem up_any {w : World} {va : Value} {l : List Nat} {n : Nat} (ha : RN w va l) (hna : l.length ≤ 1099511627775) (hn : n ≤ 1099511627775) :
    Calls Try.prog 93 #[va, .int .i64 (n : Int)] w fun e w' => (∃ v r, e = .returned v ∧ RN w' v r ∧ nval WB r = WB ^ n * nval WB l ∧ r.length ≤ n + l.length) ∧ Ext w w' := by
  obtain ⟨oa, ca, rfl, _⟩ := id ha
  by_cases h : l.length = 0
  · have hl : l = [] := List.eq_nil_of_length_eq_zero h
    subst hl
    clear ha h
    go_enter Try.func93, Try.ntmps93
    go_wp2
    go_ret
    exact ⟨⟨_, [], rfl, RN.nil _, by simp [nval], by simp⟩, Ext.refl _⟩
  · obtain ⟨ad, rfl⟩ : ∃ ad, oa = some ad := by
      rcases ha.shape with ⟨rfl, _⟩ | ⟨b, o, cap, e, _⟩
      · exact absurd rfl h
      · simp only [Value.slice.injEq] at e; exact ⟨_, e.1⟩
    have hz : ((l.length : Int) == 0) = false := by rw [beq_eq_false_iff_ne]; omega
    have HA := hid ha
    have hs := hid ha.sm
    obtain ⟨i0, hi, hz0, hz1, hz2⟩ := info_parts infoU64
    generalize hm : l.length = m at hna hz ⊢
    generalize hM : n + m = M
    have hbytes : i0.bytes * M ≤ 281474976710656 := by rw [hz2]; omega
    have HL := hid (show (wv l).length = m * 1 by rw [wv_len, hm]; omega)
    have HM := hid hm
    have HMM := hid (show ((n : Int) + (m : Int)) = (M : Int) by omega)
    have hM1 : n ≤ M := by omega
    have hM2 : M ≤ 2199023255550 := by omega
    have hM3 : n + m ≤ M := by omega
    clear ha h hm hM
    go_enter Try.func93, Try.ntmps93
    have hbel : ∀ w1 : World, w.grownBy w1 none → Ext w w1 := fun w1 hg => Below.grown (Below.refl _ _) hg (Nat.le_refl _) (fun k hk => by cases hk)
    have HB := hid hbel
    have HCC := hid (fun (w1 : World) (hE : Ext w w1) => rn_cells (HA.out.ext hE))
    clear hbel
    go_wp2_with (first | (at_make; refine wpList_make_part _ rfl (.tmp 8) (.tmp 12) 23 rfl 73 i0 Try.underlying23 hi hz0 hz1 .i64 .i64 _ _ n M rfl rfl rfl HMM.out hM1 hbytes (by unfold maxLen; omega) ?_; intro w1 hown hgrow; have hE := HB.out w1 hgrow) | (at_builtin; refine wpList_append_fits _ rfl (.tmp 13) (.tmp 14) 23 rfl w.heap.size 73 i0 1 Try.underlying23 hi hz1 w.heap.size n M _ rfl hown ad m ca (wv l) rfl HL.out (HCC.out w1 hE) (wv_one _) hM3 ?_; intro w2 hown2 hgrow2))
    go_ret
    have e1 : wv (List.replicate n 0) ++ wv l = wv (List.replicate n 0 ++ l) := by simp [wv]
    rw [e1] at hown2
    have e2 : (List.replicate n 0 ++ l).length = n + m := by simp [HM.out]
    rw [← e2] at hown2
    refine ⟨⟨_, _, rfl, by rw [← e2]; exact own_rn hown2 ((Sm.replicate WB_pos _).append hs.out), by rw [nval_append, nval_replicate, List.length_replicate, Nat.zero_add], by rw [e2]; exact hM3⟩, ?_⟩
    exact Below.grown hE hgrow2 hE.size (fun k hk => Nat.le_of_eq (Option.some.inj hk))
theorem WB_two : 2 ≤ WB := by decide
theorem joined_any {w : World} {va vb vc : Value} {la lb lc : List Nat} {n : Nat} (ha : RN w va la) (hb : RN w vb lb) (hc : RN w vc lc) (hna : la.length ≤ 274877906950) (hnb : lb.length ≤ 274877906950) (hnc : lc.length ≤ 274877906950)
    (hn : n ≤ 137438953472) :
    Calls Try.prog 83 #[va, vb, vc, .int .i64 (n : Int)] w fun e w' => (∃ v, e = .returned v ∧ ON w.heap.size w' v (nval WB la + WB ^ n * nval WB lb + WB ^ (2 * n) * nval WB lc)) ∧ Ext w w' := by
  have HU := hid (up_any (n := n) hb (by omega) (by omega))
  have HA := hid ha
  have HC := hid hc
  have h2n : 2 * n ≤ 274877906944 := by omega
  clear ha hb hc
  go_enter Try.func83, Try.ntmps83
  go_wp2_with fail
  refine HU.out.mono ?_
  rintro e w1 ⟨⟨v1, r1, rfl, h1, h2, h3⟩, hx1⟩
  have H1 := hid h1
  have H2 := hid h2
  have hr1 : r1.length ≤ 412316860422 := by omega
  have HD := hid (Add_any (HA.out.ext hx1) h1 (by omega) (by omega))
  clear h1 h2 h3
  go_wp2_with fail
  refine HD.out.mono ?_
  rintro e w2 ⟨⟨v2, rfl, ho⟩, hx2⟩
  have HO := hid ho
  have hx := hx1.trans hx2
  have HU2 := hid (up_any (n := 2 * n) (HC.out.ext hx) (by omega) (by omega))
  have ec : (((2 * n : Nat)) : Int) = 2 * (n : Int) := by omega
  rw [ec] at HU2
  clear ho ec
  go_wp2_with fail
  refine HU2.out.mono ?_
  rintro e w3 ⟨⟨v3, r3, rfl, h1, h2, h3⟩, hx3⟩
  obtain ⟨l2, l2r, l2n, l2v⟩ := NN.own HO.out
  have hl2 : l2.length ≤ 412316860423 := len_add WB_two HA.out.sm H1.out.sm l2n l2v (by omega) hr1
  have HD2 := hid (Add_any (l2r.ext hx3) h1 (by omega) (by omega))
  have H22 := hid h2
  have HL2 := hid l2v
  clear h1 h2 h3 l2r l2n l2v
  go_wp2_with fail
  refine HD2.out.mono ?_
  rintro e w4 ⟨⟨v4, rfl, ho⟩, hx4⟩
  have HO4 := hid ho
  clear ho
  go_wp2
  go_ret
  refine ⟨⟨_, rfl, ?_⟩, (hx.trans hx3).trans hx4⟩
  have := HO4.out
  rw [HL2.out, H2.out, H22.out] at this
  exact this.mono (Ext.size (hx.trans hx3))
end Go.Proofs.Ytkdonndeogihfaa

import Derived.Test.YtkdonndeogihfaaSxb
/- A region's operations in every order that its edges allow. No program in sight. -/
set_option linter.unusedVariables false
set_option linter.unusedSimpArgs false
namespace SX
open Go Go.RowKit

theorem checkOne_spec {ops : Array Oper} {m : Nat} {oj : Oper} {fj : List Nat × List Nat} : ∀ (l : List (Oper × (List Nat × List Nat))) (i : Nat), checkOne ops m oj fj i l = true →
    ∀ k o f, l[k]? = some (o, f) → m.testBit (i + k) = true ∨ (o.apart ops oj = true ∧ far f fj = true)
  | [], _, _, k, o, f, h => by simp at h
  | (p, g) :: l, i, hc, k, o, f, h => by
    simp only [checkOne, Bool.and_eq_true, Bool.or_eq_true] at hc
    cases k with
    | zero => simp at h; obtain ⟨rfl, rfl⟩ := h; simpa using hc.1
    | succ k =>
      have := checkOne_spec l (i + 1) hc.2 k o f (by simpa using h)
      rwa [show i + (k + 1) = i + 1 + k by omega]
theorem checkAll_spec {ops : Array Oper} : ∀ (l done : List (Oper × (List Nat × List Nat))) (ms : List Nat), checkAll ops done l ms = true → ∀ j o f, l[j]? = some (o, f) →
    (∃ m, ms[j]? = some m ∧ checkOne ops m o f 0 (done ++ l.take j) = true) ∧ (∀ x ∈ f.2, x ∈ f.1) ∧ (∀ e ∈ o.after, Region.binds .any e = true → e.on < done.length + j)
  | [], _, _, _, j, o, f, h => by simp at h
  | (p, g) :: l, done, [], hc, j, o, f, h => by simp [checkAll] at hc
  | (p, g) :: l, done, m :: ms, hc, j, o, f, h => by
    simp only [checkAll, Bool.and_eq_true] at hc
    obtain ⟨⟨⟨h1, h2⟩, h3⟩, h4⟩ := hc
    cases j with
    | zero =>
      simp at h
      obtain ⟨rfl, rfl⟩ := h
      refine ⟨⟨m, rfl, by simpa using h1⟩, fun x hx => ?_, fun e he hb => ?_⟩
      · rw [List.all_eq_true] at h2; simpa using h2 x hx
      · have := Array.all_eq_true_iff_forall_mem.1 h3 e he
        simp [hb] at this
        simpa using this
    | succ j =>
      obtain ⟨⟨m', a, b⟩, c, d⟩ := checkAll_spec l (done ++ [(p, g)]) ms h4 j o f (by simpa using h)
      refine ⟨⟨m', by simpa using a, by simpa using b⟩, c, fun e he hb => ?_⟩
      have := d e he hb
      simp at this
      omega
theorem mask_spec {acc : List Nat} {o : Oper} {k : Nat} (h : (mask acc o).testBit k = true) : ∃ e ∈ o.after, Region.binds .any e = true ∧ (e.on = k ∨ (acc.getD e.on 0).testBit k = true) := by
  have key : ∀ (l : List Edge) (s : Nat), (l.foldl (fun s e => if Region.binds .any e then s ||| (2 ^ e.on ||| acc.getD e.on 0) else s) s).testBit k = true →
      s.testBit k = true ∨ ∃ e ∈ l, Region.binds .any e = true ∧ (e.on = k ∨ (acc.getD e.on 0).testBit k = true) := by
    intro l
    induction l with
    | nil => intro s h; exact .inl h
    | cons e l ih =>
      intro s h
      simp only [List.foldl_cons] at h
      rcases ih _ h with h1 | ⟨e', he', hb', hk'⟩
      · by_cases hb : Region.binds .any e = true
        · simp only [hb, if_true, Nat.testBit_or, Bool.or_eq_true] at h1
          rcases h1 with h1 | h1 | h1
          · exact .inl h1
          · rw [Nat.testBit_two_pow] at h1
            exact .inr ⟨e, by simp, hb, .inl (by simpa using h1)⟩
          · exact .inr ⟨e, by simp, hb, .inr h1⟩
        · simp only [hb] at h1
          exact .inl h1
      · exact .inr ⟨e', by simp [he'], hb', hk'⟩
  unfold mask at h
  rcases key _ _ h with h1 | ⟨e, he, hb, hk⟩
  · simp at h1
  · exact ⟨e, Array.mem_toList_iff.1 he, hb, hk⟩
theorem befs_pre : ∀ (l : List Oper) (acc : List Nat), (befs l acc).take acc.length = acc ∧ (befs l acc).length = acc.length + l.length
  | [], acc => by simp [befs]
  | o :: l, acc => by
    obtain ⟨h1, h2⟩ := befs_pre l (acc ++ [mask acc o])
    refine ⟨?_, by rw [befs, h2]; simp; omega⟩
    have := congrArg (List.take acc.length) h1
    rw [List.take_take] at this
    simpa [befs, Nat.min_eq_left] using this
theorem befs_at : ∀ (l : List Oper) (acc : List Nat) (j : Nat) (o : Oper), l[j]? = some o → (befs l acc)[acc.length + j]? = some (mask ((befs l acc).take (acc.length + j)) o)
  | [], _, _, _, h => by simp at h
  | p :: l, acc, 0, o, h => by
    simp at h
    subst h
    obtain ⟨h1, h2⟩ := befs_pre l (acc ++ [mask acc p])
    have h3 : (befs (p :: l) acc).take acc.length = acc := (befs_pre (p :: l) acc).1
    rw [Nat.add_zero, h3]
    have : ((befs l (acc ++ [mask acc p])).take (acc ++ [mask acc p]).length)[acc.length]? = some (mask acc p) := by rw [h1]; simp
    rw [List.getElem?_take] at this
    simpa [befs] using this
  | p :: l, acc, j + 1, o, h => by
    have := befs_at l (acc ++ [mask acc p]) j o (by simpa using h)
    simp only [List.length_append, List.length_singleton] at this
    rw [show acc.length + 1 + j = acc.length + (j + 1) by omega] at this
    exact this
theorem bef_spec {ops : List Oper} {j k : Nat} {o : Oper} (ho : ops[j]? = some o) (h : bef ops j k = true) :
    ∃ e ∈ o.after, Region.binds .any e = true ∧ (e.on = k ∨ bef ops e.on k = true) := by
  have h1 := befs_at ops [] j o ho
  simp only [List.length_nil, Nat.zero_add] at h1
  unfold bef at h
  rw [List.getD_eq_getElem?_getD, h1] at h
  obtain ⟨e, he, hb, hk⟩ := mask_spec h
  refine ⟨e, he, hb, hk.imp id fun hk => ?_⟩
  unfold bef
  rw [List.getD_eq_getElem?_getD, List.getElem?_take] at hk
  split at hk
  · simpa [List.getD_eq_getElem?_getD] using hk
  · simp at hk

theorem count_set : ∀ (l : List Bool) (i : Nat), l[i]? = some false → (l.set i true).count false + 1 = l.count false
  | [], i, h => by simp at h
  | b :: l, 0, h => by simp at h; subst h; simp
  | b :: l, i + 1, h => by
    have := count_set l i (by simpa using h)
    cases b <;> simp <;> omega
theorem count_zero : ∀ (l : List Bool), l.count false = 0 → ∀ i, i < l.length → l[i]? = some true
  | [], _, i, h => by simp at h
  | b :: l, hc, i, h => by
    cases b with
    | false => simp at hc
    | true =>
      cases i with
      | zero => simp
      | succ i => simpa using count_zero l (by simpa using hc) i (by simpa using h)

section
variable {P : Program} {C : Ctx} {ops : Array Oper} {ods : List (Oper × Dec)} {st : St} {Q : Exit → Act → World → Prop}

theorem ev_of_tm {st st' : St} {o : Oper} (h : ∀ t, t ∈ o.looksAt ops → st'.tm t = st.tm t) : ∀ x ∈ o.op.operands, st'.ev x = st.ev x := by
  intro x hx
  cases x with
  | tmp t =>
    refine h t ?_
    unfold Oper.looksAt
    rw [List.mem_append, List.mem_filterMap]
    exact .inl ⟨.tmp t, Array.mem_toList_iff.2 hx, rfl⟩
  | const v => cases v <;> rfl
  | global g => rfl
  | func f => rfl
theorem Sat.defers {a : Act} {w : World} (h : Sat C st a w) : a.defers = [] := let ⟨_, _, h⟩ := h; h.dfr
theorem undef_ne_bool {b : Bool} : undef ≠ Value.bool b := by intro h; cases h
theorem Sat.bool {a : Act} {w : World} {t : Tmp} {b : Bool} (h : Sat C st a w) (ht : st.tm t = some (.v (.bool b))) : a.tmps[t]? = some (.bool b) := by
  obtain ⟨E, S, h⟩ := h
  have h1 : a.tmps.getD t undef = .bool b := h.tm t _ ht
  rw [Array.getD_eq_getD_getElem?] at h1
  cases h2 : a.tmps[t]? with
  | none => rw [h2] at h1; exact absurd h1 undef_ne_bool
  | some v => rw [h2] at h1; simp at h1; rw [h1]
theorem Sat.undef {a : Act} {w : World} {t : Tmp} (h : Sat C st a w) (ht : st.tm t = some (.v Go.undef)) : a.tmps.getD t Go.undef = Go.undef := by
  obtain ⟨E, S, h⟩ := h
  exact h.tm t _ ht
theorem guard_wanted {o : Oper} {a : Act} {w : World} {want : Bool} (hg : Guard ops.toList o st want) (h : Sat C st a w) : Region.wanted o (yielded ops a.tmps) = want := by
  unfold Guard at hg
  unfold Region.wanted
  cases hgd : o.guard with
  | none => rw [hgd] at hg; exact hg.symm
  | some p =>
    obtain ⟨j, b⟩ := p
    rw [hgd] at hg
    obtain ⟨t, h1, ⟨b', h2, h3⟩ | ⟨h2, h3⟩⟩ := hg
    · have h4 := h.bool h2
      simp only [yielded]
      rw [Array.getElem?_toList] at h1
      simp only [h1, Option.bind_some, h4]
      rw [← h3]
      cases b <;> cases b' <;> rfl
    · rw [Array.getElem?_toList] at h1
      rw [h3]
      simp only [yielded, h1, Option.bind_some]
      have h4 := h.undef h2
      rw [Array.getD_eq_getD_getElem?] at h4
      cases h5 : a.tmps[t]? with
      | none => rfl
      | some v =>
        rw [h5] at h4
        have h6 : v = Go.undef := h4
        subst h6; rfl
theorem Guard.congr {o : Oper} {st st' : St} {want : Bool} (hg : Guard ops.toList o st want) (h : ∀ t, t ∈ o.looksAt ops → st'.tm t = st.tm t) : Guard ops.toList o st' want := by
  unfold Guard at *
  cases hgd : o.guard with
  | none => rw [hgd] at hg; exact hg
  | some p =>
    obtain ⟨j, b⟩ := p
    rw [hgd] at hg
    obtain ⟨t, h1, h2⟩ := hg
    refine ⟨t, h1, ?_⟩
    rw [h t ?_]; exact h2
    unfold Oper.looksAt
    rw [hgd, List.mem_append]
    rw [Array.getElem?_toList] at h1
    exact .inr (by simp [h1])
/-- A skipped operation's place holds what is none. -/
theorem Sat.skip {o : Oper} {a : Act} {w : World} (h : Sat C st a w) : Sat C (st.put o.dst (some (.v Go.undef))) (a.put o.dst Go.undef) w := by
  obtain ⟨E, S, h⟩ := h
  cases hd : o.dst with
  | none => exact ⟨E, S, h⟩
  | some d =>
    refine ⟨E, S, { h with nt := ?_, tm := fun t v ht => ?_, tid := fun t v ht b hb => ?_ }⟩
    · simpa [Act.put] using h.nt
    · have ht' : (upd st.tm d (some (.v Go.undef))) t = some v := ht
      by_cases e : t = d
      · subst e
        rw [upd_same] at ht'
        cases ht'
        show (a.tmps.setIfInBounds t Go.undef).getD t Go.undef = Go.undef
        rw [Array.getD_eq_getD_getElem?, Array.getElem?_setIfInBounds]
        simp; split <;> rfl
      · rw [upd_ne _ _ e] at ht'
        have := h.tm t v ht'
        simp only [Act.put, Array.getD_eq_getD_getElem?] at *
        rw [Array.getElem?_setIfInBounds_ne (fun e' => e e'.symm)]
        exact this
    · have ht' : (upd st.tm d (some (.v Go.undef))) t = some v := ht
      by_cases e : t = d
      · subst e
        rw [upd_same] at ht'
        cases ht'
        cases hb
      · rw [upd_ne _ _ e] at ht'
        exact h.tid t v ht' b hb
theorem dec_wp {i : Nat} {o : Oper} {d : Dec} {st st' : St} {a : Act} {w : World} {K : Act → World → Prop} (hi : ops[i]? = some o) (hd : DecOK P C ops.toList o st d)
    (h1 : ∀ t, t ∈ o.looksAt ops → st'.tm t = st.tm t) (h2 : ∀ b ∈ d.fp, st'.hp b = st.hp b) (hs : Sat C st' a w)
    (hk : ∀ a w, Sat C (d.app o st') a w → K a w) : wpOp P ops Q i K a w := by
  unfold wpOp
  rw [hi]
  cases d with
  | run fp out =>
    obtain ⟨hg, hop⟩ := hd
    have hw := guard_wanted (Guard.congr hg h1) hs
    simp only [hw, if_true]
    exact .inl (hop st' (ev_of_tm h1) h2 a w hs K Q fun v w' h => hk _ _ h)
  | skip =>
    have hw := guard_wanted (Guard.congr hd h1) hs
    simp only [hw]
    exact hk _ _ hs.skip

theorem mem_some {l : List (Oper × Dec)} {i : Nat} (h : i < l.length) : ∃ o d, l[i]? = some (o, d) := ⟨l[i].1, l[i].2, by simp [h]⟩
theorem any_order (hops : ops.toList = ods.map (·.1)) (hc : check ops (ods.map fun p => foot p.2) = true)
    (htr : ∀ (i : Nat) (o : Oper) (d : Dec), ods[i]? = some (o, d) → DecOK P C ops.toList o (appL (fun k => decide (k < i)) 0 ods st) d)
    (hQ : ∀ a w, Sat C (appL (fun _ => true) 0 ods st) a w → Q .normal a w) :
    ∀ (fuel : Nat) (listed : Array Bool) (a : Act) (w : World), listed.size = ods.length → listed.toList.count false = fuel →
      (∀ j k, listed.getD j false = true → bef ops.toList j k = true → listed.getD k false = true) →
      Sat C (appL (fun k => listed.getD k false) 0 ods st) a w → wpAny P .any ops Q fuel listed a w := by
  have hsz : ods.length = ops.size := by have := congrArg List.length hops; simpa using this.symm
  have hat : ∀ (i : Nat) (o : Oper) (d : Dec), ods[i]? = some (o, d) → ops[i]? = some o := by
    intro i o d h
    rw [← Array.getElem?_toList, hops, List.getElem?_map, h]; rfl
  unfold check at hc
  rw [Bool.and_eq_true] at hc
  have hz : ∀ (i : Nat) (o : Oper) (d : Dec), ods[i]? = some (o, d) → (ops.toList.zip (ods.map fun p => foot p.2))[i]? = some (o, foot d) := by
    intro i o d h
    rw [List.getElem?_zip_eq_some]
    exact ⟨by rw [Array.getElem?_toList]; exact hat i o d h, by rw [List.getElem?_map, h]; rfl⟩
  have hpair : ∀ (i j : Nat) (o : Oper) (d : Dec) (p : Oper) (e : Dec), i < j → ods[i]? = some (o, d) → ods[j]? = some (p, e) → bef ops.toList j i = true ∨ (o.apart ops p = true ∧ far (foot d) (foot e) = true) := by
    intro i j o d p e hij h1 h2
    obtain ⟨⟨m, hm, h3⟩, _, _⟩ := checkAll_spec _ [] _ hc.2 j p (foot e) (hz j p e h2)
    have := checkOne_spec _ 0 h3 i o (foot d) (by rw [List.nil_append, List.getElem?_take, if_pos hij]; exact hz i o d h1)
    rw [Nat.zero_add] at this
    refine this.imp (fun h => ?_) id
    unfold bef
    rw [List.getD_eq_getElem?_getD, hm]; exact h
  have hwr : ∀ (i : Nat) (o : Oper) (d : Dec), ods[i]? = some (o, d) → ∀ x ∈ d.wr, x ∈ d.fp := fun i o d h => (checkAll_spec _ [] _ hc.2 i o (foot d) (hz i o d h)).2.1
  have hed : ∀ (i : Nat) (o : Oper) (d : Dec), ods[i]? = some (o, d) → ∀ e ∈ o.after, Region.binds .any e = true → e.on < i := fun i o d h e he hb => by
    have := (checkAll_spec _ [] _ hc.2 i o (foot d) (hz i o d h)).2.2 e he hb
    simpa using this
  intro fuel
  have fin : ∀ (listed : Array Bool) (a : Act) (w : World), listed.size = ods.length → (∀ i, i < ods.length → listed.getD i false = true) → Sat C (appL (fun k => listed.getD k false) 0 ods st) a w → Q .normal a w := by
    intro listed a w _ hall hs
    refine hQ a w ?_
    rwa [appL_congr _ (fun k => listed.getD k false) ods 0 st (fun k _ hk => (hall k (by omega)).symm)]
  have empty : ∀ (listed : Array Bool), listed.size = ods.length → Region.ready .any ops listed = [] → ∀ i, i < ods.length → listed.getD i false = true := by
    intro listed hls hr i
    induction i using Nat.strongRecOn with
    | _ i ih =>
      intro hi
      obtain ⟨o, d, ho⟩ := mem_some hi
      cases hli : listed.getD i false with
      | true => rfl
      | false =>
        have : i ∈ Region.ready .any ops listed := by
          rw [mem_ready]
          refine ⟨?_, o, hat i o d ho, fun e he hb => ih e.on (hed i o d ho e he hb) (Nat.lt_trans (hed i o d ho e he hb) hi)⟩
          have h9 : i < listed.size := by omega
          simp [h9] at hli ⊢
          exact hli
        rw [hr] at this
        cases this
  induction fuel with
  | zero =>
    intro listed a w hls hcnt hcl hs
    have hall : ∀ i, i < ods.length → listed.getD i false = true := by
      intro i hi
      have := count_zero _ hcnt i (by simpa using (by omega : i < listed.size))
      simp only [Array.getElem?_toList] at this
      simp [this]
    refine ⟨?_, fin listed a w hls hall hs⟩
    cases hr : Region.ready .any ops listed with
    | nil => rfl
    | cons i r =>
      have hi : i ∈ Region.ready .any ops listed := by rw [hr]; simp
      rw [mem_ready] at hi
      obtain ⟨h0, o, ho, _⟩ := hi
      have hlt : i < ods.length := by rw [hsz]; exact (Array.getElem?_eq_some_iff.1 ho).1
      have h1 := hall i hlt
      have h9 : i < listed.size := by omega
      simp [h9] at h0 h1
      rw [h0] at h1; cases h1
  | succ fuel ih =>
    intro listed a w hls hcnt hcl hs
    refine ⟨fun hr => fin listed a w hls (empty listed hls hr) hs, fun i hi => ?_⟩
    rw [mem_ready] at hi
    obtain ⟨h0, o', ho', hedge⟩ := hi
    have hlt : i < ods.length := by rw [hsz]; exact (Array.getElem?_eq_some_iff.1 ho').1
    obtain ⟨o, d, hod⟩ := mem_some hlt
    have hoo : o' = o := by rw [hat i o d hod] at ho'; exact (Option.some.inj ho').symm
    subst hoo
    have hli : i < listed.size := by omega
    have hfalse : listed.getD i false = false := by simp [hli] at h0 ⊢; exact h0
    -- all that must come before i is done
    have hbefore : ∀ k, bef ops.toList i k = true → listed.getD k false = true := by
      intro k hk
      obtain ⟨e, he, hb, h⟩ := bef_spec (by rw [Array.getElem?_toList]; exact ho') hk
      have h1 := hedge e he hb
      rcases h with h | h
      · rw [← h]; exact h1
      · exact hcl e.on k h1 h
    -- what i meets of those done behind it in the text lies apart
    have hafter : ∀ (k : Nat) (p : Oper) (e : Dec), i < k → ods[k]? = some (p, e) → listed.getD k false = true → o'.apart ops p = true ∧ far (foot d) (foot e) = true := by
      intro k p e hik hk hL
      rcases hpair i k o' d p e hik hod hk with h | h
      · have := hcl k i hL h
        rw [hfalse] at this; cases this
      · exact h
    have hwho : ∀ (k : Nat) (p : Oper) (e : Dec), ods[k]? = some (p, e) → ¬ (k ≠ i ∧ ((k < i → p.apart ops o' = true ∧ far (foot e) (foot d) = true) ∧ (i < k → o'.apart ops p = true ∧ far (foot d) (foot e) = true))) → decide (k < i) = listed.getD k false := by
      intro k p e hk hconf
      rcases Nat.lt_trichotomy k i with hlt' | heq | hgt
      · rw [decide_eq_true hlt']
        rcases hpair k i p e o' d hlt' hk hod with h | h
        · exact (hbefore k h).symm
        · exact absurd ⟨by omega, fun _ => h, fun h' => by omega⟩ hconf
      · subst heq; rw [hfalse]; simp
      · rw [decide_eq_false (by omega)]
        cases hL : listed.getD k false with
        | false => rfl
        | true => exact absurd ⟨by omega, fun h' => by omega, fun _ => hafter k p e hgt hk hL⟩ hconf
    refine dec_wp ho' (htr i o' d hod) (fun t ht => ?_) (fun b hb => ?_) hs (fun a' w' hs' => ?_)
    · refine appL_tm _ t ods 0 st st rfl _ (fun k p e hk hdst => ?_)
      rw [Nat.zero_add]
      refine (hwho k p e hk (fun ⟨hne, h1, h2⟩ => ?_)).symm
      rcases Nat.lt_or_gt_of_ne hne with hlt' | hgt
      · exact (Oper.apart_spec (h1 hlt').1).1 t hdst ht
      · exact (Oper.apart_spec (h2 hgt).1).2.2 t hdst ht
    · refine appL_hp _ b ods 0 st st rfl _ (fun k p e hk hw => ?_)
      rw [Nat.zero_add]
      refine (hwho k p e hk (fun ⟨hne, h1, h2⟩ => ?_)).symm
      rcases Nat.lt_or_gt_of_ne hne with hlt' | hgt
      · have := (h1 hlt').2
        unfold far at this
        rw [Bool.and_eq_true] at this
        exact disj_spec this.1 hw hb
      · have := (h2 hgt).2
        unfold far at this
        rw [Bool.and_eq_true] at this
        exact disj_spec this.2 hw hb
    · refine ih (listed.setIfInBounds i true) a' w' (by simpa using hls) ?_ ?_ ?_
      · rw [Array.toList_setIfInBounds]
        have := count_set listed.toList i (by
          rw [Array.getElem?_toList]
          simp [hli] at h0 ⊢
          exact h0)
        omega
      · intro j k hj hjk
        by_cases hji : j = i
        · subst hji
          exact getD_set_true (hbefore k hjk)
        · rw [getD_set_ne false (fun e => hji e.symm)] at hj
          exact getD_set_true (hcl j k hj hjk)
      · have hsplit : ods = ods.take i ++ (o', d) :: ods.drop (i + 1) := by
          have : ods.drop i = (o', d) :: ods.drop (i + 1) := by
            have h9 := List.drop_eq_getElem_cons hlt
            rw [List.getElem?_eq_getElem hlt] at hod
            rw [h9, Option.some.inj hod]
          rw [← this, List.take_append_drop]
        have hlen : (ods.take i).length = i := by simp; omega
        have e1 : appL (fun k => (listed.setIfInBounds i true).getD k false) 0 ods st = d.app o' (appL (fun k => listed.getD k false) 0 ods st) := by
          rw [hsplit, appL_append, appL_append, hlen, Nat.zero_add]
          have hti : (listed.setIfInBounds i true).getD i false = true := by simp [hli]
          rw [appL_congr (fun k => (listed.setIfInBounds i true).getD k false) (fun k => listed.getD k false) (ods.take i) 0 st (fun k _ hk => by
            rw [hlen] at hk; exact getD_set_ne false (by omega))]
          simp only [appL, hti, hfalse]
          rw [appL_congr (fun k => (listed.setIfInBounds i true).getD k false) (fun k => listed.getD k false) (ods.drop (i + 1)) (i + 1) _ (fun k hk _ => getD_set_ne false (by omega))]
          exact appL_last ops _ o' d (hwr i o' d hod) (ods.drop (i + 1)) (i + 1) _ (fun k p e hk hL => hafter (i + 1 + k) p e (by omega) (by rw [List.getElem?_drop] at hk; exact hk) hL)
        rw [e1]
        exact hs'
end
end SX

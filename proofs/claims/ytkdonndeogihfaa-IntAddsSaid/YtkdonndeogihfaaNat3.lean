import Derived.Test.YtkdonndeogihfaaNat2
/- Package nat: Clone, Norm. -/
set_option linter.unusedVariables false
set_option linter.unusedSimpArgs false
namespace Go.Proofs.Ytkdonndeogihfaa
open Go.RowKit QM
theorem infoU64 : (Try.prog.info? 73).map (fun i => (i.zero, i.size, i.bytes)) = some (some (.int .u64 0), 1, 8) := by kernel_rfl
/-- words as values. -/
def wv (l : List Nat) : List Value := l.map fun x : Nat => Value.int .u64 (x : Int)
theorem wv_len (l : List Nat) : (wv l).length = l.length := by simp [wv]
theorem wv_one (l : List Nat) : ∀ u ∈ wv l, u.oneCell' = true := by
  intro u hu; simp [wv] at hu; obtain ⟨a, _, rfl⟩ := hu; rfl
theorem wv_get {l : List Nat} {j : Nat} {u : Value} (h : (wv l)[j]? = some u) : j < l.length ∧ u = .int .u64 ((gd l j : Nat) : Int) := by
  simp only [wv, List.getElem?_map, Option.map_eq_some_iff] at h
  obtain ⟨a, ha, rfl⟩ := h
  obtain ⟨h1, h2⟩ := List.getElem?_eq_some_iff.1 ha
  exact ⟨h1, by simp [gd, List.getD_eq_getElem?_getD, ha]⟩
theorem Clone_nil (w : World) :
    Calls Try.prog 87 #[.slice none 0 0] w fun e w' => e = .returned (.slice none 0 0) ∧ w = w' := by
  have hq := fun w => Lib.run_eql_slice_nil (P := Try.prog) w 23 73 none 0 0 0 0 Try.underlying23
  go_enter Try.func87, Try.ntmps87
  go_wp2
  go_ret
  exact ⟨rfl, rfl⟩
theorem Clone_at (ad : Addr) (n cap : Nat) (l : List Nat) (hl : l.length = n) (hn : n ≤ 4398046511104) (w : World) (hc : ∀ j u, (wv l)[j]? = some u → w.cell? (ad.add j) = some u) :
    Calls Try.prog 87 #[.slice (some ad) n cap] w fun e w' => (∃ v, e = .returned v ∧ w'.ownsRow w.heap.size 73 1 v n (wv l)) ∧ Ext w w' := by
  have hq := fun w => Lib.run_eql_slice_nil (P := Try.prog) w 23 73 (some ad) n cap 0 0 Try.underlying23
  obtain ⟨i0, hi, hz0, hz1, hz2⟩ := info_parts infoU64
  have hown : (w.alloc (.cells #[] 73)).ownsRow w.heap.size 73 1 (.slice (some ⟨w.heap.size, 0, none⟩) 0 0) 0 [] := World.ownsRow_made w #[] 0 (Nat.le_refl _) (by simp [maxLen]) rfl
  have hcs : ∀ j u, (wv l)[j]? = some u → (w.alloc (.cells #[] 73)).cell? (ad.add j) = some u := fun j u h => (Ext.alloc w _).cell (hc j u h)
  have hwl : (wv l).length = n * 1 := by rw [wv_len]; omega
  have HC := hid hcs
  have HL := hid hwl
  clear hl hc hcs hwl
  go_enter Try.func87, Try.ntmps87
  go_wp2_with (at_builtin; refine wpList_append_own _ rfl (.tmp 5) (.tmp 6) 23 rfl w.heap.size 73 i0 (.int .u64 0) 1 8 Try.underlying23 hi hz0 hz1 hz2 rfl (by decide) _ _ _ rfl hown ad n cap (wv l) rfl HL.out HC.out (wv_one _) (by unfold maxLen; omega) (by omega) (by simp) ?_; intro v' w1 hown' hgrow _)
  go_ret
  refine ⟨⟨_, rfl, ?_⟩, ?_⟩
  · simpa using hown'
  · exact Below.grown (Ext.alloc w _) hgrow (by simp) (fun k hk => Nat.le_of_eq (Option.some.inj hk))
/-- The cells of a slice that reads as words, as the laws on append ask for them. -/
theorem rn_cells {w : World} {ad : Addr} {n cap : Nat} {l : List Nat} (h : RN w (.slice (some ad) n cap) l) :
    ∀ j u, (wv l)[j]? = some u → w.cell? (ad.add j) = some u := by
  intro j u hu
  obtain ⟨hj, rfl⟩ := wv_get hu
  obtain ⟨oa, cap', hv, h1, h2, h3, h4, h5⟩ := h
  simp only [Value.slice.injEq] at hv
  obtain ⟨rfl, rfl, rfl⟩ := hv
  obtain ⟨b, o, e, c⟩ := h5 j hj
  simp only [Option.some.injEq] at e
  subst e
  rw [← c]
  unfold Addr.add
  split <;> simp_all
theorem Clone_any {w : World} {oa : Option Addr} {n cap : Nat} {l : List Nat} (h : RN w (.slice oa n cap) l) (hn : l.length ≤ 4398046511104) :
    Calls Try.prog 87 #[.slice oa n cap] w fun e w' => (∃ v, e = .returned v ∧ w'.ownsRow w.heap.size 73 1 v l.length (wv l)) ∧ Ext w w' := by
  have hl := h.len
  subst hl
  cases oa with
  | some ad => exact Clone_at ad _ cap l rfl hn w (rn_cells h)
  | none =>
    obtain ⟨oa, cap', hv, h1, h2, h3, h4, h5⟩ := h
    simp only [Value.slice.injEq] at hv
    obtain ⟨rfl, _, rfl⟩ := hv
    have := h3 rfl
    subst this
    have h0 : l = [] := List.eq_nil_of_length_eq_zero (by omega)
    subst h0
    refine (Clone_nil w).mono fun e w' ⟨he, hw⟩ => ?_
    subst he hw
    exact ⟨⟨_, rfl, World.ownsRow_nil _ _ _ _⟩, Ext.refl _⟩
/-- An owned row of words reads as words. -/
theorem own_rn {w : World} {base e : Nat} {v : Value} {l : List Nat} (h : w.ownsRow base e 1 v l.length (wv l)) (hs : Sm WB l) : RN w v l := by
  rcases h.2 with ⟨rfl, h0⟩ | ⟨g, cap, cur, rfl, hb, hg, hn, hm, hcs, htk⟩
  · rw [List.eq_nil_of_length_eq_zero h0]; exact RN.nil w
  · refine RN.mk hs hn hm fun i hi => ?_
    have := h.cellAt i (by omega)
    rw [Nat.zero_add, this]
    simp [wv, List.getElem?_map, List.getElem?_eq_getElem hi, gd, List.getD_eq_getElem?_getD]
theorem own_take {w : World} {base e : Nat} {oa : Option Addr} {n cap : Nat} {l : List Nat} (h : w.ownsRow base e 1 (.slice oa n cap) n (wv l)) {k : Nat} (hk : k ≤ n) (hk0 : 0 < k) :
    w.ownsRow base e 1 (.slice oa k cap) k (wv (l.take k)) := by
  have hl := h.1
  rw [wv_len] at hl
  rcases h.2 with ⟨e1, h0⟩ | ⟨g, cap', cur, e1, hb, hg, hn, hm, hcs, htk⟩
  · omega
  · simp only [Value.slice.injEq, true_and] at e1
    obtain ⟨rfl, rfl⟩ := e1
    refine ⟨by rw [wv_len, List.length_take]; omega, .inr ⟨g, cap, cur, rfl, hb, hg, by omega, hm, hcs, ?_⟩⟩
    have e2 : wv (l.take k) = (wv l).take k := by simp [wv, List.map_take]
    rw [e2, ← htk, List.take_take]
    congr 1; omega
/-- A normal natural in memory of the call's own. -/
def ON (base : Nat) (w : World) (v : Value) (n : Nat) : Prop :=
  ∃ l, w.ownsRow base 73 1 v l.length (wv l) ∧ Sm WB l ∧ Nrm l ∧ nval WB l = n ∧ (l = [] → v = .slice none 0 0)
theorem ON.nn {base : Nat} {w : World} {v : Value} {n : Nat} (h : ON base w v n) : NN w v n := by
  obtain ⟨l, h1, h2, h3, h4, h5⟩ := h; exact ⟨l, own_rn h1 h2, h3, h4, h5⟩
theorem ON.zero (base : Nat) (w : World) : ON base w (.slice none 0 0) 0 := ⟨[], World.ownsRow_nil _ _ _ _, Sm.nil, Nrm.nil, rfl, fun _ => rfl⟩
/-- normal: trimmed, nil where nothing is left; what is owned stays owned. -/
theorem normal_own {base : Nat} {w : World} {v : Value} {l : List Nat} (h : w.ownsRow base 73 1 v l.length (wv l)) (hs : Sm WB l) (hn : l.length ≤ 4398046511104) :
    Calls Try.prog 75 #[v] w fun e w' => (∃ v, e = .returned v ∧ ON base w' v (nval WB l)) ∧ w = w' := by
  have hrn := own_rn h hs
  obtain ⟨oa, cap, hv, _⟩ := id hrn
  subst hv
  have hnn : tlen l ≠ 0 → ON base w (.slice oa (tlen l) cap) (nval WB l) := fun h0 =>
    ⟨l.take (tlen l), by have := own_take h (tlen_le l) (Nat.pos_of_ne_zero h0); rwa [List.length_take, Nat.min_eq_left (tlen_le l)], hs.take _, nrm_tlen l, nval_tlen l, fun e => absurd (by have := congrArg List.length e; rw [List.length_take, Nat.min_eq_left (tlen_le l)] at this; exact this) h0⟩
  have hz : tlen l = 0 → nval WB l = 0 := fun h0 => (nval_eq_zero WB_pos).2 h0
  have HRN := hid hrn
  clear hrn h
  by_cases h0 : tlen l = 0
  · have hb : ((tlen l : Int) == 0) = true := by simp [h0]
    have HZ := hid (hz h0)
    clear h0 hz hnn
    go_enter Try.func75, Try.ntmps75
    go_wp2_with (go_at_call 73; refine (trim_any HRN.out hn).mono ?_; rintro e w' ⟨rfl, rfl⟩)
    go_ret
    exact ⟨⟨_, rfl, by rw [HZ.out]; exact ON.zero _ _⟩, rfl⟩
  · have hb : ((tlen l : Int) == 0) = false := by simp; omega
    have HN := hid (hnn h0)
    clear h0 hz hnn
    go_enter Try.func75, Try.ntmps75
    go_wp2_with (go_at_call 73; refine (trim_any HRN.out hn).mono ?_; rintro e w' ⟨rfl, rfl⟩)
    go_ret
    exact ⟨⟨_, rfl, HN.out⟩, rfl⟩
/-- Norm: the normal natural, in new memory. -/
theorem Norm_any {w : World} {v : Value} {l : List Nat} (h : RN w v l) (hn : l.length ≤ 4398046511104) :
    Calls Try.prog 66 #[v] w fun e w' => (∃ v, e = .returned v ∧ ON w.heap.size w' v (nval WB l)) ∧ Ext w w' := by
  obtain ⟨oa, cap, rfl, _⟩ := id h
  have hk := h.take (tlen_le l)
  have hkl : (l.take (tlen l)).length ≤ 4398046511104 := by rw [List.length_take]; omega
  have hv := nval_tlen (B := WB) l
  have hs := hk.sm
  have HV := hid hv
  have HC := hid (Clone_any hk hkl)
  have HT := hid (trim_any h hn)
  clear hv hk h
  go_enter Try.func66, Try.ntmps66
  go_wp2_with fail
  refine HT.out.mono ?_
  rintro e w' ⟨rfl, rfl⟩
  go_wp2_with fail
  refine HC.out.mono ?_
  rintro e w1 ⟨⟨v1, rfl, ho⟩, hx⟩
  have HO := hid ho
  clear ho
  go_wp2_with fail
  refine (normal_own HO.out hs hkl).mono ?_
  rintro e w' ⟨⟨v2, rfl, ho2⟩, rfl⟩
  go_wp2
  go_ret
  exact ⟨⟨_, rfl, by rw [← HV.out]; exact ho2⟩, hx⟩
/-- Of: a word's number, in new memory. -/
theorem Of_own (x : Nat) (hx : x < WB) (w : World) : Calls Try.prog 61 #[.int .u64 (x : Int)] w fun e w' => (∃ v, e = .returned v ∧ ON w.heap.size w' v x) ∧ Ext w w' := by
  rcases Nat.eq_zero_or_pos x with h0 | h0
  · subst h0
    exact (Of_zero w).mono fun e w' ⟨he, hw⟩ => by subst he hw; exact ⟨⟨_, rfl, ON.zero _ _⟩, Ext.refl _⟩
  · refine (Of_pos x h0 w).mono fun e w' ⟨he, hw⟩ => ?_
    subst he hw
    refine ⟨⟨_, rfl, [x], ⟨by simp [wv_len], .inr ⟨w.heap.size, 1, _, rfl, Nat.le_refl _, heap_alloc_new w _, Nat.le_refl _, by simp [maxLen], by simp, by simp [wv]⟩⟩, Sm.nil.cons hx, .inr (by simp; omega), by simp [nval], fun e => by simp at e⟩, Ext.alloc _ _⟩
end Go.Proofs.Ytkdonndeogihfaa

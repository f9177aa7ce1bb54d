import Derived.Test.YtkdonndeogihfaaProg
import Derived.Test.YtkdonndeogihfaaRn
/- Package nat: trim, normal, Of, Norm. -/
set_option linter.unusedVariables false
set_option linter.unusedSimpArgs false
namespace Go.Proofs.Ytkdonndeogihfaa
open Go.RowKit QM

theorem trim_at (b o n cap : Nat) (l : List Nat) (hn : l.length = n) (hn2 : n ≤ 4398046511104) (w : World)
    (hc : ∀ i, i < n → w.cell? ⟨b, o + i, none⟩ = some (.int .u64 ((gd l i : Nat) : Int))) (hcap : n ≤ cap) :
    Calls Try.prog 73 #[.slice (some ⟨b, o, none⟩) n cap] w fun e w' => e = .returned (.slice (some ⟨b, o, none⟩) (tlen l) cap) ∧ w = w' := by
  go_enter Try.func73, Try.ntmps73
  go_wp2
  go_loop [3] (fun k => ∃ i : Nat, i ≤ n ∧ k = .int .i64 i ∧ ∀ j, i ≤ j → gd l j = 0) (fun k => (intOf k).toNat)
  case atStart => exact ⟨n, by omega, rfl, fun j hj => gd_ge (by omega)⟩
  case round =>
    obtain ⟨i, hi, rfl, hz⟩ := hrel
    by_cases h0 : i = 0
    · subst h0
      have ht : tlen l = 0 := (tlen_uniq (fun j hj => hz j hj) (.inl rfl)).symm
      have HT := hid ht
      clear ht hz
      go_wp2
      go_ret
      exact ⟨by rw [HT.out]; rfl, rfl⟩
    · have hci := hc (i - 1) (by omega)
      by_cases hx : gd l (i - 1) = 0
      · have hx1 : (((gd l (i - 1) : Nat) : Int) == 0) = true := by simp [hx]
        have HX := hid hx
        have HZ := hid hz
        clear hx hz
        go_wp2
        go_round
        case rel => exact ⟨i - 1, by omega, by go_num, fun j hj => if h : j = i - 1 then h ▸ HX.out else HZ.out j (by omega)⟩
        case measure => simp [intOf]; omega
      · have hx1 : (((gd l (i - 1) : Nat) : Int) == 0) = false := by simpa using hx
        have HT := hid (tlen_uniq (n := i) hz (.inr hx))
        clear hx hz
        go_wp2
        go_ret
        exact ⟨by rw [HT.out]; rfl, rfl⟩

theorem trim_empty (oa : Option Addr) (cap : Nat) (w : World) :
    Calls Try.prog 73 #[.slice oa 0 cap] w fun e w' => e = .returned (.slice oa 0 cap) ∧ w = w' := by
  go_enter Try.func73, Try.ntmps73
  go_wp2
  go_loop [3] (fun k => k = .int .i64 0) (fun k => 0)
  case atStart => rfl
  case round =>
    subst hrel
    go_wp2
    go_ret
    exact ⟨rfl, rfl⟩

/-- trim: the slice cut to its length without last noughts. -/
theorem trim_any {w : World} {oa : Option Addr} {n cap : Nat} {l : List Nat} (h : RN w (.slice oa n cap) l) (hn : l.length ≤ 4398046511104) :
    Calls Try.prog 73 #[.slice oa n cap] w fun e w' => e = .returned (.slice oa (tlen l) cap) ∧ w = w' := by
  rcases h.shape with ⟨rfl, oa', cap', e, _⟩ | ⟨b, o, cap', e, h0, h1, h2, h3⟩
  · simp only [Value.slice.injEq] at e
    obtain ⟨rfl, rfl, rfl⟩ := e
    exact trim_empty _ _ _
  · simp only [Value.slice.injEq] at e
    obtain ⟨rfl, rfl, rfl⟩ := e
    exact trim_at _ _ _ _ _ rfl hn _ h3 h1

/-- normal: trimmed, nil where nothing is left. -/
theorem normal_any {w : World} {oa : Option Addr} {n cap : Nat} {l : List Nat} (h : RN w (.slice oa n cap) l) (hn : l.length ≤ 4398046511104) :
    Calls Try.prog 75 #[.slice oa n cap] w fun e w' => (∃ v, e = .returned v ∧ NN w v (nval WB l)) ∧ w = w' := by
  have hr := h.len
  have hk := h.take (k := tlen l) (by rw [hr]; exact tlen_le l)
  have hnn : tlen l ≠ 0 → NN w (.slice oa (tlen l) cap) (nval WB l) := fun h0 =>
    ⟨_, hk, nrm_tlen l, nval_tlen l, fun e => absurd (by have := congrArg List.length e; rw [List.length_take, Nat.min_eq_left (tlen_le l)] at this; exact this) h0⟩
  have hz : tlen l = 0 → nval WB l = 0 := fun h0 => (nval_eq_zero WB_pos).2 h0
  have HR := hid hr
  clear hr hk
  by_cases h0 : tlen l = 0
  · have hb : ((tlen l : Int) == 0) = true := by simp [h0]
    have HZ := hid (hz h0)
    clear h0 hz hnn
    go_enter Try.func75, Try.ntmps75
    go_wp2_with (go_at_call 73; refine (trim_any h hn).mono ?_; rintro e w' ⟨rfl, rfl⟩)
    go_ret
    exact ⟨⟨_, rfl, by rw [HZ.out]; exact NN.zero _⟩, rfl⟩
  · have hb : ((tlen l : Int) == 0) = false := by simp; omega
    have HN := hid (hnn h0)
    clear h0 hz hnn
    go_enter Try.func75, Try.ntmps75
    go_wp2_with (go_at_call 73; refine (trim_any h hn).mono ?_; rintro e w' ⟨rfl, rfl⟩)
    go_ret
    exact ⟨⟨_, rfl, HN.out⟩, rfl⟩
end Go.Proofs.Ytkdonndeogihfaa

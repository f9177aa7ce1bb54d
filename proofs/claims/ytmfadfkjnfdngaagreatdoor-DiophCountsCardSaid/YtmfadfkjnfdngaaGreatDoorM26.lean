import Derived.Test.YtmfadfkjnfdngaaGreatDoorProg
import Derived.Test.YtmfadfkjnfdngaaGreatDoorM25
import Derived.Laws.Externs
import Derived.Laws.Bits64b
import Derived.Deep.Cut
import Derived.Deep.DeepCutAuto
import Derived.Lib.Tables
import Derived.Lib.BitFns
import Derived.Laws.MathBits
set_option linter.unusedVariables false
set_option linter.unusedSimpArgs false
namespace Go.Proofs.YtmfadfkjnfdngaaGreatDoor
open Go.RowKit QM

theorem trim_at (b o n cap : Nat) (l : List Nat) (hn : l.length = n) (hn2 : n ≤ 4398046511104) (w : World)
    (hc : ∀ i, i < n → w.cell? ⟨b, o + i, none⟩ = some (.int .u64 ((gd l i : Nat) : Int))) (hcap : n ≤ cap) :
    Calls Tryz.prog 39 #[.slice (some ⟨b, o, none⟩) n cap] w fun e w' => e = .returned (.slice (some ⟨b, o, none⟩) (tlen l) cap) ∧ w = w' := by
  go_enter Tryz.func39, Tryz.ntmps39
  go_wp2
  go_loop [3] (fun k => ∃ i : Nat, i ≤ n ∧ k = .int .i64 i ∧ ∀ j, i ≤ j → gd l j = 0) (fun k => (intOf k).toNat)
  case atStart => exact ⟨n, by omega, rfl, fun j hj => gd_ge (by omega)⟩
  case round =>
    obtain ⟨i, hi, rfl, hz⟩ := hrel
    by_cases h0 : i = 0
    · subst h0
      have ht : tlen l = 0 := (tlen_uniq (fun j hj => hz j hj) (.inl rfl)).symm
      have HT := hid ht
      clear ht hz
      go_wp2
      go_ret
      exact ⟨by rw [HT.out]; rfl, rfl⟩
    · have hci := hc (i - 1) (by omega)
      by_cases hx : gd l (i - 1) = 0
      · have hx1 : (((gd l (i - 1) : Nat) : Int) == 0) = true := by simp [hx]
        have HX := hid hx
        have HZ := hid hz
        clear hx hz
        go_wp2
        go_round
        case rel => exact ⟨i - 1, by omega, by go_num, fun j hj => if h : j = i - 1 then h ▸ HX.out else HZ.out j (by omega)⟩
        case measure => simp [intOf]; omega
      · have hx1 : (((gd l (i - 1) : Nat) : Int) == 0) = false := by simpa using hx
        have HT := hid (tlen_uniq (n := i) hz (.inr hx))
        clear hx hz
        go_wp2
        go_ret
        exact ⟨by rw [HT.out]; rfl, rfl⟩

theorem trim_empty (oa : Option Addr) (cap : Nat) (w : World) :
    Calls Tryz.prog 39 #[.slice oa 0 cap] w fun e w' => e = .returned (.slice oa 0 cap) ∧ w = w' := by
  go_enter Tryz.func39, Tryz.ntmps39
  go_wp2
  go_loop [3] (fun k => k = .int .i64 0) (fun k => 0)
  case atStart => rfl
  case round =>
    subst hrel
    go_wp2
    go_ret
    exact ⟨rfl, rfl⟩

theorem trim_any {w : World} {oa : Option Addr} {n cap : Nat} {l : List Nat} (h : RN w (.slice oa n cap) l) (hn : l.length ≤ 4398046511104) :
    Calls Tryz.prog 39 #[.slice oa n cap] w fun e w' => e = .returned (.slice oa (tlen l) cap) ∧ w = w' := by
  rcases h.shape with ⟨rfl, oa', cap', e, _⟩ | ⟨b, o, cap', e, h0, h1, h2, h3⟩
  · simp only [Value.slice.injEq] at e
    obtain ⟨rfl, rfl, rfl⟩ := e
    exact trim_empty _ _ _
  · simp only [Value.slice.injEq] at e
    obtain ⟨rfl, rfl, rfl⟩ := e
    exact trim_at _ _ _ _ _ rfl hn _ h3 h1

end Go.Proofs.YtmfadfkjnfdngaaGreatDoor
set_option linter.unusedVariables false
set_option linter.unusedSimpArgs false
namespace Go.Proofs.YtmfadfkjnfdngaaGreatDoor
open Go.RowKit QM

theorem Of_zero (w : World) : Calls Tryz.prog 20 #[.int .u64 0] w fun e w' => e = .returned (.slice none 0 0) ∧ w = w' := by
  go_enter Tryz.func20, Tryz.ntmps20
  go_wp2
  go_ret
  exact ⟨rfl, rfl⟩
theorem Of_pos (x : Nat) (hx : 0 < x) (w : World) : Calls Tryz.prog 20 #[.int .u64 (x : Int)] w fun e w' => e = .returned (.slice (some ⟨w.heap.size, 0, none⟩) 1 1) ∧ w' = w.alloc (.cells #[.int .u64 (x : Int)] 56) := by
  have hb : ((x : Int) == 0) = false := by simp; omega
  clear hx
  go_enter Tryz.func20, Tryz.ntmps20
  go_wp2
  go_ret
  exact ⟨rfl, rfl⟩
def cmpI (x y : Nat) : Int := if x < y then -1 else if x = y then 0 else 1
theorem cmpI_lt {x y : Nat} (h : x < y) : cmpI x y = -1 := by simp [cmpI, h]
theorem cmpI_eq {x y : Nat} (h : x = y) : cmpI x y = 0 := by simp [cmpI, h]
theorem cmpI_gt {x y : Nat} (h : y < x) : cmpI x y = 1 := by unfold cmpI; rw [if_neg (by omega), if_neg (by omega)]
theorem drop_eq_of {a b : List Nat} {k : Nat} (h : ∀ j, k ≤ j → gd a j = gd b j) (hl : tlen a = tlen b) : (a.take (tlen a)).drop k = (b.take (tlen b)).drop k := by
  have ha := tlen_le a
  have hb := tlen_le b
  apply List.ext_getElem
  · simp; omega
  · intro i h1 h2
    simp at h1 h2
    have := h (k + i) (by omega)
    simpa [gd, List.getD_eq_getElem?_getD, List.getElem?_eq_getElem (show k + i < a.length by omega), List.getElem?_eq_getElem (show k + i < b.length by omega)] using this
theorem cmp_eq_of {a b : List Nat} (h : ∀ j, gd a j = gd b j) (hl : tlen a = tlen b) : nval WB a = nval WB b := by
  rw [← nval_tlen a, ← nval_tlen b]
  exact congrArg _ (by simpa using drop_eq_of (k := 0) (fun j _ => h j) hl)
theorem cmp_lt_of {a b : List Nat} {k : Nat} (ha : Sm WB a) (hb : Sm WB b) (h : ∀ j, k + 1 ≤ j → gd a j = gd b j) (hl : tlen a = tlen b) (hk : k < tlen a) (hx : gd a k < gd b k) : nval WB a < nval WB b := by
  have la := tlen_le a
  have lb := tlen_le b
  rw [← nval_tlen a, ← nval_tlen b]
  refine nval_lt_of (ha.take _) (hb.take _) (drop_eq_of h hl) (by simp; omega) ?_
  have e1 := gd_take (l := a) (n := tlen a) (i := k) hk
  have e2 := gd_take (l := b) (n := tlen b) (i := k) (by omega)
  unfold gd at *
  rw [e1, e2]; exact hx
theorem cmp_len_lt {a b : List Nat} (ha : Sm WB a) (h : tlen a < tlen b) : nval WB a < nval WB b := by
  have la := tlen_le a
  have lb := tlen_le b
  rw [← nval_tlen a, ← nval_tlen b]
  exact nval_len_lt WB_pos (ha.take _) (nrm_tlen b) (by simp; omega)

theorem Cmp_any {w : World} {va vb : Value} {la lb : List Nat} (ha : RN w va la) (hb : RN w vb lb) (hna : la.length ≤ 4398046511104) (hnb : lb.length ≤ 4398046511104) :
    Calls Tryz.prog 41 #[va, vb] w fun e w' => e = .returned (.int .i64 (cmpI (nval WB la) (nval WB lb))) ∧ Ext w w' := by
  have sa := ha.sm
  have sb := hb.sm
  have HSA := hid sa
  have HSB := hid sb
  have ka := tlen_le la
  have kb := tlen_le lb
  by_cases hl : tlen la = tlen lb
  · by_cases h0 : tlen la = 0
    · have hf : cmpI (nval WB la) (nval WB lb) = 0 := cmpI_eq (by rw [(nval_eq_zero WB_pos).2 h0, (nval_eq_zero WB_pos).2 (by omega)])
      have HF := hid hf
      obtain ⟨oa, ca, rfl, _⟩ := id ha
      obtain ⟨ob, cb, rfl, _⟩ := id hb
      have hb0 : tlen lb = 0 := by omega
      have hla : (tlen la != tlen lb) = false := by simp [hl]
      have ca := trim_any ha hna
      have cb := trim_any hb hnb
      rw [h0] at ca
      rw [hb0] at cb
      have CA := hid ca
      have CB := hid cb
      clear hf h0 hb0 hl hla ca cb sa sb ka kb ha hb
      go_enter Tryz.func41, Tryz.ntmps41
      go_wp2_with fail
      refine CA.out.mono ?_
      rintro e w' ⟨rfl, rfl⟩
      go_wp2_with fail
      refine CB.out.mono ?_
      rintro e w' ⟨rfl, rfl⟩
      go_wp2
      go_loop [5] (fun k => k = .int .i64 (-1)) (fun k => 0)
      case atStart => rfl
      case round =>
        subst hrel
        go_wp2
        go_ret
        exact ⟨by rw [HF.out]; rfl, Ext.refl _⟩
    · rcases ha.shape with ⟨rfl, _⟩ | ⟨b, o, cap, rfl, a0, a1, a2, a3⟩
      · exact absurd (by simpa using ka) h0
      rcases hb.shape with ⟨rfl, _⟩ | ⟨b', o', cap', rfl, b0, b1, b2, b3⟩
      · exact absurd (by simp at kb; omega) h0
      have CA := hid (trim_any ha hna)
      have CB := hid (trim_any hb hnb)
      obtain ⟨n, hn⟩ : ∃ n, n = tlen la := ⟨_, rfl⟩
      rw [← hn] at CA hl ka h0
      rw [← hl] at CB kb
      have HL := hid hl
      have HN := hid hn
      clear hl hn ha hb sa sb
      go_enter Tryz.func41, Tryz.ntmps41
      go_wp2_with fail
      refine CA.out.mono ?_
      rintro e w' ⟨rfl, rfl⟩
      go_wp2_with fail
      refine CB.out.mono ?_
      rintro e w' ⟨rfl, rfl⟩
      go_wp2
      go_loopw [5] (fun k wr => ∃ i : Nat, i ≤ n ∧ k = .int .i64 ((i : Int) - 1) ∧ (∀ j, i ≤ j → gd la j = gd lb j) ∧ Ext w wr) (fun k _ => (intOf k + 1).toNat)
      case atStart => exact ⟨n, by omega, rfl, fun j hj => by rw [gd, gd, tlen_zero (by have := HN.out; omega), tlen_zero (by have := HL.out; omega)], Ext.refl _⟩
      case round =>
        obtain ⟨i, hi, rfl, hz, hx⟩ := hrel
        have HZ := hid hz
        clear hz
        by_cases hi0 : i = 0
        · subst hi0
          have hf : cmpI (nval WB la) (nval WB lb) = 0 := cmpI_eq (cmp_eq_of (fun j => HZ.out j (by omega)) (by have := HN.out; have := HL.out; omega))
          have HF := hid hf
          clear hf
          go_wp2
          go_ret
          exact ⟨by rw [HF.out]; rfl, hx⟩
        · have hca := hx.cell (a3 (i - 1) (by omega))
          have hcb := hx.cell (b3 (i - 1) (by omega))
          have hn' := HN.out
          have hl' := HL.out
          have HNL := hid (And.intro hn' hl')
          clear hn' hl'
          rcases Nat.lt_trichotomy (gd la (i - 1)) (gd lb (i - 1)) with hlt | heq | hgt
          · have hf : cmpI (nval WB la) (nval WB lb) = -1 := cmpI_lt (cmp_lt_of (k := i - 1) HSA.out HSB.out (fun j hj => HZ.out j (by omega)) (by have := HNL.out; omega) (by have := HNL.out; omega) hlt)
            have HF := hid hf
            clear hf
            go_wp2
            go_region
            all_goals
              go_wp2
              go_ret
              exact ⟨by rw [HF.out]; rfl, hx.trans (Ext.drew _)⟩
          · have hlt1 : ¬ gd la (i - 1) < gd lb (i - 1) := by omega
            have hlt2 : ¬ gd lb (i - 1) < gd la (i - 1) := by omega
            have HE := hid heq
            clear heq
            go_wp2
            go_region
            all_goals
              go_wp2
              go_region
              all_goals
                go_wp2
                go_roundw
                case rel => exact ⟨i - 1, by omega, by go_num, fun j hj => if h : j = i - 1 then h ▸ HE.out else HZ.out j (by omega), (hx.trans (Ext.drew _)).trans (Ext.drew _)⟩
                case measure => simp [intOf]; omega
          · have hlt1 : ¬ gd la (i - 1) < gd lb (i - 1) := by omega
            have hf : cmpI (nval WB la) (nval WB lb) = 1 := cmpI_gt (cmp_lt_of (k := i - 1) HSB.out HSA.out (fun j hj => (HZ.out j (by omega)).symm) (by have := HNL.out; omega) (by have := HNL.out; omega) hgt)
            have HF := hid hf
            clear hf
            go_wp2
            go_region
            all_goals
              go_wp2
              go_region
              all_goals
                go_wp2
                go_ret
                exact ⟨by rw [HF.out]; rfl, (hx.trans (Ext.drew _)).trans (Ext.drew _)⟩
  · obtain ⟨oa, ca, rfl, _⟩ := id ha
    obtain ⟨ob, cb, rfl, _⟩ := id hb
    have CA := hid (trim_any ha hna)
    have CB := hid (trim_any hb hnb)
    have hne : ((tlen la : Int) != (tlen lb : Int)) = true := by simp; omega
    rcases Nat.lt_or_gt_of_ne hl with hlt | hgt
    · have HF := hid (cmpI_lt (cmp_len_lt sa hlt))
      clear ha hb sa sb hl
      go_enter Tryz.func41, Tryz.ntmps41
      go_wp2_with fail
      refine CA.out.mono ?_
      rintro e w' ⟨rfl, rfl⟩
      go_wp2_with fail
      refine CB.out.mono ?_
      rintro e w' ⟨rfl, rfl⟩
      go_wp2
      go_ret
      exact ⟨by rw [HF.out]; rfl, Ext.refl _⟩
    · have HF := hid (cmpI_gt (cmp_len_lt sb hgt))
      have hlt : ¬ tlen la < tlen lb := by omega
      clear ha hb sa sb hl
      go_enter Tryz.func41, Tryz.ntmps41
      go_wp2_with fail
      refine CA.out.mono ?_
      rintro e w' ⟨rfl, rfl⟩
      go_wp2_with fail
      refine CB.out.mono ?_
      rintro e w' ⟨rfl, rfl⟩
      go_wp2
      go_ret
      exact ⟨by rw [HF.out]; rfl, Ext.refl _⟩
end Go.Proofs.YtmfadfkjnfdngaaGreatDoor
set_option linter.unusedVariables false
set_option linter.unusedSimpArgs false
namespace Go.Proofs.YtmfadfkjnfdngaaGreatDoor
open Go.RowKit QM
theorem infoU64 : (Tryz.prog.info? 56).map (fun i => (i.zero, i.size, i.bytes)) = some (some (.int .u64 0), 1, 8) := by kernel_rfl
def wv (l : List Nat) : List Value := l.map fun x : Nat => Value.int .u64 (x : Int)
theorem wv_len (l : List Nat) : (wv l).length = l.length := by simp [wv]
theorem wv_one (l : List Nat) : ∀ u ∈ wv l, u.oneCell' = true := by
  intro u hu; simp [wv] at hu; obtain ⟨a, _, rfl⟩ := hu; rfl
theorem wv_get {l : List Nat} {j : Nat} {u : Value} (h : (wv l)[j]? = some u) : j < l.length ∧ u = .int .u64 ((gd l j : Nat) : Int) := by
  simp only [wv, List.getElem?_map, Option.map_eq_some_iff] at h
  obtain ⟨a, ha, rfl⟩ := h
  obtain ⟨h1, h2⟩ := List.getElem?_eq_some_iff.1 ha
  exact ⟨h1, by simp [gd, List.getD_eq_getElem?_getD, ha]⟩
theorem Clone_nil (w : World) :
    Calls Tryz.prog 72 #[.slice none 0 0] w fun e w' => e = .returned (.slice none 0 0) ∧ w = w' := by
  have hq := fun w => Lib.run_eql_slice_nil (P := Tryz.prog) w 28 56 none 0 0 0 0 Tryz.underlying28
  go_enter Tryz.func72, Tryz.ntmps72
  go_wp2
  go_ret
  exact ⟨rfl, rfl⟩
theorem Clone_at (ad : Addr) (n cap : Nat) (l : List Nat) (hl : l.length = n) (hn : n ≤ 4398046511104) (w : World) (hc : ∀ j u, (wv l)[j]? = some u → w.cell? (ad.add j) = some u) :
    Calls Tryz.prog 72 #[.slice (some ad) n cap] w fun e w' => (∃ v, e = .returned v ∧ w'.ownsRow w.heap.size 56 1 v n (wv l)) ∧ Ext w w' := by
  have hq := fun w => Lib.run_eql_slice_nil (P := Tryz.prog) w 28 56 (some ad) n cap 0 0 Tryz.underlying28
  obtain ⟨i0, hi, hz0, hz1, hz2⟩ := info_parts infoU64
  have hown : (w.alloc (.cells #[] 56)).ownsRow w.heap.size 56 1 (.slice (some ⟨w.heap.size, 0, none⟩) 0 0) 0 [] := World.ownsRow_made w #[] 0 (Nat.le_refl _) (by simp [maxLen]) rfl
  have hcs : ∀ j u, (wv l)[j]? = some u → (w.alloc (.cells #[] 56)).cell? (ad.add j) = some u := fun j u h => (Ext.alloc w _).cell (hc j u h)
  have hwl : (wv l).length = n * 1 := by rw [wv_len]; omega
  have HC := hid hcs
  have HL := hid hwl
  clear hl hc hcs hwl
  go_enter Tryz.func72, Tryz.ntmps72
  go_wp2_with (at_builtin; refine wpList_append_own _ rfl (.tmp 5) (.tmp 6) 28 rfl w.heap.size 56 i0 (.int .u64 0) 1 8 Tryz.underlying28 hi hz0 hz1 hz2 rfl (by decide) _ _ _ rfl hown ad n cap (wv l) rfl HL.out HC.out (wv_one _) (by unfold maxLen; omega) (by omega) (by simp) ?_; intro v' w1 hown' hgrow _)
  go_ret
  refine ⟨⟨_, rfl, ?_⟩, ?_⟩
  · simpa using hown'
  · exact Below.grown (Ext.alloc w _) hgrow (by simp) (fun k hk => Nat.le_of_eq (Option.some.inj hk))
theorem rn_cells {w : World} {ad : Addr} {n cap : Nat} {l : List Nat} (h : RN w (.slice (some ad) n cap) l) :
    ∀ j u, (wv l)[j]? = some u → w.cell? (ad.add j) = some u := by
  intro j u hu
  obtain ⟨hj, rfl⟩ := wv_get hu
  obtain ⟨oa, cap', hv, h1, h2, h3, h4, h5⟩ := h
  simp only [Value.slice.injEq] at hv
  obtain ⟨rfl, rfl, rfl⟩ := hv
  obtain ⟨b, o, e, c⟩ := h5 j hj
  simp only [Option.some.injEq] at e
  subst e
  rw [← c]
  unfold Addr.add
  split <;> simp_all
theorem Clone_any {w : World} {oa : Option Addr} {n cap : Nat} {l : List Nat} (h : RN w (.slice oa n cap) l) (hn : l.length ≤ 4398046511104) :
    Calls Tryz.prog 72 #[.slice oa n cap] w fun e w' => (∃ v, e = .returned v ∧ w'.ownsRow w.heap.size 56 1 v l.length (wv l)) ∧ Ext w w' := by
  have hl := h.len
  subst hl
  cases oa with
  | some ad => exact Clone_at ad _ cap l rfl hn w (rn_cells h)
  | none =>
    obtain ⟨oa, cap', hv, h1, h2, h3, h4, h5⟩ := h
    simp only [Value.slice.injEq] at hv
    obtain ⟨rfl, _, rfl⟩ := hv
    have := h3 rfl
    subst this
    have h0 : l = [] := List.eq_nil_of_length_eq_zero (by omega)
    subst h0
    refine (Clone_nil w).mono fun e w' ⟨he, hw⟩ => ?_
    subst he hw
    exact ⟨⟨_, rfl, World.ownsRow_nil _ _ _ _⟩, Ext.refl _⟩
theorem own_rn {w : World} {base e : Nat} {v : Value} {l : List Nat} (h : w.ownsRow base e 1 v l.length (wv l)) (hs : Sm WB l) : RN w v l := by
  rcases h.2 with ⟨rfl, h0⟩ | ⟨g, cap, cur, rfl, hb, hg, hn, hm, hcs, htk⟩
  · rw [List.eq_nil_of_length_eq_zero h0]; exact RN.nil w
  · refine RN.mk hs hn hm fun i hi => ?_
    have := h.cellAt i (by omega)
    rw [Nat.zero_add, this]
    simp [wv, List.getElem?_map, List.getElem?_eq_getElem hi, gd, List.getD_eq_getElem?_getD]
theorem own_take {w : World} {base e : Nat} {oa : Option Addr} {n cap : Nat} {l : List Nat} (h : w.ownsRow base e 1 (.slice oa n cap) n (wv l)) {k : Nat} (hk : k ≤ n) (hk0 : 0 < k) :
    w.ownsRow base e 1 (.slice oa k cap) k (wv (l.take k)) := by
  have hl := h.1
  rw [wv_len] at hl
  rcases h.2 with ⟨e1, h0⟩ | ⟨g, cap', cur, e1, hb, hg, hn, hm, hcs, htk⟩
  · omega
  · simp only [Value.slice.injEq, true_and] at e1
    obtain ⟨rfl, rfl⟩ := e1
    refine ⟨by rw [wv_len, List.length_take]; omega, .inr ⟨g, cap, cur, rfl, hb, hg, by omega, hm, hcs, ?_⟩⟩
    have e2 : wv (l.take k) = (wv l).take k := by simp [wv, List.map_take]
    rw [e2, ← htk, List.take_take]
    congr 1; omega
def ON (base : Nat) (w : World) (v : Value) (n : Nat) : Prop :=
  ∃ l, w.ownsRow base 56 1 v l.length (wv l) ∧ Sm WB l ∧ Nrm l ∧ nval WB l = n ∧ (l = [] → v = .slice none 0 0)
theorem ON.nn {base : Nat} {w : World} {v : Value} {n : Nat} (h : ON base w v n) : NN w v n := by
  obtain ⟨l, h1, h2, h3, h4, h5⟩ := h; exact ⟨l, own_rn h1 h2, h3, h4, h5⟩
theorem ON.zero (base : Nat) (w : World) : ON base w (.slice none 0 0) 0 := ⟨[], World.ownsRow_nil _ _ _ _, Sm.nil, Nrm.nil, rfl, fun _ => rfl⟩
theorem normal_own {base : Nat} {w : World} {v : Value} {l : List Nat} (h : w.ownsRow base 56 1 v l.length (wv l)) (hs : Sm WB l) (hn : l.length ≤ 4398046511104) :
    Calls Tryz.prog 71 #[v] w fun e w' => (∃ v, e = .returned v ∧ ON base w' v (nval WB l)) ∧ w = w' := by
  have hrn := own_rn h hs
  obtain ⟨oa, cap, hv, _⟩ := id hrn
  subst hv
  have hnn : tlen l ≠ 0 → ON base w (.slice oa (tlen l) cap) (nval WB l) := fun h0 =>
    ⟨l.take (tlen l), by have := own_take h (tlen_le l) (Nat.pos_of_ne_zero h0); rwa [List.length_take, Nat.min_eq_left (tlen_le l)], hs.take _, nrm_tlen l, nval_tlen l, fun e => absurd (by have := congrArg List.length e; rw [List.length_take, Nat.min_eq_left (tlen_le l)] at this; exact this) h0⟩
  have hz : tlen l = 0 → nval WB l = 0 := fun h0 => (nval_eq_zero WB_pos).2 h0
  have HRN := hid hrn
  clear hrn h
  by_cases h0 : tlen l = 0
  · have hb : ((tlen l : Int) == 0) = true := by simp [h0]
    have HZ := hid (hz h0)
    clear h0 hz hnn
    go_enter Tryz.func71, Tryz.ntmps71
    go_wp2_with (go_at_call 39; refine (trim_any HRN.out hn).mono ?_; rintro e w' ⟨rfl, rfl⟩)
    go_ret
    exact ⟨⟨_, rfl, by rw [HZ.out]; exact ON.zero _ _⟩, rfl⟩
  · have hb : ((tlen l : Int) == 0) = false := by simp; omega
    have HN := hid (hnn h0)
    clear h0 hz hnn
    go_enter Tryz.func71, Tryz.ntmps71
    go_wp2_with (go_at_call 39; refine (trim_any HRN.out hn).mono ?_; rintro e w' ⟨rfl, rfl⟩)
    go_ret
    exact ⟨⟨_, rfl, HN.out⟩, rfl⟩
theorem Norm_any {w : World} {v : Value} {l : List Nat} (h : RN w v l) (hn : l.length ≤ 4398046511104) :
    Calls Tryz.prog 38 #[v] w fun e w' => (∃ v, e = .returned v ∧ ON w.heap.size w' v (nval WB l)) ∧ Ext w w' := by
  obtain ⟨oa, cap, rfl, _⟩ := id h
  have hk := h.take (tlen_le l)
  have hkl : (l.take (tlen l)).length ≤ 4398046511104 := by rw [List.length_take]; omega
  have hv := nval_tlen (B := WB) l
  have hs := hk.sm
  have HV := hid hv
  have HC := hid (Clone_any hk hkl)
  have HT := hid (trim_any h hn)
  clear hv hk h
  go_enter Tryz.func38, Tryz.ntmps38
  go_wp2_with fail
  refine HT.out.mono ?_
  rintro e w' ⟨rfl, rfl⟩
  go_wp2_with fail
  refine HC.out.mono ?_
  rintro e w1 ⟨⟨v1, rfl, ho⟩, hx⟩
  have HO := hid ho
  clear ho
  go_wp2_with fail
  refine (normal_own HO.out hs hkl).mono ?_
  rintro e w' ⟨⟨v2, rfl, ho2⟩, rfl⟩
  go_wp2
  go_ret
  exact ⟨⟨_, rfl, by rw [← HV.out]; exact ho2⟩, hx⟩
theorem Of_own (x : Nat) (hx : x < WB) (w : World) : Calls Tryz.prog 20 #[.int .u64 (x : Int)] w fun e w' => (∃ v, e = .returned v ∧ ON w.heap.size w' v x) ∧ Ext w w' := by
  rcases Nat.eq_zero_or_pos x with h0 | h0
  · subst h0
    exact (Of_zero w).mono fun e w' ⟨he, hw⟩ => by subst he hw; exact ⟨⟨_, rfl, ON.zero _ _⟩, Ext.refl _⟩
  · refine (Of_pos x h0 w).mono fun e w' ⟨he, hw⟩ => ?_
    subst he hw
    refine ⟨⟨_, rfl, [x], ⟨by simp [wv_len], .inr ⟨w.heap.size, 1, _, rfl, Nat.le_refl _, heap_alloc_new w _, Nat.le_refl _, by simp [maxLen], by simp, by simp [wv]⟩⟩, Sm.nil.cons hx, .inr (by simp; omega), by simp [nval], fun e => by simp at e⟩, Ext.alloc _ _⟩
end Go.Proofs.YtmfadfkjnfdngaaGreatDoor
set_option linter.unusedVariables false
set_option linter.unusedSimpArgs false
namespace Go.Proofs.YtmfadfkjnfdngaaGreatDoor
open Go.RowKit QM

def lo64 (n : Nat) : Nat := n % 18446744073709551616
def hi64 (n : Nat) : Nat := n / 18446744073709551616
theorem lohi (n : Nat) : lo64 n + WB * hi64 n = n := by unfold lo64 hi64 WB; omega
theorem lo64_lt (n : Nat) : lo64 n < WB := by unfold lo64 WB; omega

theorem Add64_run (x y c : Nat) (hc : c ≤ 1) (w : World) :
    (callFunc 95 #[.int .u64 (x : Int), .int .u64 (y : Int), .int .u64 (c : Int)]).run Tryz.prog w =
      .ok (.value (.tuple #[.int .u64 ((lo64 (x + y + c) : Nat) : Int), .int .u64 ((hi64 (x + y + c) : Nat) : Int)])) w := by
  rw [run_callFunc_extern Tryz.func95 (by kernel_rfl) (by kernel_rfl) (by kernel_rfl) (e := add64Entry) (by kernel_rfl), run_add64 x y c (by omega) (by omega) (by omega) (by omega)]
  simp only [Result.andThen, lo64, hi64]
  congr 5 <;> omega
theorem Add64_run0 (x y c : Nat) (hc : c ≤ 1) (hy : y = 0) (w : World) :
    (callFunc 95 #[.int .u64 (x : Int), .int .u64 0, .int .u64 (c : Int)]).run Tryz.prog w =
      .ok (.value (.tuple #[.int .u64 ((lo64 (x + y + c) : Nat) : Int), .int .u64 ((hi64 (x + y + c) : Nat) : Int)])) w := by
  subst hy; exact Add64_run x 0 c hc w
theorem Add64_runc (x y : Nat) (w : World) :
    (callFunc 95 #[.int .u64 (x : Int), .int .u64 (y : Int), .int .u64 0]).run Tryz.prog w =
      .ok (.value (.tuple #[.int .u64 ((lo64 (x + y) : Nat) : Int), .int .u64 ((hi64 (x + y) : Nat) : Int)])) w := Add64_run x y 0 (by omega) w
theorem mac64 {x y g c : Nat} (hx : x < WB) (hy : y < WB) (hg : g < WB) (hc : c < WB) :
    hi64 (x * y) + hi64 (lo64 (x * y) + g) + hi64 (lo64 (lo64 (x * y) + g) + c) < WB ∧
    lo64 (lo64 (lo64 (x * y) + g) + c) + WB * (hi64 (x * y) + hi64 (lo64 (x * y) + g) + hi64 (lo64 (lo64 (x * y) + g) + c)) = g + x * y + c := by
  have h := mac_bound hx hy hg hc
  have h1 := lohi (x * y)
  have h2 := lohi (lo64 (x * y) + g)
  have h3 := lohi (lo64 (lo64 (x * y) + g) + c)
  generalize x * y = p at *
  unfold WB at *
  omega
def sub64E : Array Value → Sem Value := fun args => do
  let (x, y, b) ← Extern.MathBitsCarry.three "Sub64" args
  pure (Extern.MathBitsCarry.pair ((x + Extern.MathBitsCarry.m64 - y - b) % Extern.MathBitsCarry.m64) (if x < y + b then 1 else 0))
def bw64 (x y b : Nat) : Nat := if x < y + b then 1 else 0
def sb64 (x y b : Nat) : Nat := (x + 18446744073709551616 - y - b) % 18446744073709551616
theorem sb64_spec {x y b : Nat} (hx : x < WB) (hy : y < WB) (hb : b ≤ 1) : sb64 x y b + y + b = x + WB * bw64 x y b ∧ sb64 x y b < WB ∧ bw64 x y b ≤ 1 := by
  unfold sb64 bw64
  rw [WB_eq] at *
  split <;> omega
theorem Sub64_run (x y b : Nat) (hb : b ≤ 1) (w : World) :
    (callFunc 97 #[.int .u64 (x : Int), .int .u64 (y : Int), .int .u64 (b : Int)]).run Tryz.prog w =
      .ok (.value (.tuple #[.int .u64 ((sb64 x y b : Nat) : Int), .int .u64 ((bw64 x y b : Nat) : Int)])) w := by
  rw [run_callFunc_extern Tryz.func97 (by kernel_rfl) (by kernel_rfl) (by kernel_rfl) (e := sub64E) (by kernel_rfl)]
  have : b = 0 ∨ b = 1 := by omega
  rcases this with rfl | rfl <;> rfl

theorem Sub64_run0 (x y b : Nat) (hb : b ≤ 1) (hy : y = 0) (w : World) :
    (callFunc 97 #[.int .u64 (x : Int), .int .u64 0, .int .u64 (b : Int)]).run Tryz.prog w =
      .ok (.value (.tuple #[.int .u64 ((sb64 x y b : Nat) : Int), .int .u64 ((bw64 x y b : Nat) : Int)])) w := by
  subst hy; exact Sub64_run x 0 b hb w
theorem bt_maskN (a : Nat) (ha : a < 18446744073709551616) : bits .and .u64 (a : Int) 4294967295 = ((a % 4294967296 : Nat) : Int) := by
  have h := bits_and_u64_nat a 4294967295 ha (by omega)
  have e : a &&& 4294967295 = a % 4294967296 := Nat.and_two_pow_sub_one_eq_mod a 32
  rw [e] at h
  exact h
theorem bt_divN (a : Nat) : (a : Int) / 4294967296 = ((a / 4294967296 : Nat) : Int) := by omega
theorem bt_mulN (a b : Nat) : (a : Int) * (b : Int) = ((a * b : Nat) : Int) := (Int.natCast_mul a b).symm
theorem bt_addN (a b : Nat) : (a : Int) + (b : Int) = ((a + b : Nat) : Int) := (Int.natCast_add a b).symm
theorem bt_wrapN (a : Nat) (ha : a < 18446744073709551616) : IntKind.u64.wrap (a : Int) = (a : Int) := by rw [IntKind.wrap_u64]; omega
theorem bt_wrapM (a : Nat) : IntKind.u64.wrap (a : Int) = ((a % 18446744073709551616 : Nat) : Int) := by rw [IntKind.wrap_u64]; omega
theorem bt_split (x1 x0 y1 y0 K : Nat) : (x1 * K + x0) * (y1 * K + y0) = x1 * y1 * (K * K) + (x1 * y0 + x0 * y1) * K + x0 * y0 := by grind
theorem bt_half {a b : Nat} (ha : a ≤ 4294967295) (hb : b ≤ 4294967295) : a * b ≤ 18446744065119617025 := Nat.mul_le_mul ha hb
theorem bt_hi (x y : Nat) (hx : x < 18446744073709551616) (hy : y < 18446744073709551616) :
    (x % 4294967296) * (y % 4294967296) < 18446744073709551616 ∧
    (x / 4294967296) * (y % 4294967296) + (x % 4294967296) * (y % 4294967296) / 4294967296 < 18446744073709551616 ∧
    ((x / 4294967296) * (y % 4294967296) + (x % 4294967296) * (y % 4294967296) / 4294967296) % 4294967296 + (x % 4294967296) * (y / 4294967296) < 18446744073709551616 ∧
    (x / 4294967296) * (y / 4294967296) + ((x / 4294967296) * (y % 4294967296) + (x % 4294967296) * (y % 4294967296) / 4294967296) / 4294967296 +
      (((x / 4294967296) * (y % 4294967296) + (x % 4294967296) * (y % 4294967296) / 4294967296) % 4294967296 + (x % 4294967296) * (y / 4294967296)) / 4294967296 = x * y / 18446744073709551616 := by
  have e : x * y = (x / 4294967296) * (y / 4294967296) * (4294967296 * 4294967296) + ((x / 4294967296) * (y % 4294967296) + (x % 4294967296) * (y / 4294967296)) * 4294967296 + (x % 4294967296) * (y % 4294967296) := by
    rw [← bt_split, Nat.div_add_mod' x 4294967296, Nat.div_add_mod' y 4294967296]
  have ha := bt_half (a := x / 4294967296) (b := y / 4294967296) (by omega) (by omega)
  have hb := bt_half (a := x / 4294967296) (b := y % 4294967296) (by omega) (by omega)
  have hc := bt_half (a := x % 4294967296) (b := y / 4294967296) (by omega) (by omega)
  have hd := bt_half (a := x % 4294967296) (b := y % 4294967296) (by omega) (by omega)
  rw [e]
  generalize (x / 4294967296) * (y / 4294967296) = a at *
  generalize (x / 4294967296) * (y % 4294967296) = b at *
  generalize (x % 4294967296) * (y / 4294967296) = c at *
  generalize (x % 4294967296) * (y % 4294967296) = d at *
  refine ⟨by omega, by omega, by omega, by omega⟩
set_option maxHeartbeats 1000000 in
theorem Mul64_any (x y : Nat) (hx : x < WB) (hy : y < WB) (w : World) :
    Calls Tryz.prog 120 #[.int .u64 (x : Int), .int .u64 (y : Int)] w fun e w' => e = .returned (.tuple #[.int .u64 ((hi64 (x * y) : Nat) : Int), .int .u64 ((lo64 (x * y) : Nat) : Int)]) ∧ w = w' := by
  unfold WB at hx hy
  unfold hi64 lo64
  obtain ⟨bd, bt, bw, hhi⟩ := bt_hi x y hx hy
  have ba := bt_half (a := x / 4294967296) (b := y / 4294967296) (by omega) (by omega)
  have bb := bt_half (a := x / 4294967296) (b := y % 4294967296) (by omega) (by omega)
  have bc := bt_half (a := x % 4294967296) (b := y / 4294967296) (by omega) (by omega)
  have ba' : x / 4294967296 * (y / 4294967296) < 18446744073709551616 := by omega
  have bb' : x / 4294967296 * (y % 4294967296) < 18446744073709551616 := by omega
  have bc' : x % 4294967296 * (y / 4294967296) < 18446744073709551616 := by omega
  have bh1 : x / 4294967296 * (y / 4294967296) + (x / 4294967296 * (y % 4294967296) + x % 4294967296 * (y % 4294967296) / 4294967296) / 4294967296 < 18446744073709551616 := by omega
  have bh : x / 4294967296 * (y / 4294967296) + (x / 4294967296 * (y % 4294967296) + x % 4294967296 * (y % 4294967296) / 4294967296) / 4294967296 + ((x / 4294967296 * (y % 4294967296) + x % 4294967296 * (y % 4294967296) / 4294967296) % 4294967296 + x % 4294967296 * (y / 4294967296)) / 4294967296 < 18446744073709551616 := by omega
  go_enter Tryz.func120, Tryz.ntmps120
  go_wp2
  simp only [bt_maskN x hx, bt_maskN y hy, bt_divN, bt_mulN, bt_addN, bt_wrapN _ bd, bt_wrapN _ bb', bt_wrapN _ bt, bt_maskN _ bt, bt_wrapN _ bc', bt_wrapN _ bw, bt_wrapN _ ba', bt_wrapN _ bh1, bt_wrapN _ bh, bt_wrapM (x * y)]
  rw [hhi]
  go_ret2
  exact ⟨rfl, rfl⟩
end Go.Proofs.YtmfadfkjnfdngaaGreatDoor
set_option linter.unusedVariables false
set_option linter.unusedSimpArgs false
namespace Go.Proofs.YtmfadfkjnfdngaaGreatDoor
open Go.RowKit QM
theorem wpList_index_tab {P : Program} {w : World} {ops : Array Oper} {rest : List Oper} {o : Oper} {a : Act} {Q : Exit → Act → World → Prop}
    (hg : o.guard = none) (t : TypeId) (s : ByteArray) (k : Nat) (hop : o.op = Op.index t (.const (.string s)) (.tmp k)) (hs : s = Lib.len8tab) (ht : P.underlying t = some .string)
    (y : Nat) (hy : y < 256) (hk : a.eval (.tmp k) = .int .u8 (y : Int)) (hK : wpList P ops Q rest (a.put o.dst (.int .u8 ((bitLen y : Nat) : Int))) w) :
    wpList P ops Q (o :: rest) a w := by
  subst hs
  have h1 := Lib.run_index_len8tab (P := P) (w := w) t .u8 (y : Int) ht (by omega) (by omega)
  have h2 : Lib.len8 (y : Int) = ((bitLen y : Nat) : Int) := by
    have : ∀ n : Fin 256, Lib.len8 (n.val : Int) = (bitLen n.val : Int) := by decide +kernel
    exact this ⟨y, hy⟩
  refine wpList_plain hg fun K hK' => ?_
  unfold Oper.wp
  have h3 : a.eval (.const (.string Lib.len8tab)) = .string Lib.len8tab := rfl
  simp only [execOp, hop, h3, hk]
  rw [Sem.run_bind, h1, h2]
  exact hK' _ _ hK
def LenR (x y n m : Nat) : Prop := bitLen x = n + bitLen y ∧ y < m ∧ n ≤ 64
theorem LenR.next {x y n m : Nat} (h : LenR x y n m) (b : Nat) (hb : n + b ≤ 64) (hb0 : 2 ^ b ≤ y) (m' : Nat) (hm : y / 2 ^ b < m') : LenR x (y / 2 ^ b) (n + b) m' :=
  ⟨by rw [h.1, bitLen_shift y b (Nat.ne_of_gt (Nat.div_pos hb0 (Nat.two_pow_pos _)))]; omega, hm, hb⟩
theorem castdiv32 (x : Nat) : (x : Int) / 4294967296 = ((x / 2 ^ 32 : Nat) : Int) := by omega
theorem castdiv16 (x : Nat) : (x : Int) / 65536 = ((x / 2 ^ 16 : Nat) : Int) := by omega
theorem castdiv8 (x : Nat) : (x : Int) / 256 = ((x / 2 ^ 8 : Nat) : Int) := by omega
set_option maxHeartbeats 2000000 in
set_option maxRecDepth 1000000 in
theorem Len64_any (x : Nat) (hx : x < WB) (w : World) :
    Calls Tryz.prog 40 #[.int .u64 (x : Int)] w fun e w' => e = .returned (.int .i64 (bitLen x : Nat)) ∧ w = w' := by
  have HX := hid hx
  clear hx
  go_enter Tryz.func40, Tryz.ntmps40
  go_upto_if 4 with fail
  go_cut [0, 2] (fun s0 s2 wx => ∃ y n : Nat, s0 = .int .u64 y ∧ s2 = .int .i64 n ∧ Hid (LenR x y n 4294967296 ∧ n ≤ 32) ∧ w = wx)
  case first =>
    by_cases h : 4294967296 ≤ x
    · have hd : decide ((4294967296 : Int) ≤ (x : Int)) = true := by simp; omega
      have h0 : LenR x x 0 (x + 1) := ⟨by omega, by omega, by omega⟩
      have hr := h0.next 32 (by omega) h 4294967296 (by have := HX.out; rw [WB_eq] at this; omega)
      have HR : Hid (LenR x (x / 2 ^ 32) 32 4294967296 ∧ 32 ≤ 32) := hid ⟨hr, by omega⟩
      clear hr h h0
      simp only [hd]
      clear hd
      go_wp2
      go_meet
      exact ⟨_, 32, by rw [castdiv32], rfl, HR, rfl⟩
    · have hd : decide ((4294967296 : Int) ≤ (x : Int)) = false := by simp; omega
      have hr : LenR x x 0 4294967296 := ⟨by omega, by omega, by omega⟩
      have HR : Hid (LenR x x 0 4294967296 ∧ 0 ≤ 32) := hid ⟨hr, by omega⟩
      clear hr h
      simp only [hd]
      clear hd
      go_wp2
      go_meet
      exact ⟨x, 0, rfl, rfl, HR, rfl⟩
  case rest =>
    obtain ⟨y, n, rfl, rfl, hl, rfl⟩ := hcut
    have hn32 : n ≤ 32 := hl.out.2
    go_upto_if 8 with fail
    go_cut [0, 2] (fun s0 s2 wx => ∃ y n : Nat, s0 = .int .u64 y ∧ s2 = .int .i64 n ∧ Hid (LenR x y n 65536 ∧ n ≤ 48) ∧ w = wx)
    case first =>
      by_cases h : 65536 ≤ y
      · have hd : decide ((65536 : Int) ≤ (y : Int)) = true := by simp; omega
        have hr := hl.out.1.next 16 (by omega) h 65536 (by have := hl.out.1.2.1; omega)
        have HR : Hid (LenR x (y / 2 ^ 16) (n + 16) 65536 ∧ n + 16 ≤ 48) := hid ⟨hr, by omega⟩
        clear hr h
        simp only [hd]
        clear hd
        go_wp2
        go_meet
        exact ⟨_, n + 16, by rw [castdiv16], by go_num, HR, rfl⟩
      · have hd : decide ((65536 : Int) ≤ (y : Int)) = false := by simp; omega
        have hr : LenR x y n 65536 := ⟨hl.out.1.1, by omega, by omega⟩
        have HR : Hid (LenR x y n 65536 ∧ n ≤ 48) := hid ⟨hr, by omega⟩
        clear hr h
        simp only [hd]
        clear hd
        go_wp2
        go_meet
        exact ⟨y, n, rfl, rfl, HR, rfl⟩
    case rest =>
      clear hl hn32
      obtain ⟨y, n, rfl, rfl, hl, rfl⟩ := hcut
      have hn32 : n ≤ 48 := hl.out.2
      go_upto_if 14 with fail
      go_cut [0, 2] (fun s0 s2 wx => ∃ y n : Nat, s0 = .int .u64 y ∧ s2 = .int .i64 n ∧ Hid (LenR x y n 256 ∧ n ≤ 56) ∧ w = wx)
      case first =>
        by_cases h : 256 ≤ y
        · have hd : decide ((256 : Int) ≤ (y : Int)) = true := by simp; omega
          have hr := hl.out.1.next 8 (by omega) h 256 (by have := hl.out.1.2.1; omega)
          have HR : Hid (LenR x (y / 2 ^ 8) (n + 8) 256 ∧ n + 8 ≤ 56) := hid ⟨hr, by omega⟩
          clear hr h
          simp only [hd]
          clear hd
          go_wp2
          go_meet
          exact ⟨_, n + 8, by rw [castdiv8], by go_num, HR, rfl⟩
        · have hd : decide ((256 : Int) ≤ (y : Int)) = false := by simp; omega
          have hr : LenR x y n 256 := ⟨hl.out.1.1, by omega, by omega⟩
          have HR : Hid (LenR x y n 256 ∧ n ≤ 56) := hid ⟨hr, by omega⟩
          clear hr h
          simp only [hd]
          clear hd
          go_wp2
          go_meet
          exact ⟨y, n, rfl, rfl, HR, rfl⟩
      case rest =>
        clear hl hn32
        obtain ⟨y, n, rfl, rfl, hl, rfl⟩ := hcut
        have hn32 : n ≤ 56 := hl.out.2
        have hy : y ≤ 255 := by have := hl.out.1.2.1; omega
        have hb8 : bitLen y ≤ 8 := bitLen_le8 y (by omega)
        go_wp2_with (with_reducible (refine wpList_index_tab rfl _ _ 21 rfl (by kernel_rfl) rfl y (by omega) rfl ?_))
        go_ret
        exact ⟨by rw [hl.out.1.1]; simp, rfl⟩
theorem bitLen_le64 {x : Nat} (hx : x < WB) : bitLen x ≤ 64 := by
  unfold bitLen
  split
  · omega
  · rename_i h0
    have := (Nat.log2_lt h0).2 (show x < 2 ^ 64 by rw [WB_eq] at hx; omega)
    omega
theorem LeadingZeros64_any (x : Nat) (hx : x < WB) (w : World) :
    Calls Tryz.prog 99 #[.int .u64 (x : Int)] w fun e w' => e = .returned (.int .i64 ((64 - bitLen x : Nat) : Int)) ∧ w = w' := by
  have hl := bitLen_le64 hx
  have HL := hid (Len64_any x hx w)
  clear hx
  go_enter Tryz.func99, Tryz.ntmps99
  go_wp2_with fail
  refine HL.out.mono ?_
  rintro e w' ⟨rfl, rfl⟩
  go_wp2
  go_ret
  exact ⟨congrArg Ending.returned (by go_num), rfl⟩
end Go.Proofs.YtmfadfkjnfdngaaGreatDoor
set_option linter.unusedVariables false
set_option linter.unusedSimpArgs false
namespace Go.Proofs.YtmfadfkjnfdngaaGreatDoor
open Go.RowKit QM

def Arr (base : Nat) (w : World) (g : Nat) (l : List Nat) : Prop :=
  w.ownsRow base 56 1 (.slice (some ⟨g, 0, none⟩) l.length l.length) l.length (wv l)
theorem Arr.cell {base g : Nat} {w : World} {l : List Nat} (h : Arr base w g l) {i : Nat} (hi : i < l.length) : w.cell? ⟨g, i, none⟩ = some (.int .u64 ((gd l i : Nat) : Int)) := by
  rw [World.ownsRow.cellAt h i (by omega)]
  simp [wv, List.getElem?_map, List.getElem?_eq_getElem hi, gd, List.getD_eq_getElem?_getD]
theorem Arr.frozen {base g : Nat} {w : World} {l : List Nat} (h : Arr base w g l) (i : Nat) : w.frozen? ⟨g, i, none⟩ = false := World.ownsRow.frozenAt h i
theorem Arr.store {base g : Nat} {w : World} {l : List Nat} (h : Arr base w g l) (i x : Nat) : Arr base (w.setCell ⟨g, i, none⟩ (.int .u64 (x : Int))) g (l.set i x) := by
  have := (World.ownsRow.stored h i (.int .u64 (x : Int))).1
  have e : (wv l).set i (.int .u64 (x : Int)) = wv (l.set i x) := by simp [wv, List.map_set]
  rw [e] at this
  simpa [Arr] using this
theorem Arr.base {base g : Nat} {w : World} {l : List Nat} (h : Arr base w g l) : base ≤ g ∧ g < w.heap.size := World.ownsRow.lt h g rfl
theorem Arr.ext {base g : Nat} {w w' : World} {l : List Nat} (h : Arr base w g l) (he : Ext w w') : Arr base w' g l := by
  refine World.ownsRow.kept h (w' := w') (row := none) ⟨he.os, he.tape, he.output, he.size, fun k hk _ => he.block hk⟩ (.inr (by simp [Value.ownBlock]))
theorem set_fill {r : List Nat} {m x : Nat} : (r ++ List.replicate (m + 1) 0).set r.length x = (r ++ [x]) ++ List.replicate m 0 := by
  rw [List.replicate_succ, List.set_append_right _ _ (Nat.le_refl _), Nat.sub_self, List.set_cons_zero, List.append_assoc]; rfl
theorem wv_zeros (n : Nat) : (madeCells (Value.int .u64 0).cells (n * 1)).toList = wv (List.replicate n 0) := by
  rw [Nat.mul_one]
  show (madeCells #[Value.int .u64 0] n).toList = _
  rw [toList_madeCells_one]; simp [wv]
theorem Arr.own {base g : Nat} {w : World} {l : List Nat} (h : Arr base w g l) : w.ownsRow base 56 1 (.slice (some ⟨g, 0, none⟩) l.length l.length) l.length (wv l) := h

def AddInv (la lb : List Nat) (k : Nat) (r : List Nat) (c : Nat) : Prop := AddInvB WB la lb k r c
theorem AddInv.start (la lb : List Nat) : AddInv la lb 0 [] 0 := AddInvB.start _ _ _
theorem hi64_one {x y c : Nat} (hx : x < WB) (hy : y < WB) (hc : c ≤ 1) : hi64 (x + y + c) ≤ 1 := by
  unfold hi64; rw [WB_eq] at *; omega
theorem AddInv.step {la lb : List Nat} {k c : Nat} {r : List Nat} (h : AddInv la lb k r c) (ha : Sm WB la) (hb : Sm WB lb) :
    AddInv la lb (k + 1) (r ++ [lo64 (gd la k + gd lb k + c)]) (hi64 (gd la k + gd lb k + c)) :=
  AddInvB.step h (lo64_lt _) (hi64_one (gd_lt ha k) (gd_lt hb k) h.2.2.1) (lohi _)
theorem AddInv.done {la lb : List Nat} {n c : Nat} {r : List Nat} (h : AddInv la lb n r c) (ha : nval WB (la.take n) = nval WB la) (hb : nval WB (lb.take n) = nval WB lb) :
    Sm WB (r ++ [c]) ∧ nval WB (r ++ [c]) = nval WB la + nval WB lb := AddInvB.done h WB_one ha hb
set_option maxRecDepth 100000 in
set_option maxHeartbeats 1000000 in
theorem Add_any {w : World} {va vb : Value} {la lb : List Nat} (ha : RN w va la) (hb : RN w vb lb) (hna : la.length ≤ 1099511627775) (hnb : lb.length ≤ 1099511627775) :
    Calls Tryz.prog 69 #[va, vb] w fun e w' => (∃ v, e = .returned v ∧ ON w.heap.size w' v (nval WB la + nval WB lb)) ∧ Ext w w' := by
  obtain ⟨oa, ca, rfl, _⟩ := id ha
  obtain ⟨ob, cb, rfl, _⟩ := id hb
  have CA := hid (trim_any ha (by omega))
  have CB := hid (trim_any hb (by omega))
  -- the longer one, the shorter one
  obtain ⟨ox, cx, lx, oy, cy, ly, hx, hy, hxy, hlx, hcase, hsum⟩ : ∃ ox cx lx oy cy ly, RN w (.slice ox (tlen lx) cx) (lx.take (tlen lx)) ∧ RN w (.slice oy (tlen ly) cy) (ly.take (tlen ly)) ∧ tlen ly ≤ tlen lx ∧ tlen lx ≤ 1099511627775 ∧
      (tlen la < tlen lb ∧ ox = ob ∧ cx = cb ∧ lx = lb ∧ oy = oa ∧ cy = ca ∧ ly = la ∨ ¬ tlen la < tlen lb ∧ ox = oa ∧ cx = ca ∧ lx = la ∧ oy = ob ∧ cy = cb ∧ ly = lb) ∧ nval WB lx + nval WB ly = nval WB la + nval WB lb := by
    have ka := tlen_le la
    have kb := tlen_le lb
    by_cases h : tlen la < tlen lb
    · exact ⟨ob, cb, lb, oa, ca, la, hb.take kb, ha.take ka, by omega, by omega, .inl ⟨h, rfl, rfl, rfl, rfl, rfl, rfl⟩, by omega⟩
    · exact ⟨oa, ca, la, ob, cb, lb, ha.take ka, hb.take kb, by omega, by omega, .inr ⟨h, rfl, rfl, rfl, rfl, rfl, rfl⟩, by omega⟩
  obtain ⟨i0, hi, hz0, hz1, hz2⟩ := info_parts infoU64
  have lx_sm : Hid (Sm WB lx) := hid (by rcases hcase with ⟨_, _, _, rfl, _⟩ | ⟨_, _, _, rfl, _⟩ <;> first | exact hb.sm | exact ha.sm)
  have ly_sm : Hid (Sm WB ly) := hid (by rcases hcase with ⟨_, _, _, _, _, _, rfl⟩ | ⟨_, _, _, _, _, _, rfl⟩ <;> first | exact ha.sm | exact hb.sm)
  have HS := hid hsum
  have HC := hid hcase
  clear hsum hcase ha hb hna hnb
  go_enter Tryz.func69, Tryz.ntmps69
  go_wp2_with fail
  refine CA.out.mono ?_
  rintro e w' ⟨rfl, rfl⟩
  go_wp2_with fail
  refine CB.out.mono ?_
  rintro e w' ⟨rfl, rfl⟩
  go_upto_if 17 with fail
  go_cut [0, 1] (fun s0 s1 wx => s0 = .slice ox (tlen lx) cx ∧ s1 = .slice oy (tlen ly) cy ∧ w = wx)
  case first =>
    rcases HC.out with ⟨hlt, rfl, rfl, rfl, rfl, rfl, rfl⟩ | ⟨hlt, rfl, rfl, rfl, rfl, rfl, rfl⟩
    all_goals
      go_wp2
      go_meet
      exact ⟨rfl, rfl, rfl⟩
  case rest =>
    obtain ⟨rfl, rfl, rfl⟩ := hcut
    have hbytes : i0.bytes * (tlen lx + 1) ≤ 281474976710656 := by rw [hz2]; omega
    go_wp2_with (at_make; refine wpList_make_full _ rfl (.tmp 22) (.tmp 22) 28 rfl w.heap.size 56 i0 (.int .u64 0) 1 Tryz.underlying28 hi hz0 hz1 .i64 .i64 _ _ (tlen lx + 1) rfl rfl (by omega) (by omega) hbytes (by unfold maxLen; omega) (Nat.le_refl _) ?_; intro w1 hown hgrow)
    have hA : Arr w.heap.size w1 w.heap.size (List.replicate (tlen lx + 1) 0) := by
      rw [wv_zeros] at hown; unfold Arr; rw [List.length_replicate]; exact hown
    have hE : Ext w w1 := Below.grown (Below.refl _ _) hgrow (Nat.le_refl _) (fun k hk => by cases hk)
    clear hown hgrow
    go_loopw [6, 26] (fun c k wr => ∃ (i : Nat) (r : List Nat) (cy : Nat), i ≤ tlen lx ∧ k = .int .i64 i ∧ c = .int .u64 cy ∧ AddInv lx ly i r cy ∧ Arr w.heap.size wr w.heap.size (r ++ List.replicate (tlen lx + 1 - i) 0) ∧ Ext w wr) (fun _ k _ => tlen lx - (intOf k).toNat)
    case atStart => exact ⟨0, [], 0, by omega, rfl, rfl, AddInv.start _ _, hA, hE⟩
    case round =>
      obtain ⟨i, r, cc, hi', rfl, rfl, hinv, hAr, hEr⟩ := hrel
      have hlen : (r ++ List.replicate (tlen lx + 1 - i) 0).length = tlen lx + 1 := by have := hinv.1; simp; omega
      have hcy := hinv.2.2.1
      by_cases hilt : i < tlen lx
      · obtain ⟨bx, ofx, rfl, hcx⟩ : ∃ b o, ox = some ⟨b, o, none⟩ ∧ wr.cell? ⟨b, o + i, none⟩ = some (.int .u64 ((gd lx i : Nat) : Int)) := by
          obtain ⟨oa', cap', hv, h1, h2, h3, h4, h5⟩ := hx
          simp only [Value.slice.injEq] at hv
          obtain ⟨rfl, e2, rfl⟩ := hv
          obtain ⟨b, o, e, c⟩ := h5 i (by omega)
          rw [gd_take hilt] at c
          exact ⟨b, o, e, hEr.cell c⟩
        have hout := hAr.cell (i := i) (by omega)
        have hfz := hAr.frozen i
        have hst := hAr.store i (lo64 (gd lx i + gd ly i + cc))
        have hnew : (r ++ List.replicate (tlen lx + 1 - i) 0).set i (lo64 (gd lx i + gd ly i + cc)) = (r ++ [lo64 (gd lx i + gd ly i + cc)]) ++ List.replicate (tlen lx + 1 - (i + 1)) 0 := by
          have e1 : tlen lx + 1 - i = (tlen lx + 1 - (i + 1)) + 1 := by omega
          rw [e1, ← hinv.1]; exact set_fill
        rw [hnew] at hst
        have hstep := hinv.step (lx_sm.out) (ly_sm.out)
        have hgr : Ext w (wr.setCell ⟨w.heap.size, i, none⟩ (.int .u64 ((lo64 (gd lx i + gd ly i + cc) : Nat) : Int))) := Below.setCell hEr (Nat.le_refl _) _
        have HST := hid hst
        have HSTEP := hid hstep
        have HGR := hid hgr
        clear hst hstep hgr hnew hlen hinv hAr
        by_cases hily : i < tlen ly
        · obtain ⟨by', ofy, rfl, hcyy⟩ : ∃ b o, oy = some ⟨b, o, none⟩ ∧ wr.cell? ⟨b, o + i, none⟩ = some (.int .u64 ((gd ly i : Nat) : Int)) := by
            obtain ⟨oa', cap', hv, h1, h2, h3, h4, h5⟩ := hy
            simp only [Value.slice.injEq] at hv
            obtain ⟨rfl, e2, rfl⟩ := hv
            obtain ⟨b, o, e, c⟩ := h5 i (by omega)
            rw [gd_take hily] at c
            exact ⟨b, o, e, hEr.cell c⟩
          have hadd := Add64_run (gd lx i) (gd ly i) cc hcy
          clear hx hy hEr
          go_wp2
          go_roundw
          case rel => exact ⟨i + 1, _, _, by omega, by go_num, rfl, HSTEP.out, HST.out, HGR.out⟩
          case measure => simp [intOf]; omega
        · have hadd := Add64_run0 (gd lx i) (gd ly i) cc hcy (tlen_zero (by omega))
          clear hx hy hEr
          go_wp2
          go_roundw
          case rel => exact ⟨i + 1, _, _, by omega, by go_num, rfl, HSTEP.out, HST.out, HGR.out⟩
          case measure => simp [intOf]; omega
      · have hin : i = tlen lx := by omega
        subst hin
        have hdone := hinv.done (nval_tlen lx) (nval_take_of_zeros fun j hj => tlen_zero (by omega))
        have hout := hAr.cell (i := tlen lx) (by omega)
        have hfz := hAr.frozen (tlen lx)
        have hst := hAr.store (tlen lx) cc
        have e0 : tlen lx + 1 - tlen lx = 0 + 1 := by omega
        have hnew : (r ++ List.replicate (tlen lx + 1 - tlen lx) 0).set (tlen lx) cc = r ++ [cc] := by
          rw [e0]; have := set_fill (r := r) (m := 0) (x := cc); rw [hinv.1] at this; simpa using this
        rw [hnew] at hst
        have hrl : (r ++ [cc]).length = tlen lx + 1 := by simp [hinv.1]
        have hno := normal_own hst.own hdone.1 (by omega)
        rw [hrl] at hno
        have hgr : Ext w (wr.setCell ⟨w.heap.size, tlen lx, none⟩ (.int .u64 (cc : Int))) := Below.setCell hEr (Nat.le_refl _) _
        have HNO := hid hno
        have HD := hid hdone.2
        have HGR := hid hgr
        clear hst hdone hgr hnew hlen hinv hAr hno hrl hx hy hEr e0
        go_wp2_with fail
        refine HNO.out.mono ?_
        rintro e w' ⟨⟨v, rfl, ho⟩, rfl⟩
        go_wp2
        go_ret
        exact ⟨⟨_, rfl, by rw [← HS.out, ← HD.out]; exact ho⟩, HGR.out⟩
end Go.Proofs.YtmfadfkjnfdngaaGreatDoor
set_option linter.unusedVariables false
set_option linter.unusedSimpArgs false
namespace Go.Proofs.YtmfadfkjnfdngaaGreatDoor
open Go.RowKit QM
theorem rd_take {w wr : World} {ox : Option Addr} {n cx : Nat} {lx : List Nat} (hx : RN w (.slice ox n cx) (lx.take n)) (hE : Ext w wr) {i : Nat} (hi : i < n) :
    ∃ b o, ox = some ⟨b, o, none⟩ ∧ wr.cell? ⟨b, o + i, none⟩ = some (.int .u64 ((gd lx i : Nat) : Int)) := by
  have hl := hx.len
  obtain ⟨oa', cap', hv, h1, h2, h3, h4, h5⟩ := hx
  simp only [Value.slice.injEq] at hv
  obtain ⟨rfl, e2, rfl⟩ := hv
  obtain ⟨b, o, e, c⟩ := h5 i (by omega)
  rw [gd_take hi] at c
  exact ⟨b, o, e, hE.cell c⟩
def SubInv (la lb : List Nat) (k : Nat) (r : List Nat) (c : Nat) : Prop := SubInvB WB la lb k r c
theorem SubInv.start (la lb : List Nat) : SubInv la lb 0 [] 0 := SubInvB.start _ _ _
theorem SubInv.step {la lb : List Nat} {k c : Nat} {r : List Nat} (h : SubInv la lb k r c) (ha : Sm WB la) (hb : Sm WB lb) :
    SubInv la lb (k + 1) (r ++ [sb64 (gd la k) (gd lb k) c]) (bw64 (gd la k) (gd lb k) c) := by
  have hs := sb64_spec (gd_lt ha k) (gd_lt hb k) h.2.2.1
  exact SubInvB.step h hs.2.1 hs.2.2 hs.1
theorem SubInv.done {la lb : List Nat} {n c : Nat} {r : List Nat} (h : SubInv la lb n r c) (ha : nval WB (la.take n) = nval WB la) (hb : nval WB (lb.take n) = nval WB lb) (hle : nval WB lb ≤ nval WB la) :
    nval WB r = nval WB la - nval WB lb := SubInvB.done h ha hb hle
theorem tlen_mono {la lb : List Nat} (hb : Sm WB lb) (h : nval WB la ≤ nval WB lb) : tlen la ≤ tlen lb := by
  rcases Nat.lt_or_ge (tlen lb) (tlen la) with h1 | h1
  · have := cmp_len_lt hb h1; omega
  · exact h1
theorem Sub_less {w : World} {va vb : Value} {la lb : List Nat} (ha : RN w va la) (hb : RN w vb lb) (hna : la.length ≤ 1099511627775) (hnb : lb.length ≤ 1099511627775) (hlt : nval WB la < nval WB lb) :
    Calls Tryz.prog 73 #[va, vb] w fun e w' => e = .returned (.tuple #[.slice none 0 0, .bool false]) ∧ Ext w w' := by
  have hc := Cmp_any ha hb (by omega) (by omega)
  rw [cmpI_lt hlt] at hc
  have HC := hid hc
  clear ha hb hc hlt hna hnb
  go_enter Tryz.func73, Tryz.ntmps73
  go_wp2_with fail
  refine HC.out.mono ?_
  rintro e w1 ⟨rfl, hx⟩
  go_wp2
  go_ret2
  exact ⟨rfl, hx⟩
set_option maxRecDepth 100000 in
set_option maxHeartbeats 1000000 in
theorem Sub_ge {w : World} {va vb : Value} {la lb : List Nat} (ha : RN w va la) (hb : RN w vb lb) (hna : la.length ≤ 1099511627775) (hnb : lb.length ≤ 1099511627775) (hle : nval WB lb ≤ nval WB la) :
    Calls Tryz.prog 73 #[va, vb] w fun e w' => (∃ v, e = .returned (.tuple #[v, .bool true]) ∧ ON w.heap.size w' v (nval WB la - nval WB lb)) ∧ Ext w w' := by
  have HC := hid (Cmp_any ha hb (by omega) (by omega))
  have hcge : ¬ cmpI (nval WB la) (nval WB lb) < 0 := by unfold cmpI; rw [if_neg (by omega)]; split <;> omega
  obtain ⟨oa, ca, rfl, _⟩ := id ha
  obtain ⟨ob, cb, rfl, _⟩ := id hb
  have htl := tlen_mono ha.sm hle
  have ka := tlen_le la
  have kb := tlen_le lb
  have sa := hid ha.sm
  have sb := hid hb.sm
  have HLE := hid hle
  have HA := hid ha
  have HB := hid hb
  obtain ⟨i0, hi, hz0, hz1, hz2⟩ := info_parts infoU64
  clear ha hb hle
  go_enter Tryz.func73, Tryz.ntmps73
  go_wp2_with fail
  refine HC.out.mono ?_
  rintro e w1 ⟨rfl, hE1⟩
  have ha1 := HA.out.ext hE1
  have hb1 := HB.out.ext hE1
  have CA := hid (trim_any ha1 (by omega))
  have CB := hid (trim_any hb1 (by omega))
  have hx := ha1.take ka
  have hy := hb1.take kb
  clear ha1 hb1
  go_wp2_with fail
  refine CA.out.mono ?_
  rintro e w' ⟨rfl, rfl⟩
  go_wp2_with fail
  refine CB.out.mono ?_
  rintro e w' ⟨rfl, rfl⟩
  have hbytes : i0.bytes * (tlen la) ≤ 281474976710656 := by rw [hz2]; omega
  go_wp2_with (at_make; refine wpList_make_full _ rfl (.tmp 19) (.tmp 19) 28 rfl w.heap.size 56 i0 (.int .u64 0) 1 Tryz.underlying28 hi hz0 hz1 .i64 .i64 _ _ (tlen la) rfl rfl (by omega) (by omega) hbytes (by unfold maxLen; omega) hE1.size ?_; intro w2 hown hgrow)
  obtain ⟨g, hg⟩ : ∃ g, g = w1.heap.size := ⟨_, rfl⟩
  have hgw : w.heap.size ≤ g := by have := hE1.size; omega
  have hA : Arr w.heap.size w2 g (List.replicate (tlen la) 0) := by
    rw [wv_zeros] at hown; unfold Arr; rw [List.length_replicate, hg]; exact hown
  have hE : Ext w1 w2 := Below.grown (Below.refl _ _) hgrow (Nat.le_refl _) (fun k hk => by cases hk)
  have hE2 := hE1.trans hE
  rw [← hg]
  have HG := hid hg
  clear hown hgrow hg
  go_loopw [7, 23] (fun c k wr => ∃ (i : Nat) (r : List Nat) (cy : Nat), i ≤ tlen la ∧ k = .int .i64 i ∧ c = .int .u64 cy ∧ SubInv la lb i r cy ∧ Arr w.heap.size wr g (r ++ List.replicate (tlen la - i) 0) ∧ Ext w1 wr) (fun _ k _ => tlen la - (intOf k).toNat)
  case atStart => exact ⟨0, [], 0, by omega, rfl, rfl, SubInv.start _ _, hA, hE⟩
  case round =>
    obtain ⟨i, r, cc, hi', rfl, rfl, hinv, hAr, hEr⟩ := hrel
    have hlen : (r ++ List.replicate (tlen la - i) 0).length = tlen la := by have := hinv.1; simp; omega
    have hcy := hinv.2.2.1
    by_cases hilt : i < tlen la
    · obtain ⟨bx, ofx, rfl, hcx⟩ := rd_take hx hEr hilt
      have hout := hAr.cell (i := i) (by omega)
      have hfz := hAr.frozen i
      have hst := hAr.store i (sb64 (gd la i) (gd lb i) cc)
      have hnew : (r ++ List.replicate (tlen la - i) 0).set i (sb64 (gd la i) (gd lb i) cc) = (r ++ [sb64 (gd la i) (gd lb i) cc]) ++ List.replicate (tlen la - (i + 1)) 0 := by
        have e1 : tlen la - i = (tlen la - (i + 1)) + 1 := by omega
        rw [e1, ← hinv.1]; exact set_fill
      rw [hnew] at hst
      have hstep := hinv.step sa.out sb.out
      have hgr : Ext w1 (wr.setCell ⟨g, i, none⟩ (.int .u64 ((sb64 (gd la i) (gd lb i) cc : Nat) : Int))) := Below.setCell hEr (by have := HG.out; simp; omega) _
      have HST := hid hst
      have HSTEP := hid hstep
      have HGR := hid hgr
      clear hst hstep hgr hnew hlen hinv hAr
      by_cases hily : i < tlen lb
      · obtain ⟨by', ofy, rfl, hcyy⟩ := rd_take hy hEr hily
        have hadd := Sub64_run (gd la i) (gd lb i) cc hcy
        clear hx hy hEr
        go_wp2
        go_roundw
        case rel => exact ⟨i + 1, _, _, by omega, by go_num, rfl, HSTEP.out, HST.out, HGR.out⟩
        case measure => simp [intOf]; omega
      · have hadd := Sub64_run0 (gd la i) (gd lb i) cc hcy (tlen_zero (by omega))
        clear hx hy hEr
        go_wp2
        go_roundw
        case rel => exact ⟨i + 1, _, _, by omega, by go_num, rfl, HSTEP.out, HST.out, HGR.out⟩
        case measure => simp [intOf]; omega
    · have hin : i = tlen la := by omega
      subst hin
      have hdone := hinv.done (nval_tlen la) (nval_take_of_zeros fun j hj => tlen_zero (by omega)) HLE.out
      have hnew : r ++ List.replicate (tlen la - tlen la) 0 = r := by simp
      rw [hnew] at hAr
      have hno := normal_own hAr.own hinv.2.1 (by have := hinv.1; omega)
      rw [hinv.1] at hno
      have HNO := hid hno
      have HD := hid hdone
      have HGR := hid (hE1.trans hEr)
      clear hdone hnew hlen hinv hAr hno hx hy hEr
      go_wp2_with fail
      refine HNO.out.mono ?_
      rintro e w' ⟨⟨v, rfl, ho⟩, rfl⟩
      go_wp2
      go_ret2
      exact ⟨⟨_, rfl, by rw [← HD.out]; exact ho⟩, HGR.out⟩
end Go.Proofs.YtmfadfkjnfdngaaGreatDoor
set_option linter.unusedVariables false
set_option linter.unusedSimpArgs false
namespace Go.Proofs.YtmfadfkjnfdngaaGreatDoor
open Go.RowKit QM

theorem rd_apart {w wr : World} {oa : Option Addr} {n ca g : Nat} {la : List Nat} (ha : RN w (.slice oa n ca) la) (hE : w.grownBy wr (some g)) (hg : ∀ b o, oa = some ⟨b, o, none⟩ → b ≠ g) {i : Nat} (hi : i < n) :
    ∃ b o, oa = some ⟨b, o, none⟩ ∧ wr.cell? ⟨b, o + i, none⟩ = some (.int .u64 ((gd la i : Nat) : Int)) ∧ b ≠ g := by
  have hl := ha.len
  obtain ⟨oa', cap', hv, h1, h2, h3, h4, h5⟩ := ha
  simp only [Value.slice.injEq] at hv
  obtain ⟨rfl, e2, rfl⟩ := hv
  obtain ⟨b, o, e, c⟩ := h5 i (by omega)
  exact ⟨b, o, e, hE.cell c (by simpa using hg b o e), hg b o e⟩
theorem grown_trans {a b c : World} {row : Option Nat} (h : a.grownBy b row) (k : b.grownBy c row) : a.grownBy c row :=
  ⟨k.os.trans h.os, k.tape.trans h.tape, k.output.trans h.output, Nat.le_trans h.size k.size, fun i hi hr => (k.block i (Nat.lt_of_lt_of_le hi h.size) hr).trans (h.block i hi hr)⟩
theorem grown_set (w : World) (g i : Nat) (v : Value) : w.grownBy (w.setCell ⟨g, i, none⟩ v) (some g) :=
  ⟨rfl, rfl, rfl, by simp [World.setCell], fun k _ hk => Below.heap_setCell _ _ _ _ (by intro e; exact hk (by rw [e]))⟩
set_option maxRecDepth 100000 in
set_option maxHeartbeats 1000000 in
theorem row_any {base g o x ca : Nat} {w : World} {L la : List Nat} {oa : Option Addr} (hA : Arr base w g L) (ha : RN w (.slice oa la.length ca) la) (hg : 0 < la.length → ∀ b o, oa = some ⟨b, o, none⟩ → b ≠ g)
    (hx : x < WB) (hL : Sm WB L) (ho : o + la.length < L.length) (hn : L.length ≤ 4398046511104) (h0 : gd L (o + la.length) = 0) :
    Calls Tryz.prog 94 #[.slice (some ⟨g, o, none⟩) (L.length - o) (L.length - o), .slice oa la.length ca, .int .u64 (x : Int)] w fun e w' => e = .returned (.tuple #[]) ∧
      (∃ r, r.length = la.length + 1 ∧ Arr base w' g (patch L o r) ∧ Sm WB (patch L o r) ∧ nval WB (patch L o r) = nval WB L + WB ^ o * (x * nval WB la)) ∧ w.grownBy w' (some g) := by
  have hsa := hid ha.sm
  generalize hN : L.length = N at ho hn ⊢
  generalize hnn : la.length = n at ha ho h0 hg ⊢
  have HN := hid hN
  have HNN := hid hnn
  have HX := hid hx
  have HL := hid hL
  have H0 := hid h0
  clear hN hnn hx hL h0
  go_enter Tryz.func94, Tryz.ntmps94
  go_wp2_with fail
  go_loopw [6, 14] (fun c k wr => ∃ (i : Nat) (r : List Nat) (cy : Nat), i ≤ n ∧ k = .int .i64 i ∧ c = .int .u64 cy ∧ MacInvB WB (L.drop o) la x i r cy ∧ Arr base wr g (patch L o r) ∧ w.grownBy wr (some g)) (fun _ k _ => n - (intOf k).toNat)
  case atStart => exact ⟨0, [], 0, by omega, rfl, rfl, MacInvB.start WB_pos _ _ _, by rw [patch_nil]; exact hA, World.grownBy.refl _ _⟩
  case round =>
    obtain ⟨i, r, cc, hi', rfl, rfl, hinv, hAr, hEr⟩ := hrel
    have hcc := hinv.2.2.1
    have hrl := hinv.1
    have hlen : (patch L o r).length = N := by rw [patch_length (by have := HN.out; omega)]; exact HN.out
    by_cases hilt : i < n
    · obtain ⟨bx, ofx, rfl, hcx, hbg⟩ := rd_apart ha hEr (hg (by omega)) hilt
      have hout := hAr.cell (i := o + i) (by omega)
      rw [patch_gd (by have := HN.out; omega) (by omega)] at hout
      have hfz := hAr.frozen (o + i)
      have hyl := gd_lt hsa.out i
      have hgl := gd_lt HL.out (o + i)
      have hm := mac64 HX.out hyl hgl hcc
      have hM := Mul64_any x (gd la i) HX.out hyl
      have hst := hAr.store (o + i) (lo64 (lo64 (lo64 (x * gd la i) + gd L (o + i)) + cc))
      rw [← hrl, patch_set (by have := HN.out; omega), hrl] at hst
      have hstep := hinv.step (lo64_lt _) hm.1 (by rw [gd_drop']; exact hm.2)
      have hgr := grown_trans hEr (grown_set wr g (o + i) (.int .u64 ((lo64 (lo64 (lo64 (x * gd la i) + gd L (o + i)) + cc) : Nat) : Int)))
      have hb : hi64 (x * gd la i) + hi64 (lo64 (x * gd la i) + gd L (o + i)) + hi64 (lo64 (lo64 (x * gd la i) + gd L (o + i)) + cc) ≤ 18446744073709551615 := by have := hm.1; rw [WB_eq] at this; omega
      have ha1 := Add64_runc (lo64 (x * gd la i)) (gd L (o + i))
      have ha2 := Add64_runc (lo64 (lo64 (x * gd la i) + gd L (o + i))) cc
      have HM := hid hM
      have HST := hid hst
      have HSTEP := hid hstep
      have HGR := hid hgr
      clear hM hst hstep hgr hm hyl hgl hlen hAr hinv hrl hEr hA ha hg hcc
      go_wp2_with fail
      refine (HM.out _).mono ?_
      rintro e w' ⟨rfl, rfl⟩
      go_wp2
      go_roundw
      case rel => exact ⟨i + 1, _, _, by omega, by go_num, by go_num, HSTEP.out, HST.out, HGR.out⟩
      case measure => simp [intOf]; omega
    · have hin : i = n := by omega
      subst hin
      have hout := hAr.cell (i := o + i) (by omega)
      rw [patch_gd (by have := HN.out; omega) (by omega), H0.out] at hout
      have hfz := hAr.frozen (o + i)
      have hd := mac_done WB_one HL.out (Nat.le_of_eq HNN.out) (by have := HN.out; omega) H0.out hinv
      have hst := hAr.store (o + i) cc
      rw [← hrl, patch_set (by have := HN.out; omega), hrl] at hst
      have hgr := grown_trans hEr (grown_set wr g (o + i) (.int .u64 (cc : Int)))
      have hrl2 : (r ++ [cc]).length = i + 1 := by simp [hrl]
      have HST := hid hst
      have HD := hid hd
      have HGR := hid hgr
      have HR := hid hrl2
      clear hst hd hgr hlen hAr hinv hrl hrl2 hEr hA ha hg hcc
      go_wp2
      go_end0
      exact ⟨rfl, ⟨r ++ [cc], HR.out, HST.out, HD.out.1, HD.out.2⟩, HGR.out⟩
theorem mul_step {b q u a y p : Nat} : a * u + p * (y * a) = a * (u + p * y) := by grind
theorem mul_step' {B : Nat} {la lb L : List Nat} {i : Nat} (h : nval B L = nval B la * nval B (lb.take i)) : nval B L + B ^ i * (gd lb i * nval B la) = nval B la * nval B (lb.take (i + 1)) := by
  rw [nval_take_gd, h]; exact mul_step (b := 0) (q := 0)
set_option maxRecDepth 100000 in
set_option maxHeartbeats 1000000 in
theorem nMul_any {w : World} {va vb : Value} {la lb : List Nat} (ha : RN w va la) (hb : RN w vb lb) (hna : la.length ≤ 1099511627775) (hnb : lb.length ≤ 1099511627775) :
    Calls Tryz.prog 65 #[va, vb] w fun e w' => (∃ v, e = .returned v ∧ ON w.heap.size w' v (nval WB la * nval WB lb)) ∧ Ext w w' := by
  obtain ⟨oa, ca, rfl, _⟩ := id ha
  obtain ⟨ob, cb, rfl, _⟩ := id hb
  have ka := tlen_le la
  have kb := tlen_le lb
  have CA := hid (trim_any ha (by omega))
  have CB := hid (trim_any hb (by omega))
  have hx := ha.take ka
  have hy := hb.take kb
  have hxl : (la.take (tlen la)).length = tlen la := by rw [List.length_take]; omega
  have hax : ∀ b o, oa = some ⟨b, o, none⟩ → 0 < tlen la → b < w.heap.size := by
    intro b o e h0
    obtain ⟨b', o', e', hc⟩ := rd_take hx (Ext.refl w) h0
    have := World.block_lt_of_cell? w _ hc
    simp only at this
    rw [e'] at e
    simp only [Option.some.injEq, Addr.mk.injEq] at e
    omega
  have HAX := hid hax
  have HXL := hid hxl
  have sb := hid hb.sm
  obtain ⟨i0, hi, hz0, hz1, hz2⟩ := info_parts infoU64
  clear ha hb hax hxl
  go_enter Tryz.func65, Tryz.ntmps65
  go_wp2_with fail
  refine CA.out.mono ?_
  rintro e w' ⟨rfl, rfl⟩
  go_wp2_with fail
  refine CB.out.mono ?_
  rintro e w' ⟨rfl, rfl⟩
  generalize hN : tlen la + tlen lb + 1 = N
  have hbytes : i0.bytes * N ≤ 281474976710656 := by rw [hz2]; omega
  have HNN := hid hN
  have hN1 : N ≤ 2199023255551 := by omega
  have hNi : ((tlen la : Int) + (tlen lb : Int) + 1) = (N : Int) := by omega
  have HNI := hid hNi
  clear hN hNi
  go_wp2_with (at_make; refine wpList_make_full _ rfl (.tmp 17) (.tmp 17) 28 rfl w.heap.size 56 i0 (.int .u64 0) 1 Tryz.underlying28 hi hz0 hz1 .i64 .i64 _ _ N rfl rfl HNI.out HNI.out hbytes (by unfold maxLen; omega) (Nat.le_refl _) ?_; intro w1 hown hgrow)
  have hA : Arr w.heap.size w1 w.heap.size (List.replicate N 0) := by
    rw [wv_zeros] at hown; unfold Arr; rw [List.length_replicate]; exact hown
  have hE : Ext w w1 := Below.grown (Below.refl _ _) hgrow (Nat.le_refl _) (fun k hk => by cases hk)
  clear hown hgrow
  go_loopw [21] (fun k wr => ∃ (i : Nat) (L : List Nat), i ≤ tlen lb ∧ k = .int .i64 i ∧ L.length = N ∧ Sm WB L ∧ nval WB L = nval WB (la.take (tlen la)) * nval WB (lb.take i) ∧ (∀ j, tlen la + i ≤ j → gd L j = 0) ∧ Arr w.heap.size wr w.heap.size L ∧ Ext w wr) (fun k _ => tlen lb - (intOf k).toNat)
  case atStart => exact ⟨0, List.replicate N 0, by omega, rfl, by simp, Sm.replicate WB_pos _, by rw [nval_replicate]; simp [nval], fun j _ => by simp [gd, List.getD_eq_getElem?_getD, List.getElem?_replicate]; split <;> rfl, hA, hE⟩
  case round =>
    obtain ⟨i, L, hi', rfl, hLl, hLs, hLv, hLz, hAr, hEr⟩ := hrel
    by_cases hilt : i < tlen lb
    · obtain ⟨by', ofy, rfl, hcy⟩ := rd_take hy hEr hilt
      have hrx : RN wr (.slice oa (la.take (tlen la)).length ca) (la.take (tlen la)) := by rw [HXL.out]; exact hx.ext hEr
      have hrow := row_any (o := i) (x := gd lb i) hAr hrx ?ap (gd_lt sb.out i) hLs (by rw [HXL.out, hLl]; have := HNN.out; omega) (by omega) (hLz _ (by rw [HXL.out]; omega))
      case ap => intro h0 b o e; have := HAX.out b o e (by rw [HXL.out] at h0; exact h0); omega
      have HR := hid hrow
      rw [HXL.out, hLl] at HR
      have HLV := hid hLv
      have HLZ := hid hLz
      have HLL := hid hLl
      have hlim : i + (tlen la + 1) ≤ N := by have := HNN.out; omega
      clear hrow hLv hLz hLs hLl hAr hrx hx hy
      go_wp2_with fail
      refine HR.out.mono ?_
      rintro e w2 ⟨rfl, ⟨r, hr1, hr2, hr3, hr4⟩, hr5⟩
      have h1 := hid hr1
      have h2 := hid hr2
      have h3 := hid hr3
      have h4 := hid hr4
      have h5 : Ext w w2 := Below.grown hEr hr5 hEr.size (by intro k hk; cases hk; exact Nat.le_refl _)
      clear hr1 hr2 hr3 hr4 hr5
      go_wp2
      go_roundw
      case rel => exact ⟨i + 1, _, by omega, by go_num, by rw [patch_length (by rw [HLL.out, h1.out]; exact hlim)]; exact HLL.out, h3.out, by rw [h4.out]; exact mul_step' HLV.out, fun j hj => by rw [patch_gd (by rw [HLL.out]; omega) (by rw [h1.out]; omega)]; exact HLZ.out j (by omega), h2.out, h5⟩
      case measure => simp [intOf]; omega
    · have hin : i = tlen lb := by omega
      subst hin
      have hno := normal_own hAr.own hLs (by omega)
      rw [hLl] at hno
      rw [nval_tlen, nval_tlen] at hLv
      have HNO := hid hno
      have HLV := hid hLv
      clear hno hLv hLz hLs hLl hAr hx hy
      go_wp2_with fail
      refine HNO.out.mono ?_
      rintro e w' ⟨⟨v, rfl, ho⟩, rfl⟩
      go_wp2
      go_ret
      exact ⟨⟨_, rfl, by rw [← HLV.out]; exact ho⟩, hEr⟩
end Go.Proofs.YtmfadfkjnfdngaaGreatDoor
set_option linter.unusedVariables false
set_option linter.unusedSimpArgs false
namespace Go.Proofs.YtmfadfkjnfdngaaGreatDoor
open Go.RowKit QM
theorem shl_z {x b c : Nat} (hx : x < WB) (hc : c < 2 ^ b) (hb : b < 64) :
    bits BinOp.or IntKind.u64 (c : Int) (IntKind.u64.wrap ((x : Int) * 2 ^ b)) = ((c ||| (x * 2 ^ b % 2 ^ 64) : Nat) : Int) := by
  have e1 : ((x : Int) * 2 ^ b) = ((x * 2 ^ b : Nat) : Int) := by rw [Int.natCast_mul, Int.natCast_pow]; rfl
  have hc64 : c < 2 ^ 64 := Nat.lt_of_lt_of_le hc (Nat.pow_le_pow_right (by omega) (by omega))
  rw [e1, bt_wrapM]
  exact bits_or_u64_nat _ _ hc64 (Nat.mod_lt _ (Nat.two_pow_pos 64))
theorem div_z (x k : Nat) : ((x : Int) / 2 ^ k) = ((x / 2 ^ k : Nat) : Int) := by
  rw [Int.natCast_ediv, Int.natCast_pow]; rfl
theorem WB_pow : WB = 2 ^ 64 := by decide
theorem shl_w {x c b : Nat} (hx : x < WB) (hc : c < 2 ^ b) (hb : b < 64) :
    (c ||| (x * 2 ^ b % 2 ^ 64)) < WB ∧ x / 2 ^ (64 - b) < 2 ^ b ∧ (c ||| (x * 2 ^ b % 2 ^ 64)) + WB * (x / 2 ^ (64 - b)) = c + 2 ^ b * x := by
  rw [WB_pow] at *; exact shl_word hx hc hb
set_option maxRecDepth 100000 in
set_option maxHeartbeats 1000000 in
theorem Shl_any {w : World} {va : Value} {la : List Nat} {n q b : Nat} (ha : RN w va la) (hna : la.length ≤ 1099511627775) (hn : n ≤ 1048576) (hnq : n / 64 = q) (hnb : n % 64 = b) :
    Calls Tryz.prog 100 #[va, .int .i64 (n : Int)] w fun e w' => (∃ v, e = .returned (.tuple #[v, .bool true]) ∧ ON w.heap.size w' v (nval WB la * 2 ^ n)) ∧ Ext w w' := by
  obtain ⟨oa, ca, rfl, _⟩ := id ha
  have ka := tlen_le la
  have CA := hid (trim_any ha (by omega))
  have hx := ha.take ka
  have hq : (n : Int) / 64 = (q : Int) := by omega
  have hr : (n : Int) % 64 = (b : Int) := by omega
  have hb64 : b < 64 := by omega
  have hqn : q ≤ 16384 := by omega
  obtain ⟨i0, hi, hz0, hz1, hz2⟩ := info_parts infoU64
  have sa := hid ha.sm
  have HNQ := hid hnq
  have HNB := hid hnb
  clear ha hnq hnb
  go_enter Tryz.func100, Tryz.ntmps100
  go_wp2_with fail
  refine CA.out.mono ?_
  rintro e w' ⟨rfl, rfl⟩
  generalize hN : tlen la + q + 1 = N
  have hbytes : i0.bytes * N ≤ 281474976710656 := by rw [hz2]; omega
  have hN1 : N ≤ 2199023255551 := by omega
  have hNle : tlen la + q + 1 ≤ N := by omega
  have hNi : ((tlen la : Int) + (q : Int) + 1) = (N : Int) := by omega
  have HNN := hid hN
  have HNI := hid hNi
  clear hN hNi
  go_wp2_with (at_make; refine wpList_make_full _ rfl (.tmp 28) (.tmp 28) 28 rfl w.heap.size 56 i0 (.int .u64 0) 1 Tryz.underlying28 hi hz0 hz1 .i64 .i64 _ _ N rfl rfl HNI.out HNI.out hbytes (by unfold maxLen; omega) (Nat.le_refl _) ?_; intro w1 hown hgrow)
  have hA : Arr w.heap.size w1 w.heap.size (List.replicate N 0) := by
    rw [wv_zeros] at hown; unfold Arr; rw [List.length_replicate]; exact hown
  have hE : Ext w w1 := Below.grown (Below.refl _ _) hgrow (Nat.le_refl _) (fun k hk => by cases hk)
  clear hown hgrow
  go_loopw [32] (fun k wr => ∃ (i : Nat) (r : List Nat) (c : Nat), i ≤ tlen la ∧ k = .int .i64 i ∧ MacInvB WB [] la (2 ^ b) i r c ∧ c < 2 ^ b ∧ Arr w.heap.size wr w.heap.size (patch (List.replicate N 0) q (r ++ [c])) ∧ Ext w wr) (fun k _ => tlen la - (intOf k).toNat)
  case atStart => exact ⟨0, [], 0, by omega, rfl, MacInvB.start WB_pos _ _ _, Nat.two_pow_pos _, by rw [List.nil_append, patch_zeros (by have := HNN.out; omega)]; exact hA, hE⟩
  case round =>
    obtain ⟨i, r, cc, hi', rfl, hinv, hcb, hAr, hEr⟩ := hrel
    have hrl := hinv.1
    have hlen : (patch (List.replicate N 0) q (r ++ [cc])).length = N := by rw [patch_length (by simp; have := HNN.out; omega)]; simp
    by_cases hilt : i < tlen la
    · obtain ⟨bx, ofx, rfl, hcx⟩ := rd_take hx hEr hilt
      have hout := hAr.cell (i := q + i) (by have := HNN.out; omega)
      have hfz := hAr.frozen (q + i)
      have hout2 := hAr.cell (i := q + i + 1) (by have := HNN.out; omega)
      have hfz2 := hAr.frozen (q + i + 1)
      have hcell : gd (patch (List.replicate N 0) q (r ++ [cc])) (q + i) = cc := by
        rw [patch_append (by simp; have := HNN.out; omega) (by omega) (by simp; omega), hrl, Nat.sub_self]; rfl
      rw [hcell] at hout
      have hsh := shl_w (gd_lt sa.out i) hcb hb64
      have hZ := hid (shl_z (gd_lt sa.out i) hcb hb64)
      have hstep := hinv.step hsh.1 (Nat.lt_of_lt_of_le hsh.2.1 (by rw [WB_pow]; exact Nat.pow_le_pow_right (by omega) (by omega))) (by rw [hsh.2.2]; simp [gd]; omega)
      have hst := hAr.store (q + i) (cc ||| (gd la i * 2 ^ b % 2 ^ 64))
      rw [← hrl, patch_set_in (by simp; have := HNN.out; omega), hrl] at hst
      have hst2 := hst.store (q + i + 1) (gd la i / 2 ^ (64 - b))
      have e2 : q + i + 1 = q + (r ++ [cc ||| (gd la i * 2 ^ b % 2 ^ 64)]).length := by simp [hrl]; omega
      have hl2 : q + (r ++ [cc ||| (gd la i * 2 ^ b % 2 ^ 64)]).length < (List.replicate N 0).length := by simp [hrl]; have := HNN.out; omega
      rw [show (patch (List.replicate N 0) q (r ++ [cc ||| gd la i * 2 ^ b % 2 ^ 64])).set (q + i + 1) (gd la i / 2 ^ (64 - b)) = patch (List.replicate N 0) q ((r ++ [cc ||| (gd la i * 2 ^ b % 2 ^ 64)]) ++ [gd la i / 2 ^ (64 - b)]) from by rw [e2]; exact patch_set hl2] at hst2
      have HSH := hid hsh
      have HSTEP := hid hstep
      have HST := hid hst
      have HST2 := hid hst2
      have HRL := hid hrl
      clear hcell hlen hAr hinv hsh hstep hst hst2 e2 hl2 hrl
      by_cases hb0 : b = 0
      · have hbp : b ≤ 0 := by omega
        have hhi : gd la i / 2 ^ (64 - b) = 0 := by have := HSH.out.2.1; rw [hb0] at this ⊢; omega
        have HHI := hid hhi
        clear hb0 hhi
        go_wp2
        go_roundw
        case rel =>
          rw [hZ.out]
          refine ⟨i + 1, _, _, by omega, by go_num, HSTEP.out, HSH.out.2.1, ?_, ?_⟩
          · rw [HHI.out, patch_pad (by simp [HRL.out]; have := HNN.out; omega) (gd_replicate _ _)]; exact HST.out
          · exact Below.setCell hEr (Nat.le_refl _) _
        case measure => simp [intOf]; omega
      · have hbp : 0 < b := by omega
        go_wp2
        go_roundw
        case rel =>
          rw [hZ.out, div_z]
          refine ⟨i + 1, _, _, by omega, by go_num, HSTEP.out, HSH.out.2.1, HST2.out, ?_⟩
          exact Below.setCell (Below.setCell hEr (Nat.le_refl _) _) (Nat.le_refl _) _
        case measure => simp [intOf]; omega
    · have hin : i = tlen la := by omega
      subst hin
      have hno := normal_own hAr.own (patch_sm (Sm.replicate WB_pos _) (hinv.2.1.append (Sm.nil.cons hinv.2.2.1))) (by rw [hlen]; omega)
      rw [hlen] at hno
      have hv : nval WB (patch (List.replicate N 0) q (r ++ [cc])) = nval WB la * 2 ^ n := by
        rw [patch_zeros_val (by have := HNN.out; omega), nval_snoc, hrl]
        have := hinv.2.2.2
        rw [this, nval_tlen]
        have e3 : 2 ^ n = WB ^ q * 2 ^ b := by rw [WB_pow, ← Nat.pow_mul, ← Nat.pow_add]; congr 1; have := HNQ.out; have := HNB.out; omega
        rw [e3]; simp only [List.take_nil, nval, Nat.zero_add]; rw [Nat.mul_comm (nval WB la), Nat.mul_assoc]
      have HNO := hid hno
      have HLV := hid hv
      clear hno hv hlen hAr hinv hrl hx
      go_wp2_with fail
      refine HNO.out.mono ?_
      rintro e w' ⟨⟨v, rfl, ho⟩, rfl⟩
      go_wp2
      go_ret2
      exact ⟨⟨_, rfl, by rw [← HLV.out]; exact ho⟩, hEr⟩
end Go.Proofs.YtmfadfkjnfdngaaGreatDoor
set_option linter.unusedVariables false
set_option linter.unusedSimpArgs false
namespace Go.Proofs.YtmfadfkjnfdngaaGreatDoor
open Go.RowKit QM
theorem shr_z {x y b : Nat} (hx : x < WB) (hb : 0 < b) (hb2 : b < 64) :
    bits BinOp.or IntKind.u64 ((x : Int) / 2 ^ b) (IntKind.u64.wrap ((y : Int) * 2 ^ (64 - b))) = ((x / 2 ^ b + 2 ^ (64 - b) * (y % 2 ^ b) : Nat) : Int) := by
  have e1 : ((y : Int) * 2 ^ (64 - b)) = ((y * 2 ^ (64 - b) : Nat) : Int) := by rw [Int.natCast_mul, Int.natCast_pow]; rfl
  rw [e1, bt_wrapM, div_z]
  have hx' : x < 2 ^ 64 := by rw [WB_pow] at hx; exact hx
  have hd : x / 2 ^ b < 2 ^ 64 := Nat.lt_of_le_of_lt (Nat.div_le_self _ _) hx'
  have := bits_or_u64_nat (x / 2 ^ b) (y * 2 ^ (64 - b) % 2 ^ 64) hd (Nat.mod_lt _ (Nat.two_pow_pos 64))
  rw [shr_word hx' hb hb2] at this
  exact this
theorem Shr_small {w : World} {va : Value} {la : List Nat} {n q b : Nat} (ha : RN w va la) (hna : la.length ≤ 1099511627775) (hn : n ≤ 9223372036854775807) (hnq : n / 64 = q) (hnb : n % 64 = b) (hq0 : tlen la ≤ q) :
    Calls Tryz.prog 102 #[va, .int .i64 (n : Int)] w fun e w' => e = .returned (.tuple #[.slice none 0 0, .bool true]) ∧ w = w' := by
  obtain ⟨oa, ca, rfl, _⟩ := id ha
  have CA := hid (trim_any ha (by omega))
  have hq : (n : Int) / 64 = (q : Int) := by omega
  have hr : (n : Int) % 64 = (b : Int) := by omega
  have hb64 : b < 64 := by omega
  clear ha hnq hnb
  go_enter Tryz.func102, Tryz.ntmps102
  go_wp2_with fail
  refine CA.out.mono ?_
  rintro e w' ⟨rfl, rfl⟩
  go_wp2
  go_ret2
  exact ⟨rfl, rfl⟩
set_option maxRecDepth 100000 in
set_option maxHeartbeats 1000000 in
theorem Shr_big {w : World} {va : Value} {la : List Nat} {n q b : Nat} (ha : RN w va la) (hna : la.length ≤ 1099511627775) (hn : n ≤ 9223372036854775807) (hnq : n / 64 = q) (hnb : n % 64 = b) (hq0 : q < tlen la) :
    Calls Tryz.prog 102 #[va, .int .i64 (n : Int)] w fun e w' => (∃ v, e = .returned (.tuple #[v, .bool true]) ∧ ON w.heap.size w' v (nval WB la / 2 ^ n)) ∧ Ext w w' := by
  have ka := tlen_le la
  rcases ha.shape with ⟨rfl, _⟩ | ⟨bx, ox, ca, rfl, a0, a1, a2, a3⟩
  · exact absurd hq0 (by simp [tlen])
  have CA := hid (trim_any ha (by omega))
  have sa := hid ha.sm
  have hq : (n : Int) / 64 = (q : Int) := by omega
  have hr : (n : Int) % 64 = (b : Int) := by omega
  have hb64 : b < 64 := by omega
  obtain ⟨D, hD⟩ : ∃ D, D = (la.take (tlen la)).drop q := ⟨_, rfl⟩
  obtain ⟨m, hm⟩ : ∃ m, m = tlen la - q := ⟨_, rfl⟩
  have hDl : D.length = m := by rw [hD, List.length_drop, List.length_take]; omega
  have hDs : Sm WB D := by rw [hD]; exact (ha.sm.take _).drop _
  have hDc : ∀ i, i < m → w.cell? ⟨bx, ox + q + i, none⟩ = some (.int .u64 ((gd D i : Nat) : Int)) := by
    intro i hi
    have := a3 (q + i) (by omega)
    rw [← Nat.add_assoc] at this
    rw [this, hD, gd_drop', gd_take (by omega)]
  have hDv : nval WB D / 2 ^ b = nval WB la / 2 ^ n := by
    rw [hD, nval_drop_div _ _ WB_pos (ha.sm.take _), nval_tlen, Nat.div_div_eq_div_mul]
    congr 1
    rw [WB_pow, ← Nat.pow_mul, ← Nat.pow_add]; congr 1; omega
  have hmi : ((tlen la : Int) - (q : Int)) = (m : Int) := by omega
  have hmn : tlen la - q = m := hm.symm
  have hm1 : m ≤ 1099511627775 := by omega
  have hm0 : 0 < m := by omega
  obtain ⟨i0, hi, hz0, hz1, hz2⟩ := info_parts infoU64
  have HNQ := hid hnq
  have HNB := hid hnb
  have HDL := hid hDl
  have HDS := hid hDs
  have HDC := hid hDc
  have HDV := hid hDv
  have hbytes : i0.bytes * m ≤ 281474976710656 := by rw [hz2]; omega
  have hqc : q < ca := by omega
  clear ha hnq hnb hD hm hDl hDs hDc hDv a3 a0
  go_enter Tryz.func102, Tryz.ntmps102
  go_wp2_with fail
  refine CA.out.mono ?_
  rintro e w' ⟨rfl, rfl⟩
  go_wp2_with (at_make; refine wpList_make_full _ rfl (.tmp 28) (.tmp 28) 28 rfl w.heap.size 56 i0 (.int .u64 0) 1 Tryz.underlying28 hi hz0 hz1 .i64 .i64 _ _ m rfl rfl (by omega) (by omega) hbytes (by unfold maxLen; omega) (Nat.le_refl _) ?_; intro w1 hown hgrow)
  have hA : Arr w.heap.size w1 w.heap.size (List.replicate m 0) := by
    rw [wv_zeros] at hown; unfold Arr; rw [List.length_replicate]; exact hown
  have hE : Ext w w1 := Below.grown (Below.refl _ _) hgrow (Nat.le_refl _) (fun k hk => by cases hk)
  clear hown hgrow hmn hmi
  go_loopw [32] (fun k wr => ∃ (i : Nat) (r : List Nat), i ≤ m ∧ k = .int .i64 i ∧ ShrInvB WB (2 ^ b) D i r ∧ Arr w.heap.size wr w.heap.size (r ++ List.replicate (m - i) 0) ∧ Ext w wr) (fun k _ => m - (intOf k).toNat)
  case atStart => exact ⟨0, [], by omega, rfl, ShrInvB.start _ _ _, hA, hE⟩
  case round =>
    obtain ⟨i, r, hi', rfl, hinv, hAr, hEr⟩ := hrel
    have hrl := hinv.1
    have hlen : (r ++ List.replicate (m - i) 0).length = m := by simp; omega
    by_cases hilt : i < m
    · have hcx := hEr.cell (HDC.out i hilt)
      have hout := hAr.cell (i := i) (by omega)
      have hfz := hAr.frozen i
      have hxl := gd_lt HDS.out i
      have hbd : gd D i / 2 ^ b + 2 ^ (64 - b) * (gd D (i + 1) % 2 ^ b) < WB := by
        have := shr_bound (x := gd D i) (y := gd D (i + 1)) (b := b) (by rw [WB_pow] at hxl; exact hxl) hb64
        rw [WB_pow]; exact this
      have hstep := hinv.step (p := 2 ^ (64 - b)) (by rw [WB_pow, ← Nat.pow_add]; congr 1; omega) hbd
      have e1 : m - i = (m - (i + 1)) + 1 := by omega
      have hset : ∀ x, (r ++ List.replicate (m - i) 0).set i x = (r ++ [x]) ++ List.replicate (m - (i + 1)) 0 := by
        intro x; rw [e1, ← hrl]; exact set_fill
      have hst := hAr.store i (gd D i / 2 ^ b + 2 ^ (64 - b) * (gd D (i + 1) % 2 ^ b))
      rw [hset] at hst
      have hst1 := hAr.store i (gd D i / 2 ^ b)
      have hst2 := hst1.store i (gd D i / 2 ^ b + 2 ^ (64 - b) * (gd D (i + 1) % 2 ^ b))
      rw [List.set_set, hset] at hst2
      have hfz2 := hst1.frozen i
      have HSTEP := hid hstep
      have HST := hid hst
      have HST2 := hid hst2
      have HRL := hid hrl
      have HXL := hid hxl
      clear hlen hAr hinv hstep hst hst2 hst1 e1 hset hrl hbd hxl
      by_cases hb0 : 0 < b
      · by_cases hi1 : i + 1 < m
        · have hcx1 := hEr.cell (HDC.out (i + 1) hi1)
          have hZ := hid (shr_z (y := gd D (i + 1)) HXL.out hb0 hb64)
          have hguard : decide (0 < b) = true := by simpa using hb0
          go_wp2
          go_region
          all_goals
            go_wp2
            go_roundw
            case rel =>
              rw [hZ.out, div_z]
              exact ⟨i + 1, _, by omega, by go_num, HSTEP.out, HST2.out, (Below.setCell (Below.setCell hEr (Nat.le_refl _) _) (Nat.le_refl _) _).drew⟩
            case measure => simp [intOf]; omega
        · have hy0 : gd D (i + 1) = 0 := gd_ge (by have := HDL.out; omega)
          have HY := hid hy0
          clear hy0
          go_wp2
          go_roundw
          case rel =>
            rw [div_z]
            refine ⟨i + 1, _, by omega, by go_num, HSTEP.out, ?_, Below.setCell hEr (Nat.le_refl _) _⟩
            have := HST.out
            rw [HY.out, Nat.zero_mod, Nat.mul_zero, Nat.add_zero] at this ⊢
            exact this
          case measure => simp [intOf]; omega
      · have hb1 : b ≤ 0 := by omega
        have hy0 : gd D (i + 1) % 2 ^ b = 0 := by rw [show b = 0 from by omega, Nat.pow_zero, Nat.mod_one]
        have HY := hid hy0
        clear hy0
        go_wp2
        go_roundw
        case rel =>
          rw [div_z]
          refine ⟨i + 1, _, by omega, by go_num, HSTEP.out, ?_, Below.setCell hEr (Nat.le_refl _) _⟩
          have := HST.out
          rw [HY.out, Nat.mul_zero, Nat.add_zero] at this ⊢
          exact this
        case measure => simp [intOf]; omega
    · have hin : i = m := by omega
      subst hin
      have hno := normal_own hAr.own (by simpa using hinv.2.1) (by rw [hlen]; omega)
      rw [hlen] at hno
      have hv : nval WB (r ++ List.replicate (i - i) 0) = nval WB la / 2 ^ n := by
        rw [Nat.sub_self, List.replicate_zero, List.append_nil, hinv.done (Nat.two_pow_pos _) (Nat.le_of_eq HDL.out)]; exact HDV.out
      have HNO := hid hno
      have HLV := hid hv
      clear hno hv hlen hAr hinv hrl
      go_wp2_with fail
      refine HNO.out.mono ?_
      rintro e w' ⟨⟨v, rfl, ho⟩, rfl⟩
      go_wp2
      go_ret2
      exact ⟨⟨_, rfl, by rw [← HLV.out]; exact ho⟩, hEr⟩
theorem Shr_any {w : World} {va : Value} {la : List Nat} {n : Nat} (ha : RN w va la) (hna : la.length ≤ 1099511627775) (hn : n ≤ 9223372036854775807) :
    Calls Tryz.prog 102 #[va, .int .i64 (n : Int)] w fun e w' => (∃ v, e = .returned (.tuple #[v, .bool true]) ∧ ON w.heap.size w' v (nval WB la / 2 ^ n)) ∧ Ext w w' := by
  rcases Nat.lt_or_ge (n / 64) (tlen la) with h | h
  · exact Shr_big ha hna hn rfl rfl h
  · refine (Shr_small ha hna hn rfl rfl h).mono fun e w' ⟨he, hw⟩ => ?_
    subst he hw
    have hlt : nval WB la < 2 ^ n := by
      rw [← nval_tlen la]
      refine Nat.lt_of_lt_of_le (nval_lt (ha.sm.take _)) ?_
      rw [WB_pow, ← Nat.pow_mul, List.length_take]
      exact Nat.pow_le_pow_right (by omega) (by omega)
    exact ⟨⟨_, rfl, by rw [Nat.div_eq_of_lt hlt]; exact ON.zero _ _⟩, Ext.refl _⟩
end Go.Proofs.YtmfadfkjnfdngaaGreatDoor
set_option linter.unusedVariables false
set_option linter.unusedSimpArgs false
namespace Go.Proofs.YtmfadfkjnfdngaaGreatDoor
open Go.RowKit QM
theorem bitLen_mul (x q r : Nat) (hx : x ≠ 0) (hr : r < 2 ^ q) : bitLen (r + 2 ^ q * x) = q + bitLen x := by
  have h1 : (r + 2 ^ q * x) / 2 ^ q = x := by rw [Nat.add_mul_div_left _ _ (Nat.two_pow_pos _), Nat.div_eq_of_lt hr, Nat.zero_add]
  have := bitLen_shift (r + 2 ^ q * x) q (by rw [h1]; exact hx)
  rw [h1] at this; exact this
theorem bits_nval {l : List Nat} (hs : Sm WB l) (h : tlen l ≠ 0) : bitLen (nval WB l) = 64 * (tlen l - 1) + bitLen (gd l (tlen l - 1)) := by
  have hl := tlen_last h
  have e1 : nval WB l = nval WB (l.take (tlen l - 1)) + WB ^ (tlen l - 1) * gd l (tlen l - 1) := by
    have := nval_take_gd WB l (tlen l - 1)
    rw [show tlen l - 1 + 1 = tlen l from by omega, nval_tlen] at this; exact this
  have e2 := nval_lt (hs.take (tlen l - 1))
  have e3 : (l.take (tlen l - 1)).length = tlen l - 1 := by rw [List.length_take]; have := tlen_le l; omega
  rw [e3] at e2
  have e4 : WB ^ (tlen l - 1) = 2 ^ (64 * (tlen l - 1)) := by rw [WB_pow, ← Nat.pow_mul]
  rw [e1, e4]
  rw [e4] at e2
  exact bitLen_mul _ _ _ hl e2
theorem Bits_any {w : World} {va : Value} {la : List Nat} (ha : RN w va la) (hna : la.length ≤ 1099511627775) :
    Calls Tryz.prog 21 #[va] w fun e w' => e = .returned (.int .i64 ((bitLen (nval WB la) : Nat) : Int)) ∧ w = w' := by
  have ka := tlen_le la
  by_cases h0 : tlen la = 0
  · obtain ⟨oa, ca, rfl, _⟩ := id ha
    have CA := trim_any ha (by omega)
    rw [h0] at CA
    have hv := (nval_eq_zero WB_pos).2 h0
    have HV := hid hv
    have HCA := hid CA
    clear hv CA ha h0 ka
    go_enter Tryz.func21, Tryz.ntmps21
    go_wp2_with fail
    refine HCA.out.mono ?_
    rintro e w' ⟨rfl, rfl⟩
    go_wp2
    go_ret
    exact ⟨by rw [HV.out]; rfl, rfl⟩
  · rcases ha.shape with ⟨rfl, _⟩ | ⟨bx, ox, ca, rfl, a0, a1, a2, a3⟩
    · exact absurd (by simp [tlen]) h0
    have CA := hid (trim_any ha (by omega))
    have hc := a3 (tlen la - 1) (by omega)
    have hgl := gd_lt ha.sm (tlen la - 1)
    have HL := hid (Len64_any _ hgl w)
    have hb := bitLen_le64 hgl
    have hv := bits_nval ha.sm h0
    have hz : ((tlen la : Int) == 0) = false := by simp; omega
    have h0' : 0 < tlen la := by omega
    have HV := hid hv
    clear hv ha h0 a3 hgl
    go_enter Tryz.func21, Tryz.ntmps21
    go_wp2_with fail
    refine CA.out.mono ?_
    rintro e w' ⟨rfl, rfl⟩
    go_wp2_with fail
    refine HL.out.mono ?_
    rintro e w' ⟨rfl, rfl⟩
    go_wp2
    go_ret
    exact ⟨by rw [HV.out]; exact congrArg Ending.returned (by go_num), rfl⟩
theorem Word_zero {w : World} {va : Value} {la : List Nat} (ha : RN w va la) (hna : la.length ≤ 1099511627775) (h0 : tlen la = 0) :
    Calls Tryz.prog 117 #[va] w fun e w' => e = .returned (.tuple #[.int .u64 0, .bool true]) ∧ w = w' := by
  obtain ⟨oa, ca, rfl, _⟩ := id ha
  have CA := trim_any ha (by omega)
  rw [h0] at CA
  have HCA := hid CA
  clear CA ha h0 hna
  go_enter Tryz.func117, Tryz.ntmps117
  go_wp2_with fail
  refine HCA.out.mono ?_
  rintro e w' ⟨rfl, rfl⟩
  go_wp2
  go_ret2
  exact ⟨rfl, rfl⟩
theorem Word_one {w : World} {va : Value} {la : List Nat} (ha : RN w va la) (hna : la.length ≤ 1099511627775) (h0 : tlen la = 1) :
    Calls Tryz.prog 117 #[va] w fun e w' => e = .returned (.tuple #[.int .u64 ((gd la 0 : Nat) : Int), .bool true]) ∧ w = w' := by
  have ka := tlen_le la
  rcases ha.shape with ⟨rfl, _⟩ | ⟨bx, ox, ca, rfl, a0, a1, a2, a3⟩
  · exact absurd h0 (by simp [tlen])
  have CA := trim_any ha (by omega)
  rw [h0] at CA
  have hc := a3 0 (by omega)
  rw [Nat.add_zero] at hc
  have HCA := hid CA
  clear CA ha h0 a3
  go_enter Tryz.func117, Tryz.ntmps117
  go_wp2_with fail
  refine HCA.out.mono ?_
  rintro e w' ⟨rfl, rfl⟩
  go_wp2
  go_ret2
  exact ⟨rfl, rfl⟩
theorem Word_more {w : World} {va : Value} {la : List Nat} (ha : RN w va la) (hna : la.length ≤ 1099511627775) (h0 : 1 < tlen la) :
    Calls Tryz.prog 117 #[va] w fun e w' => e = .returned (.tuple #[.int .u64 0, .bool false]) ∧ w = w' := by
  obtain ⟨oa, ca, rfl, _⟩ := id ha
  have CA := hid (trim_any ha (by omega))
  have hz : ((tlen la : Int) == 0) = false := by simp; omega
  have hz1 : ((tlen la : Int) == 1) = false := by simp; omega
  clear ha hna
  go_enter Tryz.func117, Tryz.ntmps117
  go_wp2_with fail
  refine CA.out.mono ?_
  rintro e w' ⟨rfl, rfl⟩
  go_wp2
  go_ret2
  exact ⟨rfl, rfl⟩
theorem Word_any {w : World} {va : Value} {la : List Nat} (ha : RN w va la) (hna : la.length ≤ 1099511627775) :
    Calls Tryz.prog 117 #[va] w fun e w' => e = .returned (.tuple #[.int .u64 (((if nval WB la < WB then nval WB la else 0 : Nat)) : Int), .bool (decide (nval WB la < WB))]) ∧ w = w' := by
  have hs := ha.sm
  have ht := nval_tlen (B := WB) la
  rcases Nat.lt_trichotomy (tlen la) 1 with h | h | h
  · have h0 : tlen la = 0 := by omega
    refine (Word_zero ha hna h0).mono fun e w' ⟨he, hw⟩ => ?_
    have hv := (nval_eq_zero WB_pos).2 h0
    rw [hv]
    exact ⟨by rw [he]; simp [WB_pos], hw⟩
  · refine (Word_one ha hna h).mono fun e w' ⟨he, hw⟩ => ?_
    have hv : nval WB la = gd la 0 := by
      have := nval_take_gd WB la 0
      rw [Nat.zero_add, ← h, ht] at this
      rw [this]; simp [nval]
    rw [hv]
    have := gd_lt hs 0
    exact ⟨by rw [he]; simp [this], hw⟩
  · refine (Word_more ha hna h).mono fun e w' ⟨he, hw⟩ => ?_
    have hv : ¬ nval WB la < WB := by
      have h1 := (nrm_tlen la).pos (B := WB) (by intro e; have := congrArg List.length e; rw [List.length_take, Nat.min_eq_left (tlen_le la)] at this; simp only [List.length_nil] at this; omega)
      rw [List.length_take, Nat.min_eq_left (tlen_le la), ht] at h1
      have h2 : WB ^ 1 ≤ WB ^ (tlen la - 1) := Nat.pow_le_pow_right WB_pos (by omega)
      rw [Nat.pow_one] at h2
      omega
    exact ⟨by rw [he]; simp [hv], hw⟩
end Go.Proofs.YtmfadfkjnfdngaaGreatDoor

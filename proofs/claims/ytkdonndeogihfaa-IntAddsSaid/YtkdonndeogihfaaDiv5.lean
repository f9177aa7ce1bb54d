import Derived.Test.YtkdonndeogihfaaDiv4
import Derived.Test.YtkdonndeogihfaaMul2
/- Package div: Small. -/
set_option linter.unusedVariables false
set_option linter.unusedSimpArgs false
namespace Go.Proofs.Ytkdonndeogihfaa
open Go.RowKit QM
/-- An array of words of the call's own, with spare room. -/
def ArrC (base : Nat) (w : World) (g cap : Nat) (l : List Nat) : Prop :=
  w.ownsRow base 73 1 (.slice (some ⟨g, 0, none⟩) l.length cap) l.length (wv l)
theorem ArrC.cell {base g cap : Nat} {w : World} {l : List Nat} (h : ArrC base w g cap l) {i : Nat} (hi : i < l.length) : w.cell? ⟨g, i, none⟩ = some (.int .u64 ((gd l i : Nat) : Int)) := by
  rw [World.ownsRow.cellAt h i (by omega)]
  simp [wv, List.getElem?_map, List.getElem?_eq_getElem hi, gd, List.getD_eq_getElem?_getD]
theorem ArrC.frozen {base g cap : Nat} {w : World} {l : List Nat} (h : ArrC base w g cap l) (i : Nat) : w.frozen? ⟨g, i, none⟩ = false := World.ownsRow.frozenAt h i
theorem ArrC.store {base g cap : Nat} {w : World} {l : List Nat} (h : ArrC base w g cap l) (i x : Nat) : ArrC base (w.setCell ⟨g, i, none⟩ (.int .u64 (x : Int))) g cap (l.set i x) := by
  have := (World.ownsRow.stored h i (.int .u64 (x : Int))).1
  have e : (wv l).set i (.int .u64 (x : Int)) = wv (l.set i x) := by simp [wv, List.map_set]
  rw [e] at this
  simpa [ArrC] using this
theorem ArrC.ext {base g cap : Nat} {w w' : World} {l : List Nat} (h : ArrC base w g cap l) (he : Ext w w') : ArrC base w' g cap l := owns_ext h he
theorem Small_zero (va : Value) (w : World) :
    Calls Try.prog 67 #[va, .int .u64 0] w fun e w' => e = .returned (.tuple #[.slice none 0 0, .int .u64 0, .bool false]) ∧ w = w' := by
  go_enter Try.func67, Try.ntmps67
  go_wp2
  go_ret3
  exact ⟨rfl, rfl⟩
set_option maxRecDepth 100000 in
set_option maxHeartbeats 2000000 in
theorem Small_any {w : World} {va : Value} {la : List Nat} {x : Nat} (ha : RN w va la) (hna : la.length ≤ 1099511627775) (hx0 : 0 < x) (hx : x < WB) :
    Calls Try.prog 67 #[va, .int .u64 (x : Int)] w fun e w' => (∃ v, e = .returned (.tuple #[v, .int .u64 ((nval WB la % x : Nat) : Int), .bool true]) ∧ ON w.heap.size w' v (nval WB la / x)) ∧ Ext w w' := by
  have hz : ((x : Int) == 0) = false := by rw [beq_eq_false_iff_ne]; omega
  have HNA := hid (Norm_any ha (by omega))
  have HA := hid ha
  have HX := hid (And.intro hx0 hx)
  clear ha hx0 hx
  go_enter Try.func67, Try.ntmps67
  go_wp2_with fail
  refine HNA.out.mono ?_
  rintro e w1 ⟨⟨v1, rfl, ho1⟩, hx1⟩
  obtain ⟨A, h1, h2, h3, h4, h5⟩ := ho1
  have hAl : A.length ≤ 1099511627775 := Nat.le_trans (len_le_of WB_two HA.out.sm h3 (Nat.le_of_eq h4)) hna
  rcases h1.2 with ⟨rfl, h0⟩ | ⟨g, cap, cur, rfl, hbg, hgg, hnc, hcm, hcs, htk⟩
  · have hA0 : A = [] := List.eq_nil_of_length_eq_zero h0
    subst hA0
    have hv0 : nval WB la = 0 := by rw [← h4]; rfl
    have HV := hid hv0
    have HN2 := hid (Norm_any (RN.nil w1) (by simp))
    clear h1 h2 h3 h4 h5 hv0 h0
    go_wp2_with fail
    go_loopw [7, 8] (fun a b wr => a = .int .u64 0 ∧ b = .int .i64 (-1) ∧ w1 = wr) (fun _ _ _ => 0)
    case atStart => exact ⟨rfl, rfl, rfl⟩
    case round =>
      obtain ⟨rfl, rfl, rfl⟩ := hrel
      go_wp2_with fail
      refine HN2.out.mono ?_
      rintro e w2 ⟨⟨v2, rfl, ho⟩, hx2⟩
      have HO := hid ho
      clear ho
      go_wp2
      go_ret3
      refine ⟨⟨v2, ?_, ?_⟩, hx1.trans hx2⟩
      · rw [HV.out, Nat.zero_mod]; rfl
      · rw [HV.out, Nat.zero_div]; exact HO.out.mono hx1.size
  · have hAC : ArrC w.heap.size w1 g cap A := h1
    have H4 := hid h4
    have HS := hid h2
    generalize hn : A.length = n at hAl
    have HN := hid hn
    have hAC2 := hid hAC
    clear h1 h2 h3 h4 h5 hgg hcs htk hn hAC hnc
    go_wp2_with fail
    go_loopw [7, 8] (fun a b wr => ∃ (i : Nat) (L : List Nat) (r : Nat), i ≤ n ∧ a = .int .u64 r ∧ b = .int .i64 ((i : Int) - 1) ∧ SmallInv WB x A L i r ∧ ArrC w.heap.size wr g cap L ∧ Ext w wr) (fun _ b _ => (intOf b + 1).toNat)
    case atStart => exact ⟨n, A, 0, by omega, rfl, rfl, by rw [← HN.out]; exact SmallInv.start HS.out HX.out.1, hAC2.out, hx1⟩
    case round =>
      obtain ⟨i, L, r, hin, rfl, rfl, hinv, hAr, hE⟩ := hrel
      by_cases hi0 : i = 0
      · subst hi0
        have hd := hinv.done
        have hLl := hinv.1
        have hrn : RN wr (.slice (some ⟨g, 0, none⟩) n cap) L := by
          have := own_rn hAr hinv.2.1
          rw [hLl, HN.out] at this; exact this
        have HN2 := hid (Norm_any hrn (by rw [hLl, HN.out]; omega))
        have HD := hid hd
        clear hinv hAr hd hLl hrn
        go_wp2_with fail
        refine HN2.out.mono ?_
        rintro e w2 ⟨⟨v2, rfl, ho⟩, hx2⟩
        have HO := hid ho
        clear ho
        go_wp2
        go_ret3
        refine ⟨⟨v2, ?_, ?_⟩, hE.trans hx2⟩
        · rw [← H4.out, ← HD.out.2]; rfl
        · rw [← H4.out, ← HD.out.1]; exact HO.out.mono hE.size
      · obtain ⟨j, rfl⟩ : ∃ j, i = j + 1 := ⟨i - 1, by omega⟩
        have e1 : (((j + 1 : Nat) : Int) - 1) = (j : Int) := by omega
        rw [e1]
        have hc := hAr.cell (i := j) (by rw [hinv.1, HN.out]; omega)
        rw [hinv.2.2.2.1 j (by omega)] at hc
        have hfz := hAr.frozen j
        have HDV := hid (Div64_any hinv.2.2.1 (gd_lt HS.out j) HX.out.2 wr)
        have hst := hinv.step WB_pos HS.out (by rw [HN.out]; omega)
        have HAR := hid hAr
        have HST := hid hst
        clear hinv hAr hst e1 hi0
        generalize (r * WB + gd A j) / x = q at *
        generalize (r * WB + gd A j) % x = r2 at *
        go_wp2_with fail
        refine HDV.out.mono ?_
        rintro e w2 ⟨rfl, hx2⟩
        have hA2 := (HAR.out.ext hx2).store j q
        have hfz2 := (HAR.out.ext hx2).frozen j
        have hc2 := hx2.cell hc
        have HA2 := hid hA2
        have hbs : Ext w (w2.setCell ⟨g, j, none⟩ (.int .u64 (q : Int))) := Below.setCell (hE.trans hx2) (by simpa using hbg) _
        have HBS := hid hbs
        clear hA2 hbs hx2 hc hfz hE
        go_wp2
        go_roundw
        case rel => exact ⟨j, _, r2, by omega, rfl, by go_num, HST.out, HA2.out, HBS.out⟩
        case measure => first | (simp [intOf]; done) | (simp [intOf]; omega)
end Go.Proofs.Ytkdonndeogihfaa

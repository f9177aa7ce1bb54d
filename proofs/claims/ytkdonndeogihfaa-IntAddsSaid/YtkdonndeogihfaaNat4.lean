import Derived.Test.YtkdonndeogihfaaNat3
import Derived.Test.YtkdonndeogihfaaBits
import Derived.Deep.Cut
import Derived.Deep.DeepCutAuto
/- Package nat: arrays of the call's own; Add, Sub. -/
set_option linter.unusedVariables false
set_option linter.unusedSimpArgs false
namespace Go.Proofs.Ytkdonndeogihfaa
open Go.RowKit QM

/-- An array of words of the call's own: block g holds just these. -/
def Arr (base : Nat) (w : World) (g : Nat) (l : List Nat) : Prop :=
  w.ownsRow base 73 1 (.slice (some ⟨g, 0, none⟩) l.length l.length) l.length (wv l)
theorem Arr.cell {base g : Nat} {w : World} {l : List Nat} (h : Arr base w g l) {i : Nat} (hi : i < l.length) : w.cell? ⟨g, i, none⟩ = some (.int .u64 ((gd l i : Nat) : Int)) := by
  rw [World.ownsRow.cellAt h i (by omega)]
  simp [wv, List.getElem?_map, List.getElem?_eq_getElem hi, gd, List.getD_eq_getElem?_getD]
theorem Arr.frozen {base g : Nat} {w : World} {l : List Nat} (h : Arr base w g l) (i : Nat) : w.frozen? ⟨g, i, none⟩ = false := World.ownsRow.frozenAt h i
theorem Arr.store {base g : Nat} {w : World} {l : List Nat} (h : Arr base w g l) (i x : Nat) : Arr base (w.setCell ⟨g, i, none⟩ (.int .u64 (x : Int))) g (l.set i x) := by
  have := (World.ownsRow.stored h i (.int .u64 (x : Int))).1
  have e : (wv l).set i (.int .u64 (x : Int)) = wv (l.set i x) := by simp [wv, List.map_set]
  rw [e] at this
  simpa [Arr] using this
theorem Arr.base {base g : Nat} {w : World} {l : List Nat} (h : Arr base w g l) : base ≤ g ∧ g < w.heap.size := World.ownsRow.lt h g rfl
theorem Arr.ext {base g : Nat} {w w' : World} {l : List Nat} (h : Arr base w g l) (he : Ext w w') : Arr base w' g l := by
  refine World.ownsRow.kept h (w' := w') (row := none) ⟨he.os, he.tape, he.output, he.size, fun k hk _ => he.block hk⟩ (.inr (by simp [Value.ownBlock]))
theorem set_fill {r : List Nat} {m x : Nat} : (r ++ List.replicate (m + 1) 0).set r.length x = (r ++ [x]) ++ List.replicate m 0 := by
  rw [List.replicate_succ, List.set_append_right _ _ (Nat.le_refl _), Nat.sub_self, List.set_cons_zero, List.append_assoc]; rfl
/-- make: an array of noughts. -/
theorem wv_zeros (n : Nat) : (madeCells (Value.int .u64 0).cells (n * 1)).toList = wv (List.replicate n 0) := by
  rw [Nat.mul_one]
  show (madeCells #[Value.int .u64 0] n).toList = _
  rw [toList_madeCells_one]; simp [wv]
/-- A filled array's value. -/
theorem Arr.own {base g : Nat} {w : World} {l : List Nat} (h : Arr base w g l) : w.ownsRow base 73 1 (.slice (some ⟨g, 0, none⟩) l.length l.length) l.length (wv l) := h

def AddInv (la lb : List Nat) (k : Nat) (r : List Nat) (c : Nat) : Prop := AddInvB WB la lb k r c
theorem AddInv.start (la lb : List Nat) : AddInv la lb 0 [] 0 := AddInvB.start _ _ _
theorem hi64_one {x y c : Nat} (hx : x < WB) (hy : y < WB) (hc : c ≤ 1) : hi64 (x + y + c) ≤ 1 := by
  unfold hi64; rw [WB_eq] at *; omega
theorem AddInv.step {la lb : List Nat} {k c : Nat} {r : List Nat} (h : AddInv la lb k r c) (ha : Sm WB la) (hb : Sm WB lb) :
    AddInv la lb (k + 1) (r ++ [lo64 (gd la k + gd lb k + c)]) (hi64 (gd la k + gd lb k + c)) :=
  AddInvB.step h (lo64_lt _) (hi64_one (gd_lt ha k) (gd_lt hb k) h.2.2.1) (lohi _)
theorem AddInv.done {la lb : List Nat} {n c : Nat} {r : List Nat} (h : AddInv la lb n r c) (ha : nval WB (la.take n) = nval WB la) (hb : nval WB (lb.take n) = nval WB lb) :
    Sm WB (r ++ [c]) ∧ nval WB (r ++ [c]) = nval WB la + nval WB lb := AddInvB.done h WB_one ha hb
set_option maxRecDepth 100000 in
set_option maxHeartbeats 1000000 in
theorem Add_any {w : World} {va vb : Value} {la lb : List Nat} (ha : RN w va la) (hb : RN w vb lb) (hna : la.length ≤ 1099511627775) (hnb : lb.length ≤ 1099511627775) :
    Calls Try.prog 51 #[va, vb] w fun e w' => (∃ v, e = .returned v ∧ ON w.heap.size w' v (nval WB la + nval WB lb)) ∧ Ext w w' := by
  obtain ⟨oa, ca, rfl, _⟩ := id ha
  obtain ⟨ob, cb, rfl, _⟩ := id hb
  have CA := hid (trim_any ha (by omega))
  have CB := hid (trim_any hb (by omega))
  -- the longer one, the shorter one
  obtain ⟨ox, cx, lx, oy, cy, ly, hx, hy, hxy, hlx, hcase, hsum⟩ : ∃ ox cx lx oy cy ly, RN w (.slice ox (tlen lx) cx) (lx.take (tlen lx)) ∧ RN w (.slice oy (tlen ly) cy) (ly.take (tlen ly)) ∧ tlen ly ≤ tlen lx ∧ tlen lx ≤ 1099511627775 ∧
      (tlen la < tlen lb ∧ ox = ob ∧ cx = cb ∧ lx = lb ∧ oy = oa ∧ cy = ca ∧ ly = la ∨ ¬ tlen la < tlen lb ∧ ox = oa ∧ cx = ca ∧ lx = la ∧ oy = ob ∧ cy = cb ∧ ly = lb) ∧ nval WB lx + nval WB ly = nval WB la + nval WB lb := by
    have ka := tlen_le la
    have kb := tlen_le lb
    by_cases h : tlen la < tlen lb
    · exact ⟨ob, cb, lb, oa, ca, la, hb.take kb, ha.take ka, by omega, by omega, .inl ⟨h, rfl, rfl, rfl, rfl, rfl, rfl⟩, by omega⟩
    · exact ⟨oa, ca, la, ob, cb, lb, ha.take ka, hb.take kb, by omega, by omega, .inr ⟨h, rfl, rfl, rfl, rfl, rfl, rfl⟩, by omega⟩
  obtain ⟨i0, hi, hz0, hz1, hz2⟩ := info_parts infoU64
  have lx_sm : Hid (Sm WB lx) := hid (by rcases hcase with ⟨_, _, _, rfl, _⟩ | ⟨_, _, _, rfl, _⟩ <;> first | exact hb.sm | exact ha.sm)
  have ly_sm : Hid (Sm WB ly) := hid (by rcases hcase with ⟨_, _, _, _, _, _, rfl⟩ | ⟨_, _, _, _, _, _, rfl⟩ <;> first | exact ha.sm | exact hb.sm)
  have HS := hid hsum
  have HC := hid hcase
  clear hsum hcase ha hb hna hnb
  go_enter Try.func51, Try.ntmps51
  go_wp2_with fail
  refine CA.out.mono ?_
  rintro e w' ⟨rfl, rfl⟩
  go_wp2_with fail
  refine CB.out.mono ?_
  rintro e w' ⟨rfl, rfl⟩
  go_upto_if 17 with fail
  go_cut [0, 1] (fun s0 s1 wx => s0 = .slice ox (tlen lx) cx ∧ s1 = .slice oy (tlen ly) cy ∧ w = wx)
  case first =>
    rcases HC.out with ⟨hlt, rfl, rfl, rfl, rfl, rfl, rfl⟩ | ⟨hlt, rfl, rfl, rfl, rfl, rfl, rfl⟩
    all_goals
      go_wp2
      go_meet
      exact ⟨rfl, rfl, rfl⟩
  case rest =>
    obtain ⟨rfl, rfl, rfl⟩ := hcut
    have hbytes : i0.bytes * (tlen lx + 1) ≤ 281474976710656 := by rw [hz2]; omega
    go_wp2_with (at_make; refine wpList_make_full _ rfl (.tmp 22) (.tmp 22) 23 rfl w.heap.size 73 i0 (.int .u64 0) 1 Try.underlying23 hi hz0 hz1 .i64 .i64 _ _ (tlen lx + 1) rfl rfl (by omega) (by omega) hbytes (by unfold maxLen; omega) (Nat.le_refl _) ?_; intro w1 hown hgrow)
    have hA : Arr w.heap.size w1 w.heap.size (List.replicate (tlen lx + 1) 0) := by
      rw [wv_zeros] at hown; unfold Arr; rw [List.length_replicate]; exact hown
    have hE : Ext w w1 := Below.grown (Below.refl _ _) hgrow (Nat.le_refl _) (fun k hk => by cases hk)
    clear hown hgrow
    go_loopw [6, 26] (fun c k wr => ∃ (i : Nat) (r : List Nat) (cy : Nat), i ≤ tlen lx ∧ k = .int .i64 i ∧ c = .int .u64 cy ∧ AddInv lx ly i r cy ∧ Arr w.heap.size wr w.heap.size (r ++ List.replicate (tlen lx + 1 - i) 0) ∧ Ext w wr) (fun _ k _ => tlen lx - (intOf k).toNat)
    case atStart => exact ⟨0, [], 0, by omega, rfl, rfl, AddInv.start _ _, hA, hE⟩
    case round =>
      obtain ⟨i, r, cc, hi', rfl, rfl, hinv, hAr, hEr⟩ := hrel
      have hlen : (r ++ List.replicate (tlen lx + 1 - i) 0).length = tlen lx + 1 := by have := hinv.1; simp; omega
      have hcy := hinv.2.2.1
      by_cases hilt : i < tlen lx
      · obtain ⟨bx, ofx, rfl, hcx⟩ : ∃ b o, ox = some ⟨b, o, none⟩ ∧ wr.cell? ⟨b, o + i, none⟩ = some (.int .u64 ((gd lx i : Nat) : Int)) := by
          obtain ⟨oa', cap', hv, h1, h2, h3, h4, h5⟩ := hx
          simp only [Value.slice.injEq] at hv
          obtain ⟨rfl, e2, rfl⟩ := hv
          obtain ⟨b, o, e, c⟩ := h5 i (by omega)
          rw [gd_take hilt] at c
          exact ⟨b, o, e, hEr.cell c⟩
        have hout := hAr.cell (i := i) (by omega)
        have hfz := hAr.frozen i
        have hst := hAr.store i (lo64 (gd lx i + gd ly i + cc))
        have hnew : (r ++ List.replicate (tlen lx + 1 - i) 0).set i (lo64 (gd lx i + gd ly i + cc)) = (r ++ [lo64 (gd lx i + gd ly i + cc)]) ++ List.replicate (tlen lx + 1 - (i + 1)) 0 := by
          have e1 : tlen lx + 1 - i = (tlen lx + 1 - (i + 1)) + 1 := by omega
          rw [e1, ← hinv.1]; exact set_fill
        rw [hnew] at hst
        have hstep := hinv.step (lx_sm.out) (ly_sm.out)
        have hgr : Ext w (wr.setCell ⟨w.heap.size, i, none⟩ (.int .u64 ((lo64 (gd lx i + gd ly i + cc) : Nat) : Int))) := Below.setCell hEr (Nat.le_refl _) _
        have HST := hid hst
        have HSTEP := hid hstep
        have HGR := hid hgr
        clear hst hstep hgr hnew hlen hinv hAr
        by_cases hily : i < tlen ly
        · obtain ⟨by', ofy, rfl, hcyy⟩ : ∃ b o, oy = some ⟨b, o, none⟩ ∧ wr.cell? ⟨b, o + i, none⟩ = some (.int .u64 ((gd ly i : Nat) : Int)) := by
            obtain ⟨oa', cap', hv, h1, h2, h3, h4, h5⟩ := hy
            simp only [Value.slice.injEq] at hv
            obtain ⟨rfl, e2, rfl⟩ := hv
            obtain ⟨b, o, e, c⟩ := h5 i (by omega)
            rw [gd_take hily] at c
            exact ⟨b, o, e, hEr.cell c⟩
          have hadd := Add64_run (gd lx i) (gd ly i) cc hcy
          clear hx hy hEr
          go_wp2
          go_roundw
          case rel => exact ⟨i + 1, _, _, by omega, by go_num, rfl, HSTEP.out, HST.out, HGR.out⟩
          case measure => simp [intOf]; omega
        · have hadd := Add64_run0 (gd lx i) (gd ly i) cc hcy (tlen_zero (by omega))
          clear hx hy hEr
          go_wp2
          go_roundw
          case rel => exact ⟨i + 1, _, _, by omega, by go_num, rfl, HSTEP.out, HST.out, HGR.out⟩
          case measure => simp [intOf]; omega
      · have hin : i = tlen lx := by omega
        subst hin
        have hdone := hinv.done (nval_tlen lx) (nval_take_of_zeros fun j hj => tlen_zero (by omega))
        have hout := hAr.cell (i := tlen lx) (by omega)
        have hfz := hAr.frozen (tlen lx)
        have hst := hAr.store (tlen lx) cc
        have e0 : tlen lx + 1 - tlen lx = 0 + 1 := by omega
        have hnew : (r ++ List.replicate (tlen lx + 1 - tlen lx) 0).set (tlen lx) cc = r ++ [cc] := by
          rw [e0]; have := set_fill (r := r) (m := 0) (x := cc); rw [hinv.1] at this; simpa using this
        rw [hnew] at hst
        have hrl : (r ++ [cc]).length = tlen lx + 1 := by simp [hinv.1]
        have hno := normal_own hst.own hdone.1 (by omega)
        rw [hrl] at hno
        have hgr : Ext w (wr.setCell ⟨w.heap.size, tlen lx, none⟩ (.int .u64 (cc : Int))) := Below.setCell hEr (Nat.le_refl _) _
        have HNO := hid hno
        have HD := hid hdone.2
        have HGR := hid hgr
        clear hst hdone hgr hnew hlen hinv hAr hno hrl hx hy hEr e0
        go_wp2_with fail
        refine HNO.out.mono ?_
        rintro e w' ⟨⟨v, rfl, ho⟩, rfl⟩
        go_wp2
        go_ret
        exact ⟨⟨_, rfl, by rw [← HS.out, ← HD.out]; exact ho⟩, HGR.out⟩
end Go.Proofs.Ytkdonndeogihfaa

import Derived.Test.YtkdonndeogihfaaDoorQ4
/- The reference for naturals (package quincunxref01): To. -/
set_option linter.unusedVariables false
set_option linter.unusedSimpArgs false
namespace Go.Proofs.YtkdonndeogihfaaDoor
open Go.RowKit QM SX
attribute [local irreducible] IntKind.wrap bitLen cmpI nval Go1 Reg WP thenK inBlk retQ RetOK ResOK CallOK OpOK Sat
theorem nval_dt (B : Nat) (l : List Nat) (a n : Nat) : nval B ((l.drop a).take (n + 1)) = l.getD a 0 + B * nval B ((l.drop (a + 1)).take n) := by
  by_cases h : a < l.length
  · rw [List.drop_eq_getElem_cons h, List.take_succ_cons, List.getD_eq_getElem?_getD, List.getElem?_eq_getElem h]; simp only [nval, Option.getD_some]
  · rw [gd_none (by omega), List.drop_of_length_le (by omega), List.drop_of_length_le (by omega)]; simp [nval]
theorem nval_dt_lt {l : List Nat} (hs : Sm 65536 l) (a n : Nat) : nval 65536 ((l.drop a).take n) < 65536 ^ n :=
  Nat.lt_of_lt_of_le (nval_lt ((hs.drop a).take n)) (Nat.pow_le_pow_right (by omega) (by rw [List.length_take]; exact Nat.min_le_left _ _))
theorem nval_take_add (B : Nat) (l : List Nat) (i n : Nat) (h : i ≤ l.length) : nval B (l.take (i + n)) = nval B (l.take i) + B ^ i * nval B ((l.drop i).take n) := by
  rw [nval_split (l.take (i + n)) i, List.take_take, Nat.min_eq_left (by omega), List.drop_take, Nat.add_sub_cancel_left]
theorem wrd_snoc (r : List Nat) (x : Nat) : (r.map wrdC) ++ [CA.val (.int .u64 (x : Int))] = (r ++ [x]).map wrdC := by simp
set_option maxRecDepth 100000 in
set_option maxHeartbeats 1000000 in
theorem rTo0 (l : List Nat) (hs : Sm 65536 l) (hl : l.length ≤ 100000000) : PureOK Tryd.prog 23 [.r (digR l)] (.r (rawN (wds (nval 65536 l)))) := by
  refine PureOK.fn Tryd.func23 Tryd.results23 Tryd.ntmps23 rfl rfl rfl (by simp [AV.ids, AV0.ids, Atom.ids]) rfl (fun w0 T B E0 hB => ?_)
  repeat (first | refine SX.goZ ?_ | refine SX.Go1.sliceHiO rfl rfl rfl rfl rfl (by omega) (by omega) ?_)
  refine WP.loop (ι := {p : List Nat × Nat // p.2 = 4 * p.1.length ∧ p.2 ≤ l.length + 3 ∧ Sm WB p.1 ∧ nval WB p.1 = nval 65536 (l.take p.2)}) (fun i => mkSt [(0, .r (digR l)), (3, .own 100), (4, .v (.int .i64 (i.val.2 : Int)))] [(100, .row 41 1 i.val.1.length (i.val.1.map wrdC))])
    (fun i => l.length + 4 - i.val.2) ⟨([], 0), rfl, Nat.zero_le _, Sm.nil, by simp [nval]⟩
    (St.le_to [(100, none)] (fun b h => by cases h) ⟨⟨_, rfl, AVto.same rfl⟩, ⟨_, rfl, AVto.nil rfl⟩, ⟨_, rfl, AVto.same rfl⟩, trivial⟩ ⟨.nilRow rfl, trivial⟩ rfl) (fun i => ?_)
  obtain ⟨⟨ws, i⟩, h1, h2, h3, h4⟩ := i
  simp only at h1 h2 h3 h4 ⊢
  by_cases ht : i < l.length
  · have d1 : decide ((i : Int) < (l.length : Int)) = true := decide_eq_true (by omega)
    have a4 : IntKind.i64.wrap ((i : Int) + 4) = ((i + 4 : Nat) : Int) := by rw [show (i : Int) + 4 = ((i + 4 : Nat) : Int) by omega]; exact wrapI64 (by omega) (by omega)
    repeat (first | refine SX.goZ ?_ | refine SX.Go1.sliceHiO rfl rfl rfl rfl rfl (by omega) (by omega) ?_)
    refine WP.loop (ι := {q : Nat × Nat × Int // q.2.2 = (q.2.1 : Int) - 1 ∧ q.2.1 ≤ 4 ∧ q.1 = nval 65536 ((l.drop (i + q.2.1)).take (4 - q.2.1))}) (fun q => mkSt [(0, .r (digR l)), (3, .own 100), (4, .v (.int .i64 (i : Int))), (5, .v (.int .u64 (q.val.1 : Int))), (6, .v (.int .i64 q.val.2.2))] [(100, .row 41 1 ws.length (ws.map wrdC))])
      (fun q => q.val.2.1) ⟨(0, 4, 3), by decide, by decide, by simp [nval]⟩
      (St.le_to [] (fun b h => by cases h) ⟨⟨_, rfl, AVto.same rfl⟩, ⟨_, rfl, AVto.same rfl⟩, ⟨_, rfl, AVto.same rfl⟩, ⟨_, rfl, AVto.same rfl⟩, ⟨_, rfl, AVto.same rfl⟩, trivial⟩ ⟨.same rfl rfl, trivial⟩ rfl) (fun q => ?_)
    obtain ⟨⟨x, m, j⟩, hj, hm, hx⟩ := q
    simp only at hj hm hx ⊢
    cases m with
    | zero =>
      have d2 : decide ((0 : Int) ≤ j) = false := decide_eq_false (by omega)
      have hx4 : x < WB := by rw [hx, WB_dig]; exact nval_dt_lt hs _ _
      repeat (first | refine SX.goZ ?_ | refine SX.Go1.sliceHiO rfl rfl rfl rfl rfl (by omega) (by omega) ?_)
      have e1 : (ws ++ [x]).length = ws.length + 1 := by simp
      refine ⟨⟨(ws ++ [x], i + 4), by rw [e1]; omega, by simp only; omega, h3.append (Sm.cons hx4 Sm.nil), ?_⟩, ?_, by simp only; omega⟩
      · simp only
        rw [nval_snoc, h4, nval_take_add 65536 l i 4 (by omega), WB_digs, hx, h1]; simp
      · exact St.le_to [(100, some 37)] (fun b h => by cases h) ⟨⟨_, rfl, AVto.same rfl⟩, ⟨_, rfl, AVto.own rfl⟩, ⟨_, rfl, AVto.same rfl⟩, trivial⟩ ⟨.row rfl rfl e1.symm (wrd_snoc _ _), trivial⟩ rfl
    | succ m =>
      obtain rfl : j = (m : Int) := by omega
      have d2 : decide ((0 : Int) ≤ (m : Int)) = true := decide_eq_true (by omega)
      have hx3 : x < 65536 ^ 3 := by
        rw [hx]
        exact Nat.lt_of_lt_of_le (nval_dt_lt hs _ _) (Nat.pow_le_pow_right (by omega) (by omega))
      have hx3' : x < 281474976710656 := hx3
      have hd := nval_dt 65536 l (i + m) (4 - (m + 1))
      rw [show 4 - (m + 1) + 1 = 4 - m by omega, show i + m + 1 = i + (m + 1) by omega, ← hx] at hd
      have a1 : IntKind.u64.wrap ((x : Int) * 65536) = ((x * 65536 : Nat) : Int) := by rw [show (x : Int) * 65536 = ((x * 65536 : Nat) : Int) by omega]; exact wrapU64 (by omega) (by omega)
      have a2 : IntKind.i64.wrap ((i : Int) + (m : Int)) = ((i + m : Nat) : Int) := by rw [← Int.natCast_add]; exact wrapI64 (by omega) (by omega)
      have a3 : IntKind.i64.wrap ((m : Int) - 1) = (m : Int) - 1 := wrapI64 (by omega) (by omega)
      by_cases hlt : i + m < l.length
      · have d3 : decide (((i + m : Nat) : Int) < (l.length : Int)) = true := decide_eq_true (by omega)
        have g := gd_get hlt
        have hg := gd_sm hs (i + m)
        generalize l.getD (i + m) 0 = y at *
        have a5 : IntKind.u64.wrap (y : Int) = (y : Int) := wrapU64 (by omega) (by omega)
        have a6 : IntKind.u64.wrap (((x * 65536 : Nat) : Int) + (y : Int)) = ((x * 65536 + y : Nat) : Int) := by rw [← Int.natCast_add]; exact wrapU64 (by omega) (by omega)
        repeat (first | refine SX.goZ ?_ | refine SX.Go1.sliceHiO rfl rfl rfl rfl rfl (by omega) (by omega) ?_)
        refine ⟨⟨(x * 65536 + y, m, (m : Int) - 1), rfl, by simp only; omega, by simp only; omega⟩, ?_, Nat.lt_succ_self m⟩
        exact St.le_to [] (fun b h => by cases h) ⟨⟨_, rfl, AVto.same rfl⟩, ⟨_, rfl, AVto.same rfl⟩, ⟨_, rfl, AVto.same rfl⟩, ⟨_, rfl, AVto.same rfl⟩, ⟨_, rfl, AVto.same rfl⟩, trivial⟩ ⟨.same rfl rfl, trivial⟩ rfl
      · have d3 : decide (((i + m : Nat) : Int) < (l.length : Int)) = false := decide_eq_false (by omega)
        rw [gd_none (by omega)] at hd
        repeat (first | refine SX.goZ ?_ | refine SX.Go1.sliceHiO rfl rfl rfl rfl rfl (by omega) (by omega) ?_)
        refine ⟨⟨(x * 65536, m, (m : Int) - 1), rfl, by simp only; omega, by simp only; omega⟩, ?_, Nat.lt_succ_self m⟩
        exact St.le_to [] (fun b h => by cases h) ⟨⟨_, rfl, AVto.same rfl⟩, ⟨_, rfl, AVto.same rfl⟩, ⟨_, rfl, AVto.same rfl⟩, ⟨_, rfl, AVto.same rfl⟩, ⟨_, rfl, AVto.same rfl⟩, trivial⟩ ⟨.same rfl rfl, trivial⟩ rfl
  · have d1 : decide ((i : Int) < (l.length : Int)) = false := decide_eq_false (by omega)
    rw [List.take_of_length_le (show l.length ≤ i by omega)] at h4
    repeat (first | refine SX.goZ ?_ | refine SX.Go1.sliceHiO rfl rfl rfl rfl rfl (by omega) (by omega) ?_)
    refine WP.loop (ι := {n : Nat // tlen ws ≤ n ∧ n ≤ ws.length}) (fun n => mkSt [(3, .own 101)] [(101, .row 41 1 n.val ((ws.take n.val).map wrdC))]) (fun n => n.val) ⟨ws.length, tlen_le ws, Nat.le_refl _⟩
      (St.le_to [(101, some 100)] (fun b h => by cases h) ⟨⟨_, rfl, AVto.own rfl⟩, trivial⟩ ⟨.row rfl rfl rfl (by rw [List.take_length]), trivial⟩ rfl) (fun n => ?_)
    obtain ⟨n, g1, g2⟩ := n
    simp only
    have hwl : ws.length ≤ 100000000 := by omega
    have fin : n = tlen ws → ∀ (E : Env) (S : Nat → Prop) (w : World) (v : Value), AV0.has E S w (.one (.c (.sat (sliceR 1 n ((ws.take n).map wrdC))))) v → AV0.has E S w (.one (.c (.sat (rawN (wds (nval 65536 l)))))) v := by
      intro e E S w v h
      have hu := wds_uniq (h3.take (tlen ws)) (nrm_tlen ws)
      rw [nval_tlen, h4] at hu
      rw [e, hu] at h
      have hl2 : (wds (nval 65536 l)).length = tlen ws := by rw [← hu, List.length_take]; exact Nat.min_eq_left (tlen_le ws)
      exact rawN_iff.2 ⟨wds_sm _, by rw [hl2]; exact h⟩
    by_cases h0 : n = 0
    · have d2 : decide ((0 : Int) < (n : Int)) = false := decide_eq_false (by omega)
      refine WP.freeze 101 hB rfl ?_
      repeat (first | refine SX.goZ ?_ | refine SX.Go1.sliceHiO rfl rfl rfl rfl rfl (by omega) (by omega) ?_)
      exact RetOK.mk1 (ResOK.imp (ResOK.tmp rfl) (fin (by omega)))
    · obtain ⟨m, rfl⟩ : ∃ m, n = m + 1 := ⟨n - 1, by omega⟩
      have d2 : decide ((0 : Int) < ((m + 1 : Nat) : Int)) = true := decide_eq_true (by omega)
      have a2 : IntKind.i64.wrap (((m + 1 : Nat) : Int) - 1) = (m : Int) := by rw [show ((m + 1 : Nat) : Int) - 1 = (m : Int) by omega]; exact wrapI64 (by omega) (by omega)
      have hg : (ws.take (m + 1))[m]? = some (ws.getD m 0) := by rw [List.getElem?_take, if_pos (by omega)]; exact gd_get (by omega)
      by_cases he : tlen ws = m + 1
      · have d3 : decide (((ws.getD m 0 : Nat) : Int) = 0) = false := by
          refine decide_eq_false fun e => tlen_last (l := ws) (by omega) ?_
          rw [he, show m + 1 - 1 = m by omega]; omega
        refine WP.freeze 101 hB rfl ?_
        repeat (first | refine SX.goZ ?_ | refine SX.Go1.sliceHiO rfl rfl rfl rfl rfl (by omega) (by omega) ?_)
        exact RetOK.mk1 (ResOK.imp (ResOK.tmp rfl) (fin (by omega)))
      · have d3 : decide (((ws.getD m 0 : Nat) : Int) = 0) = true := by
          have := tlen_zero (l := ws) (i := m) (by omega)
          exact decide_eq_true (by omega)
        repeat (first | refine SX.goZ ?_ | refine SX.Go1.sliceHiO rfl rfl rfl rfl rfl (by omega) (by omega) ?_)
        refine ⟨⟨m, by omega, by omega⟩, ?_, Nat.lt_succ_self m⟩
        exact St.le_to [(101, some 54)] (fun b h => by cases h) ⟨⟨_, rfl, AVto.own rfl⟩, trivial⟩ ⟨.row rfl rfl rfl (by rw [show ((m : Nat) : Int).toNat = m from rfl, Nat.mul_one, ← List.map_take, List.take_take, Nat.min_eq_left (by omega)]), trivial⟩ rfl
end Go.Proofs.YtkdonndeogihfaaDoor

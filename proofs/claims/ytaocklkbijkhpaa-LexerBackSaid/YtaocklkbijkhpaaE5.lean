import Derived.Test.YtaocklkbijkhpaaE4
/- The statements of package quincunxlaw27 answer true. -/
set_option linter.unusedVariables false
set_option linter.unusedSimpArgs false
namespace Go.Proofs.Ytaocklkbijkhpaa
open Go.RowKit SX
attribute [local irreducible] IntKind.wrap Go1 Reg WP thenK inBlk retQ retF RetF RetOK ResOK CallOK OpOK Sat
/-- What reading comes to, in facts. -/
theorem lexR_facts (l : List UInt8) : ((lexR l).2.2 = 0 ∧ (lexR l).2.1 = 0 ∧ okP l 0 (lexR l).1 ∧ (lexR l).1.all isTok = true ∧ ((lexR l).1.map fun t => t.text.length + 1).sum ≤ 2 * l.length) ∨ ((lexR l).2.2 ≠ 0 ∧ (lexR l).1 = []) := by
  have h := lexW_ok l (gp false l)
  unfold lexR
  split
  · right; exact ⟨by simp, rfl⟩
  · split
    · right; exact ⟨by simp, rfl⟩
    · left; exact ⟨rfl, rfl, okP_mono l (Nat.zero_le _) _ h.1, h.2.1, by have := h.2.2; show ((lexW l (gp false l)).1.map _).sum ≤ _; omega⟩
theorem sum_len : ∀ ts : List Tok, ts.length ≤ (ts.map fun t => t.text.length + 1).sum
  | [] => by simp
  | t :: ts => by
    have := sum_len ts
    rw [List.map_cons, List.sum_cons, List.length_cons]; omega
abbrev tup3 (ts : List Tok) (p e : Nat) : AV := .tup [.one (.c (.sat (rowR 3 tokC ts))), .one (.c (.val (.int .i64 (p : Int)))), .one (.c (.val (.int .i64 (e : Int))))]
theorem call_Lex {l : List UInt8} {ts : List Tok} {p e : Nat} (hl : l.length ≤ 1000000000) (h : lexR l = (ts, p, e)) : PureOK Try.prog 11 [.v (str l)] (tup3 ts p e) := by
  have := (con_Lex l).h hl
  rw [h] at this; exact this
theorem call_Join {ts : List Tok} {s : List UInt8} {e : Nat} (hn : ts.length ≤ 1000000 ∧ ∀ t ∈ ts, t.text.length ≤ 1000000) (h : joinR ts = (s, e)) : PureOK Try.prog 14 [.r (rowR 3 tokC ts)] (.tup [.one (.c (.val (str s))), .one (.c (.val (.int .i64 (e : Int))))]) := by
  have := (con_Join ts).h hn
  rw [h] at this; exact this
deriving instance DecidableEq for Tok
theorem awake_lex : lexR [97, 49, 61, 61, 50] = ([⟨2, [97, 49], 0⟩, ⟨3, [61, 61], 2⟩, ⟨1, [50], 4⟩], 0, 0) := by
  have g0 : gp false [97, 49, 61, 61, 50] = 0 := by decide +kernel
  have f0 : fst [97, 49, 61, 61, 50] = ⟨2, [97, 49], 0⟩ := by decide +kernel
  have f1 : fst [61, 61, 50] = ⟨3, [61, 61], 0⟩ := by decide +kernel
  have f2 : fst [50] = ⟨1, [50], 0⟩ := by decide +kernel
  have g1 : gp false [61, 61, 50] = 0 := by decide +kernel
  have g2 : gp false [50] = 0 := by decide +kernel
  have g3 : gp false [] = 0 := by decide +kernel
  have h5 : lexW [97, 49, 61, 61, 50] 5 = ([], none) := by rw [lexW.eq_1]; rfl
  have h4 : lexW [97, 49, 61, 61, 50] 4 = ([⟨1, [50], 4⟩], none) := by
    rw [lexW.eq_1, dif_neg (by decide)]
    simp [f2, g3, h5]
  have h2 : lexW [97, 49, 61, 61, 50] 2 = ([⟨3, [61, 61], 2⟩, ⟨1, [50], 4⟩], none) := by
    rw [lexW.eq_1, dif_neg (by decide)]
    simp [f1, g2, h4]
  have h0 : lexW [97, 49, 61, 61, 50] 0 = ([⟨2, [97, 49], 0⟩, ⟨3, [61, 61], 2⟩, ⟨1, [50], 4⟩], none) := by
    rw [lexW.eq_1, dif_neg (by decide)]
    simp [f0, g1, h2]
  unfold lexR
  rw [g0, h0]; rfl
instance con_awake27 : Con Try.prog 10 [] True (.v (.bool true)) := ⟨fun _ => by
  have cL := call_Lex (by decide) awake_lex
  have h1 : ([⟨2, [97, 49], 0⟩, ⟨3, [61, 61], 2⟩, ⟨1, [50], 4⟩] : List Tok)[1]? = some ⟨3, [61, 61], 2⟩ := rfl
  have h2 : ([⟨2, [97, 49], 0⟩, ⟨3, [61, 61], 2⟩, ⟨1, [50], 4⟩] : List Tok)[2]? = some ⟨1, [50], 4⟩ := rfl
  refine PureOK.fnF Try.func10 Try.results10 Try.ntmps10 rfl rfl rfl (by simp [AV.ids, AV0.ids, Atom.ids]) rfl (fun w0 T B E0 hB => ?_)
  repeat' (first | refine SX.go ?_ | refine SX.W.ite (fun h => ?_) (fun h => ?_) | refine SX.W.iteN (fun h => ?_) (fun h => ?_) | refine SX.W.iteB (fun h => ?_) (fun h => ?_) | refine SX.R.ite (fun h => ?_) (fun h => ?_) | refine SX.R.iteN (fun h => ?_) (fun h => ?_) | refine SX.R.iteB (fun h => ?_) (fun h => ?_))
  all_goals (refine retB ?_; decide)⟩
theorem sameT_symm (b : Bool) : ∀ l m : List Tok, sameT b l m = sameT b m l
  | [], [] => rfl
  | s :: l, t :: m => by
    have h := sameT_symm b l m
    simp only [sameT, h]
    rw [decide_eq_decide.2 (eq_comm (a := s.kind) (b := t.kind)), decide_eq_decide.2 (eq_comm (a := s.text) (b := t.text)), decide_eq_decide.2 (eq_comm (a := s.pos) (b := t.pos))]
  | [], _ :: _ => rfl
  | _ :: _, [] => rfl
theorem sameT_lenEq {b : Bool} {l m : List Tok} (h : sameT b l m = true) : l.length = m.length :=
  Decidable.byContradiction fun hn => by rw [sameT_len b l m hn] at h; cases h
theorem sum_mem : ∀ {ts : List Tok} {t : Tok}, t ∈ ts → t.text.length + 1 ≤ (ts.map fun t => t.text.length + 1).sum
  | u :: ts, t, h => by
    rw [List.map_cons, List.sum_cons]
    rcases List.mem_cons.1 h with rfl | h
    · omega
    · have := sum_mem h; omega
theorem sum_le (M : Nat) : ∀ {ts : List Tok}, (∀ t ∈ ts, t.text.length ≤ M) → (ts.map fun t => t.text.length + 1).sum ≤ ts.length * (M + 1)
  | [], _ => by simp
  | u :: ts, h => by
    have h1 := sum_le M (ts := ts) fun t ht => h t (by simp [ht])
    have h2 := h u (by simp)
    rw [List.map_cons, List.sum_cons, List.length_cons, Nat.add_mul]; omega
theorem LexerPlaces_ok (l : List UInt8) (h : l.length ≤ maxLen) : PureOK Try.prog 3 [.v (str l)] (.v (.bool true)) := by
  refine PureOK.fnF Try.func3 Try.results3 Try.ntmps3 rfl rfl rfl (by simp [AV.ids, AV0.ids, Atom.ids]) rfl (fun w0 T B E0 hB => ?_)
  by_cases hl : l.length ≤ 3000
  · obtain ⟨ts, p, e, hE⟩ : ∃ ts p e, lexR l = (ts, p, e) := ⟨_, _, _, rfl⟩
    have cL := call_Lex (by omega) hE
    have hF := lexR_facts l
    rw [hE] at hF
    have hsum := sum_len ts
    have hn : ts.length ≤ 6000 := by
      rcases hF with hF | hF
      · have h5 : (ts.map fun t => t.text.length + 1).sum ≤ 2 * l.length := hF.2.2.2.2
        omega
      · rw [show ts = [] from hF.2]; exact Nat.zero_le _
    have hP : e = 0 → okP l 0 ts := fun he => by
      rcases hF with hF | hF
      · exact hF.2.2.1
      · exact absurd he hF.1
    clear hF
    refine SX.go ?_
    refine W.loop2 (fun (k d : Nat) => k ≤ ts.length ∧ (e = 0 → okP l d (ts.drop k))) (fun k d => [(0, .v (str l)), (3, .r (rowR 3 tokC ts)), (5, .v (.int .i64 (e : Int))), (6, .v (.int .i64 (d : Int))), (7, .v (.int .i64 (k : Int)))]) (fun _ _ => []) (fun k _ => ts.length - k) 0 0 ⟨Nat.zero_le _, by simpa using hP⟩ (fun k d ⟨hk, hx⟩ => ?_)
    by_cases hlt : k < ts.length ∧ e = 0
    · obtain ⟨hlt, he⟩ := hlt
      obtain ⟨⟨tk, tt, tp⟩, ht⟩ : ∃ t, ts[k]? = some t := ⟨_, List.getElem?_eq_getElem hlt⟩
      have hx' := hx he
      have hd : ts.drop k = ⟨tk, tt, tp⟩ :: ts.drop (k + 1) := by
        obtain ⟨h3, h4⟩ := List.getElem?_eq_some_iff.1 ht
        rw [List.drop_eq_getElem_cons h3, h4]
      rw [hd] at hx'
      obtain ⟨q, h1, h2, h3, h4, h5, h6⟩ := hx'
      have h1' : tp = (q : Int) := h1
      subst h1'
      have h3' : decide (tt = []) = false := decide_eq_false h3
      have h4' : q + tt.length ≤ l.length := h4
      have h5' : decide ((l.drop q).take (q + tt.length - q) = tt) = true := decide_eq_true (by rw [Nat.add_sub_cancel_left]; exact h5)
      refine SX.go ?_
      exact W.next2 (k + 1) (q + tt.length) ⟨by omega, fun _ => h6⟩ (by omega)
    · repeat' (first | refine SX.go ?_ | refine SX.W.ite (fun h => ?_) (fun h => ?_) | refine SX.W.iteN (fun h => ?_) (fun h => ?_) | refine SX.W.iteB (fun h => ?_) (fun h => ?_) | refine SX.R.ite (fun h => ?_) (fun h => ?_) | refine SX.R.iteN (fun h => ?_) (fun h => ?_) | refine SX.R.iteB (fun h => ?_) (fun h => ?_))
      all_goals exact retB rfl
  · refine SX.go ?_
    exact retB rfl
theorem LexerIs_ok (t : Tok) (h : t.text.length ≤ maxLen) : PureOK Try.prog 4 [.agg (tokA t)] (.v (.bool true)) := by
  refine PureOK.fnF Try.func4 Try.results4 Try.ntmps4 rfl rfl rfl (by simp [AV.ids, AV0.ids, Atom.ids]) rfl (fun w0 T B E0 hB => ?_)
  by_cases hl : t.text.length ≤ 3000
  · have cI := (con_Is t).h (by omega)
    have cR := (con_RIs t).h (by omega)
    have hj := lexR_join [t]
    have ej : Lib.join (([t] : List Tok).map (·.text)) [32] = t.text := by simp [Lib.join_cons, Lib.joinTail]
    rw [ej] at hj
    obtain ⟨ts, p, e, hE⟩ : ∃ ts p e, lexR t.text = (ts, p, e) := ⟨_, _, _, rfl⟩
    rw [hE] at hj
    have cL := call_Lex (by omega) hE
    cases hb : isTok t
    · rw [hb] at cI cR
      refine SX.go ?_
      exact retB rfl
    · rw [hb] at cI cR
      obtain ⟨h1, _, h3⟩ := hj (by simp [hb]) (by omega)
      have h1' : p = 0 ∧ e = 0 := by simpa using h1
      obtain ⟨rfl, rfl⟩ := h1'
      have h3' : ts = [⟨t.kind, t.text, 0⟩] := h3 rfl
      subst h3'
      have h0 : ([⟨t.kind, t.text, 0⟩] : List Tok)[0]? = some ⟨t.kind, t.text, 0⟩ := rfl
      repeat' (first | refine SX.go ?_ | refine SX.W.ite (fun h => ?_) (fun h => ?_) | refine SX.W.iteN (fun h => ?_) (fun h => ?_) | refine SX.W.iteB (fun h => ?_) (fun h => ?_) | refine SX.R.ite (fun h => ?_) (fun h => ?_) | refine SX.R.iteN (fun h => ?_) (fun h => ?_) | refine SX.R.iteB (fun h => ?_) (fun h => ?_))
      all_goals first | exact absurd rfl ‹¬ _› | (refine retB ?_; simp)
  · refine SX.go ?_
    exact retB rfl
theorem LexerBack_ok (l : List Tok) (h : l.length ≤ maxLen ∧ ∀ t ∈ l, t.text.length ≤ maxLen) : PureOK Try.prog 5 [.r (rowR 3 tokC l)] (.v (.bool true)) := by
  obtain ⟨h0, h1⟩ := h
  refine PureOK.fnF Try.func5 Try.results5 Try.ntmps5 rfl rfl rfl (by simp [AV.ids, AV0.ids, Atom.ids]) rfl (fun w0 T B E0 hB => ?_)
  by_cases hl : l.length ≤ 200
  · refine SX.go ?_
    refine W.loop (fun k => k ≤ l.length ∧ ∀ t ∈ l.take k, t.text.length ≤ 90) (fun k => [(0, .r (rowR 3 tokC l)), (3, .v (.bool ((l.take k).all isTok))), (4, .v (.int .i64 (k : Int)))]) (fun _ => []) (fun k => l.length - k) 0 ⟨Nat.zero_le _, by simp⟩ (fun k ⟨hk, hx⟩ => ?_)
    by_cases hlt : k < l.length
    · obtain ⟨t, ht⟩ : ∃ t, l[k]? = some t := ⟨_, List.getElem?_eq_getElem hlt⟩
      have htk : l.take (k + 1) = l.take k ++ [t] := by rw [List.take_add_one, ht]; rfl
      by_cases h90 : t.text.length ≤ 90
      · have hx' : k + 1 ≤ l.length ∧ ∀ t ∈ l.take (k + 1), t.text.length ≤ 90 := ⟨by omega, fun u hu => by
          rw [htk, List.mem_append] at hu
          rcases hu with hu | hu
          · exact hx u hu
          · rw [List.mem_singleton.1 hu]; exact h90⟩
        have cR := (con_RIs t).h (by omega)
        cases hg : (l.take k).all isTok
        · have e1 : false = (l.take (k + 1)).all isTok := by rw [htk, List.all_append, hg]; rfl
          refine SX.go ?_
          exact W.next (k + 1) hx' (by omega)
        · have e1 : isTok t = (l.take (k + 1)).all isTok := by rw [htk, List.all_append, hg]; simp
          refine SX.go ?_
          exact W.next (k + 1) hx' (by omega)
      · refine SX.go ?_
        exact retB rfl
    · have hkl : l.take k = l := List.take_of_length_le (by omega)
      rw [hkl] at hx
      have hs := sum_le 90 hx
      have hjl := join_le l
      rw [hkl]
      have hJ : l.length ≤ 1000000 ∧ ∀ t ∈ l, t.text.length ≤ 1000000 := ⟨by omega, fun t ht => by have := hx t ht; omega⟩
      cases hg : l.all isTok
      · have e : joinR l = ([], 1) := by unfold joinR; rw [hg]; rfl
        have cJ := call_Join hJ e
        refine SX.go ?_
        exact retB rfl
      · have e1 := joinR_ok l hg (by omega)
        have e : joinR l = (Lib.join (l.map (·.text)) [32], 0) := by rw [← e1.1, ← e1.2]
        have cJ := call_Join hJ e
        obtain ⟨h2, h3, _⟩ := lexR_join l hg (by omega)
        obtain ⟨ts, p, f, hE⟩ : ∃ ts p e, lexR (Lib.join (l.map (·.text)) [32]) = (ts, p, e) := ⟨_, _, _, rfl⟩
        rw [hE] at h2 h3
        have h2' : p = 0 ∧ f = 0 := by simpa using h2
        obtain ⟨rfl, rfl⟩ := h2'
        have cL := call_Lex (by omega) hE
        have hln := sameT_lenEq h3
        have hln' : ts.length = l.length := hln
        have cS := (con_Same ts l false).h ⟨by omega, by omega⟩
        rw [show sameT false ts l = true from h3] at cS
        refine SX.go ?_
        exact retB rfl
  · refine SX.go ?_
    exact retB rfl
theorem LexerAgain_ok (l : List UInt8) (h : l.length ≤ maxLen) : PureOK Try.prog 6 [.v (str l)] (.v (.bool true)) := by
  refine PureOK.fnF Try.func6 Try.results6 Try.ntmps6 rfl rfl rfl (by simp [AV.ids, AV0.ids, Atom.ids]) rfl (fun w0 T B E0 hB => ?_)
  by_cases hl : l.length ≤ 3000
  · obtain ⟨ts, p, e, hE⟩ : ∃ ts p e, lexR l = (ts, p, e) := ⟨_, _, _, rfl⟩
    have cL := call_Lex (by omega) hE
    have hF := lexR_facts l
    rw [hE] at hF
    rcases hF with ⟨h1, h2, _, h4, h5⟩ | ⟨h1, h2⟩
    · have h1' : e = 0 := h1
      have h2' : p = 0 := h2
      subst h1' h2'
      have h4' : ts.all isTok = true := h4
      have h5' : (ts.map fun t => t.text.length + 1).sum ≤ 2 * l.length := h5
      have hln := sum_len ts
      have hjl := join_le ts
      have hJ : ts.length ≤ 1000000 ∧ ∀ t ∈ ts, t.text.length ≤ 1000000 := ⟨by omega, fun t ht => by have := sum_mem ht; omega⟩
      have e1 := joinR_ok ts h4' (by omega)
      have e : joinR ts = (Lib.join (ts.map (·.text)) [32], 0) := by rw [← e1.1, ← e1.2]
      have cJ := call_Join hJ e
      obtain ⟨h6, h7, _⟩ := lexR_join ts h4' (by omega)
      obtain ⟨us, q, f, hE2⟩ : ∃ us q f, lexR (Lib.join (ts.map (·.text)) [32]) = (us, q, f) := ⟨_, _, _, rfl⟩
      rw [hE2] at h6 h7
      have h6' : q = 0 ∧ f = 0 := by simpa using h6
      obtain ⟨rfl, rfl⟩ := h6'
      have cL2 := call_Lex (by omega) hE2
      have hln2 := sameT_lenEq h7
      have hln2' : us.length = ts.length := hln2
      have cS := (con_Same ts us false).h ⟨by omega, by omega⟩
      rw [show sameT false ts us = true from by rw [sameT_symm]; exact h7] at cS
      refine SX.go ?_
      exact retB rfl
    · have h1' : e ≠ 0 := h1
      have h2' : ts = [] := h2
      subst h2'
      refine SX.go ?_
      exact retB rfl
  · refine SX.go ?_
    exact retB rfl
end Go.Proofs.Ytaocklkbijkhpaa

import Derived.Test.YtaocklkbijkhpaaE3
/- Plain laws of tokens: what is joined is read as the same tokens; tokens stand at their places. -/
set_option linter.unusedVariables false
set_option linter.unusedSimpArgs false
namespace Go.Proofs.Ytaocklkbijkhpaa
open Go.RowKit SX
/- Plain laws of tokens. -/
theorem fst_pre (l : List UInt8) : (fst l).text = l.take (fst l).text.length := by
  have key : ∀ n : Nat, l.take n = l.take (l.take n).length := fun n => by
    rw [List.length_take, List.take_eq_take_iff]; omega
  unfold fst
  repeat' split
  all_goals first | exact key _ | simp
theorem isTok_at {t : Tok} {k : Int} {x : List UInt8} {p : Int} (h1 : t.kind = k) (h2 : t.text = x) : isTok t = isTok ⟨k, x, p⟩ := by
  subst h1; subst h2; rw [isTok_eq, isTok_eq]
theorem fst_tok (l : List UInt8) (h : (fst l).kind ≠ 0) (p : Int) : isTok ⟨(fst l).kind, (fst l).text, p⟩ = true := by
  rw [isTok_eq]
  unfold fst at *
  repeat' split at h
  all_goals first | exact absurd rfl h | skip
  · rename_i h1; rw [if_pos h1]; exact h1
  · rename_i h1 h2; rw [if_neg h1, if_pos h2]; exact h2
  · rename_i h1 h2 h3; rw [if_neg h1, if_neg h2, if_pos h3]
    show sgt _ = true
    rw [sgt_iff]; exact .inr h3.2
  · rename_i h1 h2 h3 h4; rw [if_neg h1, if_neg h2, if_neg h3, if_pos h4]
    show sgt _ = true
    rw [sgt_iff]; exact .inl ((sg1_iff _).1 h4)
theorem wrd_32 : wrd 32 = false := by unfold wrd srt; decide
theorem run_app (l r : List UInt8) (h : l.all wrd = true) (hr : r = [] ∨ ∃ s, r = 32 :: s) : run (l ++ r) = l.length := by
  have hr0 : r.takeWhile wrd = [] := by
    rcases hr with rfl | ⟨s, rfl⟩
    · rfl
    · rw [List.takeWhile_cons, wrd_32]; rfl
  unfold run
  rw [List.takeWhile_append_of_pos (by simpa using h), hr0, List.append_nil]
theorem num_facts {l : List UInt8} (h : num l = true) : l.all wrd = true ∧ ∃ c m, l = c :: m ∧ srt c = 2 := by
  rw [num_all, Bool.and_eq_true, decide_eq_true_iff] at h
  obtain ⟨h1, h2⟩ := h
  refine ⟨?_, ?_⟩
  · rw [List.all_eq_true] at *
    intro c hc
    have := h2 c hc
    unfold wrd; rw [this]; rfl
  · match l, h1 with
    | c :: m, _ => exact ⟨c, m, rfl, by simpa using (List.all_eq_true.1 h2) c (by simp)⟩
theorem nam_facts {l : List UInt8} (h : nam l = true) : l.all wrd = true ∧ ∃ c m, l = c :: m ∧ srt c = 3 := by
  rw [nam_all, Bool.and_eq_true, decide_eq_true_iff] at h
  obtain ⟨h1, h2⟩ := h
  refine ⟨h2, ?_⟩
  match l, h1 with
  | c :: m, h1 => exact ⟨c, m, rfl, by simpa [byt] using h1.2.2⟩
theorem sgt_facts {l : List UInt8} (h : sgt l = true) : ∃ c m, l = c :: m ∧ srt c = 5 ∧ c.toNat ≠ 35 := by
  rw [sgt_iff] at h
  rcases h with ⟨c, rfl, h⟩ | h
  · refine ⟨c, [], rfl, ?_⟩
    simp only [List.mem_cons, List.not_mem_nil, or_false] at h
    unfold srt
    rcases h with rfl | rfl | rfl | rfl | rfl | rfl | rfl | rfl | rfl | rfl | rfl | rfl | rfl | rfl | rfl <;> decide
  · unfold srt
    rcases h with rfl | rfl | rfl | rfl <;> exact ⟨_, _, rfl, by decide, by decide⟩
theorem tok_first {t : Tok} (h : isTok t = true) : ∃ c m, t.text = c :: m ∧ srt c ≠ 1 ∧ c.toNat ≠ 35 := by
  rw [isTok_eq] at h
  repeat' split at h
  · obtain ⟨c, m, e, hc⟩ := (num_facts h).2
    exact ⟨c, m, e, by omega, by rw [srt2] at hc; omega⟩
  · obtain ⟨c, m, e, hc⟩ := (nam_facts h).2
    exact ⟨c, m, e, by omega, by rw [srt3] at hc; omega⟩
  · obtain ⟨c, m, e, hc, h35⟩ := sgt_facts h
    exact ⟨c, m, e, by omega, h35⟩
  · cases h
theorem gp_tok {t : Tok} (h : isTok t = true) (r : List UInt8) : gp false (t.text ++ r) = 0 := by
  obtain ⟨c, m, e, h1, h2⟩ := tok_first h
  rw [e, List.cons_append, gp, if_neg h1, if_neg h2]
theorem fst_app {t : Tok} (ht : isTok t = true) (r : List UInt8) (hr : r = [] ∨ ∃ s, r = 32 :: s) : fst (t.text ++ r) = ⟨t.kind, t.text, 0⟩ := by
  have ht' := ht
  rw [isTok_eq] at ht
  split at ht
  · rename_i hk
    have e := run_app t.text r (num_facts ht).1 hr
    unfold fst
    rw [e, List.take_left', if_pos ht, hk]
    rfl
  · split at ht
    · rename_i hk0 hk
      have e := run_app t.text r (nam_facts ht).1 hr
      have hn : num t.text = false := by
        rw [Bool.eq_false_iff]; intro hn
        obtain ⟨c, m, e1, h1⟩ := (num_facts hn).2
        obtain ⟨c', m', e2, h2⟩ := (nam_facts ht).2
        rw [e1] at e2; cases e2; omega
      unfold fst
      rw [e, List.take_left' rfl, hn, if_neg (by simp), if_pos ht, hk]
    · split at ht
      · rename_i _ _ hk
        obtain ⟨c, m, e0, hc, h35⟩ := sgt_facts ht
        have hw : wrd c = false := by unfold wrd; rw [hc]; rfl
        have hrun : run (t.text ++ r) = 0 := by unfold run; rw [e0, List.cons_append, List.takeWhile_cons, hw]; rfl
        have hn : num [] = false := by unfold num; rfl
        have hm : nam [] = false := by unfold nam; rfl
        unfold fst
        rw [hrun, List.take_zero, hn, hm, if_neg (by simp), if_neg (by simp)]
        rw [sgt_iff] at ht
        rcases ht with ⟨c', e1, hc'⟩ | h2
        · rw [e1]
          have hs : sg1 [c'] = true := (sg1_iff _).2 ⟨c', rfl, hc'⟩
          rw [if_neg, if_pos (by simpa using hs), hk]
          · simp
          · rcases hr with rfl | ⟨s, rfl⟩
            · simp
            · simp
        · have hlen : t.text.length = 2 := by rcases h2 with h | h | h | h <;> rw [h] <;> rfl
          have ht2 : (t.text ++ r).take 2 = t.text := List.take_left' hlen
          rw [ht2, if_pos ⟨by rw [List.length_append]; omega, h2⟩, hk]
      · cases ht
/-- What is joined is read as the same tokens. -/
theorem lexW_join : ∀ (ts : List Tok) (l : List UInt8) (k : Nat), ts.all isTok = true → l.drop k = Lib.join (ts.map (·.text)) [32] →
    (lexW l k).2 = none ∧ sameT false (lexW l k).1 ts = true ∧ (ts.length = 1 → (lexW l k).1 = ts.map fun t => ⟨t.kind, t.text, k⟩)
  | [], l, k, _, h => by
    have hk : l.length ≤ k := List.drop_eq_nil_iff.1 h
    rw [lexW.eq_1, dif_pos hk]; exact ⟨rfl, rfl, by simp⟩
  | t :: ts, l, k, ha, h => by
    rw [List.all_cons, Bool.and_eq_true] at ha
    obtain ⟨ht, ha⟩ := ha
    obtain ⟨c, m, e0, _, _⟩ := tok_first ht
    obtain ⟨r, hr, hj, hg⟩ : ∃ r, (r = [] ∨ ∃ s, r = 32 :: s) ∧ l.drop k = t.text ++ r ∧ r.drop (gp false r) = Lib.join (ts.map (·.text)) [32] := by
      cases ts with
      | nil => exact ⟨[], .inl rfl, by rw [h]; rfl, by rw [gp]; rfl⟩
      | cons u us =>
        refine ⟨32 :: Lib.join ((u :: us).map (·.text)) [32], .inr ⟨_, rfl⟩, by rw [h]; simp [Lib.join_cons, Lib.joinTail], ?_⟩
        have hu : isTok u = true := by rw [List.all_cons, Bool.and_eq_true] at ha; exact ha.1
        rw [gp, if_pos (by unfold srt; decide)]
        rw [List.map_cons, Lib.join_cons, gp_tok hu]; rfl
    have hlen : (l.drop k).length = l.length - k := List.length_drop
    rw [hj, List.length_append, e0, List.length_cons] at hlen
    have hf := fst_app ht r hr
    rw [← hj] at hf
    have hd : l.drop (k + t.text.length) = r := by rw [← List.drop_drop, hj, List.drop_left' rfl]
    have ih := lexW_join ts l (k + t.text.length + gp false r) ha (by rw [← List.drop_drop, hd, hg])
    rw [lexW.eq_1, dif_neg (by omega), hf]
    rw [dif_neg (by
      rintro (h1 | h1)
      · have h1' : t.kind = 0 := h1
        rw [isTok_eq, h1'] at ht; simp at ht
      · have h1' : t.text.length = 0 := h1
        rw [e0] at h1'; cases h1')]
    show ((lexW l (k + t.text.length + gp false (l.drop (k + t.text.length)))).2 = none ∧ _)
    rw [hd]
    refine ⟨ih.1, ?_, fun h1 => ?_⟩
    · show (decide (t.kind = t.kind) && decide (t.text = t.text) && (!false || decide ((k : Int) = t.pos)) && sameT false _ ts) = true
      rw [ih.2.1]; simp
    · have : ts = [] := by cases ts with | nil => rfl | cons _ _ => simp at h1
      subst this
      rw [lexW.eq_1, dif_pos (by
        show l.length ≤ k + t.text.length + gp false _
        rcases hr with rfl | ⟨s, rfl⟩
        · have := List.drop_eq_nil_iff.1 hd; omega
        · rw [show Lib.join (([] : List Tok).map (·.text)) [32] = [] from rfl] at hg
          have h1 := List.drop_eq_nil_iff.1 hg
          have h2 : (l.drop (k + t.text.length)).length = l.length - (k + t.text.length) := List.length_drop
          rw [hd] at h2; omega)]; rfl
/-- What is joined, and how long it is. -/
theorem joinR_ok (ts : List Tok) (h : ts.all isTok = true) (hs : (ts.map fun t => t.text.length + 1).sum ≤ 20001) :
    (joinR ts).2 = 0 ∧ (joinR ts).1 = Lib.join (ts.map (·.text)) [32] := by
  have key : ∀ (us : List Tok) (n : Nat), us.foldl (fun n t => min (n + t.text.length + 1) 40000) n ≤ n + (us.map fun t => t.text.length + 1).sum := by
    intro us
    induction us with
    | nil => intro n; simp
    | cons u us ih =>
      intro n
      have := ih (min (n + u.text.length + 1) 40000)
      rw [List.foldl_cons, List.map_cons, List.sum_cons]; omega
  have := key ts 0
  unfold joinR
  rw [h, if_pos rfl, if_neg (by omega)]; exact ⟨rfl, rfl⟩
theorem lexR_join (ts : List Tok) (h : ts.all isTok = true) (hl : (Lib.join (ts.map (·.text)) [32]).length ≤ 20000) :
    (lexR (Lib.join (ts.map (·.text)) [32])).2 = (0, 0) ∧ sameT false (lexR (Lib.join (ts.map (·.text)) [32])).1 ts = true ∧ (ts.length = 1 → (lexR (Lib.join (ts.map (·.text)) [32])).1 = ts.map fun t => ⟨t.kind, t.text, 0⟩) := by
  have hg : gp false (Lib.join (ts.map (·.text)) [32]) = 0 := by
    cases ts with
    | nil => exact gp.eq_1 _
    | cons t ts =>
      rw [List.map_cons, Lib.join_cons]; exact gp_tok (by rw [List.all_cons, Bool.and_eq_true] at h; exact h.1) _
  have h0 := lexW_join ts _ 0 h (List.drop_zero ..)
  unfold lexR
  rw [if_neg (by omega), hg, h0.1]
  exact ⟨rfl, h0.2⟩
/-- The tokens of a text stand at their places. -/
def okP (l : List UInt8) : Nat → List Tok → Prop
  | _, [] => True
  | n, t :: ts => ∃ p : Nat, t.pos = p ∧ n ≤ p ∧ t.text ≠ [] ∧ p + t.text.length ≤ l.length ∧ (l.drop p).take t.text.length = t.text ∧ okP l (p + t.text.length) ts
theorem okP_mono (l : List UInt8) {m n : Nat} (h : m ≤ n) : ∀ ts, okP l n ts → okP l m ts
  | [], _ => trivial
  | t :: ts, ⟨p, h1, h2, h3⟩ => ⟨p, h1, by omega, h3⟩
theorem lexW_ok (l : List UInt8) (k : Nat) : okP l k (lexW l k).1 ∧ ((lexW l k).1).all isTok = true ∧ ((lexW l k).1.map fun t => t.text.length + 1).sum ≤ 2 * (l.length - k) := by
  rw [lexW.eq_1]
  have hlen : (l.drop k).length = l.length - k := List.length_drop
  have h3 := fst_len (l.drop k)
  split
  · exact ⟨trivial, rfl, by simp⟩
  · rename_i hk
    split
    · exact ⟨trivial, rfl, by simp⟩
    · rename_i hf
      have ih := lexW_ok l (k + (fst (l.drop k)).text.length + gp false (l.drop (k + (fst (l.drop k)).text.length)))
      refine ⟨⟨k, rfl, Nat.le_refl _, fun e => ?_, ?_, ?_, okP_mono l (by show k + (fst (l.drop k)).text.length ≤ _; omega) _ ih.1⟩, ?_, ?_⟩
      · have e' : (fst (l.drop k)).text = [] := e
        rw [e'] at hf; simp at hf
      · show k + (fst (l.drop k)).text.length ≤ _; omega
      · exact (fst_pre (l.drop k)).symm
      · rw [List.all_cons, ih.2.1, fst_tok _ (fun e => hf (.inl e))]; rfl
      · rw [List.map_cons, List.sum_cons]
        show (fst (l.drop k)).text.length + 1 + _ ≤ _
        have := ih.2.2
        have h4 : (fst (l.drop k)).text.length ≠ 0 := fun e => hf (.inr e)
        omega
termination_by l.length - k
decreasing_by omega
theorem join_le : ∀ ts : List Tok, (Lib.join (ts.map (·.text)) [32]).length ≤ (ts.map fun t => t.text.length + 1).sum
  | [] => by simp [Lib.join_nil]
  | t :: ts => by
    have key : ∀ us : List Tok, (Lib.joinTail [32] (us.map (·.text))).length ≤ (us.map fun t => t.text.length + 1).sum := by
      intro us
      induction us with
      | nil => simp [Lib.joinTail]
      | cons u us ih => simp only [Lib.joinTail, List.map_cons, List.flatten_cons, List.length_append, List.length_cons, List.sum_cons, List.length_nil] at *; omega
    have := key ts
    rw [List.map_cons, Lib.join_cons, List.length_append, List.map_cons, List.sum_cons]; omega
end Go.Proofs.Ytaocklkbijkhpaa

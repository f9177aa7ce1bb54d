import Derived.Test.YtaocklkbijkhpaaHe
/- The statements ParserDepths and ParserOpen. -/
set_option linter.unusedVariables false
set_option linter.unusedSimpArgs false
namespace Go.Proofs.Ytaocklkbijkhpaa
open Go.RowKit SX
set_option maxRecDepth 100000 in
theorem parse_awake : parseR [⟨1, [53], 0⟩, ⟨3, [59], 0⟩] 9 = ([.mk 19 [] [.mk 1 [53] []]], 0, 0) := by kernel_rfl
attribute [local irreducible] IntKind.wrap Go1 Reg WP thenK inBlk retQ retF RetF RetOK ResOK CallOK OpOK Sat
abbrev tupQ (x : List Nd) (p e : Nat) : AV := .tup [.one (.c (.sat (rowR 3 ndC x))), .one (.c (.val (.int .i64 (p : Int)))), .one (.c (.val (.int .i64 (e : Int))))]
theorem call_Parse {l : List Tok} {d : Int} {x : List Nd} {p e : Nat} (hl : l.length ≤ 1000000) (ht : ∀ t ∈ l, t.text.length ≤ 9223372036854775807) (h : parseR l d = (x, p, e)) : PureOK Try.prog 19 [.r (rowR 3 tokC l), .v (.int .i64 d)] (tupQ x p e) := by
  have := c_Parse l d hl ht
  rw [h] at this
  exact this
instance con_pawake : Con Try.prog 17 [] True (.v (.bool true)) := ⟨fun _ => by
  have c : PureOK Try.prog 19 [.r (rowR 3 tokC [⟨1, [53], 0⟩, ⟨3, [59], 0⟩]), .v (.int .i64 9)] (.tup [.one (.c (.sat (sliceR 3 1 [.val (.int .i64 19), .val (str []), .sat (sliceR 3 1 [.val (.int .i64 1), .val (str [53]), .sat (sliceR 3 0 [])])]))), .one (.c (.val (.int .i64 0))), .one (.c (.val (.int .i64 0)))]) := by
    have h := call_Parse (by decide) (by simp) parse_awake
    have e : AV0.one (.c (.sat (rowR 3 ndC [Nd.mk 19 [] [.mk 1 [53] []]]))) = .one (.c (.sat (sliceR 3 1 [.val (.int .i64 19), .val (str []), .sat (sliceR 3 1 [.val (.int .i64 1), .val (str [53]), .sat (sliceR 3 0 [])])]))) := by
      simp only [rowR, List.flatMap_cons, List.flatMap_nil, ndC_eq, List.append_nil, List.length_cons, List.length_nil]; rfl
    unfold tupQ at h
    rw [e] at h
    exact h
  refine PureOK.fnF Try.func17 Try.results17 Try.ntmps17 rfl rfl rfl (by simp [AV.ids, AV0.ids, Atom.ids]) rfl (fun w0 T B E0 hB => ?_)
  refine SX.goP ?_
  refine retB ?_
  rfl⟩
def longT (l : List Tok) : Bool := l.any fun t => decide (100 < t.text.length)
instance con_plong (l : List Tok) : Con Try.prog 18 [.r (rowR 3 tokC l)] (l.length ≤ 1000000) (.v (.bool (longT l))) := ⟨fun hl => by
  refine PureOK.fnF Try.func18 Try.results18 Try.ntmps18 rfl rfl rfl (by simp [AV.ids, AV0.ids, Atom.ids]) rfl (fun w0 T B E0 hB => ?_)
  refine SX.goP ?_
  refine W.loop (fun i : Nat => i ≤ l.length ∧ longT l = longT (l.drop i)) (fun i => [(0, .r (rowR 3 tokC l)), (3, .v (.int .i64 (i : Int)))]) (fun _ => []) (fun i => l.length - i) 0 ⟨Nat.zero_le _, rfl⟩ (fun i ⟨hi, hs⟩ => ?_)
  by_cases hlt : i < l.length
  · obtain ⟨x, hx⟩ : ∃ x, l[i]? = some x := ⟨_, List.getElem?_eq_getElem hlt⟩
    have hd : l.drop i = x :: l.drop (i + 1) := by
      obtain ⟨h, e⟩ := List.getElem?_eq_some_iff.1 hx; rw [← e]; exact List.drop_eq_getElem_cons h
    have hst : longT (l.drop i) = (decide (100 < x.text.length) || longT (l.drop (i + 1))) := by rw [hd]; rfl
    by_cases h : 100 < x.text.length
    · refine SX.goP ?_
      refine retB ?_
      rw [hs, hst, decide_eq_true h]; rfl
    · refine SX.goP ?_
      exact W.next (i + 1) ⟨by omega, by rw [hs, hst, decide_eq_false h]; rfl⟩ (by omega)
  · refine SX.goP ?_
    refine retB ?_
    rw [hs, List.drop_eq_nil_of_le (by omega)]; rfl⟩
theorem prog_cnt {l : List Tok} {S : Gr} (h : Adv 2 l 0 S) : ∀ (f : Nat) (ks : List Nd) (a o : Nat) (r : Nd) (a' : Nat), cntL ks ≤ a → a ≤ l.length → progG l S f ks a o = .ok r a' → cntL r.kids ≤ l.length
  | 0, ks, a, o, r, a', hk, ha, hr => by unfold progG at hr; cases hr
  | f + 1, ks, a, o, r, a', hk, ha, hr => by
    unfold progG at hr
    split at hr
    · have h1 := h a o (by omega) ha
      cases hs : S a o with
      | bad e p n a2 o2 => rw [hs] at hr; cases hr
      | ok n a2 =>
        rw [hs] at hr h1
        obtain ⟨h1, h3, h2⟩ := h1
        exact prog_cnt h f (ks ++ [n]) a2 o r a' (by rw [cntL_append, cntL_cons, cntL_nil]; omega) h2 hr
    · cases hr; show cntL ks ≤ _; omega
theorem progR_cnt {l : List Tok} {r : Nd} {a : Nat} (h : progR l = .ok r a) : cntL r.kids ≤ l.length :=
  prog_cnt (adv_slev 600 l (l.length + 1) 0 (by omega)) _ _ _ _ _ _ (by rw [cntL_nil]; omega) (by omega) h
/-- What a parse of one depth tells of another. -/
theorem parseR_depth (l : List Tok) {d : Nat} (hd : d ≤ 200) : ∃ x p e, parseR l 200 = (x, p, e) ∧ cntL x ≤ l.length ∧
    ((e ≠ 0 ∧ ∃ p', parseR l d = ([], p', e)) ∨ (e = 0 ∧ d < depL x ∧ parseR l d = ([], 0, 8)) ∨ (e = 0 ∧ depL x ≤ d ∧ ∃ p', parseR l d = (x, p', 0))) := by
  have h1 : ¬ ((200 : Int) < 0 ∨ (200 : Int) < 200) := by omega
  have h2 : ¬ ((d : Int) < 0 ∨ 200 < (d : Int)) := by omega
  unfold parseR
  rw [if_neg h1, if_neg h2]
  cases l.all isTok with
  | false => exact ⟨[], 0, 1, rfl, by rw [cntL_nil]; omega, .inl ⟨by decide, 0, rfl⟩⟩
  | true =>
    rw [if_pos rfl, if_pos rfl]
    cases hr : progR l with
    | bad e p n a o =>
      refine ⟨[], p, e, rfl, by rw [cntL_nil]; omega, ?_⟩
      by_cases he : e = 0
      · subst he; exact .inr (.inr ⟨rfl, by rw [depL_nil]; omega, p, rfl⟩)
      · exact .inl ⟨he, p, rfl⟩
    | ok n a =>
      have hc := progR_cnt hr
      dsimp only
      unfold finR
      by_cases h3 : (200 : Int) < (depL n.kids : Int)
      · exact ⟨[], 0, 8, by rw [if_pos h3], by rw [cntL_nil]; omega, .inl ⟨by decide, 0, by rw [if_pos (by omega)]⟩⟩
      · refine ⟨n.kids, 0, 0, by rw [if_neg h3], hc, ?_⟩
        by_cases h4 : (d : Int) < (depL n.kids : Int)
        · exact .inr (.inl ⟨rfl, by omega, by rw [if_pos h4]⟩)
        · exact .inr (.inr ⟨rfl, by omega, 0, by rw [if_neg h4]⟩)
theorem longT_false {l : List Tok} (h : longT l = false) : ∀ t ∈ l, t.text.length ≤ 100 := fun t ht => by
  unfold longT at h
  rw [List.any_eq_false] at h
  have := h t ht
  simpa using this
theorem ParserDepths_ok (l : List Tok) (h : l.length ≤ maxLen ∧ ∀ a ∈ l, a.text.length ≤ maxLen) (z : Int) (hz : IntKind.u8.wrap z = z) : PureOK Try.prog 7 [.r (rowR 3 tokC l), .v (.int .u8 z)] (.v (.bool true)) := by
  rw [IntKind.wrap_u8] at hz
  have cA : PureOK Try.prog 17 [] (.v (.bool true)) := con_pawake.h trivial
  by_cases hl : l.length ≤ 100
  · have cL := (con_plong l).h (by omega)
    cases hlo : longT l with
    | true =>
      rw [hlo] at cL
      refine PureOK.fnF Try.func7 Try.results7 Try.ntmps7 rfl rfl rfl (by simp [AV.ids, AV0.ids, Atom.ids]) rfl (fun w0 T B E0 hB => ?_)
      refine SX.goP ?_
      exact retB rfl
    | false =>
      rw [hlo] at cL
      have ht : ∀ t ∈ l, t.text.length ≤ 9223372036854775807 := fun t hm => by have := longT_false hlo t hm; omega
      obtain ⟨d, rfl⟩ : ∃ d : Nat, z = (d : Int) := ⟨z.toNat, by omega⟩
      have hlt : d % 201 ≤ 200 := by omega
      obtain ⟨x, p, e, hx, hc, hcase⟩ := parseR_depth l hlt
      have cP1 : PureOK Try.prog 19 [.r (rowR 3 tokC l), .v (.int .i64 200)] (tupQ x p e) := call_Parse (by omega) ht hx
      have hdx := depL_le x
      have cD : PureOK Try.prog 20 [.r (rowR 3 ndC x)] (.v (.int .i64 (depL x : Int))) := Con.use (by omega)
      rcases hcase with ⟨he, p', hy⟩ | ⟨he, h1, hy⟩ | ⟨he, h1, p', hy⟩
      · have cP2 := call_Parse (by omega) ht hy
        refine PureOK.fnF Try.func7 Try.results7 Try.ntmps7 rfl rfl rfl (by simp [AV.ids, AV0.ids, Atom.ids]) rfl (fun w0 T B E0 hB => ?_)
        refine SX.goP ?_
        refine retB ?_
        simp
      · subst he
        have cP2 := call_Parse (by omega) ht hy
        refine PureOK.fnF Try.func7 Try.results7 Try.ntmps7 rfl rfl rfl (by simp [AV.ids, AV0.ids, Atom.ids]) rfl (fun w0 T B E0 hB => ?_)
        refine SX.goP ?_
        refine retB ?_
        simp
      · subst he
        have cP2 := call_Parse (by omega) ht hy
        have cS := c_Same (cntL x + 1) x x (by omega) (by omega)
        rw [sameL_refl] at cS
        refine PureOK.fnF Try.func7 Try.results7 Try.ntmps7 rfl rfl rfl (by simp [AV.ids, AV0.ids, Atom.ids]) rfl (fun w0 T B E0 hB => ?_)
        refine SX.goP ?_
        refine retB ?_
        simp
  · refine PureOK.fnF Try.func7 Try.results7 Try.ntmps7 rfl rfl rfl (by simp [AV.ids, AV0.ids, Atom.ids]) rfl (fun w0 T B E0 hB => ?_)
    refine SX.goP ?_
    exact retB rfl
end Go.Proofs.Ytaocklkbijkhpaa

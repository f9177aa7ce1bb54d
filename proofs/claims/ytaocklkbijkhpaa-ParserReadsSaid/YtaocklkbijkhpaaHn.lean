import Derived.Test.YtaocklkbijkhpaaHm
/- The statement ParserReads. -/
set_option linter.unusedVariables false
set_option linter.unusedSimpArgs false
namespace Go.Proofs.Ytaocklkbijkhpaa
open Go.RowKit SX
attribute [local irreducible] IntKind.wrap Go1 Reg WP thenK inBlk retQ retF RetF RetOK ResOK CallOK OpOK Sat
theorem okT_all {l : List Tok} (h : okT l = true) : l.all isTok = true := by
  unfold okT at h
  rw [List.all_eq_true] at *
  intro t ht
  have := h t ht
  rw [Bool.and_eq_true] at this
  exact this.2
theorem okT_long {l : List Tok} (h : okT l = false) (ht : l.all isTok = true) : longT l = true := by
  unfold okT at h
  rw [List.all_eq_false] at h
  obtain ⟨t, hm, hf⟩ := h
  have h1 := List.all_eq_true.1 ht t hm
  rw [h1, Bool.and_true] at hf
  unfold longT
  rw [List.any_eq_true]
  exact ⟨t, hm, by simpa using hf⟩
theorem parseR_arg {l : List Tok} {d : Int} (h : d < 0 ∨ 200 < d) : parseR l d = ([], 0, 1) := by unfold parseR; rw [if_pos h]
theorem parseR_not {l : List Tok} {d : Int} (h : ¬ (d < 0 ∨ 200 < d)) (ht : l.all isTok = false) : parseR l d = ([], 0, 1) := by
  unfold parseR; rw [if_neg h, ht]; rfl
theorem parseR_is {l : List Tok} {d : Int} (h : ¬ (d < 0 ∨ 200 < d)) (ht : l.all isTok = true) : parseR l d = match progR l with
    | .bad e p _ _ _ => ([], p, e)
    | .ok n _ => finR n.kids d := by
  unfold parseR; rw [if_neg h, ht]; rfl
theorem ParserReads_ok (l : List Tok) (h : l.length ≤ maxLen ∧ ∀ a ∈ l, a.text.length ≤ maxLen) (d : Int) (hd : IntKind.i64.wrap d = d) : PureOK Try.prog 9 [.r (rowR 3 tokC l), .v (.int .i64 d)] (.v (.bool true)) := by
  have cA : PureOK Try.prog 17 [] (.v (.bool true)) := con_pawake.h trivial
  by_cases hl : l.length ≤ 200
  · have ht : ∀ t ∈ l, t.text.length ≤ 9223372036854775807 := h.2
    have cT := c_to28 l (by omega)
    by_cases hdd : d < 0 ∨ 200 < d
    · have cP := call_Parse (by omega) ht (parseR_arg (l := l) hdd)
      by_cases hd0 : d < 0
      · refine PureOK.fnF Try.func9 Try.results9 Try.ntmps9 rfl rfl rfl (by simp [AV.ids, AV0.ids, Atom.ids]) rfl (fun w0 T B E0 hB => ?_)
        refine SX.goP ?_
        exact retB rfl
      · refine PureOK.fnF Try.func9 Try.results9 Try.ntmps9 rfl rfl rfl (by simp [AV.ids, AV0.ids, Atom.ids]) rfl (fun w0 T B E0 hB => ?_)
        refine SX.goP ?_
        exact retB rfl
    · cases hok : okT l with
      | false =>
        rw [hok] at cT
        cases hat : l.all isTok with
        | false =>
          have cP := call_Parse (by omega) ht (parseR_not hdd hat)
          refine PureOK.fnF Try.func9 Try.results9 Try.ntmps9 rfl rfl rfl (by simp [AV.ids, AV0.ids, Atom.ids]) rfl (fun w0 T B E0 hB => ?_)
          refine SX.goP ?_
          exact retB rfl
        | true =>
          have cL := (con_plong l).h (by omega)
          rw [okT_long hok hat] at cL
          obtain ⟨x, p, e, hx⟩ : ∃ x p e, parseR l d = (x, p, e) := ⟨_, _, _, rfl⟩
          have cP := call_Parse (by omega) ht hx
          refine PureOK.fnF Try.func9 Try.results9 Try.ntmps9 rfl rfl rfl (by simp [AV.ids, AV0.ids, Atom.ids]) rfl (fun w0 T B E0 hB => ?_)
          repeat' (first | refine SX.goP ?_ | refine SX.W.ite (fun h => ?_) (fun h => ?_) | refine SX.W.iteN (fun h => ?_) (fun h => ?_) | refine SX.W.iteB (fun h => ?_) (fun h => ?_) | refine SX.R.ite (fun h => ?_) (fun h => ?_) | refine SX.R.iteN (fun h => ?_) (fun h => ?_) | refine SX.R.iteB (fun h => ?_) (fun h => ?_))
          all_goals (refine retB ?_; simp [*])
      | true =>
        rw [hok] at cT
        have hat := okT_all hok
        have hpr := parseR_is hdd hat
        have cQ := r_Program (l := l) (by omega)
        have h4 := progR_4 (l := l) (by omega)
        cases hr : progR l with
        | bad e p n a o =>
          rw [hr] at hpr cQ h4
          have h4 : e = 4 := h4
          subst h4
          have cP := call_Parse (by omega) ht hpr
          have cQ : PureOK Try.prog 23 [.r (rowR 3 tokC l)] (.tup [.one (.c (.sat (rowR 3 ndC []))), .one (.c (.val (.int .i64 (p : Int))))]) := cQ
          refine PureOK.fnF Try.func9 Try.results9 Try.ntmps9 rfl rfl rfl (by simp [AV.ids, AV0.ids, Atom.ids]) rfl (fun w0 T B E0 hB => ?_)
          refine SX.goP ?_
          refine retB ?_
          simp
        | ok n a =>
          have hcn := progR_cnt hr
          rw [hr] at hpr cQ
          have cQ : PureOK Try.prog 23 [.r (rowR 3 tokC l)] (.tup [.one (.c (.sat (rowR 3 ndC n.kids))), .one (.c (.val (.int .i64 (-1))))]) := cQ
          have hpr : parseR l d = finR n.kids d := hpr
          generalize n.kids = ks at hpr cQ hcn
          have hdl := depL_le ks
          have cD := c_Deep (cntL ks + 1) ks (by omega) (by omega)
          unfold finR at hpr
          by_cases hdk : d < (depL ks : Int)
          · rw [if_pos hdk] at hpr
            have cP := call_Parse (by omega) ht hpr
            refine PureOK.fnF Try.func9 Try.results9 Try.ntmps9 rfl rfl rfl (by simp [AV.ids, AV0.ids, Atom.ids]) rfl (fun w0 T B E0 hB => ?_)
            refine SX.goP ?_
            refine retB ?_
            rfl
          · rw [if_neg hdk] at hpr
            have cP := call_Parse (by omega) ht hpr
            have cS := c_Same (cntL ks + 1) ks ks (by omega) (by omega)
            rw [sameL_refl] at cS
            have cN := c_Nodes (cntL ks + 1) ks (by omega) (by omega)
            have cDp : PureOK Try.prog 20 [.r (rowR 3 ndC ks)] (.v (.int .i64 (depL ks : Int))) := Con.use (by omega)
            have cCt : PureOK Try.prog 25 [.r (rowR 3 ndC ks)] (.v (.int .i64 (cntL ks : Int))) := Con.use (by omega)
            refine PureOK.fnF Try.func9 Try.results9 Try.ntmps9 rfl rfl rfl (by simp [AV.ids, AV0.ids, Atom.ids]) rfl (fun w0 T B E0 hB => ?_)
            refine SX.goP ?_
            refine retB ?_
            simp
  · refine PureOK.fnF Try.func9 Try.results9 Try.ntmps9 rfl rfl rfl (by simp [AV.ids, AV0.ids, Atom.ids]) rfl (fun w0 T B E0 hB => ?_)
    refine SX.goP ?_
    exact retB rfl
end Go.Proofs.Ytaocklkbijkhpaa

import Derived.Test.YtkdonndeogihfaaL6
import Derived.Test.YtkdonndeogihfaaRows
import Derived.Test.YtkdonndeogihfaaFr
import Derived.Test.YtkdonndeogihfaaIn
/- The statement IntDivides: for every input the law returns true, and what came in reads as it did. -/
set_option linter.unusedVariables false
set_option linter.unusedSimpArgs false
namespace Go.Proofs.Ytkdonndeogihfaa.pIntDivides
open Go.ChangeShapes Go.WideShapes Go.ChangeAt Go.RowKit QM SX Go.Joins
open Go.ChangeMaps (open_string shut_string)
theorem own : ownKnob Try.prog.godebug = none := by kernel_rfl
theorem laidOut : laidOutB Try.prog = true := by kernel_rfl
theorem cellsZ : Try.prog.cellsOf 25 = 2 := by kernel_rfl
set_option maxRecDepth 100000 in
theorem lifted (os : Os) (started : os.Started) (H : Type) (enc : TypeId × Value → H) :
    ReturnsInHanded {} Try.checked os 3 .any (Rows.intDividesSpec.pre6 enc Try.prog Try.f3 Rows.intDividesRow.domain false) (Rows.intDividesSpec.post enc Try.prog Try.f3 false true false false) := by
  refine returnsInHanded_of_change (C := Try.checked) own started (by kernel_rfl) Try.func3
    (ChangeSpec.witness6 (enc := enc) (C := Try.checked) false ⟨#[], #[.agg #[.bool false, .slice none 0 0], .agg #[.bool false, .slice none 0 0]], []⟩ 8 (by kernel_rfl) (by kernel_rfl) (by kernel_rfl) (by kernel_rfl)) ?_
  intro W base args ds gs before hval0 hW hcnd _
  have hval : ∀ (j : Nat) t v, Try.f3.params[j]? = some t → args[j]? = some v → Value.okWide Try.prog W .any base t v := hval0
  have hW' := hW
  obtain ⟨p, q, hA0, hV, rfl, hfz, hnd⟩ := hW
  have hA : DataW.TrodAll enc Try.prog W 0 (fun _ => true) true Try.f3.params.toList args.toList ds p := hA0
  rw [Try.params3] at hA hval
  obtain ⟨v0, vs0, d0, ds0, p0, q0, hargs, rfl, rfl, h0, r0⟩ := trodAll_cons hA
  obtain ⟨v1, vs1, d1, ds1, p1, q1, rfl, rfl, rfl, h1, r1⟩ := trodAll_cons r0
  obtain ⟨rfl, rfl, rfl⟩ := trodAll_nil r1
  obtain rfl : args = #[v0, v1] := by cases args; simp_all
  obtain ⟨rfl, rfl⟩ := trodVars_none hV
  have k0 := h0
  have lt0 : ∀ x ∈ p0, x.block < W.heap.size := by obtain ⟨m, hm⟩ := k0; exact DataW.trod_lt m _ _ _ hm
  obtain ⟨b0, l0, x0, rfl, g0⟩ : ∃ b l x, v0 = .agg #[.bool b, x] ∧ (rawN l).has none' W x := by
    obtain ⟨c0, c1, y0, y1, m0, hv, _, _, hb, hs⟩ := open_agg2 Try.underlying25 (by kernel_rfl) cellsZ (hval 0 25 v0 rfl rfl) h0
    obtain ⟨b, hcb, _⟩ := DataW.trod_bool Try.underlying4 hb
    simp only [List.cons.injEq, and_true] at hcb
    subst hcb
    rcases open_ints Try.underlying23 Try.underlying73 (by kernel_rfl) hs with ⟨hcs, _⟩ | ⟨x, len, c, zs, hcs, _, hl, hm, hz, _, hcell, hwz⟩
    · simp only [List.cons.injEq, and_true] at hcs
      subst hcs
      exact ⟨b, [], _, hv, raw_nil W⟩
    · simp only [List.cons.injEq, and_true] at hcs
      subst hcs
      exact ⟨b, _, _, hv, raw_ints hl hm (by rw [hz]; split <;> omega) hcell hwz⟩
  have k1 := h1
  have lt1 : ∀ x ∈ p1, x.block < W.heap.size := by obtain ⟨m, hm⟩ := k1; exact DataW.trod_lt m _ _ _ hm
  obtain ⟨b1, l1, x1, rfl, g1⟩ : ∃ b l x, v1 = .agg #[.bool b, x] ∧ (rawN l).has none' W x := by
    obtain ⟨c0, c1, y0, y1, m0, hv, _, _, hb, hs⟩ := open_agg2 Try.underlying25 (by kernel_rfl) cellsZ (hval 1 25 v1 rfl rfl) h1
    obtain ⟨b, hcb, _⟩ := DataW.trod_bool Try.underlying4 hb
    simp only [List.cons.injEq, and_true] at hcb
    subst hcb
    rcases open_ints Try.underlying23 Try.underlying73 (by kernel_rfl) hs with ⟨hcs, _⟩ | ⟨x, len, c, zs, hcs, _, hl, hm, hz, _, hcell, hwz⟩
    · simp only [List.cons.injEq, and_true] at hcs
      subst hcs
      exact ⟨b, [], _, hv, raw_nil W⟩
    · simp only [List.cons.injEq, and_true] at hcs
      subst hcs
      exact ⟨b, _, _, hv, raw_ints hl hm (by rw [hz]; split <;> omega) hcell hwz⟩
  clear hA0 hval0
  refine (PureOK.calls (IntDivides_ok b0 l0 b1 l1) (S := none') (w := W) (vs := [.agg #[.bool b0, x0], .agg #[.bool b1, x1]]) (fun k hk => hk.elim) ⟨fun _ => 0, fun _ => undef⟩ ⟨has_zW g0, has_zW g1, trivial⟩).mono fun e W' ⟨v, E', S', he, hr, ho⟩ => ?_
  have hr' : v = .bool true := hr
  subst he
  subst hr'
  have bel : Below W.heap.size W W' := ho.below
  exact ⟨_, rfl, _, _, _, [], _, [], hW', trodAll_mk1 (shut_bool Try.underlying4 _), (trodAll_cons_mk (Below.trod laidOut (by kernel_rfl) (of_decide_eq_true (by kernel_rfl)) k0 bel lt0) (trodAll_cons_mk (Below.trod laidOut (by kernel_rfl) (of_decide_eq_true (by kernel_rfl)) k1 bel lt1) trodAll_mk0)), rfl, bel.frame _, fun h => by cases h⟩
theorem over : Rows.intDividesRow.holds Try.pinned (OpenSpec.ofChange Rows.intDividesSpec) :=
  OpenClaim.holds_of_wide 3 Try.f3 rfl rfl rfl rfl rfl rfl rfl ⟨rfl, rfl, rfl, rfl, rfl⟩ rfl rfl rfl rfl rfl (by kernel_rfl) Try.func3 (by kernel_rfl)
    (of_decide_eq_true (by kernel_rfl)) (by unfold Func.isWrapper; first | (rw [if_pos (by decide +kernel)]; kernel_rfl) | (rw [if_neg (by decide +kernel)]; exact ⟨rfl, rfl⟩))
    (fun os started H enc _ => lifted os started H enc)
/-- The statement. -/
theorem proved : Rows.IntDividesSaid := over
#print axioms proved
end Go.Proofs.Ytkdonndeogihfaa.pIntDivides

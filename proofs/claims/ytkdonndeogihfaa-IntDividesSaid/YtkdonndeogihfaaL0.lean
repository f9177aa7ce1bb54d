import Derived.Test.YtkdonndeogihfaaY4
/- The statements of layer 5 in the symbolic run: awake, few. -/
set_option linter.unusedVariables false
set_option linter.unusedSimpArgs false
namespace Go.Proofs.Ytkdonndeogihfaa
open Go.RowKit QM SX
attribute [local irreducible] IntKind.wrap bitLen cmpI nval Go1 Reg WP thenK inBlk retQ RetOK ResOK CallOK OpOK Sat
/-- Cells of a whole number as it came in. -/
abbrev zW (neg : Bool) (l : List Nat) : List Atom := [.c (.val (.bool neg)), .c (.sat (rawN l))]
theorem awake_ok : PureOK Try.prog 10 [] (.v (.bool true)) := by
  have h2 : decide ((2 : Int) ≠ 0) = true := by decide
  have e1 : zfq (-7) 2 = -4 := by decide
  have e2 : zfr (-7) 2 = 1 := by decide
  have f1 : decide (zfq (-7) 2 = -4) = true := by rw [e1]; decide
  have f2 : decide (zfr (-7) 2 = 1) = true := by rw [e2]; decide
  have f3 : isign (zfq (-7) 2) = -1 := by rw [e1]; decide
  have f4 : decide (isign (zfq (-7) 2) = -1) = true := by rw [f3]; decide
  have b1 : Bd (-7) 1 := ⟨by simp [WB]⟩
  have b2 : Bd 2 1 := ⟨by simp [WB]⟩
  have b3 : Bd (-4) 1 := ⟨by simp [WB]⟩
  refine PureOK.fn Try.func10 Try.results10 Try.ntmps10 rfl rfl rfl (by simp) rfl (fun w0 T B E0 hB => ?_)
  repeat (first | refine SX.goZ ?_ | (refine SX.Go1.is ?_; refine SX.Go1.isCall ?_; first
        | refine SX.Go1.call rfl (zOf _ (by omega) (by omega)) rfl rfl ?_
        | refine SX.Go1.call rfl (zFloor (by omega)) rfl rfl ?_
        | refine SX.Go1.call rfl (zSame (by omega)) rfl rfl ?_
        | refine SX.Go1.call rfl (zSign (by omega)) rfl rfl ?_))
  exact RetOK.eq1 (ResOK.tmp rfl) (by rw [f4])
theorem few_ok (b1 b2 b3 : Bool) (l1 l2 l3 : List Nat) (n : Int) : PureOK Try.prog 11 [.agg (zW b1 l1), .agg (zW b2 l2), .agg (zW b3 l3), .v (.int .i64 n)] (.v (.bool (decide ((l1.length : Int) ≤ n) && decide ((l2.length : Int) ≤ n) && decide ((l3.length : Int) ≤ n)))) := by
  refine PureOK.fn Try.func11 Try.results11 Try.ntmps11 rfl rfl rfl (by simp [AV.ids, AV0.ids, Atom.ids]) rfl (fun w0 T B E0 hB => ?_)
  generalize h1 : decide ((l1.length : Int) ≤ n) = d1
  generalize h2 : decide ((l2.length : Int) ≤ n) = d2
  generalize h3 : decide ((l3.length : Int) ≤ n) = d3
  cases d1 <;> cases d2 <;> cases d3
  all_goals
    repeat (first | refine SX.goZ ?_)
    refine RetOK.eq1 (ResOK.tmp rfl) ?_
    simp [*]
theorem raw_sm {neg : Bool} {l : List Nat} {E : Env} {S : Nat → Prop} {w : World} {v : Value} (h : (AV.agg (zW neg l)).has E S w v) : Sm WB l := by
  obtain ⟨vs, _, hall⟩ := h
  match vs, hall with
  | [_, _], ⟨_, h2, _⟩ => exact (rawN.rn h2).sm
theorem law2 {f : FuncId} {b1 b2 : Bool} {l1 l2 : List Nat} {r : AV} (he : ∃ fn, Try.prog.funcs[f]? = some fn ∧ (fn.name == "runtime.NumGoroutine") = false ∧ fn.body.isNone = false)
    (hf : BdN (nval WB l1) l1.length → BdN (nval WB l2) l2.length → PureOK Try.prog f [.agg (zW b1 l1), .agg (zW b2 l2)] r) : PureOK Try.prog f [.agg (zW b1 l1), .agg (zW b2 l2)] r := by
  refine PureOK.fact (φ := Sm WB l1 ∧ Sm WB l2) he (fun hs => hf ⟨nn_lt hs.1 (Nat.le_refl _)⟩ ⟨nn_lt hs.2 (Nat.le_refl _)⟩) fun E S w vs hv => ?_
  match vs, hv with
  | [x, y], ⟨h1, h2, _⟩ => exact ⟨⟨h1, h2, trivial⟩, raw_sm h1, raw_sm h2⟩
theorem law3 {f : FuncId} {b1 b2 b3 : Bool} {l1 l2 l3 : List Nat} {r : AV} (he : ∃ fn, Try.prog.funcs[f]? = some fn ∧ (fn.name == "runtime.NumGoroutine") = false ∧ fn.body.isNone = false)
    (hf : BdN (nval WB l1) l1.length → BdN (nval WB l2) l2.length → BdN (nval WB l3) l3.length → PureOK Try.prog f [.agg (zW b1 l1), .agg (zW b2 l2), .agg (zW b3 l3)] r) : PureOK Try.prog f [.agg (zW b1 l1), .agg (zW b2 l2), .agg (zW b3 l3)] r := by
  refine PureOK.fact (φ := Sm WB l1 ∧ Sm WB l2 ∧ Sm WB l3) he (fun hs => hf ⟨nn_lt hs.1 (Nat.le_refl _)⟩ ⟨nn_lt hs.2.1 (Nat.le_refl _)⟩ ⟨nn_lt hs.2.2 (Nat.le_refl _)⟩) fun E S w vs hv => ?_
  match vs, hv with
  | [x, y, z], ⟨h1, h2, h3, _⟩ => exact ⟨⟨h1, h2, h3, trivial⟩, raw_sm h1, raw_sm h2, raw_sm h3⟩
theorem icmp_ge (x y : Int) : decide (0 ≤ icmp x y) = decide (y ≤ x) := by
  unfold icmp; rw [decide_eq_decide]; repeat' split <;> omega
theorem icmp_lt (x y : Int) : decide (icmp x y < 0) = decide (x < y) := by
  unfold icmp; rw [decide_eq_decide]; repeat' split <;> omega
end Go.Proofs.Ytkdonndeogihfaa

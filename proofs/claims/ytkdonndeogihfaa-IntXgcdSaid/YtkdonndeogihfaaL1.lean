import Derived.Test.YtkdonndeogihfaaY4
/- The statements of layer 5 in the symbolic run: awake, few, IntRounds, IntGcd. -/
set_option linter.unusedVariables false
set_option linter.unusedSimpArgs false
namespace Go.Proofs.Ytkdonndeogihfaa
open Go.RowKit QM SX
attribute [local irreducible] bitLen cmpI nval Go1 Reg WP thenK inBlk retQ RetOK ResOK CallOK OpOK Sat
/-- Cells of a whole number as it came in. -/
abbrev zW (neg : Bool) (l : List Nat) : List Atom := [.c (.val (.bool neg)), .c (.sat (rawN l))]
theorem awake_ok : PureOK Try.prog 10 [] (.v (.bool true)) := by
  have h2 : decide ((2 : Int) ≠ 0) = true := by decide
  have e1 : zfq (-7) 2 = -4 := by decide
  have e2 : zfr (-7) 2 = 1 := by decide
  have f1 : decide (zfq (-7) 2 = -4) = true := by rw [e1]; decide
  have f2 : decide (zfr (-7) 2 = 1) = true := by rw [e2]; decide
  have f3 : isign (zfq (-7) 2) = -1 := by rw [e1]; decide
  have f4 : decide (isign (zfq (-7) 2) = -1) = true := by rw [f3]; decide
  have b1 : Bd (-7) 1 := ⟨by simp [WB]⟩
  have b2 : Bd 2 1 := ⟨by simp [WB]⟩
  have b3 : Bd (-4) 1 := ⟨by simp [WB]⟩
  refine PureOK.fn Try.func10 Try.results10 Try.ntmps10 rfl rfl rfl (by simp) rfl (fun w0 T B E0 => ?_)
  repeat (first
    | (refine Go1.is ?_; first
        | (refine Go1.isLoad ?_; first | refine Go1.load2 rfl rfl rfl rfl ?_ | refine Go1.load1 rfl rfl rfl rfl ?_ | refine Go1.loadR1 rfl rfl rfl ?_ | refine Go1.loadR2 rfl rfl rfl ?_ | refine Go1.load4 rfl rfl rfl rfl ?_ | refine Go1.loadR4 rfl rfl rfl ?_ | refine Go1.load3 rfl rfl rfl rfl ?_ | refine Go1.loadR3 rfl rfl rfl ?_)
        | (refine Go1.isBin ?_; first | refine Go1.lss rfl rfl rfl ?_ | refine Go1.eql rfl rfl rfl ?_ | refine Go1.neq rfl rfl rfl ?_ | refine Go1.gtr rfl rfl rfl ?_ | refine Go1.geq rfl rfl rfl ?_ | refine Go1.leq rfl rfl rfl ?_ | refine Go1.add rfl rfl rfl (by first | assumption | exact wrapI64 (by omega) (by omega) | exact wrapU64 (by omega) (by omega) | exact and1_i64 _ | rfl) ?_ | refine Go1.sub rfl rfl rfl (by first | assumption | exact wrapI64 (by omega) (by omega) | exact wrapU64 (by omega) (by omega) | exact and1_i64 _ | rfl) ?_ | refine Go1.mul rfl rfl rfl (by first | assumption | exact wrapI64 (by omega) (by omega) | exact wrapU64 (by omega) (by omega) | exact and1_i64 _ | rfl) ?_ | refine Go1.quo rfl rfl rfl (by omega) (by first | assumption | exact wrapI64 (by omega) (by omega) | exact wrapU64 (by omega) (by omega) | exact and1_i64 _ | rfl) ?_ | refine Go1.rem rfl rfl rfl (by omega) (by first | assumption | exact wrapI64 (by omega) (by omega) | exact wrapU64 (by omega) (by omega) | exact and1_i64 _ | rfl) ?_ | refine Go1.eqlB rfl rfl rfl ?_ | refine Go1.neqB rfl rfl rfl ?_ | refine Go1.shr rfl rfl rfl (by omega) (by first | assumption | exact wrapI64 (by omega) (by omega) | exact wrapU64 (by omega) (by omega) | exact and1_i64 _ | rfl) ?_ | refine Go1.shl rfl rfl rfl (by omega) (by first | assumption | exact wrapI64 (by omega) (by omega) | exact wrapU64 (by omega) (by omega) | exact and1_i64 _ | rfl) ?_ | refine Go1.and rfl rfl rfl (by first | assumption | exact wrapI64 (by omega) (by omega) | exact wrapU64 (by omega) (by omega) | exact and1_i64 _ | rfl) ?_)
        | (refine Go1.isUn ?_; first | refine Go1.not rfl rfl ?_ | refine Go1.neg rfl rfl (by first | assumption | exact wrapI64 (by omega) (by omega) | exact wrapU64 (by omega) (by omega) | exact and1_i64 _ | rfl) ?_)
        | (refine Go1.isField ?_; first | refine Go1.fieldAddr rfl rfl ?_ | refine Go1.fieldAddrR rfl rfl ?_)
        | (refine Go1.isBuild ?_; first | refine Go1.build2 rfl rfl rfl rfl ?_ | refine Go1.build3 rfl rfl rfl rfl ?_ | refine Go1.build4 rfl rfl rfl rfl ?_ | refine Go1.build rfl rfl rfl rfl ?_)
        | (refine Go1.isStore ?_; first | refine Go1.store (by kernel_rfl) rfl rfl rfl rfl rfl rfl rfl ?_)
        | (refine Go1.isIx ?_; first | refine Go1.indexAddrR rfl rfl rfl (by omega) ?_)
        | (refine Go1.isCall ?_; first | refine Go1.lenR rfl rfl ?_ | refine Go1.lenN rfl rfl ?_ | refine Go1.lenS rfl rfl ?_ | refine Go1.call rfl (zOf _ (by omega) (by omega)) rfl rfl ?_ | refine Go1.call rfl (zFloor (by omega)) rfl rfl ?_ | refine Go1.call rfl (zSame (by omega)) rfl rfl ?_ | refine Go1.call rfl (zSign (by omega)) rfl rfl ?_)
        | refine Go1.move rfl rfl ?_ | refine Go1.assign rfl rfl ?_ | refine Go1.extract rfl rfl rfl ?_ | refine Go1.box rfl rfl rfl rfl ?_ | refine Go1.alloc rfl rfl ?_ | refine Go1.pick rfl rfl rfl ?_ | refine Go1.pickHT rfl rfl (by assumption) rfl ?_ | refine Go1.pickHF rfl rfl (by assumption) rfl ?_ | refine Go1.pickB rfl rfl rfl rfl ?_ | refine Go1.pickV rfl rfl rfl rfl ?_ | refine Go1.conv rfl rfl (by first | assumption | exact wrapI64 (by omega) (by omega) | exact wrapU64 (by omega) (by omega) | exact and1_i64 _ | rfl) ?_)
    | (refine Reg.is ?_; first | refine Reg.go ?_ | refine Reg.goT rfl rfl rfl ?_ | refine Reg.goF rfl rfl rfl ?_ | refine Reg.goU rfl rfl ?_ | refine Reg.goT rfl rfl (by assumption) ?_ | refine Reg.goF rfl rfl (by assumption) ?_ | refine Reg.nil ⟨by kernel_rfl, ?_⟩ | refine Reg.nil ?_)
    | (refine WP.is ?_; first | refine WP.seq ?_ | refine WP.regionL ?_ | refine WP.regionDL (by kernel_rfl) ?_ | refine WP.block ?_ | refine WP.skip ?_ | refine WP.exit ?_ | refine WP.ret ?_ | refine WP.label ?_ | refine WP.condT rfl ?_ | refine WP.condF rfl ?_ | refine WP.condHT rfl (by assumption) ?_ | refine WP.condHF rfl (by assumption) ?_)
    | refine thenN ?_ | refine thenE ?_ | refine thenR ?_ | refine inBlkN ?_ | refine inBlkR ?_ | refine inBlkE ?_ | refine inBlkO rfl ?_ | refine retR ?_ | refine retN ?_)
  exact RetOK.eq1 (ResOK.tmp rfl) (by rw [f4])
theorem few_ok (b1 b2 b3 : Bool) (l1 l2 l3 : List Nat) (n : Int) : PureOK Try.prog 11 [.agg (zW b1 l1), .agg (zW b2 l2), .agg (zW b3 l3), .v (.int .i64 n)] (.v (.bool (decide ((l1.length : Int) ≤ n) && decide ((l2.length : Int) ≤ n) && decide ((l3.length : Int) ≤ n)))) := by
  refine PureOK.fn Try.func11 Try.results11 Try.ntmps11 rfl rfl rfl (by simp [AV.ids, AV0.ids, Atom.ids]) rfl (fun w0 T B E0 => ?_)
  generalize h1 : decide ((l1.length : Int) ≤ n) = d1
  generalize h2 : decide ((l2.length : Int) ≤ n) = d2
  generalize h3 : decide ((l3.length : Int) ≤ n) = d3
  cases d1 <;> cases d2 <;> cases d3
  all_goals
    repeat (first
      | (refine Go1.is ?_; first
          | (refine Go1.isLoad ?_; first | refine Go1.load2 rfl rfl rfl rfl ?_ | refine Go1.load1 rfl rfl rfl rfl ?_ | refine Go1.loadR1 rfl rfl rfl ?_ | refine Go1.loadR2 rfl rfl rfl ?_ | refine Go1.load4 rfl rfl rfl rfl ?_ | refine Go1.loadR4 rfl rfl rfl ?_ | refine Go1.load3 rfl rfl rfl rfl ?_ | refine Go1.loadR3 rfl rfl rfl ?_)
          | (refine Go1.isBin ?_; first | refine Go1.lss rfl rfl rfl ?_ | refine Go1.eql rfl rfl rfl ?_ | refine Go1.neq rfl rfl rfl ?_ | refine Go1.gtr rfl rfl rfl ?_ | refine Go1.geq rfl rfl rfl ?_ | refine Go1.leq rfl rfl rfl ?_ | refine Go1.add rfl rfl rfl (by first | assumption | exact wrapI64 (by omega) (by omega) | exact wrapU64 (by omega) (by omega) | exact and1_i64 _ | rfl) ?_ | refine Go1.sub rfl rfl rfl (by first | assumption | exact wrapI64 (by omega) (by omega) | exact wrapU64 (by omega) (by omega) | exact and1_i64 _ | rfl) ?_ | refine Go1.mul rfl rfl rfl (by first | assumption | exact wrapI64 (by omega) (by omega) | exact wrapU64 (by omega) (by omega) | exact and1_i64 _ | rfl) ?_ | refine Go1.quo rfl rfl rfl (by omega) (by first | assumption | exact wrapI64 (by omega) (by omega) | exact wrapU64 (by omega) (by omega) | exact and1_i64 _ | rfl) ?_ | refine Go1.rem rfl rfl rfl (by omega) (by first | assumption | exact wrapI64 (by omega) (by omega) | exact wrapU64 (by omega) (by omega) | exact and1_i64 _ | rfl) ?_ | refine Go1.eqlB rfl rfl rfl ?_ | refine Go1.neqB rfl rfl rfl ?_ | refine Go1.shr rfl rfl rfl (by omega) (by first | assumption | exact wrapI64 (by omega) (by omega) | exact wrapU64 (by omega) (by omega) | exact and1_i64 _ | rfl) ?_ | refine Go1.shl rfl rfl rfl (by omega) (by first | assumption | exact wrapI64 (by omega) (by omega) | exact wrapU64 (by omega) (by omega) | exact and1_i64 _ | rfl) ?_ | refine Go1.and rfl rfl rfl (by first | assumption | exact wrapI64 (by omega) (by omega) | exact wrapU64 (by omega) (by omega) | exact and1_i64 _ | rfl) ?_)
          | (refine Go1.isUn ?_; first | refine Go1.not rfl rfl ?_ | refine Go1.neg rfl rfl (by first | assumption | exact wrapI64 (by omega) (by omega) | exact wrapU64 (by omega) (by omega) | exact and1_i64 _ | rfl) ?_)
          | (refine Go1.isField ?_; first | refine Go1.fieldAddr rfl rfl ?_ | refine Go1.fieldAddrR rfl rfl ?_)
          | (refine Go1.isBuild ?_; first | refine Go1.build2 rfl rfl rfl rfl ?_ | refine Go1.build3 rfl rfl rfl rfl ?_ | refine Go1.build4 rfl rfl rfl rfl ?_ | refine Go1.build rfl rfl rfl rfl ?_)
          | (refine Go1.isStore ?_; first | refine Go1.store (by kernel_rfl) rfl rfl rfl rfl rfl rfl rfl ?_)
          | (refine Go1.isIx ?_; first | refine Go1.indexAddrR rfl rfl rfl (by omega) ?_)
          | (refine Go1.isCall ?_; first | refine Go1.lenR rfl rfl ?_ | refine Go1.lenN rfl rfl ?_ | refine Go1.lenS rfl rfl ?_)
          | refine Go1.move rfl rfl ?_ | refine Go1.assign rfl rfl ?_ | refine Go1.extract rfl rfl rfl ?_ | refine Go1.box rfl rfl rfl rfl ?_ | refine Go1.alloc rfl rfl ?_ | refine Go1.pick rfl rfl rfl ?_ | refine Go1.pickHT rfl rfl (by assumption) rfl ?_ | refine Go1.pickHF rfl rfl (by assumption) rfl ?_ | refine Go1.pickB rfl rfl rfl rfl ?_ | refine Go1.pickV rfl rfl rfl rfl ?_ | refine Go1.conv rfl rfl (by first | assumption | exact wrapI64 (by omega) (by omega) | exact wrapU64 (by omega) (by omega) | exact and1_i64 _ | rfl) ?_)
      | (refine Reg.is ?_; first | refine Reg.go ?_ | refine Reg.goT rfl rfl rfl ?_ | refine Reg.goF rfl rfl rfl ?_ | refine Reg.goU rfl rfl ?_ | refine Reg.goT rfl rfl (by assumption) ?_ | refine Reg.goF rfl rfl (by assumption) ?_ | refine Reg.nil ⟨by kernel_rfl, ?_⟩ | refine Reg.nil ?_)
      | (refine WP.is ?_; first | refine WP.seq ?_ | refine WP.regionL ?_ | refine WP.regionDL (by kernel_rfl) ?_ | refine WP.block ?_ | refine WP.skip ?_ | refine WP.exit ?_ | refine WP.ret ?_ | refine WP.label ?_ | refine WP.condT rfl ?_ | refine WP.condF rfl ?_ | refine WP.condHT rfl (by assumption) ?_ | refine WP.condHF rfl (by assumption) ?_)
      | refine thenN ?_ | refine thenE ?_ | refine thenR ?_ | refine inBlkN ?_ | refine inBlkR ?_ | refine inBlkE ?_ | refine inBlkO rfl ?_ | refine retR ?_ | refine retN ?_)
    refine RetOK.eq1 (ResOK.tmp rfl) ?_
    simp [*]
theorem raw_sm {neg : Bool} {l : List Nat} {E : Env} {S : Nat → Prop} {w : World} {v : Value} (h : (AV.agg (zW neg l)).has E S w v) : Sm WB l := by
  obtain ⟨vs, _, hall⟩ := h
  match vs, hall with
  | [_, _], ⟨_, h2, _⟩ => exact (rawN.rn h2).sm
theorem law2 {f : FuncId} {b1 b2 : Bool} {l1 l2 : List Nat} {r : AV} (he : ∃ fn, Try.prog.funcs[f]? = some fn ∧ (fn.name == "runtime.NumGoroutine") = false ∧ fn.body.isNone = false)
    (hf : BdN (nval WB l1) l1.length → BdN (nval WB l2) l2.length → PureOK Try.prog f [.agg (zW b1 l1), .agg (zW b2 l2)] r) : PureOK Try.prog f [.agg (zW b1 l1), .agg (zW b2 l2)] r := by
  refine PureOK.fact (φ := Sm WB l1 ∧ Sm WB l2) he (fun hs => hf ⟨nn_lt hs.1 (Nat.le_refl _)⟩ ⟨nn_lt hs.2 (Nat.le_refl _)⟩) fun E S w vs hv => ?_
  match vs, hv with
  | [x, y], ⟨h1, h2, _⟩ => exact ⟨⟨h1, h2, trivial⟩, raw_sm h1, raw_sm h2⟩
theorem law3 {f : FuncId} {b1 b2 b3 : Bool} {l1 l2 l3 : List Nat} {r : AV} (he : ∃ fn, Try.prog.funcs[f]? = some fn ∧ (fn.name == "runtime.NumGoroutine") = false ∧ fn.body.isNone = false)
    (hf : BdN (nval WB l1) l1.length → BdN (nval WB l2) l2.length → BdN (nval WB l3) l3.length → PureOK Try.prog f [.agg (zW b1 l1), .agg (zW b2 l2), .agg (zW b3 l3)] r) : PureOK Try.prog f [.agg (zW b1 l1), .agg (zW b2 l2), .agg (zW b3 l3)] r := by
  refine PureOK.fact (φ := Sm WB l1 ∧ Sm WB l2 ∧ Sm WB l3) he (fun hs => hf ⟨nn_lt hs.1 (Nat.le_refl _)⟩ ⟨nn_lt hs.2.1 (Nat.le_refl _)⟩ ⟨nn_lt hs.2.2 (Nat.le_refl _)⟩) fun E S w vs hv => ?_
  match vs, hv with
  | [x, y, z], ⟨h1, h2, h3, _⟩ => exact ⟨⟨h1, h2, h3, trivial⟩, raw_sm h1, raw_sm h2, raw_sm h3⟩
theorem icmp_ge (x y : Int) : decide (0 ≤ icmp x y) = decide (y ≤ x) := by
  unfold icmp; rw [decide_eq_decide]; repeat' split <;> omega
theorem icmp_lt (x y : Int) : decide (icmp x y < 0) = decide (x < y) := by
  unfold icmp; rw [decide_eq_decide]; repeat' split <;> omega
instance Bd.zround (x y : Int) (k m : Nat) [hx : Bd x k] [hy : Bd y m] : Bd (zround x y) (k + k + 1 + m + 1 + 1 + 1) := ⟨by
  unfold Proofs.Ytkdonndeogihfaa.zround
  split
  · exact (Bd.zfq (-x + -x + -y) (-y + -y) _).h
  · exact (Bd.zfq (x + x + y) (y + y) _).h⟩
theorem round_pos {x y : Int} (hy : 0 < y) : -y ≤ (x - (x + x + y).fdiv (y + y) * y) + (x - (x + x + y).fdiv (y + y) * y) ∧ (x - (x + x + y).fdiv (y + y) * y) + (x - (x + x + y).fdiv (y + y) * y) < y := by
  have h1 := Int.fmod_add_mul_fdiv (x + x + y) (y + y)
  have h2 := Int.fmod_nonneg_of_pos (x + x + y) (show 0 < y + y by omega)
  have h3 := Int.fmod_lt_of_pos (x + x + y) (show 0 < y + y by omega)
  generalize (x + x + y).fdiv (y + y) = q at *
  generalize (x + x + y).fmod (y + y) = r at *
  have e : (y + y) * q = q * y + q * y := by rw [Int.add_mul, Int.mul_comm y q]
  rw [e] at h1
  omega
theorem round_spec {x y : Int} (hy : y ≠ 0) : (y < 0 → -(y.natAbs : Int) ≤ -((x - zround x y * y) + (x - zround x y * y)) ∧ -((x - zround x y * y) + (x - zround x y * y)) < (y.natAbs : Int)) ∧
    (¬ y < 0 → -(y.natAbs : Int) ≤ (x - zround x y * y) + (x - zround x y * y) ∧ (x - zround x y * y) + (x - zround x y * y) < (y.natAbs : Int)) := by
  constructor
  · intro h
    have := round_pos (x := -x) (y := -y) (by omega)
    unfold zround zfq
    rw [if_pos h, if_neg (by omega)]
    generalize (-x + -x + -y).fdiv (-y + -y) = q at *
    rw [Int.mul_neg] at this
    omega
  · intro h
    have := round_pos (x := x) (y := y) (by omega)
    unfold zround zfq
    rw [if_neg h, if_neg (by omega)]
    generalize (x + x + y).fdiv (y + y) = q at *
    omega
attribute [local irreducible] sgn isign zrem zfq zfr zround icmp
set_option maxRecDepth 100000 in
theorem IntRounds_ok (b1 : Bool) (l1 : List Nat) (b2 : Bool) (l2 : List Nat) : PureOK Try.prog 5 [.agg (zW b1 l1), .agg (zW b2 l2)] (.v (.bool true)) := by
  refine law2 ⟨_, Try.func5, rfl, rfl⟩ fun hb1 hb2 => ?_
  refine PureOK.fn Try.func5 Try.results5 Try.ntmps5 rfl rfl rfl (by simp [AV.ids, AV0.ids, Atom.ids]) rfl (fun w0 T B E0 => ?_)
  by_cases hfew : (decide ((l1.length : Int) ≤ 8) && decide ((l2.length : Int) ≤ 8) && decide ((l1.length : Int) ≤ 8)) = false
  · have hfew2 : (!(decide ((l1.length : Int) ≤ 8) && decide ((l2.length : Int) ≤ 8) && decide ((l1.length : Int) ≤ 8))) = true := by rw [hfew]; rfl
    repeat (first
      | (refine Go1.is ?_; first
          | (refine Go1.isLoad ?_; first | refine Go1.load2 rfl rfl rfl rfl ?_ | refine Go1.load1 rfl rfl rfl rfl ?_ | refine Go1.loadR1 rfl rfl rfl ?_ | refine Go1.loadR2 rfl rfl rfl ?_ | refine Go1.load4 rfl rfl rfl rfl ?_ | refine Go1.loadR4 rfl rfl rfl ?_ | refine Go1.load3 rfl rfl rfl rfl ?_ | refine Go1.loadR3 rfl rfl rfl ?_)
          | (refine Go1.isBin ?_; first | refine Go1.lss rfl rfl rfl ?_ | refine Go1.eql rfl rfl rfl ?_ | refine Go1.neq rfl rfl rfl ?_ | refine Go1.gtr rfl rfl rfl ?_ | refine Go1.geq rfl rfl rfl ?_ | refine Go1.leq rfl rfl rfl ?_ | refine Go1.add rfl rfl rfl (by first | assumption | exact wrapI64 (by omega) (by omega) | exact wrapU64 (by omega) (by omega) | exact and1_i64 _ | rfl) ?_ | refine Go1.sub rfl rfl rfl (by first | assumption | exact wrapI64 (by omega) (by omega) | exact wrapU64 (by omega) (by omega) | exact and1_i64 _ | rfl) ?_ | refine Go1.mul rfl rfl rfl (by first | assumption | exact wrapI64 (by omega) (by omega) | exact wrapU64 (by omega) (by omega) | exact and1_i64 _ | rfl) ?_ | refine Go1.quo rfl rfl rfl (by omega) (by first | assumption | exact wrapI64 (by omega) (by omega) | exact wrapU64 (by omega) (by omega) | exact and1_i64 _ | rfl) ?_ | refine Go1.rem rfl rfl rfl (by omega) (by first | assumption | exact wrapI64 (by omega) (by omega) | exact wrapU64 (by omega) (by omega) | exact and1_i64 _ | rfl) ?_ | refine Go1.eqlB rfl rfl rfl ?_ | refine Go1.neqB rfl rfl rfl ?_ | refine Go1.shr rfl rfl rfl (by omega) (by first | assumption | exact wrapI64 (by omega) (by omega) | exact wrapU64 (by omega) (by omega) | exact and1_i64 _ | rfl) ?_ | refine Go1.shl rfl rfl rfl (by omega) (by first | assumption | exact wrapI64 (by omega) (by omega) | exact wrapU64 (by omega) (by omega) | exact and1_i64 _ | rfl) ?_ | refine Go1.and rfl rfl rfl (by first | assumption | exact wrapI64 (by omega) (by omega) | exact wrapU64 (by omega) (by omega) | exact and1_i64 _ | rfl) ?_)
          | (refine Go1.isUn ?_; first | refine Go1.not rfl rfl ?_ | refine Go1.neg rfl rfl (by first | assumption | exact wrapI64 (by omega) (by omega) | exact wrapU64 (by omega) (by omega) | exact and1_i64 _ | rfl) ?_)
          | (refine Go1.isField ?_; first | refine Go1.fieldAddr rfl rfl ?_ | refine Go1.fieldAddrR rfl rfl ?_)
          | (refine Go1.isBuild ?_; first | refine Go1.build2 rfl rfl rfl rfl ?_ | refine Go1.build3 rfl rfl rfl rfl ?_ | refine Go1.build4 rfl rfl rfl rfl ?_ | refine Go1.build rfl rfl rfl rfl ?_)
          | (refine Go1.isStore ?_; first | refine Go1.store (by kernel_rfl) rfl rfl rfl rfl rfl rfl rfl ?_)
          | (refine Go1.isIx ?_; first | refine Go1.indexAddrR rfl rfl rfl (by omega) ?_)
          | (refine Go1.isCall ?_; first | refine Go1.lenR rfl rfl ?_ | refine Go1.lenN rfl rfl ?_ | refine Go1.lenS rfl rfl ?_ | refine Go1.call rfl (awake_ok) rfl rfl ?_ | refine Go1.call rfl (few_ok _ _ _ _ _ _ _) rfl rfl ?_)
          | refine Go1.move rfl rfl ?_ | refine Go1.assign rfl rfl ?_ | refine Go1.extract rfl rfl rfl ?_ | refine Go1.box rfl rfl rfl rfl ?_ | refine Go1.alloc rfl rfl ?_ | refine Go1.pick rfl rfl rfl ?_ | refine Go1.pickHT rfl rfl (by assumption) rfl ?_ | refine Go1.pickHF rfl rfl (by assumption) rfl ?_ | refine Go1.pickB rfl rfl rfl rfl ?_ | refine Go1.pickV rfl rfl rfl rfl ?_ | refine Go1.conv rfl rfl (by first | assumption | exact wrapI64 (by omega) (by omega) | exact wrapU64 (by omega) (by omega) | exact and1_i64 _ | rfl) ?_)
      | (refine Reg.is ?_; first | refine Reg.go ?_ | refine Reg.goT rfl rfl rfl ?_ | refine Reg.goF rfl rfl rfl ?_ | refine Reg.goU rfl rfl ?_ | refine Reg.goT rfl rfl (by assumption) ?_ | refine Reg.goF rfl rfl (by assumption) ?_ | refine Reg.nil ⟨by kernel_rfl, ?_⟩ | refine Reg.nil ?_)
      | (refine WP.is ?_; first | refine WP.seq ?_ | refine WP.regionL ?_ | refine WP.regionDL (by kernel_rfl) ?_ | refine WP.block ?_ | refine WP.skip ?_ | refine WP.exit ?_ | refine WP.ret ?_ | refine WP.label ?_ | refine WP.condT rfl ?_ | refine WP.condF rfl ?_ | refine WP.condHT rfl (by assumption) ?_ | refine WP.condHF rfl (by assumption) ?_)
      | refine thenN ?_ | refine thenE ?_ | refine thenR ?_ | refine inBlkN ?_ | refine inBlkR ?_ | refine inBlkE ?_ | refine inBlkO rfl ?_ | refine retR ?_ | refine retN ?_)
    exact RetOK.eq1 (ResOK.tmp rfl) rfl
  · have hfew1 : (decide ((l1.length : Int) ≤ 8) && decide ((l2.length : Int) ≤ 8) && decide ((l1.length : Int) ≤ 8)) = true := Bool.of_not_eq_false hfew
    have hfew2 : (!(decide ((l1.length : Int) ≤ 8) && decide ((l2.length : Int) ≤ 8) && decide ((l1.length : Int) ≤ 8))) = false := by rw [hfew1]; rfl
    have hl : l1.length ≤ 8 ∧ l2.length ≤ 8 := by simp at hfew1; omega
    clear hfew hfew1
    obtain ⟨hl1, hl2⟩ := hl
    by_cases hy : sgn b2 (nval WB l2) = 0
    · have g1 : decide (isign (sgn b2 (nval WB l2)) = 0) = true := by rw [isign_zero]; simp [hy]
      have g2 : decide (sgn b2 (nval WB l2) ≠ 0) = false := by simp [hy]
      have g3 : (!decide (sgn b2 (nval WB l2) ≠ 0)) = true := by rw [g2]; rfl
      have g4 : decide (isign (zround (sgn b1 (nval WB l1)) (sgn b2 (nval WB l2))) = 0) = true := by
        have : zround (sgn b1 (nval WB l1)) (sgn b2 (nval WB l2)) = 0 := by rw [hy]; unfold zround zfq; simp
        rw [isign_zero]; simp [this]
      repeat (first
        | (refine Go1.is ?_; first
            | (refine Go1.isLoad ?_; first | refine Go1.load2 rfl rfl rfl rfl ?_ | refine Go1.load1 rfl rfl rfl rfl ?_ | refine Go1.loadR1 rfl rfl rfl ?_ | refine Go1.loadR2 rfl rfl rfl ?_ | refine Go1.load4 rfl rfl rfl rfl ?_ | refine Go1.loadR4 rfl rfl rfl ?_ | refine Go1.load3 rfl rfl rfl rfl ?_ | refine Go1.loadR3 rfl rfl rfl ?_)
            | (refine Go1.isBin ?_; first | refine Go1.lss rfl rfl rfl ?_ | refine Go1.eql rfl rfl rfl ?_ | refine Go1.neq rfl rfl rfl ?_ | refine Go1.gtr rfl rfl rfl ?_ | refine Go1.geq rfl rfl rfl ?_ | refine Go1.leq rfl rfl rfl ?_ | refine Go1.add rfl rfl rfl (by first | assumption | exact wrapI64 (by omega) (by omega) | exact wrapU64 (by omega) (by omega) | exact and1_i64 _ | rfl) ?_ | refine Go1.sub rfl rfl rfl (by first | assumption | exact wrapI64 (by omega) (by omega) | exact wrapU64 (by omega) (by omega) | exact and1_i64 _ | rfl) ?_ | refine Go1.mul rfl rfl rfl (by first | assumption | exact wrapI64 (by omega) (by omega) | exact wrapU64 (by omega) (by omega) | exact and1_i64 _ | rfl) ?_ | refine Go1.quo rfl rfl rfl (by omega) (by first | assumption | exact wrapI64 (by omega) (by omega) | exact wrapU64 (by omega) (by omega) | exact and1_i64 _ | rfl) ?_ | refine Go1.rem rfl rfl rfl (by omega) (by first | assumption | exact wrapI64 (by omega) (by omega) | exact wrapU64 (by omega) (by omega) | exact and1_i64 _ | rfl) ?_ | refine Go1.eqlB rfl rfl rfl ?_ | refine Go1.neqB rfl rfl rfl ?_ | refine Go1.shr rfl rfl rfl (by omega) (by first | assumption | exact wrapI64 (by omega) (by omega) | exact wrapU64 (by omega) (by omega) | exact and1_i64 _ | rfl) ?_ | refine Go1.shl rfl rfl rfl (by omega) (by first | assumption | exact wrapI64 (by omega) (by omega) | exact wrapU64 (by omega) (by omega) | exact and1_i64 _ | rfl) ?_ | refine Go1.and rfl rfl rfl (by first | assumption | exact wrapI64 (by omega) (by omega) | exact wrapU64 (by omega) (by omega) | exact and1_i64 _ | rfl) ?_)
            | (refine Go1.isUn ?_; first | refine Go1.not rfl rfl ?_ | refine Go1.neg rfl rfl (by first | assumption | exact wrapI64 (by omega) (by omega) | exact wrapU64 (by omega) (by omega) | exact and1_i64 _ | rfl) ?_)
            | (refine Go1.isField ?_; first | refine Go1.fieldAddr rfl rfl ?_ | refine Go1.fieldAddrR rfl rfl ?_)
            | (refine Go1.isBuild ?_; first | refine Go1.build2 rfl rfl rfl rfl ?_ | refine Go1.build3 rfl rfl rfl rfl ?_ | refine Go1.build4 rfl rfl rfl rfl ?_ | refine Go1.build rfl rfl rfl rfl ?_)
            | (refine Go1.isStore ?_; first | refine Go1.store (by kernel_rfl) rfl rfl rfl rfl rfl rfl rfl ?_)
            | (refine Go1.isIx ?_; first | refine Go1.indexAddrR rfl rfl rfl (by omega) ?_)
            | (refine Go1.isCall ?_; first | refine Go1.lenR rfl rfl ?_ | refine Go1.lenN rfl rfl ?_ | refine Go1.lenS rfl rfl ?_ | refine Go1.call rfl (awake_ok) rfl rfl ?_ | refine Go1.call rfl (few_ok _ _ _ _ _ _ _) rfl rfl ?_ | refine Go1.call rfl (zRound (by omega)) rfl rfl ?_ | refine Go1.call rfl (zSign (by omega)) rfl rfl ?_)
            | refine Go1.move rfl rfl ?_ | refine Go1.assign rfl rfl ?_ | refine Go1.extract rfl rfl rfl ?_ | refine Go1.box rfl rfl rfl rfl ?_ | refine Go1.alloc rfl rfl ?_ | refine Go1.pick rfl rfl rfl ?_ | refine Go1.pickHT rfl rfl (by assumption) rfl ?_ | refine Go1.pickHF rfl rfl (by assumption) rfl ?_ | refine Go1.pickB rfl rfl rfl rfl ?_ | refine Go1.pickV rfl rfl rfl rfl ?_ | refine Go1.conv rfl rfl (by first | assumption | exact wrapI64 (by omega) (by omega) | exact wrapU64 (by omega) (by omega) | exact and1_i64 _ | rfl) ?_)
        | (refine Reg.is ?_; first | refine Reg.go ?_ | refine Reg.goT rfl rfl rfl ?_ | refine Reg.goF rfl rfl rfl ?_ | refine Reg.goU rfl rfl ?_ | refine Reg.goT rfl rfl (by assumption) ?_ | refine Reg.goF rfl rfl (by assumption) ?_ | refine Reg.nil ⟨by kernel_rfl, ?_⟩ | refine Reg.nil ?_)
        | (refine WP.is ?_; first | refine WP.seq ?_ | refine WP.regionL ?_ | refine WP.regionDL (by kernel_rfl) ?_ | refine WP.block ?_ | refine WP.skip ?_ | refine WP.exit ?_ | refine WP.ret ?_ | refine WP.label ?_ | refine WP.condT rfl ?_ | refine WP.condF rfl ?_ | refine WP.condHT rfl (by assumption) ?_ | refine WP.condHF rfl (by assumption) ?_)
        | refine thenN ?_ | refine thenE ?_ | refine thenR ?_ | refine inBlkN ?_ | refine inBlkR ?_ | refine inBlkE ?_ | refine inBlkO rfl ?_ | refine retR ?_ | refine retN ?_)
      exact RetOK.eq1 (ResOK.tmp rfl) (by rw [g4])
    · have g1 : decide (isign (sgn b2 (nval WB l2)) = 0) = false := by rw [isign_zero]; simp [hy]
      have g2 : decide (sgn b2 (nval WB l2) ≠ 0) = true := by simp [hy]
      obtain ⟨r1, r2⟩ := round_spec (x := sgn b1 (nval WB l1)) hy
      by_cases hn : sgn b2 (nval WB l2) < 0
      · have g5 : decide (isign (sgn b2 (nval WB l2)) < 0) = true := by rw [isign_neg]; simp [hn]
        obtain ⟨r1, r3⟩ := r1 hn
        rw [← decide_eq_true_eq (p := _ ≤ _), ← icmp_ge] at r1
        rw [← decide_eq_true_eq (p := _ < _), ← icmp_lt] at r3
        repeat (first
          | (refine Go1.is ?_; first
              | (refine Go1.isLoad ?_; first | refine Go1.load2 rfl rfl rfl rfl ?_ | refine Go1.load1 rfl rfl rfl rfl ?_ | refine Go1.loadR1 rfl rfl rfl ?_ | refine Go1.loadR2 rfl rfl rfl ?_ | refine Go1.load4 rfl rfl rfl rfl ?_ | refine Go1.loadR4 rfl rfl rfl ?_ | refine Go1.load3 rfl rfl rfl rfl ?_ | refine Go1.loadR3 rfl rfl rfl ?_)
              | (refine Go1.isBin ?_; first | refine Go1.lss rfl rfl rfl ?_ | refine Go1.eql rfl rfl rfl ?_ | refine Go1.neq rfl rfl rfl ?_ | refine Go1.gtr rfl rfl rfl ?_ | refine Go1.geq rfl rfl rfl ?_ | refine Go1.leq rfl rfl rfl ?_ | refine Go1.add rfl rfl rfl (by first | assumption | exact wrapI64 (by omega) (by omega) | exact wrapU64 (by omega) (by omega) | exact and1_i64 _ | rfl) ?_ | refine Go1.sub rfl rfl rfl (by first | assumption | exact wrapI64 (by omega) (by omega) | exact wrapU64 (by omega) (by omega) | exact and1_i64 _ | rfl) ?_ | refine Go1.mul rfl rfl rfl (by first | assumption | exact wrapI64 (by omega) (by omega) | exact wrapU64 (by omega) (by omega) | exact and1_i64 _ | rfl) ?_ | refine Go1.quo rfl rfl rfl (by omega) (by first | assumption | exact wrapI64 (by omega) (by omega) | exact wrapU64 (by omega) (by omega) | exact and1_i64 _ | rfl) ?_ | refine Go1.rem rfl rfl rfl (by omega) (by first | assumption | exact wrapI64 (by omega) (by omega) | exact wrapU64 (by omega) (by omega) | exact and1_i64 _ | rfl) ?_ | refine Go1.eqlB rfl rfl rfl ?_ | refine Go1.neqB rfl rfl rfl ?_ | refine Go1.shr rfl rfl rfl (by omega) (by first | assumption | exact wrapI64 (by omega) (by omega) | exact wrapU64 (by omega) (by omega) | exact and1_i64 _ | rfl) ?_ | refine Go1.shl rfl rfl rfl (by omega) (by first | assumption | exact wrapI64 (by omega) (by omega) | exact wrapU64 (by omega) (by omega) | exact and1_i64 _ | rfl) ?_ | refine Go1.and rfl rfl rfl (by first | assumption | exact wrapI64 (by omega) (by omega) | exact wrapU64 (by omega) (by omega) | exact and1_i64 _ | rfl) ?_)
              | (refine Go1.isUn ?_; first | refine Go1.not rfl rfl ?_ | refine Go1.neg rfl rfl (by first | assumption | exact wrapI64 (by omega) (by omega) | exact wrapU64 (by omega) (by omega) | exact and1_i64 _ | rfl) ?_)
              | (refine Go1.isField ?_; first | refine Go1.fieldAddr rfl rfl ?_ | refine Go1.fieldAddrR rfl rfl ?_)
              | (refine Go1.isBuild ?_; first | refine Go1.build2 rfl rfl rfl rfl ?_ | refine Go1.build3 rfl rfl rfl rfl ?_ | refine Go1.build4 rfl rfl rfl rfl ?_ | refine Go1.build rfl rfl rfl rfl ?_)
              | (refine Go1.isStore ?_; first | refine Go1.store (by kernel_rfl) rfl rfl rfl rfl rfl rfl rfl ?_)
              | (refine Go1.isIx ?_; first | refine Go1.indexAddrR rfl rfl rfl (by omega) ?_)
              | (refine Go1.isCall ?_; first | refine Go1.lenR rfl rfl ?_ | refine Go1.lenN rfl rfl ?_ | refine Go1.lenS rfl rfl ?_ | refine Go1.call rfl (awake_ok) rfl rfl ?_ | refine Go1.call rfl (few_ok _ _ _ _ _ _ _) rfl rfl ?_ | refine Go1.call rfl (zRound (by omega)) rfl rfl ?_ | refine Go1.call rfl (zSign (by omega)) rfl rfl ?_ | refine Go1.call rfl (zSub (by omega)) rfl rfl ?_ | refine Go1.call rfl (zMul (by omega)) rfl rfl ?_ | refine Go1.call rfl (zAdd (by omega)) rfl rfl ?_ | refine Go1.call rfl (zNeg (by omega)) rfl rfl ?_ | refine Go1.call rfl (zAbs (by omega)) rfl rfl ?_ | refine Go1.call rfl (zCmp (by omega)) rfl rfl ?_)
              | refine Go1.move rfl rfl ?_ | refine Go1.assign rfl rfl ?_ | refine Go1.extract rfl rfl rfl ?_ | refine Go1.box rfl rfl rfl rfl ?_ | refine Go1.alloc rfl rfl ?_ | refine Go1.pick rfl rfl rfl ?_ | refine Go1.pickHT rfl rfl (by assumption) rfl ?_ | refine Go1.pickHF rfl rfl (by assumption) rfl ?_ | refine Go1.pickB rfl rfl rfl rfl ?_ | refine Go1.pickV rfl rfl rfl rfl ?_ | refine Go1.conv rfl rfl (by first | assumption | exact wrapI64 (by omega) (by omega) | exact wrapU64 (by omega) (by omega) | exact and1_i64 _ | rfl) ?_)
          | (refine Reg.is ?_; first | refine Reg.go ?_ | refine Reg.goT rfl rfl rfl ?_ | refine Reg.goF rfl rfl rfl ?_ | refine Reg.goU rfl rfl ?_ | refine Reg.goT rfl rfl (by assumption) ?_ | refine Reg.goF rfl rfl (by assumption) ?_ | refine Reg.nil ⟨by kernel_rfl, ?_⟩ | refine Reg.nil ?_)
          | (refine WP.is ?_; first | refine WP.seq ?_ | refine WP.regionL ?_ | refine WP.regionDL (by kernel_rfl) ?_ | refine WP.block ?_ | refine WP.skip ?_ | refine WP.exit ?_ | refine WP.ret ?_ | refine WP.label ?_ | refine WP.condT rfl ?_ | refine WP.condF rfl ?_ | refine WP.condHT rfl (by assumption) ?_ | refine WP.condHF rfl (by assumption) ?_)
          | refine thenN ?_ | refine thenE ?_ | refine thenR ?_ | refine inBlkN ?_ | refine inBlkR ?_ | refine inBlkE ?_ | refine inBlkO rfl ?_ | refine retR ?_ | refine retN ?_)
        exact RetOK.eq1 (ResOK.tmp rfl) (by rw [r3])
      · have g5 : decide (isign (sgn b2 (nval WB l2)) < 0) = false := by rw [isign_neg]; simp [hn]
        obtain ⟨r1, r3⟩ := r2 hn
        rw [← decide_eq_true_eq (p := _ ≤ _), ← icmp_ge] at r1
        rw [← decide_eq_true_eq (p := _ < _), ← icmp_lt] at r3
        repeat (first
          | (refine Go1.is ?_; first
              | (refine Go1.isLoad ?_; first | refine Go1.load2 rfl rfl rfl rfl ?_ | refine Go1.load1 rfl rfl rfl rfl ?_ | refine Go1.loadR1 rfl rfl rfl ?_ | refine Go1.loadR2 rfl rfl rfl ?_ | refine Go1.load4 rfl rfl rfl rfl ?_ | refine Go1.loadR4 rfl rfl rfl ?_ | refine Go1.load3 rfl rfl rfl rfl ?_ | refine Go1.loadR3 rfl rfl rfl ?_)
              | (refine Go1.isBin ?_; first | refine Go1.lss rfl rfl rfl ?_ | refine Go1.eql rfl rfl rfl ?_ | refine Go1.neq rfl rfl rfl ?_ | refine Go1.gtr rfl rfl rfl ?_ | refine Go1.geq rfl rfl rfl ?_ | refine Go1.leq rfl rfl rfl ?_ | refine Go1.add rfl rfl rfl (by first | assumption | exact wrapI64 (by omega) (by omega) | exact wrapU64 (by omega) (by omega) | exact and1_i64 _ | rfl) ?_ | refine Go1.sub rfl rfl rfl (by first | assumption | exact wrapI64 (by omega) (by omega) | exact wrapU64 (by omega) (by omega) | exact and1_i64 _ | rfl) ?_ | refine Go1.mul rfl rfl rfl (by first | assumption | exact wrapI64 (by omega) (by omega) | exact wrapU64 (by omega) (by omega) | exact and1_i64 _ | rfl) ?_ | refine Go1.quo rfl rfl rfl (by omega) (by first | assumption | exact wrapI64 (by omega) (by omega) | exact wrapU64 (by omega) (by omega) | exact and1_i64 _ | rfl) ?_ | refine Go1.rem rfl rfl rfl (by omega) (by first | assumption | exact wrapI64 (by omega) (by omega) | exact wrapU64 (by omega) (by omega) | exact and1_i64 _ | rfl) ?_ | refine Go1.eqlB rfl rfl rfl ?_ | refine Go1.neqB rfl rfl rfl ?_ | refine Go1.shr rfl rfl rfl (by omega) (by first | assumption | exact wrapI64 (by omega) (by omega) | exact wrapU64 (by omega) (by omega) | exact and1_i64 _ | rfl) ?_ | refine Go1.shl rfl rfl rfl (by omega) (by first | assumption | exact wrapI64 (by omega) (by omega) | exact wrapU64 (by omega) (by omega) | exact and1_i64 _ | rfl) ?_ | refine Go1.and rfl rfl rfl (by first | assumption | exact wrapI64 (by omega) (by omega) | exact wrapU64 (by omega) (by omega) | exact and1_i64 _ | rfl) ?_)
              | (refine Go1.isUn ?_; first | refine Go1.not rfl rfl ?_ | refine Go1.neg rfl rfl (by first | assumption | exact wrapI64 (by omega) (by omega) | exact wrapU64 (by omega) (by omega) | exact and1_i64 _ | rfl) ?_)
              | (refine Go1.isField ?_; first | refine Go1.fieldAddr rfl rfl ?_ | refine Go1.fieldAddrR rfl rfl ?_)
              | (refine Go1.isBuild ?_; first | refine Go1.build2 rfl rfl rfl rfl ?_ | refine Go1.build3 rfl rfl rfl rfl ?_ | refine Go1.build4 rfl rfl rfl rfl ?_ | refine Go1.build rfl rfl rfl rfl ?_)
              | (refine Go1.isStore ?_; first | refine Go1.store (by kernel_rfl) rfl rfl rfl rfl rfl rfl rfl ?_)
              | (refine Go1.isIx ?_; first | refine Go1.indexAddrR rfl rfl rfl (by omega) ?_)
              | (refine Go1.isCall ?_; first | refine Go1.lenR rfl rfl ?_ | refine Go1.lenN rfl rfl ?_ | refine Go1.lenS rfl rfl ?_ | refine Go1.call rfl (awake_ok) rfl rfl ?_ | refine Go1.call rfl (few_ok _ _ _ _ _ _ _) rfl rfl ?_ | refine Go1.call rfl (zRound (by omega)) rfl rfl ?_ | refine Go1.call rfl (zSign (by omega)) rfl rfl ?_ | refine Go1.call rfl (zSub (by omega)) rfl rfl ?_ | refine Go1.call rfl (zMul (by omega)) rfl rfl ?_ | refine Go1.call rfl (zAdd (by omega)) rfl rfl ?_ | refine Go1.call rfl (zNeg (by omega)) rfl rfl ?_ | refine Go1.call rfl (zAbs (by omega)) rfl rfl ?_ | refine Go1.call rfl (zCmp (by omega)) rfl rfl ?_)
              | refine Go1.move rfl rfl ?_ | refine Go1.assign rfl rfl ?_ | refine Go1.extract rfl rfl rfl ?_ | refine Go1.box rfl rfl rfl rfl ?_ | refine Go1.alloc rfl rfl ?_ | refine Go1.pick rfl rfl rfl ?_ | refine Go1.pickHT rfl rfl (by assumption) rfl ?_ | refine Go1.pickHF rfl rfl (by assumption) rfl ?_ | refine Go1.pickB rfl rfl rfl rfl ?_ | refine Go1.pickV rfl rfl rfl rfl ?_ | refine Go1.conv rfl rfl (by first | assumption | exact wrapI64 (by omega) (by omega) | exact wrapU64 (by omega) (by omega) | exact and1_i64 _ | rfl) ?_)
          | (refine Reg.is ?_; first | refine Reg.go ?_ | refine Reg.goT rfl rfl rfl ?_ | refine Reg.goF rfl rfl rfl ?_ | refine Reg.goU rfl rfl ?_ | refine Reg.goT rfl rfl (by assumption) ?_ | refine Reg.goF rfl rfl (by assumption) ?_ | refine Reg.nil ⟨by kernel_rfl, ?_⟩ | refine Reg.nil ?_)
          | (refine WP.is ?_; first | refine WP.seq ?_ | refine WP.regionL ?_ | refine WP.regionDL (by kernel_rfl) ?_ | refine WP.block ?_ | refine WP.skip ?_ | refine WP.exit ?_ | refine WP.ret ?_ | refine WP.label ?_ | refine WP.condT rfl ?_ | refine WP.condF rfl ?_ | refine WP.condHT rfl (by assumption) ?_ | refine WP.condHF rfl (by assumption) ?_)
          | refine thenN ?_ | refine thenE ?_ | refine thenR ?_ | refine inBlkN ?_ | refine inBlkR ?_ | refine inBlkE ?_ | refine inBlkO rfl ?_ | refine retR ?_ | refine retN ?_)
        exact RetOK.eq1 (ResOK.tmp rfl) (by rw [r3])
end Go.Proofs.Ytkdonndeogihfaa

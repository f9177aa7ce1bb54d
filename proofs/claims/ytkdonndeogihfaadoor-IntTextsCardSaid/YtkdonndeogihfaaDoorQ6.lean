import Derived.Test.YtkdonndeogihfaaDoorQ5
/- The reference for whole numbers (package quincunxref05): norm, From, Sign, Neg, Add, Sub, Mul, Abs, Cmp, Is. -/
set_option linter.unusedVariables false
set_option linter.unusedSimpArgs false
namespace Go.Proofs.YtkdonndeogihfaaDoor
open Go.RowKit QM SX
/-- A contract for arguments of which something is there. -/
theorem PureOK.ex {ι : Type} {P : Program} {f : FuncId} {args : List AV} {r : AV} (args' : ι → List AV) (he : ∃ fn, P.funcs[f]? = some fn ∧ (fn.name == "runtime.NumGoroutine") = false ∧ fn.body.isNone = false) (h : ∀ i, PureOK P f (args' i) r)
    (hm : ∀ E S w vs, All2 (AV.has E S w) args vs → ∃ i, All2 (AV.has E S w) (args' i) vs) : PureOK P f args r :=
  ⟨he, fun E S w vs hl hv h1 h2 h3 => let ⟨i, hi⟩ := hm E S w vs hv; (h i).2 E S w vs hl hi h1 h2 h3⟩
attribute [local irreducible] IntKind.wrap bitLen cmpI nval Go1 Reg WP thenK inBlk retQ RetOK ResOK CallOK OpOK Sat
/-- A whole number as the reference has it. -/
abbrev zD (z : Int) : List Atom := [.c (.val (.bool (decide (z < 0)))), .c (.sat (digR (dgs z.natAbs)))]
theorem dgsb (z : Int) (k : Nat) [h : Bd z k] : (dgs z.natAbs).length ≤ 4 * k := dgs_len (by rw [← WB_digs]; exact h.h)
theorem dgs_eq_nil {n : Nat} : (dgs n).length = 0 ↔ n = 0 := by
  constructor
  · intro h
    have := dgs_val n
    rw [List.eq_nil_of_length_eq_zero h] at this
    simpa [nval] using this.symm
  · rintro rfl; rw [dgs_zero]; rfl
theorem zD_sgn (neg : Bool) (n : Nat) : zD (sgn neg n) = [.c (.val (.bool (neg && decide (0 < n)))), .c (.sat (digR (dgs n)))] := by
  have h1 : decide (sgn neg n < 0) = (neg && decide (0 < n)) := by
    unfold sgn; cases neg <;> simp
  unfold zD
  rw [sgn_natAbs, h1]
theorem len_pos (n : Nat) : decide ((0 : Int) < ((dgs n).length : Int)) = decide (0 < n) := by
  have := @dgs_eq_nil n
  rw [decide_eq_decide]; omega
attribute [local irreducible] sgn isign icmp
theorem rNorm (neg : Bool) (l : List Nat) (hs : Sm 65536 l) (hl : l.length ≤ 1000000000) : PureOK Tryd.prog 97 [.agg [.c (.val (.bool neg)), .c (.sat (digR l))]] (.agg (zD (sgn neg (nval 65536 l)))) := by
  rw [zD_sgn]
  refine PureOK.fn Tryd.func97 Tryd.results97 Tryd.ntmps97 rfl rfl rfl (by simp [AV.ids, AV0.ids, Atom.ids]) rfl (fun w0 T B E0 hB => ?_)
  have ht := rTrimS l hs (by omega)
  have hp := len_pos (nval 65536 l)
  cases neg
  · repeat (first | refine SX.goZ ?_ | refine SX.Go1.sliceHiO rfl rfl rfl rfl rfl (by omega) (by omega) ?_ | (refine SX.Go1.is ?_; refine SX.Go1.isCall ?_; first
          | refine SX.Go1.call rfl (ht) rfl rfl ?_))
    exact RetOK.eq1 (ResOK.agg2 rfl rfl rfl) rfl
  · repeat (first | refine SX.goZ ?_ | refine SX.Go1.sliceHiO rfl rfl rfl rfl rfl (by omega) (by omega) ?_ | (refine SX.Go1.is ?_; refine SX.Go1.isCall ?_; first
          | refine SX.Go1.call rfl (ht) rfl rfl ?_))
    refine RetOK.eq1 (ResOK.agg2 rfl rfl rfl) ?_
    show AV0.agg [Atom.c (CA.val (.bool (decide ((0 : Int) < ((dgs (nval 65536 l)).length : Int))))), _] = _
    rw [hp]; rfl
/-- normal digits again. -/
theorem rNormD (neg : Bool) (n k : Nat) (hl : (dgs n).length ≤ 1000000000) : PureOK Tryd.prog 97 [.agg [.c (.val (.bool neg)), .c (.sat (digR (dgs n)))]] (.agg (zD (sgn neg n))) := by
  have := rNorm neg (dgs n) (dgs_sm n) hl
  rwa [dgs_val] at this
theorem rFromN {x k : Nat} (hk : k ≤ 10000000) : PureOK Tryd.prog 17 [.r (natR x k)] (.r (digR (dgs x))) := by
  refine PureOK.ex (ι := {l : List Nat // nval WB l = x ∧ l.length ≤ k ∧ Sm WB l}) (fun l => [.r (rawN l.val)]) ⟨_, Tryd.func17, rfl, rfl⟩ (fun l => ?_) (fun E S w vs hv => ?_)
  · obtain ⟨l, e1, e2, e3⟩ := l
    have := rFrom0 l e3 (by omega)
    rw [e1] at this
    exact this
  · match vs, hv with
    | [v], ⟨hv1, _⟩ =>
      obtain ⟨l, h1, h2, h3⟩ := natR_iff.1 hv1
      exact ⟨⟨l, h1, h2, (rawN.rn h3).sm⟩, h3, trivial⟩
theorem rFromZ {l : List Atom} {z : Int} {k : Nat} [h : ZI l z k] (hk : k ≤ 10000000) : PureOK Tryd.prog 60 [.agg l] (.agg (zD z)) := by
  refine z1 ⟨_, Tryd.func60, rfl, rfl⟩ fun neg n hz hn => ?_
  subst hz
  refine PureOK.fn Tryd.func60 Tryd.results60 Tryd.ntmps60 rfl rfl rfl (by simp [AV.ids, AV0.ids, Atom.ids]) rfl (fun w0 T B E0 hB => ?_)
  have hb : (dgs n).length ≤ 4 * k := dgs_len (by rw [← WB_digs]; exact hn.h)
  repeat (first | refine SX.goZ ?_ | refine SX.Go1.sliceHiO rfl rfl rfl rfl rfl (by omega) (by omega) ?_ | (refine SX.Go1.is ?_; refine SX.Go1.isCall ?_; first
        | refine SX.Go1.call rfl (rFromN hk) rfl rfl ?_
        | refine SX.Go1.call rfl (rNormD _ n k (by omega)) rfl rfl ?_))
  exact RetOK.eq1 (ResOK.agg2 rfl rfl rfl) rfl
theorem sgn_neg_dec (z : Int) : sgn (!decide (z < 0)) z.natAbs = -z := by unfold sgn; by_cases h : z < 0 <;> simp [h] <;> omega
theorem rAddD (x y : Nat) (hl : (dgs x).length + (dgs y).length ≤ 1000000000) : PureOK Tryd.prog 75 [.r (digR (dgs x)), .r (digR (dgs y))] (.r (digR (dgs (x + y)))) := by
  have := rAdd0 _ _ (dgs_sm x) (dgs_sm y) hl
  rwa [dgs_val, dgs_val] at this
theorem rMulD (x y : Nat) (hl : (dgs x).length + (dgs y).length ≤ 100000000) : PureOK Tryd.prog 76 [.r (digR (dgs x)), .r (digR (dgs y))] (.r (digR (dgs (x * y)))) := by
  have := rMul0 _ _ (dgs_sm x) (dgs_sm y) hl
  rwa [dgs_val, dgs_val] at this
theorem nrmN_wds {n : Nat} {S : Nat → Prop} {w : World} {v : Value} (h : (nrmN n).has S w v) : (rawN (wds n)).has S w v := by
  obtain ⟨l, h1, h2, _, h4⟩ := nrmN_iff.1 h
  have := wds_uniq (rawN.rn h4).sm h1
  rw [h2] at this
  rw [← this]; exact h4
theorem rSameD (x y : Nat) (hl : (wds x).length + (wds y).length ≤ 1000000000) : PureOK Tryd.prog 22 [.r (nrmN x), .r (rawN (wds y))] (.v (.bool (decide (x = y)))) := by
  have h := rSame0 (wds x) (wds y) hl
  have e : decide (wds x = wds y) = decide (x = y) := by
    rw [decide_eq_decide]
    exact ⟨fun e => by rw [← wds_val x, ← wds_val y, e], fun e => by rw [e]⟩
  rw [e] at h
  exact h.args fun E S w vs hv => by
    match vs, hv with
    | [a, b], ⟨h1, h2, _⟩ => exact ⟨nrmN_wds h1, h2, trivial⟩
theorem rToD (x : Nat) (hl : (dgs x).length ≤ 100000000) : PureOK Tryd.prog 23 [.r (digR (dgs x))] (.r (rawN (wds x))) := by
  have := rTo0 (dgs x) (dgs_sm x) hl
  rwa [dgs_val] at this
theorem rIs (x y : Int) (k m : Nat) [hx : Bd x k] [hy : Bd y m] (hk : k + m ≤ 1000000) : PureOK Tryd.prog 61 [.agg (zN x), .agg (zD y)] (.v (.bool (decide (x = y)))) := by
  have l2 := dgsb y m
  have w1 := wds_len hx.h
  have w2 := wds_len hy.h
  refine PureOK.fn Tryd.func61 Tryd.results61 Tryd.ntmps61 rfl rfl rfl (by simp [AV.ids, AV0.ids, Atom.ids]) rfl (fun w0 T B E0 hB => ?_)
  by_cases hs : decide (x < 0) = decide (y < 0)
  · have d1 : (decide (x < 0) == decide (y < 0)) = true := by rw [hs]; simp
    repeat (first | refine SX.goZ ?_ | refine SX.Go1.sliceHiO rfl rfl rfl rfl rfl (by omega) (by omega) ?_ | (refine SX.Go1.is ?_; refine SX.Go1.isCall ?_; first
          | refine SX.Go1.call rfl (rToD y.natAbs (by omega)) rfl rfl ?_
          | refine SX.Go1.call rfl (rSameD x.natAbs y.natAbs (by omega)) rfl rfl ?_))
    refine RetOK.eq1 (ResOK.tmp rfl) ?_
    have : decide (x.natAbs = y.natAbs) = decide (x = y) := by
      rw [decide_eq_decide] at hs ⊢; omega
    rw [this]
  · have d1 : (decide (x < 0) == decide (y < 0)) = false := by simpa using hs
    repeat (first | refine SX.goZ ?_ | refine SX.Go1.sliceHiO rfl rfl rfl rfl rfl (by omega) (by omega) ?_)
    refine RetOK.eq1 (ResOK.tmp rfl) ?_
    have : decide (x = y) = false := decide_eq_false fun e => hs (by rw [e])
    rw [this]
end Go.Proofs.YtkdonndeogihfaaDoor

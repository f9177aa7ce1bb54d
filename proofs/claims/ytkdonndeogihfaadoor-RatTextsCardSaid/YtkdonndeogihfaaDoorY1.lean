import Derived.Test.YtkdonndeogihfaaDoorSxk
/- Package zint in the symbolic run: From, Sign, Neg, Abs, Of, Add, Sub, Mul. -/
set_option linter.unusedVariables false
set_option linter.unusedSimpArgs false
namespace Go.Proofs.YtkdonndeogihfaaDoor
open Go.RowKit QM SX
attribute [local irreducible] IntKind.wrap bitLen cmpI nval Go1 Reg WP thenK inBlk retQ RetOK ResOK CallOK OpOK Sat
/-- A sign and a number. -/
def sgn (neg : Bool) (n : Nat) : Int := if neg then -(n : Int) else (n : Int)
theorem sgn_abs (z : Int) : sgn (decide (z < 0)) z.natAbs = z := by unfold sgn; split <;> simp_all <;> omega
theorem sgn_natAbs (neg : Bool) (n : Nat) : (sgn neg n).natAbs = n := by unfold sgn; split <;> omega
/-- A normal whole number's cells. -/
abbrev zN (z : Int) : List Atom := [.c (.val (.bool (decide (z < 0)))), .c (.sat (nrmN z.natAbs))]
/-- Cells of a whole number of so many words at most, normal or not. -/
abbrev zR (neg : Bool) (n k : Nat) : List Atom := [.c (.val (.bool neg)), .c (.sat (natR n k))]
/-- Cells that hold a whole number, normal or not. -/
class ZI (l : List Atom) (z : outParam Int) (k : outParam Nat) : Prop where
  h : ∃ neg n, z = sgn neg n ∧ ∀ E S w v, (AV.agg l).has E S w v → (AV.agg (zR neg n k)).has E S w v
theorem ZI.mk' {neg : Bool} {a : CA} {n k : Nat} (h : NI a n k) : ZI [.c (.val (.bool neg)), .c a] (sgn neg n) k := ⟨neg, n, rfl, fun E S w v hv => by
  obtain ⟨vs, hv, hall⟩ := hv
  match vs, hall with
  | [x, y], ⟨h1, h2, _⟩ => exact ⟨[x, y], hv, h1, h.p S w y h2, trivial⟩⟩
instance ZI.nat (neg : Bool) (n k : Nat) : ZI [.c (.val (.bool neg)), .c (.sat (natR n k))] (sgn neg n) k := ZI.mk' inferInstance
instance ZI.nrm (z : Int) (k : Nat) [h : Bd z k] : ZI [.c (.val (.bool (decide (z < 0)))), .c (.sat (nrmN z.natAbs))] z k := by
  have := ZI.mk' (neg := decide (z < 0)) (NI.nrm' h.h)
  rwa [sgn_abs] at this
instance ZI.raw (neg : Bool) (l : List Nat) : ZI [.c (.val (.bool neg)), .c (.sat (rawN l))] (sgn neg (nval WB l)) l.length := ZI.mk' inferInstance
instance ZI.zero : ZI [.c (.val (.bool false)), .c (.val (.slice none 0 0))] 0 0 := ZI.mk' (neg := false) (n := 0) inferInstance
theorem natR_bd {n k : Nat} {S : Nat → Prop} {w : World} {v : Value} (h : (natR n k).has S w v) : n < WB ^ k := by
  obtain ⟨l, h1, h2, h3⟩ := natR_iff.1 h
  rw [← h1]; exact nn_lt (rawN.rn h3).sm h2
theorem zR_bd {neg : Bool} {n k : Nat} {E : Env} {S : Nat → Prop} {w : World} {v : Value} (h : (AV.agg (zR neg n k)).has E S w v) : n < WB ^ k := by
  obtain ⟨vs, _, hall⟩ := h
  match vs, hall with
  | [_, _], ⟨_, h2, _⟩ => exact natR_bd h2
theorem z1 {f : FuncId} {r : AV} {l : List Atom} {z : Int} {k : Nat} [h : ZI l z k] (he : ∃ fn, Tryd.prog.funcs[f]? = some fn ∧ (fn.name == "runtime.NumGoroutine") = false ∧ fn.body.isNone = false)
    (hf : ∀ neg n, z = sgn neg n → BdN n k → PureOK Tryd.prog f [.agg (zR neg n k)] r) : PureOK Tryd.prog f [.agg l] r := by
  obtain ⟨neg, n, hz, hm⟩ := h.h
  refine PureOK.fact he (fun hb => hf neg n hz hb) fun E S w vs hv => ?_
  match vs, hv with
  | [x], ⟨h1, _⟩ => exact ⟨⟨hm E S w x h1, trivial⟩, ⟨zR_bd (hm E S w x h1)⟩⟩
theorem z2 {f : FuncId} {r : AV} {l l' : List Atom} {z z' : Int} {k k' : Nat} [h : ZI l z k] [h' : ZI l' z' k'] (he : ∃ fn, Tryd.prog.funcs[f]? = some fn ∧ (fn.name == "runtime.NumGoroutine") = false ∧ fn.body.isNone = false)
    (hf : ∀ neg n neg' n', z = sgn neg n → z' = sgn neg' n' → BdN n k → BdN n' k' → PureOK Tryd.prog f [.agg (zR neg n k), .agg (zR neg' n' k')] r) : PureOK Tryd.prog f [.agg l, .agg l'] r := by
  obtain ⟨neg, n, hz, hm⟩ := h.h
  obtain ⟨neg', n', hz', hm'⟩ := h'.h
  refine PureOK.fact (φ := BdN n k ∧ BdN n' k') he (fun hb => hf neg n neg' n' hz hz' hb.1 hb.2) fun E S w vs hv => ?_
  match vs, hv with
  | [x, y], ⟨h1, h2, _⟩ => exact ⟨⟨hm E S w x h1, hm' E S w y h2, trivial⟩, ⟨zR_bd (hm E S w x h1)⟩, ⟨zR_bd (hm' E S w y h2)⟩⟩
instance Bd.sgn (neg : Bool) (n k : Nat) [h : BdN n k] : Bd (sgn neg n) k := ⟨by rw [sgn_natAbs]; exact h.h⟩
theorem zN_sgn (neg : Bool) (n : Nat) : zN (sgn neg n) = [.c (.val (.bool (neg && decide (0 < n)))), .c (.sat (nrmN n))] := by
  have h1 : decide (sgn neg n < 0) = (neg && decide (0 < n)) := by
    unfold sgn; cases neg <;> simp
  unfold zN
  rw [sgn_natAbs, h1]
theorem zFrom {a : CA} {x k : Nat} [ha : NI a x k] (neg : Bool) (hk : k ≤ 1099511627775) : PureOK Tryd.prog 88 [.it (.one (.c a)), .v (.bool neg)] (.agg (zN (sgn neg x))) := by
  rw [zN_sgn]
  refine PureOK.args (args' := [.r (natR x k), .v (.bool neg)]) ?_ (fun E S w vs hv => ?_)
  rotate_left
  · match vs, hv with
    | [u, v], ⟨h1, h2, _⟩ => exact ⟨ha.p S w u h1, h2, trivial⟩
  refine PureOK.fn Tryd.func88 Tryd.results88 Tryd.ntmps88 rfl rfl rfl (by simp [AV.ids, AV0.ids, Atom.ids]) rfl (fun w0 T B E0 hB => ?_)
  cases neg
  · repeat (first | refine SX.goZ ?_ | (refine SX.Go1.is ?_; refine SX.Go1.isCall ?_; first
          | refine SX.Go1.call rfl (nNorm hk) rfl rfl ?_))
    exact RetOK.eq1 (ResOK.agg2 rfl rfl rfl) rfl
  · repeat (first | refine SX.goZ ?_ | (refine SX.Go1.is ?_; refine SX.Go1.isCall ?_; first
          | refine SX.Go1.call rfl (nNorm hk) rfl rfl ?_))
    refine RetOK.eq1 (ResOK.agg2 rfl rfl rfl) ?_
    have h : decide (0 < ((wds x).length : Int)) = decide (0 < x) := by
      have := wds_zero x
      rw [decide_eq_decide]; omega
    show AV0.agg [Atom.c (CA.val (.bool (decide (0 < ((wds x).length : Int))))), _] = _
    rw [h]; rfl
/-- A sign's number. -/
def isign (z : Int) : Int := if z = 0 then 0 else if z < 0 then -1 else 1
theorem bitLen_zero {n : Nat} : bitLen n = 0 ↔ n = 0 := by
  unfold bitLen; split <;> simp_all
theorem zSign {l : List Atom} {z : Int} {k : Nat} [h : ZI l z k] (hk : k ≤ 1099511627775) : PureOK Tryd.prog 37 [.agg l] (.v (.int .i64 (isign z))) := by
  refine z1 ⟨_, Tryd.func37, rfl, rfl⟩ fun neg n hz hn => ?_
  subst hz
  refine PureOK.fn Tryd.func37 Tryd.results37 Tryd.ntmps37 rfl rfl rfl (by simp [AV.ids, AV0.ids, Atom.ids]) rfl (fun w0 T B E0 hB => ?_)
  have hb := bitLen_zero (n := n)
  repeat (first | refine SX.goZ ?_ | (refine SX.Go1.is ?_; refine SX.Go1.isCall ?_; first
        | refine SX.Go1.call rfl (nBits hk) rfl rfl ?_))
  refine WP.cond rfl (fun hc => ?_) (fun hc => ?_)
  · repeat (first | refine SX.goZ ?_)
    refine RetOK.eq1 (ResOK.tmp rfl) ?_
    have : n = 0 := by simp at hc; omega
    subst this
    cases neg <;> rfl
  · repeat (first | refine SX.goZ ?_)
    have hn : 0 < n := by simp at hc; omega
    cases neg
    · repeat (first | refine SX.goZ ?_)
      refine RetOK.eq1 (ResOK.tmp rfl) ?_
      have : isign (sgn false n) = 1 := by unfold isign sgn; simp; omega
      rw [this]
    · repeat (first | refine SX.goZ ?_)
      refine RetOK.eq1 (ResOK.tmp rfl) ?_
      have : isign (sgn true n) = -1 := by unfold isign sgn; simp; omega
      rw [this]
theorem sgn_not (neg : Bool) (n : Nat) : sgn (!neg) n = -sgn neg n := by unfold sgn; cases neg <;> simp
theorem zNeg {l : List Atom} {z : Int} {k : Nat} [h : ZI l z k] (hk : k ≤ 1099511627775) : PureOK Tryd.prog 53 [.agg l] (.agg (zN (-z))) := by
  refine z1 ⟨_, Tryd.func53, rfl, rfl⟩ fun neg n hz hn => ?_
  subst hz
  rw [← sgn_not]
  refine PureOK.fn Tryd.func53 Tryd.results53 Tryd.ntmps53 rfl rfl rfl (by simp [AV.ids, AV0.ids, Atom.ids]) rfl (fun w0 T B E0 hB => ?_)
  repeat (first | refine SX.goZ ?_ | (refine SX.Go1.is ?_; refine SX.Go1.isCall ?_; first
        | refine SX.Go1.call rfl (zFrom _ hk) rfl rfl ?_))
  exact RetOK.eq1 (ResOK.agg2 rfl rfl rfl) rfl
theorem zAbs {l : List Atom} {z : Int} {k : Nat} [h : ZI l z k] (hk : k ≤ 1099511627775) : PureOK Tryd.prog 92 [.agg l] (.agg (zN (z.natAbs : Int))) := by
  refine z1 ⟨_, Tryd.func92, rfl, rfl⟩ fun neg n hz hn => ?_
  subst hz
  rw [sgn_natAbs]
  refine PureOK.fn Tryd.func92 Tryd.results92 Tryd.ntmps92 rfl rfl rfl (by simp [AV.ids, AV0.ids, Atom.ids]) rfl (fun w0 T B E0 hB => ?_)
  repeat (first | refine SX.goZ ?_ | (refine SX.Go1.is ?_; refine SX.Go1.isCall ?_; first
        | refine SX.Go1.call rfl (zFrom false hk) rfl rfl ?_))
  exact RetOK.eq1 (ResOK.agg2 rfl rfl rfl) rfl
end Go.Proofs.YtkdonndeogihfaaDoor

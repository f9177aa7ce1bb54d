import Derived.Test.YtkdonndeogihfaaDoorD2
/- Package rat, reference 07 in the symbolic run. -/
set_option linter.unusedVariables false
set_option linter.unusedSimpArgs false
namespace Go.Proofs.YtkdonndeogihfaaDoor
open Go.RowKit QM SX
attribute [local irreducible] IntKind.wrap Go1 Reg WP thenK inBlk retQ retF RetF RetOK ResOK CallOK OpOK Sat
attribute [local irreducible] decS zS
theorem isignP (z : Int) : 0 < isign z ↔ 0 < z := by unfold isign; (repeat' split) <;> omega
theorem imp_zero : AV0.imp (.agg [.c (.val (.bool false)), .c (.val (.slice none 0 0))]) (.agg (zN 0)) := fun E S w v h => by
  obtain ⟨vs, rfl, hall⟩ := h
  match vs, hall with
  | [a, b], ⟨h1, h2, _⟩ =>
    have h2' : b = .slice none 0 0 := h2
    subst h2'
    exact ⟨[a, _], rfl, h1, nrmN.zero, trivial⟩
def qsub (p q r s : Int) : Int × Int := qadd p q (-(rmk r s).1) (rmk r s).2
section
variable {x0 x1 x2 x3 y0 y1 y2 y3 : Atom} {p q r s : Int} {k m k' m' : Nat}
instance Bd.qadd1 (p q r s : Int) (k m k' m' : Nat) [Bd p k] [Bd q m] [Bd r k'] [Bd s m'] : Bd (qadd p q r s).1 (3 * (k + m + k' + m') + 12) := ⟨by unfold qadd; exact Bd.mono (Bd.rmk1 _ _ _ _).h (by omega)⟩
instance Bd.qadd2 (p q r s : Int) (k m k' m' : Nat) [Bd p k] [Bd q m] [Bd r k'] [Bd s m'] : Bd (qadd p q r s).2 (3 * (k + m + k' + m') + 12) := ⟨by unfold qadd; exact Bd.mono (Bd.rmk2 _ _ _ _).h (by omega)⟩
instance Bd.qsub1 (p q r s : Int) (k m k' m' : Nat) [Bd p k] [Bd q m] [Bd r k'] [Bd s m'] : Bd (qsub p q r s).1 (6 * (k + m + k' + m') + 20) := ⟨by unfold qsub; exact Bd.mono (Bd.qadd1 _ _ _ _ _ _ _ _).h (by omega)⟩
instance Bd.qsub2 (p q r s : Int) (k m k' m' : Nat) [Bd p k] [Bd q m] [Bd r k'] [Bd s m'] : Bd (qsub p q r s).2 (6 * (k + m + k' + m') + 20) := ⟨by unfold qsub; exact Bd.mono (Bd.qadd2 _ _ _ _ _ _ _ _).h (by omega)⟩
instance Bd.qmul1 (p q r s : Int) (k m k' m' : Nat) [Bd p k] [Bd q m] [Bd r k'] [Bd s m'] : Bd (qmul p q r s).1 (3 * (k + m + k' + m') + 12) := ⟨by unfold qmul; exact Bd.mono (Bd.rmk1 _ _ _ _).h (by omega)⟩
instance Bd.qmul2 (p q r s : Int) (k m k' m' : Nat) [Bd p k] [Bd q m] [Bd r k'] [Bd s m'] : Bd (qmul p q r s).2 (3 * (k + m + k' + m') + 12) := ⟨by unfold qmul; exact Bd.mono (Bd.rmk2 _ _ _ _).h (by omega)⟩
instance Bd.qquo1 (p q r s : Int) (k m k' m' : Nat) [Bd p k] [Bd q m] [Bd r k'] [Bd s m'] : Bd (qquo p q r s).1 (3 * (k + m + k' + m') + 12) := ⟨by unfold qquo; exact Bd.mono (Bd.rmk1 _ _ _ _).h (by omega)⟩
instance Bd.qquo2 (p q r s : Int) (k m k' m' : Nat) [Bd p k] [Bd q m] [Bd r k'] [Bd s m'] : Bd (qquo p q r s).2 (3 * (k + m + k' + m') + 12) := ⟨by unfold qquo; exact Bd.mono (Bd.rmk2 _ _ _ _).h (by omega)⟩
instance con_rSub [h : ZI [x0, x1] p k] [h' : ZI [x2, x3] q m] [g : ZI [y0, y1] r k'] [g' : ZI [y2, y3] s m'] : Con Tryd.prog 47 [.agg [x0, x1, x2, x3], .agg [y0, y1, y2, y3]] (k + m + k' + m' ≤ 1000000) (.agg (ratA (qsub p q r s))) := ⟨fun hk => by
  refine q2 ⟨_, Tryd.func47, rfl, rfl⟩ fun neg n neg2 n2 neg3 n3 neg4 n4 hz hz2 hz3 hz4 hn hn2 hn3 hn4 => ?_
  subst hz; subst hz2; subst hz3; subst hz4
  refine PureOK.fnF Tryd.func47 Tryd.results47 Tryd.ntmps47 rfl rfl rfl (by simp [AV.ids, AV0.ids, Atom.ids]) rfl (fun w0 T B E0 hB => ?_)
  refine SX.go2 ?_
  exact retA (ResOK.agg4 rfl rfl rfl) rfl⟩
instance con_rMul [h : ZI [x0, x1] p k] [h' : ZI [x2, x3] q m] [g : ZI [y0, y1] r k'] [g' : ZI [y2, y3] s m'] : Con Tryd.prog 42 [.agg [x0, x1, x2, x3], .agg [y0, y1, y2, y3]] (k + m + k' + m' ≤ 10000000) (.agg (ratA (qmul p q r s))) := ⟨fun hk => by
  refine q2 ⟨_, Tryd.func42, rfl, rfl⟩ fun neg n neg2 n2 neg3 n3 neg4 n4 hz hz2 hz3 hz4 hn hn2 hn3 hn4 => ?_
  subst hz; subst hz2; subst hz3; subst hz4
  refine PureOK.fnF Tryd.func42 Tryd.results42 Tryd.ntmps42 rfl rfl rfl (by simp [AV.ids, AV0.ids, Atom.ids]) rfl (fun w0 T B E0 hB => ?_)
  refine SX.go2 ?_
  exact retA (ResOK.agg4 rfl rfl rfl) rfl⟩
instance con_rQuo [h : ZI [x0, x1] p k] [h' : ZI [x2, x3] q m] [g : ZI [y0, y1] r k'] [g' : ZI [y2, y3] s m'] : Con Tryd.prog 44 [.agg [x0, x1, x2, x3], .agg [y0, y1, y2, y3]] (k + m + k' + m' ≤ 10000000) (.tup [.agg (ratA (qquo p q r s)), .one (.c (.val (.bool (decide ((rmk p q).2 * (rmk r s).1 ≠ 0)))))]) := ⟨fun hk => by
  refine q2 ⟨_, Tryd.func44, rfl, rfl⟩ fun neg n neg2 n2 neg3 n3 neg4 n4 hz hz2 hz3 hz4 hn hn2 hn3 hn4 => ?_
  subst hz; subst hz2; subst hz3; subst hz4
  refine PureOK.fnF Tryd.func44 Tryd.results44 Tryd.ntmps44 rfl rfl rfl (by simp [AV.ids, AV0.ids, Atom.ids]) rfl (fun w0 T B E0 hB => ?_)
  refine SX.go2 ?_
  exact ret2' (ResOK.agg4 rfl rfl rfl) (ResOK.tmp rfl) (AV0.imp.refl _) (AV0.imp.refl _)⟩
def qcmp (p q r s : Int) : Int := isign ((qsub p q r s).1 * (qsub p q r s).2)
instance con_rCmp [h : ZI [x0, x1] p k] [h' : ZI [x2, x3] q m] [g : ZI [y0, y1] r k'] [g' : ZI [y2, y3] s m'] : Con Tryd.prog 45 [.agg [x0, x1, x2, x3], .agg [y0, y1, y2, y3]] (k + m + k' + m' ≤ 1000000) (.v (.int .i64 (qcmp p q r s))) := ⟨fun hk => by
  refine q2 ⟨_, Tryd.func45, rfl, rfl⟩ fun neg n neg2 n2 neg3 n3 neg4 n4 hz hz2 hz3 hz4 hn hn2 hn3 hn4 => ?_
  subst hz; subst hz2; subst hz3; subst hz4
  refine PureOK.fnF Tryd.func45 Tryd.results45 Tryd.ntmps45 rfl rfl rfl (by simp [AV.ids, AV0.ids, Atom.ids]) rfl (fun w0 T B E0 hB => ?_)
  refine SX.go2 ?_
  exact retI rfl⟩
instance con_rFloor [h : ZI [x0, x1] p k] [h' : ZI [x2, x3] q m] : Con Tryd.prog 62 [.agg [x0, x1, x2, x3]] (k + m ≤ 1000000) (.agg (zN (zfq (rmk p q).1 (rmk p q).2))) := ⟨fun hk => by
  refine q1 ⟨_, Tryd.func62, rfl, rfl⟩ fun neg n neg2 n2 hz hz2 hn hn2 => ?_
  subst hz; subst hz2
  refine PureOK.fnF Tryd.func62 Tryd.results62 Tryd.ntmps62 rfl rfl rfl (by simp [AV.ids, AV0.ids, Atom.ids]) rfl (fun w0 T B E0 hB => ?_)
  refine SX.go2 ?_
  exact retA (ResOK.agg2 rfl rfl rfl) rfl⟩
instance con_rRound [h : ZI [x0, x1] p k] [h' : ZI [x2, x3] q m] : Con Tryd.prog 63 [.agg [x0, x1, x2, x3]] (k + m ≤ 1000000) (.agg (zN (zround (rmk p q).1 (rmk p q).2))) := ⟨fun hk => by
  refine q1 ⟨_, Tryd.func63, rfl, rfl⟩ fun neg n neg2 n2 hz hz2 hn hn2 => ?_
  subst hz; subst hz2
  refine PureOK.fnF Tryd.func63 Tryd.results63 Tryd.ntmps63 rfl rfl rfl (by simp [AV.ids, AV0.ids, Atom.ids]) rfl (fun w0 T B E0 hB => ?_)
  refine SX.go2 ?_
  exact retA (ResOK.agg2 rfl rfl rfl) rfl⟩
def rwhole (p q : Int) : Int := if (rmk p q).2 = 1 then (rmk p q).1 else 0
instance con_rWhole [h : ZI [x0, x1] p k] [h' : ZI [x2, x3] q m] : Con Tryd.prog 33 [.agg [x0, x1, x2, x3]] (k + m ≤ 1000000) (.tup [.agg (zN (rwhole p q)), .one (.c (.val (.bool (decide ((rmk p q).2 = 1)))))]) := ⟨fun hk => by
  refine q1 ⟨_, Tryd.func33, rfl, rfl⟩ fun neg n neg2 n2 hz hz2 hn hn2 => ?_
  subst hz; subst hz2
  refine PureOK.fnF Tryd.func33 Tryd.results33 Tryd.ntmps33 rfl rfl rfl (by simp [AV.ids, AV0.ids, Atom.ids]) rfl (fun w0 T B E0 hB => ?_)
  by_cases h1 : (rmk (sgn neg n) (sgn neg2 n2)).2 = 1
  · refine SX.go2 ?_
    exact ret2' (ResOK.agg2 rfl rfl rfl) (ResOK.tmp rfl) (AV0.imp.of_eq (by unfold rwhole; rw [if_pos h1])) (AV0.imp.of_eq (cb (decide_eq_true h1).symm))
  · refine SX.go2 ?_
    have e : rwhole (sgn neg n) (sgn neg2 n2) = 0 := by unfold rwhole; rw [if_neg h1]
    rw [e]
    exact ret2' (ResOK.agg2 rfl rfl rfl) (ResOK.tmp rfl) imp_zero (AV0.imp.of_eq (cb (decide_eq_false h1).symm))⟩
/-- A fraction's text. -/
def rS (q : Int × Int) : List UInt8 := if q.2 = 1 then zS q.1 else zS q.1 ++ [47] ++ zS q.2
instance con_rPrint [h : ZI [x0, x1] p k] [h' : ZI [x2, x3] q m] : Con Tryd.prog 66 [.agg [x0, x1, x2, x3]] (k + m ≤ 1000000) (.v (str (rS (rmk p q)))) := ⟨fun hk => by
  refine q1 ⟨_, Tryd.func66, rfl, rfl⟩ fun neg n neg2 n2 hz hz2 hn hn2 => ?_
  subst hz; subst hz2
  have l1 := zS_len (z := (rmk (sgn neg n) (sgn neg2 n2)).1)
  have l2 := zS_len (z := (rmk (sgn neg n) (sgn neg2 n2)).2)
  refine PureOK.fnF Tryd.func66 Tryd.results66 Tryd.ntmps66 rfl rfl rfl (by simp [AV.ids, AV0.ids, Atom.ids]) rfl (fun w0 T B E0 hB => ?_)
  by_cases h1 : (rmk (sgn neg n) (sgn neg2 n2)).2 = 1
  · refine SX.go2 ?_
    refine retS ?_; unfold rS; rw [if_pos h1]
  · refine SX.go2 ?_
    refine retS ?_; unfold rS; rw [if_neg h1]⟩
/-- plain: of a normal whole number. -/
instance con_plain (z : Int) (k : Nat) [hb : Bd z k] : Con Tryd.prog 100 [.agg (zN z)] (k ≤ 1000000000) (.v (.bool true)) := ⟨fun hk => by
  have hl : (wds z.natAbs).length ≤ k := wds_len hb.h
  have hz := wds_zero z.natAbs
  refine PureOK.fnF Tryd.func100 Tryd.results100 Tryd.ntmps100 rfl rfl rfl (by simp [AV.ids, AV0.ids, Atom.ids]) rfl (fun w0 T B E0 hB => ?_)
  by_cases h0 : (wds z.natAbs).length = 0
  · have hz0 : decide (z < 0) = false := decide_eq_false (by omega)
    refine SX.go2 ?_
    exact retB rfl
  · obtain ⟨w, hw⟩ : ∃ w, (wds z.natAbs)[(wds z.natAbs).length - 1]? = some w := ⟨_, List.getElem?_eq_getElem (by omega)⟩
    have hw0 : w ≠ 0 := by
      rcases wds_nrm z.natAbs with h | h
      · rw [h] at h0; exact absurd rfl h0
      · intro e; apply h; rw [List.getD_eq_getElem?_getD, hw, e]; rfl
    refine SX.go2 ?_
    refine retB ?_
    exact decide_eq_true (by omega)⟩
abbrev ratP (p q : Int) : List Atom := [.c (.val (.bool (decide (p < 0)))), .c (.sat (nrmN p.natAbs)), .c (.val (.bool (decide (q < 0)))), .c (.sat (nrmN q.natAbs))]
instance con_Normal (p q : Int) (k m : Nat) [h : Bd p k] [h' : Bd q m] : Con Tryd.prog 65 [.agg (ratP p q)] (k + m ≤ 1000000) (.v (.bool (decide (0 < q ∧ (Int.gcd p q : Int) = 1)))) := ⟨fun hk => by
  have cp1 := (con_plain p k).h (by omega)
  have cp2 := (con_plain q m).h (by omega)
  have hs := isignP q
  refine PureOK.fnF Tryd.func65 Tryd.results65 Tryd.ntmps65 rfl rfl rfl (by simp [AV.ids, AV0.ids, Atom.ids]) rfl (fun w0 T B E0 hB => ?_)
  by_cases h0 : 0 < q
  · refine SX.go2 ?_
    refine retB ?_; rw [decide_eq_decide]; exact ⟨fun h => ⟨h0, h⟩, fun h => h.2⟩
  · refine SX.go2 ?_
    refine retB ?_; rw [eq_comm]; exact decide_eq_false (fun h => h0 h.1)⟩
end
theorem w2 {f : FuncId} {A r : AV} {l l' : List Atom} {z z' : Int} {k k' : Nat} [h : ZI l z k] [h' : ZI l' z' k'] (he : ∃ fn, Tryd.prog.funcs[f]? = some fn ∧ (fn.name == "runtime.NumGoroutine") = false ∧ fn.body.isNone = false)
    (hf : ∀ neg n neg' n', z = sgn neg n → z' = sgn neg' n' → BdN n k → BdN n' k' → PureOK Tryd.prog f [A, .agg (zR neg n k), .agg (zR neg' n' k')] r) : PureOK Tryd.prog f [A, .agg l, .agg l'] r := by
  obtain ⟨neg, n, hz, hm⟩ := h.h
  obtain ⟨neg', n', hz', hm'⟩ := h'.h
  refine PureOK.fact (φ := BdN n k ∧ BdN n' k') he (fun hb => hf neg n neg' n' hz hz' hb.1 hb.2) fun E S w vs hv => ?_
  match vs, hv with
  | [a, x, y], ⟨h0, h1, h2, _⟩ => exact ⟨⟨h0, hm E S w x h1, hm' E S w y h2, trivial⟩, ⟨zR_bd (hm E S w x h1)⟩, ⟨zR_bd (hm' E S w y h2)⟩⟩
def isR (p q x y : Int) : Prop := (0 < q ∧ (Int.gcd p q : Int) = 1) ∧ p * y = x * q
instance (p q x y : Int) : Decidable (isR p q x y) := by unfold isR; infer_instance
instance con_Is07 (p q : Int) (k m : Nat) {l l' : List Atom} {x y : Int} {k' m' : Nat} [h : Bd p k] [h' : Bd q m] [g : ZI l x k'] [g' : ZI l' y m'] : Con Tryd.prog 35 [.agg (ratP p q), .agg l, .agg l'] (k + m + k' + m' ≤ 1000000) (.v (.bool (decide (isR p q x y)))) := ⟨fun hk => by
  refine w2 ⟨_, Tryd.func35, rfl, rfl⟩ fun neg n neg2 n2 hz hz2 hn hn2 => ?_
  subst hz; subst hz2
  have cN := (con_Normal p q k m).h (by omega)
  refine PureOK.fnF Tryd.func35 Tryd.results35 Tryd.ntmps35 rfl rfl rfl (by simp [AV.ids, AV0.ids, Atom.ids]) rfl (fun w0 T B E0 hB => ?_)
  by_cases h0 : 0 < q ∧ (Int.gcd p q : Int) = 1
  · refine SX.go2 ?_
    refine retB ?_; rw [decide_eq_decide]; exact ⟨fun h => ⟨h0, h⟩, fun h => h.2⟩
  · refine SX.go2 ?_
    refine retB ?_; rw [eq_comm]; exact decide_eq_false (fun h => h0 h.1)⟩
theorem isR_iff {p q x y : Int} : isR p q x y ↔ (0 < q ∧ (Int.gcd p q : Int) = 1) ∧ p * y = x * q := Iff.rfl
attribute [irreducible] isR
end Go.Proofs.YtkdonndeogihfaaDoor

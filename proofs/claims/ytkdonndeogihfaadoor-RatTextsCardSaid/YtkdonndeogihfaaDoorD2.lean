import Derived.Test.YtkdonndeogihfaaDoorD1
/- Packages zint (texts) and rat in the symbolic run. -/
set_option linter.unusedVariables false
set_option linter.unusedSimpArgs false
namespace Go.Proofs.YtkdonndeogihfaaDoor
open Go.RowKit QM SX
attribute [local irreducible] IntKind.wrap Go1 Reg WP thenK inBlk retQ retF RetF RetOK ResOK CallOK OpOK Sat
section
variable {l l' : List Atom} {a : CA} {x y : Int} {n k m : Nat}
instance con_zSign [h : ZI l x k] : Con Tryd.prog 37 [.agg l] (k ≤ 1099511627775) (.v (.int .i64 (isign x))) := ⟨fun h => zSign h⟩
instance con_zNeg [h : ZI l x k] : Con Tryd.prog 53 [.agg l] (k ≤ 1099511627775) (.agg (zN (-x))) := ⟨fun h => zNeg h⟩
instance con_zAbs [h : ZI l x k] : Con Tryd.prog 92 [.agg l] (k ≤ 1099511627775) (.agg (zN (x.natAbs : Int))) := ⟨fun h => zAbs h⟩
instance con_zOf : Con Tryd.prog 36 [.v (.int .i64 x)] (-9223372036854775808 ≤ x ∧ x ≤ 9223372036854775807) (.agg (zN x)) := ⟨fun h => zOf x h.1 h.2⟩
instance con_zAdd [h : ZI l x k] [h' : ZI l' y m] : Con Tryd.prog 50 [.agg l, .agg l'] (k + m ≤ 1099511627774) (.agg (zN (x + y))) := ⟨fun h => zAdd h⟩
instance con_zSub [h : ZI l x k] [h' : ZI l' y m] : Con Tryd.prog 51 [.agg l, .agg l'] (k + m ≤ 1099511627774) (.agg (zN (x - y))) := ⟨fun h => zSub h⟩
instance con_zMul [h : ZI l x k] [h' : ZI l' y m] : Con Tryd.prog 40 [.agg l, .agg l'] (k + m ≤ 274877906944) (.agg (zN (x * y))) := ⟨fun h => zMul h⟩
instance con_zCmp [h : ZI l x k] [h' : ZI l' y m] : Con Tryd.prog 54 [.agg l, .agg l'] (k + m ≤ 1099511627774) (.v (.int .i64 (icmp x y))) := ⟨fun h => zCmp h⟩
instance con_zSame [h : ZI l x k] [h' : ZI l' y m] : Con Tryd.prog 39 [.agg l, .agg l'] (k + m ≤ 1099511627774) (.v (.bool (decide (x = y)))) := ⟨fun h => zSame h⟩
instance con_zBits [h : ZI l x k] : Con Tryd.prog 69 [.agg l] (k ≤ 1099511627775) (.v (.int .i64 (bitLen x.natAbs : Int))) := ⟨fun h => zBits h⟩
instance con_zQuo [h : ZI l x k] [h' : ZI l' y m] : Con Tryd.prog 38 [.agg l, .agg l'] (k + m ≤ 1099511627770) (.tup [.agg (zN (x.tdiv y)), .agg (zN (zrem x y)), .one (.c (.val (.bool (decide (y ≠ 0)))))]) := ⟨fun h => zQuo h⟩
instance con_zFloor [h : ZI l x k] [h' : ZI l' y m] : Con Tryd.prog 95 [.agg l, .agg l'] (k + m ≤ 1099511627760) (.tup [.agg (zN (zfq x y)), .agg (zN (zfr x y)), .one (.c (.val (.bool (decide (y ≠ 0)))))]) := ⟨fun h => zFloor h⟩
instance con_zRound [h : ZI l x k] [h' : ZI l' y m] : Con Tryd.prog 98 [.agg l, .agg l'] (k + m ≤ 68719476736) (.tup [.agg (zN (zround x y)), .one (.c (.val (.bool (decide (y ≠ 0)))))]) := ⟨fun h => zRound h⟩
instance con_zExact [h : ZI l x k] [h' : ZI l' y m] : Con Tryd.prog 86 [.agg l, .agg l'] (k + m ≤ 1099511627760) (.tup [.agg (zN (zexq x y)), .one (.c (.val (.bool (zexok x y))))]) := ⟨fun h => zExact h⟩
instance con_zGcd [h : ZI l x k] [h' : ZI l' y m] : Con Tryd.prog 85 [.agg l, .agg l'] (k + m ≤ 1099511627760) (.agg (zN (Int.gcd x y : Int))) := ⟨fun h => zGcd h⟩
instance con_zPow [h : ZI l x k] : Con Tryd.prog 99 [.agg l, .v (.int .i64 y)] (-9223372036854775808 ≤ y ∧ y ≤ 9223372036854775807 ∧ k ≤ 137438953472) (.tup [.agg (zN (zpowv x y)), .one (.c (.val (.bool (powok x.natAbs y))))]) := ⟨fun h => zPow y h.1 h.2.1 h.2.2⟩
instance con_zFrom [h : NI a n k] (neg : Bool) : Con Tryd.prog 88 [.it (.one (.c a)), .v (.bool neg)] (k ≤ 1099511627775) (.agg (zN (sgn neg n))) := ⟨fun h => zFrom neg h⟩
end
theorem isign0 (z : Int) : isign z = 0 ↔ z = 0 := by unfold isign; (repeat' split) <;> omega
theorem isignN (z : Int) : isign z < 0 ↔ z < 0 := by unfold isign; (repeat' split) <;> omega
theorem isign_mulw (a b : Int) : IntKind.i64.wrap (isign a * isign b) = isign (a * b) := by
  have h : isign a * isign b = isign (a * b) := by
    unfold isign
    by_cases ha : a = 0
    · simp [ha]
    · by_cases hb : b = 0
      · simp [hb]
      · have hab : a * b ≠ 0 := Int.mul_ne_zero ha hb
        rw [if_neg ha, if_neg hb, if_neg hab]
        by_cases h1 : a < 0
        · by_cases h2 : b < 0
          · have := Int.mul_pos_of_neg_of_neg h1 h2
            rw [if_pos h1, if_pos h2, if_neg (by omega)]; rfl
          · have := Int.mul_neg_of_neg_of_pos h1 (show 0 < b by omega)
            rw [if_pos h1, if_neg h2, if_pos (by omega)]; rfl
        · by_cases h2 : b < 0
          · have := Int.mul_neg_of_pos_of_neg (show 0 < a by omega) h2
            rw [if_neg h1, if_pos h2, if_pos (by omega)]; rfl
          · have := Int.mul_pos (show 0 < a by omega) (show 0 < b by omega)
            rw [if_neg h1, if_neg h2, if_neg (by omega)]; rfl
  rw [h]
  have h1 : -1 ≤ isign (a * b) ∧ isign (a * b) ≤ 1 := by unfold isign; (repeat' split) <;> omega
  exact wrapI64 (by omega) (by omega)
/-- A whole number's text. -/
def zS (z : Int) : List UInt8 := if z < 0 then 45 :: decS z.natAbs else decS z.natAbs
theorem decS_len {x k : Nat} (h : x < WB ^ k) : (decS x).length ≤ 20 * k + 1 := by
  unfold decS
  split
  · simp
  · have : WB ^ k ≤ 10 ^ (20 * k) := by rw [Nat.pow_mul]; exact Nat.pow_le_pow_left (by rw [WB_eq]; decide) _
    have := dig_len (Nat.lt_of_lt_of_le h this)
    omega
theorem zS_len {z : Int} {k : Nat} [h : Bd z k] : (zS z).length ≤ 20 * k + 2 := by
  have := decS_len h.h
  unfold zS; split
  · rw [List.length_cons]; omega
  · omega
/-- Print. -/
instance con_zPrint {l : List Atom} {z : Int} {k : Nat} [h : ZI l z k] : Con Tryd.prog 56 [.agg l] (k ≤ 1000000000) (.v (str (zS z))) := ⟨fun hk => by
  refine z1 ⟨_, Tryd.func56, rfl, rfl⟩ fun neg n hz hn => ?_
  subst hz
  have hb := (inferInstance : BdN n k).h
  have cP := con_Print (a := .sat (natR n k)) hb hk
  have hl := decS_len hb
  have hS : zS (sgn neg n) = if sgn neg n < 0 then 45 :: decS n else decS n := by unfold zS; rw [sgn_natAbs]
  have hs := isignN (sgn neg n)
  refine PureOK.fnF Tryd.func56 Tryd.results56 Tryd.ntmps56 rfl rfl rfl (by simp [AV.ids, AV0.ids, Atom.ids]) rfl (fun w0 T B E0 hB => ?_)
  by_cases h0 : sgn neg n < 0
  · refine SX.go2 ?_
    refine retS ?_; rw [hS, if_pos h0]; rfl
  · refine SX.go2 ?_
    refine retS ?_; rw [hS, if_neg h0]⟩
/-- A fraction, as it is made. -/
def rmk (x y : Int) : Int × Int := if y = 0 then (0, 1) else if y < 0 then (zexq (-x) (Int.gcd (-x) (-y)), zexq (-y) (Int.gcd (-x) (-y))) else (zexq x (Int.gcd x y), zexq y (Int.gcd x y))
abbrev ratA (q : Int × Int) : List Atom := [.c (.val (.bool (decide (q.1 < 0)))), .c (.sat (nrmN q.1.natAbs)), .c (.val (.bool (decide (q.2 < 0)))), .c (.sat (nrmN q.2.natAbs))]
instance Bd.rmk1 (x y : Int) (k m : Nat) [h : Bd x k] [h' : Bd y m] : Bd (rmk x y).1 (k + m + 1) := ⟨by
  unfold rmk; repeat' split
  · exact Bd.mono (Bd.zero).h (by omega)
  · exact Bd.mono (Bd.zexq (-x) _ k).h (by omega)
  · exact Bd.mono (Bd.zexq x _ k).h (by omega)⟩
instance Bd.rmk2 (x y : Int) (k m : Nat) [h : Bd x k] [h' : Bd y m] : Bd (rmk x y).2 (k + m + 1) := ⟨by
  unfold rmk; repeat' split
  · exact Bd.mono (Bd.one).h (by omega)
  · exact Bd.mono (Bd.zexq (-y) _ m).h (by omega)
  · exact Bd.mono (Bd.zexq y _ m).h (by omega)⟩
instance con_rOf {l : List Atom} {z : Int} {k : Nat} [h : ZI l z k] : Con Tryd.prog 34 [.agg l] (k ≤ 1000000000) (.agg (ratA (z, 1))) := ⟨fun hk => by
  refine z1 ⟨_, Tryd.func34, rfl, rfl⟩ fun neg n hz hn => ?_
  subst hz
  refine PureOK.fnF Tryd.func34 Tryd.results34 Tryd.ntmps34 rfl rfl rfl (by simp [AV.ids, AV0.ids, Atom.ids]) rfl (fun w0 T B E0 hB => ?_)
  refine SX.go2 ?_
  exact retA (ResOK.agg4 rfl rfl rfl) rfl⟩
instance con_rZero : Con Tryd.prog 84 [] True (.agg (ratA (0, 1))) := ⟨fun hk => by
  refine PureOK.fnF Tryd.func84 Tryd.results84 Tryd.ntmps84 rfl rfl rfl (by simp [AV.ids, AV0.ids, Atom.ids]) rfl (fun w0 T B E0 hB => ?_)
  refine SX.go2 ?_
  exact retA (ResOK.agg4 rfl rfl rfl) rfl⟩
instance con_rMake {l l' : List Atom} {x y : Int} {k m : Nat} [h : ZI l x k] [h' : ZI l' y m] : Con Tryd.prog 32 [.agg l, .agg l'] (k + m ≤ 1000000000) (.tup [.agg (ratA (rmk x y)), .one (.c (.val (.bool (decide (y ≠ 0)))))]) := ⟨fun hk => by
  refine z2 ⟨_, Tryd.func32, rfl, rfl⟩ fun neg n neg2 n2 hz hz2 hn hn2 => ?_
  subst hz; subst hz2
  have hs0 := isign0 (sgn neg2 n2)
  have hsn := isignN (sgn neg2 n2)
  refine PureOK.fnF Tryd.func32 Tryd.results32 Tryd.ntmps32 rfl rfl rfl (by simp [AV.ids, AV0.ids, Atom.ids]) rfl (fun w0 T B E0 hB => ?_)
  by_cases h0 : sgn neg2 n2 = 0
  · refine SX.go2 ?_
    have e : rmk (sgn neg n) (sgn neg2 n2) = (0, 1) := by unfold rmk; rw [if_pos h0]
    rw [e]
    exact ret2' (ResOK.agg4 rfl rfl rfl) (ResOK.tmp rfl) (AV0.imp.refl _) (AV0.imp.of_eq (cb (by simp [h0])))
  · by_cases h1 : sgn neg2 n2 < 0
    · refine SX.go2 ?_
      have e : rmk (sgn neg n) (sgn neg2 n2) = (zexq (-sgn neg n) (Int.gcd (-sgn neg n) (-sgn neg2 n2)), zexq (-sgn neg2 n2) (Int.gcd (-sgn neg n) (-sgn neg2 n2))) := by unfold rmk; rw [if_neg h0, if_pos h1]
      rw [e]
      exact ret2' (ResOK.agg4 rfl rfl rfl) (ResOK.tmp rfl) (AV0.imp.refl _) (AV0.imp.of_eq (cb (by simp [h0])))
    · refine SX.go2 ?_
      have e : rmk (sgn neg n) (sgn neg2 n2) = (zexq (sgn neg n) (Int.gcd (sgn neg n) (sgn neg2 n2)), zexq (sgn neg2 n2) (Int.gcd (sgn neg n) (sgn neg2 n2))) := by unfold rmk; rw [if_neg h0, if_neg h1]
      rw [e]
      exact ret2' (ResOK.agg4 rfl rfl rfl) (ResOK.tmp rfl) (AV0.imp.refl _) (AV0.imp.of_eq (cb (by simp [h0])))⟩
theorem q1 {f : FuncId} {r : AV} {x0 x1 x2 x3 : Atom} {p q : Int} {k m : Nat} [h : ZI [x0, x1] p k] [h' : ZI [x2, x3] q m] (he : ∃ fn, Tryd.prog.funcs[f]? = some fn ∧ (fn.name == "runtime.NumGoroutine") = false ∧ fn.body.isNone = false)
    (hf : ∀ neg n neg' n', p = sgn neg n → q = sgn neg' n' → BdN n k → BdN n' m → PureOK Tryd.prog f [.agg (zR neg n k ++ zR neg' n' m)] r) : PureOK Tryd.prog f [.agg [x0, x1, x2, x3]] r := by
  obtain ⟨neg, n, hz, hm⟩ := h.h
  obtain ⟨neg', n', hz', hm'⟩ := h'.h
  refine PureOK.fact (φ := BdN n k ∧ BdN n' m) he (fun hb => hf neg n neg' n' hz hz' hb.1 hb.2) fun E S w vs hv => ?_
  match vs, hv with
  | [_], ⟨⟨[v0, v1, v2, v3], rfl, h0, h1, h2, h3, _⟩, _⟩ =>
    have a1 := hm E S w _ ⟨[v0, v1], rfl, h0, h1, trivial⟩
    have a2 := hm' E S w _ ⟨[v2, v3], rfl, h2, h3, trivial⟩
    refine ⟨⟨⟨[v0, v1, v2, v3], rfl, ?_⟩, trivial⟩, ⟨zR_bd a1⟩, ⟨zR_bd a2⟩⟩
    obtain ⟨us, e1, b1⟩ := a1
    obtain ⟨us', e2, b2⟩ := a2
    match us, us', b1, b2 with
    | [_, _], [_, _], ⟨c0, c1, _⟩, ⟨d0, d1, _⟩ =>
      cases e1; cases e2
      exact ⟨c0, c1, d0, d1, trivial⟩
theorem q2 {f : FuncId} {r : AV} {x0 x1 x2 x3 y0 y1 y2 y3 : Atom} {p q p' q' : Int} {k m k' m' : Nat} [h : ZI [x0, x1] p k] [h' : ZI [x2, x3] q m] [g : ZI [y0, y1] p' k'] [g' : ZI [y2, y3] q' m'] (he : ∃ fn, Tryd.prog.funcs[f]? = some fn ∧ (fn.name == "runtime.NumGoroutine") = false ∧ fn.body.isNone = false)
    (hf : ∀ neg n neg' n' neg2 n2 neg3 n3, p = sgn neg n → q = sgn neg' n' → p' = sgn neg2 n2 → q' = sgn neg3 n3 → BdN n k → BdN n' m → BdN n2 k' → BdN n3 m' → PureOK Tryd.prog f [.agg (zR neg n k ++ zR neg' n' m), .agg (zR neg2 n2 k' ++ zR neg3 n3 m')] r) : PureOK Tryd.prog f [.agg [x0, x1, x2, x3], .agg [y0, y1, y2, y3]] r := by
  obtain ⟨neg, n, hz, hm⟩ := h.h
  obtain ⟨neg', n', hz', hm'⟩ := h'.h
  obtain ⟨neg2, n2, hz2, hm2⟩ := g.h
  obtain ⟨neg3, n3, hz3, hm3⟩ := g'.h
  refine PureOK.fact (φ := BdN n k ∧ BdN n' m ∧ BdN n2 k' ∧ BdN n3 m') he (fun hb => hf neg n neg' n' neg2 n2 neg3 n3 hz hz' hz2 hz3 hb.1 hb.2.1 hb.2.2.1 hb.2.2.2) fun E S w vs hv => ?_
  match vs, hv with
  | [_, _], ⟨⟨[v0, v1, v2, v3], rfl, h0, h1, h2, h3, _⟩, ⟨[w0, w1, w2, w3], rfl, i0, i1, i2, i3, _⟩, _⟩ =>
    have a1 := hm E S w _ ⟨[v0, v1], rfl, h0, h1, trivial⟩
    have a2 := hm' E S w _ ⟨[v2, v3], rfl, h2, h3, trivial⟩
    have a3 := hm2 E S w _ ⟨[w0, w1], rfl, i0, i1, trivial⟩
    have a4 := hm3 E S w _ ⟨[w2, w3], rfl, i2, i3, trivial⟩
    refine ⟨⟨⟨[v0, v1, v2, v3], rfl, ?_⟩, ⟨[w0, w1, w2, w3], rfl, ?_⟩, trivial⟩, ⟨zR_bd a1⟩, ⟨zR_bd a2⟩, ⟨zR_bd a3⟩, ⟨zR_bd a4⟩⟩
    · obtain ⟨us, e1, b1⟩ := a1
      obtain ⟨us', e2, b2⟩ := a2
      match us, us', b1, b2 with
      | [_, _], [_, _], ⟨c0, c1, _⟩, ⟨d0, d1, _⟩ =>
        cases e1; cases e2
        exact ⟨c0, c1, d0, d1, trivial⟩
    · obtain ⟨us, e1, b1⟩ := a3
      obtain ⟨us', e2, b2⟩ := a4
      match us, us', b1, b2 with
      | [_, _], [_, _], ⟨c0, c1, _⟩, ⟨d0, d1, _⟩ =>
        cases e1; cases e2
        exact ⟨c0, c1, d0, d1, trivial⟩
attribute [irreducible] rmk
section
variable {x0 x1 x2 x3 y0 y1 y2 y3 : Atom} {p q r s : Int} {k m k' m' : Nat}
abbrev qn (p q : Int) : Int × Int := rmk p q
instance con_rNorm [h : ZI [x0, x1] p k] [h' : ZI [x2, x3] q m] : Con Tryd.prog 87 [.agg [x0, x1, x2, x3]] (k + m ≤ 1000000000) (.agg (ratA (rmk p q))) := ⟨fun hk => by
  refine q1 ⟨_, Tryd.func87, rfl, rfl⟩ fun neg n neg2 n2 hz hz2 hn hn2 => ?_
  subst hz; subst hz2
  refine PureOK.fnF Tryd.func87 Tryd.results87 Tryd.ntmps87 rfl rfl rfl (by simp [AV.ids, AV0.ids, Atom.ids]) rfl (fun w0 T B E0 hB => ?_)
  refine SX.go2 ?_
  exact retA (ResOK.agg4 rfl rfl rfl) rfl⟩
instance con_rSign [h : ZI [x0, x1] p k] [h' : ZI [x2, x3] q m] : Con Tryd.prog 46 [.agg [x0, x1, x2, x3]] (k + m ≤ 1000000000) (.v (.int .i64 (isign (p * q)))) := ⟨fun hk => by
  refine q1 ⟨_, Tryd.func46, rfl, rfl⟩ fun neg n neg2 n2 hz hz2 hn hn2 => ?_
  subst hz; subst hz2
  have hw : IntKind.i64.wrap (isign (sgn neg n) * isign (sgn neg2 n2)) = isign (sgn neg n * sgn neg2 n2) := isign_mulw _ _
  refine PureOK.fnF Tryd.func46 Tryd.results46 Tryd.ntmps46 rfl rfl rfl (by simp [AV.ids, AV0.ids, Atom.ids]) rfl (fun w0 T B E0 hB => ?_)
  refine SX.go2 ?_
  exact retI rfl⟩
instance con_rNeg [h : ZI [x0, x1] p k] [h' : ZI [x2, x3] q m] : Con Tryd.prog 52 [.agg [x0, x1, x2, x3]] (k + m ≤ 1000000000) (.agg (ratA (-(rmk p q).1, (rmk p q).2))) := ⟨fun hk => by
  refine q1 ⟨_, Tryd.func52, rfl, rfl⟩ fun neg n neg2 n2 hz hz2 hn hn2 => ?_
  subst hz; subst hz2
  refine PureOK.fnF Tryd.func52 Tryd.results52 Tryd.ntmps52 rfl rfl rfl (by simp [AV.ids, AV0.ids, Atom.ids]) rfl (fun w0 T B E0 hB => ?_)
  refine SX.go2 ?_
  exact retA (ResOK.agg4 rfl rfl rfl) rfl⟩
def qadd (p q r s : Int) : Int × Int := rmk ((rmk p q).1 * (rmk r s).2 + (rmk r s).1 * (rmk p q).2) ((rmk p q).2 * (rmk r s).2)
def qmul (p q r s : Int) : Int × Int := rmk ((rmk p q).1 * (rmk r s).1) ((rmk p q).2 * (rmk r s).2)
def qquo (p q r s : Int) : Int × Int := rmk ((rmk p q).1 * (rmk r s).2) ((rmk p q).2 * (rmk r s).1)
instance con_rAdd [h : ZI [x0, x1] p k] [h' : ZI [x2, x3] q m] [g : ZI [y0, y1] r k'] [g' : ZI [y2, y3] s m'] : Con Tryd.prog 43 [.agg [x0, x1, x2, x3], .agg [y0, y1, y2, y3]] (k + m + k' + m' ≤ 10000000) (.agg (ratA (qadd p q r s))) := ⟨fun hk => by
  refine q2 ⟨_, Tryd.func43, rfl, rfl⟩ fun neg n neg2 n2 neg3 n3 neg4 n4 hz hz2 hz3 hz4 hn hn2 hn3 hn4 => ?_
  subst hz; subst hz2; subst hz3; subst hz4
  refine PureOK.fnF Tryd.func43 Tryd.results43 Tryd.ntmps43 rfl rfl rfl (by simp [AV.ids, AV0.ids, Atom.ids]) rfl (fun w0 T B E0 hB => ?_)
  refine SX.go2 ?_
  exact retA (ResOK.agg4 rfl rfl rfl) rfl⟩
end
end Go.Proofs.YtkdonndeogihfaaDoor

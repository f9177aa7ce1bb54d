import Derived.Test.YtmfadfkjnfdngaaGreatDoorM15
set_option linter.unusedVariables false
set_option linter.unusedSimpArgs false
namespace Go.Proofs.YtmfadfkjnfdngaaGreatDoor
open Go.RowKit QM SX
attribute [local irreducible] IntKind.wrap Go1 Reg WP thenK inBlk retQ retF RetF RetOK ResOK CallOK OpOK Sat
section
variable {l l' : List Atom} {a : CA} {x y : Int} {n k m : Nat}
instance con_zSign [h : ZI l x k] : Con Tryz.prog 9 [.agg l] (k ≤ 1099511627775) (.v (.int .i64 (isign x))) := ⟨fun h => zSign h⟩
instance con_zNeg [h : ZI l x k] : Con Tryz.prog 89 [.agg l] (k ≤ 1099511627775) (.agg (zN (-x))) := ⟨fun h => zNeg h⟩
instance con_zAbs [h : ZI l x k] : Con Tryz.prog 104 [.agg l] (k ≤ 1099511627775) (.agg (zN (x.natAbs : Int))) := ⟨fun h => zAbs h⟩
instance con_zOf : Con Tryz.prog 7 [.v (.int .i64 x)] (-9223372036854775808 ≤ x ∧ x ≤ 9223372036854775807) (.agg (zN x)) := ⟨fun h => zOf x h.1 h.2⟩
instance con_zAdd [h : ZI l x k] [h' : ZI l' y m] : Con Tryz.prog 42 [.agg l, .agg l'] (k + m ≤ 1099511627774) (.agg (zN (x + y))) := ⟨fun h => zAdd h⟩
instance con_zMul [h : ZI l x k] [h' : ZI l' y m] : Con Tryz.prog 18 [.agg l, .agg l'] (k + m ≤ 274877906944) (.agg (zN (x * y))) := ⟨fun h => zMul h⟩
instance con_zCmp [h : ZI l x k] [h' : ZI l' y m] : Con Tryz.prog 22 [.agg l, .agg l'] (k + m ≤ 1099511627774) (.v (.int .i64 (icmp x y))) := ⟨fun h => zCmp h⟩
instance con_zSame [h : ZI l x k] [h' : ZI l' y m] : Con Tryz.prog 10 [.agg l, .agg l'] (k + m ≤ 1099511627774) (.v (.bool (decide (x = y)))) := ⟨fun h => zSame h⟩
instance con_zQuo [h : ZI l x k] [h' : ZI l' y m] : Con Tryz.prog 44 [.agg l, .agg l'] (k + m ≤ 1099511627770) (.tup [.agg (zN (x.tdiv y)), .agg (zN (zrem x y)), .one (.c (.val (.bool (decide (y ≠ 0)))))]) := ⟨fun h => zQuo h⟩
instance con_zFloor [h : ZI l x k] [h' : ZI l' y m] : Con Tryz.prog 58 [.agg l, .agg l'] (k + m ≤ 1099511627760) (.tup [.agg (zN (zfq x y)), .agg (zN (zfr x y)), .one (.c (.val (.bool (decide (y ≠ 0)))))]) := ⟨fun h => zFloor h⟩
instance con_zExact [h : ZI l x k] [h' : ZI l' y m] : Con Tryz.prog 52 [.agg l, .agg l'] (k + m ≤ 1099511627760) (.tup [.agg (zN (zexq x y)), .one (.c (.val (.bool (zexok x y))))]) := ⟨fun h => zExact h⟩
instance con_zGcd [h : ZI l x k] [h' : ZI l' y m] : Con Tryz.prog 17 [.agg l, .agg l'] (k + m ≤ 1099511627760) (.agg (zN (Int.gcd x y : Int))) := ⟨fun h => zGcd h⟩
instance con_zFrom [h : NI a n k] (neg : Bool) : Con Tryz.prog 19 [.it (.one (.c a)), .v (.bool neg)] (k ≤ 1099511627775) (.agg (zN (sgn neg n))) := ⟨fun h => zFrom neg h⟩
end
theorem isign0 (z : Int) : isign z = 0 ↔ z = 0 := by unfold isign; (repeat' split) <;> omega
theorem isignN (z : Int) : isign z < 0 ↔ z < 0 := by unfold isign; (repeat' split) <;> omega
def zS (z : Int) : List UInt8 := if z < 0 then 45 :: decS z.natAbs else decS z.natAbs
theorem decS_len {x k : Nat} (h : x < WB ^ k) : (decS x).length ≤ 20 * k + 1 := by
  unfold decS
  split
  · simp
  · have : WB ^ k ≤ 10 ^ (20 * k) := by rw [Nat.pow_mul]; exact Nat.pow_le_pow_left (by rw [WB_eq]; decide) _
    have := dig_len (Nat.lt_of_lt_of_le h this)
    omega
theorem zS_len {z : Int} {k : Nat} [h : Bd z k] : (zS z).length ≤ 20 * k + 2 := by
  have := decS_len h.h
  unfold zS; split
  · rw [List.length_cons]; omega
  · omega
instance con_zPrint {l : List Atom} {z : Int} {k : Nat} [h : ZI l z k] : Con Tryz.prog 34 [.agg l] (k ≤ 1000000000) (.v (str (zS z))) := ⟨fun hk => by
  refine z1 ⟨_, Tryz.func34, rfl, rfl⟩ fun neg n hz hn => ?_
  subst hz
  have hb := (inferInstance : BdN n k).h
  have cP := con_Print (a := .sat (natR n k)) hb hk
  have hl := decS_len hb
  have hS : zS (sgn neg n) = if sgn neg n < 0 then 45 :: decS n else decS n := by unfold zS; rw [sgn_natAbs]
  have hs := isignN (sgn neg n)
  refine PureOK.fnF Tryz.func34 Tryz.results34 Tryz.ntmps34 rfl rfl rfl (by simp [AV.ids, AV0.ids, Atom.ids]) rfl (fun w0 T B E0 hB => ?_)
  by_cases h0 : sgn neg n < 0
  · refine SX.go2 ?_
    refine retS ?_; rw [hS, if_pos h0]; rfl
  · refine SX.go2 ?_
    refine retS ?_; rw [hS, if_neg h0]⟩
def rmk (x y : Int) : Int × Int := if y = 0 then (0, 1) else if y < 0 then (zexq (-x) (Int.gcd (-x) (-y)), zexq (-y) (Int.gcd (-x) (-y))) else (zexq x (Int.gcd x y), zexq y (Int.gcd x y))
abbrev ratA (q : Int × Int) : List Atom := [.c (.val (.bool (decide (q.1 < 0)))), .c (.sat (nrmN q.1.natAbs)), .c (.val (.bool (decide (q.2 < 0)))), .c (.sat (nrmN q.2.natAbs))]
instance Bd.rmk1 (x y : Int) (k m : Nat) [h : Bd x k] [h' : Bd y m] : Bd (rmk x y).1 (k + m + 1) := ⟨by
  unfold rmk; repeat' split
  · exact Bd.mono (Bd.zero).h (by omega)
  · exact Bd.mono (Bd.zexq (-x) _ k).h (by omega)
  · exact Bd.mono (Bd.zexq x _ k).h (by omega)⟩
instance Bd.rmk2 (x y : Int) (k m : Nat) [h : Bd x k] [h' : Bd y m] : Bd (rmk x y).2 (k + m + 1) := ⟨by
  unfold rmk; repeat' split
  · exact Bd.mono (Bd.one).h (by omega)
  · exact Bd.mono (Bd.zexq (-y) _ m).h (by omega)
  · exact Bd.mono (Bd.zexq y _ m).h (by omega)⟩
instance con_rOf {l : List Atom} {z : Int} {k : Nat} [h : ZI l z k] : Con Tryz.prog 112 [.agg l] (k ≤ 1000000000) (.agg (ratA (z, 1))) := ⟨fun hk => by
  refine z1 ⟨_, Tryz.func112, rfl, rfl⟩ fun neg n hz hn => ?_
  subst hz
  refine PureOK.fnF Tryz.func112 Tryz.results112 Tryz.ntmps112 rfl rfl rfl (by simp [AV.ids, AV0.ids, Atom.ids]) rfl (fun w0 T B E0 hB => ?_)
  refine SX.go2 ?_
  exact retA (ResOK.agg4 rfl rfl rfl) rfl⟩
instance con_rZero : Con Tryz.prog 90 [] True (.agg (ratA (0, 1))) := ⟨fun hk => by
  refine PureOK.fnF Tryz.func90 Tryz.results90 Tryz.ntmps90 rfl rfl rfl (by simp [AV.ids, AV0.ids, Atom.ids]) rfl (fun w0 T B E0 hB => ?_)
  refine SX.go2 ?_
  exact retA (ResOK.agg4 rfl rfl rfl) rfl⟩
instance con_rMake {l l' : List Atom} {x y : Int} {k m : Nat} [h : ZI l x k] [h' : ZI l' y m] : Con Tryz.prog 60 [.agg l, .agg l'] (k + m ≤ 1000000000) (.tup [.agg (ratA (rmk x y)), .one (.c (.val (.bool (decide (y ≠ 0)))))]) := ⟨fun hk => by
  refine z2 ⟨_, Tryz.func60, rfl, rfl⟩ fun neg n neg2 n2 hz hz2 hn hn2 => ?_
  subst hz; subst hz2
  have hs0 := isign0 (sgn neg2 n2)
  have hsn := isignN (sgn neg2 n2)
  refine PureOK.fnF Tryz.func60 Tryz.results60 Tryz.ntmps60 rfl rfl rfl (by simp [AV.ids, AV0.ids, Atom.ids]) rfl (fun w0 T B E0 hB => ?_)
  by_cases h0 : sgn neg2 n2 = 0
  · refine SX.go2 ?_
    have e : rmk (sgn neg n) (sgn neg2 n2) = (0, 1) := by unfold rmk; rw [if_pos h0]
    rw [e]
    exact ret2' (ResOK.agg4 rfl rfl rfl) (ResOK.tmp rfl) (AV0.imp.refl _) (AV0.imp.of_eq (cb (by simp [h0])))
  · by_cases h1 : sgn neg2 n2 < 0
    · refine SX.go2 ?_
      have e : rmk (sgn neg n) (sgn neg2 n2) = (zexq (-sgn neg n) (Int.gcd (-sgn neg n) (-sgn neg2 n2)), zexq (-sgn neg2 n2) (Int.gcd (-sgn neg n) (-sgn neg2 n2))) := by unfold rmk; rw [if_neg h0, if_pos h1]
      rw [e]
      exact ret2' (ResOK.agg4 rfl rfl rfl) (ResOK.tmp rfl) (AV0.imp.refl _) (AV0.imp.of_eq (cb (by simp [h0])))
    · refine SX.go2 ?_
      have e : rmk (sgn neg n) (sgn neg2 n2) = (zexq (sgn neg n) (Int.gcd (sgn neg n) (sgn neg2 n2)), zexq (sgn neg2 n2) (Int.gcd (sgn neg n) (sgn neg2 n2))) := by unfold rmk; rw [if_neg h0, if_neg h1]
      rw [e]
      exact ret2' (ResOK.agg4 rfl rfl rfl) (ResOK.tmp rfl) (AV0.imp.refl _) (AV0.imp.of_eq (cb (by simp [h0])))⟩
theorem q1 {f : FuncId} {r : AV} {x0 x1 x2 x3 : Atom} {p q : Int} {k m : Nat} [h : ZI [x0, x1] p k] [h' : ZI [x2, x3] q m] (he : ∃ fn, Tryz.prog.funcs[f]? = some fn ∧ (fn.name == "runtime.NumGoroutine") = false ∧ fn.body.isNone = false)
    (hf : ∀ neg n neg' n', p = sgn neg n → q = sgn neg' n' → BdN n k → BdN n' m → PureOK Tryz.prog f [.agg (zR neg n k ++ zR neg' n' m)] r) : PureOK Tryz.prog f [.agg [x0, x1, x2, x3]] r := by
  obtain ⟨neg, n, hz, hm⟩ := h.h
  obtain ⟨neg', n', hz', hm'⟩ := h'.h
  refine PureOK.fact (φ := BdN n k ∧ BdN n' m) he (fun hb => hf neg n neg' n' hz hz' hb.1 hb.2) fun E S w vs hv => ?_
  match vs, hv with
  | [_], ⟨⟨[v0, v1, v2, v3], rfl, h0, h1, h2, h3, _⟩, _⟩ =>
    have a1 := hm E S w _ ⟨[v0, v1], rfl, h0, h1, trivial⟩
    have a2 := hm' E S w _ ⟨[v2, v3], rfl, h2, h3, trivial⟩
    refine ⟨⟨⟨[v0, v1, v2, v3], rfl, ?_⟩, trivial⟩, ⟨zR_bd a1⟩, ⟨zR_bd a2⟩⟩
    obtain ⟨us, e1, b1⟩ := a1
    obtain ⟨us', e2, b2⟩ := a2
    match us, us', b1, b2 with
    | [_, _], [_, _], ⟨c0, c1, _⟩, ⟨d0, d1, _⟩ =>
      cases e1; cases e2
      exact ⟨c0, c1, d0, d1, trivial⟩
attribute [irreducible] rmk
section
variable {x0 x1 x2 x3 y0 y1 y2 y3 : Atom} {p q r s : Int} {k m k' m' : Nat}
abbrev qn (p q : Int) : Int × Int := rmk p q
instance con_rNorm [h : ZI [x0, x1] p k] [h' : ZI [x2, x3] q m] : Con Tryz.prog 33 [.agg [x0, x1, x2, x3]] (k + m ≤ 1000000000) (.agg (ratA (rmk p q))) := ⟨fun hk => by
  refine q1 ⟨_, Tryz.func33, rfl, rfl⟩ fun neg n neg2 n2 hz hz2 hn hn2 => ?_
  subst hz; subst hz2
  refine PureOK.fnF Tryz.func33 Tryz.results33 Tryz.ntmps33 rfl rfl rfl (by simp [AV.ids, AV0.ids, Atom.ids]) rfl (fun w0 T B E0 hB => ?_)
  refine SX.go2 ?_
  exact retA (ResOK.agg4 rfl rfl rfl) rfl⟩
def qadd (p q r s : Int) : Int × Int := rmk ((rmk p q).1 * (rmk r s).2 + (rmk r s).1 * (rmk p q).2) ((rmk p q).2 * (rmk r s).2)
def qmul (p q r s : Int) : Int × Int := rmk ((rmk p q).1 * (rmk r s).1) ((rmk p q).2 * (rmk r s).2)
def qquo (p q r s : Int) : Int × Int := rmk ((rmk p q).1 * (rmk r s).2) ((rmk p q).2 * (rmk r s).1)
end
end Go.Proofs.YtmfadfkjnfdngaaGreatDoor
set_option linter.unusedVariables false
set_option linter.unusedSimpArgs false
namespace Go.Proofs.YtmfadfkjnfdngaaGreatDoor
open Go.RowKit QM SX
attribute [local irreducible] IntKind.wrap Go1 Reg WP thenK inBlk retQ retF RetF RetOK ResOK CallOK OpOK Sat
attribute [local irreducible] decS zS
def qsub (p q r s : Int) : Int × Int := qadd p q (-(rmk r s).1) (rmk r s).2
section
variable {x0 x1 x2 x3 y0 y1 y2 y3 : Atom} {p q r s : Int} {k m k' m' : Nat}
def qcmp (p q r s : Int) : Int := isign ((qsub p q r s).1 * (qsub p q r s).2)
def rwhole (p q : Int) : Int := if (rmk p q).2 = 1 then (rmk p q).1 else 0
def rS (q : Int × Int) : List UInt8 := if q.2 = 1 then zS q.1 else zS q.1 ++ [47] ++ zS q.2
instance con_rPrint [h : ZI [x0, x1] p k] [h' : ZI [x2, x3] q m] : Con Tryz.prog 14 [.agg [x0, x1, x2, x3]] (k + m ≤ 1000000) (.v (str (rS (rmk p q)))) := ⟨fun hk => by
  refine q1 ⟨_, Tryz.func14, rfl, rfl⟩ fun neg n neg2 n2 hz hz2 hn hn2 => ?_
  subst hz; subst hz2
  have l1 := zS_len (z := (rmk (sgn neg n) (sgn neg2 n2)).1)
  have l2 := zS_len (z := (rmk (sgn neg n) (sgn neg2 n2)).2)
  refine PureOK.fnF Tryz.func14 Tryz.results14 Tryz.ntmps14 rfl rfl rfl (by simp [AV.ids, AV0.ids, Atom.ids]) rfl (fun w0 T B E0 hB => ?_)
  by_cases h1 : (rmk (sgn neg n) (sgn neg2 n2)).2 = 1
  · refine SX.go2 ?_
    refine retS ?_; unfold rS; rw [if_pos h1]
  · refine SX.go2 ?_
    refine retS ?_; unfold rS; rw [if_neg h1]⟩
abbrev ratP (p q : Int) : List Atom := [.c (.val (.bool (decide (p < 0)))), .c (.sat (nrmN p.natAbs)), .c (.val (.bool (decide (q < 0)))), .c (.sat (nrmN q.natAbs))]
end
def isR (p q x y : Int) : Prop := (0 < q ∧ (Int.gcd p q : Int) = 1) ∧ p * y = x * q
attribute [irreducible] isR
end Go.Proofs.YtmfadfkjnfdngaaGreatDoor
set_option linter.unusedVariables false
set_option linter.unusedSimpArgs false
namespace Go.Proofs.YtmfadfkjnfdngaaGreatDoor
open Go.RowKit QM SX
attribute [local irreducible] IntKind.wrap Go1 Reg WP thenK inBlk retQ retF RetF RetOK ResOK CallOK OpOK Sat
attribute [local irreducible] decS zS rwhole qsub qmul qquo qcmp rS
abbrev zW (neg : Bool) (l : List Nat) : List Atom := [.c (.val (.bool neg)), .c (.sat (rawN l))]
abbrev qW (b : Bool) (l : List Nat) (c : Bool) (m : List Nat) : List Atom := [.c (.val (.bool b)), .c (.sat (rawN l)), .c (.val (.bool c)), .c (.sat (rawN m))]
theorem zrem_dvd {x y : Int} (hy : y ≠ 0) : zrem x y = 0 ↔ y ∣ x := by
  unfold zrem; first | (rw [if_neg hy]; exact (Int.dvd_iff_tmod_eq_zero ..).symm) | exact (Int.dvd_iff_tmod_eq_zero ..).symm
end Go.Proofs.YtmfadfkjnfdngaaGreatDoor

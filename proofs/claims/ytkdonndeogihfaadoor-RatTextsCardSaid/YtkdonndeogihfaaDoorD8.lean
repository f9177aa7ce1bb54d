import Derived.Test.YtkdonndeogihfaaDoorD7
/- The statement RatPowers answers true. -/
set_option linter.unusedVariables false
set_option linter.unusedSimpArgs false
namespace Go.Proofs.YtkdonndeogihfaaDoor
open Go.RowKit QM SX
attribute [local irreducible] IntKind.wrap Go1 Reg WP thenK inBlk retQ retF RetF RetOK ResOK CallOK OpOK Sat
attribute [local irreducible] qsub qmul qquo qcmp qadd qv
/-- A normal fraction hangs on its value alone. -/
theorem Rd.uniq {p q r s : Int} (h1 : 0 < q) (g1 : Int.gcd p q = 1) (h2 : 0 < s) (g2 : Int.gcd r s = 1) (hv : qv p q = qv r s) : p = r ∧ q = s := by
  have he := (qv_lt (n := p) (m := r) h1 h2).2.1 hv
  have d1 : q ∣ s := by
    have : q ∣ p * s := ⟨r, by rw [he, Int.mul_comm]⟩
    exact Int.natAbs_dvd_natAbs.1 (Nat.Coprime.dvd_of_dvd_mul_left (show Nat.gcd q.natAbs p.natAbs = 1 by rw [Nat.gcd_comm]; exact g1) (by rw [← Int.natAbs_mul]; exact Int.natAbs_dvd_natAbs.2 this))
  have d2 : s ∣ q := by
    have : s ∣ r * q := ⟨p, by rw [← he, Int.mul_comm]⟩
    exact Int.natAbs_dvd_natAbs.1 (Nat.Coprime.dvd_of_dvd_mul_left (show Nat.gcd s.natAbs r.natAbs = 1 by rw [Nat.gcd_comm]; exact g2) (by rw [← Int.natAbs_mul]; exact Int.natAbs_dvd_natAbs.2 this))
  have e : q = s := Int.dvd_antisymm (by omega) (by omega) d1 d2
  subst e
  exact ⟨Int.eq_of_mul_eq_mul_right (by omega) he, rfl⟩
theorem gcd_pow1 {p q : Int} (h : Int.gcd p q = 1) (n : Nat) : Int.gcd (p ^ n) (q ^ n) = 1 := by
  unfold Int.gcd at *
  rw [Int.natAbs_pow, Int.natAbs_pow]
  exact Nat.Coprime.pow n n h
theorem qv_pow {p q : Int} (hq : q ≠ 0) (n : Nat) : qv (p ^ n) (q ^ n) = qv p q ^ n := by
  induction n with
  | zero => unfold qv; simp; grind
  | succ n ih => rw [Int.pow_succ, Int.pow_succ, qv_mul, ih, Rat.pow_succ]
theorem bd_pow {z : Int} {k : Nat} (h : Bd z k) (n : Nat) (hk : 1 ≤ k) : (z ^ n).natAbs < WB ^ (k * n + 1) := by
  rw [Int.natAbs_pow, Nat.pow_succ, Nat.pow_mul]
  have h1 : z.natAbs ^ n ≤ (WB ^ k) ^ n := Nat.pow_le_pow_left (Nat.le_of_lt h.h) n
  have h2 : 0 < (WB ^ k) ^ n := Nat.pow_pos (Nat.pow_pos WB_pos)
  have h3 := WB_one
  exact Nat.lt_of_le_of_lt h1 ((Nat.lt_mul_iff_one_lt_right h2).2 h3)
theorem bd0 (K : Nat) : Bd 0 K := ⟨Nat.pow_pos WB_pos⟩
theorem bd1 {K : Nat} (h : 1 ≤ K) : Bd 1 K := ⟨Bd.mono Bd.one.h h⟩
theorem bdp {z : Int} {k K : Nat} (h : Bd z k) (n : Nat) (hk : 1 ≤ k) (hK : k * n + 1 ≤ K) : Bd (z ^ n) K := ⟨Bd.mono (bd_pow h n hk) hK⟩
theorem powok_small {x : Nat} {n : Int} {k : Nat} (h : x < WB ^ k) (hk : k ≤ 20) (h0 : 0 ≤ n) (h9 : n ≤ 9) : powok x n = true := by
  have hb := bits_le h
  unfold powok
  rw [decide_eq_true h0, Bool.true_and, Bool.or_eq_true, decide_eq_true_iff, decide_eq_true_iff]
  by_cases hb0 : bitLen x = 0
  · exact .inl hb0
  · right
    have : 9 ≤ 1048576 / bitLen x := (Nat.le_div_iff_mul_le (by omega)).2 (by omega)
    omega
theorem q1v {f : FuncId} {r : AV} {u : Value} {x0 x1 x2 x3 : Atom} {p q : Int} {k m : Nat} [h : ZI [x0, x1] p k] [h' : ZI [x2, x3] q m] (he : ∃ fn, Tryd.prog.funcs[f]? = some fn ∧ (fn.name == "runtime.NumGoroutine") = false ∧ fn.body.isNone = false)
    (hf : ∀ neg n neg' n', p = sgn neg n → q = sgn neg' n' → BdN n k → BdN n' m → PureOK Tryd.prog f [.agg (zR neg n k ++ zR neg' n' m), .v u] r) : PureOK Tryd.prog f [.agg [x0, x1, x2, x3], .v u] r := by
  obtain ⟨neg, n, hz, hm⟩ := h.h
  obtain ⟨neg', n', hz', hm'⟩ := h'.h
  refine PureOK.fact (φ := BdN n k ∧ BdN n' m) he (fun hb => hf neg n neg' n' hz hz' hb.1 hb.2) fun E S w vs hv => ?_
  match vs, hv with
  | [_, y], ⟨⟨[v0, v1, v2, v3], rfl, h0, h1, h2, h3, _⟩, hy, _⟩ =>
    have a1 := hm E S w _ ⟨[v0, v1], rfl, h0, h1, trivial⟩
    have a2 := hm' E S w _ ⟨[v2, v3], rfl, h2, h3, trivial⟩
    refine ⟨⟨⟨[v0, v1, v2, v3], rfl, ?_⟩, hy, trivial⟩, ⟨zR_bd a1⟩, ⟨zR_bd a2⟩⟩
    obtain ⟨us, e1, b1⟩ := a1
    obtain ⟨us', e2, b2⟩ := a2
    match us, us', b1, b2 with
    | [_, _], [_, _], ⟨c0, c1, _⟩, ⟨d0, d1, _⟩ =>
      cases e1; cases e2
      exact ⟨c0, c1, d0, d1, trivial⟩
theorem zpowv_eq {z n : Int} (h : powok z.natAbs n = true) : zpowv z n = z ^ n.toNat := by unfold zpowv; rw [if_pos h]
attribute [local irreducible] zpowv powok sgn isign
section
variable {x0 x1 x2 x3 : Atom} {p q : Int} {k m : Nat}
theorem con_rPowP [h : ZI [x0, x1] p k] [h' : ZI [x2, x3] q m] (hk : k + m ≤ 10) (n : Int) (h0 : 0 ≤ n) (h9 : n ≤ 9) (o1 : powok (rmk p q).1.natAbs n = true) (o2 : powok (rmk p q).2.natAbs n = true) :
    PureOK Tryd.prog 64 [.agg [x0, x1, x2, x3], .v (.int .i64 n)] (.tup [.agg (ratA (rmk (zpowv (rmk p q).1 n) (zpowv (rmk p q).2 n))), .one (.c (.val (.bool true)))]) := by
  refine q1v ⟨_, Tryd.func64, rfl, rfl⟩ fun neg n' neg2 n2 hz hz2 hn hn2 => ?_
  subst hz; subst hz2
  have hpk := pwK_eq
  refine PureOK.fnF Tryd.func64 Tryd.results64 Tryd.ntmps64 rfl rfl rfl (by simp [AV.ids, AV0.ids, Atom.ids]) rfl (fun w0 T B E0 hB => ?_)
  refine SX.go2 ?_
  exact ret2' (ResOK.agg4 rfl rfl rfl) (ResOK.tmp rfl) (AV0.imp.refl _) (AV0.imp.refl _)
theorem con_rPowN [h : ZI [x0, x1] p k] [h' : ZI [x2, x3] q m] (hk : k + m ≤ 10) (n : Int) (h0 : n < 0) (h9 : -9 ≤ n) (hv : isign ((rmk p q).1 * (rmk p q).2) ≠ 0) (o1 : powok (rmk (rmk p q).2 (rmk p q).1).1.natAbs (0 - n) = true) (o2 : powok (rmk (rmk p q).2 (rmk p q).1).2.natAbs (0 - n) = true) :
    PureOK Tryd.prog 64 [.agg [x0, x1, x2, x3], .v (.int .i64 n)] (.tup [.agg (ratA (rmk (zpowv (rmk (rmk p q).2 (rmk p q).1).1 (0 - n)) (zpowv (rmk (rmk p q).2 (rmk p q).1).2 (0 - n)))), .one (.c (.val (.bool true)))]) := by
  refine q1v ⟨_, Tryd.func64, rfl, rfl⟩ fun neg n' neg2 n2 hz hz2 hn hn2 => ?_
  subst hz; subst hz2
  have hpk := pwK_eq
  refine PureOK.fnF Tryd.func64 Tryd.results64 Tryd.ntmps64 rfl rfl rfl (by simp [AV.ids, AV0.ids, Atom.ids]) rfl (fun w0 T B E0 hB => ?_)
  refine SX.go2 ?_
  exact ret2' (ResOK.agg4 rfl rfl rfl) (ResOK.tmp rfl) (AV0.imp.refl _) (AV0.imp.refl _)
theorem con_rPow0 [h : ZI [x0, x1] p k] [h' : ZI [x2, x3] q m] (hk : k + m ≤ 10) (n : Int) (h0 : n < 0) (h9 : -9 ≤ n) (hv : isign ((rmk p q).1 * (rmk p q).2) = 0) :
    PureOK Tryd.prog 64 [.agg [x0, x1, x2, x3], .v (.int .i64 n)] (.tup [.agg (ratA (0, 1)), .one (.c (.val (.bool false)))]) := by
  refine q1v ⟨_, Tryd.func64, rfl, rfl⟩ fun neg n' neg2 n2 hz hz2 hn hn2 => ?_
  subst hz; subst hz2
  refine PureOK.fnF Tryd.func64 Tryd.results64 Tryd.ntmps64 rfl rfl rfl (by simp [AV.ids, AV0.ids, Atom.ids]) rfl (fun w0 T B E0 hB => ?_)
  refine SX.go2 ?_
  exact ret2' (ResOK.agg4 rfl rfl rfl) (ResOK.tmp rfl) (AV0.imp.refl _) (AV0.imp.refl _)
theorem con_rPowM [h : ZI [x0, x1] p k] [h' : ZI [x2, x3] q m] (hk : k + m ≤ 10) :
    PureOK Tryd.prog 64 [.agg [x0, x1, x2, x3], .v (.int .i64 (-9223372036854775808))] (.tup [.agg (ratA (0, 1)), .one (.c (.val (.bool false)))]) := by
  refine q1v ⟨_, Tryd.func64, rfl, rfl⟩ fun neg n' neg2 n2 hz hz2 hn hn2 => ?_
  subst hz; subst hz2
  have hw : IntKind.i64.wrap (-(-9223372036854775808)) = -9223372036854775808 := by rw [IntKind.wrap_i64]; rfl
  refine PureOK.fnF Tryd.func64 Tryd.results64 Tryd.ntmps64 rfl rfl rfl (by simp [AV.ids, AV0.ids, Atom.ids]) rfl (fun w0 T B E0 hB => ?_)
  by_cases hs : isign ((rmk (sgn neg n') (sgn neg2 n2)).1 * (rmk (sgn neg n') (sgn neg2 n2)).2) = 0
  · refine SX.go2 ?_
    exact ret2' (ResOK.agg4 rfl rfl rfl) (ResOK.tmp rfl) (AV0.imp.refl _) (AV0.imp.refl _)
  · refine SX.go2 ?_
    exact ret2' (ResOK.agg4 rfl rfl rfl) (ResOK.tmp rfl) (AV0.imp.refl _) (AV0.imp.refl _)
end
theorem ePow (l : List Atom) {v : Rat} {K : Nat} [a : Ra l v K] (hK : K ≤ 4) (n : Int) (h1 : -9 ≤ n) (h2 : n ≤ 9) : ∃ X ok, PureOK Tryd.prog 64 [.agg l, .v (.int .i64 n)] (.tup [.agg (ratA X), .one (.c (.val (.bool ok)))]) ∧ Rd X (if n < 0 then (1 / v) ^ n.natAbs else v ^ n.natAbs) 1000 ∧ (ok = true ↔ 0 ≤ n ∨ v ≠ 0) := by
  obtain ⟨x0, x1, x2, x3, p, q, k, m, rfl, z1, z2, hk, hm, b1, b2, hv⟩ := a.h
  have hd := rmk_pos p q
  have hval := rmk_val p q
  rw [hv] at hval
  have i1 : Bd (rmk p q).1 (k + m + 1) := inferInstance
  have i2 : Bd (rmk p q).2 (k + m + 1) := inferInstance
  by_cases h0 : 0 ≤ n
  · have o1 := powok_small i1.h (by omega) h0 h2
    have o2 := powok_small i2.h (by omega) h0 h2
    refine ⟨_, true, con_rPowP (h := z1) (h' := z2) (by omega) n h0 h2 o1 o2, ?_, by simp [h0]⟩
    rw [zpowv_eq o1, zpowv_eq o2, if_neg (by omega), show n.natAbs = n.toNat by omega]
    have g : (k + m + 1) * n.toNat ≤ 9 * 9 := Nat.mul_le_mul (by omega) (by omega)
    exact Rd.rmk (k := 100) (m := 100) (bdp i1 n.toNat (by omega) (by omega)) (bdp i2 n.toNat (by omega) (by omega)) (by rw [qv_pow (by omega), hval]) (by omega)
  · have hs := (sgn_val (a := (rmk p q).1) (b := (rmk p q).2)).1
    rw [hval] at hs
    by_cases hv0 : isign ((rmk p q).1 * (rmk p q).2) = 0
    · have hvz := hs.1 hv0
      refine ⟨(0, 1), false, con_rPow0 (h := z1) (h' := z2) (by omega) n (by omega) h1 hv0, ⟨?_, by decide, by decide, bd0 _, bd1 (by omega)⟩, by simp [hvz]; omega⟩
      rw [if_pos (by omega), hvz]
      obtain ⟨j, hj⟩ : ∃ j, n.natAbs = j + 1 := ⟨n.natAbs - 1, by omega⟩
      rw [hj, Rat.pow_succ]
      show qv 0 1 = _
      unfold qv; grind
    · have hvz : v ≠ 0 := fun h => hv0 (hs.2 h)
      have j1 : Bd (rmk (rmk p q).2 (rmk p q).1).1 ((k + m + 1) + (k + m + 1) + 1) := inferInstance
      have j2 : Bd (rmk (rmk p q).2 (rmk p q).1).2 ((k + m + 1) + (k + m + 1) + 1) := inferInstance
      have o1 := powok_small (n := 0 - n) j1.h (by omega) (by omega) (by omega)
      have o2 := powok_small (n := 0 - n) j2.h (by omega) (by omega) (by omega)
      refine ⟨_, true, con_rPowN (h := z1) (h' := z2) (by omega) n (by omega) h1 hv0 o1 o2, ?_, by simp [hvz]⟩
      rw [zpowv_eq o1, zpowv_eq o2, if_pos (by omega), show n.natAbs = (0 - n).toNat by omega]
      have g : ((k + m + 1) + (k + m + 1) + 1) * (0 - n).toNat ≤ 19 * 9 := Nat.mul_le_mul (by omega) (by omega)
      have hp2 := rmk_pos (rmk p q).2 (rmk p q).1
      refine Rd.rmk (k := 200) (m := 200) (bdp j1 (0 - n).toNat (by omega) (by omega)) (bdp j2 (0 - n).toNat (by omega) (by omega)) ?_ (by omega)
      rw [qv_pow (by omega), rmk_val]
      congr 1
      rw [← hval]; unfold qv; grind
/-- Powers of a numerator and a denominator. -/
def pwQ (x y : Int) : Nat → Int × Int
  | 0 => (1, 1)
  | k + 1 => (x ^ (k + 1), y ^ (k + 1))
theorem pwQ_eq (x y : Int) : ∀ k, pwQ x y k = (x ^ k, y ^ k)
  | 0 => by rw [Int.pow_zero, Int.pow_zero]; rfl
  | k + 1 => rfl
theorem powLoop (l : List Atom) {u : Rat} {K : Nat} [a : Ra l u K] (hK : K ≤ 45) : ∃ x y : Int, (∀ k : Nat, k < 9 → PureOK Tryd.prog 42 [.agg (ratA (pwQ x y k)), .agg l] (.agg (ratA (pwQ x y (k + 1))))) ∧ (∀ k : Nat, k ≤ 9 → Rd (pwQ x y k) (u ^ k) 1000) := by
  have hK' := a.h
  obtain ⟨x0, x1, x2, x3, p, q, k, m, rfl, z1, z2, hk, hm, b1, b2, hv⟩ := hK'
  have hd := rmk_pos p q
  have hval := rmk_val p q
  have hg := rmk_gcd p q
  rw [hv] at hval
  have i1 : Bd (rmk p q).1 (k + m + 1) := inferInstance
  have i2 : Bd (rmk p q).2 (k + m + 1) := inferInstance
  have key : ∀ j : Nat, j ≤ 9 → Rd ((rmk p q).1 ^ j, (rmk p q).2 ^ j) (u ^ j) 1000 := fun j hj => by
    have g : (k + m + 1) * j ≤ 91 * 9 := Nat.mul_le_mul (by omega) hj
    exact ⟨by show qv ((rmk p q).1 ^ j) ((rmk p q).2 ^ j) = _; rw [qv_pow (by omega), hval], Int.pow_pos hd, gcd_pow1 hg j, (bdp i1 j (by omega) (by omega)), (bdp i2 j (by omega) (by omega))⟩
  refine ⟨(rmk p q).1, (rmk p q).2, fun j hj => ?_, fun j hj => by rw [pwQ_eq]; exact key j hj⟩
  rw [pwQ_eq, pwQ_eq]
  have ij := (key j (by omega)).ra
  obtain ⟨X, cX, rX⟩ := eMul (ratA ((rmk p q).1 ^ j, (rmk p q).2 ^ j)) [x0, x1, x2, x3] (by omega)
  have r2 := key (j + 1) (by omega)
  have hu := Rd.uniq rX.d rX.g r2.d r2.g (by rw [rX.v, r2.v, Rat.pow_succ])
  have e : X = ((rmk p q).1 ^ (j + 1), (rmk p q).2 ^ (j + 1)) := Prod.ext hu.1 hu.2
  rw [e] at cX
  exact cX
set_option maxRecDepth 20000 in
theorem RatPowers_ok (b1 : Bool) (l1 : List Nat) (c1 : Bool) (m1 : List Nat) (z : Int) (hz : -128 ≤ z ∧ z ≤ 127) : PureOK Tryd.prog 13 [.agg (qW b1 l1 c1 m1), .v (.int .i8 z)] (.v (.bool true)) := by
  refine lawQ ⟨_, Tryd.func13, rfl, rfl⟩ fun i1 i2 => ?_
  by_cases f1 : l1.length ≤ 2 ∧ m1.length ≤ 2
  · obtain ⟨n, hn⟩ : ∃ n, z.tmod 10 = n := ⟨_, rfl⟩
    have hn9 : -9 ≤ n ∧ n ≤ 9 := by
      have := Int.natAbs_tmod z 10
      rw [hn] at this
      have h10 : (10 : Int).natAbs = 10 := rfl
      rw [h10] at this
      omega
    obtain ⟨v, ra⟩ : ∃ v, Ra (qW b1 l1 c1 m1) v 2 := ⟨_, Ra.raw i1 i2 f1.1 f1.2⟩
    obtain ⟨X, ok, cX, rX, hok⟩ := ePow (qW b1 l1 c1 m1) (by omega) n hn9.1 hn9.2
    have iX := rX.ra
    have y1 := rX.b1
    have y2 := rX.b2
    have hN : decide (0 < X.2 ∧ (Int.gcd X.1 X.2 : Int) = 1) = true := decide_eq_true ⟨rX.d, by rw [rX.g]; rfl⟩
    have i1' := (Rd.of Bd.one (Nat.le_refl 1)).ra
    rw [show ((1 : Int) : Rat) = 1 from rfl] at i1'
    obtain ⟨Q, fine, cQ, rQ, hfine⟩ := eQuo (ratA (1, 1)) (qW b1 l1 c1 m1) (by omega)
    have iQ := rQ.ra
    have cM := (fun (x0 x1 x2 x3 : Atom) (p q : Int) (k m : Nat) (h : ZI [x0, x1] p k) (h' : ZI [x2, x3] q m) (hk : k + m ≤ 10) => con_rPowM (h := h) (h' := h') hk) _ _ _ _ _ _ _ _ (ZI.raw b1 l1) (ZI.raw c1 m1) (by omega)
    clear i1 i2
    by_cases h0 : n < 0
    · obtain ⟨zs, czs, hzs, _⟩ := eSign (ratA X) (by omega)
      cases fine with
      | false =>
        have hv : v = 0 := Decidable.byContradiction fun h => by cases hfine.2 h
        have hokf : ok = false := by
          cases ok with
          | true => exact absurd hv ((hok.1 rfl).resolve_left (by omega))
          | false => rfl
        subst hokf
        have e0 : zs = 0 := hzs.2 (by
          rw [if_pos h0, hv]
          obtain ⟨j, hj⟩ : ∃ j, n.natAbs = j + 1 := ⟨n.natAbs - 1, by omega⟩
          rw [hj, Rat.pow_succ]; grind)
        refine PureOK.fnF Tryd.func13 Tryd.results13 Tryd.ntmps13 rfl rfl rfl (by simp [AV.ids, AV0.ids, Atom.ids]) rfl (fun w0 T B E0 hB => ?_)
        refine SX.go2 ?_
        refine retB ?_; exact decide_eq_true e0
      | true =>
        have hv : v ≠ 0 := hfine.1 rfl
        have hokt : ok = true := hok.2 (.inr hv)
        subst hokt
        obtain ⟨x, y, hstep, hfin⟩ := powLoop (ratA Q) (by omega)
        have iW := (hfin n.natAbs (by omega)).ra
        obtain ⟨zc, czc, hzc, _⟩ := eCmp (ratA X) (ratA (pwQ x y n.natAbs)) (by omega)
        have e0 : zc = 0 := hzc.2 (by rw [if_pos h0])
        have hneg : 0 - n = ((n.natAbs : Nat) : Int) := by omega
        refine PureOK.fnF Tryd.func13 Tryd.results13 Tryd.ntmps13 rfl rfl rfl (by simp [AV.ids, AV0.ids, Atom.ids]) rfl (fun w0 T B E0 hB => ?_)
        refine SX.go2 ?_
        refine W.loop (fun k => k ≤ n.natAbs) (fun k => [(2, .ptr 2 0), (5, .v (.int .i64 (0 - n))), (6, .ptr 6 0), (7, .v (.bool true)), (9, .ptr 9 0), (12, .ptr 12 0), (13, .v (.int .i64 (k : Int)))])
          (fun k => [(2, .box 50 (qW b1 l1 c1 m1)), (6, .box 50 (ratA X)), (9, .box 50 (ratA Q)), (12, .box 50 (ratA (pwQ x y k)))]) (fun k => n.natAbs - k) 0 (Nat.zero_le _) (fun k hk => ?_)
        by_cases hlt : k < n.natAbs
        · have cS := hstep k (by omega)
          refine SX.go2 ?_
          exact W.next (k + 1) (by omega) (by omega)
        · obtain rfl : k = n.natAbs := by omega
          refine SX.go2 ?_
          exact retB rfl
    · have hokt : ok = true := hok.2 (.inl (by omega))
      subst hokt
      obtain ⟨x, y, hstep, hfin⟩ := powLoop (qW b1 l1 c1 m1) (by omega)
      have iW := (hfin n.natAbs (by omega)).ra
      obtain ⟨zc, czc, hzc, _⟩ := eCmp (ratA X) (ratA (pwQ x y n.natAbs)) (by omega)
      have e0 : zc = 0 := hzc.2 (by rw [if_neg h0])
      refine PureOK.fnF Tryd.func13 Tryd.results13 Tryd.ntmps13 rfl rfl rfl (by simp [AV.ids, AV0.ids, Atom.ids]) rfl (fun w0 T B E0 hB => ?_)
      refine SX.go2 ?_
      refine W.loop (fun k => k ≤ n.natAbs) (fun k => [(2, .ptr 2 0), (5, .v (.int .i64 n)), (6, .ptr 6 0), (7, .v (.bool true)), (9, .ptr 9 0), (12, .ptr 12 0), (13, .v (.int .i64 (k : Int)))])
        (fun k => [(2, .box 50 (qW b1 l1 c1 m1)), (6, .box 50 (ratA X)), (9, .box 50 (qW b1 l1 c1 m1)), (12, .box 50 (ratA (pwQ x y k)))]) (fun k => n.natAbs - k) 0 (Nat.zero_le _) (fun k hk => ?_)
      by_cases hlt : k < n.natAbs
      · have cS := hstep k (by omega)
        refine SX.go2 ?_
        exact W.next (k + 1) (by omega) (by omega)
      · obtain rfl : k = n.natAbs := by omega
        refine SX.go2 ?_
        exact retB rfl
  · refine PureOK.fnF Tryd.func13 Tryd.results13 Tryd.ntmps13 rfl rfl rfl (by simp [AV.ids, AV0.ids, Atom.ids]) rfl (fun w0 T B E0 hB => ?_)
    refine SX.go2 ?_
    exact retB rfl
end Go.Proofs.YtkdonndeogihfaaDoor

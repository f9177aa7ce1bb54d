import Derived.Test.YtfhpmbenldgfnaaGreatDoorR9
import Derived.Test.YtfhpmbenldgfnaaGreatDoorR25
import Derived.Test.YtfhpmbenldgfnaaGreatDoorR7
set_option linter.unusedVariables false
set_option linter.unusedSimpArgs false
namespace Go.Proofs.YtfhpmbenldgfnaaGreatDoor
open Go.RowKit QM SX
attribute [local irreducible] IntKind.wrap Go1 Reg WP thenK inBlk retQ retF RetF RetOK ResOK CallOK OpOK Sat
attribute [local irreducible] decW pw nD pwM pwm decS
section
variable {a b : CA} {x y k m : Nat}
instance con_nBits [ha : NI a x k] : Con Tryz.prog 89 [.it (.one (.c a))] (k ≤ 1099511627775) (.v (.int .i64 (bitLen x : Int))) := ⟨fun h => nBits h⟩
instance con_mSquare [ha : NI a x k] : Con Tryz.prog 225 [.it (.one (.c a))] (k + k ≤ 274877906944) (.r (nrmN (x * x))) := ⟨fun h => mSquare h⟩
end
theorem decW_z (x : Nat) : decW 0 x = [] := by unfold decW; rfl
theorem decW_s (n x : Nat) : decW (n + 1) x = decW n (x / 10) ++ [UInt8.ofNat (48 + x % 10)] := by rw [decW]
theorem pureS {f : FuncId} {args : List Value} {r : Value} (he : ∃ fn, Tryz.prog.funcs[f]? = some fn ∧ (fn.name == "runtime.NumGoroutine") = false ∧ fn.body.isNone = false) (h : ∀ w, Calls Tryz.prog f args.toArray w fun e w' => e = .returned r ∧ w' = w) : PureOK Tryz.prog f (args.map AV.v) (.v r) :=
  PureOK.of_calls he rfl fun E S w vs hl hv => by
    have hvs : vs = args := by
      clear h
      induction args generalizing vs with
      | nil => cases vs with | nil => rfl | cons _ _ => exact hv.elim
      | cons a l ih => cases vs with | nil => exact hv.elim | cons b m => rw [ih m hv.2, show b = a from hv.1]
    subst hvs
    exact (h w).mono fun e w' ⟨h1, h2⟩ => ⟨r, h1, rfl, by subst h2; exact Off.refl _ _⟩
theorem byte48 (d : Nat) : ((UInt8.ofNat (48 + d % 10)).toNat : Int) = ((48 + d % 10 : Nat) : Int) := by
  rw [UInt8.toNat_ofNat']; omega
theorem con_word (x : Nat) (hx : x < WB) : OwnOK Tryz.prog 224 [.v (.int .u64 (x : Int))] 5 1 18 ((decW 18 x).flatMap bytC) := by
  rw [WB_eq] at hx
  refine OwnOK.fnF Tryz.func224 Tryz.results224 Tryz.ntmps224 rfl rfl rfl (by simp [AV.ids, AV0.ids, Atom.ids]) (fun w0 T B E0 hB => ?_)
  refine SX.go2 ?_
  refine W.loop3 (fun (k y : Nat) (tl : List UInt8) => k + tl.length = 18 ∧ y < 18446744073709551616 ∧ decW k y ++ tl = decW 18 x) (fun k y tl => [(0, .v (.int .u64 (y : Int))), (3, .own 100), (4, .v (.int .i64 ((k : Int) - 1)))])
    (fun k y tl => [(100, .row 5 1 18 ((List.replicate k 0 ++ tl).flatMap bytC))]) (fun k _ _ => k) 18 x [] ⟨rfl, hx, by simp⟩ (fun k y tl ⟨hk, hy, hd⟩ => ?_)
  cases k with
  | zero =>
    have e : (List.replicate 0 0 ++ tl).flatMap bytC = (decW 18 x).flatMap bytC := by rw [← hd, decW_z]; rfl
    refine SX.go2 ?_
    exact retO
  | succ k =>
    rw [show ((k + 1 : Nat) : Int) - 1 = (k : Int) by omega]
    have e : spl ((List.replicate (k + 1) 0 ++ tl).flatMap bytC) (k * 1) [.val (.int .u8 ((48 + y % 10 : Nat) : Int))] = (List.replicate k 0 ++ (UInt8.ofNat (48 + y % 10) :: tl)).flatMap bytC := by
      rw [← byte48, show [CA.val (.int .u8 ((UInt8.ofNat (48 + y % 10)).toNat : Int))] = bytC (UInt8.ofNat (48 + y % 10)) from rfl, flat_set _ _ _ (by simp; omega), List.replicate_succ']
      congr 1
      rw [List.append_assoc, List.set_append_right _ _ (by simp)]
      simp
    refine SX.go2 ?_
    -- ??
    exact W.next3 k (y / 10) (UInt8.ofNat (48 + y % 10) :: tl) ⟨by simp at hk ⊢; omega, by omega, by rw [← hd, decW_s]; simp⟩ (by omega)
def natC (n : Nat) : List CA := [.sat (nrmN n)]
instance : EncLen natC 1 := ⟨fun _ => rfl⟩
def pws (j : Nat) : List Nat := (List.range j).map pw
theorem pws_len (j : Nat) : (pws j).length = j := by simp [pws]
theorem pws_get {i j : Nat} (h : i < j) : (pws j)[i]? = some (pw i) := by simp [pws, h]
theorem pws_take {i j : Nat} (h : i ≤ j) : (pws j).take i = pws i := by
  unfold pws; rw [← List.map_take, List.take_range, Nat.min_eq_left h]
theorem pws_succ (j : Nat) : pws (j + 1) = pws j ++ [pw j] := by simp [pws, List.range_succ]
theorem pw_zero' : pw 0 = 1000000000000000000 := pw_zero
theorem con_powers {a : CA} {x k : Nat} [ha : NI a x k] (hx : x < WB ^ k) (hk : k ≤ 1000000000) : PureOK Tryz.prog 194 [.it (.one (.c a))] (.r (rowR 1 natC (pws (pwm x + 1)))) := by
  have cO : PureOK Tryz.prog 65 [.v (.int .u64 1000000000000000000)] (.r (nrmN (pw 0))) := by rw [pw_zero]; exact nOf 1000000000000000000 (by rw [WB_eq]; decide)
  have hb := bits_le hx
  have mark : OwnLit 5 := ⟨⟩
  have e0 : [CA.sat (nrmN (pw 0))] = (pws (0 + 1)).flatMap natC := rfl
  refine PureOK.fnF Tryz.func194 Tryz.results194 Tryz.ntmps194 rfl rfl rfl (by simp [AV.ids, AV0.ids, Atom.ids]) rfl (fun w0 T B E0 hB => ?_)
  refine SX.go2 ?_
  have hpm : pwM x (bitLen x + 2) 0 = pwm x := by unfold pwm; rfl
  refine W.loop2 (fun (j f : Nat) => (j = 0 ∨ nD j ≤ bitLen x + 1) ∧ pwM x f j = pwm x ∧ f + j = bitLen x + 2) (fun j f => [(0, .it (.one (.c a))), (3, .own 100)]) (fun j f => [(100, .row 23 1 (j + 1) ((pws (j + 1)).flatMap natC))]) (fun j f => f) 0 (bitLen x + 2) ⟨.inl rfl, hpm, rfl⟩ (fun j f ⟨h1, h2, h3⟩ => ?_)
  have hn : nD j ≤ 64000000001 := by
    rcases h1 with rfl | h1
    · have : nD 0 = 18 := by unfold nD; rfl
      omega
    · omega
  have hg : (pws (j + 1))[j + 1 - 1]? = some (pw j) := pws_get (by omega)
  have hbp := nD_bits j
  have hbj := nD_ge j
  have hbu := bits_le (BdN.pw j).h
  by_cases hq : 2 * bitLen (pw j) ≤ bitLen x + 1
  · cases f with
    | zero => exact absurd hq (by omega)
    | succ f =>
      have e1 : (pws (j + 1)).flatMap natC ++ [CA.sat (nrmN (pw j * pw j))] = (pws (j + 1 + 1)).flatMap natC := by
        rw [pws_succ (j + 1), List.flatMap_append, pw_succ]; rfl
      have h2' : pwM x f (j + 1) = pwm x := by rw [← h2]; conv => rhs; unfold pwM; rw [if_pos hq]
      have hs : nD (j + 1) = nD j + nD j := by conv => lhs; unfold nD
      refine SX.go2 ?_
      exact W.next2 (j + 1) f ⟨.inr (by omega), h2', by omega⟩ (by omega)
  · have hjm : j = pwm x := by
      rw [← h2]
      cases f with
      | zero => unfold pwM; rfl
      | succ f => conv => rhs; unfold pwM; rw [if_neg hq]
    refine SX.go2 ?_
    refine RetF.frz 100 ?_
    refine ret1' ?_
    rw [← hjm]
    show AV0.imp _ (.one (.c (.sat (sliceR 1 (pws (j + 1)).length ((pws (j + 1)).flatMap natC)))))
    rw [pws_len]; exact AV0.imp.refl _
theorem con_digits : ∀ (j : Nat) {a : CA} {x k : Nat} [ha : NI a x k] (L : List Nat), L = pws j → x < pw j → nD j ≤ 200000000000 → k ≤ 500000000000 →
    OwnOK Tryz.prog 193 [.it (.one (.c a)), .r (rowR 1 natC L)] 5 1 (nD j) ((decW (nD j) x).flatMap bytC)
  | 0, a, x, k, ha, L, hL, hx, hn, hk => by
    have e18 : nD 0 = 18 := by unfold nD; rfl
    have hxw : x < WB := by rw [pw_zero'] at hx; rw [WB_eq]; omega
    have cW := nWord (a := a) (x := x) (k := k) (by omega)
    rw [if_pos hxw] at cW
    have cw := con_word x hxw
    have hl0 : L.length = 0 := by rw [hL, pws_len]
    rw [e18]
    refine OwnOK.fnF Tryz.func193 Tryz.results193 Tryz.ntmps193 rfl rfl rfl (by simp [AV.ids, AV0.ids, Atom.ids]) (fun w0 T B E0 hB => ?_)
    refine SX.go2 ?_
    exact retO
  | j + 1, a, x, k, ha, L, hL, hx, hn, hk => by
    have hs : nD (j + 1) = nD j + nD j := by conv => lhs; unfold nD
    have hj := nD_ge j
    have hl1 : L.length = j + 1 := by rw [hL, pws_len]
    have hg : L[L.length - 1]? = some (pw j) := by rw [hl1, hL]; exact pws_get (by omega)
    have ht : L.take (L.length - 1) = pws j := by rw [hl1, hL]; exact pws_take (by omega)
    have hp := pw_pos j
    rw [pw_succ] at hx
    have hq : x / pw j < pw j := Nat.div_lt_of_lt_mul hx
    have hr : x % pw j < pw j := Nat.mod_lt _ hp
    have cD := dDivMod (a := a) (x := x) (k := k) (b := .sat (nrmN (pw j))) (y := pw j) (m := nD j) (by omega)
    rw [if_neg (by omega)] at cD
    haveI b1 : BdN (x / pw j) (nD j) := ⟨Nat.lt_trans hq (BdN.pw j).h⟩
    haveI b2 : BdN (x % pw j) (nD j) := ⟨Nat.lt_trans hr (BdN.pw j).h⟩
    have c1 := con_digits j (a := .sat (nrmN (x / pw j))) (k := nD j) (L.take (L.length - 1)) ht hq (by omega) (by omega)
    have c2 := (con_digits j (a := .sat (nrmN (x % pw j))) (k := nD j) (L.take (L.length - 1)) ht hr (by omega) (by omega)).pure
    have e1 : (decW (nD j) (x / pw j)).flatMap bytC ++ (decW (nD j) (x % pw j)).flatMap bytC = (decW (nD j + nD j) x).flatMap bytC := by
      rw [decW_add, List.flatMap_append, show 10 ^ nD j = pw j by unfold pw; rfl]
    rw [hs]
    refine OwnOK.fnF Tryz.func193 Tryz.results193 Tryz.ntmps193 rfl rfl rfl (by simp [AV.ids, AV0.ids, Atom.ids]) (fun w0 T B E0 hB => ?_)
    refine SX.go2 ?_
    exact retO
theorem con_TrimLeft (l : List UInt8) : PureOK Tryz.prog 192 [.v (str l), .v (str [48])] (.v (str (l.dropWhile (· == 48)))) :=
  pureS (args := [str l, str [48]]) ⟨_, Tryz.func192, rfl, rfl⟩ fun w => (Tryz.strings_TrimLeft_one ⟨⟨l⟩⟩ 48 (by decide) w).mono fun e w' ⟨h1, h2⟩ => ⟨h1, h2⟩
theorem pwm_lt (x : Nat) : x < pw (pwm x + 1) := by
  have key : ∀ (f j : Nat), f + j = bitLen x + 2 → ¬ 2 * bitLen (pw (pwM x f j)) ≤ bitLen x + 1 := by
    intro f
    induction f with
    | zero =>
      intro j hj
      have h1 := nD_bits j
      have h2 := nD_ge j
      unfold pwM; omega
    | succ f ih =>
      intro j hj
      unfold pwM
      split
      · exact ih (j + 1) (by omega)
      · assumption
  have := key (bitLen x + 2) 0 rfl
  exact pw_enough (by unfold pwm; exact this)
theorem pwm_nD {x k : Nat} (hx : x < WB ^ k) (hk : k ≤ 1000000000) : nD (pwm x + 1) ≤ 200000000000 := by
  have hb := bits_le hx
  have key : ∀ (f j : Nat), (j = 0 ∨ nD j ≤ bitLen x + 1) → nD (pwM x f j) ≤ 64000000001 := by
    intro f
    induction f with
    | zero =>
      intro j hj
      unfold pwM
      rcases hj with rfl | hj
      · have : nD 0 = 18 := by unfold nD; rfl
        omega
      · omega
    | succ f ih =>
      intro j hj
      unfold pwM
      split
      · rename_i h
        have h1 := nD_bits j
        exact ih (j + 1) (.inr (by conv => lhs; unfold nD
                                   omega))
      · rcases hj with rfl | hj
        · have : nD 0 = 18 := by unfold nD; rfl
          omega
        · omega
  have h1 := key (bitLen x + 2) 0 (.inl rfl)
  have h2 : nD (pwm x + 1) = nD (pwm x) + nD (pwm x) := by conv => lhs; unfold nD
  have h3 : nD (pwm x) ≤ 64000000001 := by unfold pwm; exact h1
  omega
theorem con_Print {a : CA} {x k : Nat} [ha : NI a x k] (hx : x < WB ^ k) (hk : k ≤ 1000000000) : PureOK Tryz.prog 123 [.it (.one (.c a))] (.v (str (decS x))) := by
  have cP := con_powers (a := a) hx hk
  have cD := (con_digits (pwm x + 1) (a := a) (k := k) (pws (pwm x + 1)) rfl (pwm_lt x) (pwm_nD hx hk) (by omega)).pure
  have el : nD (pwm x + 1) = (decW (nD (pwm x + 1)) x).length := (decW_len _ _).symm
  have cD' : PureOK Tryz.prog 193 [.it (.one (.c a)), .r (rowR 1 natC (pws (pwm x + 1)))] (.r (rowR 1 bytC (decW (nD (pwm x + 1)) x))) := by
    show PureOK _ _ _ (.r (sliceR 1 (decW (nD (pwm x + 1)) x).length _))
    rw [decW_len]; exact cD
  clear cD
  have cT := con_TrimLeft (decW (nD (pwm x + 1)) x)
  have hd := decW_drop (nD (pwm x + 1)) x (by have := pwm_lt x; unfold pw at this; exact this)
  rw [hd] at cT
  have hS : decS x = if x = 0 then [48] else dig x := by unfold decS; rfl
  refine PureOK.fnF Tryz.func123 Tryz.results123 Tryz.ntmps123 rfl rfl rfl (by simp [AV.ids, AV0.ids, Atom.ids]) rfl (fun w0 T B E0 hB => ?_)
  by_cases h0 : x = 0
  · have hz : decide (dig x = []) = true := by subst h0; rw [dig_zero]; rfl
    refine SX.go2 ?_
    refine retS ?_; rw [hS, if_pos h0]
  · have hz : decide (dig x = []) = false := decide_eq_false (dig_ne h0)
    refine SX.go2 ?_
    refine retS ?_; rw [hS, if_neg h0]
end Go.Proofs.YtfhpmbenldgfnaaGreatDoor
set_option linter.unusedVariables false
set_option linter.unusedSimpArgs false
namespace Go.Proofs.YtfhpmbenldgfnaaGreatDoor
open Go.RowKit QM SX
attribute [local irreducible] IntKind.wrap Go1 Reg WP thenK inBlk retQ retF RetF RetOK ResOK CallOK OpOK Sat
section
variable {l l' : List Atom} {a : CA} {x y : Int} {n k m : Nat}
instance con_zSign [h : ZI l x k] : Con Tryz.prog 63 [.agg l] (k ≤ 1099511627775) (.v (.int .i64 (isign x))) := ⟨fun h => zSign h⟩
instance con_zNeg [h : ZI l x k] : Con Tryz.prog 67 [.agg l] (k ≤ 1099511627775) (.agg (zN (-x))) := ⟨fun h => zNeg h⟩
instance con_zOf : Con Tryz.prog 23 [.v (.int .i64 x)] (-9223372036854775808 ≤ x ∧ x ≤ 9223372036854775807) (.agg (zN x)) := ⟨fun h => zOf x h.1 h.2⟩
instance con_zAdd [h : ZI l x k] [h' : ZI l' y m] : Con Tryz.prog 131 [.agg l, .agg l'] (k + m ≤ 1099511627774) (.agg (zN (x + y))) := ⟨fun h => zAdd h⟩
instance con_zSub [h : ZI l x k] [h' : ZI l' y m] : Con Tryz.prog 127 [.agg l, .agg l'] (k + m ≤ 1099511627774) (.agg (zN (x - y))) := ⟨fun h => zSub h⟩
instance con_zMul [h : ZI l x k] [h' : ZI l' y m] : Con Tryz.prog 128 [.agg l, .agg l'] (k + m ≤ 274877906944) (.agg (zN (x * y))) := ⟨fun h => zMul h⟩
instance con_zSame [h : ZI l x k] [h' : ZI l' y m] : Con Tryz.prog 122 [.agg l, .agg l'] (k + m ≤ 1099511627774) (.v (.bool (decide (x = y)))) := ⟨fun h => zSame h⟩
instance con_zBits [h : ZI l x k] : Con Tryz.prog 39 [.agg l] (k ≤ 1099511627775) (.v (.int .i64 (bitLen x.natAbs : Int))) := ⟨fun h => zBits h⟩
instance con_zExact [h : ZI l x k] [h' : ZI l' y m] : Con Tryz.prog 58 [.agg l, .agg l'] (k + m ≤ 1099511627760) (.tup [.agg (zN (zexq x y)), .one (.c (.val (.bool (zexok x y))))]) := ⟨fun h => zExact h⟩
instance con_zGcd [h : ZI l x k] [h' : ZI l' y m] : Con Tryz.prog 68 [.agg l, .agg l'] (k + m ≤ 1099511627760) (.agg (zN (Int.gcd x y : Int))) := ⟨fun h => zGcd h⟩
instance con_zFrom [h : NI a n k] (neg : Bool) : Con Tryz.prog 64 [.it (.one (.c a)), .v (.bool neg)] (k ≤ 1099511627775) (.agg (zN (sgn neg n))) := ⟨fun h => zFrom neg h⟩
end
theorem isign0 (z : Int) : isign z = 0 ↔ z = 0 := by unfold isign; (repeat' split) <;> omega
theorem isignN (z : Int) : isign z < 0 ↔ z < 0 := by unfold isign; (repeat' split) <;> omega
theorem isign_mulw (a b : Int) : IntKind.i64.wrap (isign a * isign b) = isign (a * b) := by
  have h : isign a * isign b = isign (a * b) := by
    unfold isign
    by_cases ha : a = 0
    · simp [ha]
    · by_cases hb : b = 0
      · simp [hb]
      · have hab : a * b ≠ 0 := Int.mul_ne_zero ha hb
        rw [if_neg ha, if_neg hb, if_neg hab]
        by_cases h1 : a < 0
        · by_cases h2 : b < 0
          · have := Int.mul_pos_of_neg_of_neg h1 h2
            rw [if_pos h1, if_pos h2, if_neg (by omega)]; rfl
          · have := Int.mul_neg_of_neg_of_pos h1 (show 0 < b by omega)
            rw [if_pos h1, if_neg h2, if_pos (by omega)]; rfl
        · by_cases h2 : b < 0
          · have := Int.mul_neg_of_pos_of_neg (show 0 < a by omega) h2
            rw [if_neg h1, if_pos h2, if_pos (by omega)]; rfl
          · have := Int.mul_pos (show 0 < a by omega) (show 0 < b by omega)
            rw [if_neg h1, if_neg h2, if_neg (by omega)]; rfl
  rw [h]
  have h1 : -1 ≤ isign (a * b) ∧ isign (a * b) ≤ 1 := by unfold isign; (repeat' split) <;> omega
  exact wrapI64 (by omega) (by omega)
def zS (z : Int) : List UInt8 := if z < 0 then 45 :: decS z.natAbs else decS z.natAbs
theorem decS_len {x k : Nat} (h : x < WB ^ k) : (decS x).length ≤ 20 * k + 1 := by
  unfold decS
  split
  · simp
  · have : WB ^ k ≤ 10 ^ (20 * k) := by rw [Nat.pow_mul]; exact Nat.pow_le_pow_left (by rw [WB_eq]; decide) _
    have := dig_len (Nat.lt_of_lt_of_le h this)
    omega
theorem zS_len {z : Int} {k : Nat} [h : Bd z k] : (zS z).length ≤ 20 * k + 2 := by
  have := decS_len h.h
  unfold zS; split
  · rw [List.length_cons]; omega
  · omega
instance con_zPrint {l : List Atom} {z : Int} {k : Nat} [h : ZI l z k] : Con Tryz.prog 52 [.agg l] (k ≤ 1000000000) (.v (str (zS z))) := ⟨fun hk => by
  refine z1 ⟨_, Tryz.func52, rfl, rfl⟩ fun neg n hz hn => ?_
  subst hz
  have hb := (inferInstance : BdN n k).h
  have cP := con_Print (a := .sat (natR n k)) hb hk
  have hl := decS_len hb
  have hS : zS (sgn neg n) = if sgn neg n < 0 then 45 :: decS n else decS n := by unfold zS; rw [sgn_natAbs]
  have hs := isignN (sgn neg n)
  refine PureOK.fnF Tryz.func52 Tryz.results52 Tryz.ntmps52 rfl rfl rfl (by simp [AV.ids, AV0.ids, Atom.ids]) rfl (fun w0 T B E0 hB => ?_)
  by_cases h0 : sgn neg n < 0
  · refine SX.go2 ?_
    refine retS ?_; rw [hS, if_pos h0]; rfl
  · refine SX.go2 ?_
    refine retS ?_; rw [hS, if_neg h0]⟩
def rmk (x y : Int) : Int × Int := if y = 0 then (0, 1) else if y < 0 then (zexq (-x) (Int.gcd (-x) (-y)), zexq (-y) (Int.gcd (-x) (-y))) else (zexq x (Int.gcd x y), zexq y (Int.gcd x y))
abbrev ratA (q : Int × Int) : List Atom := [.c (.val (.bool (decide (q.1 < 0)))), .c (.sat (nrmN q.1.natAbs)), .c (.val (.bool (decide (q.2 < 0)))), .c (.sat (nrmN q.2.natAbs))]
instance Bd.rmk1 (x y : Int) (k m : Nat) [h : Bd x k] [h' : Bd y m] : Bd (rmk x y).1 (k + m + 1) := ⟨by
  unfold rmk; repeat' split
  · exact Bd.mono (Bd.zero).h (by omega)
  · exact Bd.mono (Bd.zexq (-x) _ k).h (by omega)
  · exact Bd.mono (Bd.zexq x _ k).h (by omega)⟩
instance Bd.rmk2 (x y : Int) (k m : Nat) [h : Bd x k] [h' : Bd y m] : Bd (rmk x y).2 (k + m + 1) := ⟨by
  unfold rmk; repeat' split
  · exact Bd.mono (Bd.one).h (by omega)
  · exact Bd.mono (Bd.zexq (-y) _ m).h (by omega)
  · exact Bd.mono (Bd.zexq y _ m).h (by omega)⟩
instance con_rOf {l : List Atom} {z : Int} {k : Nat} [h : ZI l z k] : Con Tryz.prog 36 [.agg l] (k ≤ 1000000000) (.agg (ratA (z, 1))) := ⟨fun hk => by
  refine z1 ⟨_, Tryz.func36, rfl, rfl⟩ fun neg n hz hn => ?_
  subst hz
  refine PureOK.fnF Tryz.func36 Tryz.results36 Tryz.ntmps36 rfl rfl rfl (by simp [AV.ids, AV0.ids, Atom.ids]) rfl (fun w0 T B E0 hB => ?_)
  refine SX.go2 ?_
  exact retA (ResOK.agg4 rfl rfl rfl) rfl⟩
instance con_rZero : Con Tryz.prog 66 [] True (.agg (ratA (0, 1))) := ⟨fun hk => by
  refine PureOK.fnF Tryz.func66 Tryz.results66 Tryz.ntmps66 rfl rfl rfl (by simp [AV.ids, AV0.ids, Atom.ids]) rfl (fun w0 T B E0 hB => ?_)
  refine SX.go2 ?_
  exact retA (ResOK.agg4 rfl rfl rfl) rfl⟩
instance con_rMake {l l' : List Atom} {x y : Int} {k m : Nat} [h : ZI l x k] [h' : ZI l' y m] : Con Tryz.prog 24 [.agg l, .agg l'] (k + m ≤ 1000000000) (.tup [.agg (ratA (rmk x y)), .one (.c (.val (.bool (decide (y ≠ 0)))))]) := ⟨fun hk => by
  refine z2 ⟨_, Tryz.func24, rfl, rfl⟩ fun neg n neg2 n2 hz hz2 hn hn2 => ?_
  subst hz; subst hz2
  have hs0 := isign0 (sgn neg2 n2)
  have hsn := isignN (sgn neg2 n2)
  refine PureOK.fnF Tryz.func24 Tryz.results24 Tryz.ntmps24 rfl rfl rfl (by simp [AV.ids, AV0.ids, Atom.ids]) rfl (fun w0 T B E0 hB => ?_)
  by_cases h0 : sgn neg2 n2 = 0
  · refine SX.go2 ?_
    have e : rmk (sgn neg n) (sgn neg2 n2) = (0, 1) := by unfold rmk; rw [if_pos h0]
    rw [e]
    exact ret2' (ResOK.agg4 rfl rfl rfl) (ResOK.tmp rfl) (AV0.imp.refl _) (AV0.imp.of_eq (cb (by simp [h0])))
  · by_cases h1 : sgn neg2 n2 < 0
    · refine SX.go2 ?_
      have e : rmk (sgn neg n) (sgn neg2 n2) = (zexq (-sgn neg n) (Int.gcd (-sgn neg n) (-sgn neg2 n2)), zexq (-sgn neg2 n2) (Int.gcd (-sgn neg n) (-sgn neg2 n2))) := by unfold rmk; rw [if_neg h0, if_pos h1]
      rw [e]
      exact ret2' (ResOK.agg4 rfl rfl rfl) (ResOK.tmp rfl) (AV0.imp.refl _) (AV0.imp.of_eq (cb (by simp [h0])))
    · refine SX.go2 ?_
      have e : rmk (sgn neg n) (sgn neg2 n2) = (zexq (sgn neg n) (Int.gcd (sgn neg n) (sgn neg2 n2)), zexq (sgn neg2 n2) (Int.gcd (sgn neg n) (sgn neg2 n2))) := by unfold rmk; rw [if_neg h0, if_neg h1]
      rw [e]
      exact ret2' (ResOK.agg4 rfl rfl rfl) (ResOK.tmp rfl) (AV0.imp.refl _) (AV0.imp.of_eq (cb (by simp [h0])))⟩
theorem q1 {f : FuncId} {r : AV} {x0 x1 x2 x3 : Atom} {p q : Int} {k m : Nat} [h : ZI [x0, x1] p k] [h' : ZI [x2, x3] q m] (he : ∃ fn, Tryz.prog.funcs[f]? = some fn ∧ (fn.name == "runtime.NumGoroutine") = false ∧ fn.body.isNone = false)
    (hf : ∀ neg n neg' n', p = sgn neg n → q = sgn neg' n' → BdN n k → BdN n' m → PureOK Tryz.prog f [.agg (zR neg n k ++ zR neg' n' m)] r) : PureOK Tryz.prog f [.agg [x0, x1, x2, x3]] r := by
  obtain ⟨neg, n, hz, hm⟩ := h.h
  obtain ⟨neg', n', hz', hm'⟩ := h'.h
  refine PureOK.fact (φ := BdN n k ∧ BdN n' m) he (fun hb => hf neg n neg' n' hz hz' hb.1 hb.2) fun E S w vs hv => ?_
  match vs, hv with
  | [_], ⟨⟨[v0, v1, v2, v3], rfl, h0, h1, h2, h3, _⟩, _⟩ =>
    have a1 := hm E S w _ ⟨[v0, v1], rfl, h0, h1, trivial⟩
    have a2 := hm' E S w _ ⟨[v2, v3], rfl, h2, h3, trivial⟩
    refine ⟨⟨⟨[v0, v1, v2, v3], rfl, ?_⟩, trivial⟩, ⟨zR_bd a1⟩, ⟨zR_bd a2⟩⟩
    obtain ⟨us, e1, b1⟩ := a1
    obtain ⟨us', e2, b2⟩ := a2
    match us, us', b1, b2 with
    | [_, _], [_, _], ⟨c0, c1, _⟩, ⟨d0, d1, _⟩ =>
      cases e1; cases e2
      exact ⟨c0, c1, d0, d1, trivial⟩
theorem q2 {f : FuncId} {r : AV} {x0 x1 x2 x3 y0 y1 y2 y3 : Atom} {p q p' q' : Int} {k m k' m' : Nat} [h : ZI [x0, x1] p k] [h' : ZI [x2, x3] q m] [g : ZI [y0, y1] p' k'] [g' : ZI [y2, y3] q' m'] (he : ∃ fn, Tryz.prog.funcs[f]? = some fn ∧ (fn.name == "runtime.NumGoroutine") = false ∧ fn.body.isNone = false)
    (hf : ∀ neg n neg' n' neg2 n2 neg3 n3, p = sgn neg n → q = sgn neg' n' → p' = sgn neg2 n2 → q' = sgn neg3 n3 → BdN n k → BdN n' m → BdN n2 k' → BdN n3 m' → PureOK Tryz.prog f [.agg (zR neg n k ++ zR neg' n' m), .agg (zR neg2 n2 k' ++ zR neg3 n3 m')] r) : PureOK Tryz.prog f [.agg [x0, x1, x2, x3], .agg [y0, y1, y2, y3]] r := by
  obtain ⟨neg, n, hz, hm⟩ := h.h
  obtain ⟨neg', n', hz', hm'⟩ := h'.h
  obtain ⟨neg2, n2, hz2, hm2⟩ := g.h
  obtain ⟨neg3, n3, hz3, hm3⟩ := g'.h
  refine PureOK.fact (φ := BdN n k ∧ BdN n' m ∧ BdN n2 k' ∧ BdN n3 m') he (fun hb => hf neg n neg' n' neg2 n2 neg3 n3 hz hz' hz2 hz3 hb.1 hb.2.1 hb.2.2.1 hb.2.2.2) fun E S w vs hv => ?_
  match vs, hv with
  | [_, _], ⟨⟨[v0, v1, v2, v3], rfl, h0, h1, h2, h3, _⟩, ⟨[w0, w1, w2, w3], rfl, i0, i1, i2, i3, _⟩, _⟩ =>
    have a1 := hm E S w _ ⟨[v0, v1], rfl, h0, h1, trivial⟩
    have a2 := hm' E S w _ ⟨[v2, v3], rfl, h2, h3, trivial⟩
    have a3 := hm2 E S w _ ⟨[w0, w1], rfl, i0, i1, trivial⟩
    have a4 := hm3 E S w _ ⟨[w2, w3], rfl, i2, i3, trivial⟩
    refine ⟨⟨⟨[v0, v1, v2, v3], rfl, ?_⟩, ⟨[w0, w1, w2, w3], rfl, ?_⟩, trivial⟩, ⟨zR_bd a1⟩, ⟨zR_bd a2⟩, ⟨zR_bd a3⟩, ⟨zR_bd a4⟩⟩
    · obtain ⟨us, e1, b1⟩ := a1
      obtain ⟨us', e2, b2⟩ := a2
      match us, us', b1, b2 with
      | [_, _], [_, _], ⟨c0, c1, _⟩, ⟨d0, d1, _⟩ =>
        cases e1; cases e2
        exact ⟨c0, c1, d0, d1, trivial⟩
    · obtain ⟨us, e1, b1⟩ := a3
      obtain ⟨us', e2, b2⟩ := a4
      match us, us', b1, b2 with
      | [_, _], [_, _], ⟨c0, c1, _⟩, ⟨d0, d1, _⟩ =>
        cases e1; cases e2
        exact ⟨c0, c1, d0, d1, trivial⟩
attribute [irreducible] rmk
section
variable {x0 x1 x2 x3 y0 y1 y2 y3 : Atom} {p q r s : Int} {k m k' m' : Nat}
abbrev qn (p q : Int) : Int × Int := rmk p q
instance con_rNorm [h : ZI [x0, x1] p k] [h' : ZI [x2, x3] q m] : Con Tryz.prog 121 [.agg [x0, x1, x2, x3]] (k + m ≤ 1000000000) (.agg (ratA (rmk p q))) := ⟨fun hk => by
  refine q1 ⟨_, Tryz.func121, rfl, rfl⟩ fun neg n neg2 n2 hz hz2 hn hn2 => ?_
  subst hz; subst hz2
  refine PureOK.fnF Tryz.func121 Tryz.results121 Tryz.ntmps121 rfl rfl rfl (by simp [AV.ids, AV0.ids, Atom.ids]) rfl (fun w0 T B E0 hB => ?_)
  refine SX.go2 ?_
  exact retA (ResOK.agg4 rfl rfl rfl) rfl⟩
instance con_rSign [h : ZI [x0, x1] p k] [h' : ZI [x2, x3] q m] : Con Tryz.prog 21 [.agg [x0, x1, x2, x3]] (k + m ≤ 1000000000) (.v (.int .i64 (isign (p * q)))) := ⟨fun hk => by
  refine q1 ⟨_, Tryz.func21, rfl, rfl⟩ fun neg n neg2 n2 hz hz2 hn hn2 => ?_
  subst hz; subst hz2
  have hw : IntKind.i64.wrap (isign (sgn neg n) * isign (sgn neg2 n2)) = isign (sgn neg n * sgn neg2 n2) := isign_mulw _ _
  refine PureOK.fnF Tryz.func21 Tryz.results21 Tryz.ntmps21 rfl rfl rfl (by simp [AV.ids, AV0.ids, Atom.ids]) rfl (fun w0 T B E0 hB => ?_)
  refine SX.go2 ?_
  exact retI rfl⟩
instance con_rNeg [h : ZI [x0, x1] p k] [h' : ZI [x2, x3] q m] : Con Tryz.prog 124 [.agg [x0, x1, x2, x3]] (k + m ≤ 1000000000) (.agg (ratA (-(rmk p q).1, (rmk p q).2))) := ⟨fun hk => by
  refine q1 ⟨_, Tryz.func124, rfl, rfl⟩ fun neg n neg2 n2 hz hz2 hn hn2 => ?_
  subst hz; subst hz2
  refine PureOK.fnF Tryz.func124 Tryz.results124 Tryz.ntmps124 rfl rfl rfl (by simp [AV.ids, AV0.ids, Atom.ids]) rfl (fun w0 T B E0 hB => ?_)
  refine SX.go2 ?_
  exact retA (ResOK.agg4 rfl rfl rfl) rfl⟩
def qadd (p q r s : Int) : Int × Int := rmk ((rmk p q).1 * (rmk r s).2 + (rmk r s).1 * (rmk p q).2) ((rmk p q).2 * (rmk r s).2)
def qmul (p q r s : Int) : Int × Int := rmk ((rmk p q).1 * (rmk r s).1) ((rmk p q).2 * (rmk r s).2)
def qquo (p q r s : Int) : Int × Int := rmk ((rmk p q).1 * (rmk r s).2) ((rmk p q).2 * (rmk r s).1)
instance con_rAdd [h : ZI [x0, x1] p k] [h' : ZI [x2, x3] q m] [g : ZI [y0, y1] r k'] [g' : ZI [y2, y3] s m'] : Con Tryz.prog 69 [.agg [x0, x1, x2, x3], .agg [y0, y1, y2, y3]] (k + m + k' + m' ≤ 10000000) (.agg (ratA (qadd p q r s))) := ⟨fun hk => by
  refine q2 ⟨_, Tryz.func69, rfl, rfl⟩ fun neg n neg2 n2 neg3 n3 neg4 n4 hz hz2 hz3 hz4 hn hn2 hn3 hn4 => ?_
  subst hz; subst hz2; subst hz3; subst hz4
  refine PureOK.fnF Tryz.func69 Tryz.results69 Tryz.ntmps69 rfl rfl rfl (by simp [AV.ids, AV0.ids, Atom.ids]) rfl (fun w0 T B E0 hB => ?_)
  refine SX.go2 ?_
  exact retA (ResOK.agg4 rfl rfl rfl) rfl⟩
end
end Go.Proofs.YtfhpmbenldgfnaaGreatDoor
set_option linter.unusedVariables false
set_option linter.unusedSimpArgs false
namespace Go.Proofs.YtfhpmbenldgfnaaGreatDoor
open Go.RowKit QM SX
attribute [local irreducible] IntKind.wrap Go1 Reg WP thenK inBlk retQ retF RetF RetOK ResOK CallOK OpOK Sat
attribute [local irreducible] decS zS
theorem isignP (z : Int) : 0 < isign z ↔ 0 < z := by unfold isign; (repeat' split) <;> omega
theorem imp_zero : AV0.imp (.agg [.c (.val (.bool false)), .c (.val (.slice none 0 0))]) (.agg (zN 0)) := fun E S w v h => by
  obtain ⟨vs, rfl, hall⟩ := h
  match vs, hall with
  | [a, b], ⟨h1, h2, _⟩ =>
    have h2' : b = .slice none 0 0 := h2
    subst h2'
    exact ⟨[a, _], rfl, h1, nrmN.zero, trivial⟩
def qsub (p q r s : Int) : Int × Int := qadd p q (-(rmk r s).1) (rmk r s).2
section
variable {x0 x1 x2 x3 y0 y1 y2 y3 : Atom} {p q r s : Int} {k m k' m' : Nat}
instance Bd.qadd1 (p q r s : Int) (k m k' m' : Nat) [Bd p k] [Bd q m] [Bd r k'] [Bd s m'] : Bd (qadd p q r s).1 (3 * (k + m + k' + m') + 12) := ⟨by unfold qadd; exact Bd.mono (Bd.rmk1 _ _ _ _).h (by omega)⟩
instance Bd.qadd2 (p q r s : Int) (k m k' m' : Nat) [Bd p k] [Bd q m] [Bd r k'] [Bd s m'] : Bd (qadd p q r s).2 (3 * (k + m + k' + m') + 12) := ⟨by unfold qadd; exact Bd.mono (Bd.rmk2 _ _ _ _).h (by omega)⟩
instance Bd.qsub1 (p q r s : Int) (k m k' m' : Nat) [Bd p k] [Bd q m] [Bd r k'] [Bd s m'] : Bd (qsub p q r s).1 (6 * (k + m + k' + m') + 20) := ⟨by unfold qsub; exact Bd.mono (Bd.qadd1 _ _ _ _ _ _ _ _).h (by omega)⟩
instance Bd.qsub2 (p q r s : Int) (k m k' m' : Nat) [Bd p k] [Bd q m] [Bd r k'] [Bd s m'] : Bd (qsub p q r s).2 (6 * (k + m + k' + m') + 20) := ⟨by unfold qsub; exact Bd.mono (Bd.qadd2 _ _ _ _ _ _ _ _).h (by omega)⟩
instance Bd.qmul1 (p q r s : Int) (k m k' m' : Nat) [Bd p k] [Bd q m] [Bd r k'] [Bd s m'] : Bd (qmul p q r s).1 (3 * (k + m + k' + m') + 12) := ⟨by unfold qmul; exact Bd.mono (Bd.rmk1 _ _ _ _).h (by omega)⟩
instance Bd.qmul2 (p q r s : Int) (k m k' m' : Nat) [Bd p k] [Bd q m] [Bd r k'] [Bd s m'] : Bd (qmul p q r s).2 (3 * (k + m + k' + m') + 12) := ⟨by unfold qmul; exact Bd.mono (Bd.rmk2 _ _ _ _).h (by omega)⟩
instance con_rSub [h : ZI [x0, x1] p k] [h' : ZI [x2, x3] q m] [g : ZI [y0, y1] r k'] [g' : ZI [y2, y3] s m'] : Con Tryz.prog 56 [.agg [x0, x1, x2, x3], .agg [y0, y1, y2, y3]] (k + m + k' + m' ≤ 1000000) (.agg (ratA (qsub p q r s))) := ⟨fun hk => by
  refine q2 ⟨_, Tryz.func56, rfl, rfl⟩ fun neg n neg2 n2 neg3 n3 neg4 n4 hz hz2 hz3 hz4 hn hn2 hn3 hn4 => ?_
  subst hz; subst hz2; subst hz3; subst hz4
  refine PureOK.fnF Tryz.func56 Tryz.results56 Tryz.ntmps56 rfl rfl rfl (by simp [AV.ids, AV0.ids, Atom.ids]) rfl (fun w0 T B E0 hB => ?_)
  refine SX.go2 ?_
  exact retA (ResOK.agg4 rfl rfl rfl) rfl⟩
instance con_rMul [h : ZI [x0, x1] p k] [h' : ZI [x2, x3] q m] [g : ZI [y0, y1] r k'] [g' : ZI [y2, y3] s m'] : Con Tryz.prog 75 [.agg [x0, x1, x2, x3], .agg [y0, y1, y2, y3]] (k + m + k' + m' ≤ 10000000) (.agg (ratA (qmul p q r s))) := ⟨fun hk => by
  refine q2 ⟨_, Tryz.func75, rfl, rfl⟩ fun neg n neg2 n2 neg3 n3 neg4 n4 hz hz2 hz3 hz4 hn hn2 hn3 hn4 => ?_
  subst hz; subst hz2; subst hz3; subst hz4
  refine PureOK.fnF Tryz.func75 Tryz.results75 Tryz.ntmps75 rfl rfl rfl (by simp [AV.ids, AV0.ids, Atom.ids]) rfl (fun w0 T B E0 hB => ?_)
  refine SX.go2 ?_
  exact retA (ResOK.agg4 rfl rfl rfl) rfl⟩
def qcmp (p q r s : Int) : Int := isign ((qsub p q r s).1 * (qsub p q r s).2)
instance con_rCmp [h : ZI [x0, x1] p k] [h' : ZI [x2, x3] q m] [g : ZI [y0, y1] r k'] [g' : ZI [y2, y3] s m'] : Con Tryz.prog 19 [.agg [x0, x1, x2, x3], .agg [y0, y1, y2, y3]] (k + m + k' + m' ≤ 1000000) (.v (.int .i64 (qcmp p q r s))) := ⟨fun hk => by
  refine q2 ⟨_, Tryz.func19, rfl, rfl⟩ fun neg n neg2 n2 neg3 n3 neg4 n4 hz hz2 hz3 hz4 hn hn2 hn3 hn4 => ?_
  subst hz; subst hz2; subst hz3; subst hz4
  refine PureOK.fnF Tryz.func19 Tryz.results19 Tryz.ntmps19 rfl rfl rfl (by simp [AV.ids, AV0.ids, Atom.ids]) rfl (fun w0 T B E0 hB => ?_)
  refine SX.go2 ?_
  exact retI rfl⟩
def rwhole (p q : Int) : Int := if (rmk p q).2 = 1 then (rmk p q).1 else 0
def rS (q : Int × Int) : List UInt8 := if q.2 = 1 then zS q.1 else zS q.1 ++ [47] ++ zS q.2
instance con_rPrint [h : ZI [x0, x1] p k] [h' : ZI [x2, x3] q m] : Con Tryz.prog 51 [.agg [x0, x1, x2, x3]] (k + m ≤ 1000000) (.v (str (rS (rmk p q)))) := ⟨fun hk => by
  refine q1 ⟨_, Tryz.func51, rfl, rfl⟩ fun neg n neg2 n2 hz hz2 hn hn2 => ?_
  subst hz; subst hz2
  have l1 := zS_len (z := (rmk (sgn neg n) (sgn neg2 n2)).1)
  have l2 := zS_len (z := (rmk (sgn neg n) (sgn neg2 n2)).2)
  refine PureOK.fnF Tryz.func51 Tryz.results51 Tryz.ntmps51 rfl rfl rfl (by simp [AV.ids, AV0.ids, Atom.ids]) rfl (fun w0 T B E0 hB => ?_)
  by_cases h1 : (rmk (sgn neg n) (sgn neg2 n2)).2 = 1
  · refine SX.go2 ?_
    refine retS ?_; unfold rS; rw [if_pos h1]
  · refine SX.go2 ?_
    refine retS ?_; unfold rS; rw [if_neg h1]⟩
abbrev ratP (p q : Int) : List Atom := [.c (.val (.bool (decide (p < 0)))), .c (.sat (nrmN p.natAbs)), .c (.val (.bool (decide (q < 0)))), .c (.sat (nrmN q.natAbs))]
end
def isR (p q x y : Int) : Prop := (0 < q ∧ (Int.gcd p q : Int) = 1) ∧ p * y = x * q
attribute [irreducible] isR
end Go.Proofs.YtfhpmbenldgfnaaGreatDoor
set_option linter.unusedVariables false
set_option linter.unusedSimpArgs false
namespace Go.Proofs.YtfhpmbenldgfnaaGreatDoor
open Go.RowKit QM SX
attribute [local irreducible] IntKind.wrap Go1 Reg WP thenK inBlk retQ retF RetF RetOK ResOK CallOK OpOK Sat
attribute [local irreducible] decS zS rwhole qsub qmul qquo qcmp rS
theorem zexq_dvd {x y : Int} (hy : y ≠ 0) (h : y ∣ x) : zexq x y = x.tdiv y := by
  have hz : zrem x y = 0 := by unfold zrem; first | (rw [if_neg hy]; exact Int.tmod_eq_zero_of_dvd h) | exact Int.tmod_eq_zero_of_dvd h
  unfold zexq zexok; rw [hz]; simp [hy]
theorem rmk_spec {x y : Int} (hy : y ≠ 0) : 0 < (rmk x y).2 ∧ Int.gcd (rmk x y).1 (rmk x y).2 = 1 ∧ (rmk x y).1 * y = x * (rmk x y).2 := by
  have key : ∀ x y : Int, 0 < y → 0 < zexq y (Int.gcd x y) ∧ Int.gcd (zexq x (Int.gcd x y)) (zexq y (Int.gcd x y)) = 1 ∧ zexq x (Int.gcd x y) * y = x * zexq y (Int.gcd x y) := by
    intro x y hy
    have hg : (Int.gcd x y : Int) ≠ 0 := by
      have := Int.gcd_ne_zero_right (a := x) (b := y) (by omega)
      omega
    have hgp : (0 : Int) < Int.gcd x y := by omega
    obtain ⟨a, ha⟩ := Int.gcd_dvd_left x y
    obtain ⟨b, hb⟩ := Int.gcd_dvd_right x y
    have e1 : zexq x (Int.gcd x y) = a := by
      rw [zexq_dvd hg (Int.gcd_dvd_left x y)]
      conv => lhs; arg 1; rw [ha]
      exact Int.mul_tdiv_cancel_left _ hg
    have e2 : zexq y (Int.gcd x y) = b := by
      rw [zexq_dvd hg (Int.gcd_dvd_right x y)]
      conv => lhs; arg 1; rw [hb]
      exact Int.mul_tdiv_cancel_left _ hg
    rw [e1, e2]
    generalize hG : Int.gcd x y = g at *
    have hbp : 0 < b := by
      rw [hb] at hy
      exact Int.pos_of_mul_pos_right hy (by omega)
    refine ⟨hbp, ?_, ?_⟩
    · have h1 : Int.gcd ((g : Int) * a) ((g : Int) * b) = g * Int.gcd a b := by rw [Int.gcd_mul_left]; simp
      rw [← ha, ← hb, hG] at h1
      have hgn : 0 < g := by omega
      exact Nat.eq_of_mul_eq_mul_left hgn (by omega)
    · rw [ha, hb]; grind
  unfold rmk
  rw [if_neg hy]
  by_cases h : y < 0
  · rw [if_pos h]
    have := key (-x) (-y) (by omega)
    refine ⟨this.1, this.2.1, ?_⟩
    have h3 := this.2.2
    grind
  · rw [if_neg h]; exact key x y (by omega)
theorem rmk_zero (x : Int) : rmk x 0 = (0, 1) := by unfold rmk; rfl
theorem dig1 {x : Nat} (h0 : x ≠ 0) (h : x < 10) : dig x = [UInt8.ofNat (48 + x)] := by
  rw [dig_succ h0, show x / 10 = 0 by omega, dig_zero, show x % 10 = x by omega]; rfl
abbrev zW (neg : Bool) (l : List Nat) : List Atom := [.c (.val (.bool neg)), .c (.sat (rawN l))]
abbrev qW (b : Bool) (l : List Nat) (c : Bool) (m : List Nat) : List Atom := [.c (.val (.bool b)), .c (.sat (rawN l)), .c (.val (.bool c)), .c (.sat (rawN m))]
end Go.Proofs.YtfhpmbenldgfnaaGreatDoor
set_option linter.unusedVariables false
set_option linter.unusedSimpArgs false
namespace Go.Proofs.YtfhpmbenldgfnaaGreatDoor
open Go.RowKit QM SX
attribute [local irreducible] qsub qmul qquo qcmp qadd
def qv (p q : Int) : Rat := (p : Rat) / (q : Rat)
theorem c0 {z : Int} (h : z ≠ 0) : (z : Rat) ≠ 0 := fun e => h (Rat.intCast_inj.1 e)
theorem qv_eq {a b c d : Int} (hb : b ≠ 0) (hd : d ≠ 0) (h : a * d = c * b) : qv a b = qv c d := by
  have h1 := c0 hb
  have h2 := c0 hd
  have h3 : (a : Rat) * d = c * b := by rw [← Rat.intCast_mul, ← Rat.intCast_mul, h]
  unfold qv; grind
theorem rmk_pos (p q : Int) : 0 < (rmk p q).2 := by
  by_cases h : q = 0
  · rw [h, rmk_zero]; decide
  · exact (rmk_spec h).1
theorem rmk_gcd (p q : Int) : Int.gcd (rmk p q).1 (rmk p q).2 = 1 := by
  by_cases h : q = 0
  · rw [h, rmk_zero]; decide
  · exact (rmk_spec h).2.1
theorem rmk_val (p q : Int) : qv (rmk p q).1 (rmk p q).2 = qv p q := by
  by_cases h : q = 0
  · rw [h, rmk_zero]; unfold qv; grind
  · have hs := rmk_spec (x := p) h
    exact qv_eq (by omega) h hs.2.2
structure Rd (X : Int × Int) (v : Rat) (K : Nat) : Prop where
  v : qv X.1 X.2 = v
  d : 0 < X.2
  g : Int.gcd X.1 X.2 = 1
  b1 : Bd X.1 K
  b2 : Bd X.2 K
class Ra (l : List Atom) (v : outParam Rat) (K : outParam Nat) : Prop where
  h : ∃ x0 x1 x2 x3 p q k m, l = [x0, x1, x2, x3] ∧ ZI [x0, x1] p k ∧ ZI [x2, x3] q m ∧ k ≤ K ∧ m ≤ K ∧ Bd p k ∧ Bd q m ∧ qv p q = v
theorem Ra.raw {b c : Bool} {l m : List Nat} {K : Nat} (i1 : BdN (nval WB l) l.length) (i2 : BdN (nval WB m) m.length) (h1 : l.length ≤ K) (h2 : m.length ≤ K) : Ra (qW b l c m) (qv (sgn b (nval WB l)) (sgn c (nval WB m))) K :=
  ⟨_, _, _, _, _, _, _, _, rfl, inferInstance, inferInstance, h1, h2, inferInstance, inferInstance, rfl⟩
section
variable {l l' : List Atom} {v v' : Rat} {K K' : Nat}
theorem qv_mul {a b c d : Int} : qv (a * c) (b * d) = qv a b * qv c d := by
  unfold qv; rw [Rat.intCast_mul, Rat.intCast_mul]; grind
theorem qv_add {a b c d : Int} (hb : b ≠ 0) (hd : d ≠ 0) : qv (a * d + c * b) (b * d) = qv a b + qv c d := by
  have h1 := c0 hb
  have h2 := c0 hd
  unfold qv; rw [Rat.intCast_add, Rat.intCast_mul, Rat.intCast_mul, Rat.intCast_mul]; grind
theorem qv_neg {a b : Int} : qv (-a) b = -qv a b := by
  unfold qv; rw [Rat.intCast_neg]; grind
theorem qadd_val (p q r s : Int) : qv (qadd p q r s).1 (qadd p q r s).2 = qv p q + qv r s := by
  have h1 := rmk_pos p q
  have h2 := rmk_pos r s
  unfold qadd
  rw [rmk_val, qv_add (by omega) (by omega), rmk_val, rmk_val]
theorem qmul_val (p q r s : Int) : qv (qmul p q r s).1 (qmul p q r s).2 = qv p q * qv r s := by
  unfold qmul; rw [rmk_val, qv_mul, rmk_val, rmk_val]
theorem qsub_val (p q r s : Int) : qv (qsub p q r s).1 (qsub p q r s).2 = qv p q - qv r s := by
  unfold qsub; rw [qadd_val, qv_neg, rmk_val]; grind
theorem qadd_mk (p q r s : Int) : ∃ x y, qadd p q r s = rmk x y := ⟨_, _, by unfold qadd; rfl⟩
theorem qmul_mk (p q r s : Int) : ∃ x y, qmul p q r s = rmk x y := ⟨_, _, by unfold qmul; rfl⟩
theorem qsub_mk (p q r s : Int) : ∃ x y, qsub p q r s = rmk x y := by unfold qsub; exact qadd_mk _ _ _ _
theorem mk_pos {X : Int × Int} (h : ∃ x y, X = rmk x y) : 0 < X.2 ∧ Int.gcd X.1 X.2 = 1 := by
  obtain ⟨x, y, rfl⟩ := h; exact ⟨rmk_pos x y, rmk_gcd x y⟩
theorem sgn_val {a b : Int} : (isign (a * b) = 0 ↔ qv a b = 0) ∧ (isign (a * b) < 0 ↔ qv a b < 0) := by
  have key : ∀ a b : Int, 0 < b → (a * b = 0 ↔ qv a b = 0) ∧ (a * b < 0 ↔ qv a b < 0) := by
    intro a b hb
    have h1 : (0 : Rat) < b := by rw [show (0 : Rat) = ((0 : Int) : Rat) from rfl]; exact Rat.intCast_lt_intCast.2 hb
    have ea : (a : Rat) = qv a b * b := by unfold qv; grind
    constructor
    · rw [Int.mul_eq_zero]
      constructor
      · rintro (h | h)
        · unfold qv; rw [h]; grind
        · omega
      · intro h; rw [h] at ea; left; exact Rat.intCast_inj.1 (by rw [ea]; grind)
    · have hneg : a * b < 0 ↔ a < 0 := by
        constructor
        · intro h
          exact Decidable.byContradiction fun hn => by
            have := Int.mul_nonneg (show 0 ≤ a by omega) (show 0 ≤ b by omega)
            omega
        · intro h; exact Int.mul_neg_of_neg_of_pos h hb
      have ha : a < 0 ↔ (a : Rat) < 0 := by rw [show (0 : Rat) = ((0 : Int) : Rat) from rfl, Rat.intCast_lt_intCast]
      rw [hneg, ha, ea]
      generalize qv a b = v at *
      generalize (b : Rat) = c at *
      constructor
      · intro h
        exact Decidable.byContradiction fun hn => by
          have := Rat.mul_nonneg (show 0 ≤ v by grind) (show 0 ≤ c by grind)
          grind
      · intro h
        have := Rat.mul_pos (show 0 < -v by grind) h1
        grind
  have hn : isign (a * b) < 0 ↔ a * b < 0 := isignN _
  have hz : isign (a * b) = 0 ↔ a * b = 0 := isign0 _
  rw [hn, hz]
  by_cases hb : b = 0
  · subst hb
    have : qv a 0 = 0 := by unfold qv; grind
    rw [this]; simp
  · by_cases hb0 : 0 < b
    · exact key a b hb0
    · have h := key (-a) (-b) (by omega)
      have e : qv (-a) (-b) = qv a b := qv_eq (by omega) hb (by grind)
      rw [e, show -a * -b = a * b by grind] at h
      exact h
theorem qcmp_val {p q r s : Int} : (qcmp p q r s = 0 ↔ qv p q = qv r s) ∧ (qcmp p q r s < 0 ↔ qv p q < qv r s) ∧ (0 < qcmp p q r s ↔ qv r s < qv p q) := by
  have h := sgn_val (a := (qsub p q r s).1) (b := (qsub p q r s).2)
  rw [qsub_val] at h
  unfold qcmp
  generalize isign ((qsub p q r s).1 * (qsub p q r s).2) = z at *
  have h1 : z = 0 ↔ qv p q = qv r s := by rw [h.1]; constructor <;> intro <;> grind
  have h2 : z < 0 ↔ qv p q < qv r s := by rw [h.2]; constructor <;> intro <;> grind
  refine ⟨h1, h2, ?_⟩
  have : 0 < z ↔ ¬ z = 0 ∧ ¬ z < 0 := by omega
  rw [this, h1, h2]
  constructor
  · intro ⟨a, b⟩; grind
  · intro a; constructor <;> grind
theorem eAdd (l l' : List Atom) [a : Ra l v K] [b : Ra l' v' K'] (h : K + K' ≤ 1000000) : ∃ X, PureOK Tryz.prog 69 [.agg l, .agg l'] (.agg (ratA X)) ∧ Rd X (v + v') (6 * (K + K') + 20) := by
  obtain ⟨x0, x1, x2, x3, p, q, k, m, rfl, z1, z2, hk, hm, b1, b2, hv⟩ := a.h
  obtain ⟨y0, y1, y2, y3, r, s, k', m', rfl, z3, z4, hk', hm', b3, b4, hv'⟩ := b.h
  exact ⟨_, (con_rAdd (h := z1) (h' := z2) (g := z3) (g' := z4)).h (by omega), ⟨by rw [qadd_val, hv, hv'], (mk_pos (qadd_mk ..)).1, (mk_pos (qadd_mk ..)).2, ⟨Bd.mono (Bd.qadd1 p q r s k m k' m').h (by omega)⟩, ⟨Bd.mono (Bd.qadd2 p q r s k m k' m').h (by omega)⟩⟩⟩
theorem eSub (l l' : List Atom) [a : Ra l v K] [b : Ra l' v' K'] (h : K + K' ≤ 400000) : ∃ X, PureOK Tryz.prog 56 [.agg l, .agg l'] (.agg (ratA X)) ∧ Rd X (v - v') (12 * (K + K') + 20) := by
  obtain ⟨x0, x1, x2, x3, p, q, k, m, rfl, z1, z2, hk, hm, b1, b2, hv⟩ := a.h
  obtain ⟨y0, y1, y2, y3, r, s, k', m', rfl, z3, z4, hk', hm', b3, b4, hv'⟩ := b.h
  exact ⟨_, (con_rSub (h := z1) (h' := z2) (g := z3) (g' := z4)).h (by omega), ⟨by rw [qsub_val, hv, hv'], (mk_pos (qsub_mk ..)).1, (mk_pos (qsub_mk ..)).2, ⟨Bd.mono (Bd.qsub1 p q r s k m k' m').h (by omega)⟩, ⟨Bd.mono (Bd.qsub2 p q r s k m k' m').h (by omega)⟩⟩⟩
theorem eMul (l l' : List Atom) [a : Ra l v K] [b : Ra l' v' K'] (h : K + K' ≤ 1000000) : ∃ X, PureOK Tryz.prog 75 [.agg l, .agg l'] (.agg (ratA X)) ∧ Rd X (v * v') (6 * (K + K') + 20) := by
  obtain ⟨x0, x1, x2, x3, p, q, k, m, rfl, z1, z2, hk, hm, b1, b2, hv⟩ := a.h
  obtain ⟨y0, y1, y2, y3, r, s, k', m', rfl, z3, z4, hk', hm', b3, b4, hv'⟩ := b.h
  exact ⟨_, (con_rMul (h := z1) (h' := z2) (g := z3) (g' := z4)).h (by omega), ⟨by rw [qmul_val, hv, hv'], (mk_pos (qmul_mk ..)).1, (mk_pos (qmul_mk ..)).2, ⟨Bd.mono (Bd.qmul1 p q r s k m k' m').h (by omega)⟩, ⟨Bd.mono (Bd.qmul2 p q r s k m k' m').h (by omega)⟩⟩⟩
theorem eCmp (l l' : List Atom) [a : Ra l v K] [b : Ra l' v' K'] (h : K + K' ≤ 400000) : ∃ z : Int, PureOK Tryz.prog 19 [.agg l, .agg l'] (.v (.int .i64 z)) ∧ (z = 0 ↔ v = v') ∧ (z < 0 ↔ v < v') ∧ (0 < z ↔ v' < v) := by
  obtain ⟨x0, x1, x2, x3, p, q, k, m, rfl, z1, z2, hk, hm, b1, b2, hv⟩ := a.h
  obtain ⟨y0, y1, y2, y3, r, s, k', m', rfl, z3, z4, hk', hm', b3, b4, hv'⟩ := b.h
  exact ⟨_, (con_rCmp (h := z1) (h' := z2) (g := z3) (g' := z4)).h (by omega), by rw [← hv, ← hv']; exact qcmp_val⟩
theorem eNeg (l : List Atom) [a : Ra l v K] (h : K ≤ 400000) : ∃ X, PureOK Tryz.prog 124 [.agg l] (.agg (ratA X)) ∧ Rd X (-v) (2 * K + 1) := by
  obtain ⟨x0, x1, x2, x3, p, q, k, m, rfl, z1, z2, hk, hm, b1, b2, hv⟩ := a.h
  exact ⟨_, (con_rNeg (h := z1) (h' := z2)).h (by omega), ⟨by show qv (-(rmk p q).1) (rmk p q).2 = _; rw [qv_neg, rmk_val, hv], rmk_pos p q, by show Int.gcd (-(rmk p q).1) _ = 1; rw [Int.neg_gcd]; exact rmk_gcd p q, ⟨by show (-(rmk p q).1).natAbs < _; rw [Int.natAbs_neg]; exact Bd.mono (Bd.rmk1 p q k m).h (by omega)⟩, ⟨Bd.mono (Bd.rmk2 p q k m).h (by omega)⟩⟩⟩
end
end Go.Proofs.YtfhpmbenldgfnaaGreatDoor
set_option linter.unusedVariables false
set_option linter.unusedSimpArgs false
namespace Go.Proofs.YtfhpmbenldgfnaaGreatDoor
open Go.RowKit QM SX
attribute [local irreducible] IntKind.wrap Go1 Reg WP thenK inBlk retQ retF RetF RetOK ResOK CallOK OpOK Sat
attribute [local irreducible] qsub qmul qquo qcmp qadd qv
instance con_Few (b : Bool) (l : List Nat) (c : Bool) (m : List Nat) (z : Int) : Con Tryz.prog 33 [.agg (qW b l c m), .v (.int .i64 z)] True (.v (.bool (decide ((l.length : Int) ≤ z ∧ (m.length : Int) ≤ z)))) := ⟨fun _ => by
  refine PureOK.fnF Tryz.func33 Tryz.results33 Tryz.ntmps33 rfl rfl rfl (by simp [AV.ids, AV0.ids, Atom.ids]) rfl (fun w0 T B E0 hB => ?_)
  by_cases h1 : (l.length : Int) ≤ z
  · refine SX.go2 ?_
    refine retB ?_; rw [decide_eq_decide]; exact ⟨fun h => ⟨h1, h⟩, fun h => h.2⟩
  · refine SX.go2 ?_
    refine retB ?_; rw [eq_comm]; exact decide_eq_false (fun h => h1 h.1)⟩
attribute [local irreducible] zround zfq
end Go.Proofs.YtfhpmbenldgfnaaGreatDoor
set_option linter.unusedVariables false
set_option linter.unusedSimpArgs false
namespace Go.Proofs.YtfhpmbenldgfnaaGreatDoor
open Go.RowKit QM SX
attribute [local irreducible] IntKind.wrap Go1 Reg WP thenK inBlk retQ retF RetF RetOK ResOK CallOK OpOK Sat
attribute [local irreducible] qsub qmul qquo qcmp qadd qv
theorem qv_lt {n d m e : Int} (hd : 0 < d) (he : 0 < e) : (qv n d < qv m e ↔ n * e < m * d) ∧ (qv n d = qv m e ↔ n * e = m * d) := by
  have hd' : (0 : Rat) < d := by rw [show (0 : Rat) = ((0 : Int) : Rat) from rfl]; exact Rat.intCast_lt_intCast.2 hd
  have he' : (0 : Rat) < e := by rw [show (0 : Rat) = ((0 : Int) : Rat) from rfl]; exact Rat.intCast_lt_intCast.2 he
  have en : (n : Rat) = qv n d * d := by unfold qv; grind
  have em : (m : Rat) = qv m e * e := by unfold qv; grind
  have hde := Rat.mul_pos hd' he'
  constructor
  · rw [← Rat.intCast_lt_intCast (a := n * e), Rat.intCast_mul, Rat.intCast_mul, en, em]
    generalize qv n d = v at *
    generalize qv m e = u at *
    constructor
    · intro h
      have := Rat.mul_pos (show 0 < u - v by grind) hde
      grind
    · intro h
      exact Decidable.byContradiction fun hn => by
        have := Rat.mul_nonneg (show 0 ≤ v - u by grind) (show (0 : Rat) ≤ (d : Rat) * e by grind)
        grind
  · rw [← Rat.intCast_inj (a := n * e), Rat.intCast_mul, Rat.intCast_mul, en, em]
    generalize qv n d = v at *
    generalize qv m e = u at *
    constructor
    · intro h; rw [h]; grind
    · intro h
      have h0 : (v - u) * ((d : Rat) * e) = 0 := by grind
      rcases Rat.mul_eq_zero.1 h0 with h1 | h1
      · grind
      · rw [h1] at hde; grind
attribute [local irreducible] isign icmp sgn
end Go.Proofs.YtfhpmbenldgfnaaGreatDoor
set_option linter.unusedVariables false
set_option linter.unusedSimpArgs false
namespace Go.Proofs.YtfhpmbenldgfnaaGreatDoor
open Go.RowKit QM SX
attribute [local irreducible] IntKind.wrap Go1 Reg WP thenK inBlk retQ retF RetF RetOK ResOK CallOK OpOK Sat
attribute [local irreducible] qsub qmul qquo qcmp qadd qv
theorem Rd.uniq {p q r s : Int} (h1 : 0 < q) (g1 : Int.gcd p q = 1) (h2 : 0 < s) (g2 : Int.gcd r s = 1) (hv : qv p q = qv r s) : p = r ∧ q = s := by
  have he := (qv_lt (n := p) (m := r) h1 h2).2.1 hv
  have d1 : q ∣ s := by
    have : q ∣ p * s := ⟨r, by rw [he, Int.mul_comm]⟩
    exact Int.natAbs_dvd_natAbs.1 (Nat.Coprime.dvd_of_dvd_mul_left (show Nat.gcd q.natAbs p.natAbs = 1 by rw [Nat.gcd_comm]; exact g1) (by rw [← Int.natAbs_mul]; exact Int.natAbs_dvd_natAbs.2 this))
  have d2 : s ∣ q := by
    have : s ∣ r * q := ⟨p, by rw [← he, Int.mul_comm]⟩
    exact Int.natAbs_dvd_natAbs.1 (Nat.Coprime.dvd_of_dvd_mul_left (show Nat.gcd s.natAbs r.natAbs = 1 by rw [Nat.gcd_comm]; exact g2) (by rw [← Int.natAbs_mul]; exact Int.natAbs_dvd_natAbs.2 this))
  have e : q = s := Int.dvd_antisymm (by omega) (by omega) d1 d2
  subst e
  exact ⟨Int.eq_of_mul_eq_mul_right (by omega) he, rfl⟩
attribute [local irreducible] zpowv powok sgn isign
section
variable {x0 x1 x2 x3 : Atom} {p q : Int} {k m : Nat}
end
def pwQ (x y : Int) : Nat → Int × Int
  | 0 => (1, 1)
  | k + 1 => (x ^ (k + 1), y ^ (k + 1))
end Go.Proofs.YtfhpmbenldgfnaaGreatDoor
set_option linter.unusedVariables false
set_option linter.unusedSimpArgs false
namespace Go.Proofs.YtfhpmbenldgfnaaGreatDoor
open Go.RowKit QM SX
attribute [local irreducible] qsub qmul qquo qcmp qadd
abbrev qC (v : Rat) : List CA := [.val (.bool (decide (v.num < 0))), .sat (nrmN v.num.natAbs), .val (.bool (decide ((v.den : Int) < 0))), .sat (nrmN (v.den : Int).natAbs)]
abbrev qA (v : Rat) : List Atom := [.c (.val (.bool (decide (v.num < 0)))), .c (.sat (nrmN v.num.natAbs)), .c (.val (.bool (decide ((v.den : Int) < 0)))), .c (.sat (nrmN (v.den : Int).natAbs))]
theorem den_ne (v : Rat) : (v.den : Int) ≠ 0 := by have := v.den_nz; omega
theorem qv_self (v : Rat) : qv v.num v.den = v := by
  unfold qv
  rw [← Rat.divInt_eq_div]; exact Rat.num_divInt_den v
theorem qv_cross {p q : Int} {v : Rat} (hq : q ≠ 0) (h : qv p q = v) : v.num * q = p * v.den := by
  have h2 := qv_self v
  have d1 := c0 hq
  have d2 := c0 (den_ne v)
  unfold qv at h h2
  apply Rat.intCast_inj.1
  rw [Rat.intCast_mul, Rat.intCast_mul]
  generalize ((v.den : Int) : Rat) = d at *
  generalize ((v.num : Int) : Rat) = n at *
  generalize (p : Rat) = a at *
  generalize (q : Rat) = b at *
  subst h2
  grind
theorem qv_parts {p q : Int} {v : Rat} (hq : q ≠ 0) (h : qv p q = v) : ∃ c : Int, q = c * v.den ∧ p = c * v.num := by
  have hx := qv_cross hq h
  have hc : Nat.Coprime v.num.natAbs v.den := v.reduced
  have hd : (v.den : Int) ∣ v.num * q := ⟨p, by rw [hx]; exact Int.mul_comm _ _⟩
  have hd2 : v.den ∣ q.natAbs := by
    have h1 : v.den ∣ (v.num * q).natAbs := Int.natAbs_natCast v.den ▸ (Int.natAbs_dvd_natAbs.2 hd)
    rw [Int.natAbs_mul] at h1
    exact hc.symm.dvd_of_dvd_mul_left h1
  obtain ⟨c, hcq⟩ : (v.den : Int) ∣ q := Int.natAbs_dvd_natAbs.1 (by rw [Int.natAbs_natCast]; exact hd2)
  refine ⟨c, by rw [hcq]; exact Int.mul_comm _ _, ?_⟩
  rw [hcq] at hx
  have h0 := den_ne v
  have : (v.den : Int) * (v.num * c) = (v.den : Int) * p := by grind
  have := Int.eq_of_mul_eq_mul_left h0 this
  grind
structure RB (v : Rat) (K : Nat) : Prop where
  n : v.num.natAbs < WB ^ K
  d : v.den < WB ^ K
theorem RB.of {p q : Int} {v : Rat} {K : Nat} (hq : q ≠ 0) (h : qv p q = v) (h1 : p.natAbs < WB ^ K) (h2 : q.natAbs < WB ^ K) : RB v K := by
  obtain ⟨c, e1, e2⟩ := qv_parts hq h
  have hc : 1 ≤ c.natAbs := by
    rcases Nat.eq_zero_or_pos c.natAbs with h | h
    · have : c = 0 := by omega
      subst this; rw [Int.zero_mul] at e1; exact absurd e1 hq
    · exact h
  have a1 : q.natAbs = c.natAbs * v.den := by rw [e1, Int.natAbs_mul, Int.natAbs_natCast]
  have a2 : p.natAbs = c.natAbs * v.num.natAbs := by rw [e2, Int.natAbs_mul]
  have b1 := Nat.mul_le_mul_right v.den hc
  have b2 := Nat.mul_le_mul_right v.num.natAbs hc
  exact ⟨by omega, by omega⟩
theorem RB.mono {v : Rat} {K L : Nat} (h : RB v K) (hK : K ≤ L) : RB v L := ⟨Nat.lt_of_lt_of_le h.n (Nat.pow_le_pow_right WB_pos hK), Nat.lt_of_lt_of_le h.d (Nat.pow_le_pow_right WB_pos hK)⟩
theorem pow_ge (K : Nat) : 1 ≤ WB ^ K := Nat.pow_pos WB_pos
theorem mul_lt_pow {a b K L : Nat} (h1 : a < WB ^ K) (h2 : b < WB ^ L) : a * b < WB ^ (K + L) := by
  rw [Nat.pow_add]
  have := Nat.mul_le_mul (show a ≤ WB ^ K - 1 by omega) (show b ≤ WB ^ L - 1 by omega)
  have p1 := pow_ge K
  have p2 := pow_ge L
  refine Nat.lt_of_le_of_lt this ?_
  have h3 : (WB ^ K - 1) * (WB ^ L - 1) ≤ (WB ^ K - 1) * WB ^ L := Nat.mul_le_mul_left _ (Nat.sub_le _ _)
  have h4 : (WB ^ K - 1) * WB ^ L < WB ^ K * WB ^ L := (Nat.mul_lt_mul_right (by omega)).2 (by omega)
  omega
theorem two_lt (K : Nat) : 2 * WB ^ K ≤ WB ^ (K + 1) := by
  rw [Nat.pow_succ, Nat.mul_comm]; exact Nat.mul_le_mul_left _ (by rw [WB_eq]; decide)
theorem RB.add {u v : Rat} {K L : Nat} (h : RB u K) (k : RB v L) : RB (u + v) (K + L + 1) := by
  refine RB.of (p := u.num * v.den + v.num * u.den) (q := u.den * v.den) (Int.mul_ne_zero (den_ne u) (den_ne v)) ?_ ?_ ?_
  · rw [qv_add (den_ne u) (den_ne v), qv_self, qv_self]
  · have h1 : (u.num * (v.den : Int)).natAbs < WB ^ (K + L) := by rw [Int.natAbs_mul, Int.natAbs_natCast]; exact mul_lt_pow h.n k.d
    have h2 : (v.num * (u.den : Int)).natAbs < WB ^ (K + L) := by rw [Int.natAbs_mul, Int.natAbs_natCast, Nat.add_comm]; exact mul_lt_pow k.n h.d
    have h3 := two_lt (K + L)
    generalize u.num * (v.den : Int) = x at *
    generalize v.num * (u.den : Int) = y at *
    omega
  · rw [Int.natAbs_mul, Int.natAbs_natCast, Int.natAbs_natCast]
    exact Nat.lt_of_lt_of_le (mul_lt_pow h.d k.d) (Nat.pow_le_pow_right WB_pos (by omega))
theorem RB.mul {u v : Rat} {K L : Nat} (h : RB u K) (k : RB v L) : RB (u * v) (K + L) := by
  refine RB.of (p := u.num * v.num) (q := u.den * v.den) (Int.mul_ne_zero (den_ne u) (den_ne v)) ?_ ?_ ?_
  · rw [qv_mul, qv_self, qv_self]
  · rw [Int.natAbs_mul]; exact mul_lt_pow h.n k.n
  · rw [Int.natAbs_mul, Int.natAbs_natCast, Int.natAbs_natCast]; exact mul_lt_pow h.d k.d
theorem RB.neg {v : Rat} {K : Nat} (h : RB v K) : RB (-v) K := by
  refine RB.of (p := -v.num) (q := v.den) (den_ne v) (by rw [qv_neg, qv_self]) (by rw [Int.natAbs_neg]; exact h.n) (by rw [Int.natAbs_natCast]; exact h.d)
theorem RB.zero {K : Nat} (hK : 1 ≤ K) : RB 0 K := by
  have h : WB ^ 1 ≤ WB ^ K := Nat.pow_le_pow_right WB_pos hK
  rw [Nat.pow_one] at h
  have := WB_eq
  exact ⟨by show (0 : Nat) < _; omega, by show (1 : Nat) < _; omega⟩
theorem RB.ra {v : Rat} {K : Nat} (h : RB v K) : Ra (qA v) v K :=
  ⟨_, _, _, _, v.num, (v.den : Int), K, K, rfl, (haveI : Bd v.num K := ⟨h.n⟩; inferInstance), (haveI : Bd (v.den : Int) K := ⟨by rw [Int.natAbs_natCast]; exact h.d⟩; inferInstance), Nat.le_refl _, Nat.le_refl _, ⟨h.n⟩, ⟨by rw [Int.natAbs_natCast]; exact h.d⟩, qv_self v⟩
theorem Rd.nf {X : Int × Int} {v : Rat} {K : Nat} (h : Rd X v K) : X = (v.num, (v.den : Int)) := by
  obtain ⟨p, q⟩ := X
  have hq : q ≠ 0 := by have := h.d; dsimp only at this; omega
  obtain ⟨c, e1, e2⟩ := qv_parts hq (show qv p q = v from h.v)
  have hg : Int.gcd p q = 1 := h.g
  have hc1 : c.natAbs ∣ Int.gcd p q := Nat.dvd_gcd (by rw [e2, Int.natAbs_mul]; exact Nat.dvd_mul_right _ _) (by rw [e1, Int.natAbs_mul]; exact Nat.dvd_mul_right _ _)
  rw [hg] at hc1
  have hca : c.natAbs = 1 := Nat.dvd_one.1 hc1
  have hpos : 0 < q := h.d
  have hden : 0 < (v.den : Int) := by have := v.den_nz; omega
  have hc : c = 1 := by
    rcases Int.natAbs_eq_iff.1 hca with h | h
    · exact h
    · subst h; rw [e1] at hpos; simp at hpos; omega
  subst hc
  rw [Int.one_mul] at e1 e2
  rw [e1, e2]
section
variable {l l' : List Atom} {v v' : Rat} {K K' : Nat}
instance con_qAdd [a : Ra l v K] [b : Ra l' v' K'] : Con Tryz.prog 69 [.agg l, .agg l'] (K + K' ≤ 1000000) (.agg (qA (v + v'))) := ⟨fun h => by
  obtain ⟨X, c, r⟩ := eAdd l l' h
  rw [r.nf] at c; exact c⟩
instance con_qMul [a : Ra l v K] [b : Ra l' v' K'] : Con Tryz.prog 75 [.agg l, .agg l'] (K + K' ≤ 1000000) (.agg (qA (v * v'))) := ⟨fun h => by
  obtain ⟨X, c, r⟩ := eMul l l' h
  rw [r.nf] at c; exact c⟩
end
end Go.Proofs.YtfhpmbenldgfnaaGreatDoor
set_option linter.unusedVariables false
set_option linter.unusedSimpArgs false
namespace Go.Proofs.YtfhpmbenldgfnaaGreatDoor
open Go.RowKit QM SX
attribute [local irreducible] IntKind.wrap Go1 Reg WP thenK inBlk retQ retF RetF RetOK ResOK CallOK OpOK Sat
attribute [local irreducible] qsub qmul qquo qcmp qadd qv
instance con_qZero : Con Tryz.prog 136 [] True (.agg (qA 0)) := ⟨fun _ => by
  refine PureOK.fnF Tryz.func136 Tryz.results136 Tryz.ntmps136 rfl rfl rfl (by simp [AV.ids, AV0.ids, Atom.ids]) rfl (fun w0 T B E0 hB => ?_)
  refine SX.go2 ?_
  exact retA (ResOK.agg4 rfl rfl rfl) rfl⟩
def tkL (r s : List Rat) (f : Rat) (k : Nat) : List Rat := (List.zipWith (fun a b => a - f * b) (r.take k) (s.take k)) ++ r.drop k
end Go.Proofs.YtfhpmbenldgfnaaGreatDoor
set_option linter.unusedVariables false
set_option linter.unusedSimpArgs false
namespace Go.Proofs.YtfhpmbenldgfnaaGreatDoor
open Go.RowKit QM SX
attribute [local irreducible] IntKind.wrap Go1 Reg WP thenK inBlk retQ retF RetF RetOK ResOK CallOK OpOK Sat
attribute [local irreducible] qsub qmul qquo qcmp qadd qv
def tabR (c : Nat) (val : Nat → Nat → Rat) (i : Nat) : List Rat := (List.range i).flatMap fun i => (List.range c).map (val i)
theorem tabR_zero {c : Nat} {val : Nat → Nat → Rat} : tabR c val 0 = [] := rfl
theorem tabR_succ {c i : Nat} {val : Nat → Nat → Rat} : tabR c val (i + 1) = tabR c val i ++ (List.range c).map (val i) := by
  unfold tabR; rw [List.range_succ, List.flatMap_append]; simp
theorem tabR_len {c : Nat} {val : Nat → Nat → Rat} : ∀ i, (tabR c val i).length = i * c
  | 0 => by simp [tabR_zero]
  | i + 1 => by rw [tabR_succ, List.length_append, tabR_len i]; simp [Nat.succ_mul]
def rowK (val : Nat → Nat → Rat) (i k : Nat) : List Rat := (List.range k).map (val i)
theorem rowK_succ {val : Nat → Nat → Rat} {i k : Nat} : rowK val i (k + 1) = rowK val i k ++ [val i k] := by
  unfold rowK; rw [List.range_succ, List.map_append]; rfl
abbrev Q4 := Bool × Rep × Bool × Rep
abbrev q4A (q : Q4) : List Atom := [.c (.val (.bool q.1)), .c (.sat q.2.1), .c (.val (.bool q.2.2.1)), .c (.sat q.2.2.2)]
abbrev matA (r c : Nat) (l : List Rat) : List Atom := [.c (.val (.int .i64 (r : Int))), .c (.val (.int .i64 (c : Int))), .c (.sat (rowR 4 qC l))]
theorem con_made (r c : Nat) (x : CA) (L : Nat → Nat → Q4) (val : Nat → Nat → Rat) (K : Nat) (hr : r ≤ 100) (hc : c ≤ 100) (hK : K + 1 ≤ 1000000)
    (hx : ∀ i k, i < r → k < c → FnV Tryz.prog x [.v (.int .i64 (i : Int)), .v (.int .i64 (k : Int))] (.agg (q4A (L i k)))) (hL : ∀ i k, i < r → k < c → Ra (q4A (L i k)) (val i k) K) (hx1 : x.oneB = true) :
    PureOK Tryz.prog 133 [.v (.int .i64 (r : Int)), .v (.int .i64 (c : Int)), .it (.one (.c x))] (.agg (matA r c (tabR c val r))) := by
  have iz : Ra (qA 0) 0 1 := (RB.zero (Nat.le_refl 1)).ra
  refine PureOK.fnF Tryz.func133 Tryz.results133 Tryz.ntmps133 rfl rfl rfl (by simp [AV.ids, AV0.ids, Atom.ids]) rfl (fun w0 T B E0 hB => ?_)
  refine SX.goQ ?_
  refine W.loop (fun i => i ≤ r) (fun i => [(1, .v (.int .i64 (c : Int))), (2, .it (.one (.c x))), (6, .ptr 6 0), (7, .ptr 7 0), (13, .v (.int .i64 (r : Int))), (14, .v (.int .i64 (i : Int)))]) (fun i => [(6, .box 30 [.c (.val (.int .i64 0)), .c (.val (.int .i64 0)), .c (.val (.slice none 0 0))]), (7, .box 30 [.c (.val (.int .i64 (r : Int))), .c (.val (.int .i64 (c : Int))), .own 100]), (100, .row 27 4 (i * c) ((tabR c val i).flatMap qC))]) (fun i => r - i) 0 (Nat.zero_le _) (fun i hi => ?_)
    (by
      refine SX.St.le_to [(100, none)] (by intro b h; cases h) ?_ ?_ rfl
      · repeat (first | exact trivial | refine ⟨⟨_, rfl, SX.AVto.same rfl⟩, ?_⟩)
      · exact ⟨SX.EntTo.same rfl rfl, SX.EntTo.boxTo rfl rfl ⟨AtomTo.same rfl, AtomTo.same rfl, AtomTo.nil rfl, trivial⟩, by rw [Nat.zero_mul]; exact SX.EntTo.nilRow rfl, trivial⟩)
  by_cases h : i < r
  · refine SX.goQ ?_
    refine W.loop (fun k => k ≤ c) (fun k => [(1, .v (.int .i64 (c : Int))), (2, .it (.one (.c x))), (6, .ptr 6 0), (7, .ptr 7 0), (8, .v (.int .i64 (i : Int))), (13, .v (.int .i64 (r : Int))), (14, .v (.int .i64 (i : Int))), (17, .v (.int .i64 (c : Int))), (18, .v (.int .i64 (k : Int)))]) (fun k => [(6, .box 30 [.c (.val (.int .i64 0)), .c (.val (.int .i64 0)), .c (.val (.slice none 0 0))]), (7, .box 30 [.c (.val (.int .i64 (r : Int))), .c (.val (.int .i64 (c : Int))), .own 100]), (100, .row 27 4 (i * c + k) ((tabR c val i ++ rowK val i k).flatMap qC))]) (fun k => c - k) 0 (Nat.zero_le _) (fun k hk => ?_)
      (by
        have e : Ent.row 27 4 (i * c) ((tabR c val i).flatMap qC) = Ent.row 27 4 (i * c + 0) ((tabR c val i ++ rowK val i 0).flatMap qC) := by simp [rowK]
        refine SX.St.le_to [] (by intro b h; cases h) ?_ ?_ rfl
        · repeat (first | exact trivial | refine ⟨⟨_, rfl, SX.AVto.same rfl⟩, ?_⟩)
        · exact ⟨SX.EntTo.same rfl rfl, SX.EntTo.same rfl rfl, SX.EntTo.eq rfl e rfl, trivial⟩)
    by_cases h2 : k < c
    · have hf := hx i k h h2
      have ir := hL i k h h2
      have hlen : i * c + k ≤ 20000 := by
        have := Nat.mul_le_mul (show i ≤ 100 by omega) hc
        omega
      refine SX.goQ ?_
      refine W.next (k + 1) h2 (by omega) (by
        have e2 : (tabR c val i ++ rowK val i k).flatMap qC ++ qC (val i k + 0) = (tabR c val i ++ rowK val i (k + 1)).flatMap qC := by
          rw [Rat.add_zero, rowK_succ, ← List.append_assoc, List.flatMap_append (xs := tabR c val i ++ rowK val i k)]; simp
        refine SX.St.le_to [(100, some 30)] (by intro b h; cases h) ?_ ?_ rfl
        · repeat (first | exact trivial | refine ⟨⟨_, rfl, SX.AVto.same rfl⟩, ?_⟩)
        · exact ⟨SX.EntTo.same rfl rfl, SX.EntTo.boxTo rfl rfl ⟨AtomTo.same rfl, AtomTo.same rfl, AtomTo.own rfl, trivial⟩, SX.EntTo.row rfl rfl (by omega) e2, trivial⟩)
    · obtain rfl : k = c := by omega
      refine SX.goQ ?_
      refine W.next (i + 1) h (by omega) (by
        have e2 : Ent.row 27 4 (i * k + k) ((tabR k val i ++ rowK val i k).flatMap qC) = Ent.row 27 4 ((i + 1) * k) ((tabR k val (i + 1)).flatMap qC) := by rw [Nat.succ_mul, tabR_succ]; rfl
        refine SX.St.le_to [] (by intro b h; cases h) ?_ ?_ rfl
        · repeat (first | exact trivial | refine ⟨⟨_, rfl, SX.AVto.same rfl⟩, ?_⟩)
        · exact ⟨SX.EntTo.same rfl rfl, SX.EntTo.same rfl rfl, SX.EntTo.eq rfl e2 rfl, trivial⟩)
  · obtain rfl : i = r := by omega
    refine SX.goQ ?_
    have hm : matA i c (tabR c val i) = [.c (.val (.int .i64 (i : Int))), .c (.val (.int .i64 (c : Int))), .c (.sat (sliceR 4 (i * c) ((tabR c val i).flatMap qC)))] := by
      show [_, _, Atom.c (.sat (sliceR 4 (tabR c val i).length _))] = _
      rw [tabR_len]
    rw [hm]
    refine RetF.frz 100 ?_
    exact retA (ResOK.agg3 rfl rfl rfl) rfl
end Go.Proofs.YtfhpmbenldgfnaaGreatDoor

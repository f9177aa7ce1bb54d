import Derived.Test.YtkdonndeogihfaaDoorD0
import Derived.Test.YtkdonndeogihfaaDoorShelf
/- Package dec in the symbolic run: Print. -/
set_option linter.unusedVariables false
set_option linter.unusedSimpArgs false
namespace Go.Proofs.YtkdonndeogihfaaDoor
open Go.RowKit QM SX
attribute [local irreducible] IntKind.wrap Go1 Reg WP thenK inBlk retQ retF RetF RetOK ResOK CallOK OpOK Sat
attribute [local irreducible] decW pw nD pwM pwm decS
section
variable {a b : CA} {x y k m : Nat}
instance con_nBits [ha : NI a x k] : Con Tryd.prog 26 [.it (.one (.c a))] (k ≤ 1099511627775) (.v (.int .i64 (bitLen x : Int))) := ⟨fun h => nBits h⟩
instance con_mSquare [ha : NI a x k] : Con Tryd.prog 108 [.it (.one (.c a))] (k + k ≤ 274877906944) (.r (nrmN (x * x))) := ⟨fun h => mSquare h⟩
end
theorem decW_z (x : Nat) : decW 0 x = [] := by unfold decW; rfl
theorem decW_s (n x : Nat) : decW (n + 1) x = decW n (x / 10) ++ [UInt8.ofNat (48 + x % 10)] := by rw [decW]
theorem pureS {f : FuncId} {args : List Value} {r : Value} (he : ∃ fn, Tryd.prog.funcs[f]? = some fn ∧ (fn.name == "runtime.NumGoroutine") = false ∧ fn.body.isNone = false) (h : ∀ w, Calls Tryd.prog f args.toArray w fun e w' => e = .returned r ∧ w' = w) : PureOK Tryd.prog f (args.map AV.v) (.v r) :=
  PureOK.of_calls he rfl fun E S w vs hl hv => by
    have hvs : vs = args := by
      clear h
      induction args generalizing vs with
      | nil => cases vs with | nil => rfl | cons _ _ => exact hv.elim
      | cons a l ih => cases vs with | nil => exact hv.elim | cons b m => rw [ih m hv.2, show b = a from hv.1]
    subst hvs
    exact (h w).mono fun e w' ⟨h1, h2⟩ => ⟨r, h1, rfl, by subst h2; exact Off.refl _ _⟩
theorem byte48 (d : Nat) : ((UInt8.ofNat (48 + d % 10)).toNat : Int) = ((48 + d % 10 : Nat) : Int) := by
  rw [UInt8.toNat_ofNat']; omega
theorem con_word (x : Nat) (hx : x < WB) : OwnOK Tryd.prog 107 [.v (.int .u64 (x : Int))] 5 1 18 ((decW 18 x).flatMap bytC) := by
  rw [WB_eq] at hx
  refine OwnOK.fnF Tryd.func107 Tryd.results107 Tryd.ntmps107 rfl rfl rfl (by simp [AV.ids, AV0.ids, Atom.ids]) (fun w0 T B E0 hB => ?_)
  refine SX.go2 ?_
  refine W.loop3 (fun (k y : Nat) (tl : List UInt8) => k + tl.length = 18 ∧ y < 18446744073709551616 ∧ decW k y ++ tl = decW 18 x) (fun k y tl => [(0, .v (.int .u64 (y : Int))), (3, .own 100), (4, .v (.int .i64 ((k : Int) - 1)))])
    (fun k y tl => [(100, .row 5 1 18 ((List.replicate k 0 ++ tl).flatMap bytC))]) (fun k _ _ => k) 18 x [] ⟨rfl, hx, by simp⟩ (fun k y tl ⟨hk, hy, hd⟩ => ?_)
  cases k with
  | zero =>
    have e : (List.replicate 0 0 ++ tl).flatMap bytC = (decW 18 x).flatMap bytC := by rw [← hd, decW_z]; rfl
    refine SX.go2 ?_
    exact retO
  | succ k =>
    rw [show ((k + 1 : Nat) : Int) - 1 = (k : Int) by omega]
    have e : spl ((List.replicate (k + 1) 0 ++ tl).flatMap bytC) (k * 1) [.val (.int .u8 ((48 + y % 10 : Nat) : Int))] = (List.replicate k 0 ++ (UInt8.ofNat (48 + y % 10) :: tl)).flatMap bytC := by
      rw [← byte48, show [CA.val (.int .u8 ((UInt8.ofNat (48 + y % 10)).toNat : Int))] = bytC (UInt8.ofNat (48 + y % 10)) from rfl, flat_set _ _ _ (by simp; omega), List.replicate_succ']
      congr 1
      rw [List.append_assoc, List.set_append_right _ _ (by simp)]
      simp
    refine SX.go2 ?_
    -- ??
    exact W.next3 k (y / 10) (UInt8.ofNat (48 + y % 10) :: tl) ⟨by simp at hk ⊢; omega, by omega, by rw [← hd, decW_s]; simp⟩ (by omega)
/-- A natural as a cell. -/
def natC (n : Nat) : List CA := [.sat (nrmN n)]
instance : EncLen natC 1 := ⟨fun _ => rfl⟩
instance : EncOne natC := ⟨fun _ => rfl⟩
def pws (j : Nat) : List Nat := (List.range j).map pw
theorem pws_len (j : Nat) : (pws j).length = j := by simp [pws]
theorem pws_get {i j : Nat} (h : i < j) : (pws j)[i]? = some (pw i) := by simp [pws, h]
theorem pws_take {i j : Nat} (h : i ≤ j) : (pws j).take i = pws i := by
  unfold pws; rw [← List.map_take, List.take_range, Nat.min_eq_left h]
theorem pws_succ (j : Nat) : pws (j + 1) = pws j ++ [pw j] := by simp [pws, List.range_succ]
theorem pw_zero' : pw 0 = 1000000000000000000 := pw_zero
theorem con_powers {a : CA} {x k : Nat} [ha : NI a x k] (hx : x < WB ^ k) (hk : k ≤ 1000000000) : PureOK Tryd.prog 73 [.it (.one (.c a))] (.r (rowR 1 natC (pws (pwm x + 1)))) := by
  have cO : PureOK Tryd.prog 89 [.v (.int .u64 1000000000000000000)] (.r (nrmN (pw 0))) := by rw [pw_zero]; exact nOf 1000000000000000000 (by rw [WB_eq]; decide)
  have hb := bits_le hx
  have mark : OwnLit 5 := ⟨⟩
  have e0 : [CA.sat (nrmN (pw 0))] = (pws (0 + 1)).flatMap natC := rfl
  refine PureOK.fnF Tryd.func73 Tryd.results73 Tryd.ntmps73 rfl rfl rfl (by simp [AV.ids, AV0.ids, Atom.ids]) rfl (fun w0 T B E0 hB => ?_)
  refine SX.go2 ?_
  have hpm : pwM x (bitLen x + 2) 0 = pwm x := by unfold pwm; rfl
  refine W.loop2 (fun (j f : Nat) => (j = 0 ∨ nD j ≤ bitLen x + 1) ∧ pwM x f j = pwm x ∧ f + j = bitLen x + 2) (fun j f => [(0, .it (.one (.c a))), (3, .own 100)]) (fun j f => [(100, .row 23 1 (j + 1) ((pws (j + 1)).flatMap natC))]) (fun j f => f) 0 (bitLen x + 2) ⟨.inl rfl, hpm, rfl⟩ (fun j f ⟨h1, h2, h3⟩ => ?_)
  have hn : nD j ≤ 64000000001 := by
    rcases h1 with rfl | h1
    · have : nD 0 = 18 := by unfold nD; rfl
      omega
    · omega
  have hg : (pws (j + 1))[j + 1 - 1]? = some (pw j) := pws_get (by omega)
  have hbp := nD_bits j
  have hbj := nD_ge j
  have hbu := bits_le (BdN.pw j).h
  by_cases hq : 2 * bitLen (pw j) ≤ bitLen x + 1
  · cases f with
    | zero => exact absurd hq (by omega)
    | succ f =>
      have e1 : (pws (j + 1)).flatMap natC ++ [CA.sat (nrmN (pw j * pw j))] = (pws (j + 1 + 1)).flatMap natC := by
        rw [pws_succ (j + 1), List.flatMap_append, pw_succ]; rfl
      have h2' : pwM x f (j + 1) = pwm x := by rw [← h2]; conv => rhs; unfold pwM; rw [if_pos hq]
      have hs : nD (j + 1) = nD j + nD j := by conv => lhs; unfold nD
      refine SX.go2 ?_
      exact W.next2 (j + 1) f ⟨.inr (by omega), h2', by omega⟩ (by omega)
  · have hjm : j = pwm x := by
      rw [← h2]
      cases f with
      | zero => unfold pwM; rfl
      | succ f => conv => rhs; unfold pwM; rw [if_neg hq]
    refine SX.go2 ?_
    refine RetF.frz 100 ?_
    refine ret1' ?_
    rw [← hjm]
    show AV0.imp _ (.one (.c (.sat (sliceR 1 (pws (j + 1)).length ((pws (j + 1)).flatMap natC)))))
    rw [pws_len]; exact AV0.imp.refl _
theorem con_digits : ∀ (j : Nat) {a : CA} {x k : Nat} [ha : NI a x k] (L : List Nat), L = pws j → x < pw j → nD j ≤ 200000000000 → k ≤ 500000000000 →
    OwnOK Tryd.prog 72 [.it (.one (.c a)), .r (rowR 1 natC L)] 5 1 (nD j) ((decW (nD j) x).flatMap bytC)
  | 0, a, x, k, ha, L, hL, hx, hn, hk => by
    have e18 : nD 0 = 18 := by unfold nD; rfl
    have hxw : x < WB := by rw [pw_zero'] at hx; rw [WB_eq]; omega
    have cW := nWord (a := a) (x := x) (k := k) (by omega)
    rw [if_pos hxw] at cW
    have cw := con_word x hxw
    have hl0 : L.length = 0 := by rw [hL, pws_len]
    rw [e18]
    refine OwnOK.fnF Tryd.func72 Tryd.results72 Tryd.ntmps72 rfl rfl rfl (by simp [AV.ids, AV0.ids, Atom.ids]) (fun w0 T B E0 hB => ?_)
    refine SX.go2 ?_
    exact retO
  | j + 1, a, x, k, ha, L, hL, hx, hn, hk => by
    have hs : nD (j + 1) = nD j + nD j := by conv => lhs; unfold nD
    have hj := nD_ge j
    have hl1 : L.length = j + 1 := by rw [hL, pws_len]
    have hg : L[L.length - 1]? = some (pw j) := by rw [hl1, hL]; exact pws_get (by omega)
    have ht : L.take (L.length - 1) = pws j := by rw [hl1, hL]; exact pws_take (by omega)
    have hp := pw_pos j
    rw [pw_succ] at hx
    have hq : x / pw j < pw j := Nat.div_lt_of_lt_mul hx
    have hr : x % pw j < pw j := Nat.mod_lt _ hp
    have cD := dDivMod (a := a) (x := x) (k := k) (b := .sat (nrmN (pw j))) (y := pw j) (m := nD j) (by omega)
    rw [if_neg (by omega)] at cD
    haveI b1 : BdN (x / pw j) (nD j) := ⟨Nat.lt_trans hq (BdN.pw j).h⟩
    haveI b2 : BdN (x % pw j) (nD j) := ⟨Nat.lt_trans hr (BdN.pw j).h⟩
    have c1 := con_digits j (a := .sat (nrmN (x / pw j))) (k := nD j) (L.take (L.length - 1)) ht hq (by omega) (by omega)
    have c2 := (con_digits j (a := .sat (nrmN (x % pw j))) (k := nD j) (L.take (L.length - 1)) ht hr (by omega) (by omega)).pure
    have e1 : (decW (nD j) (x / pw j)).flatMap bytC ++ (decW (nD j) (x % pw j)).flatMap bytC = (decW (nD j + nD j) x).flatMap bytC := by
      rw [decW_add, List.flatMap_append, show 10 ^ nD j = pw j by unfold pw; rfl]
    rw [hs]
    refine OwnOK.fnF Tryd.func72 Tryd.results72 Tryd.ntmps72 rfl rfl rfl (by simp [AV.ids, AV0.ids, Atom.ids]) (fun w0 T B E0 hB => ?_)
    refine SX.go2 ?_
    exact retO
theorem con_TrimLeft (l : List UInt8) : PureOK Tryd.prog 71 [.v (str l), .v (str [48])] (.v (str (l.dropWhile (· == 48)))) :=
  pureS (args := [str l, str [48]]) ⟨_, Tryd.func71, rfl, rfl⟩ fun w => (Tryd.strings_TrimLeft_one ⟨⟨l⟩⟩ 48 (by decide) w).mono fun e w' ⟨h1, h2⟩ => ⟨h1, h2⟩
theorem pwm_lt (x : Nat) : x < pw (pwm x + 1) := by
  have key : ∀ (f j : Nat), f + j = bitLen x + 2 → ¬ 2 * bitLen (pw (pwM x f j)) ≤ bitLen x + 1 := by
    intro f
    induction f with
    | zero =>
      intro j hj
      have h1 := nD_bits j
      have h2 := nD_ge j
      unfold pwM; omega
    | succ f ih =>
      intro j hj
      unfold pwM
      split
      · exact ih (j + 1) (by omega)
      · assumption
  have := key (bitLen x + 2) 0 rfl
  exact pw_enough (by unfold pwm; exact this)
theorem pwm_nD {x k : Nat} (hx : x < WB ^ k) (hk : k ≤ 1000000000) : nD (pwm x + 1) ≤ 200000000000 := by
  have hb := bits_le hx
  have key : ∀ (f j : Nat), (j = 0 ∨ nD j ≤ bitLen x + 1) → nD (pwM x f j) ≤ 64000000001 := by
    intro f
    induction f with
    | zero =>
      intro j hj
      unfold pwM
      rcases hj with rfl | hj
      · have : nD 0 = 18 := by unfold nD; rfl
        omega
      · omega
    | succ f ih =>
      intro j hj
      unfold pwM
      split
      · rename_i h
        have h1 := nD_bits j
        exact ih (j + 1) (.inr (by conv => lhs; unfold nD
                                   omega))
      · rcases hj with rfl | hj
        · have : nD 0 = 18 := by unfold nD; rfl
          omega
        · omega
  have h1 := key (bitLen x + 2) 0 (.inl rfl)
  have h2 : nD (pwm x + 1) = nD (pwm x) + nD (pwm x) := by conv => lhs; unfold nD
  have h3 : nD (pwm x) ≤ 64000000001 := by unfold pwm; exact h1
  omega
/-- Print. -/
theorem con_Print {a : CA} {x k : Nat} [ha : NI a x k] (hx : x < WB ^ k) (hk : k ≤ 1000000000) : PureOK Tryd.prog 18 [.it (.one (.c a))] (.v (str (decS x))) := by
  have cP := con_powers (a := a) hx hk
  have cD := (con_digits (pwm x + 1) (a := a) (k := k) (pws (pwm x + 1)) rfl (pwm_lt x) (pwm_nD hx hk) (by omega)).pure
  have el : nD (pwm x + 1) = (decW (nD (pwm x + 1)) x).length := (decW_len _ _).symm
  have cD' : PureOK Tryd.prog 72 [.it (.one (.c a)), .r (rowR 1 natC (pws (pwm x + 1)))] (.r (rowR 1 bytC (decW (nD (pwm x + 1)) x))) := by
    show PureOK _ _ _ (.r (sliceR 1 (decW (nD (pwm x + 1)) x).length _))
    rw [decW_len]; exact cD
  clear cD
  have cT := con_TrimLeft (decW (nD (pwm x + 1)) x)
  have hd := decW_drop (nD (pwm x + 1)) x (by have := pwm_lt x; unfold pw at this; exact this)
  rw [hd] at cT
  have hS : decS x = if x = 0 then [48] else dig x := by unfold decS; rfl
  refine PureOK.fnF Tryd.func18 Tryd.results18 Tryd.ntmps18 rfl rfl rfl (by simp [AV.ids, AV0.ids, Atom.ids]) rfl (fun w0 T B E0 hB => ?_)
  by_cases h0 : x = 0
  · have hz : decide (dig x = []) = true := by subst h0; rw [dig_zero]; rfl
    refine SX.go2 ?_
    refine retS ?_; rw [hS, if_pos h0]
  · have hz : decide (dig x = []) = false := decide_eq_false (dig_ne h0)
    refine SX.go2 ?_
    refine retS ?_; rw [hS, if_neg h0]
end Go.Proofs.YtkdonndeogihfaaDoor

import Derived.Test.YtkdonndeogihfaaDoorG3
/- The statements DecSums, DecLong answer true. -/
set_option linter.unusedVariables false
set_option linter.unusedSimpArgs false
namespace Go.Proofs.YtkdonndeogihfaaDoor
open Go.RowKit QM SX
attribute [local irreducible] IntKind.wrap Go1 Reg WP thenK inBlk retQ retF RetF RetOK ResOK CallOK OpOK Sat
attribute [local irreducible] isN dval decS
theorem con_Len {a : CA} {x k : Nat} [ha : NI a x k] (hx : x < WB ^ k) (hk : k ≤ 1000000000) : PureOK Tryd.prog 19 [.it (.one (.c a))] (.v (.int .i64 ((decS x).length : Int))) := by
  have cP := con_Print (a := a) hx hk
  refine PureOK.fnF Tryd.func19 Tryd.results19 Tryd.ntmps19 rfl rfl rfl (by simp [AV.ids, AV0.ids, Atom.ids]) rfl (fun w0 T B E0 hB => ?_)
  refine SX.go2 ?_
  exact retI rfl
theorem awake_dig : decS 18446744073709551616 = [49, 56, 52, 52, 54, 55, 52, 52, 48, 55, 51, 55, 48, 57, 53, 53, 49, 54, 49, 54] := by
  have h := decW_drop 20 18446744073709551616 (by decide)
  have e : (decW 20 18446744073709551616).dropWhile (· == 48) = [49, 56, 52, 52, 54, 55, 52, 52, 48, 55, 51, 55, 48, 57, 53, 53, 49, 54, 49, 54] := by decide +kernel
  unfold decS
  rw [if_neg (by decide), ← h, e]
instance con_awake04 : Con Tryd.prog 15 [] True (.v (.bool true)) := ⟨fun _ => by
  have hs : Sm WB [0, 1] := Sm.cons (by rw [WB_eq]; decide) (Sm.cons (by rw [WB_eq]; decide) Sm.nil)
  have hv : nval WB [0, 1] = 18446744073709551616 := by rw [WB_eq]; rfl
  have cP := con_Print (a := .sat (rawN [0, 1])) (x := nval WB [0, 1]) (k := 2) (nn_lt hs (Nat.le_refl _)) (by decide)
  rw [hv, awake_dig] at cP
  have cP' : PureOK Tryd.prog 18 [.r (sliceR 1 2 [.val (.int .u64 0), .val (.int .u64 1)])] (.v (str [49, 56, 52, 52, 54, 55, 52, 52, 48, 55, 51, 55, 48, 57, 53, 53, 49, 54, 49, 54])) := by
    refine PureOK.args cP fun E S w vs hv => ?_
    match vs, hv with
    | [v], ⟨h1, _⟩ => exact ⟨raw_of_row hs h1, trivial⟩
  refine PureOK.fnF Tryd.func15 Tryd.results15 Tryd.ntmps15 rfl rfl rfl (by simp [AV.ids, AV0.ids, Atom.ids]) rfl (fun w0 T B E0 hB => ?_)
  refine SX.go2 ?_
  refine SX.Go1.buildSliceF (size := 1) (m := [.val (.int .u64 0), .val (.int .u64 1)]) (l := [.c (.val (.int .u64 0)), .c (.val (.int .u64 1))]) rfl rfl rfl rfl (by kernel_rfl) rfl rfl ?_
  refine SX.go2 ?_
  refine retB ?_; decide⟩
theorem bd_if (l : List UInt8) : (if isN l = true then dval l else 0) < WB ^ l.length := by
  split
  · rename_i h; exact bd_dval (isN_all h).1
  · exact Nat.pow_pos WB_pos
theorem DecSums_ok (l : List UInt8) (h : l.length ≤ maxLen) : PureOK Tryd.prog 7 [.v (str l)] (.v (.bool true)) := by
  refine PureOK.fnF Tryd.func7 Tryd.results7 Tryd.ntmps7 rfl rfl rfl (by simp [AV.ids, AV0.ids, Atom.ids]) rfl (fun w0 T B E0 hB => ?_)
  by_cases hl : l.length ≤ 500
  · have cS := con_Sum l (by omega)
    have cP := con_Parse l (by omega)
    haveI bd : BdN (if isN l = true then dval l else 0) l.length := ⟨bd_if l⟩
    have cD := dSmall (a := .sat (nrmN (if isN l = true then dval l else 0))) 1000000007 (by rw [WB_eq]; decide) (show l.length ≤ 1099511627770 by omega)
    rw [if_neg (show ¬ (1000000007 : Nat) = 0 by decide)] at cD
    have cD' : PureOK Tryd.prog 30 [.r (nrmN (if isN l = true then dval l else 0)), .v (.int .u64 1000000007)] _ := cD
    clear cD
    cases hN : isN l with
    | true =>
      rw [hN] at cS cP cD'
      rw [if_pos rfl] at cS cP cD'
      refine SX.go2 ?_
      refine retB ?_; exact decide_eq_true rfl
    | false =>
      rw [hN] at cS cP cD'
      rw [if_neg (by simp)] at cS cP cD'
      refine SX.go2 ?_
      refine retB ?_; exact decide_eq_true rfl
  · refine SX.go2 ?_
    exact retB rfl
theorem dig_slice {a : Nat} (h : a < 10) : List.take (a + 1 - a) (List.drop a [48, 49, 50, 51, 52, 53, 54, 55, 56, 57]) = [UInt8.ofNat (48 + a)] := by
  have : ∀ a : Fin 10, List.take (a.1 + 1 - a.1) (List.drop a.1 [48, 49, 50, 51, 52, 53, 54, 55, 56, 57]) = [UInt8.ofNat (48 + a.1)] := by decide
  exact this ⟨a, h⟩
theorem DecLong_ok (l : List UInt8) (h : l.length ≤ maxLen) (z : Int) (hz : IntKind.u8.wrap z = z) : PureOK Tryd.prog 6 [.v (str l), .v (.int .u8 z)] (.v (.bool true)) := by
  rw [IntKind.wrap_u8] at hz
  obtain ⟨d, rfl⟩ : ∃ d : Nat, z = d := ⟨z.toNat, by omega⟩
  have hc := dig_slice (a := d % 10) (by omega)
  have hm : (d : Int).tmod 10 = ((d % 10 : Nat) : Int) := rfl
  refine PureOK.fnF Tryd.func6 Tryd.results6 Tryd.ntmps6 rfl rfl rfl (by simp [AV.ids, AV0.ids, Atom.ids]) rfl (fun w0 T B E0 hB => ?_)
  by_cases hl : l.length ≤ 300
  · have cP := con_Parse l (by omega)
    cases hN : isN l with
    | false =>
      rw [hN] at cP
      refine SX.go2 ?_
      exact retB rfl
    | true =>
      rw [hN, if_pos rfl] at cP
      have hA := isN_all hN
      haveI bd : BdN (dval l) l.length := ⟨bd_dval hA.1⟩
      have cB := nBits (a := .sat (nrmN (dval l))) (show l.length ≤ 1099511627775 by omega)
      have hbs := bitLen_spec (dval l)
      by_cases h0 : dval l = 0
      · have hb0 : bitLen (dval l) = 0 := by rw [h0]; rfl
        refine SX.go2 ?_
        exact retB rfl
      · have hb0 : bitLen (dval l) ≠ 0 := fun e => by rw [e] at hbs; have := hbs.1; omega
        have hdg := digit_isD (d := d % 10) (by omega)
        have hh : (byt l 0).toNat ≠ 48 := fun e => by
          have := hN
          unfold isN at this
          rw [Bool.and_eq_true, decide_eq_true_iff] at this
          have h1 := this.1.2.2.resolve_right (fun hn => hn e)
          obtain ⟨c, rfl⟩ : ∃ c, l = [c] := by
            match l, h1 with
            | [c], _ => exact ⟨c, rfl⟩
          have hc : c = 48 := UInt8.toNat_inj.1 e
          subst hc
          exact h0 (by unfold dval; rfl)
        have hN2 : isN (l ++ [UInt8.ofNat (48 + d % 10)]) = true := isN_mk (by rw [List.all_append, hA.1, List.all_cons, hdg.1]; rfl) (by simp) (by simp; omega) (.inr (by
          have : byt (l ++ [UInt8.ofNat (48 + d % 10)]) 0 = byt l 0 := by
            unfold byt
            rw [List.getD_eq_getElem?_getD, List.getD_eq_getElem?_getD, List.getElem?_append_left (by omega)]
          rw [this]; exact hh))
        have cP2 := con_Parse (l ++ [UInt8.ofNat (48 + d % 10)]) (by simp; omega)
        have hd2 := dval_snoc l (UInt8.ofNat (48 + d % 10))
        rw [hdg.2] at hd2
        have hL2 := decS_dval hN2
        rw [hN2, if_pos rfl, hd2] at cP2
        rw [hd2] at hL2
        haveI bd2 : BdN (10 * dval l + d % 10) (l.length + 1) := ⟨by
          have := bd_dval (l := l ++ [UInt8.ofNat (48 + d % 10)]) (isN_all hN2).1
          rw [hd2, List.length_append] at this; exact this⟩
        have cM : PureOK Tryd.prog 28 [.it (.one (.c (.sat (nrmN (dval l))))), .v (.int .u64 10), .v (.int .u64 ((d % 10 : Nat) : Int))] (.r (nrmN (dval l * 10 + d % 10))) := (con_MulAdd (a := .sat (nrmN (dval l))) (k := l.length) 10 (d % 10)).h ⟨by omega, by rw [WB_eq]; decide, by rw [WB_eq]; omega⟩
        rw [show dval l * 10 + d % 10 = 10 * dval l + d % 10 by omega] at cM
        have cC := nCmp (a := .sat (nrmN (10 * dval l + d % 10))) (b := .sat (nrmN (10 * dval l + d % 10))) (show l.length + 1 + (l.length + 1) ≤ 1099511627775 by omega)
        rw [show cmpI (10 * dval l + d % 10) (10 * dval l + d % 10) = 0 by unfold cmpI; simp] at cC
        have cL1 := con_Len (a := .sat (nrmN (10 * dval l + d % 10))) bd2.h (by omega)
        have cL2 := con_Len (a := .sat (nrmN (dval l))) bd.h (by omega)
        rw [hL2] at cL1
        rw [decS_dval hN] at cL2
        have hlen : (l ++ [UInt8.ofNat (48 + d % 10)]).length = l.length + 1 := by simp
        rw [hlen] at cL1
        have hw : IntKind.u8.wrap (((d % 10 : Nat) : Int) + 1) = ((d % 10 + 1 : Nat) : Int) := by rw [IntKind.wrap_u8]; omega
        refine SX.go2 ?_
        refine SX.G.sliceLHT (l := [48, 49, 50, 51, 52, 53, 54, 55, 56, 57]) (i := d % 10) (j := d % 10 + 1) ?_ (h2 := by show d % 10 + 1 ≤ 10; omega)
        rw [hc]
        refine SX.go2 ?_
        refine retB ?_; exact decide_eq_true rfl
  · refine SX.go2 ?_
    exact retB rfl
end Go.Proofs.YtkdonndeogihfaaDoor

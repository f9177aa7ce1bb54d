import Derived.Test.YtkdonndeogihfaaDoorG7
import Derived.Test.YtkdonndeogihfaaDoorG8
import Derived.Test.YtkdonndeogihfaaDoorG9
import Derived.Test.YtkdonndeogihfaaDoorQ6
import Derived.Test.YtkdonndeogihfaaDoorD4
/- The statement IntTexts answers true. -/
set_option linter.unusedVariables false
set_option linter.unusedSimpArgs false
namespace Go.Proofs.YtkdonndeogihfaaDoor
open Go.RowKit QM SX
theorem imp_zeroD : AV0.imp (.agg [.c (.val (.bool false)), .c (.val (.slice none 0 0))]) (.agg (zD 0)) := fun E S w v h => by
  obtain ⟨vs, rfl, hall⟩ := h
  match vs, hall with
  | [a, b], ⟨h1, h2, _⟩ => exact ⟨[a, b], rfl, h1, nil_has (E := E) h2, trivial⟩
theorem lawZ {f : FuncId} {b : Bool} {l : List Nat} {args : List AV} {r : AV} (he : ∃ fn, Tryd.prog.funcs[f]? = some fn ∧ (fn.name == "runtime.NumGoroutine") = false ∧ fn.body.isNone = false)
    (hf : BdN (nval WB l) l.length → PureOK Tryd.prog f (.agg (zW b l) :: args) r) : PureOK Tryd.prog f (.agg (zW b l) :: args) r := by
  refine PureOK.fact (φ := Sm WB l) he (fun hs => hf ⟨nn_lt hs (Nat.le_refl _)⟩) fun E S w vs hv => ?_
  match vs, hv with
  | x :: xs, ⟨h1, h2⟩ => exact ⟨⟨h1, h2⟩, raw_sm h1⟩
theorem ngB_iff (l : List UInt8) : ngB l = true ↔ 1 ≤ l.length ∧ (byt l 0).toNat = 45 := by
  unfold ngB
  rw [decide_eq_true_iff, take1]
  constructor
  · rintro ⟨m, rfl⟩; exact ⟨by simp, rfl⟩
  · rintro ⟨h1, h2⟩
    match l, h1 with
    | c :: m, _ => exact ⟨m, by rw [show c = 45 from UInt8.toNat_inj.1 h2]⟩
theorem dval_zero_iff {m : List UInt8} (h : isN m = true) : dval m = 0 ↔ m = [48] := by
  constructor
  · exact dval_zero h
  · intro e; rw [e]; unfold dval; rfl
attribute [local irreducible] IntKind.wrap Go1 Reg WP thenK inBlk retQ retF RetF RetOK ResOK CallOK OpOK Sat
attribute [local irreducible] dgs decS nval isN dval zS sgn isign zfq zfr
instance con_awake05 : Con Tryd.prog 55 [] True (.v (.bool true)) := ⟨fun _ => by
  have e1 : zfq (-7) 2 = -4 := by unfold zfq; decide
  have e2 : zfr (-7) 2 = 1 := by unfold zfr; decide
  have f3 : isign (-4) = -1 := by unfold isign; decide
  haveI b1 : Bd (-7) 1 := ⟨by rw [Nat.pow_one, WB_eq]; decide⟩
  haveI b2 : Bd 2 1 := ⟨by rw [Nat.pow_one, WB_eq]; decide⟩
  haveI b3 : Bd (-4) 1 := ⟨by rw [Nat.pow_one, WB_eq]; decide⟩
  have cF := zFloor (l := zN (-7)) (l' := zN 2) (by decide)
  rw [e1, e2] at cF
  refine PureOK.fnF Tryd.func55 Tryd.results55 Tryd.ntmps55 rfl rfl rfl (by simp [AV.ids, AV0.ids, Atom.ids]) rfl (fun w0 T B E0 hB => ?_)
  refine SX.go2 ?_
  refine retB ?_; exact decide_eq_true f3⟩
theorem con_R5Print (z : Int) (k : Nat) (hz : Bd z k) (hk : k ≤ 100000) : PureOK Tryd.prog 59 [.agg (zD z)] (.v (str (zS z))) := by
  have hx : z.natAbs < 65536 ^ (4 * k) := by
    rw [Nat.pow_mul]; exact Nat.lt_of_lt_of_le hz.h (Nat.pow_le_pow_left (by rw [WB_eq]; decide) _)
  have cP := con_RPrint z.natAbs (4 * k) hx (by omega)
  have hl := decS_len hz.h
  have hS : zS z = if z < 0 then 45 :: decS z.natAbs else decS z.natAbs := by unfold zS; rfl
  refine PureOK.fnF Tryd.func59 Tryd.results59 Tryd.ntmps59 rfl rfl rfl (by simp [AV.ids, AV0.ids, Atom.ids]) rfl (fun w0 T B E0 hB => ?_)
  by_cases h0 : z < 0
  · refine SX.go2 ?_
    refine retS ?_; rw [hS, if_pos h0]; rfl
  · refine SX.go2 ?_
    refine retS ?_; rw [hS, if_neg h0]
theorem con_R5Parse (l : List UInt8) (hl : l.length ≤ 20000) : PureOK Tryd.prog 58 [.v (str l)] (.tup [.agg (zD (zPv l)), .one (.c (.val (.bool (zPok l))))]) := by
  have hng := ngB_iff l
  have hml := mdB_len l
  have hp : zPok l = (isN (mdB l) && !(ngB l && decide (dval (mdB l) = 0))) := by unfold zPok; rfl
  have hv : zPv l = if zPok l then sgn (ngB l) (dval (mdB l)) else 0 := by unfold zPv; rfl
  have hm : mdB l = if ngB l then l.drop 1 else l := by unfold mdB; rfl
  have cI := con_RIs (mdB l) (by omega)
  have hz := fun h => dval_zero_iff (m := mdB l) h
  have cR := fun (h : isN (mdB l) = true) => con_RParse (mdB l) (isN_all h).1 (isN_all h).2.1 (isN_all h).2.2
  have cN := fun (b : Bool) (h : isN (mdB l) = true) => rNormD b (dval (mdB l)) 0 (by
    have := dgs_len (n := dval (mdB l)) (k := (mdB l).length) (Nat.lt_of_lt_of_le (dval_lt (isN_all h).1) (pow10_le _))
    omega)
  generalize mdB l = m at *
  cases hb : ngB l with
  | true =>
    rw [hb, if_pos rfl] at hm
    rw [hb] at hp hv
    have h45 := hng.1 hb
    subst hm
    have hdd : decide (((byt l 0).toNat : Int) = 45) = true := decide_eq_true (by omega)
    cases hN : isN (l.drop 1) with
    | false =>
      rw [hN] at cI
      rw [hN, Bool.false_and] at hp
      rw [hp, if_neg (by simp)] at hv
      refine PureOK.fnF Tryd.func58 Tryd.results58 Tryd.ntmps58 rfl rfl rfl (by simp [AV.ids, AV0.ids, Atom.ids]) rfl (fun w0 T B E0 hB => ?_)
      refine SX.go2 ?_
      rw [hp, hv]
      exact ret2' (ResOK.agg2 rfl rfl rfl) (ResOK.tmp rfl) imp_zeroD (AV0.imp.refl _)
    | true =>
      rw [hN] at cI
      rw [hN, Bool.true_and, Bool.true_and] at hp
      have hz' := hz hN
      by_cases h0 : dval (l.drop 1) = 0
      · rw [decide_eq_true h0] at hp
        rw [hp, if_neg (by simp)] at hv
        have hd : decide (l.drop 1 = [48]) = true := decide_eq_true (hz'.1 h0)
        refine PureOK.fnF Tryd.func58 Tryd.results58 Tryd.ntmps58 rfl rfl rfl (by simp [AV.ids, AV0.ids, Atom.ids]) rfl (fun w0 T B E0 hB => ?_)
        refine SX.go2 ?_
        rw [hp, hv]
        exact ret2' (ResOK.agg2 rfl rfl rfl) (ResOK.tmp rfl) imp_zeroD (AV0.imp.refl _)
      · rw [decide_eq_false h0] at hp
        rw [hp, if_pos (by simp)] at hv
        have hd : decide (l.drop 1 = [48]) = false := decide_eq_false (fun h => h0 (hz'.2 h))
        have c1 := cR hN
        have c2 : PureOK Tryd.prog 97 [.agg [.c (.val (.bool (decide (((byt l 0).toNat : Int) = 45)))), .c (.sat (digR (dgs (dval (l.drop 1)))))]] (.agg (zD (sgn true (dval (l.drop 1))))) := by rw [hdd]; exact cN true hN
        refine PureOK.fnF Tryd.func58 Tryd.results58 Tryd.ntmps58 rfl rfl rfl (by simp [AV.ids, AV0.ids, Atom.ids]) rfl (fun w0 T B E0 hB => ?_)
        refine SX.go2 ?_
        rw [hp, hv]
        exact ret2' (ResOK.agg2 rfl rfl rfl) (ResOK.tmp rfl) (AV0.imp.refl _) (AV0.imp.refl _)
  | false =>
    rw [hb, if_neg (by simp)] at hm
    rw [hb] at hp hv
    rw [hb] at hng
    have h45 : ¬ (1 ≤ l.length ∧ (byt l 0).toNat = 45) := fun h => by cases hng.2 h
    subst hm
    cases hN : isN m with
    | false =>
      rw [hN] at cI
      rw [hN, Bool.false_and] at hp
      rw [hp, if_neg (by simp)] at hv
      refine PureOK.fnF Tryd.func58 Tryd.results58 Tryd.ntmps58 rfl rfl rfl (by simp [AV.ids, AV0.ids, Atom.ids]) rfl (fun w0 T B E0 hB => ?_)
      by_cases h1 : 1 ≤ m.length
      · refine SX.go2 ?_
        rw [hp, hv]
        exact ret2' (ResOK.agg2 rfl rfl rfl) (ResOK.tmp rfl) imp_zeroD (AV0.imp.refl _)
      · refine SX.go2 ?_
        rw [hp, hv]
        exact ret2' (ResOK.agg2 rfl rfl rfl) (ResOK.tmp rfl) imp_zeroD (AV0.imp.refl _)
    | true =>
      rw [hN] at cI
      rw [hN, Bool.true_and, Bool.false_and, Bool.not_false] at hp
      rw [hp, if_pos rfl] at hv
      have h1 := (isN_all hN).2.1
      have c1 := cR hN
      have hdd : decide (((byt m 0).toNat : Int) = 45) = false := decide_eq_false (by omega)
      have c2 : PureOK Tryd.prog 97 [.agg [.c (.val (.bool (decide (((byt m 0).toNat : Int) = 45)))), .c (.sat (digR (dgs (dval m))))]] (.agg (zD (sgn false (dval m)))) := by rw [hdd]; exact cN false hN
      refine PureOK.fnF Tryd.func58 Tryd.results58 Tryd.ntmps58 rfl rfl rfl (by simp [AV.ids, AV0.ids, Atom.ids]) rfl (fun w0 T B E0 hB => ?_)
      refine SX.go2 ?_
      rw [hp, hv]
      exact ret2' (ResOK.agg2 rfl rfl rfl) (ResOK.tmp rfl) (AV0.imp.refl _) (AV0.imp.refl _)
set_option maxRecDepth 20000 in
theorem IntTexts_ok (b : Bool) (a : List Nat) (l : List UInt8) (h : l.length ≤ maxLen) : PureOK Tryd.prog 11 [.agg (zW b a), .v (str l)] (.v (.bool true)) := by
  refine lawZ ⟨_, Tryd.func11, rfl, rfl⟩ fun hb => ?_
  by_cases ha : a.length ≤ 12
  · by_cases hl : l.length ≤ 300
    · have bz : Bd (sgn b (nval WB a)) a.length := inferInstance
      have bl := zPv_bd l
      have cP := (con_zPrint (l := zW b a)).h (show a.length ≤ 1000000000 by omega)
      have hzl := zS_len (z := sgn b (nval WB a)) (k := a.length)
      have cQ := con_zParse (zS (sgn b (nval WB a))) (by omega)
      have hpp := zP_print bz (by omega)
      rw [hpp.1, hpp.2] at cQ
      have cR := con_zParse l (by omega)
      have cR5 := con_R5Parse l (by omega)
      have cF := rFromZ (l := zW b a) (show a.length ≤ 10000000 by omega)
      have cP5 := con_R5Print (sgn b (nval WB a)) a.length bz (by omega)
      have cI := rIs (zPv l) (zPv l) l.length l.length (by omega)
      rw [decide_eq_true rfl] at cI
      have e1 : decide (zS (sgn b (nval WB a)) = zS (sgn b (nval WB a))) = true := decide_eq_true rfl
      have cP2 := (con_zPrint (l := zN (zPv l))).h (show l.length ≤ 1000000000 by omega)
      cases ok : zPok l with
      | false =>
        rw [ok] at cR cR5
        refine PureOK.fnF Tryd.func11 Tryd.results11 Tryd.ntmps11 rfl rfl rfl (by simp [AV.ids, AV0.ids, Atom.ids]) rfl (fun w0 T B E0 hB => ?_)
        refine SX.go2 ?_
        exact retB rfl
      | true =>
        rw [ok] at cR cR5
        rw [zS_read ok] at cP2
        refine PureOK.fnF Tryd.func11 Tryd.results11 Tryd.ntmps11 rfl rfl rfl (by simp [AV.ids, AV0.ids, Atom.ids]) rfl (fun w0 T B E0 hB => ?_)
        refine SX.go2 ?_
        refine retB ?_; exact decide_eq_true rfl
    · refine PureOK.fnF Tryd.func11 Tryd.results11 Tryd.ntmps11 rfl rfl rfl (by simp [AV.ids, AV0.ids, Atom.ids]) rfl (fun w0 T B E0 hB => ?_)
      refine SX.go2 ?_
      exact retB rfl
  · refine PureOK.fnF Tryd.func11 Tryd.results11 Tryd.ntmps11 rfl rfl rfl (by simp [AV.ids, AV0.ids, Atom.ids]) rfl (fun w0 T B E0 hB => ?_)
    refine SX.go2 ?_
    exact retB rfl
end Go.Proofs.YtkdonndeogihfaaDoor

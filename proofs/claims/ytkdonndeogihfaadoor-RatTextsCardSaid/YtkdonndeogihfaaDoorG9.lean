import Derived.Test.YtkdonndeogihfaaDoorG3
import Derived.Test.YtkdonndeogihfaaDoorD3
/- zint.Parse in the symbolic run. -/
set_option linter.unusedVariables false
set_option linter.unusedSimpArgs false
namespace Go.Proofs.YtkdonndeogihfaaDoor
open Go.RowKit QM SX
theorem take1 (l : List UInt8) : l.take 1 = [45] ↔ ∃ m, l = 45 :: m := by
  cases l with
  | nil => simp
  | cons c m => simp
/-- Has it a minus ahead? -/
def ngB (l : List UInt8) : Bool := decide (l.take 1 = [45])
def mdB (l : List UInt8) : List UInt8 := if ngB l then l.drop 1 else l
def zPok (l : List UInt8) : Bool := isN (mdB l) && !(ngB l && decide (dval (mdB l) = 0))
def zPv (l : List UInt8) : Int := if zPok l then sgn (ngB l) (dval (mdB l)) else 0
theorem mdB_len (l : List UInt8) : (mdB l).length ≤ l.length := by
  unfold mdB; split
  · rw [List.length_drop]; omega
  · exact Nat.le_refl _
theorem zPv_bd (l : List UInt8) : Bd (zPv l) l.length := ⟨by
  unfold zPv zPok
  split
  · rename_i h
    rw [Bool.and_eq_true] at h
    rw [sgn_natAbs]
    exact Nat.lt_of_lt_of_le (bd_dval (isN_all h.1).1) (Nat.pow_le_pow_right WB_pos (mdB_len l))
  · exact Nat.pow_pos WB_pos⟩
theorem dig_head {x : Nat} (h : x ≠ 0) : ∃ c m, dig x = c :: m ∧ c ≠ 45 := by
  have hf := dig_facts x
  have h1 := (hf.2.2 h).2
  match hd : dig x, h1 with
  | c :: m, _ =>
    rw [hd, List.all_cons, Bool.and_eq_true] at hf
    have h2 : 48 ≤ c.toNat ∧ c.toNat ≤ 57 := of_decide_eq_true hf.1.1
    exact ⟨c, m, rfl, fun e => by rw [e] at h2; exact absurd h2.1 (by decide)⟩
theorem decS_head (x : Nat) : ngB (decS x) = false := by
  unfold ngB
  refine decide_eq_false fun h => ?_
  obtain ⟨m, hm⟩ := (take1 _).1 h
  unfold decS at hm
  split at hm
  · cases hm
  · rename_i h0
    obtain ⟨c, m', e, hc⟩ := dig_head h0
    rw [e] at hm; cases hm; exact hc rfl
/-- What is printed is read. -/
theorem zP_print {z : Int} {k : Nat} (h : Bd z k) (hk : k ≤ 900) : zPok (zS z) = true ∧ zPv (zS z) = z := by
  have hd := isN_decS h.h hk
  have key : zPok (zS z) = true ∧ ngB (zS z) = decide (z < 0) ∧ mdB (zS z) = decS z.natAbs := by
    by_cases hz : z < 0
    · have e : zS z = 45 :: decS z.natAbs := by unfold zS; rw [if_pos hz]
      have hn : ngB (zS z) = true := by rw [e]; unfold ngB; exact decide_eq_true rfl
      have hm : mdB (zS z) = decS z.natAbs := by unfold mdB; rw [hn, if_pos rfl, e]; rfl
      refine ⟨?_, by rw [hn, decide_eq_true hz], hm⟩
      unfold zPok; rw [hm, hn, hd.1, hd.2, decide_eq_false (by omega)]; rfl
    · have e : zS z = decS z.natAbs := by unfold zS; rw [if_neg hz]
      have hn : ngB (zS z) = false := by rw [e]; exact decS_head _
      have hm : mdB (zS z) = decS z.natAbs := by unfold mdB; rw [hn, if_neg (by simp), e]
      refine ⟨?_, by rw [hn, decide_eq_false hz], hm⟩
      unfold zPok; rw [hm, hn, hd.1]; rfl
  refine ⟨key.1, ?_⟩
  unfold zPv; rw [if_pos key.1, key.2.1, key.2.2, hd.2, sgn_abs]
/-- What is read is printed again. -/
theorem zS_read {l : List UInt8} (h : zPok l = true) : zS (zPv l) = l := by
  have h0 := h
  unfold zPok at h0
  rw [Bool.and_eq_true] at h0
  unfold zPv; rw [if_pos h]
  cases hn : ngB l with
  | true =>
    obtain ⟨m, rfl⟩ := (take1 l).1 (of_decide_eq_true hn)
    have hm : mdB (45 :: m) = m := by unfold mdB; rw [hn, if_pos rfl]; rfl
    rw [hm, hn] at h0
    rw [hm]
    have hd0 : dval m ≠ 0 := fun e => by rw [e] at h0; simp at h0
    have hlt : sgn true (dval m) < 0 := by unfold sgn; rw [if_pos rfl]; omega
    unfold zS; rw [if_pos hlt, sgn_natAbs, decS_dval h0.1]
  | false =>
    have hm : mdB l = l := by unfold mdB; rw [hn, if_neg (by simp)]
    rw [hm] at h0 ⊢
    have hge : ¬ sgn false (dval l) < 0 := by unfold sgn; rw [if_neg (by simp)]; omega
    unfold zS; rw [if_neg hge, sgn_natAbs, decS_dval h0.1]
attribute [local irreducible] IntKind.wrap Go1 Reg WP thenK inBlk retQ retF RetF RetOK ResOK CallOK OpOK Sat
attribute [local irreducible] isN dval decS zS sgn
theorem con_HasPre (l : List UInt8) : PureOK Tryd.prog 135 [.v (str l), .v (str [45])] (.v (.bool (ngB l))) := by
  refine PureOK.fnF Tryd.func135 Tryd.results135 Tryd.ntmps135 rfl rfl rfl (by simp [AV.ids, AV0.ids, Atom.ids]) rfl (fun w0 T B E0 hB => ?_)
  by_cases h1 : 1 ≤ l.length
  · have hk : ([45] : List UInt8).length ≤ l.length := h1
    refine SX.go2 ?_
    exact retB rfl
  · have hk : ¬ ([45] : List UInt8).length ≤ l.length := h1
    refine SX.go2 ?_
    refine retB ?_; rw [eq_comm]; exact decide_eq_false (fun h => by obtain ⟨m, rfl⟩ := (take1 l).1 h; simp at h1)
theorem con_CutPreS (l : List UInt8) : PureOK Tryd.prog 123 [.v (str l), .v (str [45])] (.tup [.one (.c (.val (str (mdB l)))), .one (.c (.val (.bool (ngB l))))]) := by
  have cH := con_HasPre l
  refine PureOK.fnF Tryd.func123 Tryd.results123 Tryd.ntmps123 rfl rfl rfl (by simp [AV.ids, AV0.ids, Atom.ids]) rfl (fun w0 T B E0 hB => ?_)
  cases hn : ngB l with
  | true =>
    rw [hn] at cH
    have h1 : 1 ≤ l.length := by
      obtain ⟨m, rfl⟩ := (take1 l).1 (of_decide_eq_true hn)
      simp
    refine SX.go2 ?_
    rw [show mdB l = l.drop 1 by unfold mdB; rw [hn, if_pos rfl]]
    exact ret2 rfl rfl
  | false =>
    rw [hn] at cH
    refine SX.go2 ?_
    rw [show mdB l = l by unfold mdB; rw [hn, if_neg (by simp)]]
    exact ret2 rfl rfl
theorem con_CutPre (l : List UInt8) : PureOK Tryd.prog 96 [.v (str l), .v (str [45])] (.tup [.one (.c (.val (str (mdB l)))), .one (.c (.val (.bool (ngB l))))]) := by
  have cH := con_CutPreS l
  refine PureOK.fnF Tryd.func96 Tryd.results96 Tryd.ntmps96 rfl rfl rfl (by simp [AV.ids, AV0.ids, Atom.ids]) rfl (fun w0 T B E0 hB => ?_)
  refine SX.go2 ?_
  exact ret2 rfl rfl
theorem con_zParse (l : List UInt8) (hl : l.length ≤ 1000000000) : PureOK Tryd.prog 57 [.v (str l)] (.tup [.agg (zN (zPv l)), .one (.c (.val (.bool (zPok l))))]) := by
  have cC := con_CutPre l
  have hml := mdB_len l
  have cP := con_Parse (mdB l) (by omega)
  have hp : zPok l = (isN (mdB l) && !(ngB l && decide (dval (mdB l) = 0))) := by unfold zPok; rfl
  have hv : zPv l = if zPok l then sgn (ngB l) (dval (mdB l)) else 0 := by unfold zPv; rfl
  generalize mdB l = m at *
  generalize ngB l = b at *
  cases hN : isN m with
  | false =>
    rw [hN, if_neg (by simp)] at cP
    rw [hN, Bool.false_and] at hp
    rw [hp, if_neg (by simp)] at hv
    refine PureOK.fnF Tryd.func57 Tryd.results57 Tryd.ntmps57 rfl rfl rfl (by simp [AV.ids, AV0.ids, Atom.ids]) rfl (fun w0 T B E0 hB => ?_)
    refine SX.go2 ?_
    rw [hp, hv]
    exact ret2' (ResOK.agg2 rfl rfl rfl) (ResOK.tmp rfl) imp_zero (AV0.imp.refl _)
  | true =>
    rw [hN, if_pos rfl] at cP
    rw [hN, Bool.true_and] at hp
    have bd : BdN (dval m) m.length := ⟨bd_dval (isN_all hN).1⟩
    have hw := wds_zero (dval m)
    have cF := zFrom (a := .sat (nrmN (dval m))) b (show m.length ≤ 1099511627775 by omega)
    cases hb : b with
    | false =>
      rw [hb] at cC cF hp hv
      rw [Bool.false_and, Bool.not_false] at hp
      rw [hp, if_pos rfl] at hv
      refine PureOK.fnF Tryd.func57 Tryd.results57 Tryd.ntmps57 rfl rfl rfl (by simp [AV.ids, AV0.ids, Atom.ids]) rfl (fun w0 T B E0 hB => ?_)
      refine SX.go2 ?_
      rw [hp, hv]
      exact ret2' (ResOK.agg2 rfl rfl rfl) (ResOK.tmp rfl) (AV0.imp.refl _) (AV0.imp.refl _)
    | true =>
      rw [hb] at cC cF hp hv
      by_cases h0 : dval m = 0
      · rw [decide_eq_true h0] at hp
        rw [hp, if_neg (by simp)] at hv
        refine PureOK.fnF Tryd.func57 Tryd.results57 Tryd.ntmps57 rfl rfl rfl (by simp [AV.ids, AV0.ids, Atom.ids]) rfl (fun w0 T B E0 hB => ?_)
        refine SX.go2 ?_
        rw [hp, hv]
        exact ret2' (ResOK.agg2 rfl rfl rfl) (ResOK.tmp rfl) imp_zero (AV0.imp.refl _)
      · rw [decide_eq_false h0] at hp
        rw [hp, if_pos (by simp)] at hv
        refine PureOK.fnF Tryd.func57 Tryd.results57 Tryd.ntmps57 rfl rfl rfl (by simp [AV.ids, AV0.ids, Atom.ids]) rfl (fun w0 T B E0 hB => ?_)
        refine SX.go2 ?_
        rw [hp, hv]
        exact ret2' (ResOK.agg2 rfl rfl rfl) (ResOK.tmp rfl) (AV0.imp.refl _) (AV0.imp.refl _)
end Go.Proofs.YtkdonndeogihfaaDoor

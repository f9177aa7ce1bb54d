import Derived.Test.YtkdonndeogihfaaDoorG5
import Derived.Test.YtkdonndeogihfaaDoorQ5
/- The statement DecParses answers true. -/
set_option linter.unusedVariables false
set_option linter.unusedSimpArgs false
namespace Go.Proofs.YtkdonndeogihfaaDoor
open Go.RowKit QM SX
theorem nil_has {E : Env} {S : Nat → Prop} {w : World} {v : Value} (h : v = .slice none 0 0) : (digR []).has S w v := by
  subst h
  exact sliceR_iff.2 ⟨none, 0, rfl, Nat.le_refl _, by simp [maxLen], fun _ => rfl, by simp, fun i c hc => by simp at hc⟩
theorem nval1 (d : Nat) : nval 65536 [d] = d := by simp [nval]
theorem pow10_le (i : Nat) : 10 ^ i ≤ 65536 ^ i := Nat.pow_le_pow_left (by decide) i
theorem isN_big {l : List UInt8} (h : 20000 < l.length) : isN l = false := by
  unfold isN; rw [Bool.and_eq_false_iff]; exact .inl (decide_eq_false (by omega))
theorem wds0 : (wds 0).length = 0 := (wds_zero 0).2 rfl
attribute [local irreducible] IntKind.wrap Go1 Reg WP thenK inBlk retQ retF RetF RetOK ResOK CallOK OpOK Sat
attribute [local irreducible] dgs decS nval isN dval
theorem con_ParseBig (l : List UInt8) (h0 : 20000 < l.length) (hl : l.length ≤ 9223372036854775807) : PureOK Tryd.prog 20 [.v (str l)] (.tup [.one (.c (.sat (nrmN 0))), .one (.c (.val (.bool false)))]) := by
  have ci : PureOK Tryd.prog 74 [.v (str l)] (.v (.bool false)) := by
    refine PureOK.fnF Tryd.func74 Tryd.results74 Tryd.ntmps74 rfl rfl rfl (by simp [AV.ids, AV0.ids, Atom.ids]) rfl (fun w0 T B E0 hB => ?_)
    refine SX.go2 ?_
    exact retB rfl
  refine PureOK.fnF Tryd.func20 Tryd.results20 Tryd.ntmps20 rfl rfl rfl (by simp [AV.ids, AV0.ids, Atom.ids]) rfl (fun w0 T B E0 hB => ?_)
  refine SX.go2 ?_
  exact ret2' (ResOK.tmp rfl) (ResOK.tmp rfl) imp_nilN (AV0.imp.refl _)
theorem con_RIs (l : List UInt8) (hl : l.length ≤ 9223372036854775807) : PureOK Tryd.prog 21 [.v (str l)] (.v (.bool (isN l))) := by
  refine PureOK.fnF Tryd.func21 Tryd.results21 Tryd.ntmps21 rfl rfl rfl (by simp [AV.ids, AV0.ids, Atom.ids]) rfl (fun w0 T B E0 hB => ?_)
  repeat' (first | refine SX.go2 ?_ | refine SX.W.ite (fun h => ?_) (fun h => ?_) | refine SX.W.iteN (fun h => ?_) (fun h => ?_) | refine SX.W.iteB (fun h => ?_) (fun h => ?_) | refine SX.R.ite (fun h => ?_) (fun h => ?_) | refine SX.R.iteN (fun h => ?_) (fun h => ?_) | refine SX.R.iteB (fun h => ?_) (fun h => ?_))
  all_goals (first | (refine retB ?_; rw [eq_comm]; unfold isN; rw [Bool.and_eq_false_iff]; refine .inl (decide_eq_false fun hn => ?_); omega) | skip)
  all_goals
    have hb : decide (1 ≤ l.length ∧ l.length ≤ 20000 ∧ (l.length = 1 ∨ (byt l 0).toNat ≠ 48)) = true := decide_eq_true (by omega)
    refine W.loop (fun k => k ≤ l.length ∧ isN l = (l.drop k).all isD) (fun k => [(0, .v (str l)), (3, .v (.int .i64 (k : Int)))]) (fun _ => []) (fun k => l.length - k) 0 ⟨Nat.zero_le _, by unfold isN; rw [hb]; rfl⟩ (fun k ⟨hk, hn⟩ => ?_)
    have hs := all_step isD l k
    repeat' (first | refine SX.go2 ?_ | refine SX.W.ite (fun h => ?_) (fun h => ?_) | refine SX.W.iteN (fun h => ?_) (fun h => ?_) | refine SX.W.iteB (fun h => ?_) (fun h => ?_) | refine SX.R.ite (fun h => ?_) (fun h => ?_) | refine SX.R.iteN (fun h => ?_) (fun h => ?_) | refine SX.R.iteB (fun h => ?_) (fun h => ?_))
    all_goals first
      | (refine retB ?_; rw [hn, hs (by omega), show isD (byt l k) = false from decide_eq_false (by omega)]; rfl)
      | exact W.next (k + 1) ⟨by omega, by rw [hn, hs (by omega), show isD (byt l k) = true from decide_eq_true (by omega)]; rfl⟩ (by omega)
      | (refine retB ?_; rw [hn, List.drop_eq_nil_of_le (by omega)]; rfl)
theorem con_RParse (l : List UInt8) (hD : l.all isD = true) (h1 : 1 ≤ l.length) (h2 : l.length ≤ 20000) : PureOK Tryd.prog 24 [.v (str l)] (.r (digR (dgs (dval l)))) := by
  refine PureOK.fnF Tryd.func24 Tryd.results24 Tryd.ntmps24 rfl rfl rfl (by simp [AV.ids, AV0.ids, Atom.ids]) rfl (fun w0 T B E0 hB => ?_)
  refine SX.go2 ?_
  refine W.loop3 (fun (i n : Nat) (A : CA) => i ≤ l.length ∧ n = dval (l.take i) ∧ ((i = 0 ∧ A = .val (.slice none 0 0)) ∨ A = .sat (digR (dgs n)))) (fun i n A => [(0, .v (str l)), (3, .it (.one (.c A))), (4, .v (.int .i64 (i : Int)))]) (fun _ _ _ => []) (fun i _ _ => l.length - i) 0 0 (.val (.slice none 0 0)) ⟨Nat.zero_le _, by rw [List.take_zero, dval_nil], .inl ⟨rfl, rfl⟩⟩ (fun i n A ⟨hi, hn, hA⟩ => ?_)
  by_cases hil : i < l.length
  · have hbd := byt_isD hD hil
    have hn10 : n < 10 ^ i := by
      have := dval_lt (l := l.take i) (by rw [List.all_eq_true] at *; intro c hc; exact hD c (List.mem_of_mem_take hc))
      rwa [← hn, List.length_take, Nat.min_eq_left hi] at this
    have hnl : (dgs n).length ≤ i := dgs_len (Nat.lt_of_lt_of_le hn10 (pow10_le i))
    have hml : (dgs (n * 10)).length ≤ i + 1 := dgs_len (Nat.lt_of_lt_of_le (show n * 10 < 10 ^ (i + 1) by rw [Nat.pow_succ]; omega) (pow10_le (i + 1)))
    have s10 : Sm 65536 [10] := Sm.cons (by decide) Sm.nil
    have cM : PureOK Tryd.prog 76 [.it (.one (.c A)), .r (sliceR 1 1 [.val (.int .i64 10)])] (.r (digR (dgs (n * 10)))) := by
      rcases hA with ⟨h0, rfl⟩ | rfl
      · have hn0 : n = 0 := by rw [hn, h0, List.take_zero, dval_nil]
        have c := rMul0 [] [10] Sm.nil s10 (by decide)
        rw [show nval 65536 [] * nval 65536 [10] = n * 10 by rw [hn0, nval1]; unfold nval; rfl] at c
        refine PureOK.args c fun E S w vs hv => ?_
        match vs, hv with
        | [u, v], ⟨a1, a2, _⟩ => exact ⟨nil_has (E := E) a1, a2, trivial⟩
      · have c := rMul0 (dgs n) [10] (dgs_sm n) s10 (by simp; omega)
        rw [dgs_val, nval1] at c
        exact c
    have cT : PureOK Tryd.prog 70 [.r (sliceR 1 1 [.val (.int .i64 (((byt l i).toNat - 48 : Nat) : Int))])] (.r (digR (dgs ((byt l i).toNat - 48)))) := by
      have c := rTrimS [(byt l i).toNat - 48] (Sm.cons (by omega) Sm.nil) (by show 1 ≤ 9223372036854775807; decide)
      rw [nval1] at c
      exact c
    have hdl : (dgs ((byt l i).toNat - 48)).length ≤ 1 := dgs_len (by omega)
    have cA := rAdd0 (dgs (n * 10)) (dgs ((byt l i).toNat - 48)) (dgs_sm _) (dgs_sm _) (by omega)
    rw [dgs_val, dgs_val] at cA
    refine SX.go2 ?_
    refine W.next3 (i + 1) (n * 10 + ((byt l i).toNat - 48)) (.sat (digR (dgs (n * 10 + ((byt l i).toNat - 48))))) ⟨by omega, ?_, .inr rfl⟩ (by omega)
    rw [take_snoc hil, dval_snoc, ← hn]; omega
  · have hn' : n = dval l := by rw [hn, List.take_of_length_le (by omega)]
    have hA' : A = .sat (digR (dgs (dval l))) := by
      rcases hA with ⟨h0, _⟩ | h
      · omega
      · rw [h, hn']
    subst hA'
    refine SX.go2 ?_
    exact ret1' (AV0.imp.refl _)
theorem same_nr (x k : Nat) (hx : x < WB ^ k) (h : k ≤ 100000000) : PureOK Tryd.prog 22 [.r (nrmN x), .r (rawN (wds x))] (.v (.bool true)) := by
  have lx := wds_len hx
  have c := rSame0 (wds x) (wds x) (by omega)
  rw [decide_eq_true rfl] at c
  refine PureOK.args c fun E S w vs hv => ?_
  match vs, hv with
  | [u, v], ⟨h1, h2, _⟩ =>
    obtain ⟨l, a1, a2, _, a4⟩ := nrmN_iff.1 h1
    have ea : l = wds x := by rw [← a2]; exact wds_uniq (rawN_iff.1 a4).1 a1
    subst ea
    exact ⟨a4, h2, trivial⟩
theorem DecParses_ok (l : List UInt8) (h : l.length ≤ maxLen) : PureOK Tryd.prog 4 [.v (str l)] (.v (.bool true)) := by
  have hM : l.length ≤ 9223372036854775807 := Nat.le_trans h (by decide)
  have cI := con_RIs l hM
  have hw0 := wds0
  refine PureOK.fnF Tryd.func4 Tryd.results4 Tryd.ntmps4 rfl rfl rfl (by simp [AV.ids, AV0.ids, Atom.ids]) rfl (fun w0 T B E0 hB => ?_)
  by_cases hl : l.length ≤ 300
  · have cP := con_Parse l (by omega)
    cases hN : isN l with
    | false =>
      rw [hN, if_neg (by simp)] at cP
      rw [hN] at cI
      refine SX.go2 ?_
      refine retB ?_; exact decide_eq_true (by omega)
    | true =>
      rw [hN, if_pos rfl] at cP
      rw [hN] at cI
      obtain ⟨hD, hL1, hL⟩ := isN_all hN
      have cR := con_RParse l hD hL1 hL
      have cT := rTo0 (dgs (dval l)) (dgs_sm _) (by
        have := dgs_len (n := dval l) (k := l.length) (Nat.lt_of_lt_of_le (dval_lt hD) (pow10_le _))
        omega)
      rw [dgs_val] at cT
      have cS := same_nr (dval l) l.length (bd_dval hD) (by omega)
      refine SX.go2 ?_
      exact retB rfl
  · by_cases hb : l.length ≤ 20000
    · refine SX.go2 ?_
      exact retB rfl
    · have cP := con_ParseBig l (by omega) hM
      have hN := isN_big (l := l) (by omega)
      rw [hN] at cI
      refine SX.go2 ?_
      refine retB ?_; exact decide_eq_true (by omega)
end Go.Proofs.YtkdonndeogihfaaDoor

import Derived.Test.YtkdonndeogihfaaDoorG4
import Derived.Test.YtkdonndeogihfaaDoorQ4
/- The reference for digits (package quincunxref04): Print. -/
set_option linter.unusedVariables false
set_option linter.unusedSimpArgs false
namespace Go.Proofs.YtkdonndeogihfaaDoor
open Go.RowKit QM SX
def dC (x : Nat) : List CA := [.val (.int .i64 (x : Int))]
instance : EncLen dC 1 := ⟨fun _ => rfl⟩
instance : EncOne dC := ⟨fun _ => rfl⟩
theorem dC_map (l : List Nat) : l.map digC = l.flatMap dC := by
  induction l with
  | nil => rfl
  | cons x l ih => rw [List.map_cons, List.flatMap_cons, ih]; rfl
theorem dC_rep (l : List Nat) : digR l = rowR 1 dC l := by
  show sliceR 1 l.length (l.map digC) = sliceR 1 l.length (l.flatMap dC)
  rw [dC_map]
theorem nval_drop (l : List Nat) (i : Nat) (h : i < l.length) : nval 65536 (l.drop i) = l[i] + 65536 * nval 65536 (l.drop (i + 1)) := by
  rw [List.drop_eq_getElem_cons h, nval]
theorem dgs_pos {y : Nat} (h : y ≠ 0) : 1 ≤ (dgs y).length := by
  rcases Nat.eq_zero_or_pos (dgs y).length with h0 | h0
  · have := dgs_val y
    rw [List.eq_nil_of_length_eq_zero h0] at this
    exact absurd this.symm h
  · exact h0
attribute [local irreducible] IntKind.wrap Go1 Reg WP thenK inBlk retQ retF RetF RetOK ResOK CallOK OpOK Sat
attribute [local irreducible] dgs decS nval
theorem con_RPrint (x k : Nat) (hx : x < 65536 ^ k) (hk : k ≤ 1000000) : PureOK Tryd.prog 16 [.r (digR (dgs x))] (.v (str (decS x))) := by
  have hT0 := rTrimS (dgs x) (dgs_sm x) (Nat.le_trans (dgs_len hx) (by omega))
  rw [dgs_val, dC_rep] at hT0
  rw [dC_rep]
  have hS : decS x = if x = 0 then [48] else dig x := by unfold decS; rfl
  refine PureOK.fnF Tryd.func16 Tryd.results16 Tryd.ntmps16 rfl rfl rfl (by simp [AV.ids, AV0.ids, Atom.ids]) rfl (fun w0 T B E0 hB => ?_)
  refine SX.go2 ?_
  refine W.loop2 (fun (y : Nat) (T : List UInt8) => y ≤ x ∧ dig x = dig y ++ T.reverse) (fun y T => [(3, .own 100), (4, .r (rowR 1 dC (dgs y)))]) (fun y T => [(100, .row 5 1 T.length (T.flatMap bytC))]) (fun y _ => y) x [] ⟨Nat.le_refl _, by simp⟩ (fun y T1 ⟨hy, hd⟩ => ?_)
  have hyk : y < 65536 ^ k := Nat.lt_of_le_of_lt hy hx
  have hL := dgs_len hyk
  have hTb : T1.length ≤ 5 * k := by
    have h1 : x < 10 ^ (5 * k) := Nat.lt_of_lt_of_le hx (by rw [Nat.pow_mul]; exact Nat.pow_le_pow_left (by decide) _)
    have := dig_len h1
    rw [hd, List.length_append, List.length_reverse] at this
    omega
  by_cases hy0 : y = 0
  · subst hy0
    have hn : dgs 0 = [] := dgs_zero
    rw [hn]
    rw [dig_zero, List.nil_append] at hd
    refine SX.WP.freeze 100 hB rfl ?_
    by_cases hx0 : x = 0
    · subst hx0
      have hT0' : T1 = [] := by rw [dig_zero] at hd; simpa using hd.symm
      subst hT0'
      refine SX.go2 ?_
      refine retS ?_; rw [hS, if_pos rfl]
    · have hTl : 1 ≤ T1.length := by
        rcases Nat.eq_zero_or_pos T1.length with h | h
        · rw [List.eq_nil_of_length_eq_zero h] at hd
          exact absurd hd (dig_ne hx0)
        · exact h
      refine SX.go2 ?_
      refine W.loop2 (fun (j : Nat) (O : List UInt8) => j ≤ T1.length ∧ O = (T1.drop j).reverse) (fun j O => [(3, .r (rowR 1 bytC T1)), (9, .own 100), (10, .v (.int .i64 ((j : Int) - 1)))]) (fun j O => [(100, .row 5 1 O.length (O.flatMap bytC))]) (fun j _ => j) T1.length [] ⟨Nat.le_refl _, by simp⟩ (fun j O ⟨hj, hO⟩ => ?_)
      cases j with
      | zero =>
        rw [List.drop_zero] at hO
        refine SX.WP.freeze 100 hB rfl ?_
        refine SX.go2 ?_
        refine retS ?_; rw [hS, if_neg hx0, hd, hO]
      | succ j =>
        rw [show ((j + 1 : Nat) : Int) - 1 = (j : Int) by omega]
        obtain ⟨b, hb⟩ : ∃ b, T1[j]? = some b := ⟨_, List.getElem?_eq_getElem (by omega)⟩
        have hOl : O.length = T1.length - (j + 1) := by rw [hO]; simp
        refine SX.go2 ?_
        refine W.next2 j (O ++ [b]) ⟨by omega, ?_⟩ (by omega)
        obtain ⟨h3, h4⟩ := List.getElem?_eq_some_iff.1 hb
        rw [hO, List.drop_eq_getElem_cons h3, h4, List.reverse_cons]
  · have hXl := dgs_pos hy0
    have hXs := dgs_sm y
    have hXv := dgs_val y
    generalize dgs y = X at *
    refine SX.go2 ?_
    refine W.loop3 (fun (j r : Nat) (Q : List Nat) => j ≤ X.length ∧ Q.length = X.length - j ∧ r < 10 ∧ Sm 65536 Q ∧ nval 65536 Q.reverse = nval 65536 (X.drop j) / 10 ∧ r = nval 65536 (X.drop j) % 10)
      (fun j r Q => [(3, .own 100), (4, .r (rowR 1 dC X)), (5, .own 101), (6, .v (.int .i64 (r : Int))), (7, .v (.int .i64 ((j : Int) - 1)))]) (fun j r Q => [(100, .row 5 1 T1.length (T1.flatMap bytC)), (101, .row 3 1 Q.length (Q.flatMap dC))]) (fun j _ _ => j) X.length 0 [] ⟨Nat.le_refl _, by simp, by omega, Sm.nil, by simp [nval], by simp [nval]⟩ (fun j r Q ⟨hj, hQl, hr, hQs, hQv, hrv⟩ => ?_)
    cases j with
    | succ j =>
      rw [show ((j + 1 : Nat) : Int) - 1 = (j : Int) by omega]
      obtain ⟨d, hd'⟩ : ∃ d, X[j]? = some d := ⟨_, List.getElem?_eq_getElem (by omega)⟩
      have hdb : d < 65536 := hXs d (List.mem_of_getElem? hd')
      refine SX.go2 ?_
      obtain ⟨h3, h4⟩ := List.getElem?_eq_some_iff.1 hd'
      have hv := nval_drop X j h3
      rw [h4] at hv
      refine W.next3 j ((r * 65536 + d) % 10) (Q ++ [(r * 65536 + d) / 10]) ⟨by omega, by simp; omega, by omega, hQs.append (Sm.cons (by omega) Sm.nil), ?_, ?_⟩ (by omega)
      · rw [List.reverse_append, List.reverse_cons, List.reverse_nil, List.nil_append, List.singleton_append, nval, hQv, hv]
        omega
      · rw [hv]; omega
    | zero =>
      rw [List.drop_zero, hXv] at hQv hrv
      refine SX.WP.freeze 101 hB rfl ?_
      rw [Nat.sub_zero] at hQl
      have e1 : T1.flatMap bytC ++ [CA.val (.int .u8 ((48 + r : Nat) : Int))] = (T1 ++ [UInt8.ofNat (48 + r)]).flatMap bytC := by
        rw [List.flatMap_append]
        congr 1
        have e2 : (UInt8.ofNat (48 + r)).toNat = 48 + r := by rw [UInt8.toNat_ofNat']; omega
        show _ = [CA.val (.int .u8 ((UInt8.ofNat (48 + r)).toNat : Int))]
        rw [e2]
      refine SX.go2 ?_
      refine W.loop2 (fun (j : Nat) (O : List Nat) => j ≤ Q.length ∧ O = (Q.drop j).reverse) (fun j O => [(3, .own 100), (4, .own 101), (5, .r (rowR 1 dC Q)), (8, .v (.int .i64 ((j : Int) - 1)))]) (fun j O => [(100, .row 5 1 (T1 ++ [UInt8.ofNat (48 + r)]).length ((T1 ++ [UInt8.ofNat (48 + r)]).flatMap bytC)), (101, .row 3 1 O.length (O.flatMap dC))]) (fun j _ => j) Q.length [] ⟨Nat.le_refl _, by simp⟩ (fun j O ⟨hj2, hO⟩ => ?_)
      cases j with
      | succ j =>
        rw [show ((j + 1 : Nat) : Int) - 1 = (j : Int) by omega]
        obtain ⟨d, hd'⟩ : ∃ d, Q[j]? = some d := ⟨_, List.getElem?_eq_getElem (by omega)⟩
        have hOl : O.length = Q.length - (j + 1) := by rw [hO]; simp
        refine SX.go2 ?_
        refine W.next2 j (O ++ [d]) ⟨by omega, ?_⟩ (by omega)
        obtain ⟨h3, h4⟩ := List.getElem?_eq_some_iff.1 hd'
        rw [hO, List.drop_eq_getElem_cons h3, h4, List.reverse_cons]
      | zero =>
        rw [List.drop_zero] at hO
        subst hO
        have hT2 := rTrimS Q.reverse (fun z hz => hQs z (List.mem_reverse.1 hz)) (by rw [List.length_reverse]; omega)
        rw [hQv, dC_rep, dC_rep] at hT2
        refine SX.WP.freeze 101 hB rfl ?_
        refine SX.go2 ?_
        refine W.next2 (y / 10) (T1 ++ [UInt8.ofNat (48 + r)]) ⟨by omega, ?_⟩ (by omega)
        rw [hd, dig_succ hy0, hrv]; simp
end Go.Proofs.YtkdonndeogihfaaDoor

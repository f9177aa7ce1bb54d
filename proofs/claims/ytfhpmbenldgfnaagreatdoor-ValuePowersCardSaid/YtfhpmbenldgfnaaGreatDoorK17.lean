import Derived.Test.YtfhpmbenldgfnaaGreatDoorK16
set_option linter.unusedVariables false
set_option linter.unusedSimpArgs false
namespace Go.Proofs.YtfhpmbenldgfnaaGreatDoor
open Go.RowKit QM SX LA
theorem vP0 (v : Vl) : vP v = 0 ↔ (v.k = 1 ∨ (v.q.2.1.length = 0 ∧ v.q.2.2.2.length = 0 ∧ v.q.1 = false ∧ v.q.2.2.1 = false)) ∧ (v.k = 2 ∨ (v.r = 0 ∧ v.c = 0 ∧ v.a.length = 0)) ∧ (v.k = 3 ∨ v.po.length = 0) ∧ (v.k = 4 ∨ (v.fr = 0 ∧ v.fc = 0 ∧ v.fa.length = 0)) ∧ (v.k = 5 ∨ v.ri.length = 0) ∧ (v.k = 4 ∨ v.k = 5 ∨ v.p = 0) ∧ (v.k = 6 ∨ v.li.length = 0) := by
  have e : ∀ (p : Prop) [Decidable p], pt p = 0 ↔ ¬ p := fun p _ => by unfold pt; split <;> simp_all
  unfold vP
  rw [Nat.add_eq_zero_iff, Nat.add_eq_zero_iff, Nat.add_eq_zero_iff, Nat.add_eq_zero_iff, Nat.add_eq_zero_iff, Nat.add_eq_zero_iff, e, e, e, e, e, e, e, ← rq0_iff]
  constructor
  · rintro ⟨⟨⟨⟨⟨⟨h1, h2⟩, h3⟩, h4⟩, h5⟩, h6⟩, h7⟩
    refine ⟨?_, by omega, by omega, by omega, by omega, by omega, by omega⟩
    by_cases h : v.k = 1
    · exact .inl h
    · exact .inr (Decidable.byContradiction fun h' => h1 ⟨h, h'⟩)
  · rintro ⟨h1, h2, h3, h4, h5, h6, h7⟩
    refine ⟨⟨⟨⟨⟨⟨?_, by omega⟩, by omega⟩, by omega⟩, by omega⟩, by omega⟩, by omega⟩
    rintro ⟨h, h'⟩; exact h1.elim h h'
theorem bits0 {b : Bool} {l : List Nat} (h : l.length = 0) : bitLen (sgn b (nval WB l)).natAbs = 0 := by
  rw [List.eq_nil_of_length_eq_zero h]
  cases b <;> rfl
def kiC (k : Int) : List CA := [.val (.int .i64 k)]
instance : EncLen kiC 1 := ⟨fun _ => rfl⟩
attribute [local irreducible] IntKind.wrap Go1 Reg WP thenK inBlk retQ retF RetF RetOK ResOK CallOK OpOK Sat
attribute [local irreducible] qsub qmul qquo qcmp qadd qv redS mf
theorem con_IdxK (l : List Int) (i : Int) (hl : l.length ≤ 1000) : PureOK Tryz.prog 243 [.r (rowR 1 kiC l), .v (.int .i64 i)] (.v (.int .i64 (fi (fun a => decide (i = a)) l 0))) := by
  refine PureOK.fnF Tryz.func243 Tryz.results243 Tryz.ntmps243 rfl rfl rfl (by simp [AV.ids, AV0.ids, Atom.ids]) rfl (fun w0 T B E0 hB => ?_)
  refine SX.goN ?_
  refine W.loop (fun k => k ≤ l.length ∧ fi (fun a => decide (i = a)) (l.drop k) k = fi (fun a => decide (i = a)) l 0) (fun k => [(0, .r (rowR 1 kiC l)), (1, .v (.int .i64 i)), (7, .v (.int .i64 (l.length : Int))), (8, .v (.int .i64 (k : Int)))]) (fun _ => []) (fun k => l.length - k) 0 ⟨Nat.zero_le _, rfl⟩ (fun k ⟨hk, he⟩ => ?_)
  by_cases h : k < l.length
  · obtain ⟨r, hr⟩ : ∃ r, l[k]? = some r := ⟨_, List.getElem?_eq_getElem h⟩
    rw [fi_drop hr] at he
    by_cases hp : i = r
    · rw [if_pos (decide_eq_true hp)] at he
      refine SX.goN ?_
      exact retI he
    · rw [if_neg (by rw [decide_eq_false hp]; decide)] at he
      refine SX.goN ?_
      exact W.next (k + 1) ⟨h, he⟩ (by omega)
  · obtain rfl : k = l.length := by omega
    rw [List.drop_length] at he
    refine SX.goN ?_
    refine retI ?_; rw [← he]; rfl
theorem con_ContK (k i : Int) : PureOK Tryz.prog 208 [.r (rowR 1 kiC [k]), .v (.int .i64 i)] (.v (.bool (decide (i = k)))) := by
  have c := con_IdxK [k] i (by rw [List.length_singleton]; decide)
  refine PureOK.fnF Tryz.func208 Tryz.results208 Tryz.ntmps208 rfl rfl rfl (by simp [AV.ids, AV0.ids, Atom.ids]) rfl (fun w0 T B E0 hB => ?_)
  have e : fi (fun a => decide (i = a)) [k] 0 = if i = k then 0 else -1 := by
    unfold fi
    by_cases h : i = k
    · rw [if_pos (decide_eq_true h), if_pos h]; rfl
    · rw [if_neg (by rw [decide_eq_false h]; decide), if_neg h]; rfl
  rw [e] at c
  by_cases h : i = k
  · rw [if_pos h] at c
    refine SX.goN ?_
    refine retB ?_; rw [decide_eq_true h]
    first | rfl | decide
  · rw [if_neg h] at c
    refine SX.goN ?_
    refine retB ?_; rw [decide_eq_false h]
    first | rfl | decide
theorem con_blank1 (k i : Int) : PureOK Tryz.prog 207 [.v (.int .i64 i), .r (ptrR [.sat (rowR 1 kiC [k])])] (.v (.bool (!decide (i = k)))) := by
  have c := con_ContK k i
  refine PureOK.fnF Tryz.func207 Tryz.results207 Tryz.ntmps207 rfl rfl rfl (by simp [AV.ids, AV0.ids, Atom.ids]) rfl (fun w0 T B E0 hB => ?_)
  refine SX.goN ?_
  exact retB rfl
structure vZ0 (v : Vl) : Prop where
  q : (Sm WB v.q.2.1 ∧ Sm WB v.q.2.2.2) ∧ v.q.2.1.length ≤ 100000 ∧ v.q.2.2.2.length ≤ 100000
  a : ∀ x ∈ v.a, (Sm WB x.2.1 ∧ Sm WB x.2.2.2) ∧ x.2.1.length ≤ 100000 ∧ x.2.2.2.length ≤ 100000
  al : v.a.length ≤ 100000
  po : ∀ x ∈ v.po, Sm WB x.2 ∧ x.2.length ≤ 100000
  pol : v.po.length ≤ 100000
  p : v.p < WB
  fa : ∀ x ∈ v.fa, x < WB
  fal : v.fa.length ≤ 100000
  ri : ∀ x ∈ v.ri, x < WB
  ril : v.ri.length ≤ 100000
  lil : v.li.length ≤ 100000
set_option maxRecDepth 20000 in
set_option maxHeartbeats 2000000 in
theorem con_blank_1 (v : Vl) (hz : vZ0 v) (hk : v.k = 1) : PureOK Tryz.prog 147 [.agg (vlA v), .r (rowR 1 kiC [v.k])] (.v (.bool (decide (vP v = 0)))) := by
  have c1 : FnV Tryz.prog (.sat (cloR 207 [] [.sat (ptrR [.sat (rowR 1 kiC [v.k])])])) [.v (.int .i64 1)] (.v (.bool (!decide (1 = v.k)))) := FnV.clo (con_blank1 v.k 1)
  have c2 : FnV Tryz.prog (.sat (cloR 207 [] [.sat (ptrR [.sat (rowR 1 kiC [v.k])])])) [.v (.int .i64 2)] (.v (.bool (!decide (2 = v.k)))) := FnV.clo (con_blank1 v.k 2)
  have c3 : FnV Tryz.prog (.sat (cloR 207 [] [.sat (ptrR [.sat (rowR 1 kiC [v.k])])])) [.v (.int .i64 3)] (.v (.bool (!decide (3 = v.k)))) := FnV.clo (con_blank1 v.k 3)
  have c4 : FnV Tryz.prog (.sat (cloR 207 [] [.sat (ptrR [.sat (rowR 1 kiC [v.k])])])) [.v (.int .i64 4)] (.v (.bool (!decide (4 = v.k)))) := FnV.clo (con_blank1 v.k 4)
  have c5 : FnV Tryz.prog (.sat (cloR 207 [] [.sat (ptrR [.sat (rowR 1 kiC [v.k])])])) [.v (.int .i64 5)] (.v (.bool (!decide (5 = v.k)))) := FnV.clo (con_blank1 v.k 5)
  have c6 : FnV Tryz.prog (.sat (cloR 207 [] [.sat (ptrR [.sat (rowR 1 kiC [v.k])])])) [.v (.int .i64 6)] (.v (.bool (!decide (6 = v.k)))) := FnV.clo (con_blank1 v.k 6)
  have cb1 := (con_zBits (h := ZI.raw v.q.1 v.q.2.1)).h (show v.q.2.1.length ≤ 1099511627775 by have := hz.q.2.1; omega)
  have cb2 := (con_zBits (h := ZI.raw v.q.2.2.1 v.q.2.2.2)).h (show v.q.2.2.2.length ≤ 1099511627775 by have := hz.q.2.2; omega)
  have hP := vP0 v
  have f1 := bits0 (b := v.q.1) (l := v.q.2.1)
  have f2 := bits0 (b := v.q.2.2.1) (l := v.q.2.2.2)
  have b1 := hz.q.2.1
  have b2 := hz.q.2.2
  have b3 := hz.al
  have b4 := hz.pol
  have b5 := hz.fal
  have b6 := hz.ril
  have b7 := hz.lil
  have l1 : (v.a.map rq).length = v.a.length := List.length_map _
  have l2 : (v.po.map rz).length = v.po.length := List.length_map _
  refine PureOK.fnF Tryz.func147 Tryz.results147 Tryz.ntmps147 rfl rfl rfl (by simp [AV.ids, AV0.ids, Atom.ids]) rfl (fun w0 T B E0 hB => ?_)
  refine SX.goN ?_
  refine SX.WP.freezeB 3 hB rfl rfl ?_
  refine SX.WP.regionL ?_
  have k0 : v.k = 1 := hk
  have e1 : (!decide ((1 : Int) = v.k)) = false := by rw [k0]; rfl
  have e2 : (!decide ((2 : Int) = v.k)) = true := by rw [k0]; rfl
  have e3 : (!decide ((3 : Int) = v.k)) = true := by rw [k0]; rfl
  have e4 : (!decide ((4 : Int) = v.k)) = true := by rw [k0]; rfl
  have e5 : (!decide ((5 : Int) = v.k)) = true := by rw [k0]; rfl
  have e6 : (!decide ((6 : Int) = v.k)) = true := by rw [k0]; rfl
  rw [e1] at c1; rw [e2] at c2; rw [e3] at c3; rw [e4] at c4; rw [e5] at c5; rw [e6] at c6
  clear e1 e2 e3 e4 e5 e6
  repeat' (first | refine SX.goN ?_ | refine SX.W.ite (fun h => ?_) (fun h => ?_) | refine SX.W.iteN (fun h => ?_) (fun h => ?_) | refine SX.W.iteB (fun h => ?_) (fun h => ?_) | refine SX.R.ite (fun h => ?_) (fun h => ?_) | refine SX.R.iteN (fun h => ?_) (fun h => ?_) | refine SX.R.iteB (fun h => ?_) (fun h => ?_))
  all_goals
    refine retB ?_
    refine Bool.eq_iff_iff.2 (Iff.trans ?_ decide_eq_true_iff.symm)
    rw [hP]
    constructor
    · intro hh
      first
        | (cases hh; done)
        | (try rw [decide_eq_true_iff] at hh
           refine ⟨?_, ?_, ?_, ?_, ?_, ?_, ?_⟩ <;> first | omega | (refine .inr ⟨?_, ?_, ?_, ?_⟩ <;> first | omega | assumption))
    · rintro ⟨h1, h2, h3, h4, h5, h6, h7⟩
      first
        | rfl
        | (rw [decide_eq_true_iff]; omega)
        | (exfalso; first | omega | (rcases h1 with h1 | ⟨g1, g2, g3, g4⟩ <;> first | omega | (clear c1 c2 c3 c4 c5 c6 f1 f2 hP; simp_all; done)))
set_option maxRecDepth 20000 in
set_option maxHeartbeats 2000000 in
theorem con_blank_2 (v : Vl) (hz : vZ0 v) (hk : v.k = 2) : PureOK Tryz.prog 147 [.agg (vlA v), .r (rowR 1 kiC [v.k])] (.v (.bool (decide (vP v = 0)))) := by
  have c1 : FnV Tryz.prog (.sat (cloR 207 [] [.sat (ptrR [.sat (rowR 1 kiC [v.k])])])) [.v (.int .i64 1)] (.v (.bool (!decide (1 = v.k)))) := FnV.clo (con_blank1 v.k 1)
  have c2 : FnV Tryz.prog (.sat (cloR 207 [] [.sat (ptrR [.sat (rowR 1 kiC [v.k])])])) [.v (.int .i64 2)] (.v (.bool (!decide (2 = v.k)))) := FnV.clo (con_blank1 v.k 2)
  have c3 : FnV Tryz.prog (.sat (cloR 207 [] [.sat (ptrR [.sat (rowR 1 kiC [v.k])])])) [.v (.int .i64 3)] (.v (.bool (!decide (3 = v.k)))) := FnV.clo (con_blank1 v.k 3)
  have c4 : FnV Tryz.prog (.sat (cloR 207 [] [.sat (ptrR [.sat (rowR 1 kiC [v.k])])])) [.v (.int .i64 4)] (.v (.bool (!decide (4 = v.k)))) := FnV.clo (con_blank1 v.k 4)
  have c5 : FnV Tryz.prog (.sat (cloR 207 [] [.sat (ptrR [.sat (rowR 1 kiC [v.k])])])) [.v (.int .i64 5)] (.v (.bool (!decide (5 = v.k)))) := FnV.clo (con_blank1 v.k 5)
  have c6 : FnV Tryz.prog (.sat (cloR 207 [] [.sat (ptrR [.sat (rowR 1 kiC [v.k])])])) [.v (.int .i64 6)] (.v (.bool (!decide (6 = v.k)))) := FnV.clo (con_blank1 v.k 6)
  have cb1 := (con_zBits (h := ZI.raw v.q.1 v.q.2.1)).h (show v.q.2.1.length ≤ 1099511627775 by have := hz.q.2.1; omega)
  have cb2 := (con_zBits (h := ZI.raw v.q.2.2.1 v.q.2.2.2)).h (show v.q.2.2.2.length ≤ 1099511627775 by have := hz.q.2.2; omega)
  have hP := vP0 v
  have f1 := bits0 (b := v.q.1) (l := v.q.2.1)
  have f2 := bits0 (b := v.q.2.2.1) (l := v.q.2.2.2)
  have b1 := hz.q.2.1
  have b2 := hz.q.2.2
  have b3 := hz.al
  have b4 := hz.pol
  have b5 := hz.fal
  have b6 := hz.ril
  have b7 := hz.lil
  have l1 : (v.a.map rq).length = v.a.length := List.length_map _
  have l2 : (v.po.map rz).length = v.po.length := List.length_map _
  refine PureOK.fnF Tryz.func147 Tryz.results147 Tryz.ntmps147 rfl rfl rfl (by simp [AV.ids, AV0.ids, Atom.ids]) rfl (fun w0 T B E0 hB => ?_)
  refine SX.goN ?_
  refine SX.WP.freezeB 3 hB rfl rfl ?_
  refine SX.WP.regionL ?_
  have k0 : v.k = 2 := hk
  have e1 : (!decide ((1 : Int) = v.k)) = true := by rw [k0]; rfl
  have e2 : (!decide ((2 : Int) = v.k)) = false := by rw [k0]; rfl
  have e3 : (!decide ((3 : Int) = v.k)) = true := by rw [k0]; rfl
  have e4 : (!decide ((4 : Int) = v.k)) = true := by rw [k0]; rfl
  have e5 : (!decide ((5 : Int) = v.k)) = true := by rw [k0]; rfl
  have e6 : (!decide ((6 : Int) = v.k)) = true := by rw [k0]; rfl
  rw [e1] at c1; rw [e2] at c2; rw [e3] at c3; rw [e4] at c4; rw [e5] at c5; rw [e6] at c6
  clear e1 e2 e3 e4 e5 e6
  repeat' (first | refine SX.goN ?_ | refine SX.W.ite (fun h => ?_) (fun h => ?_) | refine SX.W.iteN (fun h => ?_) (fun h => ?_) | refine SX.W.iteB (fun h => ?_) (fun h => ?_) | refine SX.R.ite (fun h => ?_) (fun h => ?_) | refine SX.R.iteN (fun h => ?_) (fun h => ?_) | refine SX.R.iteB (fun h => ?_) (fun h => ?_))
  all_goals
    refine retB ?_
    refine Bool.eq_iff_iff.2 (Iff.trans ?_ decide_eq_true_iff.symm)
    rw [hP]
    constructor
    · intro hh
      first
        | (cases hh; done)
        | (try rw [decide_eq_true_iff] at hh
           refine ⟨?_, ?_, ?_, ?_, ?_, ?_, ?_⟩ <;> first | omega | (refine .inr ⟨?_, ?_, ?_, ?_⟩ <;> first | omega | assumption))
    · rintro ⟨h1, h2, h3, h4, h5, h6, h7⟩
      first
        | rfl
        | (rw [decide_eq_true_iff]; omega)
        | (exfalso; first | omega | (rcases h1 with h1 | ⟨g1, g2, g3, g4⟩ <;> first | omega | (clear c1 c2 c3 c4 c5 c6 f1 f2 hP; simp_all; done)))
set_option maxRecDepth 20000 in
set_option maxHeartbeats 2000000 in
theorem con_blank_3 (v : Vl) (hz : vZ0 v) (hk : v.k = 3) : PureOK Tryz.prog 147 [.agg (vlA v), .r (rowR 1 kiC [v.k])] (.v (.bool (decide (vP v = 0)))) := by
  have c1 : FnV Tryz.prog (.sat (cloR 207 [] [.sat (ptrR [.sat (rowR 1 kiC [v.k])])])) [.v (.int .i64 1)] (.v (.bool (!decide (1 = v.k)))) := FnV.clo (con_blank1 v.k 1)
  have c2 : FnV Tryz.prog (.sat (cloR 207 [] [.sat (ptrR [.sat (rowR 1 kiC [v.k])])])) [.v (.int .i64 2)] (.v (.bool (!decide (2 = v.k)))) := FnV.clo (con_blank1 v.k 2)
  have c3 : FnV Tryz.prog (.sat (cloR 207 [] [.sat (ptrR [.sat (rowR 1 kiC [v.k])])])) [.v (.int .i64 3)] (.v (.bool (!decide (3 = v.k)))) := FnV.clo (con_blank1 v.k 3)
  have c4 : FnV Tryz.prog (.sat (cloR 207 [] [.sat (ptrR [.sat (rowR 1 kiC [v.k])])])) [.v (.int .i64 4)] (.v (.bool (!decide (4 = v.k)))) := FnV.clo (con_blank1 v.k 4)
  have c5 : FnV Tryz.prog (.sat (cloR 207 [] [.sat (ptrR [.sat (rowR 1 kiC [v.k])])])) [.v (.int .i64 5)] (.v (.bool (!decide (5 = v.k)))) := FnV.clo (con_blank1 v.k 5)
  have c6 : FnV Tryz.prog (.sat (cloR 207 [] [.sat (ptrR [.sat (rowR 1 kiC [v.k])])])) [.v (.int .i64 6)] (.v (.bool (!decide (6 = v.k)))) := FnV.clo (con_blank1 v.k 6)
  have cb1 := (con_zBits (h := ZI.raw v.q.1 v.q.2.1)).h (show v.q.2.1.length ≤ 1099511627775 by have := hz.q.2.1; omega)
  have cb2 := (con_zBits (h := ZI.raw v.q.2.2.1 v.q.2.2.2)).h (show v.q.2.2.2.length ≤ 1099511627775 by have := hz.q.2.2; omega)
  have hP := vP0 v
  have f1 := bits0 (b := v.q.1) (l := v.q.2.1)
  have f2 := bits0 (b := v.q.2.2.1) (l := v.q.2.2.2)
  have b1 := hz.q.2.1
  have b2 := hz.q.2.2
  have b3 := hz.al
  have b4 := hz.pol
  have b5 := hz.fal
  have b6 := hz.ril
  have b7 := hz.lil
  have l1 : (v.a.map rq).length = v.a.length := List.length_map _
  have l2 : (v.po.map rz).length = v.po.length := List.length_map _
  refine PureOK.fnF Tryz.func147 Tryz.results147 Tryz.ntmps147 rfl rfl rfl (by simp [AV.ids, AV0.ids, Atom.ids]) rfl (fun w0 T B E0 hB => ?_)
  refine SX.goN ?_
  refine SX.WP.freezeB 3 hB rfl rfl ?_
  refine SX.WP.regionL ?_
  have k0 : v.k = 3 := hk
  have e1 : (!decide ((1 : Int) = v.k)) = true := by rw [k0]; rfl
  have e2 : (!decide ((2 : Int) = v.k)) = true := by rw [k0]; rfl
  have e3 : (!decide ((3 : Int) = v.k)) = false := by rw [k0]; rfl
  have e4 : (!decide ((4 : Int) = v.k)) = true := by rw [k0]; rfl
  have e5 : (!decide ((5 : Int) = v.k)) = true := by rw [k0]; rfl
  have e6 : (!decide ((6 : Int) = v.k)) = true := by rw [k0]; rfl
  rw [e1] at c1; rw [e2] at c2; rw [e3] at c3; rw [e4] at c4; rw [e5] at c5; rw [e6] at c6
  clear e1 e2 e3 e4 e5 e6
  repeat' (first | refine SX.goN ?_ | refine SX.W.ite (fun h => ?_) (fun h => ?_) | refine SX.W.iteN (fun h => ?_) (fun h => ?_) | refine SX.W.iteB (fun h => ?_) (fun h => ?_) | refine SX.R.ite (fun h => ?_) (fun h => ?_) | refine SX.R.iteN (fun h => ?_) (fun h => ?_) | refine SX.R.iteB (fun h => ?_) (fun h => ?_))
  all_goals
    refine retB ?_
    refine Bool.eq_iff_iff.2 (Iff.trans ?_ decide_eq_true_iff.symm)
    rw [hP]
    constructor
    · intro hh
      first
        | (cases hh; done)
        | (try rw [decide_eq_true_iff] at hh
           refine ⟨?_, ?_, ?_, ?_, ?_, ?_, ?_⟩ <;> first | omega | (refine .inr ⟨?_, ?_, ?_, ?_⟩ <;> first | omega | assumption))
    · rintro ⟨h1, h2, h3, h4, h5, h6, h7⟩
      first
        | rfl
        | (rw [decide_eq_true_iff]; omega)
        | (exfalso; first | omega | (rcases h1 with h1 | ⟨g1, g2, g3, g4⟩ <;> first | omega | (clear c1 c2 c3 c4 c5 c6 f1 f2 hP; simp_all; done)))
set_option maxRecDepth 20000 in
set_option maxHeartbeats 2000000 in
theorem con_blank_4 (v : Vl) (hz : vZ0 v) (hk : v.k = 4) : PureOK Tryz.prog 147 [.agg (vlA v), .r (rowR 1 kiC [v.k])] (.v (.bool (decide (vP v = 0)))) := by
  have c1 : FnV Tryz.prog (.sat (cloR 207 [] [.sat (ptrR [.sat (rowR 1 kiC [v.k])])])) [.v (.int .i64 1)] (.v (.bool (!decide (1 = v.k)))) := FnV.clo (con_blank1 v.k 1)
  have c2 : FnV Tryz.prog (.sat (cloR 207 [] [.sat (ptrR [.sat (rowR 1 kiC [v.k])])])) [.v (.int .i64 2)] (.v (.bool (!decide (2 = v.k)))) := FnV.clo (con_blank1 v.k 2)
  have c3 : FnV Tryz.prog (.sat (cloR 207 [] [.sat (ptrR [.sat (rowR 1 kiC [v.k])])])) [.v (.int .i64 3)] (.v (.bool (!decide (3 = v.k)))) := FnV.clo (con_blank1 v.k 3)
  have c4 : FnV Tryz.prog (.sat (cloR 207 [] [.sat (ptrR [.sat (rowR 1 kiC [v.k])])])) [.v (.int .i64 4)] (.v (.bool (!decide (4 = v.k)))) := FnV.clo (con_blank1 v.k 4)
  have c5 : FnV Tryz.prog (.sat (cloR 207 [] [.sat (ptrR [.sat (rowR 1 kiC [v.k])])])) [.v (.int .i64 5)] (.v (.bool (!decide (5 = v.k)))) := FnV.clo (con_blank1 v.k 5)
  have c6 : FnV Tryz.prog (.sat (cloR 207 [] [.sat (ptrR [.sat (rowR 1 kiC [v.k])])])) [.v (.int .i64 6)] (.v (.bool (!decide (6 = v.k)))) := FnV.clo (con_blank1 v.k 6)
  have cb1 := (con_zBits (h := ZI.raw v.q.1 v.q.2.1)).h (show v.q.2.1.length ≤ 1099511627775 by have := hz.q.2.1; omega)
  have cb2 := (con_zBits (h := ZI.raw v.q.2.2.1 v.q.2.2.2)).h (show v.q.2.2.2.length ≤ 1099511627775 by have := hz.q.2.2; omega)
  have hP := vP0 v
  have f1 := bits0 (b := v.q.1) (l := v.q.2.1)
  have f2 := bits0 (b := v.q.2.2.1) (l := v.q.2.2.2)
  have b1 := hz.q.2.1
  have b2 := hz.q.2.2
  have b3 := hz.al
  have b4 := hz.pol
  have b5 := hz.fal
  have b6 := hz.ril
  have b7 := hz.lil
  have l1 : (v.a.map rq).length = v.a.length := List.length_map _
  have l2 : (v.po.map rz).length = v.po.length := List.length_map _
  refine PureOK.fnF Tryz.func147 Tryz.results147 Tryz.ntmps147 rfl rfl rfl (by simp [AV.ids, AV0.ids, Atom.ids]) rfl (fun w0 T B E0 hB => ?_)
  refine SX.goN ?_
  refine SX.WP.freezeB 3 hB rfl rfl ?_
  refine SX.WP.regionL ?_
  have k0 : v.k = 4 := hk
  have e1 : (!decide ((1 : Int) = v.k)) = true := by rw [k0]; rfl
  have e2 : (!decide ((2 : Int) = v.k)) = true := by rw [k0]; rfl
  have e3 : (!decide ((3 : Int) = v.k)) = true := by rw [k0]; rfl
  have e4 : (!decide ((4 : Int) = v.k)) = false := by rw [k0]; rfl
  have e5 : (!decide ((5 : Int) = v.k)) = true := by rw [k0]; rfl
  have e6 : (!decide ((6 : Int) = v.k)) = true := by rw [k0]; rfl
  rw [e1] at c1; rw [e2] at c2; rw [e3] at c3; rw [e4] at c4; rw [e5] at c5; rw [e6] at c6
  clear e1 e2 e3 e4 e5 e6
  repeat' (first | refine SX.goN ?_ | refine SX.W.ite (fun h => ?_) (fun h => ?_) | refine SX.W.iteN (fun h => ?_) (fun h => ?_) | refine SX.W.iteB (fun h => ?_) (fun h => ?_) | refine SX.R.ite (fun h => ?_) (fun h => ?_) | refine SX.R.iteN (fun h => ?_) (fun h => ?_) | refine SX.R.iteB (fun h => ?_) (fun h => ?_))
  all_goals
    refine retB ?_
    refine Bool.eq_iff_iff.2 (Iff.trans ?_ decide_eq_true_iff.symm)
    rw [hP]
    constructor
    · intro hh
      first
        | (cases hh; done)
        | (try rw [decide_eq_true_iff] at hh
           refine ⟨?_, ?_, ?_, ?_, ?_, ?_, ?_⟩ <;> first | omega | (refine .inr ⟨?_, ?_, ?_, ?_⟩ <;> first | omega | assumption))
    · rintro ⟨h1, h2, h3, h4, h5, h6, h7⟩
      first
        | rfl
        | (rw [decide_eq_true_iff]; omega)
        | (exfalso; first | omega | (rcases h1 with h1 | ⟨g1, g2, g3, g4⟩ <;> first | omega | (clear c1 c2 c3 c4 c5 c6 f1 f2 hP; simp_all; done)))
set_option maxRecDepth 20000 in
set_option maxHeartbeats 2000000 in
theorem con_blank_5 (v : Vl) (hz : vZ0 v) (hk : v.k = 5) : PureOK Tryz.prog 147 [.agg (vlA v), .r (rowR 1 kiC [v.k])] (.v (.bool (decide (vP v = 0)))) := by
  have c1 : FnV Tryz.prog (.sat (cloR 207 [] [.sat (ptrR [.sat (rowR 1 kiC [v.k])])])) [.v (.int .i64 1)] (.v (.bool (!decide (1 = v.k)))) := FnV.clo (con_blank1 v.k 1)
  have c2 : FnV Tryz.prog (.sat (cloR 207 [] [.sat (ptrR [.sat (rowR 1 kiC [v.k])])])) [.v (.int .i64 2)] (.v (.bool (!decide (2 = v.k)))) := FnV.clo (con_blank1 v.k 2)
  have c3 : FnV Tryz.prog (.sat (cloR 207 [] [.sat (ptrR [.sat (rowR 1 kiC [v.k])])])) [.v (.int .i64 3)] (.v (.bool (!decide (3 = v.k)))) := FnV.clo (con_blank1 v.k 3)
  have c4 : FnV Tryz.prog (.sat (cloR 207 [] [.sat (ptrR [.sat (rowR 1 kiC [v.k])])])) [.v (.int .i64 4)] (.v (.bool (!decide (4 = v.k)))) := FnV.clo (con_blank1 v.k 4)
  have c5 : FnV Tryz.prog (.sat (cloR 207 [] [.sat (ptrR [.sat (rowR 1 kiC [v.k])])])) [.v (.int .i64 5)] (.v (.bool (!decide (5 = v.k)))) := FnV.clo (con_blank1 v.k 5)
  have c6 : FnV Tryz.prog (.sat (cloR 207 [] [.sat (ptrR [.sat (rowR 1 kiC [v.k])])])) [.v (.int .i64 6)] (.v (.bool (!decide (6 = v.k)))) := FnV.clo (con_blank1 v.k 6)
  have cb1 := (con_zBits (h := ZI.raw v.q.1 v.q.2.1)).h (show v.q.2.1.length ≤ 1099511627775 by have := hz.q.2.1; omega)
  have cb2 := (con_zBits (h := ZI.raw v.q.2.2.1 v.q.2.2.2)).h (show v.q.2.2.2.length ≤ 1099511627775 by have := hz.q.2.2; omega)
  have hP := vP0 v
  have f1 := bits0 (b := v.q.1) (l := v.q.2.1)
  have f2 := bits0 (b := v.q.2.2.1) (l := v.q.2.2.2)
  have b1 := hz.q.2.1
  have b2 := hz.q.2.2
  have b3 := hz.al
  have b4 := hz.pol
  have b5 := hz.fal
  have b6 := hz.ril
  have b7 := hz.lil
  have l1 : (v.a.map rq).length = v.a.length := List.length_map _
  have l2 : (v.po.map rz).length = v.po.length := List.length_map _
  refine PureOK.fnF Tryz.func147 Tryz.results147 Tryz.ntmps147 rfl rfl rfl (by simp [AV.ids, AV0.ids, Atom.ids]) rfl (fun w0 T B E0 hB => ?_)
  refine SX.goN ?_
  refine SX.WP.freezeB 3 hB rfl rfl ?_
  refine SX.WP.regionL ?_
  have k0 : v.k = 5 := hk
  have e1 : (!decide ((1 : Int) = v.k)) = true := by rw [k0]; rfl
  have e2 : (!decide ((2 : Int) = v.k)) = true := by rw [k0]; rfl
  have e3 : (!decide ((3 : Int) = v.k)) = true := by rw [k0]; rfl
  have e4 : (!decide ((4 : Int) = v.k)) = true := by rw [k0]; rfl
  have e5 : (!decide ((5 : Int) = v.k)) = false := by rw [k0]; rfl
  have e6 : (!decide ((6 : Int) = v.k)) = true := by rw [k0]; rfl
  rw [e1] at c1; rw [e2] at c2; rw [e3] at c3; rw [e4] at c4; rw [e5] at c5; rw [e6] at c6
  clear e1 e2 e3 e4 e5 e6
  repeat' (first | refine SX.goN ?_ | refine SX.W.ite (fun h => ?_) (fun h => ?_) | refine SX.W.iteN (fun h => ?_) (fun h => ?_) | refine SX.W.iteB (fun h => ?_) (fun h => ?_) | refine SX.R.ite (fun h => ?_) (fun h => ?_) | refine SX.R.iteN (fun h => ?_) (fun h => ?_) | refine SX.R.iteB (fun h => ?_) (fun h => ?_))
  all_goals
    refine retB ?_
    refine Bool.eq_iff_iff.2 (Iff.trans ?_ decide_eq_true_iff.symm)
    rw [hP]
    constructor
    · intro hh
      first
        | (cases hh; done)
        | (try rw [decide_eq_true_iff] at hh
           refine ⟨?_, ?_, ?_, ?_, ?_, ?_, ?_⟩ <;> first | omega | (refine .inr ⟨?_, ?_, ?_, ?_⟩ <;> first | omega | assumption))
    · rintro ⟨h1, h2, h3, h4, h5, h6, h7⟩
      first
        | rfl
        | (rw [decide_eq_true_iff]; omega)
        | (exfalso; first | omega | (rcases h1 with h1 | ⟨g1, g2, g3, g4⟩ <;> first | omega | (clear c1 c2 c3 c4 c5 c6 f1 f2 hP; simp_all; done)))
set_option maxRecDepth 20000 in
set_option maxHeartbeats 2000000 in
theorem con_blank_6 (v : Vl) (hz : vZ0 v) (hk : v.k = 6) : PureOK Tryz.prog 147 [.agg (vlA v), .r (rowR 1 kiC [v.k])] (.v (.bool (decide (vP v = 0)))) := by
  have c1 : FnV Tryz.prog (.sat (cloR 207 [] [.sat (ptrR [.sat (rowR 1 kiC [v.k])])])) [.v (.int .i64 1)] (.v (.bool (!decide (1 = v.k)))) := FnV.clo (con_blank1 v.k 1)
  have c2 : FnV Tryz.prog (.sat (cloR 207 [] [.sat (ptrR [.sat (rowR 1 kiC [v.k])])])) [.v (.int .i64 2)] (.v (.bool (!decide (2 = v.k)))) := FnV.clo (con_blank1 v.k 2)
  have c3 : FnV Tryz.prog (.sat (cloR 207 [] [.sat (ptrR [.sat (rowR 1 kiC [v.k])])])) [.v (.int .i64 3)] (.v (.bool (!decide (3 = v.k)))) := FnV.clo (con_blank1 v.k 3)
  have c4 : FnV Tryz.prog (.sat (cloR 207 [] [.sat (ptrR [.sat (rowR 1 kiC [v.k])])])) [.v (.int .i64 4)] (.v (.bool (!decide (4 = v.k)))) := FnV.clo (con_blank1 v.k 4)
  have c5 : FnV Tryz.prog (.sat (cloR 207 [] [.sat (ptrR [.sat (rowR 1 kiC [v.k])])])) [.v (.int .i64 5)] (.v (.bool (!decide (5 = v.k)))) := FnV.clo (con_blank1 v.k 5)
  have c6 : FnV Tryz.prog (.sat (cloR 207 [] [.sat (ptrR [.sat (rowR 1 kiC [v.k])])])) [.v (.int .i64 6)] (.v (.bool (!decide (6 = v.k)))) := FnV.clo (con_blank1 v.k 6)
  have cb1 := (con_zBits (h := ZI.raw v.q.1 v.q.2.1)).h (show v.q.2.1.length ≤ 1099511627775 by have := hz.q.2.1; omega)
  have cb2 := (con_zBits (h := ZI.raw v.q.2.2.1 v.q.2.2.2)).h (show v.q.2.2.2.length ≤ 1099511627775 by have := hz.q.2.2; omega)
  have hP := vP0 v
  have f1 := bits0 (b := v.q.1) (l := v.q.2.1)
  have f2 := bits0 (b := v.q.2.2.1) (l := v.q.2.2.2)
  have b1 := hz.q.2.1
  have b2 := hz.q.2.2
  have b3 := hz.al
  have b4 := hz.pol
  have b5 := hz.fal
  have b6 := hz.ril
  have b7 := hz.lil
  have l1 : (v.a.map rq).length = v.a.length := List.length_map _
  have l2 : (v.po.map rz).length = v.po.length := List.length_map _
  refine PureOK.fnF Tryz.func147 Tryz.results147 Tryz.ntmps147 rfl rfl rfl (by simp [AV.ids, AV0.ids, Atom.ids]) rfl (fun w0 T B E0 hB => ?_)
  refine SX.goN ?_
  refine SX.WP.freezeB 3 hB rfl rfl ?_
  refine SX.WP.regionL ?_
  have k0 : v.k = 6 := hk
  have e1 : (!decide ((1 : Int) = v.k)) = true := by rw [k0]; rfl
  have e2 : (!decide ((2 : Int) = v.k)) = true := by rw [k0]; rfl
  have e3 : (!decide ((3 : Int) = v.k)) = true := by rw [k0]; rfl
  have e4 : (!decide ((4 : Int) = v.k)) = true := by rw [k0]; rfl
  have e5 : (!decide ((5 : Int) = v.k)) = true := by rw [k0]; rfl
  have e6 : (!decide ((6 : Int) = v.k)) = false := by rw [k0]; rfl
  rw [e1] at c1; rw [e2] at c2; rw [e3] at c3; rw [e4] at c4; rw [e5] at c5; rw [e6] at c6
  clear e1 e2 e3 e4 e5 e6
  repeat' (first | refine SX.goN ?_ | refine SX.W.ite (fun h => ?_) (fun h => ?_) | refine SX.W.iteN (fun h => ?_) (fun h => ?_) | refine SX.W.iteB (fun h => ?_) (fun h => ?_) | refine SX.R.ite (fun h => ?_) (fun h => ?_) | refine SX.R.iteN (fun h => ?_) (fun h => ?_) | refine SX.R.iteB (fun h => ?_) (fun h => ?_))
  all_goals
    refine retB ?_
    refine Bool.eq_iff_iff.2 (Iff.trans ?_ decide_eq_true_iff.symm)
    rw [hP]
    constructor
    · intro hh
      first
        | (cases hh; done)
        | (try rw [decide_eq_true_iff] at hh
           refine ⟨?_, ?_, ?_, ?_, ?_, ?_, ?_⟩ <;> first | omega | (refine .inr ⟨?_, ?_, ?_, ?_⟩ <;> first | omega | assumption))
    · rintro ⟨h1, h2, h3, h4, h5, h6, h7⟩
      first
        | rfl
        | (rw [decide_eq_true_iff]; omega)
        | (exfalso; first | omega | (rcases h1 with h1 | ⟨g1, g2, g3, g4⟩ <;> first | omega | (clear c1 c2 c3 c4 c5 c6 f1 f2 hP; simp_all; done)))
set_option maxRecDepth 20000 in
set_option maxHeartbeats 2000000 in
theorem con_blank_7 (v : Vl) (hz : vZ0 v) (hk : v.k ≠ 1 ∧ v.k ≠ 2 ∧ v.k ≠ 3 ∧ v.k ≠ 4 ∧ v.k ≠ 5 ∧ v.k ≠ 6) : PureOK Tryz.prog 147 [.agg (vlA v), .r (rowR 1 kiC [v.k])] (.v (.bool (decide (vP v = 0)))) := by
  have c1 : FnV Tryz.prog (.sat (cloR 207 [] [.sat (ptrR [.sat (rowR 1 kiC [v.k])])])) [.v (.int .i64 1)] (.v (.bool (!decide (1 = v.k)))) := FnV.clo (con_blank1 v.k 1)
  have c2 : FnV Tryz.prog (.sat (cloR 207 [] [.sat (ptrR [.sat (rowR 1 kiC [v.k])])])) [.v (.int .i64 2)] (.v (.bool (!decide (2 = v.k)))) := FnV.clo (con_blank1 v.k 2)
  have c3 : FnV Tryz.prog (.sat (cloR 207 [] [.sat (ptrR [.sat (rowR 1 kiC [v.k])])])) [.v (.int .i64 3)] (.v (.bool (!decide (3 = v.k)))) := FnV.clo (con_blank1 v.k 3)
  have c4 : FnV Tryz.prog (.sat (cloR 207 [] [.sat (ptrR [.sat (rowR 1 kiC [v.k])])])) [.v (.int .i64 4)] (.v (.bool (!decide (4 = v.k)))) := FnV.clo (con_blank1 v.k 4)
  have c5 : FnV Tryz.prog (.sat (cloR 207 [] [.sat (ptrR [.sat (rowR 1 kiC [v.k])])])) [.v (.int .i64 5)] (.v (.bool (!decide (5 = v.k)))) := FnV.clo (con_blank1 v.k 5)
  have c6 : FnV Tryz.prog (.sat (cloR 207 [] [.sat (ptrR [.sat (rowR 1 kiC [v.k])])])) [.v (.int .i64 6)] (.v (.bool (!decide (6 = v.k)))) := FnV.clo (con_blank1 v.k 6)
  have cb1 := (con_zBits (h := ZI.raw v.q.1 v.q.2.1)).h (show v.q.2.1.length ≤ 1099511627775 by have := hz.q.2.1; omega)
  have cb2 := (con_zBits (h := ZI.raw v.q.2.2.1 v.q.2.2.2)).h (show v.q.2.2.2.length ≤ 1099511627775 by have := hz.q.2.2; omega)
  have hP := vP0 v
  have f1 := bits0 (b := v.q.1) (l := v.q.2.1)
  have f2 := bits0 (b := v.q.2.2.1) (l := v.q.2.2.2)
  have b1 := hz.q.2.1
  have b2 := hz.q.2.2
  have b3 := hz.al
  have b4 := hz.pol
  have b5 := hz.fal
  have b6 := hz.ril
  have b7 := hz.lil
  have l1 : (v.a.map rq).length = v.a.length := List.length_map _
  have l2 : (v.po.map rz).length = v.po.length := List.length_map _
  refine PureOK.fnF Tryz.func147 Tryz.results147 Tryz.ntmps147 rfl rfl rfl (by simp [AV.ids, AV0.ids, Atom.ids]) rfl (fun w0 T B E0 hB => ?_)
  refine SX.goN ?_
  refine SX.WP.freezeB 3 hB rfl rfl ?_
  refine SX.WP.regionL ?_
  have k0 := hk
  have e1 : (!decide ((1 : Int) = v.k)) = true := by rw [decide_eq_false (by omega)]; rfl
  have e2 : (!decide ((2 : Int) = v.k)) = true := by rw [decide_eq_false (by omega)]; rfl
  have e3 : (!decide ((3 : Int) = v.k)) = true := by rw [decide_eq_false (by omega)]; rfl
  have e4 : (!decide ((4 : Int) = v.k)) = true := by rw [decide_eq_false (by omega)]; rfl
  have e5 : (!decide ((5 : Int) = v.k)) = true := by rw [decide_eq_false (by omega)]; rfl
  have e6 : (!decide ((6 : Int) = v.k)) = true := by rw [decide_eq_false (by omega)]; rfl
  rw [e1] at c1; rw [e2] at c2; rw [e3] at c3; rw [e4] at c4; rw [e5] at c5; rw [e6] at c6
  clear e1 e2 e3 e4 e5 e6
  repeat' (first | refine SX.goN ?_ | refine SX.W.ite (fun h => ?_) (fun h => ?_) | refine SX.W.iteN (fun h => ?_) (fun h => ?_) | refine SX.W.iteB (fun h => ?_) (fun h => ?_) | refine SX.R.ite (fun h => ?_) (fun h => ?_) | refine SX.R.iteN (fun h => ?_) (fun h => ?_) | refine SX.R.iteB (fun h => ?_) (fun h => ?_))
  all_goals
    refine retB ?_
    refine Bool.eq_iff_iff.2 (Iff.trans ?_ decide_eq_true_iff.symm)
    rw [hP]
    constructor
    · intro hh
      first
        | (cases hh; done)
        | (try rw [decide_eq_true_iff] at hh
           refine ⟨?_, ?_, ?_, ?_, ?_, ?_, ?_⟩ <;> first | omega | (refine .inr ⟨?_, ?_, ?_, ?_⟩ <;> first | omega | assumption))
    · rintro ⟨h1, h2, h3, h4, h5, h6, h7⟩
      first
        | rfl
        | (rw [decide_eq_true_iff]; omega)
        | (exfalso; first | omega | (rcases h1 with h1 | ⟨g1, g2, g3, g4⟩ <;> first | omega | (clear c1 c2 c3 c4 c5 c6 f1 f2 hP; simp_all; done)))
theorem con_blank (v : Vl) (hz : vZ0 v) : PureOK Tryz.prog 147 [.agg (vlA v), .r (rowR 1 kiC [v.k])] (.v (.bool (decide (vP v = 0)))) := by
  have hk : v.k = 1 ∨ v.k = 2 ∨ v.k = 3 ∨ v.k = 4 ∨ v.k = 5 ∨ v.k = 6 ∨ (v.k ≠ 1 ∧ v.k ≠ 2 ∧ v.k ≠ 3 ∧ v.k ≠ 4 ∧ v.k ≠ 5 ∧ v.k ≠ 6) := by omega
  rcases hk with hk | hk | hk | hk | hk | hk | hk
  · exact con_blank_1 v hz hk
  · exact con_blank_2 v hz hk
  · exact con_blank_3 v hz hk
  · exact con_blank_4 v hz hk
  · exact con_blank_5 v hz hk
  · exact con_blank_6 v hz hk
  · exact con_blank_7 v hz hk
end Go.Proofs.YtfhpmbenldgfnaaGreatDoor
set_option linter.unusedVariables false
set_option linter.unusedSimpArgs false
namespace Go.Proofs.YtfhpmbenldgfnaaGreatDoor
open Go.RowKit QM SX LA
def PrP (p : Nat) : Prop := 2 ≤ p ∧ p < 2147483648 ∧ ∀ d, d < p → 2 ≤ d ∧ d * d ≤ p → p % d ≠ 0
instance (p : Nat) : Decidable (PrP p) := by unfold PrP; infer_instance
theorem tmod_nat (a b : Nat) : (a : Int).tmod (b : Int) = ((a % b : Nat) : Int) := rfl
theorem tdiv_nat (a b : Nat) : (a : Int).tdiv (b : Int) = ((a / b : Nat) : Int) := rfl
theorem wrapN {n : Nat} (h : n < 18446744073709551616) : IntKind.u64.wrap (n : Int) = (n : Int) := wrapU64 (by omega) (by omega)
theorem PrP.intro {p d : Nat} (h1 : 2 ≤ p) (h2 : p < 2147483648) (h3 : p < d * d) (h : ∀ e, 2 ≤ e → e < d → p % e ≠ 0) : PrP p := ⟨h1, h2, fun e _ he => h e he.1 (by
  rcases Nat.lt_or_ge e d with h' | h'
  · exact h'
  · have := Nat.mul_le_mul h' h'; omega)⟩
theorem PrP.not {p d : Nat} (h1 : 2 ≤ d) (h2 : d * d ≤ p) (h3 : p % d = 0) : ¬ PrP p := fun h => h.2.2 d (by
  have := Nat.mul_le_mul h1 (Nat.le_refl d); omega) ⟨h1, h2⟩ h3
attribute [local irreducible] IntKind.wrap Go1 Reg WP thenK inBlk retQ retF RetF RetOK ResOK CallOK OpOK Sat
attribute [local irreducible] qsub qmul qquo qcmp qadd qv redS mf PrP
theorem con_PrimeR (p : Nat) (hp : p < 18446744073709551616) : PureOK Tryz.prog 116 [.v (.int .u64 (p : Int))] (.v (.bool (decide (PrP p)))) := by
  refine PureOK.fnF Tryz.func116 Tryz.results116 Tryz.ntmps116 rfl rfl rfl (by simp [AV.ids, AV0.ids, Atom.ids]) rfl (fun w0 T B E0 hB => ?_)
  by_cases h1 : p < 2
  · have h1' : (p : Int) < 2 := by omega
    refine SX.goN ?_
    refine retB ?_; exact (decide_eq_false fun h => by unfold PrP at h; omega).symm
  by_cases h2 : 2147483648 ≤ p
  · have h2' : (p : Int) ≥ 2147483648 := by omega
    refine SX.goN ?_
    refine retB ?_; exact (decide_eq_false fun h => by unfold PrP at h; omega).symm
  refine SX.goN ?_
  refine W.loop (fun d => 2 ≤ d ∧ d ≤ 50000 ∧ ∀ e, 2 ≤ e → e < d → p % e ≠ 0) (fun d => [(0, .v (.int .u64 (p : Int))), (3, .v (.int .u64 (d : Int)))]) (fun _ => []) (fun d => 50001 - d) 2 ⟨by omega, by omega, fun e h h' => by omega⟩ (fun d ⟨hd, hd2, he⟩ => ?_)
  have hq : IntKind.u64.wrap ((p : Int).tdiv (d : Int)) = ((p / d : Nat) : Int) := by rw [tdiv_nat]; exact wrapN (Nat.lt_of_le_of_lt (Nat.div_le_self p d) hp)
  have hr : IntKind.u64.wrap ((p : Int).tmod (d : Int)) = ((p % d : Nat) : Int) := by rw [tmod_nat]; exact wrapN (Nat.lt_of_le_of_lt (Nat.mod_le p d) hp)
  have hdz : (d : Int) ≠ 0 := by omega
  by_cases h : d ≤ p / d
  · have hdd : d * d ≤ p := (Nat.le_div_iff_mul_le (by omega)).1 h
    by_cases h3 : p % d = 0
    · refine SX.goN ?_
      refine retB ?_; exact (decide_eq_false (PrP.not hd hdd h3)).symm
    · have hd3 : d ≤ 46340 := by
        rcases Nat.lt_or_ge 46340 d with h4 | h4
        · have := Nat.mul_le_mul h4 h4; omega
        · exact h4
      refine SX.goN ?_
      refine W.next (d + 1) ⟨by omega, by omega, fun e h h' => ?_⟩ (by omega)
      by_cases h5 : e < d
      · exact he e h h5
      · obtain rfl : e = d := by omega
        exact h3
  · have hdd : p < d * d := by
      rcases Nat.lt_or_ge p (d * d) with h4 | h4
      · exact h4
      · exact absurd ((Nat.le_div_iff_mul_le (by omega)).2 h4) h
    refine SX.goN ?_
    refine retB ?_; exact (decide_eq_true (PrP.intro (by omega) (by omega) hdd he)).symm
theorem con_PrimeM (p : Nat) (hp : p < 18446744073709551616) : PureOK Tryz.prog 159 [.v (.int .u64 (p : Int))] (.v (.bool (decide (PrP p)))) := by
  have hr2 : IntKind.u64.wrap ((p : Int).tmod 2) = ((p % 2 : Nat) : Int) := by rw [show (2 : Int) = ((2 : Nat) : Int) from rfl, tmod_nat]; exact wrapN (Nat.lt_of_le_of_lt (Nat.mod_le p 2) hp)
  refine PureOK.fnF Tryz.func159 Tryz.results159 Tryz.ntmps159 rfl rfl rfl (by simp [AV.ids, AV0.ids, Atom.ids]) rfl (fun w0 T B E0 hB => ?_)
  by_cases h1 : p < 2
  · have h1' : (p : Int) < 2 := by omega
    refine SX.goN ?_
    refine retB ?_; rw [Bool.eq_iff_iff, decide_eq_true_iff]; refine Iff.trans ?_ decide_eq_true_iff.symm
    exact ⟨fun h => by omega, fun h => by unfold PrP at h; omega⟩
  by_cases h2 : 2147483648 ≤ p
  · have h2' : (p : Int) ≥ 2147483648 := by omega
    refine SX.goN ?_
    refine retB ?_; rw [Bool.eq_iff_iff, decide_eq_true_iff]; refine Iff.trans ?_ decide_eq_true_iff.symm
    exact ⟨fun h => by omega, fun h => by unfold PrP at h; omega⟩
  by_cases h3 : p % 2 = 0
  · refine SX.goN ?_
    refine retB ?_; rw [Bool.eq_iff_iff, decide_eq_true_iff]; refine Iff.trans ?_ decide_eq_true_iff.symm
    constructor
    · intro h
      obtain rfl : p = 2 := by omega
      exact PrP.intro (d := 2) (by decide) (by decide) (by decide) (fun e h h' => by omega)
    · intro h
      rcases Nat.lt_or_ge p 4 with h4 | h4
      · omega
      · exact absurd h (PrP.not (d := 2) (by decide) (by omega) h3)
  refine SX.goN ?_
  refine W.loop (fun d => 3 ≤ d ∧ d ≤ 50000 ∧ d % 2 = 1 ∧ ∀ e, 2 ≤ e → e < d → p % e ≠ 0) (fun d => [(0, .v (.int .u64 (p : Int))), (3, .v (.int .u64 (d : Int)))]) (fun _ => []) (fun d => 50001 - d) 3 ⟨by omega, by omega, by omega, fun e h h' => (show e = 2 by omega) ▸ h3⟩ (fun d ⟨hd, hd2, hodd, he⟩ => ?_)
  have hmm : d * d ≤ 50000 * 50000 := Nat.mul_le_mul hd2 hd2
  have hq : IntKind.u64.wrap ((d : Int) * (d : Int)) = ((d * d : Nat) : Int) := by rw [← Int.natCast_mul]; exact wrapN (by omega)
  have hr : IntKind.u64.wrap ((p : Int).tmod (d : Int)) = ((p % d : Nat) : Int) := by rw [tmod_nat]; exact wrapN (Nat.lt_of_le_of_lt (Nat.mod_le p d) hp)
  have hdz : (d : Int) ≠ 0 := by omega
  by_cases h : d * d ≤ p
  · by_cases h5 : p % d = 0
    · refine SX.goN ?_
      refine retB ?_; exact (decide_eq_false (PrP.not (by omega) h h5)).symm
    · have hd3 : d ≤ 46340 := by
        rcases Nat.lt_or_ge 46340 d with h4 | h4
        · have := Nat.mul_le_mul h4 h4; omega
        · exact h4
      refine SX.goN ?_
      refine W.next (d + 2) ⟨by omega, by omega, by omega, fun e h h' => ?_⟩ (by omega)
      by_cases h6 : e < d
      · exact he e h h6
      · by_cases h7 : e = d
        · subst h7; exact h5
        · obtain rfl : e = d + 1 := by omega
          intro h8
          have h9 : (d + 1) % 2 = 0 := by omega
          have : p % 2 = 0 := Nat.mod_eq_zero_of_dvd (Nat.dvd_trans (Nat.dvd_of_mod_eq_zero h9) (Nat.dvd_of_mod_eq_zero h8))
          exact h3 this
  · refine SX.goN ?_
    refine retB ?_; exact (decide_eq_true (PrP.intro (by omega) (by omega) (by omega) he)).symm
end Go.Proofs.YtfhpmbenldgfnaaGreatDoor
set_option linter.unusedVariables false
set_option linter.unusedSimpArgs false
namespace Go.Proofs.YtfhpmbenldgfnaaGreatDoor
open Go.RowKit QM SX LA
abbrev vlK (v : Vl) : List CA := [.val (.int .i64 v.k), .val (.bool v.q.1), .sat (rawN v.q.2.1), .val (.bool v.q.2.2.1), .sat (rawN v.q.2.2.2), .val (.int .i64 v.r), .val (.int .i64 v.c), .sat (rowR 4 q4C (v.a.map rq)), .sat (rowR 2 z2C (v.po.map rz)), .val (.int .u64 (v.p : Int)), .val (.int .i64 v.fr), .val (.int .i64 v.fc), .sat (rowR 1 wdC v.fa), .sat (rowR 1 wdC v.ri), .sat (rowR 15 vlC v.li)]
def fp64 (r c : Int) (n : Nat) : Bool := decide (0 ≤ r ∧ r ≤ 64 ∧ 0 ≤ c ∧ c ≤ 64 ∧ (n : Int) = r * c)
def mOk (r c : Int) (a : List RawQ) : Bool := a.all qOk && fp64 r c a.length
def lz (po : List RawZ) : Bool := decide (po.length = 0) || decide (rzv (po.getD (po.length - 1) (false, [])) ≠ 0)
def pOk (po : List RawZ) : Bool := po.all zOk && lz po
def ltp (p x : Nat) : Bool := decide (x < p)
def fOk (r c : Int) (fa : List Nat) (p : Nat) : Bool := fa.all (ltp p) && fp64 r c fa.length
def lw (ri : List Nat) : Bool := decide (ri.length = 0) || decide (ri.getD (ri.length - 1) 0 ≠ 0)
def rOk (p : Nat) (ri : List Nat) : Bool := ri.all (ltp p) && lw ri
def vK (rec : Vl → Bool) (pos : Bool) (v : Vl) : Bool := decide (vP v = 0) && (if v.k = 1 then qOk v.q else if v.k = 2 then mOk v.r v.c v.a else if v.k = 3 then pOk v.po else if v.k = 4 then decide (PrP v.p) && fOk v.fr v.fc v.fa v.p else if v.k = 5 then decide (PrP v.p) && rOk v.p v.ri else if v.k = 6 then pos && v.li.all rec else false)
def vF : Nat → Vl → Bool
  | 0, v => vK (fun _ => false) false v
  | d + 1, v => vK (vF d) true v
def vZ : Nat → Vl → Prop
  | 0, v => vZ0 v ∧ v.li = []
  | n + 1, v => vZ0 v ∧ ∀ x ∈ v.li, vZ n x
theorem vZ.z {n : Nat} {v : Vl} (h : vZ n v) : vZ0 v := by cases n <;> exact h.1
theorem vF_P {d : Nat} {v : Vl} (h : vP v ≠ 0) : vF d v = false := by
  cases d <;> (unfold vF vK; rw [decide_eq_false h]; rfl)
theorem vF_1 {d : Nat} {v : Vl} (h : vP v = 0) (hk : v.k = 1) : vF d v = qOk v.q := by
  cases d <;> (unfold vF vK; rw [decide_eq_true h, if_pos hk]; rfl)
theorem vF_2 {d : Nat} {v : Vl} (h : vP v = 0) (hk : v.k = 2) : vF d v = mOk v.r v.c v.a := by
  cases d <;> (unfold vF vK; rw [decide_eq_true h, if_neg (by omega), if_pos hk]; rfl)
theorem vF_3 {d : Nat} {v : Vl} (h : vP v = 0) (hk : v.k = 3) : vF d v = pOk v.po := by
  cases d <;> (unfold vF vK; rw [decide_eq_true h, if_neg (by omega), if_neg (by omega), if_pos hk]; rfl)
theorem vF_4 {d : Nat} {v : Vl} (h : vP v = 0) (hk : v.k = 4) : vF d v = (decide (PrP v.p) && fOk v.fr v.fc v.fa v.p) := by
  cases d <;> (unfold vF vK; rw [decide_eq_true h, if_neg (by omega), if_neg (by omega), if_neg (by omega), if_pos hk]; rfl)
theorem vF_5 {d : Nat} {v : Vl} (h : vP v = 0) (hk : v.k = 5) : vF d v = (decide (PrP v.p) && rOk v.p v.ri) := by
  cases d <;> (unfold vF vK; rw [decide_eq_true h, if_neg (by omega), if_neg (by omega), if_neg (by omega), if_neg (by omega), if_pos hk]; rfl)
theorem vF_60 {v : Vl} (hk : v.k = 6) : vF 0 v = false := by
  unfold vF vK; rw [if_neg (by omega), if_neg (by omega), if_neg (by omega), if_neg (by omega), if_neg (by omega), if_pos hk]; cases decide (vP v = 0) <;> rfl
theorem vF_6 {d : Nat} {v : Vl} (h : vP v = 0) (hk : v.k = 6) : vF (d + 1) v = v.li.all (vF d) := by
  unfold vF vK; rw [decide_eq_true h, if_neg (by omega), if_neg (by omega), if_neg (by omega), if_neg (by omega), if_neg (by omega), if_pos hk]; rfl
theorem vF_7 {d : Nat} {v : Vl} (hk : v.k ≠ 1 ∧ v.k ≠ 2 ∧ v.k ≠ 3 ∧ v.k ≠ 4 ∧ v.k ≠ 5 ∧ v.k ≠ 6) : vF d v = false := by
  cases d <;> (unfold vF vK; rw [if_neg (by omega), if_neg (by omega), if_neg (by omega), if_neg (by omega), if_neg (by omega), if_neg (by omega)]; cases decide (vP v = 0) <;> rfl)
theorem any_not {α : Type} (l : List α) (p : α → Bool) : (!l.any fun x => !p x) = l.all p := by
  induction l with
  | nil => rfl
  | cons a l ih => rw [List.any_cons, List.all_cons, ← ih]; cases p a <;> simp
theorem all_no {α : Type} {l : List α} {p : α → Bool} {k : Nat} {x : α} (hx : l[k]? = some x) (h : p x = false) : l.all p = false := by
  rw [Bool.eq_false_iff]; intro h2
  have := List.all_eq_true.1 h2 x (List.mem_of_getElem? hx)
  rw [h] at this; cases this
theorem all_yes {α : Type} {l : List α} {p : α → Bool} (h : ∀ (j : Nat) x, j < l.length → l[j]? = some x → p x = true) : l.all p = true := by
  rw [List.all_eq_true]; intro x hx
  obtain ⟨i, hi⟩ := List.mem_iff_getElem?.1 hx
  exact h i x (at_lt hi) hi
attribute [local irreducible] IntKind.wrap Go1 Reg WP thenK inBlk retQ retF RetF RetOK ResOK CallOK OpOK Sat
attribute [local irreducible] qsub qmul qquo qcmp qadd qv redS mf PrP qOk zOk vP fp64
theorem con_below1 (v : Vl) (x : Nat) : PureOK Tryz.prog 213 [.v (.int .u64 (x : Int)), .r (ptrR (vlK v))] (.v (.bool (!ltp v.p x))) := by
  refine PureOK.fnF Tryz.func213 Tryz.results213 Tryz.ntmps213 rfl rfl rfl (by simp [AV.ids, AV0.ids, Atom.ids]) rfl (fun w0 T B E0 hB => ?_)
  refine SX.goN ?_
  refine retB ?_
  unfold ltp
  rw [← decide_not, decide_eq_decide]; omega
theorem con_below (v : Vl) (l : List Nat) (hp : v.p < WB) (hl : l.length ≤ 100000) : PureOK Tryz.prog 155 [.agg (vlA v), .r (rowR 1 wdC l)] (.v (.bool (decide (PrP v.p) && l.all (ltp v.p)))) := by
  have cP := con_PrimeM v.p (by rw [WB_eq] at hp; exact hp)
  have cA := con_AnyW l (.sat (cloR 213 [] [.sat (ptrR (vlK v))])) (fun x => !ltp v.p x) (fun x _ => FnV.clo (con_below1 v x)) hl rfl
  rw [← any_not]
  refine PureOK.fnF Tryz.func155 Tryz.results155 Tryz.ntmps155 rfl rfl rfl (by simp [AV.ids, AV0.ids, Atom.ids]) rfl (fun w0 T B E0 hB => ?_)
  refine SX.goN ?_
  refine SX.WP.freezeB 2 hB rfl rfl ?_
  refine SX.WP.regionL ?_
  by_cases h : PrP v.p
  · rw [decide_eq_true h] at cP ⊢
    refine SX.goN ?_
    exact retB rfl
  · rw [decide_eq_false h] at cP ⊢
    refine SX.goN ?_
    exact retB rfl
theorem con_Formed21 (r c : Int) {n : Nat} {cells : List CA} : PureOK Tryz.prog 190 [.agg [.c (.val (.int .i64 r)), .c (.val (.int .i64 c)), .c (.sat (sliceR 1 n cells))]] (.v (.bool (fp64 r c n))) := by
  unfold fp64
  refine PureOK.fnF Tryz.func190 Tryz.results190 Tryz.ntmps190 rfl rfl rfl (by simp [AV.ids, AV0.ids, Atom.ids]) rfl (fun w0 T B E0 hB => ?_)
  by_cases h1 : r ≥ 0
  · by_cases h2 : r ≤ 64
    · by_cases h3 : c ≥ 0
      · by_cases h4 : c ≤ 64
        · have hp : 0 ≤ r * c := Int.mul_nonneg h1 h3
          have hp2 : r * c ≤ 64 * 64 := Int.mul_le_mul h2 h4 h3 (by decide)
          refine SX.goN ?_
          refine retB ?_
          rw [decide_eq_decide]
          exact ⟨fun h => ⟨h1, h2, h3, h4, h⟩, fun h => h.2.2.2.2⟩
        · refine SX.goN ?_
          refine retB ?_; exact (decide_eq_false fun h => h4 h.2.2.2.1).symm
      · refine SX.goN ?_
        refine retB ?_; exact (decide_eq_false fun h => h3 h.2.2.1).symm
    · refine SX.goN ?_
      refine retB ?_; exact (decide_eq_false fun h => h2 h.2.1).symm
  · refine SX.goN ?_
    refine retB ?_; exact (decide_eq_false fun h => h1 h.1).symm
theorem con_side (n : Int) : PureOK Tryz.prog 211 [.v (.int .i64 n)] (.v (.bool (decide (0 ≤ n ∧ n ≤ 64)))) := by
  refine PureOK.fnF Tryz.func211 Tryz.results211 Tryz.ntmps211 rfl rfl rfl (by simp [AV.ids, AV0.ids, Atom.ids]) rfl (fun w0 T B E0 hB => ?_)
  by_cases h : n ≥ 0
  · refine SX.goN ?_
    refine retB ?_; rw [decide_eq_decide]; omega
  · refine SX.goN ?_
    refine retB ?_; exact (decide_eq_false fun h' => h h'.1).symm
theorem con_fFormed (r c : Int) {n : Nat} {cells : List CA} : PureOK Tryz.prog 154 [.agg [.c (.val (.int .i64 r)), .c (.val (.int .i64 c)), .c (.sat (sliceR 1 n cells))]] (.v (.bool (fp64 r c n))) := by
  unfold fp64
  have s1 := con_side r
  have s2 := con_side c
  refine PureOK.fnF Tryz.func154 Tryz.results154 Tryz.ntmps154 rfl rfl rfl (by simp [AV.ids, AV0.ids, Atom.ids]) rfl (fun w0 T B E0 hB => ?_)
  by_cases h1 : 0 ≤ r ∧ r ≤ 64
  · rw [decide_eq_true h1] at s1
    by_cases h2 : 0 ≤ c ∧ c ≤ 64
    · rw [decide_eq_true h2] at s2
      have hp : 0 ≤ r * c := Int.mul_nonneg h1.1 h2.1
      have hp2 : r * c ≤ 64 * 64 := Int.mul_le_mul h1.2 h2.2 h2.1 (by decide)
      refine SX.goN ?_
      refine retB ?_
      rw [decide_eq_decide]
      exact ⟨fun h => ⟨h1.1, h1.2, h2.1, h2.2, h⟩, fun h => h.2.2.2.2⟩
    · rw [decide_eq_false h2] at s2
      refine SX.goN ?_
      refine retB ?_; exact (decide_eq_false fun h => h2 ⟨h.2.2.1, h.2.2.2.1⟩).symm
  · rw [decide_eq_false h1] at s1
    refine SX.goN ?_
    refine retB ?_; exact (decide_eq_false fun h => h1 ⟨h.1, h.2.1⟩).symm
theorem con_Normal13 (r c : Int) (a : List RawQ) (hl : a.length ≤ 100000) (ha : ∀ x ∈ a, (Sm WB x.2.1 ∧ Sm WB x.2.2.2) ∧ x.2.1.length ≤ 100000 ∧ x.2.2.2.length ≤ 100000) : PureOK Tryz.prog 114 [.agg (matZ r c (a.map rq))] (.v (.bool (mOk r c a))) := by
  have hlen : (a.map rq).length = a.length := List.length_map _
  have cF : PureOK Tryz.prog 37 [.agg (matZ r c (a.map rq))] (.v (.bool (fp64 r c (a.map rq).length))) := by
    unfold fp64; exact con_rFormed r c
  unfold mOk
  refine PureOK.fnF Tryz.func114 Tryz.results114 Tryz.ntmps114 rfl rfl rfl (by simp [AV.ids, AV0.ids, Atom.ids]) rfl (fun w0 T B E0 hB => ?_)
  refine SX.goN ?_
  refine W.loop (fun k => k ≤ a.length ∧ ∀ (j : Nat) x, j < k → a[j]? = some x → qOk x = true) (fun k => [(1, .ptr 1 0), (3, .v (.int .i64 (k : Int)))]) (fun k => [(1, .box 30 (matZ r c (a.map rq)))]) (fun k => a.length - k) 0 ⟨Nat.zero_le _, fun j x h => by omega⟩ (fun k ⟨hk, he⟩ => ?_)
  by_cases h : k < a.length
  · have h' : k < (a.map rq).length := by omega
    obtain ⟨x, hx⟩ : ∃ x, a[k]? = some x := ⟨_, List.getElem?_eq_getElem h⟩
    have hq : (a.map rq)[k]? = some (rq x) := by rw [List.getElem?_map, hx]; rfl
    have hax := ha x (List.mem_of_getElem? hx)
    have cN := con_Nrm x hax.1 (by omega)
    cases ho : qOk x with
    | true =>
      rw [ho] at cN
      refine SX.goN ?_
      refine W.next (k + 1) ⟨h, fun j y hj hy => ?_⟩ (by omega)
      by_cases hjk : j < k
      · exact he j y hjk hy
      · obtain rfl : j = k := by omega
        rw [hx] at hy; rw [← Option.some.inj hy]; exact ho
    | false =>
      rw [ho] at cN
      refine SX.goN ?_
      refine retB ?_; rw [all_no hx ho]; rfl
  · obtain rfl : k = a.length := by omega
    have h' : ¬ a.length < (a.map rq).length := by omega
    rw [all_yes he, ← hlen]
    refine SX.goN ?_
    exact retB (Bool.true_and _).symm
theorem con_Normal21 (r c : Int) (l : List Nat) (p : Nat) (hl : l.length ≤ 100000) : PureOK Tryz.prog 117 [.agg [.c (.val (.int .i64 r)), .c (.val (.int .i64 c)), .c (.sat (rowR 1 wdC l))], .v (.int .u64 (p : Int))] (.v (.bool (fOk r c l p))) := by
  have cF : PureOK Tryz.prog 190 [.agg [.c (.val (.int .i64 r)), .c (.val (.int .i64 c)), .c (.sat (rowR 1 wdC l))]] (.v (.bool (fp64 r c l.length))) := con_Formed21 r c
  unfold fOk
  refine PureOK.fnF Tryz.func117 Tryz.results117 Tryz.ntmps117 rfl rfl rfl (by simp [AV.ids, AV0.ids, Atom.ids]) rfl (fun w0 T B E0 hB => ?_)
  refine SX.goN ?_
  refine W.loop (fun k => k ≤ l.length ∧ ∀ (j : Nat) x, j < k → l[j]? = some x → ltp p x = true) (fun k => [(1, .v (.int .u64 (p : Int))), (2, .ptr 2 0), (5, .v (.int .i64 (k : Int)))]) (fun k => [(2, .box 35 [.c (.val (.int .i64 r)), .c (.val (.int .i64 c)), .c (.sat (rowR 1 wdC l))])]) (fun k => l.length - k) 0 ⟨Nat.zero_le _, fun j x h => by omega⟩ (fun k ⟨hk, he⟩ => ?_)
  by_cases h : k < l.length
  · obtain ⟨x, hx⟩ : ∃ x, l[k]? = some x := ⟨_, List.getElem?_eq_getElem h⟩
    by_cases ho : x < p
    · refine SX.goN ?_
      refine W.next (k + 1) ⟨h, fun j y hj hy => ?_⟩ (by omega)
      by_cases hjk : j < k
      · exact he j y hjk hy
      · obtain rfl : j = k := by omega
        rw [hx] at hy; rw [← Option.some.inj hy]; exact decide_eq_true ho
    · refine SX.goN ?_
      refine retB ?_; rw [all_no hx (decide_eq_false ho)]; rfl
  · obtain rfl : k = l.length := by omega
    rw [all_yes he]
    refine SX.goN ?_
    exact retB (Bool.true_and _).symm
theorem con_Normal10 (l : List RawZ) (hl : l.length ≤ 100000) (ha : ∀ x ∈ l, Sm WB x.2 ∧ x.2.length ≤ 100000) : PureOK Tryz.prog 115 [.r (rowR 2 z2C (l.map rz))] (.v (.bool (pOk l))) := by
  have hlen : (l.map rz).length = l.length := List.length_map _
  unfold pOk
  refine PureOK.fnF Tryz.func115 Tryz.results115 Tryz.ntmps115 rfl rfl rfl (by simp [AV.ids, AV0.ids, Atom.ids]) rfl (fun w0 T B E0 hB => ?_)
  refine SX.goN ?_
  refine W.loop (fun k => k ≤ l.length ∧ ∀ (j : Nat) x, j < k → l[j]? = some x → zOk x = true) (fun k => [(0, .r (rowR 2 z2C (l.map rz))), (3, .v (.int .i64 (k : Int)))]) (fun k => []) (fun k => l.length - k) 0 ⟨Nat.zero_le _, fun j x h => by omega⟩ (fun k ⟨hk, he⟩ => ?_)
  by_cases h : k < l.length
  · have h' : k < (l.map rz).length := by omega
    obtain ⟨x, hx⟩ : ∃ x, l[k]? = some x := ⟨_, List.getElem?_eq_getElem h⟩
    have hq : (l.map rz)[k]? = some (rz x) := by rw [List.getElem?_map, hx]; rfl
    have hax := ha x (List.mem_of_getElem? hx)
    have ho : zOk x = if x.2.length = 0 then !x.1 else decide (x.2.getD (x.2.length - 1) 0 ≠ 0) := by unfold zOk; rfl
    have nx : zOk x = true → ∀ (j : Nat) y, j < k + 1 → l[j]? = some y → zOk y = true := fun ht j y hj hy => by
      by_cases hjk : j < k
      · exact he j y hjk hy
      · obtain rfl : j = k := by omega
        rw [hx] at hy; rw [← Option.some.inj hy]; exact ht
    by_cases h0 : x.2.length = 0
    · rw [if_pos h0] at ho
      cases h1 : x.1
      · rw [h1] at ho
        refine SX.goN ?_
        exact W.next (k + 1) ⟨h, nx ho⟩ (by omega)
      · rw [h1] at ho
        refine SX.goN ?_
        refine retB ?_; rw [all_no hx ho]; rfl
    · rw [if_neg h0] at ho
      obtain ⟨w, hw⟩ : ∃ w, x.2[x.2.length - 1]? = some w := ⟨_, List.getElem?_eq_getElem (by omega)⟩
      have hg : x.2.getD (x.2.length - 1) 0 = w := by rw [List.getD_eq_getElem?_getD, hw]; rfl
      rw [hg] at ho
      by_cases h1 : w = 0
      · rw [decide_eq_false (fun e => e h1)] at ho
        refine SX.goN ?_
        refine retB ?_; rw [all_no hx ho]; rfl
      · rw [decide_eq_true h1] at ho
        refine SX.goN ?_
        exact W.next (k + 1) ⟨h, nx ho⟩ (by omega)
  · obtain rfl : k = l.length := by omega
    have h' : ¬ l.length < (l.map rz).length := by omega
    rw [all_yes he]
    unfold lz
    by_cases h0 : l.length = 0
    · refine SX.goN ?_
      refine retB ?_; rw [decide_eq_true h0]; rfl
    · obtain ⟨x, hx⟩ : ∃ x, l[l.length - 1]? = some x := ⟨_, List.getElem?_eq_getElem (by omega)⟩
      have hq : (l.map rz)[(l.map rz).length - 1]? = some (rz x) := by rw [hlen, List.getElem?_map, hx]; rfl
      have hg : l.getD (l.length - 1) (false, []) = x := by rw [List.getD_eq_getElem?_getD, hx]; rfl
      have hax := ha x (List.mem_of_getElem? hx)
      have cS := (con_zSign (h := ZI.raw x.1 x.2)).h (show x.2.length ≤ 1099511627775 by omega)
      have hs0 : isign (rzv x) = 0 ↔ rzv x = 0 := by unfold isign; (repeat' split) <;> omega
      change PureOK _ _ _ (.v (.int .i64 (isign (rzv x)))) at cS
      rw [hg]
      refine SX.goN ?_
      refine retB ?_; rw [decide_eq_false h0, Bool.true_and, Bool.false_or, decide_eq_decide, Ne, Ne, hs0]
end Go.Proofs.YtfhpmbenldgfnaaGreatDoor

import Derived.Test.YtaocklkbijkhpaaH6
/- Package parser in the symbolic run: what binds most; items. -/
set_option linter.unusedVariables false
set_option linter.unusedSimpArgs false
namespace Go.Proofs.Ytaocklkbijkhpaa
open Go.RowKit SX
attribute [local irreducible] IntKind.wrap Go1 Reg WP thenK inBlk retQ retF RetF RetOK ResOK CallOK OpOK Sat
theorem g_par {l : List Tok} {m : Nat} {X : Gr} (hl : l.length ≤ 1000000) (hs : GOK 50 l m X) {a o : Nat} (hm : m ≤ a) (ha : a ≤ l.length) (ho : o ≤ 600) : CR rNd 101 [.ptr 81 0] [(81, PP)] l a o (thenS l (X a o) o [41]) := by
  have h3 := hs a o hm ha ho
  cases hr2 : X a o with
  | bad e p n2 a2 o2 =>
    rw [hr2] at h3
    have c3 := h3.bad
    have c4 := c_mustE l a2 o2 e p [41]
    show CallOK _ _ _ _ _
    refine CallOK.fnF Try.func101 Try.results101 Try.ntmps101 rfl rfl rfl rfl (fun w0 T B E0 hB => ?_)
    refine SX.goP ?_
    exact retNd (ResOK.agg3 rfl rfl rfl) (AV0.imp.refl _) ⟨rfl, rfl, trivial⟩
  | ok n2 a2 =>
    rw [hr2] at h3
    have c3 := h3.ok
    unfold thenS
    dsimp only
    cases ht : isS l a2 [41] with
    | true =>
      have c4 := c_mustT o hl ht
      rw [if_pos rfl]
      show CallOK _ _ _ _ _
      refine CallOK.fnF Try.func101 Try.results101 Try.ntmps101 rfl rfl rfl rfl (fun w0 T B E0 hB => ?_)
      refine SX.goP ?_
      exact retNd (ResOK.agg3 rfl rfl rfl) (AV0.imp.refl _) ⟨rfl, rfl, trivial⟩
    | false =>
      have c4 := c_mustF o ht
      rw [if_neg (by decide)]
      show CallOK _ _ _ _ _
      refine CallOK.fnF Try.func101 Try.results101 Try.ntmps101 rfl rfl rfl rfl (fun w0 T B E0 hB => ?_)
      refine SX.goP ?_
      exact retNd (ResOK.agg3 rfl rfl rfl) (AV0.imp.refl _) ⟨rfl, rfl, trivial⟩
theorem g_call {l : List Tok} {m : Nat} {X : Gr} {t : Tok} (hl : l.length ≤ 1000000) (hs : GOK 50 l m X) (hA : Adv 1 l m X) {a o : Nat} (hm : m ≤ a) (ha : a ≤ l.length) (ho : o ≤ 600) : CR rNd 99 [.ptr 82 0, .ptr 81 0] [(81, PP), (82, KB t)] l a o (mapR (fun n => .mk 13 t.text n.kids) (listE l X [41] a o)) := by
  have h3 := g_list (e := [41]) hl hs hA hm ha ho
  cases hr2 : listE l X [41] a o with
  | bad e p n2 a2 o2 =>
    rw [hr2] at h3
    have c3 := h3.bad
    show CallOK _ _ _ _ _
    refine CallOK.fnF Try.func99 Try.results99 Try.ntmps99 rfl rfl rfl rfl (fun w0 T B E0 hB => ?_)
    refine SX.goP ?_
    exact retNd (ResOK.agg3 rfl rfl rfl) (AV0.imp.refl _) ⟨rfl, rfl, rfl, trivial⟩
  | ok n2 a2 =>
    rw [hr2] at h3
    have c3 := h3.ok
    show CallOK _ _ _ _ _
    refine CallOK.fnF Try.func99 Try.results99 Try.ntmps99 rfl rfl rfl rfl (fun w0 T B E0 hB => ?_)
    refine SX.goP ?_
    exact retNd (ResOK.agg3 rfl rfl rfl) (AV0.imp.refl _) ⟨rfl, rfl, rfl, trivial⟩
theorem g_set {l : List Tok} {m : Nat} {X : Gr} (hl : l.length ≤ 1000000) (hs : GOK 50 l m X) (hA : Adv 1 l m X) {a o : Nat} (hm : m ≤ a) (ha : a ≤ l.length) (ho : o ≤ 600) : CR rNd 103 [.ptr 81 0] [(81, PP)] l a o (mapR (fun n => .mk 16 [] n.kids) (listE l X [125] a o)) := by
  have h3 := g_list (e := [125]) hl hs hA hm ha ho
  cases hr2 : listE l X [125] a o with
  | bad e p n2 a2 o2 =>
    rw [hr2] at h3
    have c3 := h3.bad
    show CallOK _ _ _ _ _
    refine CallOK.fnF Try.func103 Try.results103 Try.ntmps103 rfl rfl rfl rfl (fun w0 T B E0 hB => ?_)
    refine SX.goP ?_
    exact retNd (ResOK.agg3 rfl rfl rfl) (AV0.imp.refl _) ⟨rfl, rfl, trivial⟩
  | ok n2 a2 =>
    rw [hr2] at h3
    have c3 := h3.ok
    show CallOK _ _ _ _ _
    refine CallOK.fnF Try.func103 Try.results103 Try.ntmps103 rfl rfl rfl rfl (fun w0 T B E0 hB => ?_)
    refine SX.goP ?_
    exact retNd (ResOK.agg3 rfl rfl rfl) (AV0.imp.refl _) ⟨rfl, rfl, trivial⟩
theorem g_item {l : List Tok} {m : Nat} {X : Gr} {N : Nd} (hl : l.length ≤ 1000000) (hs : GOK 50 l m X) (hA : Adv 1 l m X) {a o : Nat} (hm : m ≤ a) (ha : a ≤ l.length) (ho : o ≤ 600) : CR rNd 96 [.ptr 83 0, .ptr 81 0] [(81, PP), (83, NB N)] l a o (itemG l X N a o) := by
  have mark : OwnLit 7 := ⟨⟩
  have h3 := hs a o hm ha ho
  have h4 := hA a o hm ha
  unfold itemG
  cases hr2 : X a o with
  | bad e p n2 a2 o2 =>
    rw [hr2] at h3
    have c3 := h3.bad
    have c4 := c_takeE l a2 o2 e p [44]
    have c5 := c_mustE l a2 o2 e p [93]
    show CallOK _ _ _ _ _
    refine CallOK.fnF Try.func96 Try.results96 Try.ntmps96 rfl rfl rfl rfl (fun w0 T B E0 hB => ?_)
    refine SX.goP ?_
    refine RetF.frzP 7 (ps := [29, 81, 83]) ?_
    exact retNd (ResOK.agg3 rfl rfl rfl) (imp_ndk rfl rfl rfl (by first | (simp only [List.flatMap_cons, List.flatMap_nil, ndC_eq', List.append_nil]; done) | (simp only [List.flatMap_cons, List.flatMap_nil, ndC_eq', List.append_nil]; rfl))) ⟨rfl, rfl, rfl, trivial⟩
  | ok n2 a2 =>
    rw [hr2] at h3 h4
    have c3 := h3.ok
    obtain ⟨j1, j2, j3⟩ := h4
    dsimp only
    cases ht : isS l a2 [44] with
    | false =>
      have c4 := c_takeF o ht
      rw [if_neg (by decide)]
      unfold thenS
      dsimp only
      cases ht2 : isS l a2 [93] with
      | true =>
        have c5 := c_mustT o hl ht2
        rw [if_pos rfl]
        show CallOK _ _ _ _ _
        refine CallOK.fnF Try.func96 Try.results96 Try.ntmps96 rfl rfl rfl rfl (fun w0 T B E0 hB => ?_)
        refine SX.goP ?_
        refine RetF.frzP 7 (ps := [29, 81, 83]) ?_
        exact retNd (ResOK.agg3 rfl rfl rfl) (imp_ndk rfl rfl rfl (by first | (simp only [List.flatMap_cons, List.flatMap_nil, ndC_eq', List.append_nil]; done) | (simp only [List.flatMap_cons, List.flatMap_nil, ndC_eq', List.append_nil]; rfl))) ⟨rfl, rfl, rfl, trivial⟩
      | false =>
        have c5 := c_mustF o ht2
        rw [if_neg (by decide)]
        show CallOK _ _ _ _ _
        refine CallOK.fnF Try.func96 Try.results96 Try.ntmps96 rfl rfl rfl rfl (fun w0 T B E0 hB => ?_)
        refine SX.goP ?_
        refine RetF.frzP 7 (ps := [29, 81, 83]) ?_
        exact retNd (ResOK.agg3 rfl rfl rfl) (imp_ndk rfl rfl rfl (by first | (simp only [List.flatMap_cons, List.flatMap_nil, ndC_eq', List.append_nil]; done) | (simp only [List.flatMap_cons, List.flatMap_nil, ndC_eq', List.append_nil]; rfl))) ⟨rfl, rfl, rfl, trivial⟩
    | true =>
      have c4 := c_takeT o hl ht
      have g5 := isS_lt ht
      rw [if_pos rfl]
      have h5 := hs (a2 + 1) o (by omega) (by omega) ho
      cases hr3 : X (a2 + 1) o with
      | bad e p n3 a3 o3 =>
        rw [hr3] at h5
        have c6 := h5.bad
        have c5 := c_mustE l a3 o3 e p [93]
        show CallOK _ _ _ _ _
        refine CallOK.fnF Try.func96 Try.results96 Try.ntmps96 rfl rfl rfl rfl (fun w0 T B E0 hB => ?_)
        refine SX.goP ?_
        refine RetF.frzP 16 (ps := [29, 81, 83]) ?_
        exact retNd (ResOK.agg3 rfl rfl rfl) (imp_ndk rfl rfl rfl (by first | (simp only [List.flatMap_cons, List.flatMap_nil, ndC_eq', List.append_nil, List.append_assoc]; done) | (simp only [List.flatMap_cons, List.flatMap_nil, ndC_eq', List.append_nil, List.append_assoc]; rfl))) ⟨rfl, rfl, rfl, trivial⟩
      | ok n3 a3 =>
        rw [hr3] at h5
        have c6 := h5.ok
        unfold thenS mapR
        dsimp only
        cases ht2 : isS l a3 [93] with
        | true =>
          have c5 := c_mustT o hl ht2
          rw [if_pos rfl]
          show CallOK _ _ _ _ _
          refine CallOK.fnF Try.func96 Try.results96 Try.ntmps96 rfl rfl rfl rfl (fun w0 T B E0 hB => ?_)
          refine SX.goP ?_
          refine RetF.frzP 16 (ps := [29, 81, 83]) ?_
          exact retNd (ResOK.agg3 rfl rfl rfl) (imp_ndk rfl rfl rfl (by first | (simp only [List.flatMap_cons, List.flatMap_nil, ndC_eq', List.append_nil, List.append_assoc]; done) | (simp only [List.flatMap_cons, List.flatMap_nil, ndC_eq', List.append_nil, List.append_assoc]; rfl))) ⟨rfl, rfl, rfl, trivial⟩
        | false =>
          have c5 := c_mustF o ht2
          rw [if_neg (by decide)]
          show CallOK _ _ _ _ _
          refine CallOK.fnF Try.func96 Try.results96 Try.ntmps96 rfl rfl rfl rfl (fun w0 T B E0 hB => ?_)
          refine SX.goP ?_
          refine RetF.frzP 16 (ps := [29, 81, 83]) ?_
          exact retNd (ResOK.agg3 rfl rfl rfl) (imp_ndk rfl rfl rfl (by first | (simp only [List.flatMap_cons, List.flatMap_nil, ndC_eq', List.append_nil, List.append_assoc]; done) | (simp only [List.flatMap_cons, List.flatMap_nil, ndC_eq', List.append_nil, List.append_assoc]; rfl))) ⟨rfl, rfl, rfl, trivial⟩
end Go.Proofs.Ytaocklkbijkhpaa

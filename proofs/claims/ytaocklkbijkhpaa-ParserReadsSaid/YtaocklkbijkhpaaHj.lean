import Derived.Test.YtaocklkbijkhpaaHi
/- Reference 28 in the symbolic run: items, minuses, chains, expressions. -/
set_option linter.unusedVariables false
set_option linter.unusedSimpArgs false
namespace SX
open Go Go.RowKit
theorem St.le_frz_to {C : Ctx} {st s' : St} (b : Nat) {size n : Nat} {t : TypeId} {cells : List CA} (h : St.le C (st.frz b size n cells) s') (hB : ∀ k, ¬ C.B k) (hb : st.hp b = .ent (.row t size n cells) := by rfl) : St.le C st s' := fun a w hs => h a w (St.le_frz hB hb a w hs)
end SX
namespace Go.Proofs.Ytaocklkbijkhpaa
open Go.RowKit SX
attribute [local irreducible] IntKind.wrap Go1 Reg WP thenK inBlk retQ retF RetF RetOK ResOK CallOK OpOK Sat
abbrev GB (r : Res) : Ent := .box 64 (gat r)
structure RIt where
  n : Nd
  a : Nat
  f : Nat
theorem r_items {l : List Tok} {m : Nat} {X : Gr} (hl : l.length ≤ 1000000) (hs : ROK 60 l (m + 1) X) (hA : Adv 1 l (m + 1) X) : ROK 92 l m (postF 600 l X) := by
  intro a o hm ha ho
  have mark : OwnLit 28 := ⟨⟩
  have h1 := r_first hl hs hA a o hm ha ho
  have h2 := adv_prim (K := 600) hA a o hm ha
  unfold postF
  cases hr : primG 600 l X a o with
  | bad e p n a' o' =>
    rw [hr] at h1
    have c1 := h1.bad
    show PureOK _ _ _ _
    refine PureOK.fnF Try.func92 Try.results92 Try.ntmps92 rfl rfl rfl (by simp [AV.ids, AV0.ids, Atom.ids]) rfl (fun w0 T B E0 hB => ?_)
    refine SX.goP ?_
    refine W.loop (fun _ : Unit => True) (fun _ => [(0, .r (rowR 3 tokC l)), (4, .ptr 4 0), (5, .ptr 5 0)]) (fun _ => [(4, GZ), (5, .box 64 (gbad p))]) (fun _ => 0) () trivial (fun _ _ => ?_)
    refine SX.goP ?_
    exact retG (ResOK.agg5 rfl rfl rfl) (AV0.imp.refl _)
  | ok n a' =>
    rw [hr] at h1 h2
    have c1 := h1.ok
    obtain ⟨g1, g2, g3⟩ := h2
    have g4 := cnt_pos n
    dsimp only
    generalize hR : postG 600 l X (l.length + 1) n a' o = R
    show PureOK _ _ _ _
    refine PureOK.fnF Try.func92 Try.results92 Try.ntmps92 rfl rfl rfl (by simp [AV.ids, AV0.ids, Atom.ids]) rfl (fun w0 T B E0 hB => ?_)
    refine SX.goP ?_
    refine W.loop (fun q : RIt => postG 600 l X q.f q.n q.a o = R ∧ m ≤ q.a ∧ q.a ≤ l.length ∧ o + (l.length - q.a) ≤ 600 ∧ l.length < q.a + q.f) (fun _ => [(0, .r (rowR 3 tokC l)), (4, .ptr 4 0), (5, .ptr 5 0)]) (fun q => [(4, GZ), (5, .box 64 (gok q.n q.a))]) (fun q => l.length + 1 - q.a) ⟨n, a', l.length + 1⟩ ⟨hR, by dsimp only; exact ⟨by omega, by omega, by omega, by omega⟩⟩ (fun q hq => ?_)
    obtain ⟨qn, qa, qf⟩ := q
    dsimp only at hq
    obtain ⟨hq1, b1, b2, b3, b4⟩ := hq
    obtain ⟨qf, rfl⟩ : ∃ k, qf = k + 1 := ⟨qf - 1, by omega⟩
    unfold postG at hq1
    show WP _ _ _ (mkSt [(0, .r (rowR 3 tokC l)), (4, .ptr 4 0), (5, .ptr 5 0)] [(4, GZ), (5, .box 64 (gok qn qa))]) _
    cases ht : isS l qa [91] with
    | false =>
      rw [if_neg (by rw [ht]; decide)] at hq1
      refine SX.goP ?_
      subst hq1
      exact retG (ResOK.agg5 rfl rfl rfl) (AV0.imp.refl _)
    | true =>
      have g5 := isS_lt ht
      rw [if_pos ht] at hq1
      have h3 := hs (qa + 1) (o + 1) (by omega) (by omega) (by omega)
      have h4 := hA (qa + 1) (o + 1) (by omega) (by omega)
      unfold ins at hq1
      rw [if_neg (show ¬ 600 < o + 1 by omega)] at hq1
      unfold itemG at hq1
      cases hr2 : X (qa + 1) (o + 1) with
      | bad e p k a2 o2 =>
        rw [hr2] at h3 hq1
        have c3 := h3.bad
        have c4 := c_thenB l p [93]
        refine SX.goP ?_
        subst hq1
        exact retG (ResOK.agg5 rfl rfl rfl) (imp_bad rfl rfl rfl rfl)
      | ok k a2 =>
        rw [hr2] at h3 hq1 h4
        have c3 := h3.ok
        obtain ⟨j1, j2, j3⟩ := h4
        dsimp only at hq1
        cases ht2 : isS l a2 [44] with
        | false =>
          rw [if_neg (by rw [ht2]; decide)] at hq1
          unfold thenS at hq1
          dsimp only at hq1
          cases ht3 : isS l a2 [93] with
          | true =>
            have g6 := isS_lt ht3
            have c4 := c_thenT k hl ht3
            rw [if_pos ht3] at hq1
            refine SX.goP ?_
            exact W.next ⟨.mk 17 [] [qn, k], a2 + 1, qf⟩ ⟨hq1, by dsimp only; exact ⟨by omega, by omega, by omega, by omega⟩⟩ (by dsimp only; omega)
              (by
                refine St.le_frz_to 28 ?_ hB
                refine SX.St.le_to [] (by intro b h; cases h) ?_ ?_ rfl
                · repeat (first | exact trivial | refine ⟨⟨_, rfl, SX.AVto.same rfl⟩, ?_⟩)
                · exact ⟨SX.EntTo.same rfl rfl, SX.EntTo.box rfl (imp_okk rfl rfl rfl rfl (by first | (simp only [List.flatMap_cons, List.flatMap_nil, ndC_eq', List.append_nil, List.append_assoc]; done) | (simp only [List.flatMap_cons, List.flatMap_nil, ndC_eq', List.append_nil, List.append_assoc]; rfl))) rfl, trivial⟩)
          | false =>
            have c4 := c_thenF k ht3
            rw [if_neg (by rw [ht3]; decide)] at hq1
            refine SX.goP ?_
            subst hq1
            exact retG (ResOK.agg5 rfl rfl rfl) (AV0.imp.refl _)
        | true =>
          have g6 := isS_lt ht2
          rw [if_pos ht2] at hq1
          have h5 := hs (a2 + 1) (o + 1) (by omega) (by omega) (by omega)
          have h6 := hA (a2 + 1) (o + 1) (by omega) (by omega)
          cases hr3 : X (a2 + 1) (o + 1) with
          | bad e p k2 a3 o3 =>
            rw [hr3] at h5 hq1
            have c4 := h5.bad
            have c5 := c_thenB l p [93]
            refine SX.goP ?_
            subst hq1
            exact retG (ResOK.agg5 rfl rfl rfl) (imp_bad rfl rfl rfl rfl)
          | ok k2 a3 =>
            rw [hr3] at h5 hq1 h6
            have c4 := h5.ok
            obtain ⟨i1, i2, i3⟩ := h6
            unfold thenS mapR at hq1
            dsimp only at hq1
            cases ht3 : isS l a3 [93] with
            | true =>
              have g7 := isS_lt ht3
              have c5 := c_thenT k2 hl ht3
              rw [if_pos ht3] at hq1
              refine SX.goP ?_
              exact W.next ⟨.mk 17 [] [qn, k, k2], a3 + 1, qf⟩ ⟨hq1, by dsimp only; exact ⟨by omega, by omega, by omega, by omega⟩⟩ (by dsimp only; omega)
                (by
                  refine St.le_frz_to 46 ?_ hB
                  refine SX.St.le_to [] (by intro b h; cases h) ?_ ?_ rfl
                  · repeat (first | exact trivial | refine ⟨⟨_, rfl, SX.AVto.same rfl⟩, ?_⟩)
                  · exact ⟨SX.EntTo.same rfl rfl, SX.EntTo.box rfl (imp_okk rfl rfl rfl rfl (by first | (simp only [List.flatMap_cons, List.flatMap_nil, ndC_eq', List.append_nil, List.append_assoc]; done) | (simp only [List.flatMap_cons, List.flatMap_nil, ndC_eq', List.append_nil, List.append_assoc]; rfl))) rfl, trivial⟩)
            | false =>
              have c5 := c_thenF k2 ht3
              rw [if_neg (by rw [ht3]; decide)] at hq1
              refine SX.goP ?_
              subst hq1
              exact retG (ResOK.agg5 rfl rfl rfl) (AV0.imp.refl _)
theorem r_minus {l : List Tok} {m : Nat} {X U : Gr} (hl : l.length ≤ 1000000) (hi : ROK 92 l m (postF 600 l X)) (ai : Adv 1 l m (postF 600 l X)) (hu : ROK 88 l (m + 1) U) : ROK 88 l m (unG 600 l X U) := by
  intro a o hm ha ho
  unfold unG
  cases ht : isS l a [45] with
  | true =>
    have g5 := isS_lt ht
    rw [if_pos rfl]
    refine RK_ins (by omega) ?_
    have h1 := hu (a + 1) (o + 1) (by omega) (by omega) (by omega)
    cases hr : U (a + 1) (o + 1) with
    | bad e p n a' o' =>
      rw [hr] at h1
      have c1 := h1.bad
      show PureOK _ _ _ _
      refine PureOK.fnF Try.func88 Try.results88 Try.ntmps88 rfl rfl rfl (by simp [AV.ids, AV0.ids, Atom.ids]) rfl (fun w0 T B E0 hB => ?_)
      refine SX.goP ?_
      exact retG (ResOK.agg5 rfl rfl rfl) (imp_bad rfl rfl rfl rfl)
    | ok n a' =>
      rw [hr] at h1
      have c1 := h1.ok
      show PureOK _ _ _ _
      refine PureOK.fnF Try.func88 Try.results88 Try.ntmps88 rfl rfl rfl (by simp [AV.ids, AV0.ids, Atom.ids]) rfl (fun w0 T B E0 hB => ?_)
      refine SX.goP ?_
      exact retG (ResOK.agg5 rfl rfl rfl) (imp_okk rfl rfl rfl rfl (by first | (simp only [List.flatMap_cons, List.flatMap_nil, ndC_eq', List.append_nil, List.append_assoc]; done) | (simp only [List.flatMap_cons, List.flatMap_nil, ndC_eq', List.append_nil, List.append_assoc]; rfl)))
  | false =>
    rw [if_neg (by decide)]
    have h1 := hi a o hm ha ho
    have h2 := ai a o hm ha
    unfold powG
    cases hr : postF 600 l X a o with
    | bad e p n a' o' =>
      rw [hr] at h1
      have c1 := h1.bad
      show PureOK _ _ _ _
      refine PureOK.fnF Try.func88 Try.results88 Try.ntmps88 rfl rfl rfl (by simp [AV.ids, AV0.ids, Atom.ids]) rfl (fun w0 T B E0 hB => ?_)
      refine SX.goP ?_
      exact retG (ResOK.agg5 rfl rfl rfl) (AV0.imp.refl _)
    | ok n a' =>
      rw [hr] at h1 h2
      have c1 := h1.ok
      obtain ⟨g1, g2, g3⟩ := h2
      have g4 := cnt_pos n
      dsimp only
      cases ht2 : isS l a' [94] with
      | false =>
        rw [if_neg (by decide)]
        show PureOK _ _ _ _
        refine PureOK.fnF Try.func88 Try.results88 Try.ntmps88 rfl rfl rfl (by simp [AV.ids, AV0.ids, Atom.ids]) rfl (fun w0 T B E0 hB => ?_)
        refine SX.goP ?_
        exact retG (ResOK.agg5 rfl rfl rfl) (AV0.imp.refl _)
      | true =>
        have g6 := isS_lt ht2
        rw [if_pos rfl]
        have h3 := hu (a' + 1) o (by omega) (by omega) (by omega)
        cases hr2 : U (a' + 1) o with
        | bad e p k a2 o2 =>
          rw [hr2] at h3
          have c3 := h3.bad
          show PureOK _ _ _ _
          refine PureOK.fnF Try.func88 Try.results88 Try.ntmps88 rfl rfl rfl (by simp [AV.ids, AV0.ids, Atom.ids]) rfl (fun w0 T B E0 hB => ?_)
          refine SX.goP ?_
          exact retG (ResOK.agg5 rfl rfl rfl) (imp_bad rfl rfl rfl rfl)
        | ok k a2 =>
          rw [hr2] at h3
          have c3 := h3.ok
          show PureOK _ _ _ _
          refine PureOK.fnF Try.func88 Try.results88 Try.ntmps88 rfl rfl rfl (by simp [AV.ids, AV0.ids, Atom.ids]) rfl (fun w0 T B E0 hB => ?_)
          refine SX.goP ?_
          exact retG (ResOK.agg5 rfl rfl rfl) (imp_okk rfl rfl rfl rfl (by first | (simp only [List.flatMap_cons, List.flatMap_nil, ndC_eq', List.append_nil, List.append_assoc]; done) | (simp only [List.flatMap_cons, List.flatMap_nil, ndC_eq', List.append_nil, List.append_assoc]; rfl)))
end Go.Proofs.Ytaocklkbijkhpaa

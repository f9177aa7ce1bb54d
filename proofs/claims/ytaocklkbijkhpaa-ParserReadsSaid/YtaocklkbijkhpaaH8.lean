import Derived.Test.YtaocklkbijkhpaaH7
/- Package parser in the symbolic run: what binds most, with items; all expressions. -/
set_option linter.unusedVariables false
set_option linter.unusedSimpArgs false
namespace Go.Proofs.Ytaocklkbijkhpaa
open Go.RowKit SX
attribute [local irreducible] IntKind.wrap Go1 Reg WP thenK inBlk retQ retF RetF RetOK ResOK CallOK OpOK Sat
theorem ge_prim {l : List Tok} : GE 95 l := by
  intro a o e p
  have nm1 : Named 1 81 := ⟨⟩
  have c1 := c_wrongE l a o e p
  refine CallOK.fnF Try.func95 Try.results95 Try.ntmps95 rfl rfl rfl rfl (fun w0 T B E0 hB => ?_)
  refine SX.goP ?_
  exact retNd (ResOK.agg3 rfl rfl rfl) (AV0.imp.refl _) ⟨rfl, trivial⟩
theorem g_prim {l : List Tok} {m : Nat} {X : Gr} (hl : l.length ≤ 1000000) (hs : GOK 50 l (m + 1) X) (hA : Adv 1 l (m + 1) X) : GOK 95 l m (primG 600 l X) := by
  intro a o hm ha ho
  have nm1 : Named 1 81 := ⟨⟩
  have nm2 : Named 3 82 := ⟨⟩
  unfold primG
  cases hg : l[a]? with
  | none =>
    have hge : l.length ≤ a := List.getElem?_eq_none_iff.1 hg
    have c1 := c_wrongG l a o
    show CallOK _ _ _ _ _
    refine CallOK.fnF Try.func95 Try.results95 Try.ntmps95 rfl rfl rfl rfl (fun w0 T B E0 hB => ?_)
    refine SX.goP ?_
    exact retNd (ResOK.agg3 rfl rfl rfl) (AV0.imp.refl _) ⟨rfl, trivial⟩
  | some t =>
    have hlt : a < l.length := (List.getElem?_eq_some_iff.1 hg).1
    obtain ⟨tk, tt, tp⟩ := t
    dsimp only
    by_cases hk : tk = 1
    · rw [if_pos hk]
      show CallOK _ _ _ _ _
      refine CallOK.fnF Try.func95 Try.results95 Try.ntmps95 rfl rfl rfl rfl (fun w0 T B E0 hB => ?_)
      refine SX.goP ?_
      exact retNd (ResOK.agg3 rfl rfl rfl) (imp_nd rfl rfl) ⟨rfl, trivial⟩
    · rw [if_neg hk]
      have c1 := c_namedG l a o
      cases hn : isNm l a with
      | true =>
        rw [hn] at c1
        rw [if_pos rfl]
        cases ht : isS l (a + 1) [40] with
        | true =>
          have c2 := c_takeT o hl ht
          have g5 := isS_lt ht
          rw [if_pos rfl]
          have h1 := c_insC (f := 99) (l := l) (t := ⟨tk, tt, tp⟩) (a := a + 2) (o := o) (k := fun a o => mapR (fun n => .mk 13 tt n.kids) (listE l X [41] a o)) ho (fun h => ⟨g_call hl hs hA (by omega) (by omega) (by omega), (adv_map (c' := 0) (s' := 0) (adv_listE hA (by omega) (by omega)) (fun n => by rw [cnt_kids]; omega)).open.mono (by omega)⟩)
          cases hr : ins 600 (fun a o => mapR (fun n => .mk 13 tt n.kids) (listE l X [41] a o)) (a + 2) o with
          | bad e p n a' o' =>
            rw [hr] at h1
            have c3 := h1.bad
            show CallOK _ _ _ _ _
            refine CallOK.fnF Try.func95 Try.results95 Try.ntmps95 rfl rfl rfl rfl (fun w0 T B E0 hB => ?_)
            refine SX.goP ?_
            exact retNd (ResOK.agg3 rfl rfl rfl) (AV0.imp.refl _) ⟨rfl, trivial⟩
          | ok n a' =>
            rw [hr] at h1
            have c3 := h1.ok
            show CallOK _ _ _ _ _
            refine CallOK.fnF Try.func95 Try.results95 Try.ntmps95 rfl rfl rfl rfl (fun w0 T B E0 hB => ?_)
            refine SX.goP ?_
            exact retNd (ResOK.agg3 rfl rfl rfl) (AV0.imp.refl _) ⟨rfl, trivial⟩
        | false =>
          have c2 := c_takeF o ht
          rw [if_neg (by decide)]
          show CallOK _ _ _ _ _
          refine CallOK.fnF Try.func95 Try.results95 Try.ntmps95 rfl rfl rfl rfl (fun w0 T B E0 hB => ?_)
          refine SX.goP ?_
          exact retNd (ResOK.agg3 rfl rfl rfl) (imp_nd rfl rfl) ⟨rfl, trivial⟩
      | false =>
        rw [hn] at c1
        rw [if_neg (by decide)]
        cases ht : isS l a [40] with
        | true =>
          have c2 := c_takeT o hl ht
          rw [if_pos rfl]
          have h1 := c_insA (f := 101) (l := l) (a := a + 1) (o := o) (k := fun a o => thenS l (X a o) o [41]) ho (fun h => ⟨g_par hl hs (by omega) (by omega) (by omega), (adv_then (hA _ _ (by omega) (by omega))).open.mono (by omega)⟩)
          cases hr : ins 600 (fun a o => thenS l (X a o) o [41]) (a + 1) o with
          | bad e p n a' o' =>
            rw [hr] at h1
            have c3 := h1.bad
            show CallOK _ _ _ _ _
            refine CallOK.fnF Try.func95 Try.results95 Try.ntmps95 rfl rfl rfl rfl (fun w0 T B E0 hB => ?_)
            refine SX.goP ?_
            exact retNd (ResOK.agg3 rfl rfl rfl) (AV0.imp.refl _) ⟨rfl, trivial⟩
          | ok n a' =>
            rw [hr] at h1
            have c3 := h1.ok
            show CallOK _ _ _ _ _
            refine CallOK.fnF Try.func95 Try.results95 Try.ntmps95 rfl rfl rfl rfl (fun w0 T B E0 hB => ?_)
            refine SX.goP ?_
            exact retNd (ResOK.agg3 rfl rfl rfl) (AV0.imp.refl _) ⟨rfl, trivial⟩
        | false =>
          have c2 := c_takeF o ht
          rw [if_neg (by decide)]
          cases ht2 : isS l a [91] with
          | true =>
            have c3 := c_takeT o hl ht2
            rw [if_pos rfl]
            have h1 := c_insD (f := 102) (l := l) (a := a + 1) (o := o) (k := fun a o => matG l X (l.length + 1) [] [] a o) ho (fun h => ⟨g_mat hl hs hA (by omega) (by omega) (by omega), (adv_mat hA _ _ _ _ _ (by omega) (by omega)).open.mono (by omega)⟩)
            cases hr : ins 600 (fun a o => matG l X (l.length + 1) [] [] a o) (a + 1) o with
            | bad e p n a' o' =>
              rw [hr] at h1
              have c4 := h1.bad
              show CallOK _ _ _ _ _
              refine CallOK.fnF Try.func95 Try.results95 Try.ntmps95 rfl rfl rfl rfl (fun w0 T B E0 hB => ?_)
              refine SX.goP ?_
              exact retNd (ResOK.agg3 rfl rfl rfl) (AV0.imp.refl _) ⟨rfl, trivial⟩
            | ok n a' =>
              rw [hr] at h1
              have c4 := h1.ok
              show CallOK _ _ _ _ _
              refine CallOK.fnF Try.func95 Try.results95 Try.ntmps95 rfl rfl rfl rfl (fun w0 T B E0 hB => ?_)
              refine SX.goP ?_
              exact retNd (ResOK.agg3 rfl rfl rfl) (AV0.imp.refl _) ⟨rfl, trivial⟩
          | false =>
            have c3 := c_takeF o ht2
            rw [if_neg (by decide)]
            cases ht3 : isS l a [123] with
            | true =>
              have c4 := c_takeT o hl ht3
              rw [if_pos rfl]
              have h1 := c_insA (f := 103) (l := l) (a := a + 1) (o := o) (k := fun a o => mapR (fun n => .mk 16 [] n.kids) (listE l X [125] a o)) ho (fun h => ⟨g_set hl hs hA (by omega) (by omega) (by omega), (adv_map (c' := 0) (s' := 0) (adv_listE hA (by omega) (by omega)) (fun n => by rw [cnt_kids]; omega)).open.mono (by omega)⟩)
              cases hr : ins 600 (fun a o => mapR (fun n => .mk 16 [] n.kids) (listE l X [125] a o)) (a + 1) o with
              | bad e p n a' o' =>
                rw [hr] at h1
                have c5 := h1.bad
                show CallOK _ _ _ _ _
                refine CallOK.fnF Try.func95 Try.results95 Try.ntmps95 rfl rfl rfl rfl (fun w0 T B E0 hB => ?_)
                refine SX.goP ?_
                exact retNd (ResOK.agg3 rfl rfl rfl) (AV0.imp.refl _) ⟨rfl, trivial⟩
              | ok n a' =>
                rw [hr] at h1
                have c5 := h1.ok
                show CallOK _ _ _ _ _
                refine CallOK.fnF Try.func95 Try.results95 Try.ntmps95 rfl rfl rfl rfl (fun w0 T B E0 hB => ?_)
                refine SX.goP ?_
                exact retNd (ResOK.agg3 rfl rfl rfl) (AV0.imp.refl _) ⟨rfl, trivial⟩
            | false =>
              have c4 := c_takeF o ht3
              rw [if_neg (by decide)]
              have c5 := c_wrongG l a o
              show CallOK _ _ _ _ _
              refine CallOK.fnF Try.func95 Try.results95 Try.ntmps95 rfl rfl rfl rfl (fun w0 T B E0 hB => ?_)
              refine SX.goP ?_
              exact retNd (ResOK.agg3 rfl rfl rfl) (AV0.imp.refl _) ⟨rfl, trivial⟩
theorem ge_post {l : List Tok} : GE 93 l := by
  intro a o e p
  have nm1 : Named 1 81 := ⟨⟩
  have nm2 : Named 3 83 := ⟨⟩
  have c1 := ge_prim (l := l) a o e p
  have c2 := c_takeE l a o e p [91]
  refine CallOK.fnF Try.func93 Try.results93 Try.ntmps93 rfl rfl rfl rfl (fun w0 T B E0 hB => ?_)
  refine SX.goP ?_
  refine W.loop (fun _ : Unit => True) (fun _ => [(1, .ptr 81 0), (2, .ptr 2 0), (3, .ptr 83 0)]) (fun _ => [(29, PE l a o e p), (2, NZ), (81, PP), (83, NB nd0)]) (fun _ => 0) () trivial (fun _ _ => ?_)
  refine SX.goP ?_
  exact retNd (ResOK.agg3 rfl rfl rfl) (AV0.imp.refl _) ⟨rfl, trivial⟩
structure PoS where
  n : Nd
  a : Nat
  o : Nat
  b : Option (Nat × Nat)
  f : Nat
def poS (l : List Tok) (X : Gr) (q : PoS) : Res := match q.b with
  | none => postG 600 l X q.f q.n q.a q.o
  | some (e, p) => .bad e p q.n q.a q.o
theorem g_post {l : List Tok} {m : Nat} {X : Gr} (hl : l.length ≤ 1000000) (hs : GOK 50 l (m + 1) X) (hA : Adv 1 l (m + 1) X) : GOK 93 l m (postF 600 l X) := by
  intro a o hm ha ho
  have nm1 : Named 1 81 := ⟨⟩
  have nm2 : Named 3 83 := ⟨⟩
  have h1 := g_prim hl hs hA a o hm ha ho
  have h2 := adv_prim (K := 600) hA a o hm ha
  unfold postF
  cases hr : primG 600 l X a o with
  | bad e p n a' o' =>
    rw [hr] at h1
    have c1 := h1.bad
    have c2 := c_takeE l a' o' e p [91]
    show CallOK _ _ _ _ _
    refine CallOK.fnF Try.func93 Try.results93 Try.ntmps93 rfl rfl rfl rfl (fun w0 T B E0 hB => ?_)
    refine SX.goP ?_
    refine W.loop (fun _ : Unit => True) (fun _ => [(1, .ptr 81 0), (2, .ptr 2 0), (3, .ptr 83 0)]) (fun _ => [(29, PE l a' o' e p), (2, NZ), (81, PP), (83, NB n)]) (fun _ => 0) () trivial (fun _ _ => ?_)
    refine SX.goP ?_
    exact retNd (ResOK.agg3 rfl rfl rfl) (AV0.imp.refl _) ⟨rfl, trivial⟩
  | ok n a' =>
    rw [hr] at h1 h2
    have c1 := h1.ok
    obtain ⟨g1, g2, g3⟩ := h2
    have g4 := cnt_pos n
    dsimp only
    generalize hR : postG 600 l X (l.length + 1) n a' o = R
    refine CR.of ?_
    refine CallOK.fnF Try.func93 Try.results93 Try.ntmps93 rfl rfl rfl rfl (fun w0 T B E0 hB => ?_)
    refine SX.goP ?_
    refine W.loop (fun q : PoS => poS l X q = R ∧ (q.b = none → q.o = o ∧ m ≤ q.a ∧ q.a ≤ l.length ∧ l.length < q.a + q.f)) (fun _ => [(1, .ptr 81 0), (2, .ptr 2 0), (3, .ptr 83 0)]) (fun q => [(29, PS l q.a q.o q.b), (2, NZ), (81, PP), (83, NB q.n)]) (fun q => match q.b with | none => l.length + 1 - q.a | some _ => 0) ⟨n, a', o, none, l.length + 1⟩ ⟨hR, fun _ => by dsimp only; exact ⟨rfl, by omega, by omega, by omega⟩⟩ (fun q hq => ?_)
    obtain ⟨qn, qa, qo, qb, qf⟩ := q
    obtain ⟨hq1, hq2⟩ := hq
    dsimp only at hq1 hq2
    cases qb with
    | some b =>
      obtain ⟨e, p⟩ := b
      have c2 := c_takeE l qa qo e p [91]
      show WP _ _ _ (mkSt [(1, .ptr 81 0), (2, .ptr 2 0), (3, .ptr 83 0)] [(29, PE l qa qo e p), (2, NZ), (81, PP), (83, NB qn)]) _
      refine SX.goP ?_
      subst hq1
      exact retNd (ResOK.agg3 rfl rfl rfl) (AV0.imp.refl _) ⟨rfl, trivial⟩
    | none =>
      obtain ⟨rfl, b1, b2, b3⟩ := hq2 rfl
      obtain ⟨qf, rfl⟩ : ∃ k, qf = k + 1 := ⟨qf - 1, by omega⟩
      have hq1 : postG 600 l X (qf + 1) qn qa qo = R := hq1
      unfold postG at hq1
      show WP _ _ _ (mkSt [(1, .ptr 81 0), (2, .ptr 2 0), (3, .ptr 83 0)] [(29, PG l qa qo), (2, NZ), (81, PP), (83, NB qn)]) _
      cases ht : isS l qa [91] with
      | true =>
        have c2 := c_takeT qo hl ht
        have g5 := isS_lt ht
        rw [if_pos ht] at hq1
        have h5 := c_insB (f := 96) (l := l) (N := qn) (a := qa + 1) (o := qo) (k := itemG l X qn) ho (fun h => ⟨g_item hl hs hA (by omega) (by omega) (by omega), (adv_item hA (by omega) (by omega)).open.mono (by omega)⟩)
        have h6 := adv_ins (K := 600) (g := itemG l X qn) (a := qa + 1) (o := qo) (Nat.le_refl _) (adv_item (n := qn) (o := qo + 1) hA (by omega) (by omega))
        cases hr2 : ins 600 (itemG l X qn) (qa + 1) qo with
        | bad e p k a2 o2 =>
          rw [hr2] at h5 hq1
          have c3 := h5.bad
          refine SX.goP ?_
          exact W.next ⟨k, a2, o2, some (e, p), 0⟩ ⟨hq1, fun h => by cases h⟩ (by dsimp only; omega)
        | ok k a2 =>
          rw [hr2] at h5 hq1 h6
          have c3 := h5.ok
          obtain ⟨j1, j2, j3⟩ := h6
          refine SX.goP ?_
          exact W.next ⟨k, a2, qo, none, qf⟩ ⟨hq1, fun h => by dsimp only; exact ⟨rfl, by omega, by omega, by omega⟩⟩ (by dsimp only; omega)
      | false =>
        have c2 := c_takeF qo ht
        rw [if_neg (by rw [ht]; decide)] at hq1
        refine SX.goP ?_
        subst hq1
        exact retNd (ResOK.agg3 rfl rfl rfl) (AV0.imp.refl _) ⟨rfl, trivial⟩
theorem ge_expr {l : List Tok} : GE 50 l := ge_exp (ge_sum (ge_prod (ge_un (ge_pow ge_post))))
/-- Expressions, from a place on. -/
theorem g_lev {l : List Tok} (hl : l.length ≤ 1000000) : ∀ (n m : Nat), l.length + 1 ≤ m + n → GOK 50 l m (lev 600 l n).1 ∧ GOK 87 l m (lev 600 l n).2
  | 0, m, h => ⟨fun a o hm ha => by omega, fun a o hm ha => by omega⟩
  | n + 1, m, h => by
    obtain ⟨h1, h2⟩ := g_lev hl n (m + 1) (by omega)
    obtain ⟨a1, a2⟩ := adv_lev 600 l n (m + 1) (by omega)
    have u : GOK 87 l m (unG 600 l (lev 600 l n).1 (lev 600 l n).2) := g_un hl (g_pow hl (g_post hl h1 a1) (adv_postF a1) h2) h2 a2
    have au := adv_un (K := 600) a1 a2
    exact ⟨g_exp hl (g_sum hl (g_prod hl u au) au) au, u⟩
end Go.Proofs.Ytaocklkbijkhpaa

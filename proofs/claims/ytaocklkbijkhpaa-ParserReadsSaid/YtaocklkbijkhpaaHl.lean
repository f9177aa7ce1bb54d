import Derived.Test.YtaocklkbijkhpaaHk
/- Reference 28 in the symbolic run: blocks, statements, programs. -/
set_option linter.unusedVariables false
set_option linter.unusedSimpArgs false
namespace Go.Proofs.Ytaocklkbijkhpaa
open Go.RowKit SX
attribute [local irreducible] IntKind.wrap Go1 Reg WP thenK inBlk retQ retF RetF RetOK ResOK CallOK OpOK Sat
structure RBo where
  ks : List Nd
  a : Nat
  f : Nat
theorem r_block {l : List Tok} {m : Nat} {S : Gr} (hl : l.length ≤ 1000000) (hs : ROK 38 l (m + 1) S) (hA : Adv 2 l (m + 1) S) : ROK 72 l m (blkG 600 l S) := by
  intro a o hm ha ho
  unfold blkG
  cases h0 : isS l a [123] with
  | false =>
    rw [if_neg (by decide)]
    show PureOK _ _ _ _
    refine PureOK.fnF Try.func72 Try.results72 Try.ntmps72 rfl rfl rfl (by simp [AV.ids, AV0.ids, Atom.ids]) rfl (fun w0 T B E0 hB => ?_)
    refine SX.goP ?_
    exact retG (ResOK.agg5 rfl rfl rfl) (AV0.imp.refl _)
  | true =>
    have g0 := isS_lt h0
    rw [if_pos rfl]
    refine RK_ins (by omega) ?_
    show RK _ _ (bodyG l S (l.length + 1) [] (a + 1) (o + 1))
    generalize hR : bodyG l S (l.length + 1) [] (a + 1) (o + 1) = R
    show PureOK _ _ _ _
    refine PureOK.fnF Try.func72 Try.results72 Try.ntmps72 rfl rfl rfl (by simp [AV.ids, AV0.ids, Atom.ids]) rfl (fun w0 T B E0 hB => ?_)
    refine SX.goP ?_
    refine W.loop (fun q : RBo => bodyG l S q.f q.ks q.a (o + 1) = R ∧ m + 1 ≤ q.a ∧ q.a ≤ l.length ∧ o + 1 + (l.length - q.a) ≤ 600 ∧ l.length < q.a + q.f ∧ q.ks.length ≤ q.a) (fun q => [(0, .r (rowR 3 tokC l)), (1, .v (.int .i64 (q.a : Int))), (4, .ptr 4 0), (5, .ptr 5 0)]) (fun q => [(4, GZ), (5, NG 22 100), (100, NR q.ks)]) (fun q => l.length + 1 - q.a) ⟨[], a + 1, l.length + 1⟩ ⟨hR, by dsimp only; exact ⟨by omega, by omega, by omega, by omega, Nat.zero_le _⟩⟩ (fun q hq => ?_)
      (by
        refine SX.St.le_to [(100, none)] (by intro b h; cases h) ?_ ?_ rfl
        · repeat (first | exact trivial | refine ⟨⟨_, rfl, SX.AVto.same rfl⟩, ?_⟩)
        · exact ⟨SX.EntTo.same rfl rfl, EntTo.node rfl rfl (AtomTo.nil rfl), SX.EntTo.nilRow rfl, trivial⟩)
    obtain ⟨qk, qa, qf⟩ := q
    dsimp only at hq
    obtain ⟨hq1, b1, b2, b3, b4, b5⟩ := hq
    obtain ⟨qf, rfl⟩ : ∃ k, qf = k + 1 := ⟨qf - 1, by omega⟩
    unfold bodyG at hq1
    show WP _ _ _ (mkSt [(0, .r (rowR 3 tokC l)), (1, .v (.int .i64 (qa : Int))), (4, .ptr 4 0), (5, .ptr 5 0)] [(4, GZ), (5, NG 22 100), (100, NR qk)]) _
    cases ht : isS l qa [125] with
    | true =>
      have g5 := isS_lt ht
      rw [if_pos ht] at hq1
      refine SX.goP ?_
      subst hq1
      refine RetF.frz 100 ?_
      exact retG (ResOK.agg5 rfl rfl rfl) (imp_okk rfl rfl rfl rfl rfl)
    | false =>
      rw [if_neg (by rw [ht]; decide)] at hq1
      have h3 := hs qa (o + 1) b1 b2 b3
      have h4 := hA qa (o + 1) b1 b2
      cases hr2 : S qa (o + 1) with
      | bad c p k a2 o2 =>
        rw [hr2] at h3 hq1
        have c3 := h3.bad
        refine SX.goP ?_
        subst hq1
        exact retG (ResOK.agg5 rfl rfl rfl) (AV0.imp.refl _)
      | ok k a2 =>
        rw [hr2] at h3 hq1 h4
        have c3 := h3.ok
        obtain ⟨j1, j2, j3⟩ := h4
        have j4 := cnt_pos k
        refine SX.goP ?_
        exact W.next ⟨qk ++ [k], a2, qf⟩ ⟨hq1, by dsimp only; exact ⟨by omega, by omega, by omega, by omega, by simp; omega⟩⟩ (by dsimp only; omega)
          (by
            refine SX.St.le_to [(100, some 32)] (by intro b h; cases h) ?_ ?_ rfl
            · repeat (first | exact trivial | refine ⟨⟨_, rfl, SX.AVto.same rfl⟩, ?_⟩)
            · exact ⟨SX.EntTo.same rfl rfl, EntTo.node rfl rfl (AtomTo.own rfl), SX.EntTo.row rfl rfl (by simp) (flat_snoc (ndC_eq' _).symm), trivial⟩)
theorem r_cond {l : List Tok} {m : Nat} {X S : Gr} (hl : l.length ≤ 1000000) (hs : ROK 60 l m X) (hA : Adv 1 l m X) (hb : ROK 72 l m S) (bA : Adv 2 l m S) : ROK 56 l m (ifG l X S) := by
  intro a o hm ha ho
  have h1 := hs a o hm ha ho
  have h2 := hA a o hm ha
  unfold ifG
  cases hr : X a o with
  | bad e p n a' o' =>
    rw [hr] at h1
    have c1 := h1.bad
    show PureOK _ _ _ _
    refine PureOK.fnF Try.func56 Try.results56 Try.ntmps56 rfl rfl rfl (by simp [AV.ids, AV0.ids, Atom.ids]) rfl (fun w0 T B E0 hB => ?_)
    refine SX.goP ?_
    exact retG (ResOK.agg5 rfl rfl rfl) (AV0.imp.refl _)
  | ok n a' =>
    rw [hr] at h1 h2
    have c1 := h1.ok
    obtain ⟨j1, j2, j3⟩ := h2
    have h3 := hb a' o (by omega) j3 (by omega)
    have h4 := bA a' o (by omega) j3
    dsimp only
    cases hr2 : S a' o with
    | bad e p b a2 o2 =>
      rw [hr2] at h3
      have c2 := h3.bad
      show PureOK _ _ _ _
      refine PureOK.fnF Try.func56 Try.results56 Try.ntmps56 rfl rfl rfl (by simp [AV.ids, AV0.ids, Atom.ids]) rfl (fun w0 T B E0 hB => ?_)
      refine SX.goP ?_
      exact retG (ResOK.agg5 rfl rfl rfl) (imp_bad rfl rfl rfl rfl)
    | ok b a2 =>
      rw [hr2] at h3 h4
      have c2 := h3.ok
      obtain ⟨i1, i2, i3⟩ := h4
      dsimp only
      cases ht : isS l a2 [101, 108, 115, 101] with
      | false =>
        rw [if_neg (by decide)]
        show PureOK _ _ _ _
        refine PureOK.fnF Try.func56 Try.results56 Try.ntmps56 rfl rfl rfl (by simp [AV.ids, AV0.ids, Atom.ids]) rfl (fun w0 T B E0 hB => ?_)
        refine SX.goP ?_
        exact retG (ResOK.agg5 rfl rfl rfl) (imp_okk rfl rfl rfl rfl (by first | (simp only [List.flatMap_cons, List.flatMap_nil, ndC_eq', List.append_nil, List.append_assoc]; done) | (simp only [List.flatMap_cons, List.flatMap_nil, ndC_eq', List.append_nil, List.append_assoc]; rfl)))
      | true =>
        rw [if_pos rfl]
        have g6 := isS_lt ht
        have h5 := hb (a2 + 1) o (by omega) (by omega) (by omega)
        cases hr3 : S (a2 + 1) o with
        | bad e p c a3 o3 =>
          rw [hr3] at h5
          have c4 := h5.bad
          show PureOK _ _ _ _
          refine PureOK.fnF Try.func56 Try.results56 Try.ntmps56 rfl rfl rfl (by simp [AV.ids, AV0.ids, Atom.ids]) rfl (fun w0 T B E0 hB => ?_)
          refine SX.goP ?_
          exact retG (ResOK.agg5 rfl rfl rfl) (imp_bad rfl rfl rfl rfl)
        | ok c a3 =>
          rw [hr3] at h5
          have c4 := h5.ok
          show PureOK _ _ _ _
          refine PureOK.fnF Try.func56 Try.results56 Try.ntmps56 rfl rfl rfl (by simp [AV.ids, AV0.ids, Atom.ids]) rfl (fun w0 T B E0 hB => ?_)
          refine SX.goP ?_
          exact retG (ResOK.agg5 rfl rfl rfl) (imp_okk rfl rfl rfl rfl (by first | (simp only [List.flatMap_cons, List.flatMap_nil, ndC_eq', List.append_nil, List.append_assoc]; done) | (simp only [List.flatMap_cons, List.flatMap_nil, ndC_eq', List.append_nil, List.append_assoc]; rfl)))
theorem r_loop {l : List Tok} {m : Nat} {X S : Gr} (hl : l.length ≤ 1000000) (hs : ROK 60 l m X) (hA : Adv 1 l m X) (hb : ROK 72 l m S) : ROK 57 l m (forG l X S) := by
  intro a o hm ha ho
  unfold forG
  cases hn : isNm l a with
  | false =>
    rw [if_neg (by decide)]
    show PureOK _ _ _ _
    refine PureOK.fnF Try.func57 Try.results57 Try.ntmps57 rfl rfl rfl (by simp [AV.ids, AV0.ids, Atom.ids]) rfl (fun w0 T B E0 hB => ?_)
    refine SX.goP ?_
    exact retG (ResOK.agg5 rfl rfl rfl) (AV0.imp.refl _)
  | true =>
    rw [if_pos rfl]
    have g6 := isNm_lt hn
    obtain ⟨t, hg⟩ : ∃ t, l[a]? = some t := ⟨_, List.getElem?_eq_getElem g6⟩
    have hv : txt l a = t.text := by unfold txt; rw [hg]
    rw [hv]
    cases ht : isS l (a + 1) [61] with
    | false =>
      rw [if_neg (by decide)]
      show PureOK _ _ _ _
      refine PureOK.fnF Try.func57 Try.results57 Try.ntmps57 rfl rfl rfl (by simp [AV.ids, AV0.ids, Atom.ids]) rfl (fun w0 T B E0 hB => ?_)
      refine SX.goP ?_
      exact retG (ResOK.agg5 rfl rfl rfl) (AV0.imp.refl _)
    | true =>
      rw [if_pos rfl]
      have g7 := isS_lt ht
      have h1 := hs (a + 2) o (by omega) (by omega) (by omega)
      have h2 := hA (a + 2) o (by omega) (by omega)
      cases hr : X (a + 2) o with
      | bad e p n a' o' =>
        rw [hr] at h1
        have c1 := h1.bad
        have c2 := c_thenB l p [46, 46]
        show PureOK _ _ _ _
        refine PureOK.fnF Try.func57 Try.results57 Try.ntmps57 rfl rfl rfl (by simp [AV.ids, AV0.ids, Atom.ids]) rfl (fun w0 T B E0 hB => ?_)
        refine SX.goP ?_
        exact retG (ResOK.agg5 rfl rfl rfl) (AV0.imp.refl _)
      | ok n a' =>
        rw [hr] at h1 h2
        have c1 := h1.ok
        obtain ⟨j1, j2, j3⟩ := h2
        dsimp only
        cases ht2 : isS l a' [46, 46] with
        | false =>
          rw [if_neg (by decide)]
          have c2 := c_thenF n ht2
          show PureOK _ _ _ _
          refine PureOK.fnF Try.func57 Try.results57 Try.ntmps57 rfl rfl rfl (by simp [AV.ids, AV0.ids, Atom.ids]) rfl (fun w0 T B E0 hB => ?_)
          refine SX.goP ?_
          exact retG (ResOK.agg5 rfl rfl rfl) (AV0.imp.refl _)
        | true =>
          rw [if_pos rfl]
          have c2 := c_thenT n hl ht2
          have g8 := isS_lt ht2
          have h3 := hs (a' + 1) o (by omega) (by omega) (by omega)
          have h4 := hA (a' + 1) o (by omega) (by omega)
          cases hr2 : X (a' + 1) o with
          | bad e p n2 a2 o2 =>
            rw [hr2] at h3
            have c3 := h3.bad
            show PureOK _ _ _ _
            refine PureOK.fnF Try.func57 Try.results57 Try.ntmps57 rfl rfl rfl (by simp [AV.ids, AV0.ids, Atom.ids]) rfl (fun w0 T B E0 hB => ?_)
            refine SX.goP ?_
            exact retG (ResOK.agg5 rfl rfl rfl) (AV0.imp.refl _)
          | ok n2 a2 =>
            rw [hr2] at h3 h4
            have c3 := h3.ok
            obtain ⟨i1, i2, i3⟩ := h4
            have h5 := hb a2 o (by omega) i3 (by omega)
            dsimp only
            cases hr3 : S a2 o with
            | bad e p c a3 o3 =>
              rw [hr3] at h5
              have c4 := h5.bad
              show PureOK _ _ _ _
              refine PureOK.fnF Try.func57 Try.results57 Try.ntmps57 rfl rfl rfl (by simp [AV.ids, AV0.ids, Atom.ids]) rfl (fun w0 T B E0 hB => ?_)
              refine SX.goP ?_
              exact retG (ResOK.agg5 rfl rfl rfl) (imp_bad rfl rfl rfl rfl)
            | ok c a3 =>
              rw [hr3] at h5
              have c4 := h5.ok
              show PureOK _ _ _ _
              refine PureOK.fnF Try.func57 Try.results57 Try.ntmps57 rfl rfl rfl (by simp [AV.ids, AV0.ids, Atom.ids]) rfl (fun w0 T B E0 hB => ?_)
              refine SX.goP ?_
              exact retG (ResOK.agg5 rfl rfl rfl) (imp_okk rfl rfl rfl rfl (by first | (simp only [List.flatMap_cons, List.flatMap_nil, ndC_eq', List.append_nil, List.append_assoc]; done) | (simp only [List.flatMap_cons, List.flatMap_nil, ndC_eq', List.append_nil, List.append_assoc]; rfl)))
theorem r_st {l : List Tok} {m : Nat} {X S : Gr} (hl : l.length ≤ 1000000) (hs : ROK 60 l m X) (hA : Adv 1 l m X) (hb : ROK 72 l (m + 1) S) (bA : Adv 2 l (m + 1) S) : ROK 38 l m (stG l X S) := by
  intro a o hm ha ho
  have hs' : ROK 60 l (m + 1) X := fun a o hm ha => hs a o (by omega) ha
  have hA' : Adv 1 l (m + 1) X := fun a o hm ha => hA a o (by omega) ha
  unfold stG
  cases h1 : isS l a [105, 102] with
  | true =>
    rw [if_pos rfl]
    have g5 := isS_lt h1
    have h2 := r_cond hl hs' hA' hb bA (a + 1) o (by omega) (by omega) (by omega)
    generalize ifG l X S (a + 1) o = R at h2
    cases R with
    | bad e p n a' o' =>
      have c1 := h2.bad
      show PureOK _ _ _ _
      refine PureOK.fnF Try.func38 Try.results38 Try.ntmps38 rfl rfl rfl (by simp [AV.ids, AV0.ids, Atom.ids]) rfl (fun w0 T B E0 hB => ?_)
      refine SX.goP ?_
      exact retG (ResOK.agg5 rfl rfl rfl) (AV0.imp.refl _)
    | ok n a' =>
      have c1 := h2.ok
      show PureOK _ _ _ _
      refine PureOK.fnF Try.func38 Try.results38 Try.ntmps38 rfl rfl rfl (by simp [AV.ids, AV0.ids, Atom.ids]) rfl (fun w0 T B E0 hB => ?_)
      refine SX.goP ?_
      exact retG (ResOK.agg5 rfl rfl rfl) (AV0.imp.refl _)
  | false =>
    rw [if_neg (by decide)]
    cases h2 : isS l a [102, 111, 114] with
    | true =>
      rw [if_pos rfl]
      have g5 := isS_lt h2
      have h3 := r_loop hl hs' hA' hb (a + 1) o (by omega) (by omega) (by omega)
      generalize forG l X S (a + 1) o = R at h3
      cases R with
      | bad e p n a' o' =>
        have c1 := h3.bad
        show PureOK _ _ _ _
        refine PureOK.fnF Try.func38 Try.results38 Try.ntmps38 rfl rfl rfl (by simp [AV.ids, AV0.ids, Atom.ids]) rfl (fun w0 T B E0 hB => ?_)
        refine SX.goP ?_
        exact retG (ResOK.agg5 rfl rfl rfl) (AV0.imp.refl _)
      | ok n a' =>
        have c1 := h3.ok
        show PureOK _ _ _ _
        refine PureOK.fnF Try.func38 Try.results38 Try.ntmps38 rfl rfl rfl (by simp [AV.ids, AV0.ids, Atom.ids]) rfl (fun w0 T B E0 hB => ?_)
        refine SX.goP ?_
        exact retG (ResOK.agg5 rfl rfl rfl) (AV0.imp.refl _)
    | false =>
      rw [if_neg (by decide)]
      cases hn : isNm l a && isS l (a + 1) [61] with
      | true =>
        rw [if_pos rfl]
        rw [Bool.and_eq_true] at hn
        obtain ⟨hn, he⟩ := hn
        have g6 := isNm_lt hn
        have g7 := isS_lt he
        obtain ⟨t, hg⟩ : ∃ t, l[a]? = some t := ⟨_, List.getElem?_eq_getElem g6⟩
        have hv : txt l a = t.text := by unfold txt; rw [hg]
        rw [hv]
        have h3 := hs (a + 2) o (by omega) (by omega) (by omega)
        cases hr : X (a + 2) o with
        | bad e p n a' o' =>
          rw [hr] at h3
          have c1 := h3.bad
          have c2 := c_thenB l p [59]
          show PureOK _ _ _ _
          refine PureOK.fnF Try.func38 Try.results38 Try.ntmps38 rfl rfl rfl (by simp [AV.ids, AV0.ids, Atom.ids]) rfl (fun w0 T B E0 hB => ?_)
          refine SX.goP ?_
          exact retG (ResOK.agg5 rfl rfl rfl) (imp_bad rfl rfl rfl rfl)
        | ok n a' =>
          rw [hr] at h3
          have c1 := h3.ok
          unfold thenS mapR
          dsimp only
          cases ht2 : isS l a' [59] with
          | true =>
            rw [if_pos rfl]
            have c2 := c_thenT n hl ht2
            show PureOK _ _ _ _
            refine PureOK.fnF Try.func38 Try.results38 Try.ntmps38 rfl rfl rfl (by simp [AV.ids, AV0.ids, Atom.ids]) rfl (fun w0 T B E0 hB => ?_)
            refine SX.goP ?_
            exact retG (ResOK.agg5 rfl rfl rfl) (imp_okk rfl rfl rfl rfl (by first | (simp only [List.flatMap_cons, List.flatMap_nil, ndC_eq', List.append_nil, List.append_assoc]; done) | (simp only [List.flatMap_cons, List.flatMap_nil, ndC_eq', List.append_nil, List.append_assoc]; rfl)))
          | false =>
            rw [if_neg (by decide)]
            have c2 := c_thenF n ht2
            show PureOK _ _ _ _
            refine PureOK.fnF Try.func38 Try.results38 Try.ntmps38 rfl rfl rfl (by simp [AV.ids, AV0.ids, Atom.ids]) rfl (fun w0 T B E0 hB => ?_)
            refine SX.goP ?_
            exact retG (ResOK.agg5 rfl rfl rfl) (imp_bad rfl rfl rfl rfl)
      | false =>
        rw [if_neg (by decide)]
        have h3 := hs a o (by omega) (by omega) (by omega)
        have key : ∀ r R, RK 60 [.r (rowR 3 tokC l), .v (.int .i64 (a : Int))] r → thenS l (mapR (fun n => .mk 19 [] [n]) r) o [59] = R → RK 38 [.r (rowR 3 tokC l), .v (.int .i64 (a : Int))] R := by
          intro r R h3 hR
          have hc : (isNm l a = false) ∨ (isNm l a = true ∧ isS l (a + 1) [61] = false) := by
            cases h : isNm l a with
            | false => exact .inl rfl
            | true => rw [h] at hn; exact .inr ⟨rfl, by simpa using hn⟩
          cases r with
          | bad e p n a' o' =>
            have c1 := h3.bad
            have c2 := c_thenB l p [59]
            subst hR
            show PureOK _ _ _ _
            rcases hc with hn0 | ⟨hn0, hn1⟩
            · refine PureOK.fnF Try.func38 Try.results38 Try.ntmps38 rfl rfl rfl (by simp [AV.ids, AV0.ids, Atom.ids]) rfl (fun w0 T B E0 hB => ?_)
              refine SX.goP ?_
              exact retG (ResOK.agg5 rfl rfl rfl) (imp_bad rfl rfl rfl rfl)
            · have g6 := isNm_lt hn0
              refine PureOK.fnF Try.func38 Try.results38 Try.ntmps38 rfl rfl rfl (by simp [AV.ids, AV0.ids, Atom.ids]) rfl (fun w0 T B E0 hB => ?_)
              refine SX.goP ?_
              exact retG (ResOK.agg5 rfl rfl rfl) (imp_bad rfl rfl rfl rfl)
          | ok n a' =>
            have c1 := h3.ok
            unfold thenS mapR at hR
            dsimp only at hR
            cases ht2 : isS l a' [59] with
            | true =>
              rw [if_pos ht2] at hR
              have c2 := c_thenT n hl ht2
              subst hR
              show PureOK _ _ _ _
              rcases hc with hn0 | ⟨hn0, hn1⟩
              · refine PureOK.fnF Try.func38 Try.results38 Try.ntmps38 rfl rfl rfl (by simp [AV.ids, AV0.ids, Atom.ids]) rfl (fun w0 T B E0 hB => ?_)
                refine SX.goP ?_
                exact retG (ResOK.agg5 rfl rfl rfl) (imp_okk rfl rfl rfl rfl (by first | (simp only [List.flatMap_cons, List.flatMap_nil, ndC_eq', List.append_nil, List.append_assoc]; done) | (simp only [List.flatMap_cons, List.flatMap_nil, ndC_eq', List.append_nil, List.append_assoc]; rfl)))
              · have g6 := isNm_lt hn0
                refine PureOK.fnF Try.func38 Try.results38 Try.ntmps38 rfl rfl rfl (by simp [AV.ids, AV0.ids, Atom.ids]) rfl (fun w0 T B E0 hB => ?_)
                refine SX.goP ?_
                exact retG (ResOK.agg5 rfl rfl rfl) (imp_okk rfl rfl rfl rfl (by first | (simp only [List.flatMap_cons, List.flatMap_nil, ndC_eq', List.append_nil, List.append_assoc]; done) | (simp only [List.flatMap_cons, List.flatMap_nil, ndC_eq', List.append_nil, List.append_assoc]; rfl)))
            | false =>
              rw [if_neg (by rw [ht2]; decide)] at hR
              have c2 := c_thenF n ht2
              subst hR
              show PureOK _ _ _ _
              rcases hc with hn0 | ⟨hn0, hn1⟩
              · refine PureOK.fnF Try.func38 Try.results38 Try.ntmps38 rfl rfl rfl (by simp [AV.ids, AV0.ids, Atom.ids]) rfl (fun w0 T B E0 hB => ?_)
                refine SX.goP ?_
                exact retG (ResOK.agg5 rfl rfl rfl) (imp_bad rfl rfl rfl rfl)
              · have g6 := isNm_lt hn0
                refine PureOK.fnF Try.func38 Try.results38 Try.ntmps38 rfl rfl rfl (by simp [AV.ids, AV0.ids, Atom.ids]) rfl (fun w0 T B E0 hB => ?_)
                refine SX.goP ?_
                exact retG (ResOK.agg5 rfl rfl rfl) (imp_bad rfl rfl rfl rfl)
        exact key _ _ h3 rfl
theorem r_slev {l : List Tok} (hl : l.length ≤ 1000000) : ∀ (n m : Nat), l.length + 1 ≤ m + n → ROK 38 l m (slev 600 l n)
  | 0, m, h => fun a o hm ha => by omega
  | n + 1, m, h => r_st hl (fun a o hm ha ho => (r_lev hl (l.length + 1) m (by omega)).1 a o hm ha ho) (fun a o hm ha => (adv_lev 600 l (l.length + 1) m (by omega)).1 a o hm ha) (r_block hl (fun a o hm ha ho => r_slev hl n (m + 1) (by omega) a o (by omega) ha ho) (fun a o hm ha => adv_slev 600 l n (m + 1) (by omega) a o (by omega) ha)) (adv_blk fun a o hm ha => adv_slev 600 l n (m + 1) (by omega) a o (by omega) ha)
/-- What a program of the reference comes to. -/
def progQ : Res → List Nd × Int
  | .ok n _ => (n.kids, -1)
  | .bad _ p _ _ _ => ([], (p : Int))
theorem r_Program {l : List Tok} (hl : l.length ≤ 600) : PureOK Try.prog 23 [.r (rowR 3 tokC l)] (.tup [.one (.c (.sat (rowR 3 ndC (progQ (progR l)).1))), .one (.c (.val (.int .i64 (progQ (progR l)).2)))]) := by
  have hs := r_slev (l := l) (by omega) (l.length + 1) 0 (by omega)
  have hA := adv_slev 600 l (l.length + 1) 0 (by omega)
  unfold progR
  generalize slev 600 l (l.length + 1) = S at hs hA
  generalize hR : progG l S (l.length + 1) [] 0 0 = R
  refine PureOK.fnF Try.func23 Try.results23 Try.ntmps23 rfl rfl rfl (by simp [AV.ids, AV0.ids, Atom.ids]) rfl (fun w0 T B E0 hB => ?_)
  refine SX.goP ?_
  refine W.loop (fun q : RBo => progG l S q.f q.ks q.a 0 = R ∧ q.a ≤ l.length ∧ l.length < q.a + q.f ∧ q.ks.length ≤ q.a) (fun q => [(0, .r (rowR 3 tokC l)), (4, .own 100), (5, .v (.int .i64 (q.a : Int)))]) (fun q => [(100, NR q.ks)]) (fun q => l.length + 1 - q.a) ⟨[], 0, l.length + 1⟩ ⟨hR, by dsimp only; exact ⟨by omega, by omega, Nat.zero_le _⟩⟩ (fun q hq => ?_)
  obtain ⟨qk, qa, qf⟩ := q
  dsimp only at hq
  obtain ⟨hq1, b2, b4, b5⟩ := hq
  obtain ⟨qf, rfl⟩ : ∃ k, qf = k + 1 := ⟨qf - 1, by omega⟩
  unfold progG at hq1
  show WP _ _ _ (mkSt [(0, .r (rowR 3 tokC l)), (4, .own 100), (5, .v (.int .i64 (qa : Int)))] [(100, NR qk)]) _
  by_cases hlt : qa < l.length
  · rw [if_pos hlt] at hq1
    have h3 := hs qa 0 (by omega) b2 (by omega)
    have h4 := hA qa 0 (by omega) b2
    cases hr2 : S qa 0 with
    | bad c p k a2 o2 =>
      rw [hr2] at h3 hq1
      have c3 := h3.bad
      refine SX.goP ?_
      subst hq1
      exact ret2' (ResOK.tmp rfl) (ResOK.tmp rfl) imp_nil (AV0.imp.refl _)
    | ok k a2 =>
      rw [hr2] at h3 hq1 h4
      have c3 := h3.ok
      obtain ⟨j1, j2, j3⟩ := h4
      have j4 := cnt_pos k
      refine SX.goP ?_
      exact W.next ⟨qk ++ [k], a2, qf⟩ ⟨hq1, by dsimp only; exact ⟨by omega, by omega, by simp; omega⟩⟩ (by dsimp only; omega)
        (by
          refine SX.St.le_to [(100, some 23)] (by intro b h; cases h) ?_ ?_ rfl
          · repeat (first | exact trivial | refine ⟨⟨_, rfl, SX.AVto.same rfl⟩, ?_⟩ | refine ⟨⟨_, rfl, SX.AVto.own rfl⟩, ?_⟩)
          · exact ⟨SX.EntTo.row rfl rfl (by simp) (flat_snoc (ndC_eq' _).symm), trivial⟩)
  · rw [if_neg hlt] at hq1
    refine SX.goP ?_
    subst hq1
    refine RetF.frz 100 ?_
    exact ret2' (ResOK.tmp rfl) (ResOK.tmp rfl) (AV0.imp.refl _) (AV0.imp.refl _)
end Go.Proofs.Ytaocklkbijkhpaa

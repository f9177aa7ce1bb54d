import Derived.Test.YtaocklkbijkhpaaHh
/- Reference 28 in the symbolic run: lists, matrices, what binds most, items. -/
set_option linter.unusedVariables false
set_option linter.unusedSimpArgs false
namespace Go.Proofs.Ytaocklkbijkhpaa
open Go.RowKit SX
attribute [local irreducible] IntKind.wrap Go1 Reg WP thenK inBlk retQ retF RetF RetOK ResOK CallOK OpOK Sat
structure RLi where
  ks : List Nd
  a : Nat
  n : Nat
  f : Nat
theorem r_list {l : List Tok} {m : Nat} {X : Gr} {e : List UInt8} (hl : l.length ≤ 1000000) (hs : ROK 60 l m X) (hA : Adv 1 l m X) {a o : Nat} (hm : m ≤ a) (ha : a ≤ l.length) (ho : o + (l.length - a) ≤ 600) :
    RK 97 [.r (rowR 3 tokC l), .v (.int .i64 (a : Int)), .v (str e), .v (.bool false)] (listE l X e a o) := by
  unfold listE
  cases h0 : isS l a e with
  | true =>
    rw [if_pos rfl]
    have g5 := isS_lt h0
    show PureOK _ _ _ _
    refine PureOK.fnF Try.func97 Try.results97 Try.ntmps97 rfl rfl rfl (by simp [AV.ids, AV0.ids, Atom.ids]) rfl (fun w0 T B E0 hB => ?_)
    refine SX.goP ?_
    exact retG (ResOK.agg5 rfl rfl rfl) (imp_ok0 rfl rfl rfl)
  | false =>
    rw [if_neg (by decide)]
    generalize hR : listG l X e (l.length + 1) [] a o = R
    show PureOK _ _ _ _
    refine PureOK.fnF Try.func97 Try.results97 Try.ntmps97 rfl rfl rfl (by simp [AV.ids, AV0.ids, Atom.ids]) rfl (fun w0 T B E0 hB => ?_)
    refine SX.goP ?_
    refine W.loop (fun q : RLi => listG l X e q.f q.ks q.a o = R ∧ m ≤ q.a ∧ q.a ≤ l.length ∧ o + (l.length - q.a) ≤ 600 ∧ q.n + q.f = l.length + 1 ∧ q.n ≤ q.a ∧ q.ks.length ≤ q.a) (fun q => [(0, .r (rowR 3 tokC l)), (1, .v (.int .i64 (q.a : Int))), (2, .v (str e)), (8, .ptr 8 0), (9, .own 100), (10, .v (.int .i64 (q.n : Int)))]) (fun q => [(8, GZ), (100, NR q.ks)]) (fun q => q.f) ⟨[], a, 0, l.length + 1⟩ ⟨hR, by dsimp only; exact ⟨by omega, by omega, by omega, by omega, by omega, Nat.zero_le _⟩⟩ (fun q hq => ?_)
    obtain ⟨qk, qa, qn, qf⟩ := q
    dsimp only at hq
    obtain ⟨hq1, b1, b2, b3, b4, b5, b6⟩ := hq
    obtain ⟨qf, rfl⟩ : ∃ k, qf = k + 1 := ⟨qf - 1, by omega⟩
    show WP _ _ _ (mkSt [(0, .r (rowR 3 tokC l)), (1, .v (.int .i64 (qa : Int))), (2, .v (str e)), (8, .ptr 8 0), (9, .own 100), (10, .v (.int .i64 (qn : Int)))] [(8, GZ), (100, NR qk)]) _
    unfold listG at hq1
    have h3 := hs qa o b1 b2 b3
    have h4 := hA qa o b1 b2
    cases hr2 : X qa o with
    | bad c p k a2 o2 =>
      rw [hr2] at h3 hq1
      have c3 := h3.bad
      refine SX.goP ?_
      subst hq1
      exact retG (ResOK.agg5 rfl rfl rfl) (imp_bad rfl rfl rfl rfl)
    | ok k a2 =>
      rw [hr2] at h3 hq1 h4
      have c3 := h3.ok
      obtain ⟨j1, j2, j3⟩ := h4
      have j4 := cnt_pos k
      dsimp only at hq1
      cases ht : isS l a2 e with
      | true =>
        rw [if_pos ht] at hq1
        refine SX.goP ?_
        subst hq1
        refine RetF.frz 40 ?_
        exact retG (ResOK.agg5 rfl rfl rfl) (imp_okk rfl rfl rfl (by simp) (flat_snoc (ndC_eq' _).symm))
      | false =>
        rw [if_neg (by rw [ht]; decide)] at hq1
        cases ht2 : isS l a2 [44] with
        | true =>
          have g5 := isS_lt ht2
          rw [if_pos ht2] at hq1
          refine SX.goP ?_
          exact W.next ⟨qk ++ [k], a2 + 1, qn + 1, qf⟩ ⟨hq1, by dsimp only; exact ⟨by omega, by omega, by omega, by omega, by omega, by simp; omega⟩⟩ (by dsimp only; omega)
            (by
              refine SX.St.le_to [(100, some 40)] (by intro b h; cases h) ?_ ?_ rfl
              · repeat (first | exact trivial | refine ⟨⟨_, rfl, SX.AVto.same rfl⟩, ?_⟩ | refine ⟨⟨_, rfl, SX.AVto.own rfl⟩, ?_⟩)
              · exact ⟨SX.EntTo.same rfl rfl, SX.EntTo.row rfl rfl (by simp) (flat_snoc (ndC_eq' _).symm), trivial⟩)
        | false =>
          rw [if_neg (by rw [ht2]; decide)] at hq1
          refine SX.goP ?_
          subst hq1
          exact retG (ResOK.agg5 rfl rfl rfl) (imp_bad rfl rfl rfl rfl)
theorem is_bool {l : List Tok} {a : Nat} {s : List UInt8} {b : Bool} (h : isS l a s = b) : PureOK Try.prog 55 [.r (rowR 3 tokC l), .v (.int .i64 (a : Int)), .v (str s)] (.v (.bool b)) := by rw [← h]; exact Con.use trivial
/-- A list bears no text. -/
def NoT : Res → Prop
  | .ok n _ => n.text = []
  | .bad _ _ _ _ _ => True
theorem listG_text {l : List Tok} {X : Gr} {e : List UInt8} : ∀ (f : Nat) (ks : List Nd) (a o : Nat), NoT (listG l X e f ks a o)
  | 0, ks, a, o => trivial
  | f + 1, ks, a, o => by
    unfold listG
    cases X a o with
    | bad c p n a' o' => trivial
    | ok n a' =>
      dsimp only
      split
      · rfl
      · split
        · exact listG_text f _ _ _
        · trivial
theorem list_text {l : List Tok} {X : Gr} {e : List UInt8} {a o : Nat} : NoT (listE l X e a o) := by
  unfold listE
  split
  · rfl
  · exact listG_text _ _ _ _
theorem isS_ne {l : List Tok} {a : Nat} {s s' : List UInt8} (h : isS l a s = true) (hn : s ≠ s') : isS l a s' = false := by
  unfold isS at *
  cases ht : l[a]? with
  | none => rfl
  | some t =>
    rw [ht] at h
    dsimp only at *
    simp at h
    simp [h.2, hn]
structure RMa where
  rs : List Nd
  r : List Nd
  a : Nat
  n : Nat
  f : Nat
theorem r_mat {l : List Tok} {m : Nat} {X : Gr} (hl : l.length ≤ 1000000) (hs : ROK 60 l m X) (hA : Adv 1 l m X) {a o : Nat} (hm : m ≤ a) (ha : a ≤ l.length) (ho : o + (l.length - a) ≤ 600) :
    RK 98 [.r (rowR 3 tokC l), .v (.int .i64 (a : Int))] (matG l X (l.length + 1) [] [] a o) := by
  generalize hR : matG l X (l.length + 1) [] [] a o = R
  show PureOK _ _ _ _
  refine PureOK.fnF Try.func98 Try.results98 Try.ntmps98 rfl rfl rfl (by simp [AV.ids, AV0.ids, Atom.ids]) rfl (fun w0 T B E0 hB => ?_)
  refine SX.goP ?_
  refine W.loop (fun q : RMa => matG l X q.f q.rs q.r q.a o = R ∧ m ≤ q.a ∧ q.a ≤ l.length ∧ o + (l.length - q.a) ≤ 600 ∧ q.n + q.f = l.length + 1 ∧ q.n ≤ q.a ∧ q.rs.length + q.r.length ≤ q.a) (fun q => [(0, .r (rowR 3 tokC l)), (1, .v (.int .i64 (q.a : Int))), (4, .ptr 4 0), (5, .ptr 5 0), (6, .ptr 6 0), (7, .v (.int .i64 (q.n : Int)))]) (fun q => [(4, GZ), (5, NG 14 100), (6, NG 15 101), (100, NR q.rs), (101, NR q.r)]) (fun q => q.f) ⟨[], [], a, 0, l.length + 1⟩ ⟨hR, by dsimp only; exact ⟨by omega, by omega, by omega, by omega, by omega, Nat.zero_le _⟩⟩ (fun q hq => ?_)
    (by
      refine SX.St.le_to [(100, none), (101, none)] (by intro b h; cases h) ?_ ?_ rfl
      · repeat (first | exact trivial | refine ⟨⟨_, rfl, SX.AVto.same rfl⟩, ?_⟩)
      · exact ⟨SX.EntTo.same rfl rfl, EntTo.node rfl rfl (AtomTo.nil rfl), EntTo.node rfl rfl (AtomTo.nil rfl), SX.EntTo.nilRow rfl, SX.EntTo.nilRow rfl, trivial⟩)
  obtain ⟨rs, r, qa, qn, qf⟩ := q
  dsimp only at hq
  obtain ⟨hq1, b1, b2, b3, b4, b5, b6⟩ := hq
  obtain ⟨qf, rfl⟩ : ∃ k, qf = k + 1 := ⟨qf - 1, by omega⟩
  show WP _ _ _ (mkSt [(0, .r (rowR 3 tokC l)), (1, .v (.int .i64 (qa : Int))), (4, .ptr 4 0), (5, .ptr 5 0), (6, .ptr 6 0), (7, .v (.int .i64 (qn : Int)))] [(4, GZ), (5, NG 14 100), (6, NG 15 101), (100, NR rs), (101, NR r)]) _
  unfold matG at hq1
  have h3 := hs qa o b1 b2 b3
  have h4 := hA qa o b1 b2
  cases hr2 : X qa o with
  | bad c p k a2 o2 =>
    rw [hr2] at h3 hq1
    have c3 := h3.bad
    refine SX.goP ?_
    subst hq1
    exact retG (ResOK.agg5 rfl rfl rfl) (imp_bad rfl rfl rfl rfl)
  | ok k a2 =>
    rw [hr2] at h3 hq1 h4
    have c3 := h3.ok
    obtain ⟨j1, j2, j3⟩ := h4
    have j4 := cnt_pos k
    dsimp only at hq1
    cases ht : isS l a2 [44] with
    | true =>
      have g5 := isS_lt ht
      rw [if_pos ht] at hq1
      have ht3 : isS l a2 [93] = false := isS_ne ht (by decide)
      refine SX.goP ?_
      exact W.next ⟨rs, r ++ [k], a2 + 1, qn + 1, qf⟩ ⟨hq1, by dsimp only; exact ⟨by omega, by omega, by omega, by omega, by omega, by simp; omega⟩⟩ (by dsimp only; omega)
        (by
          refine SX.St.le_to [(100, some 100), (101, some 29)] (by intro b h; cases h) ?_ ?_ rfl
          · repeat (first | exact trivial | refine ⟨⟨_, rfl, SX.AVto.same rfl⟩, ?_⟩)
          · exact ⟨SX.EntTo.same rfl rfl, EntTo.node rfl rfl (AtomTo.own rfl), EntTo.node rfl rfl (AtomTo.own rfl), SX.EntTo.row rfl rfl rfl rfl, SX.EntTo.row rfl rfl (by simp) (flat_snoc (ndC_eq' _).symm), trivial⟩)
    | false =>
      rw [if_neg (by rw [ht]; decide)] at hq1
      obtain ⟨bb, hbb⟩ : ∃ b, Hide (b = true) := ⟨_, ⟨rfl⟩⟩
      have c3' : PureOK Try.prog 60 [.r (rowR 3 tokC l), .v (.int .i64 (qa : Int))] (.agg [.c (.val (.int .i64 (k.op : Int))), .c (.val (str k.text)), .c (.sat (rowR 3 ndC k.kids)), .c (.val (.int .i64 (a2 : Int))), .c (.val (.bool bb))]) := by rw [hbb.out]; exact c3
      clear c3
      refine SX.goP ?_
      refine W.condF ?_ rfl (SX.not_f hbb.out)
      refine SX.WP.skip ?_
      refine SX.thenN ?_
      refine SX.WP.seq ?_
      refine SX.WP.regionL ?_
      refine SX.goR ?_
      refine SX.Reg.nil ?_
      refine SX.thenN ?_
      refine WP.freeze 29 hB rfl ?_
      have i1 := is_bool (l := l) (a := a2) ht
      have i0 : PureOK Try.prog 73 [.v (.int .i64 (a2 : Int))] (.agg (gbad a2)) := Con.use trivial
      cases ht2 : isS l a2 [59] with
      | true =>
        have g5 := isS_lt ht2
        rw [if_pos ht2] at hq1
        have ht3 : isS l a2 [93] = false := isS_ne ht2 (by decide)
        have i2 := is_bool (l := l) (a := a2) ht2
        have i3 := is_bool (l := l) (a := a2) ht3
        refine SX.goP ?_
        exact W.next ⟨rs ++ [.mk 15 [] (r ++ [k])], [], a2 + 1, qn + 1, qf⟩ ⟨hq1, by dsimp only; exact ⟨by omega, by omega, by omega, by omega, by omega, by simp; omega⟩⟩ (by dsimp only; omega)
          (by
            refine SX.St.le_to [(100, some 62), (101, none)] (by intro b h; cases h) ?_ ?_ rfl
            · repeat (first | exact trivial | refine ⟨⟨_, rfl, SX.AVto.same rfl⟩, ?_⟩)
            · exact ⟨SX.EntTo.same rfl rfl, EntTo.node rfl rfl (AtomTo.own rfl), EntTo.node rfl rfl (AtomTo.nil rfl), SX.EntTo.row rfl rfl (by simp) (flat_snoc (nd_rowS r k)), SX.EntTo.nilRow rfl, trivial⟩)
      | false =>
        rw [if_neg (by rw [ht2]; decide)] at hq1
        have i2 := is_bool (l := l) (a := a2) ht2
        cases ht3 : isS l a2 [93] with
        | true =>
          have g5 := isS_lt ht3
          have i3 := is_bool (l := l) (a := a2) ht3
          rw [if_pos ht3] at hq1
          refine SX.goP ?_
          subst hq1
          refine RetF.frz 62 ?_
          exact retG (ResOK.agg5 rfl rfl rfl) (imp_okk rfl rfl rfl (by simp) (flat_snoc (nd_rowS r k)))
        | false =>
          have i3 := is_bool (l := l) (a := a2) ht3
          rw [if_neg (by rw [ht3]; decide)] at hq1
          refine SX.goP ?_
          subst hq1
          exact retG (ResOK.agg5 rfl rfl rfl) (imp_bad rfl rfl rfl rfl)
theorem RK_ins {K : Nat} {f : FuncId} {args : List AV} {g : Gr} {a o : Nat} (hk : o + 1 ≤ K) (h : RK f args (g a (o + 1))) : RK f args (ins K g a o) := by
  unfold ins
  rw [if_neg (by omega)]
  cases hr : g a (o + 1) with
  | ok n a' => rw [hr] at h; exact h
  | bad e p n a' o' => rw [hr] at h; exact h
theorem r_first {l : List Tok} {m : Nat} {X : Gr} (hl : l.length ≤ 1000000) (hs : ROK 60 l (m + 1) X) (hA : Adv 1 l (m + 1) X) : ROK 94 l m (primG 600 l X) := by
  intro a o hm ha ho
  unfold primG
  cases hg : l[a]? with
  | none =>
    have hge : l.length ≤ a := List.getElem?_eq_none_iff.1 hg
    show PureOK _ _ _ _
    refine PureOK.fnF Try.func94 Try.results94 Try.ntmps94 rfl rfl rfl (by simp [AV.ids, AV0.ids, Atom.ids]) rfl (fun w0 T B E0 hB => ?_)
    refine SX.goP ?_
    exact retG (ResOK.agg5 rfl rfl rfl) (AV0.imp.refl _)
  | some t =>
    have hlt : a < l.length := (List.getElem?_eq_some_iff.1 hg).1
    dsimp only
    by_cases hk : t.kind = 1
    · rw [if_pos hk]
      show PureOK _ _ _ _
      refine PureOK.fnF Try.func94 Try.results94 Try.ntmps94 rfl rfl rfl (by simp [AV.ids, AV0.ids, Atom.ids]) rfl (fun w0 T B E0 hB => ?_)
      refine SX.goP ?_
      exact retG (ResOK.agg5 rfl rfl rfl) (imp_ok0 rfl rfl rfl)
    · rw [if_neg hk]
      cases hn : isNm l a with
      | true =>
        rw [if_pos rfl]
        cases ht : isS l (a + 1) [40] with
        | true =>
          have g5 := isS_lt ht
          rw [if_pos rfl]
          have h1 := r_list (e := [41]) hl hs hA (a := a + 2) (o := o + 1) (by omega) (by omega) (by omega)
          refine RK_ins (by omega) ?_
          cases hr : listE l X [41] (a + 2) (o + 1) with
          | bad e p n a' o' =>
            rw [hr] at h1
            have c3 := h1.bad
            show PureOK _ _ _ _
            refine PureOK.fnF Try.func94 Try.results94 Try.ntmps94 rfl rfl rfl (by simp [AV.ids, AV0.ids, Atom.ids]) rfl (fun w0 T B E0 hB => ?_)
            refine SX.goP ?_
            exact retG (ResOK.agg5 rfl rfl rfl) (imp_bad rfl rfl rfl rfl)
          | ok n a' =>
            rw [hr] at h1
            have c3 := h1.ok
            show PureOK _ _ _ _
            refine PureOK.fnF Try.func94 Try.results94 Try.ntmps94 rfl rfl rfl (by simp [AV.ids, AV0.ids, Atom.ids]) rfl (fun w0 T B E0 hB => ?_)
            refine SX.goP ?_
            exact retG (ResOK.agg5 rfl rfl rfl) (AV0.imp.refl _)
        | false =>
          rw [if_neg (by decide)]
          show PureOK _ _ _ _
          refine PureOK.fnF Try.func94 Try.results94 Try.ntmps94 rfl rfl rfl (by simp [AV.ids, AV0.ids, Atom.ids]) rfl (fun w0 T B E0 hB => ?_)
          refine SX.goP ?_
          exact retG (ResOK.agg5 rfl rfl rfl) (imp_ok0 rfl rfl rfl)
      | false =>
        rw [if_neg (by decide)]
        cases ht : isS l a [40] with
        | true =>
          rw [if_pos rfl]
          have h1 := hs (a + 1) (o + 1) (by omega) (by omega) (by omega)
          refine RK_ins (by omega) ?_
          cases hr : X (a + 1) (o + 1) with
          | bad e p n a' o' =>
            rw [hr] at h1
            have c3 := h1.bad
            have c4 := c_thenB l p [41]
            show PureOK _ _ _ _
            refine PureOK.fnF Try.func94 Try.results94 Try.ntmps94 rfl rfl rfl (by simp [AV.ids, AV0.ids, Atom.ids]) rfl (fun w0 T B E0 hB => ?_)
            refine SX.goP ?_
            exact retG (ResOK.agg5 rfl rfl rfl) (AV0.imp.refl _)
          | ok n a' =>
            rw [hr] at h1
            have c3 := h1.ok
            unfold thenS
            dsimp only
            cases ht2 : isS l a' [41] with
            | true =>
              have c4 := c_thenT n hl ht2
              rw [if_pos rfl]
              show PureOK _ _ _ _
              refine PureOK.fnF Try.func94 Try.results94 Try.ntmps94 rfl rfl rfl (by simp [AV.ids, AV0.ids, Atom.ids]) rfl (fun w0 T B E0 hB => ?_)
              refine SX.goP ?_
              exact retG (ResOK.agg5 rfl rfl rfl) (AV0.imp.refl _)
            | false =>
              have c4 := c_thenF n ht2
              rw [if_neg (by decide)]
              show PureOK _ _ _ _
              refine PureOK.fnF Try.func94 Try.results94 Try.ntmps94 rfl rfl rfl (by simp [AV.ids, AV0.ids, Atom.ids]) rfl (fun w0 T B E0 hB => ?_)
              refine SX.goP ?_
              exact retG (ResOK.agg5 rfl rfl rfl) (AV0.imp.refl _)
        | false =>
          rw [if_neg (by decide)]
          cases ht2 : isS l a [91] with
          | true =>
            rw [if_pos rfl]
            have h1 := r_mat hl hs hA (a := a + 1) (o := o + 1) (by omega) (by omega) (by omega)
            refine RK_ins (by omega) ?_
            cases hr : matG l X (l.length + 1) [] [] (a + 1) (o + 1) with
            | bad e p n a' o' =>
              rw [hr] at h1
              have c3 := h1.bad
              show PureOK _ _ _ _
              refine PureOK.fnF Try.func94 Try.results94 Try.ntmps94 rfl rfl rfl (by simp [AV.ids, AV0.ids, Atom.ids]) rfl (fun w0 T B E0 hB => ?_)
              refine SX.goP ?_
              exact retG (ResOK.agg5 rfl rfl rfl) (AV0.imp.refl _)
            | ok n a' =>
              rw [hr] at h1
              have c3 := h1.ok
              show PureOK _ _ _ _
              refine PureOK.fnF Try.func94 Try.results94 Try.ntmps94 rfl rfl rfl (by simp [AV.ids, AV0.ids, Atom.ids]) rfl (fun w0 T B E0 hB => ?_)
              refine SX.goP ?_
              exact retG (ResOK.agg5 rfl rfl rfl) (AV0.imp.refl _)
          | false =>
            rw [if_neg (by decide)]
            cases ht3 : isS l a [123] with
            | true =>
              rw [if_pos rfl]
              have h1 := r_list (e := [125]) hl hs hA (a := a + 1) (o := o + 1) (by omega) (by omega) (by omega)
              refine RK_ins (by omega) ?_
              have hB2 := list_text (l := l) (X := X) (e := [125]) (a := a + 1) (o := o + 1)
              cases hr : listE l X [125] (a + 1) (o + 1) with
              | bad e p n a' o' =>
                rw [hr] at h1
                have c3 := h1.bad
                show PureOK _ _ _ _
                refine PureOK.fnF Try.func94 Try.results94 Try.ntmps94 rfl rfl rfl (by simp [AV.ids, AV0.ids, Atom.ids]) rfl (fun w0 T B E0 hB => ?_)
                refine SX.goP ?_
                exact retG (ResOK.agg5 rfl rfl rfl) (imp_bad rfl rfl rfl rfl)
              | ok n a' =>
                rw [hr] at h1 hB2
                have c3 := h1.ok
                have hB2 : n.text = [] := hB2
                show PureOK _ _ _ _
                refine PureOK.fnF Try.func94 Try.results94 Try.ntmps94 rfl rfl rfl (by simp [AV.ids, AV0.ids, Atom.ids]) rfl (fun w0 T B E0 hB => ?_)
                refine SX.goP ?_
                exact retG (ResOK.agg5 rfl rfl rfl) (imp_okk rfl hB2 rfl rfl rfl)
            | false =>
              rw [if_neg (by decide)]
              show PureOK _ _ _ _
              refine PureOK.fnF Try.func94 Try.results94 Try.ntmps94 rfl rfl rfl (by simp [AV.ids, AV0.ids, Atom.ids]) rfl (fun w0 T B E0 hB => ?_)
              refine SX.goP ?_
              exact retG (ResOK.agg5 rfl rfl rfl) (AV0.imp.refl _)
end Go.Proofs.Ytaocklkbijkhpaa

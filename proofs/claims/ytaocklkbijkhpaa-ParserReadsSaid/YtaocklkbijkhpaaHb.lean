import Derived.Test.YtaocklkbijkhpaaH9
/- Package parser in the symbolic run: statements. -/
set_option linter.unusedVariables false
set_option linter.unusedSimpArgs false
namespace Go.Proofs.Ytaocklkbijkhpaa
open Go.RowKit SX
attribute [local irreducible] IntKind.wrap Go1 Reg WP thenK inBlk retQ retF RetF RetOK ResOK CallOK OpOK Sat
theorem g_if {l : List Tok} {m : Nat} {X S : Gr} (hl : l.length ≤ 1000000) (hs : GOK 50 l m X) (hA : Adv 1 l m X) (hb : GOK 51 l m S) (bA : Adv 2 l m S) {a o : Nat} (hm : m ≤ a + 1) (ha : a ≤ l.length) (ho : o ≤ 600) (hi : isS l a [105, 102] = true) :
    CR rNd 37 [.ptr 29 0] [] l a o (ifG l X S (a + 1) o) := by
  have mark : OwnLit 14 := ⟨⟩
  have g5 := isS_lt hi
  have k1 := c_takeT o hl hi
  have h1 := hs (a + 1) o hm (by omega) ho
  have h2 := hA (a + 1) o hm (by omega)
  unfold ifG
  cases hr : X (a + 1) o with
  | bad e p n a' o' =>
    rw [hr] at h1 h2
    have k2 := h1.bad
    obtain ⟨j1, j2⟩ := h2
    have k3 := c_blkE l a' (o := o') e p (by omega)
    have k4 := c_takeE l a' (o' + 1) e p [101, 108, 115, 101]
    show CallOK _ _ _ _ _
    refine CallOK.fnF Try.func37 Try.results37 Try.ntmps37 rfl rfl rfl rfl (fun w0 T B E0 hB => ?_)
    refine SX.goP ?_
    refine RetF.frzP 21 (ps := [29]) ?_
    exact retNd (ResOK.agg3 rfl rfl rfl) (imp_ndk rfl rfl rfl (by first | (simp only [List.flatMap_cons, List.flatMap_nil, ndC_eq', List.append_nil, List.append_assoc]; done) | (simp only [List.flatMap_cons, List.flatMap_nil, ndC_eq', List.append_nil, List.append_assoc]; rfl))) ⟨rfl, trivial⟩
  | ok n a' =>
    rw [hr] at h1 h2
    have k2 := h1.ok
    obtain ⟨j1, j2, j3⟩ := h2
    have h3 := hb a' o (by omega) j3 ho
    have h4 := bA a' o (by omega) j3
    dsimp only
    cases hr2 : S a' o with
    | bad e p b a2 o2 =>
      rw [hr2] at h3
      have k3 := h3.bad
      have k4 := c_takeE l a2 o2 e p [101, 108, 115, 101]
      show CallOK _ _ _ _ _
      refine CallOK.fnF Try.func37 Try.results37 Try.ntmps37 rfl rfl rfl rfl (fun w0 T B E0 hB => ?_)
      refine SX.goP ?_
      refine RetF.frzP 21 (ps := [29]) ?_
      exact retNd (ResOK.agg3 rfl rfl rfl) (imp_ndk rfl rfl rfl (by first | (simp only [List.flatMap_cons, List.flatMap_nil, ndC_eq', List.append_nil, List.append_assoc]; done) | (simp only [List.flatMap_cons, List.flatMap_nil, ndC_eq', List.append_nil, List.append_assoc]; rfl))) ⟨rfl, trivial⟩
    | ok b a2 =>
      rw [hr2] at h3 h4
      have k3 := h3.ok
      obtain ⟨i1, i2, i3⟩ := h4
      dsimp only
      cases ht : isS l a2 [101, 108, 115, 101] with
      | false =>
        rw [if_neg (by decide)]
        have k4 := c_takeF o ht
        show CallOK _ _ _ _ _
        refine CallOK.fnF Try.func37 Try.results37 Try.ntmps37 rfl rfl rfl rfl (fun w0 T B E0 hB => ?_)
        refine SX.goP ?_
        refine RetF.frzP 21 (ps := [29]) ?_
        exact retNd (ResOK.agg3 rfl rfl rfl) (imp_ndk rfl rfl rfl (by first | (simp only [List.flatMap_cons, List.flatMap_nil, ndC_eq', List.append_nil, List.append_assoc]; done) | (simp only [List.flatMap_cons, List.flatMap_nil, ndC_eq', List.append_nil, List.append_assoc]; rfl))) ⟨rfl, trivial⟩
      | true =>
        rw [if_pos rfl]
        have k4 := c_takeT o hl ht
        have g6 := isS_lt ht
        have h5 := hb (a2 + 1) o (by omega) (by omega) ho
        cases hr3 : S (a2 + 1) o with
        | bad e p c a3 o3 =>
          rw [hr3] at h5
          have k5 := h5.bad
          show CallOK _ _ _ _ _
          refine CallOK.fnF Try.func37 Try.results37 Try.ntmps37 rfl rfl rfl rfl (fun w0 T B E0 hB => ?_)
          refine SX.goP ?_
          refine RetF.frzP 30 (ps := [29]) ?_
          exact retNd (ResOK.agg3 rfl rfl rfl) (imp_ndk rfl rfl rfl (by first | (simp only [List.flatMap_cons, List.flatMap_nil, ndC_eq', List.append_nil, List.append_assoc]; done) | (simp only [List.flatMap_cons, List.flatMap_nil, ndC_eq', List.append_nil, List.append_assoc]; rfl))) ⟨rfl, trivial⟩
        | ok c a3 =>
          rw [hr3] at h5
          have k5 := h5.ok
          show CallOK _ _ _ _ _
          refine CallOK.fnF Try.func37 Try.results37 Try.ntmps37 rfl rfl rfl rfl (fun w0 T B E0 hB => ?_)
          refine SX.goP ?_
          refine RetF.frzP 30 (ps := [29]) ?_
          exact retNd (ResOK.agg3 rfl rfl rfl) (imp_ndk rfl rfl rfl (by first | (simp only [List.flatMap_cons, List.flatMap_nil, ndC_eq', List.append_nil, List.append_assoc]; done) | (simp only [List.flatMap_cons, List.flatMap_nil, ndC_eq', List.append_nil, List.append_assoc]; rfl))) ⟨rfl, trivial⟩
theorem g_for {l : List Tok} {m : Nat} {X S : Gr} (hl : l.length ≤ 1000000) (hs : GOK 50 l m X) (hA : Adv 1 l m X) (hb : GOK 51 l m S) {a o : Nat} (hm : m ≤ a + 1) (ha : a ≤ l.length) (ho : o ≤ 600) (hf : isS l a [105, 102] = false) (hi : isS l a [102, 111, 114] = true) :
    CR rNd 37 [.ptr 29 0] [] l a o (forG l X S (a + 1) o) := by
  have g5 := isS_lt hi
  have k0 := c_takeF o hf
  have k1 := c_takeT o hl hi
  unfold forG
  cases hn : isNm l (a + 1) with
  | false =>
    rw [if_neg (by decide)]
    have k2 := c_nameF o hn
    have k3 := c_mustE l (a + 1) o 4 (a + 1) [61]
    have k4 := ge_expr (l := l) (a + 1) o 4 (a + 1)
    have k5 := c_mustE l (a + 1) o 4 (a + 1) [46, 46]
    have k6 := c_blkE l (a + 1) (o := o) 4 (a + 1) (by omega)
    show CallOK _ _ _ _ _
    refine CallOK.fnF Try.func37 Try.results37 Try.ntmps37 rfl rfl rfl rfl (fun w0 T B E0 hB => ?_)
    refine SX.goP ?_
    exact retNd (ResOK.agg3 rfl rfl rfl) (imp_ndk rfl rfl rfl (by first | (simp only [List.flatMap_cons, List.flatMap_nil, ndC_eq', List.append_nil, List.append_assoc]; done) | (simp only [List.flatMap_cons, List.flatMap_nil, ndC_eq', List.append_nil, List.append_assoc]; rfl))) ⟨rfl, trivial⟩
  | true =>
    rw [if_pos rfl]
    have k2 := c_nameT o hl hn
    have g6 := isNm_lt hn
    cases ht : isS l (a + 1 + 1) [61] with
    | false =>
      rw [if_neg (by decide)]
      have k3 := c_mustF o ht
      have k4 := ge_expr (l := l) (a + 1 + 1) o 4 (a + 1 + 1)
      have k5 := c_mustE l (a + 1 + 1) o 4 (a + 1 + 1) [46, 46]
      have k6 := c_blkE l (a + 1 + 1) (o := o) 4 (a + 1 + 1) (by omega)
      show CallOK _ _ _ _ _
      refine CallOK.fnF Try.func37 Try.results37 Try.ntmps37 rfl rfl rfl rfl (fun w0 T B E0 hB => ?_)
      refine SX.goP ?_
      exact retNd (ResOK.agg3 rfl rfl rfl) (imp_ndk rfl rfl rfl (by first | (simp only [List.flatMap_cons, List.flatMap_nil, ndC_eq', List.append_nil, List.append_assoc]; done) | (simp only [List.flatMap_cons, List.flatMap_nil, ndC_eq', List.append_nil, List.append_assoc]; rfl))) ⟨rfl, trivial⟩
    | true =>
      rw [if_pos rfl]
      have k3 := c_mustT o hl ht
      have g7 := isS_lt ht
      have h1 := hs (a + 1 + 2) o (by omega) (by omega) ho
      have h2 := hA (a + 1 + 2) o (by omega) (by omega)
      cases hr : X (a + 1 + 2) o with
      | bad e p n a' o' =>
        rw [hr] at h1 h2
        have k4 := h1.bad
        obtain ⟨j1, j2⟩ := h2
        have k5 := c_mustE l a' o' e p [46, 46]
        have k6 := ge_expr (l := l) a' o' e p
        have k7 := c_blkE l a' (o := o') e p (by omega)
        show CallOK _ _ _ _ _
        refine CallOK.fnF Try.func37 Try.results37 Try.ntmps37 rfl rfl rfl rfl (fun w0 T B E0 hB => ?_)
        refine SX.goP ?_
        exact retNd (ResOK.agg3 rfl rfl rfl) (imp_ndk rfl rfl rfl (by first | (simp only [List.flatMap_cons, List.flatMap_nil, ndC_eq', List.append_nil, List.append_assoc]; done) | (simp only [List.flatMap_cons, List.flatMap_nil, ndC_eq', List.append_nil, List.append_assoc]; rfl))) ⟨rfl, trivial⟩
      | ok n a' =>
        rw [hr] at h1 h2
        have k4 := h1.ok
        obtain ⟨j1, j2, j3⟩ := h2
        dsimp only
        cases ht2 : isS l a' [46, 46] with
        | false =>
          rw [if_neg (by decide)]
          have k5 := c_mustF o ht2
          have k6 := ge_expr (l := l) a' o 4 a'
          have k7 := c_blkE l a' (o := o) 4 a' (by omega)
          show CallOK _ _ _ _ _
          refine CallOK.fnF Try.func37 Try.results37 Try.ntmps37 rfl rfl rfl rfl (fun w0 T B E0 hB => ?_)
          refine SX.goP ?_
          exact retNd (ResOK.agg3 rfl rfl rfl) (imp_ndk rfl rfl rfl (by first | (simp only [List.flatMap_cons, List.flatMap_nil, ndC_eq', List.append_nil, List.append_assoc]; done) | (simp only [List.flatMap_cons, List.flatMap_nil, ndC_eq', List.append_nil, List.append_assoc]; rfl))) ⟨rfl, trivial⟩
        | true =>
          rw [if_pos rfl]
          have k5 := c_mustT o hl ht2
          have g8 := isS_lt ht2
          have h3 := hs (a' + 1) o (by omega) (by omega) ho
          have h4 := hA (a' + 1) o (by omega) (by omega)
          cases hr2 : X (a' + 1) o with
          | bad e p n2 a2 o2 =>
            rw [hr2] at h3 h4
            have k6 := h3.bad
            obtain ⟨j1, j2⟩ := h4
            have k7 := c_blkE l a2 (o := o2) e p (by omega)
            show CallOK _ _ _ _ _
            refine CallOK.fnF Try.func37 Try.results37 Try.ntmps37 rfl rfl rfl rfl (fun w0 T B E0 hB => ?_)
            refine SX.goP ?_
            exact retNd (ResOK.agg3 rfl rfl rfl) (imp_ndk rfl rfl rfl (by first | (simp only [List.flatMap_cons, List.flatMap_nil, ndC_eq', List.append_nil, List.append_assoc]; done) | (simp only [List.flatMap_cons, List.flatMap_nil, ndC_eq', List.append_nil, List.append_assoc]; rfl))) ⟨rfl, trivial⟩
          | ok n2 a2 =>
            rw [hr2] at h3 h4
            have k6 := h3.ok
            obtain ⟨i1, i2, i3⟩ := h4
            dsimp only
            have h5 := hb a2 o (by omega) i3 ho
            cases hr3 : S a2 o with
            | bad e p c a3 o3 =>
              rw [hr3] at h5
              have k7 := h5.bad
              show CallOK _ _ _ _ _
              refine CallOK.fnF Try.func37 Try.results37 Try.ntmps37 rfl rfl rfl rfl (fun w0 T B E0 hB => ?_)
              refine SX.goP ?_
              exact retNd (ResOK.agg3 rfl rfl rfl) (imp_ndk rfl rfl rfl (by first | (simp only [List.flatMap_cons, List.flatMap_nil, ndC_eq', List.append_nil, List.append_assoc]; done) | (simp only [List.flatMap_cons, List.flatMap_nil, ndC_eq', List.append_nil, List.append_assoc]; rfl))) ⟨rfl, trivial⟩
            | ok c a3 =>
              rw [hr3] at h5
              have k7 := h5.ok
              show CallOK _ _ _ _ _
              refine CallOK.fnF Try.func37 Try.results37 Try.ntmps37 rfl rfl rfl rfl (fun w0 T B E0 hB => ?_)
              refine SX.goP ?_
              exact retNd (ResOK.agg3 rfl rfl rfl) (imp_ndk rfl rfl rfl (by first | (simp only [List.flatMap_cons, List.flatMap_nil, ndC_eq', List.append_nil, List.append_assoc]; done) | (simp only [List.flatMap_cons, List.flatMap_nil, ndC_eq', List.append_nil, List.append_assoc]; rfl))) ⟨rfl, trivial⟩
/-- No numeral is an equals sign. -/
def HT (l : List Tok) : Prop := ∀ (i : Nat) (t : Tok), l[i]? = some t → t.text = [61] → t.kind ≠ 1
theorem isS_eq {l : List Tok} (hT : HT l) {a : Nat} {t : Tok} (ht : l[a]? = some t) : isS l a [61] = decide (t.text = [61]) := by
  unfold isS
  rw [ht]
  dsimp only
  by_cases h : t.text = [61]
  · simp [h, hT a t ht h]
  · simp [h]
theorem g_let {l : List Tok} {m : Nat} {X : Gr} (hl : l.length ≤ 1000000) (hT : HT l) (hs : GOK 50 l m X) (hA : Adv 1 l m X) {a o : Nat} (hm : m ≤ a + 2) (ha : a ≤ l.length) (ho : o ≤ 600) (hf : isS l a [105, 102] = false) (hi : isS l a [102, 111, 114] = false) (hn : isNm l a = true) (he : isS l (a + 1) [61] = true) :
    CR rNd 37 [.ptr 29 0] [] l a o (thenS l (mapR (fun n => .mk 18 (txt l a) [n]) (X (a + 2) o)) o [59]) := by
  have k0 := c_takeF o hf
  have k1 := c_takeF o hi
  have k2 := c_namedG l a o
  rw [hn] at k2
  have k3 := c_nameT o hl hn
  have k4 := c_mustT o hl he
  have g5 := isS_lt he
  obtain ⟨⟨tk, tt, tp⟩, ht⟩ : ∃ t, l[a + 1]? = some t := ⟨_, List.getElem?_eq_getElem g5⟩
  rw [isS_eq hT ht] at he
  dsimp only at he
  have h1 := hs (a + 2) o (by omega) (by omega) ho
  cases hr : X (a + 2) o with
  | bad e p n a' o' =>
    rw [hr] at h1
    have k5 := h1.bad
    have k6 := c_mustE l a' o' e p [59]
    show CallOK _ _ _ _ _
    refine CallOK.fnF Try.func37 Try.results37 Try.ntmps37 rfl rfl rfl rfl (fun w0 T B E0 hB => ?_)
    refine SX.goP ?_
    exact retNd (ResOK.agg3 rfl rfl rfl) (imp_ndk rfl rfl rfl (by first | (simp only [List.flatMap_cons, List.flatMap_nil, ndC_eq', List.append_nil, List.append_assoc]; done) | (simp only [List.flatMap_cons, List.flatMap_nil, ndC_eq', List.append_nil, List.append_assoc]; rfl))) ⟨rfl, trivial⟩
  | ok n a' =>
    rw [hr] at h1
    have k5 := h1.ok
    unfold thenS mapR
    dsimp only
    cases ht2 : isS l a' [59] with
    | true =>
      rw [if_pos rfl]
      have k6 := c_mustT o hl ht2
      show CallOK _ _ _ _ _
      refine CallOK.fnF Try.func37 Try.results37 Try.ntmps37 rfl rfl rfl rfl (fun w0 T B E0 hB => ?_)
      refine SX.goP ?_
      exact retNd (ResOK.agg3 rfl rfl rfl) (imp_ndk rfl rfl rfl (by first | (simp only [List.flatMap_cons, List.flatMap_nil, ndC_eq', List.append_nil, List.append_assoc]; done) | (simp only [List.flatMap_cons, List.flatMap_nil, ndC_eq', List.append_nil, List.append_assoc]; rfl))) ⟨rfl, trivial⟩
    | false =>
      rw [if_neg (by decide)]
      have k6 := c_mustF o ht2
      show CallOK _ _ _ _ _
      refine CallOK.fnF Try.func37 Try.results37 Try.ntmps37 rfl rfl rfl rfl (fun w0 T B E0 hB => ?_)
      refine SX.goP ?_
      exact retNd (ResOK.agg3 rfl rfl rfl) (imp_ndk rfl rfl rfl (by first | (simp only [List.flatMap_cons, List.flatMap_nil, ndC_eq', List.append_nil, List.append_assoc]; done) | (simp only [List.flatMap_cons, List.flatMap_nil, ndC_eq', List.append_nil, List.append_assoc]; rfl))) ⟨rfl, trivial⟩
theorem g_show {l : List Tok} {m : Nat} {X : Gr} (hl : l.length ≤ 1000000) (hT : HT l) (hs : GOK 50 l m X) {a o : Nat} (hm : m ≤ a) (ha : a ≤ l.length) (ho : o ≤ 600) (hf : isS l a [105, 102] = false) (hi : isS l a [102, 111, 114] = false) (hn : (isNm l a && isS l (a + 1) [61]) = false) :
    CR rNd 37 [.ptr 29 0] [] l a o (thenS l (mapR (fun n => .mk 19 [] [n]) (X a o)) o [59]) := by
  have k0 := c_takeF o hf
  have k1 := c_takeF o hi
  have k2 := c_namedG l a o
  have h1 := hs a o hm ha ho
  -- what is behind, whatever it be
  have key : ∀ {n a' o'} {b : Option (Nat × Nat)}, CallOK Try.prog 50 [.ptr 29 0] [(29, PG l a o)] ⟨rNd n, [(29, .ent (PS l a' o' b))]⟩ → ∀ {a2 o2 b2}, CallOK Try.prog 53 [.ptr 29 0, .v (str [59])] [(29, PS l a' o' b)] ⟨.tup [], [(29, .ent (PS l a2 o2 b2))]⟩ →
      CallOK Try.prog 37 [.ptr 29 0] [(29, PG l a o)] ⟨rNd (.mk 19 [] [n]), [(29, .ent (PS l a2 o2 b2))]⟩ := by
    intro n a' o' b k5 a2 o2 b2 k6
    cases hn1 : isNm l a with
    | false =>
      rw [hn1] at k2
      show CallOK _ _ _ _ _
      refine CallOK.fnF Try.func37 Try.results37 Try.ntmps37 rfl rfl rfl rfl (fun w0 T B E0 hB => ?_)
      refine SX.goP ?_
      exact retNd (ResOK.agg3 rfl rfl rfl) (imp_ndk rfl rfl rfl (by first | (simp only [List.flatMap_cons, List.flatMap_nil, ndC_eq', List.append_nil, List.append_assoc]; done) | (simp only [List.flatMap_cons, List.flatMap_nil, ndC_eq', List.append_nil, List.append_assoc]; rfl))) ⟨rfl, trivial⟩
    | true =>
      rw [hn1] at k2 hn
      have he : isS l (a + 1) [61] = false := by simpa using hn
      by_cases hlt : a + 1 < l.length
      · obtain ⟨⟨tk, tt, tp⟩, ht⟩ : ∃ t, l[a + 1]? = some t := ⟨_, List.getElem?_eq_getElem hlt⟩
        rw [isS_eq hT ht] at he
        dsimp only at he
        show CallOK _ _ _ _ _
        refine CallOK.fnF Try.func37 Try.results37 Try.ntmps37 rfl rfl rfl rfl (fun w0 T B E0 hB => ?_)
        refine SX.goP ?_
        exact retNd (ResOK.agg3 rfl rfl rfl) (imp_ndk rfl rfl rfl (by first | (simp only [List.flatMap_cons, List.flatMap_nil, ndC_eq', List.append_nil, List.append_assoc]; done) | (simp only [List.flatMap_cons, List.flatMap_nil, ndC_eq', List.append_nil, List.append_assoc]; rfl))) ⟨rfl, trivial⟩
      · have g6 := isNm_lt hn1
        show CallOK _ _ _ _ _
        refine CallOK.fnF Try.func37 Try.results37 Try.ntmps37 rfl rfl rfl rfl (fun w0 T B E0 hB => ?_)
        refine SX.goP ?_
        exact retNd (ResOK.agg3 rfl rfl rfl) (imp_ndk rfl rfl rfl (by first | (simp only [List.flatMap_cons, List.flatMap_nil, ndC_eq', List.append_nil, List.append_assoc]; done) | (simp only [List.flatMap_cons, List.flatMap_nil, ndC_eq', List.append_nil, List.append_assoc]; rfl))) ⟨rfl, trivial⟩
  cases hr : X a o with
  | bad e p n a' o' =>
    rw [hr] at h1
    exact key (b := some (e, p)) h1.bad (b2 := some (e, p)) (c_mustE l a' o' e p [59])
  | ok n a' =>
    rw [hr] at h1
    unfold thenS mapR
    dsimp only
    cases ht2 : isS l a' [59] with
    | true =>
      rw [if_pos rfl]
      exact key (b := none) h1.ok (b2 := none) (c_mustT o hl ht2)
    | false =>
      rw [if_neg (by decide)]
      exact key (b := none) h1.ok (b2 := some (4, a')) (c_mustF o ht2)
theorem g_st {l : List Tok} {m : Nat} {X S : Gr} (hl : l.length ≤ 1000000) (hT : HT l) (hs : GOK 50 l m X) (hA : Adv 1 l m X) (hb : GOK 51 l (m + 1) S) (bA : Adv 2 l (m + 1) S) : GOK 37 l m (stG l X S) := by
  intro a o hm ha ho
  have hs' : GOK 50 l (m + 1) X := fun a o hm ha => hs a o (by omega) ha
  have hA' : Adv 1 l (m + 1) X := fun a o hm ha => hA a o (by omega) ha
  unfold stG
  cases h1 : isS l a [105, 102] with
  | true => exact g_if hl hs' hA' hb bA (by omega) ha ho h1
  | false =>
    cases h2 : isS l a [102, 111, 114] with
    | true => exact g_for hl hs' hA' hb (by omega) ha ho h1 h2
    | false =>
      cases h3 : isNm l a && isS l (a + 1) [61] with
      | true =>
        have h4 := h3
        rw [Bool.and_eq_true] at h4
        exact g_let hl hT hs' hA' (by omega) ha ho h1 h2 h4.1 h4.2
      | false => exact g_show hl hT hs hm ha ho h1 h2 h3
theorem g_slev {l : List Tok} (hl : l.length ≤ 1000000) (hT : HT l) : ∀ (n m : Nat), l.length + 1 ≤ m + n → GOK 37 l m (slev 600 l n)
  | 0, m, h => fun a o hm ha => by omega
  | n + 1, m, h => g_st hl hT (fun a o hm ha ho => (g_lev hl (l.length + 1) m (by omega)).1 a o hm ha ho) (fun a o hm ha => (adv_lev 600 l (l.length + 1) m (by omega)).1 a o hm ha) (g_blk hl (fun a o hm ha ho => g_slev hl hT n (m + 1) (by omega) a o (by omega) ha ho) (fun a o hm ha => adv_slev 600 l n (m + 1) (by omega) a o (by omega) ha)) (adv_blk fun a o hm ha => adv_slev 600 l n (m + 1) (by omega) a o (by omega) ha)
end Go.Proofs.Ytaocklkbijkhpaa

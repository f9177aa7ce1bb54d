import Derived.Test.YtaocklkbijkhpaaHj
/- Reference 28 in the symbolic run: chains, expressions. -/
set_option linter.unusedVariables false
set_option linter.unusedSimpArgs false
namespace Go.Proofs.Ytaocklkbijkhpaa
open Go.RowKit SX
attribute [local irreducible] IntKind.wrap Go1 Reg WP thenK inBlk retQ retF RetF RetOK ResOK CallOK OpOK Sat
structure RCh where
  r : Res
  f : Nat
def rchS (l : List Tok) (S : Gr) (s1 : List UInt8) (x : Nat) (s2 : List UInt8) (y : Nat) (o : Nat) (q : RCh) : Res := match q.r with
  | .ok n a => chainG l S s1 x s2 y q.f n a o
  | .bad e p n a o' => .bad e p n a o'
def rchA : Res → Nat
  | .ok _ a => a
  | .bad _ _ _ _ _ => 0
def rchM (l : List Tok) : Res → Nat
  | .ok _ a => l.length + 1 - a
  | .bad _ _ _ _ _ => 0
def rchO (l : List Tok) (m o f : Nat) : Res → Prop
  | .ok _ a => m ≤ a ∧ a ≤ l.length ∧ o + (l.length - a) ≤ 600 ∧ l.length < a + f
  | .bad _ _ _ _ _ => True
theorem r_product {l : List Tok} {m : Nat} {S : Gr} (hl : l.length ≤ 1000000) (hs : ROK 88 l m S) (hA : Adv 1 l m S) : ROK 83 l m (chnF l S [42] 6 [47] 7) := by
  intro a o hm ha ho
  have h1 := hs a o hm ha ho
  have h2 := hA a o hm ha
  unfold chnF
  cases hr0 : S a o with
  | bad e p n a' o' =>
    rw [hr0] at h1
    have c1 := h1.bad
    show PureOK _ _ _ _
    refine PureOK.fnF Try.func83 Try.results83 Try.ntmps83 rfl rfl rfl (by simp [AV.ids, AV0.ids, Atom.ids]) rfl (fun w0 T B E0 hB => ?_)
    refine SX.goP ?_
    refine W.loop (fun _ : Unit => True) (fun _ => [(0, .r (rowR 3 tokC l)), (4, .ptr 4 0), (5, .ptr 5 0)]) (fun _ => [(4, GZ), (5, .box 64 (gbad p))]) (fun _ => 0) () trivial (fun _ _ => ?_)
    refine SX.goP ?_
    exact retG (ResOK.agg5 rfl rfl rfl) (AV0.imp.refl _)
  | ok n a' =>
    rw [hr0] at h1 h2
    have c1 := h1.ok
    obtain ⟨g1, g2, g3⟩ := h2
    have g4 := cnt_pos n
    dsimp only
    generalize hR : chainG l S [42] 6 [47] 7 (l.length + 1) n a' o = R
    show PureOK _ _ _ _
    refine PureOK.fnF Try.func83 Try.results83 Try.ntmps83 rfl rfl rfl (by simp [AV.ids, AV0.ids, Atom.ids]) rfl (fun w0 T B E0 hB => ?_)
    refine SX.goP ?_
    refine W.loop (fun q : RCh => rchS l S [42] 6 [47] 7 o q = R ∧ rchO l m o q.f q.r) (fun _ => [(0, .r (rowR 3 tokC l)), (4, .ptr 4 0), (5, .ptr 5 0)]) (fun q => [(4, GZ), (5, GB q.r)]) (fun q => rchM l q.r) ⟨.ok n a', l.length + 1⟩ ⟨hR, by show m ≤ a' ∧ a' ≤ l.length ∧ o + (l.length - a') ≤ 600 ∧ l.length < a' + (l.length + 1); exact ⟨by omega, by omega, by omega, by omega⟩⟩ (fun q hq => ?_)
    obtain ⟨r, qf⟩ := q
    obtain ⟨hq1, hq2⟩ := hq
    cases r with
    | bad e p n a' o' =>
      show WP _ _ _ (mkSt [(0, .r (rowR 3 tokC l)), (4, .ptr 4 0), (5, .ptr 5 0)] [(4, GZ), (5, .box 64 (gbad p))]) _
      refine SX.goP ?_
      subst hq1
      exact retG (ResOK.agg5 rfl rfl rfl) (AV0.imp.refl _)
    | ok qn qa =>
      obtain ⟨b1, b2, b3, b4⟩ := hq2
      dsimp only at b4
      obtain ⟨qf, rfl⟩ : ∃ k, qf = k + 1 := ⟨qf - 1, by omega⟩
      have hq1 : chainG l S [42] 6 [47] 7 (qf + 1) qn qa o = R := hq1
      unfold chainG at hq1
      show WP _ _ _ (mkSt [(0, .r (rowR 3 tokC l)), (4, .ptr 4 0), (5, .ptr 5 0)] [(4, GZ), (5, .box 64 (gok qn qa))]) _
      cases ht : isS l qa [42] with
      | true =>
        have g5 := isS_lt ht
        rw [if_pos ht] at hq1
        have ht2 : isS l qa [47] = false := isS_ne ht (by decide)
        have h3 := hs (qa + 1) o (by omega) (by omega) (by omega)
        have h4 := hA (qa + 1) o (by omega) (by omega)
        cases hr2 : S (qa + 1) o with
        | bad e p k a2 o2 =>
          rw [hr2] at h3 hq1
          have c3 := h3.bad
          refine SX.goP ?_
          exact W.next ⟨.bad e p (.mk 6 [] [qn, k]) a2 o2, 0⟩ ⟨hq1, trivial⟩ (by show 0 < l.length + 1 - qa; omega)
            (by
              refine SX.St.le_to [] (by intro b h; cases h) ?_ ?_ rfl
              · repeat (first | exact trivial | refine ⟨⟨_, rfl, SX.AVto.same rfl⟩, ?_⟩)
              · exact ⟨SX.EntTo.same rfl rfl, SX.EntTo.box rfl (imp_bad rfl rfl rfl rfl) rfl, trivial⟩)
        | ok k a2 =>
          rw [hr2] at h3 hq1 h4
          have c3 := h3.ok
          obtain ⟨j1, j2, j3⟩ := h4
          refine SX.goP ?_
          exact W.next ⟨.ok (.mk 6 [] [qn, k]) a2, qf⟩ ⟨hq1, by show m ≤ a2 ∧ a2 ≤ l.length ∧ o + (l.length - a2) ≤ 600 ∧ l.length < a2 + qf; exact ⟨by omega, by omega, by omega, by omega⟩⟩ (by show l.length + 1 - a2 < l.length + 1 - qa; omega)
            (by
              refine SX.St.le_to [] (by intro b h; cases h) ?_ ?_ rfl
              · repeat (first | exact trivial | refine ⟨⟨_, rfl, SX.AVto.same rfl⟩, ?_⟩)
              · exact ⟨SX.EntTo.same rfl rfl, SX.EntTo.box rfl (imp_okk rfl rfl rfl rfl (by first | (simp only [List.flatMap_cons, List.flatMap_nil, ndC_eq', List.append_nil, List.append_assoc]; done) | (simp only [List.flatMap_cons, List.flatMap_nil, ndC_eq', List.append_nil, List.append_assoc]; rfl))) rfl, trivial⟩)
      | false =>
        rw [if_neg (by rw [ht]; decide)] at hq1
        cases ht2 : isS l qa [47] with
        | true =>
          have g5 := isS_lt ht2
          rw [if_pos ht2] at hq1
          have h3 := hs (qa + 1) o (by omega) (by omega) (by omega)
          have h4 := hA (qa + 1) o (by omega) (by omega)
          cases hr2 : S (qa + 1) o with
          | bad e p k a2 o2 =>
            rw [hr2] at h3 hq1
            have c3 := h3.bad
            refine SX.goP ?_
            exact W.next ⟨.bad e p (.mk 7 [] [qn, k]) a2 o2, 0⟩ ⟨hq1, trivial⟩ (by show 0 < l.length + 1 - qa; omega)
              (by
                refine SX.St.le_to [] (by intro b h; cases h) ?_ ?_ rfl
                · repeat (first | exact trivial | refine ⟨⟨_, rfl, SX.AVto.same rfl⟩, ?_⟩)
                · exact ⟨SX.EntTo.same rfl rfl, SX.EntTo.box rfl (imp_bad rfl rfl rfl rfl) rfl, trivial⟩)
          | ok k a2 =>
            rw [hr2] at h3 hq1 h4
            have c3 := h3.ok
            obtain ⟨j1, j2, j3⟩ := h4
            refine SX.goP ?_
            exact W.next ⟨.ok (.mk 7 [] [qn, k]) a2, qf⟩ ⟨hq1, by show m ≤ a2 ∧ a2 ≤ l.length ∧ o + (l.length - a2) ≤ 600 ∧ l.length < a2 + qf; exact ⟨by omega, by omega, by omega, by omega⟩⟩ (by show l.length + 1 - a2 < l.length + 1 - qa; omega)
              (by
                refine SX.St.le_to [] (by intro b h; cases h) ?_ ?_ rfl
                · repeat (first | exact trivial | refine ⟨⟨_, rfl, SX.AVto.same rfl⟩, ?_⟩)
                · exact ⟨SX.EntTo.same rfl rfl, SX.EntTo.box rfl (imp_okk rfl rfl rfl rfl (by first | (simp only [List.flatMap_cons, List.flatMap_nil, ndC_eq', List.append_nil, List.append_assoc]; done) | (simp only [List.flatMap_cons, List.flatMap_nil, ndC_eq', List.append_nil, List.append_assoc]; rfl))) rfl, trivial⟩)
        | false =>
          rw [if_neg (by rw [ht2]; decide)] at hq1
          refine SX.goP ?_
          subst hq1
          exact retG (ResOK.agg5 rfl rfl rfl) (AV0.imp.refl _)
theorem r_sum {l : List Tok} {m : Nat} {S : Gr} (hl : l.length ≤ 1000000) (hs : ROK 83 l m S) (hA : Adv 1 l m S) : ROK 74 l m (chnF l S [43] 4 [45] 5) := by
  intro a o hm ha ho
  have h1 := hs a o hm ha ho
  have h2 := hA a o hm ha
  unfold chnF
  cases hr0 : S a o with
  | bad e p n a' o' =>
    rw [hr0] at h1
    have c1 := h1.bad
    show PureOK _ _ _ _
    refine PureOK.fnF Try.func74 Try.results74 Try.ntmps74 rfl rfl rfl (by simp [AV.ids, AV0.ids, Atom.ids]) rfl (fun w0 T B E0 hB => ?_)
    refine SX.goP ?_
    refine W.loop (fun _ : Unit => True) (fun _ => [(0, .r (rowR 3 tokC l)), (4, .ptr 4 0), (5, .ptr 5 0)]) (fun _ => [(4, GZ), (5, .box 64 (gbad p))]) (fun _ => 0) () trivial (fun _ _ => ?_)
    refine SX.goP ?_
    exact retG (ResOK.agg5 rfl rfl rfl) (AV0.imp.refl _)
  | ok n a' =>
    rw [hr0] at h1 h2
    have c1 := h1.ok
    obtain ⟨g1, g2, g3⟩ := h2
    have g4 := cnt_pos n
    dsimp only
    generalize hR : chainG l S [43] 4 [45] 5 (l.length + 1) n a' o = R
    show PureOK _ _ _ _
    refine PureOK.fnF Try.func74 Try.results74 Try.ntmps74 rfl rfl rfl (by simp [AV.ids, AV0.ids, Atom.ids]) rfl (fun w0 T B E0 hB => ?_)
    refine SX.goP ?_
    refine W.loop (fun q : RCh => rchS l S [43] 4 [45] 5 o q = R ∧ rchO l m o q.f q.r) (fun _ => [(0, .r (rowR 3 tokC l)), (4, .ptr 4 0), (5, .ptr 5 0)]) (fun q => [(4, GZ), (5, GB q.r)]) (fun q => rchM l q.r) ⟨.ok n a', l.length + 1⟩ ⟨hR, by show m ≤ a' ∧ a' ≤ l.length ∧ o + (l.length - a') ≤ 600 ∧ l.length < a' + (l.length + 1); exact ⟨by omega, by omega, by omega, by omega⟩⟩ (fun q hq => ?_)
    obtain ⟨r, qf⟩ := q
    obtain ⟨hq1, hq2⟩ := hq
    cases r with
    | bad e p n a' o' =>
      show WP _ _ _ (mkSt [(0, .r (rowR 3 tokC l)), (4, .ptr 4 0), (5, .ptr 5 0)] [(4, GZ), (5, .box 64 (gbad p))]) _
      refine SX.goP ?_
      subst hq1
      exact retG (ResOK.agg5 rfl rfl rfl) (AV0.imp.refl _)
    | ok qn qa =>
      obtain ⟨b1, b2, b3, b4⟩ := hq2
      dsimp only at b4
      obtain ⟨qf, rfl⟩ : ∃ k, qf = k + 1 := ⟨qf - 1, by omega⟩
      have hq1 : chainG l S [43] 4 [45] 5 (qf + 1) qn qa o = R := hq1
      unfold chainG at hq1
      show WP _ _ _ (mkSt [(0, .r (rowR 3 tokC l)), (4, .ptr 4 0), (5, .ptr 5 0)] [(4, GZ), (5, .box 64 (gok qn qa))]) _
      cases ht : isS l qa [43] with
      | true =>
        have g5 := isS_lt ht
        rw [if_pos ht] at hq1
        have ht2 : isS l qa [45] = false := isS_ne ht (by decide)
        have h3 := hs (qa + 1) o (by omega) (by omega) (by omega)
        have h4 := hA (qa + 1) o (by omega) (by omega)
        cases hr2 : S (qa + 1) o with
        | bad e p k a2 o2 =>
          rw [hr2] at h3 hq1
          have c3 := h3.bad
          refine SX.goP ?_
          exact W.next ⟨.bad e p (.mk 4 [] [qn, k]) a2 o2, 0⟩ ⟨hq1, trivial⟩ (by show 0 < l.length + 1 - qa; omega)
            (by
              refine SX.St.le_to [] (by intro b h; cases h) ?_ ?_ rfl
              · repeat (first | exact trivial | refine ⟨⟨_, rfl, SX.AVto.same rfl⟩, ?_⟩)
              · exact ⟨SX.EntTo.same rfl rfl, SX.EntTo.box rfl (imp_bad rfl rfl rfl rfl) rfl, trivial⟩)
        | ok k a2 =>
          rw [hr2] at h3 hq1 h4
          have c3 := h3.ok
          obtain ⟨j1, j2, j3⟩ := h4
          refine SX.goP ?_
          exact W.next ⟨.ok (.mk 4 [] [qn, k]) a2, qf⟩ ⟨hq1, by show m ≤ a2 ∧ a2 ≤ l.length ∧ o + (l.length - a2) ≤ 600 ∧ l.length < a2 + qf; exact ⟨by omega, by omega, by omega, by omega⟩⟩ (by show l.length + 1 - a2 < l.length + 1 - qa; omega)
            (by
              refine SX.St.le_to [] (by intro b h; cases h) ?_ ?_ rfl
              · repeat (first | exact trivial | refine ⟨⟨_, rfl, SX.AVto.same rfl⟩, ?_⟩)
              · exact ⟨SX.EntTo.same rfl rfl, SX.EntTo.box rfl (imp_okk rfl rfl rfl rfl (by first | (simp only [List.flatMap_cons, List.flatMap_nil, ndC_eq', List.append_nil, List.append_assoc]; done) | (simp only [List.flatMap_cons, List.flatMap_nil, ndC_eq', List.append_nil, List.append_assoc]; rfl))) rfl, trivial⟩)
      | false =>
        rw [if_neg (by rw [ht]; decide)] at hq1
        cases ht2 : isS l qa [45] with
        | true =>
          have g5 := isS_lt ht2
          rw [if_pos ht2] at hq1
          have h3 := hs (qa + 1) o (by omega) (by omega) (by omega)
          have h4 := hA (qa + 1) o (by omega) (by omega)
          cases hr2 : S (qa + 1) o with
          | bad e p k a2 o2 =>
            rw [hr2] at h3 hq1
            have c3 := h3.bad
            refine SX.goP ?_
            exact W.next ⟨.bad e p (.mk 5 [] [qn, k]) a2 o2, 0⟩ ⟨hq1, trivial⟩ (by show 0 < l.length + 1 - qa; omega)
              (by
                refine SX.St.le_to [] (by intro b h; cases h) ?_ ?_ rfl
                · repeat (first | exact trivial | refine ⟨⟨_, rfl, SX.AVto.same rfl⟩, ?_⟩)
                · exact ⟨SX.EntTo.same rfl rfl, SX.EntTo.box rfl (imp_bad rfl rfl rfl rfl) rfl, trivial⟩)
          | ok k a2 =>
            rw [hr2] at h3 hq1 h4
            have c3 := h3.ok
            obtain ⟨j1, j2, j3⟩ := h4
            refine SX.goP ?_
            exact W.next ⟨.ok (.mk 5 [] [qn, k]) a2, qf⟩ ⟨hq1, by show m ≤ a2 ∧ a2 ≤ l.length ∧ o + (l.length - a2) ≤ 600 ∧ l.length < a2 + qf; exact ⟨by omega, by omega, by omega, by omega⟩⟩ (by show l.length + 1 - a2 < l.length + 1 - qa; omega)
              (by
                refine SX.St.le_to [] (by intro b h; cases h) ?_ ?_ rfl
                · repeat (first | exact trivial | refine ⟨⟨_, rfl, SX.AVto.same rfl⟩, ?_⟩)
                · exact ⟨SX.EntTo.same rfl rfl, SX.EntTo.box rfl (imp_okk rfl rfl rfl rfl (by first | (simp only [List.flatMap_cons, List.flatMap_nil, ndC_eq', List.append_nil, List.append_assoc]; done) | (simp only [List.flatMap_cons, List.flatMap_nil, ndC_eq', List.append_nil, List.append_assoc]; rfl))) rfl, trivial⟩)
        | false =>
          rw [if_neg (by rw [ht2]; decide)] at hq1
          refine SX.goP ?_
          subst hq1
          exact retG (ResOK.agg5 rfl rfl rfl) (AV0.imp.refl _)
set_option maxHeartbeats 2000000 in
theorem r_exp0 {l : List Tok} {m : Nat} {U : Gr} (hl : l.length ≤ 1000000) (hs : ROK 74 l m (sumG l U)) (hA : Adv 1 l m U) : ROK 60 l m (expG l U) := by
  intro a o hm ha ho
  have h1 := hs a o hm ha ho
  have h2 := adv_sum hA a o hm ha
  unfold expG
  cases hr : sumG l U a o with
  | bad e p n a' o' =>
    rw [hr] at h1
    have c1 := h1.bad
    show PureOK _ _ _ _
    refine PureOK.fnF Try.func60 Try.results60 Try.ntmps60 rfl rfl rfl (by simp [AV.ids, AV0.ids, Atom.ids]) rfl (fun w0 T B E0 hB => ?_)
    refine SX.goP ?_
    refine W.loop (fun _ : Unit => True) (fun _ => [(0, .r (rowR 3 tokC l)), (4, .ptr 4 0), (5, .ptr 5 0), (6, .v (.int .i64 0)), (7, .v (.int .i64 0))]) (fun _ => [(4, GZ), (5, .box 64 (gbad p))]) (fun _ => 0) () trivial (fun _ _ => ?_)
    refine SX.goP ?_
    exact retG (ResOK.agg5 rfl rfl rfl) (AV0.imp.refl _)
  | ok n a' =>
    rw [hr] at h1 h2
    have c1 := h1.ok
    obtain ⟨g1, g2, g3⟩ := h2
    dsimp only
    -- the loop over the signs, once it is known which of them stands there
    have key : ∀ c : Nat, c ≤ 4 → isS l a' [61, 61] = decide (c = 0) → isS l a' [33, 61] = decide (c = 1) → isS l a' [60] = decide (c = 2) → isS l a' [60, 61] = decide (c = 3) →
        (c < 4 → ∀ R, mapR (fun m => .mk (9 + c) [] [n, m]) (sumG l U (a' + 1) o) = R → RK 60 [.r (rowR 3 tokC l), .v (.int .i64 (a : Int))] R) ∧ (c = 4 → RK 60 [.r (rowR 3 tokC l), .v (.int .i64 (a : Int))] (.ok n a')) := by
      intro c hc t0 t1 t2 t3
      match c, hc with
      | 0, _ =>
        have t0 : isS l a' [61, 61] = true := t0
        have t1 : isS l a' [33, 61] = false := t1
        have t2 : isS l a' [60] = false := t2
        have t3 : isS l a' [60, 61] = false := t3
        refine ⟨fun _ R hR => ?_, fun h => by cases h⟩
        have g5 := isS_lt t0
        have h3 := hs (a' + 1) o (by omega) (by omega) (by omega)
        have hR : mapR (fun m => .mk 9 [] [n, m]) (sumG l U (a' + 1) o) = R := hR
        cases hr2 : sumG l U (a' + 1) o with
        | bad e p k a2 o2 =>
          rw [hr2] at h3 hR
          have c3 := h3.bad
          subst hR
          show PureOK _ _ _ _
          refine PureOK.fnF Try.func60 Try.results60 Try.ntmps60 rfl rfl rfl (by simp [AV.ids, AV0.ids, Atom.ids]) rfl (fun w0 T B E0 hB => ?_)
          refine SX.goP ?_
          refine W.loop (fun i : Nat => i ≤ 4) (fun i => [(0, .r (rowR 3 tokC l)), (4, .ptr 4 0), (5, .ptr 5 0), (6, .v (.int .i64 ((if 0 < i then 9 + 0 else 0 : Nat) : Int))), (7, .v (.int .i64 (i : Int)))]) (fun _ => [(4, GZ), (5, .box 64 (gok n a'))]) (fun i => 4 - i) 0 (by omega) (fun i hi => ?_)
          match i, hi with
          | 0, _ =>
            show WP _ _ _ (mkSt [(0, .r (rowR 3 tokC l)), (4, .ptr 4 0), (5, .ptr 5 0), (6, .v (.int .i64 0)), (7, .v (.int .i64 0))] [(4, GZ), (5, .box 64 (gok n a'))]) _
            refine SX.goP ?_
            exact W.next 1 (by omega) (by omega)
          | 1, _ =>
            show WP _ _ _ (mkSt [(0, .r (rowR 3 tokC l)), (4, .ptr 4 0), (5, .ptr 5 0), (6, .v (.int .i64 9)), (7, .v (.int .i64 1))] [(4, GZ), (5, .box 64 (gok n a'))]) _
            refine SX.goP ?_
            exact W.next 2 (by omega) (by omega)
          | 2, _ =>
            show WP _ _ _ (mkSt [(0, .r (rowR 3 tokC l)), (4, .ptr 4 0), (5, .ptr 5 0), (6, .v (.int .i64 9)), (7, .v (.int .i64 2))] [(4, GZ), (5, .box 64 (gok n a'))]) _
            refine SX.goP ?_
            exact W.next 3 (by omega) (by omega)
          | 3, _ =>
            show WP _ _ _ (mkSt [(0, .r (rowR 3 tokC l)), (4, .ptr 4 0), (5, .ptr 5 0), (6, .v (.int .i64 9)), (7, .v (.int .i64 3))] [(4, GZ), (5, .box 64 (gok n a'))]) _
            refine SX.goP ?_
            exact W.next 4 (by omega) (by omega)
          | 4, _ =>
            show WP _ _ _ (mkSt [(0, .r (rowR 3 tokC l)), (4, .ptr 4 0), (5, .ptr 5 0), (6, .v (.int .i64 9)), (7, .v (.int .i64 4))] [(4, GZ), (5, .box 64 (gok n a'))]) _
            refine SX.goP ?_
            exact retG (ResOK.agg5 rfl rfl rfl) (imp_bad rfl rfl rfl rfl)
          | i + 5, h => omega
        | ok k a2 =>
          rw [hr2] at h3 hR
          have c3 := h3.ok
          subst hR
          show PureOK _ _ _ _
          refine PureOK.fnF Try.func60 Try.results60 Try.ntmps60 rfl rfl rfl (by simp [AV.ids, AV0.ids, Atom.ids]) rfl (fun w0 T B E0 hB => ?_)
          refine SX.goP ?_
          refine W.loop (fun i : Nat => i ≤ 4) (fun i => [(0, .r (rowR 3 tokC l)), (4, .ptr 4 0), (5, .ptr 5 0), (6, .v (.int .i64 ((if 0 < i then 9 + 0 else 0 : Nat) : Int))), (7, .v (.int .i64 (i : Int)))]) (fun _ => [(4, GZ), (5, .box 64 (gok n a'))]) (fun i => 4 - i) 0 (by omega) (fun i hi => ?_)
          match i, hi with
          | 0, _ =>
            show WP _ _ _ (mkSt [(0, .r (rowR 3 tokC l)), (4, .ptr 4 0), (5, .ptr 5 0), (6, .v (.int .i64 0)), (7, .v (.int .i64 0))] [(4, GZ), (5, .box 64 (gok n a'))]) _
            refine SX.goP ?_
            exact W.next 1 (by omega) (by omega)
          | 1, _ =>
            show WP _ _ _ (mkSt [(0, .r (rowR 3 tokC l)), (4, .ptr 4 0), (5, .ptr 5 0), (6, .v (.int .i64 9)), (7, .v (.int .i64 1))] [(4, GZ), (5, .box 64 (gok n a'))]) _
            refine SX.goP ?_
            exact W.next 2 (by omega) (by omega)
          | 2, _ =>
            show WP _ _ _ (mkSt [(0, .r (rowR 3 tokC l)), (4, .ptr 4 0), (5, .ptr 5 0), (6, .v (.int .i64 9)), (7, .v (.int .i64 2))] [(4, GZ), (5, .box 64 (gok n a'))]) _
            refine SX.goP ?_
            exact W.next 3 (by omega) (by omega)
          | 3, _ =>
            show WP _ _ _ (mkSt [(0, .r (rowR 3 tokC l)), (4, .ptr 4 0), (5, .ptr 5 0), (6, .v (.int .i64 9)), (7, .v (.int .i64 3))] [(4, GZ), (5, .box 64 (gok n a'))]) _
            refine SX.goP ?_
            exact W.next 4 (by omega) (by omega)
          | 4, _ =>
            show WP _ _ _ (mkSt [(0, .r (rowR 3 tokC l)), (4, .ptr 4 0), (5, .ptr 5 0), (6, .v (.int .i64 9)), (7, .v (.int .i64 4))] [(4, GZ), (5, .box 64 (gok n a'))]) _
            refine SX.goP ?_
            exact retG (ResOK.agg5 rfl rfl rfl) (imp_okk rfl rfl rfl rfl (by first | (simp only [List.flatMap_cons, List.flatMap_nil, ndC_eq', List.append_nil, List.append_assoc]; done) | (simp only [List.flatMap_cons, List.flatMap_nil, ndC_eq', List.append_nil, List.append_assoc]; rfl)))
          | i + 5, h => omega
      | 1, _ =>
        have t0 : isS l a' [61, 61] = false := t0
        have t1 : isS l a' [33, 61] = true := t1
        have t2 : isS l a' [60] = false := t2
        have t3 : isS l a' [60, 61] = false := t3
        refine ⟨fun _ R hR => ?_, fun h => by cases h⟩
        have g5 := isS_lt t1
        have h3 := hs (a' + 1) o (by omega) (by omega) (by omega)
        have hR : mapR (fun m => .mk 10 [] [n, m]) (sumG l U (a' + 1) o) = R := hR
        cases hr2 : sumG l U (a' + 1) o with
        | bad e p k a2 o2 =>
          rw [hr2] at h3 hR
          have c3 := h3.bad
          subst hR
          show PureOK _ _ _ _
          refine PureOK.fnF Try.func60 Try.results60 Try.ntmps60 rfl rfl rfl (by simp [AV.ids, AV0.ids, Atom.ids]) rfl (fun w0 T B E0 hB => ?_)
          refine SX.goP ?_
          refine W.loop (fun i : Nat => i ≤ 4) (fun i => [(0, .r (rowR 3 tokC l)), (4, .ptr 4 0), (5, .ptr 5 0), (6, .v (.int .i64 ((if 1 < i then 9 + 1 else 0 : Nat) : Int))), (7, .v (.int .i64 (i : Int)))]) (fun _ => [(4, GZ), (5, .box 64 (gok n a'))]) (fun i => 4 - i) 0 (by omega) (fun i hi => ?_)
          match i, hi with
          | 0, _ =>
            show WP _ _ _ (mkSt [(0, .r (rowR 3 tokC l)), (4, .ptr 4 0), (5, .ptr 5 0), (6, .v (.int .i64 0)), (7, .v (.int .i64 0))] [(4, GZ), (5, .box 64 (gok n a'))]) _
            refine SX.goP ?_
            exact W.next 1 (by omega) (by omega)
          | 1, _ =>
            show WP _ _ _ (mkSt [(0, .r (rowR 3 tokC l)), (4, .ptr 4 0), (5, .ptr 5 0), (6, .v (.int .i64 0)), (7, .v (.int .i64 1))] [(4, GZ), (5, .box 64 (gok n a'))]) _
            refine SX.goP ?_
            exact W.next 2 (by omega) (by omega)
          | 2, _ =>
            show WP _ _ _ (mkSt [(0, .r (rowR 3 tokC l)), (4, .ptr 4 0), (5, .ptr 5 0), (6, .v (.int .i64 10)), (7, .v (.int .i64 2))] [(4, GZ), (5, .box 64 (gok n a'))]) _
            refine SX.goP ?_
            exact W.next 3 (by omega) (by omega)
          | 3, _ =>
            show WP _ _ _ (mkSt [(0, .r (rowR 3 tokC l)), (4, .ptr 4 0), (5, .ptr 5 0), (6, .v (.int .i64 10)), (7, .v (.int .i64 3))] [(4, GZ), (5, .box 64 (gok n a'))]) _
            refine SX.goP ?_
            exact W.next 4 (by omega) (by omega)
          | 4, _ =>
            show WP _ _ _ (mkSt [(0, .r (rowR 3 tokC l)), (4, .ptr 4 0), (5, .ptr 5 0), (6, .v (.int .i64 10)), (7, .v (.int .i64 4))] [(4, GZ), (5, .box 64 (gok n a'))]) _
            refine SX.goP ?_
            exact retG (ResOK.agg5 rfl rfl rfl) (imp_bad rfl rfl rfl rfl)
          | i + 5, h => omega
        | ok k a2 =>
          rw [hr2] at h3 hR
          have c3 := h3.ok
          subst hR
          show PureOK _ _ _ _
          refine PureOK.fnF Try.func60 Try.results60 Try.ntmps60 rfl rfl rfl (by simp [AV.ids, AV0.ids, Atom.ids]) rfl (fun w0 T B E0 hB => ?_)
          refine SX.goP ?_
          refine W.loop (fun i : Nat => i ≤ 4) (fun i => [(0, .r (rowR 3 tokC l)), (4, .ptr 4 0), (5, .ptr 5 0), (6, .v (.int .i64 ((if 1 < i then 9 + 1 else 0 : Nat) : Int))), (7, .v (.int .i64 (i : Int)))]) (fun _ => [(4, GZ), (5, .box 64 (gok n a'))]) (fun i => 4 - i) 0 (by omega) (fun i hi => ?_)
          match i, hi with
          | 0, _ =>
            show WP _ _ _ (mkSt [(0, .r (rowR 3 tokC l)), (4, .ptr 4 0), (5, .ptr 5 0), (6, .v (.int .i64 0)), (7, .v (.int .i64 0))] [(4, GZ), (5, .box 64 (gok n a'))]) _
            refine SX.goP ?_
            exact W.next 1 (by omega) (by omega)
          | 1, _ =>
            show WP _ _ _ (mkSt [(0, .r (rowR 3 tokC l)), (4, .ptr 4 0), (5, .ptr 5 0), (6, .v (.int .i64 0)), (7, .v (.int .i64 1))] [(4, GZ), (5, .box 64 (gok n a'))]) _
            refine SX.goP ?_
            exact W.next 2 (by omega) (by omega)
          | 2, _ =>
            show WP _ _ _ (mkSt [(0, .r (rowR 3 tokC l)), (4, .ptr 4 0), (5, .ptr 5 0), (6, .v (.int .i64 10)), (7, .v (.int .i64 2))] [(4, GZ), (5, .box 64 (gok n a'))]) _
            refine SX.goP ?_
            exact W.next 3 (by omega) (by omega)
          | 3, _ =>
            show WP _ _ _ (mkSt [(0, .r (rowR 3 tokC l)), (4, .ptr 4 0), (5, .ptr 5 0), (6, .v (.int .i64 10)), (7, .v (.int .i64 3))] [(4, GZ), (5, .box 64 (gok n a'))]) _
            refine SX.goP ?_
            exact W.next 4 (by omega) (by omega)
          | 4, _ =>
            show WP _ _ _ (mkSt [(0, .r (rowR 3 tokC l)), (4, .ptr 4 0), (5, .ptr 5 0), (6, .v (.int .i64 10)), (7, .v (.int .i64 4))] [(4, GZ), (5, .box 64 (gok n a'))]) _
            refine SX.goP ?_
            exact retG (ResOK.agg5 rfl rfl rfl) (imp_okk rfl rfl rfl rfl (by first | (simp only [List.flatMap_cons, List.flatMap_nil, ndC_eq', List.append_nil, List.append_assoc]; done) | (simp only [List.flatMap_cons, List.flatMap_nil, ndC_eq', List.append_nil, List.append_assoc]; rfl)))
          | i + 5, h => omega
      | 2, _ =>
        have t0 : isS l a' [61, 61] = false := t0
        have t1 : isS l a' [33, 61] = false := t1
        have t2 : isS l a' [60] = true := t2
        have t3 : isS l a' [60, 61] = false := t3
        refine ⟨fun _ R hR => ?_, fun h => by cases h⟩
        have g5 := isS_lt t2
        have h3 := hs (a' + 1) o (by omega) (by omega) (by omega)
        have hR : mapR (fun m => .mk 11 [] [n, m]) (sumG l U (a' + 1) o) = R := hR
        cases hr2 : sumG l U (a' + 1) o with
        | bad e p k a2 o2 =>
          rw [hr2] at h3 hR
          have c3 := h3.bad
          subst hR
          show PureOK _ _ _ _
          refine PureOK.fnF Try.func60 Try.results60 Try.ntmps60 rfl rfl rfl (by simp [AV.ids, AV0.ids, Atom.ids]) rfl (fun w0 T B E0 hB => ?_)
          refine SX.goP ?_
          refine W.loop (fun i : Nat => i ≤ 4) (fun i => [(0, .r (rowR 3 tokC l)), (4, .ptr 4 0), (5, .ptr 5 0), (6, .v (.int .i64 ((if 2 < i then 9 + 2 else 0 : Nat) : Int))), (7, .v (.int .i64 (i : Int)))]) (fun _ => [(4, GZ), (5, .box 64 (gok n a'))]) (fun i => 4 - i) 0 (by omega) (fun i hi => ?_)
          match i, hi with
          | 0, _ =>
            show WP _ _ _ (mkSt [(0, .r (rowR 3 tokC l)), (4, .ptr 4 0), (5, .ptr 5 0), (6, .v (.int .i64 0)), (7, .v (.int .i64 0))] [(4, GZ), (5, .box 64 (gok n a'))]) _
            refine SX.goP ?_
            exact W.next 1 (by omega) (by omega)
          | 1, _ =>
            show WP _ _ _ (mkSt [(0, .r (rowR 3 tokC l)), (4, .ptr 4 0), (5, .ptr 5 0), (6, .v (.int .i64 0)), (7, .v (.int .i64 1))] [(4, GZ), (5, .box 64 (gok n a'))]) _
            refine SX.goP ?_
            exact W.next 2 (by omega) (by omega)
          | 2, _ =>
            show WP _ _ _ (mkSt [(0, .r (rowR 3 tokC l)), (4, .ptr 4 0), (5, .ptr 5 0), (6, .v (.int .i64 0)), (7, .v (.int .i64 2))] [(4, GZ), (5, .box 64 (gok n a'))]) _
            refine SX.goP ?_
            exact W.next 3 (by omega) (by omega)
          | 3, _ =>
            show WP _ _ _ (mkSt [(0, .r (rowR 3 tokC l)), (4, .ptr 4 0), (5, .ptr 5 0), (6, .v (.int .i64 11)), (7, .v (.int .i64 3))] [(4, GZ), (5, .box 64 (gok n a'))]) _
            refine SX.goP ?_
            exact W.next 4 (by omega) (by omega)
          | 4, _ =>
            show WP _ _ _ (mkSt [(0, .r (rowR 3 tokC l)), (4, .ptr 4 0), (5, .ptr 5 0), (6, .v (.int .i64 11)), (7, .v (.int .i64 4))] [(4, GZ), (5, .box 64 (gok n a'))]) _
            refine SX.goP ?_
            exact retG (ResOK.agg5 rfl rfl rfl) (imp_bad rfl rfl rfl rfl)
          | i + 5, h => omega
        | ok k a2 =>
          rw [hr2] at h3 hR
          have c3 := h3.ok
          subst hR
          show PureOK _ _ _ _
          refine PureOK.fnF Try.func60 Try.results60 Try.ntmps60 rfl rfl rfl (by simp [AV.ids, AV0.ids, Atom.ids]) rfl (fun w0 T B E0 hB => ?_)
          refine SX.goP ?_
          refine W.loop (fun i : Nat => i ≤ 4) (fun i => [(0, .r (rowR 3 tokC l)), (4, .ptr 4 0), (5, .ptr 5 0), (6, .v (.int .i64 ((if 2 < i then 9 + 2 else 0 : Nat) : Int))), (7, .v (.int .i64 (i : Int)))]) (fun _ => [(4, GZ), (5, .box 64 (gok n a'))]) (fun i => 4 - i) 0 (by omega) (fun i hi => ?_)
          match i, hi with
          | 0, _ =>
            show WP _ _ _ (mkSt [(0, .r (rowR 3 tokC l)), (4, .ptr 4 0), (5, .ptr 5 0), (6, .v (.int .i64 0)), (7, .v (.int .i64 0))] [(4, GZ), (5, .box 64 (gok n a'))]) _
            refine SX.goP ?_
            exact W.next 1 (by omega) (by omega)
          | 1, _ =>
            show WP _ _ _ (mkSt [(0, .r (rowR 3 tokC l)), (4, .ptr 4 0), (5, .ptr 5 0), (6, .v (.int .i64 0)), (7, .v (.int .i64 1))] [(4, GZ), (5, .box 64 (gok n a'))]) _
            refine SX.goP ?_
            exact W.next 2 (by omega) (by omega)
          | 2, _ =>
            show WP _ _ _ (mkSt [(0, .r (rowR 3 tokC l)), (4, .ptr 4 0), (5, .ptr 5 0), (6, .v (.int .i64 0)), (7, .v (.int .i64 2))] [(4, GZ), (5, .box 64 (gok n a'))]) _
            refine SX.goP ?_
            exact W.next 3 (by omega) (by omega)
          | 3, _ =>
            show WP _ _ _ (mkSt [(0, .r (rowR 3 tokC l)), (4, .ptr 4 0), (5, .ptr 5 0), (6, .v (.int .i64 11)), (7, .v (.int .i64 3))] [(4, GZ), (5, .box 64 (gok n a'))]) _
            refine SX.goP ?_
            exact W.next 4 (by omega) (by omega)
          | 4, _ =>
            show WP _ _ _ (mkSt [(0, .r (rowR 3 tokC l)), (4, .ptr 4 0), (5, .ptr 5 0), (6, .v (.int .i64 11)), (7, .v (.int .i64 4))] [(4, GZ), (5, .box 64 (gok n a'))]) _
            refine SX.goP ?_
            exact retG (ResOK.agg5 rfl rfl rfl) (imp_okk rfl rfl rfl rfl (by first | (simp only [List.flatMap_cons, List.flatMap_nil, ndC_eq', List.append_nil, List.append_assoc]; done) | (simp only [List.flatMap_cons, List.flatMap_nil, ndC_eq', List.append_nil, List.append_assoc]; rfl)))
          | i + 5, h => omega
      | 3, _ =>
        have t0 : isS l a' [61, 61] = false := t0
        have t1 : isS l a' [33, 61] = false := t1
        have t2 : isS l a' [60] = false := t2
        have t3 : isS l a' [60, 61] = true := t3
        refine ⟨fun _ R hR => ?_, fun h => by cases h⟩
        have g5 := isS_lt t3
        have h3 := hs (a' + 1) o (by omega) (by omega) (by omega)
        have hR : mapR (fun m => .mk 12 [] [n, m]) (sumG l U (a' + 1) o) = R := hR
        cases hr2 : sumG l U (a' + 1) o with
        | bad e p k a2 o2 =>
          rw [hr2] at h3 hR
          have c3 := h3.bad
          subst hR
          show PureOK _ _ _ _
          refine PureOK.fnF Try.func60 Try.results60 Try.ntmps60 rfl rfl rfl (by simp [AV.ids, AV0.ids, Atom.ids]) rfl (fun w0 T B E0 hB => ?_)
          refine SX.goP ?_
          refine W.loop (fun i : Nat => i ≤ 4) (fun i => [(0, .r (rowR 3 tokC l)), (4, .ptr 4 0), (5, .ptr 5 0), (6, .v (.int .i64 ((if 3 < i then 9 + 3 else 0 : Nat) : Int))), (7, .v (.int .i64 (i : Int)))]) (fun _ => [(4, GZ), (5, .box 64 (gok n a'))]) (fun i => 4 - i) 0 (by omega) (fun i hi => ?_)
          match i, hi with
          | 0, _ =>
            show WP _ _ _ (mkSt [(0, .r (rowR 3 tokC l)), (4, .ptr 4 0), (5, .ptr 5 0), (6, .v (.int .i64 0)), (7, .v (.int .i64 0))] [(4, GZ), (5, .box 64 (gok n a'))]) _
            refine SX.goP ?_
            exact W.next 1 (by omega) (by omega)
          | 1, _ =>
            show WP _ _ _ (mkSt [(0, .r (rowR 3 tokC l)), (4, .ptr 4 0), (5, .ptr 5 0), (6, .v (.int .i64 0)), (7, .v (.int .i64 1))] [(4, GZ), (5, .box 64 (gok n a'))]) _
            refine SX.goP ?_
            exact W.next 2 (by omega) (by omega)
          | 2, _ =>
            show WP _ _ _ (mkSt [(0, .r (rowR 3 tokC l)), (4, .ptr 4 0), (5, .ptr 5 0), (6, .v (.int .i64 0)), (7, .v (.int .i64 2))] [(4, GZ), (5, .box 64 (gok n a'))]) _
            refine SX.goP ?_
            exact W.next 3 (by omega) (by omega)
          | 3, _ =>
            show WP _ _ _ (mkSt [(0, .r (rowR 3 tokC l)), (4, .ptr 4 0), (5, .ptr 5 0), (6, .v (.int .i64 0)), (7, .v (.int .i64 3))] [(4, GZ), (5, .box 64 (gok n a'))]) _
            refine SX.goP ?_
            exact W.next 4 (by omega) (by omega)
          | 4, _ =>
            show WP _ _ _ (mkSt [(0, .r (rowR 3 tokC l)), (4, .ptr 4 0), (5, .ptr 5 0), (6, .v (.int .i64 12)), (7, .v (.int .i64 4))] [(4, GZ), (5, .box 64 (gok n a'))]) _
            refine SX.goP ?_
            exact retG (ResOK.agg5 rfl rfl rfl) (imp_bad rfl rfl rfl rfl)
          | i + 5, h => omega
        | ok k a2 =>
          rw [hr2] at h3 hR
          have c3 := h3.ok
          subst hR
          show PureOK _ _ _ _
          refine PureOK.fnF Try.func60 Try.results60 Try.ntmps60 rfl rfl rfl (by simp [AV.ids, AV0.ids, Atom.ids]) rfl (fun w0 T B E0 hB => ?_)
          refine SX.goP ?_
          refine W.loop (fun i : Nat => i ≤ 4) (fun i => [(0, .r (rowR 3 tokC l)), (4, .ptr 4 0), (5, .ptr 5 0), (6, .v (.int .i64 ((if 3 < i then 9 + 3 else 0 : Nat) : Int))), (7, .v (.int .i64 (i : Int)))]) (fun _ => [(4, GZ), (5, .box 64 (gok n a'))]) (fun i => 4 - i) 0 (by omega) (fun i hi => ?_)
          match i, hi with
          | 0, _ =>
            show WP _ _ _ (mkSt [(0, .r (rowR 3 tokC l)), (4, .ptr 4 0), (5, .ptr 5 0), (6, .v (.int .i64 0)), (7, .v (.int .i64 0))] [(4, GZ), (5, .box 64 (gok n a'))]) _
            refine SX.goP ?_
            exact W.next 1 (by omega) (by omega)
          | 1, _ =>
            show WP _ _ _ (mkSt [(0, .r (rowR 3 tokC l)), (4, .ptr 4 0), (5, .ptr 5 0), (6, .v (.int .i64 0)), (7, .v (.int .i64 1))] [(4, GZ), (5, .box 64 (gok n a'))]) _
            refine SX.goP ?_
            exact W.next 2 (by omega) (by omega)
          | 2, _ =>
            show WP _ _ _ (mkSt [(0, .r (rowR 3 tokC l)), (4, .ptr 4 0), (5, .ptr 5 0), (6, .v (.int .i64 0)), (7, .v (.int .i64 2))] [(4, GZ), (5, .box 64 (gok n a'))]) _
            refine SX.goP ?_
            exact W.next 3 (by omega) (by omega)
          | 3, _ =>
            show WP _ _ _ (mkSt [(0, .r (rowR 3 tokC l)), (4, .ptr 4 0), (5, .ptr 5 0), (6, .v (.int .i64 0)), (7, .v (.int .i64 3))] [(4, GZ), (5, .box 64 (gok n a'))]) _
            refine SX.goP ?_
            exact W.next 4 (by omega) (by omega)
          | 4, _ =>
            show WP _ _ _ (mkSt [(0, .r (rowR 3 tokC l)), (4, .ptr 4 0), (5, .ptr 5 0), (6, .v (.int .i64 12)), (7, .v (.int .i64 4))] [(4, GZ), (5, .box 64 (gok n a'))]) _
            refine SX.goP ?_
            exact retG (ResOK.agg5 rfl rfl rfl) (imp_okk rfl rfl rfl rfl (by first | (simp only [List.flatMap_cons, List.flatMap_nil, ndC_eq', List.append_nil, List.append_assoc]; done) | (simp only [List.flatMap_cons, List.flatMap_nil, ndC_eq', List.append_nil, List.append_assoc]; rfl)))
          | i + 5, h => omega
      | 4, _ =>
        have t0 : isS l a' [61, 61] = false := t0
        have t1 : isS l a' [33, 61] = false := t1
        have t2 : isS l a' [60] = false := t2
        have t3 : isS l a' [60, 61] = false := t3
        refine ⟨fun h => by omega, fun _ => ?_⟩
        show PureOK _ _ _ _
        refine PureOK.fnF Try.func60 Try.results60 Try.ntmps60 rfl rfl rfl (by simp [AV.ids, AV0.ids, Atom.ids]) rfl (fun w0 T B E0 hB => ?_)
        refine SX.goP ?_
        refine W.loop (fun i : Nat => i ≤ 4) (fun i => [(0, .r (rowR 3 tokC l)), (4, .ptr 4 0), (5, .ptr 5 0), (6, .v (.int .i64 ((if 4 < i then 9 + 4 else 0 : Nat) : Int))), (7, .v (.int .i64 (i : Int)))]) (fun _ => [(4, GZ), (5, .box 64 (gok n a'))]) (fun i => 4 - i) 0 (by omega) (fun i hi => ?_)
        match i, hi with
        | 0, _ =>
          show WP _ _ _ (mkSt [(0, .r (rowR 3 tokC l)), (4, .ptr 4 0), (5, .ptr 5 0), (6, .v (.int .i64 0)), (7, .v (.int .i64 0))] [(4, GZ), (5, .box 64 (gok n a'))]) _
          refine SX.goP ?_
          exact W.next 1 (by omega) (by omega)
        | 1, _ =>
          show WP _ _ _ (mkSt [(0, .r (rowR 3 tokC l)), (4, .ptr 4 0), (5, .ptr 5 0), (6, .v (.int .i64 0)), (7, .v (.int .i64 1))] [(4, GZ), (5, .box 64 (gok n a'))]) _
          refine SX.goP ?_
          exact W.next 2 (by omega) (by omega)
        | 2, _ =>
          show WP _ _ _ (mkSt [(0, .r (rowR 3 tokC l)), (4, .ptr 4 0), (5, .ptr 5 0), (6, .v (.int .i64 0)), (7, .v (.int .i64 2))] [(4, GZ), (5, .box 64 (gok n a'))]) _
          refine SX.goP ?_
          exact W.next 3 (by omega) (by omega)
        | 3, _ =>
          show WP _ _ _ (mkSt [(0, .r (rowR 3 tokC l)), (4, .ptr 4 0), (5, .ptr 5 0), (6, .v (.int .i64 0)), (7, .v (.int .i64 3))] [(4, GZ), (5, .box 64 (gok n a'))]) _
          refine SX.goP ?_
          exact W.next 4 (by omega) (by omega)
        | 4, _ =>
          show WP _ _ _ (mkSt [(0, .r (rowR 3 tokC l)), (4, .ptr 4 0), (5, .ptr 5 0), (6, .v (.int .i64 0)), (7, .v (.int .i64 4))] [(4, GZ), (5, .box 64 (gok n a'))]) _
          refine SX.goP ?_
          exact retG (ResOK.agg5 rfl rfl rfl) (AV0.imp.refl _)
        | i + 5, h => omega
      | c + 5, h => omega
    cases t0 : isS l a' [61, 61] with
    | true => rw [if_pos rfl]; exact (key 0 (by omega) t0 (isS_ne t0 (by decide)) (isS_ne t0 (by decide)) (isS_ne t0 (by decide))).1 (by omega) _ rfl
    | false =>
      rw [if_neg (by decide)]
      cases t1 : isS l a' [33, 61] with
      | true => rw [if_pos rfl]; exact (key 1 (by omega) t0 t1 (isS_ne t1 (by decide)) (isS_ne t1 (by decide))).1 (by omega) _ rfl
      | false =>
        rw [if_neg (by decide)]
        cases t2 : isS l a' [60] with
        | true => rw [if_pos rfl]; exact (key 2 (by omega) t0 t1 t2 (isS_ne t2 (by decide))).1 (by omega) _ rfl
        | false =>
          rw [if_neg (by decide)]
          cases t3 : isS l a' [60, 61] with
          | true => rw [if_pos rfl]; exact (key 3 (by omega) t0 t1 t2 t3).1 (by omega) _ rfl
          | false => rw [if_neg (by decide)]; exact (key 4 (by omega) t0 t1 t2 t3).2 rfl
/-- Expressions of the reference, from a place on. -/
theorem r_lev {l : List Tok} (hl : l.length ≤ 1000000) : ∀ (n m : Nat), l.length + 1 ≤ m + n → ROK 60 l m (lev 600 l n).1 ∧ ROK 88 l m (lev 600 l n).2
  | 0, m, h => ⟨fun a o hm ha => by omega, fun a o hm ha => by omega⟩
  | n + 1, m, h => by
    obtain ⟨h1, h2⟩ := r_lev hl n (m + 1) (by omega)
    obtain ⟨a1, a2⟩ := adv_lev 600 l n (m + 1) (by omega)
    have u : ROK 88 l m (unG 600 l (lev 600 l n).1 (lev 600 l n).2) := r_minus hl (r_items hl h1 a1) (adv_postF a1) h2
    have au := adv_un (K := 600) a1 a2
    exact ⟨r_exp0 hl (r_sum hl (r_product hl u au) (adv_chnF au)) au, u⟩
end Go.Proofs.Ytaocklkbijkhpaa

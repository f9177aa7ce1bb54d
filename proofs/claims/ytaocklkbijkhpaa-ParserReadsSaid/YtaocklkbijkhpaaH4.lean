import Derived.Test.YtaocklkbijkhpaaH3
/- Package parser in the symbolic run: products, sums, expressions. -/
set_option linter.unusedVariables false
set_option linter.unusedSimpArgs false
namespace Go.Proofs.Ytaocklkbijkhpaa
open Go.RowKit SX
attribute [local irreducible] IntKind.wrap Go1 Reg WP thenK inBlk retQ retF RetF RetOK ResOK CallOK OpOK Sat
theorem ge_chain {f : FuncId} {l : List Tok} {s1 s2 : List UInt8} {x y : Nat} (hs : GE f l) (a o e p : Nat) :
    CallOK Try.prog 79 [.ptr 29 0, bnA f, .v (str s1), .v (.int .i64 (x : Int)), .v (str s2), .v (.int .i64 (y : Int))] [(29, PE l a o e p)] ⟨rNd nd0, [(29, .ent (PE l a o e p))]⟩ := by
  have c1 := hs a o e p
  have c2 := c_takeE l a o e p s1
  have c3 := c_takeE l a o e p s2
  refine CallOK.fnF Try.func79 Try.results79 Try.ntmps79 rfl rfl rfl rfl (fun w0 T B E0 hB => ?_)
  refine SX.goP ?_
  refine W.loop (fun _ : Unit => True) (fun _ => chI f s1 x s2 y) (fun _ => [(29, PE l a o e p), (12, NZ), (13, NB nd0)]) (fun _ => 0) () trivial (fun _ _ => ?_)
  refine SX.goP ?_
  exact retNd (ResOK.agg3 rfl rfl rfl) (AV0.imp.refl _) ⟨rfl, trivial⟩
theorem g_prod {l : List Tok} {m : Nat} {U : Gr} (hl : l.length ≤ 1000000) (hs : GOK 87 l m U) (hA : Adv 1 l m U) : GOK 80 l m (prodG l U) := by
  intro a o hm ha ho
  have h1 : CR rNd 79 [.ptr 29 0, bnA 87, .v (str [42]), .v (.int .i64 6), .v (str [47]), .v (.int .i64 7)] [] l a o (prodG l U a o) := c_chain hl hs hA hm ha ho
  cases hr : prodG l U a o with
  | bad e p n a' o' =>
    rw [hr] at h1
    have c1 := h1.bad
    show CallOK _ _ _ _ _
    refine CallOK.fnF Try.func80 Try.results80 Try.ntmps80 rfl rfl rfl rfl (fun w0 T B E0 hB => ?_)
    refine SX.goP ?_
    exact retNd (ResOK.agg3 rfl rfl rfl) (AV0.imp.refl _) ⟨rfl, trivial⟩
  | ok n a' =>
    rw [hr] at h1
    have c1 := h1.ok
    show CallOK _ _ _ _ _
    refine CallOK.fnF Try.func80 Try.results80 Try.ntmps80 rfl rfl rfl rfl (fun w0 T B E0 hB => ?_)
    refine SX.goP ?_
    exact retNd (ResOK.agg3 rfl rfl rfl) (AV0.imp.refl _) ⟨rfl, trivial⟩
theorem ge_prod {l : List Tok} (hs : GE 87 l) : GE 80 l := by
  intro a o e p
  have c1 : CallOK Try.prog 79 [.ptr 29 0, bnA 87, .v (str [42]), .v (.int .i64 6), .v (str [47]), .v (.int .i64 7)] [(29, PE l a o e p)] ⟨rNd nd0, [(29, .ent (PE l a o e p))]⟩ := ge_chain hs a o e p
  refine CallOK.fnF Try.func80 Try.results80 Try.ntmps80 rfl rfl rfl rfl (fun w0 T B E0 hB => ?_)
  refine SX.goP ?_
  exact retNd (ResOK.agg3 rfl rfl rfl) (AV0.imp.refl _) ⟨rfl, trivial⟩
theorem g_sum {l : List Tok} {m : Nat} {U : Gr} (hl : l.length ≤ 1000000) (hs : GOK 80 l m (prodG l U)) (hA : Adv 1 l m U) : GOK 67 l m (sumG l U) := by
  intro a o hm ha ho
  have h1 : CR rNd 79 [.ptr 29 0, bnA 80, .v (str [43]), .v (.int .i64 4), .v (str [45]), .v (.int .i64 5)] [] l a o (sumG l U a o) := c_chain hl hs (adv_chnF hA) hm ha ho
  cases hr : sumG l U a o with
  | bad e p n a' o' =>
    rw [hr] at h1
    have c1 := h1.bad
    show CallOK _ _ _ _ _
    refine CallOK.fnF Try.func67 Try.results67 Try.ntmps67 rfl rfl rfl rfl (fun w0 T B E0 hB => ?_)
    refine SX.goP ?_
    exact retNd (ResOK.agg3 rfl rfl rfl) (AV0.imp.refl _) ⟨rfl, trivial⟩
  | ok n a' =>
    rw [hr] at h1
    have c1 := h1.ok
    show CallOK _ _ _ _ _
    refine CallOK.fnF Try.func67 Try.results67 Try.ntmps67 rfl rfl rfl rfl (fun w0 T B E0 hB => ?_)
    refine SX.goP ?_
    exact retNd (ResOK.agg3 rfl rfl rfl) (AV0.imp.refl _) ⟨rfl, trivial⟩
theorem ge_sum {l : List Tok} (hs : GE 80 l) : GE 67 l := by
  intro a o e p
  have c1 : CallOK Try.prog 79 [.ptr 29 0, bnA 80, .v (str [43]), .v (.int .i64 4), .v (str [45]), .v (.int .i64 5)] [(29, PE l a o e p)] ⟨rNd nd0, [(29, .ent (PE l a o e p))]⟩ := ge_chain hs a o e p
  refine CallOK.fnF Try.func67 Try.results67 Try.ntmps67 rfl rfl rfl rfl (fun w0 T B E0 hB => ?_)
  refine SX.goP ?_
  exact retNd (ResOK.agg3 rfl rfl rfl) (AV0.imp.refl _) ⟨rfl, trivial⟩
def sgn : Nat → List UInt8
  | 0 => [61, 61]
  | 1 => [33, 61]
  | 2 => [60]
  | _ => [60, 61]
/-- What the loop over the signs finds in its temporaries. -/
def exI (i : Nat) : List (Nat × AV) := [(0, .ptr 29 0), (2, .ptr 2 0), (3, .ptr 3 0), (8, .agg [.c (.val (str [61, 61])), .c (.val (str [33, 61])), .c (.val (str [60])), .c (.val (str [60, 61]))]), (9, .v (.int .i64 (i : Int)))]
theorem ge_exp {l : List Tok} (hs : GE 67 l) : GE 50 l := by
  intro a o e p
  have c1 := hs a o e p
  have k0 := c_takeE l a o e p [61, 61]
  have k1 := c_takeE l a o e p [33, 61]
  have k2 := c_takeE l a o e p [60]
  have k3 := c_takeE l a o e p [60, 61]
  refine CallOK.fnF Try.func50 Try.results50 Try.ntmps50 rfl rfl rfl rfl (fun w0 T B E0 hB => ?_)
  refine SX.goP ?_
  refine W.loop (fun i => i ≤ 4) exI (fun _ => [(29, PE l a o e p), (2, NZ), (3, NB nd0)]) (fun i => 4 - i) 0 (by omega) (fun i hi => ?_)
  match i, hi with
  | 0, _ =>
    refine SX.goP ?_
    exact W.next 1 (by omega) (by omega)
  | 1, _ =>
    refine SX.goP ?_
    exact W.next 2 (by omega) (by omega)
  | 2, _ =>
    refine SX.goP ?_
    exact W.next 3 (by omega) (by omega)
  | 3, _ =>
    refine SX.goP ?_
    exact W.next 4 (by omega) (by omega)
  | 4, _ =>
    refine SX.goP ?_
    exact retNd (ResOK.agg3 rfl rfl rfl) (AV0.imp.refl _) ⟨rfl, trivial⟩
  | i + 5, h => omega
/-- What is left of an expression's rule when so many signs are left to be tried. -/
def exT (l : List Tok) (U : Gr) (n : Nd) (a o : Nat) : Nat → Res
  | 0 => .ok n a
  | k + 1 => if isS l a (sgn (3 - k)) then mapR (fun m => .mk (12 - k) [] [n, m]) (sumG l U (a + 1) o) else exT l U n a o k
theorem exT_t {l : List Tok} {U : Gr} {n : Nd} {a o k : Nat} {R : Res} {s : List UInt8} (h : exT l U n a o (k + 1) = R) (hs : sgn (3 - k) = s) (ht : isS l a s = true) : mapR (fun m => .mk (12 - k) [] [n, m]) (sumG l U (a + 1) o) = R := by
  subst hs; unfold exT at h; rwa [if_pos ht] at h
theorem exT_f {l : List Tok} {U : Gr} {n : Nd} {a o k : Nat} {R : Res} {s : List UInt8} (h : exT l U n a o (k + 1) = R) (hs : sgn (3 - k) = s) (ht : isS l a s = false) : exT l U n a o k = R := by
  subst hs; unfold exT at h; rwa [if_neg (by rw [ht]; decide)] at h
theorem g_exp {l : List Tok} {m : Nat} {U : Gr} (hl : l.length ≤ 1000000) (hs : GOK 67 l m (sumG l U)) (hA : Adv 1 l m U) : GOK 50 l m (expG l U) := by
  intro a o hm ha ho
  have h1 := hs a o hm ha ho
  have h2 := adv_sum hA a o hm ha
  unfold expG
  cases hr : sumG l U a o with
  | bad e p n a' o' =>
    rw [hr] at h1
    have c1 := h1.bad
    show CallOK _ _ _ _ _
    have k0 := c_takeE l a' o' e p [61, 61]
    have k1 := c_takeE l a' o' e p [33, 61]
    have k2 := c_takeE l a' o' e p [60]
    have k3 := c_takeE l a' o' e p [60, 61]
    refine CallOK.fnF Try.func50 Try.results50 Try.ntmps50 rfl rfl rfl rfl (fun w0 T B E0 hB => ?_)
    refine SX.goP ?_
    refine W.loop (fun i => i ≤ 4) exI (fun _ => [(29, PE l a' o' e p), (2, NZ), (3, NB n)]) (fun i => 4 - i) 0 (by omega) (fun i hi => ?_)
    match i, hi with
    | 0, _ =>
      refine SX.goP ?_
      exact W.next 1 (by omega) (by omega)
    | 1, _ =>
      refine SX.goP ?_
      exact W.next 2 (by omega) (by omega)
    | 2, _ =>
      refine SX.goP ?_
      exact W.next 3 (by omega) (by omega)
    | 3, _ =>
      refine SX.goP ?_
      exact W.next 4 (by omega) (by omega)
    | 4, _ =>
      refine SX.goP ?_
      exact retNd (ResOK.agg3 rfl rfl rfl) (AV0.imp.refl _) ⟨rfl, trivial⟩
    | i + 5, h => omega
  | ok n a' =>
    rw [hr] at h1 h2
    have c1 := h1.ok
    obtain ⟨g1, g2, g3⟩ := h2
    have key : ∀ R, exT l U n a' o 4 = R → CR rNd 50 [.ptr 29 0] [] l a o R := by
      intro R hR
      refine CR.of ?_
      refine CallOK.fnF Try.func50 Try.results50 Try.ntmps50 rfl rfl rfl rfl (fun w0 T B E0 hB => ?_)
      refine SX.goP ?_
      refine W.loop (fun i => i ≤ 4 ∧ exT l U n a' o (4 - i) = R) exI (fun _ => [(29, PG l a' o), (2, NZ), (3, NB n)]) (fun i => 4 - i) 0 ⟨by omega, hR⟩ (fun i hi => ?_)
      match i, hi with
      | 0, ⟨_, hq⟩ =>
        have hq : exT l U n a' o (3 + 1) = R := hq
        cases ht : isS l a' [61, 61] with
        | true =>
          have hq := exT_t hq rfl ht
          have k0 := c_takeT o hl ht
          have g5 := isS_lt ht
          have h3 := hs (a' + 1) o (by omega) (by omega) ho
          cases hr2 : sumG l U (a' + 1) o with
          | bad e p k a2 o2 =>
            rw [hr2] at h3 hq
            have c3 := h3.bad
            refine SX.goP ?_
            subst hq
            exact retNd (ResOK.agg3 rfl rfl rfl) (imp_ndk rfl rfl rfl (by first | (simp only [List.flatMap_cons, List.flatMap_nil, ndC_eq', List.append_nil]; done) | (simp only [List.flatMap_cons, List.flatMap_nil, ndC_eq', List.append_nil]; rfl))) ⟨rfl, trivial⟩
          | ok k a2 =>
            rw [hr2] at h3 hq
            have c3 := h3.ok
            refine SX.goP ?_
            subst hq
            exact retNd (ResOK.agg3 rfl rfl rfl) (imp_ndk rfl rfl rfl (by first | (simp only [List.flatMap_cons, List.flatMap_nil, ndC_eq', List.append_nil]; done) | (simp only [List.flatMap_cons, List.flatMap_nil, ndC_eq', List.append_nil]; rfl))) ⟨rfl, trivial⟩
        | false =>
          have hq := exT_f hq rfl ht
          have k0 := c_takeF o ht
          refine SX.goP ?_
          exact W.next 1 ⟨by omega, hq⟩ (by omega)
      | 1, ⟨_, hq⟩ =>
        have hq : exT l U n a' o (2 + 1) = R := hq
        cases ht : isS l a' [33, 61] with
        | true =>
          have hq := exT_t hq rfl ht
          have k0 := c_takeT o hl ht
          have g5 := isS_lt ht
          have h3 := hs (a' + 1) o (by omega) (by omega) ho
          cases hr2 : sumG l U (a' + 1) o with
          | bad e p k a2 o2 =>
            rw [hr2] at h3 hq
            have c3 := h3.bad
            refine SX.goP ?_
            subst hq
            exact retNd (ResOK.agg3 rfl rfl rfl) (imp_ndk rfl rfl rfl (by first | (simp only [List.flatMap_cons, List.flatMap_nil, ndC_eq', List.append_nil]; done) | (simp only [List.flatMap_cons, List.flatMap_nil, ndC_eq', List.append_nil]; rfl))) ⟨rfl, trivial⟩
          | ok k a2 =>
            rw [hr2] at h3 hq
            have c3 := h3.ok
            refine SX.goP ?_
            subst hq
            exact retNd (ResOK.agg3 rfl rfl rfl) (imp_ndk rfl rfl rfl (by first | (simp only [List.flatMap_cons, List.flatMap_nil, ndC_eq', List.append_nil]; done) | (simp only [List.flatMap_cons, List.flatMap_nil, ndC_eq', List.append_nil]; rfl))) ⟨rfl, trivial⟩
        | false =>
          have hq := exT_f hq rfl ht
          have k0 := c_takeF o ht
          refine SX.goP ?_
          exact W.next 2 ⟨by omega, hq⟩ (by omega)
      | 2, ⟨_, hq⟩ =>
        have hq : exT l U n a' o (1 + 1) = R := hq
        cases ht : isS l a' [60] with
        | true =>
          have hq := exT_t hq rfl ht
          have k0 := c_takeT o hl ht
          have g5 := isS_lt ht
          have h3 := hs (a' + 1) o (by omega) (by omega) ho
          cases hr2 : sumG l U (a' + 1) o with
          | bad e p k a2 o2 =>
            rw [hr2] at h3 hq
            have c3 := h3.bad
            refine SX.goP ?_
            subst hq
            exact retNd (ResOK.agg3 rfl rfl rfl) (imp_ndk rfl rfl rfl (by first | (simp only [List.flatMap_cons, List.flatMap_nil, ndC_eq', List.append_nil]; done) | (simp only [List.flatMap_cons, List.flatMap_nil, ndC_eq', List.append_nil]; rfl))) ⟨rfl, trivial⟩
          | ok k a2 =>
            rw [hr2] at h3 hq
            have c3 := h3.ok
            refine SX.goP ?_
            subst hq
            exact retNd (ResOK.agg3 rfl rfl rfl) (imp_ndk rfl rfl rfl (by first | (simp only [List.flatMap_cons, List.flatMap_nil, ndC_eq', List.append_nil]; done) | (simp only [List.flatMap_cons, List.flatMap_nil, ndC_eq', List.append_nil]; rfl))) ⟨rfl, trivial⟩
        | false =>
          have hq := exT_f hq rfl ht
          have k0 := c_takeF o ht
          refine SX.goP ?_
          exact W.next 3 ⟨by omega, hq⟩ (by omega)
      | 3, ⟨_, hq⟩ =>
        have hq : exT l U n a' o (0 + 1) = R := hq
        cases ht : isS l a' [60, 61] with
        | true =>
          have hq := exT_t hq rfl ht
          have k0 := c_takeT o hl ht
          have g5 := isS_lt ht
          have h3 := hs (a' + 1) o (by omega) (by omega) ho
          cases hr2 : sumG l U (a' + 1) o with
          | bad e p k a2 o2 =>
            rw [hr2] at h3 hq
            have c3 := h3.bad
            refine SX.goP ?_
            subst hq
            exact retNd (ResOK.agg3 rfl rfl rfl) (imp_ndk rfl rfl rfl (by first | (simp only [List.flatMap_cons, List.flatMap_nil, ndC_eq', List.append_nil]; done) | (simp only [List.flatMap_cons, List.flatMap_nil, ndC_eq', List.append_nil]; rfl))) ⟨rfl, trivial⟩
          | ok k a2 =>
            rw [hr2] at h3 hq
            have c3 := h3.ok
            refine SX.goP ?_
            subst hq
            exact retNd (ResOK.agg3 rfl rfl rfl) (imp_ndk rfl rfl rfl (by first | (simp only [List.flatMap_cons, List.flatMap_nil, ndC_eq', List.append_nil]; done) | (simp only [List.flatMap_cons, List.flatMap_nil, ndC_eq', List.append_nil]; rfl))) ⟨rfl, trivial⟩
        | false =>
          have hq := exT_f hq rfl ht
          have k0 := c_takeF o ht
          refine SX.goP ?_
          exact W.next 4 ⟨by omega, hq⟩ (by omega)
      | 4, ⟨_, hq⟩ =>
        refine SX.goP ?_
        subst hq
        exact retNd (ResOK.agg3 rfl rfl rfl) (AV0.imp.refl _) ⟨rfl, trivial⟩
      | i + 5, ⟨h, _⟩ => omega
    exact key _ rfl
end Go.Proofs.Ytaocklkbijkhpaa

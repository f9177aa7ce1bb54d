import Derived.Test.YtaocklkbijkhpaaHa
/- Package parser in the symbolic run: powers, minuses. -/
set_option linter.unusedVariables false
set_option linter.unusedSimpArgs false
namespace Go.Proofs.Ytaocklkbijkhpaa
open Go.RowKit SX
attribute [local irreducible] IntKind.wrap Go1 Reg WP thenK inBlk retQ retF RetF RetOK ResOK CallOK OpOK Sat
theorem g_pow {l : List Tok} {m : Nat} {X U : Gr} (hl : l.length ≤ 1000000) (hp : GOK 93 l m (postF 600 l X)) (ap : Adv 1 l m (postF 600 l X)) (hu : GOK 87 l (m + 1) U) : GOK 90 l m (powG 600 l X U) := by
  intro a o hm ha ho
  have h1 := hp a o hm ha ho
  have h2 := ap a o hm ha
  unfold powG
  cases hr : postF 600 l X a o with
  | bad e p n a' o' =>
    rw [hr] at h1
    have c1 := h1.bad
    have c2 := c_takeE l a' o' e p [94]
    show CallOK _ _ _ _ _
    refine CallOK.fnF Try.func90 Try.results90 Try.ntmps90 rfl rfl rfl rfl (fun w0 T B E0 hB => ?_)
    refine SX.goP ?_
    exact retNd (ResOK.agg3 rfl rfl rfl) (AV0.imp.refl _) ⟨rfl, trivial⟩
  | ok n a' =>
    rw [hr] at h1 h2
    have c1 := h1.ok
    obtain ⟨g1, g2, g3⟩ := h2
    have g4 := cnt_pos n
    cases ht : isS l a' [94] with
    | false =>
      have c2 := c_takeF o ht
      simp only [Bool.false_eq_true, if_false, ht]
      show CallOK _ _ _ _ _
      refine CallOK.fnF Try.func90 Try.results90 Try.ntmps90 rfl rfl rfl rfl (fun w0 T B E0 hB => ?_)
      refine SX.goP ?_
      exact retNd (ResOK.agg3 rfl rfl rfl) (AV0.imp.refl _) ⟨rfl, trivial⟩
    | true =>
      have c2 := c_takeT o hl ht
      have g3 := isS_lt ht
      have h3 := hu (a' + 1) o (by omega) (by omega) ho
      simp only [if_true, ht]
      cases hr2 : U (a' + 1) o with
      | bad e p n2 a2 o2 =>
        rw [hr2] at h3
        have c3 := h3.bad
        show CallOK _ _ _ _ _
        refine CallOK.fnF Try.func90 Try.results90 Try.ntmps90 rfl rfl rfl rfl (fun w0 T B E0 hB => ?_)
        refine SX.goP ?_
        exact retNd (ResOK.agg3 rfl rfl rfl) (imp_ndk rfl rfl rfl (by first | (simp only [List.flatMap_cons, List.flatMap_nil, ndC_eq', List.append_nil]; done) | (simp only [List.flatMap_cons, List.flatMap_nil, ndC_eq', List.append_nil]; rfl))) ⟨rfl, trivial⟩
      | ok n2 a2 =>
        rw [hr2] at h3
        have c3 := h3.ok
        show CallOK _ _ _ _ _
        refine CallOK.fnF Try.func90 Try.results90 Try.ntmps90 rfl rfl rfl rfl (fun w0 T B E0 hB => ?_)
        refine SX.goP ?_
        exact retNd (ResOK.agg3 rfl rfl rfl) (imp_ndk rfl rfl rfl (by first | (simp only [List.flatMap_cons, List.flatMap_nil, ndC_eq', List.append_nil]; done) | (simp only [List.flatMap_cons, List.flatMap_nil, ndC_eq', List.append_nil]; rfl))) ⟨rfl, trivial⟩
theorem ge_pow {l : List Tok} (hp : GE 93 l) : GE 90 l := by
  intro a o e p
  have c1 := hp a o e p
  have c2 := c_takeE l a o e p [94]
  refine CallOK.fnF Try.func90 Try.results90 Try.ntmps90 rfl rfl rfl rfl (fun w0 T B E0 hB => ?_)
  refine SX.goP ?_
  exact retNd (ResOK.agg3 rfl rfl rfl) (AV0.imp.refl _) ⟨rfl, trivial⟩
theorem g_un1 {l : List Tok} {m : Nat} {U : Gr} (hu : GOK 87 l m U) {a o : Nat} (hm : m ≤ a) (ha : a ≤ l.length) (ho : o ≤ 600) : CR rNd 91 [.ptr 81 0] [(81, PP)] l a o (mapR (fun m => .mk 3 [] [m]) (U a o)) := by
  have h3 := hu a o hm ha ho
  cases hr2 : U a o with
  | bad e p n2 a2 o2 =>
    rw [hr2] at h3
    have c3 := h3.bad
    show CallOK _ _ _ _ _
    refine CallOK.fnF Try.func91 Try.results91 Try.ntmps91 rfl rfl rfl rfl (fun w0 T B E0 hB => ?_)
    refine SX.goP ?_
    exact retNd (ResOK.agg3 rfl rfl rfl) (imp_ndk rfl rfl rfl (by first | (simp only [List.flatMap_cons, List.flatMap_nil, ndC_eq', List.append_nil]; done) | (simp only [List.flatMap_cons, List.flatMap_nil, ndC_eq', List.append_nil]; rfl))) ⟨rfl, rfl, trivial⟩
  | ok n2 a2 =>
    rw [hr2] at h3
    have c3 := h3.ok
    show CallOK _ _ _ _ _
    refine CallOK.fnF Try.func91 Try.results91 Try.ntmps91 rfl rfl rfl rfl (fun w0 T B E0 hB => ?_)
    refine SX.goP ?_
    exact retNd (ResOK.agg3 rfl rfl rfl) (imp_ndk rfl rfl rfl (by first | (simp only [List.flatMap_cons, List.flatMap_nil, ndC_eq', List.append_nil]; done) | (simp only [List.flatMap_cons, List.flatMap_nil, ndC_eq', List.append_nil]; rfl))) ⟨rfl, rfl, trivial⟩
theorem g_un {l : List Tok} {m : Nat} {X U : Gr} (hl : l.length ≤ 1000000) (hp : GOK 90 l m (powG 600 l X U)) (hu : GOK 87 l (m + 1) U) (au : Adv 1 l (m + 1) U) : GOK 87 l m (unG 600 l X U) := by
  intro a o hm ha ho
  have nm : Named 1 81 := ⟨⟩
  unfold unG
  cases ht : isS l a [45] with
  | false =>
    simp only [Bool.false_eq_true, if_false]
    have c1 := c_takeF o ht
    have h1 := hp a o hm ha ho
    cases hr : powG 600 l X U a o with
    | bad e p n a' o' =>
      rw [hr] at h1
      have c2 := h1.bad
      show CallOK _ _ _ _ _
      refine CallOK.fnF Try.func87 Try.results87 Try.ntmps87 rfl rfl rfl rfl (fun w0 T B E0 hB => ?_)
      refine SX.goP ?_
      exact retNd (ResOK.agg3 rfl rfl rfl) (AV0.imp.refl _) ⟨rfl, trivial⟩
    | ok n a' =>
      rw [hr] at h1
      have c2 := h1.ok
      show CallOK _ _ _ _ _
      refine CallOK.fnF Try.func87 Try.results87 Try.ntmps87 rfl rfl rfl rfl (fun w0 T B E0 hB => ?_)
      refine SX.goP ?_
      exact retNd (ResOK.agg3 rfl rfl rfl) (AV0.imp.refl _) ⟨rfl, trivial⟩
  | true =>
    simp only [if_true]
    have c1 := c_takeT o hl ht
    have g3 := isS_lt ht
    have h1 := c_insA (f := 91) (l := l) (a := a + 1) (o := o) (k := fun a o => mapR (fun m => .mk 3 [] [m]) (U a o)) ho (fun h => ⟨g_un1 hu (by omega) (by omega) (by omega), (adv_map (c' := 0) (s' := 1) (au (a + 1) (o + 1) (by omega) (by omega)) (fun k => by rw [cnt_mk, cntL_cons, cntL_nil]; omega)).open.mono (by omega)⟩)
    cases hr : ins 600 (fun a o => mapR (fun m => .mk 3 [] [m]) (U a o)) (a + 1) o with
    | bad e p n a' o' =>
      rw [hr] at h1
      have c2 := h1.bad
      show CallOK _ _ _ _ _
      refine CallOK.fnF Try.func87 Try.results87 Try.ntmps87 rfl rfl rfl rfl (fun w0 T B E0 hB => ?_)
      refine SX.goP ?_
      exact retNd (ResOK.agg3 rfl rfl rfl) (AV0.imp.refl _) ⟨rfl, trivial⟩
    | ok n a' =>
      rw [hr] at h1
      have c2 := h1.ok
      show CallOK _ _ _ _ _
      refine CallOK.fnF Try.func87 Try.results87 Try.ntmps87 rfl rfl rfl rfl (fun w0 T B E0 hB => ?_)
      refine SX.goP ?_
      exact retNd (ResOK.agg3 rfl rfl rfl) (AV0.imp.refl _) ⟨rfl, trivial⟩
theorem ge_un {l : List Tok} (hp : GE 90 l) : GE 87 l := by
  intro a o e p
  have c1 := hp a o e p
  have c2 := c_takeE l a o e p [45]
  refine CallOK.fnF Try.func87 Try.results87 Try.ntmps87 rfl rfl rfl rfl (fun w0 T B E0 hB => ?_)
  refine SX.goP ?_
  exact retNd (ResOK.agg3 rfl rfl rfl) (AV0.imp.refl _) ⟨rfl, trivial⟩
/-- A state in a loop: in the course, or behind an error. -/
def bE : Option (Nat × Nat) → Nat
  | none => 0
  | some (e, _) => e
def bP : Option (Nat × Nat) → Nat
  | none => 0
  | some (_, p) => p
def bH : Option (Nat × Nat) → Bool
  | none => false
  | some _ => true
abbrev PS (l : List Tok) (a o : Nat) (b : Option (Nat × Nat)) : Ent := PB l a o (bE b) (bH b) (bP b)
structure ChS where
  n : Nd
  a : Nat
  o : Nat
  b : Option (Nat × Nat)
  f : Nat
/-- What a chain comes to from a state. -/
def chS (l : List Tok) (S : Gr) (s1 : List UInt8) (x : Nat) (s2 : List UInt8) (y : Nat) (q : ChS) : Res := match q.b with
  | none => chainG l S s1 x s2 y q.f q.n q.a q.o
  | some (e, p) => .bad e p q.n q.a q.o
/-- A node's own variable, empty. -/
abbrev NZ : Ent := .box 58 [.c (.val (.int .i64 0)), .c (.val (.string ByteArray.empty)), .c (.val (.slice none 0 0))]
def chI (f : FuncId) (s1 : List UInt8) (x : Nat) (s2 : List UInt8) (y : Nat) : List (Nat × AV) := [(0, .ptr 29 0), (1, bnA f), (2, .v (str s1)), (3, .v (.int .i64 (x : Int))), (4, .v (str s2)), (5, .v (.int .i64 (y : Int))), (12, .ptr 12 0), (13, .ptr 13 0)]
theorem retCR {P : Program} {C : Ctx} {st : St} {rv : ResultVar} {n : Nd} {l : List (Nat × Slot)} (h : ResOK P st rv (.agg (ndA n))) (hh : HpIs st l) : RetF C P [rv] ⟨rNd n, l⟩ st := retNd h (AV0.imp.refl _) hh
def Res.nd : Res → Nd
  | .ok n _ => n
  | .bad _ _ n _ _ => n
def Res.pl : Res → Nat
  | .ok _ a => a
  | .bad _ _ _ a _ => a
def Res.op (o : Nat) : Res → Nat
  | .ok _ _ => o
  | .bad _ _ _ _ o' => o'
def Res.er : Res → Option (Nat × Nat)
  | .ok _ _ => none
  | .bad e p _ _ _ => some (e, p)
theorem CR.of {res : Nd → AV} {f : FuncId} {args : List AV} {ex : List (Nat × Ent)} {l : List Tok} {a o : Nat} {r : Res} (h : CallOK Try.prog f args ((29, PG l a o) :: ex) ⟨res r.nd, (29, .ent (PS l r.pl (r.op o) r.er)) :: ex.map fun p => (p.1, .ent p.2)⟩) : CR res f args ex l a o r := by
  cases r <;> exact h
abbrev caN (n : Nd) : List CA := [.val (.int .i64 (n.op : Int)), .val (str n.text), .sat (rowR 3 ndC n.kids)]
theorem nb_two (x : Nat) (n k : Nd) : Ent.box 58 [.c (.val (.int .i64 (x : Int))), .c (.val (.string ByteArray.empty)), .c (.sat (sliceR 3 2 (caN n ++ caN k)))] = NB (.mk x [] [n, k]) := by
  show _ = Ent.box _ [_, _, .c (.sat (sliceR 3 2 ([n, k].flatMap ndC)))]
  rw [show [n, k].flatMap ndC = caN n ++ caN k by simp only [List.flatMap_cons, List.flatMap_nil, ndC_eq', List.append_nil]]
  rfl
theorem c_chain {f : FuncId} {l : List Tok} {m : Nat} {S : Gr} {s1 s2 : List UInt8} {x y : Nat} (hl : l.length ≤ 1000000) (hs : GOK f l m S) (hA : Adv 1 l m S) {a o : Nat} (hm : m ≤ a) (ha : a ≤ l.length) (ho : o ≤ 600) :
    CR rNd 79 [.ptr 29 0, bnA f, .v (str s1), .v (.int .i64 (x : Int)), .v (str s2), .v (.int .i64 (y : Int))] [] l a o (chnF l S s1 x s2 y a o) := by
  have h1 := hs a o hm ha ho
  have h2 := hA a o hm ha
  unfold chnF
  cases hr : S a o with
  | bad e p n a' o' =>
    rw [hr] at h1
    have c1 := h1.bad
    have c2 := c_takeE l a' o' e p s1
    have c3 := c_takeE l a' o' e p s2
    show CallOK _ _ _ _ _
    refine CallOK.fnF Try.func79 Try.results79 Try.ntmps79 rfl rfl rfl rfl (fun w0 T B E0 hB => ?_)
    refine SX.goP ?_
    refine W.loop (fun _ : Unit => True) (fun _ => chI f s1 x s2 y) (fun _ => [(29, PE l a' o' e p), (12, NZ), (13, NB n)]) (fun _ => 0) () trivial (fun _ _ => ?_)
    refine SX.goP ?_
    exact retNd (ResOK.agg3 rfl rfl rfl) (AV0.imp.refl _) ⟨rfl, trivial⟩
  | ok n a' =>
    rw [hr] at h1 h2
    have c1 := h1.ok
    obtain ⟨g1, g2, g3⟩ := h2
    have g4 := cnt_pos n
    dsimp only
    generalize hR : chainG l S s1 x s2 y (l.length + 1) n a' o = R
    refine CR.of ?_
    refine CallOK.fnF Try.func79 Try.results79 Try.ntmps79 rfl rfl rfl rfl (fun w0 T B E0 hB => ?_)
    refine SX.goP ?_
    refine W.loop (fun q : ChS => chS l S s1 x s2 y q = R ∧ (q.b = none → q.o = o ∧ m ≤ q.a ∧ q.a ≤ l.length ∧ l.length < q.a + q.f)) (fun _ => chI f s1 x s2 y) (fun q => [(29, PS l q.a q.o q.b), (12, NZ), (13, NB q.n)]) (fun q => match q.b with | none => l.length + 1 - q.a | some _ => 0) ⟨n, a', o, none, l.length + 1⟩ ⟨hR, fun _ => by dsimp only; exact ⟨rfl, by omega, by omega, by omega⟩⟩ (fun q hq => ?_)
    obtain ⟨qn, qa, qo, qb, qf⟩ := q
    obtain ⟨hq1, hq2⟩ := hq
    dsimp only at hq1 hq2
    cases qb with
    | some b =>
      obtain ⟨e, p⟩ := b
      have c2 := c_takeE l qa qo e p s1
      have c3 := c_takeE l qa qo e p s2
      refine SX.goP ?_
      subst hq1
      exact retNd (ResOK.agg3 rfl rfl rfl) (AV0.imp.refl _) ⟨rfl, trivial⟩
    | none =>
      obtain ⟨rfl, b1, b2, b3⟩ := hq2 rfl
      obtain ⟨qf, rfl⟩ : ∃ k, qf = k + 1 := ⟨qf - 1, by omega⟩
      have hq1 : chainG l S s1 x s2 y (qf + 1) qn qa qo = R := hq1
      unfold chainG at hq1
      cases ht : isS l qa s1 with
      | true =>
        have c2 := c_takeT qo hl ht
        have g5 := isS_lt ht
        have h3 := hs (qa + 1) qo (by omega) (by omega) ho
        have h4 := hA (qa + 1) qo (by omega) (by omega)
        rw [if_pos ht] at hq1
        cases hr2 : S (qa + 1) qo with
        | bad e p k a2 o2 =>
          rw [hr2] at h3 hq1
          have c3 := h3.bad
          refine SX.goP ?_
          exact W.next ⟨.mk x [] [qn, k], a2, o2, some (e, p), 0⟩ ⟨hq1, fun h => by cases h⟩ (by dsimp only; omega) 
            (by
              apply SX.St.lt0
              · intro b h; exact SX.fixIs h
              · repeat (first | exact trivial | refine ⟨⟨_, rfl, SX.AVto.same rfl⟩, ?_⟩)
              · exact ⟨SX.EntTo.eq rfl rfl rfl, SX.EntTo.same rfl rfl, SX.EntTo.eq rfl (nb_two _ _ _) rfl, trivial⟩
              · rfl)
        | ok k a2 =>
          rw [hr2] at h3 hq1 h4
          have c3 := h3.ok
          obtain ⟨j1, j2, j3⟩ := h4
          refine SX.goP ?_
          exact W.next ⟨.mk x [] [qn, k], a2, qo, none, qf⟩ ⟨hq1, fun h => by dsimp only; exact ⟨rfl, by omega, by omega, by omega⟩⟩ (by dsimp only; omega)
            (by
              apply SX.St.lt0
              · intro b h; exact SX.fixIs h
              · repeat (first | exact trivial | refine ⟨⟨_, rfl, SX.AVto.same rfl⟩, ?_⟩)
              · exact ⟨SX.EntTo.eq rfl rfl rfl, SX.EntTo.same rfl rfl, SX.EntTo.eq rfl (nb_two _ _ _) rfl, trivial⟩
              · rfl)
      | false =>
        have c2 := c_takeF qo ht
        rw [if_neg (by rw [ht]; decide)] at hq1
        cases ht2 : isS l qa s2 with
        | true =>
          have c4 := c_takeT qo hl ht2
          have g5 := isS_lt ht2
          have h3 := hs (qa + 1) qo (by omega) (by omega) ho
          have h4 := hA (qa + 1) qo (by omega) (by omega)
          rw [if_pos ht2] at hq1
          cases hr2 : S (qa + 1) qo with
          | bad e p k a2 o2 =>
            rw [hr2] at h3 hq1
            have c3 := h3.bad
            refine SX.goP ?_
            exact W.next ⟨.mk y [] [qn, k], a2, o2, some (e, p), 0⟩ ⟨hq1, fun h => by cases h⟩ (by dsimp only; omega)
              (by
                apply SX.St.lt0
                · intro b h; exact SX.fixIs h
                · repeat (first | exact trivial | refine ⟨⟨_, rfl, SX.AVto.same rfl⟩, ?_⟩)
                · exact ⟨SX.EntTo.eq rfl rfl rfl, SX.EntTo.same rfl rfl, SX.EntTo.eq rfl (nb_two _ _ _) rfl, trivial⟩
                · rfl)
          | ok k a2 =>
            rw [hr2] at h3 hq1 h4
            have c3 := h3.ok
            obtain ⟨j1, j2, j3⟩ := h4
            refine SX.goP ?_
            exact W.next ⟨.mk y [] [qn, k], a2, qo, none, qf⟩ ⟨hq1, fun h => by dsimp only; exact ⟨rfl, by omega, by omega, by omega⟩⟩ (by dsimp only; omega)
              (by
                apply SX.St.lt0
                · intro b h; exact SX.fixIs h
                · repeat (first | exact trivial | refine ⟨⟨_, rfl, SX.AVto.same rfl⟩, ?_⟩)
                · exact ⟨SX.EntTo.eq rfl rfl rfl, SX.EntTo.same rfl rfl, SX.EntTo.eq rfl (nb_two _ _ _) rfl, trivial⟩
                · rfl)
        | false =>
          have c4 := c_takeF qo ht2
          rw [if_neg (by rw [ht2]; decide)] at hq1
          refine SX.goP ?_
          subst hq1
          exact retNd (ResOK.agg3 rfl rfl rfl) (AV0.imp.refl _) ⟨rfl, trivial⟩
end Go.Proofs.Ytaocklkbijkhpaa

import Derived.Test.YtaocklkbijkhpaaH8
/- Package parser in the symbolic run: statements and blocks. -/
set_option linter.unusedVariables false
set_option linter.unusedSimpArgs false
namespace Go.Proofs.Ytaocklkbijkhpaa
open Go.RowKit SX
section
variable (K : Nat) (l : List Tok)
def bodyG (S : Gr) : Nat → List Nd → Gr
  | 0, _ => fun a o => .bad 4 a nd0 a o
  | f + 1, ks => fun a o => if isS l a [125] then .ok (.mk 22 [] ks) (a + 1) else match S a o with
    | .bad e p n a' o' => .bad e p (.mk 22 [] (ks ++ [n])) a' o'
    | .ok n a' => bodyG S f (ks ++ [n]) a' o
def blkG (S : Gr) : Gr := fun a o => if isS l a [123] then ins K (fun a o => bodyG l S (l.length + 1) [] a o) (a + 1) o else .bad 4 a nd0 a (o + 1)
def ifG (E B : Gr) : Gr := fun a o => match E a o with
  | .bad e p n a' o' => .bad e p (.mk 20 [] [n, nd0]) a' (o' + 1)
  | .ok n a' => match B a' o with
    | .bad e p b a2 o2 => .bad e p (.mk 20 [] [n, b]) a2 o2
    | .ok b a2 => if isS l a2 [101, 108, 115, 101] then mapR (fun c => .mk 20 [] [n, b, c]) (B (a2 + 1) o) else .ok (.mk 20 [] [n, b]) a2
def forG (E B : Gr) : Gr := fun a o => if isNm l a then
    (if isS l (a + 1) [61] then (match E (a + 2) o with
      | .bad e p n a' o' => .bad e p (.mk 21 (txt l a) [n, nd0, nd0]) a' (o' + 1)
      | .ok n a' => if isS l a' [46, 46] then (match E (a' + 1) o with
          | .bad e p n2 a2 o2 => .bad e p (.mk 21 (txt l a) [n, n2, nd0]) a2 (o2 + 1)
          | .ok n2 a2 => mapR (fun b => .mk 21 (txt l a) [n, n2, b]) (B a2 o))
        else .bad 4 a' (.mk 21 (txt l a) [n, nd0, nd0]) a' (o + 1))
    else .bad 4 (a + 1) (.mk 21 (txt l a) [nd0, nd0, nd0]) (a + 1) (o + 1))
  else .bad 4 a (.mk 21 [] [nd0, nd0, nd0]) a (o + 1)
def stG (E B : Gr) : Gr := fun a o => if isS l a [105, 102] then ifG l E B (a + 1) o
  else if isS l a [102, 111, 114] then forG l E B (a + 1) o
  else if isNm l a && isS l (a + 1) [61] then thenS l (mapR (fun n => .mk 18 (txt l a) [n]) (E (a + 2) o)) o [59]
  else thenS l (mapR (fun n => .mk 19 [] [n]) (E a o)) o [59]
/-- Statements, so many levels deep. -/
def slev : Nat → Gr
  | 0 => fun a o => .bad 4 a nd0 a o
  | n + 1 => stG l (lev K l (l.length + 1)).1 (blkG K l (slev n))
end
theorem adv_body {l : List Tok} {m : Nat} {S : Gr} (h : Adv 2 l m S) : ∀ (f : Nat) (ks : List Nd) (a o : Nat), m ≤ a → a ≤ l.length → AdvR (cntL ks) 0 2 l a o (bodyG l S f ks a o)
  | 0, ks, a, o, hm, ha => adv_bad (by omega)
  | f + 1, ks, a, o, hm, ha => by
    unfold bodyG
    split
    · rename_i hs
      have := isS_lt hs
      exact ⟨by rw [cnt_mk]; omega, by omega, by omega⟩
    · have h1 := h a o hm ha
      cases hr : S a o with
      | bad e p n a' o' => rw [hr] at h1; exact h1
      | ok n a' =>
        rw [hr] at h1
        obtain ⟨h1, h3, h2⟩ := h1
        have hh := adv_body h f (ks ++ [n]) a' o (by omega) h2
        refine hh.mono (Nat.le_refl _) (by omega) ?_
        rw [cntL_append, cntL_cons, cntL_nil]; omega
theorem adv_blk {K : Nat} {l : List Tok} {m : Nat} {S : Gr} (h : Adv 2 l (m + 1) S) : Adv 2 l m (blkG K l S) := by
  intro a o hm ha
  unfold blkG
  split
  · rename_i hs
    have := isS_lt hs
    have hh := adv_ins (K := K) (g := fun a o => bodyG l S (l.length + 1) [] a o) (a := a + 1) (o := o) (by omega) (adv_body h (l.length + 1) [] (a + 1) (o + 1) (by omega) (by omega))
    exact hh.mono (Nat.le_refl _) (by omega) (by rw [cntL_nil]; omega)
  · exact ⟨by omega, by omega⟩
theorem adv_if {l : List Tok} {m : Nat} {E B : Gr} (he : Adv 1 l m E) (hb : Adv 2 l m B) {a o : Nat} (hm : m ≤ a) (ha : a ≤ l.length) : AdvR 1 0 2 l a o (ifG l E B a o) := by
  have h1 := he a o hm ha
  unfold ifG
  cases hr : E a o with
  | bad e p n a' o' => rw [hr] at h1; exact ⟨by have := h1.1; omega, by have := h1.2; omega⟩
  | ok n a' =>
    rw [hr] at h1
    obtain ⟨h1, h3, h2⟩ := h1
    have h4 := hb a' o (by omega) h2
    dsimp only
    cases hr2 : B a' o with
    | bad e p n a' o' => rw [hr2] at h4; exact h4
    | ok b a2 =>
      rw [hr2] at h4
      obtain ⟨h4, h6, h5⟩ := h4
      dsimp only
      split
      · rename_i hs
        have := isS_lt hs
        have hh := adv_map (f := fun c => Nd.mk 20 [] [n, b, c]) (c' := 0) (s' := 1 + cnt n + cnt b) (hb (a2 + 1) o (by omega) (by omega)) (fun k => by rw [cnt_mk, cntL_cons, cntL_cons, cntL_cons, cntL_nil]; omega)
        exact hh.mono (Nat.le_refl _) (by omega) (by omega)
      · exact ⟨by rw [cnt_mk, cntL_cons, cntL_cons, cntL_nil]; omega, by omega, h5⟩
theorem adv_for {l : List Tok} {m : Nat} {E B : Gr} (he : Adv 1 l m E) (hb : Adv 2 l m B) {a o : Nat} (hm : m ≤ a) (ha : a ≤ l.length) : AdvR 0 0 2 l a o (forG l E B a o) := by
  unfold forG
  split
  · split
    · rename_i hs
      have := isS_lt hs
      have h1 := he (a + 2) o (by omega) (by omega)
      cases hr : E (a + 2) o with
      | bad e p n a' o' => rw [hr] at h1; exact ⟨by have := h1.1; omega, by have := h1.2; omega⟩
      | ok n a' =>
        rw [hr] at h1
        obtain ⟨h1, h3, h2⟩ := h1
        dsimp only
        split
        · rename_i hs2
          have := isS_lt hs2
          have h4 := he (a' + 1) o (by omega) (by omega)
          cases hr2 : E (a' + 1) o with
          | bad e p n a' o' => rw [hr2] at h4; exact ⟨by have := h4.1; omega, by have := h4.2; omega⟩
          | ok n2 a2 =>
            rw [hr2] at h4
            obtain ⟨h4, h6, h5⟩ := h4
            have hh := adv_map (f := fun b => Nd.mk 21 (txt l a) [n, n2, b]) (c' := 0) (s' := 1 + cnt n + cnt n2) (hb a2 o (by omega) h5) (fun k => by rw [cnt_mk, cntL_cons, cntL_cons, cntL_cons, cntL_nil]; omega)
            exact hh.mono (Nat.le_refl _) (by omega) (by omega)
        · exact ⟨by omega, by omega⟩
    · exact ⟨by omega, by omega⟩
  · exact ⟨by omega, by omega⟩
theorem adv_st {l : List Tok} {m : Nat} {E B : Gr} (he : Adv 1 l m E) (hb : Adv 2 l (m + 1) B) : Adv 2 l m (stG l E B) := by
  have he' : Adv 1 l (m + 1) E := fun a o hm ha => he a o (by omega) ha
  intro a o hm ha
  unfold stG
  split
  · rename_i hs
    have := isS_lt hs
    exact (adv_if he' hb (o := o) (by omega) (by omega)).mono (Nat.le_refl _) (by omega) (by omega)
  · split
    · rename_i hs
      have := isS_lt hs
      exact (adv_for he' hb (o := o) (by omega) (by omega)).mono (Nat.le_refl _) (by omega) (by omega)
    · split
      · rename_i hs
        rw [Bool.and_eq_true] at hs
        have := isS_lt hs.2
        have hh := adv_then (t := [59]) (adv_map (f := fun n => Nd.mk 18 (txt l a) [n]) (c' := 0) (s' := 1) (he (a + 2) o (by omega) (by omega)) (fun k => by rw [cnt_mk, cntL_cons, cntL_nil]; omega))
        exact hh.mono (by omega) (by omega) (by omega)
      · have hh := adv_then (t := [59]) (adv_map (f := fun n => Nd.mk 19 [] [n]) (c' := 0) (s' := 1) (he a o hm ha) (fun k => by rw [cnt_mk, cntL_cons, cntL_nil]; omega))
        exact hh.mono (by omega) (by omega) (by omega)
theorem adv_slev (K : Nat) (l : List Tok) : ∀ (n m : Nat), l.length + 1 ≤ m + n → Adv 2 l m (slev K l n)
  | 0, m, h => fun a o hm ha => by omega
  | n + 1, m, h => adv_st (fun a o hm ha => (adv_lev K l (l.length + 1) m (by omega)).1 a o hm ha) (adv_blk fun a o hm ha => adv_slev K l n (m + 1) (by omega) a o (by omega) ha)
attribute [local irreducible] IntKind.wrap Go1 Reg WP thenK inBlk retQ retF RetF RetOK ResOK CallOK OpOK Sat
def boS (l : List Tok) (S : Gr) (q : LiS) : Res := match q.b with
  | none => bodyG l S q.f q.ks q.a q.o
  | some (e, p) => .bad e p (.mk 22 [] q.ks) q.a q.o
theorem g_body {l : List Tok} {m : Nat} {S : Gr} (hl : l.length ≤ 1000000) (hs : GOK 37 l m S) (hA : Adv 2 l m S) {a o : Nat} (hm : m ≤ a) (ha : a ≤ l.length) (ho : o ≤ 600) :
    CR rNd 69 [.ptr 81 0] [(81, PP)] l a o (bodyG l S (l.length + 1) [] a o) := by
  generalize hR : bodyG l S (l.length + 1) [] a o = R
  refine CR.of ?_
  refine CallOK.fnF Try.func69 Try.results69 Try.ntmps69 rfl rfl rfl rfl (fun w0 T B E0 hB => ?_)
  refine SX.goP ?_
  refine W.loop (fun q : LiS => boS l S q = R ∧ (q.b = none → q.o = o ∧ m ≤ q.a ∧ q.a ≤ l.length ∧ l.length < q.a + q.f ∧ q.ks.length ≤ q.a)) (fun _ => [(0, .ptr 81 0), (1, .ptr 1 0), (2, .ptr 2 0)]) (fun q => [(29, PS l q.a q.o q.b), (81, PP), (1, NZ), (2, NG 22 100), (100, NR q.ks)]) (fun q => match q.b with | none => l.length + 1 - q.a | some _ => 0) ⟨[], a, o, none, l.length + 1⟩ ⟨hR, fun _ => by dsimp only; exact ⟨rfl, by omega, by omega, by omega, Nat.zero_le _⟩⟩ (fun q hq => ?_)
    (by
      refine SX.St.le_to [(100, none)] (by intro b h; exact SX.fixIs h rfl) ?_ ?_ rfl
      · repeat (first | exact trivial | refine ⟨⟨_, rfl, SX.AVto.same rfl⟩, ?_⟩)
      · exact ⟨SX.EntTo.same rfl rfl, SX.EntTo.same rfl rfl, SX.EntTo.same rfl rfl, EntTo.node rfl rfl (AtomTo.nil rfl), SX.EntTo.nilRow rfl, trivial⟩)
  obtain ⟨qk, qa, qo, qb, qf⟩ := q
  obtain ⟨hq1, hq2⟩ := hq
  dsimp only at hq1 hq2
  cases qb with
  | some b =>
    obtain ⟨ee, p⟩ := b
    show WP _ _ _ (mkSt [(0, .ptr 81 0), (1, .ptr 1 0), (2, .ptr 2 0)] [(29, PE l qa qo ee p), (81, PP), (1, NZ), (2, NG 22 100), (100, NR qk)]) _
    refine SX.goP ?_
    subst hq1
    refine RetF.frzP 100 (ps := [29, 81]) ?_
    exact retNd (ResOK.agg3 rfl rfl rfl) (imp_ndk rfl rfl rfl rfl) ⟨rfl, rfl, trivial⟩
  | none =>
    obtain ⟨rfl, b1, b2, b3, b4⟩ := hq2 rfl
    obtain ⟨qf, rfl⟩ : ∃ k, qf = k + 1 := ⟨qf - 1, by omega⟩
    show WP _ _ _ (mkSt [(0, .ptr 81 0), (1, .ptr 1 0), (2, .ptr 2 0)] [(29, PG l qa qo), (81, PP), (1, NZ), (2, NG 22 100), (100, NR qk)]) _
    have hq1 : bodyG l S (qf + 1) qk qa qo = R := hq1
    unfold bodyG at hq1
    cases ht : isS l qa [125] with
    | true =>
      rw [if_pos ht] at hq1
      have c3 := c_takeT qo hl ht
      refine SX.goP ?_
      subst hq1
      refine RetF.frzP 100 (ps := [29, 81]) ?_
      exact retNd (ResOK.agg3 rfl rfl rfl) (imp_ndk rfl rfl rfl rfl) ⟨rfl, rfl, trivial⟩
    | false =>
      rw [if_neg (by rw [ht]; decide)] at hq1
      have c3 := c_takeF qo ht
      have h3 := hs qa qo (by omega) (by omega) ho
      have h4 := hA qa qo (by omega) (by omega)
      cases hr2 : S qa qo with
      | bad c p k a2 o2 =>
        rw [hr2] at h3 hq1
        have c4 := h3.bad
        refine SX.goP ?_
        exact W.next ⟨qk ++ [k], a2, o2, some (c, p), 0⟩ ⟨hq1, fun h => by cases h⟩ (by dsimp only; omega)
          (by
            refine SX.St.le_to [(100, some 19)] (by intro b h; exact SX.fixIs h rfl) ?_ ?_ rfl
            · repeat (first | exact trivial | refine ⟨⟨_, rfl, SX.AVto.same rfl⟩, ?_⟩)
            · exact ⟨SX.EntTo.eq rfl rfl rfl, SX.EntTo.same rfl rfl, SX.EntTo.same rfl rfl, EntTo.node rfl rfl (AtomTo.own rfl), SX.EntTo.row rfl rfl (by simp) (flat_snoc (ndC_eq' _).symm), trivial⟩)
      | ok k a2 =>
        rw [hr2] at h3 hq1 h4
        have c4 := h3.ok
        obtain ⟨j1, j2, j3⟩ := h4
        have j4 := cnt_pos k
        refine SX.goP ?_
        exact W.next ⟨qk ++ [k], a2, qo, none, qf⟩ ⟨hq1, fun h => by dsimp only; exact ⟨rfl, by omega, by omega, by omega, by simp; omega⟩⟩ (by dsimp only; omega)
          (by
            refine SX.St.le_to [(100, some 19)] (by intro b h; exact SX.fixIs h rfl) ?_ ?_ rfl
            · repeat (first | exact trivial | refine ⟨⟨_, rfl, SX.AVto.same rfl⟩, ?_⟩)
            · exact ⟨SX.EntTo.eq rfl rfl rfl, SX.EntTo.same rfl rfl, SX.EntTo.same rfl rfl, EntTo.node rfl rfl (AtomTo.own rfl), SX.EntTo.row rfl rfl (by simp) (flat_snoc (ndC_eq' _).symm), trivial⟩)
theorem g_blk {l : List Tok} {m : Nat} {S : Gr} (hl : l.length ≤ 1000000) (hs : GOK 37 l (m + 1) S) (hA : Adv 2 l (m + 1) S) : GOK 51 l m (blkG 600 l S) := by
  intro a o hm ha ho
  have nm1 : Named 1 81 := ⟨⟩
  unfold blkG
  cases ht : isS l a [123] with
  | true =>
    rw [if_pos rfl]
    have c1 := c_mustT o hl ht
    have g5 := isS_lt ht
    have h1 := c_insA (f := 69) (l := l) (a := a + 1) (o := o) (k := fun a o => bodyG l S (l.length + 1) [] a o) ho (fun h => ⟨g_body hl hs hA (by omega) (by omega) (by omega), (adv_body hA _ _ _ _ (by omega) (by omega)).open.mono (by omega)⟩)
    cases hr : ins 600 (fun a o => bodyG l S (l.length + 1) [] a o) (a + 1) o with
    | bad e p n a' o' =>
      rw [hr] at h1
      have c3 := h1.bad
      show CallOK _ _ _ _ _
      refine CallOK.fnF Try.func51 Try.results51 Try.ntmps51 rfl rfl rfl rfl (fun w0 T B E0 hB => ?_)
      refine SX.goP ?_
      exact retNd (ResOK.agg3 rfl rfl rfl) (AV0.imp.refl _) ⟨rfl, trivial⟩
    | ok n a' =>
      rw [hr] at h1
      have c3 := h1.ok
      show CallOK _ _ _ _ _
      refine CallOK.fnF Try.func51 Try.results51 Try.ntmps51 rfl rfl rfl rfl (fun w0 T B E0 hB => ?_)
      refine SX.goP ?_
      exact retNd (ResOK.agg3 rfl rfl rfl) (AV0.imp.refl _) ⟨rfl, trivial⟩
  | false =>
    rw [if_neg (by decide)]
    have c1 := c_mustF o ht
    have c2 := c_insE (f := 69) (l := l) (a := a) (o := o) (e := 4) (p := a) (by omega)
    show CallOK _ _ _ _ _
    refine CallOK.fnF Try.func51 Try.results51 Try.ntmps51 rfl rfl rfl rfl (fun w0 T B E0 hB => ?_)
    refine SX.goP ?_
    exact retNd (ResOK.agg3 rfl rfl rfl) (AV0.imp.refl _) ⟨rfl, trivial⟩
theorem c_blkE (l : List Tok) (a : Nat) {o : Nat} (e p : Nat) (ho : o ≤ 1000000) : CallOK Try.prog 51 [.ptr 29 0] [(29, PE l a o e p)] ⟨rNd nd0, [(29, .ent (PE l a (o + 1) e p))]⟩ := by
  have nm1 : Named 1 81 := ⟨⟩
  have c1 := c_mustE l a o e p [123]
  have c2 := c_insE (f := 69) (l := l) (a := a) (o := o) (e := e) (p := p) ho
  refine CallOK.fnF Try.func51 Try.results51 Try.ntmps51 rfl rfl rfl rfl (fun w0 T B E0 hB => ?_)
  refine SX.goP ?_
  exact retNd (ResOK.agg3 rfl rfl rfl) (AV0.imp.refl _) ⟨rfl, trivial⟩
end Go.Proofs.Ytaocklkbijkhpaa

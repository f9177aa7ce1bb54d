import Derived.Test.YtaocklkbijkhpaaH4
/- Package parser in the symbolic run: lists, matrices. -/
set_option linter.unusedVariables false
set_option linter.unusedSimpArgs false
namespace Go.Proofs.Ytaocklkbijkhpaa
open Go.RowKit SX
attribute [local irreducible] IntKind.wrap Go1 Reg WP thenK inBlk retQ retF RetF RetOK ResOK CallOK OpOK Sat
theorem retKs {P : Program} {C : Ctx} {st : St} {t : Tmp} {l : List (Nat × Slot)} {n : Nat} {cells : List CA} {ks : List Nd} (hh : HpIs st l) (h : st.tm t = some (.r (sliceR 3 n cells)) := by rfl) (hn : n = ks.length := by first | rfl | (simp [Res.nd, Nd.kids]; done)) (hc : cells = ks.flatMap ndC := by first | rfl | exact flat_snoc (ndC_eq' _).symm) : RetF C P [.tmp t] ⟨.r (rowR 3 ndC ks), l⟩ st := by
  subst hn hc
  exact retP (xs := [.one (.c (.sat (rowR 3 ndC ks)))]) ⟨ResOK.tmp h, trivial⟩ hh
theorem retK0 {P : Program} {C : Ctx} {st : St} {t : Tmp} {l : List (Nat × Slot)} (hh : HpIs st l) (h : st.tm t = some (.v (.slice none 0 0)) := by rfl) : RetF C P [.tmp t] ⟨.r (rowR 3 ndC []), l⟩ st :=
  retP (xs := [.one (.c (.sat (rowR 3 ndC [])))]) ⟨(ResOK.tmp h).imp imp_nil, trivial⟩ hh
structure LiS where
  ks : List Nd
  a : Nat
  o : Nat
  b : Option (Nat × Nat)
  f : Nat
def liS (l : List Tok) (X : Gr) (e : List UInt8) (q : LiS) : Res := match q.b with
  | none => listG l X e q.f q.ks q.a q.o
  | some (e, p) => .bad e p (.mk 0 [] q.ks) q.a q.o
abbrev NR (ks : List Nd) : Ent := .row 58 3 ks.length (ks.flatMap ndC)
theorem g_list {l : List Tok} {m : Nat} {X : Gr} {e : List UInt8} (hl : l.length ≤ 1000000) (hs : GOK 50 l m X) (hA : Adv 1 l m X) {a o : Nat} (hm : m ≤ a) (ha : a ≤ l.length) (ho : o ≤ 600) :
    CR rKs 100 [.ptr 29 0, .v (str e)] [] l a o (listE l X e a o) := by
  unfold listE
  cases h0 : isS l a e with
  | true =>
    rw [if_pos rfl]
    have c0 := c_takeT o hl h0
    show CallOK _ _ _ _ _
    refine CallOK.fnF Try.func100 Try.results100 Try.ntmps100 rfl rfl rfl rfl (fun w0 T B E0 hB => ?_)
    refine SX.goP ?_
    exact retK0 ⟨rfl, trivial⟩
  | false =>
    rw [if_neg (by decide)]
    have c0 := c_takeF o h0
    generalize hR : listG l X e (l.length + 1) [] a o = R
    refine CR.of ?_
    refine CallOK.fnF Try.func100 Try.results100 Try.ntmps100 rfl rfl rfl rfl (fun w0 T B E0 hB => ?_)
    refine SX.goP ?_
    refine W.loop (fun q : LiS => liS l X e q = R ∧ (q.b = none → q.o = o ∧ m ≤ q.a ∧ q.a ≤ l.length ∧ l.length < q.a + q.f ∧ q.ks.length ≤ q.a)) (fun _ => [(0, .ptr 29 0), (1, .v (str e)), (5, .own 100)]) (fun q => [(29, PS l q.a q.o q.b), (100, NR q.ks)]) (fun q => match q.b with | none => l.length + 1 - q.a | some _ => 0) ⟨[], a, o, none, l.length + 1⟩ ⟨hR, fun _ => by dsimp only; exact ⟨rfl, by omega, by omega, by omega, Nat.zero_le _⟩⟩ (fun q hq => ?_)
    obtain ⟨qk, qa, qo, qb, qf⟩ := q
    obtain ⟨hq1, hq2⟩ := hq
    dsimp only at hq1 hq2
    cases qb with
    | some b =>
      obtain ⟨ee, p⟩ := b
      show WP _ _ _ (mkSt [(0, .ptr 29 0), (1, .v (str e)), (5, .own 100)] [(29, PE l qa qo ee p), (100, NR qk)]) _
      refine SX.goP ?_
      subst hq1
      refine RetF.frzP 100 (ps := [29]) ?_
      exact retKs ⟨rfl, trivial⟩
    | none =>
      obtain ⟨rfl, b1, b2, b3, b4⟩ := hq2 rfl
      obtain ⟨qf, rfl⟩ : ∃ k, qf = k + 1 := ⟨qf - 1, by omega⟩
      show WP _ _ _ (mkSt [(0, .ptr 29 0), (1, .v (str e)), (5, .own 100)] [(29, PG l qa qo), (100, NR qk)]) _
      have hq1 : listG l X e (qf + 1) qk qa qo = R := hq1
      unfold listG at hq1
      have h3 := hs qa qo (by omega) (by omega) ho
      have h4 := hA qa qo (by omega) (by omega)
      cases hr2 : X qa qo with
      | bad c p k a2 o2 =>
        rw [hr2] at h3 hq1
        have c3 := h3.bad
        have c4 := c_takeE l a2 o2 c p e
        have c5 := c_mustE l a2 o2 c p [44]
        refine SX.goP ?_
        exact W.next ⟨qk ++ [k], a2, o2, some (c, p), 0⟩ ⟨hq1, fun h => by cases h⟩ (by dsimp only; omega)
          (by
            apply SX.St.lt1
            · intro b h; exact SX.fixIs h
            · repeat (first | exact trivial | refine ⟨⟨_, rfl, SX.AVto.same rfl⟩, ?_⟩ | refine ⟨⟨_, rfl, SX.AVto.own rfl⟩, ?_⟩)
            · exact ⟨SX.EntTo.eq rfl rfl rfl, SX.EntTo.row rfl rfl (by simp) (flat_snoc (ndC_eq' _).symm), trivial⟩
            · rfl)
      | ok k a2 =>
        rw [hr2] at h3 hq1 h4
        have c3 := h3.ok
        obtain ⟨j1, j2, j3⟩ := h4
        have j4 := cnt_pos k
        dsimp only at hq1
        cases ht : isS l a2 e with
        | true =>
          have c4 := c_takeT qo hl ht
          rw [if_pos ht] at hq1
          refine SX.goP ?_
          subst hq1
          refine RetF.frzP 18 (ps := [29]) ?_
          exact retKs ⟨rfl, trivial⟩
        | false =>
          have c4 := c_takeF qo ht
          rw [if_neg (by rw [ht]; decide)] at hq1
          cases ht2 : isS l a2 [44] with
          | true =>
            have c5 := c_mustT qo hl ht2
            have g5 := isS_lt ht2
            rw [if_pos ht2] at hq1
            refine SX.goP ?_
            exact W.next ⟨qk ++ [k], a2 + 1, qo, none, qf⟩ ⟨hq1, fun h => by dsimp only; exact ⟨rfl, by omega, by omega, by omega, by simp; omega⟩⟩ (by dsimp only; omega)
              (by
                apply SX.St.lt1
                · intro b h; exact SX.fixIs h
                · repeat (first | exact trivial | refine ⟨⟨_, rfl, SX.AVto.same rfl⟩, ?_⟩ | refine ⟨⟨_, rfl, SX.AVto.own rfl⟩, ?_⟩)
                · exact ⟨SX.EntTo.eq rfl rfl rfl, SX.EntTo.row rfl rfl (by simp) (flat_snoc (ndC_eq' _).symm), trivial⟩
                · rfl)
          | false =>
            have c5 := c_mustF qo ht2
            rw [if_neg (by rw [ht2]; decide)] at hq1
            refine SX.goP ?_
            exact W.next ⟨qk ++ [k], a2, qo, some (4, a2), 0⟩ ⟨hq1, fun h => by cases h⟩ (by dsimp only; omega)
              (by
                apply SX.St.lt1
                · intro b h; exact SX.fixIs h
                · repeat (first | exact trivial | refine ⟨⟨_, rfl, SX.AVto.same rfl⟩, ?_⟩ | refine ⟨⟨_, rfl, SX.AVto.own rfl⟩, ?_⟩)
                · exact ⟨SX.EntTo.eq rfl rfl rfl, SX.EntTo.row rfl rfl (by simp) (flat_snoc (ndC_eq' _).symm), trivial⟩
                · rfl)
end Go.Proofs.Ytaocklkbijkhpaa

import Derived.Test.YtaocklkbijkhpaaH5
/- Package parser in the symbolic run: matrices. -/
set_option linter.unusedVariables false
set_option linter.unusedSimpArgs false
namespace SX
open Go Go.RowKit
/-- Variables that hold rows of the call's own. -/
def AtomTo (ρ : List (Nat × Option Nat)) (x y : Atom) : Prop := ∀ E S w v, x.has E S w v → y.has (reEnv ρ E) S w v
def AtomsTo (ρ : List (Nat × Option Nat)) : List Atom → List Atom → Prop
  | [], [] => True
  | a :: l, b :: m => AtomTo ρ a b ∧ AtomsTo ρ l m
  | _, _ => False
theorem AtomTo.same {ρ : List (Nat × Option Nat)} {x : Atom} (h : fresh ρ x.ids = true) : AtomTo ρ x x := fun E S w v hv => hv.env (fresh_at h E)
theorem AtomTo.own {ρ : List (Nat × Option Nat)} {o b : Nat} (h : lk ρ b = some (some o)) : AtomTo ρ (.own o) (.own b) := fun E S w v hv => by
  obtain ⟨h1, h2⟩ := hv
  exact ⟨by simp only [reEnv, h]; exact h1, h2⟩
theorem AtomTo.nil {ρ : List (Nat × Option Nat)} {b : Nat} (h : lk ρ b = some none) : AtomTo ρ (.c (.val (.slice none 0 0))) (.own b) := fun E S w v hv => by
  have hv' : v = .slice none 0 0 := hv
  subst hv'
  exact ⟨by simp only [reEnv, h], rfl⟩
theorem AtomTo.int {ρ : List (Nat × Option Nat)} {k : IntKind} {z z' : Int} (e : z = z') : AtomTo ρ (.c (.val (.int k z))) (.c (.val (.int k z'))) := by subst e; exact AtomTo.same rfl
theorem AtomsTo.all {ρ : List (Nat × Option Nat)} {E : Env} {S : Nat → Prop} {w : World} : ∀ {l m : List Atom} {vs : List Value}, AtomsTo ρ l m → All2 (Atom.has E S w) l vs → All2 (Atom.has (reEnv ρ E) S w) m vs
  | [], [], [], _, _ => trivial
  | a :: l, b :: m, v :: vs, h, k => ⟨h.1 E S w v k.1, h.2.all k.2⟩
  | [], [], _ :: _, _, k => k.elim
  | _ :: _, _ :: _, [], _, k => k.elim
  | [], _ :: _, _, h, _ => h.elim
  | _ :: _, [], _, h, _ => h.elim
theorem EntTo.boxTo {st : St} {ρ : List (Nat × Option Nat)} {b : Nat} {t : TypeId} {cells0 cells : List Atom} (h : st.hp b = .ent (.box t cells0)) (hf : fresh ρ [b] = true) (hi : AtomsTo ρ cells0 cells) : EntTo st ρ b (.box t cells) := by
  have ha := fresh_at hf
  refine .old b _ h (.inr ⟨?_, rfl⟩) (fun E S w hh => ?_) (fun E => congrArg some (ha E b List.mem_cons_self).1)
  · have := List.all_eq_true.1 hf b List.mem_cons_self
    simpa using this
  · obtain ⟨cs, h1, h2⟩ := hh
    exact ⟨cs, by rw [(ha E b List.mem_cons_self).1]; exact h1, hi.all h2⟩
/-- A fact that is not seen by the run. -/
structure Hide (p : Prop) : Prop where
  out : p
end SX
namespace Go.Proofs.Ytaocklkbijkhpaa
open Go.RowKit SX
attribute [local irreducible] IntKind.wrap Go1 Reg WP thenK inBlk retQ retF RetF RetOK ResOK CallOK OpOK Sat
theorem EntTo.node {st : St} {ρ : List (Nat × Option Nat)} {b c : Nat} {x : Value} {s : Value} {o : Atom} (h : st.hp b = .ent (.box 58 [.c (.val x), .c (.val s), o])) (hf : fresh ρ [b] = true) (hi : AtomTo ρ o (.own c)) : EntTo st ρ b (.box 58 [.c (.val x), .c (.val s), .own c]) :=
  EntTo.boxTo h hf ⟨AtomTo.same rfl, AtomTo.same rfl, hi, trivial⟩
/-- A node whose kids grow. -/
abbrev NG (x : Int) (c : Nat) : Ent := .box 58 [.c (.val (.int .i64 x)), .c (.val (.string ByteArray.empty)), .own c]
structure MaS where
  rs : List Nd
  r : List Nd
  a : Nat
  f : Nat
theorem nd_rowS (r : List Nd) (k : Nd) : ([CA.val (.int .i64 15), .val (.string ByteArray.empty), .sat (sliceR 3 (r.length + 1) (r.flatMap ndC ++ caN k))] : List CA) = ndC (.mk 15 [] (r ++ [k])) := by
  rw [ndC_eq]
  show _ = [CA.val (.int .i64 15), .val (.string ByteArray.empty), .sat (sliceR 3 (r ++ [k]).length ((r ++ [k]).flatMap ndC))]
  rw [← flat_snoc (ndC_eq' k).symm, List.length_append]; rfl
theorem g_mat {l : List Tok} {m : Nat} {X : Gr} (hl : l.length ≤ 1000000) (hs : GOK 50 l m X) (hA : Adv 1 l m X) {a o : Nat} (hm : m ≤ a) (ha : a ≤ l.length) (ho : o ≤ 600) :
    CR rNd 102 [.ptr 29 0] [] l a o (matG l X (l.length + 1) [] [] a o) := by
  generalize hR : matG l X (l.length + 1) [] [] a o = R
  refine CR.of ?_
  refine CallOK.fnF Try.func102 Try.results102 Try.ntmps102 rfl rfl rfl rfl (fun w0 T B E0 hB => ?_)
  refine SX.goP ?_
  refine W.loop (fun q : MaS => matG l X q.f q.rs q.r q.a o = R ∧ m ≤ q.a ∧ q.a ≤ l.length ∧ l.length < q.a + q.f ∧ q.rs.length + q.r.length ≤ q.a) (fun _ => [(0, .ptr 29 0), (2, .ptr 2 0), (3, .ptr 3 0), (4, .ptr 4 0)]) (fun q => [(29, PG l q.a o), (2, NZ), (3, NG 14 100), (4, NG 15 101), (100, NR q.rs), (101, NR q.r)]) (fun q => l.length + 1 - q.a) ⟨[], [], a, l.length + 1⟩ ⟨hR, by dsimp only; exact ⟨by omega, by omega, by omega, Nat.zero_le _⟩⟩ (fun q hq => ?_)
    (by
      refine SX.St.le_to [(100, none), (101, none)] (by intro b h; exact SX.fixIs h rfl) ?_ ?_ rfl
      · repeat (first | exact trivial | refine ⟨⟨_, rfl, SX.AVto.same rfl⟩, ?_⟩)
      · exact ⟨SX.EntTo.same rfl rfl, SX.EntTo.same rfl rfl, EntTo.node rfl rfl (AtomTo.nil rfl), EntTo.node rfl rfl (AtomTo.nil rfl), SX.EntTo.nilRow rfl, SX.EntTo.nilRow rfl, trivial⟩)
  obtain ⟨rs, r, qa, qf⟩ := q
  dsimp only at hq
  obtain ⟨hq1, b1, b2, b3, b4⟩ := hq
  obtain ⟨qf, rfl⟩ : ∃ k, qf = k + 1 := ⟨qf - 1, by omega⟩
  unfold matG at hq1
  show WP _ _ _ (mkSt [(0, .ptr 29 0), (2, .ptr 2 0), (3, .ptr 3 0), (4, .ptr 4 0)] [(29, PG l qa o), (2, NZ), (3, NG 14 100), (4, NG 15 101), (100, NR rs), (101, NR r)]) _
  have h3 := hs qa o (by omega) (by omega) ho
  have h4 := hA qa o (by omega) (by omega)
  cases hr2 : X qa o with
  | bad c p k a2 o2 =>
    rw [hr2] at h3 hq1
    have c3 := h3.bad
    have c4 := c_takeE l a2 o2 c p [44]
    have c6 := c_mustE l a2 o2 c p [93]
    obtain ⟨bb, hbb⟩ : ∃ b, Hide (b = false) := ⟨_, ⟨rfl⟩⟩
    have c5 : CallOK Try.prog 49 [.ptr 29 0, .v (str [59])] [(29, PE l a2 o2 c p)] ⟨.v (.bool bb), [(29, .ent (PE l a2 o2 c p))]⟩ := by rw [hbb.out]; exact c_takeE l a2 o2 c p [59]
    refine SX.goP ?_
    refine WP.freezeP 17 (ps := [29]) hB rfl rfl ?_
    refine W.condF ?_ rfl hbb.out
    refine SX.goP ?_
    subst hq1
    refine RetF.frzP 25 (ps := [29]) ?_
    exact retNd (ResOK.agg3 rfl rfl rfl) (imp_ndk rfl rfl (by simp [Res.nd]) (flat_snoc (nd_rowS r k))) ⟨rfl, trivial⟩
  | ok k a2 =>
    rw [hr2] at h3 hq1 h4
    have c3 := h3.ok
    obtain ⟨j1, j2, j3⟩ := h4
    have j4 := cnt_pos k
    dsimp only at hq1
    cases ht : isS l a2 [44] with
    | true =>
      have c4 := c_takeT o hl ht
      have g5 := isS_lt ht
      rw [if_pos ht] at hq1
      refine SX.goP ?_
      exact W.next ⟨rs, r ++ [k], a2 + 1, qf⟩ ⟨hq1, by dsimp only; exact ⟨by omega, by omega, by omega, by simp; omega⟩⟩ (by dsimp only; omega)
        (by
          refine SX.St.le_to [(100, some 100), (101, some 17)] (by intro b h; exact SX.fixIs h rfl) ?_ ?_ rfl
          · repeat (first | exact trivial | refine ⟨⟨_, rfl, SX.AVto.same rfl⟩, ?_⟩)
          · exact ⟨SX.EntTo.eq rfl rfl rfl, SX.EntTo.same rfl rfl, EntTo.node rfl rfl (AtomTo.own rfl), EntTo.node rfl rfl (AtomTo.own rfl), SX.EntTo.row rfl rfl rfl rfl, SX.EntTo.row rfl rfl (by simp) (flat_snoc (ndC_eq' _).symm), trivial⟩)
    | false =>
      have c4 := c_takeF o ht
      rw [if_neg (by rw [ht]; decide)] at hq1
      cases ht2 : isS l a2 [59] with
      | true =>
        have g5 := isS_lt ht2
        rw [if_pos ht2] at hq1
        obtain ⟨bb, hbb⟩ : ∃ b, Hide (b = true) := ⟨_, ⟨rfl⟩⟩
        have c5 : CallOK Try.prog 49 [.ptr 29 0, .v (str [59])] [(29, PG l a2 o)] ⟨.v (.bool bb), [(29, .ent (PG l (a2 + 1) o))]⟩ := by rw [hbb.out]; exact c_takeT o hl ht2
        refine SX.goP ?_
        refine WP.freezeP 17 (ps := [29]) hB rfl rfl ?_
        refine W.condT ?_ rfl hbb.out
        refine SX.goP ?_
        exact W.next ⟨rs ++ [.mk 15 [] (r ++ [k])], [], a2 + 1, qf⟩ ⟨hq1, by dsimp only; exact ⟨by omega, by omega, by omega, by simp; omega⟩⟩ (by dsimp only; omega)
          (by
            refine SX.St.le_to [(100, some 38), (101, none)] (by intro b h; exact SX.fixIs h rfl) ?_ ?_ rfl
            · repeat (first | exact trivial | refine ⟨⟨_, rfl, SX.AVto.same rfl⟩, ?_⟩)
            · exact ⟨SX.EntTo.eq rfl rfl rfl, SX.EntTo.same rfl rfl, EntTo.node rfl rfl (AtomTo.own rfl), EntTo.node rfl rfl (AtomTo.nil rfl), SX.EntTo.row rfl rfl (by simp) (flat_snoc (nd_rowS r k)), SX.EntTo.nilRow rfl, trivial⟩)
      | false =>
        rw [if_neg (by rw [ht2]; decide)] at hq1
        obtain ⟨bb, hbb⟩ : ∃ b, Hide (b = false) := ⟨_, ⟨rfl⟩⟩
        have c5 : CallOK Try.prog 49 [.ptr 29 0, .v (str [59])] [(29, PG l a2 o)] ⟨.v (.bool bb), [(29, .ent (PG l a2 o))]⟩ := by rw [hbb.out]; exact c_takeF o ht2
        cases ht3 : isS l a2 [93] with
        | true =>
          rw [if_pos ht3] at hq1
          have c6 := c_mustT o hl ht3
          refine SX.goP ?_
          refine WP.freezeP 17 (ps := [29]) hB rfl rfl ?_
          refine W.condF ?_ rfl hbb.out
          refine SX.goP ?_
          subst hq1
          refine RetF.frzP 25 (ps := [29]) ?_
          exact retNd (ResOK.agg3 rfl rfl rfl) (imp_ndk rfl rfl (by simp [Res.nd]) (flat_snoc (nd_rowS r k))) ⟨rfl, trivial⟩
        | false =>
          rw [if_neg (by rw [ht3]; decide)] at hq1
          have c6 := c_mustF o ht3
          refine SX.goP ?_
          refine WP.freezeP 17 (ps := [29]) hB rfl rfl ?_
          refine W.condF ?_ rfl hbb.out
          refine SX.goP ?_
          subst hq1
          refine RetF.frzP 25 (ps := [29]) ?_
          exact retNd (ResOK.agg3 rfl rfl rfl) (imp_ndk rfl rfl (by simp [Res.nd]) (flat_snoc (nd_rowS r k))) ⟨rfl, trivial⟩
end Go.Proofs.Ytaocklkbijkhpaa

import Derived.Test.YtaocklkbijkhpaaHl
/- The grammar's errors where few brackets are open; what ParserReads looks at. -/
set_option linter.unusedVariables false
set_option linter.unusedSimpArgs false
namespace Go.Proofs.Ytaocklkbijkhpaa
open Go.RowKit SX
def Is4 : Res → Prop
  | .ok _ _ => True
  | .bad e _ _ _ _ => e = 4
def G4 (l : List Tok) (m : Nat) (g : Gr) : Prop := ∀ a o, m ≤ a → a ≤ l.length → o + (l.length - a) ≤ 600 → Is4 (g a o)
theorem is4_map {f : Nd → Nd} {r : Res} (h : Is4 r) : Is4 (mapR f r) := by cases r <;> exact h
theorem is4_then {l : List Tok} {o : Nat} {s : List UInt8} {r : Res} (h : Is4 r) : Is4 (thenS l r o s) := by
  cases r with
  | ok n a => unfold thenS; dsimp only; split <;> simp [Is4]
  | bad e p n a o' => exact h
theorem is4_ins {K a o : Nat} {g : Gr} (hk : o + 1 ≤ K) (h : Is4 (g a (o + 1))) : Is4 (ins K g a o) := by
  unfold ins
  rw [if_neg (by omega)]
  cases hr : g a (o + 1) with
  | ok n a' => trivial
  | bad e p n a' o' => rw [hr] at h; exact h
theorem is4_list {l : List Tok} {m : Nat} {X : Gr} {e : List UInt8} (h : G4 l m X) (hA : Adv 1 l m X) : ∀ (f : Nat) (ks : List Nd) (a o : Nat), m ≤ a → a ≤ l.length → o + (l.length - a) ≤ 600 → Is4 (listG l X e f ks a o)
  | 0, ks, a, o, hm, ha, ho => rfl
  | f + 1, ks, a, o, hm, ha, ho => by
    have h1 := h a o hm ha ho
    have h2 := hA a o hm ha
    unfold listG
    cases hr : X a o with
    | bad c p n a' o' => rw [hr] at h1; exact h1
    | ok n a' =>
      rw [hr] at h2
      obtain ⟨i1, i2, i3⟩ := h2
      dsimp only
      split
      · trivial
      · split
        · rename_i hs
          have := isS_lt hs
          exact is4_list h hA f _ _ o (by omega) (by omega) (by omega)
        · rfl
theorem is4_listE {l : List Tok} {m : Nat} {X : Gr} {e : List UInt8} (h : G4 l m X) (hA : Adv 1 l m X) {a o : Nat} (hm : m ≤ a) (ha : a ≤ l.length) (ho : o + (l.length - a) ≤ 600) : Is4 (listE l X e a o) := by
  unfold listE
  split
  · trivial
  · exact is4_list h hA _ _ _ _ hm ha ho
theorem is4_mat {l : List Tok} {m : Nat} {X : Gr} (h : G4 l m X) (hA : Adv 1 l m X) : ∀ (f : Nat) (rs r : List Nd) (a o : Nat), m ≤ a → a ≤ l.length → o + (l.length - a) ≤ 600 → Is4 (matG l X f rs r a o)
  | 0, rs, r, a, o, hm, ha, ho => rfl
  | f + 1, rs, r, a, o, hm, ha, ho => by
    have h1 := h a o hm ha ho
    have h2 := hA a o hm ha
    unfold matG
    cases hr : X a o with
    | bad c p n a' o' => rw [hr] at h1; exact h1
    | ok n a' =>
      rw [hr] at h2
      obtain ⟨i1, i2, i3⟩ := h2
      dsimp only
      split
      · rename_i hs
        have := isS_lt hs
        exact is4_mat h hA f _ _ _ o (by omega) (by omega) (by omega)
      · split
        · rename_i hs
          have := isS_lt hs
          exact is4_mat h hA f _ _ _ o (by omega) (by omega) (by omega)
        · split
          · trivial
          · rfl
theorem g4_prim {l : List Tok} {m : Nat} {X : Gr} (h : G4 l (m + 1) X) (hA : Adv 1 l (m + 1) X) : G4 l m (primG 600 l X) := by
  intro a o hm ha ho
  unfold primG
  cases ht : l[a]? with
  | none => rfl
  | some t =>
    have hlt : a < l.length := (List.getElem?_eq_some_iff.1 ht).1
    dsimp only
    split
    · trivial
    · split
      · split
        · rename_i hs
          have := isS_lt hs
          exact is4_ins (by omega) (is4_map (is4_listE h hA (by omega) (by omega) (by omega)))
        · trivial
      · split
        · exact is4_ins (by omega) (is4_then (h _ _ (by omega) (by omega) (by omega)))
        · split
          · exact is4_ins (by omega) (is4_mat h hA _ _ _ _ _ (by omega) (by omega) (by omega))
          · split
            · exact is4_ins (by omega) (is4_map (is4_listE h hA (by omega) (by omega) (by omega)))
            · rfl
theorem is4_item {l : List Tok} {m : Nat} {X : Gr} {n : Nd} (h : G4 l m X) (hA : Adv 1 l m X) {a o : Nat} (hm : m ≤ a) (ha : a ≤ l.length) (ho : o + (l.length - a) ≤ 600) : Is4 (itemG l X n a o) := by
  have h1 := h a o hm ha ho
  have h2 := hA a o hm ha
  unfold itemG
  cases hr : X a o with
  | bad c p m a' o' => rw [hr] at h1; exact h1
  | ok n1 a' =>
    rw [hr] at h2
    obtain ⟨i1, i2, i3⟩ := h2
    dsimp only
    split
    · rename_i hs
      have := isS_lt hs
      exact is4_then (is4_map (h _ _ (by omega) (by omega) (by omega)))
    · exact is4_then trivial
theorem is4_post {l : List Tok} {m : Nat} {X : Gr} (h : G4 l (m + 1) X) (hA : Adv 1 l (m + 1) X) : ∀ (f : Nat) (n : Nd) (a o : Nat), m ≤ a → a ≤ l.length → o + (l.length - a) ≤ 600 → Is4 (postG 600 l X f n a o)
  | 0, n, a, o, hm, ha, ho => rfl
  | f + 1, n, a, o, hm, ha, ho => by
    unfold postG
    split
    · rename_i hs
      have := isS_lt hs
      have h1 := is4_ins (K := 600) (g := itemG l X n) (a := a + 1) (o := o) (by omega) (is4_item h hA (by omega) (by omega) (by omega))
      have h2 := adv_ins (K := 600) (g := itemG l X n) (a := a + 1) (o := o) (Nat.le_refl _) (adv_item (n := n) (o := o + 1) hA (by omega) (by omega))
      cases hr : ins 600 (itemG l X n) (a + 1) o with
      | bad e p n' a' o' => rw [hr] at h1; exact h1
      | ok n' a' =>
        rw [hr] at h2
        obtain ⟨i1, i2, i3⟩ := h2
        exact is4_post h hA f n' a' o (by omega) i3 (by omega)
    · trivial
theorem g4_postF {l : List Tok} {m : Nat} {X : Gr} (h : G4 l (m + 1) X) (hA : Adv 1 l (m + 1) X) : G4 l m (postF 600 l X) := by
  intro a o hm ha ho
  have h1 := g4_prim h hA a o hm ha ho
  have h2 := adv_prim (K := 600) hA a o hm ha
  unfold postF
  cases hr : primG 600 l X a o with
  | bad e p n a' o' => rw [hr] at h1; exact h1
  | ok n a' =>
    rw [hr] at h2
    obtain ⟨i1, i2, i3⟩ := h2
    exact is4_post h hA _ n a' o (by omega) i3 (by omega)
theorem g4_pow {l : List Tok} {m : Nat} {X U : Gr} (h : G4 l (m + 1) X) (hA : Adv 1 l (m + 1) X) (hu : G4 l (m + 1) U) : G4 l m (powG 600 l X U) := by
  intro a o hm ha ho
  have h1 := g4_postF h hA a o hm ha ho
  have h2 := adv_postF (K := 600) hA a o hm ha
  unfold powG
  cases hr : postF 600 l X a o with
  | bad e p n a' o' => rw [hr] at h1; exact h1
  | ok n a' =>
    rw [hr] at h2
    obtain ⟨i1, i2, i3⟩ := h2
    have := cnt_pos n
    dsimp only
    split
    · rename_i hs
      have := isS_lt hs
      exact is4_map (hu _ _ (by omega) (by omega) (by omega))
    · trivial
theorem g4_un {l : List Tok} {m : Nat} {X U : Gr} (h : G4 l (m + 1) X) (hA : Adv 1 l (m + 1) X) (hu : G4 l (m + 1) U) : G4 l m (unG 600 l X U) := by
  intro a o hm ha ho
  unfold unG
  split
  · rename_i hs
    have := isS_lt hs
    exact is4_ins (by omega) (is4_map (hu _ _ (by omega) (by omega) (by omega)))
  · exact g4_pow h hA hu a o hm ha ho
theorem is4_chain {l : List Tok} {m : Nat} {S : Gr} {s1 s2 : List UInt8} {x y : Nat} (h : G4 l m S) (hA : Adv 1 l m S) : ∀ (f : Nat) (n : Nd) (a o : Nat), m ≤ a → a ≤ l.length → o + (l.length - a) ≤ 600 → Is4 (chainG l S s1 x s2 y f n a o)
  | 0, n, a, o, hm, ha, ho => rfl
  | f + 1, n, a, o, hm, ha, ho => by
    unfold chainG
    split
    · rename_i hs
      have := isS_lt hs
      have h1 := h (a + 1) o (by omega) (by omega) (by omega)
      have h2 := hA (a + 1) o (by omega) (by omega)
      cases hr : S (a + 1) o with
      | bad e p n' a' o' => rw [hr] at h1; exact h1
      | ok n' a' =>
        rw [hr] at h2
        obtain ⟨i1, i2, i3⟩ := h2
        exact is4_chain h hA f _ a' o (by omega) i3 (by omega)
    · split
      · rename_i hs
        have := isS_lt hs
        have h1 := h (a + 1) o (by omega) (by omega) (by omega)
        have h2 := hA (a + 1) o (by omega) (by omega)
        cases hr : S (a + 1) o with
        | bad e p n' a' o' => rw [hr] at h1; exact h1
        | ok n' a' =>
          rw [hr] at h2
          obtain ⟨i1, i2, i3⟩ := h2
          exact is4_chain h hA f _ a' o (by omega) i3 (by omega)
      · trivial
theorem g4_chn {l : List Tok} {m : Nat} {S : Gr} {s1 s2 : List UInt8} {x y : Nat} (h : G4 l m S) (hA : Adv 1 l m S) : G4 l m (chnF l S s1 x s2 y) := by
  intro a o hm ha ho
  have h1 := h a o hm ha ho
  have h2 := hA a o hm ha
  unfold chnF
  cases hr : S a o with
  | bad e p n a' o' => rw [hr] at h1; exact h1
  | ok n a' =>
    rw [hr] at h2
    obtain ⟨i1, i2, i3⟩ := h2
    exact is4_chain h hA _ n a' o (by omega) i3 (by omega)
theorem g4_exp {l : List Tok} {m : Nat} {U : Gr} (h : G4 l m U) (hA : Adv 1 l m U) : G4 l m (expG l U) := by
  intro a o hm ha ho
  have h0 : G4 l m (sumG l U) := g4_chn (g4_chn h hA) (adv_chnF hA)
  have h1 := h0 a o hm ha ho
  have h2 := adv_sum hA a o hm ha
  unfold expG
  cases hr : sumG l U a o with
  | bad e p n a' o' => rw [hr] at h1; exact h1
  | ok n a' =>
    rw [hr] at h2
    obtain ⟨i1, i2, i3⟩ := h2
    have key : ∀ f : Nd → Nd, a' < l.length → Is4 (mapR f (sumG l U (a' + 1) o)) := fun f hx => is4_map (h0 _ _ (by omega) (by omega) (by omega))
    dsimp only
    split
    · rename_i hs; exact key _ (isS_lt hs)
    · split
      · rename_i hs; exact key _ (isS_lt hs)
      · split
        · rename_i hs; exact key _ (isS_lt hs)
        · split
          · rename_i hs; exact key _ (isS_lt hs)
          · trivial
theorem g4_lev (l : List Tok) : ∀ (n m : Nat), l.length + 1 ≤ m + n → G4 l m (lev 600 l n).1 ∧ G4 l m (lev 600 l n).2
  | 0, m, h => ⟨fun a o hm ha => by omega, fun a o hm ha => by omega⟩
  | n + 1, m, h => by
    obtain ⟨h1, h2⟩ := g4_lev l n (m + 1) (by omega)
    obtain ⟨a1, a2⟩ := adv_lev 600 l n (m + 1) (by omega)
    have h3 := g4_un h1 a1 h2
    exact ⟨g4_exp h3 (adv_un a1 a2), h3⟩
theorem is4_body {l : List Tok} {m : Nat} {S : Gr} (h : G4 l m S) (hA : Adv 2 l m S) : ∀ (f : Nat) (ks : List Nd) (a o : Nat), m ≤ a → a ≤ l.length → o + (l.length - a) ≤ 600 → Is4 (bodyG l S f ks a o)
  | 0, ks, a, o, hm, ha, ho => rfl
  | f + 1, ks, a, o, hm, ha, ho => by
    unfold bodyG
    split
    · trivial
    · have h1 := h a o hm ha ho
      have h2 := hA a o hm ha
      cases hr : S a o with
      | bad e p n a' o' => rw [hr] at h1; exact h1
      | ok n a' =>
        rw [hr] at h2
        obtain ⟨i1, i2, i3⟩ := h2
        exact is4_body h hA f _ a' o (by omega) i3 (by omega)
theorem g4_blk {l : List Tok} {m : Nat} {S : Gr} (h : G4 l (m + 1) S) (hA : Adv 2 l (m + 1) S) : G4 l m (blkG 600 l S) := by
  intro a o hm ha ho
  unfold blkG
  split
  · rename_i hs
    have := isS_lt hs
    exact is4_ins (by omega) (is4_body h hA _ _ _ _ (by omega) (by omega) (by omega))
  · rfl
theorem g4_st {l : List Tok} {m : Nat} {E B : Gr} (he : G4 l m E) (ae : Adv 1 l m E) (hb : G4 l (m + 1) B) (ab : Adv 2 l (m + 1) B) : G4 l m (stG l E B) := by
  intro a o hm ha ho
  unfold stG
  split
  · rename_i hs
    have := isS_lt hs
    have h1 := he (a + 1) o (by omega) (by omega) (by omega)
    have h2 := ae (a + 1) o (by omega) (by omega)
    unfold ifG
    cases hr : E (a + 1) o with
    | bad e p n a' o' => rw [hr] at h1; exact h1
    | ok n a' =>
      rw [hr] at h2
      obtain ⟨i1, i2, i3⟩ := h2
      have h3 := hb a' o (by omega) i3 (by omega)
      have h4 := ab a' o (by omega) i3
      dsimp only
      cases hr2 : B a' o with
      | bad e p b a2 o2 => rw [hr2] at h3; exact h3
      | ok b a2 =>
        rw [hr2] at h4
        obtain ⟨j1, j2, j3⟩ := h4
        dsimp only
        split
        · rename_i hs2
          have := isS_lt hs2
          exact is4_map (hb _ _ (by omega) (by omega) (by omega))
        · trivial
  · split
    · rename_i hs
      have := isS_lt hs
      unfold forG
      split
      · split
        · rename_i hs2
          have := isS_lt hs2
          have h1 := he (a + 1 + 2) o (by omega) (by omega) (by omega)
          have h2 := ae (a + 1 + 2) o (by omega) (by omega)
          cases hr : E (a + 1 + 2) o with
          | bad e p n a' o' => rw [hr] at h1; exact h1
          | ok n a' =>
            rw [hr] at h2
            obtain ⟨i1, i2, i3⟩ := h2
            dsimp only
            split
            · rename_i hs3
              have := isS_lt hs3
              have h3 := he (a' + 1) o (by omega) (by omega) (by omega)
              have h4 := ae (a' + 1) o (by omega) (by omega)
              cases hr2 : E (a' + 1) o with
              | bad e p n2 a2 o2 => rw [hr2] at h3; exact h3
              | ok n2 a2 =>
                rw [hr2] at h4
                obtain ⟨j1, j2, j3⟩ := h4
                exact is4_map (hb _ _ (by omega) (by omega) (by omega))
            · rfl
        · rfl
      · rfl
    · split
      · rename_i hs
        rw [Bool.and_eq_true] at hs
        have := isS_lt hs.2
        exact is4_then (is4_map (he _ _ (by omega) (by omega) (by omega)))
      · exact is4_then (is4_map (he _ _ (by omega) (by omega) (by omega)))
theorem g4_slev (l : List Tok) : ∀ (n m : Nat), l.length + 1 ≤ m + n → G4 l m (slev 600 l n)
  | 0, m, h => fun a o hm ha => by omega
  | n + 1, m, h => g4_st (fun a o hm ha ho => (g4_lev l (l.length + 1) m (by omega)).1 a o hm ha ho) (fun a o hm ha => (adv_lev 600 l (l.length + 1) m (by omega)).1 a o hm ha) (g4_blk (fun a o hm ha ho => g4_slev l n (m + 1) (by omega) a o (by omega) ha ho) (fun a o hm ha => adv_slev 600 l n (m + 1) (by omega) a o (by omega) ha)) (adv_blk fun a o hm ha => adv_slev 600 l n (m + 1) (by omega) a o (by omega) ha)
theorem is4_prog {l : List Tok} {S : Gr} (h : G4 l 0 S) (hA : Adv 2 l 0 S) (hl : l.length ≤ 600) : ∀ (f : Nat) (ks : List Nd) (a : Nat), a ≤ l.length → Is4 (progG l S f ks a 0)
  | 0, ks, a, ha => rfl
  | f + 1, ks, a, ha => by
    unfold progG
    split
    · have h1 := h a 0 (by omega) ha (by omega)
      have h2 := hA a 0 (by omega) ha
      cases hr : S a 0 with
      | bad e p n a' o' => rw [hr] at h1; exact h1
      | ok n a' =>
        rw [hr] at h2
        obtain ⟨i1, i2, i3⟩ := h2
        exact is4_prog h hA hl f _ a' i3
    · trivial
theorem progR_4 {l : List Tok} (hl : l.length ≤ 600) : Is4 (progR l) := is4_prog (g4_slev l (l.length + 1) 0 (by omega)) (adv_slev 600 l (l.length + 1) 0 (by omega)) hl _ _ _ (by omega)
attribute [local irreducible] IntKind.wrap Go1 Reg WP thenK inBlk retQ retF RetF RetOK ResOK CallOK OpOK Sat
def okT (l : List Tok) : Bool := l.all fun t => decide (t.text.length ≤ 100) && isTok t
theorem okT_step {l : List Tok} {i : Nat} {x : Tok} (hx : l[i]? = some x) : okT (l.take (i + 1)) = (okT (l.take i) && (decide (x.text.length ≤ 100) && isTok x)) := by
  unfold okT
  rw [List.take_add_one, hx, List.all_append]; simp
theorem take_tok {l : List Tok} {i : Nat} {x : Tok} (hx : l[i]? = some x) : (l.take i).flatMap tokC ++ tokC x = (l.take (i + 1)).flatMap tokC := by
  rw [List.take_add_one, hx, List.flatMap_append]; simp
theorem c_to28 (l : List Tok) (hl : l.length ≤ 1000000) : PureOK Try.prog 22 [.r (rowR 3 tokC l)] (.tup [.one (.c (.sat (rowR 3 tokC l))), .one (.c (.val (.bool (okT l))))]) := by
  refine PureOK.fnF Try.func22 Try.results22 Try.ntmps22 rfl rfl rfl (by simp [AV.ids, AV0.ids, Atom.ids]) rfl (fun w0 T B E0 hB => ?_)
  refine SX.goP ?_
  refine W.loop2 (fun (i : Nat) (b : Bool) => i ≤ l.length ∧ b = okT (l.take i)) (fun i b => [(0, .r (rowR 3 tokC l)), (4, .own 100), (5, .v (.bool b)), (6, .v (.int .i64 (i : Int)))]) (fun i _ => [(100, .row 32 3 i ((l.take i).flatMap tokC))]) (fun i _ => l.length - i) 0 true ⟨Nat.zero_le _, rfl⟩ (fun i b ⟨hi, hb⟩ => ?_)
  show WP _ _ _ (mkSt [(0, .r (rowR 3 tokC l)), (4, .own 100), (5, .v (.bool b)), (6, .v (.int .i64 (i : Int)))] [(100, .row 32 3 i ((l.take i).flatMap tokC))]) _
  by_cases hlt : i < l.length
  · obtain ⟨x, hx⟩ : ∃ x, l[i]? = some x := ⟨_, List.getElem?_eq_getElem hlt⟩
    have hst := okT_step hx
    rw [← hb] at hst
    have hfl := take_tok hx
    cases b with
    | false =>
      refine SX.goP ?_
      exact W.next2 (i + 1) false ⟨by omega, by rw [hst]; rfl⟩ (by omega)
        (by
            refine SX.St.le_to [(100, some 32)] (by intro b h; cases h) ?_ ?_ rfl
            · repeat (first | exact trivial | refine ⟨⟨_, rfl, SX.AVto.same rfl⟩, ?_⟩ | refine ⟨⟨_, rfl, SX.AVto.own rfl⟩, ?_⟩ | refine ⟨⟨_, rfl, SX.AVto.bool (by simp [h100])⟩, ?_⟩ | refine ⟨⟨_, rfl, SX.AVto.bool (by simp)⟩, ?_⟩)
            · exact ⟨SX.EntTo.row rfl rfl rfl hfl, trivial⟩)
    | true =>
      by_cases h100 : x.text.length ≤ 100
      · have cI : PureOK Try.prog 13 [.agg (tokA x)] (.v (.bool (isTok x))) := Con.use (by omega)
        refine SX.goP ?_
        exact W.next2 (i + 1) (isTok x) ⟨by omega, by rw [hst, decide_eq_true h100]; simp⟩ (by omega)
          (by
            refine SX.St.le_to [(100, some 32)] (by intro b h; cases h) ?_ ?_ rfl
            · repeat (first | exact trivial | refine ⟨⟨_, rfl, SX.AVto.same rfl⟩, ?_⟩ | refine ⟨⟨_, rfl, SX.AVto.own rfl⟩, ?_⟩ | refine ⟨⟨_, rfl, SX.AVto.bool (by simp [h100])⟩, ?_⟩ | refine ⟨⟨_, rfl, SX.AVto.bool (by simp)⟩, ?_⟩)
            · exact ⟨SX.EntTo.row rfl rfl rfl hfl, trivial⟩)
      · refine SX.goP ?_
        exact W.next2 (i + 1) false ⟨by omega, by rw [hst, decide_eq_false h100]; rfl⟩ (by omega)
          (by
            refine SX.St.le_to [(100, some 32)] (by intro b h; cases h) ?_ ?_ rfl
            · repeat (first | exact trivial | refine ⟨⟨_, rfl, SX.AVto.same rfl⟩, ?_⟩ | refine ⟨⟨_, rfl, SX.AVto.own rfl⟩, ?_⟩ | refine ⟨⟨_, rfl, SX.AVto.bool (by simp [h100])⟩, ?_⟩ | refine ⟨⟨_, rfl, SX.AVto.bool (by simp)⟩, ?_⟩)
            · exact ⟨SX.EntTo.row rfl rfl rfl hfl, trivial⟩)
  · obtain rfl : i = l.length := by omega
    rw [List.take_length] at hb
    refine SX.goP ?_
    refine RetF.frz 100 ?_
    exact ret2' (ResOK.tmp rfl) (ResOK.tmp rfl) (AV0.imp.of_eq (by rw [List.take_length]; rfl)) (AV0.imp.of_eq (by rw [hb]; rfl))
end Go.Proofs.Ytaocklkbijkhpaa

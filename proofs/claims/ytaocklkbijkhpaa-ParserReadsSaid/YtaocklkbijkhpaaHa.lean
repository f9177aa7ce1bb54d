import Derived.Test.YtaocklkbijkhpaaH2
/- The language's grammar: how far the rules come. -/
set_option linter.unusedVariables false
set_option linter.unusedSimpArgs false
namespace Go.Proofs.Ytaocklkbijkhpaa
open Go.RowKit SX
theorem cnt_kids (n : Nd) (x : Nat) (t : List UInt8) : cnt (.mk x t n.kids) = cnt n := by
  cases n; rw [cnt_mk, cnt_mk]; rfl
theorem adv_bad {s c k : Nat} {l : List Tok} {a o e p : Nat} {n : Nd} {a' : Nat} (hk : 1 ≤ k) : AdvR s c k l a o (.bad e p n a' o) := ⟨Nat.le_refl _, by omega⟩
theorem adv_list {l : List Tok} {m : Nat} {X : Gr} {e : List UInt8} (h : Adv 1 l m X) : ∀ (f : Nat) (ks : List Nd) (a o : Nat), m ≤ a → a ≤ l.length → AdvR (cntL ks) 0 1 l a o (listG l X e f ks a o)
  | 0, ks, a, o, hm, ha => adv_bad (Nat.le_refl _)
  | f + 1, ks, a, o, hm, ha => by
    have h1 := h a o hm ha
    unfold listG
    cases hr : X a o with
    | bad c p n a' o' => rw [hr] at h1; exact h1
    | ok n a' =>
      rw [hr] at h1
      obtain ⟨h1, h3, h2⟩ := h1
      dsimp only
      split
      · rename_i hs
        have := isS_lt hs
        exact ⟨by rw [cnt_mk, cntL_append, cntL_cons, cntL_nil]; omega, by omega, by omega⟩
      · split
        · rename_i hs
          have := isS_lt hs
          refine (adv_list h f (ks ++ [n]) (a' + 1) o (by omega) (by omega)).mono (Nat.le_refl _) (by omega) ?_
          rw [cntL_append, cntL_cons, cntL_nil]; omega
        · exact adv_bad (Nat.le_refl _)
theorem adv_listE {l : List Tok} {m : Nat} {X : Gr} {e : List UInt8} (h : Adv 1 l m X) {a o : Nat} (hm : m ≤ a) (ha : a ≤ l.length) : AdvR 0 0 1 l a o (listE l X e a o) := by
  unfold listE
  split
  · rename_i hs
    have := isS_lt hs
    exact ⟨by rw [cnt_mk, cntL_nil]; omega, by omega, by omega⟩
  · have := adv_list (e := e) h (l.length + 1) [] a o hm ha
    rwa [cntL_nil] at this
theorem adv_mat {l : List Tok} {m : Nat} {X : Gr} (h : Adv 1 l m X) : ∀ (f : Nat) (rs r : List Nd) (a o : Nat), m ≤ a → a ≤ l.length → AdvR (cntL rs + cntL r + 1) 0 1 l a o (matG l X f rs r a o)
  | 0, rs, r, a, o, hm, ha => adv_bad (Nat.le_refl _)
  | f + 1, rs, r, a, o, hm, ha => by
    have h1 := h a o hm ha
    unfold matG
    cases hr : X a o with
    | bad c p n a' o' => rw [hr] at h1; exact h1
    | ok n a' =>
      rw [hr] at h1
      obtain ⟨h1, h3, h2⟩ := h1
      dsimp only
      split
      · rename_i hs
        have := isS_lt hs
        refine (adv_mat h f rs (r ++ [n]) (a' + 1) o (by omega) (by omega)).mono (Nat.le_refl _) (by omega) ?_
        rw [cntL_append, cntL_cons, cntL_nil]; omega
      · split
        · rename_i hs
          have := isS_lt hs
          have hh := adv_mat h f (rs ++ [.mk 15 [] (r ++ [n])]) [] (a' + 1) o (by omega) (by omega)
          refine hh.mono (Nat.le_refl _) (by omega) ?_
          rw [cntL_append, cntL_cons, cntL_nil, cnt_mk, cntL_append, cntL_cons, cntL_nil]; omega
        · split
          · rename_i hs
            have := isS_lt hs
            exact ⟨by rw [cnt_mk, cntL_append, cntL_cons, cntL_nil, cnt_mk, cntL_append, cntL_cons, cntL_nil]; omega, by omega, by omega⟩
          · exact adv_bad (Nat.le_refl _)
theorem adv_prim {K : Nat} {l : List Tok} {m : Nat} {X : Gr} (h : Adv 1 l (m + 1) X) : Adv 1 l m (primG K l X) := by
  intro a o hm ha
  unfold primG
  cases ht : l[a]? with
  | none => exact adv_bad (Nat.le_refl _)
  | some t =>
    have hlt : a < l.length := (List.getElem?_eq_some_iff.1 ht).1
    dsimp only
    split
    · exact ⟨by rw [cnt_mk, cntL_nil]; omega, by omega, by omega⟩
    · split
      · split
        · rename_i hs
          have := isS_lt hs
          refine (adv_ins (Nat.le_refl _) (adv_map (c' := 0) (s' := 0) (adv_listE h (by omega) (by omega)) (fun n => by rw [cnt_kids]; omega))).mono (Nat.le_refl _) (by omega) (by omega)
        · exact ⟨by rw [cnt_mk, cntL_nil]; omega, by omega, by omega⟩
      · split
        · refine (adv_ins (Nat.le_refl _) (adv_then (h _ _ (by omega) (by omega)))).mono (Nat.le_refl _) (by omega) (by omega)
        · split
          · refine (adv_ins (Nat.le_refl _) (adv_mat h _ _ _ _ _ (by omega) (by omega))).mono (Nat.le_refl _) (by omega) (by simp only [cntL_nil]; omega)
          · split
            · refine (adv_ins (Nat.le_refl _) (adv_map (c' := 0) (s' := 0) (adv_listE h (by omega) (by omega)) (fun n => by rw [cnt_kids]; omega))).mono (Nat.le_refl _) (by omega) (by omega)
            · exact adv_bad (Nat.le_refl _)
theorem adv_item {l : List Tok} {m : Nat} {X : Gr} {n : Nd} (h : Adv 1 l m X) {a o : Nat} (hm : m ≤ a) (ha : a ≤ l.length) : AdvR (cnt n) 0 1 l a o (itemG l X n a o) := by
  have h1 := h a o hm ha
  unfold itemG
  cases hr : X a o with
  | bad c p m a' o' => rw [hr] at h1; exact h1
  | ok n1 a' =>
    rw [hr] at h1
    obtain ⟨h1, h3, h2⟩ := h1
    dsimp only
    split
    · rename_i hs
      have := isS_lt hs
      exact (adv_then (adv_map (c' := 0) (s' := 1 + cnt n + cnt n1) (h (a' + 1) o (by omega) (by omega)) (fun n2 => by rw [cnt_mk, cntL_cons, cntL_cons, cntL_cons, cntL_nil]; omega))).mono (Nat.le_refl _) (by omega) (by omega)
    · exact (adv_then (k := 1) (s := 1 + cnt n + cnt n1) (c := 0) (show AdvR _ _ _ l a' o (.ok _ a') from ⟨by rw [cnt_mk, cntL_cons, cntL_cons, cntL_nil]; omega, Nat.le_refl _, h2⟩)).mono (Nat.le_refl _) (by omega) (by omega)
theorem adv_post {K : Nat} {l : List Tok} {m : Nat} {X : Gr} (h : Adv 1 l (m + 1) X) : ∀ (f : Nat) (n : Nd) (a o : Nat), m ≤ a → a ≤ l.length → AdvR (cnt n) 0 1 l a o (postG K l X f n a o)
  | 0, n, a, o, hm, ha => adv_bad (Nat.le_refl _)
  | f + 1, n, a, o, hm, ha => by
    unfold postG
    split
    · rename_i hs
      have := isS_lt hs
      have h1 := adv_ins (K := K) (g := itemG l X n) (a := a + 1) (o := o) (Nat.le_refl _) (adv_item (n := n) (o := o + 1) h (by omega) (by omega))
      cases hr : ins K (itemG l X n) (a + 1) o with
      | bad e p n' a' o' => rw [hr] at h1; exact h1
      | ok n' a' =>
        rw [hr] at h1
        obtain ⟨h1, h3, h2⟩ := h1
        exact (adv_post h f n' a' o (by omega) h2).mono (Nat.le_refl _) (by omega) (by omega)
    · exact ⟨by omega, by omega, ha⟩
theorem adv_postF {K : Nat} {l : List Tok} {m : Nat} {X : Gr} (h : Adv 1 l (m + 1) X) : Adv 1 l m (postF K l X) := by
  intro a o hm ha
  have h1 := adv_prim (K := K) h a o hm ha
  unfold postF
  cases hr : primG K l X a o with
  | bad e p n a' o' => rw [hr] at h1; exact h1
  | ok n a' =>
    rw [hr] at h1
    obtain ⟨h1, h3, h2⟩ := h1
    exact (adv_post h _ n a' o (by omega) h2).mono (Nat.le_refl _) (by omega) (by omega)
theorem adv_pow {K : Nat} {l : List Tok} {m : Nat} {X U : Gr} (h : Adv 1 l (m + 1) X) (hu : Adv 1 l (m + 1) U) : Adv 1 l m (powG K l X U) := by
  intro a o hm ha
  have h1 := adv_postF (K := K) h a o hm ha
  unfold powG
  cases hr : postF K l X a o with
  | bad e p n a' o' => rw [hr] at h1; exact h1
  | ok n a' =>
    rw [hr] at h1
    obtain ⟨h1, h3, h2⟩ := h1
    have := cnt_pos n
    dsimp only
    split
    · rename_i hs
      have := isS_lt hs
      exact (adv_map (c' := 0) (s' := 1 + cnt n) (hu (a' + 1) o (by omega) (by omega)) (fun k => by rw [cnt_mk, cntL_cons, cntL_cons, cntL_nil]; omega)).mono (Nat.le_refl _) (by omega) (by omega)
    · exact ⟨h1, h3, h2⟩
theorem adv_un {K : Nat} {l : List Tok} {m : Nat} {X U : Gr} (h : Adv 1 l (m + 1) X) (hu : Adv 1 l (m + 1) U) : Adv 1 l m (unG K l X U) := by
  intro a o hm ha
  unfold unG
  split
  · rename_i hs
    have := isS_lt hs
    exact (adv_ins (Nat.le_refl _) (adv_map (c' := 0) (s' := 1) (hu (a + 1) (o + 1) (by omega) (by omega)) (fun k => by rw [cnt_mk, cntL_cons, cntL_nil]; omega))).mono (Nat.le_refl _) (by omega) (by omega)
  · exact adv_pow h hu a o hm ha
theorem adv_chain {l : List Tok} {m : Nat} {S : Gr} {s1 s2 : List UInt8} {x y : Nat} (h : Adv 1 l m S) : ∀ (f : Nat) (n : Nd) (a o : Nat), m ≤ a → a ≤ l.length → AdvR (cnt n) 0 1 l a o (chainG l S s1 x s2 y f n a o)
  | 0, n, a, o, hm, ha => adv_bad (Nat.le_refl _)
  | f + 1, n, a, o, hm, ha => by
    unfold chainG
    split
    · rename_i hs
      have := isS_lt hs
      have h1 := h (a + 1) o (by omega) (by omega)
      cases hr : S (a + 1) o with
      | bad e p n' a' o' => rw [hr] at h1; exact h1
      | ok n' a' =>
        rw [hr] at h1
        obtain ⟨h1, h3, h2⟩ := h1
        exact (adv_chain h f _ a' o (by omega) h2).mono (Nat.le_refl _) (by omega) (by rw [cnt_mk, cntL_cons, cntL_cons, cntL_nil]; omega)
    · split
      · rename_i hs
        have := isS_lt hs
        have h1 := h (a + 1) o (by omega) (by omega)
        cases hr : S (a + 1) o with
        | bad e p n' a' o' => rw [hr] at h1; exact h1
        | ok n' a' =>
          rw [hr] at h1
          obtain ⟨h1, h3, h2⟩ := h1
          exact (adv_chain h f _ a' o (by omega) h2).mono (Nat.le_refl _) (by omega) (by rw [cnt_mk, cntL_cons, cntL_cons, cntL_nil]; omega)
      · exact ⟨by omega, by omega, ha⟩
theorem adv_chnF {l : List Tok} {m : Nat} {S : Gr} {s1 s2 : List UInt8} {x y : Nat} (h : Adv 1 l m S) : Adv 1 l m (chnF l S s1 x s2 y) := by
  intro a o hm ha
  have h1 := h a o hm ha
  unfold chnF
  cases hr : S a o with
  | bad e p n a' o' => rw [hr] at h1; exact h1
  | ok n a' =>
    rw [hr] at h1
    obtain ⟨h1, h3, h2⟩ := h1
    exact (adv_chain h _ n a' o (by omega) h2).mono (Nat.le_refl _) (by omega) (by omega)
theorem adv_sum {l : List Tok} {m : Nat} {U : Gr} (h : Adv 1 l m U) : Adv 1 l m (sumG l U) := adv_chnF (adv_chnF h)
theorem adv_exp {l : List Tok} {m : Nat} {U : Gr} (h : Adv 1 l m U) : Adv 1 l m (expG l U) := by
  intro a o hm ha
  have h1 := adv_sum h a o hm ha
  unfold expG
  cases hr : sumG l U a o with
  | bad e p n a' o' => rw [hr] at h1; exact h1
  | ok n a' =>
    rw [hr] at h1
    obtain ⟨h1, h3, h2⟩ := h1
    have key : ∀ (x : Nat), a' < l.length → AdvR 0 0 1 l a o (mapR (fun m => .mk x [] [n, m]) (sumG l U (a' + 1) o)) := fun x hx =>
      (adv_map (c' := 0) (s' := 1 + cnt n) (adv_sum h (a' + 1) o (by omega) (by omega)) (fun k => by rw [cnt_mk, cntL_cons, cntL_cons, cntL_nil]; omega)).mono (Nat.le_refl _) (by omega) (by omega)
    dsimp only
    split
    · rename_i hs; exact key 9 (isS_lt hs)
    · split
      · rename_i hs; exact key 10 (isS_lt hs)
      · split
        · rename_i hs; exact key 11 (isS_lt hs)
        · split
          · rename_i hs; exact key 12 (isS_lt hs)
          · exact ⟨h1, h3, h2⟩
theorem adv_lev (K : Nat) (l : List Tok) : ∀ (n m : Nat), l.length + 1 ≤ m + n → Adv 1 l m (lev K l n).1 ∧ Adv 1 l m (lev K l n).2
  | 0, m, h => ⟨fun a o hm ha => by omega, fun a o hm ha => by omega⟩
  | n + 1, m, h => by
    obtain ⟨h1, h2⟩ := adv_lev K l n (m + 1) (by omega)
    have h3 := adv_un (K := K) h1 h2
    exact ⟨adv_exp h3, h3⟩
end Go.Proofs.Ytaocklkbijkhpaa

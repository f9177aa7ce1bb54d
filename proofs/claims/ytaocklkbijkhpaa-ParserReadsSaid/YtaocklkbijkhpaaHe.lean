import Derived.Test.YtaocklkbijkhpaaHd
/- The reference's comparing, depths and counts; what the statements look at. -/
set_option linter.unusedVariables false
set_option linter.unusedSimpArgs false
namespace Go.Proofs.Ytaocklkbijkhpaa
open Go.RowKit SX
mutual
def sameN : Nd → Nd → Bool
  | .mk o t ks, .mk o' t' ks' => decide (o = o') && decide (t = t') && sameL ks ks'
def sameL : List Nd → List Nd → Bool
  | [], [] => true
  | a :: l, b :: m => sameN a b && sameL l m
  | [], _ :: _ => false
  | _ :: _, [] => false
end
theorem sameN_eq (a b : Nd) : sameN a b = (decide (a.op = b.op) && decide (a.text = b.text) && sameL a.kids b.kids) := by
  cases a; cases b; rw [sameN]; rfl
theorem sameL_cons (a b : Nd) (l m : List Nd) : sameL (a :: l) (b :: m) = (sameN a b && sameL l m) := by rw [sameL]
theorem sameL_nil : sameL [] [] = true := by rw [sameL]
theorem sameL_refl : ∀ l : List Nd, sameL l l = true
  | [] => sameL_nil
  | .mk o t ks :: m => by
    have h1 := sameL_refl ks
    have h2 := sameL_refl m
    rw [sameL_cons, sameN_eq, h2]; simp [Nd.op, Nd.text, Nd.kids, h1]
theorem sameL_len : ∀ l m : List Nd, l.length ≠ m.length → sameL l m = false
  | [], [], h => absurd rfl h
  | a :: l, b :: m, h => by rw [sameL_cons, sameL_len l m (by simpa using h), Bool.and_false]
  | [], _ :: _, _ => by rw [sameL]
  | _ :: _, [], _ => by rw [sameL]
theorem sameL_step {a b : List Nd} {i : Nat} {x y : Nd} (hx : a[i]? = some x) (hy : b[i]? = some y) : sameL (a.drop i) (b.drop i) = (sameN x y && sameL (a.drop (i + 1)) (b.drop (i + 1))) := by
  have h1 : a.drop i = x :: a.drop (i + 1) := by
    obtain ⟨h, rfl⟩ := List.getElem?_eq_some_iff.1 hx; exact List.drop_eq_getElem_cons h
  have h2 : b.drop i = y :: b.drop (i + 1) := by
    obtain ⟨h, rfl⟩ := List.getElem?_eq_some_iff.1 hy; exact List.drop_eq_getElem_cons h
  rw [h1, h2, sameL_cons]
theorem cntL_mem : ∀ {l : List Nd} {i : Nat} {n : Nd}, l[i]? = some n → cntL n.kids < cntL l
  | [], i, n, h => by simp at h
  | k :: l, 0, n, h => by
    simp at h; subst h; rw [cntL_cons, cnt_eq]; omega
  | k :: l, i + 1, n, h => by
    simp at h
    have := cntL_mem h
    rw [cntL_cons]; omega
attribute [local irreducible] IntKind.wrap Go1 Reg WP thenK inBlk retQ retF RetF RetOK ResOK CallOK OpOK Sat
theorem c_Same : ∀ (n : Nat) (a b : List Nd), cntL a < n → cntL a ≤ 1000000000 → PureOK Try.prog 21 [.r (rowR 3 ndC a), .r (rowR 3 ndC b)] (.v (.bool (sameL a b))) := by
  intro n
  induction n with
  | zero => intros; omega
  | succ n ih =>
    intro a b hn hb
    have hrow := row_ndE a
    have hrow2 := row_ndE b
    have hla := len_cntL a
    by_cases h : a.length = b.length
    · refine PureOK.fnF Try.func21 Try.results21 Try.ntmps21 rfl rfl rfl (by simp [AV.ids, AV0.ids, Atom.ids]) rfl (fun w0 T B E0 hB => ?_)
      refine SX.goP ?_
      refine W.loop (fun i : Nat => i ≤ a.length ∧ sameL a b = sameL (a.drop i) (b.drop i)) (fun i => [(0, .r (rowR 3 ndE a)), (1, .r (rowR 3 ndE b)), (5, .v (.int .i64 (i : Int)))]) (fun _ => []) (fun i => a.length - i) 0 ⟨Nat.zero_le _, rfl⟩ (fun i ⟨hi, hs⟩ => ?_)
      by_cases hlt : i < a.length
      · obtain ⟨x, hx⟩ : ∃ x, a[i]? = some x := ⟨_, List.getElem?_eq_getElem hlt⟩
        obtain ⟨y, hy⟩ : ∃ y, b[i]? = some y := ⟨_, List.getElem?_eq_getElem (by omega)⟩
        have hst := sameL_step hx hy
        rw [sameN_eq] at hst
        have hm := cntL_mem hx
        have cS := ih x.kids y.kids (by omega) (by omega)
        by_cases ho : x.op = y.op
        · by_cases ht : x.text = y.text
          · have ht1 := decide_eq_true ht
            cases hk : sameL x.kids y.kids with
            | true =>
              rw [hk] at cS
              refine SX.goP ?_
              exact W.next (i + 1) ⟨by omega, by rw [hs, hst, decide_eq_true ho, ht1, hk]; rfl⟩ (by omega)
            | false =>
              rw [hk] at cS
              refine SX.goP ?_
              refine retB ?_
              rw [hs, hst, hk]; simp
          · have ht1 := decide_eq_false ht
            refine SX.goP ?_
            refine retB ?_
            rw [hs, hst, ht1]; simp
        · refine SX.goP ?_
          refine retB ?_
          rw [hs, hst, decide_eq_false ho]; simp
      · refine SX.goP ?_
        refine retB ?_
        rw [hs, List.drop_eq_nil_of_le (by omega), List.drop_eq_nil_of_le (by omega), sameL_nil]
    · have := sameL_len a b h
      refine PureOK.fnF Try.func21 Try.results21 Try.ntmps21 rfl rfl rfl (by simp [AV.ids, AV0.ids, Atom.ids]) rfl (fun w0 T B E0 hB => ?_)
      refine SX.goP ?_
      refine retB ?_
      rw [this]
theorem depL_snoc {l : List Nd} {i : Nat} {x : Nd} (hx : l[i]? = some x) : depL (l.take (i + 1)) = max (depL (l.take i)) (dep x) := by
  rw [List.take_add_one, hx, depL_append]
  show max _ (depL [x]) = _
  rw [depL_cons, depL_nil]; omega
theorem c_Deep : ∀ (n : Nat) (a : List Nd), cntL a < n → cntL a ≤ 1000000000 → PureOK Try.prog 24 [.r (rowR 3 ndC a)] (.v (.int .i64 (depL a : Int))) := by
  intro n
  induction n with
  | zero => intros; omega
  | succ n ih =>
    intro a hn hb
    have hrow := row_ndE a
    have hla := len_cntL a
    have hda := depL_le a
    refine PureOK.fnF Try.func24 Try.results24 Try.ntmps24 rfl rfl rfl (by simp [AV.ids, AV0.ids, Atom.ids]) rfl (fun w0 T B E0 hB => ?_)
    refine SX.goP ?_
    refine W.loop (fun i : Nat => i ≤ a.length) (fun i => [(0, .r (rowR 3 ndE a)), (3, .v (.int .i64 (depL (a.take i) : Int))), (4, .v (.int .i64 (i : Int)))]) (fun _ => []) (fun i => a.length - i) 0 (Nat.zero_le _) (fun i hi => ?_)
      (by
        refine SX.St.le_to [] (by intro b h; cases h) ?_ trivial rfl
        exact ⟨⟨_, rfl, SX.AVto.eq hrow rfl⟩, ⟨_, rfl, SX.AVto.int (by rw [List.take_zero, depL_nil]; rfl)⟩, ⟨_, rfl, SX.AVto.same rfl⟩, trivial⟩)
    by_cases hlt : i < a.length
    · obtain ⟨x, hx⟩ : ∃ x, a[i]? = some x := ⟨_, List.getElem?_eq_getElem hlt⟩
      have hm := cntL_mem hx
      have cS := ih x.kids (by omega) (by omega)
      have hsn := depL_snoc hx
      have hdx := depL_le x.kids
      rw [dep_eq] at hsn
      by_cases hk : 0 < x.kids.length
      · have hk' : x.kids.isEmpty = false := by
          cases hx : x.kids with
          | nil => rw [hx] at hk; cases hk
          | cons => rfl
        rw [hk', if_neg (by decide)] at hsn
        refine SX.goP ?_
        exact W.next (i + 1) (by omega) (by omega)
      · have hk' : x.kids.isEmpty = true := by
          cases hx : x.kids with
          | nil => rfl
          | cons => rw [hx] at hk; simp at hk
        rw [hk', if_pos rfl] at hsn
        refine SX.goP ?_
        exact W.next (i + 1) (by omega) (by omega)
    · rw [List.take_of_length_le (by omega)]
      refine SX.goP ?_
      exact retI rfl
theorem cntL_snoc {l : List Nd} {i : Nat} {x : Nd} (hx : l[i]? = some x) : cntL (l.take (i + 1)) = cntL (l.take i) + 1 + cntL x.kids := by
  rw [List.take_add_one, hx, cntL_append]
  show _ + cntL [x] = _
  rw [cntL_cons, cntL_nil, cnt_eq]; omega
theorem cntL_takeL (l : List Nd) (i : Nat) : cntL (l.take i) ≤ cntL l := by
  have h2 : cntL (l.take i ++ l.drop i) = cntL l := by rw [List.take_append_drop]
  rw [cntL_append] at h2
  omega
theorem c_Nodes : ∀ (n : Nat) (a : List Nd), cntL a < n → cntL a ≤ 1000000000 → PureOK Try.prog 26 [.r (rowR 3 ndC a)] (.v (.int .i64 (cntL a : Int))) := by
  intro n
  induction n with
  | zero => intros; omega
  | succ n ih =>
    intro a hn hb
    have hrow := row_ndE a
    have hla := len_cntL a
    refine PureOK.fnF Try.func26 Try.results26 Try.ntmps26 rfl rfl rfl (by simp [AV.ids, AV0.ids, Atom.ids]) rfl (fun w0 T B E0 hB => ?_)
    refine SX.goP ?_
    refine W.loop2 (fun (i c : Nat) => i ≤ a.length ∧ c + i = a.length + cntL (a.take i)) (fun i c => [(0, .r (rowR 3 ndE a)), (3, .v (.int .i64 (c : Int))), (4, .v (.int .i64 (i : Int)))]) (fun _ _ => []) (fun i _ => a.length - i) 0 a.length ⟨Nat.zero_le _, by rw [List.take_zero, cntL_nil]⟩ (fun i c ⟨hi, hc⟩ => ?_)
    have htk := cntL_takeL a i
    by_cases hlt : i < a.length
    · obtain ⟨x, hx⟩ : ∃ x, a[i]? = some x := ⟨_, List.getElem?_eq_getElem hlt⟩
      have hm := cntL_mem hx
      have cS := ih x.kids (by omega) (by omega)
      have hsn := cntL_snoc hx
      refine SX.goP ?_
      exact W.next2 (i + 1) (c + cntL x.kids) ⟨by omega, by omega⟩ (by omega)
    · rw [List.take_of_length_le (by omega)] at hc
      refine SX.goP ?_
      refine retI ?_
      omega
end Go.Proofs.Ytaocklkbijkhpaa

import Derived.Test.YtaocklkbijkhpaaHb
/- Package parser in the symbolic run: depths and counts. -/
set_option linter.unusedVariables false
set_option linter.unusedSimpArgs false
namespace Go.Proofs.Ytaocklkbijkhpaa
open Go.RowKit SX
theorem cnt_eq (n : Nd) : cnt n = 1 + cntL n.kids := by cases n; rw [cnt_mk]; rfl
theorem cntL_flat : ∀ L : List Nd, cntL (L.flatMap Nd.kids) + L.length = cntL L
  | [] => by simp [cntL_nil]
  | k :: ks => by rw [List.flatMap_cons, cntL_append, cntL_cons, cnt_eq, List.length_cons, ← cntL_flat ks]; omega
theorem cntL_take (L : List Nd) (j : Nat) : cntL ((L.take j).flatMap Nd.kids) ≤ cntL L := by
  have h1 := cntL_flat (L.take j)
  have h2 : cntL (L.take j ++ L.drop j) = cntL L := by rw [List.take_append_drop]
  rw [cntL_append] at h2
  omega
theorem len_take (L : List Nd) (j : Nat) : ((L.take j).flatMap Nd.kids).length ≤ cntL L := Nat.le_trans (len_cntL _) (cntL_take L j)
theorem take_kids {L : List Nd} {j : Nat} {n : Nd} (h : L[j]? = some n) : (L.take (j + 1)).flatMap Nd.kids = (L.take j).flatMap Nd.kids ++ n.kids := by
  rw [List.take_add_one, h]; simp
mutual
def dep : Nd → Nat
  | .mk _ _ ks => if ks.isEmpty then 0 else 1 + depL ks
def depL : List Nd → Nat
  | [] => 0
  | k :: ks => max (dep k) (depL ks)
end
theorem depL_nil : depL [] = 0 := by rw [depL]
theorem depL_cons (k : Nd) (ks : List Nd) : depL (k :: ks) = max (dep k) (depL ks) := by rw [depL]
theorem dep_eq (n : Nd) : dep n = if n.kids.isEmpty then 0 else 1 + depL n.kids := by cases n; rw [dep]; rfl
theorem depL_append : ∀ ks ms : List Nd, depL (ks ++ ms) = max (depL ks) (depL ms)
  | [], ms => by simp [depL_nil]
  | k :: ks, ms => by rw [List.cons_append, depL_cons, depL_cons, depL_append ks ms]; omega
theorem depL_flat : ∀ L : List Nd, depL L = if L.flatMap Nd.kids = [] then 0 else 1 + depL (L.flatMap Nd.kids)
  | [] => by simp [depL_nil]
  | k :: ks => by
    rw [depL_cons, dep_eq, depL_flat ks, List.flatMap_cons, depL_append]
    cases hk : k.kids with
    | nil => simp [depL_nil]
    | cons a b =>
      by_cases h : ks.flatMap Nd.kids = []
      · simp [h, depL_nil]
      · simp [h, Nat.add_max_add_left]
theorem depL_le : ∀ L : List Nd, depL L ≤ cntL L
  | [] => by simp [depL_nil]
  | .mk o t ks :: ms => by
    have h1 := depL_le ks
    have h2 := depL_le ms
    rw [depL_cons, cntL_cons, cnt_mk, dep]
    split <;> omega
attribute [local irreducible] IntKind.wrap Go1 Reg WP thenK inBlk retQ retF RetF RetOK ResOK CallOK OpOK Sat
/-- A node's cells, told at once. -/
def ndE (n : Nd) : List CA := caN n
instance : EncLen ndE 3 := ⟨fun n => rfl⟩
instance : EncOne ndE := ⟨fun n => rfl⟩
theorem row_ndE (l : List Nd) : AV.r (rowR 3 ndC l) = AV.r (rowR 3 ndE l) := by rw [show ndC = ndE from funext ndC_eq']
structure DeS where
  n : Nat
  L : List Nd
  out : Nat
instance con_Depth (l : List Nd) : Con Try.prog 20 [.r (rowR 3 ndC l)] (cntL l ≤ 1000000000) (.v (.int .i64 (depL l : Int))) := ⟨fun hl => by
  have hd := depL_le l
  have hrow := row_ndE l
  refine PureOK.fnF Try.func20 Try.results20 Try.ntmps20 rfl rfl rfl (by simp [AV.ids, AV0.ids, Atom.ids]) rfl (fun w0 T B E0 hB => ?_)
  refine SX.goP ?_
  refine W.loop (fun q : DeS => (q.L ≠ [] → depL l = q.n + depL q.L) ∧ (q.L = [] → depL l = q.out) ∧ cntL q.L + q.n ≤ cntL l ∧ q.out ≤ q.n) (fun q => [(3, .r (rowR 3 ndE q.L)), (4, .v (.int .i64 (q.out : Int))), (5, .v (.int .i64 (q.n : Int)))]) (fun _ => []) (fun q => cntL q.L) ⟨0, l, 0⟩ ⟨fun _ => by dsimp only; omega, fun h => by dsimp only at *; subst h; exact depL_nil, by dsimp only; omega, Nat.le_refl _⟩ (fun q hq => ?_)
  obtain ⟨n, L, out⟩ := q
  dsimp only at hq
  obtain ⟨h1, h2, h3, h4⟩ := hq
  show WP _ _ _ (mkSt [(3, .r (rowR 3 ndE L)), (4, .v (.int .i64 (out : Int))), (5, .v (.int .i64 (n : Int)))] []) _
  have hlen := len_cntL L
  refine SX.goP ?_
  refine W.loop2 (fun (j : Nat) (M : List Nd) => j ≤ L.length ∧ M = (L.take j).flatMap Nd.kids) (fun j M => [(3, .r (rowR 3 ndE L)), (4, .v (.int .i64 (out : Int))), (5, .v (.int .i64 (n : Int))), (6, .own 100), (12, .r (rowR 3 ndE L)), (13, .v (.int .i64 (L.length : Int))), (14, .v (.int .i64 (j : Int)))]) (fun j M => [(100, NR M)]) (fun j _ => L.length - j) 0 [] ⟨Nat.zero_le _, rfl⟩ (fun j M ⟨hj, hM⟩ => ?_)
  have hm := len_take L j
  rw [← hM] at hm
  by_cases hlt : j < L.length
  · obtain ⟨k, hk⟩ : ∃ k, L[j]? = some k := ⟨_, List.getElem?_eq_getElem hlt⟩
    have hm2 := len_take L (j + 1)
    rw [take_kids hk, ← hM, List.length_append] at hm2
    refine SX.goP ?_
    exact W.next2 (j + 1) (M ++ k.kids) ⟨by omega, by rw [hM, take_kids hk]⟩ (by omega)
      (by
        refine SX.St.le_to [(100, some 21)] (by intro b h; cases h) ?_ ?_ rfl
        · repeat (first | exact trivial | refine ⟨⟨_, rfl, SX.AVto.same rfl⟩, ?_⟩ | refine ⟨⟨_, rfl, SX.AVto.own rfl⟩, ?_⟩)
        · exact ⟨SX.EntTo.row rfl rfl (by simp) (by simp), trivial⟩)
  · have hrow2 := row_ndE M
    refine WP.freeze 100 hB rfl ?_
    have hj : L.take j = L := List.take_of_length_le (by omega)
    rw [hj] at hM
    have hdf := depL_flat L
    have hcf := cntL_flat L
    rw [← hM] at hdf hcf
    by_cases h0 : L.length = 0
    · have hL := List.eq_nil_of_length_eq_zero h0
      refine SX.goP ?_
      exact retI (by rw [h2 hL])
    · have hL : L ≠ [] := fun e => h0 (by rw [e]; rfl)
      refine SX.goP ?_
      exact W.next ⟨n + 1, M, n⟩ ⟨fun h => by dsimp only at *; rw [if_neg h] at hdf; have := h1 hL; omega, fun h => by dsimp only at *; rw [if_pos h] at hdf; have := h1 hL; omega, by dsimp only; omega, by dsimp only; omega⟩ (by dsimp only; omega)
        (SX.St.le_to [] (by intro b h; cases h) ⟨⟨_, rfl, SX.AVto.eq hrow2 rfl⟩, ⟨_, rfl, SX.AVto.same rfl⟩, ⟨_, rfl, SX.AVto.same rfl⟩, trivial⟩ trivial rfl)⟩
structure CoS where
  L : List Nd
  c : Nat
instance con_Count (l : List Nd) : Con Try.prog 25 [.r (rowR 3 ndC l)] (cntL l ≤ 1000000000) (.v (.int .i64 (cntL l : Int))) := ⟨fun hl => by
  have hrow := row_ndE l
  refine PureOK.fnF Try.func25 Try.results25 Try.ntmps25 rfl rfl rfl (by simp [AV.ids, AV0.ids, Atom.ids]) rfl (fun w0 T B E0 hB => ?_)
  refine SX.goP ?_
  refine W.loop (fun q : CoS => q.c + cntL q.L = cntL l) (fun q => [(3, .v (.int .i64 (q.c : Int))), (4, .r (rowR 3 ndE q.L))]) (fun _ => []) (fun q => cntL q.L) ⟨l, 0⟩ (by dsimp only; omega) (fun q hq => ?_)
  obtain ⟨L, c⟩ := q
  dsimp only at hq
  show WP _ _ _ (mkSt [(3, .v (.int .i64 (c : Int))), (4, .r (rowR 3 ndE L))] []) _
  have hlen := len_cntL L
  by_cases h0 : 0 < L.length
  · refine SX.goP ?_
    refine W.loop2 (fun (j : Nat) (M : List Nd) => j ≤ L.length ∧ M = (L.take j).flatMap Nd.kids) (fun j M => [(3, .v (.int .i64 ((c + L.length : Nat) : Int))), (5, .own 100), (16, .r (rowR 3 ndE L)), (17, .v (.int .i64 (L.length : Int))), (18, .v (.int .i64 (j : Int)))]) (fun j M => [(100, NR M)]) (fun j _ => L.length - j) 0 [] ⟨Nat.zero_le _, rfl⟩ (fun j M ⟨hj, hM⟩ => ?_)
    have hm := len_take L j
    rw [← hM] at hm
    by_cases hlt : j < L.length
    · obtain ⟨k, hk⟩ : ∃ k, L[j]? = some k := ⟨_, List.getElem?_eq_getElem hlt⟩
      have hm2 := len_take L (j + 1)
      rw [take_kids hk, ← hM, List.length_append] at hm2
      refine SX.goP ?_
      exact W.next2 (j + 1) (M ++ k.kids) ⟨by omega, by rw [hM, take_kids hk]⟩ (by omega)
        (by
        refine SX.St.le_to [(100, some 25)] (by intro b h; cases h) ?_ ?_ rfl
        · repeat (first | exact trivial | refine ⟨⟨_, rfl, SX.AVto.same rfl⟩, ?_⟩ | refine ⟨⟨_, rfl, SX.AVto.own rfl⟩, ?_⟩)
        · exact ⟨SX.EntTo.row rfl rfl (by simp) (by simp), trivial⟩)
    · have hrow2 := row_ndE M
      refine WP.freeze 100 hB rfl ?_
      have hj : L.take j = L := List.take_of_length_le (by omega)
      rw [hj] at hM
      have hcf := cntL_flat L
      rw [← hM] at hcf
      refine SX.goP ?_
      exact W.next ⟨M, c + L.length⟩ (by dsimp only; omega) (by dsimp only; omega)
        (SX.St.le_to [] (by intro b h; cases h) ⟨⟨_, rfl, SX.AVto.same rfl⟩, ⟨_, rfl, SX.AVto.eq hrow2 rfl⟩, trivial⟩ trivial rfl)
  · have hL := List.eq_nil_of_length_eq_zero (show L.length = 0 by omega)
    subst hL
    rw [cntL_nil] at hq
    refine SX.goP ?_
    exact retI (z := (c : Int)) (by omega)⟩
end Go.Proofs.Ytaocklkbijkhpaa

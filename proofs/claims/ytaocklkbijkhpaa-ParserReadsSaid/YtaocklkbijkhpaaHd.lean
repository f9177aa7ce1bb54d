import Derived.Test.YtaocklkbijkhpaaHc
/- Package parser in the symbolic run: Parse. -/
set_option linter.unusedVariables false
set_option linter.unusedSimpArgs false
namespace Go.Proofs.Ytaocklkbijkhpaa
open Go.RowKit SX
/-- A program's statements. -/
def progG (l : List Tok) (S : Gr) : Nat → List Nd → Gr
  | 0, _ => fun a o => .bad 4 a nd0 a o
  | f + 1, ks => fun a o => if a < l.length then (match S a o with
    | .bad e p n a' o' => .bad e p (.mk 0 [] (ks ++ [n])) a' o'
    | .ok n a' => progG l S f (ks ++ [n]) a' o)
    else .ok (.mk 0 [] ks) a
def progR (l : List Tok) : Res := progG l (slev 600 l (l.length + 1)) (l.length + 1) [] 0 0
def finR (ks : List Nd) (d : Int) : List Nd × Nat × Nat := if d < (depL ks : Int) then ([], 0, 8) else (ks, 0, 0)
/-- What a parse comes to: nodes, a place, an error. -/
def parseR (l : List Tok) (d : Int) : List Nd × Nat × Nat :=
  if d < 0 ∨ 200 < d then ([], 0, 1) else
  if l.all isTok then (match progR l with
    | .bad e p _ _ _ => ([], p, e)
    | .ok n _ => finR n.kids d)
  else ([], 0, 1)
abbrev tupP (r : List Nd × Nat × Nat) : AV := .tup [.one (.c (.sat (rowR 3 ndC r.1))), .one (.c (.val (.int .i64 (r.2.1 : Int)))), .one (.c (.val (.int .i64 (r.2.2 : Int))))]
theorem tok_ne1 {t : Tok} (h : isTok t = true) (ht : t.text = [61]) : t.kind ≠ 1 := by
  intro hk
  have hs : srt 61 = 5 := by unfold srt; decide
  have hn : num [61] = false := by unfold num dig; simp [hs]
  unfold isTok at h
  rw [if_pos hk, ht, hn] at h; cases h
theorem ht_of {l : List Tok} (h : l.all isTok = true) : HT l := fun i t ht he => tok_ne1 (List.all_eq_true.1 h t (List.mem_of_getElem? ht)) he
def prS (l : List Tok) (S : Gr) (q : LiS) : Res := match q.b with
  | none => progG l S q.f q.ks q.a q.o
  | some (e, p) => .bad e p (.mk 0 [] q.ks) q.a q.o
attribute [local irreducible] IntKind.wrap Go1 Reg WP thenK inBlk retQ retF RetF RetOK ResOK CallOK OpOK Sat
theorem c_Parse (l : List Tok) (d : Int) (hl : l.length ≤ 1000000) (ht : ∀ t ∈ l, t.text.length ≤ 9223372036854775807) : PureOK Try.prog 19 [.r (rowR 3 tokC l), .v (.int .i64 d)] (tupP (parseR l d)) := by
  unfold parseR
  by_cases hd : d < 0 ∨ 200 < d
  · rw [if_pos hd]
    by_cases h0 : d < 0
    · refine PureOK.fnF Try.func19 Try.results19 Try.ntmps19 rfl rfl rfl (by simp [AV.ids, AV0.ids, Atom.ids]) rfl (fun w0 T B E0 hB => ?_)
      refine SX.goP ?_
      refine ret3' (ResOK.tmp rfl) (ResOK.tmp rfl) (ResOK.tmp rfl) imp_nil (AV0.imp.refl _) (AV0.imp.refl _)
    · refine PureOK.fnF Try.func19 Try.results19 Try.ntmps19 rfl rfl rfl (by simp [AV.ids, AV0.ids, Atom.ids]) rfl (fun w0 T B E0 hB => ?_)
      refine SX.goP ?_
      refine ret3' (ResOK.tmp rfl) (ResOK.tmp rfl) (ResOK.tmp rfl) imp_nil (AV0.imp.refl _) (AV0.imp.refl _)
  · rw [if_neg hd]
    generalize hV : (if l.all isTok then (match progR l with
      | .bad e p _ _ _ => (([], p, e) : List Nd × Nat × Nat)
      | .ok n _ => finR n.kids d) else ([], 0, 1)) = V
    refine PureOK.fnF Try.func19 Try.results19 Try.ntmps19 rfl rfl rfl (by simp [AV.ids, AV0.ids, Atom.ids]) rfl (fun w0 T B E0 hB => ?_)
    refine SX.goP ?_
    refine W.loop (fun k : Nat => k ≤ l.length ∧ ∀ i t, i < k → l[i]? = some t → isTok t = true) (fun k => [(0, .r (rowR 3 tokC l)), (1, .v (.int .i64 d)), (17, .r (rowR 3 tokC l)), (18, .v (.int .i64 (l.length : Int))), (19, .v (.int .i64 (k : Int)))]) (fun _ => []) (fun k => l.length - k) 0 ⟨Nat.zero_le _, fun i t h => by omega⟩ (fun k ⟨hk, hT⟩ => ?_)
    by_cases hlt : k < l.length
    · obtain ⟨⟨tk, tt, tp⟩, htk⟩ : ∃ t, l[k]? = some t := ⟨_, List.getElem?_eq_getElem hlt⟩
      have htt : tt.length ≤ 9223372036854775807 := ht _ (List.mem_of_getElem? htk)
      have cI : PureOK Try.prog 12 [.agg (tokA ⟨tk, tt, tp⟩)] (.v (.bool (isTok ⟨tk, tt, tp⟩))) := (con_Is ⟨tk, tt, tp⟩).h htt
      cases hi : isTok ⟨tk, tt, tp⟩ with
      | false =>
        rw [hi] at cI
        have hall : l.all isTok = false := by
          rw [List.all_eq_false]
          exact ⟨_, List.mem_of_getElem? htk, by rw [hi]; decide⟩
        rw [hall, if_neg (by decide)] at hV
        refine SX.goP ?_
        subst hV
        refine ret3' (ResOK.tmp rfl) (ResOK.tmp rfl) (ResOK.tmp rfl) imp_nil (AV0.imp.refl _) (AV0.imp.refl _)
      | true =>
        rw [hi] at cI
        refine SX.goP ?_
        refine W.next (k + 1) ⟨by omega, fun i t h1 h2 => ?_⟩ (by omega)
        by_cases e : i = k
        · subst e; rw [htk] at h2; cases h2; exact hi
        · exact hT i t (by omega) h2
    · have hall : l.all isTok = true := by
        rw [List.all_eq_true]
        intro t htm
        obtain ⟨i, hi⟩ := List.getElem?_of_mem htm
        exact hT i t (by have := (List.getElem?_eq_some_iff.1 hi).1; omega) hi
      rw [hall, if_pos rfl] at hV
      have gs := g_slev hl (ht_of hall) (l.length + 1) 0 (by omega)
      have ga := adv_slev 600 l (l.length + 1) 0 (by omega)
      unfold progR at hV
      generalize slev 600 l (l.length + 1) = S at hV gs ga
      generalize hR : progG l S (l.length + 1) [] 0 0 = R at hV
      refine SX.goP ?_
      refine W.loop (fun q : LiS => prS l S q = R ∧ (q.b = none → q.o = 0 ∧ q.a ≤ l.length ∧ l.length < q.a + q.f ∧ cntL q.ks ≤ q.a)) (fun _ => [(0, .r (rowR 3 tokC l)), (1, .v (.int .i64 d)), (9, .ptr 29 0), (10, .own 100)]) (fun q => [(29, PS l q.a q.o q.b), (100, NR q.ks)]) (fun q => match q.b with | none => l.length + 1 - q.a | some _ => 0) ⟨[], 0, 0, none, l.length + 1⟩ ⟨hR, fun _ => by dsimp only; exact ⟨rfl, by omega, by omega, by rw [cntL_nil]; omega⟩⟩ (fun q hq => ?_)
        (by
          refine SX.St.le_to [(100, none)] (by intro b h; cases h) ?_ ?_ rfl
          · repeat (first | exact trivial | refine ⟨⟨_, rfl, SX.AVto.same rfl⟩, ?_⟩ | refine ⟨⟨_, rfl, SX.AVto.nil rfl⟩, ?_⟩)
          · exact ⟨SX.EntTo.eq rfl rfl rfl, SX.EntTo.nilRow rfl, trivial⟩)
      obtain ⟨qk, qa, qo, qb, qf⟩ := q
      obtain ⟨hq1, hq2⟩ := hq
      dsimp only at hq1 hq2
      cases qb with
      | some b =>
        obtain ⟨ee, p⟩ := b
        show WP _ _ _ (mkSt [(0, .r (rowR 3 tokC l)), (1, .v (.int .i64 d)), (9, .ptr 29 0), (10, .own 100)] [(29, PE l qa qo ee p), (100, NR qk)]) _
        refine SX.goP ?_
        subst hq1
        subst hV
        refine ret3' (ResOK.tmp rfl) (ResOK.tmp rfl) (ResOK.tmp rfl) imp_nil (AV0.imp.refl _) (AV0.imp.refl _)
      | none =>
        obtain ⟨rfl, b2, b3, b4⟩ := hq2 rfl
        obtain ⟨qf, rfl⟩ : ∃ k, qf = k + 1 := ⟨qf - 1, by omega⟩
        show WP _ _ _ (mkSt [(0, .r (rowR 3 tokC l)), (1, .v (.int .i64 d)), (9, .ptr 29 0), (10, .own 100)] [(29, PG l qa 0), (100, NR qk)]) _
        have hq1 : progG l S (qf + 1) qk qa 0 = R := hq1
        unfold progG at hq1
        have hlk := len_cntL qk
        by_cases hlt2 : qa < l.length
        · rw [if_pos hlt2] at hq1
          have h3 := gs qa 0 (by omega) (by omega) (by omega)
          have h4 := ga qa 0 (by omega) (by omega)
          cases hr2 : S qa 0 with
          | bad c p k a2 o2 =>
            rw [hr2] at h3 hq1
            have c4 := h3.bad
            refine SX.goP ?_
            exact W.next ⟨qk ++ [k], a2, o2, some (c, p), 0⟩ ⟨hq1, fun h => by cases h⟩ (by dsimp only; omega)
              (by
                refine SX.St.le_to [(100, some 48)] (by intro b h; cases h) ?_ ?_ rfl
                · repeat (first | exact trivial | refine ⟨⟨_, rfl, SX.AVto.same rfl⟩, ?_⟩ | refine ⟨⟨_, rfl, SX.AVto.own rfl⟩, ?_⟩)
                · exact ⟨SX.EntTo.eq rfl rfl rfl, SX.EntTo.row rfl rfl (by simp) (flat_snoc (ndC_eq' _).symm), trivial⟩)
          | ok k a2 =>
            rw [hr2] at h3 hq1 h4
            have c4 := h3.ok
            obtain ⟨j1, j2, j3⟩ := h4
            have j4 := cnt_pos k
            refine SX.goP ?_
            exact W.next ⟨qk ++ [k], a2, 0, none, qf⟩ ⟨hq1, fun h => by dsimp only; exact ⟨rfl, by omega, by omega, by rw [cntL_append, cntL_cons, cntL_nil]; omega⟩⟩ (by dsimp only; omega)
              (by
                refine SX.St.le_to [(100, some 48)] (by intro b h; cases h) ?_ ?_ rfl
                · repeat (first | exact trivial | refine ⟨⟨_, rfl, SX.AVto.same rfl⟩, ?_⟩ | refine ⟨⟨_, rfl, SX.AVto.own rfl⟩, ?_⟩)
                · exact ⟨SX.EntTo.eq rfl rfl rfl, SX.EntTo.row rfl rfl (by simp) (flat_snoc (ndC_eq' _).symm), trivial⟩)
        · rw [if_neg hlt2] at hq1
          have cD : PureOK Try.prog 20 [.r (rowR 3 ndC qk)] (.v (.int .i64 (depL qk : Int))) := Con.use (by omega)
          refine WP.freeze 100 hB rfl ?_
          subst hq1
          have hV : finR qk d = V := hV
          unfold finR at hV
          by_cases hdd : d < (depL qk : Int)
          · rw [if_pos hdd] at hV
            refine SX.goP ?_
            subst hV
            refine ret3' (ResOK.tmp rfl) (ResOK.tmp rfl) (ResOK.tmp rfl) imp_nil (AV0.imp.refl _) (AV0.imp.refl _)
          · rw [if_neg hdd] at hV
            refine SX.goP ?_
            subst hV
            refine ret3' (ResOK.tmp rfl) (ResOK.tmp rfl) (ResOK.tmp rfl) (AV0.imp.refl _) (AV0.imp.refl _) (AV0.imp.refl _)
end Go.Proofs.Ytaocklkbijkhpaa

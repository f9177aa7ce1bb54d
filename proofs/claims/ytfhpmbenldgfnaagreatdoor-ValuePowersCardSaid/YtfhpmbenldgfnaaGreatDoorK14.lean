import Derived.Test.YtfhpmbenldgfnaaGreatDoorK13
set_option linter.unusedVariables false
set_option linter.unusedSimpArgs false
namespace Go.Proofs.YtfhpmbenldgfnaaGreatDoor
open Go.RowKit QM SX
attribute [local irreducible] IntKind.wrap Go1 Reg WP thenK inBlk retQ retF RetF RetOK ResOK CallOK OpOK Sat
attribute [local irreducible] qsub qmul qquo qcmp qadd qv
abbrev wkL (js : List Nat) (c : List (List Rat)) (ps : List Nat) : List (Nat × Ent) := [(91, .abs (RowsA js c)), (92, PivE ps)]
theorem wk_open {P : Program} {C : Ctx} {st : St} {Q : Exit → St → Prop} {cd : Code} {M : List (List Rat)} {cols : Nat} {ps : List Nat} (hb : st.hp 81 = .ent (.abs (wkE M cols ps))) (h1 : st.hp 91 = .free) (h2 : st.hp 92 = .free) (f1 : C.fix 91 = false) (f2 : C.fix 92 = false)
    (h : ∀ js c, js.Nodup → (∀ j ∈ js, j < c.length) → js.map (fun j => c.getD j []) = M → WP P C cd (openSt st 81 155 [hdrA 91 0, .c (.val (.int .i64 (cols : Int))), .own 92] (wkL js c ps)) Q) : WP P C cd st Q :=
  WP.openB (ι := WkI) (b := 81) [91, 92] hb (fun p => rfl) (by intro i hi; simp at hi; rcases hi with rfl | rfl <;> assumption) (by intro i hi; simp at hi; rcases hi with rfl | rfl <;> assumption)
    (by intro p i hi; exact .inl (by simpa [Atom.ids] using hi)) (by intro p i e he; simp at he; rcases he with ⟨rfl, rfl⟩ | ⟨rfl, rfl⟩ <;> rfl) (fun p hp => h p.1 p.2 hp.1 hp.2.1 hp.2.2)
def mlL (s : List Rat) (f : Rat) (k : Nat) : List Rat := (s.take k).map (· * f) ++ s.drop k
theorem mlL_len {s : List Rat} {f : Rat} {k : Nat} (hk : k ≤ s.length) : (mlL s f k).length = s.length := by unfold mlL; simp; omega
theorem mlL_get {s : List Rat} {f : Rat} {k : Nat} {a : Rat} (ha : s[k]? = some a) : (mlL s f k)[k]? = some a := by
  have hk : k < s.length := by
    rcases Nat.lt_or_ge k s.length with h | h
    · exact h
    · rw [List.getElem?_eq_none h] at ha; cases ha
  unfold mlL
  rw [List.getElem?_append_right (by simp; omega)]
  simp only [List.length_map, List.length_take, List.getElem?_drop]
  rw [show min k s.length = k by omega, Nat.sub_self, Nat.add_zero]; exact ha
theorem mlL_set {s : List Rat} {f : Rat} {k : Nat} {a : Rat} (ha : s[k]? = some a) : (mlL s f k).set k (a * f) = mlL s f (k + 1) := by
  have hk : k < s.length := by
    rcases Nat.lt_or_ge k s.length with h | h
    · exact h
    · rw [List.getElem?_eq_none h] at ha; cases ha
  apply List.ext_getElem?
  intro i
  rw [List.getElem?_set]
  unfold mlL
  by_cases hi : k = i
  · subst hi
    rw [if_pos rfl, if_pos (by simp; omega)]
    rw [List.getElem?_append_left (by simp; omega)]
    simp [ha]
  · rw [if_neg hi]
    by_cases hlt : i < k
    · rw [List.getElem?_append_left (by simp; omega), List.getElem?_append_left (by simp; omega)]
      simp [List.getElem?_take, hlt, show i < k + 1 by omega]
    · rw [List.getElem?_append_right (by simp; omega), List.getElem?_append_right (by simp; omega)]
      simp only [List.length_map, List.length_take, List.getElem?_drop]
      congr 1
      omega
def colI (M : List (List Rat)) (top col : Nat) : Int := fi (nz col) (M.drop top) 0
def sw {α : Type} (l : List α) (i j : Nat) : List α := match l[i]?, l[j]? with | some a, some b => (l.set i b).set j a | _, _ => l
def colBy (M : List (List Rat)) (top i col : Nat) : List Rat := let s := (sw M top (top + i)).getD top []; mlL s (1 / s.getD col 0) s.length
def colR (by_ : List Rat) (col : Nat) (r : List Rat) : List Rat := tkL r by_ (r.getD col 0) r.length
def colM (M : List (List Rat)) (top col : Nat) : List (List Rat) := if colI M top col < 0 then M else
  ((sw M top (top + (colI M top col).toNat)).map (colR (colBy M top (colI M top col).toNat col) col)).set top (colBy M top (colI M top col).toNat col)
def colP (M : List (List Rat)) (ps : List Nat) (col : Nat) : List Nat := if colI M ps.length col < 0 then ps else ps ++ [col]
theorem rowC_map (M : List (List Rat)) : M.flatMap rowC = M.map fun r => CA.sat (rowR 4 qC r) := by
  induction M with
  | nil => rfl
  | cons r M ih => rw [List.flatMap_cons, ih]; rfl
theorem rows_sub {tO tI : TypeId} {js : List Nat} {c : List (List Rat)} {M : List (List Rat)} {top bk : Nat} {v u : Value} {X S S' : Nat → Prop} {w : World} (hM : js.map (fun j => c.getD j []) = M) (h : RowsHas tO tI 4 qC js c v X S w) (hsub : ∀ k, S' k → S k) (hX : ∀ k, X k → ¬ S' k) (hu : hsubR top bk v u) : (rowR 1 rowC (M.drop top)).has S' w u := by
  have hf := h.frz hsub hX
  obtain ⟨a, n, cap, hv, hle, rfl⟩ := hu
  have hn : n = js.length := by
    obtain ⟨oa, cap', e, _⟩ := sliceR_iff.1 hf
    rw [hv] at e; cases e; rfl
  subst hn
  rw [hv] at hf
  have hp := sliceR_part (l := top) (h := js.length) hf hle (Nat.le_refl _)
  have hlen : M.length = js.length := by rw [← hM, List.length_map]
  have ec : js.map (fun j => CA.sat (rowR 4 qC (c.getD j []))) = M.flatMap rowC := by rw [rowC_map, ← hM, List.map_map]; rfl
  rw [ec, List.take_of_length_le (by rw [List.length_drop, rowC_map, List.length_map, hlen]; omega)] at hp
  have e1 : (M.flatMap rowC).drop (top * 1) = (M.drop top).flatMap rowC := flat_drop M top
  rw [e1] at hp
  show (sliceR 1 (M.drop top).length _).has S' w _
  rw [List.length_drop, hlen]; exact hp
theorem fi_spec {α : Type} {p : α → Bool} : ∀ (l : List α) (k : Nat), ¬ fi p l k < 0 → ∃ i a, fi p l k = ((k + i : Nat) : Int) ∧ l[i]? = some a ∧ p a = true
  | [], k, h => absurd (show (-1 : Int) < 0 by decide) h
  | a :: l, k, h => by
    unfold fi at h ⊢
    cases hp : p a with
    | true => exact ⟨0, a, by simp, rfl, hp⟩
    | false =>
      rw [hp] at h
      obtain ⟨i, b, h1, h2, h3⟩ := fi_spec l (k + 1) h
      exact ⟨i + 1, b, by rw [if_neg (by decide), h1]; congr 1; omega, h2, h3⟩
def cRun (js : List Nat) (top col : Nat) (b : List Rat) (c : List (List Rat)) : Nat → List (List Rat)
  | 0 => c
  | r + 1 => if r = top then cRun js top col b c r else match js[r]? with
    | some j => (cRun js top col b c r).set j (colR b col ((cRun js top col b c r).getD j []))
    | none => cRun js top col b c r
theorem cRun_len {js : List Nat} {top col : Nat} {b : List Rat} {c : List (List Rat)} : ∀ r, (cRun js top col b c r).length = c.length
  | 0 => rfl
  | r + 1 => by
    unfold cRun
    split
    · exact cRun_len r
    · split
      · rw [List.length_set]; exact cRun_len r
      · exact cRun_len r
theorem nd_ne {js : List Nat} (h : js.Nodup) {i k a b : Nat} (hi : js[i]? = some a) (hk : js[k]? = some b) (hne : i ≠ k) : a ≠ b := by
  rintro rfl
  have hil : i < js.length := by
    rcases Nat.lt_or_ge i js.length with h | h
    · exact h
    · rw [List.getElem?_eq_none h] at hi; cases hi
  exact hne ((List.getElem?_inj hil h).1 (hi.trans hk.symm))
theorem cRun_old {js : List Nat} {top col : Nat} {b : List Rat} {c : List (List Rat)} (hnd : js.Nodup) : ∀ (r : Nat) {k j : Nat}, js[k]? = some j → (r ≤ k ∨ k = top) → (cRun js top col b c r)[j]? = c[j]?
  | 0, k, j, hk, _ => rfl
  | r + 1, k, j, hk, h => by
    have ih := cRun_old (top := top) (col := col) (b := b) (c := c) hnd r hk (by omega)
    unfold cRun
    split
    · exact ih
    · rename_i hrt
      split
      · rename_i j2 hj2
        have hne : j2 ≠ j := nd_ne hnd hj2 hk (by omega)
        rw [List.getElem?_set, if_neg hne]; exact ih
      · exact ih
theorem cRun_new {js : List Nat} {top col : Nat} {b : List Rat} {c : List (List Rat)} (hnd : js.Nodup) : ∀ (r : Nat) {k j : Nat} {x : List Rat}, js[k]? = some j → k < r → k ≠ top → c[j]? = some x → (cRun js top col b c r)[j]? = some (colR b col x)
  | 0, k, j, x, hk, h, _, _ => absurd h (Nat.not_lt_zero _)
  | r + 1, k, j, x, hk, h, ht, hx => by
    have ih : k ≠ r → (cRun js top col b c r)[j]? = some (colR b col x) := fun hn => cRun_new hnd r hk (by omega) ht hx
    unfold cRun
    split
    · exact ih (by omega)
    · split
      · rename_i j2 hj2
        by_cases hkr : k = r
        · subst hkr
          rw [hk] at hj2
          cases hj2
          have ho := cRun_old (top := top) (col := col) (b := b) (c := c) hnd k hk (.inl (Nat.le_refl _))
          rw [hx] at ho
          have hlt : j < (cRun js top col b c k).length := by
            rcases Nat.lt_or_ge j (cRun js top col b c k).length with h | h
            · exact h
            · rw [List.getElem?_eq_none h] at ho; cases ho
          rw [List.getElem?_set, if_pos rfl, if_pos hlt, List.getD_eq_getElem?_getD, ho]; rfl
        · have hne : j2 ≠ j := nd_ne hnd hj2 hk (fun e => hkr e.symm)
          rw [List.getElem?_set, if_neg hne]; exact ih hkr
      · rename_i hj2
        exact ih (fun e => by subst e; rw [hk] at hj2; cases hj2)
theorem map_set' {α β : Type} (g : α → β) (l : List α) (i : Nat) (a : α) : (l.map g).set i (g a) = (l.set i a).map g := by rw [List.map_set]
theorem sw_map {α β : Type} (g : α → β) {l : List α} {i j : Nat} {a b : α} (ha : l[i]? = some a) (hb : l[j]? = some b) : sw (l.map g) i j = ((l.set i b).set j a).map g := by
  unfold sw
  rw [List.getElem?_map, List.getElem?_map, ha, hb]
  show ((l.map g).set i (g b)).set j (g a) = _
  rw [map_set', map_set']
theorem col_law {js c : _} {M : List (List Rat)} {t i col ja jb : Nat} {row : List Rat} {f v : Rat} (hjM : (js : List Nat).map (fun j => (c : List (List Rat)).getD j []) = M) (hja : js[t]? = some ja) (hjb : js[t + i]? = some jb) (hlt : ∀ j ∈ (js.set t jb).set (t + i) ja, j < c.length)
    (hnd : ((js.set t jb).set (t + i) ja).Nodup) (hjt : ((js.set t jb).set (t + i) ja)[t]? = some jb) (hs : c[jb]? = some row) (hv : row[col]? = some v) (hf : f = 1 / v) {n : Nat} (hn : n = ((js.set t jb).set (t + i) ja).length) :
    ((js.set t jb).set (t + i) ja).map (fun j => (cRun ((js.set t jb).set (t + i) ja) t col (mlL row f row.length) (c.set jb (mlL row f row.length)) n).getD j []) = ((sw M t (t + i)).map (colR (colBy M t i col) col)).set t (colBy M t i col) := by
  have hsw : sw M t (t + i) = ((js.set t jb).set (t + i) ja).map fun j => c.getD j [] := by rw [← hjM]; exact sw_map _ hja hjb
  have hby : colBy M t i col = mlL row f row.length := by
    unfold colBy
    have e1 : (sw M t (t + i)).getD t [] = row := by
      rw [hsw, List.getD_eq_getElem?_getD, List.getElem?_map, hjt]
      show (some (c.getD jb [])).getD [] = row
      rw [List.getD_eq_getElem?_getD, hs]; rfl
    have e2 : row.getD col 0 = v := by rw [List.getD_eq_getElem?_getD, hv]; rfl
    rw [e1]
    show mlL row (1 / row.getD col 0) row.length = _
    rw [e2, hf]
  rw [hby, hsw]
  generalize hJ : (js.set t jb).set (t + i) ja = J at *
  apply List.ext_getElem?
  intro p
  rw [List.getElem?_map, List.getElem?_set, List.length_map, List.length_map, List.getElem?_map, List.getElem?_map]
  have hjbl : jb < c.length := hlt jb (List.mem_of_getElem? hjt)
  have htl : t < J.length := by
    rcases Nat.lt_or_ge t J.length with h | h
    · exact h
    · rw [List.getElem?_eq_none h] at hjt; cases hjt
  by_cases hp : t = p
  · subst hp
    rw [if_pos rfl, if_pos htl, hjt]
    show some ((cRun J t col _ _ n).getD jb []) = _
    rw [List.getD_eq_getElem?_getD, cRun_old hnd n hjt (.inr rfl), List.getElem?_set, if_pos rfl, if_pos hjbl]; rfl
  · rw [if_neg hp]
    cases hjp : J[p]? with
    | none => rfl
    | some j =>
      have hpl : p < n := by
        rw [hn]
        rcases Nat.lt_or_ge p J.length with h | h
        · exact h
        · rw [List.getElem?_eq_none h] at hjp; cases hjp
      have hjl := hlt j (List.mem_of_getElem? hjp)
      have hne : j ≠ jb := nd_ne hnd hjp hjt (fun e => hp e.symm)
      obtain ⟨x, hx⟩ : ∃ x, c[j]? = some x := ⟨_, List.getElem?_eq_getElem hjl⟩
      have h1 := cRun_new (top := t) (col := col) (b := mlL row f row.length) (c := c.set jb (mlL row f row.length)) hnd n hjp hpl (fun e => hp e.symm) (x := x) (by rw [List.getElem?_set, if_neg (fun e => hne e.symm)]; exact hx)
      show some ((cRun J t col _ _ n).getD j []) = some (colR _ col (c.getD j []))
      rw [List.getD_eq_getElem?_getD, h1, List.getD_eq_getElem?_getD, hx]; rfl
theorem sw_nodup {js : List Nat} {t u ja jb : Nat} (hnd : js.Nodup) (ha : js[t]? = some ja) (hb : js[u]? = some jb) : ((js.set t jb).set u ja).Nodup := by
  have htl : t < js.length := by
    rcases Nat.lt_or_ge t js.length with h | h
    · exact h
    · rw [List.getElem?_eq_none h] at ha; cases ha
  have hul : u < js.length := by
    rcases Nat.lt_or_ge u js.length with h | h
    · exact h
    · rw [List.getElem?_eq_none h] at hb; cases hb
  show List.Pairwise (· ≠ ·) _
  rw [List.pairwise_iff_getElem]
  intro x y hx hy hxy e0
  have e := (List.getElem?_eq_getElem hx).trans ((congrArg some e0).trans (List.getElem?_eq_getElem hy).symm)
  rw [List.length_set, List.length_set] at hx hy
  have key : ∀ z, z < js.length → ((js.set t jb).set u ja)[z]? = js[if z = u then t else if z = t then u else z]? := by
    intro z hz
    rw [List.getElem?_set, List.getElem?_set]
    by_cases h1 : u = z
    · rw [if_pos h1, if_pos h1.symm, if_pos (by rw [List.length_set]; exact hul), ha]
    · have h1' : ¬ z = u := fun e => h1 e.symm
      rw [if_neg h1, if_neg h1']
      by_cases h2 : t = z
      · rw [if_pos h2, if_pos h2.symm, if_pos htl, hb]
      · have h2' : ¬ z = t := fun e => h2 e.symm
        rw [if_neg h2, if_neg h2']
  rw [key x (by omega), key y (by omega)] at e
  have hz : (if x = u then t else if x = t then u else x) < js.length := by
    split
    · exact htl
    · split
      · exact hul
      · omega
  have := (List.getElem?_inj hz hnd).1 e
  revert this
  repeat' split
  all_goals omega
theorem con_column (M : List (List Rat)) (cols : Nat) (ps : List Nat) (col w K : Nat) (hM : ∀ r ∈ M, r.length = w ∧ ∀ v ∈ r, RB v K) (hK : K ≤ 49000) (hcol : col < w) (hw : w ≤ 300) (hn : M.length ≤ 300) (htop : ps.length < M.length) :
    CallOK Tryz.prog 203 [.ptr 81 0, .v (.int .i64 (col : Int))] [(81, .abs (wkE M cols ps))] ⟨.tup [], [(81, .ent (.abs (wkE (colM M ps.length col) cols (colP M ps col))))]⟩ := by
  refine CallOK.fnA Tryz.func203 Tryz.results203 Tryz.ntmps203 rfl rfl rfl rfl rfl rfl rfl rfl (fun w0 T B E0 hB => ?_)
  refine wk_open rfl rfl rfl rfl rfl (fun js c hnd hlt hjM => ?_)
  have hlen : js.length = M.length := by rw [← hjM, List.length_map]
  refine SX.goQ ?_
  refine SX.Go1.callBor (args' := [.r (rowR 1 rowC (M.drop ps.length)), .it (.one (.c (.sat (cloR 239 [] [.sat (ptrR [.val (.int .i64 (col : Int))])]))))]) (r := .int .i64 (colI M ps.length col)) [(91, .abs (RowsA js c)), (3, .box 3 [.c (.val (.int .i64 (col : Int)))])] rfl rfl rfl (by intro b e h; simp at h; rcases h with ⟨rfl, rfl⟩ | ⟨rfl, rfl⟩ <;> rfl) ?_
    (con_IndexR _ _ _ (fun r hr => FnV.clo (con_nz col r K (by rw [(hM r (List.mem_of_mem_drop hr)).1]; exact hcol) (hM r (List.mem_of_mem_drop hr)).2 (by omega))) (by rw [List.length_drop]; omega)) ?_
  · intro E S w vs hents hall
    match vs, hall with
    | [u1, u2], ⟨h1, h2, _⟩ =>
      refine ⟨?_, ?_, trivial⟩
      · exact rows_sub hjM (hents 91 (.abs (RowsA js c)) (by simp)) (fun k hk => hk.1) (fun k hX hk => hk.2 91 (.abs (RowsA js c)) (by simp) hX) h1.1
      · refine ⟨[], [.pointer (some ⟨E.blk 3, 0, none⟩)], h2, trivial, ?_, trivial⟩
        obtain ⟨cs, g1, g2⟩ := hents 3 (.box 3 [.c (.val (.int .i64 (col : Int)))]) (by simp)
        refine ptrR_iff.2 ⟨E.blk 3, 0, rfl, fun i cc hi => ?_⟩
        match cs, g2, i, hi with
        | [u], g2, 0, hi =>
          cases hi
          have hcell := cells_of_block g1 0 0 u rfl
          exact ⟨u, fun h => h.2 3 (.box 3 [.c (.val (.int .i64 (col : Int)))]) (by simp) rfl, by simpa [Addr.add_lit] using hcell, g2.1⟩
  by_cases hneg : colI M ps.length col < 0
  · have e1 : colM M ps.length col = M := if_pos hneg
    have e2 : colP M ps col = ps := if_pos hneg
    rw [e1, e2]
    refine SX.goQ ?_
    refine RetF.le (wk_close js c [] [91, 92] hnd hlt hjM rfl ⟨AtomTo.same rfl, AtomTo.same rfl, AtomTo.same rfl, trivial⟩ ⟨SX.EntTo.same rfl rfl, SX.EntTo.same rfl rfl, trivial⟩ rfl rfl rfl) ?_
    exact retP (xs := []) trivial ⟨rfl, trivial⟩
  · obtain ⟨i, row, hi, hrow, hnz⟩ := fi_spec (M.drop ps.length) 0 hneg
    have hi : colI M ps.length col = (i : Int) := by show fi _ _ 0 = _; rw [hi, Nat.zero_add]
    have e1 : colM M ps.length col = ((sw M ps.length (ps.length + i)).map (colR (colBy M ps.length i col) col)).set ps.length (colBy M ps.length i col) := by unfold colM; rw [if_neg hneg, hi]; rfl
    have e2 : colP M ps col = ps ++ [col] := if_neg hneg
    rw [e1, e2, hi]
    clear e1 e2
    have hil : ps.length + i < js.length := by
      rw [hlen]
      rcases Nat.lt_or_ge (ps.length + i) M.length with h | h
      · exact h
      · rw [List.getElem?_drop, List.getElem?_eq_none h] at hrow; cases hrow
    obtain ⟨ja, hja⟩ : ∃ j, js[ps.length]? = some j := ⟨_, List.getElem?_eq_getElem (show ps.length < js.length by omega)⟩
    obtain ⟨jb, hjb⟩ : ∃ j, js[ps.length + i]? = some j := ⟨_, List.getElem?_eq_getElem hil⟩
    have lja := hlt ja (List.mem_of_getElem? hja)
    have ljb := hlt jb (List.mem_of_getElem? hjb)
    have l1 : (js.set ps.length jb).length = js.length := List.length_set
    have l2 : ((js.set ps.length jb).set (ps.length + i) ja).length = js.length := by rw [List.length_set, List.length_set]
    have hjt : ((js.set ps.length jb).set (ps.length + i) ja)[ps.length]? = some jb := by
      rw [List.getElem?_set]
      by_cases h0 : ps.length + i = ps.length
      · rw [if_pos h0, if_pos (by rw [l1]; omega)]
        rw [h0, hja] at hjb; exact hjb
      · rw [if_neg h0, List.getElem?_set, if_pos rfl, if_pos (by omega)]
    obtain ⟨s, hs⟩ : ∃ s, c[jb]? = some s := ⟨_, List.getElem?_eq_getElem ljb⟩
    have hsd : c.getD jb [] = s := by rw [List.getD_eq_getElem?_getD, hs]; rfl
    have hMs : M[ps.length + i]? = some s := by rw [← hjM, List.getElem?_map, hjb, ← hsd]; rfl
    have hrs : row = s := by rw [List.getElem?_drop, hMs] at hrow; exact (Option.some.inj hrow).symm
    subst hrs
    obtain ⟨hsw, hsK⟩ := hM row (List.mem_of_getElem? hMs)
    obtain ⟨v, hv⟩ : ∃ v, row[col]? = some v := ⟨_, List.getElem?_eq_getElem (show col < row.length by omega)⟩
    have hv0 : v ≠ 0 := by
      have := of_decide_eq_true hnz
      rw [List.getD_eq_getElem?_getD, hv] at this; exact this
    have bv := hsK v (List.mem_of_getElem? hv)
    have iv := bv.ra
    have i1 : Ra (qA 1) 1 1 := (RB.one (Nat.le_refl 1)).ra
    obtain ⟨f, hfd⟩ : ∃ f, f = 1 / v := ⟨_, rfl⟩
    have bf : RB f (1 + K) := by rw [hfd]; exact (RB.one (Nat.le_refl 1)).div bv hv0
    have jf := bf.ra
    have cq : PureOK Tryz.prog 106 [.agg (qA 1), .agg (qA v)] (.tup [.agg (qA f), .one (.c (.val (.bool (decide (v ≠ 0)))))]) := by rw [hfd]; exact con_qQuo.h (by omega)
    refine SX.goQ ?_
    have hl1 : row.length = w := hsw
    refine W.loop (fun k => k ≤ w) (fun k => [(0, .ptr 81 0), (3, .ptr 3 0), (4, .v (.int .i64 (ps.length : Int))), (6, .it (.one (hdrA 91 (jb + 1)))), (7, .ptr 7 0), (74, .v (.int .i64 (w : Int))), (75, .v (.int .i64 (k : Int)))]) (fun k => [(81, .box 155 [hdrA 91 0, .c (.val (.int .i64 (cols : Int))), .own 92]), (91, .abs (RowsA ((js.set ps.length jb).set (ps.length + i) ja) (c.set jb (mlL row f k)))), (92, PivE ps), (3, .box 3 [.c (.val (.int .i64 (col : Int)))]), (7, .box 27 (qA f))]) (fun k => w - k) 0 (Nat.zero_le _) (fun k hk => ?_)
      (by
        have e : RowsA ((js.set ps.length jb).set (ps.length + i) ja) c = RowsA ((js.set ps.length jb).set (ps.length + i) ja) (c.set jb (mlL row f 0)) := by
          have : mlL row f 0 = row := by simp [mlL]
          rw [this]
          congr 1
          apply List.ext_getElem?
          intro n
          rw [List.getElem?_set]
          by_cases hn : jb = n
          · subst hn; rw [if_pos rfl, if_pos ljb, hs]
          · rw [if_neg hn]
        subst hl1
        refine SX.St.le_to [] (by intro b h; exact SX.fixIs h rfl) ?_ ?_ rfl
        · repeat (first | exact trivial | refine ⟨⟨_, rfl, SX.AVto.same rfl⟩, ?_⟩)
        · exact ⟨SX.EntTo.same rfl rfl, SX.EntTo.eq rfl (congrArg Ent.abs e) rfl, SX.EntTo.same rfl rfl, SX.EntTo.same rfl rfl, SX.EntTo.same rfl rfl, trivial⟩)
    by_cases hkw : k < w
    · obtain ⟨a, ha⟩ : ∃ a, row[k]? = some a := ⟨_, List.getElem?_eq_getElem (show k < row.length by omega)⟩
      have ga := mlL_get (f := f) ha
      have ba := hsK a (List.mem_of_getElem? ha)
      have ia := ba.ra
      have hcj : (c.set jb (mlL row f k))[jb]? = some (mlL row f k) := by rw [List.getElem?_set, if_pos rfl, if_pos ljb]
      have hml := mlL_len (f := f) (show k ≤ row.length by omega)
      have e1 : RowsA ((js.set ps.length jb).set (ps.length + i) ja) ((c.set jb (mlL row f k)).set jb ((mlL row f k).set k (a * f))) = RowsA ((js.set ps.length jb).set (ps.length + i) ja) (c.set jb (mlL row f (k + 1))) := by rw [mlL_set ha, List.set_set]
      refine SX.goQ ?_
      refine W.next (k + 1) hkw (by omega) (by
        refine SX.St.le_to [] (by intro b h; exact SX.fixIs h rfl) ?_ ?_ rfl
        · repeat (first | exact trivial | refine ⟨⟨_, rfl, SX.AVto.same rfl⟩, ?_⟩)
        · exact ⟨SX.EntTo.same rfl rfl, SX.EntTo.eq rfl (congrArg Ent.abs e1) rfl, SX.EntTo.same rfl rfl, SX.EntTo.same rfl rfl, SX.EntTo.same rfl rfl, trivial⟩)
    · obtain rfl : k = w := by omega
      have hnd1 := sw_nodup hnd hja hjb
      have hl3 : ((js.set ps.length jb).set (ps.length + i) ja).length = M.length := by omega
      refine SX.goQ ?_
      refine W.loop (fun r => r ≤ M.length) (fun r => [(0, .ptr 81 0), (3, .ptr 3 0), (4, .v (.int .i64 (ps.length : Int))), (6, .it (.one (hdrA 91 (jb + 1)))), (91, .it (.one (hdrA 91 0))), (92, .v (.int .i64 (M.length : Int))), (93, .v (.int .i64 (r : Int)))]) (fun r => [(81, .box 155 [hdrA 91 0, .c (.val (.int .i64 (cols : Int))), .own 92]), (91, .abs (RowsA ((js.set ps.length jb).set (ps.length + i) ja) (cRun ((js.set ps.length jb).set (ps.length + i) ja) ps.length col (mlL row f k) (c.set jb (mlL row f k)) r))), (92, PivE ps), (3, .box 3 [.c (.val (.int .i64 (col : Int)))])]) (fun r => M.length - r) 0 (Nat.zero_le _) (fun r hr => ?_)
        (by
          rw [← hl3]
          refine SX.St.le_to [] (by intro b h; exact SX.fixIs h rfl) ?_ ?_ rfl
          · repeat (first | exact trivial | refine ⟨⟨_, rfl, SX.AVto.same rfl⟩, ?_⟩)
          · exact ⟨SX.EntTo.same rfl rfl, SX.EntTo.same rfl rfl, SX.EntTo.same rfl rfl, SX.EntTo.same rfl rfl, trivial⟩)
      have hbK : ∀ y ∈ mlL row f k, RB y (2 * K + 1) := by
        intro y hy
        unfold mlL at hy
        rw [List.drop_of_length_le (by omega), List.append_nil] at hy
        obtain ⟨a, ha, rfl⟩ := List.mem_map.1 hy
        exact ((hsK a (List.mem_of_mem_take ha)).mul bf).mono (by omega)
      have hbl : (mlL row f k).length = k := by rw [mlL_len (by omega)]; exact hl1
      by_cases hrl : r < M.length
      · obtain ⟨jr, hjr⟩ : ∃ j, ((js.set ps.length jb).set (ps.length + i) ja)[r]? = some j := ⟨_, List.getElem?_eq_getElem (by omega)⟩
        have hjrm : jr ∈ js := by
          rcases List.mem_or_eq_of_mem_set (List.mem_of_getElem? hjr) with h | h
          · rcases List.mem_or_eq_of_mem_set h with h | h
            · exact h
            · rw [h]; exact List.mem_of_getElem? hjb
          · rw [h]; exact List.mem_of_getElem? hja
        have ljr := hlt jr hjrm
        by_cases hrt : r = ps.length
        · have e1 : RowsA ((js.set ps.length jb).set (ps.length + i) ja) (cRun ((js.set ps.length jb).set (ps.length + i) ja) ps.length col (mlL row f k) (c.set jb (mlL row f k)) r) = RowsA ((js.set ps.length jb).set (ps.length + i) ja) (cRun ((js.set ps.length jb).set (ps.length + i) ja) ps.length col (mlL row f k) (c.set jb (mlL row f k)) (r + 1)) := by
            conv => rhs; unfold cRun; rw [if_pos hrt]
          refine SX.goQ ?_
          refine W.next (r + 1) hrl (by omega) (by
            refine SX.St.le_to [] (by intro b h; exact SX.fixIs h rfl) ?_ ?_ rfl
            · repeat (first | exact trivial | refine ⟨⟨_, rfl, SX.AVto.same rfl⟩, ?_⟩)
            · exact ⟨SX.EntTo.same rfl rfl, SX.EntTo.eq rfl (congrArg Ent.abs e1) rfl, SX.EntTo.same rfl rfl, SX.EntTo.same rfl rfl, trivial⟩)
        · have hne : jr ≠ jb := nd_ne hnd1 hjr hjt hrt
          obtain ⟨x, hx⟩ : ∃ x, c[jr]? = some x := ⟨_, List.getElem?_eq_getElem ljr⟩
          have hxM : x ∈ M := by
            rw [← hjM]
            exact List.mem_map.2 ⟨jr, hjrm, by rw [List.getD_eq_getElem?_getD, hx]; rfl⟩
          obtain ⟨hxw, hxK⟩ := hM x hxM
          obtain ⟨u, hu⟩ : ∃ u, x[col]? = some u := ⟨_, List.getElem?_eq_getElem (by omega)⟩
          have hcx : (cRun ((js.set ps.length jb).set (ps.length + i) ja) ps.length col (mlL row f k) (c.set jb (mlL row f k)) r)[jr]? = some x := by
            rw [cRun_old hnd1 r hjr (.inl (Nat.le_refl _)), List.getElem?_set, if_neg (fun e => hne e.symm)]; exact hx
          have hcb : (cRun ((js.set ps.length jb).set (ps.length + i) ja) ps.length col (mlL row f k) (c.set jb (mlL row f k)) r)[jb]? = some (mlL row f k) := by
            rw [cRun_old hnd1 r hjt (.inr rfl), List.getElem?_set, if_pos rfl, if_pos ljb]
          have hgx : (cRun ((js.set ps.length jb).set (ps.length + i) ja) ps.length col (mlL row f k) (c.set jb (mlL row f k)) r).getD jr [] = x := by rw [List.getD_eq_getElem?_getD, hcx]; rfl
          have hud : x.getD col 0 = u := by rw [List.getD_eq_getElem?_getD, hu]; rfl
          have e1 : RowsA ((js.set ps.length jb).set (ps.length + i) ja) ((cRun ((js.set ps.length jb).set (ps.length + i) ja) ps.length col (mlL row f k) (c.set jb (mlL row f k)) r).set jr (tkL x (mlL row f k) u x.length)) = RowsA ((js.set ps.length jb).set (ps.length + i) ja) (cRun ((js.set ps.length jb).set (ps.length + i) ja) ps.length col (mlL row f k) (c.set jb (mlL row f k)) (r + 1)) := by
            conv => rhs; unfold cRun; rw [if_neg hrt, hjr]
            dsimp only
            rw [hgx]
            unfold colR
            rw [hud]
          have cT := con_take x (mlL row f k) u (2 * K + 1) (by omega) (fun y hy => (hxK y hy).mono (by omega)) hbK ((hxK u (List.mem_of_getElem? hu)).mono (by omega)) (by omega) (by omega)
          refine SX.goQ ?_
          refine SX.Go1.call2H (jr := jr) (jb := jb) (r := x) (r' := tkL x (mlL row f k) u x.length) (s := mlL row f k) rfl rfl rfl rfl rfl hcx hcb hne (tkL_len (by omega) (Nat.le_refl _)) rfl cT ?_
          refine SX.goQ ?_
          refine W.next (r + 1) hrl (by omega) (by
            refine SX.St.le_to [] (by intro b h; exact SX.fixIs h rfl) ?_ ?_ rfl
            · repeat (first | exact trivial | refine ⟨⟨_, rfl, SX.AVto.same rfl⟩, ?_⟩)
            · exact ⟨SX.EntTo.same rfl rfl, SX.EntTo.eq rfl (congrArg Ent.abs e1) rfl, SX.EntTo.same rfl rfl, SX.EntTo.same rfl rfl, trivial⟩)
      · obtain rfl : r = M.length := by omega
        refine SX.goQ ?_
        have hltJ : ∀ j ∈ (js.set ps.length jb).set (ps.length + i) ja, j < c.length := by
          intro j hj
          rcases List.mem_or_eq_of_mem_set hj with h | h
          · rcases List.mem_or_eq_of_mem_set h with h | h
            · exact hlt j h
            · rw [h]; exact ljb
          · rw [h]; exact lja
        have hlaw := col_law (f := f) (n := M.length) hjM hja hjb hltJ hnd1 hjt hs hv hfd hl3.symm
        rw [hl1] at hlaw
        refine RetF.le (wk_close (ps := ps ++ [col]) ((js.set ps.length jb).set (ps.length + i) ja) (cRun ((js.set ps.length jb).set (ps.length + i) ja) ps.length col (mlL row f k) (c.set jb (mlL row f k)) M.length) [(92, some 116)] [91, 116] hnd1 (fun j hj => by rw [cRun_len, List.length_set]; exact hltJ j hj) hlaw rfl ⟨AtomTo.same rfl, AtomTo.same rfl, AtomTo.own rfl, trivial⟩ ⟨SX.EntTo.same rfl rfl, SX.EntTo.row rfl rfl (by rw [List.length_append]; rfl) (by rw [List.flatMap_append]; rfl), trivial⟩ rfl rfl rfl) ?_
        exact retP (xs := []) trivial ⟨rfl, trivial⟩
end Go.Proofs.YtfhpmbenldgfnaaGreatDoor
set_option linter.unusedVariables false
set_option linter.unusedSimpArgs false
namespace Go.Proofs.YtfhpmbenldgfnaaGreatDoor
open Go.RowKit QM SX
attribute [local irreducible] IntKind.wrap Go1 Reg WP thenK inBlk retQ retF RetF RetOK ResOK CallOK OpOK Sat
attribute [local irreducible] qsub qmul qquo qcmp qadd qv
def redS : Nat → Nat → List (List Rat) → List Nat → List (List Rat) × List Nat
  | 0, _, M, ps => (M, ps)
  | n + 1, col, M, ps => if ps.length < M.length then redS n (col + 1) (colM M ps.length col) (colP M ps col) else (M, ps)
def kb (K : Nat) : Nat → Nat
  | 0 => K
  | n + 1 => kb (4 * K + 2) n
theorem kb_ge : ∀ (n K : Nat), K ≤ kb K n
  | 0, K => Nat.le_refl _
  | n + 1, K => by unfold kb; have := kb_ge n (4 * K + 2); omega
theorem sw_mem {α : Type} {l : List α} {i j : Nat} {x : α} (h : x ∈ sw l i j) : x ∈ l := by
  unfold sw at h
  split at h
  · rename_i a b ha hb
    rcases List.mem_or_eq_of_mem_set h with h | h
    · rcases List.mem_or_eq_of_mem_set h with h | h
      · exact h
      · rw [h]; exact List.mem_of_getElem? hb
    · rw [h]; exact List.mem_of_getElem? ha
  · exact h
theorem sw_len {α : Type} {l : List α} {i j : Nat} : (sw l i j).length = l.length := by
  unfold sw
  split
  · rw [List.length_set, List.length_set]
  · rfl
theorem colM_len {M : List (List Rat)} {top col : Nat} : (colM M top col).length = M.length := by
  unfold colM
  split
  · rfl
  · rw [List.length_set, List.length_map, sw_len]
def RW (M : List (List Rat)) (w K : Nat) : Prop := ∀ r ∈ M, r.length = w ∧ ∀ v ∈ r, RB v K
theorem RW.mono {M : List (List Rat)} {w K L : Nat} (h : RW M w K) (hK : K ≤ L) : RW M w L := fun r hr => ⟨(h r hr).1, fun v hv => ((h r hr).2 v hv).mono hK⟩
theorem tkL_RB {r s : List Rat} {f : Rat} {K : Nat} (hr : ∀ x ∈ r, RB x K) (hs : ∀ x ∈ s, RB x (2 * K + 1)) (hf : RB f K) : ∀ x ∈ tkL r s f r.length, RB x (4 * K + 2) := by
  intro x hx
  unfold tkL at hx
  rcases List.mem_append.1 hx with h | h
  · obtain ⟨i, hi⟩ := List.mem_iff_getElem?.1 h
    rw [List.getElem?_zipWith] at hi
    cases h1 : (r.take r.length)[i]? with
    | none => rw [h1] at hi; cases hi
    | some a =>
      cases h2 : (s.take r.length)[i]? with
      | none => rw [h1, h2] at hi; cases hi
      | some b =>
        rw [h1, h2] at hi
        cases hi
        have ha := hr a (List.mem_of_mem_take (List.mem_of_getElem? h1))
        have hb := hs b (List.mem_of_mem_take (List.mem_of_getElem? h2))
        exact (ha.sub (hf.mul hb)).mono (by omega)
  · exact (hr x (List.mem_of_mem_drop h)).mono (by omega)
theorem mlL_RB {s : List Rat} {f : Rat} {K : Nat} (hs : ∀ x ∈ s, RB x K) (hf : RB f (1 + K)) : ∀ x ∈ mlL s f s.length, RB x (2 * K + 1) := by
  intro x hx
  unfold mlL at hx
  rw [List.drop_length, List.append_nil] at hx
  obtain ⟨a, ha, rfl⟩ := List.mem_map.1 hx
  exact ((hs a (List.mem_of_mem_take ha)).mul hf).mono (by omega)
theorem getD_mem {α : Type} {l : List α} {i : Nat} {d : α} (h : i < l.length) : l.getD i d ∈ l := by
  rw [List.getD_eq_getElem?_getD, List.getElem?_eq_getElem h]; exact List.getElem_mem h
theorem colM_RW {M : List (List Rat)} {top col w K : Nat} (h : RW M w K) (htop : top < M.length) (hcol : col < w) : RW (colM M top col) w (4 * K + 2) := by
  unfold colM
  split
  · exact h.mono (by omega)
  · generalize (colI M top col).toNat = i
    have hs := h ((sw M top (top + i)).getD top []) (sw_mem (getD_mem (by rw [sw_len]; exact htop)))
    have hby : colBy M top i col = mlL ((sw M top (top + i)).getD top []) (1 / ((sw M top (top + i)).getD top []).getD col 0) ((sw M top (top + i)).getD top []).length := rfl
    rw [hby]
    generalize (sw M top (top + i)).getD top [] = s at *
    obtain ⟨hsw, hsK⟩ := hs
    have bv : RB (s.getD col 0) K := hsK _ (getD_mem (by omega))
    have bf : RB (1 / s.getD col 0) (1 + K) := by
      by_cases h0 : s.getD col 0 = 0
      · rw [h0, show (1 : Rat) / 0 = 0 by grind]; exact RB.zero (by omega)
      · exact (RB.one (Nat.le_refl 1)).div bv h0
    have hb := mlL_RB hsK bf
    have hbl : (mlL s (1 / s.getD col 0) s.length).length = w := by rw [mlL_len (Nat.le_refl _)]; exact hsw
    intro r hr
    rcases List.mem_or_eq_of_mem_set hr with hr | hr
    · obtain ⟨x, hx, rfl⟩ := List.mem_map.1 hr
      obtain ⟨hxw, hxK⟩ := h x (sw_mem hx)
      unfold colR
      exact ⟨by rw [tkL_len (by omega) (Nat.le_refl _)]; exact hxw, tkL_RB hxK hb (hxK _ (getD_mem (by omega)))⟩
    · rw [hr]
      exact ⟨hbl, fun v hv => (hb v hv).mono (by omega)⟩
end Go.Proofs.YtfhpmbenldgfnaaGreatDoor
set_option linter.unusedVariables false
set_option linter.unusedSimpArgs false
namespace Go.Proofs.YtfhpmbenldgfnaaGreatDoor
open Go.RowKit QM SX
attribute [local irreducible] IntKind.wrap Go1 Reg WP thenK inBlk retQ retF RetF RetOK ResOK CallOK OpOK Sat
attribute [local irreducible] qsub qmul qquo qcmp qadd qv
theorem wk_frz {M : List (List Rat)} {cols : Nat} {ps : List Nat} : ∀ bk v X S w, (wkE M cols ps).has bk v X S w → (∃ (t : TypeId) (cs : List Value), w.heap[bk]? = some (.cells cs.toArray t (0, 0)) ∧ All2 (CA.has (fun k => S k ∧ ¬ X k) w) [.sat (rowR 1 rowC M), .val (.int .i64 (cols : Int)), .sat (rowR 1 piC ps)] cs) ∧ X bk := by
  rintro bk v X S w ⟨⟨js, c⟩, E, _, hB⟩
  obtain ⟨cs, g1, g2⟩ := hB.box
  have hR : RowsHas 28 27 4 qC js c (E.sl 91) (E.fp 91) S w := hB.ents 91 (.abs (RowsA js c)) (by simp)
  obtain ⟨vs, hp1, hp2⟩ : (PivE ps).has E S w 92 := hB.ents 92 (PivE ps) (by simp)
  have hM : js.map (fun j => c.getD j []) = M := hB.φ.2.2
  refine ⟨⟨_, cs, g1, ?_⟩, (hB.X bk).2 (.inl rfl)⟩
  match cs, g2 with
  | [u1, u2, u3], ⟨k1, k2, k3, _⟩ =>
    refine ⟨?_, k2, ?_, trivial⟩
    · have hf := hR.frz (S' := fun k => S k ∧ ¬ X k) (fun k hk => hk.1) (fun k hX hk => hk.2 ((hB.X k).2 (.inr ⟨91, .abs (RowsA js c), by simp, hX⟩)))
      have ec : js.map (fun j => CA.sat (rowR 4 qC (c.getD j []))) = M.flatMap rowC := by rw [rowC_map, ← hM, List.map_map]; rfl
      rw [ec, show js.length = M.length by rw [← hM, List.length_map]] at hf
      rw [show u1 = hdrAt (E.sl 91) 0 from k1.1]
      exact hf
    · rw [show u3 = E.sl 92 from k3.1]
      exact own_frz hp1 (hp2.mono fun a u _ ha => ha.step (Off.refl S w) (fun k hk => .inl hk.1)) (fun k hk hS => hS.2 ((hB.X k).2 (.inr ⟨92, PivE ps, by simp, hk⟩)))
theorem kb_succ : ∀ (n K : Nat), kb K (n + 1) = 4 * kb K n + 2
  | 0, K => rfl
  | n + 1, K => by
    show kb (4 * K + 2) (n + 1) = 4 * kb (4 * K + 2) n + 2
    exact kb_succ n (4 * K + 2)
theorem redS_stop {n col : Nat} {M : List (List Rat)} {ps : List Nat} (h : n = 0 ∨ ¬ ps.length < M.length) : redS n col M ps = (M, ps) := by
  cases n with
  | zero => rfl
  | succ n => exact if_neg (h.resolve_left (by omega))
structure RdS where
  col : Nat
  M : List (List Rat)
  ps : List Nat
theorem con_reduced (r c rb d : Nat) (x y : Rep) (va vb : Nat → Nat → Rat) (K : Nat) (hr : r ≤ 100) (hc : c ≤ 100) (hd : d ≤ 100)
    (hA : ∀ i k, i < r → k < c → PureOK Tryz.prog 93 [.agg (matR r c x), .v (.int .i64 (i : Int)), .v (.int .i64 (k : Int))] (.agg (qA (va i k))))
    (hBt : ∀ i k, i < r → k < d → PureOK Tryz.prog 93 [.agg (matR rb d y), .v (.int .i64 (i : Int)), .v (.int .i64 (k : Int))] (.agg (qA (vb i k))))
    (hRW : RW (bgM c d va vb r) (c + d) K) (hkb : ∀ n, n < c → kb K n ≤ 49000) :
    PureOK Tryz.prog 132 [.agg (matR r c x), .agg (matR rb d y)] (.r (ptrR [.sat (rowR 1 rowC (redS c 0 (bgM c d va vb r) []).1), .val (.int .i64 (c : Int)), .sat (rowR 1 piC (redS c 0 (bgM c d va vb r) []).2)])) := by
  have cb := con_begun r c rb d x y va vb hr hc hd hA hBt
  refine PureOK.fnF Tryz.func132 Tryz.results132 Tryz.ntmps132 rfl rfl rfl (by simp [AV.ids, AV0.ids, Atom.ids]) rfl (fun w0 T B E0 hB => ?_)
  refine SX.goQ ?_
  refine SX.Go1.callG (cap := []) (args := [.agg (matR r c x), .agg (matR rb d y)]) (pre := []) (fp := [81]) rfl rfl rfl cb (by intro b e h; cases h) (by intro b s h; simp at h; obtain ⟨rfl, _⟩ := h; exact .inr rfl) (by intro b s h; simp at h; rw [h.2]; rfl) (by intro b s h; simp at h; simp [h.1]) (by
    intro i h
    rcases h with h | ⟨b, e, hb, h⟩
    · have : i = 81 := by simpa [AV.ids, AV0.ids, Atom.ids] using h
      subst this; exact .inl ⟨_, List.mem_singleton.2 rfl⟩
    · simp at hb; obtain ⟨rfl, rfl⟩ := hb; cases h) ?_
  refine SX.goQ ?_
  have hM0 : (bgM c d va vb r).length = r := by simp [bgM]
  refine W.loop (fun q : RdS => q.col ≤ c ∧ redS (c - q.col) q.col q.M q.ps = redS c 0 (bgM c d va vb r) [] ∧ RW q.M (c + d) (kb K q.col) ∧ q.M.length = r) (fun q => [(5, .ptr 81 0), (6, .v (.int .i64 (q.col : Int)))]) (fun q => [(81, .abs (wkE q.M c q.ps))]) (fun q => c - q.col) ⟨0, bgM c d va vb r, []⟩ ⟨Nat.zero_le _, rfl, hRW, hM0⟩ (fun q hq => ?_)
    (by
      refine SX.St.le_to [] (by intro b h; cases h) ?_ ?_ rfl
      · repeat (first | exact trivial | refine ⟨⟨_, rfl, SX.AVto.same rfl⟩, ?_⟩)
      · exact ⟨SX.EntTo.same rfl rfl, trivial⟩)
  obtain ⟨col, M, ps⟩ := q
  dsimp only at hq
  obtain ⟨hq1, hq2, hq3, hq4⟩ := hq
  show WP _ _ _ (mkSt [(5, .ptr 81 0), (6, .v (.int .i64 (col : Int)))] [(81, .abs (wkE M c ps))]) _
  refine wk_open rfl rfl rfl rfl rfl (fun js cc hnd hlt hjM => ?_)
  have hlen : js.length = M.length := by rw [← hjM, List.length_map]
  by_cases h1 : col < c
  · by_cases h2 : ps.length < M.length
    · have hh := Hide.mk h2
      clear h2
      refine SX.goQ ?_
      refine SX.WP.weaken (wk_close js cc [] [91, 92] hnd hlt hjM rfl ⟨AtomTo.same rfl, AtomTo.same rfl, AtomTo.same rfl, trivial⟩ ⟨SX.EntTo.same rfl rfl, SX.EntTo.same rfl rfl, trivial⟩ rfl rfl rfl) ?_
      have h2 := hh.out
      have cC := con_column M c ps col (c + d) (kb K col) hq3 (hkb col h1) (by omega) (by omega) (by omega) h2
      refine SX.goQ ?_
      refine W.next ⟨col + 1, colM M ps.length col, colP M ps col⟩ ⟨h1, ?_, ?_, ?_⟩ (by dsimp only; omega) (by
        refine SX.St.le_to [] (by intro b h; cases h) ?_ ?_ rfl
        · repeat (first | exact trivial | refine ⟨⟨_, rfl, SX.AVto.same rfl⟩, ?_⟩)
        · exact ⟨SX.EntTo.same rfl rfl, trivial⟩)
      · rw [← hq2]
        dsimp only
        obtain ⟨n, hn⟩ : ∃ n, c - col = n + 1 := ⟨c - col - 1, by omega⟩
        rw [hn, show c - (col + 1) = n by omega]
        conv => rhs; unfold redS; rw [if_pos h2]
      · dsimp only
        rw [kb_succ]
        exact colM_RW hq3 h2 (by omega)
      · dsimp only
        rw [colM_len]; exact hq4
    · refine SX.goQ ?_
      refine RetF.le (wk_close js cc [] [91, 92] hnd hlt hjM rfl ⟨AtomTo.same rfl, AtomTo.same rfl, AtomTo.same rfl, trivial⟩ ⟨SX.EntTo.same rfl rfl, SX.EntTo.same rfl rfl, trivial⟩ rfl rfl rfl) ?_
      refine RetF.le (St.le_bfzA hB (b := 81) rfl wk_frz) ?_
      rw [← hq2, redS_stop (.inr h2)]
      exact ret1 rfl
  · refine SX.goQ ?_
    refine RetF.le (wk_close js cc [] [91, 92] hnd hlt hjM rfl ⟨AtomTo.same rfl, AtomTo.same rfl, AtomTo.same rfl, trivial⟩ ⟨SX.EntTo.same rfl rfl, SX.EntTo.same rfl rfl, trivial⟩ rfl rfl rfl) ?_
    refine RetF.le (St.le_bfzA hB (b := 81) rfl wk_frz) ?_
    rw [← hq2, redS_stop (.inl (by omega))]
    exact ret1 rfl
end Go.Proofs.YtfhpmbenldgfnaaGreatDoor
set_option linter.unusedVariables false
set_option linter.unusedSimpArgs false
namespace Go.Proofs.YtfhpmbenldgfnaaGreatDoor
open Go.RowKit QM SX
theorem weakArgs {P : Program} {f : FuncId} {args args' : List AV} {r : AV} (h : PureOK P f args' r) (hi : ∀ E S w vs, All2 (AV.has E S w) args vs → All2 (AV.has E S w) args' vs) : PureOK P f args r :=
  ⟨h.1, fun E S w vs hl hg hv a b c => h.2 E S w vs hl hg (hi E S w vs hv) a b c⟩
attribute [local irreducible] IntKind.wrap Go1 Reg WP thenK inBlk retQ retF RetF RetOK ResOK CallOK OpOK Sat
attribute [local irreducible] qsub qmul qquo qcmp qadd qv
abbrev q4v (v : Rat) : Q4 := (decide (v.num < 0), nrmN v.num.natAbs, decide ((v.den : Int) < 0), nrmN (v.den : Int).natAbs)
abbrev wkP (M : List (List Rat)) (cols : Nat) (ps : List Nat) : Rep := ptrR [.sat (rowR 1 rowC M), .val (.int .i64 (cols : Int)), .sat (rowR 1 piC ps)]
theorem nil_row {α : Type} {enc : α → List CA} {size : Nat} {S : Nat → Prop} {w : World} : (rowR size enc ([] : List α)).has S w (.slice none 0 0) :=
  sliceR_iff.2 ⟨none, 0, rfl, Nat.le_refl _, Nat.zero_le _, fun _ => rfl, by simp, fun i c h => by simp at h⟩
end Go.Proofs.YtfhpmbenldgfnaaGreatDoor
set_option linter.unusedVariables false
set_option linter.unusedSimpArgs false
namespace LA
def sm : Nat → (Nat → Rat) → Rat
  | 0, _ => 0
  | n + 1, f => sm n f + f n
theorem sm_congr {f g : Nat → Rat} : ∀ {n : Nat}, (∀ i, i < n → f i = g i) → sm n f = sm n g
  | 0, _ => rfl
  | n + 1, h => by
    show sm n f + f n = sm n g + g n
    rw [sm_congr (fun i hi => h i (by omega)), h n (by omega)]
theorem sm_zero {f : Nat → Rat} : ∀ {n : Nat}, (∀ i, i < n → f i = 0) → sm n f = 0
  | 0, _ => rfl
  | n + 1, h => by
    show sm n f + f n = 0
    rw [sm_zero (fun i hi => h i (by omega)), h n (by omega)]; grind
theorem sm_add {f g : Nat → Rat} : ∀ (n : Nat), sm n (fun i => f i + g i) = sm n f + sm n g
  | 0 => by show (0 : Rat) = 0 + 0; grind
  | n + 1 => by
    show sm n _ + _ = (sm n f + f n) + (sm n g + g n)
    rw [sm_add n]; grind
theorem sm_mulL {f : Nat → Rat} {c : Rat} : ∀ (n : Nat), sm n (fun i => c * f i) = c * sm n f
  | 0 => by show (0 : Rat) = c * 0; grind
  | n + 1 => by
    show sm n _ + _ = c * (sm n f + f n)
    rw [sm_mulL n]; grind
theorem sm_mulR {f : Nat → Rat} {c : Rat} (n : Nat) : sm n (fun i => f i * c) = sm n f * c := by
  rw [show (fun i => f i * c) = fun i => c * f i from funext fun i => by grind, sm_mulL]; grind
theorem sm_swap {f : Nat → Nat → Rat} (m : Nat) : ∀ (n : Nat), sm n (fun i => sm m (f i)) = sm m (fun j => sm n (fun i => f i j))
  | 0 => by
    show (0 : Rat) = _
    exact (sm_zero fun i _ => rfl).symm
  | n + 1 => by
    show sm n _ + sm m (f n) = sm m (fun j => sm n (fun i => f i j) + f n j)
    rw [sm_swap m n, sm_add]
theorem sm_one {f : Nat → Rat} : ∀ {n k : Nat}, k < n → (∀ i, i < n → i ≠ k → f i = 0) → sm n f = f k
  | 0, k, h, _ => absurd h (Nat.not_lt_zero _)
  | n + 1, k, h, hz => by
    show sm n f + f n = f k
    by_cases hk : k = n
    · subst hk; rw [sm_zero (fun i hi => hz i (by omega) (by omega))]; grind
    · rw [sm_one (k := k) (by omega) (fun i hi => hz i (by omega)), hz n (by omega) (fun e => hk e.symm)]; grind
def Sp (n W : Nat) (m : Nat → Nat → Rat) (v : Nat → Rat) : Prop := ∃ c : Nat → Rat, ∀ k, k < W → v k = sm n (fun r => c r * m r k)
theorem Sp.row {n W : Nat} {m : Nat → Nat → Rat} {r : Nat} (hr : r < n) : Sp n W m (m r) := by
  refine ⟨fun i => if i = r then 1 else 0, fun k _ => ?_⟩
  have h0 : sm n (fun i => (if i = r then (1 : Rat) else 0) * m i k) = (if r = r then (1 : Rat) else 0) * m r k := sm_one hr (fun i _ hi => by rw [if_neg hi]; grind)
  show m r k = sm n (fun i => (if i = r then (1 : Rat) else 0) * m i k)
  rw [h0, if_pos rfl]; grind
theorem Sp.congr {n W : Nat} {m : Nat → Nat → Rat} {u v : Nat → Rat} (h : Sp n W m u) (he : ∀ k, k < W → v k = u k) : Sp n W m v := by
  obtain ⟨c, hc⟩ := h
  exact ⟨c, fun k hk => (he k hk).trans (hc k hk)⟩
theorem Sp.add {n W : Nat} {m : Nat → Nat → Rat} {u v : Nat → Rat} (h : Sp n W m u) (h' : Sp n W m v) (a b : Rat) : Sp n W m (fun k => a * u k + b * v k) := by
  obtain ⟨c, hc⟩ := h
  obtain ⟨d, hd⟩ := h'
  refine ⟨fun r => a * c r + b * d r, fun k hk => ?_⟩
  show a * u k + b * v k = _
  rw [hc k hk, hd k hk, ← sm_mulL, ← sm_mulL, ← sm_add]
  exact sm_congr fun i _ => by grind
theorem Sp.all {n n' W : Nat} {m m' : Nat → Nat → Rat} (h : ∀ r, r < n → Sp n' W m' (m r)) : ∃ t : Nat → Nat → Rat, ∀ r, r < n → ∀ k, k < W → m r k = sm n' (fun j => t r j * m' j k) :=
by
  have h2 : ∀ r, ∃ c : Nat → Rat, r < n → ∀ k, k < W → m r k = sm n' (fun j => c j * m' j k) := fun r => by
    by_cases hr : r < n
    · obtain ⟨c, hc⟩ := h r hr; exact ⟨c, fun _ => hc⟩
    · exact ⟨fun _ => 0, fun h => absurd h hr⟩
  exact ⟨fun r => Classical.choose (h2 r), fun r hr k hk => Classical.choose_spec (h2 r) hr k hk⟩
theorem Sp.trans {n n' W : Nat} {m m' : Nat → Nat → Rat} {v : Nat → Rat} (h : ∀ r, r < n → Sp n' W m' (m r)) (hv : Sp n W m v) : Sp n' W m' v := by
  obtain ⟨t, ht⟩ := Sp.all h
  obtain ⟨c, hc⟩ := hv
  refine ⟨fun j => sm n (fun r => c r * t r j), fun k hk => ?_⟩
  rw [hc k hk]
  have e1 : sm n (fun r => c r * m r k) = sm n (fun r => sm n' (fun j => c r * (t r j * m' j k))) := sm_congr fun r hr => by rw [ht r hr k hk, ← sm_mulL]
  rw [e1, sm_swap]
  refine sm_congr fun j _ => ?_
  rw [← sm_mulR]
  exact sm_congr fun r _ => by grind
structure Eqv (n n' W : Nat) (m m' : Nat → Nat → Rat) : Prop where
  fwd : ∀ r, r < n' → Sp n W m (m' r)
  back : ∀ r, r < n → Sp n' W m' (m r)
theorem Eqv.refl {n W : Nat} {m : Nat → Nat → Rat} : Eqv n n W m m := ⟨fun r hr => Sp.row hr, fun r hr => Sp.row hr⟩
theorem Eqv.trans {n n' n'' W : Nat} {m m' m'' : Nat → Nat → Rat} (h : Eqv n n' W m m') (k : Eqv n' n'' W m' m'') : Eqv n n'' W m m'' :=
  ⟨fun r hr => Sp.trans h.fwd (k.fwd r hr), fun r hr => Sp.trans k.back (h.back r hr)⟩
structure Rref (n w : Nat) (m : Nat → Nat → Rat) (ps : List Nat) : Prop where
  len : ps.length ≤ n
  inc : ps.Pairwise (· < ·)
  lt : ∀ p ∈ ps, p < w
  one : ∀ i p, ps[i]? = some p → ∀ r, r < n → m r p = if r = i then 1 else 0
  low : ∀ i p, ps[i]? = some p → ∀ k, k < p → m i k = 0
  zero : ∀ r, ps.length ≤ r → r < n → ∀ k, k < w → m r k = 0
theorem getE {l : List Nat} {i : Nat} (h : i < l.length) : l[i]? = some (l.getD i 0) := by
  rw [List.getD_eq_getElem?_getD, List.getElem?_eq_getElem h]; rfl
end LA
set_option linter.unusedVariables false
set_option linter.unusedSimpArgs false
namespace Go.Proofs.YtfhpmbenldgfnaaGreatDoor
open LA
def mf (M : List (List Rat)) (r k : Nat) : Rat := (M.getD r []).getD k 0
def Wd (M : List (List Rat)) (w : Nat) : Prop := ∀ r ∈ M, r.length = w
theorem getD_set {α : Type} {l : List α} {i r : Nat} {a d : α} (hr : r < l.length) : (l.set i a).getD r d = if r = i then a else l.getD r d := by
  rw [List.getD_eq_getElem?_getD, List.getD_eq_getElem?_getD, List.getElem?_set]
  by_cases h : i = r
  · subst h; rw [if_pos rfl, if_pos hr, if_pos rfl]; rfl
  · rw [if_neg h, if_neg (fun e => h e.symm)]
theorem getD_map {α β : Type} {l : List α} {f : α → β} {r : Nat} {d : β} {e : α} (hr : r < l.length) : (l.map f).getD r d = f (l.getD r e) := by
  rw [List.getD_eq_getElem?_getD, List.getD_eq_getElem?_getD, List.getElem?_map, List.getElem?_eq_getElem hr]; rfl
theorem sw_getD {α : Type} {l : List α} {i j r : Nat} {d : α} (hi : i < l.length) (hj : j < l.length) (hr : r < l.length) : (sw l i j).getD r d = if r = j then l.getD i d else if r = i then l.getD j d else l.getD r d := by
  unfold sw
  rw [List.getElem?_eq_getElem hi, List.getElem?_eq_getElem hj]
  dsimp only
  have e1 : l[i] = l.getD i d := by rw [List.getD_eq_getElem?_getD, List.getElem?_eq_getElem hi]; rfl
  have e2 : l[j] = l.getD j d := by rw [List.getD_eq_getElem?_getD, List.getElem?_eq_getElem hj]; rfl
  rw [e1, e2, getD_set (by rw [List.length_set]; exact hr), getD_set hr]
theorem mlL_getD {s : List Rat} {f : Rat} {k : Nat} (hk : k < s.length) : (mlL s f s.length).getD k 0 = s.getD k 0 * f := by
  unfold mlL
  rw [List.drop_length, List.append_nil, List.take_length, getD_map (e := 0) hk]
theorem tkL_getD {r s : List Rat} {f : Rat} {k : Nat} (h : r.length = s.length) (hk : k < r.length) : (tkL r s f r.length).getD k 0 = r.getD k 0 - f * s.getD k 0 := by
  unfold tkL
  rw [List.drop_length, List.append_nil, List.take_length, h, List.take_length]
  rw [List.getD_eq_getElem?_getD, List.getElem?_zipWith, List.getElem?_eq_getElem hk, List.getElem?_eq_getElem (h ▸ hk), List.getD_eq_getElem?_getD, List.getD_eq_getElem?_getD, List.getElem?_eq_getElem hk, List.getElem?_eq_getElem (h ▸ hk)]
  rfl
theorem fi_none {α : Type} {p : α → Bool} : ∀ {l : List α} {k : Nat}, fi p l k < 0 → ∀ a ∈ l, p a = false
  | [], k, _, a, h => by cases h
  | b :: l, k, h, a, ha => by
    unfold fi at h
    cases hp : p b with
    | true => rw [hp] at h; simp at h; omega
    | false =>
      rw [hp] at h
      rcases List.mem_cons.1 ha with rfl | ha
      · exact hp
      · exact fi_none (k := k + 1) (by simpa using h) a ha
structure ColS (n W : Nat) (m m' : Nat → Nat → Rat) (top i col : Nat) : Prop where
  hi : top ≤ i ∧ i < n
  ne : m i col ≠ 0
  at_ : ∀ r, r < n → ∀ k, k < W → m' r k = if r = top then m i k / m i col else (if r = i then m top k else m r k) - (if r = i then m top col else m r col) * (m i k / m i col)
theorem colM_none {M : List (List Rat)} {top col : Nat} (h : colI M top col < 0) : colM M top col = M ∧ ∀ r, top ≤ r → r < M.length → mf M r col = 0 := by
  refine ⟨by unfold colM; rw [if_pos h], fun r h1 h2 => ?_⟩
  have hm : M.getD r [] ∈ M.drop top := by
    rw [List.getD_eq_getElem?_getD, List.getElem?_eq_getElem h2]
    refine List.mem_iff_getElem?.2 ⟨r - top, ?_⟩
    rw [List.getElem?_drop, show top + (r - top) = r by omega, List.getElem?_eq_getElem h2]; rfl
  have := fi_none h _ hm
  unfold nz at this
  exact Decidable.byContradiction fun hn => by rw [decide_eq_true (show (M.getD r []).getD col 0 ≠ 0 from hn)] at this; cases this
theorem colM_some {M : List (List Rat)} {top col W : Nat} (hw : Wd M W) (hcol : col < W) (htop : top < M.length) (h : ¬ colI M top col < 0) : ∃ i, ColS M.length W (mf M) (mf (colM M top col)) top i col := by
  obtain ⟨i0, a, h1, h2, h3⟩ := fi_spec (M.drop top) 0 h
  rw [Nat.zero_add] at h1
  have h1' : colI M top col = (i0 : Int) := h1
  have hi : top + i0 < M.length := by
    rcases Nat.lt_or_ge (top + i0) M.length with h | h
    · exact h
    · rw [List.getElem?_drop, List.getElem?_eq_none h] at h2; cases h2
  have ea : a = M.getD (top + i0) [] := by
    rw [List.getElem?_drop, List.getElem?_eq_getElem hi] at h2
    rw [List.getD_eq_getElem?_getD, List.getElem?_eq_getElem hi]; exact (Option.some.inj h2).symm
  have hne : mf M (top + i0) col ≠ 0 := by
    unfold nz at h3
    have := of_decide_eq_true h3
    rw [ea] at this; exact this
  refine ⟨top + i0, ⟨Nat.le_add_right _ _, hi⟩, hne, fun r hr k hk => ?_⟩
  have hcm : colM M top col = ((sw M top (top + i0)).map (colR (colBy M top i0 col) col)).set top (colBy M top i0 col) := by
    unfold colM; rw [if_neg h, h1', Int.toNat_natCast]
  have wid : ∀ r, r < M.length → (M.getD r []).length = W := fun r hr => hw _ (getD_mem hr)
  have hsT : (sw M top (top + i0)).getD top [] = M.getD (top + i0) [] := by
    rw [sw_getD htop hi htop]
    by_cases h0 : top = top + i0
    · rw [if_pos h0, ← h0]
    · rw [if_neg h0, if_pos rfl]
  have hby : colBy M top i0 col = mlL (M.getD (top + i0) []) (1 / (M.getD (top + i0) []).getD col 0) (M.getD (top + i0) []).length := by
    unfold colBy; rw [hsT]
  have hbyl : (colBy M top i0 col).length = W := by rw [hby, mlL_len (Nat.le_refl _)]; exact wid _ hi
  have hbyk : ∀ k, k < W → (colBy M top i0 col).getD k 0 = mf M (top + i0) k / mf M (top + i0) col := fun k hk => by
    rw [hby, mlL_getD (by rw [wid _ hi]; exact hk)]
    show mf M (top + i0) k * (1 / mf M (top + i0) col) = _
    grind
  have hl : (sw M top (top + i0)).length = M.length := sw_len
  show ((colM M top col).getD r []).getD k 0 = _
  rw [hcm, getD_set (by rw [List.length_map, hl]; exact hr)]
  by_cases hrt : r = top
  · rw [if_pos hrt, if_pos hrt]; exact hbyk k hk
  · rw [if_neg hrt, if_neg hrt, getD_map (e := []) (by rw [hl]; exact hr), sw_getD htop hi hr, if_neg hrt]
    by_cases hri : r = top + i0
    · rw [if_pos hri, if_pos hri, if_pos hri]
      unfold colR
      rw [tkL_getD (by rw [wid _ htop, hbyl]) (by rw [wid _ htop]; exact hk), hbyk k hk]; rfl
    · rw [if_neg hri, if_neg hri, if_neg hri]
      unfold colR
      rw [tkL_getD (by rw [wid _ hr, hbyl]) (by rw [wid _ hr]; exact hk), hbyk k hk]; rfl
theorem ColS.eqv {n W : Nat} {m m' : Nat → Nat → Rat} {top i col : Nat} (h : ColS n W m m' top i col) (hcol : col < W) : Eqv n n W m m' := by
  obtain ⟨h1, h2⟩ := h.hi
  have hne := h.ne
  have htop : top < n := by omega
  have hti := h.at_ top htop
  refine ⟨fun r hr => ?_, fun r hr => ?_⟩
  · -- new rows out of the old ones
    have ha := h.at_ r hr
    by_cases hrt : r = top
    · subst hrt
      refine (Sp.add (Sp.row (W := W) (m := m) h2) (Sp.row h2) (1 / m i col) 0).congr fun k hk => ?_
      rw [ha k hk, if_pos rfl]; grind
    · by_cases hri : r = i
      · subst hri
        refine (Sp.add (Sp.row (W := W) (m := m) htop) (Sp.row hr) 1 (-(m top col / m r col))).congr fun k hk => ?_
        rw [ha k hk, if_neg hrt, if_pos rfl, if_pos rfl]; grind
      · refine (Sp.add (Sp.row (W := W) (m := m) hr) (Sp.row h2) 1 (-(m r col / m i col))).congr fun k hk => ?_
        rw [ha k hk, if_neg hrt, if_neg hri, if_neg hri]; grind
  · -- the old rows out of the new ones
    by_cases hri : r = i
    · subst hri
      refine (Sp.add (Sp.row (W := W) (m := m') htop) (Sp.row htop) (m r col) 0).congr fun k hk => ?_
      rw [hti k hk, if_pos rfl]; grind
    · by_cases hrt : r = top
      · subst hrt
        have hai := h.at_ i h2
        refine (Sp.add (Sp.row (W := W) (m := m') h2) (Sp.row htop) 1 (m r col)).congr fun k hk => ?_
        rw [hai k hk, hti k hk, if_pos rfl, if_neg (fun e => hri e.symm), if_pos rfl, if_pos rfl]; grind
      · have ha := h.at_ r hr
        refine (Sp.add (Sp.row (W := W) (m := m') hr) (Sp.row htop) 1 (m r col)).congr fun k hk => ?_
        rw [ha k hk, hti k hk, if_pos rfl, if_neg hrt, if_neg hri, if_neg hri]; grind
theorem pw_snoc {ps : List Nat} {col : Nat} (h : ps.Pairwise (· < ·)) (hl : ∀ p ∈ ps, p < col) : (ps ++ [col]).Pairwise (· < ·) := by
  rw [List.pairwise_append]
  refine ⟨h, List.pairwise_singleton _ _, fun a ha b hb => ?_⟩
  rw [List.mem_singleton.1 hb]; exact hl a ha
theorem snoc_at {ps : List Nat} {col i p : Nat} (h : (ps ++ [col])[i]? = some p) : ps[i]? = some p ∧ i < ps.length ∨ i = ps.length ∧ p = col := by
  rcases Nat.lt_or_ge i ps.length with h1 | h1
  · rw [List.getElem?_append_left h1] at h; exact .inl ⟨h, h1⟩
  · rw [List.getElem?_append_right h1] at h
    by_cases h2 : i = ps.length
    · subst h2; rw [Nat.sub_self] at h; exact .inr ⟨rfl, (Option.some.inj h).symm⟩
    · rw [List.getElem?_eq_none (by simp; omega)] at h; cases h
theorem ColS.rref {n W : Nat} {m m' : Nat → Nat → Rat} {ps : List Nat} {i col : Nat} (h : ColS n W m m' ps.length i col) (hcol : col < W) (hr : Rref n col m ps) : Rref n (col + 1) m' (ps ++ [col]) := by
  obtain ⟨h1, h2⟩ := h.hi
  have hne := h.ne
  have htop : ps.length < n := by omega
  -- old columns stand as they stood
  have hold : ∀ r, r < n → ∀ k, k < col → m' r k = m r k := fun r hrn k hk => by
    have hik : m i k = 0 := hr.zero i h1 h2 k hk
    have htk : m ps.length k = 0 := hr.zero _ (Nat.le_refl _) htop k hk
    rw [h.at_ r hrn k (by omega), hik, show (0 : Rat) / m i col = 0 by grind]
    by_cases hrt : r = ps.length
    · rw [if_pos hrt, hrt, htk]
    · rw [if_neg hrt]
      by_cases hri : r = i
      · rw [if_pos hri, if_pos hri, hri, htk, hik]; grind
      · rw [if_neg hri, if_neg hri]; grind
  have hnew : ∀ r, r < n → m' r col = if r = ps.length then 1 else 0 := fun r hrn => by
    rw [h.at_ r hrn col hcol, show m i col / m i col = 1 by grind]
    by_cases hrt : r = ps.length
    · rw [if_pos hrt, if_pos hrt]
    · rw [if_neg hrt, if_neg hrt]; grind
  refine ⟨by simp; omega, pw_snoc hr.inc hr.lt, fun p hp => ?_, fun j p hp r hrn => ?_, fun j p hp k hk => ?_, fun r h3 h4 k hk => ?_⟩
  · rcases List.mem_append.1 hp with h | h
    · have := hr.lt p h; omega
    · rw [List.mem_singleton.1 h]; omega
  · rcases snoc_at hp with ⟨h3, h4⟩ | ⟨rfl, rfl⟩
    · rw [hold r hrn p (hr.lt p (List.mem_of_getElem? h3))]; exact hr.one j p h3 r hrn
    · exact hnew r hrn
  · rcases snoc_at hp with ⟨h3, h4⟩ | ⟨rfl, rfl⟩
    · have := hr.lt p (List.mem_of_getElem? h3)
      rw [hold j (by omega) k (by omega)]; exact hr.low j p h3 k hk
    · rw [hold _ htop k hk]; exact hr.zero _ (Nat.le_refl _) htop k hk
  · rw [List.length_append, List.length_singleton] at h3
    by_cases hk2 : k = col
    · subst hk2; rw [hnew r h4, if_neg (by omega)]
    · rw [hold r h4 k (by omega)]; exact hr.zero r (by omega) h4 k (by omega)
theorem rref_none {n : Nat} {m : Nat → Nat → Rat} {ps : List Nat} {col : Nat} (hz : ∀ r, ps.length ≤ r → r < n → m r col = 0) (hr : Rref n col m ps) : Rref n (col + 1) m ps :=
  ⟨hr.len, hr.inc, fun p hp => by have := hr.lt p hp; omega, hr.one, hr.low, fun r h1 h2 k hk => by
    by_cases hk2 : k = col
    · subst hk2; exact hz r h1 h2
    · exact hr.zero r h1 h2 k (by omega)⟩
theorem rref_full {n w w' : Nat} {m : Nat → Nat → Rat} {ps : List Nat} (hr : Rref n w m ps) (hf : ¬ ps.length < n) (hw : w ≤ w') : Rref n w' m ps :=
  ⟨hr.len, hr.inc, fun p hp => by have := hr.lt p hp; omega, hr.one, hr.low, fun r h1 h2 => by omega⟩
theorem colM_wd {M : List (List Rat)} {top col W : Nat} (h : Wd M W) (htop : top < M.length) : Wd (colM M top col) W := by
  unfold colM
  split
  · exact h
  · generalize (colI M top col).toNat = i
    have hs := h ((sw M top (top + i)).getD top []) (sw_mem (getD_mem (by rw [sw_len]; exact htop)))
    have hby : colBy M top i col = mlL ((sw M top (top + i)).getD top []) (1 / ((sw M top (top + i)).getD top []).getD col 0) ((sw M top (top + i)).getD top []).length := rfl
    rw [hby]
    generalize (sw M top (top + i)).getD top [] = s at *
    intro r hr
    rcases List.mem_or_eq_of_mem_set hr with hr | hr
    · obtain ⟨x, hx, rfl⟩ := List.mem_map.1 hr
      have hxw := h x (sw_mem hx)
      unfold colR
      rw [tkL_len (by rw [mlL_len (Nat.le_refl _)]; omega) (Nat.le_refl _)]; exact hxw
    · rw [hr, mlL_len (Nat.le_refl _)]; exact hs
theorem redS_spec {W : Nat} : ∀ (n col : Nat) (M : List (List Rat)) (ps : List Nat), Wd M W → col + n ≤ W → Rref M.length col (mf M) ps →
    Rref M.length (col + n) (mf (redS n col M ps).1) (redS n col M ps).2 ∧ Eqv M.length M.length W (mf M) (mf (redS n col M ps).1) ∧ (redS n col M ps).1.length = M.length ∧ Wd (redS n col M ps).1 W
  | 0, col, M, ps, hw, hc, hr => ⟨hr, Eqv.refl, rfl, hw⟩
  | n + 1, col, M, ps, hw, hc, hr => by
    unfold redS
    by_cases h : ps.length < M.length
    · rw [if_pos h]
      have hl : (colM M ps.length col).length = M.length := colM_len
      have key : Rref M.length (col + 1) (mf (colM M ps.length col)) (colP M ps col) ∧ Eqv M.length M.length W (mf M) (mf (colM M ps.length col)) := by
        by_cases hi : colI M ps.length col < 0
        · obtain ⟨e, hz⟩ := colM_none hi
          unfold colP
          rw [if_pos hi, e]
          exact ⟨rref_none hz hr, Eqv.refl⟩
        · obtain ⟨i, hS⟩ := colM_some hw (by omega) h hi
          unfold colP
          rw [if_neg hi]
          exact ⟨hS.rref (by omega) hr, hS.eqv (by omega)⟩
      have ih := redS_spec n (col + 1) (colM M ps.length col) (colP M ps col) (colM_wd hw h) (by omega) (by rw [hl]; exact key.1)
      rw [hl, show col + 1 + n = col + (n + 1) by omega] at ih
      exact ⟨ih.1, key.2.trans ih.2.1, ih.2.2⟩
    · rw [if_neg h]
      exact ⟨rref_full hr h (by omega), Eqv.refl, rfl, hw⟩
theorem rref_nil {n : Nat} {m : Nat → Nat → Rat} : Rref n 0 m [] :=
  ⟨Nat.zero_le _, List.Pairwise.nil, fun p h => (by cases h), fun i p h => (by cases h), fun i p h => (by cases h), fun r _ _ k hk => absurd hk (Nat.not_lt_zero _)⟩
end Go.Proofs.YtfhpmbenldgfnaaGreatDoor

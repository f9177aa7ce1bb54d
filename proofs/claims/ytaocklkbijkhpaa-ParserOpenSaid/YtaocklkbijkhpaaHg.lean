import Derived.Test.YtaocklkbijkhpaaHf
/- The statement ParserOpen. -/
set_option linter.unusedVariables false
set_option linter.unusedSimpArgs false
namespace Go.Proofs.Ytaocklkbijkhpaa
open Go.RowKit SX
/-- An error, at its place. -/
def BadR (e p : Nat) (r : Res) : Prop := ∃ n a o, r = .bad e p n a o
theorem bad_map {e p : Nat} {f : Nd → Nd} {r : Res} (h : BadR e p r) : BadR e p (mapR f r) := by
  obtain ⟨n, a, o, rfl⟩ := h; exact ⟨_, _, _, rfl⟩
theorem bad_then {l : List Tok} {e p o : Nat} {s : List UInt8} {r : Res} (h : BadR e p r) : BadR e p (thenS l r o s) := by
  obtain ⟨n, a, o', rfl⟩ := h; exact ⟨_, _, _, rfl⟩
theorem bad_ins {K e p a o : Nat} {g : Gr} (hk : o + 1 ≤ K) (h : BadR e p (g a (o + 1))) : BadR e p (ins K g a o) := by
  obtain ⟨n, a', o', h⟩ := h
  unfold ins
  rw [if_neg (by omega), h]; exact ⟨_, _, _, rfl⟩
theorem bad_list {l : List Tok} {X : Gr} {s : List UInt8} {e p a o : Nat} {f : Nat} {ks : List Nd} (h : BadR e p (X a o)) : BadR e p (listG l X s (f + 1) ks a o) := by
  obtain ⟨n, a', o', h⟩ := h
  unfold listG
  rw [h]; exact ⟨_, _, _, rfl⟩
theorem bad_mat {l : List Tok} {X : Gr} {e p a o : Nat} {f : Nat} {rs r : List Nd} (h : BadR e p (X a o)) : BadR e p (matG l X (f + 1) rs r a o) := by
  obtain ⟨n, a', o', h⟩ := h
  unfold matG
  rw [h]; exact ⟨_, _, _, rfl⟩
theorem bad_postF {K : Nat} {l : List Tok} {X : Gr} {e p a o : Nat} (h : BadR e p (primG K l X a o)) : BadR e p (postF K l X a o) := by
  obtain ⟨n, a', o', h⟩ := h
  unfold postF
  rw [h]; exact ⟨_, _, _, rfl⟩
theorem bad_pow {K : Nat} {l : List Tok} {X U : Gr} {e p a o : Nat} (h : BadR e p (primG K l X a o)) : BadR e p (powG K l X U a o) := by
  obtain ⟨n, a', o', h⟩ := bad_postF h
  unfold powG
  rw [h]; exact ⟨_, _, _, rfl⟩
theorem bad_chn {l : List Tok} {S : Gr} {s1 s2 : List UInt8} {x y e p a o : Nat} (h : BadR e p (S a o)) : BadR e p (chnF l S s1 x s2 y a o) := by
  obtain ⟨n, a', o', h⟩ := h
  unfold chnF
  rw [h]; exact ⟨_, _, _, rfl⟩
theorem bad_exp {l : List Tok} {U : Gr} {e p a o : Nat} (h : BadR e p (U a o)) : BadR e p (expG l U a o) := by
  obtain ⟨n, a', o', h⟩ := bad_chn (l := l) (s1 := [43]) (x := 4) (s2 := [45]) (y := 5) (bad_chn (l := l) (s1 := [42]) (x := 6) (s2 := [47]) (y := 7) h)
  unfold expG sumG prodG
  rw [h]; exact ⟨_, _, _, rfl⟩
/-- So many signs of one kind. -/
abbrev repT (k : Nat) (s : List UInt8) : List Tok := List.replicate k ⟨3, s, 0⟩
theorem isS_rep (k a : Nat) (s s' : List UInt8) : isS (repT k s) a s' = (decide (a < k) && decide (s = s')) := by
  unfold isS
  rw [List.getElem?_replicate]
  by_cases h : a < k
  · rw [if_pos h]; simp [h]
  · rw [if_neg h]; simp [h]
theorem isNm_rep (k a : Nat) (s : List UInt8) : isNm (repT k s) a = false := by
  unfold isNm
  rw [List.getElem?_replicate]
  by_cases h : a < k
  · rw [if_pos h]; simp
  · rw [if_neg h]
/-- The error of so many open ones. -/
def opE (k : Nat) : Nat := if 600 < k then 8 else 4
def opP (k : Nat) : Nat := if 600 < k then 0 else k
theorem bad_deep {k a : Nat} {g : Gr} {a' : Nat} (hk : a < k) (ha : a ≤ 600) (h : a + 1 ≤ 600 → BadR (opE k) (opP k) (g a' (a + 1))) : BadR (opE k) (opP k) (ins 600 g a' a) := by
  by_cases h6 : a + 1 ≤ 600
  · exact bad_ins h6 (h h6)
  · unfold ins
    rw [if_pos (by omega)]
    have e1 : opE k = 8 := by unfold opE; rw [if_pos (by omega)]
    have e2 : opP k = 0 := by unfold opP; rw [if_pos (by omega)]
    rw [e1, e2]; exact ⟨_, _, _, rfl⟩
theorem bad_end {k a : Nat} {X : Gr} {s : List UInt8} (hk : a = k) (ha : a ≤ 600) : BadR (opE k) (opP k) (primG 600 (repT k s) X a a) := by
  subst hk
  unfold primG
  rw [List.getElem?_replicate, if_neg (by omega)]
  have e1 : opE a = 4 := by unfold opE; rw [if_neg (by omega)]
  have e2 : opP a = a := by unfold opP; rw [if_neg (by omega)]
  rw [e1, e2]; exact ⟨_, _, _, rfl⟩
theorem bad_un {k a : Nat} {X U : Gr} {s : List UInt8} (hs : s = [40] ∨ s = [45] ∨ s = [91] ∨ s = [123]) (hk : a ≤ k) (ha : a ≤ 600) (hX : a < k → a + 1 ≤ 600 → BadR (opE k) (opP k) (X (a + 1) (a + 1)) ∧ BadR (opE k) (opP k) (U (a + 1) (a + 1))) : BadR (opE k) (opP k) (unG 600 (repT k s) X U a a) := by
  unfold unG
  rw [isS_rep]
  by_cases h : a < k
  · rcases hs with rfl | rfl | rfl | rfl
    · rw [if_neg (by simp)]
      refine bad_pow ?_
      unfold primG
      rw [List.getElem?_replicate, if_pos h]
      dsimp only
      rw [if_neg (by decide), isNm_rep, if_neg (by decide), isS_rep, decide_eq_true h, if_pos (by decide)]
      exact bad_deep h ha fun h6 => bad_then (hX h h6).1
    · rw [decide_eq_true h, if_pos (by decide)]
      exact bad_deep h ha fun h6 => bad_map (hX h h6).2
    · rw [if_neg (by simp)]
      refine bad_pow ?_
      unfold primG
      rw [List.getElem?_replicate, if_pos h]
      dsimp only
      rw [if_neg (by decide), isNm_rep, if_neg (by decide), isS_rep, decide_eq_true h, if_neg (by decide), isS_rep, decide_eq_true h, if_pos (by decide)]
      exact bad_deep h ha fun h6 => bad_mat (hX h h6).1
    · rw [if_neg (by simp)]
      refine bad_pow ?_
      unfold primG
      rw [List.getElem?_replicate, if_pos h]
      dsimp only
      rw [if_neg (by decide), isNm_rep, if_neg (by decide), isS_rep, decide_eq_true h, if_neg (by decide), isS_rep, decide_eq_true h, if_neg (by decide), isS_rep, decide_eq_true h, if_pos (by decide)]
      refine bad_deep h ha fun h6 => bad_map ?_
      unfold listE
      rw [isS_rep, if_neg (by simp)]
      exact bad_list (hX h h6).1
  · rw [decide_eq_false h, if_neg (by simp)]
    exact bad_pow (bad_end (by omega) ha)
theorem bad_lev {k : Nat} {s : List UInt8} (hs : s = [40] ∨ s = [45] ∨ s = [91] ∨ s = [123]) : ∀ (n a : Nat), a ≤ k → a ≤ 600 → k + 1 ≤ a + n → BadR (opE k) (opP k) ((lev 600 (repT k s) n).1 a a) ∧ BadR (opE k) (opP k) ((lev 600 (repT k s) n).2 a a)
  | 0, a, hk, ha, hn => by omega
  | n + 1, a, hk, ha, hn => by
    have h := bad_un (X := (lev 600 (repT k s) n).1) (U := (lev 600 (repT k s) n).2) hs hk ha fun h1 h2 => bad_lev hs n (a + 1) h1 h2 (by omega)
    exact ⟨bad_exp h, h⟩
theorem bad_prog {k : Nat} {s : List UInt8} (hs : s = [40] ∨ s = [45] ∨ s = [91] ∨ s = [123]) (hk : 0 < k) : BadR (opE k) (opP k) (progR (repT k s)) := by
  unfold progR
  rw [show (repT k s).length = k from List.length_replicate]
  unfold progG slev
  rw [if_pos (by rw [show (repT k s).length = k from List.length_replicate]; exact hk)]
  have h : BadR (opE k) (opP k) (stG (repT k s) (lev 600 (repT k s) ((repT k s).length + 1)).1 (blkG 600 (repT k s) (slev 600 (repT k s) k)) 0 0) := by
    unfold stG
    have h1 := (bad_lev (k := k) hs (k + 1) 0 (by omega) (by omega) (by omega)).1
    rw [isS_rep, isS_rep, isNm_rep, if_neg (by rcases hs with rfl | rfl | rfl | rfl <;> simp), if_neg (by rcases hs with rfl | rfl | rfl | rfl <;> simp), Bool.false_and, if_neg (by decide), show (repT k s).length = k from List.length_replicate]
    exact bad_then (bad_map h1)
  obtain ⟨n, a, o, h⟩ := h
  rw [h]
  exact ⟨_, _, _, rfl⟩
theorem tok_sign {s : List UInt8} (hs : s = [40] ∨ s = [45] ∨ s = [91] ∨ s = [123]) : isTok ⟨3, s, 0⟩ = true := by
  rcases hs with rfl | rfl | rfl | rfl <;> kernel_rfl
theorem parse_open {k : Nat} {s : List UInt8} (hs : s = [40] ∨ s = [45] ∨ s = [91] ∨ s = [123]) (hk : 0 < k) : parseR (repT k s) 200 = ([], opP k, opE k) := by
  obtain ⟨n, a, o, h⟩ := bad_prog hs hk
  have ht : (repT k s).all isTok = true := by
    rw [List.all_eq_true]
    intro t ht
    rw [(List.mem_replicate.1 ht).2]; exact tok_sign hs
  unfold parseR
  rw [if_neg (show ¬ ((200 : Int) < 0 ∨ (200 : Int) < 200) by omega), ht, if_pos rfl, h]
attribute [local irreducible] IntKind.wrap Go1 Reg WP thenK inBlk retQ retF RetF RetOK ResOK CallOK OpOK Sat
/-- What the statement's loop finds in its temporaries. -/
def opI (s : List UInt8) (k i : Nat) : List (Nat × AV) := [(5, .v (.int .i64 (k : Int))), (6, .v (str s)), (7, .own 100), (8, .v (.int .i64 (i : Int)))]
theorem tokC_3 (s : List UInt8) : ([CA.val (.int .i64 3), .val (str s), .val (.int .i64 0)] : List CA) = tokC ⟨3, s, 0⟩ := rfl
theorem rep_flat (i : Nat) (s : List UInt8) : (repT i s).flatMap tokC ++ tokC ⟨3, s, 0⟩ = (repT (i + 1) s).flatMap tokC := by
  rw [show repT (i + 1) s = repT i s ++ [⟨3, s, 0⟩] from List.replicate_succ', List.flatMap_append]; simp
theorem ParserOpen_ok (z : Int) (hz : IntKind.u16.wrap z = z) (y : Int) (hy : IntKind.u8.wrap y = y) : PureOK Try.prog 8 [.v (.int .u16 z), .v (.int .u8 y)] (.v (.bool true)) := by
  rw [IntKind.wrap_u16] at hz
  rw [IntKind.wrap_u8] at hy
  have cA : PureOK Try.prog 17 [] (.v (.bool true)) := con_pawake.h trivial
  obtain ⟨n, rfl⟩ : ∃ n : Nat, z = (n : Int) := ⟨z.toNat, by omega⟩
  obtain ⟨q, rfl⟩ : ∃ q : Nat, y = (q : Int) := ⟨y.toNat, by omega⟩
  have hk1 : (n : Int).tmod 2000 = ((n % 2000 : Nat) : Int) := rfl
  have hk2 : IntKind.i64.wrap ((n % 2000 : Nat) : Int) = ((n % 2000 : Nat) : Int) := wrapN64 (by omega)
  have hlt : n % 2000 < 2000 := by omega
  generalize n % 2000 = k at hk1 hk2 hlt
  have key : ∀ (j : Nat) (s : List UInt8), j < 4 → (s = [40] ∨ s = [45] ∨ s = [91] ∨ s = [123]) → (q : Int).tmod 4 = (j : Int) → ([Atom.c (.val (str [40])), .c (.val (str [45])), .c (.val (str [91])), .c (.val (str [123]))] : List Atom)[j]? = some (.c (.val (str s))) → PureOK Try.prog 8 [.v (.int .u16 (n : Int)), .v (.int .u8 (q : Int))] (.v (.bool true)) := by
    intro j s hj hs hq hg
    refine PureOK.fnF Try.func8 Try.results8 Try.ntmps8 rfl rfl rfl (by simp [AV.ids, AV0.ids, Atom.ids]) rfl (fun w0 T B E0 hB => ?_)
    refine SX.goP ?_
    refine SX.G.indexA (i := j) (a := .c (.val (str s))) ?_ rfl rfl rfl rfl (by omega) hg
    refine SX.goP ?_
    refine W.loop (fun i : Nat => i ≤ k) (fun i => opI s k i) (fun i => [(100, .row 28 3 i ((repT i s).flatMap tokC))]) (fun i => k - i) 0 (Nat.zero_le _) (fun i hi => ?_)
    show WP _ _ _ (mkSt (opI s k i) [(100, .row 28 3 i ((repT i s).flatMap tokC))]) _
    by_cases hik : i < k
    · refine SX.goP ?_
      exact W.next (i + 1) (by omega) (by omega)
        (by
          refine SX.St.le_to [(100, some 28)] (by intro b h; cases h) ?_ ?_ rfl
          · repeat (first | exact trivial | refine ⟨⟨_, rfl, SX.AVto.same rfl⟩, ?_⟩ | refine ⟨⟨_, rfl, SX.AVto.own rfl⟩, ?_⟩)
          · exact ⟨SX.EntTo.row rfl rfl rfl (rep_flat i s), trivial⟩)
    · obtain rfl : i = k := by omega
      have hlen : (repT i s).length = i := List.length_replicate
      have hll : (repT i s).length ≤ 1000000 := by omega
      have hrow : ∀ v, AV.r (sliceR 3 i ((repT i s).flatMap tokC)) = v → AV.r (rowR 3 tokC (repT i s)) = v := by intro v h; rw [← h]; unfold rowR; rw [hlen]
      have htx : ∀ t ∈ repT i s, t.text.length ≤ 9223372036854775807 := fun t ht => by
        rw [(List.mem_replicate.1 ht).2]; rcases hs with rfl | rfl | rfl | rfl <;> simp
      by_cases h0 : i = 0
      · subst h0
        have cP : PureOK Try.prog 19 [.r (sliceR 3 0 ((repT 0 s).flatMap tokC)), .v (.int .i64 200)] (tupQ [] 0 0) := by
          rw [← hrow _ rfl]; exact call_Parse hll htx (by kernel_rfl)
        refine WP.freeze 100 hB rfl ?_
        refine SX.goP ?_
        refine retB ?_
        rfl
      · have hp := parse_open hs (show 0 < i by omega)
        have cP : PureOK Try.prog 19 [.r (sliceR 3 i ((repT i s).flatMap tokC)), .v (.int .i64 200)] (tupQ [] (opP i) (opE i)) := by
          rw [← hrow _ rfl]; exact call_Parse hll htx hp
        refine WP.freeze 100 hB rfl ?_
        unfold opP opE at cP
        by_cases h6 : 600 < i
        · rw [if_pos h6, if_pos h6] at cP
          refine SX.goP ?_
          refine retB ?_
          rfl
        · rw [if_neg h6, if_neg h6] at cP
          refine SX.goP ?_
          refine retB ?_
          simp
  have hq4 : q % 4 = 0 ∨ q % 4 = 1 ∨ q % 4 = 2 ∨ q % 4 = 3 := by omega
  have hqt : (q : Int).tmod 4 = ((q % 4 : Nat) : Int) := rfl
  rcases hq4 with h | h | h | h
  · exact key 0 [40] (by omega) (.inl rfl) (by rw [hqt, h]) rfl
  · exact key 1 [45] (by omega) (.inr (.inl rfl)) (by rw [hqt, h]) rfl
  · exact key 2 [91] (by omega) (.inr (.inr (.inl rfl))) (by rw [hqt, h]) rfl
  · exact key 3 [123] (by omega) (.inr (.inr (.inr rfl))) (by rw [hqt, h]) rfl
end Go.Proofs.Ytaocklkbijkhpaa

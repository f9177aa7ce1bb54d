import Derived.Test.YtaocklkbijkhpaaE1
/- Package lexer in the symbolic run: first, gap, Lex, Is, Join. -/
set_option linter.unusedVariables false
set_option linter.unusedSimpArgs false
namespace Go.Proofs.Ytaocklkbijkhpaa
open Go.RowKit SX
attribute [local irreducible] IntKind.wrap Go1 Reg WP thenK inBlk retQ retF RetF RetOK ResOK CallOK OpOK Sat
structure Tok where
  kind : Int
  text : List UInt8
  pos : Int
def tokC (t : Tok) : List CA := [.val (.int .i64 t.kind), .val (str t.text), .val (.int .i64 t.pos)]
abbrev tokA (t : Tok) : List Atom := [.c (.val (.int .i64 t.kind)), .c (.val (str t.text)), .c (.val (.int .i64 t.pos))]
instance : EncLen tokC 3 := ⟨fun _ => rfl⟩
/-- The token that a text begins with. -/
def fst (l : List UInt8) : Tok :=
  if num (l.take (run l)) then ⟨1, l.take (run l), 0⟩ else if nam (l.take (run l)) then ⟨2, l.take (run l), 0⟩ else
  if 2 ≤ l.length ∧ (l.take 2 = [61, 61] ∨ l.take 2 = [33, 61] ∨ l.take 2 = [60, 61] ∨ l.take 2 = [46, 46]) then ⟨3, l.take 2, 0⟩ else if sg1 (l.take 1) then ⟨3, l.take 1, 0⟩ else ⟨0, [], 0⟩
instance con_first (l : List UInt8) : Con Try.prog 28 [.v (str l)] (l.length ≤ 1000000000 ∧ 1 ≤ l.length) (.agg (tokA (fst l))) := ⟨fun ⟨hl, h0⟩ => by
  have h1 := run_le l
  have h2 : (l.take (run l)).length ≤ 1000000000 := by rw [List.length_take]; omega
  refine PureOK.fnF Try.func28 Try.results28 Try.ntmps28 rfl rfl rfl (by simp [AV.ids, AV0.ids, Atom.ids]) rfl (fun w0 T B E0 hB => ?_)
  repeat' (first | refine SX.go ?_ | refine SX.W.ite (fun h => ?_) (fun h => ?_) | refine SX.W.iteN (fun h => ?_) (fun h => ?_) | refine SX.W.iteB (fun h => ?_) (fun h => ?_) | refine SX.R.ite (fun h => ?_) (fun h => ?_) | refine SX.R.iteN (fun h => ?_) (fun h => ?_) | refine SX.R.iteB (fun h => ?_) (fun h => ?_))
  all_goals (refine retA (ResOK.agg3 rfl rfl rfl) ?_)
  all_goals (unfold fst; first | rw [if_pos (by assumption)] | (rw [if_neg (by simp [*]), if_pos (by assumption)]) | (rw [if_neg (by simp [*]), if_neg (by simp [*]), if_pos ⟨by omega, by assumption⟩]) | (rw [if_neg (by simp [*]), if_neg (by simp [*]), if_neg (by omega)]; first | rw [if_pos (by assumption)] | (rw [if_neg (by simp [*])]; rfl)) | (rw [if_neg (by simp [*]), if_neg (by simp [*]), if_neg (fun h => by simp_all)]; first | rw [if_pos (by assumption)] | (rw [if_neg (by simp [*])]; rfl)))⟩
/-- How many bytes of blanks and comments a text begins with; in a comment. -/
def gp : Bool → List UInt8 → Nat
  | _, [] => 0
  | false, c :: l => if srt c = 1 then 1 + gp false l else if c.toNat = 35 then 1 + gp true l else 0
  | true, c :: l => if c.toNat = 10 then 1 + gp false l else 1 + gp true l
theorem gp_ix : ∀ l : List UInt8, gp true l = if ixb l 10 < 0 then l.length else (ixb l 10).toNat + 1 + gp false (l.drop ((ixb l 10).toNat + 1))
  | [] => by simp [gp, ixb, Lib.indexByte]
  | c :: l => by
    have ih := gp_ix l
    have hg : -1 ≤ ixb l 10 := Lib.indexByte_ge l 10
    rw [gp, ixb_cons]
    by_cases h : c = 10
    · subst h; simp
    · have h' : ¬ c.toNat = 10 := fun e => h (UInt8.toNat_inj.1 e)
      rw [if_neg h', if_neg h, ih]
      by_cases h2 : ixb l 10 = -1
      · simp [h2]; omega
      · rw [if_neg h2, if_neg (by omega), if_neg (by omega), show (ixb l 10 + 1).toNat = (ixb l 10).toNat + 1 by omega, List.drop_succ_cons]; omega
theorem ixb_lt (l : List UInt8) (c : UInt8) : ixb l c < l.length := by
  induction l with
  | nil => simp [ixb, Lib.indexByte]
  | cons b l ih =>
    rw [ixb_cons, List.length_cons]
    repeat' split
    all_goals omega
theorem gp_le : ∀ (b : Bool) (l : List UInt8), gp b l ≤ l.length
  | _, [] => by simp [gp]
  | false, c :: l => by
    have h1 := gp_le false l
    have h2 := gp_le true l
    unfold gp; repeat' split
    all_goals (simp only [List.length_cons]; omega)
  | true, c :: l => by
    have h1 := gp_le false l
    have h2 := gp_le true l
    unfold gp; repeat' split
    all_goals (simp only [List.length_cons]; omega)
instance con_gap (l : List UInt8) : Con Try.prog 27 [.v (str l)] (l.length ≤ 1000000000) (.v (.int .i64 (gp false l : Int))) := ⟨fun hl => by
  refine PureOK.fnF Try.func27 Try.results27 Try.ntmps27 rfl rfl rfl (by simp [AV.ids, AV0.ids, Atom.ids]) rfl (fun w0 T B E0 hB => ?_)
  refine SX.go ?_
  refine W.loop (fun k => k ≤ l.length ∧ gp false l = k + gp false (l.drop k)) (fun k => [(0, .v (str l)), (3, .v (.int .i64 (k : Int)))]) (fun _ => []) (fun k => l.length - k) 0 ⟨Nat.zero_le _, by simp⟩ (fun k ⟨hk, hn⟩ => ?_)
  have hx1 := ixb_lt (l.drop k) 10
  have hx2 : -1 ≤ ixb (l.drop k) 10 := Lib.indexByte_ge _ _
  have hx3 : (l.drop k).length = l.length - k := List.length_drop
  have hc : k < l.length → gp false (l.drop k) = if srt (byt l k) = 1 then 1 + gp false (l.drop (k + 1)) else if (byt l k).toNat = 35 then gp true (l.drop k) else 0 := fun h => by
    have hb : byt l k = l[k] := by simp [byt, h]
    rw [List.drop_eq_getElem_cons h, gp, gp, hb]
    by_cases h35 : l[k].toNat = 35
    · simp [h35]
    · simp [h35]
  have hi := gp_ix (l.drop k)
  rw [List.drop_drop] at hi
  repeat' (first | refine SX.go ?_ | refine SX.W.ite (fun h => ?_) (fun h => ?_) | refine SX.W.iteN (fun h => ?_) (fun h => ?_) | refine SX.W.iteB (fun h => ?_) (fun h => ?_) | refine SX.R.ite (fun h => ?_) (fun h => ?_) | refine SX.R.iteN (fun h => ?_) (fun h => ?_) | refine SX.R.iteB (fun h => ?_) (fun h => ?_))
  · rw [if_pos (by omega)] at hc
    exact W.next (k + 1) ⟨by omega, by rw [hn, hc (by omega)]; omega⟩ (by omega)
  · rw [if_neg (by omega), if_pos (by omega), hi, if_pos (by omega)] at hc
    refine retI ?_; rw [hn, hc (by omega)]; omega
  · rw [if_neg (by omega), if_pos (by omega), hi, if_neg (by omega)] at hc
    exact W.next (k + ((ixb (l.drop k) 10).toNat + 1)) ⟨by omega, by rw [hn, hc (by omega)]; omega⟩ (by omega)
  · rw [if_neg (by omega), if_neg (by omega)] at hc
    refine retI ?_; rw [hn, hc (by omega)]; omega
  · rw [List.drop_eq_nil_of_le (by omega)] at hn
    refine retI ?_; rw [hn, gp]; omega⟩
attribute [irreducible] fst gp
theorem fst_len (l : List UInt8) : (fst l).text.length ≤ l.length := by
  unfold fst
  repeat' split
  all_goals simp [List.length_take]; try omega
/-- The tokens of a text from a place on; none: there is what is no token, at the place. -/
def lexW (l : List UInt8) (k : Nat) : List Tok × Option Nat :=
  if h : l.length ≤ k then ([], none) else
  if h0 : (fst (l.drop k)).kind = 0 ∨ (fst (l.drop k)).text.length = 0 then ([], some k) else
  let r := lexW l (k + (fst (l.drop k)).text.length + gp false (l.drop (k + (fst (l.drop k)).text.length)))
  (⟨(fst (l.drop k)).kind, (fst (l.drop k)).text, k⟩ :: r.1, r.2)
termination_by l.length - k
decreasing_by omega
/-- What reading comes to: tokens, a place, an error. -/
def lexR (l : List UInt8) : List Tok × Nat × Nat :=
  if 20000 < l.length then ([], 0, 7) else
  match (lexW l (gp false l)).2 with
  | some k => ([], k, 4)
  | none => ((lexW l (gp false l)).1, 0, 0)
abbrev tupL (r : List Tok × Nat × Nat) : AV := .tup [.one (.c (.sat (rowR 3 tokC r.1))), .one (.c (.val (.int .i64 (r.2.1 : Int)))), .one (.c (.val (.int .i64 (r.2.2 : Int))))]
theorem fst_pos (l : List UInt8) (h : 1 ≤ l.length) (hk : (fst l).kind ≠ 0) : (fst l).text.length ≠ 0 := by
  have hn : num [] = false := by unfold num; rfl
  have hm : nam [] = false := by unfold nam; rfl
  intro e
  unfold fst at *
  split at hk
  · rename_i h1; rw [if_pos h1] at e; rw [List.eq_nil_of_length_eq_zero (show (l.take (run l)).length = 0 from e), hn] at h1; cases h1
  · rename_i h1; rw [if_neg h1] at e
    split at hk
    · rename_i h2; rw [if_pos h2] at e; rw [List.eq_nil_of_length_eq_zero (show (l.take (run l)).length = 0 from e), hm] at h2; cases h2
    · rename_i h2; rw [if_neg h2] at e
      split at hk
      · rename_i h3; rw [if_pos h3] at e; have e' : (l.take 2).length = 0 := e; rw [List.length_take] at e'; omega
      · rename_i h3; rw [if_neg h3] at e
        split at hk
        · rename_i h4; rw [if_pos h4] at e; have e' : (l.take 1).length = 0 := e; rw [List.length_take] at e'; omega
        · exact absurd rfl hk
instance con_Lex (l : List UInt8) : Con Try.prog 11 [.v (str l)] (l.length ≤ 1000000000) (tupL (lexR l)) := ⟨fun hl => by
  refine PureOK.fnF Try.func11 Try.results11 Try.ntmps11 rfl rfl rfl (by simp [AV.ids, AV0.ids, Atom.ids]) rfl (fun w0 T B E0 hB => ?_)
  have hg := gp_le false l
  repeat' (first | refine SX.go ?_ | refine SX.W.ite (fun h => ?_) (fun h => ?_) | refine SX.W.iteN (fun h => ?_) (fun h => ?_) | refine SX.W.iteB (fun h => ?_) (fun h => ?_) | refine SX.R.ite (fun h => ?_) (fun h => ?_) | refine SX.R.iteN (fun h => ?_) (fun h => ?_) | refine SX.R.iteB (fun h => ?_) (fun h => ?_))
  · refine ret3' (ResOK.tmp rfl) (ResOK.tmp rfl) (ResOK.tmp rfl) ?_ ?_ ?_
    all_goals (unfold lexR; rw [if_pos (by omega)])
    · exact imp_nil
    all_goals exact AV0.imp.refl _
  · refine W.loop2 (fun (k : Nat) (ts : List Tok) => k ≤ l.length ∧ ts.length ≤ k ∧ lexW l (gp false l) = (ts ++ (lexW l k).1, (lexW l k).2))
      (fun k ts => [(0, .v (str l)), (5, .own 100), (6, .v (.int .i64 (k : Int)))]) (fun k ts => [(100, .row 28 3 ts.length (ts.flatMap tokC))]) (fun k _ => l.length - k) (gp false l) [] ⟨hg, Nat.zero_le _, by simp⟩ (fun k ts ⟨hk, hts, hx⟩ => ?_)
    have hdl : (l.drop k).length = l.length - k := List.length_drop
    have h2 := fst_pos (l.drop k)
    have h3 := fst_len (l.drop k)
    have h4 := gp_le false (l.drop (k + (fst (l.drop k)).text.length))
    have hdl2 : (l.drop (k + (fst (l.drop k)).text.length)).length = l.length - (k + (fst (l.drop k)).text.length) := List.length_drop
    have hw := lexW.eq_1 l k
    repeat' (first | refine SX.go ?_ | refine SX.W.ite (fun h => ?_) (fun h => ?_) | refine SX.W.iteN (fun h => ?_) (fun h => ?_) | refine SX.W.iteB (fun h => ?_) (fun h => ?_) | refine SX.R.ite (fun h => ?_) (fun h => ?_) | refine SX.R.iteN (fun h => ?_) (fun h => ?_) | refine SX.R.iteB (fun h => ?_) (fun h => ?_))
    · rw [dif_neg (by omega), dif_pos (.inl (by assumption))] at hw
      refine ret3' (ResOK.tmp rfl) (ResOK.tmp rfl) (ResOK.tmp rfl) ?_ ?_ ?_
      all_goals (unfold lexR; rw [if_neg (by omega), hx, hw])
      · exact imp_nil
      all_goals exact AV0.imp.refl _
    · rw [dif_neg (by omega), dif_neg (by omega)] at hw
      exact W.next2 (k + (fst (l.drop k)).text.length + gp false (l.drop (k + (fst (l.drop k)).text.length))) (ts ++ [⟨(fst (l.drop k)).kind, (fst (l.drop k)).text, k⟩]) ⟨by omega, by simp; omega, by rw [hx, hw]; simp⟩ (by omega)
    · rw [dif_pos (by omega)] at hw
      refine RetF.frz 100 ?_
      refine ret3' (ResOK.tmp rfl) (ResOK.tmp rfl) (ResOK.tmp rfl) ?_ ?_ ?_
      all_goals (unfold lexR; rw [if_neg (by omega), hx, hw])
      · simp only [List.append_nil]; exact AV0.imp.refl _
      all_goals exact AV0.imp.refl _⟩
/-- Tokens. -/
def isTok (t : Tok) : Bool := if t.kind = 1 then num t.text else if t.kind = 2 then nam t.text else if t.kind = 3 then sg1 t.text || decide (t.text = [61, 61] ∨ t.text = [33, 61] ∨ t.text = [60, 61] ∨ t.text = [46, 46]) else false
instance con_Is (t : Tok) : Con Try.prog 12 [.agg (tokA t)] (t.text.length ≤ 9223372036854775807) (.v (.bool (isTok t))) := ⟨fun hl => by
  refine PureOK.fnF Try.func12 Try.results12 Try.ntmps12 rfl rfl rfl (by simp [AV.ids, AV0.ids, Atom.ids]) rfl (fun w0 T B E0 hB => ?_)
  repeat' (first | refine SX.go ?_ | refine SX.W.ite (fun h => ?_) (fun h => ?_) | refine SX.W.iteN (fun h => ?_) (fun h => ?_) | refine SX.W.iteB (fun h => ?_) (fun h => ?_) | refine SX.R.ite (fun h => ?_) (fun h => ?_) | refine SX.R.iteN (fun h => ?_) (fun h => ?_) | refine SX.R.iteB (fun h => ?_) (fun h => ?_))
  all_goals (refine retB ?_; simp [isTok, *])⟩
def strC (l : List UInt8) : List CA := [.val (str l)]
instance : EncLen strC 1 := ⟨fun _ => rfl⟩
instance : EncOne strC := ⟨fun _ => rfl⟩
instance : EncOne tokC := ⟨fun _ => rfl⟩
instance con_SJoin (xs : List (List UInt8)) (sep : List UInt8) : Con Try.prog 36 [.r (rowR 1 strC xs), .v (str sep)] (xs.length ≤ 140737488355328 ∧ (Lib.join xs sep).length ≤ 140737488355328) (.v (str (Lib.join xs sep))) := ⟨fun ⟨h1, h2⟩ =>
  PureOK.of_calls ⟨_, Try.func36, rfl, rfl⟩ rfl fun E S w vs hl hv => by
    match vs, hv with
    | [a, b], ⟨ha, hb, _⟩ =>
      have hb' : b = str sep := hb
      subst hb'
      obtain ⟨oa, cap, rfl, hn, hc, h0, hlen, hcell⟩ := sliceR_iff.1 ha
      cases xs with
      | nil =>
        exact (Try.strings_Join_none oa cap ⟨⟨sep⟩⟩ w).mono fun e w' ⟨h1, h2⟩ => ⟨_, h1, rfl, by subst h2; exact Off.refl _ _⟩
      | cons x xs =>
        obtain ⟨bk, o, u, rfl, _, hu, _⟩ := hcell 0 (.val (str x)) rfl
        have hbk := World.block_lt_of_cell? _ _ hu
        generalize x :: xs = zs at *
        have e1 : (zs.map fun l => (⟨⟨l⟩⟩ : ByteArray)).map (·.data.toList) = zs := by
          rw [List.map_map]; exact List.map_id _
        have e2 : (zs.map fun l => (⟨⟨l⟩⟩ : ByteArray)).length = zs.length := List.length_map _
        have key := Try.strings_Join bk o cap (zs.map fun l => (⟨⟨l⟩⟩ : ByteArray)) ⟨⟨sep⟩⟩ w
        rw [e1, e2] at key
        refine (key ?_ hbk h1 hn h2).mono fun e w' ⟨g1, g2⟩ => ⟨_, g1, rfl, Off.of_below g2⟩
        intro j y hy
        simp only [List.getElem?_map, Option.map_eq_some_iff] at hy
        obtain ⟨l, hl, rfl⟩ := hy
        have hf := flat_at (enc := strC) hl
        have : (zs.flatMap strC)[j]? = some (.val (str l)) := by
          have := congrArg (·[0]?) hf
          simpa [List.getElem?_take, List.getElem?_drop, strC] using this
        obtain ⟨b', o', u', e1, _, e2, e3⟩ := hcell j _ this
        cases e1
        rw [e2, show u' = _ from e3]⟩
theorem join_len (M : Nat) (sep : List UInt8) : ∀ xs : List (List UInt8), (∀ x ∈ xs, x.length ≤ M) → (Lib.join xs sep).length ≤ xs.length * (M + sep.length)
  | [], _ => by simp [Lib.join_nil]
  | x :: xs, h => by
    have key : ∀ ys : List (List UInt8), (∀ x ∈ ys, x.length ≤ M) → (Lib.joinTail sep ys).length ≤ ys.length * (M + sep.length) := by
      intro ys
      induction ys with
      | nil => intro _; simp [Lib.joinTail]
      | cons y ys ih =>
        intro hy
        have h1 := ih fun x hx => hy x (by simp [hx])
        have h2 := hy y (by simp)
        simp only [Lib.joinTail, List.map_cons, List.flatten_cons, List.length_append, List.length_cons, Nat.add_mul] at *
        omega
    have h1 := key xs fun x hx => h x (by simp [hx])
    have h2 := h x (by simp)
    rw [Lib.join_cons, List.length_append, List.length_cons, Nat.add_mul]
    omega
/-- What joining comes to. -/
def joinR (ts : List Tok) : List UInt8 × Nat :=
  if ts.all isTok then (if 20001 < min 40000 (ts.foldl (fun n t => min (n + t.text.length + 1) 40000) 0) then ([], 7) else (Lib.join (ts.map (·.text)) [32], 0)) else ([], 1)
instance con_Join (ts : List Tok) : Con Try.prog 14 [.r (rowR 3 tokC ts)] (ts.length ≤ 1000000 ∧ ∀ t ∈ ts, t.text.length ≤ 1000000) (.tup [.one (.c (.val (str (joinR ts).1))), .one (.c (.val (.int .i64 ((joinR ts).2 : Int))))]) := ⟨fun ⟨hn, hl⟩ => by
  refine PureOK.fnF Try.func14 Try.results14 Try.ntmps14 rfl rfl rfl (by simp [AV.ids, AV0.ids, Atom.ids]) rfl (fun w0 T B E0 hB => ?_)

  refine SX.go ?_
  refine W.loop3 (fun (k : Nat) (xs : List (List UInt8)) (s : Nat) => k ≤ ts.length ∧ xs = (ts.take k).map (·.text) ∧ (ts.take k).all isTok = true ∧ s ≤ 40000 ∧ s = (ts.take k).foldl (fun n t => min (n + t.text.length + 1) 40000) 0)
    (fun k xs s => [(4, .own 100), (5, .v (.int .i64 (s : Int))), (8, .r (rowR 3 tokC ts)), (9, .v (.int .i64 (ts.length : Int))), (10, .v (.int .i64 (k : Int)))]) (fun k xs s => [(100, .row 9 1 xs.length (xs.flatMap strC))]) (fun k _ _ => ts.length - k) 0 [] 0 ⟨Nat.zero_le _, by simp, by simp, by omega, by simp⟩ (fun k xs s ⟨hk, hxs, hall, hs0, hs⟩ => ?_)
  by_cases hlt : k < ts.length
  · obtain ⟨t, ht⟩ : ∃ t, ts[k]? = some t := ⟨_, List.getElem?_eq_getElem hlt⟩
    have htl := hl t (List.mem_of_getElem? ht)
    have htk : ts.take (k + 1) = ts.take k ++ [t] := by rw [List.take_add_one, ht]; rfl
    have hxl : xs.length = k := by rw [hxs]; simp; omega
    repeat' (first | refine SX.go ?_ | refine SX.W.ite (fun h => ?_) (fun h => ?_) | refine SX.W.iteN (fun h => ?_) (fun h => ?_) | refine SX.W.iteB (fun h => ?_) (fun h => ?_) | refine SX.R.ite (fun h => ?_) (fun h => ?_) | refine SX.R.iteN (fun h => ?_) (fun h => ?_) | refine SX.R.iteB (fun h => ?_) (fun h => ?_))
    · have hna : ts.all isTok = false := by
        rw [List.all_eq_false]; exact ⟨t, List.mem_of_getElem? ht, by simp_all⟩
      have e : joinR ts = ([], 1) := by unfold joinR; rw [hna]; rfl
      rw [e]; exact ret2 rfl rfl
    · exact W.next3 (k + 1) (xs ++ [t.text]) (min (s + t.text.length + 1) 40000) ⟨by omega, by rw [htk, hxs]; simp, by rw [htk]; simp_all, by omega, by rw [htk, List.foldl_append, ← hs]; rfl⟩ (by omega)
  · have htk : ts.take k = ts := List.take_of_length_le (by omega)
    rw [htk] at hall hs hxs
    have hxn : xs.length = ts.length := by rw [hxs]; simp
    have hxl : ∀ x ∈ xs, x.length ≤ 1000000 := by rw [hxs]; simpa using hl
    have hj := join_len 1000000 [32] xs hxl
    rw [show ([32] : List UInt8).length = 1 from rfl] at hj
    refine SX.go ?_
    refine W.ite (fun h => ?_) (fun h => ?_)
    · refine SX.go ?_
      have e : joinR ts = ([], 7) := by unfold joinR; rw [hall, if_pos rfl, ← hs, if_pos (by omega)]
      rw [e]; exact ret2 rfl rfl
    · refine SX.WP.freeze 100 hB rfl ?_
      have cj := (con_SJoin xs [32]).h ⟨by omega, by omega⟩
      refine SX.go ?_
      have e : joinR ts = (Lib.join xs [32], 0) := by unfold joinR; rw [hall, if_pos rfl, ← hs, if_neg (by omega), hxs]
      rw [e]; exact ret2 rfl rfl⟩
attribute [irreducible] lexR joinR isTok
end Go.Proofs.Ytaocklkbijkhpaa

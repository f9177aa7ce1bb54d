import Derived.Test.YtlojipipibebaaaDoorM4
import Derived.Test.YtlojipipibebaaaDoorM3
/- The statements ParserDepths and ParserOpen. -/
set_option linter.unusedVariables false
set_option linter.unusedSimpArgs false
namespace Go.Proofs.YtlojipipibebaaaDoor
open Go.RowKit SX
set_option maxRecDepth 100000 in
theorem parse_awake : parseR [⟨1, [53], 0⟩, ⟨3, [59], 0⟩] 9 = ([.mk 19 [] [.mk 1 [53] []]], 0, 0) := by kernel_rfl
attribute [local irreducible] IntKind.wrap Go1 Reg WP thenK inBlk retQ retF RetF RetOK ResOK CallOK OpOK Sat
abbrev tupQ (x : List Nd) (p e : Nat) : AV := .tup [.one (.c (.sat (rowR 3 ndC x))), .one (.c (.val (.int .i64 (p : Int)))), .one (.c (.val (.int .i64 (e : Int))))]
theorem call_Parse {l : List Tok} {d : Int} {x : List Nd} {p e : Nat} (hl : l.length ≤ 1000000) (ht : ∀ t ∈ l, t.text.length ≤ 9223372036854775807) (h : parseR l d = (x, p, e)) : PureOK Tryd.prog 10 [.r (rowR 3 tokC l), .v (.int .i64 d)] (tupQ x p e) := by
  have := c_Parse l d hl ht
  rw [h] at this
  exact this
instance con_pawake : Con Tryd.prog 5 [] True (.v (.bool true)) := ⟨fun _ => by
  have c : PureOK Tryd.prog 10 [.r (rowR 3 tokC [⟨1, [53], 0⟩, ⟨3, [59], 0⟩]), .v (.int .i64 9)] (.tup [.one (.c (.sat (sliceR 3 1 [.val (.int .i64 19), .val (str []), .sat (sliceR 3 1 [.val (.int .i64 1), .val (str [53]), .sat (sliceR 3 0 [])])]))), .one (.c (.val (.int .i64 0))), .one (.c (.val (.int .i64 0)))]) := by
    have h := call_Parse (by decide) (by simp) parse_awake
    have e : AV0.one (.c (.sat (rowR 3 ndC [Nd.mk 19 [] [.mk 1 [53] []]]))) = .one (.c (.sat (sliceR 3 1 [.val (.int .i64 19), .val (str []), .sat (sliceR 3 1 [.val (.int .i64 1), .val (str [53]), .sat (sliceR 3 0 [])])]))) := by
      simp only [rowR, List.flatMap_cons, List.flatMap_nil, ndC_eq, List.append_nil, List.length_cons, List.length_nil]
    unfold tupQ at h
    rw [e] at h
    exact h
  refine PureOK.fnF Tryd.func5 Tryd.results5 Tryd.ntmps5 rfl rfl rfl (by simp [AV.ids, AV0.ids, Atom.ids]) rfl (fun w0 T B E0 hB => ?_)
  refine SX.goP ?_
  refine retB ?_
  rfl⟩
def longT (l : List Tok) : Bool := l.any fun t => decide (100 < t.text.length)
instance con_plong (l : List Tok) : Con Tryd.prog 12 [.r (rowR 3 tokC l)] (l.length ≤ 1000000) (.v (.bool (longT l))) := ⟨fun hl => by
  refine PureOK.fnF Tryd.func12 Tryd.results12 Tryd.ntmps12 rfl rfl rfl (by simp [AV.ids, AV0.ids, Atom.ids]) rfl (fun w0 T B E0 hB => ?_)
  refine SX.goP ?_
  refine W.loop (fun i : Nat => i ≤ l.length ∧ longT l = longT (l.drop i)) (fun i => [(0, .r (rowR 3 tokC l)), (3, .v (.int .i64 (i : Int)))]) (fun _ => []) (fun i => l.length - i) 0 ⟨Nat.zero_le _, rfl⟩ (fun i ⟨hi, hs⟩ => ?_)
  by_cases hlt : i < l.length
  · obtain ⟨x, hx⟩ : ∃ x, l[i]? = some x := ⟨_, List.getElem?_eq_getElem hlt⟩
    have hd : l.drop i = x :: l.drop (i + 1) := by
      obtain ⟨h, e⟩ := List.getElem?_eq_some_iff.1 hx; rw [← e]; exact List.drop_eq_getElem_cons h
    have hst : longT (l.drop i) = (decide (100 < x.text.length) || longT (l.drop (i + 1))) := by rw [hd]; rfl
    by_cases h : 100 < x.text.length
    · refine SX.goP ?_
      refine retB ?_
      rw [hs, hst, decide_eq_true h]; rfl
    · refine SX.goP ?_
      exact W.next (i + 1) ⟨by omega, by rw [hs, hst, decide_eq_false h]; rfl⟩ (by omega)
  · refine SX.goP ?_
    refine retB ?_
    rw [hs, List.drop_eq_nil_of_le (by omega)]; rfl⟩
theorem prog_cnt {l : List Tok} {S : Gr} (h : Adv 2 l 0 S) : ∀ (f : Nat) (ks : List Nd) (a o : Nat) (r : Nd) (a' : Nat), cntL ks ≤ a → a ≤ l.length → progG l S f ks a o = .ok r a' → cntL r.kids ≤ l.length
  | 0, ks, a, o, r, a', hk, ha, hr => by unfold progG at hr; cases hr
  | f + 1, ks, a, o, r, a', hk, ha, hr => by
    unfold progG at hr
    split at hr
    · have h1 := h a o (by omega) ha
      cases hs : S a o with
      | bad e p n a2 o2 => rw [hs] at hr; cases hr
      | ok n a2 =>
        rw [hs] at hr h1
        obtain ⟨h1, h3, h2⟩ := h1
        exact prog_cnt h f (ks ++ [n]) a2 o r a' (by rw [cntL_append, cntL_cons, cntL_nil]; omega) h2 hr
    · cases hr; show cntL ks ≤ _; omega
theorem progR_cnt {l : List Tok} {r : Nd} {a : Nat} (h : progR l = .ok r a) : cntL r.kids ≤ l.length :=
  prog_cnt (adv_slev 600 l (l.length + 1) 0 (by omega)) _ _ _ _ _ _ (by rw [cntL_nil]; omega) (by omega) h
/-- What a parse of one depth tells of another. -/
theorem parseR_depth (l : List Tok) {d : Nat} (hd : d ≤ 200) : ∃ x p e, parseR l 200 = (x, p, e) ∧ cntL x ≤ l.length ∧
    ((e ≠ 0 ∧ ∃ p', parseR l d = ([], p', e)) ∨ (e = 0 ∧ d < depL x ∧ parseR l d = ([], 0, 8)) ∨ (e = 0 ∧ depL x ≤ d ∧ ∃ p', parseR l d = (x, p', 0))) := by
  have h1 : ¬ ((200 : Int) < 0 ∨ (200 : Int) < 200) := by omega
  have h2 : ¬ ((d : Int) < 0 ∨ 200 < (d : Int)) := by omega
  unfold parseR
  rw [if_neg h1, if_neg h2]
  cases l.all isTok with
  | false => exact ⟨[], 0, 1, rfl, by rw [cntL_nil]; omega, .inl ⟨by decide, 0, rfl⟩⟩
  | true =>
    rw [if_pos rfl, if_pos rfl]
    cases hr : progR l with
    | bad e p n a o =>
      refine ⟨[], p, e, rfl, by rw [cntL_nil]; omega, ?_⟩
      by_cases he : e = 0
      · subst he; exact .inr (.inr ⟨rfl, by rw [depL_nil]; omega, p, rfl⟩)
      · exact .inl ⟨he, p, rfl⟩
    | ok n a =>
      have hc := progR_cnt hr
      dsimp only
      unfold finR
      by_cases h3 : (200 : Int) < (depL n.kids : Int)
      · exact ⟨[], 0, 8, by rw [if_pos h3], by rw [cntL_nil]; omega, .inl ⟨by decide, 0, by rw [if_pos (by omega)]⟩⟩
      · refine ⟨n.kids, 0, 0, by rw [if_neg h3], hc, ?_⟩
        by_cases h4 : (d : Int) < (depL n.kids : Int)
        · exact .inr (.inl ⟨rfl, by omega, by rw [if_pos h4]⟩)
        · exact .inr (.inr ⟨rfl, by omega, 0, by rw [if_neg h4]⟩)
theorem longT_false {l : List Tok} (h : longT l = false) : ∀ t ∈ l, t.text.length ≤ 100 := fun t ht => by
  unfold longT at h
  rw [List.any_eq_false] at h
  have := h t ht
  simpa using this
end Go.Proofs.YtlojipipibebaaaDoor
/- What is printed of nodes: its words, in plain Lean; how words are read. -/
set_option linter.unusedVariables false
set_option linter.unusedSimpArgs false
namespace Go.Proofs.YtlojipipibebaaaDoor
open Go.RowKit SX
/-- A word: its kind, its text. -/
abbrev Wd := Int × List UInt8
abbrev sg (s : List UInt8) : Wd := (3, s)
def kt (t : Tok) : Wd := (t.kind, t.text)
def isW (w : Wd) : Bool := isTok ⟨w.1, w.2, 0⟩
def txtW (ws : List Wd) : List UInt8 := ws.flatMap fun w => w.2 ++ [32]
theorem txtW_cons (w : Wd) (ws : List Wd) : txtW (w :: ws) = w.2 ++ (32 :: txtW ws) := by simp [txtW]
theorem txtW_app (u v : List Wd) : txtW (u ++ v) = txtW u ++ txtW v := by simp [txtW]
theorem gp_words {ws : List Wd} (ha : ws.all isW = true) : gp false (txtW ws) = 0 := by
  cases ws with
  | nil => rw [show txtW [] = [] from rfl, gp]
  | cons u us =>
    rw [List.all_cons, Bool.and_eq_true] at ha
    rw [txtW_cons]; exact gp_tok (t := ⟨u.1, u.2, 0⟩) ha.1 _
theorem lexW_words : ∀ (ws : List Wd) (l : List UInt8) (k : Nat), ws.all isW = true → l.drop k = txtW ws → (lexW l k).2 = none ∧ (lexW l k).1.map kt = ws
  | [], l, k, _, h => by
    have hk : l.length ≤ k := List.drop_eq_nil_iff.1 h
    rw [lexW.eq_1, dif_pos hk]; exact ⟨rfl, rfl⟩
  | w :: ws, l, k, ha, h => by
    rw [List.all_cons, Bool.and_eq_true] at ha
    obtain ⟨ht, ha⟩ := ha
    obtain ⟨c, m, e0, _, _⟩ := tok_first ht
    have e0 : w.2 = c :: m := e0
    have hj : l.drop k = w.2 ++ (32 :: txtW ws) := by rw [h, txtW_cons]
    have hg : gp false (32 :: txtW ws) = 1 := by
      rw [gp, if_pos (by unfold srt; decide), gp_words ha]
    have hlen : (l.drop k).length = l.length - k := List.length_drop
    rw [hj, List.length_append, e0, List.length_cons] at hlen
    have hf := fst_app (t := ⟨w.1, w.2, 0⟩) ht (32 :: txtW ws) (.inr ⟨_, rfl⟩)
    rw [show (⟨w.1, w.2, 0⟩ : Tok).text ++ (32 :: txtW ws) = l.drop k from hj.symm] at hf
    have hd : l.drop (k + w.2.length) = 32 :: txtW ws := by rw [← List.drop_drop, hj, List.drop_left' rfl]
    have hd2 : l.drop (k + w.2.length + 1) = txtW ws := by rw [← List.drop_drop, hd]; rfl
    have ih := lexW_words ws l (k + w.2.length + 1) ha hd2
    rw [lexW.eq_1, dif_neg (by omega), hf]
    rw [dif_neg (by
      rintro (h1 | h1)
      · have h1' : w.1 = 0 := h1
        have ht' : isTok ⟨w.1, w.2, 0⟩ = true := ht
        rw [isTok_eq, h1'] at ht'; simp at ht'
      · have h1' : w.2.length = 0 := h1
        rw [e0] at h1'; cases h1')]
    show ((lexW l (k + w.2.length + gp false (l.drop (k + w.2.length)))).2 = none ∧ (kt ⟨w.1, w.2, k⟩ :: (lexW l (k + w.2.length + gp false (l.drop (k + w.2.length)))).1.map kt) = w :: ws)
    rw [hd, hg]
    exact ⟨ih.1, by rw [ih.2]; rfl⟩
theorem lexR_words {ws : List Wd} (ha : ws.all isW = true) (hl : (txtW ws).length ≤ 20000) : ∃ ts, lexR (txtW ws) = (ts, 0, 0) ∧ ts.map kt = ws := by
  obtain ⟨h1, h2⟩ := lexW_words ws (txtW ws) 0 ha (by rw [List.drop_zero])
  refine ⟨(lexW (txtW ws) 0).1, ?_, h2⟩
  unfold lexR
  rw [if_neg (by omega), gp_words ha, h1]
/-- Words with a word between them. -/
def joinW (s : Wd) : List (List Wd) → List Wd
  | [] => []
  | [x] => x
  | x :: y :: r => x ++ s :: joinW s (y :: r)
/-- Does an expression stand beside a sign as it is? -/
def atm (o : Int) : Bool := decide (o = 1) || decide (o = 2) || decide (o = 13)
def sideB (k : Bool × List Wd) : List Wd := if k.1 then k.2 else sg [40] :: (k.2 ++ [sg [41]])
/-- The signs of operations. -/
def sgnO (o : Int) : List UInt8 := if o = 4 then [43] else if o = 5 then [45] else if o = 6 then [42] else if o = 7 then [47] else if o = 8 then [94] else if o = 9 then [61, 61] else if o = 10 then [33, 61] else if o = 11 then [60] else if o = 12 then [60, 61] else []
def combE (o : Int) (t : List UInt8) (ks : List (Bool × List Wd)) : List Wd :=
  if o = 1 then [(1, t)] else if o = 2 then [(2, t)]
  else if o = 13 then (2, t) :: sg [40] :: (joinW (sg [44]) (ks.map (·.2)) ++ [sg [41]])
  else if o = 14 then sg [91] :: (joinW (sg [59]) (ks.map (·.2)) ++ [sg [93]])
  else if o = 15 then joinW (sg [44]) (ks.map (·.2))
  else if o = 16 then sg [123] :: (joinW (sg [44]) (ks.map (·.2)) ++ [sg [125]])
  else match ks with
    | [] => []
    | k :: r => if o = 17 then sideB k ++ sg [91] :: (joinW (sg [44]) (r.map (·.2)) ++ [sg [93]])
      else if o = 3 then sg [45] :: sideB k
      else match r with
        | [] => []
        | k2 :: _ => sideB k ++ sg (sgnO o) :: sideB k2
mutual
/-- An expression's words. -/
def prE : Nd → List Wd
  | .mk o t ks => combE o t (prL ks)
def prL : List Nd → List (Bool × List Wd)
  | [] => []
  | k :: ks => (atm k.op, prE k) :: prL ks
end
theorem prL_eq : ∀ ks : List Nd, prL ks = ks.map fun k => (atm k.op, prE k)
  | [] => by rw [prL]; rfl
  | k :: ks => by rw [prL, prL_eq ks]; rfl
def sideW (k : Nd) : List Wd := if atm k.op then prE k else sg [40] :: (prE k ++ [sg [41]])
def jE (ks : List Nd) : List Wd := joinW (sg [44]) (ks.map prE)
theorem prL_snd (ks : List Nd) : (prL ks).map (·.2) = ks.map prE := by rw [prL_eq, List.map_map]; rfl
theorem prE_mk (o : Int) (t : List UInt8) (ks : List Nd) : prE (.mk o t ks) = combE o t (prL ks) := by rw [prE]
theorem prE_num (t : List UInt8) (ks : List Nd) : prE (.mk 1 t ks) = [(1, t)] := by rw [prE_mk]; rfl
theorem prE_nam (t : List UInt8) (ks : List Nd) : prE (.mk 2 t ks) = [(2, t)] := by rw [prE_mk]; rfl
theorem prE_call (t : List UInt8) (ks : List Nd) : prE (.mk 13 t ks) = (2, t) :: sg [40] :: (jE ks ++ [sg [41]]) := by
  rw [prE_mk, jE, ← prL_snd]; rfl
theorem prE_mat (t : List UInt8) (ks : List Nd) : prE (.mk 14 t ks) = sg [91] :: (joinW (sg [59]) (ks.map prE) ++ [sg [93]]) := by
  rw [prE_mk, ← prL_snd]; rfl
theorem prE_row (t : List UInt8) (ks : List Nd) : prE (.mk 15 t ks) = jE ks := by
  rw [prE_mk, jE, ← prL_snd]; rfl
theorem prE_list (t : List UInt8) (ks : List Nd) : prE (.mk 16 t ks) = sg [123] :: (jE ks ++ [sg [125]]) := by
  rw [prE_mk, jE, ← prL_snd]; rfl
theorem prE_item (t : List UInt8) (k : Nd) (ks : List Nd) : prE (.mk 17 t (k :: ks)) = sideW k ++ sg [91] :: (jE ks ++ [sg [93]]) := by
  rw [prE_mk, jE, ← prL_snd, prL]; rfl
theorem prE_minus (t : List UInt8) (k : Nd) (ks : List Nd) : prE (.mk 3 t (k :: ks)) = sg [45] :: sideW k := by
  rw [prE_mk, prL]; rfl
theorem prE_op {o : Int} (h : 4 ≤ o ∧ o ≤ 12) (t : List UInt8) (k k2 : Nd) (ks : List Nd) : prE (.mk o t (k :: k2 :: ks)) = sideW k ++ sg (sgnO o) :: sideW k2 := by
  rw [prE_mk, prL, prL]
  unfold combE
  rw [if_neg (by omega), if_neg (by omega), if_neg (by omega), if_neg (by omega), if_neg (by omega), if_neg (by omega)]
  show (if o = 17 then _ else _) = _
  rw [if_neg (by omega), if_neg (by omega)]; rfl
/-- Texts of names and numerals. -/
def tx (k : Int) (t : List UInt8) : Bool := isTok ⟨k, t, 0⟩ && !ownB t
def manyB (o : Int) (n : Nat) : Bool := if o = 13 ∨ o = 16 then true else if o = 17 then decide (n = 2 ∨ n = 3) else if o = 3 then decide (n = 1) else decide (4 ≤ o ∧ o ≤ 12) && decide (n = 2)
mutual
/-- Is it an expression? -/
def okE : Nd → Bool
  | .mk o t ks => if o = 1 ∨ o = 2 then tx o t && ks.isEmpty
      else if o = 14 then decide (t = []) && (!ks.isEmpty && okRL ks)
      else manyB o ks.length && (if o = 13 then tx 2 t else decide (t = [])) && okEL ks
def okEL : List Nd → Bool
  | [] => true
  | k :: ks => okE k && okEL ks
def okR : Nd → Bool
  | .mk o t ks => decide (o = 15) && decide (t = []) && !ks.isEmpty && okEL ks
def okRL : List Nd → Bool
  | [] => true
  | k :: ks => okR k && okRL ks
end
theorem okEL_all : ∀ ks : List Nd, okEL ks = ks.all okE
  | [] => by rw [okEL]; rfl
  | k :: ks => by rw [okEL, okEL_all ks, List.all_cons]
theorem okRL_all : ∀ ks : List Nd, okRL ks = ks.all okR
  | [] => by rw [okRL]; rfl
  | k :: ks => by rw [okRL, okRL_all ks, List.all_cons]
theorem okE_eq (n : Nd) : okE n = if n.op = 1 ∨ n.op = 2 then tx n.op n.text && n.kids.isEmpty
      else if n.op = 14 then decide (n.text = []) && (!n.kids.isEmpty && n.kids.all okR)
      else manyB n.op n.kids.length && (if n.op = 13 then tx 2 n.text else decide (n.text = [])) && n.kids.all okE := by
  cases n; rw [okE, okRL_all, okEL_all]; rfl
theorem okR_eq (n : Nd) : okR n = (decide (n.op = 15) && decide (n.text = []) && !n.kids.isEmpty && n.kids.all okE) := by
  cases n; rw [okR, okEL_all]; rfl
/-- Kids of some sorts: e expressions, b blocks. -/
def srtB : List Nd → List Bool → List UInt8 → Bool
  | [], _, [] => true
  | k :: ks, b :: bs, c :: s => !(decide (c = 101) && !okE k || decide (c = 98) && !(decide (k.op = 22) && b)) && srtB ks bs s
  | _, _, _ => false
def stB (o : Int) (t : List UInt8) (ks : List Nd) (bs : List Bool) : Bool :=
  if o = 22 then decide (t = []) && (ks.zip bs).all (fun p => !(decide (p.1.op = 22) || !p.2))
  else if o = 20 then decide (t = []) && (srtB ks bs [101, 98] || srtB ks bs [101, 98, 98])
  else if o = 18 then tx 2 t && srtB ks bs [101]
  else if o = 21 then tx 2 t && srtB ks bs [101, 101, 98]
  else decide (o = 19) && decide (t = []) && srtB ks bs [101]
mutual
/-- Is it a statement, or a block? -/
def okS : Nd → Bool
  | .mk o t ks => stB o t ks (okSL ks)
def okSL : List Nd → List Bool
  | [] => []
  | k :: ks => okS k :: okSL ks
end
theorem okSL_eq : ∀ ks : List Nd, okSL ks = ks.map okS
  | [] => by rw [okSL]; rfl
  | k :: ks => by rw [okSL, okSL_eq ks]; rfl
/-- Kids, told by themselves. -/
def srt3' (ks : List Nd) (s : List UInt8) : Bool := srtB ks (ks.map okS) s
theorem srt_nil (s : List UInt8) : srt3' [] s = decide (s = []) := by cases s <;> rfl
theorem srt_cons (k : Nd) (ks : List Nd) (c : UInt8) (s : List UInt8) : srt3' (k :: ks) (c :: s) = (!(decide (c = 101) && !okE k || decide (c = 98) && !(decide (k.op = 22) && okS k)) && srt3' ks s) := rfl
theorem srt_cons_nil (k : Nd) (ks : List Nd) : srt3' (k :: ks) [] = false := rfl
theorem zip_all (p : Nd × Bool → Bool) : ∀ ks : List Nd, (ks.zip (ks.map okS)).all p = ks.all fun k => p (k, okS k)
  | [] => rfl
  | k :: ks => by rw [List.map_cons, List.zip_cons_cons, List.all_cons, zip_all p ks, List.all_cons]
theorem okS_eq (n : Nd) : okS n = if n.op = 22 then decide (n.text = []) && n.kids.all (fun k => !(decide (k.op = 22) || !okS k))
  else if n.op = 20 then decide (n.text = []) && (srt3' n.kids [101, 98] || srt3' n.kids [101, 98, 98])
  else if n.op = 18 then tx 2 n.text && srt3' n.kids [101]
  else if n.op = 21 then tx 2 n.text && srt3' n.kids [101, 101, 98]
  else decide (n.op = 19) && decide (n.text = []) && srt3' n.kids [101] := by
  cases n with
  | mk o t ks => rw [okS, okSL_eq]; unfold stB; rw [zip_all]; rfl
/-- A statement's words. -/
def combS (o : Int) (t : List UInt8) (ks : List Nd) (ss : List (List Wd)) : List Wd :=
  if o = 22 then sg [123] :: (ss.flatten ++ [sg [125]])
  else match ks with
    | [] => []
    | e :: r => if o = 18 then (2, t) :: sg [61] :: (prE e ++ [sg [59]])
      else if o = 19 then prE e ++ [sg [59]]
      else if o = 20 then (match ss with
        | [_, b] => (2, [105, 102]) :: (prE e ++ b)
        | [_, b, c] => (2, [105, 102]) :: (prE e ++ (b ++ (2, [101, 108, 115, 101]) :: c))
        | _ => [])
      else match r, ss with
        | e2 :: _, [_, _, b] => (2, [102, 111, 114]) :: (2, t) :: sg [61] :: (prE e ++ sg [46, 46] :: (prE e2 ++ b))
        | _, _ => []
mutual
def pnS : Nd → List Wd
  | .mk o t ks => combS o t ks (pnSL ks)
def pnSL : List Nd → List (List Wd)
  | [] => []
  | k :: ks => pnS k :: pnSL ks
end
theorem pnSL_eq : ∀ ks : List Nd, pnSL ks = ks.map pnS
  | [] => by rw [pnSL]; rfl
  | k :: ks => by rw [pnSL, pnSL_eq ks]; rfl
theorem pnS_block (t : List UInt8) (ks : List Nd) : pnS (.mk 22 t ks) = sg [123] :: ((ks.map pnS).flatten ++ [sg [125]]) := by rw [pnS, pnSL_eq]; rfl
theorem pnS_set (t : List UInt8) (e : Nd) : pnS (.mk 18 t [e]) = (2, t) :: sg [61] :: (prE e ++ [sg [59]]) := by rw [pnS]; rfl
theorem pnS_show (t : List UInt8) (e : Nd) : pnS (.mk 19 t [e]) = prE e ++ [sg [59]] := by rw [pnS]; rfl
theorem pnS_if (t : List UInt8) (e b : Nd) : pnS (.mk 20 t [e, b]) = (2, [105, 102]) :: (prE e ++ pnS b) := by rw [pnS, pnSL_eq]; rfl
theorem pnS_else (t : List UInt8) (e b c : Nd) : pnS (.mk 20 t [e, b, c]) = (2, [105, 102]) :: (prE e ++ (pnS b ++ (2, [101, 108, 115, 101]) :: pnS c)) := by rw [pnS, pnSL_eq]; rfl
theorem pnS_for (t : List UInt8) (e e2 b : Nd) : pnS (.mk 21 t [e, e2, b]) = (2, [102, 111, 114]) :: (2, t) :: sg [61] :: (prE e ++ sg [46, 46] :: (prE e2 ++ pnS b)) := by rw [pnS, pnSL_eq]; rfl
end Go.Proofs.YtlojipipibebaaaDoor
/- The printer: strings.Builder's methods, and put. -/
set_option linter.unusedVariables false
set_option linter.unusedSimpArgs false
namespace Go.Proofs.YtlojipipibebaaaDoor
open Go.RowKit SX
def selfA : Bool → Atom
  | true => .ptr 81 0
  | false => .c (.val (.pointer none))
abbrev BufE (bs : List UInt8) : Ent := .row 5 1 bs.length (bs.flatMap bytC)
/-- A printer that holds a text; u: it has been written to. -/
def PrE (u : Bool) (bs : List UInt8) : AEnt := bunE 81 (fun _ : Unit => True) 47 (fun _ => [selfA u, .own 84]) (fun _ => [(84, BufE bs)])
theorem pr_open {P : Program} {C : Ctx} {st : St} {Q : Exit → St → Prop} {cd : Code} {u : Bool} {bs : List UInt8} (hb : st.hp 81 = .ent (.abs (PrE u bs))) (h1 : st.hp 84 = .free) (f1 : C.fix 84 = false)
    (h : WP P C cd (openSt st 81 47 [selfA u, .own 84] [(84, BufE bs)]) Q) : WP P C cd st Q :=
  WP.openB (ι := Unit) (b := 81) [84] hb (fun p => rfl) (by intro i hi; simp at hi; subst hi; exact h1) (by intro i hi; simp at hi; subst hi; exact f1)
    (by intro p i hi; cases u <;> simp [selfA, Atom.ids] at hi <;> simp [hi]
        rcases hi with rfl | rfl <;> simp) (by intro p i e he; simp at he; obtain ⟨rfl, rfl⟩ := he; rfl) (fun p hp => h)
theorem pr_close {C : Ctx} {st : St} {u : Bool} {bs : List UInt8} {cells0 : List Atom} (ρ : List (Nat × Option Nat)) (os : List Nat) (hb : st.hp 81 = .ent (.box 47 cells0))
    (hc : AtomsTo ρ cells0 [selfA u, .own 84]) (hR : HpTo st ρ [(84, BufE bs)])
    (hos : (([(84, BufE bs)] : List (Nat × Ent)).all fun q => match SX.src ρ q.1 with | some o => memB os o | none => true) = true) (hbo : memB os 81 = false) (hdi : (([(84, BufE bs)] : List (Nat × Ent)).all fun q => ([(84, BufE bs)] : List (Nat × Ent)).all fun q' => Nat.beq q.1 q'.1 || !(eqO (SX.src ρ q.1) (SX.src ρ q'.1))) = true)
    (hfb : lk ρ 81 = none := by rfl) : St.le C st (closeSt st 81 (PrE u bs) os) :=
  St.le_close (ι := Unit) (b := 81) () ρ os trivial hb hc hR hos hbo hdi hfb
/-- A box that is used no more. -/
theorem St.le_gone {C : Ctx} {st : St} {b : Nat} {t : TypeId} {cells : List Atom} (hb : st.hp b = .ent (.box t cells)) : St.le C st ⟨st.tm, upd st.hp b .gone⟩ := fun a w ⟨E, S, hs⟩ => by
  have hu : ∀ i, (st.hp i).used = true → (upd st.hp b .gone i).used = true := fun i hi => by
    by_cases e : i = b
    · subst e; rw [upd_same]; rfl
    · rw [upd_ne _ _ e]; exact hi
  have hk : ∀ c e, upd st.hp b .gone c = .ent e → st.hp c = .ent e := fun c e hc => by
    by_cases e1 : c = b
    · subst e1; rw [upd_same] at hc; cases hc
    · rw [upd_ne _ _ e1] at hc; exact hc
  exact ⟨E, S, { dfr := hs.dfr, nt := hs.nt, cT := hs.cT, cT0 := hs.cT0, cS := hs.cS, lt := hs.lt, tm := hs.tm, tid := fun t v h i hi => hu i (hs.tid t v h i hi), hp := fun c e hc => hs.hp c e (hk c e hc), hid := fun c e hc i hi => hu i (hs.hid c e (hk c e hc) i hi), blk := fun c e k hc => hs.blk c e k (hk c e hc), sep := fun c c' e e' k hne hc hc' => hs.sep c c' e e' k hne (hk c e hc) (hk c' e' hc'), off := hs.off, env := fun c hc => let ⟨g1, g2, g3⟩ := hs.env c hc; ⟨g1, g2, hu c g3⟩, gl := hs.gl }⟩
theorem buf1 (bs s : List UInt8) : bs.length + s.length = (bs ++ s).length := List.length_append.symm
theorem buf2 (bs s : List UInt8) : bs.flatMap bytC ++ s.flatMap bytC = (bs ++ s).flatMap bytC := List.flatMap_append.symm
theorem buf3 (bs : List UInt8) (b : UInt8) : bs.length + 1 = (bs ++ [b]).length := by simp
theorem buf4 (bs : List UInt8) (b : UInt8) : bs.flatMap bytC ++ [.val (.int .u8 (b.toNat : Int))] = (bs ++ [b]).flatMap bytC := by simp [bytC]
attribute [local irreducible] IntKind.wrap Go1 Reg WP thenK inBlk retQ retF RetF RetOK ResOK CallOK OpOK Sat
theorem noesc (v : Value) (w : World) : (callFunc 73 #[v]).run Tryd.prog w = .ok (.value v) w := by
  rw [run_callFunc_extern Tryd.func73 (by kernel_rfl) (by kernel_rfl) (by kernel_rfl) (e := Extern.AbiNoEscape.same) (by kernel_rfl)]
  rw [Lib.run_noEscape]; rfl
abbrev PBx (u : Bool) : Ent := .box 47 [selfA u, .own 84]
theorem c_copy (u : Bool) (bs : List UInt8) : CallOK Tryd.prog 61 [.ptr 81 0] [(81, PBx u), (84, BufE bs)] ⟨.tup [], [(81, .ent (PBx true)), (84, .ent (BufE bs))]⟩ := by
  cases u with
  | false =>
    refine CallOK.fnA Tryd.func61 Tryd.results61 Tryd.ntmps61 rfl rfl rfl rfl rfl rfl rfl rfl (fun w0 T B E0 hB => ?_)
    refine SX.goG ?_
    refine SX.Go1.callSame (b := 81) (off := 0) rfl noesc rfl ?_
    refine SX.goG ?_
    refine SX.Go1.convUP (m := 2) rfl rfl rfl rfl (by kernel_rfl) ?_
    refine SX.goG ?_
    exact retP (xs := []) trivial ⟨rfl, rfl, trivial⟩
  | true =>
    refine CallOK.fnA Tryd.func61 Tryd.results61 Tryd.ntmps61 rfl rfl rfl rfl rfl rfl rfl rfl (fun w0 T B E0 hB => ?_)
    refine SX.goG ?_
    exact retP (xs := []) trivial ⟨rfl, rfl, trivial⟩
theorem c_WriteString (u : Bool) (bs s : List UInt8) (h : bs.length + s.length ≤ 1000000000) : CallOK Tryd.prog 46 [.ptr 81 0, .v (str s)] [(81, .abs (PrE u bs))] ⟨.tup [.one (.c (.val (.int .i64 (s.length : Int)))), .one (.c (.val .nilIface))], [(81, .ent (.abs (PrE true (bs ++ s))))]⟩ := by
  have c := c_copy u bs
  refine CallOK.fnA Tryd.func46 Tryd.results46 Tryd.ntmps46 rfl rfl rfl rfl rfl rfl rfl rfl (fun w0 T B E0 hB => ?_)
  refine pr_open rfl rfl rfl ?_
  cases u with
  | false =>
    refine SX.goG ?_
    refine RetF.le (pr_close (u := true) [(84, some 14)] [14] rfl ⟨AtomTo.same rfl, AtomTo.own rfl, trivial⟩ ⟨SX.EntTo.row rfl rfl (buf1 _ _) (buf2 _ _), trivial⟩ rfl rfl rfl) ?_
    exact retP (xs := [.one (.c (.val (.int .i64 (s.length : Int)))), .one (.c (.val .nilIface))]) ⟨ResOK.tmp rfl, ResOK.tmp rfl, trivial⟩ ⟨rfl, trivial⟩
  | true =>
    refine SX.goG ?_
    refine RetF.le (pr_close (u := true) [(84, some 14)] [14] rfl ⟨AtomTo.same rfl, AtomTo.own rfl, trivial⟩ ⟨SX.EntTo.row rfl rfl (buf1 _ _) (buf2 _ _), trivial⟩ rfl rfl rfl) ?_
    exact retP (xs := [.one (.c (.val (.int .i64 (s.length : Int)))), .one (.c (.val .nilIface))]) ⟨ResOK.tmp rfl, ResOK.tmp rfl, trivial⟩ ⟨rfl, trivial⟩
theorem c_WriteByte (u : Bool) (bs : List UInt8) (b : UInt8) (h : bs.length ≤ 1000000000) : CallOK Tryd.prog 47 [.ptr 81 0, .v (.int .u8 (b.toNat : Int))] [(81, .abs (PrE u bs))] ⟨.v .nilIface, [(81, .ent (.abs (PrE true (bs ++ [b]))))]⟩ := by
  have c := c_copy u bs
  refine CallOK.fnA Tryd.func47 Tryd.results47 Tryd.ntmps47 rfl rfl rfl rfl rfl rfl rfl rfl (fun w0 T B E0 hB => ?_)
  refine pr_open rfl rfl rfl ?_
  cases u with
  | false =>
    refine SX.goG ?_
    refine RetF.le (pr_close (u := true) [(84, some 14)] [14] rfl ⟨AtomTo.same rfl, AtomTo.own rfl, trivial⟩ ⟨SX.EntTo.row rfl rfl (buf3 _ _) (buf4 _ _), trivial⟩ rfl rfl rfl) ?_
    exact retP (xs := [.one (.c (.val .nilIface))]) ⟨ResOK.tmp rfl, trivial⟩ ⟨rfl, trivial⟩
  | true =>
    refine SX.goG ?_
    refine RetF.le (pr_close (u := true) [(84, some 14)] [14] rfl ⟨AtomTo.same rfl, AtomTo.own rfl, trivial⟩ ⟨SX.EntTo.row rfl rfl (buf3 _ _) (buf4 _ _), trivial⟩ rfl rfl rfl) ?_
    exact retP (xs := [.one (.c (.val .nilIface))]) ⟨ResOK.tmp rfl, trivial⟩ ⟨rfl, trivial⟩
theorem c_String (u : Bool) (bs : List UInt8) (h0 : bs ≠ []) : CallOK Tryd.prog 16 [.ptr 81 0] [(81, .abs (PrE u bs))] ⟨.v (str bs), [(81, .gone)]⟩ := by
  have hl : 0 < bs.length := by
    cases bs with
    | nil => exact absurd rfl h0
    | cons => simp
  refine CallOK.fnA Tryd.func16 Tryd.results16 Tryd.ntmps16 rfl rfl rfl rfl rfl rfl rfl rfl (fun w0 T B E0 hB => ?_)
  refine pr_open rfl rfl rfl ?_
  refine SX.goG ?_
  refine RetF.le (St.le_gone (b := 81) rfl) ?_
  exact retP (xs := [.one (.c (.val (str bs)))]) ⟨ResOK.tmp rfl, trivial⟩ ⟨rfl, trivial⟩
/-- Words, each with a blank behind it. -/
def putW (ws : List (List UInt8)) : List UInt8 := ws.flatMap fun s => s ++ [32]
theorem putW_snoc (ws : List (List UInt8)) (w : List UInt8) : putW (ws ++ [w]) = putW ws ++ (w ++ [32]) := by simp [putW]
theorem putW_le {ws : List (List UInt8)} {k : Nat} {w : List UInt8} (hw : ws[k]? = some w) : (putW (ws.take k)).length + w.length + 1 ≤ (putW ws).length := by
  obtain ⟨hk, rfl⟩ := List.getElem?_eq_some_iff.1 hw
  have h := List.take_append_drop k ws
  have h2 := List.drop_eq_getElem_cons hk
  rw [h2] at h
  have h3 : (putW ws).length = (putW (ws.take k ++ ws[k] :: ws.drop (k + 1))).length := by rw [h]
  rw [h3]
  simp only [putW, List.flatMap_append, List.flatMap_cons, List.length_append, List.length_cons, List.length_nil]
  omega
theorem c_put (u : Bool) (bs : List UInt8) (ws : List (List UInt8)) (h : bs.length + (putW ws).length ≤ 100000000) (hw : ws.length ≤ 10) :
    CallOK Tryd.prog 28 [.ptr 81 0, .r (rowR 1 strC ws)] [(81, .abs (PrE u bs))] ⟨.tup [], [(81, .ent (.abs (PrE (u || !ws.isEmpty) (bs ++ putW ws))))]⟩ := by
  refine CallOK.fnA Tryd.func28 Tryd.results28 Tryd.ntmps28 rfl rfl rfl rfl rfl rfl rfl rfl (fun w0 T B E0 hB => ?_)
  refine SX.goG ?_
  refine W.loop3 (fun (k : Nat) (v : Bool) (b : List UInt8) => k ≤ ws.length ∧ v = (u || !(ws.take k).isEmpty) ∧ b = bs ++ putW (ws.take k)) (fun k _ _ => [(0, .ptr 81 0), (6, .r (rowR 1 strC ws)), (7, .v (.int .i64 (ws.length : Int))), (8, .v (.int .i64 (k : Int)))]) (fun _ v b => [(81, .abs (PrE v b))]) (fun k _ _ => ws.length - k) 0 u bs ⟨Nat.zero_le _, by simp, by simp [putW]⟩ (fun k v b ⟨hk, hv, hb⟩ => ?_)
  by_cases hlt : k < ws.length
  · obtain ⟨w, hw'⟩ : ∃ w, ws[k]? = some w := ⟨_, List.getElem?_eq_getElem hlt⟩
    have hle := putW_le hw'
    have hbl : b.length = bs.length + (putW (ws.take k)).length := by rw [hb, List.length_append]
    have c1 := c_WriteString v b w (by omega)
    have c2 := c_WriteByte true (b ++ w) 32 (by rw [List.length_append]; omega)
    have c2 : CallOK Tryd.prog 47 [.ptr 81 0, .v (.int .u8 32)] [(81, .abs (PrE true (b ++ w)))] ⟨.v .nilIface, [(81, .ent (.abs (PrE true (b ++ w ++ [32]))))]⟩ := c2
    refine SX.goG ?_
    have ht : ws.take (k + 1) = ws.take k ++ [w] := by
      rw [List.take_add_one, hw']; rfl
    refine W.next3 (k + 1) true (b ++ w ++ [32]) ⟨hlt, by rw [ht]; simp, by rw [ht, putW_snoc, hb]; simp⟩ (by omega)
  · obtain rfl : k = ws.length := by omega
    rw [List.take_length] at hv hb
    subst hv hb
    refine SX.goG ?_
    exact retP (xs := []) trivial ⟨rfl, trivial⟩
end Go.Proofs.YtlojipipibebaaaDoor
/- What is printed of an expression is parsed as it is: plain Lean, over the grammar. -/
set_option linter.unusedVariables false
set_option linter.unusedSimpArgs false
namespace Go.Proofs.YtlojipipibebaaaDoor
open Go.RowKit SX
/-- What stands at a place, by kinds and texts. -/
def rst (l : List Tok) (a : Nat) : List Wd := (l.map kt).drop a
def hS (r : List Wd) (s : List UInt8) : Bool := match r with
  | [] => false
  | w :: _ => !decide (w.1 = 1) && decide (w.2 = s)
def hN (r : List Wd) : Bool := match r with
  | [] => false
  | w :: _ => decide (w.1 = 2) && !ownB w.2
theorem rst_get (l : List Tok) (a : Nat) : (rst l a).head? = (l[a]?).map kt := by
  unfold rst; rw [List.head?_drop, List.getElem?_map]
theorem isS_rst (l : List Tok) (a : Nat) (s : List UInt8) : isS l a s = hS (rst l a) s := by
  have h := rst_get l a
  unfold isS hS
  cases hl : l[a]? with
  | none => rw [hl] at h; cases hr : rst l a with | nil => rfl | cons w r => rw [hr] at h; cases h
  | some t =>
    rw [hl] at h
    cases hr : rst l a with
    | nil => rw [hr] at h; cases h
    | cons w r => rw [hr] at h; simp at h; rw [h]; rfl
theorem isNm_rst (l : List Tok) (a : Nat) : isNm l a = hN (rst l a) := by
  have h := rst_get l a
  unfold isNm hN
  cases hl : l[a]? with
  | none => rw [hl] at h; cases hr : rst l a with | nil => rfl | cons w r => rw [hr] at h; cases h
  | some t =>
    rw [hl] at h
    cases hr : rst l a with
    | nil => rw [hr] at h; cases h
    | cons w r => rw [hr] at h; simp at h; rw [h]; rfl
theorem rst_cons {l : List Tok} {a : Nat} {w : Wd} {r : List Wd} (h : rst l a = w :: r) : ∃ t, l[a]? = some t ∧ t.kind = w.1 ∧ t.text = w.2 := by
  have h1 := rst_get l a
  rw [h] at h1
  cases hl : l[a]? with
  | none => rw [hl] at h1; cases h1
  | some t => rw [hl] at h1; simp at h1; exact ⟨t, rfl, by rw [h1]; rfl, by rw [h1]; rfl⟩
theorem txt_rst {l : List Tok} {a : Nat} {w : Wd} {r : List Wd} (h : rst l a = w :: r) : txt l a = w.2 := by
  obtain ⟨t, h1, _, h2⟩ := rst_cons h
  unfold txt; rw [h1]; exact h2
theorem rst_1 {l : List Tok} {a : Nat} {w : Wd} {r : List Wd} (h : rst l a = w :: r) : rst l (a + 1) = r := by
  unfold rst at h ⊢; rw [← List.drop_drop, h]; rfl
theorem rst_app {l : List Tok} {a : Nat} {u r : List Wd} (h : rst l a = u ++ r) : rst l (a + u.length) = r := by
  unfold rst at h ⊢; rw [← List.drop_drop, h, List.drop_left' rfl]
theorem rst_len {l : List Tok} {a : Nat} {u : List Wd} (h : rst l a = u) (h0 : u ≠ []) : a + u.length = l.length := by
  have h1 : (rst l a).length = l.length - a := by unfold rst; rw [List.length_drop, List.length_map]
  rw [h] at h1
  have : u.length ≠ 0 := by simpa using h0
  omega
/-- No sign behind an expression that would go on with it. -/
def EndR (r : List Wd) : Prop := ∀ s ∈ ([[91], [94], [42], [47], [43], [45], [61, 61], [33, 61], [60], [60, 61], [40]] : List (List UInt8)), hS r s = false
theorem endR_sg {s : List UInt8} (h : s ∉ ([[91], [94], [42], [47], [43], [45], [61, 61], [33, 61], [60], [60, 61], [40]] : List (List UInt8))) (r : List Wd) : EndR (sg s :: r) := fun x hx => by
  show (!decide ((3 : Int) = 1) && decide (s = x)) = false
  have : s ≠ x := fun e => h (e ▸ hx)
  simp [this]
/-- A rule reads an expression, whatever stands behind it. -/
def PX (l : List Tok) (m : Nd) : Prop := ∀ f o r, EndR r → (prE m ++ r).length < f → o + 2 * dep m + 1 ≤ 600 → ∀ a, rst l a = prE m ++ r → (lev 600 l f).1 a o = .ok m (a + (prE m).length)
theorem joinW_cons2 (s : Wd) (x y : List Wd) (r : List (List Wd)) : joinW s (x :: y :: r) = x ++ s :: joinW s (y :: r) := rfl
theorem joinW_one (s : Wd) (x : List Wd) : joinW s [x] = x := rfl
theorem depL_mem {k : Nd} {ks : List Nd} (h : k ∈ ks) : dep k ≤ depL ks := by
  induction ks with
  | nil => cases h
  | cons x ks ih =>
    rw [depL_cons]
    rcases List.mem_cons.1 h with rfl | h
    · omega
    · have := ih h; omega
/-- Words read up to a place. -/
theorem rd_list {l : List Tok} {f o : Nat} {e : List UInt8} (he : e ∉ ([[91], [94], [42], [47], [43], [45], [61, 61], [33, 61], [60], [60, 61], [40], [44]] : List (List UInt8))) : ∀ (ks : List Nd) (acc : List Nd) (g a : Nat) (r : List Wd), ks ≠ [] → (∀ k ∈ ks, PX l k ∧ o + 2 * dep k + 1 ≤ 600) →
    (jE ks ++ sg e :: r).length < f → (jE ks ++ sg e :: r).length < g + 1 → rst l a = jE ks ++ sg e :: r → listG l (lev 600 l f).1 e g acc a o = .ok (.mk 0 [] (acc ++ ks)) (a + (jE ks).length + 1)
  | [], _, _, _, _, h, _, _, _, _ => absurd rfl h
  | [k], acc, g, a, r, _, hP, hf, hg, hr => by
    obtain ⟨h1, h2⟩ := hP k (by simp)
    have hj : jE [k] = prE k := rfl
    rw [hj] at hf hg hr ⊢
    rw [List.length_append, List.length_cons] at hg
    obtain ⟨g, rfl⟩ : ∃ k, g = k + 1 := ⟨g - 1, by omega⟩
    have he' : EndR (sg e :: r) := endR_sg (fun h => he (List.mem_append_left [[44]] h)) r
    unfold listG
    rw [h1 f o _ he' hf h2 a hr]
    show (if isS l (a + (prE k).length) e then _ else _) = _
    rw [isS_rst, rst_app hr, if_pos (by simp [hS])]
  | k :: k2 :: ks, acc, g, a, r, _, hP, hf, hg, hr => by
    obtain ⟨h1, h2⟩ := hP k (by simp)
    have hj : jE (k :: k2 :: ks) = prE k ++ sg [44] :: jE (k2 :: ks) := rfl
    have hr' : rst l a = prE k ++ sg [44] :: (jE (k2 :: ks) ++ sg e :: r) := by rw [hr, hj]; simp
    have hlen : (prE k ++ sg [44] :: (jE (k2 :: ks) ++ sg e :: r)).length = (jE (k :: k2 :: ks) ++ sg e :: r).length := by rw [hj]; simp
    have hlen2 : (jE (k :: k2 :: ks) ++ sg e :: r).length = (prE k).length + 1 + (jE (k2 :: ks) ++ sg e :: r).length := by rw [hj]; simp; omega
    obtain ⟨g, rfl⟩ : ∃ k, g = k + 1 := ⟨g - 1, by omega⟩
    have he' : EndR (sg [44] :: (jE (k2 :: ks) ++ sg e :: r)) := endR_sg (by decide) _
    unfold listG
    rw [h1 f o _ he' (by rw [hlen]; exact hf) h2 a hr']
    show (if isS l (a + (prE k).length) e then _ else if isS l (a + (prE k).length) [44] then _ else _) = _
    have hrr := rst_app hr'
    have hne : e ≠ [44] := fun h => he (by rw [h]; decide)
    rw [isS_rst, hrr, if_neg (by simp [hS, Ne.symm hne]), isS_rst, hrr, if_pos (by simp [hS])]
    rw [rd_list he (k2 :: ks) (acc ++ [k]) g (a + (prE k).length + 1) r (by simp) (fun x hx => hP x (by simp at hx ⊢; exact .inr hx)) (by omega) (by omega) (rst_1 hrr)]
    rw [hj]; simp; omega
theorem rd_listE {l : List Tok} {f o : Nat} {e : List UInt8} (he : e ∉ ([[91], [94], [42], [47], [43], [45], [61, 61], [33, 61], [60], [60, 61], [40], [44]] : List (List UInt8))) {ks : List Nd} {a : Nat} {r : List Wd} (hP : ∀ k ∈ ks, PX l k ∧ o + 2 * dep k + 1 ≤ 600 ∧ ∀ r', hS (prE k ++ r') e = false)
    (hf : (jE ks ++ sg e :: r).length < f) (hr : rst l a = jE ks ++ sg e :: r) : listE l (lev 600 l f).1 e a o = .ok (.mk 0 [] ks) (a + (jE ks).length + 1) := by
  unfold listE
  cases ks with
  | nil =>
    have hr : rst l a = sg e :: r := hr
    rw [isS_rst, hr, if_pos (by simp [hS])]; rfl
  | cons k ks =>
    have hh : ∀ r', hS (jE (k :: ks) ++ r') e = false := by
      intro r'
      cases ks with
      | nil => exact (hP k (by simp)).2.2 r'
      | cons k2 ks => rw [show jE (k :: k2 :: ks) = prE k ++ sg [44] :: jE (k2 :: ks) from rfl, List.append_assoc]; exact (hP k (by simp)).2.2 _
    have hl := rst_len hr (by simp)
    rw [isS_rst, hr, if_neg (by rw [hh]; decide), rd_list he (k :: ks) [] (l.length + 1) a r (by simp) (fun x hx => ⟨(hP x hx).1, (hP x hx).2.1⟩) hf (by omega) hr]; rfl
/-- A row of a matrix. -/
theorem rd_row {l : List Tok} {f o : Nat} {e : List UInt8} (he : e = [59] ∨ e = [93]) (rs : List Nd) : ∀ (ks : List Nd) (acc : List Nd) (g a : Nat) (r : List Wd), ks ≠ [] → (∀ k ∈ ks, PX l k ∧ o + 2 * dep k + 1 ≤ 600) →
    (jE ks ++ sg e :: r).length < f → (jE ks ++ sg e :: r).length < g + 1 → rst l a = jE ks ++ sg e :: r → ∃ g', (sg e :: r).length < g' + 2 ∧
    matG l (lev 600 l f).1 g rs acc a o = if e = [59] then matG l (lev 600 l f).1 g' (rs ++ [.mk 15 [] (acc ++ ks)]) [] (a + (jE ks).length + 1) o else .ok (.mk 14 [] (rs ++ [.mk 15 [] (acc ++ ks)])) (a + (jE ks).length + 1)
  | [], _, _, _, _, h, _, _, _, _ => absurd rfl h
  | [k], acc, g, a, r, _, hP, hf, hg, hr => by
    obtain ⟨h1, h2⟩ := hP k (by simp)
    have hj : jE [k] = prE k := rfl
    rw [hj] at hf hg hr ⊢
    rw [List.length_append] at hg
    have hgl : 1 ≤ (sg e :: r).length := by simp
    obtain ⟨g, rfl⟩ : ∃ k, g = k + 1 := ⟨g - 1, by omega⟩
    refine ⟨g, by omega, ?_⟩
    have he' : EndR (sg e :: r) := endR_sg (by rcases he with rfl | rfl <;> decide) r
    rw [matG]
    dsimp only
    rw [h1 f o _ he' hf h2 a hr]
    show (if isS l (a + (prE k).length) [44] then _ else if isS l (a + (prE k).length) [59] then _ else if isS l (a + (prE k).length) [93] then _ else _) = _
    rw [isS_rst, isS_rst, isS_rst, rst_app hr]
    rcases he with rfl | rfl
    · rfl
    · rfl
  | k :: k2 :: ks, acc, g, a, r, _, hP, hf, hg, hr => by
    obtain ⟨h1, h2⟩ := hP k (by simp)
    have hj : jE (k :: k2 :: ks) = prE k ++ sg [44] :: jE (k2 :: ks) := rfl
    have hr' : rst l a = prE k ++ sg [44] :: (jE (k2 :: ks) ++ sg e :: r) := by rw [hr, hj]; simp
    have hlen : (prE k ++ sg [44] :: (jE (k2 :: ks) ++ sg e :: r)).length = (jE (k :: k2 :: ks) ++ sg e :: r).length := by rw [hj]; simp
    have hlen2 : (jE (k :: k2 :: ks) ++ sg e :: r).length = (prE k).length + 1 + (jE (k2 :: ks) ++ sg e :: r).length := by rw [hj]; simp; omega
    obtain ⟨g, rfl⟩ : ∃ k, g = k + 1 := ⟨g - 1, by omega⟩
    have he' : EndR (sg [44] :: (jE (k2 :: ks) ++ sg e :: r)) := endR_sg (by decide) _
    have hrr := rst_app hr'
    obtain ⟨g', hg', ih⟩ := rd_row (f := f) (o := o) he rs (k2 :: ks) (acc ++ [k]) g (a + (prE k).length + 1) r (by simp) (fun x hx => hP x (by simp at hx ⊢; exact .inr hx)) (by omega) (by omega) (rst_1 hrr)
    refine ⟨g', hg', ?_⟩
    rw [matG]
    dsimp only
    rw [h1 f o _ he' (by rw [hlen]; exact hf) h2 a hr']
    show (if isS l (a + (prE k).length) [44] then _ else _) = _
    rw [isS_rst, hrr, if_pos (by rfl), ih]
    have e1 : a + (prE k).length + 1 + (jE (k2 :: ks)).length + 1 = a + (jE (k :: k2 :: ks)).length + 1 := by rw [hj]; simp; omega
    rw [e1, List.append_assoc]; rfl
theorem okR_mk {n : Nd} (h : okR n = true) : ∃ ks, n = .mk 15 [] ks ∧ ks ≠ [] ∧ ∀ k ∈ ks, okE k = true := by
  cases n with
  | mk o t ks =>
    rw [okR, okEL_all] at h
    simp only [Bool.and_eq_true, decide_eq_true_eq, List.all_eq_true, Bool.not_eq_true', List.isEmpty_eq_false_iff] at h
    obtain ⟨⟨⟨rfl, rfl⟩, h3⟩, h4⟩ := h
    exact ⟨ks, rfl, h3, h4⟩
theorem rd_mat {l : List Tok} {f o : Nat} : ∀ (rs : List Nd) (acc : List Nd) (g a : Nat) (r : List Wd), rs ≠ [] → (∀ x ∈ rs, okR x = true) → (∀ x ∈ rs, ∀ k ∈ x.kids, PX l k ∧ o + 2 * dep k + 1 ≤ 600) →
    (joinW (sg [59]) (rs.map prE) ++ sg [93] :: r).length < f → (joinW (sg [59]) (rs.map prE) ++ sg [93] :: r).length < g + 1 → rst l a = joinW (sg [59]) (rs.map prE) ++ sg [93] :: r →
    matG l (lev 600 l f).1 g acc [] a o = .ok (.mk 14 [] (acc ++ rs)) (a + (joinW (sg [59]) (rs.map prE)).length + 1)
  | [], _, _, _, _, h, _, _, _, _, _ => absurd rfl h
  | [x], acc, g, a, r, _, hx, hP, hf, hg, hr => by
    obtain ⟨ks, rfl, h0, hk⟩ := okR_mk (hx x (by simp))
    have hj : joinW (sg [59]) ([Nd.mk 15 [] ks].map prE) = jE ks := by rw [List.map_cons, List.map_nil, joinW_one, prE_row]
    rw [hj] at hf hg hr ⊢
    obtain ⟨g', _, h1⟩ := rd_row (f := f) (o := o) (.inr rfl) acc ks [] g a r h0 (fun k hk' => hP (.mk 15 [] ks) (by simp) k hk') hf hg hr
    rw [h1, if_neg (by decide)]; rfl
  | x :: y :: rs, acc, g, a, r, _, hx, hP, hf, hg, hr => by
    obtain ⟨ks, rfl, h0, hk⟩ := okR_mk (hx x (by simp))
    have hj : joinW (sg [59]) ((Nd.mk 15 [] ks :: y :: rs).map prE) = jE ks ++ sg [59] :: joinW (sg [59]) ((y :: rs).map prE) := by rw [List.map_cons, List.map_cons, joinW_cons2, prE_row]
    have hr' : rst l a = jE ks ++ sg [59] :: (joinW (sg [59]) ((y :: rs).map prE) ++ sg [93] :: r) := by rw [hr, hj]; simp
    have hlen : (jE ks ++ sg [59] :: (joinW (sg [59]) ((y :: rs).map prE) ++ sg [93] :: r)).length = (joinW (sg [59]) ((Nd.mk 15 [] ks :: y :: rs).map prE) ++ sg [93] :: r).length := by rw [hj]; simp
    have hlen2 : (jE ks ++ sg [59] :: (joinW (sg [59]) ((y :: rs).map prE) ++ sg [93] :: r)).length = (jE ks).length + 1 + (joinW (sg [59]) ((y :: rs).map prE) ++ sg [93] :: r).length := by simp; omega
    obtain ⟨g', hg', h1⟩ := rd_row (f := f) (o := o) (.inl rfl) acc ks [] g a _ h0 (fun k hk' => hP (.mk 15 [] ks) (by simp) k hk') (by rw [hlen]; exact hf) (by rw [hlen]; exact hg) hr'
    rw [List.length_cons] at hg'
    rw [h1, if_pos rfl, List.nil_append, rd_mat (f := f) (o := o) (y :: rs) (acc ++ [Nd.mk 15 [] ks]) g' (a + (jE ks).length + 1) r (by simp) (fun z hz => hx z (by simp at hz ⊢; exact .inr hz)) (fun z hz => hP z (by simp at hz ⊢; exact .inr hz)) (by omega) (by omega) (rst_1 (rst_app hr'))]
    rw [hj]; simp; omega
end Go.Proofs.YtlojipipibebaaaDoor
/- What is printed of an expression is parsed as it is: all expressions. -/
set_option linter.unusedVariables false
set_option linter.unusedSimpArgs false
namespace Go.Proofs.YtlojipipibebaaaDoor
open Go.RowKit SX
/-- The forms of expressions. -/
inductive EC : Nd → Prop
  | num (t : List UInt8) (h : tx 1 t = true) : EC (.mk 1 t [])
  | nam (t : List UInt8) (h : tx 2 t = true) : EC (.mk 2 t [])
  | call (t : List UInt8) (ks : List Nd) (h : tx 2 t = true) (hk : ∀ k ∈ ks, okE k = true) : EC (.mk 13 t ks)
  | mat (ks : List Nd) (h0 : ks ≠ []) (hk : ∀ x ∈ ks, okR x = true) : EC (.mk 14 [] ks)
  | list (ks : List Nd) (hk : ∀ k ∈ ks, okE k = true) : EC (.mk 16 [] ks)
  | item (k k1 : Nd) (h : okE k = true) (h1 : okE k1 = true) : EC (.mk 17 [] [k, k1])
  | item2 (k k1 k2 : Nd) (h : okE k = true) (h1 : okE k1 = true) (h2 : okE k2 = true) : EC (.mk 17 [] [k, k1, k2])
  | minus (k : Nd) (h : okE k = true) : EC (.mk 3 [] [k])
  | op (o : Int) (k k2 : Nd) (ho : 4 ≤ o ∧ o ≤ 12) (h : okE k = true) (h2 : okE k2 = true) : EC (.mk o [] [k, k2])
theorem okE_mk (o : Int) (t : List UInt8) (ks : List Nd) : okE (.mk o t ks) = if o = 1 ∨ o = 2 then tx o t && ks.isEmpty
      else if o = 14 then decide (t = []) && (!ks.isEmpty && ks.all okR)
      else manyB o ks.length && (if o = 13 then tx 2 t else decide (t = [])) && ks.all okE := by
  rw [okE, okRL_all, okEL_all]
theorem okE_ec {n : Nd} (h : okE n = true) : EC n := by
  cases n with
  | mk o t ks =>
    rw [okE_mk] at h
    by_cases h12 : o = 1 ∨ o = 2
    · rw [if_pos h12, Bool.and_eq_true, List.isEmpty_iff] at h
      obtain ⟨h1, rfl⟩ := h
      rcases h12 with rfl | rfl
      · exact .num t h1
      · exact .nam t h1
    · rw [if_neg h12] at h
      by_cases h14 : o = 14
      · rw [if_pos h14] at h
        subst h14
        simp only [Bool.and_eq_true, decide_eq_true_eq, List.all_eq_true, Bool.not_eq_true', List.isEmpty_eq_false_iff] at h
        obtain ⟨rfl, h3, h4⟩ := h
        exact .mat ks h3 h4
      · rw [if_neg h14] at h
        simp only [Bool.and_eq_true, List.all_eq_true] at h
        obtain ⟨⟨hm, ht⟩, hk⟩ := h
        unfold manyB at hm
        by_cases h13 : o = 13
        · subst h13
          rw [if_pos rfl] at ht
          exact .call t ks ht hk
        · rw [if_neg h13, decide_eq_true_eq] at ht
          subst ht
          by_cases h16 : o = 16
          · subst h16; exact .list ks hk
          · rw [if_neg (by omega)] at hm
            by_cases h17 : o = 17
            · subst h17
              rw [if_pos rfl, decide_eq_true_eq] at hm
              match ks, hm, hk with
              | [k, k1], _, hk => exact .item k k1 (hk _ (by simp)) (hk _ (by simp))
              | [k, k1, k2], _, hk => exact .item2 k k1 k2 (hk _ (by simp)) (hk _ (by simp)) (hk _ (by simp))
              | [], hm, _ => simp at hm
              | [_], hm, _ => simp at hm
              | _ :: _ :: _ :: _ :: _, hm, _ => simp at hm
            · rw [if_neg h17] at hm
              by_cases h3 : o = 3
              · subst h3
                rw [if_pos rfl, decide_eq_true_eq] at hm
                match ks, hm, hk with
                | [k], _, hk => exact .minus k (hk _ (by simp))
                | [], hm, _ => simp at hm
                | _ :: _ :: _, hm, _ => simp at hm
              · rw [if_neg h3, Bool.and_eq_true, decide_eq_true_eq, decide_eq_true_eq] at hm
                match ks, hm, hk with
                | [k, k2], hm, hk => exact .op o k k2 hm.1 (hk _ (by simp)) (hk _ (by simp))
                | [], hm, _ => simp at hm
                | [_], hm, _ => simp at hm
                | _ :: _ :: _ :: _, hm, _ => simp at hm
theorem cntL_memb {k : Nd} {ks : List Nd} (h : k ∈ ks) : cnt k ≤ cntL ks := by
  induction ks with
  | nil => cases h
  | cons x ks ih =>
    rw [cntL_cons]
    rcases List.mem_cons.1 h with rfl | h
    · omega
    · have := ih h; omega
theorem cnt_kid {k : Nd} {o : Int} {t : List UInt8} {ks : List Nd} (h : k ∈ ks) : cnt k < cnt (.mk o t ks) := by
  have := cntL_memb h; rw [cnt_mk]; omega
theorem dep_kid {k : Nd} {o : Int} {t : List UInt8} {ks : List Nd} (h : k ∈ ks) : dep k + 1 ≤ dep (.mk o t ks) := by
  have := depL_mem h
  rw [dep]
  cases ks with
  | nil => cases h
  | cons => rw [if_neg (by simp)]; omega
/-- A name's text is none of the signs, none of the language's own names. -/
theorem tx_letter {t : List UInt8} (h : tx 2 t = true) : ∃ c m, t = c :: m ∧ 97 ≤ c.toNat ∧ c.toNat ≤ 122 := by
  unfold tx at h
  rw [Bool.and_eq_true, isTok_eq] at h
  obtain ⟨_, c, m, h1, h2⟩ := nam_facts (show nam t = true from h.1)
  exact ⟨c, m, h1, (srt3 c).1 h2⟩
theorem tx_ne {t : List UInt8} (h : tx 2 t = true) {c : UInt8} {m : List UInt8} (hc : ¬ (97 ≤ c.toNat ∧ c.toNat ≤ 122)) : t ≠ c :: m := by
  obtain ⟨c', m', rfl, h1⟩ := tx_letter h
  intro e
  cases e
  exact hc h1
theorem tx_own {k : Int} {t : List UInt8} (h : tx k t = true) : ownB t = false := by
  unfold tx at h
  rw [Bool.and_eq_true] at h
  simpa using h.2
theorem hN_nam {t : List UInt8} (h : tx 2 t = true) (r : List Wd) : hN ((2, t) :: r) = true := by
  show (decide ((2 : Int) = 2) && !ownB t) = true
  rw [tx_own h]; rfl
/-- What an expression begins with. -/
def HeadOK (w : Wd) : Prop := w.1 = 1 ∨ (w.1 = 2 ∧ tx 2 w.2 = true) ∨ w = sg [40] ∨ w = sg [91] ∨ w = sg [123] ∨ w = sg [45]
theorem side_head {k : Nd} (h : okE k = true) : ∃ w r, sideW k = w :: r ∧ (w.1 = 1 ∨ (w.1 = 2 ∧ tx 2 w.2 = true) ∨ w = sg [40]) := by
  have hb : ∀ n : Nd, atm n.op = false → ∃ w r, sideW n = w :: r ∧ (w.1 = 1 ∨ (w.1 = 2 ∧ tx 2 w.2 = true) ∨ w = sg [40]) := fun n hn => by
    unfold sideW; rw [if_neg (by rw [hn]; decide)]; exact ⟨_, _, rfl, .inr (.inr rfl)⟩
  cases okE_ec h with
  | num t q => exact ⟨(1, t), [], by unfold sideW; rw [if_pos (by rfl), prE_num], .inl rfl⟩
  | nam t q => exact ⟨(2, t), [], by unfold sideW; rw [if_pos (by rfl), prE_nam], .inr (.inl ⟨rfl, q⟩)⟩
  | call t ks q hk => exact ⟨(2, t), _, by unfold sideW; rw [if_pos (by rfl), prE_call], .inr (.inl ⟨rfl, q⟩)⟩
  | mat ks h0 hk => exact hb _ rfl
  | list ks hk => exact hb _ rfl
  | item k k1 q h1 => exact hb _ rfl
  | item2 k k1 k2 q h1 h2 => exact hb _ rfl
  | minus k q => exact hb _ rfl
  | op o k k2 ho q h2 => exact hb _ (by show atm o = false; unfold atm; simp; omega)
theorem exp_head {n : Nd} (h : okE n = true) : ∃ w r, prE n = w :: r ∧ HeadOK w := by
  have hs : ∀ {k : Nd}, okE k = true → ∀ u, ∃ w r, sideW k ++ u = w :: r ∧ HeadOK w := fun hk u => by
    obtain ⟨w, r, h1, h2⟩ := side_head hk
    refine ⟨w, r ++ u, by rw [h1]; rfl, ?_⟩
    rcases h2 with h2 | h2 | h2
    · exact .inl h2
    · exact .inr (.inl h2)
    · exact .inr (.inr (.inl h2))
  cases okE_ec h with
  | num t q => exact ⟨_, _, prE_num _ _, .inl rfl⟩
  | nam t q => exact ⟨_, _, prE_nam _ _, .inr (.inl ⟨rfl, q⟩)⟩
  | call t ks q hk => exact ⟨_, _, prE_call _ _, .inr (.inl ⟨rfl, q⟩)⟩
  | mat ks h0 hk => exact ⟨_, _, prE_mat _ _, .inr (.inr (.inr (.inl rfl)))⟩
  | list ks hk => exact ⟨_, _, prE_list _ _, .inr (.inr (.inr (.inr (.inl rfl))))⟩
  | item k k1 q h1 => rw [prE_item]; exact hs q _
  | item2 k k1 k2 q h1 h2 => rw [prE_item]; exact hs q _
  | minus k q => exact ⟨_, _, prE_minus _ _ _, .inr (.inr (.inr (.inr (.inr rfl))))⟩
  | op o k k2 ho q h2 => rw [prE_op ho]; exact hs q _
theorem head_ne {w : Wd} (h : HeadOK w) {c : UInt8} {m : List UInt8} (hc : ¬ (97 ≤ c.toNat ∧ c.toNat ≤ 122)) (h4 : c :: m ∉ ([[40], [91], [123], [45]] : List (List UInt8))) (r : List Wd) : hS (w :: r) (c :: m) = false := by
  show (!decide (w.1 = 1) && decide (w.2 = c :: m)) = false
  rcases h with h | ⟨h, h2⟩ | h | h | h | h
  · simp [h]
  · simp [tx_ne h2 hc]
  all_goals
    subst h
    simp only [List.mem_cons, not_or, List.not_mem_nil, not_false_eq_true, and_true] at h4
    simp only [sg, Bool.and_eq_false_iff, decide_eq_false_iff_not]
    right
    intro e
    have e := e.symm
    simp only [e] at h4
    simp at h4
theorem exp_hS {n : Nd} (h : okE n = true) {c : UInt8} {m : List UInt8} (hc : ¬ (97 ≤ c.toNat ∧ c.toNat ≤ 122)) (h4 : c :: m ∉ ([[40], [91], [123], [45]] : List (List UInt8))) (r : List Wd) : hS (prE n ++ r) (c :: m) = false := by
  obtain ⟨w, u, h1, h2⟩ := exp_head h
  rw [h1]; exact head_ne h2 hc h4 _
theorem side_hS {n : Nd} (h : okE n = true) (r : List Wd) : hS (sideW n ++ r) [45] = false := by
  obtain ⟨w, u, h1, h2⟩ := side_head h
  rw [h1]
  show (!decide (w.1 = 1) && decide (w.2 = [45])) = false
  rcases h2 with h | ⟨h, h2⟩ | h
  · simp [h]
  · simp [tx_ne h2 (c := 45) (m := []) (by decide)]
  · subst h; rfl
section
variable {K : Nat} {l : List Tok} {X U : Gr} {a o a' : Nat} {n : Nd}
theorem ins_ok {k : Gr} (h : o + 1 ≤ K) (hk : k a (o + 1) = .ok n a') : ins K k a o = .ok n a' := by
  unfold ins; rw [if_neg (by omega), hk]
theorem post_of (h : primG K l X a o = .ok n a') (h1 : hS (rst l a') [91] = false) : postF K l X a o = .ok n a' := by
  unfold postF; rw [h]
  show postG K l X (l.length + 1) n a' o = _
  unfold postG; rw [isS_rst, h1]; rfl
theorem pow_of (h : postF K l X a o = .ok n a') (h1 : hS (rst l a') [94] = false) : powG K l X U a o = .ok n a' := by
  unfold powG; rw [h]
  show (if isS l a' [94] then _ else _) = _
  rw [isS_rst, h1]; rfl
theorem un_of (h : powG K l X U a o = .ok n a') (h1 : hS (rst l a) [45] = false) : unG K l X U a o = .ok n a' := by
  unfold unG; rw [isS_rst, h1, if_neg (by decide)]; exact h
theorem chn_of {S : Gr} {s1 s2 : List UInt8} {x y : Nat} (h : S a o = .ok n a') (h1 : hS (rst l a') s1 = false) (h2 : hS (rst l a') s2 = false) : chnF l S s1 x s2 y a o = .ok n a' := by
  unfold chnF; rw [h]
  show chainG l S s1 x s2 y (l.length + 1) n a' o = _
  unfold chainG; rw [isS_rst, h1, isS_rst, h2]; rfl
theorem chn_two {S : Gr} {s1 s2 : List UInt8} {x y : Nat} {m : Nd} {a2 : Nat} (h : S a o = .ok n a') (h1 : hS (rst l a') s1 = true) (h2 : S (a' + 1) o = .ok m a2) (h3 : hS (rst l a2) s1 = false) (h4 : hS (rst l a2) s2 = false) : chnF l S s1 x s2 y a o = .ok (.mk x [] [n, m]) a2 := by
  have hlt := isS_lt (l := l) (a := a') (s := s1) (by rw [isS_rst, h1])
  unfold chnF; rw [h]
  show chainG l S s1 x s2 y (l.length + 1) n a' o = _
  unfold chainG; rw [isS_rst, h1, if_pos rfl, h2]
  show chainG l S s1 x s2 y l.length _ a2 o = _
  obtain ⟨k, hk⟩ : ∃ k, l.length = k + 1 := ⟨l.length - 1, by omega⟩
  rw [hk]
  unfold chainG; rw [isS_rst, h3, isS_rst, h4]; rfl
theorem chn_two' {S : Gr} {s1 s2 : List UInt8} {x y : Nat} {m : Nd} {a2 : Nat} (h : S a o = .ok n a') (h0 : hS (rst l a') s1 = false) (h1 : hS (rst l a') s2 = true) (h2 : S (a' + 1) o = .ok m a2) (h3 : hS (rst l a2) s1 = false) (h4 : hS (rst l a2) s2 = false) : chnF l S s1 x s2 y a o = .ok (.mk y [] [n, m]) a2 := by
  have hlt := isS_lt (l := l) (a := a') (s := s2) (by rw [isS_rst, h1])
  unfold chnF; rw [h]
  show chainG l S s1 x s2 y (l.length + 1) n a' o = _
  unfold chainG; rw [isS_rst, h0, if_neg (by decide), isS_rst, h1, if_pos rfl, h2]
  show chainG l S s1 x s2 y l.length _ a2 o = _
  obtain ⟨k, hk⟩ : ∃ k, l.length = k + 1 := ⟨l.length - 1, by omega⟩
  rw [hk]
  unfold chainG; rw [isS_rst, h3, isS_rst, h4]; rfl
theorem exp_of (h : sumG l U a o = .ok n a') (h1 : hS (rst l a') [61, 61] = false) (h2 : hS (rst l a') [33, 61] = false) (h3 : hS (rst l a') [60] = false) (h4 : hS (rst l a') [60, 61] = false) : expG l U a o = .ok n a' := by
  unfold expG; rw [h]
  show (if isS l a' [61, 61] then _ else if isS l a' [33, 61] then _ else if isS l a' [60] then _ else if isS l a' [60, 61] then _ else _) = _
  rw [isS_rst, h1, isS_rst, h2, isS_rst, h3, isS_rst, h4]; rfl
theorem prim_rst {w : Wd} {r : List Wd} (h : rst l a = w :: r) : primG K l X a o = if w.1 = 1 then .ok (.mk 1 w.2 []) (a + 1)
    else if hN (w :: r) then (if hS r [40] then ins K (fun a o => mapR (fun n => .mk 13 w.2 n.kids) (listE l X [41] a o)) (a + 2) o else .ok (.mk 2 w.2 []) (a + 1))
    else if hS (w :: r) [40] then ins K (fun a o => thenS l (X a o) o [41]) (a + 1) o
    else if hS (w :: r) [91] then ins K (fun a o => matG l X (l.length + 1) [] [] a o) (a + 1) o
    else if hS (w :: r) [123] then ins K (fun a o => mapR (fun n => .mk 16 [] n.kids) (listE l X [125] a o)) (a + 1) o
    else .bad 4 a nd0 a o := by
  obtain ⟨t, h1, h2, h3⟩ := rst_cons h
  unfold primG
  rw [h1]
  show (if t.kind = 1 then _ else _) = _
  rw [isNm_rst, isS_rst, isS_rst, isS_rst, isS_rst, h, rst_1 h, h2, h3]
/-- What stands beside a sign climbs up. -/
theorem climb_un (h : primG K l X a o = .ok n a') (h0 : hS (rst l a) [45] = false) (h1 : hS (rst l a') [91] = false) (h2 : hS (rst l a') [94] = false) : unG K l X U a o = .ok n a' := un_of (pow_of (post_of h h1) h2) h0
end
theorem rd_atom {l : List Tok} {n : Nd} (hok : okE n = true) (hop : n.op = 1 ∨ n.op = 2 ∨ n.op = 13 ∨ n.op = 14 ∨ n.op = 16) (ih : ∀ m, cnt m < cnt n → okE m = true → PX l m) {f o : Nat} {r : List Wd} (hr : hS r [40] = false) (hf : (prE n ++ r).length < f + 1) (ho : o + 2 * dep n + 1 ≤ 600) {a : Nat} (h : rst l a = prE n ++ r) :
    primG 600 l (lev 600 l f).1 a o = .ok n (a + (prE n).length) := by
  cases okE_ec hok with
  | num t ht =>
    rw [prE_num] at h ⊢
    rw [prim_rst (w := (1, t)) (r := r) h, if_pos rfl]; rfl
  | nam t ht =>
    rw [prE_nam] at h ⊢
    rw [prim_rst (w := (2, t)) (r := r) h, if_neg (show ¬ (2 : Int) = 1 by decide), hN_nam ht, if_pos rfl, hr, if_neg (by decide)]; rfl
  | call t ks ht hk =>
    rw [prE_call] at h hf ⊢
    have h : rst l a = (2, t) :: sg [40] :: (jE ks ++ sg [41] :: r) := by rw [h]; simp
    have hf : ((2, t) :: sg [40] :: (jE ks ++ sg [41] :: r)).length < f + 1 := by simpa using hf
    rw [prim_rst h, if_neg (show ¬ (2 : Int) = 1 by decide), hN_nam ht, if_pos rfl, if_pos (by rfl)]
    have hL := rd_listE (l := l) (f := f) (o := o + 1) (e := [41]) (by decide) (ks := ks) (a := a + 2) (r := r) (fun k hkm => ⟨ih k (cnt_kid hkm) (hk k hkm), by have := dep_kid (o := 13) (t := t) hkm; omega, fun r' => exp_hS (hk k hkm) (by decide) (by decide) r'⟩) (by simp only [List.length_cons] at hf; omega) (rst_1 (rst_1 h))
    refine ins_ok (by omega) ?_
    show mapR _ (listE l (lev 600 l f).1 [41] (a + 2) (o + 1)) = _
    rw [hL]
    show Res.ok _ _ = _
    congr 1; simp; omega
  | mat ks h0 hk =>
    rw [prE_mat] at h hf ⊢
    have h : rst l a = sg [91] :: (joinW (sg [59]) (ks.map prE) ++ sg [93] :: r) := by rw [h]; simp
    have hf : (sg [91] :: (joinW (sg [59]) (ks.map prE) ++ sg [93] :: r)).length < f + 1 := by simpa using hf
    rw [prim_rst h, if_neg (by decide), if_neg (by simp [hN]), if_neg (by simp [hS]), if_pos (by rfl)]
    rw [List.length_cons] at hf
    have hl := rst_len h (by simp)
    rw [List.length_cons] at hl
    have hL := rd_mat (l := l) (f := f) (o := o + 1) ks [] (l.length + 1) (a + 1) r h0 hk (fun x hx k hkx => by
      obtain ⟨js, rfl, _, hjs⟩ := okR_mk (hk x hx)
      have hkx : k ∈ js := hkx
      have d1 := dep_kid (o := 15) (t := []) hkx
      have d2 := dep_kid (o := 14) (t := []) hx
      have c1 := cnt_kid (o := 15) (t := []) hkx
      have c2 := cnt_kid (o := 14) (t := []) hx
      exact ⟨ih k (by omega) (hjs k hkx), by omega⟩) (by omega) (by omega) (rst_1 h)
    refine ins_ok (by omega) ?_
    show matG l (lev 600 l f).1 (l.length + 1) [] [] (a + 1) (o + 1) = _
    rw [hL]
    show Res.ok _ _ = _
    congr 1; simp; omega
  | list ks hk =>
    rw [prE_list] at h hf ⊢
    have h : rst l a = sg [123] :: (jE ks ++ sg [125] :: r) := by rw [h]; simp
    have hf : (sg [123] :: (jE ks ++ sg [125] :: r)).length < f + 1 := by simpa using hf
    rw [prim_rst h, if_neg (by decide), if_neg (by simp [hN]), if_neg (by simp [hS]), if_neg (by simp [hS]), if_pos (by rfl)]
    have hL := rd_listE (l := l) (f := f) (o := o + 1) (e := [125]) (by decide) (ks := ks) (a := a + 1) (r := r) (fun k hkm => ⟨ih k (cnt_kid hkm) (hk k hkm), by have := dep_kid (o := 16) (t := []) hkm; omega, fun r' => exp_hS (hk k hkm) (by decide) (by decide) r'⟩) (by simp only [List.length_cons] at hf; omega) (rst_1 h)
    refine ins_ok (by omega) ?_
    show mapR _ (listE l (lev 600 l f).1 [125] (a + 1) (o + 1)) = _
    rw [hL]
    show Res.ok _ _ = _
    congr 1; simp; omega
  | item k k1 h h1 => simp [Nd.op] at hop
  | item2 k k1 k2 h h1 h2 => simp [Nd.op] at hop
  | minus k h => simp [Nd.op] at hop
  | op o k k2 h1 h h2 => simp only [Nd.op] at hop; omega
theorem rd_side {l : List Tok} {n : Nd} (hok : okE n = true) (ih : ∀ m, cnt m ≤ cnt n → okE m = true → PX l m) {f o : Nat} {r : List Wd} (hr : hS r [40] = false) (hf : (sideW n ++ r).length < f + 1) (ho : o + 2 * dep n + 2 ≤ 600) {a : Nat} (h : rst l a = sideW n ++ r) :
    primG 600 l (lev 600 l f).1 a o = .ok n (a + (sideW n).length) := by
  unfold sideW at h hf ⊢
  cases hat : atm n.op with
  | true =>
    simp only [hat, if_pos] at h hf ⊢
    unfold atm at hat
    simp only [Bool.or_eq_true, decide_eq_true_eq] at hat
    exact rd_atom hok (by omega) (fun m hm => ih m (by omega)) hr hf (by omega) h
  | false =>
    simp only [hat, Bool.false_eq_true, if_false] at h hf ⊢
    have h : rst l a = sg [40] :: (prE n ++ sg [41] :: r) := by rw [h]; simp
    have hf : (sg [40] :: (prE n ++ sg [41] :: r)).length < f + 1 := by simpa using hf
    rw [prim_rst h, if_neg (by decide), if_neg (by simp [hN]), if_pos (by rfl)]
    rw [List.length_cons] at hf
    have h2 := rst_1 h
    refine ins_ok (by omega) ?_
    show thenS l ((lev 600 l f).1 (a + 1) (o + 1)) (o + 1) [41] = _
    rw [ih n (Nat.le_refl _) hok f (o + 1) (sg [41] :: r) (endR_sg (by decide) _) (by omega) (by omega) (a + 1) h2]
    show (if isS l (a + 1 + (prE n).length) [41] then _ else _) = _
    rw [isS_rst, rst_app h2, if_pos (by rfl)]
    congr 1; simp; omega
theorem rd_exp (l : List Tok) : ∀ (N : Nat) (n : Nd), cnt n < N → okE n = true → PX l n := by
  intro N
  induction N with
  | zero => intro n hn; omega
  | succ N ih =>
    intro n hn hok f o r hr hf ho a h
    obtain ⟨w0, u0, hw0, _⟩ := exp_head hok
    have hpos : 1 ≤ (prE n ++ r).length := by rw [hw0]; simp
    obtain ⟨f, rfl⟩ : ∃ k, f = k + 1 := ⟨f - 1, by omega⟩
    show expG l (unG 600 l (lev 600 l f).1 (lev 600 l f).2) a o = _
    have r91 := hr [91] (by decide)
    have r94 := hr [94] (by decide)
    have r42 := hr [42] (by decide)
    have r47 := hr [47] (by decide)
    have r43 := hr [43] (by decide)
    have r45 := hr [45] (by decide)
    have r6161 := hr [61, 61] (by decide)
    have r3361 := hr [33, 61] (by decide)
    have r60 := hr [60] (by decide)
    have r6061 := hr [60, 61] (by decide)
    have r40 := hr [40] (by decide)
    have hend := rst_app h
    -- what comes as a 'power' or less, and stands before r, is the expression
    have up : ∀ {n : Nd} {a' : Nat}, rst l a' = r → unG 600 l (lev 600 l f).1 (lev 600 l f).2 a o = .ok n a' → expG l (unG 600 l (lev 600 l f).1 (lev 600 l f).2) a o = .ok n a' := fun ha hu =>
      exp_of (chn_of (chn_of hu (by rw [ha]; exact r42) (by rw [ha]; exact r47)) (by rw [ha]; exact r43) (by rw [ha]; exact r45)) (by rw [ha]; exact r6161) (by rw [ha]; exact r3361) (by rw [ha]; exact r60) (by rw [ha]; exact r6061)
    have side : ∀ k, cnt k < cnt n → okE k = true → ∀ {f o : Nat} {r : List Wd}, hS r [40] = false → (sideW k ++ r).length < f + 1 → o + 2 * dep k + 2 ≤ 600 → ∀ {a : Nat}, rst l a = sideW k ++ r → primG 600 l (lev 600 l f).1 a o = .ok k (a + (sideW k).length) := fun k hk hok f o r h1 h2 h3 a h4 =>
      rd_side hok (fun m hm hm2 => ih m (by omega) hm2) h1 h2 h3 h4
    have sideU : ∀ k, cnt k < cnt n → okE k = true → ∀ {U : Gr} {f o : Nat} {r : List Wd}, hS r [40] = false → hS r [91] = false → hS r [94] = false → (sideW k ++ r).length < f + 1 → o + 2 * dep k + 2 ≤ 600 → ∀ {a : Nat}, rst l a = sideW k ++ r → unG 600 l (lev 600 l f).1 U a o = .ok k (a + (sideW k).length) := fun k hk hok U f o r h1 g1 g2 h2 h3 a h4 =>
      climb_un (side k hk hok h1 h2 h3 h4) (by rw [h4]; exact side_hS hok r) (by rw [rst_app h4]; exact g1) (by rw [rst_app h4]; exact g2)
    have atom : (n.op = 1 ∨ n.op = 2 ∨ n.op = 13 ∨ n.op = 14 ∨ n.op = 16) → hS (prE n ++ r) [45] = false → expG l (unG 600 l (lev 600 l f).1 (lev 600 l f).2) a o = .ok n (a + (prE n).length) := fun hop h45 =>
      up hend (climb_un (rd_atom hok hop (fun m hm hm2 => ih m (by omega) hm2) r40 (by omega) (by omega) h) (by rw [h]; exact h45) (by rw [hend]; exact r91) (by rw [hend]; exact r94))
    cases okE_ec hok with
    | num t ht => exact atom (.inl rfl) (by rw [prE_num]; rfl)
    | nam t ht => exact atom (.inr (.inl rfl)) (by rw [prE_nam]; show (!decide ((2 : Int) = 1) && decide (t = [45])) = false; simp [tx_ne ht (c := 45) (m := []) (by decide)])
    | call t ks ht hk => exact atom (.inr (.inr (.inl rfl))) (by rw [prE_call]; show (!decide ((2 : Int) = 1) && decide (t = [45])) = false; simp [tx_ne ht (c := 45) (m := []) (by decide)])
    | mat ks h0 hk => exact atom (.inr (.inr (.inr (.inl rfl)))) (by rw [prE_mat]; rfl)
    | list ks hk => exact atom (.inr (.inr (.inr (.inr rfl)))) (by rw [prE_list]; rfl)
    | item k k1 hk h1 =>
      rw [prE_item] at h hf hend ⊢
      have hj : jE [k1] = prE k1 := rfl
      rw [hj] at h hf hend ⊢
      have h : rst l a = sideW k ++ sg [91] :: (prE k1 ++ sg [93] :: r) := by rw [h]; simp
      have hf : (sideW k ++ sg [91] :: (prE k1 ++ sg [93] :: r)).length < f + 1 := by simpa using hf
      have hp := side k (cnt_kid (by simp)) hk (f := f) (o := o) (by rfl) (by omega) (by have := dep_kid (o := 17) (t := []) (k := k) (ks := [k, k1]) (by simp); omega) h
      have e1 := rst_app h
      have e2 := rst_1 e1
      have e3 := rst_app e2
      have d1 := dep_kid (o := 17) (t := []) (k := k1) (ks := [k, k1]) (by simp)
      rw [List.length_append, List.length_cons] at hf
      have hX := ih k1 (by have := cnt_kid (o := 17) (t := []) (k := k1) (ks := [k, k1]) (by simp); omega) h1 f (o + 1) _ (endR_sg (s := [93]) (by decide) r) (by omega) (by omega) _ e2
      have hitem : itemG l (lev 600 l f).1 k (a + (sideW k).length + 1) (o + 1) = .ok (.mk 17 [] [k, k1]) (a + (sideW k).length + 1 + (prE k1).length + 1) := by
        unfold itemG; rw [hX]
        show (if isS l (a + (sideW k).length + 1 + (prE k1).length) [44] then _ else thenS l (.ok (.mk 17 [] [k, k1]) (a + (sideW k).length + 1 + (prE k1).length)) (o + 1) [93]) = _
        rw [isS_rst, e3, if_neg (by simp [hS])]
        show (if isS l (a + (sideW k).length + 1 + (prE k1).length) [93] then _ else _) = _
        rw [isS_rst, e3, if_pos (by rfl)]
      have e4 := rst_1 e3
      have hl := isS_lt (l := l) (a := a + (sideW k).length) (s := [91]) (by rw [isS_rst, e1]; rfl)
      have hpost : postF 600 l (lev 600 l f).1 a o = .ok (.mk 17 [] [k, k1]) (a + (sideW k).length + 1 + (prE k1).length + 1) := by
        unfold postF; rw [hp]
        show postG 600 l (lev 600 l f).1 (l.length + 1) k (a + (sideW k).length) o = _
        unfold postG; rw [isS_rst, e1, if_pos (by rfl), ins_ok (by omega) hitem]
        show postG 600 l (lev 600 l f).1 l.length _ _ o = _
        obtain ⟨q, hq⟩ : ∃ q, l.length = q + 1 := ⟨l.length - 1, by omega⟩
        rw [hq]
        unfold postG; rw [isS_rst, e4, r91]; rfl
      rw [up e4 (un_of (pow_of hpost (by rw [e4]; exact r94)) (by rw [h]; exact side_hS hk _))]
      congr 1; simp; omega
    | item2 k k1 k2 hk h1 h2 =>
      rw [prE_item] at h hf hend ⊢
      have hj : jE [k1, k2] = prE k1 ++ sg [44] :: prE k2 := rfl
      rw [hj] at h hf hend ⊢
      have h : rst l a = sideW k ++ sg [91] :: (prE k1 ++ sg [44] :: (prE k2 ++ sg [93] :: r)) := by rw [h]; simp
      have hf : (sideW k ++ sg [91] :: (prE k1 ++ sg [44] :: (prE k2 ++ sg [93] :: r))).length < f + 1 := by simpa using hf
      have hp := side k (cnt_kid (by simp)) hk (f := f) (o := o) (by rfl) (by omega) (by have := dep_kid (o := 17) (t := []) (k := k) (ks := [k, k1, k2]) (by simp); omega) h
      have e1 := rst_app h
      have e2 := rst_1 e1
      have e3 := rst_app e2
      have e4 := rst_1 e3
      have e5 := rst_app e4
      have e6 := rst_1 e5
      have d1 := dep_kid (o := 17) (t := []) (k := k1) (ks := [k, k1, k2]) (by simp)
      have d2 := dep_kid (o := 17) (t := []) (k := k2) (ks := [k, k1, k2]) (by simp)
      rw [List.length_append, List.length_cons] at hf
      have hX := ih k1 (by have := cnt_kid (o := 17) (t := []) (k := k1) (ks := [k, k1, k2]) (by simp); omega) h1 f (o + 1) _ (endR_sg (s := [44]) (by decide) _) (by omega) (by omega) _ e2
      have hX2 := ih k2 (by have := cnt_kid (o := 17) (t := []) (k := k2) (ks := [k, k1, k2]) (by simp); omega) h2 f (o + 1) _ (endR_sg (s := [93]) (by decide) r) (by rw [List.length_append, List.length_cons] at hf; omega) (by omega) _ e4
      have hitem : itemG l (lev 600 l f).1 k (a + (sideW k).length + 1) (o + 1) = .ok (.mk 17 [] [k, k1, k2]) (a + (sideW k).length + 1 + (prE k1).length + 1 + (prE k2).length + 1) := by
        unfold itemG; rw [hX]
        show (if isS l (a + (sideW k).length + 1 + (prE k1).length) [44] then thenS l (mapR (fun m2 => .mk 17 [] [k, k1, m2]) ((lev 600 l f).1 (a + (sideW k).length + 1 + (prE k1).length + 1) (o + 1))) (o + 1) [93] else _) = _
        rw [isS_rst, e3, if_pos (by rfl), hX2]
        show (if isS l (a + (sideW k).length + 1 + (prE k1).length + 1 + (prE k2).length) [93] then _ else _) = _
        rw [isS_rst, e5, if_pos (by rfl)]
      have hl := isS_lt (l := l) (a := a + (sideW k).length) (s := [91]) (by rw [isS_rst, e1]; rfl)
      have hpost : postF 600 l (lev 600 l f).1 a o = .ok (.mk 17 [] [k, k1, k2]) (a + (sideW k).length + 1 + (prE k1).length + 1 + (prE k2).length + 1) := by
        unfold postF; rw [hp]
        show postG 600 l (lev 600 l f).1 (l.length + 1) k (a + (sideW k).length) o = _
        unfold postG; rw [isS_rst, e1, if_pos (by rfl), ins_ok (by omega) hitem]
        show postG 600 l (lev 600 l f).1 l.length _ _ o = _
        obtain ⟨q, hq⟩ : ∃ q, l.length = q + 1 := ⟨l.length - 1, by omega⟩
        rw [hq]
        unfold postG; rw [isS_rst, e6, r91]; rfl
      rw [up e6 (un_of (pow_of hpost (by rw [e6]; exact r94)) (by rw [h]; exact side_hS hk _))]
      congr 1; simp; omega
    | minus k hk =>
      rw [prE_minus] at h hf hend ⊢
      have h : rst l a = sg [45] :: (sideW k ++ r) := h
      have hf : (sg [45] :: (sideW k ++ r)).length < f + 1 := hf
      rw [List.length_cons] at hf
      have e1 := rst_1 h
      obtain ⟨w, u, hw, _⟩ := side_head hk
      have : 1 ≤ (sideW k ++ r).length := by rw [hw]; simp
      obtain ⟨f, rfl⟩ : ∃ q, f = q + 1 := ⟨f - 1, by omega⟩
      have d1 := dep_kid (o := 3) (t := []) (k := k) (ks := [k]) (by simp)
      have hu := sideU k (cnt_kid (by simp)) hk (U := (lev 600 l f).2) (f := f) (o := o + 1) r40 r91 r94 (by omega) (by omega) e1
      have e2 := rst_app e1
      rw [up e2 (n := .mk 3 [] [k]) (by
        unfold unG; rw [isS_rst, h, if_pos (by rfl)]
        refine ins_ok (by omega) ?_
        show mapR _ (unG 600 l (lev 600 l f).1 (lev 600 l f).2 (a + 1) (o + 1)) = _
        rw [hu]; rfl)]
      congr 1; simp; omega
    | op p k k2 hp hk hk2 =>
      rw [prE_op hp] at h hf hend ⊢
      have h : rst l a = sideW k ++ sg (sgnO p) :: (sideW k2 ++ r) := by rw [h]; simp
      have hf : (sideW k ++ sg (sgnO p) :: (sideW k2 ++ r)).length < f + 1 := by simpa using hf
      have e1 := rst_app h
      have e2 := rst_1 e1
      have e3 := rst_app e2
      have d1 := dep_kid (o := p) (t := []) (k := k) (ks := [k, k2]) (by simp)
      have d2 := dep_kid (o := p) (t := []) (k := k2) (ks := [k, k2]) (by simp)
      have c1 := cnt_kid (o := p) (t := []) (k := k) (ks := [k, k2]) (by simp)
      have c2 := cnt_kid (o := p) (t := []) (k := k2) (ks := [k, k2]) (by simp)
      have hlen := hf
      rw [List.length_append, List.length_cons] at hlen
      have hfin : a + (sideW k).length + 1 + (sideW k2).length = a + (sideW k ++ sg (sgnO p) :: sideW k2).length := by simp; omega
      rw [← hfin]
      have h45 : hS (rst l a) [45] = false := by rw [h]; exact side_hS hk _
      have h40 : ∀ x, x ≠ [40] → hS (sg x :: (sideW k2 ++ r)) [40] = false := fun x hx => by simp [hS, hx]
      have u2 := sideU k2 c2 hk2 (U := (lev 600 l f).2) (f := f) (o := o) r40 r91 r94 (by omega) (by omega) e2
      have hcase : p = 4 ∨ p = 5 ∨ p = 6 ∨ p = 7 ∨ p = 8 ∨ p = 9 ∨ p = 10 ∨ p = 11 ∨ p = 12 := by omega
      -- the left side as what may bear a minus; the right side as a product, as a sum
      have left : hS (sg (sgnO p) :: (sideW k2 ++ r)) [40] = false → hS (sg (sgnO p) :: (sideW k2 ++ r)) [91] = false → hS (sg (sgnO p) :: (sideW k2 ++ r)) [94] = false → unG 600 l (lev 600 l f).1 (lev 600 l f).2 a o = .ok k (a + (sideW k).length) := fun g1 g2 g3 =>
        sideU k c1 hk g1 g2 g3 hf (by omega) h
      have p2 : prodG l (unG 600 l (lev 600 l f).1 (lev 600 l f).2) (a + (sideW k).length + 1) o = .ok k2 (a + (sideW k).length + 1 + (sideW k2).length) := chn_of u2 (by rw [e3]; exact r42) (by rw [e3]; exact r47)
      have s2 : sumG l (unG 600 l (lev 600 l f).1 (lev 600 l f).2) (a + (sideW k).length + 1) o = .ok k2 (a + (sideW k).length + 1 + (sideW k2).length) := chn_of p2 (by rw [e3]; exact r43) (by rw [e3]; exact r45)
      rcases hcase with rfl | rfl | rfl | rfl | rfl | rfl | rfl | rfl | rfl
      · have pl := chn_of (l := l) (s1 := [42]) (s2 := [47]) (x := 6) (y := 7) (left rfl rfl rfl) (by rw [e1]; rfl) (by rw [e1]; rfl)
        exact exp_of (chn_two (x := 4) pl (by rw [e1]; rfl) p2 (by rw [e3]; exact r43) (by rw [e3]; exact r45)) (by rw [e3]; exact r6161) (by rw [e3]; exact r3361) (by rw [e3]; exact r60) (by rw [e3]; exact r6061)
      · have pl := chn_of (l := l) (s1 := [42]) (s2 := [47]) (x := 6) (y := 7) (left rfl rfl rfl) (by rw [e1]; rfl) (by rw [e1]; rfl)
        exact exp_of (chn_two' (x := 4) (y := 5) pl (by rw [e1]; rfl) (by rw [e1]; rfl) p2 (by rw [e3]; exact r43) (by rw [e3]; exact r45)) (by rw [e3]; exact r6161) (by rw [e3]; exact r3361) (by rw [e3]; exact r60) (by rw [e3]; exact r6061)
      · exact exp_of (chn_of (chn_two (x := 6) (y := 7) (left rfl rfl rfl) (by rw [e1]; rfl) u2 (by rw [e3]; exact r42) (by rw [e3]; exact r47)) (by rw [e3]; exact r43) (by rw [e3]; exact r45)) (by rw [e3]; exact r6161) (by rw [e3]; exact r3361) (by rw [e3]; exact r60) (by rw [e3]; exact r6061)
      · exact exp_of (chn_of (chn_two' (x := 6) (y := 7) (left rfl rfl rfl) (by rw [e1]; rfl) (by rw [e1]; rfl) u2 (by rw [e3]; exact r42) (by rw [e3]; exact r47)) (by rw [e3]; exact r43) (by rw [e3]; exact r45)) (by rw [e3]; exact r6161) (by rw [e3]; exact r3361) (by rw [e3]; exact r60) (by rw [e3]; exact r6061)
      · have hpl := post_of (side k c1 hk (f := f) (o := o) (by rfl) hf (by omega) h) (by rw [e1]; rfl)
        obtain ⟨w, u, hw, _⟩ := side_head hk2
        have : 1 ≤ (sideW k2 ++ r).length := by rw [hw]; simp
        obtain ⟨f, rfl⟩ : ∃ q, f = q + 1 := ⟨f - 1, by omega⟩
        have u3 := sideU k2 c2 hk2 (U := (lev 600 l f).2) (f := f) (o := o) r40 r91 r94 (by omega) (by omega) e2
        refine up e3 (un_of ?_ h45)
        unfold powG; rw [hpl]
        show (if isS l (a + (sideW k).length) [94] then mapR (fun m => Nd.mk 8 [] [k, m]) (unG 600 l (lev 600 l f).1 (lev 600 l f).2 (a + (sideW k).length + 1) o) else _) = _
        rw [isS_rst, e1, if_pos (by rfl), u3]; rfl
      all_goals
        have pl := chn_of (l := l) (s1 := [43]) (s2 := [45]) (x := 4) (y := 5) (chn_of (l := l) (s1 := [42]) (s2 := [47]) (x := 6) (y := 7) (left rfl rfl rfl) (by rw [e1]; rfl) (by rw [e1]; rfl)) (by rw [e1]; rfl) (by rw [e1]; rfl)
        have pl : sumG l (unG 600 l (lev 600 l f).1 (lev 600 l f).2) a o = .ok k (a + (sideW k).length) := pl
        unfold expG; rw [pl]
        show (if isS l (a + (sideW k).length) [61, 61] then mapR _ (sumG l _ (a + (sideW k).length + 1) o) else if isS l (a + (sideW k).length) [33, 61] then mapR _ (sumG l _ (a + (sideW k).length + 1) o) else if isS l (a + (sideW k).length) [60] then mapR _ (sumG l _ (a + (sideW k).length + 1) o) else if isS l (a + (sideW k).length) [60, 61] then mapR _ (sumG l _ (a + (sideW k).length + 1) o) else _) = _
        rw [isS_rst, isS_rst, isS_rst, isS_rst, e1, s2]; rfl
end Go.Proofs.YtlojipipibebaaaDoor
/- The printer: expressions. -/
set_option linter.unusedVariables false
set_option linter.unusedSimpArgs false
namespace Go.Proofs.YtlojipipibebaaaDoor
open Go.RowKit SX
/-- A node's cells, its kids told by cells of three. -/
abbrev ndB (n : Nd) : List Atom := [.c (.val (.int .i64 n.op)), .c (.val (str n.text)), .c (.sat (rowR 3 ndE n.kids))]
theorem ndA_B (n : Nd) : AV.agg (ndA n) = AV.agg (ndB n) := by
  unfold ndA ndB; rw [show ndC = ndE from funext ndC_eq']
theorem txtW_one (s : List UInt8) (o : Int) : txtW [(o, s)] = s ++ [32] := by simp [txtW]
/-- What a call that writes leaves. -/
abbrev WrO (b : List UInt8) : Out := ⟨.tup [], [(81, .ent (.abs (PrE true b)))]⟩
abbrev WrI (u : Bool) (b : List UInt8) : List (Nat × Ent) := [(81, .abs (PrE u b))]
attribute [local irreducible] IntKind.wrap Go1 Reg WP thenK inBlk retQ retF RetF RetOK ResOK CallOK OpOK Sat
theorem retPr {P : Program} {C : Ctx} {st : St} {b b' : List UInt8} (hh : st.hp 81 = .ent (.abs (PrE true b))) (e : b = b') : RetF C P [] (WrO b') st := retP (xs := []) trivial ⟨hh.trans (by rw [e]), trivial⟩
theorem c_put1 (u : Bool) (bs s : List UInt8) (h : bs.length + s.length ≤ 99999999) : CallOK Tryd.prog 28 [.ptr 81 0, .r (sliceR 1 1 [.val (str s)])] (WrI u bs) (WrO (bs ++ (s ++ [32]))) := by
  have c := c_put u bs [s] (by simp [putW]; omega) (by simp)
  have e : putW [s] = s ++ [32] := by simp [putW]
  rw [e, show (u || !([s] : List (List UInt8)).isEmpty) = true by simp] at c
  exact c
theorem c_put2 (u : Bool) (bs s t : List UInt8) (h : bs.length + s.length + t.length ≤ 99999990) : CallOK Tryd.prog 28 [.ptr 81 0, .r (sliceR 1 2 ([.val (str s)] ++ [.val (str t)]))] (WrI u bs) (WrO (bs ++ (s ++ [32] ++ (t ++ [32])))) := by
  have c := c_put u bs [s, t] (by simp [putW]; omega) (by simp)
  have e : putW [s, t] = s ++ [32] ++ (t ++ [32]) := by simp [putW]
  rw [e, show (u || !([s, t] : List (List UInt8)).isEmpty) = true by simp] at c
  exact c
theorem c_put3 (u : Bool) (bs s t v : List UInt8) (h : bs.length + s.length + t.length + v.length ≤ 99999990) : CallOK Tryd.prog 28 [.ptr 81 0, .r (sliceR 1 3 ([.val (str s)] ++ [.val (str t)] ++ [.val (str v)]))] (WrI u bs) (WrO (bs ++ (s ++ [32] ++ (t ++ [32]) ++ (v ++ [32])))) := by
  have c := c_put u bs [s, t, v] (by simp [putW]; omega) (by simp)
  have e : putW [s, t, v] = s ++ [32] ++ (t ++ [32]) ++ (v ++ [32]) := by simp [putW]
  rw [e, show (u || !([s, t, v] : List (List UInt8)).isEmpty) = true by simp] at c
  exact c
/-- An expression is written. -/
def EX (n : Nd) : Prop := ∀ u bs, bs.length + (txtW (prE n)).length ≤ 99000000 → CallOK Tryd.prog 29 [.ptr 81 0, .agg (ndA n)] (WrI u bs) (WrO (bs ++ txtW (prE n)))
theorem joinW_snoc (s : Wd) : ∀ (l : List (List Wd)) (x : List Wd), l ≠ [] → joinW s (l ++ [x]) = joinW s l ++ s :: x
  | [], _, h => absurd rfl h
  | [a], x, _ => rfl
  | a :: b :: r, x, _ => by
    show a ++ s :: joinW s (b :: r ++ [x]) = _
    rw [joinW_snoc s (b :: r) x (by simp)]
    show _ = (a ++ s :: joinW s (b :: r)) ++ s :: x
    simp
theorem joinW_le (s : Wd) (l : List Nd) {k : Nat} {n : Nd} (hn : l[k]? = some n) : (txtW (joinW s ((l.take k).map prE))).length + (if k = 0 then 0 else s.2.length + 1) + (txtW (prE n)).length ≤ (txtW (joinW s (l.map prE))).length := by
  obtain ⟨hk, rfl⟩ := List.getElem?_eq_some_iff.1 hn
  have key : ∀ (m : List (List Wd)) (z : List (List Wd)), m ≠ [] → (txtW (joinW s m)).length ≤ (txtW (joinW s (m ++ z))).length := by
    intro m z
    induction z generalizing m with
    | nil => intro _; simp
    | cons x z ih =>
      intro h0
      have h1 := ih (m ++ [x]) (by simp)
      rw [joinW_snoc s m x h0, txtW_app, List.length_append] at h1
      rw [show m ++ x :: z = m ++ [x] ++ z by simp]
      omega
  have h2 := key ((l.take (k + 1)).map prE) ((l.drop (k + 1)).map prE) (by
    rw [List.take_add_one, List.getElem?_eq_getElem hk]; simp
    intro e; rw [e] at hk; simp at hk)
  rw [← List.map_append, List.take_append_drop] at h2
  refine Nat.le_trans ?_ h2
  rw [List.take_add_one, List.getElem?_eq_getElem hk, List.map_append]
  show _ ≤ (txtW (joinW s ((l.take k).map prE ++ [prE l[k]]))).length
  by_cases h0 : k = 0
  · subst h0; rw [if_pos rfl]; simp [joinW, txtW]
  · rw [if_neg h0, joinW_snoc _ _ _ (by
      have : (l.take k).length ≠ 0 := by rw [List.length_take]; omega
      intro e; rw [List.map_eq_nil_iff] at e; rw [e] at this; exact this rfl), txtW_app, txtW_cons]
    simp only [List.length_append, List.length_cons]
    omega
/-- Expressions with a sign between them. -/
theorem c_many (u : Bool) (bs s : List UInt8) (l : List Nd) (hE : ∀ n ∈ l, EX n) (h : bs.length + (txtW (joinW (sg s) (l.map prE))).length ≤ 99000000) (hs : s.length ≤ 100) (hl : l.length ≤ 1000000) :
    CallOK Tryd.prog 48 [.ptr 81 0, .r (rowR 3 ndE l), .v (str s)] (WrI u bs) ⟨.tup [], [(81, .ent (.abs (PrE (u || !l.isEmpty) (bs ++ txtW (joinW (sg s) (l.map prE))))))]⟩ := by
  refine CallOK.fnA Tryd.func48 Tryd.results48 Tryd.ntmps48 rfl rfl rfl rfl rfl rfl rfl rfl (fun w0 T B E0 hB => ?_)
  refine SX.goG ?_
  refine W.loop3 (fun (k : Nat) (v : Bool) (b : List UInt8) => k ≤ l.length ∧ v = (u || !(l.take k).isEmpty) ∧ b = bs ++ txtW (joinW (sg s) ((l.take k).map prE))) (fun k _ _ => [(0, .ptr 81 0), (2, .v (str s)), (8, .r (rowR 3 ndE l)), (9, .v (.int .i64 (l.length : Int))), (10, .v (.int .i64 (k : Int)))]) (fun _ v b => [(81, .abs (PrE v b))]) (fun k _ _ => l.length - k) 0 u bs ⟨Nat.zero_le _, by simp, by simp [joinW, txtW]⟩ (fun k v b ⟨hk, hv, hb⟩ => ?_)
  by_cases hlt : k < l.length
  · obtain ⟨n, hn⟩ : ∃ n, l[k]? = some n := ⟨_, List.getElem?_eq_getElem hlt⟩
    have hle := joinW_le (sg s) l hn
    have hbl : b.length = bs.length + (txtW (joinW (sg s) ((l.take k).map prE))).length := by rw [hb, List.length_append]
    have ht : l.take (k + 1) = l.take k ++ [n] := by
      rw [List.take_add_one, hn]; rfl
    by_cases h0 : k = 0
    · subst h0
      rw [if_pos rfl] at hle
      have c := hE n (List.mem_of_getElem? hn) v b (by omega)
      refine SX.goG ?_
      refine W.next3 1 true (b ++ txtW (prE n)) ⟨hlt, by rw [ht]; simp, by rw [ht, hb]; simp [joinW, txtW]⟩ (by omega)
    · rw [if_neg h0] at hle
      have hle : (txtW (joinW (sg s) ((l.take k).map prE))).length + (s.length + 1) + (txtW (prE n)).length ≤ (txtW (joinW (sg s) (l.map prE))).length := hle
      have c1 := c_put1 v b s (by omega)
      have c := hE n (List.mem_of_getElem? hn) true (b ++ (s ++ [32])) (by simp; omega)
      refine SX.goG ?_
      refine W.next3 (k + 1) true (b ++ (s ++ [32]) ++ txtW (prE n)) ⟨hlt, by rw [ht]; simp, ?_⟩ (by omega)
      rw [ht, List.map_append]
      show _ = bs ++ txtW (joinW (sg s) ((l.take k).map prE ++ [prE n]))
      rw [joinW_snoc _ _ _ (by
        have : (l.take k).length ≠ 0 := by rw [List.length_take]; omega
        intro e; rw [List.map_eq_nil_iff] at e; rw [e] at this; exact this rfl), txtW_app, txtW_cons, hb]
      simp
  · obtain rfl : k = l.length := by omega
    rw [List.take_length] at hv hb
    subst hv hb
    refine SX.goG ?_
    exact retP (xs := []) trivial ⟨rfl, trivial⟩
/-- What stands beside a sign. -/
theorem c_side (n : Nd) (hE : EX n) (u : Bool) (bs : List UInt8) (h : bs.length + (txtW (sideW n)).length ≤ 99000000) : CallOK Tryd.prog 49 [.ptr 81 0, .agg (ndA n)] (WrI u bs) (WrO (bs ++ txtW (sideW n))) := by
  unfold sideW at h ⊢
  cases ha : atm n.op with
  | true =>
    rw [ha, if_pos rfl] at h
    rw [if_pos rfl]
    have c := hE u bs h
    unfold atm at ha
    simp only [Bool.or_eq_true, decide_eq_true_eq] at ha
    rcases ha with (ha | ha) | ha
    all_goals
      refine CallOK.fnA Tryd.func49 Tryd.results49 Tryd.ntmps49 rfl rfl rfl rfl rfl rfl rfl rfl (fun w0 T B E0 hB => ?_)
      refine SX.goG ?_
      exact retP (xs := []) trivial ⟨rfl, trivial⟩
  | false =>
    rw [ha, if_neg (by decide)] at h
    rw [if_neg (by decide)]
    rw [txtW_cons, txtW_app] at h ⊢
    simp only [List.length_append, List.length_cons] at h
    have h1 : txtW [sg [41]] = [41, 32] := rfl
    have c1 := c_put1 u bs [40] (by simp; omega)
    have c2 := hE true (bs ++ ([40] ++ [32])) (by simp; omega)
    have c3 := c_put1 true (bs ++ ([40] ++ [32]) ++ txtW (prE n)) [41] (by simp; omega)
    unfold atm at ha
    simp only [Bool.or_eq_false_iff, decide_eq_false_iff_not] at ha
    obtain ⟨⟨a1, a2⟩, a3⟩ := ha
    refine CallOK.fnA Tryd.func49 Tryd.results49 Tryd.ntmps49 rfl rfl rfl rfl rfl rfl rfl rfl (fun w0 T B E0 hB => ?_)
    refine SX.goG ?_
    exact retPr rfl (by rw [h1]; simp)
end Go.Proofs.YtlojipipibebaaaDoor
/- The printer: all expressions, all statements. -/
set_option linter.unusedVariables false
set_option linter.unusedSimpArgs false
namespace Go.Proofs.YtlojipipibebaaaDoor
open Go.RowKit SX
theorem kids_cnt {o : Int} {t : List UInt8} {ks : List Nd} : ks.length ≤ cnt (.mk o t ks) := by
  rw [cnt_mk]; have := len_cntL ks; omega
theorem sgn_at {o : Int} (h : 4 ≤ o ∧ o ≤ 12) : ∃ i : Nat, o = (i : Int) ∧ i < 13 ∧ ([str [], str [], str [], str [], str [43], str [45], str [42], str [47], str [94], str [61, 61], str [33, 61], str [60], str [60, 61]] : List Value)[i]? = some (str (sgnO o)) ∧ (sgnO o).length ≤ 2 := by
  have hc : o = 4 ∨ o = 5 ∨ o = 6 ∨ o = 7 ∨ o = 8 ∨ o = 9 ∨ o = 10 ∨ o = 11 ∨ o = 12 := by omega
  rcases hc with rfl | rfl | rfl | rfl | rfl | rfl | rfl | rfl | rfl
  all_goals exact ⟨_, rfl, by decide, rfl, by decide⟩
attribute [local irreducible] IntKind.wrap Go1 Reg WP thenK inBlk retQ retF RetF RetOK ResOK CallOK OpOK Sat
theorem ex_all : ∀ (N : Nat) (n : Nd), cnt n < N → cnt n ≤ 1000000 → (okE n = true ∨ okR n = true) → EX n := by
  intro N
  induction N with
  | zero => intro n hn; omega
  | succ N ih =>
    intro n hn hb hok u bs h
    have hone : ∀ (s : List UInt8), txtW [sg s] = s ++ [32] := fun s => by simp [txtW]
    rcases hok with hok | hok
    · cases okE_ec hok with
      | num t ht =>
        rw [prE_num] at h ⊢
        have e : txtW [((1 : Int), t)] = t ++ [32] := by simp [txtW]
        rw [e] at h ⊢
        have c1 := c_put1 u bs t (by simp at h; omega)
        rw [ndA_B]
        refine CallOK.fnA Tryd.func29 Tryd.results29 Tryd.ntmps29 rfl rfl rfl rfl rfl rfl rfl rfl (fun w0 T B E0 hB => ?_)
        refine SX.goG ?_
        exact retPr rfl rfl
      | nam t ht =>
        rw [prE_nam] at h ⊢
        have e : txtW [((2 : Int), t)] = t ++ [32] := by simp [txtW]
        rw [e] at h ⊢
        have c1 := c_put1 u bs t (by simp at h; omega)
        rw [ndA_B]
        refine CallOK.fnA Tryd.func29 Tryd.results29 Tryd.ntmps29 rfl rfl rfl rfl rfl rfl rfl rfl (fun w0 T B E0 hB => ?_)
        refine SX.goG ?_
        exact retPr rfl rfl
      | call t ks ht hk =>
        rw [prE_call] at h ⊢
        rw [txtW_cons, txtW_cons, txtW_app, hone] at h ⊢
        have hkl := kids_cnt (o := 13) (t := t) (ks := ks)
        simp only [List.length_append, List.length_cons, List.length_nil] at h
        have c1 := c_put2 u bs t [40] (by simp; omega)
        have c2 := c_many true (bs ++ (t ++ [32] ++ ([40] ++ [32]))) [44] ks (fun k hkm => ih k (by have := cnt_kid (o := 13) (t := t) hkm; omega) (by have := cnt_kid (o := 13) (t := t) hkm; omega) (.inl (hk k hkm))) (by show _ + (txtW (jE ks)).length ≤ _; simp; omega) (by simp) (by omega)
        rw [Bool.true_or] at c2
        have c3 := c_put1 true (bs ++ (t ++ [32] ++ ([40] ++ [32])) ++ txtW (joinW (sg [44]) (ks.map prE))) [41] (by show (bs ++ (t ++ [32] ++ ([40] ++ [32])) ++ txtW (jE ks)).length + _ ≤ _; simp; omega)
        rw [ndA_B]
        refine CallOK.fnA Tryd.func29 Tryd.results29 Tryd.ntmps29 rfl rfl rfl rfl rfl rfl rfl rfl (fun w0 T B E0 hB => ?_)
        refine SX.goG ?_
        exact retPr rfl (by simp [jE])
      | mat ks h0 hk =>
        rw [prE_mat] at h ⊢
        rw [txtW_cons, txtW_app, hone] at h ⊢
        have hkl := kids_cnt (o := 14) (t := []) (ks := ks)
        simp only [List.length_append, List.length_cons, List.length_nil] at h
        have c1 := c_put1 u bs [91] (by simp; omega)
        have c2 := c_many true (bs ++ ([91] ++ [32])) [59] ks (fun k hkm => ih k (by have := cnt_kid (o := 14) (t := []) hkm; omega) (by have := cnt_kid (o := 14) (t := []) hkm; omega) (.inr (hk k hkm))) (by simp; omega) (by simp) (by omega)
        rw [Bool.true_or] at c2
        have c3 := c_put1 true (bs ++ ([91] ++ [32]) ++ txtW (joinW (sg [59]) (ks.map prE))) [93] (by simp; omega)
        rw [ndA_B]
        refine CallOK.fnA Tryd.func29 Tryd.results29 Tryd.ntmps29 rfl rfl rfl rfl rfl rfl rfl rfl (fun w0 T B E0 hB => ?_)
        refine SX.goG ?_
        exact retPr rfl (by simp)
      | list ks hk =>
        rw [prE_list] at h ⊢
        rw [txtW_cons, txtW_app, hone] at h ⊢
        have hkl := kids_cnt (o := 16) (t := []) (ks := ks)
        simp only [List.length_append, List.length_cons, List.length_nil] at h
        have c1 := c_put1 u bs [123] (by simp; omega)
        have c2 := c_many true (bs ++ ([123] ++ [32])) [44] ks (fun k hkm => ih k (by have := cnt_kid (o := 16) (t := []) hkm; omega) (by have := cnt_kid (o := 16) (t := []) hkm; omega) (.inl (hk k hkm))) (by show _ + (txtW (jE ks)).length ≤ _; simp; omega) (by simp) (by omega)
        rw [Bool.true_or] at c2
        have c3 := c_put1 true (bs ++ ([123] ++ [32]) ++ txtW (joinW (sg [44]) (ks.map prE))) [125] (by show (bs ++ ([123] ++ [32]) ++ txtW (jE ks)).length + _ ≤ _; simp; omega)
        rw [ndA_B]
        refine CallOK.fnA Tryd.func29 Tryd.results29 Tryd.ntmps29 rfl rfl rfl rfl rfl rfl rfl rfl (fun w0 T B E0 hB => ?_)
        refine SX.goG ?_
        exact retPr rfl (by simp [jE])
      | item k k1 hk h1 =>
        have i0 := cnt_kid (o := 17) (t := []) (k := k) (ks := [k, k1]) (by simp)
        have i1 := cnt_kid (o := 17) (t := []) (k := k1) (ks := [k, k1]) (by simp)
        rw [prE_item] at h ⊢
        rw [txtW_app, txtW_cons, txtW_app, hone] at h ⊢
        simp only [List.length_append, List.length_cons, List.length_nil] at h
        have c0 := c_side k (ih k (by omega) (by omega) (.inl hk)) u bs (by omega)
        have c1 := c_put1 true (bs ++ txtW (sideW k)) [91] (by simp; omega)
        have c2 := c_many true (bs ++ txtW (sideW k) ++ ([91] ++ [32])) [44] [k1] (fun x hx => by simp at hx; subst hx; exact ih x (by omega) (by omega) (.inl h1)) (by show _ + (txtW (jE [k1])).length ≤ _; simp; omega) (by simp) (by simp)
        rw [Bool.true_or] at c2
        have c3 := c_put1 true (bs ++ txtW (sideW k) ++ ([91] ++ [32]) ++ txtW (joinW (sg [44]) ([k1].map prE))) [93] (by show (bs ++ txtW (sideW k) ++ ([91] ++ [32]) ++ txtW (jE [k1])).length + _ ≤ _; simp; omega)
        have q0 : ([k, k1] : List Nd)[0]? = some k := rfl
        rw [ndA_B]
        have hkl : ([k, k1] : List Nd).length = 2 := rfl
        show CallOK _ _ [.ptr 81 0, .agg [.c (.val (.int .i64 17)), .c (.val (str [])), .c (.sat (rowR 3 ndE [k, k1]))]] _ _
        refine CallOK.fnA Tryd.func29 Tryd.results29 Tryd.ntmps29 rfl rfl rfl rfl rfl rfl rfl rfl (fun w0 T B E0 hB => ?_)
        refine SX.goG ?_
        exact retPr rfl (by simp [jE])
      | item2 k k1 k2 hk h1 h2 =>
        have i0 := cnt_kid (o := 17) (t := []) (k := k) (ks := [k, k1, k2]) (by simp)
        have i1 := cnt_kid (o := 17) (t := []) (k := k1) (ks := [k, k1, k2]) (by simp)
        have i2 := cnt_kid (o := 17) (t := []) (k := k2) (ks := [k, k1, k2]) (by simp)
        rw [prE_item] at h ⊢
        rw [txtW_app, txtW_cons, txtW_app, hone] at h ⊢
        simp only [List.length_append, List.length_cons, List.length_nil] at h
        have c0 := c_side k (ih k (by omega) (by omega) (.inl hk)) u bs (by omega)
        have c1 := c_put1 true (bs ++ txtW (sideW k)) [91] (by simp; omega)
        have c2 := c_many true (bs ++ txtW (sideW k) ++ ([91] ++ [32])) [44] [k1, k2] (fun x hx => by simp at hx; rcases hx with rfl | rfl; exact ih x (by omega) (by omega) (.inl h1); exact ih x (by omega) (by omega) (.inl h2)) (by show _ + (txtW (jE [k1, k2])).length ≤ _; simp; omega) (by simp) (by simp)
        rw [Bool.true_or] at c2
        have c3 := c_put1 true (bs ++ txtW (sideW k) ++ ([91] ++ [32]) ++ txtW (joinW (sg [44]) ([k1, k2].map prE))) [93] (by show (bs ++ txtW (sideW k) ++ ([91] ++ [32]) ++ txtW (jE [k1, k2])).length + _ ≤ _; simp; omega)
        have q0 : ([k, k1, k2] : List Nd)[0]? = some k := rfl
        rw [ndA_B]
        have hkl : ([k, k1, k2] : List Nd).length = 3 := rfl
        show CallOK _ _ [.ptr 81 0, .agg [.c (.val (.int .i64 17)), .c (.val (str [])), .c (.sat (rowR 3 ndE [k, k1, k2]))]] _ _
        refine CallOK.fnA Tryd.func29 Tryd.results29 Tryd.ntmps29 rfl rfl rfl rfl rfl rfl rfl rfl (fun w0 T B E0 hB => ?_)
        refine SX.goG ?_
        exact retPr rfl (by simp [jE])
      | minus k hk =>
        have i0 := cnt_kid (o := 3) (t := []) (k := k) (ks := [k]) (by simp)
        rw [prE_minus] at h ⊢
        rw [txtW_cons] at h ⊢
        simp only [List.length_append, List.length_cons, List.length_nil] at h
        have c0 := c_put1 u bs [45] (by simp; omega)
        have c1 := c_side k (ih k (by omega) (by omega) (.inl hk)) true (bs ++ ([45] ++ [32])) (by simp; omega)
        have q0 : ([k] : List Nd)[0]? = some k := rfl
        rw [ndA_B]
        have hkl : ([k] : List Nd).length = 1 := rfl
        show CallOK _ _ [.ptr 81 0, .agg [.c (.val (.int .i64 3)), .c (.val (str [])), .c (.sat (rowR 3 ndE [k]))]] _ _
        refine CallOK.fnA Tryd.func29 Tryd.results29 Tryd.ntmps29 rfl rfl rfl rfl rfl rfl rfl rfl (fun w0 T B E0 hB => ?_)
        refine SX.goG ?_
        exact retPr rfl (by simp)
      | op o k k2 ho hk h2 =>
        have i0 := cnt_kid (o := o) (t := []) (k := k) (ks := [k, k2]) (by simp)
        have i1 := cnt_kid (o := o) (t := []) (k := k2) (ks := [k, k2]) (by simp)
        obtain ⟨i, hi, hi13, hsg, hsl⟩ := sgn_at ho
        rw [prE_op ho] at h ⊢
        rw [txtW_app, txtW_cons] at h ⊢
        simp only [List.length_append, List.length_cons, List.length_nil] at h
        have c0 := c_side k (ih k (by omega) (by omega) (.inl hk)) u bs (by omega)
        have c1 := c_put1 true (bs ++ txtW (sideW k)) (sgnO o) (by simp; omega)
        have c2 := c_side k2 (ih k2 (by omega) (by omega) (.inl h2)) true (bs ++ txtW (sideW k) ++ (sgnO o ++ [32])) (by simp; omega)
        have q0 : ([k, k2] : List Nd)[0]? = some k := rfl
        have q1 : ([k, k2] : List Nd)[1]? = some k2 := rfl
        generalize sgnO o = sn at *
        rw [ndA_B]
        have hkl : ([k, k2] : List Nd).length = 2 := rfl
        show CallOK _ _ [.ptr 81 0, .agg [.c (.val (.int .i64 o)), .c (.val (str [])), .c (.sat (rowR 3 ndE [k, k2]))]] _ _
        refine CallOK.fnA Tryd.func29 Tryd.results29 Tryd.ntmps29 rfl rfl rfl rfl rfl rfl rfl rfl (fun w0 T B E0 hB => ?_)
        refine SX.goG ?_
        exact retPr rfl (by simp)
    · obtain ⟨ks, rfl, h0, hk⟩ := okR_mk hok
      rw [prE_row] at h ⊢
      have hkl := kids_cnt (o := 15) (t := []) (ks := ks)
      have c2 := c_many u bs [44] ks (fun k hkm => ih k (by have := cnt_kid (o := 15) (t := []) hkm; omega) (by have := cnt_kid (o := 15) (t := []) hkm; omega) (.inl (hk k hkm))) h (by simp) (by omega)
      have hne : ks.isEmpty = false := by simpa using h0
      rw [hne, Bool.not_false, Bool.or_true] at c2
      rw [ndA_B]
      refine CallOK.fnA Tryd.func29 Tryd.results29 Tryd.ntmps29 rfl rfl rfl rfl rfl rfl rfl rfl (fun w0 T B E0 hB => ?_)
      refine SX.goG ?_
      exact retPr rfl rfl
end Go.Proofs.YtlojipipibebaaaDoor
/- The printer: statements. -/
set_option linter.unusedVariables false
set_option linter.unusedSimpArgs false
namespace Go.Proofs.YtlojipipibebaaaDoor
open Go.RowKit SX
/-- The forms of statements, and blocks. -/
inductive SF : Nd → Prop
  | block (ks : List Nd) (hk : ∀ k ∈ ks, okS k = true ∧ k.op ≠ 22) : SF (.mk 22 [] ks)
  | set (t : List UInt8) (e : Nd) (ht : tx 2 t = true) (h : okE e = true) : SF (.mk 18 t [e])
  | show (e : Nd) (h : okE e = true) : SF (.mk 19 [] [e])
  | cond (e b : Nd) (h : okE e = true) (hb : b.op = 22 ∧ okS b = true) : SF (.mk 20 [] [e, b])
  | cond2 (e b c : Nd) (h : okE e = true) (hb : b.op = 22 ∧ okS b = true) (hc : c.op = 22 ∧ okS c = true) : SF (.mk 20 [] [e, b, c])
  | loop (t : List UInt8) (e e2 b : Nd) (ht : tx 2 t = true) (h : okE e = true) (h2 : okE e2 = true) (hb : b.op = 22 ∧ okS b = true) : SF (.mk 21 t [e, e2, b])
theorem srt_e (k : Nd) (ks : List Nd) (s : List UInt8) : srt3' (k :: ks) (101 :: s) = (okE k && srt3' ks s) := by rw [srt_cons]; simp
theorem srt_b (k : Nd) (ks : List Nd) (s : List UInt8) : srt3' (k :: ks) (98 :: s) = ((decide (k.op = 22) && okS k) && srt3' ks s) := by rw [srt_cons]; simp
theorem srt_len : ∀ (ks : List Nd) (s : List UInt8), srt3' ks s = true → ks.length = s.length
  | [], s, h => by rw [srt_nil, decide_eq_true_eq] at h; rw [h]; rfl
  | k :: ks, [], h => by rw [srt_cons_nil] at h; cases h
  | k :: ks, c :: s, h => by
    rw [srt_cons, Bool.and_eq_true] at h
    rw [List.length_cons, List.length_cons, srt_len ks s h.2]
theorem okS_mk (o : Int) (t : List UInt8) (ks : List Nd) : okS (.mk o t ks) = if o = 22 then decide (t = []) && ks.all (fun k => !(decide (k.op = 22) || !okS k))
  else if o = 20 then decide (t = []) && (srt3' ks [101, 98] || srt3' ks [101, 98, 98])
  else if o = 18 then tx 2 t && srt3' ks [101]
  else if o = 21 then tx 2 t && srt3' ks [101, 101, 98]
  else decide (o = 19) && decide (t = []) && srt3' ks [101] := by
  rw [okS, okSL_eq]; unfold stB; rw [zip_all]; rfl
theorem okS_sf {n : Nd} (h : okS n = true) : SF n := by
  cases n with
  | mk o t ks =>
    rw [okS_mk] at h
    by_cases h22 : o = 22
    · rw [if_pos h22] at h
      subst h22
      simp only [Bool.and_eq_true, decide_eq_true_eq, List.all_eq_true, Bool.not_eq_true', Bool.or_eq_false_iff, decide_eq_false_iff_not, Bool.not_eq_false'] at h
      obtain ⟨rfl, h⟩ := h
      exact .block ks fun k hk => ⟨(h k hk).2, (h k hk).1⟩
    · rw [if_neg h22] at h
      by_cases h20 : o = 20
      · rw [if_pos h20] at h
        subst h20
        rw [Bool.and_eq_true, decide_eq_true_eq, Bool.or_eq_true] at h
        obtain ⟨rfl, h⟩ := h
        rcases h with h | h
        · have hl := srt_len _ _ h
          match ks, hl, h with
          | [e, b], _, h =>
            rw [srt_e, srt_b, srt_nil] at h
            simp only [Bool.and_eq_true, decide_eq_true_eq, and_true] at h
            exact .cond e b h.1 h.2
        · have hl := srt_len _ _ h
          match ks, hl, h with
          | [e, b, c], _, h =>
            rw [srt_e, srt_b, srt_b, srt_nil] at h
            simp only [Bool.and_eq_true, decide_eq_true_eq, and_true] at h
            exact .cond2 e b c h.1 h.2.1 h.2.2
      · rw [if_neg h20] at h
        by_cases h18 : o = 18
        · rw [if_pos h18, Bool.and_eq_true] at h
          subst h18
          have hl := srt_len _ _ h.2
          match ks, hl, h with
          | [e], _, h =>
            rw [srt_e, srt_nil] at h
            simp only [Bool.and_eq_true, decide_eq_true_eq, and_true] at h
            exact .set t e h.1 h.2
        · rw [if_neg h18] at h
          by_cases h21 : o = 21
          · rw [if_pos h21, Bool.and_eq_true] at h
            subst h21
            have hl := srt_len _ _ h.2
            match ks, hl, h with
            | [e, e2, b], _, h =>
              rw [srt_e, srt_e, srt_b, srt_nil] at h
              simp only [Bool.and_eq_true, decide_eq_true_eq, and_true] at h
              exact .loop t e e2 b h.1 h.2.1 h.2.2.1 h.2.2.2
          · rw [if_neg h21, Bool.and_eq_true, Bool.and_eq_true, decide_eq_true_eq, decide_eq_true_eq] at h
            obtain ⟨⟨rfl, rfl⟩, h⟩ := h
            have hl := srt_len _ _ h
            match ks, hl, h with
            | [e], _, h =>
              rw [srt_e, srt_nil] at h
              simp only [Bool.and_eq_true, decide_eq_true_eq, and_true] at h
              exact .show e h
/-- A statement is written. -/
def STw (n : Nd) : Prop := ∀ u bs, bs.length + (txtW (pnS n)).length ≤ 99000000 → CallOK Tryd.prog 15 [.ptr 81 0, .agg (ndA n)] (WrI u bs) (WrO (bs ++ txtW (pnS n)))
theorem flat_le (l : List Nd) {k : Nat} {n : Nd} (hn : l[k]? = some n) : (txtW ((l.take k).map pnS).flatten).length + (txtW (pnS n)).length ≤ (txtW (l.map pnS).flatten).length := by
  obtain ⟨hk, rfl⟩ := List.getElem?_eq_some_iff.1 hn
  have h := List.take_append_drop k l
  have h2 := List.drop_eq_getElem_cons hk
  rw [h2] at h
  have h3 : (txtW (l.map pnS).flatten).length = (txtW ((l.take k ++ l[k] :: l.drop (k + 1)).map pnS).flatten).length := by rw [h]
  rw [h3, List.map_append, List.map_cons, List.flatten_append, List.flatten_cons, txtW_app, txtW_app, List.length_append, List.length_append]
  omega
attribute [local irreducible] IntKind.wrap Go1 Reg WP thenK inBlk retQ retF RetF RetOK ResOK CallOK OpOK Sat
theorem st_all : ∀ (N : Nat) (n : Nd), cnt n < N → cnt n ≤ 1000000 → okS n = true → STw n := by
  intro N
  induction N with
  | zero => intro n hn; omega
  | succ N ih =>
    intro n hn hb hok u bs h
    have hone : ∀ (s : List UInt8), txtW [sg s] = s ++ [32] := fun s => by simp [txtW]
    cases okS_sf hok with
    | set t e ht he =>
      have i0 := cnt_kid (o := 18) (t := t) (k := e) (ks := [e]) (by simp)
      rw [pnS_set] at h ⊢
      rw [txtW_cons, txtW_cons, txtW_app, hone] at h ⊢
      simp only [List.length_append, List.length_cons, List.length_nil] at h
      have c1 := c_put2 u bs t [61] (by simp; omega)
      have c2 := ex_all (N + 1) e (by omega) (by omega) (.inl he) true (bs ++ (t ++ [32] ++ ([61] ++ [32]))) (by simp; omega)
      have c3 := c_put1 true (bs ++ (t ++ [32] ++ ([61] ++ [32])) ++ txtW (prE e)) [59] (by simp; omega)
      have q0 : ([e] : List Nd)[0]? = some e := rfl
      rw [ndA_B]
      show CallOK _ _ [.ptr 81 0, .agg [.c (.val (.int .i64 18)), .c (.val (str t)), .c (.sat (rowR 3 ndE [e]))]] _ _
      refine CallOK.fnA Tryd.func15 Tryd.results15 Tryd.ntmps15 rfl rfl rfl rfl rfl rfl rfl rfl (fun w0 T B E0 hB => ?_)
      refine SX.goG ?_
      exact retPr rfl (by simp)
    | «show» e he =>
      have i0 := cnt_kid (o := 19) (t := []) (k := e) (ks := [e]) (by simp)
      rw [pnS_show] at h ⊢
      rw [txtW_app, hone] at h ⊢
      simp only [List.length_append, List.length_cons, List.length_nil] at h
      have c2 := ex_all (N + 1) e (by omega) (by omega) (.inl he) u bs (by omega)
      have c3 := c_put1 true (bs ++ txtW (prE e)) [59] (by simp; omega)
      have q0 : ([e] : List Nd)[0]? = some e := rfl
      rw [ndA_B]
      show CallOK _ _ [.ptr 81 0, .agg [.c (.val (.int .i64 19)), .c (.val (str [])), .c (.sat (rowR 3 ndE [e]))]] _ _
      refine CallOK.fnA Tryd.func15 Tryd.results15 Tryd.ntmps15 rfl rfl rfl rfl rfl rfl rfl rfl (fun w0 T B E0 hB => ?_)
      refine SX.goG ?_
      exact retPr rfl (by simp)
    | cond e b he hb' =>
      have i0 := cnt_kid (o := 20) (t := []) (k := e) (ks := [e, b]) (by simp)
      have i1 := cnt_kid (o := 20) (t := []) (k := b) (ks := [e, b]) (by simp)
      rw [pnS_if] at h ⊢
      rw [txtW_cons, txtW_app] at h ⊢
      simp only [List.length_append, List.length_cons, List.length_nil] at h
      have c1 := c_put1 u bs [105, 102] (by simp; omega)
      have c2 := ex_all (N + 1) e (by omega) (by omega) (.inl he) true (bs ++ ([105, 102] ++ [32])) (by simp; omega)
      have c3 := ih b (by omega) (by omega) hb'.2 true (bs ++ ([105, 102] ++ [32]) ++ txtW (prE e)) (by simp; omega)
      have q0 : ([e, b] : List Nd)[0]? = some e := rfl
      have q1 : ([e, b] : List Nd)[1]? = some b := rfl
      have ql : ([e, b] : List Nd).length = 2 := rfl
      rw [ndA_B]
      show CallOK _ _ [.ptr 81 0, .agg [.c (.val (.int .i64 20)), .c (.val (str [])), .c (.sat (rowR 3 ndE [e, b]))]] _ _
      refine CallOK.fnA Tryd.func15 Tryd.results15 Tryd.ntmps15 rfl rfl rfl rfl rfl rfl rfl rfl (fun w0 T B E0 hB => ?_)
      refine SX.goG ?_
      exact retPr rfl (by simp)
    | cond2 e b c he hb' hc' =>
      have i0 := cnt_kid (o := 20) (t := []) (k := e) (ks := [e, b, c]) (by simp)
      have i1 := cnt_kid (o := 20) (t := []) (k := b) (ks := [e, b, c]) (by simp)
      have i2 := cnt_kid (o := 20) (t := []) (k := c) (ks := [e, b, c]) (by simp)
      rw [pnS_else] at h ⊢
      rw [txtW_cons, txtW_app, txtW_app, txtW_cons] at h ⊢
      simp only [List.length_append, List.length_cons, List.length_nil] at h
      have c1 := c_put1 u bs [105, 102] (by simp; omega)
      have c2 := ex_all (N + 1) e (by omega) (by omega) (.inl he) true (bs ++ ([105, 102] ++ [32])) (by simp; omega)
      have c3 := ih b (by omega) (by omega) hb'.2 true (bs ++ ([105, 102] ++ [32]) ++ txtW (prE e)) (by simp; omega)
      have c4 := c_put1 true (bs ++ ([105, 102] ++ [32]) ++ txtW (prE e) ++ txtW (pnS b)) [101, 108, 115, 101] (by simp; omega)
      have c5 := ih c (by omega) (by omega) hc'.2 true (bs ++ ([105, 102] ++ [32]) ++ txtW (prE e) ++ txtW (pnS b) ++ ([101, 108, 115, 101] ++ [32])) (by simp; omega)
      have q0 : ([e, b, c] : List Nd)[0]? = some e := rfl
      have q1 : ([e, b, c] : List Nd)[1]? = some b := rfl
      have q2 : ([e, b, c] : List Nd)[2]? = some c := rfl
      have ql : ([e, b, c] : List Nd).length = 3 := rfl
      rw [ndA_B]
      show CallOK _ _ [.ptr 81 0, .agg [.c (.val (.int .i64 20)), .c (.val (str [])), .c (.sat (rowR 3 ndE [e, b, c]))]] _ _
      refine CallOK.fnA Tryd.func15 Tryd.results15 Tryd.ntmps15 rfl rfl rfl rfl rfl rfl rfl rfl (fun w0 T B E0 hB => ?_)
      refine SX.goG ?_
      exact retPr rfl (by simp)
    | loop t e e2 b ht he he2 hb' =>
      have i0 := cnt_kid (o := 21) (t := t) (k := e) (ks := [e, e2, b]) (by simp)
      have i1 := cnt_kid (o := 21) (t := t) (k := e2) (ks := [e, e2, b]) (by simp)
      have i2 := cnt_kid (o := 21) (t := t) (k := b) (ks := [e, e2, b]) (by simp)
      rw [pnS_for] at h ⊢
      rw [txtW_cons, txtW_cons, txtW_cons, txtW_app, txtW_cons, txtW_app] at h ⊢
      simp only [List.length_append, List.length_cons, List.length_nil] at h
      have c1 := c_put3 u bs [102, 111, 114] t [61] (by simp; omega)
      have c2 := ex_all (N + 1) e (by omega) (by omega) (.inl he) true (bs ++ ([102, 111, 114] ++ [32] ++ (t ++ [32]) ++ ([61] ++ [32]))) (by simp; omega)
      have c3 := c_put1 true (bs ++ ([102, 111, 114] ++ [32] ++ (t ++ [32]) ++ ([61] ++ [32])) ++ txtW (prE e)) [46, 46] (by simp; omega)
      have c4 := ex_all (N + 1) e2 (by omega) (by omega) (.inl he2) true (bs ++ ([102, 111, 114] ++ [32] ++ (t ++ [32]) ++ ([61] ++ [32])) ++ txtW (prE e) ++ ([46, 46] ++ [32])) (by simp; omega)
      have c5 := ih b (by omega) (by omega) hb'.2 true (bs ++ ([102, 111, 114] ++ [32] ++ (t ++ [32]) ++ ([61] ++ [32])) ++ txtW (prE e) ++ ([46, 46] ++ [32]) ++ txtW (prE e2)) (by simp; omega)
      have q0 : ([e, e2, b] : List Nd)[0]? = some e := rfl
      have q1 : ([e, e2, b] : List Nd)[1]? = some e2 := rfl
      have q2 : ([e, e2, b] : List Nd)[2]? = some b := rfl
      have ql : ([e, e2, b] : List Nd).length = 3 := rfl
      rw [ndA_B]
      show CallOK _ _ [.ptr 81 0, .agg [.c (.val (.int .i64 21)), .c (.val (str t)), .c (.sat (rowR 3 ndE [e, e2, b]))]] _ _
      refine CallOK.fnA Tryd.func15 Tryd.results15 Tryd.ntmps15 rfl rfl rfl rfl rfl rfl rfl rfl (fun w0 T B E0 hB => ?_)
      refine SX.goG ?_
      exact retPr rfl (by simp)
    | block ks hk =>
      rw [pnS_block] at h ⊢
      rw [txtW_cons, txtW_app, hone] at h ⊢
      simp only [List.length_append, List.length_cons, List.length_nil] at h
      have hkl := kids_cnt (o := 22) (t := []) (ks := ks)
      have c1 := c_put1 u bs [123] (by simp; omega)
      rw [ndA_B]
      show CallOK _ _ [.ptr 81 0, .agg [.c (.val (.int .i64 22)), .c (.val (str [])), .c (.sat (rowR 3 ndE ks))]] _ _
      refine CallOK.fnA Tryd.func15 Tryd.results15 Tryd.ntmps15 rfl rfl rfl rfl rfl rfl rfl rfl (fun w0 T B E0 hB => ?_)
      refine SX.goG ?_
      refine W.loop2 (fun (k : Nat) (b : List UInt8) => k ≤ ks.length ∧ b = bs ++ ([123] ++ [32]) ++ txtW ((ks.take k).map pnS).flatten) (fun k _ => [(0, .ptr 81 0), (97, .r (rowR 3 ndE ks)), (98, .v (.int .i64 (ks.length : Int))), (99, .v (.int .i64 (k : Int)))]) (fun _ b => [(81, .abs (PrE true b))]) (fun k _ => ks.length - k) 0 (bs ++ ([123] ++ [32])) ⟨Nat.zero_le _, by simp [txtW]⟩ (fun k b ⟨hk', hbb⟩ => ?_)
      by_cases hlt : k < ks.length
      · obtain ⟨x, hx⟩ : ∃ x, ks[k]? = some x := ⟨_, List.getElem?_eq_getElem hlt⟩
        have hmem := List.mem_of_getElem? hx
        have hle := flat_le ks hx
        have hbl : b.length = bs.length + 2 + (txtW ((ks.take k).map pnS).flatten).length := by rw [hbb]; simp; omega
        have i0 := cnt_kid (o := 22) (t := []) hmem
        have c2 := ih x (by omega) (by omega) (hk x hmem).1 true b (by omega)
        have ht : ks.take (k + 1) = ks.take k ++ [x] := by
          rw [List.take_add_one, hx]; rfl
        refine SX.goG ?_
        refine W.next2 (k + 1) (b ++ txtW (pnS x)) ⟨hlt, by rw [ht, hbb]; simp [txtW]⟩ (by omega)
      · obtain rfl : k = ks.length := by omega
        rw [List.take_length] at hbb
        have hbl : b.length = bs.length + 2 + (txtW (ks.map pnS).flatten).length := by rw [hbb]; simp; omega
        have c3 := c_put1 true b [125] (by simp; omega)
        refine SX.goG ?_
        exact retPr rfl (by rw [hbb]; simp)
end Go.Proofs.YtlojipipibebaaaDoor
/- What may be printed: the parser's own tests of nodes. -/
set_option linter.unusedVariables false
set_option linter.unusedSimpArgs false
namespace Go.Proofs.YtlojipipibebaaaDoor
open Go.RowKit SX
mutual
/-- Texts of at most 100 bytes. -/
def txN : Nd → Bool
  | .mk _ t ks => decide (t.length ≤ 100) && txL ks
def txL : List Nd → Bool
  | [] => true
  | k :: ks => txN k && txL ks
end
theorem txL_all : ∀ ks : List Nd, txL ks = ks.all txN
  | [] => by rw [txL]; rfl
  | k :: ks => by rw [txL, txL_all ks, List.all_cons]
theorem txN_mk (o : Int) (t : List UInt8) (ks : List Nd) : txN (.mk o t ks) = (decide (t.length ≤ 100) && ks.all txN) := by rw [txN, txL_all]
theorem rep_e (n : Nat) : Lib.repeatL [101] n = List.replicate n 101 := by
  induction n with
  | zero => rfl
  | succ n ih => first | (rw [Lib.repeatL, ih]; rfl) | simp [Lib.repeatL, ih, List.replicate_succ]
theorem srt_all : ∀ ks : List Nd, srt3' ks (List.replicate ks.length 101) = ks.all okE
  | [] => rfl
  | k :: ks => by rw [List.length_cons, List.replicate_succ, srt_e, srt_all ks, List.all_cons]
theorem srt_ne (ks : List Nd) (s : List UInt8) (h : ks.length ≠ s.length) : srt3' ks s = false := by
  cases hb : srt3' ks s with
  | false => rfl
  | true => exact absurd (srt_len ks s hb) h
def OKE (n : Nd) : Prop := PureOK Tryd.prog 44 [.agg (ndA n)] (.v (.bool (okE n)))
def OKS (n : Nd) : Prop := PureOK Tryd.prog 14 [.agg (ndA n)] (.v (.bool (okS n)))
def sidesL : List Value := [str [], str [], str [], str [101], str [101, 101], str [101, 101], str [101, 101], str [101, 101], str [101, 101], str [101, 101], str [101, 101], str [101, 101], str [101, 101], str [], str [], str [], str [], str [], str [101], str [101], str [101, 98], str [101, 101, 98], str []]
theorem sd_at {o : Int} (h : 3 ≤ o ∧ o ≤ 12) : ∃ (i : Nat) (s : List UInt8), o = (i : Int) ∧ i < 23 ∧ sidesL[i]? = some (str s) ∧ (s.length = if o = 3 then 1 else 2) := by
  have hc : o = 3 ∨ o = 4 ∨ o = 5 ∨ o = 6 ∨ o = 7 ∨ o = 8 ∨ o = 9 ∨ o = 10 ∨ o = 11 ∨ o = 12 := by omega
  rcases hc with rfl | rfl | rfl | rfl | rfl | rfl | rfl | rfl | rfl | rfl
  all_goals exact ⟨_, _, rfl, by decide, rfl, by decide⟩
attribute [local irreducible] IntKind.wrap Go1 Reg WP thenK inBlk retQ retF RetF RetOK ResOK CallOK OpOK Sat
instance con_text (k : Int) (s : List UInt8) : Con Tryd.prog 27 [.v (.int .i64 k), .v (str s)] (s.length ≤ 1000) (.v (.bool (tx k s))) := ⟨fun h => by
  have c : PureOK Tryd.prog 19 [.agg [.c (.val (.int .i64 k)), .c (.val (str s)), .c (.val (.int .i64 0))]] (.v (.bool (isTok ⟨k, s, 0⟩))) := (con_Is ⟨k, s, 0⟩).h (by show s.length ≤ _; omega)
  have c2 := con_own s
  unfold tx
  cases h1 : isTok ⟨k, s, 0⟩ with
  | true =>
    rw [h1] at c
    refine PureOK.fnF Tryd.func27 Tryd.results27 Tryd.ntmps27 rfl rfl rfl (by simp [AV.ids, AV0.ids, Atom.ids]) rfl (fun w0 T B E0 hB => ?_)
    refine SX.goG ?_
    refine retB ?_
    simp
  | false =>
    rw [h1] at c
    refine PureOK.fnF Tryd.func27 Tryd.results27 Tryd.ntmps27 rfl rfl rfl (by simp [AV.ids, AV0.ids, Atom.ids]) rfl (fun w0 T B E0 hB => ?_)
    refine SX.goG ?_
    refine retB ?_
    simp⟩
theorem c_manyB (o : Int) (n : Nat) (hn : n ≤ 1000000) : PureOK Tryd.prog 59 [.v (.int .i64 o), .v (.int .i64 (n : Int))] (.v (.bool (manyB o n))) := by
  unfold manyB
  by_cases h1 : o = 13 ∨ o = 16
  · rw [if_pos h1]
    rcases h1 with h1 | h1
    all_goals
      refine PureOK.fnF Tryd.func59 Tryd.results59 Tryd.ntmps59 rfl rfl rfl (by simp [AV.ids, AV0.ids, Atom.ids]) rfl (fun w0 T B E0 hB => ?_)
      refine SX.goG ?_
      exact retB rfl
  · rw [if_neg h1]
    by_cases h2 : o = 17
    · rw [if_pos h2]
      by_cases h3 : n = 2
      · refine PureOK.fnF Tryd.func59 Tryd.results59 Tryd.ntmps59 rfl rfl rfl (by simp [AV.ids, AV0.ids, Atom.ids]) rfl (fun w0 T B E0 hB => ?_)
        refine SX.goG ?_
        refine retB ?_
        simp [h3]
      · refine PureOK.fnF Tryd.func59 Tryd.results59 Tryd.ntmps59 rfl rfl rfl (by simp [AV.ids, AV0.ids, Atom.ids]) rfl (fun w0 T B E0 hB => ?_)
        refine SX.goG ?_
        refine retB ?_
        simp [h3]; omega
    · rw [if_neg h2]
      by_cases h3 : 3 ≤ o ∧ o ≤ 12
      · obtain ⟨i, s, hi, hi2, hs, hlen⟩ := sd_at h3
        unfold sidesL at hs
        obtain ⟨h3a, h3b⟩ := h3
        refine PureOK.fnF Tryd.func59 Tryd.results59 Tryd.ntmps59 rfl rfl rfl (by simp [AV.ids, AV0.ids, Atom.ids]) rfl (fun w0 T B E0 hB => ?_)
        refine SX.goG ?_
        refine retB ?_
        by_cases h4 : o = 3
        · rw [if_pos h4] at hlen ⊢; rw [hlen]; simp; omega
        · rw [if_neg h4] at hlen ⊢; rw [hlen, show decide (4 ≤ o ∧ o ≤ 12) = true from decide_eq_true (by omega), Bool.true_and, decide_eq_decide]; omega
      · rw [if_neg (by omega), show decide (4 ≤ o ∧ o ≤ 12) = false by simp; omega]
        by_cases h4 : 3 ≤ o
        · refine PureOK.fnF Tryd.func59 Tryd.results59 Tryd.ntmps59 rfl rfl rfl (by simp [AV.ids, AV0.ids, Atom.ids]) rfl (fun w0 T B E0 hB => ?_)
          refine SX.goG ?_
          exact retB rfl
        · refine PureOK.fnF Tryd.func59 Tryd.results59 Tryd.ntmps59 rfl rfl rfl (by simp [AV.ids, AV0.ids, Atom.ids]) rfl (fun w0 T B E0 hB => ?_)
          refine SX.goG ?_
          exact retB rfl
instance con_Repeat (n : Nat) : Con Tryd.prog 60 [.v (str [101]), .v (.int .i64 (n : Int))] (n ≤ 1000000) (.v (str (List.replicate n 101))) := ⟨fun h =>
  PureOK.of_calls ⟨_, Tryd.func60, rfl, rfl⟩ rfl fun E S w vs hl hv => by
    match vs, hv with
    | [v1, v2], ⟨h1, h2, _⟩ =>
      have h1 : v1 = str [101] := h1
      have h2 : v2 = .int .i64 (n : Int) := h2
      subst h1 h2
      have hsz : (⟨⟨[101]⟩⟩ : ByteArray).size = 1 := rfl
      refine (Tryd.strings_Repeat ⟨⟨[101]⟩⟩ n w (by omega) (by rw [hsz]; omega)).mono fun e w' ⟨g1, g2⟩ => ⟨str (List.replicate n 101), ?_, rfl, Off.of_below g2⟩
      rw [g1]
      show Ending.returned (.string ⟨(Lib.repeatL [101] n).toArray⟩) = _
      rw [rep_e]⟩
theorem srt_step {l : List Nd} {s : List UInt8} {k : Nat} {n : Nd} {c : UInt8} (hn : l[k]? = some n) (hc : s[k]? = some c) : srt3' (l.drop k) (s.drop k) = (!(decide (c = 101) && !okE n || decide (c = 98) && !(decide (n.op = 22) && okS n)) && srt3' (l.drop (k + 1)) (s.drop (k + 1))) := by
  have h1 : l.drop k = n :: l.drop (k + 1) := by
    obtain ⟨h, rfl⟩ := List.getElem?_eq_some_iff.1 hn; exact List.drop_eq_getElem_cons h
  have h2 : s.drop k = c :: s.drop (k + 1) := by
    obtain ⟨h, rfl⟩ := List.getElem?_eq_some_iff.1 hc; exact List.drop_eq_getElem_cons h
  rw [h1, h2, srt_cons]
theorem byt_at {s : List UInt8} {k : Nat} {c : UInt8} (hc : s[k]? = some c) : byt s k = c := by
  unfold byt; rw [List.getD_eq_getElem?_getD, hc]; rfl
theorem c_sorted (l : List Nd) (s : List UInt8) (hE : ∀ n ∈ l, OKE n) (hS : ∀ n ∈ l, OKS n) (hl : l.length ≤ 1000000) (hs : s.length ≤ 1000000) :
    PureOK Tryd.prog 26 [.r (rowR 3 ndE l), .v (str s)] (.v (.bool (srt3' l s))) := by
  by_cases hlen : l.length = s.length
  · refine PureOK.fnF Tryd.func26 Tryd.results26 Tryd.ntmps26 rfl rfl rfl (by simp [AV.ids, AV0.ids, Atom.ids]) rfl (fun w0 T B E0 hB => ?_)
    refine SX.goG ?_
    refine W.loop (fun k : Nat => k ≤ l.length ∧ srt3' (l.drop k) (s.drop k) = srt3' l s) (fun k => [(0, .r (rowR 3 ndE l)), (1, .v (str s)), (12, .r (rowR 3 ndE l)), (13, .v (.int .i64 (l.length : Int))), (14, .v (.int .i64 (k : Int)))]) (fun _ => []) (fun k => l.length - k) 0 ⟨Nat.zero_le _, rfl⟩ (fun k ⟨hk, he⟩ => ?_)
    by_cases hlt : k < l.length
    · obtain ⟨n, hn⟩ : ∃ n, l[k]? = some n := ⟨_, List.getElem?_eq_getElem hlt⟩
      obtain ⟨c, hc⟩ : ∃ c, s[k]? = some c := ⟨_, List.getElem?_eq_getElem (by omega)⟩
      have hb := byt_at hc
      have c1 := hE n (List.mem_of_getElem? hn)
      have c2 := hS n (List.mem_of_getElem? hn)
      unfold OKE at c1
      unfold OKS at c2
      rw [srt_step hn hc] at he
      have hz : ∀ d : Nat, d < 256 → ((c = UInt8.ofNat d) ↔ (((byt s k).toNat : Nat) : Int) = (d : Int)) := fun d hd => by
        rw [hb]
        constructor
        · rintro rfl; simp; omega
        · intro h
          have h1 : c.toNat = d := by omega
          rw [← h1]; simp
      have z1 := hz 101 (by omega)
      have z2 := hz 98 (by omega)
      have z1 : (c = 101) ↔ (((byt s k).toNat : Nat) : Int) = 101 := z1
      have z2 : (c = 98) ↔ (((byt s k).toNat : Nat) : Int) = 98 := z2
      by_cases e1 : c = 101
      · have y1 := z1.1 e1
        cases ho : okE n with
        | true =>
          rw [ho] at c1 he
          refine SX.goG ?_
          exact W.next (k + 1) ⟨hlt, by rw [← he, e1]; simp⟩ (by omega)
        | false =>
          rw [ho] at c1 he
          refine SX.goG ?_
          refine retB ?_
          rw [← he, e1]; rfl
      · have y1 := fun h => e1 (z1.2 h)
        by_cases e2 : c = 98
        · have y2 := z2.1 e2
          by_cases h22 : n.op = 22
          · cases ho : okS n with
            | true =>
              rw [ho] at c2 he
              refine SX.goG ?_
              exact W.next (k + 1) ⟨hlt, by rw [← he, e2, h22]; simp⟩ (by omega)
            | false =>
              rw [ho] at c2 he
              refine SX.goG ?_
              refine retB ?_
              rw [← he, e2, h22]; rfl
          · refine SX.goG ?_
            refine retB ?_
            rw [← he, e2, decide_eq_false h22]; rfl
        · have y2 := fun h => e2 (z2.2 h)
          refine SX.goG ?_
          exact W.next (k + 1) ⟨hlt, by rw [← he, decide_eq_false e1, decide_eq_false e2]; simp⟩ (by omega)
    · obtain rfl : k = l.length := by omega
      rw [List.drop_length, List.drop_eq_nil_of_le (by omega)] at he
      refine SX.goG ?_
      refine retB ?_
      rw [← he]; rfl
  · rw [srt_ne _ _ hlen]
    refine PureOK.fnF Tryd.func26 Tryd.results26 Tryd.ntmps26 rfl rfl rfl (by simp [AV.ids, AV0.ids, Atom.ids]) rfl (fun w0 T B E0 hB => ?_)
    refine SX.goG ?_
    exact retB rfl
end Go.Proofs.YtlojipipibebaaaDoor
/- What may be printed: expressions, statements. -/
set_option linter.unusedVariables false
set_option linter.unusedSimpArgs false
namespace Go.Proofs.YtlojipipibebaaaDoor
open Go.RowKit SX
/-- The first of a list that is so, or -1. -/
def fiN (p : Nd → Bool) : List Nd → Nat → Int
  | [], _ => -1
  | r :: l, i => if p r then (i : Int) else fiN p l (i + 1)
theorem fiN_drop {p : Nd → Bool} {l : List Nd} {k : Nat} {r : Nd} (h : l[k]? = some r) : fiN p (l.drop k) k = if p r then (k : Int) else fiN p (l.drop (k + 1)) (k + 1) := by
  obtain ⟨h', rfl⟩ := List.getElem?_eq_some_iff.1 h
  rw [List.drop_eq_getElem_cons h']; rfl
theorem fiN_any (p : Nd → Bool) : ∀ (l : List Nd) (i : Nat), decide (¬ fiN p l i < 0) = l.any p
  | [], i => rfl
  | r :: l, i => by
    unfold fiN
    rw [List.any_cons]
    cases hp : p r with
    | true => rw [if_pos rfl, Bool.true_or]; exact decide_eq_true (by omega)
    | false => rw [if_neg (by decide), Bool.false_or]; exact fiN_any p l (i + 1)
theorem fnArg {f : FuncId} {E : Env} {S : Nat → Prop} {w : World} {v : Value} (h : (AV.it (.one (.clo f []))).has E S w v) : (AV.it (.one (.c (.sat (cloR f [] []))))).has E S w v :=
  ⟨[], [], h, trivial, trivial⟩
theorem weakArgs {P : Program} {f : FuncId} {args args' : List AV} {r : AV} (h : PureOK P f args' r) (hi : ∀ E S w vs, All2 (AV.has E S w) args vs → All2 (AV.has E S w) args' vs) : PureOK P f args r := h.args hi
theorem isE (l : List Nd) : l.isEmpty = decide (l.length = 0) := by cases l <;> simp
attribute [local irreducible] IntKind.wrap Go1 Reg WP thenK inBlk retQ retF RetF RetOK ResOK CallOK OpOK Sat
theorem con_IndexN (l : List Nd) (x : CA) (p : Nd → Bool) (hx : ∀ n ∈ l, FnV Tryd.prog x [.agg (ndA n)] (.v (.bool (p n)))) (hl : l.length ≤ 1000000) (hx1 : x.oneB = true) :
    PureOK Tryd.prog 43 [.r (rowR 3 ndE l), .it (.one (.c x))] (.v (.int .i64 (fiN p l 0))) := by
  refine PureOK.fnF Tryd.func43 Tryd.results43 Tryd.ntmps43 rfl rfl rfl (by simp [AV.ids, AV0.ids, Atom.ids]) rfl (fun w0 T B E0 hB => ?_)
  refine SX.goG ?_
  refine W.loop (fun k => k ≤ l.length ∧ fiN p (l.drop k) k = fiN p l 0) (fun k => [(0, .r (rowR 3 ndE l)), (1, .it (.one (.c x))), (6, .r (rowR 3 ndE l)), (7, .v (.int .i64 (l.length : Int))), (8, .v (.int .i64 (k : Int)))]) (fun _ => []) (fun k => l.length - k) 0 ⟨Nat.zero_le _, rfl⟩ (fun k ⟨hk, he⟩ => ?_)
  by_cases h : k < l.length
  · obtain ⟨r, hr⟩ : ∃ r, l[k]? = some r := ⟨_, List.getElem?_eq_getElem h⟩
    have hf := hx r (List.mem_of_getElem? hr)
    rw [fiN_drop hr] at he
    cases hp : p r with
    | true =>
      rw [hp] at hf he
      refine SX.goG ?_
      refine retI ?_; rw [← he]; rfl
    | false =>
      rw [hp] at hf he
      refine SX.goG ?_
      exact W.next (k + 1) ⟨h, he⟩ (by omega)
  · obtain rfl : k = l.length := by omega
    rw [List.drop_length] at he
    refine SX.goG ?_
    refine retI ?_; rw [← he]; rfl
theorem con_ContainsN (l : List Nd) (f : FuncId) (p : Nd → Bool) (hx : ∀ n ∈ l, PureOK Tryd.prog f [.agg (ndA n)] (.v (.bool (p n)))) (hl : l.length ≤ 1000000) :
    PureOK Tryd.prog 24 [.r (rowR 3 ndE l), .it (.one (.clo f []))] (.v (.bool (l.any p))) := by
  have c : PureOK Tryd.prog 43 [.r (rowR 3 ndE l), .it (.one (.clo f []))] (.v (.int .i64 (fiN p l 0))) :=
    weakArgs (con_IndexN l (.sat (cloR f [] [])) p (fun n h => FnV.const (hx n h)) hl rfl) fun E S w vs hv => by
      match vs, hv with
      | [u1, u2], ⟨h1, h2, _⟩ => exact ⟨h1, fnArg h2, trivial⟩
  rw [← fiN_any p l 0]
  refine PureOK.fnF Tryd.func24 Tryd.results24 Tryd.ntmps24 rfl rfl rfl (by simp [AV.ids, AV0.ids, Atom.ids]) rfl (fun w0 T B E0 hB => ?_)
  refine SX.goG ?_
  refine retB ?_
  rw [decide_eq_decide]; omega
/-- Not a matrix's row. -/
theorem c_rows1 (n : Nd) (hE : ∀ k ∈ n.kids, OKE k) (hS : ∀ k ∈ n.kids, OKS k) (hl : n.kids.length ≤ 1000000) : PureOK Tryd.prog 68 [.agg (ndB n)] (.v (.bool (!okR n))) := by
  have c1 := (con_Repeat n.kids.length).h hl
  have c2 := c_sorted n.kids (List.replicate n.kids.length 101) hE hS hl (by simp; omega)
  rw [srt_all] at c2
  rw [okR_eq]
  by_cases h1 : n.op = 15
  · by_cases h2 : n.text = []
    · have y2 : decide (n.text = []) = true := decide_eq_true h2
      by_cases h3 : n.kids.length = 0
      · have y3 : n.kids.isEmpty = true := by rw [isE]; exact decide_eq_true h3
        refine PureOK.fnF Tryd.func68 Tryd.results68 Tryd.ntmps68 rfl rfl rfl (by simp [AV.ids, AV0.ids, Atom.ids]) rfl (fun w0 T B E0 hB => ?_)
        refine SX.goG ?_
        refine retB ?_
        rw [y3]; simp
      · have y3 : n.kids.isEmpty = false := by rw [isE]; exact decide_eq_false h3
        refine PureOK.fnF Tryd.func68 Tryd.results68 Tryd.ntmps68 rfl rfl rfl (by simp [AV.ids, AV0.ids, Atom.ids]) rfl (fun w0 T B E0 hB => ?_)
        refine SX.goG ?_
        refine retB ?_
        rw [y3, y2, decide_eq_true h1]; simp
    · have y2 : decide (n.text = []) = false := decide_eq_false h2
      refine PureOK.fnF Tryd.func68 Tryd.results68 Tryd.ntmps68 rfl rfl rfl (by simp [AV.ids, AV0.ids, Atom.ids]) rfl (fun w0 T B E0 hB => ?_)
      refine SX.goG ?_
      refine retB ?_
      rw [y2]; simp
  · refine PureOK.fnF Tryd.func68 Tryd.results68 Tryd.ntmps68 rfl rfl rfl (by simp [AV.ids, AV0.ids, Atom.ids]) rfl (fun w0 T B E0 hB => ?_)
    refine SX.goG ?_
    refine retB ?_
    rw [decide_eq_false h1]; simp
theorem c_rows (l : List Nd) (h : ∀ n ∈ l, PureOK Tryd.prog 68 [.agg (ndA n)] (.v (.bool (!okR n)))) (hl : l.length ≤ 1000000) : PureOK Tryd.prog 58 [.r (rowR 3 ndE l)] (.v (.bool (!l.isEmpty && l.all okR))) := by
  have c := con_ContainsN l 68 (fun n => !okR n) h hl
  have e : l.any (fun n => !okR n) = !l.all okR := by rw [List.not_all_eq_any_not]
  rw [e] at c
  by_cases h3 : l.length = 0
  · have y3 : l.isEmpty = true := by rw [isE]; exact decide_eq_true h3
    refine PureOK.fnF Tryd.func58 Tryd.results58 Tryd.ntmps58 rfl rfl rfl (by simp [AV.ids, AV0.ids, Atom.ids]) rfl (fun w0 T B E0 hB => ?_)
    refine SX.goG ?_
    refine retB ?_
    rw [y3]; rfl
  · have y3 : l.isEmpty = false := by rw [isE]; exact decide_eq_false h3
    refine PureOK.fnF Tryd.func58 Tryd.results58 Tryd.ntmps58 rfl rfl rfl (by simp [AV.ids, AV0.ids, Atom.ids]) rfl (fun w0 T B E0 hB => ?_)
    refine SX.goG ?_
    refine retB ?_
    rw [y3]; simp
theorem txN_of {n : Nd} (h : txN n = true) : n.text.length ≤ 100 ∧ ∀ k ∈ n.kids, txN k = true := by
  cases n with
  | mk o t ks =>
    rw [txN_mk, Bool.and_eq_true, decide_eq_true_eq, List.all_eq_true] at h
    exact h
theorem cnt_kidN {k n : Nd} (h : k ∈ n.kids) : cnt k < cnt n := by
  cases n with
  | mk o t ks => exact cnt_kid h
theorem kids_cntN (n : Nd) : n.kids.length ≤ cnt n := by
  cases n with
  | mk o t ks => exact kids_cnt
/-- An expression's test. -/
theorem c_expT (n : Nd) (ht : txN n = true) (hl : n.kids.length ≤ 1000000) (hE : ∀ k ∈ n.kids, OKE k) (hS : ∀ k ∈ n.kids, OKS k) (hR : ∀ k ∈ n.kids, PureOK Tryd.prog 68 [.agg (ndA k)] (.v (.bool (!okR k)))) : OKE n := by
  obtain ⟨htl, _⟩ := txN_of ht
  unfold OKE
  rw [okE_eq, ndA_B]
  by_cases h12 : n.op = 1 ∨ n.op = 2
  · rw [if_pos h12]
    have c1 : PureOK Tryd.prog 27 [.v (.int .i64 n.op), .v (str n.text)] (.v (.bool (tx n.op n.text))) := (con_text n.op n.text).h (by omega)
    have e := isE n.kids
    cases htx : tx n.op n.text with
    | true =>
      rw [htx] at c1
      rcases h12 with h | h
      all_goals
        refine PureOK.fnF Tryd.func44 Tryd.results44 Tryd.ntmps44 rfl rfl rfl (by simp [AV.ids, AV0.ids, Atom.ids]) rfl (fun w0 T B E0 hB => ?_)
        refine SX.goG ?_
        refine retB ?_
        rw [e, Bool.true_and, decide_eq_decide]; omega
    | false =>
      rw [htx] at c1
      rcases h12 with h | h
      all_goals
        refine PureOK.fnF Tryd.func44 Tryd.results44 Tryd.ntmps44 rfl rfl rfl (by simp [AV.ids, AV0.ids, Atom.ids]) rfl (fun w0 T B E0 hB => ?_)
        refine SX.goG ?_
        refine retB ?_
        rfl
  · rw [if_neg h12]
    by_cases h14 : n.op = 14
    · rw [if_pos h14]
      have c1 := c_rows n.kids hR hl
      by_cases h2 : n.text = []
      · have y2 : decide (n.text = []) = true := decide_eq_true h2
        refine PureOK.fnF Tryd.func44 Tryd.results44 Tryd.ntmps44 rfl rfl rfl (by simp [AV.ids, AV0.ids, Atom.ids]) rfl (fun w0 T B E0 hB => ?_)
        refine SX.goG ?_
        refine retB ?_
        rw [y2]; rfl
      · have y2 : decide (n.text = []) = false := decide_eq_false h2
        refine PureOK.fnF Tryd.func44 Tryd.results44 Tryd.ntmps44 rfl rfl rfl (by simp [AV.ids, AV0.ids, Atom.ids]) rfl (fun w0 T B E0 hB => ?_)
        refine SX.goG ?_
        refine retB ?_
        rw [y2]; rfl
    · rw [if_neg h14]
      have c1 := c_manyB n.op n.kids.length hl
      have c2 := (con_Repeat n.kids.length).h hl
      have c3 := c_sorted n.kids (List.replicate n.kids.length 101) hE hS hl (by simp; omega)
      rw [srt_all] at c3
      cases hm : manyB n.op n.kids.length with
      | false =>
        rw [hm] at c1
        refine PureOK.fnF Tryd.func44 Tryd.results44 Tryd.ntmps44 rfl rfl rfl (by simp [AV.ids, AV0.ids, Atom.ids]) rfl (fun w0 T B E0 hB => ?_)
        refine SX.goG ?_
        refine retB ?_
        rfl
      | true =>
        rw [hm] at c1
        by_cases h13 : n.op = 13
        · rw [if_pos h13]
          have c4 : PureOK Tryd.prog 27 [.v (.int .i64 2), .v (str n.text)] (.v (.bool (tx 2 n.text))) := (con_text 2 n.text).h (by omega)
          cases htx : tx 2 n.text with
          | true =>
            rw [htx] at c4
            refine PureOK.fnF Tryd.func44 Tryd.results44 Tryd.ntmps44 rfl rfl rfl (by simp [AV.ids, AV0.ids, Atom.ids]) rfl (fun w0 T B E0 hB => ?_)
            refine SX.goG ?_
            refine retB ?_
            rfl
          | false =>
            rw [htx] at c4
            refine PureOK.fnF Tryd.func44 Tryd.results44 Tryd.ntmps44 rfl rfl rfl (by simp [AV.ids, AV0.ids, Atom.ids]) rfl (fun w0 T B E0 hB => ?_)
            refine SX.goG ?_
            refine retB ?_
            rfl
        · rw [if_neg h13]
          by_cases h2 : n.text = []
          · have y2 : decide (n.text = []) = true := decide_eq_true h2
            refine PureOK.fnF Tryd.func44 Tryd.results44 Tryd.ntmps44 rfl rfl rfl (by simp [AV.ids, AV0.ids, Atom.ids]) rfl (fun w0 T B E0 hB => ?_)
            refine SX.goG ?_
            refine retB ?_
            rw [y2]; rfl
          · have y2 : decide (n.text = []) = false := decide_eq_false h2
            refine PureOK.fnF Tryd.func44 Tryd.results44 Tryd.ntmps44 rfl rfl rfl (by simp [AV.ids, AV0.ids, Atom.ids]) rfl (fun w0 T B E0 hB => ?_)
            refine SX.goG ?_
            refine retB ?_
            rw [y2]; rfl
end Go.Proofs.YtlojipipibebaaaDoor
/- What may be printed: statements; Print. -/
set_option linter.unusedVariables false
set_option linter.unusedSimpArgs false
namespace Go.Proofs.YtlojipipibebaaaDoor
open Go.RowKit SX
theorem sd18 : sidesL[18]? = some (str [101]) := rfl
theorem sd21 : sidesL[21]? = some (str [101, 101, 98]) := rfl
attribute [local irreducible] IntKind.wrap Go1 Reg WP thenK inBlk retQ retF RetF RetOK ResOK CallOK OpOK Sat
/-- A block, or no statement. -/
theorem c_st1 (n : Nd) (h : OKS n) : PureOK Tryd.prog 25 [.agg (ndA n)] (.v (.bool (decide (n.op = 22) || !okS n))) := by
  unfold OKS at h
  rw [ndA_B] at h ⊢
  by_cases h1 : n.op = 22
  · refine PureOK.fnF Tryd.func25 Tryd.results25 Tryd.ntmps25 rfl rfl rfl (by simp [AV.ids, AV0.ids, Atom.ids]) rfl (fun w0 T B E0 hB => ?_)
    refine SX.goG ?_
    refine retB ?_
    rw [decide_eq_true h1]; rfl
  · refine PureOK.fnF Tryd.func25 Tryd.results25 Tryd.ntmps25 rfl rfl rfl (by simp [AV.ids, AV0.ids, Atom.ids]) rfl (fun w0 T B E0 hB => ?_)
    refine SX.goG ?_
    refine retB ?_
    rw [decide_eq_false h1]; rfl
theorem c_stT (n : Nd) (ht : txN n = true) (hl : n.kids.length ≤ 1000000) (hE : ∀ k ∈ n.kids, OKE k) (hS : ∀ k ∈ n.kids, OKS k) : OKS n := by
  obtain ⟨htl, _⟩ := txN_of ht
  unfold OKS
  rw [okS_eq, ndA_B]
  by_cases h22 : n.op = 22
  · rw [if_pos h22]
    have c := con_ContainsN n.kids 25 (fun n => decide (n.op = 22) || !okS n) (fun k hk => c_st1 k (hS k hk)) hl
    have e : n.kids.any (fun n => decide (n.op = 22) || !okS n) = !n.kids.all (fun k => !(decide (k.op = 22) || !okS k)) := by rw [List.not_all_eq_any_not]; simp
    rw [e] at c
    by_cases h2 : n.text = []
    · have y2 : decide (n.text = []) = true := decide_eq_true h2
      refine PureOK.fnF Tryd.func14 Tryd.results14 Tryd.ntmps14 rfl rfl rfl (by simp [AV.ids, AV0.ids, Atom.ids]) rfl (fun w0 T B E0 hB => ?_)
      refine SX.goG ?_
      refine retB ?_
      rw [y2, Bool.not_not]; rfl
    · have y2 : decide (n.text = []) = false := decide_eq_false h2
      refine PureOK.fnF Tryd.func14 Tryd.results14 Tryd.ntmps14 rfl rfl rfl (by simp [AV.ids, AV0.ids, Atom.ids]) rfl (fun w0 T B E0 hB => ?_)
      refine SX.goG ?_
      refine retB ?_
      rw [y2]; rfl
  · rw [if_neg h22]
    by_cases h20 : n.op = 20
    · rw [if_pos h20]
      have c1 := c_sorted n.kids [101, 98] hE hS hl (by simp)
      have c2 := c_sorted n.kids [101, 98, 98] hE hS hl (by simp)
      by_cases h2 : n.text = []
      · have y2 : decide (n.text = []) = true := decide_eq_true h2
        cases hb : srt3' n.kids [101, 98] with
        | true =>
          rw [hb] at c1
          refine PureOK.fnF Tryd.func14 Tryd.results14 Tryd.ntmps14 rfl rfl rfl (by simp [AV.ids, AV0.ids, Atom.ids]) rfl (fun w0 T B E0 hB => ?_)
          refine SX.goG ?_
          refine retB ?_
          rw [y2]; rfl
        | false =>
          rw [hb] at c1
          refine PureOK.fnF Tryd.func14 Tryd.results14 Tryd.ntmps14 rfl rfl rfl (by simp [AV.ids, AV0.ids, Atom.ids]) rfl (fun w0 T B E0 hB => ?_)
          refine SX.goG ?_
          refine retB ?_
          rw [y2]; rfl
      · have y2 : decide (n.text = []) = false := decide_eq_false h2
        refine PureOK.fnF Tryd.func14 Tryd.results14 Tryd.ntmps14 rfl rfl rfl (by simp [AV.ids, AV0.ids, Atom.ids]) rfl (fun w0 T B E0 hB => ?_)
        refine SX.goG ?_
        refine retB ?_
        rw [y2]; rfl
    · rw [if_neg h20]
      have c4 : PureOK Tryd.prog 27 [.v (.int .i64 2), .v (str n.text)] (.v (.bool (tx 2 n.text))) := (con_text 2 n.text).h (by omega)
      by_cases h18 : n.op = 18
      · rw [if_pos h18]
        have c1 := c_sorted n.kids [101] hE hS hl (by simp)
        have hs := sd18
        unfold sidesL at hs
        have hi : n.op = ((18 : Nat) : Int) := h18
        cases htx : tx 2 n.text with
        | true =>
          rw [htx] at c4
          refine PureOK.fnF Tryd.func14 Tryd.results14 Tryd.ntmps14 rfl rfl rfl (by simp [AV.ids, AV0.ids, Atom.ids]) rfl (fun w0 T B E0 hB => ?_)
          refine SX.goG ?_
          refine retB ?_
          rfl
        | false =>
          rw [htx] at c4
          refine PureOK.fnF Tryd.func14 Tryd.results14 Tryd.ntmps14 rfl rfl rfl (by simp [AV.ids, AV0.ids, Atom.ids]) rfl (fun w0 T B E0 hB => ?_)
          refine SX.goG ?_
          refine retB ?_
          rfl
      · rw [if_neg h18]
        by_cases h21 : n.op = 21
        · rw [if_pos h21]
          have c1 := c_sorted n.kids [101, 101, 98] hE hS hl (by simp)
          have hs := sd21
          unfold sidesL at hs
          have hi : n.op = ((21 : Nat) : Int) := h21
          cases htx : tx 2 n.text with
          | true =>
            rw [htx] at c4
            refine PureOK.fnF Tryd.func14 Tryd.results14 Tryd.ntmps14 rfl rfl rfl (by simp [AV.ids, AV0.ids, Atom.ids]) rfl (fun w0 T B E0 hB => ?_)
            refine SX.goG ?_
            refine retB ?_
            rfl
          | false =>
            rw [htx] at c4
            refine PureOK.fnF Tryd.func14 Tryd.results14 Tryd.ntmps14 rfl rfl rfl (by simp [AV.ids, AV0.ids, Atom.ids]) rfl (fun w0 T B E0 hB => ?_)
            refine SX.goG ?_
            refine retB ?_
            rfl
        · rw [if_neg h21]
          have c1 := c_sorted n.kids [101] hE hS hl (by simp)
          by_cases h19 : n.op = 19
          · by_cases h2 : n.text = []
            · have y2 : decide (n.text = []) = true := decide_eq_true h2
              refine PureOK.fnF Tryd.func14 Tryd.results14 Tryd.ntmps14 rfl rfl rfl (by simp [AV.ids, AV0.ids, Atom.ids]) rfl (fun w0 T B E0 hB => ?_)
              refine SX.goG ?_
              refine retB ?_
              rw [y2, decide_eq_true h19]; rfl
            · have y2 : decide (n.text = []) = false := decide_eq_false h2
              refine PureOK.fnF Tryd.func14 Tryd.results14 Tryd.ntmps14 rfl rfl rfl (by simp [AV.ids, AV0.ids, Atom.ids]) rfl (fun w0 T B E0 hB => ?_)
              refine SX.goG ?_
              refine retB ?_
              rw [y2]; simp
          · refine PureOK.fnF Tryd.func14 Tryd.results14 Tryd.ntmps14 rfl rfl rfl (by simp [AV.ids, AV0.ids, Atom.ids]) rfl (fun w0 T B E0 hB => ?_)
            refine SX.goG ?_
            refine retB ?_
            rw [decide_eq_false h19]; rfl
theorem val_all : ∀ (N : Nat) (n : Nd), cnt n < N → cnt n ≤ 1000000 → txN n = true → OKE n ∧ OKS n := by
  intro N
  induction N with
  | zero => intro n hn; omega
  | succ N ih =>
    intro n hn hb ht
    have hkl := kids_cntN n
    obtain ⟨_, htk⟩ := txN_of ht
    have hk : ∀ k ∈ n.kids, OKE k ∧ OKS k := fun k hk => ih k (by have := cnt_kidN hk; omega) (by have := cnt_kidN hk; omega) (htk k hk)
    have hR : ∀ k ∈ n.kids, PureOK Tryd.prog 68 [.agg (ndA k)] (.v (.bool (!okR k))) := fun k hk' => by
      have h1 := cnt_kidN hk'
      have h2 := kids_cntN k
      obtain ⟨_, htk2⟩ := txN_of (htk k hk')
      have h3 : ∀ j ∈ k.kids, OKE j ∧ OKS j := fun j hj => ih j (by have := cnt_kidN hj; omega) (by have := cnt_kidN hj; omega) (htk2 j hj)
      rw [ndA_B]
      exact c_rows1 k (fun j hj => (h3 j hj).1) (fun j hj => (h3 j hj).2) (by omega)
    exact ⟨c_expT n ht (by omega) (fun k h => (hk k h).1) (fun k h => (hk k h).2) hR, c_stT n ht (by omega) (fun k h => (hk k h).1) (fun k h => (hk k h).2)⟩
/-- A program that may be printed. -/
def okPr (l : List Nd) : Bool := l.all fun n => !(decide (n.op = 22) || !okS n)
def wP (l : List Nd) : List Wd := (l.map pnS).flatten
theorem c_StringN (u : Bool) : CallOK Tryd.prog 16 [.ptr 81 0] [(81, .box 47 [.c (.val (.pointer none)), .c (.val (.slice none 0 0))])] ⟨.v (str []), [(81, .gone)]⟩ := by
  refine CallOK.fnA Tryd.func16 Tryd.results16 Tryd.ntmps16 rfl rfl rfl rfl rfl rfl rfl rfl (fun w0 T B E0 hB => ?_)
  refine SX.goG ?_
  refine RetF.le (St.le_gone (b := 81) rfl) ?_
  exact retP (xs := [.one (.c (.val (str [])))]) ⟨ResOK.tmp rfl, trivial⟩ ⟨rfl, trivial⟩
end Go.Proofs.YtlojipipibebaaaDoor
/- What is printed of statements is parsed as they are; how long it is; its words are words. Plain Lean. -/
set_option linter.unusedVariables false
set_option linter.unusedSimpArgs false
namespace Go.Proofs.YtlojipipibebaaaDoor
open Go.RowKit SX
/-- Words. -/
theorem tok_sg {s : List UInt8} (h : s ∈ ([[40], [41], [91], [93], [123], [125], [44], [59], [61], [46, 46], [43], [45], [42], [47], [94], [61, 61], [33, 61], [60], [60, 61]] : List (List UInt8))) : isW (sg s) = true := by
  simp only [List.mem_cons, List.not_mem_nil, or_false] at h
  rcases h with rfl | rfl | rfl | rfl | rfl | rfl | rfl | rfl | rfl | rfl | rfl | rfl | rfl | rfl | rfl | rfl | rfl | rfl | rfl
  all_goals decide +kernel
theorem tok_own {s : List UInt8} (h : s = [105, 102] ∨ s = [101, 108, 115, 101] ∨ s = [102, 111, 114]) : isW (2, s) = true := by
  rcases h with rfl | rfl | rfl
  all_goals decide +kernel
theorem tok_tx {k : Int} {t : List UInt8} (h : tx k t = true) : isW (k, t) = true := by
  unfold tx at h
  rw [Bool.and_eq_true] at h
  exact h.1
theorem all_app {u v : List Wd} : (u ++ v).all isW = (u.all isW && v.all isW) := List.all_append
theorem join_isW {s : Wd} (hs : isW s = true) : ∀ l : List (List Wd), (∀ x ∈ l, x.all isW = true) → (joinW s l).all isW = true
  | [], _ => rfl
  | [x], h => h x (by simp)
  | x :: y :: r, h => by
    show (x ++ s :: joinW s (y :: r)).all isW = true
    rw [all_app, List.all_cons, h x (by simp), hs, join_isW hs (y :: r) (fun z hz => h z (by simp at hz ⊢; exact .inr hz))]; rfl
theorem sgnO_mem {o : Int} (h : 4 ≤ o ∧ o ≤ 12) : isW (sg (sgnO o)) = true := by
  have hc : o = 4 ∨ o = 5 ∨ o = 6 ∨ o = 7 ∨ o = 8 ∨ o = 9 ∨ o = 10 ∨ o = 11 ∨ o = 12 := by omega
  rcases hc with rfl | rfl | rfl | rfl | rfl | rfl | rfl | rfl | rfl
  all_goals exact tok_sg (by decide)
theorem w_exp : ∀ (N : Nat) (n : Nd), cnt n < N → (okE n = true ∨ okR n = true) → (prE n).all isW = true := by
  intro N
  induction N with
  | zero => intro n hn; omega
  | succ N ih =>
    intro n hn hok
    have one : ∀ (w : Wd), [w].all isW = isW w := fun w => by simp
    have side : ∀ k, cnt k < cnt n → okE k = true → (sideW k).all isW = true := fun k hk h => by
      have h1 := ih k (by omega) (.inl h)
      unfold sideW
      split
      · exact h1
      · rw [List.all_cons, all_app, h1, tok_sg (by decide), one, tok_sg (by decide)]; rfl
    have many : ∀ (s : List UInt8) (ks : List Nd), isW (sg s) = true → (∀ k ∈ ks, cnt k < cnt n ∧ (okE k = true ∨ okR k = true)) → (joinW (sg s) (ks.map prE)).all isW = true := fun s ks hs h =>
      join_isW hs _ (fun x hx => by
        obtain ⟨k, hk, rfl⟩ := List.mem_map.1 hx
        exact ih k (by have := (h k hk).1; omega) (h k hk).2)
    rcases hok with hok | hok
    · cases okE_ec hok with
      | num t ht => rw [prE_num, one]; exact tok_tx ht
      | nam t ht => rw [prE_nam, one]; exact tok_tx ht
      | call t ks ht hk =>
        rw [prE_call, List.all_cons, List.all_cons, all_app, one, tok_tx ht, tok_sg (by decide), tok_sg (by decide), jE, many _ _ (tok_sg (by decide)) (fun k h => ⟨cnt_kid h, .inl (hk k h)⟩)]; rfl
      | mat ks h0 hk =>
        rw [prE_mat, List.all_cons, all_app, one, tok_sg (by decide), tok_sg (by decide), many _ _ (tok_sg (by decide)) (fun k h => ⟨cnt_kid h, .inr (hk k h)⟩)]; rfl
      | list ks hk =>
        rw [prE_list, List.all_cons, all_app, one, tok_sg (by decide), tok_sg (by decide), jE, many _ _ (tok_sg (by decide)) (fun k h => ⟨cnt_kid h, .inl (hk k h)⟩)]; rfl
      | item k k1 hk h1 =>
        rw [prE_item, all_app, List.all_cons, all_app, one, tok_sg (by decide), tok_sg (by decide), side k (cnt_kid (by simp)) hk, jE, many _ _ (tok_sg (by decide)) (fun x h => by simp at h; subst h; exact ⟨cnt_kid (by simp), .inl h1⟩)]; rfl
      | item2 k k1 k2 hk h1 h2 =>
        rw [prE_item, all_app, List.all_cons, all_app, one, tok_sg (by decide), tok_sg (by decide), side k (cnt_kid (by simp)) hk, jE, many _ _ (tok_sg (by decide)) (fun x h => by
          simp at h
          rcases h with rfl | rfl
          · exact ⟨cnt_kid (by simp), .inl h1⟩
          · exact ⟨cnt_kid (by simp), .inl h2⟩)]; rfl
      | minus k hk => rw [prE_minus, List.all_cons, tok_sg (by decide), side k (cnt_kid (by simp)) hk]; rfl
      | op o k k2 ho hk h2 => rw [prE_op ho, all_app, List.all_cons, sgnO_mem ho, side k (cnt_kid (by simp)) hk, side k2 (cnt_kid (by simp)) h2]; rfl
    · obtain ⟨ks, rfl, h0, hk⟩ := okR_mk hok
      rw [prE_row, jE]
      exact many _ _ (tok_sg (by decide)) (fun k h => ⟨cnt_kid h, .inl (hk k h)⟩)
theorem w_expr {n : Nd} (h : okE n = true) : (prE n).all isW = true := w_exp _ n (Nat.lt_succ_self _) (.inl h)
theorem w_st : ∀ (N : Nat) (n : Nd), cnt n < N → okS n = true → (pnS n).all isW = true := by
  intro N
  induction N with
  | zero => intro n hn; omega
  | succ N ih =>
    intro n hn hok
    have one : ∀ (w : Wd), [w].all isW = isW w := fun w => by simp
    cases okS_sf hok with
    | set t e ht he => rw [pnS_set, List.all_cons, List.all_cons, all_app, one, tok_tx ht, tok_sg (by decide), tok_sg (by decide), w_expr he]; rfl
    | «show» e he => rw [pnS_show, all_app, one, tok_sg (by decide), w_expr he]; rfl
    | cond e b he hb => rw [pnS_if, List.all_cons, all_app, tok_own (by simp), w_expr he, ih b (by have := cnt_kid (o := 20) (t := []) (k := b) (ks := [e, b]) (by simp); omega) hb.2]; rfl
    | cond2 e b c he hb hc => rw [pnS_else, List.all_cons, all_app, all_app, List.all_cons, tok_own (by simp), tok_own (by simp), w_expr he, ih b (by have := cnt_kid (o := 20) (t := []) (k := b) (ks := [e, b, c]) (by simp); omega) hb.2, ih c (by have := cnt_kid (o := 20) (t := []) (k := c) (ks := [e, b, c]) (by simp); omega) hc.2]; rfl
    | loop t e e2 b ht he he2 hb => rw [pnS_for, List.all_cons, List.all_cons, List.all_cons, all_app, List.all_cons, all_app, tok_own (by simp), tok_tx ht, tok_sg (by decide), tok_sg (by decide), w_expr he, w_expr he2, ih b (by have := cnt_kid (o := 21) (t := t) (k := b) (ks := [e, e2, b]) (by simp); omega) hb.2]; rfl
    | block ks hk =>
      rw [pnS_block, List.all_cons, all_app, one, tok_sg (by decide), tok_sg (by decide)]
      have : ((ks.map pnS).flatten).all isW = true := by
        rw [List.all_eq_true]
        intro w hw
        obtain ⟨x, hx, hw⟩ := List.mem_flatten.1 hw
        obtain ⟨k, hkm, rfl⟩ := List.mem_map.1 hx
        exact List.all_eq_true.1 (ih k (by have := cnt_kid (o := 22) (t := []) hkm; omega) (hk k hkm).1) w hw
      rw [this]; rfl
theorem w_prog {l : List Nd} (h : okPr l = true) : (wP l).all isW = true := by
  unfold okPr at h
  rw [List.all_eq_true] at h
  unfold wP
  rw [List.all_eq_true]
  intro w hw
  obtain ⟨x, hx, hw⟩ := List.mem_flatten.1 hw
  obtain ⟨k, hkm, rfl⟩ := List.mem_map.1 hx
  have := h k hkm
  simp only [Bool.not_eq_true', Bool.or_eq_false_iff, Bool.not_eq_false'] at this
  exact List.all_eq_true.1 (w_st _ k (Nat.lt_succ_self _) this.2) w hw
/-- How long it is. -/
theorem joinw_len {s : Wd} (hs : s.2.length ≤ 1) : ∀ ks : List Nd, (∀ k ∈ ks, (txtW (prE k)).length + 6 ≤ 120 * cnt k) → (txtW (joinW s (ks.map prE))).length ≤ 120 * cntL ks
  | [], _ => by simp [joinW, txtW]
  | [k], h => by
    have := h k (by simp)
    show (txtW (prE k)).length ≤ _
    rw [cntL_cons, cntL_nil]; omega
  | k :: k2 :: ks, h => by
    have h1 := h k (by simp)
    have h2 := joinw_len hs (k2 :: ks) (fun x hx => h x (by simp at hx ⊢; exact .inr hx))
    show (txtW (prE k ++ s :: joinW s ((k2 :: ks).map prE))).length ≤ _
    rw [txtW_app, txtW_cons, List.length_append, List.length_append, List.length_cons, cntL_cons]; omega
theorem len_exp : ∀ (N : Nat) (n : Nd), cnt n < N → txN n = true → (txtW (prE n)).length + 6 ≤ 120 * cnt n := by
  intro N
  induction N with
  | zero => intro n hn; omega
  | succ N ih =>
    intro n hn ht
    cases n with
    | mk o t ks =>
      rw [txN_mk, Bool.and_eq_true, decide_eq_true_eq, List.all_eq_true] at ht
      obtain ⟨htl, htk⟩ := ht
      have hk : ∀ k ∈ ks, (txtW (prE k)).length + 6 ≤ 120 * cnt k := fun k h => ih k (by have := cnt_kid (o := o) (t := t) h; omega) (htk k h)
      have one : ∀ (i : Int) (s : List UInt8), (txtW [(i, s)]).length = s.length + 1 := fun i s => by simp [txtW]
      have c44 := joinw_len (s := sg [44]) (by simp) ks hk
      have c59 := joinw_len (s := sg [59]) (by simp) ks hk
      have sd : ∀ k ∈ ks, (txtW (sideB (atm k.op, prE k))).length + 2 ≤ 120 * cnt k := fun k h => by
        have := hk k h
        unfold sideB
        cases atm k.op with
        | true => show (txtW (prE k)).length + 2 ≤ _; omega
        | false =>
          show (txtW (sg [40] :: (prE k ++ [sg [41]]))).length + 2 ≤ _
          rw [txtW_cons, txtW_app]
          simp only [List.length_append, List.length_cons, List.length_nil, one]; omega
      rw [prE_mk, cnt_mk]
      have hsn := prL_snd ks
      have hsg : (sgnO o).length ≤ 2 := by
        unfold sgnO
        repeat' split
        all_goals simp
      unfold combE
      rw [hsn]
      split
      · rw [one]; omega
      split
      · rw [one]; omega
      split
      · rw [txtW_cons, txtW_cons, txtW_app]; simp only [List.length_append, List.length_cons, List.length_nil, one]; omega
      split
      · rw [txtW_cons, txtW_app]; simp only [List.length_append, List.length_cons, List.length_nil, one]; omega
      split
      · omega
      split
      · rw [txtW_cons, txtW_app]; simp only [List.length_append, List.length_cons, List.length_nil, one]; omega
      cases ks with
      | nil => rw [prL]; simp [txtW]; omega
      | cons k r =>
        have s1 := sd k (by simp)
        have hr : ∀ x ∈ r, (txtW (prE x)).length + 6 ≤ 120 * cnt x := fun x hx => hk x (by simp [hx])
        have d44 := joinw_len (s := sg [44]) (by simp) r hr
        rw [cntL_cons, prL]
        dsimp only
        split
        · rw [prL_snd, txtW_app, txtW_cons, txtW_app]; simp only [List.length_append, List.length_cons, List.length_nil, one]; omega
        split
        · rw [txtW_cons]; simp only [List.length_append, List.length_cons, List.length_nil]; omega
        cases r with
        | nil => rw [prL]; simp [txtW]; omega
        | cons k2 r2 =>
          have s2 := sd k2 (by simp)
          rw [prL, cntL_cons]
          dsimp only
          rw [txtW_app, txtW_cons]; simp only [List.length_append, List.length_cons, List.length_nil]; omega
theorem flat_len : ∀ ks : List Nd, (∀ k ∈ ks, (txtW (pnS k)).length + 6 ≤ 120 * cnt k) → (txtW (ks.map pnS).flatten).length ≤ 120 * cntL ks
  | [], _ => by simp [txtW]
  | k :: ks, h => by
    have h1 := h k (by simp)
    have h2 := flat_len ks (fun x hx => h x (by simp [hx]))
    rw [List.map_cons, List.flatten_cons, txtW_app, List.length_append, cntL_cons]; omega
theorem len_st : ∀ (N : Nat) (n : Nd), cnt n < N → txN n = true → (txtW (pnS n)).length + 6 ≤ 120 * cnt n := by
  intro N
  induction N with
  | zero => intro n hn; omega
  | succ N ih =>
    intro n hn ht
    cases n with
    | mk o t ks =>
      rw [txN_mk, Bool.and_eq_true, decide_eq_true_eq, List.all_eq_true] at ht
      obtain ⟨htl, htk⟩ := ht
      have hk : ∀ k ∈ ks, (txtW (pnS k)).length + 6 ≤ 120 * cnt k := fun k h => ih k (by have := cnt_kid (o := o) (t := t) h; omega) (htk k h)
      have he : ∀ k ∈ ks, (txtW (prE k)).length + 6 ≤ 120 * cnt k := fun k h => len_exp _ k (Nat.lt_succ_self _) (htk k h)
      have one : ∀ (i : Int) (s : List UInt8), (txtW [(i, s)]).length = s.length + 1 := fun i s => by simp [txtW]
      rw [pnS, pnSL_eq, cnt_mk]
      unfold combS
      split
      · have := flat_len ks hk
        rw [txtW_cons, txtW_app]; simp only [List.length_append, List.length_cons, List.length_nil, one]; omega
      cases ks with
      | nil => simp [txtW]; omega
      | cons e r =>
        have e1 := he e (by simp)
        rw [cntL_cons]
        dsimp only
        split
        · rw [txtW_cons, txtW_cons, txtW_app]; simp only [List.length_append, List.length_cons, List.length_nil, one]; omega
        split
        · rw [txtW_app]; simp only [List.length_append, List.length_cons, List.length_nil, one]; omega
        split
        · match r with
          | [] => simp [txtW]; omega
          | [b] =>
            have b1 := hk b (by simp)
            show (txtW ((2, [105, 102]) :: (prE e ++ pnS b))).length + 6 ≤ _
            rw [cntL_cons, txtW_cons, txtW_app]; simp only [List.length_append, List.length_cons, List.length_nil]; omega
          | [b, c] =>
            have b1 := hk b (by simp)
            have b2 := hk c (by simp)
            show (txtW ((2, [105, 102]) :: (prE e ++ (pnS b ++ (2, [101, 108, 115, 101]) :: pnS c)))).length + 6 ≤ _
            rw [cntL_cons, cntL_cons, txtW_cons, txtW_app, txtW_app, txtW_cons]; simp only [List.length_append, List.length_cons, List.length_nil]; omega
          | _ :: _ :: _ :: _ => simp [txtW]; omega
        · match r with
          | [] => simp [txtW]; omega
          | [e2] => simp [txtW]; omega
          | [e2, b] =>
            have e3 := he e2 (by simp)
            have b1 := hk b (by simp)
            show (txtW ((2, [102, 111, 114]) :: (2, t) :: sg [61] :: (prE e ++ sg [46, 46] :: (prE e2 ++ pnS b)))).length + 6 ≤ _
            rw [cntL_cons, cntL_cons, txtW_cons, txtW_cons, txtW_cons, txtW_app, txtW_cons, txtW_app]; simp only [List.length_append, List.length_cons, List.length_nil]; omega
          | _ :: _ :: _ :: _ => simp [txtW]; omega
theorem len_prog {l : List Nd} (h : l.all txN = true) : (txtW (wP l)).length ≤ 120 * cntL l := by
  unfold wP
  rw [List.all_eq_true] at h
  exact flat_len l (fun k hk => len_st _ k (Nat.lt_succ_self _) (h k hk))
end Go.Proofs.YtlojipipibebaaaDoor
/- What is printed of a program is parsed as it is. Plain Lean, over the grammar. -/
set_option linter.unusedVariables false
set_option linter.unusedSimpArgs false
namespace Go.Proofs.YtlojipipibebaaaDoor
open Go.RowKit SX
theorem own_cases {s : List UInt8} (h : ownB s = true) : s = [105, 102] ∨ s = [101, 108, 115, 101] ∨ s = [102, 111, 114] := by
  unfold ownB at h
  simp only [Bool.or_eq_true, decide_eq_true_eq] at h
  rcases h with (h | h) | h
  · exact .inl h
  · exact .inr (.inl h)
  · exact .inr (.inr h)
theorem tx_not_own {t s : List UInt8} (h : tx 2 t = true) (hs : ownB s = true) : t ≠ s := fun e => by
  have := tx_own h
  rw [e, hs] at this; cases this
theorem head_own {w : Wd} (h : HeadOK w) {s : List UInt8} (hs : ownB s = true) (r : List Wd) : hS (w :: r) s = false := by
  show (!decide (w.1 = 1) && decide (w.2 = s)) = false
  rcases h with h | ⟨h, h2⟩ | h | h | h | h
  · simp [h]
  · simp [tx_not_own h2 hs]
  all_goals
    subst h
    rcases own_cases hs with rfl | rfl | rfl <;> rfl
theorem exp_own {n : Nd} (h : okE n = true) {s : List UInt8} (hs : ownB s = true) (r : List Wd) : hS (prE n ++ r) s = false := by
  obtain ⟨w, u, h1, h2⟩ := exp_head h
  rw [h1]; exact head_own h2 hs _
theorem nam_own {t s : List UInt8} (h : tx 2 t = true) (hs : ownB s = true) (r : List Wd) : hS ((2, t) :: r) s = false := by
  show (!decide ((2 : Int) = 1) && decide (t = s)) = false
  simp [tx_not_own h hs]
/-- No expression begins like an assignment. -/
theorem side_eq {k : Nd} (h : okE k = true) {r : List Wd} (hr : hS r [61] = false) : (hN (sideW k ++ r) && hS ((sideW k ++ r).drop 1) [61]) = false := by
  have hb : ∀ n : Nd, atm n.op = false → (hN (sideW n ++ r) && hS ((sideW n ++ r).drop 1) [61]) = false := fun n hn => by
    unfold sideW; rw [if_neg (by rw [hn]; decide)]; rfl
  cases okE_ec h with
  | num t q => unfold sideW; rw [if_pos (by rfl), prE_num]; rfl
  | nam t q => unfold sideW; rw [if_pos (by rfl), prE_nam]; show (_ && hS r [61]) = false; rw [hr, Bool.and_false]
  | call t ks q hk => unfold sideW; rw [if_pos (by rfl), prE_call]; show (_ && hS (sg [40] :: _) [61]) = false; rw [show ∀ u, hS (sg [40] :: u) [61] = false from fun _ => rfl, Bool.and_false]
  | mat ks h0 hk => exact hb _ rfl
  | list ks hk => exact hb _ rfl
  | item k k1 q h1 => exact hb _ rfl
  | item2 k k1 k2 q h1 h2 => exact hb _ rfl
  | minus k q => exact hb _ rfl
  | op o k k2 ho q h2 => exact hb _ (by show atm o = false; unfold atm; simp; omega)
theorem exp_eq {n : Nd} (h : okE n = true) {r : List Wd} (hr : hS r [61] = false) : (hN (prE n ++ r) && hS ((prE n ++ r).drop 1) [61]) = false := by
  cases okE_ec h with
  | num t q => rw [prE_num]; rfl
  | nam t q => rw [prE_nam]; show (_ && hS r [61]) = false; rw [hr, Bool.and_false]
  | call t ks q hk => rw [prE_call]; show (_ && hS (sg [40] :: _) [61]) = false; rw [show ∀ u, hS (sg [40] :: u) [61] = false from fun _ => rfl, Bool.and_false]
  | mat ks h0 hk => rw [prE_mat]; rfl
  | list ks hk => rw [prE_list]; rfl
  | item k k1 q h1 => rw [prE_item, List.append_assoc]; exact side_eq q rfl
  | item2 k k1 k2 q h1 h2 => rw [prE_item, List.append_assoc]; exact side_eq q rfl
  | minus k q => rw [prE_minus]; rfl
  | op o k k2 ho q h2 =>
    rw [prE_op ho, List.append_assoc]
    refine side_eq q ?_
    have hc : o = 4 ∨ o = 5 ∨ o = 6 ∨ o = 7 ∨ o = 8 ∨ o = 9 ∨ o = 10 ∨ o = 11 ∨ o = 12 := by omega
    rcases hc with rfl | rfl | rfl | rfl | rfl | rfl | rfl | rfl | rfl <;> rfl
/-- What a statement begins with. -/
theorem st_head {n : Nd} (h : okS n = true) (h22 : n.op ≠ 22) (r : List Wd) : hS (pnS n ++ r) [101, 108, 115, 101] = false ∧ hS (pnS n ++ r) [125] = false := by
  cases okS_sf h with
  | set t e ht he => rw [pnS_set]; exact ⟨nam_own ht rfl _, by show (!decide ((2 : Int) = 1) && decide (t = [125])) = false; simp [tx_ne ht (c := 125) (m := []) (by decide)]⟩
  | «show» e he => rw [pnS_show, List.append_assoc]; exact ⟨exp_own he rfl _, exp_hS he (by decide) (by decide) _⟩
  | cond e b he hb => rw [pnS_if]; exact ⟨rfl, rfl⟩
  | cond2 e b c he hb hc => rw [pnS_else]; exact ⟨rfl, rfl⟩
  | loop t e e2 b ht he he2 hb => rw [pnS_for]; exact ⟨rfl, rfl⟩
  | block ks hk => exact absurd rfl h22
theorem blk_form {b : Nd} (h : b.op = 22 ∧ okS b = true) : ∃ ks, b = .mk 22 [] ks ∧ ∀ k ∈ ks, okS k = true ∧ k.op ≠ 22 := by
  obtain ⟨h1, h2⟩ := h
  cases okS_sf h2 with
  | set t e ht he => cases h1
  | «show» e he => cases h1
  | cond e b he hb => cases h1
  | cond2 e b c he hb hc => cases h1
  | loop t e e2 b ht he he2 hb => cases h1
  | block ks hk => exact ⟨ks, rfl, hk⟩
theorem rst_le {l : List Tok} {a : Nat} {u : List Wd} (h : rst l a = u) : u.length ≤ l.length := by
  rw [← h]; unfold rst; rw [List.length_drop, List.length_map]; omega
theorem rd_e {l : List Tok} {m : Nd} (hok : okE m = true) {o a : Nat} {r : List Wd} (he : EndR r) (ho : o + 2 * dep m + 1 ≤ 600) (h : rst l a = prE m ++ r) : (lev 600 l (l.length + 1)).1 a o = .ok m (a + (prE m).length) :=
  rd_exp l _ m (Nat.lt_succ_self _) hok (l.length + 1) o r he (by have := rst_le h; omega) ho a h
theorem rd_body {l : List Tok} {S : Gr} {o : Nat} : ∀ (ks acc : List Nd) (g a : Nat) (r : List Wd), (∀ k ∈ ks, (okS k = true ∧ k.op ≠ 22) ∧ ∀ a r, hS r [101, 108, 115, 101] = false → rst l a = pnS k ++ r → S a o = .ok k (a + (pnS k).length)) →
    ks.length < g → rst l a = (ks.map pnS).flatten ++ sg [125] :: r → bodyG l S g acc a o = .ok (.mk 22 [] (acc ++ ks)) (a + (ks.map pnS).flatten.length + 1)
  | [], acc, g, a, r, hk, hg, h => by
    obtain ⟨g, rfl⟩ : ∃ k, g = k + 1 := ⟨g - 1, by simp at hg; omega⟩
    have h : rst l a = sg [125] :: r := h
    rw [bodyG]
    dsimp only
    rw [isS_rst, h, if_pos (by rfl)]; simp
  | k :: ks, acc, g, a, r, hk, hg, h => by
    rw [List.length_cons] at hg
    obtain ⟨g, rfl⟩ : ∃ k, g = k + 1 := ⟨g - 1, by omega⟩
    obtain ⟨⟨k1, k2⟩, k3⟩ := hk k (by simp)
    have h : rst l a = pnS k ++ ((ks.map pnS).flatten ++ sg [125] :: r) := by rw [h]; simp
    have hd := st_head k1 k2 ((ks.map pnS).flatten ++ sg [125] :: r)
    have hnext : hS ((ks.map pnS).flatten ++ sg [125] :: r) [101, 108, 115, 101] = false := by
      cases ks with
      | nil => rfl
      | cons k' ks =>
        obtain ⟨⟨q1, q2⟩, _⟩ := hk k' (by simp)
        rw [List.map_cons, List.flatten_cons, List.append_assoc]; exact (st_head q1 q2 _).1
    rw [bodyG]
    dsimp only
    rw [isS_rst, h, if_neg (by rw [hd.2]; decide), k3 a _ hnext h]
    dsimp only
    rw [rd_body ks (acc ++ [k]) g (a + (pnS k).length) r (fun x hx => hk x (by simp [hx])) (by omega) (rst_app h)]
    simp; omega
/-- A rule reads a statement, or a block. -/
def SR (l : List Tok) (n : Nd) : Prop := ∀ f o r a, (pnS n).length ≤ f → o + 2 * dep n + 1 ≤ 600 → hS r [101, 108, 115, 101] = false → rst l a = pnS n ++ r →
  (if n.op = 22 then blkG 600 l (slev 600 l f) a o else slev 600 l f a o) = .ok n (a + (pnS n).length)
theorem SR.st {l : List Tok} {n : Nd} (h : SR l n) (h22 : n.op ≠ 22) {f o a : Nat} {r : List Wd} (h1 : (pnS n).length ≤ f) (h2 : o + 2 * dep n + 1 ≤ 600) (h3 : hS r [101, 108, 115, 101] = false) (h4 : rst l a = pnS n ++ r) : slev 600 l f a o = .ok n (a + (pnS n).length) := by
  have := h f o r a h1 h2 h3 h4
  rwa [if_neg h22] at this
theorem SR.blk {l : List Tok} {n : Nd} (h : SR l n) (h22 : n.op = 22) {f o a : Nat} {r : List Wd} (h1 : (pnS n).length ≤ f) (h2 : o + 2 * dep n + 1 ≤ 600) (h3 : hS r [101, 108, 115, 101] = false) (h4 : rst l a = pnS n ++ r) : blkG 600 l (slev 600 l f) a o = .ok n (a + (pnS n).length) := by
  have := h f o r a h1 h2 h3 h4
  rwa [if_pos h22] at this
theorem mem_flat {k : Nd} {ks : List Nd} (h : k ∈ ks) : (pnS k).length ≤ (ks.map pnS).flatten.length := by
  induction ks with
  | nil => cases h
  | cons x ks ih =>
    rw [List.map_cons, List.flatten_cons, List.length_append]
    rcases List.mem_cons.1 h with rfl | h
    · omega
    · have := ih h; omega
theorem st_pos {n : Nd} (h : okS n = true) : 1 ≤ (pnS n).length := by
  cases okS_sf h with
  | set t e ht he => rw [pnS_set]; simp
  | «show» e he => rw [pnS_show]; simp
  | cond e b he hb => rw [pnS_if]; simp
  | cond2 e b c he hb hc => rw [pnS_else]; simp
  | loop t e e2 b ht he he2 hb => rw [pnS_for]; simp
  | block ks hk => rw [pnS_block]; simp
theorem flat_ge : ∀ {ks : List Nd}, (∀ k ∈ ks, okS k = true ∧ k.op ≠ 22) → ks.length ≤ (ks.map pnS).flatten.length
  | [], _ => by simp
  | k :: ks, h => by
    have h1 := st_pos (h k (by simp)).1
    have h2 := flat_ge (ks := ks) (fun x hx => h x (by simp [hx]))
    rw [List.map_cons, List.flatten_cons, List.length_append, List.length_cons]; omega
theorem rd_st (l : List Tok) : ∀ (N : Nat) (n : Nd), cnt n < N → okS n = true → SR l n := by
  intro N
  induction N with
  | zero => intro n hn; omega
  | succ N ih =>
    intro n hn hok f o r a hf ho hr h
    have hpos := st_pos hok
    have e59 : ∀ u, EndR (sg [59] :: u) := fun u => endR_sg (by decide) u
    have e123 : ∀ u, EndR (sg [123] :: u) := fun u => endR_sg (by decide) u
    have e46 : ∀ u, EndR (sg [46, 46] :: u) := fun u => endR_sg (by decide) u
    have q59 : ∀ u, hS (sg [59] :: u) [59] = true := fun _ => rfl
    have q61 : ∀ u, hS (sg [61] :: u) [61] = true := fun _ => rfl
    have q46 : ∀ u, hS (sg [46, 46] :: u) [46, 46] = true := fun _ => rfl
    cases okS_sf hok with
    | set t e ht he =>
      have d0 := dep_kid (o := 18) (t := t) (k := e) (ks := [e]) (by simp)
      obtain ⟨f, rfl⟩ : ∃ k, f = k + 1 := ⟨f - 1, by omega⟩
      rw [if_neg (by show ¬ (18 : Int) = 22; decide)]
      rw [pnS_set] at h ⊢
      have h : rst l a = (2, t) :: sg [61] :: (prE e ++ sg [59] :: r) := by rw [h]; simp
      have h1 := rst_1 h
      have h2 := rst_1 h1
      have h3 := rst_app h2
      show stG l (lev 600 l (l.length + 1)).1 (blkG 600 l (slev 600 l f)) a o = _
      unfold stG
      rw [isS_rst, h, nam_own ht rfl, isS_rst, h, nam_own ht rfl, isNm_rst, h, hN_nam ht, isS_rst, h1, q61, txt_rst h]
      rw [if_neg (by decide), if_neg (by decide), if_pos (by rfl), rd_e he (e59 _) (by omega) h2]
      show (if isS l (a + 1 + 1 + (prE e).length) [59] then _ else _) = _
      rw [isS_rst, h3, q59, if_pos rfl]
      congr 1; simp; omega
    | «show» e he =>
      have d0 := dep_kid (o := 19) (t := []) (k := e) (ks := [e]) (by simp)
      obtain ⟨f, rfl⟩ : ∃ k, f = k + 1 := ⟨f - 1, by omega⟩
      rw [if_neg (by show ¬ (19 : Int) = 22; decide)]
      rw [pnS_show] at h ⊢
      have h : rst l a = prE e ++ sg [59] :: r := by rw [h]; simp
      have h3 := rst_app h
      have hne := exp_eq he (r := sg [59] :: r) rfl
      have hdr : rst l (a + 1) = (prE e ++ sg [59] :: r).drop 1 := by rw [← h]; unfold rst; rw [List.drop_drop]
      show stG l (lev 600 l (l.length + 1)).1 (blkG 600 l (slev 600 l f)) a o = _
      unfold stG
      rw [isS_rst, h, exp_own he rfl, isS_rst, h, exp_own he rfl, isNm_rst, h, isS_rst, hdr, hne]
      rw [if_neg (by decide), if_neg (by decide), if_neg (by decide), rd_e he (e59 _) (by omega) h]
      show (if isS l (a + (prE e).length) [59] then _ else _) = _
      rw [isS_rst, h3, q59, if_pos rfl]
      congr 1; simp; omega
    | cond e b he hb =>
      have d0 := dep_kid (o := 20) (t := []) (k := e) (ks := [e, b]) (by simp)
      have d1 := dep_kid (o := 20) (t := []) (k := b) (ks := [e, b]) (by simp)
      have i1 := cnt_kid (o := 20) (t := []) (k := b) (ks := [e, b]) (by simp)
      obtain ⟨f, rfl⟩ : ∃ k, f = k + 1 := ⟨f - 1, by omega⟩
      rw [if_neg (by show ¬ (20 : Int) = 22; decide)]
      rw [pnS_if] at h hf ⊢
      simp only [List.length_append, List.length_cons] at hf
      have h : rst l a = (2, [105, 102]) :: (prE e ++ (pnS b ++ r)) := by rw [h]; simp
      have h1 := rst_1 h
      have h2 := rst_app h1
      have h3 := rst_app h2
      obtain ⟨ks, rfl, _⟩ := blk_form hb
      have hend : EndR (pnS (.mk 22 [] ks) ++ r) := by rw [pnS_block]; exact e123 _
      show stG l (lev 600 l (l.length + 1)).1 (blkG 600 l (slev 600 l f)) a o = _
      unfold stG
      rw [isS_rst, h, if_pos (by rfl)]
      unfold ifG
      rw [rd_e he hend (by omega) h1]
      dsimp only
      rw [(ih _ (by omega) hb.2).blk rfl (by omega) (by omega) hr h2]
      dsimp only
      rw [isS_rst, h3, hr, if_neg (by decide)]
      congr 1; simp; omega
    | cond2 e b c he hb hc =>
      have d0 := dep_kid (o := 20) (t := []) (k := e) (ks := [e, b, c]) (by simp)
      have d1 := dep_kid (o := 20) (t := []) (k := b) (ks := [e, b, c]) (by simp)
      have d2 := dep_kid (o := 20) (t := []) (k := c) (ks := [e, b, c]) (by simp)
      have i1 := cnt_kid (o := 20) (t := []) (k := b) (ks := [e, b, c]) (by simp)
      have i2 := cnt_kid (o := 20) (t := []) (k := c) (ks := [e, b, c]) (by simp)
      obtain ⟨f, rfl⟩ : ∃ k, f = k + 1 := ⟨f - 1, by omega⟩
      rw [if_neg (by show ¬ (20 : Int) = 22; decide)]
      rw [pnS_else] at h hf ⊢
      simp only [List.length_append, List.length_cons] at hf
      have h : rst l a = (2, [105, 102]) :: (prE e ++ (pnS b ++ (2, [101, 108, 115, 101]) :: (pnS c ++ r))) := by rw [h]; simp
      have h1 := rst_1 h
      have h2 := rst_app h1
      have h3 := rst_app h2
      have h4 := rst_1 h3
      obtain ⟨ks, rfl, _⟩ := blk_form hb
      have hend : EndR (pnS (.mk 22 [] ks) ++ (2, [101, 108, 115, 101]) :: (pnS c ++ r)) := by rw [pnS_block]; exact e123 _
      show stG l (lev 600 l (l.length + 1)).1 (blkG 600 l (slev 600 l f)) a o = _
      unfold stG
      rw [isS_rst, h, if_pos (by rfl)]
      unfold ifG
      rw [rd_e he hend (by omega) h1]
      dsimp only
      have hblk : ∀ (x : List Wd), hS x [101, 108, 115, 101] = true ∨ hS x [101, 108, 115, 101] = false := fun x => by cases hS x [101, 108, 115, 101] <;> simp
      -- the first block's rule does not look behind itself
      have hb1 : blkG 600 l (slev 600 l f) (a + 1 + (prE e).length) o = .ok (.mk 22 [] ks) (a + 1 + (prE e).length + (pnS (.mk 22 [] ks)).length) := by
        have hk := blk_form hb
        obtain ⟨ks', he', hk'⟩ := hk
        cases he'
        have hw : rst l (a + 1 + (prE e).length) = sg [123] :: ((ks.map pnS).flatten ++ sg [125] :: ((2, [101, 108, 115, 101]) :: (pnS c ++ r))) := by rw [h2, pnS_block]; simp
        unfold blkG
        rw [isS_rst, hw, if_pos (by rfl)]
        have hbl : (pnS (.mk 22 [] ks)).length = (ks.map pnS).flatten.length + 2 := by rw [pnS_block]; simp
        have hrl := rst_le hw
        simp only [List.length_append, List.length_cons] at hrl
        have hkl : ks.length ≤ (ks.map pnS).flatten.length := flat_ge hk'
        refine ins_ok (by omega) ?_
        rw [rd_body ks [] (l.length + 1) _ _ (fun k hkm => ⟨hk' k hkm, fun a r g1 g2 => by
          have m1 := mem_flat hkm
          have m2 := dep_kid (o := 22) (t := []) hkm
          have m3 := cnt_kid (o := 22) (t := []) hkm
          exact (ih k (by omega) (hk' k hkm).1).st (hk' k hkm).2 (by omega) (by omega) g1 g2⟩) (by omega) (rst_1 hw)]
        rw [hbl]; simp; omega
      rw [hb1]
      dsimp only
      rw [isS_rst, h3, if_pos (by rfl)]
      rw [(ih _ (by omega) hc.2).blk hc.1 (by omega) (by omega) hr h4]
      show Res.ok _ _ = _
      congr 1; simp; omega
    | loop t e e2 b ht he he2 hb =>
      have d0 := dep_kid (o := 21) (t := t) (k := e) (ks := [e, e2, b]) (by simp)
      have d1 := dep_kid (o := 21) (t := t) (k := e2) (ks := [e, e2, b]) (by simp)
      have d2 := dep_kid (o := 21) (t := t) (k := b) (ks := [e, e2, b]) (by simp)
      have i2 := cnt_kid (o := 21) (t := t) (k := b) (ks := [e, e2, b]) (by simp)
      obtain ⟨f, rfl⟩ : ∃ k, f = k + 1 := ⟨f - 1, by omega⟩
      rw [if_neg (by show ¬ (21 : Int) = 22; decide)]
      rw [pnS_for] at h hf ⊢
      simp only [List.length_append, List.length_cons] at hf
      have h : rst l a = (2, [102, 111, 114]) :: (2, t) :: sg [61] :: (prE e ++ sg [46, 46] :: (prE e2 ++ (pnS b ++ r))) := by rw [h]; simp
      have h1 := rst_1 h
      have h2 := rst_1 h1
      have h3 := rst_1 h2
      have h4 := rst_app h3
      have h5 := rst_1 h4
      have h6 := rst_app h5
      obtain ⟨ks, rfl, _⟩ := blk_form hb
      have hend : EndR (pnS (.mk 22 [] ks) ++ r) := by rw [pnS_block]; exact e123 _
      show stG l (lev 600 l (l.length + 1)).1 (blkG 600 l (slev 600 l f)) a o = _
      unfold stG
      rw [isS_rst, h, if_neg (by simp [hS]), isS_rst, h, if_pos (by rfl)]
      unfold forG
      rw [isNm_rst, h1, hN_nam ht, if_pos rfl, isS_rst, h2, q61, if_pos rfl, rd_e he (e46 _) (by omega) h3]
      dsimp only
      rw [isS_rst, h4, q46, if_pos rfl, rd_e he2 hend (by omega) h5]
      dsimp only
      rw [(ih _ (by omega) hb.2).blk rfl (by omega) (by omega) hr h6, txt_rst h1]
      show Res.ok _ _ = _
      congr 1; simp; omega
    | block ks hk =>
      rw [if_pos (by rfl)]
      have hbl : (pnS (.mk 22 [] ks)).length = (ks.map pnS).flatten.length + 2 := by rw [pnS_block]; simp
      have hw : rst l a = sg [123] :: ((ks.map pnS).flatten ++ sg [125] :: r) := by rw [h, pnS_block]; simp
      unfold blkG
      rw [isS_rst, hw, if_pos (by rfl)]
      have hrl := rst_le hw
      simp only [List.length_append, List.length_cons] at hrl
      have hkl : ks.length ≤ (ks.map pnS).flatten.length := flat_ge hk
      refine ins_ok (by omega) ?_
      rw [rd_body ks [] (l.length + 1) _ _ (fun k hkm => ⟨hk k hkm, fun a r g1 g2 => by
        have m1 := mem_flat hkm
        have m2 := dep_kid (o := 22) (t := []) hkm
        have m3 := cnt_kid (o := 22) (t := []) hkm
        exact (ih k (by omega) (hk k hkm).1).st (hk k hkm).2 (by omega) (by omega) g1 g2⟩) (by omega) (rst_1 hw)]
      rw [hbl]; simp; omega
/-- A whole program is read. -/
theorem rd_prog {l : List Tok} {S : Gr} : ∀ (ks acc : List Nd) (g a : Nat), (∀ k ∈ ks, (okS k = true ∧ k.op ≠ 22) ∧ ∀ a r, hS r [101, 108, 115, 101] = false → rst l a = pnS k ++ r → S a 0 = .ok k (a + (pnS k).length)) →
    ks.length < g → rst l a = (ks.map pnS).flatten → a + (ks.map pnS).flatten.length = l.length → progG l S g acc a 0 = .ok (.mk 0 [] (acc ++ ks)) l.length
  | [], acc, g, a, hk, hg, h, hl => by
    obtain ⟨g, rfl⟩ : ∃ k, g = k + 1 := ⟨g - 1, by simp at hg; omega⟩
    have hl : a = l.length := by simpa using hl
    rw [progG]
    dsimp only
    rw [if_neg (by omega), hl]; simp
  | k :: ks, acc, g, a, hk, hg, h, hl => by
    rw [List.length_cons] at hg
    obtain ⟨g, rfl⟩ : ∃ k, g = k + 1 := ⟨g - 1, by omega⟩
    obtain ⟨⟨k1, k2⟩, k3⟩ := hk k (by simp)
    have hp := st_pos k1
    have h : rst l a = pnS k ++ (ks.map pnS).flatten := by rw [h]; simp
    rw [List.map_cons, List.flatten_cons, List.length_append] at hl
    have hnext : hS ((ks.map pnS).flatten) [101, 108, 115, 101] = false := by
      cases ks with
      | nil => rfl
      | cons k' ks =>
        obtain ⟨⟨q1, q2⟩, _⟩ := hk k' (by simp)
        rw [List.map_cons, List.flatten_cons]; exact (st_head q1 q2 _).1
    rw [progG]
    dsimp only
    rw [if_pos (by omega), k3 a _ hnext h]
    dsimp only
    rw [rd_prog ks (acc ++ [k]) g (a + (pnS k).length) (fun x hx => hk x (by simp [hx])) (by omega) (rst_app h) (by omega)]
    simp
theorem parse_back {l : List Tok} {ks : List Nd} (hw : l.map kt = wP ks) (ht : l.all isTok = true) (hk : okPr ks = true) (hd : depL ks ≤ 200) : parseR l 200 = (ks, 0, 0) := by
  have hk' : ∀ k ∈ ks, okS k = true ∧ k.op ≠ 22 := fun k hkm => by
    unfold okPr at hk
    have := List.all_eq_true.1 hk k hkm
    simp only [Bool.not_eq_true', Bool.or_eq_false_iff, decide_eq_false_iff_not, Bool.not_eq_false'] at this
    exact ⟨this.2, this.1⟩
  have hlen : l.length = (ks.map pnS).flatten.length := by rw [← List.length_map (f := kt), hw]; rfl
  have hg := flat_ge hk'
  have h0 : rst l 0 = (ks.map pnS).flatten := by unfold rst; rw [List.drop_zero, hw]; rfl
  have hp : progR l = .ok (.mk 0 [] ks) l.length := by
    unfold progR
    rw [rd_prog ks [] (l.length + 1) 0 (fun k hkm => ⟨hk' k hkm, fun a r g1 g2 => by
      have m1 := mem_flat hkm
      have m2 := depL_mem hkm
      exact (rd_st l _ k (Nat.lt_succ_self _) (hk' k hkm).1).st (hk' k hkm).2 (by omega) (by omega) g1 g2⟩) (by omega) h0 (by omega)]
    simp
  unfold parseR
  rw [if_neg (by omega), ht, if_pos rfl, hp]
  show finR ks 200 = _
  unfold finR
  rw [if_neg (by omega)]
end Go.Proofs.YtlojipipibebaaaDoor
/- Print; the statement ParserPrints answers true. -/
set_option linter.unusedVariables false
set_option linter.unusedSimpArgs false
namespace Go.Proofs.YtlojipipibebaaaDoor
open Go.RowKit SX
theorem okPr_at {l : List Nd} {k : Nat} {n : Nd} (hn : l[k]? = some n) : okPr (l.take (k + 1)) = (okPr (l.take k) && !(decide (n.op = 22) || !okS n)) := by
  unfold okPr
  rw [List.take_add_one, hn, List.all_append]; simp
theorem okPr_bad {l : List Nd} {n : Nd} (hn : n ∈ l) (h : (decide (n.op = 22) || !okS n) = true) : okPr l = false := by
  unfold okPr
  rw [Bool.eq_false_iff]
  intro hh
  have := List.all_eq_true.1 hh n hn
  rw [h] at this; cases this
theorem wP_at {l : List Nd} {k : Nat} {n : Nd} (hn : l[k]? = some n) : wP (l.take (k + 1)) = wP (l.take k) ++ pnS n := by
  unfold wP
  rw [List.take_add_one, hn]; simp
/-- What Print answers. -/
def prR (l : List Nd) : List UInt8 × Int := if okPr l then (txtW (wP l), 0) else ([], 1)
theorem txtW_ne {ws : List Wd} (h : ws ≠ []) : txtW ws ≠ [] := by
  cases ws with
  | nil => exact absurd rfl h
  | cons w ws => rw [txtW_cons]; simp
attribute [local irreducible] IntKind.wrap Go1 Reg WP thenK inBlk retQ retF RetF RetOK ResOK CallOK OpOK Sat
theorem c_Print (l : List Nd) (hb : cntL l ≤ 500000) (ht : l.all txN = true) : PureOK Tryd.prog 8 [.r (rowR 3 ndE l)] (.tup [.one (.c (.val (str (prR l).1))), .one (.c (.val (.int .i64 (prR l).2)))]) := by
  have hlen := len_prog ht
  have hll := len_cntL l
  have n81 : Named 8 81 := ⟨⟩
  rw [List.all_eq_true] at ht
  by_cases h0 : l = []
  · subst h0
    have e : prR [] = ([], 0) := rfl
    rw [e]
    have c := c_StringN true
    have ql : ([] : List Nd).length = 0 := rfl
    refine PureOK.fnF Tryd.func8 Tryd.results8 Tryd.ntmps8 rfl rfl rfl (by simp [AV.ids, AV0.ids, Atom.ids]) rfl (fun w0 T B E0 hB => ?_)
    refine SX.goG ?_
    refine W.loop (fun _ : Unit => True) (fun _ => [(4, .ptr 81 0), (10, .v (.int .i64 0)), (11, .v (.int .i64 0))]) (fun _ => [(81, .box 47 [.c (.val (.pointer none)), .c (.val (.slice none 0 0))])]) (fun _ => 0) () trivial (fun _ _ => ?_)
    refine SX.goG ?_
    exact .ok (RetOK.mk2 (ResOK.tmp rfl) (ResOK.tmp rfl))
  · refine PureOK.fnF Tryd.func8 Tryd.results8 Tryd.ntmps8 rfl rfl rfl (by simp [AV.ids, AV0.ids, Atom.ids]) rfl (fun w0 T B E0 hB => ?_)
    refine SX.goG ?_
    refine WP.weaken (pr_close (u := false) (bs := []) [(84, none)] [] rfl ⟨AtomTo.same rfl, AtomTo.nil rfl, trivial⟩ ⟨SX.EntTo.nilRow rfl, trivial⟩ rfl rfl rfl) ?_
    refine W.loop3 (fun (k : Nat) (v : Bool) (b : List UInt8) => k ≤ l.length ∧ b = txtW (wP (l.take k)) ∧ okPr (l.take k) = true) (fun k _ _ => [(4, .ptr 81 0), (9, .r (rowR 3 ndE l)), (10, .v (.int .i64 (l.length : Int))), (11, .v (.int .i64 (k : Int)))]) (fun _ v b => [(81, .abs (PrE v b))]) (fun k _ _ => l.length - k) 0 false [] ⟨Nat.zero_le _, rfl, rfl⟩ (fun k v b ⟨hk, hbb, hok⟩ => ?_)
    by_cases hlt : k < l.length
    · obtain ⟨n, hn⟩ : ∃ n, l[k]? = some n := ⟨_, List.getElem?_eq_getElem hlt⟩
      have hmem := List.mem_of_getElem? hn
      have hcn := cntL_memb hmem
      obtain ⟨_, cS⟩ := val_all (cnt n + 1) n (by omega) (by omega) (ht n hmem)
      unfold OKS at cS
      have hat := okPr_at hn
      rw [hok, Bool.true_and] at hat
      by_cases h22 : n.op = 22
      · have hbad := okPr_bad hmem (by rw [decide_eq_true h22]; rfl)
        have e : prR l = ([], 1) := by unfold prR; rw [hbad]; rfl
        rw [e]
        refine SX.goG ?_
        exact .ok (RetOK.mk2 (ResOK.tmp rfl) (ResOK.tmp rfl))
      · cases hs : okS n with
        | false =>
          have hbad := okPr_bad hmem (by rw [hs]; simp)
          have e : prR l = ([], 1) := by unfold prR; rw [hbad]; rfl
          rw [e]
          rw [hs] at cS
          refine SX.goG ?_
          exact .ok (RetOK.mk2 (ResOK.tmp rfl) (ResOK.tmp rfl))
        | true =>
          rw [hs] at cS
          have hle := flat_le l hn
          have hle : (txtW (wP (l.take k))).length + (txtW (pnS n)).length ≤ (txtW (wP l)).length := hle
          have cW := st_all (cnt n + 1) n (by omega) (by omega) hs v b (by rw [hbb]; omega)
          refine SX.goG ?_
          exact W.next3 (k + 1) true (b ++ txtW (pnS n)) ⟨hlt, by rw [wP_at hn, txtW_app, hbb], by rw [hat, hs, decide_eq_false h22]; rfl⟩ (by omega)
    · obtain rfl : k = l.length := by omega
      rw [List.take_length] at hbb hok
      have e : prR l = (txtW (wP l), 0) := by unfold prR; rw [hok]; rfl
      rw [e, ← hbb]
      have hne : b ≠ [] := by
        rw [hbb]
        refine txtW_ne ?_
        intro hw
        have hk' : ∀ k ∈ l, okS k = true ∧ k.op ≠ 22 := fun k hkm => by
          unfold okPr at hok
          have := List.all_eq_true.1 hok k hkm
          simp only [Bool.not_eq_true', Bool.or_eq_false_iff, decide_eq_false_iff_not, Bool.not_eq_false'] at this
          exact ⟨this.2, this.1⟩
        have h1 := flat_ge hk'
        have h2 : (l.map pnS).flatten = [] := hw
        rw [h2] at h1
        exact h0 (List.eq_nil_of_length_eq_zero (by simpa using h1))
      have c := c_String v b hne
      refine SX.goG ?_
      exact .ok (RetOK.mk2 (ResOK.tmp rfl) (ResOK.tmp rfl))
/-- Are nodes of a size that is looked at? -/
def smB : Nat → List Nd → Bool
  | 0, l => l.isEmpty
  | d + 1, l => decide (l.length ≤ 8) && l.all (fun k => decide (k.text.length ≤ 40) && smB d k.kids)
def fB : Nat → Nat
  | 0 => 0
  | d + 1 => 8 * (1 + fB d)
theorem smB_cnt : ∀ (d : Nat) (l : List Nd), smB d l = true → cntL l ≤ fB d ∧ depL l ≤ d ∧ l.all txN = true
  | 0, l, h => by
    have : l = [] := by simpa [smB] using h
    subst this; rw [cntL_nil, depL_nil]; exact ⟨Nat.le_refl _, Nat.le_refl _, rfl⟩
  | d + 1, l, h => by
    rw [smB, Bool.and_eq_true, decide_eq_true_eq, List.all_eq_true] at h
    obtain ⟨h1, h2⟩ := h
    have key : ∀ m : List Nd, (∀ k ∈ m, (decide (k.text.length ≤ 40) && smB d k.kids) = true) → cntL m ≤ m.length * (1 + fB d) ∧ depL m ≤ d + 1 ∧ m.all txN = true := by
      intro m
      induction m with
      | nil => intro _; rw [cntL_nil, depL_nil]; simp
      | cons k m ih =>
        intro hm
        obtain ⟨i1, i2, i3⟩ := ih (fun x hx => hm x (by simp [hx]))
        have hk := hm k (by simp)
        rw [Bool.and_eq_true, decide_eq_true_eq] at hk
        obtain ⟨j1, j2, j3⟩ := smB_cnt d k.kids hk.2
        have e1 := cnt_eq k
        have e2 := dep_eq k
        refine ⟨?_, ?_, ?_⟩
        · rw [cntL_cons, List.length_cons, Nat.succ_mul]; omega
        · rw [depL_cons, e2]
          split
          · omega
          · omega
        · rw [List.all_cons, i3, Bool.and_true]
          cases k with
          | mk o t ks =>
            rw [txN_mk, show ks.all txN = true from j3, Bool.and_true]
            have : t.length ≤ 40 := hk.1
            exact decide_eq_true (by omega)
    obtain ⟨k1, k2, k3⟩ := key l h2
    refine ⟨Nat.le_trans k1 ?_, k2, k3⟩
    exact Nat.mul_le_mul_right _ h1
theorem smB_step {d : Nat} {l : List Nd} {k : Nat} {n : Nd} (hn : l[k]? = some n) (p : Nd → Bool) : (l.drop k).all p = (p n && (l.drop (k + 1)).all p) := by
  obtain ⟨h, rfl⟩ := List.getElem?_eq_some_iff.1 hn
  rw [List.drop_eq_getElem_cons h, List.all_cons]
theorem c_small : ∀ (d : Nat) (l : List Nd), d ≤ 6 → PureOK Tryd.prog 6 [.r (rowR 3 ndC l), .v (.int .i64 (d : Int))] (.v (.bool (smB d l))) := by
  intro d
  induction d with
  | zero =>
    intro l hd
    rw [row_ndE]
    by_cases h0 : l.length = 0
    · have e : smB 0 l = true := by rw [smB, isE]; exact decide_eq_true h0
      rw [e]
      refine PureOK.fnF Tryd.func6 Tryd.results6 Tryd.ntmps6 rfl rfl rfl (by simp [AV.ids, AV0.ids, Atom.ids]) rfl (fun w0 T B E0 hB => ?_)
      refine SX.goG ?_
      refine W.loop (fun _ : Unit => True) (fun _ => [(0, .r (rowR 3 ndE l)), (5, .v (.int .i64 0))]) (fun _ => []) (fun _ => 0) () trivial (fun _ _ => ?_)
      refine SX.goG ?_
      exact retB rfl
    · have e : smB 0 l = false := by rw [smB, isE]; exact decide_eq_false h0
      rw [e]
      by_cases h8 : 8 < l.length
      · refine PureOK.fnF Tryd.func6 Tryd.results6 Tryd.ntmps6 rfl rfl rfl (by simp [AV.ids, AV0.ids, Atom.ids]) rfl (fun w0 T B E0 hB => ?_)
        refine SX.goG ?_
        exact retB rfl
      · refine PureOK.fnF Tryd.func6 Tryd.results6 Tryd.ntmps6 rfl rfl rfl (by simp [AV.ids, AV0.ids, Atom.ids]) rfl (fun w0 T B E0 hB => ?_)
        refine SX.goG ?_
        exact retB rfl
  | succ d ih =>
    intro l hd
    rw [row_ndE, smB]
    by_cases h8 : 8 < l.length
    · rw [decide_eq_false (by omega), Bool.false_and]
      refine PureOK.fnF Tryd.func6 Tryd.results6 Tryd.ntmps6 rfl rfl rfl (by simp [AV.ids, AV0.ids, Atom.ids]) rfl (fun w0 T B E0 hB => ?_)
      refine SX.goG ?_
      exact retB rfl
    · rw [decide_eq_true (by omega), Bool.true_and]
      refine PureOK.fnF Tryd.func6 Tryd.results6 Tryd.ntmps6 rfl rfl rfl (by simp [AV.ids, AV0.ids, Atom.ids]) rfl (fun w0 T B E0 hB => ?_)
      refine SX.goG ?_
      refine W.loop (fun k : Nat => k ≤ l.length ∧ (l.drop k).all (fun k => decide (k.text.length ≤ 40) && smB d k.kids) = l.all (fun k => decide (k.text.length ≤ 40) && smB d k.kids)) (fun k => [(0, .r (rowR 3 ndE l)), (1, .v (.int .i64 ((d + 1 : Nat) : Int))), (5, .v (.int .i64 (k : Int)))]) (fun _ => []) (fun k => l.length - k) 0 ⟨Nat.zero_le _, rfl⟩ (fun k ⟨hk, he⟩ => ?_)
      by_cases hlt : k < l.length
      · obtain ⟨n, hn⟩ : ∃ n, l[k]? = some n := ⟨_, List.getElem?_eq_getElem hlt⟩
        rw [smB_step (d := d) hn] at he
        have c : PureOK Tryd.prog 6 [.r (rowR 3 ndC n.kids), .v (.int .i64 ((d + 1 - 1 : Nat) : Int))] (.v (.bool (smB d n.kids))) := ih n.kids (by omega)
        by_cases ht : 40 < n.text.length
        · rw [decide_eq_false (show ¬ n.text.length ≤ 40 by omega), Bool.false_and, Bool.false_and] at he
          refine SX.goG ?_
          refine retB ?_
          rw [← he]
        · rw [decide_eq_true (show n.text.length ≤ 40 by omega), Bool.true_and] at he
          cases hs : smB d n.kids with
          | true =>
            rw [hs] at c he
            refine SX.goG ?_
            exact W.next (k + 1) ⟨hlt, by rw [← he]; rfl⟩ (by omega)
          | false =>
            rw [hs] at c he
            refine SX.goG ?_
            refine retB ?_
            rw [← he]; rfl
      · obtain rfl : k = l.length := by omega
        rw [List.drop_length] at he
        refine SX.goG ?_
        refine retB ?_
        rw [← he]; rfl
theorem kt_isTok {ts : List Tok} {ws : List Wd} (h : ts.map kt = ws) (hw : ws.all isW = true) : ts.all isTok = true := by
  rw [List.all_eq_true] at hw ⊢
  intro t ht
  have h1 := hw (kt t) (by rw [← h]; exact List.mem_map.2 ⟨t, ht, rfl⟩)
  unfold isW kt at h1
  rw [isTok_eq] at h1 ⊢
  exact h1
theorem word_len {ws : List Wd} {w : Wd} (h : w ∈ ws) : w.2.length ≤ (txtW ws).length := by
  induction ws with
  | nil => cases h
  | cons x ws ih =>
    rw [txtW_cons, List.length_append, List.length_cons]
    rcases List.mem_cons.1 h with rfl | h
    · omega
    · have := ih h; omega
theorem words_le (ws : List Wd) : ws.length ≤ (txtW ws).length := by
  induction ws with
  | nil => simp
  | cons x ws ih => rw [txtW_cons, List.length_append, List.length_cons, List.length_cons]; omega
theorem ParserPrints_ok (l : List Nd) (f : True) : PureOK Tryd.prog 3 [.r (rowR 3 ndC l)] (.v (.bool true)) := by
  have cA := con_pawake.h trivial
  have cS := c_small 6 l (by omega)
  cases hs : smB 6 l with
  | false =>
    rw [hs] at cS
    rw [row_ndE] at cS ⊢
    refine PureOK.fnF Tryd.func3 Tryd.results3 Tryd.ntmps3 rfl rfl rfl (by simp [AV.ids, AV0.ids, Atom.ids]) rfl (fun w0 T B E0 hB => ?_)
    refine SX.goG ?_
    exact retB rfl
  | true =>
    rw [hs] at cS
    obtain ⟨hc, hd, ht⟩ := smB_cnt 6 l hs
    have hf : fB 6 = 299592 := rfl
    rw [hf] at hc
    have cN := c_Nodes (cntL l + 1) l (by omega) (by omega)
    by_cases h60 : 60 < cntL l
    · rw [row_ndE] at cS cN ⊢
      refine PureOK.fnF Tryd.func3 Tryd.results3 Tryd.ntmps3 rfl rfl rfl (by simp [AV.ids, AV0.ids, Atom.ids]) rfl (fun w0 T B E0 hB => ?_)
      refine SX.goG ?_
      exact retB rfl
    · have cP := c_Print l (by omega) ht
      have hlen := len_prog ht
      cases hok : okPr l with
      | false =>
        have e : prR l = ([], 1) := by unfold prR; rw [hok]; rfl
        rw [e] at cP
        rw [row_ndE] at cS cN ⊢
        refine PureOK.fnF Tryd.func3 Tryd.results3 Tryd.ntmps3 rfl rfl rfl (by simp [AV.ids, AV0.ids, Atom.ids]) rfl (fun w0 T B E0 hB => ?_)
        refine SX.goG ?_
        refine retB ?_
        rfl
      | true =>
        have e : prR l = (txtW (wP l), 0) := by unfold prR; rw [hok]; rfl
        rw [e] at cP
        obtain ⟨ts, hlx, hkt⟩ := lexR_words (w_prog hok) (by omega)
        have hts := kt_isTok hkt (w_prog hok)
        have hp := parse_back hkt hts hok (by omega)
        have cL := (con_Lex (txtW (wP l))).h (by omega)
        rw [hlx] at cL
        have hsame := c_Same (cntL l + 1) l l (by omega) (by omega)
        rw [sameL_refl] at hsame
        rw [← row_ndE] at cP
        have hwl := words_le (wP l)
        have hts2 : ts.length = (wP l).length := by rw [← hkt, List.length_map]
        have hpc := call_Parse (l := ts) (d := 200) (by omega) (fun t ht' => by
          have h1 := word_len (ws := wP l) (w := kt t) (by rw [← hkt]; exact List.mem_map.2 ⟨t, ht', rfl⟩)
          have h2 : t.text.length ≤ (txtW (wP l)).length := h1
          omega) hp
        unfold tupQ at hpc
        refine PureOK.fnF Tryd.func3 Tryd.results3 Tryd.ntmps3 rfl rfl rfl (by simp [AV.ids, AV0.ids, Atom.ids]) rfl (fun w0 T B E0 hB => ?_)
        refine SX.goG ?_
        exact retB rfl
end Go.Proofs.YtlojipipibebaaaDoor

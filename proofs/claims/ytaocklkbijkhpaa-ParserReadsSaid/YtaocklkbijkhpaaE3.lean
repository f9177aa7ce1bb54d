import Derived.Test.YtaocklkbijkhpaaE2
/- The reference's tokens (package quincunxref27) are the lexer's. -/
set_option linter.unusedVariables false
set_option linter.unusedSimpArgs false
namespace Go.Proofs.Ytaocklkbijkhpaa
open Go.RowKit SX
attribute [local irreducible] IntKind.wrap Go1 Reg WP thenK inBlk retQ retF RetF RetOK ResOK CallOK OpOK Sat
theorem srt2 (c : UInt8) : srt c = 2 ↔ 48 ≤ c.toNat ∧ c.toNat ≤ 57 := by
  unfold srt; (repeat' split) <;> omega
theorem srt3 (c : UInt8) : srt c = 3 ↔ 97 ≤ c.toNat ∧ c.toNat ≤ 122 := by
  unfold srt; (repeat' split) <;> omega
theorem srt4 (c : UInt8) : srt c = 4 ↔ c.toNat = 95 := by
  unfold srt; (repeat' split) <;> omega
instance con_isDigit (c : UInt8) : Con Try.prog 43 [.v (.int .u8 (c.toNat : Int))] True (.v (.bool (decide (srt c = 2)))) := ⟨fun hl => by
  have h := srt2 c
  refine PureOK.fnF Try.func43 Try.results43 Try.ntmps43 rfl rfl rfl (by simp [AV.ids, AV0.ids, Atom.ids]) rfl (fun w0 T B E0 hB => ?_)
  repeat' (first | refine SX.go ?_ | refine SX.W.ite (fun h => ?_) (fun h => ?_) | refine SX.W.iteN (fun h => ?_) (fun h => ?_) | refine SX.W.iteB (fun h => ?_) (fun h => ?_) | refine SX.R.ite (fun h => ?_) (fun h => ?_) | refine SX.R.iteN (fun h => ?_) (fun h => ?_) | refine SX.R.iteB (fun h => ?_) (fun h => ?_))
  all_goals (refine retB ?_; first | (rw [eq_comm]; exact decide_eq_false (by omega)) | (rw [decide_eq_decide]; omega))⟩
instance con_isLetter (c : UInt8) : Con Try.prog 45 [.v (.int .u8 (c.toNat : Int))] True (.v (.bool (decide (srt c = 3)))) := ⟨fun hl => by
  have h := srt3 c
  refine PureOK.fnF Try.func45 Try.results45 Try.ntmps45 rfl rfl rfl (by simp [AV.ids, AV0.ids, Atom.ids]) rfl (fun w0 T B E0 hB => ?_)
  repeat' (first | refine SX.go ?_ | refine SX.W.ite (fun h => ?_) (fun h => ?_) | refine SX.W.iteN (fun h => ?_) (fun h => ?_) | refine SX.W.iteB (fun h => ?_) (fun h => ?_) | refine SX.R.ite (fun h => ?_) (fun h => ?_) | refine SX.R.iteN (fun h => ?_) (fun h => ?_) | refine SX.R.iteB (fun h => ?_) (fun h => ?_))
  all_goals (refine retB ?_; first | (rw [eq_comm]; exact decide_eq_false (by omega)) | (rw [decide_eq_decide]; omega))⟩
instance con_isWord (c : UInt8) : Con Try.prog 44 [.v (.int .u8 (c.toNat : Int))] True (.v (.bool (wrd c))) := ⟨fun hl => by
  have h := srt4 c
  have hw : wrd c = (decide (srt c = 2) || decide (srt c = 3) || decide (srt c = 4)) := by unfold wrd; rfl
  refine PureOK.fnF Try.func44 Try.results44 Try.ntmps44 rfl rfl rfl (by simp [AV.ids, AV0.ids, Atom.ids]) rfl (fun w0 T B E0 hB => ?_)
  repeat' (first | refine SX.go ?_ | refine SX.W.ite (fun h => ?_) (fun h => ?_) | refine SX.W.iteN (fun h => ?_) (fun h => ?_) | refine SX.W.iteB (fun h => ?_) (fun h => ?_) | refine SX.R.ite (fun h => ?_) (fun h => ?_) | refine SX.R.iteN (fun h => ?_) (fun h => ?_) | refine SX.R.iteB (fun h => ?_) (fun h => ?_))
  all_goals (refine retB ?_; rw [hw, Bool.eq_iff_iff]; simp; omega)⟩
theorem all_step (p : UInt8 → Bool) (l : List UInt8) (k : Nat) (h : k < l.length) : (l.drop k).all p = (p (byt l k) && (l.drop (k + 1)).all p) := by
  rw [List.drop_eq_getElem_cons h]
  have : byt l k = l[k] := by simp [byt, h]
  rw [this]; rfl
theorem num_all (l : List UInt8) : num l = (decide (1 ≤ l.length ∧ l.length ≤ 2000 ∧ (l.length = 1 ∨ (byt l 0).toNat ≠ 48)) && l.all fun c => decide (srt c = 2)) := by unfold num; rfl
theorem run_all : ∀ l : List UInt8, run l = l.length ↔ l.all wrd = true
  | [] => by simp [run]
  | c :: l => by
    have ih := run_all l
    unfold run at *
    cases h : wrd c
    · simp [List.takeWhile_cons, h]
    · simp [List.takeWhile_cons, h, ih]
theorem nam_all (l : List UInt8) : nam l = (decide (1 ≤ l.length ∧ l.length ≤ 30 ∧ srt (byt l 0) = 3) && l.all wrd) := by
  have := run_all l
  unfold nam; rw [Bool.eq_iff_iff]; simp [this]; simp [← and_assoc]
instance con_Numeral (l : List UInt8) : Con Try.prog 33 [.v (str l)] (l.length ≤ 1000000000) (.v (.bool (num l))) := ⟨fun hl => by
  have hn := num_all l
  refine PureOK.fnF Try.func33 Try.results33 Try.ntmps33 rfl rfl rfl (by simp [AV.ids, AV0.ids, Atom.ids]) rfl (fun w0 T B E0 hB => ?_)
  refine SX.go ?_
  refine W.loop (fun k => k ≤ l.length ∧ (l.all fun c => decide (srt c = 2)) = (l.drop k).all fun c => decide (srt c = 2)) (fun k => [(0, .v (str l)), (3, .v (.int .i64 (k : Int)))]) (fun _ => []) (fun k => l.length - k) 0 ⟨Nat.zero_le _, by simp⟩ (fun k ⟨hk, hx⟩ => ?_)
  have hs := all_step (fun c => decide (srt c = 2)) l k
  repeat' (first | refine SX.go ?_ | refine SX.W.ite (fun h => ?_) (fun h => ?_) | refine SX.W.iteN (fun h => ?_) (fun h => ?_) | refine SX.W.iteB (fun h => ?_) (fun h => ?_) | refine SX.R.ite (fun h => ?_) (fun h => ?_) | refine SX.R.iteN (fun h => ?_) (fun h => ?_) | refine SX.R.iteB (fun h => ?_) (fun h => ?_))
  · refine retB ?_
    rw [hn, hx, hs (by omega)]; simp_all
  · exact W.next (k + 1) ⟨by omega, by rw [hx, hs (by omega), decide_eq_true (by assumption)]; rfl⟩ (by omega)
  all_goals (refine retB ?_; rw [hn, hx, List.drop_eq_nil_of_le (by omega), List.all_nil, Bool.and_true]; first | (rw [eq_comm]; exact decide_eq_true (by omega)) | (rw [eq_comm]; exact decide_eq_false (by omega)) | (rw [Bool.eq_iff_iff]; simp; omega))⟩
instance con_Name (l : List UInt8) : Con Try.prog 34 [.v (str l)] (l.length ≤ 1000000000) (.v (.bool (nam l))) := ⟨fun hl => by
  have hn := nam_all l
  refine PureOK.fnF Try.func34 Try.results34 Try.ntmps34 rfl rfl rfl (by simp [AV.ids, AV0.ids, Atom.ids]) rfl (fun w0 T B E0 hB => ?_)
  refine SX.go ?_
  refine W.loop (fun k => k ≤ l.length ∧ l.all wrd = (l.drop k).all wrd) (fun k => [(0, .v (str l)), (3, .v (.int .i64 (k : Int)))]) (fun _ => []) (fun k => l.length - k) 0 ⟨Nat.zero_le _, by simp⟩ (fun k ⟨hk, hx⟩ => ?_)
  have hs := all_step wrd l k
  repeat' (first | refine SX.go ?_ | refine SX.W.ite (fun h => ?_) (fun h => ?_) | refine SX.W.iteN (fun h => ?_) (fun h => ?_) | refine SX.W.iteB (fun h => ?_) (fun h => ?_) | refine SX.R.ite (fun h => ?_) (fun h => ?_) | refine SX.R.iteN (fun h => ?_) (fun h => ?_) | refine SX.R.iteB (fun h => ?_) (fun h => ?_))
  · refine retB ?_
    rw [hn, hx, hs (by omega)]; simp_all
  · exact W.next (k + 1) ⟨by omega, by rw [hx, hs (by omega)]; simp_all⟩ (by omega)
  all_goals (refine retB ?_; rw [hn, hx, List.drop_eq_nil_of_le (by omega), List.all_nil, Bool.and_true]; first | (rw [eq_comm]; exact decide_eq_true (by omega)) | (rw [eq_comm]; exact decide_eq_false (by omega)) | (rw [Bool.eq_iff_iff]; simp; omega))⟩
/-- Signs. -/
def sgt (l : List UInt8) : Bool := sg1 l || decide (l = [61, 61] ∨ l = [33, 61] ∨ l = [60, 61] ∨ l = [46, 46])
theorem sg1_iff (l : List UInt8) : sg1 l = true ↔ ∃ c, l = [c] ∧ c ∈ [43, 45, 42, 47, 94, 40, 41, 91, 93, 123, 125, 44, 59, 61, 60] := by
  unfold sg1
  rw [decide_eq_true_iff]
  constructor
  · rintro ⟨h1, h2⟩
    obtain ⟨c, rfl⟩ := one_of h1
    exact ⟨c, rfl, by simpa [byt] using h2⟩
  · rintro ⟨c, rfl, h⟩
    exact ⟨rfl, by simpa [byt] using h⟩
theorem sgt_iff (l : List UInt8) : sgt l = true ↔ (∃ c, l = [c] ∧ c ∈ [43, 45, 42, 47, 94, 40, 41, 91, 93, 123, 125, 44, 59, 61, 60]) ∨ (l = [61, 61] ∨ l = [33, 61] ∨ l = [60, 61] ∨ l = [46, 46]) := by
  unfold sgt; rw [Bool.or_eq_true, sg1_iff, decide_eq_true_iff]
instance con_Sign (l : List UInt8) : Con Try.prog 35 [.v (str l)] True (.v (.bool (sgt l))) := ⟨fun hl => by
  refine PureOK.fnF Try.func35 Try.results35 Try.ntmps35 rfl rfl rfl (by simp [AV.ids, AV0.ids, Atom.ids]) rfl (fun w0 T B E0 hB => ?_)
  repeat' (first | refine SX.go ?_ | refine SX.W.ite (fun h => ?_) (fun h => ?_) | refine SX.W.iteN (fun h => ?_) (fun h => ?_) | refine SX.W.iteB (fun h => ?_) (fun h => ?_) | refine SX.R.ite (fun h => ?_) (fun h => ?_) | refine SX.R.iteN (fun h => ?_) (fun h => ?_) | refine SX.R.iteB (fun h => ?_) (fun h => ?_))
  all_goals (refine retB ?_; first | (rw [eq_comm, sgt_iff]; simp [*]; done) | (rw [eq_comm, Bool.eq_false_iff, Ne, sgt_iff]; rintro (⟨c, rfl, hc⟩ | h1) <;> simp_all))⟩
theorem isTok_eq (t : Tok) : isTok t = if t.kind = 1 then num t.text else if t.kind = 2 then nam t.text else if t.kind = 3 then sgt t.text else false := by unfold isTok sgt; rfl
attribute [irreducible] sgt
instance con_RIs (t : Tok) : Con Try.prog 13 [.agg (tokA t)] (t.text.length ≤ 1000000000) (.v (.bool (isTok t))) := ⟨fun hl => by
  refine PureOK.fnF Try.func13 Try.results13 Try.ntmps13 rfl rfl rfl (by simp [AV.ids, AV0.ids, Atom.ids]) rfl (fun w0 T B E0 hB => ?_)
  repeat' (first | refine SX.go ?_ | refine SX.W.ite (fun h => ?_) (fun h => ?_) | refine SX.W.iteN (fun h => ?_) (fun h => ?_) | refine SX.W.iteB (fun h => ?_) (fun h => ?_) | refine SX.R.ite (fun h => ?_) (fun h => ?_) | refine SX.R.iteN (fun h => ?_) (fun h => ?_) | refine SX.R.iteB (fun h => ?_) (fun h => ?_))
  all_goals (refine retB ?_; rw [isTok_eq]; simp_all)⟩
/-- The same tokens; with places, if that is asked. -/
def sameT (b : Bool) : List Tok → List Tok → Bool
  | [], [] => true
  | s :: l, t :: m => decide (s.kind = t.kind) && decide (s.text = t.text) && (!b || decide (s.pos = t.pos)) && sameT b l m
  | _, _ => false
theorem sameT_len (b : Bool) : ∀ l m : List Tok, l.length ≠ m.length → sameT b l m = false
  | [], [], h => by simp at h
  | s :: l, t :: m, h => by
    have := sameT_len b l m (by simpa using h)
    simp [sameT, this]
  | [], _ :: _, _ => rfl
  | _ :: _, [], _ => rfl
instance con_Same (l m : List Tok) (b : Bool) : Con Try.prog 15 [.r (rowR 3 tokC l), .r (rowR 3 tokC m), .v (.bool b)] (l.length ≤ 1000000000 ∧ m.length ≤ 1000000000) (.v (.bool (sameT b l m))) := ⟨fun ⟨h1, h2⟩ => by
  refine PureOK.fnF Try.func15 Try.results15 Try.ntmps15 rfl rfl rfl (by simp [AV.ids, AV0.ids, Atom.ids]) rfl (fun w0 T B E0 hB => ?_)
  by_cases hlen : l.length = m.length
  · refine SX.go ?_
    refine W.loop (fun k => k ≤ l.length ∧ sameT b l m = sameT b (l.drop k) (m.drop k)) (fun k => [(0, .r (rowR 3 tokC l)), (1, .r (rowR 3 tokC m)), (2, .v (.bool b)), (7, .v (.int .i64 (k : Int)))]) (fun _ => []) (fun k => l.length - k) 0 ⟨Nat.zero_le _, by simp⟩ (fun k ⟨hk, hx⟩ => ?_)
    by_cases hlt : k < l.length
    · obtain ⟨s, hs⟩ : ∃ s, l[k]? = some s := ⟨_, List.getElem?_eq_getElem hlt⟩
      obtain ⟨t, ht⟩ : ∃ t, m[k]? = some t := ⟨_, List.getElem?_eq_getElem (by omega)⟩
      have hc : sameT b (l.drop k) (m.drop k) = (decide (s.kind = t.kind) && decide (s.text = t.text) && (!b || decide (s.pos = t.pos)) && sameT b (l.drop (k + 1)) (m.drop (k + 1))) := by
        obtain ⟨h3, rfl⟩ := List.getElem?_eq_some_iff.1 hs
        obtain ⟨h4, rfl⟩ := List.getElem?_eq_some_iff.1 ht
        rw [List.drop_eq_getElem_cons h3, List.drop_eq_getElem_cons h4]; rfl
      repeat' (first | refine SX.go ?_ | refine SX.W.ite (fun h => ?_) (fun h => ?_) | refine SX.W.iteN (fun h => ?_) (fun h => ?_) | refine SX.W.iteB (fun h => ?_) (fun h => ?_) | refine SX.R.ite (fun h => ?_) (fun h => ?_) | refine SX.R.iteN (fun h => ?_) (fun h => ?_) | refine SX.R.iteB (fun h => ?_) (fun h => ?_))
      all_goals first | (refine retB ?_; rw [hx, hc]; simp_all; done) | exact W.next (k + 1) ⟨by omega, by rw [hx, hc]; simp_all⟩ (by omega)
    · refine SX.go ?_
      refine retB ?_
      rw [hx, List.drop_eq_nil_of_le (by omega), List.drop_eq_nil_of_le (by omega)]; rfl
  · refine SX.go ?_
    refine retB ?_
    rw [sameT_len _ _ _ hlen]⟩
instance con_to (l : List Tok) : Con Try.prog 16 [.r (rowR 3 tokC l)] (l.length ≤ 1000000000) (.r (rowR 3 tokC l)) := ⟨fun h1 => by
  refine PureOK.fnF Try.func16 Try.results16 Try.ntmps16 rfl rfl rfl (by simp [AV.ids, AV0.ids, Atom.ids]) rfl (fun w0 T B E0 hB => ?_)
  refine SX.go ?_
  refine W.loop2 (fun (k : Nat) (m : List Tok) => k ≤ l.length ∧ m = l.take k) (fun k m => [(0, .r (rowR 3 tokC l)), (3, .own 100), (4, .v (.int .i64 (k : Int)))]) (fun k m => [(100, .row 32 3 m.length (m.flatMap tokC))]) (fun k _ => l.length - k) 0 [] ⟨Nat.zero_le _, by simp⟩ (fun k m ⟨hk, hm⟩ => ?_)
  by_cases hlt : k < l.length
  · obtain ⟨s, hs⟩ : ∃ s, l[k]? = some s := ⟨_, List.getElem?_eq_getElem hlt⟩
    have hml : m.length = k := by rw [hm, List.length_take]; omega
    have htk : l.take (k + 1) = l.take k ++ [s] := by rw [List.take_add_one, hs]; rfl
    refine SX.go ?_
    exact W.next2 (k + 1) (m ++ [s]) ⟨by omega, by rw [htk, hm]⟩ (by omega)
  · rw [List.take_of_length_le (by omega)] at hm
    subst hm
    refine SX.go ?_
    refine RetF.frz 100 ?_
    exact ret1' (AV0.imp.refl _)⟩
end Go.Proofs.Ytaocklkbijkhpaa

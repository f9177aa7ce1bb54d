import Derived.Test.YtlojipipibebaaaDoorM7
import Derived.Test.YtlojipipibebaaaDoorM8
import Derived.Lib.Join
import Derived.Test.YtlojipipibebaaaDoorM3
/- Package lexer in the symbolic run. -/
set_option linter.unusedVariables false
set_option linter.unusedSimpArgs false
namespace Go.Proofs.YtlojipipibebaaaDoor
open Go.RowKit SX
attribute [local irreducible] IntKind.wrap Go1 Reg WP thenK inBlk retQ retF RetF RetOK ResOK CallOK OpOK Sat
/-- A byte's sort. -/
def srt (c : UInt8) : Nat := if c.toNat = 32 ∨ c.toNat = 9 ∨ c.toNat = 10 ∨ c.toNat = 13 then 1 else if 48 ≤ c.toNat ∧ c.toNat ≤ 57 then 2 else if 97 ≤ c.toNat ∧ c.toNat ≤ 122 then 3 else if c.toNat = 95 then 4 else
  if 0 ≤ Lib.indexByte [43, 45, 42, 47, 94, 40, 41, 91, 93, 123, 125, 44, 59, 61, 60, 33, 46] c then 5 else 0
/-- Place of a byte in a text, or -1. -/
abbrev ixb (l : List UInt8) (c : UInt8) : Int := Lib.indexByte l c
theorem ixb_cons (b : UInt8) (l : List UInt8) (c : UInt8) : ixb (b :: l) c = if b = c then 0 else if ixb l c = -1 then -1 else ixb l c + 1 := by
  have e : ixb (b :: l) c = if b == c then 0 else if ixb l c == -1 then -1 else ixb l c + 1 := rfl
  rw [e]; simp only [beq_iff_eq]
theorem ixb_mem (l : List UInt8) (c : UInt8) : 0 ≤ ixb l c ↔ c ∈ l := by
  induction l with
  | nil => simp [ixb, Lib.indexByte]
  | cons b l ih =>
    have hg : -1 ≤ ixb l c := Lib.indexByte_ge l c
    rw [ixb_cons, List.mem_cons, ← ih]
    generalize ixb l c = z at *
    by_cases h : b = c
    · subst h; simp
    · have hc : ¬ c = b := fun e => h e.symm
      simp only [hc, false_or, h, if_false]
      split <;> omega
theorem pureS {f : FuncId} {args : List Value} {r : Value} (he : ∃ fn, Tryd.prog.funcs[f]? = some fn ∧ (fn.name == "runtime.NumGoroutine") = false ∧ fn.body.isNone = false) (h : ∀ w, Calls Tryd.prog f args.toArray w fun e w' => e = .returned r ∧ w' = w) : PureOK Tryd.prog f (args.map AV.v) (.v r) :=
  PureOK.of_calls he rfl fun E S w vs hl hv => by
    have hvs : vs = args := by
      clear h
      induction args generalizing vs with
      | nil => cases vs with | nil => rfl | cons _ _ => exact hv.elim
      | cons a l ih => cases vs with | nil => exact hv.elim | cons b m => rw [ih m hv.2, show b = a from hv.1]
    subst hvs
    exact (h w).mono fun e w' ⟨h1, h2⟩ => ⟨r, h1, rfl, by subst h2; exact Off.refl _ _⟩
instance con_IndexByte (l : List UInt8) (c : UInt8) : Con Tryd.prog 31 [.v (str l), .v (.int .u8 (c.toNat : Int))] True (.v (.int .i64 (ixb l c))) := ⟨fun _ =>
  pureS (args := [str l, .int .u8 (c.toNat : Int)]) ⟨_, Tryd.func31, rfl, rfl⟩ fun w => (Tryd.strings_IndexByte ⟨⟨l⟩⟩ (c.toNat : Int) w).mono fun e w' ⟨h1, h2⟩ => ⟨by rw [h1]; simp [ixb], h2⟩⟩
instance con_IndexByteL (l : List UInt8) : Con Tryd.prog 31 [.v (str l), .v (.int .u8 10)] True (.v (.int .i64 (ixb l 10))) := con_IndexByte l 10
instance con_sort (c : UInt8) : Con Tryd.prog 30 [.v (.int .u8 (c.toNat : Int))] True (.v (.int .i64 (srt c : Int))) := ⟨fun _ => by
  refine PureOK.fnF Tryd.func30 Tryd.results30 Tryd.ntmps30 rfl rfl rfl (by simp [AV.ids, AV0.ids, Atom.ids]) rfl (fun w0 T B E0 hB => ?_)
  repeat' (first | refine SX.go ?_ | refine SX.W.ite (fun h => ?_) (fun h => ?_) | refine SX.W.iteN (fun h => ?_) (fun h => ?_) | refine SX.W.iteB (fun h => ?_) (fun h => ?_) | refine SX.R.ite (fun h => ?_) (fun h => ?_) | refine SX.R.iteN (fun h => ?_) (fun h => ?_) | refine SX.R.iteB (fun h => ?_) (fun h => ?_))
  all_goals (refine retI ?_; unfold srt; (repeat' split) <;> omega)⟩
/-- A byte of a word. -/
def wrd (c : UInt8) : Bool := decide (srt c = 2) || decide (srt c = 3) || decide (srt c = 4)
instance con_word (c : UInt8) : Con Tryd.prog 51 [.v (.int .u8 (c.toNat : Int))] True (.v (.bool (wrd c))) := ⟨fun _ => by
  refine PureOK.fnF Tryd.func51 Tryd.results51 Tryd.ntmps51 rfl rfl rfl (by simp [AV.ids, AV0.ids, Atom.ids]) rfl (fun w0 T B E0 hB => ?_)
  repeat' (first | refine SX.go ?_ | refine SX.W.ite (fun h => ?_) (fun h => ?_) | refine SX.W.iteN (fun h => ?_) (fun h => ?_) | refine SX.W.iteB (fun h => ?_) (fun h => ?_) | refine SX.R.ite (fun h => ?_) (fun h => ?_) | refine SX.R.iteN (fun h => ?_) (fun h => ?_) | refine SX.R.iteB (fun h => ?_) (fun h => ?_))
  all_goals (refine retB ?_; rw [Bool.eq_iff_iff]; simp [wrd]; omega)⟩
/-- How many bytes of words a text begins with. -/
def run (l : List UInt8) : Nat := (l.takeWhile wrd).length
theorem tw_get {p : UInt8 → Bool} : ∀ (l : List UInt8) (k : Nat), k ≤ (l.takeWhile p).length → k < l.length → p (byt l k) = decide (k < (l.takeWhile p).length)
  | [], k, _, h => by simp at h
  | c :: l, 0, _, _ => by
    cases h : p c <;> simp [byt, List.takeWhile_cons, h]
  | c :: l, k + 1, h1, h2 => by
    cases h : p c
    · simp [List.takeWhile_cons, h] at h1
    · simp [List.takeWhile_cons, h] at h1 ⊢
      have := tw_get l k h1 (by simpa using h2)
      simpa [byt] using this
theorem run_le (l : List UInt8) : run l ≤ l.length := (List.takeWhile_prefix _).length_le
instance con_run (l : List UInt8) : Con Tryd.prog 32 [.v (str l)] (l.length ≤ 9223372036854775807) (.v (.int .i64 (run l : Int))) := ⟨fun hl => by
  refine PureOK.fnF Tryd.func32 Tryd.results32 Tryd.ntmps32 rfl rfl rfl (by simp [AV.ids, AV0.ids, Atom.ids]) rfl (fun w0 T B E0 hB => ?_)
  refine SX.go ?_
  refine W.loop (fun k => k ≤ run l) (fun k => [(0, .v (str l)), (3, .v (.int .i64 (k : Int)))]) (fun _ => []) (fun k => l.length - k) 0 (Nat.zero_le _) (fun k hk => ?_)
  have h1 := run_le l
  have h2 := tw_get (p := wrd) l k hk
  repeat' (first | refine SX.go ?_ | refine SX.W.ite (fun h => ?_) (fun h => ?_) | refine SX.W.iteN (fun h => ?_) (fun h => ?_) | refine SX.W.iteB (fun h => ?_) (fun h => ?_) | refine SX.R.ite (fun h => ?_) (fun h => ?_) | refine SX.R.iteN (fun h => ?_) (fun h => ?_) | refine SX.R.iteB (fun h => ?_) (fun h => ?_))
  · exact W.next (k + 1) (by rw [‹wrd _ = true›] at h2; have := of_decide_eq_true (h2 (by omega)).symm; unfold run; omega) (by omega)
  · refine retI ?_
    rw [‹wrd _ = false›] at h2; have := of_decide_eq_false (h2 (by omega)).symm; unfold run at *; omega
  · refine retI ?_; omega⟩
instance con_two (l : List UInt8) : Con Tryd.prog 35 [.v (str l)] True (.v (.bool (decide (l = [61, 61] ∨ l = [33, 61] ∨ l = [60, 61] ∨ l = [46, 46])))) := ⟨fun hl => by
  refine PureOK.fnF Tryd.func35 Tryd.results35 Tryd.ntmps35 rfl rfl rfl (by simp [AV.ids, AV0.ids, Atom.ids]) rfl (fun w0 T B E0 hB => ?_)
  repeat' (first | refine SX.go ?_ | refine SX.W.ite (fun h => ?_) (fun h => ?_) | refine SX.W.iteN (fun h => ?_) (fun h => ?_) | refine SX.W.iteB (fun h => ?_) (fun h => ?_) | refine SX.R.ite (fun h => ?_) (fun h => ?_) | refine SX.R.iteN (fun h => ?_) (fun h => ?_) | refine SX.R.iteB (fun h => ?_) (fun h => ?_))
  all_goals (refine retB ?_; simp [*])⟩
/-- A text of digits alone. -/
def dig (l : List UInt8) : Bool := l.all fun c => decide (srt c = 2)
/-- Numerals. -/
def num (l : List UInt8) : Bool := decide (1 ≤ l.length ∧ l.length ≤ 2000 ∧ (l.length = 1 ∨ (byt l 0).toNat ≠ 48)) && dig l
theorem dig_step (l : List UInt8) (k : Nat) (h : k < l.length) : dig (l.drop k) = (decide (srt (byt l k) = 2) && dig (l.drop (k + 1))) := by
  rw [List.drop_eq_getElem_cons h]
  have : byt l k = l[k] := by simp [byt, h]
  rw [this]; rfl
instance con_numeral (l : List UInt8) : Con Tryd.prog 33 [.v (str l)] (l.length ≤ 9223372036854775807) (.v (.bool (num l))) := ⟨fun hl => by
  refine PureOK.fnF Tryd.func33 Tryd.results33 Tryd.ntmps33 rfl rfl rfl (by simp [AV.ids, AV0.ids, Atom.ids]) rfl (fun w0 T B E0 hB => ?_)
  repeat' (first | refine SX.go ?_ | refine SX.W.ite (fun h => ?_) (fun h => ?_) | refine SX.W.iteN (fun h => ?_) (fun h => ?_) | refine SX.W.iteB (fun h => ?_) (fun h => ?_) | refine SX.R.ite (fun h => ?_) (fun h => ?_) | refine SX.R.iteN (fun h => ?_) (fun h => ?_) | refine SX.R.iteB (fun h => ?_) (fun h => ?_))
  all_goals (first | (refine retB ?_; rw [eq_comm]; unfold num; rw [Bool.and_eq_false_iff]; refine .inl (decide_eq_false fun hn => ?_); omega) | skip)
  all_goals
    have hb : decide (1 ≤ l.length ∧ l.length ≤ 2000 ∧ (l.length = 1 ∨ (byt l 0).toNat ≠ 48)) = true := decide_eq_true (by omega)
    refine W.loop (fun k => k ≤ l.length ∧ num l = dig (l.drop k)) (fun k => [(0, .v (str l)), (23, .v (.int .i64 (l.length : Int))), (24, .v (.int .i64 (k : Int)))]) (fun _ => []) (fun k => l.length - k) 0 ⟨Nat.zero_le _, by unfold num; rw [hb]; rfl⟩ (fun k ⟨hk, hn⟩ => ?_)
    have hs := dig_step l k
    repeat' (first | refine SX.go ?_ | refine SX.W.ite (fun h => ?_) (fun h => ?_) | refine SX.W.iteN (fun h => ?_) (fun h => ?_) | refine SX.W.iteB (fun h => ?_) (fun h => ?_) | refine SX.R.ite (fun h => ?_) (fun h => ?_) | refine SX.R.iteN (fun h => ?_) (fun h => ?_) | refine SX.R.iteB (fun h => ?_) (fun h => ?_))
    · refine retB ?_
      rw [hn, hs (by omega), decide_eq_false (by omega)]; rfl
    · exact W.next (k + 1) ⟨by omega, by rw [hn, hs (by omega), decide_eq_true (by omega)]; rfl⟩ (by omega)
    · refine retB ?_
      rw [hn, List.drop_eq_nil_of_le (by omega)]; rfl⟩
/-- Names. -/
def nam (l : List UInt8) : Bool := decide (1 ≤ l.length ∧ l.length ≤ 30 ∧ srt (byt l 0) = 3 ∧ run l = l.length)
instance con_name (l : List UInt8) : Con Tryd.prog 34 [.v (str l)] (l.length ≤ 9223372036854775807) (.v (.bool (nam l))) := ⟨fun hl => by
  refine PureOK.fnF Tryd.func34 Tryd.results34 Tryd.ntmps34 rfl rfl rfl (by simp [AV.ids, AV0.ids, Atom.ids]) rfl (fun w0 T B E0 hB => ?_)
  repeat' (first | refine SX.go ?_ | refine SX.W.ite (fun h => ?_) (fun h => ?_) | refine SX.W.iteN (fun h => ?_) (fun h => ?_) | refine SX.W.iteB (fun h => ?_) (fun h => ?_) | refine SX.R.ite (fun h => ?_) (fun h => ?_) | refine SX.R.iteN (fun h => ?_) (fun h => ?_) | refine SX.R.iteB (fun h => ?_) (fun h => ?_))
  all_goals (refine retB ?_; unfold nam; first | (rw [eq_comm]; exact decide_eq_true (by omega)) | (rw [eq_comm]; exact decide_eq_false (by omega)) | (rw [decide_eq_decide]; omega))⟩
/-- Signs of one byte. -/
def sg1 (l : List UInt8) : Bool := decide (l.length = 1 ∧ byt l 0 ∈ [43, 45, 42, 47, 94, 40, 41, 91, 93, 123, 125, 44, 59, 61, 60])
theorem one_of {l : List UInt8} (h : l.length = 1) : ∃ c, l = [c] := by
  match l, h with
  | [c], _ => exact ⟨c, rfl⟩
instance con_Contains (l : List UInt8) (c : UInt8) : Con Tryd.prog 52 [.v (str l), .v (str [c])] True (.v (.bool (decide (0 ≤ ixb l c)))) := ⟨fun _ =>
  pureS (args := [str l, str [c]]) ⟨_, Tryd.func52, rfl, rfl⟩ fun w => (Tryd.strings_Contains_one ⟨⟨l⟩⟩ c w).mono fun e w' ⟨h1, h2⟩ => ⟨h1, h2⟩⟩
instance con_one (l : List UInt8) : Con Tryd.prog 36 [.v (str l)] True (.v (.bool (sg1 l))) := ⟨fun hl => by
  by_cases h1 : l.length = 1
  · obtain ⟨c, rfl⟩ := one_of h1
    refine PureOK.fnF Tryd.func36 Tryd.results36 Tryd.ntmps36 rfl rfl rfl (by simp [AV.ids, AV0.ids, Atom.ids]) rfl (fun w0 T B E0 hB => ?_)
    repeat' (first | refine SX.go ?_ | refine SX.W.ite (fun h => ?_) (fun h => ?_) | refine SX.W.iteN (fun h => ?_) (fun h => ?_) | refine SX.W.iteB (fun h => ?_) (fun h => ?_) | refine SX.R.ite (fun h => ?_) (fun h => ?_) | refine SX.R.iteN (fun h => ?_) (fun h => ?_) | refine SX.R.iteB (fun h => ?_) (fun h => ?_))
    all_goals (refine retB ?_; unfold sg1; rw [decide_eq_decide, ixb_mem]; simp [byt])
  · refine PureOK.fnF Tryd.func36 Tryd.results36 Tryd.ntmps36 rfl rfl rfl (by simp [AV.ids, AV0.ids, Atom.ids]) rfl (fun w0 T B E0 hB => ?_)
    repeat' (first | refine SX.go ?_ | refine SX.W.ite (fun h => ?_) (fun h => ?_) | refine SX.W.iteN (fun h => ?_) (fun h => ?_) | refine SX.W.iteB (fun h => ?_) (fun h => ?_) | refine SX.R.ite (fun h => ?_) (fun h => ?_) | refine SX.R.iteN (fun h => ?_) (fun h => ?_) | refine SX.R.iteB (fun h => ?_) (fun h => ?_))
    all_goals (refine retB ?_; rw [eq_comm]; exact decide_eq_false (by omega))⟩
attribute [irreducible] sg1 nam num wrd srt
end Go.Proofs.YtlojipipibebaaaDoor
/- Package lexer in the symbolic run: first, gap, Lex, Is, Join. -/
set_option linter.unusedVariables false
set_option linter.unusedSimpArgs false
namespace Go.Proofs.YtlojipipibebaaaDoor
open Go.RowKit SX
attribute [local irreducible] IntKind.wrap Go1 Reg WP thenK inBlk retQ retF RetF RetOK ResOK CallOK OpOK Sat
structure Tok where
  kind : Int
  text : List UInt8
  pos : Int
def tokC (t : Tok) : List CA := [.val (.int .i64 t.kind), .val (str t.text), .val (.int .i64 t.pos)]
abbrev tokA (t : Tok) : List Atom := [.c (.val (.int .i64 t.kind)), .c (.val (str t.text)), .c (.val (.int .i64 t.pos))]
instance : EncLen tokC 3 := ⟨fun _ => rfl⟩
/-- The token that a text begins with. -/
def fst (l : List UInt8) : Tok :=
  if num (l.take (run l)) then ⟨1, l.take (run l), 0⟩ else if nam (l.take (run l)) then ⟨2, l.take (run l), 0⟩ else
  if 2 ≤ l.length ∧ (l.take 2 = [61, 61] ∨ l.take 2 = [33, 61] ∨ l.take 2 = [60, 61] ∨ l.take 2 = [46, 46]) then ⟨3, l.take 2, 0⟩ else if sg1 (l.take 1) then ⟨3, l.take 1, 0⟩ else ⟨0, [], 0⟩
instance con_first (l : List UInt8) : Con Tryd.prog 18 [.v (str l)] (l.length ≤ 1000000000 ∧ 1 ≤ l.length) (.agg (tokA (fst l))) := ⟨fun ⟨hl, h0⟩ => by
  have h1 := run_le l
  have h2 : (l.take (run l)).length ≤ 1000000000 := by rw [List.length_take]; omega
  refine PureOK.fnF Tryd.func18 Tryd.results18 Tryd.ntmps18 rfl rfl rfl (by simp [AV.ids, AV0.ids, Atom.ids]) rfl (fun w0 T B E0 hB => ?_)
  repeat' (first | refine SX.go ?_ | refine SX.W.ite (fun h => ?_) (fun h => ?_) | refine SX.W.iteN (fun h => ?_) (fun h => ?_) | refine SX.W.iteB (fun h => ?_) (fun h => ?_) | refine SX.R.ite (fun h => ?_) (fun h => ?_) | refine SX.R.iteN (fun h => ?_) (fun h => ?_) | refine SX.R.iteB (fun h => ?_) (fun h => ?_))
  all_goals (refine retA (ResOK.agg3 rfl rfl rfl) ?_)
  all_goals (unfold fst; first | rw [if_pos (by assumption)] | (rw [if_neg (by simp [*]), if_pos (by assumption)]) | (rw [if_neg (by simp [*]), if_neg (by simp [*]), if_pos ⟨by omega, by assumption⟩]) | (rw [if_neg (by simp [*]), if_neg (by simp [*]), if_neg (by omega)]; first | rw [if_pos (by assumption)] | (rw [if_neg (by simp [*])]; rfl)) | (rw [if_neg (by simp [*]), if_neg (by simp [*]), if_neg (fun h => by simp_all)]; first | rw [if_pos (by assumption)] | (rw [if_neg (by simp [*])]; rfl)))⟩
/-- How many bytes of blanks and comments a text begins with; in a comment. -/
def gp : Bool → List UInt8 → Nat
  | _, [] => 0
  | false, c :: l => if srt c = 1 then 1 + gp false l else if c.toNat = 35 then 1 + gp true l else 0
  | true, c :: l => if c.toNat = 10 then 1 + gp false l else 1 + gp true l
theorem gp_ix : ∀ l : List UInt8, gp true l = if ixb l 10 < 0 then l.length else (ixb l 10).toNat + 1 + gp false (l.drop ((ixb l 10).toNat + 1))
  | [] => by simp [gp, ixb, Lib.indexByte]
  | c :: l => by
    have ih := gp_ix l
    have hg : -1 ≤ ixb l 10 := Lib.indexByte_ge l 10
    rw [gp, ixb_cons]
    by_cases h : c = 10
    · subst h; simp
    · have h' : ¬ c.toNat = 10 := fun e => h (UInt8.toNat_inj.1 e)
      rw [if_neg h', if_neg h, ih]
      by_cases h2 : ixb l 10 = -1
      · simp [h2]; omega
      · rw [if_neg h2, if_neg (by omega), if_neg (by omega), show (ixb l 10 + 1).toNat = (ixb l 10).toNat + 1 by omega, List.drop_succ_cons]; omega
theorem ixb_lt (l : List UInt8) (c : UInt8) : ixb l c < l.length := by
  induction l with
  | nil => simp [ixb, Lib.indexByte]
  | cons b l ih =>
    rw [ixb_cons, List.length_cons]
    repeat' split
    all_goals omega
theorem gp_le : ∀ (b : Bool) (l : List UInt8), gp b l ≤ l.length
  | _, [] => by simp [gp]
  | false, c :: l => by
    have h1 := gp_le false l
    have h2 := gp_le true l
    unfold gp; repeat' split
    all_goals (simp only [List.length_cons]; omega)
  | true, c :: l => by
    have h1 := gp_le false l
    have h2 := gp_le true l
    unfold gp; repeat' split
    all_goals (simp only [List.length_cons]; omega)
instance con_gap (l : List UInt8) : Con Tryd.prog 17 [.v (str l)] (l.length ≤ 1000000000) (.v (.int .i64 (gp false l : Int))) := ⟨fun hl => by
  refine PureOK.fnF Tryd.func17 Tryd.results17 Tryd.ntmps17 rfl rfl rfl (by simp [AV.ids, AV0.ids, Atom.ids]) rfl (fun w0 T B E0 hB => ?_)
  refine SX.go ?_
  refine W.loop (fun k => k ≤ l.length ∧ gp false l = k + gp false (l.drop k)) (fun k => [(0, .v (str l)), (3, .v (.int .i64 (k : Int)))]) (fun _ => []) (fun k => l.length - k) 0 ⟨Nat.zero_le _, by simp⟩ (fun k ⟨hk, hn⟩ => ?_)
  have hx1 := ixb_lt (l.drop k) 10
  have hx2 : -1 ≤ ixb (l.drop k) 10 := Lib.indexByte_ge _ _
  have hx3 : (l.drop k).length = l.length - k := List.length_drop
  have hc : k < l.length → gp false (l.drop k) = if srt (byt l k) = 1 then 1 + gp false (l.drop (k + 1)) else if (byt l k).toNat = 35 then gp true (l.drop k) else 0 := fun h => by
    have hb : byt l k = l[k] := by simp [byt, h]
    rw [List.drop_eq_getElem_cons h, gp, gp, hb]
    by_cases h35 : l[k].toNat = 35
    · simp [h35]
    · simp [h35]
  have hi := gp_ix (l.drop k)
  rw [List.drop_drop] at hi
  repeat' (first | refine SX.go ?_ | refine SX.W.ite (fun h => ?_) (fun h => ?_) | refine SX.W.iteN (fun h => ?_) (fun h => ?_) | refine SX.W.iteB (fun h => ?_) (fun h => ?_) | refine SX.R.ite (fun h => ?_) (fun h => ?_) | refine SX.R.iteN (fun h => ?_) (fun h => ?_) | refine SX.R.iteB (fun h => ?_) (fun h => ?_))
  · rw [if_pos (by omega)] at hc
    exact W.next (k + 1) ⟨by omega, by rw [hn, hc (by omega)]; omega⟩ (by omega)
  · rw [if_neg (by omega), if_pos (by omega), hi, if_pos (by omega)] at hc
    refine retI ?_; rw [hn, hc (by omega)]; omega
  · rw [if_neg (by omega), if_pos (by omega), hi, if_neg (by omega)] at hc
    exact W.next (k + ((ixb (l.drop k) 10).toNat + 1)) ⟨by omega, by rw [hn, hc (by omega)]; omega⟩ (by omega)
  · rw [if_neg (by omega), if_neg (by omega)] at hc
    refine retI ?_; rw [hn, hc (by omega)]; omega
  · rw [List.drop_eq_nil_of_le (by omega)] at hn
    refine retI ?_; rw [hn, gp]; omega⟩
attribute [irreducible] fst gp
theorem fst_len (l : List UInt8) : (fst l).text.length ≤ l.length := by
  unfold fst
  repeat' split
  all_goals simp [List.length_take]; try omega
/-- The tokens of a text from a place on; none: there is what is no token, at the place. -/
def lexW (l : List UInt8) (k : Nat) : List Tok × Option Nat :=
  if h : l.length ≤ k then ([], none) else
  if h0 : (fst (l.drop k)).kind = 0 ∨ (fst (l.drop k)).text.length = 0 then ([], some k) else
  let r := lexW l (k + (fst (l.drop k)).text.length + gp false (l.drop (k + (fst (l.drop k)).text.length)))
  (⟨(fst (l.drop k)).kind, (fst (l.drop k)).text, k⟩ :: r.1, r.2)
termination_by l.length - k
decreasing_by omega
/-- What reading comes to: tokens, a place, an error. -/
def lexR (l : List UInt8) : List Tok × Nat × Nat :=
  if 20000 < l.length then ([], 0, 7) else
  match (lexW l (gp false l)).2 with
  | some k => ([], k, 4)
  | none => ((lexW l (gp false l)).1, 0, 0)
abbrev tupL (r : List Tok × Nat × Nat) : AV := .tup [.one (.c (.sat (rowR 3 tokC r.1))), .one (.c (.val (.int .i64 (r.2.1 : Int)))), .one (.c (.val (.int .i64 (r.2.2 : Int))))]
theorem fst_pos (l : List UInt8) (h : 1 ≤ l.length) (hk : (fst l).kind ≠ 0) : (fst l).text.length ≠ 0 := by
  have hn : num [] = false := by unfold num; rfl
  have hm : nam [] = false := by unfold nam; rfl
  intro e
  unfold fst at *
  split at hk
  · rename_i h1; rw [if_pos h1] at e; rw [List.eq_nil_of_length_eq_zero (show (l.take (run l)).length = 0 from e), hn] at h1; cases h1
  · rename_i h1; rw [if_neg h1] at e
    split at hk
    · rename_i h2; rw [if_pos h2] at e; rw [List.eq_nil_of_length_eq_zero (show (l.take (run l)).length = 0 from e), hm] at h2; cases h2
    · rename_i h2; rw [if_neg h2] at e
      split at hk
      · rename_i h3; rw [if_pos h3] at e; have e' : (l.take 2).length = 0 := e; rw [List.length_take] at e'; omega
      · rename_i h3; rw [if_neg h3] at e
        split at hk
        · rename_i h4; rw [if_pos h4] at e; have e' : (l.take 1).length = 0 := e; rw [List.length_take] at e'; omega
        · exact absurd rfl hk
instance con_Lex (l : List UInt8) : Con Tryd.prog 9 [.v (str l)] (l.length ≤ 1000000000) (tupL (lexR l)) := ⟨fun hl => by
  refine PureOK.fnF Tryd.func9 Tryd.results9 Tryd.ntmps9 rfl rfl rfl (by simp [AV.ids, AV0.ids, Atom.ids]) rfl (fun w0 T B E0 hB => ?_)
  have hg := gp_le false l
  repeat' (first | refine SX.go ?_ | refine SX.W.ite (fun h => ?_) (fun h => ?_) | refine SX.W.iteN (fun h => ?_) (fun h => ?_) | refine SX.W.iteB (fun h => ?_) (fun h => ?_) | refine SX.R.ite (fun h => ?_) (fun h => ?_) | refine SX.R.iteN (fun h => ?_) (fun h => ?_) | refine SX.R.iteB (fun h => ?_) (fun h => ?_))
  · refine ret3' (ResOK.tmp rfl) (ResOK.tmp rfl) (ResOK.tmp rfl) ?_ ?_ ?_
    all_goals (unfold lexR; rw [if_pos (by omega)])
    · exact imp_nil
    all_goals exact AV0.imp.refl _
  · refine W.loop2 (fun (k : Nat) (ts : List Tok) => k ≤ l.length ∧ ts.length ≤ k ∧ lexW l (gp false l) = (ts ++ (lexW l k).1, (lexW l k).2))
      (fun k ts => [(0, .v (str l)), (5, .own 100), (6, .v (.int .i64 (k : Int)))]) (fun k ts => [(100, .row 38 3 ts.length (ts.flatMap tokC))]) (fun k _ => l.length - k) (gp false l) [] ⟨hg, Nat.zero_le _, by simp⟩ (fun k ts ⟨hk, hts, hx⟩ => ?_)
    have hdl : (l.drop k).length = l.length - k := List.length_drop
    have h2 := fst_pos (l.drop k)
    have h3 := fst_len (l.drop k)
    have h4 := gp_le false (l.drop (k + (fst (l.drop k)).text.length))
    have hdl2 : (l.drop (k + (fst (l.drop k)).text.length)).length = l.length - (k + (fst (l.drop k)).text.length) := List.length_drop
    have hw := lexW.eq_1 l k
    repeat' (first | refine SX.go ?_ | refine SX.W.ite (fun h => ?_) (fun h => ?_) | refine SX.W.iteN (fun h => ?_) (fun h => ?_) | refine SX.W.iteB (fun h => ?_) (fun h => ?_) | refine SX.R.ite (fun h => ?_) (fun h => ?_) | refine SX.R.iteN (fun h => ?_) (fun h => ?_) | refine SX.R.iteB (fun h => ?_) (fun h => ?_))
    · rw [dif_neg (by omega), dif_pos (.inl (by assumption))] at hw
      refine ret3' (ResOK.tmp rfl) (ResOK.tmp rfl) (ResOK.tmp rfl) ?_ ?_ ?_
      all_goals (unfold lexR; rw [if_neg (by omega), hx, hw])
      · exact imp_nil
      all_goals exact AV0.imp.refl _
    · rw [dif_neg (by omega), dif_neg (by omega)] at hw
      exact W.next2 (k + (fst (l.drop k)).text.length + gp false (l.drop (k + (fst (l.drop k)).text.length))) (ts ++ [⟨(fst (l.drop k)).kind, (fst (l.drop k)).text, k⟩]) ⟨by omega, by simp; omega, by rw [hx, hw]; simp⟩ (by omega)
    · rw [dif_pos (by omega)] at hw
      refine RetF.frz 100 ?_
      refine ret3' (ResOK.tmp rfl) (ResOK.tmp rfl) (ResOK.tmp rfl) ?_ ?_ ?_
      all_goals (unfold lexR; rw [if_neg (by omega), hx, hw])
      · simp only [List.append_nil]; exact AV0.imp.refl _
      all_goals exact AV0.imp.refl _⟩
/-- Tokens. -/
def isTok (t : Tok) : Bool := if t.kind = 1 then num t.text else if t.kind = 2 then nam t.text else if t.kind = 3 then sg1 t.text || decide (t.text = [61, 61] ∨ t.text = [33, 61] ∨ t.text = [60, 61] ∨ t.text = [46, 46]) else false
instance con_Is (t : Tok) : Con Tryd.prog 19 [.agg (tokA t)] (t.text.length ≤ 9223372036854775807) (.v (.bool (isTok t))) := ⟨fun hl => by
  refine PureOK.fnF Tryd.func19 Tryd.results19 Tryd.ntmps19 rfl rfl rfl (by simp [AV.ids, AV0.ids, Atom.ids]) rfl (fun w0 T B E0 hB => ?_)
  repeat' (first | refine SX.go ?_ | refine SX.W.ite (fun h => ?_) (fun h => ?_) | refine SX.W.iteN (fun h => ?_) (fun h => ?_) | refine SX.W.iteB (fun h => ?_) (fun h => ?_) | refine SX.R.ite (fun h => ?_) (fun h => ?_) | refine SX.R.iteN (fun h => ?_) (fun h => ?_) | refine SX.R.iteB (fun h => ?_) (fun h => ?_))
  all_goals (refine retB ?_; simp [isTok, *])⟩
def strC (l : List UInt8) : List CA := [.val (str l)]
instance : EncLen strC 1 := ⟨fun _ => rfl⟩
instance : EncOne strC := ⟨fun _ => rfl⟩
instance : EncOne tokC := ⟨fun _ => rfl⟩
theorem join_len (M : Nat) (sep : List UInt8) : ∀ xs : List (List UInt8), (∀ x ∈ xs, x.length ≤ M) → (Lib.join xs sep).length ≤ xs.length * (M + sep.length)
  | [], _ => by simp [Lib.join_nil]
  | x :: xs, h => by
    have key : ∀ ys : List (List UInt8), (∀ x ∈ ys, x.length ≤ M) → (Lib.joinTail sep ys).length ≤ ys.length * (M + sep.length) := by
      intro ys
      induction ys with
      | nil => intro _; simp [Lib.joinTail]
      | cons y ys ih =>
        intro hy
        have h1 := ih fun x hx => hy x (by simp [hx])
        have h2 := hy y (by simp)
        simp only [Lib.joinTail, List.map_cons, List.flatten_cons, List.length_append, List.length_cons, Nat.add_mul] at *
        omega
    have h1 := key xs fun x hx => h x (by simp [hx])
    have h2 := h x (by simp)
    rw [Lib.join_cons, List.length_append, List.length_cons, Nat.add_mul]
    omega
/-- What joining comes to. -/
def joinR (ts : List Tok) : List UInt8 × Nat :=
  if ts.all isTok then (if 20001 < min 40000 (ts.foldl (fun n t => min (n + t.text.length + 1) 40000) 0) then ([], 7) else (Lib.join (ts.map (·.text)) [32], 0)) else ([], 1)
attribute [irreducible] lexR joinR isTok
end Go.Proofs.YtlojipipibebaaaDoor
/- The reference's tokens (package quincunxref27) are the lexer's. -/
set_option linter.unusedVariables false
set_option linter.unusedSimpArgs false
namespace Go.Proofs.YtlojipipibebaaaDoor
open Go.RowKit SX
attribute [local irreducible] IntKind.wrap Go1 Reg WP thenK inBlk retQ retF RetF RetOK ResOK CallOK OpOK Sat
theorem srt2 (c : UInt8) : srt c = 2 ↔ 48 ≤ c.toNat ∧ c.toNat ≤ 57 := by
  unfold srt; (repeat' split) <;> omega
theorem srt3 (c : UInt8) : srt c = 3 ↔ 97 ≤ c.toNat ∧ c.toNat ≤ 122 := by
  unfold srt; (repeat' split) <;> omega
theorem srt4 (c : UInt8) : srt c = 4 ↔ c.toNat = 95 := by
  unfold srt; (repeat' split) <;> omega
theorem all_step (p : UInt8 → Bool) (l : List UInt8) (k : Nat) (h : k < l.length) : (l.drop k).all p = (p (byt l k) && (l.drop (k + 1)).all p) := by
  rw [List.drop_eq_getElem_cons h]
  have : byt l k = l[k] := by simp [byt, h]
  rw [this]; rfl
theorem num_all (l : List UInt8) : num l = (decide (1 ≤ l.length ∧ l.length ≤ 2000 ∧ (l.length = 1 ∨ (byt l 0).toNat ≠ 48)) && l.all fun c => decide (srt c = 2)) := by unfold num; rfl
theorem run_all : ∀ l : List UInt8, run l = l.length ↔ l.all wrd = true
  | [] => by simp [run]
  | c :: l => by
    have ih := run_all l
    unfold run at *
    cases h : wrd c
    · simp [List.takeWhile_cons, h]
    · simp [List.takeWhile_cons, h, ih]
theorem nam_all (l : List UInt8) : nam l = (decide (1 ≤ l.length ∧ l.length ≤ 30 ∧ srt (byt l 0) = 3) && l.all wrd) := by
  have := run_all l
  unfold nam; rw [Bool.eq_iff_iff]; simp [this]; simp [← and_assoc]
/-- Signs. -/
def sgt (l : List UInt8) : Bool := sg1 l || decide (l = [61, 61] ∨ l = [33, 61] ∨ l = [60, 61] ∨ l = [46, 46])
theorem sg1_iff (l : List UInt8) : sg1 l = true ↔ ∃ c, l = [c] ∧ c ∈ [43, 45, 42, 47, 94, 40, 41, 91, 93, 123, 125, 44, 59, 61, 60] := by
  unfold sg1
  rw [decide_eq_true_iff]
  constructor
  · rintro ⟨h1, h2⟩
    obtain ⟨c, rfl⟩ := one_of h1
    exact ⟨c, rfl, by simpa [byt] using h2⟩
  · rintro ⟨c, rfl, h⟩
    exact ⟨rfl, by simpa [byt] using h⟩
theorem sgt_iff (l : List UInt8) : sgt l = true ↔ (∃ c, l = [c] ∧ c ∈ [43, 45, 42, 47, 94, 40, 41, 91, 93, 123, 125, 44, 59, 61, 60]) ∨ (l = [61, 61] ∨ l = [33, 61] ∨ l = [60, 61] ∨ l = [46, 46]) := by
  unfold sgt; rw [Bool.or_eq_true, sg1_iff, decide_eq_true_iff]
theorem isTok_eq (t : Tok) : isTok t = if t.kind = 1 then num t.text else if t.kind = 2 then nam t.text else if t.kind = 3 then sgt t.text else false := by unfold isTok sgt; rfl
attribute [irreducible] sgt
/-- The same tokens; with places, if that is asked. -/
def sameT (b : Bool) : List Tok → List Tok → Bool
  | [], [] => true
  | s :: l, t :: m => decide (s.kind = t.kind) && decide (s.text = t.text) && (!b || decide (s.pos = t.pos)) && sameT b l m
  | _, _ => false
theorem sameT_len (b : Bool) : ∀ l m : List Tok, l.length ≠ m.length → sameT b l m = false
  | [], [], h => by simp at h
  | s :: l, t :: m, h => by
    have := sameT_len b l m (by simpa using h)
    simp [sameT, this]
  | [], _ :: _, _ => rfl
  | _ :: _, [], _ => rfl
end Go.Proofs.YtlojipipibebaaaDoor
/- Plain laws of tokens: what is joined is read as the same tokens; tokens stand at their places. -/
set_option linter.unusedVariables false
set_option linter.unusedSimpArgs false
namespace Go.Proofs.YtlojipipibebaaaDoor
open Go.RowKit SX
/- Plain laws of tokens. -/
theorem fst_pre (l : List UInt8) : (fst l).text = l.take (fst l).text.length := by
  have key : ∀ n : Nat, l.take n = l.take (l.take n).length := fun n => by
    rw [List.length_take, List.take_eq_take_iff]; omega
  unfold fst
  repeat' split
  all_goals first | exact key _ | simp
theorem isTok_at {t : Tok} {k : Int} {x : List UInt8} {p : Int} (h1 : t.kind = k) (h2 : t.text = x) : isTok t = isTok ⟨k, x, p⟩ := by
  subst h1; subst h2; rw [isTok_eq, isTok_eq]
theorem fst_tok (l : List UInt8) (h : (fst l).kind ≠ 0) (p : Int) : isTok ⟨(fst l).kind, (fst l).text, p⟩ = true := by
  rw [isTok_eq]
  unfold fst at *
  repeat' split at h
  all_goals first | exact absurd rfl h | skip
  · rename_i h1; rw [if_pos h1]; exact h1
  · rename_i h1 h2; rw [if_neg h1, if_pos h2]; exact h2
  · rename_i h1 h2 h3; rw [if_neg h1, if_neg h2, if_pos h3]
    show sgt _ = true
    rw [sgt_iff]; exact .inr h3.2
  · rename_i h1 h2 h3 h4; rw [if_neg h1, if_neg h2, if_neg h3, if_pos h4]
    show sgt _ = true
    rw [sgt_iff]; exact .inl ((sg1_iff _).1 h4)
theorem wrd_32 : wrd 32 = false := by unfold wrd srt; decide
theorem run_app (l r : List UInt8) (h : l.all wrd = true) (hr : r = [] ∨ ∃ s, r = 32 :: s) : run (l ++ r) = l.length := by
  have hr0 : r.takeWhile wrd = [] := by
    rcases hr with rfl | ⟨s, rfl⟩
    · rfl
    · rw [List.takeWhile_cons, wrd_32]; rfl
  unfold run
  rw [List.takeWhile_append_of_pos (by simpa using h), hr0, List.append_nil]
theorem num_facts {l : List UInt8} (h : num l = true) : l.all wrd = true ∧ ∃ c m, l = c :: m ∧ srt c = 2 := by
  rw [num_all, Bool.and_eq_true, decide_eq_true_iff] at h
  obtain ⟨h1, h2⟩ := h
  refine ⟨?_, ?_⟩
  · rw [List.all_eq_true] at *
    intro c hc
    have := h2 c hc
    unfold wrd; rw [this]; rfl
  · match l, h1 with
    | c :: m, _ => exact ⟨c, m, rfl, by simpa using (List.all_eq_true.1 h2) c (by simp)⟩
theorem nam_facts {l : List UInt8} (h : nam l = true) : l.all wrd = true ∧ ∃ c m, l = c :: m ∧ srt c = 3 := by
  rw [nam_all, Bool.and_eq_true, decide_eq_true_iff] at h
  obtain ⟨h1, h2⟩ := h
  refine ⟨h2, ?_⟩
  match l, h1 with
  | c :: m, h1 => exact ⟨c, m, rfl, by simpa [byt] using h1.2.2⟩
theorem sgt_facts {l : List UInt8} (h : sgt l = true) : ∃ c m, l = c :: m ∧ srt c = 5 ∧ c.toNat ≠ 35 := by
  rw [sgt_iff] at h
  rcases h with ⟨c, rfl, h⟩ | h
  · refine ⟨c, [], rfl, ?_⟩
    simp only [List.mem_cons, List.not_mem_nil, or_false] at h
    unfold srt
    rcases h with rfl | rfl | rfl | rfl | rfl | rfl | rfl | rfl | rfl | rfl | rfl | rfl | rfl | rfl | rfl <;> decide
  · unfold srt
    rcases h with rfl | rfl | rfl | rfl <;> exact ⟨_, _, rfl, by decide, by decide⟩
theorem tok_first {t : Tok} (h : isTok t = true) : ∃ c m, t.text = c :: m ∧ srt c ≠ 1 ∧ c.toNat ≠ 35 := by
  rw [isTok_eq] at h
  repeat' split at h
  · obtain ⟨c, m, e, hc⟩ := (num_facts h).2
    exact ⟨c, m, e, by omega, by rw [srt2] at hc; omega⟩
  · obtain ⟨c, m, e, hc⟩ := (nam_facts h).2
    exact ⟨c, m, e, by omega, by rw [srt3] at hc; omega⟩
  · obtain ⟨c, m, e, hc, h35⟩ := sgt_facts h
    exact ⟨c, m, e, by omega, h35⟩
  · cases h
theorem gp_tok {t : Tok} (h : isTok t = true) (r : List UInt8) : gp false (t.text ++ r) = 0 := by
  obtain ⟨c, m, e, h1, h2⟩ := tok_first h
  rw [e, List.cons_append, gp, if_neg h1, if_neg h2]
theorem fst_app {t : Tok} (ht : isTok t = true) (r : List UInt8) (hr : r = [] ∨ ∃ s, r = 32 :: s) : fst (t.text ++ r) = ⟨t.kind, t.text, 0⟩ := by
  have ht' := ht
  rw [isTok_eq] at ht
  split at ht
  · rename_i hk
    have e := run_app t.text r (num_facts ht).1 hr
    unfold fst
    rw [e, List.take_left', if_pos ht, hk]
    rfl
  · split at ht
    · rename_i hk0 hk
      have e := run_app t.text r (nam_facts ht).1 hr
      have hn : num t.text = false := by
        rw [Bool.eq_false_iff]; intro hn
        obtain ⟨c, m, e1, h1⟩ := (num_facts hn).2
        obtain ⟨c', m', e2, h2⟩ := (nam_facts ht).2
        rw [e1] at e2; cases e2; omega
      unfold fst
      rw [e, List.take_left' rfl, hn, if_neg (by simp), if_pos ht, hk]
    · split at ht
      · rename_i _ _ hk
        obtain ⟨c, m, e0, hc, h35⟩ := sgt_facts ht
        have hw : wrd c = false := by unfold wrd; rw [hc]; rfl
        have hrun : run (t.text ++ r) = 0 := by unfold run; rw [e0, List.cons_append, List.takeWhile_cons, hw]; rfl
        have hn : num [] = false := by unfold num; rfl
        have hm : nam [] = false := by unfold nam; rfl
        unfold fst
        rw [hrun, List.take_zero, hn, hm, if_neg (by simp), if_neg (by simp)]
        rw [sgt_iff] at ht
        rcases ht with ⟨c', e1, hc'⟩ | h2
        · rw [e1]
          have hs : sg1 [c'] = true := (sg1_iff _).2 ⟨c', rfl, hc'⟩
          rw [if_neg, if_pos (by simpa using hs), hk]
          · simp
          · rcases hr with rfl | ⟨s, rfl⟩
            · simp
            · simp
        · have hlen : t.text.length = 2 := by rcases h2 with h | h | h | h <;> rw [h] <;> rfl
          have ht2 : (t.text ++ r).take 2 = t.text := List.take_left' hlen
          rw [ht2, if_pos ⟨by rw [List.length_append]; omega, h2⟩, hk]
      · cases ht
/-- What is joined is read as the same tokens. -/
theorem lexW_join : ∀ (ts : List Tok) (l : List UInt8) (k : Nat), ts.all isTok = true → l.drop k = Lib.join (ts.map (·.text)) [32] →
    (lexW l k).2 = none ∧ sameT false (lexW l k).1 ts = true ∧ (ts.length = 1 → (lexW l k).1 = ts.map fun t => ⟨t.kind, t.text, k⟩)
  | [], l, k, _, h => by
    have hk : l.length ≤ k := List.drop_eq_nil_iff.1 h
    rw [lexW.eq_1, dif_pos hk]; exact ⟨rfl, rfl, by simp⟩
  | t :: ts, l, k, ha, h => by
    rw [List.all_cons, Bool.and_eq_true] at ha
    obtain ⟨ht, ha⟩ := ha
    obtain ⟨c, m, e0, _, _⟩ := tok_first ht
    obtain ⟨r, hr, hj, hg⟩ : ∃ r, (r = [] ∨ ∃ s, r = 32 :: s) ∧ l.drop k = t.text ++ r ∧ r.drop (gp false r) = Lib.join (ts.map (·.text)) [32] := by
      cases ts with
      | nil => exact ⟨[], .inl rfl, by rw [h]; rfl, by rw [gp]; rfl⟩
      | cons u us =>
        refine ⟨32 :: Lib.join ((u :: us).map (·.text)) [32], .inr ⟨_, rfl⟩, by rw [h]; simp [Lib.join_cons, Lib.joinTail], ?_⟩
        have hu : isTok u = true := by rw [List.all_cons, Bool.and_eq_true] at ha; exact ha.1
        rw [gp, if_pos (by unfold srt; decide)]
        rw [List.map_cons, Lib.join_cons, gp_tok hu]; rfl
    have hlen : (l.drop k).length = l.length - k := List.length_drop
    rw [hj, List.length_append, e0, List.length_cons] at hlen
    have hf := fst_app ht r hr
    rw [← hj] at hf
    have hd : l.drop (k + t.text.length) = r := by rw [← List.drop_drop, hj, List.drop_left' rfl]
    have ih := lexW_join ts l (k + t.text.length + gp false r) ha (by rw [← List.drop_drop, hd, hg])
    rw [lexW.eq_1, dif_neg (by omega), hf]
    rw [dif_neg (by
      rintro (h1 | h1)
      · have h1' : t.kind = 0 := h1
        rw [isTok_eq, h1'] at ht; simp at ht
      · have h1' : t.text.length = 0 := h1
        rw [e0] at h1'; cases h1')]
    show ((lexW l (k + t.text.length + gp false (l.drop (k + t.text.length)))).2 = none ∧ _)
    rw [hd]
    refine ⟨ih.1, ?_, fun h1 => ?_⟩
    · show (decide (t.kind = t.kind) && decide (t.text = t.text) && (!false || decide ((k : Int) = t.pos)) && sameT false _ ts) = true
      rw [ih.2.1]; simp
    · have : ts = [] := by cases ts with | nil => rfl | cons _ _ => simp at h1
      subst this
      rw [lexW.eq_1, dif_pos (by
        show l.length ≤ k + t.text.length + gp false _
        rcases hr with rfl | ⟨s, rfl⟩
        · have := List.drop_eq_nil_iff.1 hd; omega
        · rw [show Lib.join (([] : List Tok).map (·.text)) [32] = [] from rfl] at hg
          have h1 := List.drop_eq_nil_iff.1 hg
          have h2 : (l.drop (k + t.text.length)).length = l.length - (k + t.text.length) := List.length_drop
          rw [hd] at h2; omega)]; rfl
/-- What is joined, and how long it is. -/
theorem joinR_ok (ts : List Tok) (h : ts.all isTok = true) (hs : (ts.map fun t => t.text.length + 1).sum ≤ 20001) :
    (joinR ts).2 = 0 ∧ (joinR ts).1 = Lib.join (ts.map (·.text)) [32] := by
  have key : ∀ (us : List Tok) (n : Nat), us.foldl (fun n t => min (n + t.text.length + 1) 40000) n ≤ n + (us.map fun t => t.text.length + 1).sum := by
    intro us
    induction us with
    | nil => intro n; simp
    | cons u us ih =>
      intro n
      have := ih (min (n + u.text.length + 1) 40000)
      rw [List.foldl_cons, List.map_cons, List.sum_cons]; omega
  have := key ts 0
  unfold joinR
  rw [h, if_pos rfl, if_neg (by omega)]; exact ⟨rfl, rfl⟩
theorem lexR_join (ts : List Tok) (h : ts.all isTok = true) (hl : (Lib.join (ts.map (·.text)) [32]).length ≤ 20000) :
    (lexR (Lib.join (ts.map (·.text)) [32])).2 = (0, 0) ∧ sameT false (lexR (Lib.join (ts.map (·.text)) [32])).1 ts = true ∧ (ts.length = 1 → (lexR (Lib.join (ts.map (·.text)) [32])).1 = ts.map fun t => ⟨t.kind, t.text, 0⟩) := by
  have hg : gp false (Lib.join (ts.map (·.text)) [32]) = 0 := by
    cases ts with
    | nil => exact gp.eq_1 _
    | cons t ts =>
      rw [List.map_cons, Lib.join_cons]; exact gp_tok (by rw [List.all_cons, Bool.and_eq_true] at h; exact h.1) _
  have h0 := lexW_join ts _ 0 h (List.drop_zero ..)
  unfold lexR
  rw [if_neg (by omega), hg, h0.1]
  exact ⟨rfl, h0.2⟩
/-- The tokens of a text stand at their places. -/
def okP (l : List UInt8) : Nat → List Tok → Prop
  | _, [] => True
  | n, t :: ts => ∃ p : Nat, t.pos = p ∧ n ≤ p ∧ t.text ≠ [] ∧ p + t.text.length ≤ l.length ∧ (l.drop p).take t.text.length = t.text ∧ okP l (p + t.text.length) ts
theorem okP_mono (l : List UInt8) {m n : Nat} (h : m ≤ n) : ∀ ts, okP l n ts → okP l m ts
  | [], _ => trivial
  | t :: ts, ⟨p, h1, h2, h3⟩ => ⟨p, h1, by omega, h3⟩
theorem lexW_ok (l : List UInt8) (k : Nat) : okP l k (lexW l k).1 ∧ ((lexW l k).1).all isTok = true ∧ ((lexW l k).1.map fun t => t.text.length + 1).sum ≤ 2 * (l.length - k) := by
  rw [lexW.eq_1]
  have hlen : (l.drop k).length = l.length - k := List.length_drop
  have h3 := fst_len (l.drop k)
  split
  · exact ⟨trivial, rfl, by simp⟩
  · rename_i hk
    split
    · exact ⟨trivial, rfl, by simp⟩
    · rename_i hf
      have ih := lexW_ok l (k + (fst (l.drop k)).text.length + gp false (l.drop (k + (fst (l.drop k)).text.length)))
      refine ⟨⟨k, rfl, Nat.le_refl _, fun e => ?_, ?_, ?_, okP_mono l (by show k + (fst (l.drop k)).text.length ≤ _; omega) _ ih.1⟩, ?_, ?_⟩
      · have e' : (fst (l.drop k)).text = [] := e
        rw [e'] at hf; simp at hf
      · show k + (fst (l.drop k)).text.length ≤ _; omega
      · exact (fst_pre (l.drop k)).symm
      · rw [List.all_cons, ih.2.1, fst_tok _ (fun e => hf (.inl e))]; rfl
      · rw [List.map_cons, List.sum_cons]
        show (fst (l.drop k)).text.length + 1 + _ ≤ _
        have := ih.2.2
        have h4 : (fst (l.drop k)).text.length ≠ 0 := fun e => hf (.inr e)
        omega
termination_by l.length - k
decreasing_by omega
theorem join_le : ∀ ts : List Tok, (Lib.join (ts.map (·.text)) [32]).length ≤ (ts.map fun t => t.text.length + 1).sum
  | [] => by simp [Lib.join_nil]
  | t :: ts => by
    have key : ∀ us : List Tok, (Lib.joinTail [32] (us.map (·.text))).length ≤ (us.map fun t => t.text.length + 1).sum := by
      intro us
      induction us with
      | nil => simp [Lib.joinTail]
      | cons u us ih => simp only [Lib.joinTail, List.map_cons, List.flatten_cons, List.length_append, List.length_cons, List.sum_cons, List.length_nil] at *; omega
    have := key ts
    rw [List.map_cons, Lib.join_cons, List.length_append, List.map_cons, List.sum_cons]; omega
end Go.Proofs.YtlojipipibebaaaDoor
/- Package parser in the symbolic run: its smallest functions. -/
set_option linter.unusedVariables false
set_option linter.unusedSimpArgs false
namespace Go.Proofs.YtlojipipibebaaaDoor
open Go.RowKit SX
/-- A node of a program. -/
inductive Nd where
  | mk (op : Int) (text : List UInt8) (kids : List Nd)
def Nd.op : Nd → Int | .mk o _ _ => o
def Nd.text : Nd → List UInt8 | .mk _ t _ => t
def Nd.kids : Nd → List Nd | .mk _ _ k => k
mutual
def ndC : Nd → List CA
  | .mk o t ks => [.val (.int .i64 o), .val (str t), .sat (sliceR 3 ks.length (ndL ks))]
def ndL : List Nd → List CA
  | [] => []
  | k :: ks => ndC k ++ ndL ks
end
theorem ndL_eq : ∀ ks : List Nd, ndL ks = ks.flatMap ndC
  | [] => by rw [ndL]; rfl
  | k :: ks => by rw [ndL, ndL_eq ks, List.flatMap_cons]
theorem ndC_eq (o : Int) (t : List UInt8) (ks : List Nd) : ndC (.mk o t ks) = [.val (.int .i64 o), .val (str t), .sat (rowR 3 ndC ks)] := by
  rw [ndC, ndL_eq]
theorem ndC_eq' (n : Nd) : ndC n = [.val (.int .i64 n.op), .val (str n.text), .sat (rowR 3 ndC n.kids)] := by
  cases n; exact ndC_eq _ _ _
instance : EncLen ndC 3 := ⟨fun n => by rw [ndC_eq']; rfl⟩
instance : EncOne ndC := ⟨fun n => by rw [ndC_eq']; rfl⟩
/-- A node's cells, a text's own words. -/
abbrev ndA (n : Nd) : List Atom := [.c (.val (.int .i64 n.op)), .c (.val (str n.text)), .c (.sat (rowR 3 ndC n.kids))]
/-- The parser. -/
abbrev PB (l : List Tok) (a o : Nat) (bad : Nat) (has : Bool) (tq : Nat) : Ent := .box 56 [.c (.sat (rowR 3 tokC l)), .c (.val (.int .i64 (a : Int))), .c (.val (.int .i64 (o : Int))), .c (.val (.int .i64 (bad : Int))), .c (.val (.bool has)), .c (.val (.int .i64 (tq : Int)))]
def ownB (s : List UInt8) : Bool := decide (s = [105, 102]) || decide (s = [101, 108, 115, 101]) || decide (s = [102, 111, 114])
/-- Does a sign stand there? -/
def isS (l : List Tok) (a : Nat) (s : List UInt8) : Bool := match l[a]? with
  | some t => !decide (t.kind = 1) && decide (t.text = s)
  | none => false
def isNm (l : List Tok) (a : Nat) : Bool := match l[a]? with
  | some t => decide (t.kind = 2) && !ownB t.text
  | none => false
attribute [local irreducible] IntKind.wrap Go1 Reg WP thenK inBlk retQ retF RetF RetOK ResOK CallOK OpOK Sat
theorem con_own (s : List UInt8) : PureOK Tryd.prog 45 [.v (str s)] (.v (.bool (ownB s))) := by
  refine PureOK.fnF Tryd.func45 Tryd.results45 Tryd.ntmps45 rfl rfl rfl (by simp [AV.ids, AV0.ids, Atom.ids]) rfl (fun w0 T B E0 hB => ?_)
  repeat' (first | refine SX.goP ?_ | refine SX.W.ite (fun h => ?_) (fun h => ?_) | refine SX.W.iteN (fun h => ?_) (fun h => ?_) | refine SX.W.iteB (fun h => ?_) (fun h => ?_) | refine SX.R.ite (fun h => ?_) (fun h => ?_) | refine SX.R.iteN (fun h => ?_) (fun h => ?_) | refine SX.R.iteB (fun h => ?_) (fun h => ?_))
  all_goals (refine retB ?_; simp [ownB, *])
/-- The parser in its course; behind an error. -/
abbrev PG (l : List Tok) (a o : Nat) : Ent := PB l a o 0 false 0
abbrev PE (l : List Tok) (a o e p : Nat) : Ent := PB l a o e true p
abbrev nd0 : Nd := .mk 0 [] []
theorem imp_nd {o z : Int} {s s' : List UInt8} (h : z = o) (hs : s = s') : AV0.imp (.agg [.c (.val (.int .i64 z)), .c (.val (str s)), .c (.val (.slice none 0 0))]) (.agg (ndA (.mk o s' []))) := fun E S w v hv => by
  obtain ⟨vs, rfl, hall⟩ := hv
  subst h hs
  match vs, hall with
  | [a, b, c], ⟨h1, h2, h3, _⟩ => exact ⟨[a, b, c], rfl, h1, h2, imp_nil (size := 3) E S w c h3, trivial⟩
theorem imp_ndk {o z : Int} {s s' : List UInt8} {n : Nat} {cells : List CA} {ks : List Nd} (h : z = o) (hs : s = s') (hn : n = ks.length) (hc : cells = ks.flatMap ndC) : AV0.imp (.agg [.c (.val (.int .i64 z)), .c (.val (str s)), .c (.sat (sliceR 3 n cells))]) (.agg (ndA (.mk o s' ks))) := by
  subst h hs hn hc; exact AV0.imp.refl _
theorem retNd {P : Program} {C : Ctx} {st : St} {r : ResultVar} {x y : AV0} {l : List (Nat × Slot)} (h : ResOK P st r x) (e : x.imp y) (hh : HpIs st l) : RetF C P [r] ⟨.it y, l⟩ st := retP (xs := [y]) ⟨h.imp e, trivial⟩ hh
abbrev X29 (e : Ent) : List (Nat × Ent) := [(29, e)]
abbrev Y29 (e : Ent) : List (Nat × Slot) := [(29, .ent e)]
theorem c_failG (l : List Tok) (a o e p : Nat) : CallOK Tryd.prog 67 [.ptr 29 0, .v (.int .i64 (e : Int)), .v (.int .i64 (p : Int))] [(29, PG l a o)] ⟨.agg (ndA nd0), [(29, .ent (PE l a o e p))]⟩ := by
  refine CallOK.fnF Tryd.func67 Tryd.results67 Tryd.ntmps67 rfl rfl rfl rfl (fun w0 T B E0 hB => ?_)
  refine SX.goP ?_
  exact retNd (ResOK.agg3 rfl rfl rfl) (imp_nd rfl rfl) ⟨rfl, trivial⟩
theorem c_failE (l : List Tok) (a o e p e' p' : Nat) : CallOK Tryd.prog 67 [.ptr 29 0, .v (.int .i64 (e' : Int)), .v (.int .i64 (p' : Int))] [(29, PE l a o e p)] ⟨.agg (ndA nd0), [(29, .ent (PE l a o e p))]⟩ := by
  refine CallOK.fnF Tryd.func67 Tryd.results67 Tryd.ntmps67 rfl rfl rfl rfl (fun w0 T B E0 hB => ?_)
  refine SX.goP ?_
  exact retNd (ResOK.agg3 rfl rfl rfl) (imp_nd rfl rfl) ⟨rfl, trivial⟩
theorem c_wrongG (l : List Tok) (a o : Nat) : CallOK Tryd.prog 57 [.ptr 29 0] [(29, PG l a o)] ⟨.agg (ndA nd0), [(29, .ent (PE l a o 4 a))]⟩ := by
  have c := c_failG l a o 4 a
  refine CallOK.fnF Tryd.func57 Tryd.results57 Tryd.ntmps57 rfl rfl rfl rfl (fun w0 T B E0 hB => ?_)
  refine SX.goP ?_
  exact retNd (ResOK.agg3 rfl rfl rfl) (AV0.imp.refl _) ⟨rfl, trivial⟩
theorem c_wrongE (l : List Tok) (a o e p : Nat) : CallOK Tryd.prog 57 [.ptr 29 0] [(29, PE l a o e p)] ⟨.agg (ndA nd0), [(29, .ent (PE l a o e p))]⟩ := by
  have c := c_failE l a o e p 4 a
  refine CallOK.fnF Tryd.func57 Tryd.results57 Tryd.ntmps57 rfl rfl rfl rfl (fun w0 T B E0 hB => ?_)
  refine SX.goP ?_
  exact retNd (ResOK.agg3 rfl rfl rfl) (AV0.imp.refl _) ⟨rfl, trivial⟩
theorem retBP {P : Program} {C : Ctx} {st : St} {t : Tmp} {b b' : Bool} {l : List (Nat × Slot)} (e : b = b') (hh : HpIs st l) (h : st.tm t = some (.v (.bool b)) := by rfl) : RetF C P [.tmp t] ⟨.v (.bool b'), l⟩ st := retP (xs := [.one (.c (.val (.bool b')))]) ⟨by rw [← e]; exact ResOK.tmp h, trivial⟩ hh
theorem retSP {P : Program} {C : Ctx} {st : St} {t : Tmp} {b b' : List UInt8} {l : List (Nat × Slot)} (e : b = b') (hh : HpIs st l) (h : st.tm t = some (.v (str b)) := by rfl) : RetF C P [.tmp t] ⟨.v (str b'), l⟩ st := retP (xs := [.one (.c (.val (str b')))]) ⟨by rw [← e]; exact ResOK.tmp h, trivial⟩ hh
theorem retUP {P : Program} {C : Ctx} {st : St} {l : List (Nat × Slot)} (hh : HpIs st l) : RetF C P [] ⟨.tup [], l⟩ st := retP (xs := []) trivial hh
theorem c_isG (l : List Tok) (a o : Nat) (s : List UInt8) : CallOK Tryd.prog 53 [.ptr 29 0, .v (str s)] [(29, PG l a o)] ⟨.v (.bool (isS l a s)), [(29, .ent (PG l a o))]⟩ := by
  by_cases h : a < l.length
  · obtain ⟨⟨tk, tt, tp⟩, ht⟩ : ∃ t, l[a]? = some t := ⟨_, List.getElem?_eq_getElem h⟩
    have hv : isS l a s = (!decide (tk = 1) && decide (tt = s)) := by unfold isS; rw [ht]
    rw [hv]
    by_cases hk : tk = 1
    · subst hk
      have e1 : decide ((1 : Int) ≠ 1) = false := by decide
      refine CallOK.fnF Tryd.func53 Tryd.results53 Tryd.ntmps53 rfl rfl rfl rfl (fun w0 T B E0 hB => ?_)
      refine SX.goP ?_
      exact retBP rfl ⟨rfl, trivial⟩
    · refine CallOK.fnF Tryd.func53 Tryd.results53 Tryd.ntmps53 rfl rfl rfl rfl (fun w0 T B E0 hB => ?_)
      refine SX.goP ?_
      (refine retBP ?_ ⟨rfl, trivial⟩; simp [hk])
  · have hv : isS l a s = false := by unfold isS; rw [List.getElem?_eq_none (by omega)]
    rw [hv]
    refine CallOK.fnF Tryd.func53 Tryd.results53 Tryd.ntmps53 rfl rfl rfl rfl (fun w0 T B E0 hB => ?_)
    refine SX.goP ?_
    exact retBP rfl ⟨rfl, trivial⟩
theorem c_isE (l : List Tok) (a o e p : Nat) (s : List UInt8) : CallOK Tryd.prog 53 [.ptr 29 0, .v (str s)] [(29, PE l a o e p)] ⟨.v (.bool false), [(29, .ent (PE l a o e p))]⟩ := by
  refine CallOK.fnF Tryd.func53 Tryd.results53 Tryd.ntmps53 rfl rfl rfl rfl (fun w0 T B E0 hB => ?_)
  refine SX.goP ?_
  exact retBP rfl ⟨rfl, trivial⟩
theorem isS_lt {l : List Tok} {a : Nat} {s : List UInt8} (h : isS l a s = true) : a < l.length := by
  refine Nat.lt_of_not_le fun hn => ?_
  unfold isS at h; rw [List.getElem?_eq_none hn] at h; cases h
theorem c_takeT {l : List Tok} {a : Nat} (o : Nat) {s : List UInt8} (hl : l.length ≤ 1000000) (h : isS l a s = true) : CallOK Tryd.prog 37 [.ptr 29 0, .v (str s)] [(29, PG l a o)] ⟨.v (.bool true), [(29, .ent (PG l (a + 1) o))]⟩ := by
  have hlt := isS_lt h
  have c := c_isG l a o s
  rw [h] at c
  refine CallOK.fnF Tryd.func37 Tryd.results37 Tryd.ntmps37 rfl rfl rfl rfl (fun w0 T B E0 hB => ?_)
  refine SX.goP ?_
  exact retBP rfl ⟨rfl, trivial⟩
theorem c_takeF {l : List Tok} {a : Nat} (o : Nat) {s : List UInt8} (h : isS l a s = false) : CallOK Tryd.prog 37 [.ptr 29 0, .v (str s)] [(29, PG l a o)] ⟨.v (.bool false), [(29, .ent (PG l a o))]⟩ := by
  have c := c_isG l a o s
  rw [h] at c
  refine CallOK.fnF Tryd.func37 Tryd.results37 Tryd.ntmps37 rfl rfl rfl rfl (fun w0 T B E0 hB => ?_)
  refine SX.goP ?_
  exact retBP rfl ⟨rfl, trivial⟩
theorem c_takeE (l : List Tok) (a o e p : Nat) (s : List UInt8) : CallOK Tryd.prog 37 [.ptr 29 0, .v (str s)] [(29, PE l a o e p)] ⟨.v (.bool false), [(29, .ent (PE l a o e p))]⟩ := by
  have c := c_isE l a o e p s
  refine CallOK.fnF Tryd.func37 Tryd.results37 Tryd.ntmps37 rfl rfl rfl rfl (fun w0 T B E0 hB => ?_)
  refine SX.goP ?_
  exact retBP rfl ⟨rfl, trivial⟩
theorem c_mustT {l : List Tok} {a : Nat} (o : Nat) {s : List UInt8} (hl : l.length ≤ 1000000) (h : isS l a s = true) : CallOK Tryd.prog 41 [.ptr 29 0, .v (str s)] [(29, PG l a o)] ⟨.tup [], [(29, .ent (PG l (a + 1) o))]⟩ := by
  have c := c_takeT o hl h
  refine CallOK.fnF Tryd.func41 Tryd.results41 Tryd.ntmps41 rfl rfl rfl rfl (fun w0 T B E0 hB => ?_)
  refine SX.goP ?_
  exact retUP ⟨rfl, trivial⟩
theorem c_mustF {l : List Tok} {a : Nat} (o : Nat) {s : List UInt8} (h : isS l a s = false) : CallOK Tryd.prog 41 [.ptr 29 0, .v (str s)] [(29, PG l a o)] ⟨.tup [], [(29, .ent (PE l a o 4 a))]⟩ := by
  have c := c_takeF o h
  have c2 := c_wrongG l a o
  refine CallOK.fnF Tryd.func41 Tryd.results41 Tryd.ntmps41 rfl rfl rfl rfl (fun w0 T B E0 hB => ?_)
  refine SX.goP ?_
  exact retUP ⟨rfl, trivial⟩
theorem c_mustE (l : List Tok) (a o e p : Nat) (s : List UInt8) : CallOK Tryd.prog 41 [.ptr 29 0, .v (str s)] [(29, PE l a o e p)] ⟨.tup [], [(29, .ent (PE l a o e p))]⟩ := by
  have c := c_takeE l a o e p s
  have c2 := c_wrongE l a o e p
  refine CallOK.fnF Tryd.func41 Tryd.results41 Tryd.ntmps41 rfl rfl rfl rfl (fun w0 T B E0 hB => ?_)
  refine SX.goP ?_
  exact retUP ⟨rfl, trivial⟩
theorem c_enterT (l : List Tok) (a : Nat) {o : Nat} (h : o + 1 ≤ 600) : CallOK Tryd.prog 66 [.ptr 29 0] [(29, PG l a o)] ⟨.v (.bool true), [(29, .ent (PG l a (o + 1)))]⟩ := by
  refine CallOK.fnF Tryd.func66 Tryd.results66 Tryd.ntmps66 rfl rfl rfl rfl (fun w0 T B E0 hB => ?_)
  refine SX.goP ?_
  exact retBP rfl ⟨rfl, trivial⟩
theorem c_enterF (l : List Tok) (a : Nat) {o : Nat} (h : 600 < o + 1) (ho : o ≤ 1000000) : CallOK Tryd.prog 66 [.ptr 29 0] [(29, PG l a o)] ⟨.v (.bool false), [(29, .ent (PE l a (o + 1) 8 0))]⟩ := by
  have c := c_failG l a (o + 1) 8 0
  refine CallOK.fnF Tryd.func66 Tryd.results66 Tryd.ntmps66 rfl rfl rfl rfl (fun w0 T B E0 hB => ?_)
  refine SX.goP ?_
  exact retBP rfl ⟨rfl, trivial⟩
theorem c_enterE (l : List Tok) (a : Nat) {o : Nat} (e p : Nat) (ho : o ≤ 1000000) : CallOK Tryd.prog 66 [.ptr 29 0] [(29, PE l a o e p)] ⟨.v (.bool false), [(29, .ent (PE l a (o + 1) e p))]⟩ := by
  have c := c_failE l a (o + 1) e p 8 0
  by_cases h : 600 < o + 1
  · refine CallOK.fnF Tryd.func66 Tryd.results66 Tryd.ntmps66 rfl rfl rfl rfl (fun w0 T B E0 hB => ?_)
    refine SX.goP ?_
    exact retBP rfl ⟨rfl, trivial⟩
  · refine CallOK.fnF Tryd.func66 Tryd.results66 Tryd.ntmps66 rfl rfl rfl rfl (fun w0 T B E0 hB => ?_)
    refine SX.goP ?_
    exact retBP rfl ⟨rfl, trivial⟩
theorem c_namedG (l : List Tok) (a o : Nat) : CallOK Tryd.prog 42 [.ptr 29 0] [(29, PG l a o)] ⟨.v (.bool (isNm l a)), [(29, .ent (PG l a o))]⟩ := by
  by_cases h : a < l.length
  · obtain ⟨⟨tk, tt, tp⟩, ht⟩ : ∃ t, l[a]? = some t := ⟨_, List.getElem?_eq_getElem h⟩
    have hv : isNm l a = (decide (tk = 2) && !ownB tt) := by unfold isNm; rw [ht]
    rw [hv]
    have cO := con_own tt
    by_cases hk : tk = 2
    · refine CallOK.fnF Tryd.func42 Tryd.results42 Tryd.ntmps42 rfl rfl rfl rfl (fun w0 T B E0 hB => ?_)
      refine SX.goP ?_
      (refine retBP ?_ ⟨rfl, trivial⟩; simp [hk])
    · refine CallOK.fnF Tryd.func42 Tryd.results42 Tryd.ntmps42 rfl rfl rfl rfl (fun w0 T B E0 hB => ?_)
      refine SX.goP ?_
      (refine retBP ?_ ⟨rfl, trivial⟩; simp [hk])
  · have hv : isNm l a = false := by unfold isNm; rw [List.getElem?_eq_none (by omega)]
    rw [hv]
    refine CallOK.fnF Tryd.func42 Tryd.results42 Tryd.ntmps42 rfl rfl rfl rfl (fun w0 T B E0 hB => ?_)
    refine SX.goP ?_
    exact retBP rfl ⟨rfl, trivial⟩
theorem c_namedE (l : List Tok) (a o e p : Nat) : CallOK Tryd.prog 42 [.ptr 29 0] [(29, PE l a o e p)] ⟨.v (.bool false), [(29, .ent (PE l a o e p))]⟩ := by
  refine CallOK.fnF Tryd.func42 Tryd.results42 Tryd.ntmps42 rfl rfl rfl rfl (fun w0 T B E0 hB => ?_)
  refine SX.goP ?_
  exact retBP rfl ⟨rfl, trivial⟩
theorem isNm_lt {l : List Tok} {a : Nat} (h : isNm l a = true) : a < l.length := by
  refine Nat.lt_of_not_le fun hn => ?_
  unfold isNm at h; rw [List.getElem?_eq_none hn] at h; cases h
def txt (l : List Tok) (a : Nat) : List UInt8 := match l[a]? with
  | some t => t.text
  | none => []
theorem c_nameT {l : List Tok} {a : Nat} (o : Nat) (hl : l.length ≤ 1000000) (h : isNm l a = true) : CallOK Tryd.prog 40 [.ptr 29 0] [(29, PG l a o)] ⟨.v (str (txt l a)), [(29, .ent (PG l (a + 1) o))]⟩ := by
  have hlt := isNm_lt h
  have c := c_namedG l a o
  rw [h] at c
  obtain ⟨⟨tk, tt, tp⟩, ht⟩ : ∃ t, l[a]? = some t := ⟨_, List.getElem?_eq_getElem hlt⟩
  have hv : txt l a = tt := by unfold txt; rw [ht]
  rw [hv]
  refine CallOK.fnF Tryd.func40 Tryd.results40 Tryd.ntmps40 rfl rfl rfl rfl (fun w0 T B E0 hB => ?_)
  refine SX.goP ?_
  exact retSP rfl ⟨rfl, trivial⟩
theorem c_nameF {l : List Tok} {a : Nat} (o : Nat) (h : isNm l a = false) : CallOK Tryd.prog 40 [.ptr 29 0] [(29, PG l a o)] ⟨.v (str []), [(29, .ent (PE l a o 4 a))]⟩ := by
  have c := c_namedG l a o
  rw [h] at c
  have c2 := c_wrongG l a o
  refine CallOK.fnF Tryd.func40 Tryd.results40 Tryd.ntmps40 rfl rfl rfl rfl (fun w0 T B E0 hB => ?_)
  refine SX.goP ?_
  exact retSP rfl ⟨rfl, trivial⟩
end Go.Proofs.YtlojipipibebaaaDoor
/- The language's grammar, and package parser's brackets. -/
set_option linter.unusedVariables false
set_option linter.unusedSimpArgs false
namespace Go.Proofs.YtlojipipibebaaaDoor
open Go.RowKit SX
/-- What a rule comes to: a node and the place behind it, or an error, its place, and what is left (a node, a place, how much is open). -/
inductive Res where
  | ok (n : Nd) (a : Nat)
  | bad (e p : Nat) (n : Nd) (a o : Nat)
abbrev Gr := Nat → Nat → Res
def mapR (f : Nd → Nd) : Res → Res
  | .ok n a => .ok (f n) a
  | .bad e p n a o => .bad e p (f n) a o
section
variable (K : Nat) (l : List Tok)
def thenS (r : Res) (o : Nat) (s : List UInt8) : Res := match r with
  | .ok n a => if isS l a s then .ok n (a + 1) else .bad 4 a n a o
  | .bad e p n a o' => .bad e p n a o'
def ins (k : Gr) : Gr := fun a o => if K < o + 1 then .bad 8 0 nd0 a (o + 1) else match k a (o + 1) with
  | .ok n a' => .ok n a'
  | .bad e p n a' o' => .bad e p n a' (o' - 1)
def listG (X : Gr) (e : List UInt8) : Nat → List Nd → Gr
  | 0, _ => fun a o => .bad 4 a nd0 a o
  | m + 1, ks => fun a o => match X a o with
    | .bad c p n a' o' => .bad c p (.mk 0 [] (ks ++ [n])) a' o'
    | .ok n a' => if isS l a' e then .ok (.mk 0 [] (ks ++ [n])) (a' + 1) else if isS l a' [44] then listG X e m (ks ++ [n]) (a' + 1) o else .bad 4 a' (.mk 0 [] (ks ++ [n])) a' o
def listE (X : Gr) (e : List UInt8) : Gr := fun a o => if isS l a e then .ok (.mk 0 [] []) (a + 1) else listG l X e (l.length + 1) [] a o
def matG (X : Gr) : Nat → List Nd → List Nd → Gr
  | 0, _, _ => fun a o => .bad 4 a nd0 a o
  | m + 1, rs, r => fun a o => match X a o with
    | .bad c p n a' o' => .bad c p (.mk 14 [] (rs ++ [.mk 15 [] (r ++ [n])])) a' o'
    | .ok n a' => if isS l a' [44] then matG X m rs (r ++ [n]) (a' + 1) o else if isS l a' [59] then matG X m (rs ++ [.mk 15 [] (r ++ [n])]) [] (a' + 1) o
      else if isS l a' [93] then .ok (.mk 14 [] (rs ++ [.mk 15 [] (r ++ [n])])) (a' + 1) else .bad 4 a' (.mk 14 [] (rs ++ [.mk 15 [] (r ++ [n])])) a' o
def primG (X : Gr) : Gr := fun a o => match l[a]? with
  | none => .bad 4 a nd0 a o
  | some t => if t.kind = 1 then .ok (.mk 1 t.text []) (a + 1)
    else if isNm l a then (if isS l (a + 1) [40] then ins K (fun a o => mapR (fun n => .mk 13 t.text n.kids) (listE l X [41] a o)) (a + 2) o else .ok (.mk 2 t.text []) (a + 1))
    else if isS l a [40] then ins K (fun a o => thenS l (X a o) o [41]) (a + 1) o
    else if isS l a [91] then ins K (fun a o => matG l X (l.length + 1) [] [] a o) (a + 1) o
    else if isS l a [123] then ins K (fun a o => mapR (fun n => .mk 16 [] n.kids) (listE l X [125] a o)) (a + 1) o
    else .bad 4 a nd0 a o
def itemG (X : Gr) (n : Nd) : Gr := fun a o => match X a o with
  | .bad e p m a' o' => .bad e p (.mk 17 [] [n, m]) a' o'
  | .ok m a' => if isS l a' [44] then thenS l (mapR (fun m2 => .mk 17 [] [n, m, m2]) (X (a' + 1) o)) o [93]
    else thenS l (.ok (.mk 17 [] [n, m]) a') o [93]
def postG (X : Gr) : Nat → Nd → Gr
  | 0, _ => fun a o => .bad 4 a nd0 a o
  | k + 1, n => fun a o => if isS l a [91] then (match ins K (itemG l X n) (a + 1) o with
      | .bad e p n' a' o' => .bad e p n' a' o'
      | .ok n' a' => postG X k n' a' o)
    else .ok n a
def postF (X : Gr) : Gr := fun a o => match primG K l X a o with
  | .bad e p n a' o' => .bad e p n a' o'
  | .ok n a' => postG K l X (l.length + 1) n a' o
def powG (X U : Gr) : Gr := fun a o => match postF K l X a o with
  | .bad e p n a' o' => .bad e p n a' o'
  | .ok n a' => if isS l a' [94] then mapR (fun m => .mk 8 [] [n, m]) (U (a' + 1) o) else .ok n a'
def unG (X U : Gr) : Gr := fun a o => if isS l a [45] then ins K (fun a o => mapR (fun m => .mk 3 [] [m]) (U a o)) (a + 1) o else powG K l X U a o
def chainG (S : Gr) (s1 : List UInt8) (x : Nat) (s2 : List UInt8) (y : Nat) : Nat → Nd → Gr
  | 0, _ => fun a o => .bad 4 a nd0 a o
  | m + 1, n => fun a o => if isS l a s1 then (match S (a + 1) o with
      | .bad e p k a' o' => .bad e p (.mk x [] [n, k]) a' o'
      | .ok k a' => chainG S s1 x s2 y m (.mk x [] [n, k]) a' o)
    else if isS l a s2 then (match S (a + 1) o with
      | .bad e p k a' o' => .bad e p (.mk y [] [n, k]) a' o'
      | .ok k a' => chainG S s1 x s2 y m (.mk y [] [n, k]) a' o)
    else .ok n a
def chnF (S : Gr) (s1 : List UInt8) (x : Nat) (s2 : List UInt8) (y : Nat) : Gr := fun a o => match S a o with
  | .bad e p n a' o' => .bad e p n a' o'
  | .ok n a' => chainG l S s1 x s2 y (l.length + 1) n a' o
def prodG (U : Gr) : Gr := chnF l U [42] 6 [47] 7
def sumG (U : Gr) : Gr := chnF l (prodG l U) [43] 4 [45] 5
def expG (U : Gr) : Gr := fun a o => match sumG l U a o with
  | .bad e p n a' o' => .bad e p n a' o'
  | .ok n a' => if isS l a' [61, 61] then mapR (fun m => .mk 9 [] [n, m]) (sumG l U (a' + 1) o) else if isS l a' [33, 61] then mapR (fun m => .mk 10 [] [n, m]) (sumG l U (a' + 1) o)
    else if isS l a' [60] then mapR (fun m => .mk 11 [] [n, m]) (sumG l U (a' + 1) o) else if isS l a' [60, 61] then mapR (fun m => .mk 12 [] [n, m]) (sumG l U (a' + 1) o) else .ok n a'
/-- Expressions, and what may bear a minus, so many levels deep. -/
def lev : Nat → Gr × Gr
  | 0 => (fun a o => .bad 4 a nd0 a o, fun a o => .bad 4 a nd0 a o)
  | n + 1 => (expG l (unG K l (lev n).1 (lev n).2), unG K l (lev n).1 (lev n).2)
end
/-- A call's contract by what a rule comes to; 'res': how the node is told, 'ex': the variables that a closure sees. -/
def CR (res : Nd → AV) (f : FuncId) (args : List AV) (ex : List (Nat × Ent)) (l : List Tok) (a o : Nat) : Res → Prop
  | .ok n a' => CallOK Tryd.prog f args ((29, PG l a o) :: ex) ⟨res n, (29, .ent (PG l a' o)) :: ex.map fun p => (p.1, .ent p.2)⟩
  | .bad e p n a' o' => CallOK Tryd.prog f args ((29, PG l a o) :: ex) ⟨res n, (29, .ent (PE l a' o' e p)) :: ex.map fun p => (p.1, .ent p.2)⟩

mutual
def cnt : Nd → Nat
  | .mk _ _ ks => 1 + cntL ks
def cntL : List Nd → Nat
  | [] => 0
  | k :: ks => cnt k + cntL ks
end
theorem cntL_append : ∀ ks ms : List Nd, cntL (ks ++ ms) = cntL ks + cntL ms
  | [], ms => by simp [cntL]
  | k :: ks, ms => by simp [cntL, cntL_append ks ms]; omega
theorem cnt_pos : ∀ n : Nd, 1 ≤ cnt n
  | .mk _ _ _ => by rw [cnt]; omega
theorem cnt_mk (x : Int) (t : List UInt8) (ks : List Nd) : cnt (.mk x t ks) = 1 + cntL ks := by rw [cnt]
theorem cntL_cons (k : Nd) (ks : List Nd) : cntL (k :: ks) = cnt k + cntL ks := by rw [cntL]
theorem cntL_nil : cntL [] = 0 := by rw [cntL]
theorem len_cntL : ∀ ks : List Nd, ks.length ≤ cntL ks
  | [] => by simp [cntL]
  | k :: ks => by have := len_cntL ks; have := cnt_pos k; simp [cntL]; omega
/-- How far a rule comes: c tokens more than there are new nodes, s nodes are old; what is open behind an error. -/
def AdvR (s c k : Nat) (l : List Tok) (a o : Nat) : Res → Prop
  | .ok n a' => a + cnt n + c ≤ a' + s ∧ a ≤ a' ∧ a' ≤ l.length
  | .bad _ _ _ _ o' => o ≤ o' ∧ o' ≤ o + k
/-- What is open behind an error. -/
def AdvO (k o : Nat) : Res → Prop
  | .ok _ _ => True
  | .bad _ _ _ _ o' => o ≤ o' ∧ o' ≤ o + k
def Adv (k : Nat) (l : List Tok) (m : Nat) (g : Gr) : Prop := ∀ a o, m ≤ a → a ≤ l.length → AdvR 0 0 k l a o (g a o)
abbrev rNd (n : Nd) : AV := .agg (ndA n)
abbrev rKs (n : Nd) : AV := .r (rowR 3 ndC n.kids)
abbrev PP : Ent := .box 54 [.ptr 29 0]
abbrev NB (n : Nd) : Ent := .box 40 (ndA n)
abbrev KB (t : Tok) : Ent := .box 38 (tokA t)
abbrev fnA (f : FuncId) (cap : List (Nat × Nat)) : AV := .it (.one (.clo f cap))
abbrev bnA (f : FuncId) : AV := .it (.one (.bnd f 29))
attribute [local irreducible] IntKind.wrap Go1 Reg WP thenK inBlk retQ retF RetF RetOK ResOK CallOK OpOK Sat
theorem c_insA {f : FuncId} {l : List Tok} {a o : Nat} {k : Gr} (ho : o ≤ 600) (hk : o + 1 ≤ 600 → CR rNd f [.ptr 81 0] [(81, PP)] l a (o + 1) (k a (o + 1)) ∧ AdvO 2 (o + 1) (k a (o + 1))) :
    CR rNd 55 [.ptr 29 0, fnA f [(81, 0)]] [(81, PP)] l a o (ins 600 k a o) := by
  unfold ins
  by_cases h : 600 < o + 1
  · rw [if_pos h]
    have c := c_enterF l a h (by omega)
    show CallOK _ _ _ _ _
    refine CallOK.fnF Tryd.func55 Tryd.results55 Tryd.ntmps55 rfl rfl rfl rfl (fun w0 T B E0 hB => ?_)
    refine SX.goP ?_
    exact retNd (ResOK.agg3 rfl rfl rfl) (imp_nd rfl rfl) ⟨rfl, rfl, trivial⟩
  · rw [if_neg h]
    have c := c_enterT l a (o := o) (by omega)
    obtain ⟨hk, hb⟩ := hk (by omega)
    cases hr : k a (o + 1) with
    | ok n a' =>
      rw [hr] at hk
      unfold CR at hk
      show CallOK _ _ _ _ _
      refine CallOK.fnF Tryd.func55 Tryd.results55 Tryd.ntmps55 rfl rfl rfl rfl (fun w0 T B E0 hB => ?_)
      refine SX.goP ?_
      exact retNd (ResOK.agg3 rfl rfl rfl) (AV0.imp.refl _) ⟨rfl, rfl, trivial⟩
    | bad e p n a' o' =>
      rw [hr] at hk hb
      unfold CR at hk
      unfold AdvO at hb
      show CallOK _ _ _ _ _
      refine CallOK.fnF Tryd.func55 Tryd.results55 Tryd.ntmps55 rfl rfl rfl rfl (fun w0 T B E0 hB => ?_)
      refine SX.goP ?_
      exact retNd (ResOK.agg3 rfl rfl rfl) (AV0.imp.refl _) ⟨rfl, rfl, trivial⟩
theorem c_insB {f : FuncId} {l : List Tok} {a o : Nat} {k : Gr} {N : Nd} (ho : o ≤ 600) (hk : o + 1 ≤ 600 → CR rNd f [.ptr 83 0, .ptr 81 0] [(81, PP), (83, NB N)] l a (o + 1) (k a (o + 1)) ∧ AdvO 2 (o + 1) (k a (o + 1))) :
    CR rNd 55 [.ptr 29 0, fnA f [(83, 0), (81, 0)]] [(81, PP), (83, NB N)] l a o (ins 600 k a o) := by
  unfold ins
  by_cases h : 600 < o + 1
  · rw [if_pos h]
    have c := c_enterF l a h (by omega)
    show CallOK _ _ _ _ _
    refine CallOK.fnF Tryd.func55 Tryd.results55 Tryd.ntmps55 rfl rfl rfl rfl (fun w0 T B E0 hB => ?_)
    refine SX.goP ?_
    exact retNd (ResOK.agg3 rfl rfl rfl) (imp_nd rfl rfl) ⟨rfl, rfl, rfl, trivial⟩
  · rw [if_neg h]
    have c := c_enterT l a (o := o) (by omega)
    obtain ⟨hk, hb⟩ := hk (by omega)
    cases hr : k a (o + 1) with
    | ok n a' =>
      rw [hr] at hk
      unfold CR at hk
      show CallOK _ _ _ _ _
      refine CallOK.fnF Tryd.func55 Tryd.results55 Tryd.ntmps55 rfl rfl rfl rfl (fun w0 T B E0 hB => ?_)
      refine SX.goP ?_
      exact retNd (ResOK.agg3 rfl rfl rfl) (AV0.imp.refl _) ⟨rfl, rfl, rfl, trivial⟩
    | bad e p n a' o' =>
      rw [hr] at hk hb
      unfold CR at hk
      unfold AdvO at hb
      show CallOK _ _ _ _ _
      refine CallOK.fnF Tryd.func55 Tryd.results55 Tryd.ntmps55 rfl rfl rfl rfl (fun w0 T B E0 hB => ?_)
      refine SX.goP ?_
      exact retNd (ResOK.agg3 rfl rfl rfl) (AV0.imp.refl _) ⟨rfl, rfl, rfl, trivial⟩
theorem c_insC {f : FuncId} {l : List Tok} {a o : Nat} {k : Gr} {t : Tok} (ho : o ≤ 600) (hk : o + 1 ≤ 600 → CR rNd f [.ptr 82 0, .ptr 81 0] [(81, PP), (82, KB t)] l a (o + 1) (k a (o + 1)) ∧ AdvO 2 (o + 1) (k a (o + 1))) :
    CR rNd 55 [.ptr 29 0, fnA f [(82, 0), (81, 0)]] [(81, PP), (82, KB t)] l a o (ins 600 k a o) := by
  unfold ins
  by_cases h : 600 < o + 1
  · rw [if_pos h]
    have c := c_enterF l a h (by omega)
    show CallOK _ _ _ _ _
    refine CallOK.fnF Tryd.func55 Tryd.results55 Tryd.ntmps55 rfl rfl rfl rfl (fun w0 T B E0 hB => ?_)
    refine SX.goP ?_
    exact retNd (ResOK.agg3 rfl rfl rfl) (imp_nd rfl rfl) ⟨rfl, rfl, rfl, trivial⟩
  · rw [if_neg h]
    have c := c_enterT l a (o := o) (by omega)
    obtain ⟨hk, hb⟩ := hk (by omega)
    cases hr : k a (o + 1) with
    | ok n a' =>
      rw [hr] at hk
      unfold CR at hk
      show CallOK _ _ _ _ _
      refine CallOK.fnF Tryd.func55 Tryd.results55 Tryd.ntmps55 rfl rfl rfl rfl (fun w0 T B E0 hB => ?_)
      refine SX.goP ?_
      exact retNd (ResOK.agg3 rfl rfl rfl) (AV0.imp.refl _) ⟨rfl, rfl, rfl, trivial⟩
    | bad e p n a' o' =>
      rw [hr] at hk hb
      unfold CR at hk
      unfold AdvO at hb
      show CallOK _ _ _ _ _
      refine CallOK.fnF Tryd.func55 Tryd.results55 Tryd.ntmps55 rfl rfl rfl rfl (fun w0 T B E0 hB => ?_)
      refine SX.goP ?_
      exact retNd (ResOK.agg3 rfl rfl rfl) (AV0.imp.refl _) ⟨rfl, rfl, rfl, trivial⟩
theorem c_insD {f : FuncId} {l : List Tok} {a o : Nat} {k : Gr} (ho : o ≤ 600) (hk : o + 1 ≤ 600 → CR rNd f [.ptr 29 0] [] l a (o + 1) (k a (o + 1)) ∧ AdvO 2 (o + 1) (k a (o + 1))) :
    CR rNd 55 [.ptr 29 0, bnA f] [] l a o (ins 600 k a o) := by
  unfold ins
  by_cases h : 600 < o + 1
  · rw [if_pos h]
    have c := c_enterF l a h (by omega)
    show CallOK _ _ _ _ _
    refine CallOK.fnF Tryd.func55 Tryd.results55 Tryd.ntmps55 rfl rfl rfl rfl (fun w0 T B E0 hB => ?_)
    refine SX.goP ?_
    exact retNd (ResOK.agg3 rfl rfl rfl) (imp_nd rfl rfl) ⟨rfl, trivial⟩
  · rw [if_neg h]
    have c := c_enterT l a (o := o) (by omega)
    obtain ⟨hk, hb⟩ := hk (by omega)
    cases hr : k a (o + 1) with
    | ok n a' =>
      rw [hr] at hk
      unfold CR at hk
      show CallOK _ _ _ _ _
      refine CallOK.fnF Tryd.func55 Tryd.results55 Tryd.ntmps55 rfl rfl rfl rfl (fun w0 T B E0 hB => ?_)
      refine SX.goP ?_
      exact retNd (ResOK.agg3 rfl rfl rfl) (AV0.imp.refl _) ⟨rfl, trivial⟩
    | bad e p n a' o' =>
      rw [hr] at hk hb
      unfold CR at hk
      unfold AdvO at hb
      show CallOK _ _ _ _ _
      refine CallOK.fnF Tryd.func55 Tryd.results55 Tryd.ntmps55 rfl rfl rfl rfl (fun w0 T B E0 hB => ?_)
      refine SX.goP ?_
      exact retNd (ResOK.agg3 rfl rfl rfl) (AV0.imp.refl _) ⟨rfl, trivial⟩
theorem c_insE {f : FuncId} {l : List Tok} {a o e p : Nat} (ho : o ≤ 1000000) :
    CallOK Tryd.prog 55 [.ptr 29 0, fnA f [(81, 0)]] [(29, PE l a o e p), (81, PP)] ⟨rNd nd0, [(29, .ent (PE l a (o + 1) e p)), (81, .ent PP)]⟩ := by
  have c := c_enterE l a e p ho
  refine CallOK.fnF Tryd.func55 Tryd.results55 Tryd.ntmps55 rfl rfl rfl rfl (fun w0 T B E0 hB => ?_)
  refine SX.goP ?_
  exact retNd (ResOK.agg3 rfl rfl rfl) (imp_nd rfl rfl) ⟨rfl, rfl, trivial⟩
/-- A rule's contract from a place on. -/
def GOK (f : FuncId) (l : List Tok) (m : Nat) (g : Gr) : Prop := ∀ a o, m ≤ a → a ≤ l.length → o ≤ 600 → CR rNd f [.ptr 29 0] [] l a o (g a o)
/-- The same call behind an error. -/
def GE (f : FuncId) (l : List Tok) : Prop := ∀ a o e p, CallOK Tryd.prog f [.ptr 29 0] [(29, PE l a o e p)] ⟨rNd nd0, [(29, .ent (PE l a o e p))]⟩
theorem CR.ok {res : Nd → AV} {f : FuncId} {args : List AV} {ex : List (Nat × Ent)} {l : List Tok} {a o : Nat} {n : Nd} {a' : Nat} (h : CR res f args ex l a o (.ok n a')) : CallOK Tryd.prog f args ((29, PG l a o) :: ex) ⟨res n, (29, .ent (PG l a' o)) :: ex.map fun p => (p.1, .ent p.2)⟩ := h
theorem CR.bad {res : Nd → AV} {f : FuncId} {args : List AV} {ex : List (Nat × Ent)} {l : List Tok} {a o : Nat} {n : Nd} {e p a' o' : Nat} (h : CR res f args ex l a o (.bad e p n a' o')) : CallOK Tryd.prog f args ((29, PG l a o) :: ex) ⟨res n, (29, .ent (PE l a' o' e p)) :: ex.map fun p => (p.1, .ent p.2)⟩ := h
/-- The rules come forward. -/
theorem AdvR.open {s c k : Nat} {l : List Tok} {a o : Nat} {r : Res} (h : AdvR s c k l a o r) : AdvO k o r := by
  cases r with
  | ok n a' => trivial
  | bad e p n a' o' => exact h
theorem AdvO.mono {k k' o : Nat} {r : Res} (h : AdvO k o r) (hk : k ≤ k') : AdvO k' o r := by
  cases r with
  | ok n a' => trivial
  | bad e p n a' o' => exact ⟨h.1, by have := h.2; omega⟩
theorem AdvR.mono {s c k s' c' k' : Nat} {l : List Tok} {a o a2 : Nat} {r : Res} (h : AdvR s c k l a2 o r) (hk : k ≤ k') (ha : a ≤ a2) (hc : a + c' + s ≤ a2 + c + s') : AdvR s' c' k' l a o r := by
  cases r with
  | ok n a' => exact ⟨by have := h.1; omega, by have := h.2.1; omega, h.2.2⟩
  | bad e p n a' o' => exact ⟨h.1, by have := h.2; omega⟩
theorem adv_map {f : Nd → Nd} {s s' c c' k : Nat} {l : List Tok} {a o : Nat} {r : Res} (h : AdvR s c k l a o r) (hf : ∀ n, cnt (f n) + c' + s ≤ cnt n + c + s') : AdvR s' c' k l a o (mapR f r) := by
  cases r with
  | ok n a' => exact ⟨by have := h.1; have := hf n; omega, h.2⟩
  | bad e p n a' o' => exact h
theorem adv_then {s c k : Nat} {l : List Tok} {a o : Nat} {r : Res} {t : List UInt8} (h : AdvR s c k l a o r) : AdvR s (c + 1) k l a o (thenS l r o t) := by
  cases r with
  | ok n a' =>
    unfold thenS
    dsimp only
    split
    · rename_i hs; exact ⟨by have := h.1; omega, by have := h.2.1; omega, isS_lt hs⟩
    · exact ⟨Nat.le_refl _, by omega⟩
  | bad e p n a' o' => exact h
theorem adv_ins {K s c k : Nat} {l : List Tok} {a o : Nat} {g : Gr} (hk : 1 ≤ k) (h : AdvR s c k l a (o + 1) (g a (o + 1))) : AdvR s c k l a o (ins K g a o) := by
  unfold ins
  split
  · exact ⟨by omega, by omega⟩
  · cases hr : g a (o + 1) with
    | ok n a' => rw [hr] at h; exact h
    | bad e p n a' o' => rw [hr] at h; exact ⟨by have := h.1; omega, by have := h.2; omega⟩
end Go.Proofs.YtlojipipibebaaaDoor
/- The language's grammar: how far the rules come. -/
set_option linter.unusedVariables false
set_option linter.unusedSimpArgs false
namespace Go.Proofs.YtlojipipibebaaaDoor
open Go.RowKit SX
theorem cnt_kids (n : Nd) (x : Int) (t : List UInt8) : cnt (.mk x t n.kids) = cnt n := by
  cases n; rw [cnt_mk, cnt_mk]; rfl
theorem adv_bad {s c k : Nat} {l : List Tok} {a o e p : Nat} {n : Nd} {a' : Nat} (hk : 1 ≤ k) : AdvR s c k l a o (.bad e p n a' o) := ⟨Nat.le_refl _, by omega⟩
theorem adv_list {l : List Tok} {m : Nat} {X : Gr} {e : List UInt8} (h : Adv 1 l m X) : ∀ (f : Nat) (ks : List Nd) (a o : Nat), m ≤ a → a ≤ l.length → AdvR (cntL ks) 0 1 l a o (listG l X e f ks a o)
  | 0, ks, a, o, hm, ha => adv_bad (Nat.le_refl _)
  | f + 1, ks, a, o, hm, ha => by
    have h1 := h a o hm ha
    unfold listG
    cases hr : X a o with
    | bad c p n a' o' => rw [hr] at h1; exact h1
    | ok n a' =>
      rw [hr] at h1
      obtain ⟨h1, h3, h2⟩ := h1
      dsimp only
      split
      · rename_i hs
        have := isS_lt hs
        exact ⟨by rw [cnt_mk, cntL_append, cntL_cons, cntL_nil]; omega, by omega, by omega⟩
      · split
        · rename_i hs
          have := isS_lt hs
          refine (adv_list h f (ks ++ [n]) (a' + 1) o (by omega) (by omega)).mono (Nat.le_refl _) (by omega) ?_
          rw [cntL_append, cntL_cons, cntL_nil]; omega
        · exact adv_bad (Nat.le_refl _)
theorem adv_listE {l : List Tok} {m : Nat} {X : Gr} {e : List UInt8} (h : Adv 1 l m X) {a o : Nat} (hm : m ≤ a) (ha : a ≤ l.length) : AdvR 0 0 1 l a o (listE l X e a o) := by
  unfold listE
  split
  · rename_i hs
    have := isS_lt hs
    exact ⟨by rw [cnt_mk, cntL_nil]; omega, by omega, by omega⟩
  · have := adv_list (e := e) h (l.length + 1) [] a o hm ha
    rwa [cntL_nil] at this
theorem adv_mat {l : List Tok} {m : Nat} {X : Gr} (h : Adv 1 l m X) : ∀ (f : Nat) (rs r : List Nd) (a o : Nat), m ≤ a → a ≤ l.length → AdvR (cntL rs + cntL r + 1) 0 1 l a o (matG l X f rs r a o)
  | 0, rs, r, a, o, hm, ha => adv_bad (Nat.le_refl _)
  | f + 1, rs, r, a, o, hm, ha => by
    have h1 := h a o hm ha
    unfold matG
    cases hr : X a o with
    | bad c p n a' o' => rw [hr] at h1; exact h1
    | ok n a' =>
      rw [hr] at h1
      obtain ⟨h1, h3, h2⟩ := h1
      dsimp only
      split
      · rename_i hs
        have := isS_lt hs
        refine (adv_mat h f rs (r ++ [n]) (a' + 1) o (by omega) (by omega)).mono (Nat.le_refl _) (by omega) ?_
        rw [cntL_append, cntL_cons, cntL_nil]; omega
      · split
        · rename_i hs
          have := isS_lt hs
          have hh := adv_mat h f (rs ++ [.mk 15 [] (r ++ [n])]) [] (a' + 1) o (by omega) (by omega)
          refine hh.mono (Nat.le_refl _) (by omega) ?_
          rw [cntL_append, cntL_cons, cntL_nil, cnt_mk, cntL_append, cntL_cons, cntL_nil]; omega
        · split
          · rename_i hs
            have := isS_lt hs
            exact ⟨by rw [cnt_mk, cntL_append, cntL_cons, cntL_nil, cnt_mk, cntL_append, cntL_cons, cntL_nil]; omega, by omega, by omega⟩
          · exact adv_bad (Nat.le_refl _)
theorem adv_prim {K : Nat} {l : List Tok} {m : Nat} {X : Gr} (h : Adv 1 l (m + 1) X) : Adv 1 l m (primG K l X) := by
  intro a o hm ha
  unfold primG
  cases ht : l[a]? with
  | none => exact adv_bad (Nat.le_refl _)
  | some t =>
    have hlt : a < l.length := (List.getElem?_eq_some_iff.1 ht).1
    dsimp only
    split
    · exact ⟨by rw [cnt_mk, cntL_nil]; omega, by omega, by omega⟩
    · split
      · split
        · rename_i hs
          have := isS_lt hs
          refine (adv_ins (Nat.le_refl _) (adv_map (c' := 0) (s' := 0) (adv_listE h (by omega) (by omega)) (fun n => by rw [cnt_kids]; omega))).mono (Nat.le_refl _) (by omega) (by omega)
        · exact ⟨by rw [cnt_mk, cntL_nil]; omega, by omega, by omega⟩
      · split
        · refine (adv_ins (Nat.le_refl _) (adv_then (h _ _ (by omega) (by omega)))).mono (Nat.le_refl _) (by omega) (by omega)
        · split
          · refine (adv_ins (Nat.le_refl _) (adv_mat h _ _ _ _ _ (by omega) (by omega))).mono (Nat.le_refl _) (by omega) (by simp only [cntL_nil]; omega)
          · split
            · refine (adv_ins (Nat.le_refl _) (adv_map (c' := 0) (s' := 0) (adv_listE h (by omega) (by omega)) (fun n => by rw [cnt_kids]; omega))).mono (Nat.le_refl _) (by omega) (by omega)
            · exact adv_bad (Nat.le_refl _)
theorem adv_item {l : List Tok} {m : Nat} {X : Gr} {n : Nd} (h : Adv 1 l m X) {a o : Nat} (hm : m ≤ a) (ha : a ≤ l.length) : AdvR (cnt n) 0 1 l a o (itemG l X n a o) := by
  have h1 := h a o hm ha
  unfold itemG
  cases hr : X a o with
  | bad c p m a' o' => rw [hr] at h1; exact h1
  | ok n1 a' =>
    rw [hr] at h1
    obtain ⟨h1, h3, h2⟩ := h1
    dsimp only
    split
    · rename_i hs
      have := isS_lt hs
      exact (adv_then (adv_map (c' := 0) (s' := 1 + cnt n + cnt n1) (h (a' + 1) o (by omega) (by omega)) (fun n2 => by rw [cnt_mk, cntL_cons, cntL_cons, cntL_cons, cntL_nil]; omega))).mono (Nat.le_refl _) (by omega) (by omega)
    · exact (adv_then (k := 1) (s := 1 + cnt n + cnt n1) (c := 0) (show AdvR _ _ _ l a' o (.ok _ a') from ⟨by rw [cnt_mk, cntL_cons, cntL_cons, cntL_nil]; omega, Nat.le_refl _, h2⟩)).mono (Nat.le_refl _) (by omega) (by omega)
theorem adv_post {K : Nat} {l : List Tok} {m : Nat} {X : Gr} (h : Adv 1 l (m + 1) X) : ∀ (f : Nat) (n : Nd) (a o : Nat), m ≤ a → a ≤ l.length → AdvR (cnt n) 0 1 l a o (postG K l X f n a o)
  | 0, n, a, o, hm, ha => adv_bad (Nat.le_refl _)
  | f + 1, n, a, o, hm, ha => by
    unfold postG
    split
    · rename_i hs
      have := isS_lt hs
      have h1 := adv_ins (K := K) (g := itemG l X n) (a := a + 1) (o := o) (Nat.le_refl _) (adv_item (n := n) (o := o + 1) h (by omega) (by omega))
      cases hr : ins K (itemG l X n) (a + 1) o with
      | bad e p n' a' o' => rw [hr] at h1; exact h1
      | ok n' a' =>
        rw [hr] at h1
        obtain ⟨h1, h3, h2⟩ := h1
        exact (adv_post h f n' a' o (by omega) h2).mono (Nat.le_refl _) (by omega) (by omega)
    · exact ⟨by omega, by omega, ha⟩
theorem adv_postF {K : Nat} {l : List Tok} {m : Nat} {X : Gr} (h : Adv 1 l (m + 1) X) : Adv 1 l m (postF K l X) := by
  intro a o hm ha
  have h1 := adv_prim (K := K) h a o hm ha
  unfold postF
  cases hr : primG K l X a o with
  | bad e p n a' o' => rw [hr] at h1; exact h1
  | ok n a' =>
    rw [hr] at h1
    obtain ⟨h1, h3, h2⟩ := h1
    exact (adv_post h _ n a' o (by omega) h2).mono (Nat.le_refl _) (by omega) (by omega)
theorem adv_pow {K : Nat} {l : List Tok} {m : Nat} {X U : Gr} (h : Adv 1 l (m + 1) X) (hu : Adv 1 l (m + 1) U) : Adv 1 l m (powG K l X U) := by
  intro a o hm ha
  have h1 := adv_postF (K := K) h a o hm ha
  unfold powG
  cases hr : postF K l X a o with
  | bad e p n a' o' => rw [hr] at h1; exact h1
  | ok n a' =>
    rw [hr] at h1
    obtain ⟨h1, h3, h2⟩ := h1
    have := cnt_pos n
    dsimp only
    split
    · rename_i hs
      have := isS_lt hs
      exact (adv_map (c' := 0) (s' := 1 + cnt n) (hu (a' + 1) o (by omega) (by omega)) (fun k => by rw [cnt_mk, cntL_cons, cntL_cons, cntL_nil]; omega)).mono (Nat.le_refl _) (by omega) (by omega)
    · exact ⟨h1, h3, h2⟩
theorem adv_un {K : Nat} {l : List Tok} {m : Nat} {X U : Gr} (h : Adv 1 l (m + 1) X) (hu : Adv 1 l (m + 1) U) : Adv 1 l m (unG K l X U) := by
  intro a o hm ha
  unfold unG
  split
  · rename_i hs
    have := isS_lt hs
    exact (adv_ins (Nat.le_refl _) (adv_map (c' := 0) (s' := 1) (hu (a + 1) (o + 1) (by omega) (by omega)) (fun k => by rw [cnt_mk, cntL_cons, cntL_nil]; omega))).mono (Nat.le_refl _) (by omega) (by omega)
  · exact adv_pow h hu a o hm ha
theorem adv_chain {l : List Tok} {m : Nat} {S : Gr} {s1 s2 : List UInt8} {x y : Nat} (h : Adv 1 l m S) : ∀ (f : Nat) (n : Nd) (a o : Nat), m ≤ a → a ≤ l.length → AdvR (cnt n) 0 1 l a o (chainG l S s1 x s2 y f n a o)
  | 0, n, a, o, hm, ha => adv_bad (Nat.le_refl _)
  | f + 1, n, a, o, hm, ha => by
    unfold chainG
    split
    · rename_i hs
      have := isS_lt hs
      have h1 := h (a + 1) o (by omega) (by omega)
      cases hr : S (a + 1) o with
      | bad e p n' a' o' => rw [hr] at h1; exact h1
      | ok n' a' =>
        rw [hr] at h1
        obtain ⟨h1, h3, h2⟩ := h1
        exact (adv_chain h f _ a' o (by omega) h2).mono (Nat.le_refl _) (by omega) (by rw [cnt_mk, cntL_cons, cntL_cons, cntL_nil]; omega)
    · split
      · rename_i hs
        have := isS_lt hs
        have h1 := h (a + 1) o (by omega) (by omega)
        cases hr : S (a + 1) o with
        | bad e p n' a' o' => rw [hr] at h1; exact h1
        | ok n' a' =>
          rw [hr] at h1
          obtain ⟨h1, h3, h2⟩ := h1
          exact (adv_chain h f _ a' o (by omega) h2).mono (Nat.le_refl _) (by omega) (by rw [cnt_mk, cntL_cons, cntL_cons, cntL_nil]; omega)
      · exact ⟨by omega, by omega, ha⟩
theorem adv_chnF {l : List Tok} {m : Nat} {S : Gr} {s1 s2 : List UInt8} {x y : Nat} (h : Adv 1 l m S) : Adv 1 l m (chnF l S s1 x s2 y) := by
  intro a o hm ha
  have h1 := h a o hm ha
  unfold chnF
  cases hr : S a o with
  | bad e p n a' o' => rw [hr] at h1; exact h1
  | ok n a' =>
    rw [hr] at h1
    obtain ⟨h1, h3, h2⟩ := h1
    exact (adv_chain h _ n a' o (by omega) h2).mono (Nat.le_refl _) (by omega) (by omega)
theorem adv_sum {l : List Tok} {m : Nat} {U : Gr} (h : Adv 1 l m U) : Adv 1 l m (sumG l U) := adv_chnF (adv_chnF h)
theorem adv_exp {l : List Tok} {m : Nat} {U : Gr} (h : Adv 1 l m U) : Adv 1 l m (expG l U) := by
  intro a o hm ha
  have h1 := adv_sum h a o hm ha
  unfold expG
  cases hr : sumG l U a o with
  | bad e p n a' o' => rw [hr] at h1; exact h1
  | ok n a' =>
    rw [hr] at h1
    obtain ⟨h1, h3, h2⟩ := h1
    have key : ∀ (x : Int), a' < l.length → AdvR 0 0 1 l a o (mapR (fun m => .mk x [] [n, m]) (sumG l U (a' + 1) o)) := fun x hx =>
      (adv_map (c' := 0) (s' := 1 + cnt n) (adv_sum h (a' + 1) o (by omega) (by omega)) (fun k => by rw [cnt_mk, cntL_cons, cntL_cons, cntL_nil]; omega)).mono (Nat.le_refl _) (by omega) (by omega)
    dsimp only
    split
    · rename_i hs; exact key 9 (isS_lt hs)
    · split
      · rename_i hs; exact key 10 (isS_lt hs)
      · split
        · rename_i hs; exact key 11 (isS_lt hs)
        · split
          · rename_i hs; exact key 12 (isS_lt hs)
          · exact ⟨h1, h3, h2⟩
theorem adv_lev (K : Nat) (l : List Tok) : ∀ (n m : Nat), l.length + 1 ≤ m + n → Adv 1 l m (lev K l n).1 ∧ Adv 1 l m (lev K l n).2
  | 0, m, h => ⟨fun a o hm ha => by omega, fun a o hm ha => by omega⟩
  | n + 1, m, h => by
    obtain ⟨h1, h2⟩ := adv_lev K l n (m + 1) (by omega)
    have h3 := adv_un (K := K) h1 h2
    exact ⟨adv_exp h3, h3⟩
end Go.Proofs.YtlojipipibebaaaDoor
/- Package parser in the symbolic run: powers, minuses. -/
set_option linter.unusedVariables false
set_option linter.unusedSimpArgs false
namespace Go.Proofs.YtlojipipibebaaaDoor
open Go.RowKit SX
attribute [local irreducible] IntKind.wrap Go1 Reg WP thenK inBlk retQ retF RetF RetOK ResOK CallOK OpOK Sat
theorem g_pow {l : List Tok} {m : Nat} {X U : Gr} (hl : l.length ≤ 1000000) (hp : GOK 87 l m (postF 600 l X)) (ap : Adv 1 l m (postF 600 l X)) (hu : GOK 75 l (m + 1) U) : GOK 83 l m (powG 600 l X U) := by
  intro a o hm ha ho
  have h1 := hp a o hm ha ho
  have h2 := ap a o hm ha
  unfold powG
  cases hr : postF 600 l X a o with
  | bad e p n a' o' =>
    rw [hr] at h1
    have c1 := h1.bad
    have c2 := c_takeE l a' o' e p [94]
    show CallOK _ _ _ _ _
    refine CallOK.fnF Tryd.func83 Tryd.results83 Tryd.ntmps83 rfl rfl rfl rfl (fun w0 T B E0 hB => ?_)
    refine SX.goP ?_
    exact retNd (ResOK.agg3 rfl rfl rfl) (AV0.imp.refl _) ⟨rfl, trivial⟩
  | ok n a' =>
    rw [hr] at h1 h2
    have c1 := h1.ok
    obtain ⟨g1, g2, g3⟩ := h2
    have g4 := cnt_pos n
    cases ht : isS l a' [94] with
    | false =>
      have c2 := c_takeF o ht
      simp only [Bool.false_eq_true, if_false, ht]
      show CallOK _ _ _ _ _
      refine CallOK.fnF Tryd.func83 Tryd.results83 Tryd.ntmps83 rfl rfl rfl rfl (fun w0 T B E0 hB => ?_)
      refine SX.goP ?_
      exact retNd (ResOK.agg3 rfl rfl rfl) (AV0.imp.refl _) ⟨rfl, trivial⟩
    | true =>
      have c2 := c_takeT o hl ht
      have g3 := isS_lt ht
      have h3 := hu (a' + 1) o (by omega) (by omega) ho
      simp only [if_true, ht]
      cases hr2 : U (a' + 1) o with
      | bad e p n2 a2 o2 =>
        rw [hr2] at h3
        have c3 := h3.bad
        show CallOK _ _ _ _ _
        refine CallOK.fnF Tryd.func83 Tryd.results83 Tryd.ntmps83 rfl rfl rfl rfl (fun w0 T B E0 hB => ?_)
        refine SX.goP ?_
        exact retNd (ResOK.agg3 rfl rfl rfl) (imp_ndk rfl rfl rfl (by first | (simp only [List.flatMap_cons, List.flatMap_nil, ndC_eq', List.append_nil]; done) | (simp only [List.flatMap_cons, List.flatMap_nil, ndC_eq', List.append_nil]; rfl))) ⟨rfl, trivial⟩
      | ok n2 a2 =>
        rw [hr2] at h3
        have c3 := h3.ok
        show CallOK _ _ _ _ _
        refine CallOK.fnF Tryd.func83 Tryd.results83 Tryd.ntmps83 rfl rfl rfl rfl (fun w0 T B E0 hB => ?_)
        refine SX.goP ?_
        exact retNd (ResOK.agg3 rfl rfl rfl) (imp_ndk rfl rfl rfl (by first | (simp only [List.flatMap_cons, List.flatMap_nil, ndC_eq', List.append_nil]; done) | (simp only [List.flatMap_cons, List.flatMap_nil, ndC_eq', List.append_nil]; rfl))) ⟨rfl, trivial⟩
theorem ge_pow {l : List Tok} (hp : GE 87 l) : GE 83 l := by
  intro a o e p
  have c1 := hp a o e p
  have c2 := c_takeE l a o e p [94]
  refine CallOK.fnF Tryd.func83 Tryd.results83 Tryd.ntmps83 rfl rfl rfl rfl (fun w0 T B E0 hB => ?_)
  refine SX.goP ?_
  exact retNd (ResOK.agg3 rfl rfl rfl) (AV0.imp.refl _) ⟨rfl, trivial⟩
theorem g_un1 {l : List Tok} {m : Nat} {U : Gr} (hu : GOK 75 l m U) {a o : Nat} (hm : m ≤ a) (ha : a ≤ l.length) (ho : o ≤ 600) : CR rNd 84 [.ptr 81 0] [(81, PP)] l a o (mapR (fun m => .mk 3 [] [m]) (U a o)) := by
  have h3 := hu a o hm ha ho
  cases hr2 : U a o with
  | bad e p n2 a2 o2 =>
    rw [hr2] at h3
    have c3 := h3.bad
    show CallOK _ _ _ _ _
    refine CallOK.fnF Tryd.func84 Tryd.results84 Tryd.ntmps84 rfl rfl rfl rfl (fun w0 T B E0 hB => ?_)
    refine SX.goP ?_
    exact retNd (ResOK.agg3 rfl rfl rfl) (imp_ndk rfl rfl rfl (by first | (simp only [List.flatMap_cons, List.flatMap_nil, ndC_eq', List.append_nil]; done) | (simp only [List.flatMap_cons, List.flatMap_nil, ndC_eq', List.append_nil]; rfl))) ⟨rfl, rfl, trivial⟩
  | ok n2 a2 =>
    rw [hr2] at h3
    have c3 := h3.ok
    show CallOK _ _ _ _ _
    refine CallOK.fnF Tryd.func84 Tryd.results84 Tryd.ntmps84 rfl rfl rfl rfl (fun w0 T B E0 hB => ?_)
    refine SX.goP ?_
    exact retNd (ResOK.agg3 rfl rfl rfl) (imp_ndk rfl rfl rfl (by first | (simp only [List.flatMap_cons, List.flatMap_nil, ndC_eq', List.append_nil]; done) | (simp only [List.flatMap_cons, List.flatMap_nil, ndC_eq', List.append_nil]; rfl))) ⟨rfl, rfl, trivial⟩
theorem g_un {l : List Tok} {m : Nat} {X U : Gr} (hl : l.length ≤ 1000000) (hp : GOK 83 l m (powG 600 l X U)) (hu : GOK 75 l (m + 1) U) (au : Adv 1 l (m + 1) U) : GOK 75 l m (unG 600 l X U) := by
  intro a o hm ha ho
  have nm : Named 1 81 := ⟨⟩
  unfold unG
  cases ht : isS l a [45] with
  | false =>
    simp only [Bool.false_eq_true, if_false]
    have c1 := c_takeF o ht
    have h1 := hp a o hm ha ho
    cases hr : powG 600 l X U a o with
    | bad e p n a' o' =>
      rw [hr] at h1
      have c2 := h1.bad
      show CallOK _ _ _ _ _
      refine CallOK.fnF Tryd.func75 Tryd.results75 Tryd.ntmps75 rfl rfl rfl rfl (fun w0 T B E0 hB => ?_)
      refine SX.goP ?_
      exact retNd (ResOK.agg3 rfl rfl rfl) (AV0.imp.refl _) ⟨rfl, trivial⟩
    | ok n a' =>
      rw [hr] at h1
      have c2 := h1.ok
      show CallOK _ _ _ _ _
      refine CallOK.fnF Tryd.func75 Tryd.results75 Tryd.ntmps75 rfl rfl rfl rfl (fun w0 T B E0 hB => ?_)
      refine SX.goP ?_
      exact retNd (ResOK.agg3 rfl rfl rfl) (AV0.imp.refl _) ⟨rfl, trivial⟩
  | true =>
    simp only [if_true]
    have c1 := c_takeT o hl ht
    have g3 := isS_lt ht
    have h1 := c_insA (f := 84) (l := l) (a := a + 1) (o := o) (k := fun a o => mapR (fun m => .mk 3 [] [m]) (U a o)) ho (fun h => ⟨g_un1 hu (by omega) (by omega) (by omega), (adv_map (c' := 0) (s' := 1) (au (a + 1) (o + 1) (by omega) (by omega)) (fun k => by rw [cnt_mk, cntL_cons, cntL_nil]; omega)).open.mono (by omega)⟩)
    cases hr : ins 600 (fun a o => mapR (fun m => .mk 3 [] [m]) (U a o)) (a + 1) o with
    | bad e p n a' o' =>
      rw [hr] at h1
      have c2 := h1.bad
      show CallOK _ _ _ _ _
      refine CallOK.fnF Tryd.func75 Tryd.results75 Tryd.ntmps75 rfl rfl rfl rfl (fun w0 T B E0 hB => ?_)
      refine SX.goP ?_
      exact retNd (ResOK.agg3 rfl rfl rfl) (AV0.imp.refl _) ⟨rfl, trivial⟩
    | ok n a' =>
      rw [hr] at h1
      have c2 := h1.ok
      show CallOK _ _ _ _ _
      refine CallOK.fnF Tryd.func75 Tryd.results75 Tryd.ntmps75 rfl rfl rfl rfl (fun w0 T B E0 hB => ?_)
      refine SX.goP ?_
      exact retNd (ResOK.agg3 rfl rfl rfl) (AV0.imp.refl _) ⟨rfl, trivial⟩
theorem ge_un {l : List Tok} (hp : GE 83 l) : GE 75 l := by
  intro a o e p
  have c1 := hp a o e p
  have c2 := c_takeE l a o e p [45]
  refine CallOK.fnF Tryd.func75 Tryd.results75 Tryd.ntmps75 rfl rfl rfl rfl (fun w0 T B E0 hB => ?_)
  refine SX.goP ?_
  exact retNd (ResOK.agg3 rfl rfl rfl) (AV0.imp.refl _) ⟨rfl, trivial⟩
/-- A state in a loop: in the course, or behind an error. -/
def bE : Option (Nat × Nat) → Nat
  | none => 0
  | some (e, _) => e
def bP : Option (Nat × Nat) → Nat
  | none => 0
  | some (_, p) => p
def bH : Option (Nat × Nat) → Bool
  | none => false
  | some _ => true
abbrev PS (l : List Tok) (a o : Nat) (b : Option (Nat × Nat)) : Ent := PB l a o (bE b) (bH b) (bP b)
structure ChS where
  n : Nd
  a : Nat
  o : Nat
  b : Option (Nat × Nat)
  f : Nat
/-- What a chain comes to from a state. -/
def chS (l : List Tok) (S : Gr) (s1 : List UInt8) (x : Nat) (s2 : List UInt8) (y : Nat) (q : ChS) : Res := match q.b with
  | none => chainG l S s1 x s2 y q.f q.n q.a q.o
  | some (e, p) => .bad e p q.n q.a q.o
/-- A node's own variable, empty. -/
abbrev NZ : Ent := .box 40 [.c (.val (.int .i64 0)), .c (.val (.string ByteArray.empty)), .c (.val (.slice none 0 0))]
def chI (f : FuncId) (s1 : List UInt8) (x : Nat) (s2 : List UInt8) (y : Nat) : List (Nat × AV) := [(0, .ptr 29 0), (1, bnA f), (2, .v (str s1)), (3, .v (.int .i64 (x : Int))), (4, .v (str s2)), (5, .v (.int .i64 (y : Int))), (12, .ptr 12 0), (13, .ptr 13 0)]
theorem retCR {P : Program} {C : Ctx} {st : St} {rv : ResultVar} {n : Nd} {l : List (Nat × Slot)} (h : ResOK P st rv (.agg (ndA n))) (hh : HpIs st l) : RetF C P [rv] ⟨rNd n, l⟩ st := retNd h (AV0.imp.refl _) hh
def Res.nd : Res → Nd
  | .ok n _ => n
  | .bad _ _ n _ _ => n
def Res.pl : Res → Nat
  | .ok _ a => a
  | .bad _ _ _ a _ => a
def Res.op (o : Nat) : Res → Nat
  | .ok _ _ => o
  | .bad _ _ _ _ o' => o'
def Res.er : Res → Option (Nat × Nat)
  | .ok _ _ => none
  | .bad e p _ _ _ => some (e, p)
theorem CR.of {res : Nd → AV} {f : FuncId} {args : List AV} {ex : List (Nat × Ent)} {l : List Tok} {a o : Nat} {r : Res} (h : CallOK Tryd.prog f args ((29, PG l a o) :: ex) ⟨res r.nd, (29, .ent (PS l r.pl (r.op o) r.er)) :: ex.map fun p => (p.1, .ent p.2)⟩) : CR res f args ex l a o r := by
  cases r <;> exact h
abbrev caN (n : Nd) : List CA := [.val (.int .i64 (n.op : Int)), .val (str n.text), .sat (rowR 3 ndC n.kids)]
theorem nb_two (x : Nat) (n k : Nd) : Ent.box 40 [.c (.val (.int .i64 (x : Int))), .c (.val (.string ByteArray.empty)), .c (.sat (sliceR 3 2 (caN n ++ caN k)))] = NB (.mk x [] [n, k]) := by
  show _ = Ent.box _ [_, _, .c (.sat (sliceR 3 2 ([n, k].flatMap ndC)))]
  rw [show [n, k].flatMap ndC = caN n ++ caN k by simp only [List.flatMap_cons, List.flatMap_nil, ndC_eq', List.append_nil]]
  rfl
theorem c_chain {f : FuncId} {l : List Tok} {m : Nat} {S : Gr} {s1 s2 : List UInt8} {x y : Nat} (hl : l.length ≤ 1000000) (hs : GOK f l m S) (hA : Adv 1 l m S) {a o : Nat} (hm : m ≤ a) (ha : a ≤ l.length) (ho : o ≤ 600) :
    CR rNd 64 [.ptr 29 0, bnA f, .v (str s1), .v (.int .i64 (x : Int)), .v (str s2), .v (.int .i64 (y : Int))] [] l a o (chnF l S s1 x s2 y a o) := by
  have h1 := hs a o hm ha ho
  have h2 := hA a o hm ha
  unfold chnF
  cases hr : S a o with
  | bad e p n a' o' =>
    rw [hr] at h1
    have c1 := h1.bad
    have c2 := c_takeE l a' o' e p s1
    have c3 := c_takeE l a' o' e p s2
    show CallOK _ _ _ _ _
    refine CallOK.fnF Tryd.func64 Tryd.results64 Tryd.ntmps64 rfl rfl rfl rfl (fun w0 T B E0 hB => ?_)
    refine SX.goP ?_
    refine W.loop (fun _ : Unit => True) (fun _ => chI f s1 x s2 y) (fun _ => [(29, PE l a' o' e p), (12, NZ), (13, NB n)]) (fun _ => 0) () trivial (fun _ _ => ?_)
    refine SX.goP ?_
    exact retNd (ResOK.agg3 rfl rfl rfl) (AV0.imp.refl _) ⟨rfl, trivial⟩
  | ok n a' =>
    rw [hr] at h1 h2
    have c1 := h1.ok
    obtain ⟨g1, g2, g3⟩ := h2
    have g4 := cnt_pos n
    dsimp only
    generalize hR : chainG l S s1 x s2 y (l.length + 1) n a' o = R
    refine CR.of ?_
    refine CallOK.fnF Tryd.func64 Tryd.results64 Tryd.ntmps64 rfl rfl rfl rfl (fun w0 T B E0 hB => ?_)
    refine SX.goP ?_
    refine W.loop (fun q : ChS => chS l S s1 x s2 y q = R ∧ (q.b = none → q.o = o ∧ m ≤ q.a ∧ q.a ≤ l.length ∧ l.length < q.a + q.f)) (fun _ => chI f s1 x s2 y) (fun q => [(29, PS l q.a q.o q.b), (12, NZ), (13, NB q.n)]) (fun q => match q.b with | none => l.length + 1 - q.a | some _ => 0) ⟨n, a', o, none, l.length + 1⟩ ⟨hR, fun _ => by dsimp only; exact ⟨rfl, by omega, by omega, by omega⟩⟩ (fun q hq => ?_)
    obtain ⟨qn, qa, qo, qb, qf⟩ := q
    obtain ⟨hq1, hq2⟩ := hq
    dsimp only at hq1 hq2
    cases qb with
    | some b =>
      obtain ⟨e, p⟩ := b
      have c2 := c_takeE l qa qo e p s1
      have c3 := c_takeE l qa qo e p s2
      refine SX.goP ?_
      subst hq1
      exact retNd (ResOK.agg3 rfl rfl rfl) (AV0.imp.refl _) ⟨rfl, trivial⟩
    | none =>
      obtain ⟨rfl, b1, b2, b3⟩ := hq2 rfl
      obtain ⟨qf, rfl⟩ : ∃ k, qf = k + 1 := ⟨qf - 1, by omega⟩
      have hq1 : chainG l S s1 x s2 y (qf + 1) qn qa qo = R := hq1
      unfold chainG at hq1
      cases ht : isS l qa s1 with
      | true =>
        have c2 := c_takeT qo hl ht
        have g5 := isS_lt ht
        have h3 := hs (qa + 1) qo (by omega) (by omega) ho
        have h4 := hA (qa + 1) qo (by omega) (by omega)
        rw [if_pos ht] at hq1
        cases hr2 : S (qa + 1) qo with
        | bad e p k a2 o2 =>
          rw [hr2] at h3 hq1
          have c3 := h3.bad
          refine SX.goP ?_
          exact W.next ⟨.mk x [] [qn, k], a2, o2, some (e, p), 0⟩ ⟨hq1, fun h => by cases h⟩ (by dsimp only; omega) 
            (by
              apply SX.St.lt0
              · intro b h; exact SX.fixIs h
              · repeat (first | exact trivial | refine ⟨⟨_, rfl, SX.AVto.same rfl⟩, ?_⟩)
              · exact ⟨SX.EntTo.eq rfl rfl rfl, SX.EntTo.same rfl rfl, SX.EntTo.eq rfl (nb_two _ _ _) rfl, trivial⟩
              · rfl)
        | ok k a2 =>
          rw [hr2] at h3 hq1 h4
          have c3 := h3.ok
          obtain ⟨j1, j2, j3⟩ := h4
          refine SX.goP ?_
          exact W.next ⟨.mk x [] [qn, k], a2, qo, none, qf⟩ ⟨hq1, fun h => by dsimp only; exact ⟨rfl, by omega, by omega, by omega⟩⟩ (by dsimp only; omega)
            (by
              apply SX.St.lt0
              · intro b h; exact SX.fixIs h
              · repeat (first | exact trivial | refine ⟨⟨_, rfl, SX.AVto.same rfl⟩, ?_⟩)
              · exact ⟨SX.EntTo.eq rfl rfl rfl, SX.EntTo.same rfl rfl, SX.EntTo.eq rfl (nb_two _ _ _) rfl, trivial⟩
              · rfl)
      | false =>
        have c2 := c_takeF qo ht
        rw [if_neg (by rw [ht]; decide)] at hq1
        cases ht2 : isS l qa s2 with
        | true =>
          have c4 := c_takeT qo hl ht2
          have g5 := isS_lt ht2
          have h3 := hs (qa + 1) qo (by omega) (by omega) ho
          have h4 := hA (qa + 1) qo (by omega) (by omega)
          rw [if_pos ht2] at hq1
          cases hr2 : S (qa + 1) qo with
          | bad e p k a2 o2 =>
            rw [hr2] at h3 hq1
            have c3 := h3.bad
            refine SX.goP ?_
            exact W.next ⟨.mk y [] [qn, k], a2, o2, some (e, p), 0⟩ ⟨hq1, fun h => by cases h⟩ (by dsimp only; omega)
              (by
                apply SX.St.lt0
                · intro b h; exact SX.fixIs h
                · repeat (first | exact trivial | refine ⟨⟨_, rfl, SX.AVto.same rfl⟩, ?_⟩)
                · exact ⟨SX.EntTo.eq rfl rfl rfl, SX.EntTo.same rfl rfl, SX.EntTo.eq rfl (nb_two _ _ _) rfl, trivial⟩
                · rfl)
          | ok k a2 =>
            rw [hr2] at h3 hq1 h4
            have c3 := h3.ok
            obtain ⟨j1, j2, j3⟩ := h4
            refine SX.goP ?_
            exact W.next ⟨.mk y [] [qn, k], a2, qo, none, qf⟩ ⟨hq1, fun h => by dsimp only; exact ⟨rfl, by omega, by omega, by omega⟩⟩ (by dsimp only; omega)
              (by
                apply SX.St.lt0
                · intro b h; exact SX.fixIs h
                · repeat (first | exact trivial | refine ⟨⟨_, rfl, SX.AVto.same rfl⟩, ?_⟩)
                · exact ⟨SX.EntTo.eq rfl rfl rfl, SX.EntTo.same rfl rfl, SX.EntTo.eq rfl (nb_two _ _ _) rfl, trivial⟩
                · rfl)
        | false =>
          have c4 := c_takeF qo ht2
          rw [if_neg (by rw [ht2]; decide)] at hq1
          refine SX.goP ?_
          subst hq1
          exact retNd (ResOK.agg3 rfl rfl rfl) (AV0.imp.refl _) ⟨rfl, trivial⟩
end Go.Proofs.YtlojipipibebaaaDoor
/- Package parser in the symbolic run: products, sums, expressions. -/
set_option linter.unusedVariables false
set_option linter.unusedSimpArgs false
namespace Go.Proofs.YtlojipipibebaaaDoor
open Go.RowKit SX
attribute [local irreducible] IntKind.wrap Go1 Reg WP thenK inBlk retQ retF RetF RetOK ResOK CallOK OpOK Sat
theorem ge_chain {f : FuncId} {l : List Tok} {s1 s2 : List UInt8} {x y : Nat} (hs : GE f l) (a o e p : Nat) :
    CallOK Tryd.prog 64 [.ptr 29 0, bnA f, .v (str s1), .v (.int .i64 (x : Int)), .v (str s2), .v (.int .i64 (y : Int))] [(29, PE l a o e p)] ⟨rNd nd0, [(29, .ent (PE l a o e p))]⟩ := by
  have c1 := hs a o e p
  have c2 := c_takeE l a o e p s1
  have c3 := c_takeE l a o e p s2
  refine CallOK.fnF Tryd.func64 Tryd.results64 Tryd.ntmps64 rfl rfl rfl rfl (fun w0 T B E0 hB => ?_)
  refine SX.goP ?_
  refine W.loop (fun _ : Unit => True) (fun _ => chI f s1 x s2 y) (fun _ => [(29, PE l a o e p), (12, NZ), (13, NB nd0)]) (fun _ => 0) () trivial (fun _ _ => ?_)
  refine SX.goP ?_
  exact retNd (ResOK.agg3 rfl rfl rfl) (AV0.imp.refl _) ⟨rfl, trivial⟩
theorem g_prod {l : List Tok} {m : Nat} {U : Gr} (hl : l.length ≤ 1000000) (hs : GOK 75 l m U) (hA : Adv 1 l m U) : GOK 65 l m (prodG l U) := by
  intro a o hm ha ho
  have h1 : CR rNd 64 [.ptr 29 0, bnA 75, .v (str [42]), .v (.int .i64 6), .v (str [47]), .v (.int .i64 7)] [] l a o (prodG l U a o) := c_chain hl hs hA hm ha ho
  cases hr : prodG l U a o with
  | bad e p n a' o' =>
    rw [hr] at h1
    have c1 := h1.bad
    show CallOK _ _ _ _ _
    refine CallOK.fnF Tryd.func65 Tryd.results65 Tryd.ntmps65 rfl rfl rfl rfl (fun w0 T B E0 hB => ?_)
    refine SX.goP ?_
    exact retNd (ResOK.agg3 rfl rfl rfl) (AV0.imp.refl _) ⟨rfl, trivial⟩
  | ok n a' =>
    rw [hr] at h1
    have c1 := h1.ok
    show CallOK _ _ _ _ _
    refine CallOK.fnF Tryd.func65 Tryd.results65 Tryd.ntmps65 rfl rfl rfl rfl (fun w0 T B E0 hB => ?_)
    refine SX.goP ?_
    exact retNd (ResOK.agg3 rfl rfl rfl) (AV0.imp.refl _) ⟨rfl, trivial⟩
theorem ge_prod {l : List Tok} (hs : GE 75 l) : GE 65 l := by
  intro a o e p
  have c1 : CallOK Tryd.prog 64 [.ptr 29 0, bnA 75, .v (str [42]), .v (.int .i64 6), .v (str [47]), .v (.int .i64 7)] [(29, PE l a o e p)] ⟨rNd nd0, [(29, .ent (PE l a o e p))]⟩ := ge_chain hs a o e p
  refine CallOK.fnF Tryd.func65 Tryd.results65 Tryd.ntmps65 rfl rfl rfl rfl (fun w0 T B E0 hB => ?_)
  refine SX.goP ?_
  exact retNd (ResOK.agg3 rfl rfl rfl) (AV0.imp.refl _) ⟨rfl, trivial⟩
theorem g_sum {l : List Tok} {m : Nat} {U : Gr} (hl : l.length ≤ 1000000) (hs : GOK 65 l m (prodG l U)) (hA : Adv 1 l m U) : GOK 54 l m (sumG l U) := by
  intro a o hm ha ho
  have h1 : CR rNd 64 [.ptr 29 0, bnA 65, .v (str [43]), .v (.int .i64 4), .v (str [45]), .v (.int .i64 5)] [] l a o (sumG l U a o) := c_chain hl hs (adv_chnF hA) hm ha ho
  cases hr : sumG l U a o with
  | bad e p n a' o' =>
    rw [hr] at h1
    have c1 := h1.bad
    show CallOK _ _ _ _ _
    refine CallOK.fnF Tryd.func54 Tryd.results54 Tryd.ntmps54 rfl rfl rfl rfl (fun w0 T B E0 hB => ?_)
    refine SX.goP ?_
    exact retNd (ResOK.agg3 rfl rfl rfl) (AV0.imp.refl _) ⟨rfl, trivial⟩
  | ok n a' =>
    rw [hr] at h1
    have c1 := h1.ok
    show CallOK _ _ _ _ _
    refine CallOK.fnF Tryd.func54 Tryd.results54 Tryd.ntmps54 rfl rfl rfl rfl (fun w0 T B E0 hB => ?_)
    refine SX.goP ?_
    exact retNd (ResOK.agg3 rfl rfl rfl) (AV0.imp.refl _) ⟨rfl, trivial⟩
theorem ge_sum {l : List Tok} (hs : GE 65 l) : GE 54 l := by
  intro a o e p
  have c1 : CallOK Tryd.prog 64 [.ptr 29 0, bnA 65, .v (str [43]), .v (.int .i64 4), .v (str [45]), .v (.int .i64 5)] [(29, PE l a o e p)] ⟨rNd nd0, [(29, .ent (PE l a o e p))]⟩ := ge_chain hs a o e p
  refine CallOK.fnF Tryd.func54 Tryd.results54 Tryd.ntmps54 rfl rfl rfl rfl (fun w0 T B E0 hB => ?_)
  refine SX.goP ?_
  exact retNd (ResOK.agg3 rfl rfl rfl) (AV0.imp.refl _) ⟨rfl, trivial⟩
def sgn : Nat → List UInt8
  | 0 => [61, 61]
  | 1 => [33, 61]
  | 2 => [60]
  | _ => [60, 61]
/-- What the loop over the signs finds in its temporaries. -/
def exI (i : Nat) : List (Nat × AV) := [(0, .ptr 29 0), (2, .ptr 2 0), (3, .ptr 3 0), (8, .agg [.c (.val (str [61, 61])), .c (.val (str [33, 61])), .c (.val (str [60])), .c (.val (str [60, 61]))]), (9, .v (.int .i64 (i : Int)))]
theorem ge_exp {l : List Tok} (hs : GE 54 l) : GE 38 l := by
  intro a o e p
  have c1 := hs a o e p
  have k0 := c_takeE l a o e p [61, 61]
  have k1 := c_takeE l a o e p [33, 61]
  have k2 := c_takeE l a o e p [60]
  have k3 := c_takeE l a o e p [60, 61]
  refine CallOK.fnF Tryd.func38 Tryd.results38 Tryd.ntmps38 rfl rfl rfl rfl (fun w0 T B E0 hB => ?_)
  refine SX.goP ?_
  refine W.loop (fun i => i ≤ 4) exI (fun _ => [(29, PE l a o e p), (2, NZ), (3, NB nd0)]) (fun i => 4 - i) 0 (by omega) (fun i hi => ?_)
  match i, hi with
  | 0, _ =>
    refine SX.goP ?_
    exact W.next 1 (by omega) (by omega)
  | 1, _ =>
    refine SX.goP ?_
    exact W.next 2 (by omega) (by omega)
  | 2, _ =>
    refine SX.goP ?_
    exact W.next 3 (by omega) (by omega)
  | 3, _ =>
    refine SX.goP ?_
    exact W.next 4 (by omega) (by omega)
  | 4, _ =>
    refine SX.goP ?_
    exact retNd (ResOK.agg3 rfl rfl rfl) (AV0.imp.refl _) ⟨rfl, trivial⟩
  | i + 5, h => omega
/-- What is left of an expression's rule when so many signs are left to be tried. -/
def exT (l : List Tok) (U : Gr) (n : Nd) (a o : Nat) : Nat → Res
  | 0 => .ok n a
  | k + 1 => if isS l a (sgn (3 - k)) then mapR (fun m => .mk ((12 - k : Nat) : Int) [] [n, m]) (sumG l U (a + 1) o) else exT l U n a o k
theorem exT_t {l : List Tok} {U : Gr} {n : Nd} {a o k : Nat} {R : Res} {s : List UInt8} (h : exT l U n a o (k + 1) = R) (hs : sgn (3 - k) = s) (ht : isS l a s = true) : mapR (fun m => .mk ((12 - k : Nat) : Int) [] [n, m]) (sumG l U (a + 1) o) = R := by
  subst hs; unfold exT at h; rwa [if_pos ht] at h
theorem exT_f {l : List Tok} {U : Gr} {n : Nd} {a o k : Nat} {R : Res} {s : List UInt8} (h : exT l U n a o (k + 1) = R) (hs : sgn (3 - k) = s) (ht : isS l a s = false) : exT l U n a o k = R := by
  subst hs; unfold exT at h; rwa [if_neg (by rw [ht]; decide)] at h
theorem g_exp {l : List Tok} {m : Nat} {U : Gr} (hl : l.length ≤ 1000000) (hs : GOK 54 l m (sumG l U)) (hA : Adv 1 l m U) : GOK 38 l m (expG l U) := by
  intro a o hm ha ho
  have h1 := hs a o hm ha ho
  have h2 := adv_sum hA a o hm ha
  unfold expG
  cases hr : sumG l U a o with
  | bad e p n a' o' =>
    rw [hr] at h1
    have c1 := h1.bad
    show CallOK _ _ _ _ _
    have k0 := c_takeE l a' o' e p [61, 61]
    have k1 := c_takeE l a' o' e p [33, 61]
    have k2 := c_takeE l a' o' e p [60]
    have k3 := c_takeE l a' o' e p [60, 61]
    refine CallOK.fnF Tryd.func38 Tryd.results38 Tryd.ntmps38 rfl rfl rfl rfl (fun w0 T B E0 hB => ?_)
    refine SX.goP ?_
    refine W.loop (fun i => i ≤ 4) exI (fun _ => [(29, PE l a' o' e p), (2, NZ), (3, NB n)]) (fun i => 4 - i) 0 (by omega) (fun i hi => ?_)
    match i, hi with
    | 0, _ =>
      refine SX.goP ?_
      exact W.next 1 (by omega) (by omega)
    | 1, _ =>
      refine SX.goP ?_
      exact W.next 2 (by omega) (by omega)
    | 2, _ =>
      refine SX.goP ?_
      exact W.next 3 (by omega) (by omega)
    | 3, _ =>
      refine SX.goP ?_
      exact W.next 4 (by omega) (by omega)
    | 4, _ =>
      refine SX.goP ?_
      exact retNd (ResOK.agg3 rfl rfl rfl) (AV0.imp.refl _) ⟨rfl, trivial⟩
    | i + 5, h => omega
  | ok n a' =>
    rw [hr] at h1 h2
    have c1 := h1.ok
    obtain ⟨g1, g2, g3⟩ := h2
    have key : ∀ R, exT l U n a' o 4 = R → CR rNd 38 [.ptr 29 0] [] l a o R := by
      intro R hR
      refine CR.of ?_
      refine CallOK.fnF Tryd.func38 Tryd.results38 Tryd.ntmps38 rfl rfl rfl rfl (fun w0 T B E0 hB => ?_)
      refine SX.goP ?_
      refine W.loop (fun i => i ≤ 4 ∧ exT l U n a' o (4 - i) = R) exI (fun _ => [(29, PG l a' o), (2, NZ), (3, NB n)]) (fun i => 4 - i) 0 ⟨by omega, hR⟩ (fun i hi => ?_)
      match i, hi with
      | 0, ⟨_, hq⟩ =>
        have hq : exT l U n a' o (3 + 1) = R := hq
        cases ht : isS l a' [61, 61] with
        | true =>
          have hq := exT_t hq rfl ht
          have k0 := c_takeT o hl ht
          have g5 := isS_lt ht
          have h3 := hs (a' + 1) o (by omega) (by omega) ho
          cases hr2 : sumG l U (a' + 1) o with
          | bad e p k a2 o2 =>
            rw [hr2] at h3 hq
            have c3 := h3.bad
            refine SX.goP ?_
            subst hq
            exact retNd (ResOK.agg3 rfl rfl rfl) (imp_ndk rfl rfl rfl (by first | (simp only [List.flatMap_cons, List.flatMap_nil, ndC_eq', List.append_nil]; done) | (simp only [List.flatMap_cons, List.flatMap_nil, ndC_eq', List.append_nil]; rfl))) ⟨rfl, trivial⟩
          | ok k a2 =>
            rw [hr2] at h3 hq
            have c3 := h3.ok
            refine SX.goP ?_
            subst hq
            exact retNd (ResOK.agg3 rfl rfl rfl) (imp_ndk rfl rfl rfl (by first | (simp only [List.flatMap_cons, List.flatMap_nil, ndC_eq', List.append_nil]; done) | (simp only [List.flatMap_cons, List.flatMap_nil, ndC_eq', List.append_nil]; rfl))) ⟨rfl, trivial⟩
        | false =>
          have hq := exT_f hq rfl ht
          have k0 := c_takeF o ht
          refine SX.goP ?_
          exact W.next 1 ⟨by omega, hq⟩ (by omega)
      | 1, ⟨_, hq⟩ =>
        have hq : exT l U n a' o (2 + 1) = R := hq
        cases ht : isS l a' [33, 61] with
        | true =>
          have hq := exT_t hq rfl ht
          have k0 := c_takeT o hl ht
          have g5 := isS_lt ht
          have h3 := hs (a' + 1) o (by omega) (by omega) ho
          cases hr2 : sumG l U (a' + 1) o with
          | bad e p k a2 o2 =>
            rw [hr2] at h3 hq
            have c3 := h3.bad
            refine SX.goP ?_
            subst hq
            exact retNd (ResOK.agg3 rfl rfl rfl) (imp_ndk rfl rfl rfl (by first | (simp only [List.flatMap_cons, List.flatMap_nil, ndC_eq', List.append_nil]; done) | (simp only [List.flatMap_cons, List.flatMap_nil, ndC_eq', List.append_nil]; rfl))) ⟨rfl, trivial⟩
          | ok k a2 =>
            rw [hr2] at h3 hq
            have c3 := h3.ok
            refine SX.goP ?_
            subst hq
            exact retNd (ResOK.agg3 rfl rfl rfl) (imp_ndk rfl rfl rfl (by first | (simp only [List.flatMap_cons, List.flatMap_nil, ndC_eq', List.append_nil]; done) | (simp only [List.flatMap_cons, List.flatMap_nil, ndC_eq', List.append_nil]; rfl))) ⟨rfl, trivial⟩
        | false =>
          have hq := exT_f hq rfl ht
          have k0 := c_takeF o ht
          refine SX.goP ?_
          exact W.next 2 ⟨by omega, hq⟩ (by omega)
      | 2, ⟨_, hq⟩ =>
        have hq : exT l U n a' o (1 + 1) = R := hq
        cases ht : isS l a' [60] with
        | true =>
          have hq := exT_t hq rfl ht
          have k0 := c_takeT o hl ht
          have g5 := isS_lt ht
          have h3 := hs (a' + 1) o (by omega) (by omega) ho
          cases hr2 : sumG l U (a' + 1) o with
          | bad e p k a2 o2 =>
            rw [hr2] at h3 hq
            have c3 := h3.bad
            refine SX.goP ?_
            subst hq
            exact retNd (ResOK.agg3 rfl rfl rfl) (imp_ndk rfl rfl rfl (by first | (simp only [List.flatMap_cons, List.flatMap_nil, ndC_eq', List.append_nil]; done) | (simp only [List.flatMap_cons, List.flatMap_nil, ndC_eq', List.append_nil]; rfl))) ⟨rfl, trivial⟩
          | ok k a2 =>
            rw [hr2] at h3 hq
            have c3 := h3.ok
            refine SX.goP ?_
            subst hq
            exact retNd (ResOK.agg3 rfl rfl rfl) (imp_ndk rfl rfl rfl (by first | (simp only [List.flatMap_cons, List.flatMap_nil, ndC_eq', List.append_nil]; done) | (simp only [List.flatMap_cons, List.flatMap_nil, ndC_eq', List.append_nil]; rfl))) ⟨rfl, trivial⟩
        | false =>
          have hq := exT_f hq rfl ht
          have k0 := c_takeF o ht
          refine SX.goP ?_
          exact W.next 3 ⟨by omega, hq⟩ (by omega)
      | 3, ⟨_, hq⟩ =>
        have hq : exT l U n a' o (0 + 1) = R := hq
        cases ht : isS l a' [60, 61] with
        | true =>
          have hq := exT_t hq rfl ht
          have k0 := c_takeT o hl ht
          have g5 := isS_lt ht
          have h3 := hs (a' + 1) o (by omega) (by omega) ho
          cases hr2 : sumG l U (a' + 1) o with
          | bad e p k a2 o2 =>
            rw [hr2] at h3 hq
            have c3 := h3.bad
            refine SX.goP ?_
            subst hq
            exact retNd (ResOK.agg3 rfl rfl rfl) (imp_ndk rfl rfl rfl (by first | (simp only [List.flatMap_cons, List.flatMap_nil, ndC_eq', List.append_nil]; done) | (simp only [List.flatMap_cons, List.flatMap_nil, ndC_eq', List.append_nil]; rfl))) ⟨rfl, trivial⟩
          | ok k a2 =>
            rw [hr2] at h3 hq
            have c3 := h3.ok
            refine SX.goP ?_
            subst hq
            exact retNd (ResOK.agg3 rfl rfl rfl) (imp_ndk rfl rfl rfl (by first | (simp only [List.flatMap_cons, List.flatMap_nil, ndC_eq', List.append_nil]; done) | (simp only [List.flatMap_cons, List.flatMap_nil, ndC_eq', List.append_nil]; rfl))) ⟨rfl, trivial⟩
        | false =>
          have hq := exT_f hq rfl ht
          have k0 := c_takeF o ht
          refine SX.goP ?_
          exact W.next 4 ⟨by omega, hq⟩ (by omega)
      | 4, ⟨_, hq⟩ =>
        refine SX.goP ?_
        subst hq
        exact retNd (ResOK.agg3 rfl rfl rfl) (AV0.imp.refl _) ⟨rfl, trivial⟩
      | i + 5, ⟨h, _⟩ => omega
    exact key _ rfl
end Go.Proofs.YtlojipipibebaaaDoor
/- Package parser in the symbolic run: lists, matrices. -/
set_option linter.unusedVariables false
set_option linter.unusedSimpArgs false
namespace Go.Proofs.YtlojipipibebaaaDoor
open Go.RowKit SX
attribute [local irreducible] IntKind.wrap Go1 Reg WP thenK inBlk retQ retF RetF RetOK ResOK CallOK OpOK Sat
theorem retKs {P : Program} {C : Ctx} {st : St} {t : Tmp} {l : List (Nat × Slot)} {n : Nat} {cells : List CA} {ks : List Nd} (hh : HpIs st l) (h : st.tm t = some (.r (sliceR 3 n cells)) := by rfl) (hn : n = ks.length := by first | rfl | (simp [Res.nd, Nd.kids]; done)) (hc : cells = ks.flatMap ndC := by first | rfl | exact flat_snoc (ndC_eq' _).symm) : RetF C P [.tmp t] ⟨.r (rowR 3 ndC ks), l⟩ st := by
  subst hn hc
  exact retP (xs := [.one (.c (.sat (rowR 3 ndC ks)))]) ⟨ResOK.tmp h, trivial⟩ hh
theorem retK0 {P : Program} {C : Ctx} {st : St} {t : Tmp} {l : List (Nat × Slot)} (hh : HpIs st l) (h : st.tm t = some (.v (.slice none 0 0)) := by rfl) : RetF C P [.tmp t] ⟨.r (rowR 3 ndC []), l⟩ st :=
  retP (xs := [.one (.c (.sat (rowR 3 ndC [])))]) ⟨(ResOK.tmp h).imp imp_nil, trivial⟩ hh
structure LiS where
  ks : List Nd
  a : Nat
  o : Nat
  b : Option (Nat × Nat)
  f : Nat
def liS (l : List Tok) (X : Gr) (e : List UInt8) (q : LiS) : Res := match q.b with
  | none => listG l X e q.f q.ks q.a q.o
  | some (e, p) => .bad e p (.mk 0 [] q.ks) q.a q.o
abbrev NR (ks : List Nd) : Ent := .row 40 3 ks.length (ks.flatMap ndC)
theorem g_list {l : List Tok} {m : Nat} {X : Gr} {e : List UInt8} (hl : l.length ≤ 1000000) (hs : GOK 38 l m X) (hA : Adv 1 l m X) {a o : Nat} (hm : m ≤ a) (ha : a ≤ l.length) (ho : o ≤ 600) :
    CR rKs 91 [.ptr 29 0, .v (str e)] [] l a o (listE l X e a o) := by
  unfold listE
  cases h0 : isS l a e with
  | true =>
    rw [if_pos rfl]
    have c0 := c_takeT o hl h0
    show CallOK _ _ _ _ _
    refine CallOK.fnF Tryd.func91 Tryd.results91 Tryd.ntmps91 rfl rfl rfl rfl (fun w0 T B E0 hB => ?_)
    refine SX.goP ?_
    exact retK0 ⟨rfl, trivial⟩
  | false =>
    rw [if_neg (by decide)]
    have c0 := c_takeF o h0
    generalize hR : listG l X e (l.length + 1) [] a o = R
    refine CR.of ?_
    refine CallOK.fnF Tryd.func91 Tryd.results91 Tryd.ntmps91 rfl rfl rfl rfl (fun w0 T B E0 hB => ?_)
    refine SX.goP ?_
    refine W.loop (fun q : LiS => liS l X e q = R ∧ (q.b = none → q.o = o ∧ m ≤ q.a ∧ q.a ≤ l.length ∧ l.length < q.a + q.f ∧ q.ks.length ≤ q.a)) (fun _ => [(0, .ptr 29 0), (1, .v (str e)), (5, .own 100)]) (fun q => [(29, PS l q.a q.o q.b), (100, NR q.ks)]) (fun q => match q.b with | none => l.length + 1 - q.a | some _ => 0) ⟨[], a, o, none, l.length + 1⟩ ⟨hR, fun _ => by dsimp only; exact ⟨rfl, by omega, by omega, by omega, Nat.zero_le _⟩⟩ (fun q hq => ?_)
    obtain ⟨qk, qa, qo, qb, qf⟩ := q
    obtain ⟨hq1, hq2⟩ := hq
    dsimp only at hq1 hq2
    cases qb with
    | some b =>
      obtain ⟨ee, p⟩ := b
      show WP _ _ _ (mkSt [(0, .ptr 29 0), (1, .v (str e)), (5, .own 100)] [(29, PE l qa qo ee p), (100, NR qk)]) _
      refine SX.goP ?_
      subst hq1
      refine RetF.frzP 100 (ps := [29]) ?_
      exact retKs ⟨rfl, trivial⟩
    | none =>
      obtain ⟨rfl, b1, b2, b3, b4⟩ := hq2 rfl
      obtain ⟨qf, rfl⟩ : ∃ k, qf = k + 1 := ⟨qf - 1, by omega⟩
      show WP _ _ _ (mkSt [(0, .ptr 29 0), (1, .v (str e)), (5, .own 100)] [(29, PG l qa qo), (100, NR qk)]) _
      have hq1 : listG l X e (qf + 1) qk qa qo = R := hq1
      unfold listG at hq1
      have h3 := hs qa qo (by omega) (by omega) ho
      have h4 := hA qa qo (by omega) (by omega)
      cases hr2 : X qa qo with
      | bad c p k a2 o2 =>
        rw [hr2] at h3 hq1
        have c3 := h3.bad
        have c4 := c_takeE l a2 o2 c p e
        have c5 := c_mustE l a2 o2 c p [44]
        refine SX.goP ?_
        exact W.next ⟨qk ++ [k], a2, o2, some (c, p), 0⟩ ⟨hq1, fun h => by cases h⟩ (by dsimp only; omega)
          (by
            apply SX.St.lt1
            · intro b h; exact SX.fixIs h
            · repeat (first | exact trivial | refine ⟨⟨_, rfl, SX.AVto.same rfl⟩, ?_⟩ | refine ⟨⟨_, rfl, SX.AVto.own rfl⟩, ?_⟩)
            · exact ⟨SX.EntTo.eq rfl rfl rfl, SX.EntTo.row rfl rfl (by simp) (flat_snoc (ndC_eq' _).symm), trivial⟩
            · rfl)
      | ok k a2 =>
        rw [hr2] at h3 hq1 h4
        have c3 := h3.ok
        obtain ⟨j1, j2, j3⟩ := h4
        have j4 := cnt_pos k
        dsimp only at hq1
        cases ht : isS l a2 e with
        | true =>
          have c4 := c_takeT qo hl ht
          rw [if_pos ht] at hq1
          refine SX.goP ?_
          subst hq1
          refine RetF.frzP 18 (ps := [29]) ?_
          exact retKs ⟨rfl, trivial⟩
        | false =>
          have c4 := c_takeF qo ht
          rw [if_neg (by rw [ht]; decide)] at hq1
          cases ht2 : isS l a2 [44] with
          | true =>
            have c5 := c_mustT qo hl ht2
            have g5 := isS_lt ht2
            rw [if_pos ht2] at hq1
            refine SX.goP ?_
            exact W.next ⟨qk ++ [k], a2 + 1, qo, none, qf⟩ ⟨hq1, fun h => by dsimp only; exact ⟨rfl, by omega, by omega, by omega, by simp; omega⟩⟩ (by dsimp only; omega)
              (by
                apply SX.St.lt1
                · intro b h; exact SX.fixIs h
                · repeat (first | exact trivial | refine ⟨⟨_, rfl, SX.AVto.same rfl⟩, ?_⟩ | refine ⟨⟨_, rfl, SX.AVto.own rfl⟩, ?_⟩)
                · exact ⟨SX.EntTo.eq rfl rfl rfl, SX.EntTo.row rfl rfl (by simp) (flat_snoc (ndC_eq' _).symm), trivial⟩
                · rfl)
          | false =>
            have c5 := c_mustF qo ht2
            rw [if_neg (by rw [ht2]; decide)] at hq1
            refine SX.goP ?_
            exact W.next ⟨qk ++ [k], a2, qo, some (4, a2), 0⟩ ⟨hq1, fun h => by cases h⟩ (by dsimp only; omega)
              (by
                apply SX.St.lt1
                · intro b h; exact SX.fixIs h
                · repeat (first | exact trivial | refine ⟨⟨_, rfl, SX.AVto.same rfl⟩, ?_⟩ | refine ⟨⟨_, rfl, SX.AVto.own rfl⟩, ?_⟩)
                · exact ⟨SX.EntTo.eq rfl rfl rfl, SX.EntTo.row rfl rfl (by simp) (flat_snoc (ndC_eq' _).symm), trivial⟩
                · rfl)
end Go.Proofs.YtlojipipibebaaaDoor
/- Package parser in the symbolic run: matrices. -/
set_option linter.unusedVariables false
set_option linter.unusedSimpArgs false
namespace Go.Proofs.YtlojipipibebaaaDoor
open Go.RowKit SX
attribute [local irreducible] IntKind.wrap Go1 Reg WP thenK inBlk retQ retF RetF RetOK ResOK CallOK OpOK Sat
theorem EntTo.node {st : St} {ρ : List (Nat × Option Nat)} {b c : Nat} {x : Value} {s : Value} {o : Atom} (h : st.hp b = .ent (.box 40 [.c (.val x), .c (.val s), o])) (hf : fresh ρ [b] = true) (hi : AtomTo ρ o (.own c)) : EntTo st ρ b (.box 40 [.c (.val x), .c (.val s), .own c]) :=
  EntTo.boxTo h hf ⟨AtomTo.same rfl, AtomTo.same rfl, hi, trivial⟩
/-- A node whose kids grow. -/
abbrev NG (x : Int) (c : Nat) : Ent := .box 40 [.c (.val (.int .i64 x)), .c (.val (.string ByteArray.empty)), .own c]
structure MaS where
  rs : List Nd
  r : List Nd
  a : Nat
  f : Nat
theorem nd_rowS (r : List Nd) (k : Nd) : ([CA.val (.int .i64 15), .val (.string ByteArray.empty), .sat (sliceR 3 (r.length + 1) (r.flatMap ndC ++ caN k))] : List CA) = ndC (.mk 15 [] (r ++ [k])) := by
  rw [ndC_eq]
  show _ = [CA.val (.int .i64 15), .val (.string ByteArray.empty), .sat (sliceR 3 (r ++ [k]).length ((r ++ [k]).flatMap ndC))]
  rw [← flat_snoc (ndC_eq' k).symm, List.length_append]; rfl
theorem g_mat {l : List Tok} {m : Nat} {X : Gr} (hl : l.length ≤ 1000000) (hs : GOK 38 l m X) (hA : Adv 1 l m X) {a o : Nat} (hm : m ≤ a) (ha : a ≤ l.length) (ho : o ≤ 600) :
    CR rNd 93 [.ptr 29 0] [] l a o (matG l X (l.length + 1) [] [] a o) := by
  generalize hR : matG l X (l.length + 1) [] [] a o = R
  refine CR.of ?_
  refine CallOK.fnF Tryd.func93 Tryd.results93 Tryd.ntmps93 rfl rfl rfl rfl (fun w0 T B E0 hB => ?_)
  refine SX.goP ?_
  refine W.loop (fun q : MaS => matG l X q.f q.rs q.r q.a o = R ∧ m ≤ q.a ∧ q.a ≤ l.length ∧ l.length < q.a + q.f ∧ q.rs.length + q.r.length ≤ q.a) (fun _ => [(0, .ptr 29 0), (2, .ptr 2 0), (3, .ptr 3 0), (4, .ptr 4 0)]) (fun q => [(29, PG l q.a o), (2, NZ), (3, NG 14 100), (4, NG 15 101), (100, NR q.rs), (101, NR q.r)]) (fun q => l.length + 1 - q.a) ⟨[], [], a, l.length + 1⟩ ⟨hR, by dsimp only; exact ⟨by omega, by omega, by omega, Nat.zero_le _⟩⟩ (fun q hq => ?_)
    (by
      refine SX.St.le_to [(100, none), (101, none)] (by intro b h; exact SX.fixIs h rfl) ?_ ?_ rfl
      · repeat (first | exact trivial | refine ⟨⟨_, rfl, SX.AVto.same rfl⟩, ?_⟩)
      · exact ⟨SX.EntTo.same rfl rfl, SX.EntTo.same rfl rfl, EntTo.node rfl rfl (AtomTo.nil rfl), EntTo.node rfl rfl (AtomTo.nil rfl), SX.EntTo.nilRow rfl, SX.EntTo.nilRow rfl, trivial⟩)
  obtain ⟨rs, r, qa, qf⟩ := q
  dsimp only at hq
  obtain ⟨hq1, b1, b2, b3, b4⟩ := hq
  obtain ⟨qf, rfl⟩ : ∃ k, qf = k + 1 := ⟨qf - 1, by omega⟩
  unfold matG at hq1
  show WP _ _ _ (mkSt [(0, .ptr 29 0), (2, .ptr 2 0), (3, .ptr 3 0), (4, .ptr 4 0)] [(29, PG l qa o), (2, NZ), (3, NG 14 100), (4, NG 15 101), (100, NR rs), (101, NR r)]) _
  have h3 := hs qa o (by omega) (by omega) ho
  have h4 := hA qa o (by omega) (by omega)
  cases hr2 : X qa o with
  | bad c p k a2 o2 =>
    rw [hr2] at h3 hq1
    have c3 := h3.bad
    have c4 := c_takeE l a2 o2 c p [44]
    have c6 := c_mustE l a2 o2 c p [93]
    obtain ⟨bb, hbb⟩ : ∃ b, Hide (b = false) := ⟨_, ⟨rfl⟩⟩
    have c5 : CallOK Tryd.prog 37 [.ptr 29 0, .v (str [59])] [(29, PE l a2 o2 c p)] ⟨.v (.bool bb), [(29, .ent (PE l a2 o2 c p))]⟩ := by rw [hbb.out]; exact c_takeE l a2 o2 c p [59]
    refine SX.goP ?_
    refine WP.freezeP 17 (ps := [29]) hB rfl rfl ?_
    refine W.condF ?_ rfl hbb.out
    refine SX.goP ?_
    subst hq1
    refine RetF.frzP 25 (ps := [29]) ?_
    exact retNd (ResOK.agg3 rfl rfl rfl) (imp_ndk rfl rfl (by simp [Res.nd]) (flat_snoc (nd_rowS r k))) ⟨rfl, trivial⟩
  | ok k a2 =>
    rw [hr2] at h3 hq1 h4
    have c3 := h3.ok
    obtain ⟨j1, j2, j3⟩ := h4
    have j4 := cnt_pos k
    dsimp only at hq1
    cases ht : isS l a2 [44] with
    | true =>
      have c4 := c_takeT o hl ht
      have g5 := isS_lt ht
      rw [if_pos ht] at hq1
      refine SX.goP ?_
      exact W.next ⟨rs, r ++ [k], a2 + 1, qf⟩ ⟨hq1, by dsimp only; exact ⟨by omega, by omega, by omega, by simp; omega⟩⟩ (by dsimp only; omega)
        (by
          refine SX.St.le_to [(100, some 100), (101, some 17)] (by intro b h; exact SX.fixIs h rfl) ?_ ?_ rfl
          · repeat (first | exact trivial | refine ⟨⟨_, rfl, SX.AVto.same rfl⟩, ?_⟩)
          · exact ⟨SX.EntTo.eq rfl rfl rfl, SX.EntTo.same rfl rfl, EntTo.node rfl rfl (AtomTo.own rfl), EntTo.node rfl rfl (AtomTo.own rfl), SX.EntTo.row rfl rfl rfl rfl, SX.EntTo.row rfl rfl (by simp) (flat_snoc (ndC_eq' _).symm), trivial⟩)
    | false =>
      have c4 := c_takeF o ht
      rw [if_neg (by rw [ht]; decide)] at hq1
      cases ht2 : isS l a2 [59] with
      | true =>
        have g5 := isS_lt ht2
        rw [if_pos ht2] at hq1
        obtain ⟨bb, hbb⟩ : ∃ b, Hide (b = true) := ⟨_, ⟨rfl⟩⟩
        have c5 : CallOK Tryd.prog 37 [.ptr 29 0, .v (str [59])] [(29, PG l a2 o)] ⟨.v (.bool bb), [(29, .ent (PG l (a2 + 1) o))]⟩ := by rw [hbb.out]; exact c_takeT o hl ht2
        refine SX.goP ?_
        refine WP.freezeP 17 (ps := [29]) hB rfl rfl ?_
        refine W.condT ?_ rfl hbb.out
        refine SX.goP ?_
        exact W.next ⟨rs ++ [.mk 15 [] (r ++ [k])], [], a2 + 1, qf⟩ ⟨hq1, by dsimp only; exact ⟨by omega, by omega, by omega, by simp; omega⟩⟩ (by dsimp only; omega)
          (by
            refine SX.St.le_to [(100, some 38), (101, none)] (by intro b h; exact SX.fixIs h rfl) ?_ ?_ rfl
            · repeat (first | exact trivial | refine ⟨⟨_, rfl, SX.AVto.same rfl⟩, ?_⟩)
            · exact ⟨SX.EntTo.eq rfl rfl rfl, SX.EntTo.same rfl rfl, EntTo.node rfl rfl (AtomTo.own rfl), EntTo.node rfl rfl (AtomTo.nil rfl), SX.EntTo.row rfl rfl (by simp) (flat_snoc (nd_rowS r k)), SX.EntTo.nilRow rfl, trivial⟩)
      | false =>
        rw [if_neg (by rw [ht2]; decide)] at hq1
        obtain ⟨bb, hbb⟩ : ∃ b, Hide (b = false) := ⟨_, ⟨rfl⟩⟩
        have c5 : CallOK Tryd.prog 37 [.ptr 29 0, .v (str [59])] [(29, PG l a2 o)] ⟨.v (.bool bb), [(29, .ent (PG l a2 o))]⟩ := by rw [hbb.out]; exact c_takeF o ht2
        cases ht3 : isS l a2 [93] with
        | true =>
          rw [if_pos ht3] at hq1
          have c6 := c_mustT o hl ht3
          refine SX.goP ?_
          refine WP.freezeP 17 (ps := [29]) hB rfl rfl ?_
          refine W.condF ?_ rfl hbb.out
          refine SX.goP ?_
          subst hq1
          refine RetF.frzP 25 (ps := [29]) ?_
          exact retNd (ResOK.agg3 rfl rfl rfl) (imp_ndk rfl rfl (by simp [Res.nd]) (flat_snoc (nd_rowS r k))) ⟨rfl, trivial⟩
        | false =>
          rw [if_neg (by rw [ht3]; decide)] at hq1
          have c6 := c_mustF o ht3
          refine SX.goP ?_
          refine WP.freezeP 17 (ps := [29]) hB rfl rfl ?_
          refine W.condF ?_ rfl hbb.out
          refine SX.goP ?_
          subst hq1
          refine RetF.frzP 25 (ps := [29]) ?_
          exact retNd (ResOK.agg3 rfl rfl rfl) (imp_ndk rfl rfl (by simp [Res.nd]) (flat_snoc (nd_rowS r k))) ⟨rfl, trivial⟩
end Go.Proofs.YtlojipipibebaaaDoor
/- Package parser in the symbolic run: what binds most; items. -/
set_option linter.unusedVariables false
set_option linter.unusedSimpArgs false
namespace Go.Proofs.YtlojipipibebaaaDoor
open Go.RowKit SX
attribute [local irreducible] IntKind.wrap Go1 Reg WP thenK inBlk retQ retF RetF RetOK ResOK CallOK OpOK Sat
theorem g_par {l : List Tok} {m : Nat} {X : Gr} (hl : l.length ≤ 1000000) (hs : GOK 38 l m X) {a o : Nat} (hm : m ≤ a) (ha : a ≤ l.length) (ho : o ≤ 600) : CR rNd 92 [.ptr 81 0] [(81, PP)] l a o (thenS l (X a o) o [41]) := by
  have h3 := hs a o hm ha ho
  cases hr2 : X a o with
  | bad e p n2 a2 o2 =>
    rw [hr2] at h3
    have c3 := h3.bad
    have c4 := c_mustE l a2 o2 e p [41]
    show CallOK _ _ _ _ _
    refine CallOK.fnF Tryd.func92 Tryd.results92 Tryd.ntmps92 rfl rfl rfl rfl (fun w0 T B E0 hB => ?_)
    refine SX.goP ?_
    exact retNd (ResOK.agg3 rfl rfl rfl) (AV0.imp.refl _) ⟨rfl, rfl, trivial⟩
  | ok n2 a2 =>
    rw [hr2] at h3
    have c3 := h3.ok
    unfold thenS
    dsimp only
    cases ht : isS l a2 [41] with
    | true =>
      have c4 := c_mustT o hl ht
      rw [if_pos rfl]
      show CallOK _ _ _ _ _
      refine CallOK.fnF Tryd.func92 Tryd.results92 Tryd.ntmps92 rfl rfl rfl rfl (fun w0 T B E0 hB => ?_)
      refine SX.goP ?_
      exact retNd (ResOK.agg3 rfl rfl rfl) (AV0.imp.refl _) ⟨rfl, rfl, trivial⟩
    | false =>
      have c4 := c_mustF o ht
      rw [if_neg (by decide)]
      show CallOK _ _ _ _ _
      refine CallOK.fnF Tryd.func92 Tryd.results92 Tryd.ntmps92 rfl rfl rfl rfl (fun w0 T B E0 hB => ?_)
      refine SX.goP ?_
      exact retNd (ResOK.agg3 rfl rfl rfl) (AV0.imp.refl _) ⟨rfl, rfl, trivial⟩
theorem g_call {l : List Tok} {m : Nat} {X : Gr} {t : Tok} (hl : l.length ≤ 1000000) (hs : GOK 38 l m X) (hA : Adv 1 l m X) {a o : Nat} (hm : m ≤ a) (ha : a ≤ l.length) (ho : o ≤ 600) : CR rNd 90 [.ptr 82 0, .ptr 81 0] [(81, PP), (82, KB t)] l a o (mapR (fun n => .mk 13 t.text n.kids) (listE l X [41] a o)) := by
  have h3 := g_list (e := [41]) hl hs hA hm ha ho
  cases hr2 : listE l X [41] a o with
  | bad e p n2 a2 o2 =>
    rw [hr2] at h3
    have c3 := h3.bad
    show CallOK _ _ _ _ _
    refine CallOK.fnF Tryd.func90 Tryd.results90 Tryd.ntmps90 rfl rfl rfl rfl (fun w0 T B E0 hB => ?_)
    refine SX.goP ?_
    exact retNd (ResOK.agg3 rfl rfl rfl) (AV0.imp.refl _) ⟨rfl, rfl, rfl, trivial⟩
  | ok n2 a2 =>
    rw [hr2] at h3
    have c3 := h3.ok
    show CallOK _ _ _ _ _
    refine CallOK.fnF Tryd.func90 Tryd.results90 Tryd.ntmps90 rfl rfl rfl rfl (fun w0 T B E0 hB => ?_)
    refine SX.goP ?_
    exact retNd (ResOK.agg3 rfl rfl rfl) (AV0.imp.refl _) ⟨rfl, rfl, rfl, trivial⟩
theorem g_set {l : List Tok} {m : Nat} {X : Gr} (hl : l.length ≤ 1000000) (hs : GOK 38 l m X) (hA : Adv 1 l m X) {a o : Nat} (hm : m ≤ a) (ha : a ≤ l.length) (ho : o ≤ 600) : CR rNd 94 [.ptr 81 0] [(81, PP)] l a o (mapR (fun n => .mk 16 [] n.kids) (listE l X [125] a o)) := by
  have h3 := g_list (e := [125]) hl hs hA hm ha ho
  cases hr2 : listE l X [125] a o with
  | bad e p n2 a2 o2 =>
    rw [hr2] at h3
    have c3 := h3.bad
    show CallOK _ _ _ _ _
    refine CallOK.fnF Tryd.func94 Tryd.results94 Tryd.ntmps94 rfl rfl rfl rfl (fun w0 T B E0 hB => ?_)
    refine SX.goP ?_
    exact retNd (ResOK.agg3 rfl rfl rfl) (AV0.imp.refl _) ⟨rfl, rfl, trivial⟩
  | ok n2 a2 =>
    rw [hr2] at h3
    have c3 := h3.ok
    show CallOK _ _ _ _ _
    refine CallOK.fnF Tryd.func94 Tryd.results94 Tryd.ntmps94 rfl rfl rfl rfl (fun w0 T B E0 hB => ?_)
    refine SX.goP ?_
    exact retNd (ResOK.agg3 rfl rfl rfl) (AV0.imp.refl _) ⟨rfl, rfl, trivial⟩
theorem g_item {l : List Tok} {m : Nat} {X : Gr} {N : Nd} (hl : l.length ≤ 1000000) (hs : GOK 38 l m X) (hA : Adv 1 l m X) {a o : Nat} (hm : m ≤ a) (ha : a ≤ l.length) (ho : o ≤ 600) : CR rNd 89 [.ptr 83 0, .ptr 81 0] [(81, PP), (83, NB N)] l a o (itemG l X N a o) := by
  have mark : OwnLit 7 := ⟨⟩
  have h3 := hs a o hm ha ho
  have h4 := hA a o hm ha
  unfold itemG
  cases hr2 : X a o with
  | bad e p n2 a2 o2 =>
    rw [hr2] at h3
    have c3 := h3.bad
    have c4 := c_takeE l a2 o2 e p [44]
    have c5 := c_mustE l a2 o2 e p [93]
    show CallOK _ _ _ _ _
    refine CallOK.fnF Tryd.func89 Tryd.results89 Tryd.ntmps89 rfl rfl rfl rfl (fun w0 T B E0 hB => ?_)
    refine SX.goP ?_
    refine RetF.frzP 7 (ps := [29, 81, 83]) ?_
    exact retNd (ResOK.agg3 rfl rfl rfl) (imp_ndk rfl rfl rfl (by first | (simp only [List.flatMap_cons, List.flatMap_nil, ndC_eq', List.append_nil]; done) | (simp only [List.flatMap_cons, List.flatMap_nil, ndC_eq', List.append_nil]; rfl))) ⟨rfl, rfl, rfl, trivial⟩
  | ok n2 a2 =>
    rw [hr2] at h3 h4
    have c3 := h3.ok
    obtain ⟨j1, j2, j3⟩ := h4
    dsimp only
    cases ht : isS l a2 [44] with
    | false =>
      have c4 := c_takeF o ht
      rw [if_neg (by decide)]
      unfold thenS
      dsimp only
      cases ht2 : isS l a2 [93] with
      | true =>
        have c5 := c_mustT o hl ht2
        rw [if_pos rfl]
        show CallOK _ _ _ _ _
        refine CallOK.fnF Tryd.func89 Tryd.results89 Tryd.ntmps89 rfl rfl rfl rfl (fun w0 T B E0 hB => ?_)
        refine SX.goP ?_
        refine RetF.frzP 7 (ps := [29, 81, 83]) ?_
        exact retNd (ResOK.agg3 rfl rfl rfl) (imp_ndk rfl rfl rfl (by first | (simp only [List.flatMap_cons, List.flatMap_nil, ndC_eq', List.append_nil]; done) | (simp only [List.flatMap_cons, List.flatMap_nil, ndC_eq', List.append_nil]; rfl))) ⟨rfl, rfl, rfl, trivial⟩
      | false =>
        have c5 := c_mustF o ht2
        rw [if_neg (by decide)]
        show CallOK _ _ _ _ _
        refine CallOK.fnF Tryd.func89 Tryd.results89 Tryd.ntmps89 rfl rfl rfl rfl (fun w0 T B E0 hB => ?_)
        refine SX.goP ?_
        refine RetF.frzP 7 (ps := [29, 81, 83]) ?_
        exact retNd (ResOK.agg3 rfl rfl rfl) (imp_ndk rfl rfl rfl (by first | (simp only [List.flatMap_cons, List.flatMap_nil, ndC_eq', List.append_nil]; done) | (simp only [List.flatMap_cons, List.flatMap_nil, ndC_eq', List.append_nil]; rfl))) ⟨rfl, rfl, rfl, trivial⟩
    | true =>
      have c4 := c_takeT o hl ht
      have g5 := isS_lt ht
      rw [if_pos rfl]
      have h5 := hs (a2 + 1) o (by omega) (by omega) ho
      cases hr3 : X (a2 + 1) o with
      | bad e p n3 a3 o3 =>
        rw [hr3] at h5
        have c6 := h5.bad
        have c5 := c_mustE l a3 o3 e p [93]
        show CallOK _ _ _ _ _
        refine CallOK.fnF Tryd.func89 Tryd.results89 Tryd.ntmps89 rfl rfl rfl rfl (fun w0 T B E0 hB => ?_)
        refine SX.goP ?_
        refine RetF.frzP 16 (ps := [29, 81, 83]) ?_
        exact retNd (ResOK.agg3 rfl rfl rfl) (imp_ndk rfl rfl rfl (by first | (simp only [List.flatMap_cons, List.flatMap_nil, ndC_eq', List.append_nil, List.append_assoc]; done) | (simp only [List.flatMap_cons, List.flatMap_nil, ndC_eq', List.append_nil, List.append_assoc]; rfl))) ⟨rfl, rfl, rfl, trivial⟩
      | ok n3 a3 =>
        rw [hr3] at h5
        have c6 := h5.ok
        unfold thenS mapR
        dsimp only
        cases ht2 : isS l a3 [93] with
        | true =>
          have c5 := c_mustT o hl ht2
          rw [if_pos rfl]
          show CallOK _ _ _ _ _
          refine CallOK.fnF Tryd.func89 Tryd.results89 Tryd.ntmps89 rfl rfl rfl rfl (fun w0 T B E0 hB => ?_)
          refine SX.goP ?_
          refine RetF.frzP 16 (ps := [29, 81, 83]) ?_
          exact retNd (ResOK.agg3 rfl rfl rfl) (imp_ndk rfl rfl rfl (by first | (simp only [List.flatMap_cons, List.flatMap_nil, ndC_eq', List.append_nil, List.append_assoc]; done) | (simp only [List.flatMap_cons, List.flatMap_nil, ndC_eq', List.append_nil, List.append_assoc]; rfl))) ⟨rfl, rfl, rfl, trivial⟩
        | false =>
          have c5 := c_mustF o ht2
          rw [if_neg (by decide)]
          show CallOK _ _ _ _ _
          refine CallOK.fnF Tryd.func89 Tryd.results89 Tryd.ntmps89 rfl rfl rfl rfl (fun w0 T B E0 hB => ?_)
          refine SX.goP ?_
          refine RetF.frzP 16 (ps := [29, 81, 83]) ?_
          exact retNd (ResOK.agg3 rfl rfl rfl) (imp_ndk rfl rfl rfl (by first | (simp only [List.flatMap_cons, List.flatMap_nil, ndC_eq', List.append_nil, List.append_assoc]; done) | (simp only [List.flatMap_cons, List.flatMap_nil, ndC_eq', List.append_nil, List.append_assoc]; rfl))) ⟨rfl, rfl, rfl, trivial⟩
end Go.Proofs.YtlojipipibebaaaDoor
/- Package parser in the symbolic run: what binds most, with items; all expressions. -/
set_option linter.unusedVariables false
set_option linter.unusedSimpArgs false
namespace Go.Proofs.YtlojipipibebaaaDoor
open Go.RowKit SX
attribute [local irreducible] IntKind.wrap Go1 Reg WP thenK inBlk retQ retF RetF RetOK ResOK CallOK OpOK Sat
theorem ge_prim {l : List Tok} : GE 88 l := by
  intro a o e p
  have nm1 : Named 1 81 := ⟨⟩
  have c1 := c_wrongE l a o e p
  refine CallOK.fnF Tryd.func88 Tryd.results88 Tryd.ntmps88 rfl rfl rfl rfl (fun w0 T B E0 hB => ?_)
  refine SX.goP ?_
  exact retNd (ResOK.agg3 rfl rfl rfl) (AV0.imp.refl _) ⟨rfl, trivial⟩
theorem g_prim {l : List Tok} {m : Nat} {X : Gr} (hl : l.length ≤ 1000000) (hs : GOK 38 l (m + 1) X) (hA : Adv 1 l (m + 1) X) : GOK 88 l m (primG 600 l X) := by
  intro a o hm ha ho
  have nm1 : Named 1 81 := ⟨⟩
  have nm2 : Named 3 82 := ⟨⟩
  unfold primG
  cases hg : l[a]? with
  | none =>
    have hge : l.length ≤ a := List.getElem?_eq_none_iff.1 hg
    have c1 := c_wrongG l a o
    show CallOK _ _ _ _ _
    refine CallOK.fnF Tryd.func88 Tryd.results88 Tryd.ntmps88 rfl rfl rfl rfl (fun w0 T B E0 hB => ?_)
    refine SX.goP ?_
    exact retNd (ResOK.agg3 rfl rfl rfl) (AV0.imp.refl _) ⟨rfl, trivial⟩
  | some t =>
    have hlt : a < l.length := (List.getElem?_eq_some_iff.1 hg).1
    obtain ⟨tk, tt, tp⟩ := t
    dsimp only
    by_cases hk : tk = 1
    · rw [if_pos hk]
      show CallOK _ _ _ _ _
      refine CallOK.fnF Tryd.func88 Tryd.results88 Tryd.ntmps88 rfl rfl rfl rfl (fun w0 T B E0 hB => ?_)
      refine SX.goP ?_
      exact retNd (ResOK.agg3 rfl rfl rfl) (imp_nd rfl rfl) ⟨rfl, trivial⟩
    · rw [if_neg hk]
      have c1 := c_namedG l a o
      cases hn : isNm l a with
      | true =>
        rw [hn] at c1
        rw [if_pos rfl]
        cases ht : isS l (a + 1) [40] with
        | true =>
          have c2 := c_takeT o hl ht
          have g5 := isS_lt ht
          rw [if_pos rfl]
          have h1 := c_insC (f := 90) (l := l) (t := ⟨tk, tt, tp⟩) (a := a + 2) (o := o) (k := fun a o => mapR (fun n => .mk 13 tt n.kids) (listE l X [41] a o)) ho (fun h => ⟨g_call hl hs hA (by omega) (by omega) (by omega), (adv_map (c' := 0) (s' := 0) (adv_listE hA (by omega) (by omega)) (fun n => by rw [cnt_kids]; omega)).open.mono (by omega)⟩)
          cases hr : ins 600 (fun a o => mapR (fun n => .mk 13 tt n.kids) (listE l X [41] a o)) (a + 2) o with
          | bad e p n a' o' =>
            rw [hr] at h1
            have c3 := h1.bad
            show CallOK _ _ _ _ _
            refine CallOK.fnF Tryd.func88 Tryd.results88 Tryd.ntmps88 rfl rfl rfl rfl (fun w0 T B E0 hB => ?_)
            refine SX.goP ?_
            exact retNd (ResOK.agg3 rfl rfl rfl) (AV0.imp.refl _) ⟨rfl, trivial⟩
          | ok n a' =>
            rw [hr] at h1
            have c3 := h1.ok
            show CallOK _ _ _ _ _
            refine CallOK.fnF Tryd.func88 Tryd.results88 Tryd.ntmps88 rfl rfl rfl rfl (fun w0 T B E0 hB => ?_)
            refine SX.goP ?_
            exact retNd (ResOK.agg3 rfl rfl rfl) (AV0.imp.refl _) ⟨rfl, trivial⟩
        | false =>
          have c2 := c_takeF o ht
          rw [if_neg (by decide)]
          show CallOK _ _ _ _ _
          refine CallOK.fnF Tryd.func88 Tryd.results88 Tryd.ntmps88 rfl rfl rfl rfl (fun w0 T B E0 hB => ?_)
          refine SX.goP ?_
          exact retNd (ResOK.agg3 rfl rfl rfl) (imp_nd rfl rfl) ⟨rfl, trivial⟩
      | false =>
        rw [hn] at c1
        rw [if_neg (by decide)]
        cases ht : isS l a [40] with
        | true =>
          have c2 := c_takeT o hl ht
          rw [if_pos rfl]
          have h1 := c_insA (f := 92) (l := l) (a := a + 1) (o := o) (k := fun a o => thenS l (X a o) o [41]) ho (fun h => ⟨g_par hl hs (by omega) (by omega) (by omega), (adv_then (hA _ _ (by omega) (by omega))).open.mono (by omega)⟩)
          cases hr : ins 600 (fun a o => thenS l (X a o) o [41]) (a + 1) o with
          | bad e p n a' o' =>
            rw [hr] at h1
            have c3 := h1.bad
            show CallOK _ _ _ _ _
            refine CallOK.fnF Tryd.func88 Tryd.results88 Tryd.ntmps88 rfl rfl rfl rfl (fun w0 T B E0 hB => ?_)
            refine SX.goP ?_
            exact retNd (ResOK.agg3 rfl rfl rfl) (AV0.imp.refl _) ⟨rfl, trivial⟩
          | ok n a' =>
            rw [hr] at h1
            have c3 := h1.ok
            show CallOK _ _ _ _ _
            refine CallOK.fnF Tryd.func88 Tryd.results88 Tryd.ntmps88 rfl rfl rfl rfl (fun w0 T B E0 hB => ?_)
            refine SX.goP ?_
            exact retNd (ResOK.agg3 rfl rfl rfl) (AV0.imp.refl _) ⟨rfl, trivial⟩
        | false =>
          have c2 := c_takeF o ht
          rw [if_neg (by decide)]
          cases ht2 : isS l a [91] with
          | true =>
            have c3 := c_takeT o hl ht2
            rw [if_pos rfl]
            have h1 := c_insD (f := 93) (l := l) (a := a + 1) (o := o) (k := fun a o => matG l X (l.length + 1) [] [] a o) ho (fun h => ⟨g_mat hl hs hA (by omega) (by omega) (by omega), (adv_mat hA _ _ _ _ _ (by omega) (by omega)).open.mono (by omega)⟩)
            cases hr : ins 600 (fun a o => matG l X (l.length + 1) [] [] a o) (a + 1) o with
            | bad e p n a' o' =>
              rw [hr] at h1
              have c4 := h1.bad
              show CallOK _ _ _ _ _
              refine CallOK.fnF Tryd.func88 Tryd.results88 Tryd.ntmps88 rfl rfl rfl rfl (fun w0 T B E0 hB => ?_)
              refine SX.goP ?_
              exact retNd (ResOK.agg3 rfl rfl rfl) (AV0.imp.refl _) ⟨rfl, trivial⟩
            | ok n a' =>
              rw [hr] at h1
              have c4 := h1.ok
              show CallOK _ _ _ _ _
              refine CallOK.fnF Tryd.func88 Tryd.results88 Tryd.ntmps88 rfl rfl rfl rfl (fun w0 T B E0 hB => ?_)
              refine SX.goP ?_
              exact retNd (ResOK.agg3 rfl rfl rfl) (AV0.imp.refl _) ⟨rfl, trivial⟩
          | false =>
            have c3 := c_takeF o ht2
            rw [if_neg (by decide)]
            cases ht3 : isS l a [123] with
            | true =>
              have c4 := c_takeT o hl ht3
              rw [if_pos rfl]
              have h1 := c_insA (f := 94) (l := l) (a := a + 1) (o := o) (k := fun a o => mapR (fun n => .mk 16 [] n.kids) (listE l X [125] a o)) ho (fun h => ⟨g_set hl hs hA (by omega) (by omega) (by omega), (adv_map (c' := 0) (s' := 0) (adv_listE hA (by omega) (by omega)) (fun n => by rw [cnt_kids]; omega)).open.mono (by omega)⟩)
              cases hr : ins 600 (fun a o => mapR (fun n => .mk 16 [] n.kids) (listE l X [125] a o)) (a + 1) o with
              | bad e p n a' o' =>
                rw [hr] at h1
                have c5 := h1.bad
                show CallOK _ _ _ _ _
                refine CallOK.fnF Tryd.func88 Tryd.results88 Tryd.ntmps88 rfl rfl rfl rfl (fun w0 T B E0 hB => ?_)
                refine SX.goP ?_
                exact retNd (ResOK.agg3 rfl rfl rfl) (AV0.imp.refl _) ⟨rfl, trivial⟩
              | ok n a' =>
                rw [hr] at h1
                have c5 := h1.ok
                show CallOK _ _ _ _ _
                refine CallOK.fnF Tryd.func88 Tryd.results88 Tryd.ntmps88 rfl rfl rfl rfl (fun w0 T B E0 hB => ?_)
                refine SX.goP ?_
                exact retNd (ResOK.agg3 rfl rfl rfl) (AV0.imp.refl _) ⟨rfl, trivial⟩
            | false =>
              have c4 := c_takeF o ht3
              rw [if_neg (by decide)]
              have c5 := c_wrongG l a o
              show CallOK _ _ _ _ _
              refine CallOK.fnF Tryd.func88 Tryd.results88 Tryd.ntmps88 rfl rfl rfl rfl (fun w0 T B E0 hB => ?_)
              refine SX.goP ?_
              exact retNd (ResOK.agg3 rfl rfl rfl) (AV0.imp.refl _) ⟨rfl, trivial⟩
theorem ge_post {l : List Tok} : GE 87 l := by
  intro a o e p
  have nm1 : Named 1 81 := ⟨⟩
  have nm2 : Named 3 83 := ⟨⟩
  have c1 := ge_prim (l := l) a o e p
  have c2 := c_takeE l a o e p [91]
  refine CallOK.fnF Tryd.func87 Tryd.results87 Tryd.ntmps87 rfl rfl rfl rfl (fun w0 T B E0 hB => ?_)
  refine SX.goP ?_
  refine W.loop (fun _ : Unit => True) (fun _ => [(1, .ptr 81 0), (2, .ptr 2 0), (3, .ptr 83 0)]) (fun _ => [(29, PE l a o e p), (2, NZ), (81, PP), (83, NB nd0)]) (fun _ => 0) () trivial (fun _ _ => ?_)
  refine SX.goP ?_
  exact retNd (ResOK.agg3 rfl rfl rfl) (AV0.imp.refl _) ⟨rfl, trivial⟩
structure PoS where
  n : Nd
  a : Nat
  o : Nat
  b : Option (Nat × Nat)
  f : Nat
def poS (l : List Tok) (X : Gr) (q : PoS) : Res := match q.b with
  | none => postG 600 l X q.f q.n q.a q.o
  | some (e, p) => .bad e p q.n q.a q.o
theorem g_post {l : List Tok} {m : Nat} {X : Gr} (hl : l.length ≤ 1000000) (hs : GOK 38 l (m + 1) X) (hA : Adv 1 l (m + 1) X) : GOK 87 l m (postF 600 l X) := by
  intro a o hm ha ho
  have nm1 : Named 1 81 := ⟨⟩
  have nm2 : Named 3 83 := ⟨⟩
  have h1 := g_prim hl hs hA a o hm ha ho
  have h2 := adv_prim (K := 600) hA a o hm ha
  unfold postF
  cases hr : primG 600 l X a o with
  | bad e p n a' o' =>
    rw [hr] at h1
    have c1 := h1.bad
    have c2 := c_takeE l a' o' e p [91]
    show CallOK _ _ _ _ _
    refine CallOK.fnF Tryd.func87 Tryd.results87 Tryd.ntmps87 rfl rfl rfl rfl (fun w0 T B E0 hB => ?_)
    refine SX.goP ?_
    refine W.loop (fun _ : Unit => True) (fun _ => [(1, .ptr 81 0), (2, .ptr 2 0), (3, .ptr 83 0)]) (fun _ => [(29, PE l a' o' e p), (2, NZ), (81, PP), (83, NB n)]) (fun _ => 0) () trivial (fun _ _ => ?_)
    refine SX.goP ?_
    exact retNd (ResOK.agg3 rfl rfl rfl) (AV0.imp.refl _) ⟨rfl, trivial⟩
  | ok n a' =>
    rw [hr] at h1 h2
    have c1 := h1.ok
    obtain ⟨g1, g2, g3⟩ := h2
    have g4 := cnt_pos n
    dsimp only
    generalize hR : postG 600 l X (l.length + 1) n a' o = R
    refine CR.of ?_
    refine CallOK.fnF Tryd.func87 Tryd.results87 Tryd.ntmps87 rfl rfl rfl rfl (fun w0 T B E0 hB => ?_)
    refine SX.goP ?_
    refine W.loop (fun q : PoS => poS l X q = R ∧ (q.b = none → q.o = o ∧ m ≤ q.a ∧ q.a ≤ l.length ∧ l.length < q.a + q.f)) (fun _ => [(1, .ptr 81 0), (2, .ptr 2 0), (3, .ptr 83 0)]) (fun q => [(29, PS l q.a q.o q.b), (2, NZ), (81, PP), (83, NB q.n)]) (fun q => match q.b with | none => l.length + 1 - q.a | some _ => 0) ⟨n, a', o, none, l.length + 1⟩ ⟨hR, fun _ => by dsimp only; exact ⟨rfl, by omega, by omega, by omega⟩⟩ (fun q hq => ?_)
    obtain ⟨qn, qa, qo, qb, qf⟩ := q
    obtain ⟨hq1, hq2⟩ := hq
    dsimp only at hq1 hq2
    cases qb with
    | some b =>
      obtain ⟨e, p⟩ := b
      have c2 := c_takeE l qa qo e p [91]
      show WP _ _ _ (mkSt [(1, .ptr 81 0), (2, .ptr 2 0), (3, .ptr 83 0)] [(29, PE l qa qo e p), (2, NZ), (81, PP), (83, NB qn)]) _
      refine SX.goP ?_
      subst hq1
      exact retNd (ResOK.agg3 rfl rfl rfl) (AV0.imp.refl _) ⟨rfl, trivial⟩
    | none =>
      obtain ⟨rfl, b1, b2, b3⟩ := hq2 rfl
      obtain ⟨qf, rfl⟩ : ∃ k, qf = k + 1 := ⟨qf - 1, by omega⟩
      have hq1 : postG 600 l X (qf + 1) qn qa qo = R := hq1
      unfold postG at hq1
      show WP _ _ _ (mkSt [(1, .ptr 81 0), (2, .ptr 2 0), (3, .ptr 83 0)] [(29, PG l qa qo), (2, NZ), (81, PP), (83, NB qn)]) _
      cases ht : isS l qa [91] with
      | true =>
        have c2 := c_takeT qo hl ht
        have g5 := isS_lt ht
        rw [if_pos ht] at hq1
        have h5 := c_insB (f := 89) (l := l) (N := qn) (a := qa + 1) (o := qo) (k := itemG l X qn) ho (fun h => ⟨g_item hl hs hA (by omega) (by omega) (by omega), (adv_item hA (by omega) (by omega)).open.mono (by omega)⟩)
        have h6 := adv_ins (K := 600) (g := itemG l X qn) (a := qa + 1) (o := qo) (Nat.le_refl _) (adv_item (n := qn) (o := qo + 1) hA (by omega) (by omega))
        cases hr2 : ins 600 (itemG l X qn) (qa + 1) qo with
        | bad e p k a2 o2 =>
          rw [hr2] at h5 hq1
          have c3 := h5.bad
          refine SX.goP ?_
          exact W.next ⟨k, a2, o2, some (e, p), 0⟩ ⟨hq1, fun h => by cases h⟩ (by dsimp only; omega)
        | ok k a2 =>
          rw [hr2] at h5 hq1 h6
          have c3 := h5.ok
          obtain ⟨j1, j2, j3⟩ := h6
          refine SX.goP ?_
          exact W.next ⟨k, a2, qo, none, qf⟩ ⟨hq1, fun h => by dsimp only; exact ⟨rfl, by omega, by omega, by omega⟩⟩ (by dsimp only; omega)
      | false =>
        have c2 := c_takeF qo ht
        rw [if_neg (by rw [ht]; decide)] at hq1
        refine SX.goP ?_
        subst hq1
        exact retNd (ResOK.agg3 rfl rfl rfl) (AV0.imp.refl _) ⟨rfl, trivial⟩
theorem ge_expr {l : List Tok} : GE 38 l := ge_exp (ge_sum (ge_prod (ge_un (ge_pow ge_post))))
/-- Expressions, from a place on. -/
theorem g_lev {l : List Tok} (hl : l.length ≤ 1000000) : ∀ (n m : Nat), l.length + 1 ≤ m + n → GOK 38 l m (lev 600 l n).1 ∧ GOK 75 l m (lev 600 l n).2
  | 0, m, h => ⟨fun a o hm ha => by omega, fun a o hm ha => by omega⟩
  | n + 1, m, h => by
    obtain ⟨h1, h2⟩ := g_lev hl n (m + 1) (by omega)
    obtain ⟨a1, a2⟩ := adv_lev 600 l n (m + 1) (by omega)
    have u : GOK 75 l m (unG 600 l (lev 600 l n).1 (lev 600 l n).2) := g_un hl (g_pow hl (g_post hl h1 a1) (adv_postF a1) h2) h2 a2
    have au := adv_un (K := 600) a1 a2
    exact ⟨g_exp hl (g_sum hl (g_prod hl u au) au) au, u⟩
end Go.Proofs.YtlojipipibebaaaDoor
/- Package parser in the symbolic run: statements and blocks. -/
set_option linter.unusedVariables false
set_option linter.unusedSimpArgs false
namespace Go.Proofs.YtlojipipibebaaaDoor
open Go.RowKit SX
section
variable (K : Nat) (l : List Tok)
def bodyG (S : Gr) : Nat → List Nd → Gr
  | 0, _ => fun a o => .bad 4 a nd0 a o
  | f + 1, ks => fun a o => if isS l a [125] then .ok (.mk 22 [] ks) (a + 1) else match S a o with
    | .bad e p n a' o' => .bad e p (.mk 22 [] (ks ++ [n])) a' o'
    | .ok n a' => bodyG S f (ks ++ [n]) a' o
def blkG (S : Gr) : Gr := fun a o => if isS l a [123] then ins K (fun a o => bodyG l S (l.length + 1) [] a o) (a + 1) o else .bad 4 a nd0 a (o + 1)
def ifG (E B : Gr) : Gr := fun a o => match E a o with
  | .bad e p n a' o' => .bad e p (.mk 20 [] [n, nd0]) a' (o' + 1)
  | .ok n a' => match B a' o with
    | .bad e p b a2 o2 => .bad e p (.mk 20 [] [n, b]) a2 o2
    | .ok b a2 => if isS l a2 [101, 108, 115, 101] then mapR (fun c => .mk 20 [] [n, b, c]) (B (a2 + 1) o) else .ok (.mk 20 [] [n, b]) a2
def forG (E B : Gr) : Gr := fun a o => if isNm l a then
    (if isS l (a + 1) [61] then (match E (a + 2) o with
      | .bad e p n a' o' => .bad e p (.mk 21 (txt l a) [n, nd0, nd0]) a' (o' + 1)
      | .ok n a' => if isS l a' [46, 46] then (match E (a' + 1) o with
          | .bad e p n2 a2 o2 => .bad e p (.mk 21 (txt l a) [n, n2, nd0]) a2 (o2 + 1)
          | .ok n2 a2 => mapR (fun b => .mk 21 (txt l a) [n, n2, b]) (B a2 o))
        else .bad 4 a' (.mk 21 (txt l a) [n, nd0, nd0]) a' (o + 1))
    else .bad 4 (a + 1) (.mk 21 (txt l a) [nd0, nd0, nd0]) (a + 1) (o + 1))
  else .bad 4 a (.mk 21 [] [nd0, nd0, nd0]) a (o + 1)
def stG (E B : Gr) : Gr := fun a o => if isS l a [105, 102] then ifG l E B (a + 1) o
  else if isS l a [102, 111, 114] then forG l E B (a + 1) o
  else if isNm l a && isS l (a + 1) [61] then thenS l (mapR (fun n => .mk 18 (txt l a) [n]) (E (a + 2) o)) o [59]
  else thenS l (mapR (fun n => .mk 19 [] [n]) (E a o)) o [59]
/-- Statements, so many levels deep. -/
def slev : Nat → Gr
  | 0 => fun a o => .bad 4 a nd0 a o
  | n + 1 => stG l (lev K l (l.length + 1)).1 (blkG K l (slev n))
end
theorem adv_body {l : List Tok} {m : Nat} {S : Gr} (h : Adv 2 l m S) : ∀ (f : Nat) (ks : List Nd) (a o : Nat), m ≤ a → a ≤ l.length → AdvR (cntL ks) 0 2 l a o (bodyG l S f ks a o)
  | 0, ks, a, o, hm, ha => adv_bad (by omega)
  | f + 1, ks, a, o, hm, ha => by
    unfold bodyG
    split
    · rename_i hs
      have := isS_lt hs
      exact ⟨by rw [cnt_mk]; omega, by omega, by omega⟩
    · have h1 := h a o hm ha
      cases hr : S a o with
      | bad e p n a' o' => rw [hr] at h1; exact h1
      | ok n a' =>
        rw [hr] at h1
        obtain ⟨h1, h3, h2⟩ := h1
        have hh := adv_body h f (ks ++ [n]) a' o (by omega) h2
        refine hh.mono (Nat.le_refl _) (by omega) ?_
        rw [cntL_append, cntL_cons, cntL_nil]; omega
theorem adv_blk {K : Nat} {l : List Tok} {m : Nat} {S : Gr} (h : Adv 2 l (m + 1) S) : Adv 2 l m (blkG K l S) := by
  intro a o hm ha
  unfold blkG
  split
  · rename_i hs
    have := isS_lt hs
    have hh := adv_ins (K := K) (g := fun a o => bodyG l S (l.length + 1) [] a o) (a := a + 1) (o := o) (by omega) (adv_body h (l.length + 1) [] (a + 1) (o + 1) (by omega) (by omega))
    exact hh.mono (Nat.le_refl _) (by omega) (by rw [cntL_nil]; omega)
  · exact ⟨by omega, by omega⟩
theorem adv_if {l : List Tok} {m : Nat} {E B : Gr} (he : Adv 1 l m E) (hb : Adv 2 l m B) {a o : Nat} (hm : m ≤ a) (ha : a ≤ l.length) : AdvR 1 0 2 l a o (ifG l E B a o) := by
  have h1 := he a o hm ha
  unfold ifG
  cases hr : E a o with
  | bad e p n a' o' => rw [hr] at h1; exact ⟨by have := h1.1; omega, by have := h1.2; omega⟩
  | ok n a' =>
    rw [hr] at h1
    obtain ⟨h1, h3, h2⟩ := h1
    have h4 := hb a' o (by omega) h2
    dsimp only
    cases hr2 : B a' o with
    | bad e p n a' o' => rw [hr2] at h4; exact h4
    | ok b a2 =>
      rw [hr2] at h4
      obtain ⟨h4, h6, h5⟩ := h4
      dsimp only
      split
      · rename_i hs
        have := isS_lt hs
        have hh := adv_map (f := fun c => Nd.mk 20 [] [n, b, c]) (c' := 0) (s' := 1 + cnt n + cnt b) (hb (a2 + 1) o (by omega) (by omega)) (fun k => by rw [cnt_mk, cntL_cons, cntL_cons, cntL_cons, cntL_nil]; omega)
        exact hh.mono (Nat.le_refl _) (by omega) (by omega)
      · exact ⟨by rw [cnt_mk, cntL_cons, cntL_cons, cntL_nil]; omega, by omega, h5⟩
theorem adv_for {l : List Tok} {m : Nat} {E B : Gr} (he : Adv 1 l m E) (hb : Adv 2 l m B) {a o : Nat} (hm : m ≤ a) (ha : a ≤ l.length) : AdvR 0 0 2 l a o (forG l E B a o) := by
  unfold forG
  split
  · split
    · rename_i hs
      have := isS_lt hs
      have h1 := he (a + 2) o (by omega) (by omega)
      cases hr : E (a + 2) o with
      | bad e p n a' o' => rw [hr] at h1; exact ⟨by have := h1.1; omega, by have := h1.2; omega⟩
      | ok n a' =>
        rw [hr] at h1
        obtain ⟨h1, h3, h2⟩ := h1
        dsimp only
        split
        · rename_i hs2
          have := isS_lt hs2
          have h4 := he (a' + 1) o (by omega) (by omega)
          cases hr2 : E (a' + 1) o with
          | bad e p n a' o' => rw [hr2] at h4; exact ⟨by have := h4.1; omega, by have := h4.2; omega⟩
          | ok n2 a2 =>
            rw [hr2] at h4
            obtain ⟨h4, h6, h5⟩ := h4
            have hh := adv_map (f := fun b => Nd.mk 21 (txt l a) [n, n2, b]) (c' := 0) (s' := 1 + cnt n + cnt n2) (hb a2 o (by omega) h5) (fun k => by rw [cnt_mk, cntL_cons, cntL_cons, cntL_cons, cntL_nil]; omega)
            exact hh.mono (Nat.le_refl _) (by omega) (by omega)
        · exact ⟨by omega, by omega⟩
    · exact ⟨by omega, by omega⟩
  · exact ⟨by omega, by omega⟩
theorem adv_st {l : List Tok} {m : Nat} {E B : Gr} (he : Adv 1 l m E) (hb : Adv 2 l (m + 1) B) : Adv 2 l m (stG l E B) := by
  have he' : Adv 1 l (m + 1) E := fun a o hm ha => he a o (by omega) ha
  intro a o hm ha
  unfold stG
  split
  · rename_i hs
    have := isS_lt hs
    exact (adv_if he' hb (o := o) (by omega) (by omega)).mono (Nat.le_refl _) (by omega) (by omega)
  · split
    · rename_i hs
      have := isS_lt hs
      exact (adv_for he' hb (o := o) (by omega) (by omega)).mono (Nat.le_refl _) (by omega) (by omega)
    · split
      · rename_i hs
        rw [Bool.and_eq_true] at hs
        have := isS_lt hs.2
        have hh := adv_then (t := [59]) (adv_map (f := fun n => Nd.mk 18 (txt l a) [n]) (c' := 0) (s' := 1) (he (a + 2) o (by omega) (by omega)) (fun k => by rw [cnt_mk, cntL_cons, cntL_nil]; omega))
        exact hh.mono (by omega) (by omega) (by omega)
      · have hh := adv_then (t := [59]) (adv_map (f := fun n => Nd.mk 19 [] [n]) (c' := 0) (s' := 1) (he a o hm ha) (fun k => by rw [cnt_mk, cntL_cons, cntL_nil]; omega))
        exact hh.mono (by omega) (by omega) (by omega)
theorem adv_slev (K : Nat) (l : List Tok) : ∀ (n m : Nat), l.length + 1 ≤ m + n → Adv 2 l m (slev K l n)
  | 0, m, h => fun a o hm ha => by omega
  | n + 1, m, h => adv_st (fun a o hm ha => (adv_lev K l (l.length + 1) m (by omega)).1 a o hm ha) (adv_blk fun a o hm ha => adv_slev K l n (m + 1) (by omega) a o (by omega) ha)
attribute [local irreducible] IntKind.wrap Go1 Reg WP thenK inBlk retQ retF RetF RetOK ResOK CallOK OpOK Sat
def boS (l : List Tok) (S : Gr) (q : LiS) : Res := match q.b with
  | none => bodyG l S q.f q.ks q.a q.o
  | some (e, p) => .bad e p (.mk 22 [] q.ks) q.a q.o
theorem g_body {l : List Tok} {m : Nat} {S : Gr} (hl : l.length ≤ 1000000) (hs : GOK 20 l m S) (hA : Adv 2 l m S) {a o : Nat} (hm : m ≤ a) (ha : a ≤ l.length) (ho : o ≤ 600) :
    CR rNd 56 [.ptr 81 0] [(81, PP)] l a o (bodyG l S (l.length + 1) [] a o) := by
  generalize hR : bodyG l S (l.length + 1) [] a o = R
  refine CR.of ?_
  refine CallOK.fnF Tryd.func56 Tryd.results56 Tryd.ntmps56 rfl rfl rfl rfl (fun w0 T B E0 hB => ?_)
  refine SX.goP ?_
  refine W.loop (fun q : LiS => boS l S q = R ∧ (q.b = none → q.o = o ∧ m ≤ q.a ∧ q.a ≤ l.length ∧ l.length < q.a + q.f ∧ q.ks.length ≤ q.a)) (fun _ => [(0, .ptr 81 0), (1, .ptr 1 0), (2, .ptr 2 0)]) (fun q => [(29, PS l q.a q.o q.b), (81, PP), (1, NZ), (2, NG 22 100), (100, NR q.ks)]) (fun q => match q.b with | none => l.length + 1 - q.a | some _ => 0) ⟨[], a, o, none, l.length + 1⟩ ⟨hR, fun _ => by dsimp only; exact ⟨rfl, by omega, by omega, by omega, Nat.zero_le _⟩⟩ (fun q hq => ?_)
    (by
      refine SX.St.le_to [(100, none)] (by intro b h; exact SX.fixIs h rfl) ?_ ?_ rfl
      · repeat (first | exact trivial | refine ⟨⟨_, rfl, SX.AVto.same rfl⟩, ?_⟩)
      · exact ⟨SX.EntTo.same rfl rfl, SX.EntTo.same rfl rfl, SX.EntTo.same rfl rfl, EntTo.node rfl rfl (AtomTo.nil rfl), SX.EntTo.nilRow rfl, trivial⟩)
  obtain ⟨qk, qa, qo, qb, qf⟩ := q
  obtain ⟨hq1, hq2⟩ := hq
  dsimp only at hq1 hq2
  cases qb with
  | some b =>
    obtain ⟨ee, p⟩ := b
    show WP _ _ _ (mkSt [(0, .ptr 81 0), (1, .ptr 1 0), (2, .ptr 2 0)] [(29, PE l qa qo ee p), (81, PP), (1, NZ), (2, NG 22 100), (100, NR qk)]) _
    refine SX.goP ?_
    subst hq1
    refine RetF.frzP 100 (ps := [29, 81]) ?_
    exact retNd (ResOK.agg3 rfl rfl rfl) (imp_ndk rfl rfl rfl rfl) ⟨rfl, rfl, trivial⟩
  | none =>
    obtain ⟨rfl, b1, b2, b3, b4⟩ := hq2 rfl
    obtain ⟨qf, rfl⟩ : ∃ k, qf = k + 1 := ⟨qf - 1, by omega⟩
    show WP _ _ _ (mkSt [(0, .ptr 81 0), (1, .ptr 1 0), (2, .ptr 2 0)] [(29, PG l qa qo), (81, PP), (1, NZ), (2, NG 22 100), (100, NR qk)]) _
    have hq1 : bodyG l S (qf + 1) qk qa qo = R := hq1
    unfold bodyG at hq1
    cases ht : isS l qa [125] with
    | true =>
      rw [if_pos ht] at hq1
      have c3 := c_takeT qo hl ht
      refine SX.goP ?_
      subst hq1
      refine RetF.frzP 100 (ps := [29, 81]) ?_
      exact retNd (ResOK.agg3 rfl rfl rfl) (imp_ndk rfl rfl rfl rfl) ⟨rfl, rfl, trivial⟩
    | false =>
      rw [if_neg (by rw [ht]; decide)] at hq1
      have c3 := c_takeF qo ht
      have h3 := hs qa qo (by omega) (by omega) ho
      have h4 := hA qa qo (by omega) (by omega)
      cases hr2 : S qa qo with
      | bad c p k a2 o2 =>
        rw [hr2] at h3 hq1
        have c4 := h3.bad
        refine SX.goP ?_
        exact W.next ⟨qk ++ [k], a2, o2, some (c, p), 0⟩ ⟨hq1, fun h => by cases h⟩ (by dsimp only; omega)
          (by
            refine SX.St.le_to [(100, some 19)] (by intro b h; exact SX.fixIs h rfl) ?_ ?_ rfl
            · repeat (first | exact trivial | refine ⟨⟨_, rfl, SX.AVto.same rfl⟩, ?_⟩)
            · exact ⟨SX.EntTo.eq rfl rfl rfl, SX.EntTo.same rfl rfl, SX.EntTo.same rfl rfl, EntTo.node rfl rfl (AtomTo.own rfl), SX.EntTo.row rfl rfl (by simp) (flat_snoc (ndC_eq' _).symm), trivial⟩)
      | ok k a2 =>
        rw [hr2] at h3 hq1 h4
        have c4 := h3.ok
        obtain ⟨j1, j2, j3⟩ := h4
        have j4 := cnt_pos k
        refine SX.goP ?_
        exact W.next ⟨qk ++ [k], a2, qo, none, qf⟩ ⟨hq1, fun h => by dsimp only; exact ⟨rfl, by omega, by omega, by omega, by simp; omega⟩⟩ (by dsimp only; omega)
          (by
            refine SX.St.le_to [(100, some 19)] (by intro b h; exact SX.fixIs h rfl) ?_ ?_ rfl
            · repeat (first | exact trivial | refine ⟨⟨_, rfl, SX.AVto.same rfl⟩, ?_⟩)
            · exact ⟨SX.EntTo.eq rfl rfl rfl, SX.EntTo.same rfl rfl, SX.EntTo.same rfl rfl, EntTo.node rfl rfl (AtomTo.own rfl), SX.EntTo.row rfl rfl (by simp) (flat_snoc (ndC_eq' _).symm), trivial⟩)
theorem g_blk {l : List Tok} {m : Nat} {S : Gr} (hl : l.length ≤ 1000000) (hs : GOK 20 l (m + 1) S) (hA : Adv 2 l (m + 1) S) : GOK 39 l m (blkG 600 l S) := by
  intro a o hm ha ho
  have nm1 : Named 1 81 := ⟨⟩
  unfold blkG
  cases ht : isS l a [123] with
  | true =>
    rw [if_pos rfl]
    have c1 := c_mustT o hl ht
    have g5 := isS_lt ht
    have h1 := c_insA (f := 56) (l := l) (a := a + 1) (o := o) (k := fun a o => bodyG l S (l.length + 1) [] a o) ho (fun h => ⟨g_body hl hs hA (by omega) (by omega) (by omega), (adv_body hA _ _ _ _ (by omega) (by omega)).open.mono (by omega)⟩)
    cases hr : ins 600 (fun a o => bodyG l S (l.length + 1) [] a o) (a + 1) o with
    | bad e p n a' o' =>
      rw [hr] at h1
      have c3 := h1.bad
      show CallOK _ _ _ _ _
      refine CallOK.fnF Tryd.func39 Tryd.results39 Tryd.ntmps39 rfl rfl rfl rfl (fun w0 T B E0 hB => ?_)
      refine SX.goP ?_
      exact retNd (ResOK.agg3 rfl rfl rfl) (AV0.imp.refl _) ⟨rfl, trivial⟩
    | ok n a' =>
      rw [hr] at h1
      have c3 := h1.ok
      show CallOK _ _ _ _ _
      refine CallOK.fnF Tryd.func39 Tryd.results39 Tryd.ntmps39 rfl rfl rfl rfl (fun w0 T B E0 hB => ?_)
      refine SX.goP ?_
      exact retNd (ResOK.agg3 rfl rfl rfl) (AV0.imp.refl _) ⟨rfl, trivial⟩
  | false =>
    rw [if_neg (by decide)]
    have c1 := c_mustF o ht
    have c2 := c_insE (f := 56) (l := l) (a := a) (o := o) (e := 4) (p := a) (by omega)
    show CallOK _ _ _ _ _
    refine CallOK.fnF Tryd.func39 Tryd.results39 Tryd.ntmps39 rfl rfl rfl rfl (fun w0 T B E0 hB => ?_)
    refine SX.goP ?_
    exact retNd (ResOK.agg3 rfl rfl rfl) (AV0.imp.refl _) ⟨rfl, trivial⟩
theorem c_blkE (l : List Tok) (a : Nat) {o : Nat} (e p : Nat) (ho : o ≤ 1000000) : CallOK Tryd.prog 39 [.ptr 29 0] [(29, PE l a o e p)] ⟨rNd nd0, [(29, .ent (PE l a (o + 1) e p))]⟩ := by
  have nm1 : Named 1 81 := ⟨⟩
  have c1 := c_mustE l a o e p [123]
  have c2 := c_insE (f := 56) (l := l) (a := a) (o := o) (e := e) (p := p) ho
  refine CallOK.fnF Tryd.func39 Tryd.results39 Tryd.ntmps39 rfl rfl rfl rfl (fun w0 T B E0 hB => ?_)
  refine SX.goP ?_
  exact retNd (ResOK.agg3 rfl rfl rfl) (AV0.imp.refl _) ⟨rfl, trivial⟩
end Go.Proofs.YtlojipipibebaaaDoor
/- Package parser in the symbolic run: statements. -/
set_option linter.unusedVariables false
set_option linter.unusedSimpArgs false
namespace Go.Proofs.YtlojipipibebaaaDoor
open Go.RowKit SX
attribute [local irreducible] IntKind.wrap Go1 Reg WP thenK inBlk retQ retF RetF RetOK ResOK CallOK OpOK Sat
theorem g_if {l : List Tok} {m : Nat} {X S : Gr} (hl : l.length ≤ 1000000) (hs : GOK 38 l m X) (hA : Adv 1 l m X) (hb : GOK 39 l m S) (bA : Adv 2 l m S) {a o : Nat} (hm : m ≤ a + 1) (ha : a ≤ l.length) (ho : o ≤ 600) (hi : isS l a [105, 102] = true) :
    CR rNd 20 [.ptr 29 0] [] l a o (ifG l X S (a + 1) o) := by
  have mark : OwnLit 14 := ⟨⟩
  have g5 := isS_lt hi
  have k1 := c_takeT o hl hi
  have h1 := hs (a + 1) o hm (by omega) ho
  have h2 := hA (a + 1) o hm (by omega)
  unfold ifG
  cases hr : X (a + 1) o with
  | bad e p n a' o' =>
    rw [hr] at h1 h2
    have k2 := h1.bad
    obtain ⟨j1, j2⟩ := h2
    have k3 := c_blkE l a' (o := o') e p (by omega)
    have k4 := c_takeE l a' (o' + 1) e p [101, 108, 115, 101]
    show CallOK _ _ _ _ _
    refine CallOK.fnF Tryd.func20 Tryd.results20 Tryd.ntmps20 rfl rfl rfl rfl (fun w0 T B E0 hB => ?_)
    refine SX.goP ?_
    refine RetF.frzP 21 (ps := [29]) ?_
    exact retNd (ResOK.agg3 rfl rfl rfl) (imp_ndk rfl rfl rfl (by first | (simp only [List.flatMap_cons, List.flatMap_nil, ndC_eq', List.append_nil, List.append_assoc]; done) | (simp only [List.flatMap_cons, List.flatMap_nil, ndC_eq', List.append_nil, List.append_assoc]; rfl))) ⟨rfl, trivial⟩
  | ok n a' =>
    rw [hr] at h1 h2
    have k2 := h1.ok
    obtain ⟨j1, j2, j3⟩ := h2
    have h3 := hb a' o (by omega) j3 ho
    have h4 := bA a' o (by omega) j3
    dsimp only
    cases hr2 : S a' o with
    | bad e p b a2 o2 =>
      rw [hr2] at h3
      have k3 := h3.bad
      have k4 := c_takeE l a2 o2 e p [101, 108, 115, 101]
      show CallOK _ _ _ _ _
      refine CallOK.fnF Tryd.func20 Tryd.results20 Tryd.ntmps20 rfl rfl rfl rfl (fun w0 T B E0 hB => ?_)
      refine SX.goP ?_
      refine RetF.frzP 21 (ps := [29]) ?_
      exact retNd (ResOK.agg3 rfl rfl rfl) (imp_ndk rfl rfl rfl (by first | (simp only [List.flatMap_cons, List.flatMap_nil, ndC_eq', List.append_nil, List.append_assoc]; done) | (simp only [List.flatMap_cons, List.flatMap_nil, ndC_eq', List.append_nil, List.append_assoc]; rfl))) ⟨rfl, trivial⟩
    | ok b a2 =>
      rw [hr2] at h3 h4
      have k3 := h3.ok
      obtain ⟨i1, i2, i3⟩ := h4
      dsimp only
      cases ht : isS l a2 [101, 108, 115, 101] with
      | false =>
        rw [if_neg (by decide)]
        have k4 := c_takeF o ht
        show CallOK _ _ _ _ _
        refine CallOK.fnF Tryd.func20 Tryd.results20 Tryd.ntmps20 rfl rfl rfl rfl (fun w0 T B E0 hB => ?_)
        refine SX.goP ?_
        refine RetF.frzP 21 (ps := [29]) ?_
        exact retNd (ResOK.agg3 rfl rfl rfl) (imp_ndk rfl rfl rfl (by first | (simp only [List.flatMap_cons, List.flatMap_nil, ndC_eq', List.append_nil, List.append_assoc]; done) | (simp only [List.flatMap_cons, List.flatMap_nil, ndC_eq', List.append_nil, List.append_assoc]; rfl))) ⟨rfl, trivial⟩
      | true =>
        rw [if_pos rfl]
        have k4 := c_takeT o hl ht
        have g6 := isS_lt ht
        have h5 := hb (a2 + 1) o (by omega) (by omega) ho
        cases hr3 : S (a2 + 1) o with
        | bad e p c a3 o3 =>
          rw [hr3] at h5
          have k5 := h5.bad
          show CallOK _ _ _ _ _
          refine CallOK.fnF Tryd.func20 Tryd.results20 Tryd.ntmps20 rfl rfl rfl rfl (fun w0 T B E0 hB => ?_)
          refine SX.goP ?_
          refine RetF.frzP 30 (ps := [29]) ?_
          exact retNd (ResOK.agg3 rfl rfl rfl) (imp_ndk rfl rfl rfl (by first | (simp only [List.flatMap_cons, List.flatMap_nil, ndC_eq', List.append_nil, List.append_assoc]; done) | (simp only [List.flatMap_cons, List.flatMap_nil, ndC_eq', List.append_nil, List.append_assoc]; rfl))) ⟨rfl, trivial⟩
        | ok c a3 =>
          rw [hr3] at h5
          have k5 := h5.ok
          show CallOK _ _ _ _ _
          refine CallOK.fnF Tryd.func20 Tryd.results20 Tryd.ntmps20 rfl rfl rfl rfl (fun w0 T B E0 hB => ?_)
          refine SX.goP ?_
          refine RetF.frzP 30 (ps := [29]) ?_
          exact retNd (ResOK.agg3 rfl rfl rfl) (imp_ndk rfl rfl rfl (by first | (simp only [List.flatMap_cons, List.flatMap_nil, ndC_eq', List.append_nil, List.append_assoc]; done) | (simp only [List.flatMap_cons, List.flatMap_nil, ndC_eq', List.append_nil, List.append_assoc]; rfl))) ⟨rfl, trivial⟩
theorem g_for {l : List Tok} {m : Nat} {X S : Gr} (hl : l.length ≤ 1000000) (hs : GOK 38 l m X) (hA : Adv 1 l m X) (hb : GOK 39 l m S) {a o : Nat} (hm : m ≤ a + 1) (ha : a ≤ l.length) (ho : o ≤ 600) (hf : isS l a [105, 102] = false) (hi : isS l a [102, 111, 114] = true) :
    CR rNd 20 [.ptr 29 0] [] l a o (forG l X S (a + 1) o) := by
  have g5 := isS_lt hi
  have k0 := c_takeF o hf
  have k1 := c_takeT o hl hi
  unfold forG
  cases hn : isNm l (a + 1) with
  | false =>
    rw [if_neg (by decide)]
    have k2 := c_nameF o hn
    have k3 := c_mustE l (a + 1) o 4 (a + 1) [61]
    have k4 := ge_expr (l := l) (a + 1) o 4 (a + 1)
    have k5 := c_mustE l (a + 1) o 4 (a + 1) [46, 46]
    have k6 := c_blkE l (a + 1) (o := o) 4 (a + 1) (by omega)
    show CallOK _ _ _ _ _
    refine CallOK.fnF Tryd.func20 Tryd.results20 Tryd.ntmps20 rfl rfl rfl rfl (fun w0 T B E0 hB => ?_)
    refine SX.goP ?_
    exact retNd (ResOK.agg3 rfl rfl rfl) (imp_ndk rfl rfl rfl (by first | (simp only [List.flatMap_cons, List.flatMap_nil, ndC_eq', List.append_nil, List.append_assoc]; done) | (simp only [List.flatMap_cons, List.flatMap_nil, ndC_eq', List.append_nil, List.append_assoc]; rfl))) ⟨rfl, trivial⟩
  | true =>
    rw [if_pos rfl]
    have k2 := c_nameT o hl hn
    have g6 := isNm_lt hn
    cases ht : isS l (a + 1 + 1) [61] with
    | false =>
      rw [if_neg (by decide)]
      have k3 := c_mustF o ht
      have k4 := ge_expr (l := l) (a + 1 + 1) o 4 (a + 1 + 1)
      have k5 := c_mustE l (a + 1 + 1) o 4 (a + 1 + 1) [46, 46]
      have k6 := c_blkE l (a + 1 + 1) (o := o) 4 (a + 1 + 1) (by omega)
      show CallOK _ _ _ _ _
      refine CallOK.fnF Tryd.func20 Tryd.results20 Tryd.ntmps20 rfl rfl rfl rfl (fun w0 T B E0 hB => ?_)
      refine SX.goP ?_
      exact retNd (ResOK.agg3 rfl rfl rfl) (imp_ndk rfl rfl rfl (by first | (simp only [List.flatMap_cons, List.flatMap_nil, ndC_eq', List.append_nil, List.append_assoc]; done) | (simp only [List.flatMap_cons, List.flatMap_nil, ndC_eq', List.append_nil, List.append_assoc]; rfl))) ⟨rfl, trivial⟩
    | true =>
      rw [if_pos rfl]
      have k3 := c_mustT o hl ht
      have g7 := isS_lt ht
      have h1 := hs (a + 1 + 2) o (by omega) (by omega) ho
      have h2 := hA (a + 1 + 2) o (by omega) (by omega)
      cases hr : X (a + 1 + 2) o with
      | bad e p n a' o' =>
        rw [hr] at h1 h2
        have k4 := h1.bad
        obtain ⟨j1, j2⟩ := h2
        have k5 := c_mustE l a' o' e p [46, 46]
        have k6 := ge_expr (l := l) a' o' e p
        have k7 := c_blkE l a' (o := o') e p (by omega)
        show CallOK _ _ _ _ _
        refine CallOK.fnF Tryd.func20 Tryd.results20 Tryd.ntmps20 rfl rfl rfl rfl (fun w0 T B E0 hB => ?_)
        refine SX.goP ?_
        exact retNd (ResOK.agg3 rfl rfl rfl) (imp_ndk rfl rfl rfl (by first | (simp only [List.flatMap_cons, List.flatMap_nil, ndC_eq', List.append_nil, List.append_assoc]; done) | (simp only [List.flatMap_cons, List.flatMap_nil, ndC_eq', List.append_nil, List.append_assoc]; rfl))) ⟨rfl, trivial⟩
      | ok n a' =>
        rw [hr] at h1 h2
        have k4 := h1.ok
        obtain ⟨j1, j2, j3⟩ := h2
        dsimp only
        cases ht2 : isS l a' [46, 46] with
        | false =>
          rw [if_neg (by decide)]
          have k5 := c_mustF o ht2
          have k6 := ge_expr (l := l) a' o 4 a'
          have k7 := c_blkE l a' (o := o) 4 a' (by omega)
          show CallOK _ _ _ _ _
          refine CallOK.fnF Tryd.func20 Tryd.results20 Tryd.ntmps20 rfl rfl rfl rfl (fun w0 T B E0 hB => ?_)
          refine SX.goP ?_
          exact retNd (ResOK.agg3 rfl rfl rfl) (imp_ndk rfl rfl rfl (by first | (simp only [List.flatMap_cons, List.flatMap_nil, ndC_eq', List.append_nil, List.append_assoc]; done) | (simp only [List.flatMap_cons, List.flatMap_nil, ndC_eq', List.append_nil, List.append_assoc]; rfl))) ⟨rfl, trivial⟩
        | true =>
          rw [if_pos rfl]
          have k5 := c_mustT o hl ht2
          have g8 := isS_lt ht2
          have h3 := hs (a' + 1) o (by omega) (by omega) ho
          have h4 := hA (a' + 1) o (by omega) (by omega)
          cases hr2 : X (a' + 1) o with
          | bad e p n2 a2 o2 =>
            rw [hr2] at h3 h4
            have k6 := h3.bad
            obtain ⟨j1, j2⟩ := h4
            have k7 := c_blkE l a2 (o := o2) e p (by omega)
            show CallOK _ _ _ _ _
            refine CallOK.fnF Tryd.func20 Tryd.results20 Tryd.ntmps20 rfl rfl rfl rfl (fun w0 T B E0 hB => ?_)
            refine SX.goP ?_
            exact retNd (ResOK.agg3 rfl rfl rfl) (imp_ndk rfl rfl rfl (by first | (simp only [List.flatMap_cons, List.flatMap_nil, ndC_eq', List.append_nil, List.append_assoc]; done) | (simp only [List.flatMap_cons, List.flatMap_nil, ndC_eq', List.append_nil, List.append_assoc]; rfl))) ⟨rfl, trivial⟩
          | ok n2 a2 =>
            rw [hr2] at h3 h4
            have k6 := h3.ok
            obtain ⟨i1, i2, i3⟩ := h4
            dsimp only
            have h5 := hb a2 o (by omega) i3 ho
            cases hr3 : S a2 o with
            | bad e p c a3 o3 =>
              rw [hr3] at h5
              have k7 := h5.bad
              show CallOK _ _ _ _ _
              refine CallOK.fnF Tryd.func20 Tryd.results20 Tryd.ntmps20 rfl rfl rfl rfl (fun w0 T B E0 hB => ?_)
              refine SX.goP ?_
              exact retNd (ResOK.agg3 rfl rfl rfl) (imp_ndk rfl rfl rfl (by first | (simp only [List.flatMap_cons, List.flatMap_nil, ndC_eq', List.append_nil, List.append_assoc]; done) | (simp only [List.flatMap_cons, List.flatMap_nil, ndC_eq', List.append_nil, List.append_assoc]; rfl))) ⟨rfl, trivial⟩
            | ok c a3 =>
              rw [hr3] at h5
              have k7 := h5.ok
              show CallOK _ _ _ _ _
              refine CallOK.fnF Tryd.func20 Tryd.results20 Tryd.ntmps20 rfl rfl rfl rfl (fun w0 T B E0 hB => ?_)
              refine SX.goP ?_
              exact retNd (ResOK.agg3 rfl rfl rfl) (imp_ndk rfl rfl rfl (by first | (simp only [List.flatMap_cons, List.flatMap_nil, ndC_eq', List.append_nil, List.append_assoc]; done) | (simp only [List.flatMap_cons, List.flatMap_nil, ndC_eq', List.append_nil, List.append_assoc]; rfl))) ⟨rfl, trivial⟩
/-- No numeral is an equals sign. -/
def HT (l : List Tok) : Prop := ∀ (i : Nat) (t : Tok), l[i]? = some t → t.text = [61] → t.kind ≠ 1
theorem isS_eq {l : List Tok} (hT : HT l) {a : Nat} {t : Tok} (ht : l[a]? = some t) : isS l a [61] = decide (t.text = [61]) := by
  unfold isS
  rw [ht]
  dsimp only
  by_cases h : t.text = [61]
  · simp [h, hT a t ht h]
  · simp [h]
theorem g_let {l : List Tok} {m : Nat} {X : Gr} (hl : l.length ≤ 1000000) (hT : HT l) (hs : GOK 38 l m X) (hA : Adv 1 l m X) {a o : Nat} (hm : m ≤ a + 2) (ha : a ≤ l.length) (ho : o ≤ 600) (hf : isS l a [105, 102] = false) (hi : isS l a [102, 111, 114] = false) (hn : isNm l a = true) (he : isS l (a + 1) [61] = true) :
    CR rNd 20 [.ptr 29 0] [] l a o (thenS l (mapR (fun n => .mk 18 (txt l a) [n]) (X (a + 2) o)) o [59]) := by
  have k0 := c_takeF o hf
  have k1 := c_takeF o hi
  have k2 := c_namedG l a o
  rw [hn] at k2
  have k3 := c_nameT o hl hn
  have k4 := c_mustT o hl he
  have g5 := isS_lt he
  obtain ⟨⟨tk, tt, tp⟩, ht⟩ : ∃ t, l[a + 1]? = some t := ⟨_, List.getElem?_eq_getElem g5⟩
  rw [isS_eq hT ht] at he
  dsimp only at he
  have h1 := hs (a + 2) o (by omega) (by omega) ho
  cases hr : X (a + 2) o with
  | bad e p n a' o' =>
    rw [hr] at h1
    have k5 := h1.bad
    have k6 := c_mustE l a' o' e p [59]
    show CallOK _ _ _ _ _
    refine CallOK.fnF Tryd.func20 Tryd.results20 Tryd.ntmps20 rfl rfl rfl rfl (fun w0 T B E0 hB => ?_)
    refine SX.goP ?_
    exact retNd (ResOK.agg3 rfl rfl rfl) (imp_ndk rfl rfl rfl (by first | (simp only [List.flatMap_cons, List.flatMap_nil, ndC_eq', List.append_nil, List.append_assoc]; done) | (simp only [List.flatMap_cons, List.flatMap_nil, ndC_eq', List.append_nil, List.append_assoc]; rfl))) ⟨rfl, trivial⟩
  | ok n a' =>
    rw [hr] at h1
    have k5 := h1.ok
    unfold thenS mapR
    dsimp only
    cases ht2 : isS l a' [59] with
    | true =>
      rw [if_pos rfl]
      have k6 := c_mustT o hl ht2
      show CallOK _ _ _ _ _
      refine CallOK.fnF Tryd.func20 Tryd.results20 Tryd.ntmps20 rfl rfl rfl rfl (fun w0 T B E0 hB => ?_)
      refine SX.goP ?_
      exact retNd (ResOK.agg3 rfl rfl rfl) (imp_ndk rfl rfl rfl (by first | (simp only [List.flatMap_cons, List.flatMap_nil, ndC_eq', List.append_nil, List.append_assoc]; done) | (simp only [List.flatMap_cons, List.flatMap_nil, ndC_eq', List.append_nil, List.append_assoc]; rfl))) ⟨rfl, trivial⟩
    | false =>
      rw [if_neg (by decide)]
      have k6 := c_mustF o ht2
      show CallOK _ _ _ _ _
      refine CallOK.fnF Tryd.func20 Tryd.results20 Tryd.ntmps20 rfl rfl rfl rfl (fun w0 T B E0 hB => ?_)
      refine SX.goP ?_
      exact retNd (ResOK.agg3 rfl rfl rfl) (imp_ndk rfl rfl rfl (by first | (simp only [List.flatMap_cons, List.flatMap_nil, ndC_eq', List.append_nil, List.append_assoc]; done) | (simp only [List.flatMap_cons, List.flatMap_nil, ndC_eq', List.append_nil, List.append_assoc]; rfl))) ⟨rfl, trivial⟩
theorem g_show {l : List Tok} {m : Nat} {X : Gr} (hl : l.length ≤ 1000000) (hT : HT l) (hs : GOK 38 l m X) {a o : Nat} (hm : m ≤ a) (ha : a ≤ l.length) (ho : o ≤ 600) (hf : isS l a [105, 102] = false) (hi : isS l a [102, 111, 114] = false) (hn : (isNm l a && isS l (a + 1) [61]) = false) :
    CR rNd 20 [.ptr 29 0] [] l a o (thenS l (mapR (fun n => .mk 19 [] [n]) (X a o)) o [59]) := by
  have k0 := c_takeF o hf
  have k1 := c_takeF o hi
  have k2 := c_namedG l a o
  have h1 := hs a o hm ha ho
  -- what is behind, whatever it be
  have key : ∀ {n a' o'} {b : Option (Nat × Nat)}, CallOK Tryd.prog 38 [.ptr 29 0] [(29, PG l a o)] ⟨rNd n, [(29, .ent (PS l a' o' b))]⟩ → ∀ {a2 o2 b2}, CallOK Tryd.prog 41 [.ptr 29 0, .v (str [59])] [(29, PS l a' o' b)] ⟨.tup [], [(29, .ent (PS l a2 o2 b2))]⟩ →
      CallOK Tryd.prog 20 [.ptr 29 0] [(29, PG l a o)] ⟨rNd (.mk 19 [] [n]), [(29, .ent (PS l a2 o2 b2))]⟩ := by
    intro n a' o' b k5 a2 o2 b2 k6
    cases hn1 : isNm l a with
    | false =>
      rw [hn1] at k2
      show CallOK _ _ _ _ _
      refine CallOK.fnF Tryd.func20 Tryd.results20 Tryd.ntmps20 rfl rfl rfl rfl (fun w0 T B E0 hB => ?_)
      refine SX.goP ?_
      exact retNd (ResOK.agg3 rfl rfl rfl) (imp_ndk rfl rfl rfl (by first | (simp only [List.flatMap_cons, List.flatMap_nil, ndC_eq', List.append_nil, List.append_assoc]; done) | (simp only [List.flatMap_cons, List.flatMap_nil, ndC_eq', List.append_nil, List.append_assoc]; rfl))) ⟨rfl, trivial⟩
    | true =>
      rw [hn1] at k2 hn
      have he : isS l (a + 1) [61] = false := by simpa using hn
      by_cases hlt : a + 1 < l.length
      · obtain ⟨⟨tk, tt, tp⟩, ht⟩ : ∃ t, l[a + 1]? = some t := ⟨_, List.getElem?_eq_getElem hlt⟩
        rw [isS_eq hT ht] at he
        dsimp only at he
        show CallOK _ _ _ _ _
        refine CallOK.fnF Tryd.func20 Tryd.results20 Tryd.ntmps20 rfl rfl rfl rfl (fun w0 T B E0 hB => ?_)
        refine SX.goP ?_
        exact retNd (ResOK.agg3 rfl rfl rfl) (imp_ndk rfl rfl rfl (by first | (simp only [List.flatMap_cons, List.flatMap_nil, ndC_eq', List.append_nil, List.append_assoc]; done) | (simp only [List.flatMap_cons, List.flatMap_nil, ndC_eq', List.append_nil, List.append_assoc]; rfl))) ⟨rfl, trivial⟩
      · have g6 := isNm_lt hn1
        show CallOK _ _ _ _ _
        refine CallOK.fnF Tryd.func20 Tryd.results20 Tryd.ntmps20 rfl rfl rfl rfl (fun w0 T B E0 hB => ?_)
        refine SX.goP ?_
        exact retNd (ResOK.agg3 rfl rfl rfl) (imp_ndk rfl rfl rfl (by first | (simp only [List.flatMap_cons, List.flatMap_nil, ndC_eq', List.append_nil, List.append_assoc]; done) | (simp only [List.flatMap_cons, List.flatMap_nil, ndC_eq', List.append_nil, List.append_assoc]; rfl))) ⟨rfl, trivial⟩
  cases hr : X a o with
  | bad e p n a' o' =>
    rw [hr] at h1
    exact key (b := some (e, p)) h1.bad (b2 := some (e, p)) (c_mustE l a' o' e p [59])
  | ok n a' =>
    rw [hr] at h1
    unfold thenS mapR
    dsimp only
    cases ht2 : isS l a' [59] with
    | true =>
      rw [if_pos rfl]
      exact key (b := none) h1.ok (b2 := none) (c_mustT o hl ht2)
    | false =>
      rw [if_neg (by decide)]
      exact key (b := none) h1.ok (b2 := some (4, a')) (c_mustF o ht2)
theorem g_st {l : List Tok} {m : Nat} {X S : Gr} (hl : l.length ≤ 1000000) (hT : HT l) (hs : GOK 38 l m X) (hA : Adv 1 l m X) (hb : GOK 39 l (m + 1) S) (bA : Adv 2 l (m + 1) S) : GOK 20 l m (stG l X S) := by
  intro a o hm ha ho
  have hs' : GOK 38 l (m + 1) X := fun a o hm ha => hs a o (by omega) ha
  have hA' : Adv 1 l (m + 1) X := fun a o hm ha => hA a o (by omega) ha
  unfold stG
  cases h1 : isS l a [105, 102] with
  | true => exact g_if hl hs' hA' hb bA (by omega) ha ho h1
  | false =>
    cases h2 : isS l a [102, 111, 114] with
    | true => exact g_for hl hs' hA' hb (by omega) ha ho h1 h2
    | false =>
      cases h3 : isNm l a && isS l (a + 1) [61] with
      | true =>
        have h4 := h3
        rw [Bool.and_eq_true] at h4
        exact g_let hl hT hs' hA' (by omega) ha ho h1 h2 h4.1 h4.2
      | false => exact g_show hl hT hs hm ha ho h1 h2 h3
theorem g_slev {l : List Tok} (hl : l.length ≤ 1000000) (hT : HT l) : ∀ (n m : Nat), l.length + 1 ≤ m + n → GOK 20 l m (slev 600 l n)
  | 0, m, h => fun a o hm ha => by omega
  | n + 1, m, h => g_st hl hT (fun a o hm ha ho => (g_lev hl (l.length + 1) m (by omega)).1 a o hm ha ho) (fun a o hm ha => (adv_lev 600 l (l.length + 1) m (by omega)).1 a o hm ha) (g_blk hl (fun a o hm ha ho => g_slev hl hT n (m + 1) (by omega) a o (by omega) ha ho) (fun a o hm ha => adv_slev 600 l n (m + 1) (by omega) a o (by omega) ha)) (adv_blk fun a o hm ha => adv_slev 600 l n (m + 1) (by omega) a o (by omega) ha)
end Go.Proofs.YtlojipipibebaaaDoor
/- Package parser in the symbolic run: depths and counts. -/
set_option linter.unusedVariables false
set_option linter.unusedSimpArgs false
namespace Go.Proofs.YtlojipipibebaaaDoor
open Go.RowKit SX
theorem cnt_eq (n : Nd) : cnt n = 1 + cntL n.kids := by cases n; rw [cnt_mk]; rfl
theorem cntL_flat : ∀ L : List Nd, cntL (L.flatMap Nd.kids) + L.length = cntL L
  | [] => by simp [cntL_nil]
  | k :: ks => by rw [List.flatMap_cons, cntL_append, cntL_cons, cnt_eq, List.length_cons, ← cntL_flat ks]; omega
theorem cntL_take (L : List Nd) (j : Nat) : cntL ((L.take j).flatMap Nd.kids) ≤ cntL L := by
  have h1 := cntL_flat (L.take j)
  have h2 : cntL (L.take j ++ L.drop j) = cntL L := by rw [List.take_append_drop]
  rw [cntL_append] at h2
  omega
theorem len_take (L : List Nd) (j : Nat) : ((L.take j).flatMap Nd.kids).length ≤ cntL L := Nat.le_trans (len_cntL _) (cntL_take L j)
theorem take_kids {L : List Nd} {j : Nat} {n : Nd} (h : L[j]? = some n) : (L.take (j + 1)).flatMap Nd.kids = (L.take j).flatMap Nd.kids ++ n.kids := by
  rw [List.take_add_one, h]; simp
mutual
def dep : Nd → Nat
  | .mk _ _ ks => if ks.isEmpty then 0 else 1 + depL ks
def depL : List Nd → Nat
  | [] => 0
  | k :: ks => max (dep k) (depL ks)
end
theorem depL_nil : depL [] = 0 := by rw [depL]
theorem depL_cons (k : Nd) (ks : List Nd) : depL (k :: ks) = max (dep k) (depL ks) := by rw [depL]
theorem dep_eq (n : Nd) : dep n = if n.kids.isEmpty then 0 else 1 + depL n.kids := by cases n; rw [dep]; rfl
theorem depL_append : ∀ ks ms : List Nd, depL (ks ++ ms) = max (depL ks) (depL ms)
  | [], ms => by simp [depL_nil]
  | k :: ks, ms => by rw [List.cons_append, depL_cons, depL_cons, depL_append ks ms]; omega
theorem depL_flat : ∀ L : List Nd, depL L = if L.flatMap Nd.kids = [] then 0 else 1 + depL (L.flatMap Nd.kids)
  | [] => by simp [depL_nil]
  | k :: ks => by
    rw [depL_cons, dep_eq, depL_flat ks, List.flatMap_cons, depL_append]
    cases hk : k.kids with
    | nil => simp [depL_nil]
    | cons a b =>
      by_cases h : ks.flatMap Nd.kids = []
      · simp [h, depL_nil]
      · simp [h, Nat.add_max_add_left]
theorem depL_le : ∀ L : List Nd, depL L ≤ cntL L
  | [] => by simp [depL_nil]
  | .mk o t ks :: ms => by
    have h1 := depL_le ks
    have h2 := depL_le ms
    rw [depL_cons, cntL_cons, cnt_mk, dep]
    split <;> omega
attribute [local irreducible] IntKind.wrap Go1 Reg WP thenK inBlk retQ retF RetF RetOK ResOK CallOK OpOK Sat
/-- A node's cells, told at once. -/
def ndE (n : Nd) : List CA := caN n
instance : EncLen ndE 3 := ⟨fun n => rfl⟩
instance : EncOne ndE := ⟨fun n => rfl⟩
theorem row_ndE (l : List Nd) : AV.r (rowR 3 ndC l) = AV.r (rowR 3 ndE l) := by rw [show ndC = ndE from funext ndC_eq']
structure DeS where
  n : Nat
  L : List Nd
  out : Nat
instance con_Depth (l : List Nd) : Con Tryd.prog 21 [.r (rowR 3 ndC l)] (cntL l ≤ 1000000000) (.v (.int .i64 (depL l : Int))) := ⟨fun hl => by
  have hd := depL_le l
  have hrow := row_ndE l
  refine PureOK.fnF Tryd.func21 Tryd.results21 Tryd.ntmps21 rfl rfl rfl (by simp [AV.ids, AV0.ids, Atom.ids]) rfl (fun w0 T B E0 hB => ?_)
  refine SX.goP ?_
  refine W.loop (fun q : DeS => (q.L ≠ [] → depL l = q.n + depL q.L) ∧ (q.L = [] → depL l = q.out) ∧ cntL q.L + q.n ≤ cntL l ∧ q.out ≤ q.n) (fun q => [(3, .r (rowR 3 ndE q.L)), (4, .v (.int .i64 (q.out : Int))), (5, .v (.int .i64 (q.n : Int)))]) (fun _ => []) (fun q => cntL q.L) ⟨0, l, 0⟩ ⟨fun _ => by dsimp only; omega, fun h => by dsimp only at *; subst h; exact depL_nil, by dsimp only; omega, Nat.le_refl _⟩ (fun q hq => ?_)
  obtain ⟨n, L, out⟩ := q
  dsimp only at hq
  obtain ⟨h1, h2, h3, h4⟩ := hq
  show WP _ _ _ (mkSt [(3, .r (rowR 3 ndE L)), (4, .v (.int .i64 (out : Int))), (5, .v (.int .i64 (n : Int)))] []) _
  have hlen := len_cntL L
  refine SX.goP ?_
  refine W.loop2 (fun (j : Nat) (M : List Nd) => j ≤ L.length ∧ M = (L.take j).flatMap Nd.kids) (fun j M => [(3, .r (rowR 3 ndE L)), (4, .v (.int .i64 (out : Int))), (5, .v (.int .i64 (n : Int))), (6, .own 100), (12, .r (rowR 3 ndE L)), (13, .v (.int .i64 (L.length : Int))), (14, .v (.int .i64 (j : Int)))]) (fun j M => [(100, NR M)]) (fun j _ => L.length - j) 0 [] ⟨Nat.zero_le _, rfl⟩ (fun j M ⟨hj, hM⟩ => ?_)
  have hm := len_take L j
  rw [← hM] at hm
  by_cases hlt : j < L.length
  · obtain ⟨k, hk⟩ : ∃ k, L[j]? = some k := ⟨_, List.getElem?_eq_getElem hlt⟩
    have hm2 := len_take L (j + 1)
    rw [take_kids hk, ← hM, List.length_append] at hm2
    refine SX.goP ?_
    exact W.next2 (j + 1) (M ++ k.kids) ⟨by omega, by rw [hM, take_kids hk]⟩ (by omega)
      (by
        refine SX.St.le_to [(100, some 21)] (by intro b h; cases h) ?_ ?_ rfl
        · repeat (first | exact trivial | refine ⟨⟨_, rfl, SX.AVto.same rfl⟩, ?_⟩ | refine ⟨⟨_, rfl, SX.AVto.own rfl⟩, ?_⟩)
        · exact ⟨SX.EntTo.row rfl rfl (by simp) (by simp), trivial⟩)
  · have hrow2 := row_ndE M
    refine WP.freeze 100 hB rfl ?_
    have hj : L.take j = L := List.take_of_length_le (by omega)
    rw [hj] at hM
    have hdf := depL_flat L
    have hcf := cntL_flat L
    rw [← hM] at hdf hcf
    by_cases h0 : L.length = 0
    · have hL := List.eq_nil_of_length_eq_zero h0
      refine SX.goP ?_
      exact retI (by rw [h2 hL])
    · have hL : L ≠ [] := fun e => h0 (by rw [e]; rfl)
      refine SX.goP ?_
      exact W.next ⟨n + 1, M, n⟩ ⟨fun h => by dsimp only at *; rw [if_neg h] at hdf; have := h1 hL; omega, fun h => by dsimp only at *; rw [if_pos h] at hdf; have := h1 hL; omega, by dsimp only; omega, by dsimp only; omega⟩ (by dsimp only; omega)
        (SX.St.le_to [] (by intro b h; cases h) ⟨⟨_, rfl, SX.AVto.eq hrow2 rfl⟩, ⟨_, rfl, SX.AVto.same rfl⟩, ⟨_, rfl, SX.AVto.same rfl⟩, trivial⟩ trivial rfl)⟩
structure CoS where
  L : List Nd
  c : Nat
end Go.Proofs.YtlojipipibebaaaDoor
/- Package parser in the symbolic run: Parse. -/
set_option linter.unusedVariables false
set_option linter.unusedSimpArgs false
namespace Go.Proofs.YtlojipipibebaaaDoor
open Go.RowKit SX
/-- A program's statements. -/
def progG (l : List Tok) (S : Gr) : Nat → List Nd → Gr
  | 0, _ => fun a o => .bad 4 a nd0 a o
  | f + 1, ks => fun a o => if a < l.length then (match S a o with
    | .bad e p n a' o' => .bad e p (.mk 0 [] (ks ++ [n])) a' o'
    | .ok n a' => progG l S f (ks ++ [n]) a' o)
    else .ok (.mk 0 [] ks) a
def progR (l : List Tok) : Res := progG l (slev 600 l (l.length + 1)) (l.length + 1) [] 0 0
def finR (ks : List Nd) (d : Int) : List Nd × Nat × Nat := if d < (depL ks : Int) then ([], 0, 8) else (ks, 0, 0)
/-- What a parse comes to: nodes, a place, an error. -/
def parseR (l : List Tok) (d : Int) : List Nd × Nat × Nat :=
  if d < 0 ∨ 200 < d then ([], 0, 1) else
  if l.all isTok then (match progR l with
    | .bad e p _ _ _ => ([], p, e)
    | .ok n _ => finR n.kids d)
  else ([], 0, 1)
abbrev tupP (r : List Nd × Nat × Nat) : AV := .tup [.one (.c (.sat (rowR 3 ndC r.1))), .one (.c (.val (.int .i64 (r.2.1 : Int)))), .one (.c (.val (.int .i64 (r.2.2 : Int))))]
theorem tok_ne1 {t : Tok} (h : isTok t = true) (ht : t.text = [61]) : t.kind ≠ 1 := by
  intro hk
  have hs : srt 61 = 5 := by unfold srt; decide
  have hn : num [61] = false := by unfold num dig; simp [hs]
  unfold isTok at h
  rw [if_pos hk, ht, hn] at h; cases h
theorem ht_of {l : List Tok} (h : l.all isTok = true) : HT l := fun i t ht he => tok_ne1 (List.all_eq_true.1 h t (List.mem_of_getElem? ht)) he
def prS (l : List Tok) (S : Gr) (q : LiS) : Res := match q.b with
  | none => progG l S q.f q.ks q.a q.o
  | some (e, p) => .bad e p (.mk 0 [] q.ks) q.a q.o
attribute [local irreducible] IntKind.wrap Go1 Reg WP thenK inBlk retQ retF RetF RetOK ResOK CallOK OpOK Sat
theorem c_Parse (l : List Tok) (d : Int) (hl : l.length ≤ 1000000) (ht : ∀ t ∈ l, t.text.length ≤ 9223372036854775807) : PureOK Tryd.prog 10 [.r (rowR 3 tokC l), .v (.int .i64 d)] (tupP (parseR l d)) := by
  unfold parseR
  by_cases hd : d < 0 ∨ 200 < d
  · rw [if_pos hd]
    by_cases h0 : d < 0
    · refine PureOK.fnF Tryd.func10 Tryd.results10 Tryd.ntmps10 rfl rfl rfl (by simp [AV.ids, AV0.ids, Atom.ids]) rfl (fun w0 T B E0 hB => ?_)
      refine SX.goP ?_
      refine ret3' (ResOK.tmp rfl) (ResOK.tmp rfl) (ResOK.tmp rfl) imp_nil (AV0.imp.refl _) (AV0.imp.refl _)
    · refine PureOK.fnF Tryd.func10 Tryd.results10 Tryd.ntmps10 rfl rfl rfl (by simp [AV.ids, AV0.ids, Atom.ids]) rfl (fun w0 T B E0 hB => ?_)
      refine SX.goP ?_
      refine ret3' (ResOK.tmp rfl) (ResOK.tmp rfl) (ResOK.tmp rfl) imp_nil (AV0.imp.refl _) (AV0.imp.refl _)
  · rw [if_neg hd]
    generalize hV : (if l.all isTok then (match progR l with
      | .bad e p _ _ _ => (([], p, e) : List Nd × Nat × Nat)
      | .ok n _ => finR n.kids d) else ([], 0, 1)) = V
    refine PureOK.fnF Tryd.func10 Tryd.results10 Tryd.ntmps10 rfl rfl rfl (by simp [AV.ids, AV0.ids, Atom.ids]) rfl (fun w0 T B E0 hB => ?_)
    refine SX.goP ?_
    refine W.loop (fun k : Nat => k ≤ l.length ∧ ∀ i t, i < k → l[i]? = some t → isTok t = true) (fun k => [(0, .r (rowR 3 tokC l)), (1, .v (.int .i64 d)), (17, .r (rowR 3 tokC l)), (18, .v (.int .i64 (l.length : Int))), (19, .v (.int .i64 (k : Int)))]) (fun _ => []) (fun k => l.length - k) 0 ⟨Nat.zero_le _, fun i t h => by omega⟩ (fun k ⟨hk, hT⟩ => ?_)
    by_cases hlt : k < l.length
    · obtain ⟨⟨tk, tt, tp⟩, htk⟩ : ∃ t, l[k]? = some t := ⟨_, List.getElem?_eq_getElem hlt⟩
      have htt : tt.length ≤ 9223372036854775807 := ht _ (List.mem_of_getElem? htk)
      have cI : PureOK Tryd.prog 19 [.agg (tokA ⟨tk, tt, tp⟩)] (.v (.bool (isTok ⟨tk, tt, tp⟩))) := (con_Is ⟨tk, tt, tp⟩).h htt
      cases hi : isTok ⟨tk, tt, tp⟩ with
      | false =>
        rw [hi] at cI
        have hall : l.all isTok = false := by
          rw [List.all_eq_false]
          exact ⟨_, List.mem_of_getElem? htk, by rw [hi]; decide⟩
        rw [hall, if_neg (by decide)] at hV
        refine SX.goP ?_
        subst hV
        refine ret3' (ResOK.tmp rfl) (ResOK.tmp rfl) (ResOK.tmp rfl) imp_nil (AV0.imp.refl _) (AV0.imp.refl _)
      | true =>
        rw [hi] at cI
        refine SX.goP ?_
        refine W.next (k + 1) ⟨by omega, fun i t h1 h2 => ?_⟩ (by omega)
        by_cases e : i = k
        · subst e; rw [htk] at h2; cases h2; exact hi
        · exact hT i t (by omega) h2
    · have hall : l.all isTok = true := by
        rw [List.all_eq_true]
        intro t htm
        obtain ⟨i, hi⟩ := List.getElem?_of_mem htm
        exact hT i t (by have := (List.getElem?_eq_some_iff.1 hi).1; omega) hi
      rw [hall, if_pos rfl] at hV
      have gs := g_slev hl (ht_of hall) (l.length + 1) 0 (by omega)
      have ga := adv_slev 600 l (l.length + 1) 0 (by omega)
      unfold progR at hV
      generalize slev 600 l (l.length + 1) = S at hV gs ga
      generalize hR : progG l S (l.length + 1) [] 0 0 = R at hV
      refine SX.goP ?_
      refine W.loop (fun q : LiS => prS l S q = R ∧ (q.b = none → q.o = 0 ∧ q.a ≤ l.length ∧ l.length < q.a + q.f ∧ cntL q.ks ≤ q.a)) (fun _ => [(0, .r (rowR 3 tokC l)), (1, .v (.int .i64 d)), (9, .ptr 29 0), (10, .own 100)]) (fun q => [(29, PS l q.a q.o q.b), (100, NR q.ks)]) (fun q => match q.b with | none => l.length + 1 - q.a | some _ => 0) ⟨[], 0, 0, none, l.length + 1⟩ ⟨hR, fun _ => by dsimp only; exact ⟨rfl, by omega, by omega, by rw [cntL_nil]; omega⟩⟩ (fun q hq => ?_)
        (by
          refine SX.St.le_to [(100, none)] (by intro b h; cases h) ?_ ?_ rfl
          · repeat (first | exact trivial | refine ⟨⟨_, rfl, SX.AVto.same rfl⟩, ?_⟩ | refine ⟨⟨_, rfl, SX.AVto.nil rfl⟩, ?_⟩)
          · exact ⟨SX.EntTo.eq rfl rfl rfl, SX.EntTo.nilRow rfl, trivial⟩)
      obtain ⟨qk, qa, qo, qb, qf⟩ := q
      obtain ⟨hq1, hq2⟩ := hq
      dsimp only at hq1 hq2
      cases qb with
      | some b =>
        obtain ⟨ee, p⟩ := b
        show WP _ _ _ (mkSt [(0, .r (rowR 3 tokC l)), (1, .v (.int .i64 d)), (9, .ptr 29 0), (10, .own 100)] [(29, PE l qa qo ee p), (100, NR qk)]) _
        refine SX.goP ?_
        subst hq1
        subst hV
        refine ret3' (ResOK.tmp rfl) (ResOK.tmp rfl) (ResOK.tmp rfl) imp_nil (AV0.imp.refl _) (AV0.imp.refl _)
      | none =>
        obtain ⟨rfl, b2, b3, b4⟩ := hq2 rfl
        obtain ⟨qf, rfl⟩ : ∃ k, qf = k + 1 := ⟨qf - 1, by omega⟩
        show WP _ _ _ (mkSt [(0, .r (rowR 3 tokC l)), (1, .v (.int .i64 d)), (9, .ptr 29 0), (10, .own 100)] [(29, PG l qa 0), (100, NR qk)]) _
        have hq1 : progG l S (qf + 1) qk qa 0 = R := hq1
        unfold progG at hq1
        have hlk := len_cntL qk
        by_cases hlt2 : qa < l.length
        · rw [if_pos hlt2] at hq1
          have h3 := gs qa 0 (by omega) (by omega) (by omega)
          have h4 := ga qa 0 (by omega) (by omega)
          cases hr2 : S qa 0 with
          | bad c p k a2 o2 =>
            rw [hr2] at h3 hq1
            have c4 := h3.bad
            refine SX.goP ?_
            exact W.next ⟨qk ++ [k], a2, o2, some (c, p), 0⟩ ⟨hq1, fun h => by cases h⟩ (by dsimp only; omega)
              (by
                refine SX.St.le_to [(100, some 48)] (by intro b h; cases h) ?_ ?_ rfl
                · repeat (first | exact trivial | refine ⟨⟨_, rfl, SX.AVto.same rfl⟩, ?_⟩ | refine ⟨⟨_, rfl, SX.AVto.own rfl⟩, ?_⟩)
                · exact ⟨SX.EntTo.eq rfl rfl rfl, SX.EntTo.row rfl rfl (by simp) (flat_snoc (ndC_eq' _).symm), trivial⟩)
          | ok k a2 =>
            rw [hr2] at h3 hq1 h4
            have c4 := h3.ok
            obtain ⟨j1, j2, j3⟩ := h4
            have j4 := cnt_pos k
            refine SX.goP ?_
            exact W.next ⟨qk ++ [k], a2, 0, none, qf⟩ ⟨hq1, fun h => by dsimp only; exact ⟨rfl, by omega, by omega, by rw [cntL_append, cntL_cons, cntL_nil]; omega⟩⟩ (by dsimp only; omega)
              (by
                refine SX.St.le_to [(100, some 48)] (by intro b h; cases h) ?_ ?_ rfl
                · repeat (first | exact trivial | refine ⟨⟨_, rfl, SX.AVto.same rfl⟩, ?_⟩ | refine ⟨⟨_, rfl, SX.AVto.own rfl⟩, ?_⟩)
                · exact ⟨SX.EntTo.eq rfl rfl rfl, SX.EntTo.row rfl rfl (by simp) (flat_snoc (ndC_eq' _).symm), trivial⟩)
        · rw [if_neg hlt2] at hq1
          have cD : PureOK Tryd.prog 21 [.r (rowR 3 ndC qk)] (.v (.int .i64 (depL qk : Int))) := Con.use (by omega)
          refine WP.freeze 100 hB rfl ?_
          subst hq1
          have hV : finR qk d = V := hV
          unfold finR at hV
          by_cases hdd : d < (depL qk : Int)
          · rw [if_pos hdd] at hV
            refine SX.goP ?_
            subst hV
            refine ret3' (ResOK.tmp rfl) (ResOK.tmp rfl) (ResOK.tmp rfl) imp_nil (AV0.imp.refl _) (AV0.imp.refl _)
          · rw [if_neg hdd] at hV
            refine SX.goP ?_
            subst hV
            refine ret3' (ResOK.tmp rfl) (ResOK.tmp rfl) (ResOK.tmp rfl) (AV0.imp.refl _) (AV0.imp.refl _) (AV0.imp.refl _)
end Go.Proofs.YtlojipipibebaaaDoor
/- The reference's comparing, depths and counts; what the statements look at. -/
set_option linter.unusedVariables false
set_option linter.unusedSimpArgs false
namespace Go.Proofs.YtlojipipibebaaaDoor
open Go.RowKit SX
mutual
def sameN : Nd → Nd → Bool
  | .mk o t ks, .mk o' t' ks' => decide (o = o') && decide (t = t') && sameL ks ks'
def sameL : List Nd → List Nd → Bool
  | [], [] => true
  | a :: l, b :: m => sameN a b && sameL l m
  | [], _ :: _ => false
  | _ :: _, [] => false
end
theorem sameN_eq (a b : Nd) : sameN a b = (decide (a.op = b.op) && decide (a.text = b.text) && sameL a.kids b.kids) := by
  cases a; cases b; rw [sameN]; rfl
theorem sameL_cons (a b : Nd) (l m : List Nd) : sameL (a :: l) (b :: m) = (sameN a b && sameL l m) := by rw [sameL]
theorem sameL_nil : sameL [] [] = true := by rw [sameL]
theorem sameL_refl : ∀ l : List Nd, sameL l l = true
  | [] => sameL_nil
  | .mk o t ks :: m => by
    have h1 := sameL_refl ks
    have h2 := sameL_refl m
    rw [sameL_cons, sameN_eq, h2]; simp [Nd.op, Nd.text, Nd.kids, h1]
theorem sameL_len : ∀ l m : List Nd, l.length ≠ m.length → sameL l m = false
  | [], [], h => absurd rfl h
  | a :: l, b :: m, h => by rw [sameL_cons, sameL_len l m (by simpa using h), Bool.and_false]
  | [], _ :: _, _ => by rw [sameL]
  | _ :: _, [], _ => by rw [sameL]
theorem sameL_step {a b : List Nd} {i : Nat} {x y : Nd} (hx : a[i]? = some x) (hy : b[i]? = some y) : sameL (a.drop i) (b.drop i) = (sameN x y && sameL (a.drop (i + 1)) (b.drop (i + 1))) := by
  have h1 : a.drop i = x :: a.drop (i + 1) := by
    obtain ⟨h, rfl⟩ := List.getElem?_eq_some_iff.1 hx; exact List.drop_eq_getElem_cons h
  have h2 : b.drop i = y :: b.drop (i + 1) := by
    obtain ⟨h, rfl⟩ := List.getElem?_eq_some_iff.1 hy; exact List.drop_eq_getElem_cons h
  rw [h1, h2, sameL_cons]
theorem cntL_mem : ∀ {l : List Nd} {i : Nat} {n : Nd}, l[i]? = some n → cntL n.kids < cntL l
  | [], i, n, h => by simp at h
  | k :: l, 0, n, h => by
    simp at h; subst h; rw [cntL_cons, cnt_eq]; omega
  | k :: l, i + 1, n, h => by
    simp at h
    have := cntL_mem h
    rw [cntL_cons]; omega
attribute [local irreducible] IntKind.wrap Go1 Reg WP thenK inBlk retQ retF RetF RetOK ResOK CallOK OpOK Sat
theorem c_Same : ∀ (n : Nat) (a b : List Nd), cntL a < n → cntL a ≤ 1000000000 → PureOK Tryd.prog 11 [.r (rowR 3 ndC a), .r (rowR 3 ndC b)] (.v (.bool (sameL a b))) := by
  intro n
  induction n with
  | zero => intros; omega
  | succ n ih =>
    intro a b hn hb
    have hrow := row_ndE a
    have hrow2 := row_ndE b
    have hla := len_cntL a
    by_cases h : a.length = b.length
    · refine PureOK.fnF Tryd.func11 Tryd.results11 Tryd.ntmps11 rfl rfl rfl (by simp [AV.ids, AV0.ids, Atom.ids]) rfl (fun w0 T B E0 hB => ?_)
      refine SX.goP ?_
      refine W.loop (fun i : Nat => i ≤ a.length ∧ sameL a b = sameL (a.drop i) (b.drop i)) (fun i => [(0, .r (rowR 3 ndE a)), (1, .r (rowR 3 ndE b)), (5, .v (.int .i64 (i : Int)))]) (fun _ => []) (fun i => a.length - i) 0 ⟨Nat.zero_le _, rfl⟩ (fun i ⟨hi, hs⟩ => ?_)
      by_cases hlt : i < a.length
      · obtain ⟨x, hx⟩ : ∃ x, a[i]? = some x := ⟨_, List.getElem?_eq_getElem hlt⟩
        obtain ⟨y, hy⟩ : ∃ y, b[i]? = some y := ⟨_, List.getElem?_eq_getElem (by omega)⟩
        have hst := sameL_step hx hy
        rw [sameN_eq] at hst
        have hm := cntL_mem hx
        have cS := ih x.kids y.kids (by omega) (by omega)
        by_cases ho : x.op = y.op
        · by_cases ht : x.text = y.text
          · have ht1 := decide_eq_true ht
            cases hk : sameL x.kids y.kids with
            | true =>
              rw [hk] at cS
              refine SX.goP ?_
              exact W.next (i + 1) ⟨by omega, by rw [hs, hst, decide_eq_true ho, ht1, hk]; rfl⟩ (by omega)
            | false =>
              rw [hk] at cS
              refine SX.goP ?_
              refine retB ?_
              rw [hs, hst, hk]; simp
          · have ht1 := decide_eq_false ht
            refine SX.goP ?_
            refine retB ?_
            rw [hs, hst, ht1]; simp
        · refine SX.goP ?_
          refine retB ?_
          rw [hs, hst, decide_eq_false ho]; simp
      · refine SX.goP ?_
        refine retB ?_
        rw [hs, List.drop_eq_nil_of_le (by omega), List.drop_eq_nil_of_le (by omega), sameL_nil]
    · have := sameL_len a b h
      refine PureOK.fnF Tryd.func11 Tryd.results11 Tryd.ntmps11 rfl rfl rfl (by simp [AV.ids, AV0.ids, Atom.ids]) rfl (fun w0 T B E0 hB => ?_)
      refine SX.goP ?_
      refine retB ?_
      rw [this]
theorem depL_snoc {l : List Nd} {i : Nat} {x : Nd} (hx : l[i]? = some x) : depL (l.take (i + 1)) = max (depL (l.take i)) (dep x) := by
  rw [List.take_add_one, hx, depL_append]
  show max _ (depL [x]) = _
  rw [depL_cons, depL_nil]; omega
theorem cntL_snoc {l : List Nd} {i : Nat} {x : Nd} (hx : l[i]? = some x) : cntL (l.take (i + 1)) = cntL (l.take i) + 1 + cntL x.kids := by
  rw [List.take_add_one, hx, cntL_append]
  show _ + cntL [x] = _
  rw [cntL_cons, cntL_nil, cnt_eq]; omega
theorem cntL_takeL (l : List Nd) (i : Nat) : cntL (l.take i) ≤ cntL l := by
  have h2 : cntL (l.take i ++ l.drop i) = cntL l := by rw [List.take_append_drop]
  rw [cntL_append] at h2
  omega
theorem c_Nodes : ∀ (n : Nat) (a : List Nd), cntL a < n → cntL a ≤ 1000000000 → PureOK Tryd.prog 7 [.r (rowR 3 ndC a)] (.v (.int .i64 (cntL a : Int))) := by
  intro n
  induction n with
  | zero => intros; omega
  | succ n ih =>
    intro a hn hb
    have hrow := row_ndE a
    have hla := len_cntL a
    refine PureOK.fnF Tryd.func7 Tryd.results7 Tryd.ntmps7 rfl rfl rfl (by simp [AV.ids, AV0.ids, Atom.ids]) rfl (fun w0 T B E0 hB => ?_)
    refine SX.goP ?_
    refine W.loop2 (fun (i c : Nat) => i ≤ a.length ∧ c + i = a.length + cntL (a.take i)) (fun i c => [(0, .r (rowR 3 ndE a)), (3, .v (.int .i64 (c : Int))), (4, .v (.int .i64 (i : Int)))]) (fun _ _ => []) (fun i _ => a.length - i) 0 a.length ⟨Nat.zero_le _, by rw [List.take_zero, cntL_nil]⟩ (fun i c ⟨hi, hc⟩ => ?_)
    have htk := cntL_takeL a i
    by_cases hlt : i < a.length
    · obtain ⟨x, hx⟩ : ∃ x, a[i]? = some x := ⟨_, List.getElem?_eq_getElem hlt⟩
      have hm := cntL_mem hx
      have cS := ih x.kids (by omega) (by omega)
      have hsn := cntL_snoc hx
      refine SX.goP ?_
      exact W.next2 (i + 1) (c + cntL x.kids) ⟨by omega, by omega⟩ (by omega)
    · rw [List.take_of_length_le (by omega)] at hc
      refine SX.goP ?_
      refine retI ?_
      omega
end Go.Proofs.YtlojipipibebaaaDoor

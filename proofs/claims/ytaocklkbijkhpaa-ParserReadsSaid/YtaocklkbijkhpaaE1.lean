import Derived.Test.YtaocklkbijkhpaaTy
import Derived.Test.YtaocklkbijkhpaaShelf
/- Package lexer in the symbolic run. -/
set_option linter.unusedVariables false
set_option linter.unusedSimpArgs false
namespace Go.Proofs.Ytaocklkbijkhpaa
open Go.RowKit SX
attribute [local irreducible] IntKind.wrap Go1 Reg WP thenK inBlk retQ retF RetF RetOK ResOK CallOK OpOK Sat
/-- A byte's sort. -/
def srt (c : UInt8) : Nat := if c.toNat = 32 ∨ c.toNat = 9 ∨ c.toNat = 10 ∨ c.toNat = 13 then 1 else if 48 ≤ c.toNat ∧ c.toNat ≤ 57 then 2 else if 97 ≤ c.toNat ∧ c.toNat ≤ 122 then 3 else if c.toNat = 95 then 4 else
  if 0 ≤ Lib.indexByte [43, 45, 42, 47, 94, 40, 41, 91, 93, 123, 125, 44, 59, 61, 60, 33, 46] c then 5 else 0
/-- Place of a byte in a text, or -1. -/
abbrev ixb (l : List UInt8) (c : UInt8) : Int := Lib.indexByte l c
theorem ixb_cons (b : UInt8) (l : List UInt8) (c : UInt8) : ixb (b :: l) c = if b = c then 0 else if ixb l c = -1 then -1 else ixb l c + 1 := by
  have e : ixb (b :: l) c = if b == c then 0 else if ixb l c == -1 then -1 else ixb l c + 1 := rfl
  rw [e]; simp only [beq_iff_eq]
theorem ixb_mem (l : List UInt8) (c : UInt8) : 0 ≤ ixb l c ↔ c ∈ l := by
  induction l with
  | nil => simp [ixb, Lib.indexByte]
  | cons b l ih =>
    have hg : -1 ≤ ixb l c := Lib.indexByte_ge l c
    rw [ixb_cons, List.mem_cons, ← ih]
    generalize ixb l c = z at *
    by_cases h : b = c
    · subst h; simp
    · have hc : ¬ c = b := fun e => h e.symm
      simp only [hc, false_or, h, if_false]
      split <;> omega
theorem pureS {f : FuncId} {args : List Value} {r : Value} (he : ∃ fn, Try.prog.funcs[f]? = some fn ∧ (fn.name == "runtime.NumGoroutine") = false ∧ fn.body.isNone = false) (h : ∀ w, Calls Try.prog f args.toArray w fun e w' => e = .returned r ∧ w' = w) : PureOK Try.prog f (args.map AV.v) (.v r) :=
  PureOK.of_calls he rfl fun E S w vs hl hv => by
    have hvs : vs = args := by
      clear h
      induction args generalizing vs with
      | nil => cases vs with | nil => rfl | cons _ _ => exact hv.elim
      | cons a l ih => cases vs with | nil => exact hv.elim | cons b m => rw [ih m hv.2, show b = a from hv.1]
    subst hvs
    exact (h w).mono fun e w' ⟨h1, h2⟩ => ⟨r, h1, rfl, by subst h2; exact Off.refl _ _⟩
instance con_IndexByte (l : List UInt8) (c : UInt8) : Con Try.prog 40 [.v (str l), .v (.int .u8 (c.toNat : Int))] True (.v (.int .i64 (ixb l c))) := ⟨fun _ =>
  pureS (args := [str l, .int .u8 (c.toNat : Int)]) ⟨_, Try.func40, rfl, rfl⟩ fun w => (Try.strings_IndexByte ⟨⟨l⟩⟩ (c.toNat : Int) w).mono fun e w' ⟨h1, h2⟩ => ⟨by rw [h1]; simp [ixb], h2⟩⟩
instance con_IndexByteL (l : List UInt8) : Con Try.prog 40 [.v (str l), .v (.int .u8 10)] True (.v (.int .i64 (ixb l 10))) := con_IndexByte l 10
instance con_sort (c : UInt8) : Con Try.prog 39 [.v (.int .u8 (c.toNat : Int))] True (.v (.int .i64 (srt c : Int))) := ⟨fun _ => by
  refine PureOK.fnF Try.func39 Try.results39 Try.ntmps39 rfl rfl rfl (by simp [AV.ids, AV0.ids, Atom.ids]) rfl (fun w0 T B E0 hB => ?_)
  repeat' (first | refine SX.go ?_ | refine SX.W.ite (fun h => ?_) (fun h => ?_) | refine SX.W.iteN (fun h => ?_) (fun h => ?_) | refine SX.W.iteB (fun h => ?_) (fun h => ?_) | refine SX.R.ite (fun h => ?_) (fun h => ?_) | refine SX.R.iteN (fun h => ?_) (fun h => ?_) | refine SX.R.iteB (fun h => ?_) (fun h => ?_))
  all_goals (refine retI ?_; unfold srt; (repeat' split) <;> omega)⟩
/-- A byte of a word. -/
def wrd (c : UInt8) : Bool := decide (srt c = 2) || decide (srt c = 3) || decide (srt c = 4)
instance con_word (c : UInt8) : Con Try.prog 62 [.v (.int .u8 (c.toNat : Int))] True (.v (.bool (wrd c))) := ⟨fun _ => by
  refine PureOK.fnF Try.func62 Try.results62 Try.ntmps62 rfl rfl rfl (by simp [AV.ids, AV0.ids, Atom.ids]) rfl (fun w0 T B E0 hB => ?_)
  repeat' (first | refine SX.go ?_ | refine SX.W.ite (fun h => ?_) (fun h => ?_) | refine SX.W.iteN (fun h => ?_) (fun h => ?_) | refine SX.W.iteB (fun h => ?_) (fun h => ?_) | refine SX.R.ite (fun h => ?_) (fun h => ?_) | refine SX.R.iteN (fun h => ?_) (fun h => ?_) | refine SX.R.iteB (fun h => ?_) (fun h => ?_))
  all_goals (refine retB ?_; rw [Bool.eq_iff_iff]; simp [wrd]; omega)⟩
/-- How many bytes of words a text begins with. -/
def run (l : List UInt8) : Nat := (l.takeWhile wrd).length
theorem tw_get {p : UInt8 → Bool} : ∀ (l : List UInt8) (k : Nat), k ≤ (l.takeWhile p).length → k < l.length → p (byt l k) = decide (k < (l.takeWhile p).length)
  | [], k, _, h => by simp at h
  | c :: l, 0, _, _ => by
    cases h : p c <;> simp [byt, List.takeWhile_cons, h]
  | c :: l, k + 1, h1, h2 => by
    cases h : p c
    · simp [List.takeWhile_cons, h] at h1
    · simp [List.takeWhile_cons, h] at h1 ⊢
      have := tw_get l k h1 (by simpa using h2)
      simpa [byt] using this
theorem run_le (l : List UInt8) : run l ≤ l.length := (List.takeWhile_prefix _).length_le
instance con_run (l : List UInt8) : Con Try.prog 41 [.v (str l)] (l.length ≤ 9223372036854775807) (.v (.int .i64 (run l : Int))) := ⟨fun hl => by
  refine PureOK.fnF Try.func41 Try.results41 Try.ntmps41 rfl rfl rfl (by simp [AV.ids, AV0.ids, Atom.ids]) rfl (fun w0 T B E0 hB => ?_)
  refine SX.go ?_
  refine W.loop (fun k => k ≤ run l) (fun k => [(0, .v (str l)), (3, .v (.int .i64 (k : Int)))]) (fun _ => []) (fun k => l.length - k) 0 (Nat.zero_le _) (fun k hk => ?_)
  have h1 := run_le l
  have h2 := tw_get (p := wrd) l k hk
  repeat' (first | refine SX.go ?_ | refine SX.W.ite (fun h => ?_) (fun h => ?_) | refine SX.W.iteN (fun h => ?_) (fun h => ?_) | refine SX.W.iteB (fun h => ?_) (fun h => ?_) | refine SX.R.ite (fun h => ?_) (fun h => ?_) | refine SX.R.iteN (fun h => ?_) (fun h => ?_) | refine SX.R.iteB (fun h => ?_) (fun h => ?_))
  · exact W.next (k + 1) (by rw [‹wrd _ = true›] at h2; have := of_decide_eq_true (h2 (by omega)).symm; unfold run; omega) (by omega)
  · refine retI ?_
    rw [‹wrd _ = false›] at h2; have := of_decide_eq_false (h2 (by omega)).symm; unfold run at *; omega
  · refine retI ?_; omega⟩
instance con_two (l : List UInt8) : Con Try.prog 32 [.v (str l)] True (.v (.bool (decide (l = [61, 61] ∨ l = [33, 61] ∨ l = [60, 61] ∨ l = [46, 46])))) := ⟨fun hl => by
  refine PureOK.fnF Try.func32 Try.results32 Try.ntmps32 rfl rfl rfl (by simp [AV.ids, AV0.ids, Atom.ids]) rfl (fun w0 T B E0 hB => ?_)
  repeat' (first | refine SX.go ?_ | refine SX.W.ite (fun h => ?_) (fun h => ?_) | refine SX.W.iteN (fun h => ?_) (fun h => ?_) | refine SX.W.iteB (fun h => ?_) (fun h => ?_) | refine SX.R.ite (fun h => ?_) (fun h => ?_) | refine SX.R.iteN (fun h => ?_) (fun h => ?_) | refine SX.R.iteB (fun h => ?_) (fun h => ?_))
  all_goals (refine retB ?_; simp [*])⟩
/-- A text of digits alone. -/
def dig (l : List UInt8) : Bool := l.all fun c => decide (srt c = 2)
/-- Numerals. -/
def num (l : List UInt8) : Bool := decide (1 ≤ l.length ∧ l.length ≤ 2000 ∧ (l.length = 1 ∨ (byt l 0).toNat ≠ 48)) && dig l
theorem dig_step (l : List UInt8) (k : Nat) (h : k < l.length) : dig (l.drop k) = (decide (srt (byt l k) = 2) && dig (l.drop (k + 1))) := by
  rw [List.drop_eq_getElem_cons h]
  have : byt l k = l[k] := by simp [byt, h]
  rw [this]; rfl
instance con_numeral (l : List UInt8) : Con Try.prog 29 [.v (str l)] (l.length ≤ 9223372036854775807) (.v (.bool (num l))) := ⟨fun hl => by
  refine PureOK.fnF Try.func29 Try.results29 Try.ntmps29 rfl rfl rfl (by simp [AV.ids, AV0.ids, Atom.ids]) rfl (fun w0 T B E0 hB => ?_)
  repeat' (first | refine SX.go ?_ | refine SX.W.ite (fun h => ?_) (fun h => ?_) | refine SX.W.iteN (fun h => ?_) (fun h => ?_) | refine SX.W.iteB (fun h => ?_) (fun h => ?_) | refine SX.R.ite (fun h => ?_) (fun h => ?_) | refine SX.R.iteN (fun h => ?_) (fun h => ?_) | refine SX.R.iteB (fun h => ?_) (fun h => ?_))
  all_goals (first | (refine retB ?_; rw [eq_comm]; unfold num; rw [Bool.and_eq_false_iff]; refine .inl (decide_eq_false fun hn => ?_); omega) | skip)
  all_goals
    have hb : decide (1 ≤ l.length ∧ l.length ≤ 2000 ∧ (l.length = 1 ∨ (byt l 0).toNat ≠ 48)) = true := decide_eq_true (by omega)
    refine W.loop (fun k => k ≤ l.length ∧ num l = dig (l.drop k)) (fun k => [(0, .v (str l)), (23, .v (.int .i64 (l.length : Int))), (24, .v (.int .i64 (k : Int)))]) (fun _ => []) (fun k => l.length - k) 0 ⟨Nat.zero_le _, by unfold num; rw [hb]; rfl⟩ (fun k ⟨hk, hn⟩ => ?_)
    have hs := dig_step l k
    repeat' (first | refine SX.go ?_ | refine SX.W.ite (fun h => ?_) (fun h => ?_) | refine SX.W.iteN (fun h => ?_) (fun h => ?_) | refine SX.W.iteB (fun h => ?_) (fun h => ?_) | refine SX.R.ite (fun h => ?_) (fun h => ?_) | refine SX.R.iteN (fun h => ?_) (fun h => ?_) | refine SX.R.iteB (fun h => ?_) (fun h => ?_))
    · refine retB ?_
      rw [hn, hs (by omega), decide_eq_false (by omega)]; rfl
    · exact W.next (k + 1) ⟨by omega, by rw [hn, hs (by omega), decide_eq_true (by omega)]; rfl⟩ (by omega)
    · refine retB ?_
      rw [hn, List.drop_eq_nil_of_le (by omega)]; rfl⟩
/-- Names. -/
def nam (l : List UInt8) : Bool := decide (1 ≤ l.length ∧ l.length ≤ 30 ∧ srt (byt l 0) = 3 ∧ run l = l.length)
instance con_name (l : List UInt8) : Con Try.prog 30 [.v (str l)] (l.length ≤ 9223372036854775807) (.v (.bool (nam l))) := ⟨fun hl => by
  refine PureOK.fnF Try.func30 Try.results30 Try.ntmps30 rfl rfl rfl (by simp [AV.ids, AV0.ids, Atom.ids]) rfl (fun w0 T B E0 hB => ?_)
  repeat' (first | refine SX.go ?_ | refine SX.W.ite (fun h => ?_) (fun h => ?_) | refine SX.W.iteN (fun h => ?_) (fun h => ?_) | refine SX.W.iteB (fun h => ?_) (fun h => ?_) | refine SX.R.ite (fun h => ?_) (fun h => ?_) | refine SX.R.iteN (fun h => ?_) (fun h => ?_) | refine SX.R.iteB (fun h => ?_) (fun h => ?_))
  all_goals (refine retB ?_; unfold nam; first | (rw [eq_comm]; exact decide_eq_true (by omega)) | (rw [eq_comm]; exact decide_eq_false (by omega)) | (rw [decide_eq_decide]; omega))⟩
/-- Signs of one byte. -/
def sg1 (l : List UInt8) : Bool := decide (l.length = 1 ∧ byt l 0 ∈ [43, 45, 42, 47, 94, 40, 41, 91, 93, 123, 125, 44, 59, 61, 60])
theorem one_of {l : List UInt8} (h : l.length = 1) : ∃ c, l = [c] := by
  match l, h with
  | [c], _ => exact ⟨c, rfl⟩
instance con_Contains (l : List UInt8) (c : UInt8) : Con Try.prog 42 [.v (str l), .v (str [c])] True (.v (.bool (decide (0 ≤ ixb l c)))) := ⟨fun _ =>
  pureS (args := [str l, str [c]]) ⟨_, Try.func42, rfl, rfl⟩ fun w => (Try.strings_Contains_one ⟨⟨l⟩⟩ c w).mono fun e w' ⟨h1, h2⟩ => ⟨h1, h2⟩⟩
instance con_one (l : List UInt8) : Con Try.prog 31 [.v (str l)] True (.v (.bool (sg1 l))) := ⟨fun hl => by
  by_cases h1 : l.length = 1
  · obtain ⟨c, rfl⟩ := one_of h1
    refine PureOK.fnF Try.func31 Try.results31 Try.ntmps31 rfl rfl rfl (by simp [AV.ids, AV0.ids, Atom.ids]) rfl (fun w0 T B E0 hB => ?_)
    repeat' (first | refine SX.go ?_ | refine SX.W.ite (fun h => ?_) (fun h => ?_) | refine SX.W.iteN (fun h => ?_) (fun h => ?_) | refine SX.W.iteB (fun h => ?_) (fun h => ?_) | refine SX.R.ite (fun h => ?_) (fun h => ?_) | refine SX.R.iteN (fun h => ?_) (fun h => ?_) | refine SX.R.iteB (fun h => ?_) (fun h => ?_))
    all_goals (refine retB ?_; unfold sg1; rw [decide_eq_decide, ixb_mem]; simp [byt])
  · refine PureOK.fnF Try.func31 Try.results31 Try.ntmps31 rfl rfl rfl (by simp [AV.ids, AV0.ids, Atom.ids]) rfl (fun w0 T B E0 hB => ?_)
    repeat' (first | refine SX.go ?_ | refine SX.W.ite (fun h => ?_) (fun h => ?_) | refine SX.W.iteN (fun h => ?_) (fun h => ?_) | refine SX.W.iteB (fun h => ?_) (fun h => ?_) | refine SX.R.ite (fun h => ?_) (fun h => ?_) | refine SX.R.iteN (fun h => ?_) (fun h => ?_) | refine SX.R.iteB (fun h => ?_) (fun h => ?_))
    all_goals (refine retB ?_; rw [eq_comm]; exact decide_eq_false (by omega))⟩
attribute [irreducible] sg1 nam num wrd srt
end Go.Proofs.Ytaocklkbijkhpaa

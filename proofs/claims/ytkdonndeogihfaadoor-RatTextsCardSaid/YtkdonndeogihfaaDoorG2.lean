import Derived.Test.YtkdonndeogihfaaDoorG1
/- Package dec in the symbolic run: Parse, Sum, Len. -/
set_option linter.unusedVariables false
set_option linter.unusedSimpArgs false
namespace Go.Proofs.YtkdonndeogihfaaDoor
open Go.RowKit QM SX
attribute [local irreducible] IntKind.wrap Go1 Reg WP thenK inBlk retQ retF RetF RetOK ResOK CallOK OpOK Sat
/-- A digit. -/
def isD (c : UInt8) : Bool := decide (48 ≤ c.toNat ∧ c.toNat ≤ 57)
/-- Numerals. -/
def isN (l : List UInt8) : Bool := decide (1 ≤ l.length ∧ l.length ≤ 20000 ∧ (l.length = 1 ∨ (byt l 0).toNat ≠ 48)) && l.all isD
theorem all_step (p : UInt8 → Bool) (l : List UInt8) (k : Nat) (h : k < l.length) : (l.drop k).all p = (p (byt l k) && (l.drop (k + 1)).all p) := by
  rw [List.drop_eq_getElem_cons h]
  have : byt l k = l[k] := by simp [byt, h]
  rw [this]; rfl
instance con_dis (l : List UInt8) : Con Tryd.prog 74 [.v (str l)] (l.length ≤ 1000000000) (.v (.bool (isN l))) := ⟨fun hl => by
  refine PureOK.fnF Tryd.func74 Tryd.results74 Tryd.ntmps74 rfl rfl rfl (by simp [AV.ids, AV0.ids, Atom.ids]) rfl (fun w0 T B E0 hB => ?_)
  repeat' (first | refine SX.go2 ?_ | refine SX.W.ite (fun h => ?_) (fun h => ?_) | refine SX.W.iteN (fun h => ?_) (fun h => ?_) | refine SX.W.iteB (fun h => ?_) (fun h => ?_) | refine SX.R.ite (fun h => ?_) (fun h => ?_) | refine SX.R.iteN (fun h => ?_) (fun h => ?_) | refine SX.R.iteB (fun h => ?_) (fun h => ?_))
  all_goals (first | (refine retB ?_; rw [eq_comm]; unfold isN; rw [Bool.and_eq_false_iff]; refine .inl (decide_eq_false fun hn => ?_); omega) | skip)
  all_goals
    have hb : decide (1 ≤ l.length ∧ l.length ≤ 20000 ∧ (l.length = 1 ∨ (byt l 0).toNat ≠ 48)) = true := decide_eq_true (by omega)
    refine W.loop (fun k => k ≤ l.length ∧ isN l = (l.drop k).all isD) (fun k => [(0, .v (str l)), (23, .v (.int .i64 (l.length : Int))), (24, .v (.int .i64 (k : Int)))]) (fun _ => []) (fun k => l.length - k) 0 ⟨Nat.zero_le _, by unfold isN; rw [hb]; rfl⟩ (fun k ⟨hk, hn⟩ => ?_)
    have hs := all_step isD l k
    repeat' (first | refine SX.go2 ?_ | refine SX.W.ite (fun h => ?_) (fun h => ?_) | refine SX.W.iteN (fun h => ?_) (fun h => ?_) | refine SX.W.iteB (fun h => ?_) (fun h => ?_) | refine SX.R.ite (fun h => ?_) (fun h => ?_) | refine SX.R.iteN (fun h => ?_) (fun h => ?_) | refine SX.R.iteB (fun h => ?_) (fun h => ?_))
    all_goals first
      | (refine retB ?_; rw [hn, hs (by omega), show isD (byt l k) = false from decide_eq_false (by omega)]; rfl)
      | exact W.next (k + 1) ⟨by omega, by rw [hn, hs (by omega), show isD (byt l k) = true from decide_eq_true (by omega)]; rfl⟩ (by omega)
      | (refine retB ?_; rw [hn, List.drop_eq_nil_of_le (by omega)]; rfl)⟩
/-- The number of digits. -/
def dval (l : List UInt8) : Nat := l.foldl (fun n c => 10 * n + (c.toNat - 48)) 0
theorem dval_acc : ∀ (l : List UInt8) (n : Nat), l.foldl (fun n c => 10 * n + (c.toNat - 48)) n = n * 10 ^ l.length + dval l
  | [], n => by simp [dval]
  | c :: l, n => by
    have h1 := dval_acc l (10 * n + (c.toNat - 48))
    have h2 := dval_acc l (10 * 0 + (c.toNat - 48))
    unfold dval at *
    rw [List.foldl_cons, List.foldl_cons, h1, h2, List.length_cons, Nat.pow_succ]
    generalize 10 ^ l.length = p
    grind
theorem dval_app (l m : List UInt8) : dval (l ++ m) = dval l * 10 ^ m.length + dval m := by
  conv => lhs; unfold dval
  rw [List.foldl_append, dval_acc]; rfl
theorem dval_lt : ∀ {l : List UInt8}, l.all isD = true → dval l < 10 ^ l.length := by
  intro l
  induction l with
  | nil => intro _; simp [dval]
  | cons c l ih =>
    intro h
    rw [List.all_cons, Bool.and_eq_true] at h
    have h1 := ih h.2
    have h2 : 48 ≤ c.toNat ∧ c.toNat ≤ 57 := of_decide_eq_true h.1
    have := dval_acc l (10 * 0 + (c.toNat - 48))
    unfold dval
    rw [List.foldl_cons, this, List.length_cons, Nat.pow_succ]
    generalize 10 ^ l.length = p at *
    have : (10 * 0 + (c.toNat - 48)) * p ≤ 9 * p := Nat.mul_le_mul_right _ (by omega)
    omega
theorem byt_isD {l : List UInt8} (h : l.all isD = true) {i : Nat} (hi : i < l.length) : 48 ≤ (byt l i).toNat ∧ (byt l i).toNat ≤ 57 := by
  have hb : byt l i = l[i] := by simp [byt, hi]
  rw [hb]
  exact of_decide_eq_true (List.all_eq_true.1 h _ (List.getElem_mem hi))
theorem dval_snoc (l : List UInt8) (c : UInt8) : dval (l ++ [c]) = 10 * dval l + (c.toNat - 48) := by
  unfold dval; rw [List.foldl_append]; rfl
theorem take_snoc {l : List UInt8} {i : Nat} (hi : i < l.length) : l.take (i + 1) = l.take i ++ [byt l i] := by
  have hb : byt l i = l[i] := by simp [byt, hi]
  rw [List.take_add_one, List.getElem?_eq_getElem hi, hb]; rfl
theorem p18 {n : Nat} (h : n ≤ 18) : 10 ^ n ≤ 1000000000000000000 := Nat.pow_le_pow_right (n := 10) (by decide) h
theorem bd_dval {l : List UInt8} (h : l.all isD = true) : dval l < WB ^ l.length :=
  Nat.lt_of_lt_of_le (dval_lt h) (Nat.pow_le_pow_left (by rw [WB_eq]; decide) _)
attribute [local irreducible] isN dval
theorem imp_nilN : AV0.imp (.one (.c (.val (.slice none 0 0)))) (.one (.c (.sat (nrmN 0)))) := fun E S w v h => by
  rw [show v = _ from h]; exact nrmN.zero
theorem isN_all {l : List UInt8} (h : isN l = true) : l.all isD = true ∧ 1 ≤ l.length ∧ l.length ≤ 20000 := by
  unfold isN at h; rw [Bool.and_eq_true, decide_eq_true_iff] at h; exact ⟨h.2, h.1.1, h.1.2.1⟩
theorem dval_nil : dval [] = 0 := by unfold dval; rfl
theorem wrap_dig {c : UInt8} (h : 48 ≤ c.toNat ∧ c.toNat ≤ 57) : IntKind.u8.wrap ((c.toNat : Int) - 48) = ((c.toNat - 48 : Nat) : Int) := by
  rw [IntKind.wrap_u8]; omega
theorem con_Parse (l : List UInt8) (hl : l.length ≤ 1000000000) : PureOK Tryd.prog 20 [.v (str l)] (.tup [.one (.c (.sat (nrmN (if isN l = true then dval l else 0)))), .one (.c (.val (.bool (isN l))))]) := by
  cases hN : isN l with
  | false =>
    have ci := (con_dis l).h hl
    rw [hN] at ci
    refine PureOK.fnF Tryd.func20 Tryd.results20 Tryd.ntmps20 rfl rfl rfl (by simp [AV.ids, AV0.ids, Atom.ids]) rfl (fun w0 T B E0 hB => ?_)
    refine SX.go2 ?_
    exact ret2' (ResOK.tmp rfl) (ResOK.tmp rfl) (by rw [if_neg (by simp)]; exact imp_nilN) (AV0.imp.refl _)
  | true =>
    have ci := (con_dis l).h hl
    rw [hN] at ci
    obtain ⟨hD, hL1, hL⟩ := isN_all hN
    refine PureOK.fnF Tryd.func20 Tryd.results20 Tryd.ntmps20 rfl rfl rfl (by simp [AV.ids, AV0.ids, Atom.ids]) rfl (fun w0 T B E0 hB => ?_)
    refine SX.go2 ?_
    refine W.loop3 (fun (k : Nat) (n : Nat) (A : CA) => k ≤ l.length ∧ n = dval (l.take k) ∧ (k = 0 ∨ (l.length - k) % 18 = 0) ∧ ((k = 0 ∧ A = .val (.slice none 0 0)) ∨ A = .sat (nrmN n))) (fun k n A => [(0, .v (str (l.drop k))), (4, .it (.one (.c A)))]) (fun _ _ _ => []) (fun k _ _ => l.length - k) 0 0 (.val (.slice none 0 0)) ⟨Nat.zero_le _, by rw [List.take_zero, dval_nil], .inl rfl, .inl ⟨rfl, rfl⟩⟩ (fun k n A ⟨hk, hn, hk18, hA⟩ => ?_)
    have hdl : (l.drop k).length = l.length - k := List.length_drop
    by_cases hlt : k < l.length
    · obtain ⟨m, hm⟩ : ∃ m, ((l.drop k).length - 1) % 18 + 1 = m := ⟨_, rfl⟩
      have hm18 : m ≤ 18 := by omega
      have hml : m ≤ (l.drop k).length := by omega
      have hDk : (l.drop k).all isD = true := by
        rw [List.all_eq_true] at *; intro c hc; exact hD c (List.mem_of_mem_drop hc)
      have hmm : m = 18 ∨ k = 0 := by
        rcases hk18 with h | h
        · exact .inr h
        · left; omega
      have bn : BdN n k := ⟨by
        rw [hn]
        have := bd_dval (l := l.take k) (by rw [List.all_eq_true] at *; intro c hc; exact hD c (List.mem_of_mem_take hc))
        rwa [List.length_take, Nat.min_eq_left hk] at this⟩
      have hNI : NI A n k := by
        rcases hA with ⟨h0, rfl⟩ | rfl
        · have : n = 0 := by rw [hn, h0, List.take_zero, dval_nil]
          subst this; subst h0; exact NI.nil
        · infer_instance
      refine SX.go2 ?_
      refine W.loop2 (fun (i x : Nat) => i ≤ m ∧ x = dval ((l.drop k).take i)) (fun i x => [(0, .v (str (l.drop k))), (4, .it (.one (.c A))), (5, .v (.int .i64 (m : Int))), (6, .v (.int .u64 (x : Int))), (19, .v (.int .i64 (m : Int))), (20, .v (.int .i64 (i : Int)))]) (fun _ _ => []) (fun i _ => m - i) 0 0 ⟨Nat.zero_le _, by rw [List.take_zero, dval_nil]⟩ (fun i x ⟨hi, hx⟩ => ?_)
      have hxl : x < 10 ^ i := by
        have := dval_lt (l := (l.drop k).take i) (by rw [List.all_eq_true] at *; intro c hc; exact hDk c (List.mem_of_mem_take hc))
        rwa [← hx, List.length_take, Nat.min_eq_left (by omega)] at this
      by_cases hil : i < m
      · have hx17 : x < 1000000000000000000 := Nat.lt_of_lt_of_le hxl (p18 (by omega))
        have hbd := byt_isD hDk (show i < (l.drop k).length by omega)
        have hw := wrap_dig hbd
        refine SX.go2 ?_
        refine W.next2 (i + 1) (10 * x + ((byt (l.drop k) i).toNat - 48)) ⟨by omega, ?_⟩ (by omega)
        rw [take_snoc (by omega), dval_snoc, ← hx]
      · obtain rfl : i = m := by omega
        have hxw : x < WB := Nat.lt_trans (Nat.lt_of_lt_of_le hxl (p18 hm18)) (by rw [WB_eq]; decide)
        have cM : PureOK Tryd.prog 28 [.it (.one (.c A)), .v (.int .u64 1000000000000000000), .v (.int .u64 (x : Int))] (.r (nrmN (n * 1000000000000000000 + x))) := (con_MulAdd (ha := hNI) 1000000000000000000 x).h ⟨by omega, by rw [WB_eq]; decide, hxw⟩
        have ed : List.drop i (List.drop k l) = List.drop (k + i) l := by rw [List.drop_drop]
        refine SX.go2 ?_
        refine W.next3 (k + i) (n * 1000000000000000000 + x) (.sat (nrmN (n * 1000000000000000000 + x))) ⟨by omega, ?_, ?_, .inr rfl⟩ (by omega)
        · have et : l.take (k + i) = l.take k ++ (l.drop k).take i := by rw [List.take_add]
          rw [et, dval_app, ← hn, ← hx, List.length_take, Nat.min_eq_left (by omega)]
          rcases hmm with h | h
          · rw [h]
          · have : n = 0 := by rw [hn, h, List.take_zero, dval_nil]
            rw [this]; simp
        · right; omega
    · have hn' : n = dval l := by rw [hn, List.take_of_length_le (by omega)]
      have hA' : A = .sat (nrmN (dval l)) := by
        rcases hA with ⟨h0, _⟩ | h
        · omega
        · rw [h, hn']
      subst hA'
      refine SX.go2 ?_
      exact ret2' (ResOK.tmp rfl) (ResOK.tmp rfl) (by rw [if_pos rfl]; exact AV0.imp.refl _) (AV0.imp.refl _)
theorem con_Sum (l : List UInt8) (hl : l.length ≤ 1000000000) : PureOK Tryd.prog 29 [.v (str l)] (.tup [.one (.c (.val (.int .u64 ((if isN l = true then dval l % 1000000007 else 0 : Nat) : Int)))), .one (.c (.val (.bool (isN l))))]) := by
  cases hN : isN l with
  | false =>
    have ci := (con_dis l).h hl
    rw [hN] at ci
    refine PureOK.fnF Tryd.func29 Tryd.results29 Tryd.ntmps29 rfl rfl rfl (by simp [AV.ids, AV0.ids, Atom.ids]) rfl (fun w0 T B E0 hB => ?_)
    refine SX.go2 ?_
    exact ret2' (ResOK.tmp rfl) (ResOK.tmp rfl) (AV0.imp.refl _) (AV0.imp.refl _)
  | true =>
    have ci := (con_dis l).h hl
    rw [hN] at ci
    obtain ⟨hD, hL1, hL⟩ := isN_all hN
    refine PureOK.fnF Tryd.func29 Tryd.results29 Tryd.ntmps29 rfl rfl rfl (by simp [AV.ids, AV0.ids, Atom.ids]) rfl (fun w0 T B E0 hB => ?_)
    refine SX.go2 ?_
    refine W.loop2 (fun (i x : Nat) => i ≤ l.length ∧ x = dval (l.take i) % 1000000007) (fun i x => [(0, .v (str l)), (4, .v (.int .u64 (x : Int))), (10, .v (.int .i64 (l.length : Int))), (11, .v (.int .i64 (i : Int)))]) (fun _ _ => []) (fun i _ => l.length - i) 0 0 ⟨Nat.zero_le _, by rw [List.take_zero, dval_nil]⟩ (fun i x ⟨hi, hx⟩ => ?_)
    by_cases hil : i < l.length
    · have hbd := byt_isD hD hil
      have hw := wrap_dig hbd
      refine SX.go2 ?_
      refine W.next2 (i + 1) ((10 * x + ((byt l i).toNat - 48)) % 1000000007) ⟨by omega, ?_⟩ (by omega)
      rw [take_snoc hil, dval_snoc, hx]; omega
    · rw [List.take_of_length_le (by omega)] at hx
      refine SX.go2 ?_
      exact ret2' (ResOK.tmp rfl) (ResOK.tmp rfl) (AV0.imp.of_eq (SX.ci (by rw [if_pos rfl, hx]))) (AV0.imp.refl _)
end Go.Proofs.YtkdonndeogihfaaDoor

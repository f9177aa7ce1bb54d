import Derived.Test.YtkdonndeogihfaaDoorTy
import Derived.Test.YtkdonndeogihfaaDoorSb
import Derived.Test.YtkdonndeogihfaaDoorN3
/- Naturals and whole numbers in the symbolic run; the contracts of the packages nat, mul, div. -/
set_option linter.unusedVariables false
set_option linter.unusedSimpArgs false
namespace Go.Proofs.YtkdonndeogihfaaDoor
open Go.RowKit QM SX

theorem Off.ext {w w' : World} (h : Off none' w w') : Ext w w' := h.below
theorem Ext.off {S : Nat → Prop} {w w' : World} (h : Ext w w') : Off S w w' := Off.of_below h
/-- A slice of words. -/
def rawN (l : List Nat) : Rep where
  has S w v := Sm WB l ∧ (sliceR 1 l.length (l.map fun x : Nat => .val (.int .u64 (x : Int)))).has S w v
  one h := (sliceR _ _ _).one h.2
  step h ho hs := ⟨h.1, (sliceR _ _ _).step h.2 ho hs⟩
theorem rawN.rn {l : List Nat} {S : Nat → Prop} {w : World} {v : Value} (h : (rawN l).has S w v) : RN w v l := by
  obtain ⟨hs, h⟩ := h
  obtain ⟨oa, cap, h1, h2, h3, h4, h5, h6⟩ := sliceR_iff.1 h
  refine ⟨oa, cap, h1, h2, h3, h4, hs, fun i hi => ?_⟩
  obtain ⟨b, o, u, e1, e2, e3, e4⟩ := h6 i (.val (.int .u64 ((gd l i : Nat) : Int))) (by simp [gd, List.getD_eq_getElem?_getD, hi])
  exact ⟨b, o, e1, by rw [e3, show u = _ from e4]⟩
/-- A normal natural. -/
def nrmN (n : Nat) : Rep where
  has S w v := ∃ l, Nrm l ∧ nval WB l = n ∧ (l = [] → v = .slice none 0 0) ∧ (rawN l).has S w v
  one h := by obtain ⟨l, _, _, _, h⟩ := h; exact (rawN l).one h
  step h ho hs := by obtain ⟨l, h1, h2, h3, h⟩ := h; exact ⟨l, h1, h2, h3, (rawN l).step h ho hs⟩
theorem nrmN.nn {n : Nat} {S : Nat → Prop} {w : World} {v : Value} (h : (nrmN n).has S w v) : NN w v n := by
  obtain ⟨l, h1, h2, h3, h4⟩ := h
  exact ⟨l, rawN.rn h4, h1, h2, h3⟩
theorem nrmN.of_on {n base : Nat} {S : Nat → Prop} {w : World} {v : Value} (h : ON base w v n) (hS : ∀ k, S k → k < base) : (nrmN n).has S w v := by
  obtain ⟨l, h1, h2, h3, h4, h5⟩ := h
  refine ⟨l, h3, h4, h5, h2, ?_⟩
  rcases h1.2 with ⟨rfl, h0⟩ | ⟨g, cap, cur, rfl, hb, hg, hn, hm, hcs, htk⟩
  · have hl : l = [] := List.eq_nil_of_length_eq_zero h0
    subst hl
    exact sliceR_iff.2 ⟨none, 0, rfl, Nat.le_refl _, by simp [maxLen], fun _ => rfl, by simp, fun i c hc => by simp at hc⟩
  · refine sliceR_iff.2 ⟨some ⟨g, 0, none⟩, cap, rfl, hn, hm, fun e => (by cases e), by simp, fun i c hc => ?_⟩
    have hi : i < l.length := by have := (List.getElem?_eq_some_iff.1 hc).1; simpa using this
    refine ⟨g, 0, .int .u64 ((gd l i : Nat) : Int), rfl, fun h => by have := hS g h; omega, ?_, ?_⟩
    · rw [Nat.zero_add, h1.cellAt i (by omega)]
      simp [wv, List.getElem?_map, List.getElem?_eq_getElem hi, gd, List.getD_eq_getElem?_getD]
    · simp [List.getElem?_map, List.getElem?_eq_getElem hi] at hc
      subst hc
      simp [CA.has, gd, List.getD_eq_getElem?_getD, hi]
theorem nrmN.zero {S : Nat → Prop} {w : World} : (nrmN 0).has S w (.slice none 0 0) :=
  ⟨[], Nrm.nil, rfl, fun _ => rfl, Sm.nil, sliceR_iff.2 ⟨none, 0, rfl, Nat.le_refl _, by simp [maxLen], fun _ => rfl, by simp, fun i c hc => by simp at hc⟩⟩
/-- The normal words of a natural. -/
def wdsB (B : Nat) : Nat → Nat → List Nat
  | 0, _ => []
  | _ + 1, 0 => []
  | f + 1, n + 1 => ((n + 1) % B) :: wdsB B f ((n + 1) / B)
theorem wdsB_spec {B : Nat} (hB : 1 < B) : ∀ (f n : Nat), n ≤ f → Sm B (wdsB B f n) ∧ nval B (wdsB B f n) = n ∧ Nrm (wdsB B f n)
  | 0, n, h => by
    have : n = 0 := by omega
    subst this
    exact ⟨Sm.nil, rfl, Nrm.nil⟩
  | f + 1, 0, _ => ⟨Sm.nil, rfl, Nrm.nil⟩
  | f + 1, n + 1, h => by
    have hlt : (n + 1) / B < n + 1 := Nat.div_lt_self (by omega) hB
    obtain ⟨h1, h2, h3⟩ := wdsB_spec hB f ((n + 1) / B) (by omega)
    have hv : nval B (wdsB B (f + 1) (n + 1)) = n + 1 := by
      show (n + 1) % B + B * nval B (wdsB B f ((n + 1) / B)) = n + 1
      rw [h2]; exact Nat.mod_add_div _ _
    refine ⟨h1.cons (Nat.mod_lt _ (by omega)), hv, .inr ?_⟩
    have hc : wdsB B (f + 1) (n + 1) = (n + 1) % B :: wdsB B f ((n + 1) / B) := rfl
    rw [hc]
    generalize wdsB B f ((n + 1) / B) = l at *
    rcases h3 with h3 | h3
    · subst h3
      have h5 : (n + 1) / B = 0 := h2.symm
      have : (n + 1) % B = n + 1 := by have := Nat.mod_add_div (n + 1) B; rw [h5] at this; simpa using this
      simp [this]
    · have h6 : l.length ≠ 0 := by
        intro h0
        rw [List.eq_nil_of_length_eq_zero h0] at h3
        simp at h3
      obtain ⟨m, hm⟩ : ∃ m, l.length = m + 1 := ⟨l.length - 1, by omega⟩
      rw [hm] at h3
      simp only [List.length_cons, hm, Nat.add_sub_cancel, List.getD_eq_getElem?_getD, List.getElem?_cons_succ] at *
      exact h3
def wds (n : Nat) : List Nat := wdsB WB n n
theorem wds_sm (n : Nat) : Sm WB (wds n) := (wdsB_spec WB_one n n (Nat.le_refl n)).1
theorem wds_val (n : Nat) : nval WB (wds n) = n := (wdsB_spec WB_one n n (Nat.le_refl n)).2.1
theorem wds_nrm (n : Nat) : Nrm (wds n) := (wdsB_spec WB_one n n (Nat.le_refl n)).2.2
theorem wds_uniq {l : List Nat} (hs : Sm WB l) (hn : Nrm l) : l = wds (nval WB l) := nval_inj WB_pos hs (wds_sm _) hn (wds_nrm _) (wds_val _).symm
theorem wds_len {n k : Nat} (h : n < WB ^ k) : (wds n).length ≤ k := (wds_nrm n).len_le WB_pos (by rw [wds_val]; exact h)
theorem wds_zero (n : Nat) : (wds n).length = 0 ↔ n = 0 := by
  constructor
  · intro h; have := wds_val n; rw [List.eq_nil_of_length_eq_zero h] at this; exact this.symm
  · intro h; subst h; rfl
instance (l : List Nat) : AsSlice (rawN l) 1 l.length (l.map fun x : Nat => .val (.int .u64 (x : Int))) := ⟨fun _ _ _ h => h.2⟩
instance (n : Nat) : AsSlice (nrmN n) 1 (wds n).length ((wds n).map fun x : Nat => .val (.int .u64 (x : Int))) := ⟨fun _ _ _ h => by
  obtain ⟨l, h1, h2, _, h4⟩ := h
  have := wds_uniq h4.1 h1
  rw [h2] at this
  rw [← this]; exact h4.2⟩
/-- A bound on a number's words. -/
class Bd (z : Int) (k : outParam Nat) : Prop where
  h : z.natAbs < WB ^ k
/-- A natural of so many words at most, normal or not. -/
def natR (n k : Nat) : Rep where
  has S w v := ∃ l, nval WB l = n ∧ l.length ≤ k ∧ (rawN l).has S w v
  one h := by obtain ⟨l, _, _, h⟩ := h; exact (rawN l).one h
  step h ho hs := by obtain ⟨l, h1, h2, h⟩ := h; exact ⟨l, h1, h2, (rawN l).step h ho hs⟩
/-- A cell that holds a natural, normal or not. -/
class NI (a : CA) (n : outParam Nat) (k : outParam Nat) : Prop where
  p : ∀ S w v, a.has S w v → (natR n k).has S w v
theorem NI.h {a : CA} {n k : Nat} (x : NI a n k) : ∀ S w v, a.has S w v → ∃ l, RN w v l ∧ nval WB l = n ∧ l.length ≤ k := fun S w v h => by
  obtain ⟨l, h1, h2, h3⟩ := x.p S w v h
  exact ⟨l, rawN.rn h3, h1, h2⟩
instance NI.nat (n k : Nat) : NI (.sat (natR n k)) n k := ⟨fun _ _ _ h => h⟩
instance NI.raw (l : List Nat) : NI (.sat (rawN l)) (nval WB l) l.length := ⟨fun S w v h => ⟨l, rfl, Nat.le_refl _, h⟩⟩
instance NI.nil : NI (.val (.slice none 0 0)) 0 0 := ⟨fun S w v h => by
  rw [show v = _ from h]
  exact ⟨[], rfl, Nat.le_refl _, Sm.nil, sliceR_iff.2 ⟨none, 0, rfl, Nat.le_refl _, by simp [maxLen], fun _ => rfl, by simp, fun i c hc => by simp at hc⟩⟩⟩
theorem NI.nrm' {n k : Nat} (hk : n < WB ^ k) : NI (.sat (nrmN n)) n k := ⟨fun S w v h => by
  obtain ⟨l, h1, h2, _, h4⟩ := h
  exact ⟨l, h2, h1.len_le WB_pos (by rw [h2]; exact hk), h4⟩⟩
/-- The same of a natural. -/
class BdN (n : Nat) (k : outParam Nat) : Prop where
  h : n < WB ^ k
instance NI.nrm (n k : Nat) [h : BdN n k] : NI (.sat (nrmN n)) n k := NI.nrm' h.h
instance BdN.abs (z : Int) (k : Nat) [h : Bd z k] : BdN z.natAbs k := ⟨h.h⟩
theorem WB_one_le (k : Nat) : 1 ≤ WB ^ k := Nat.one_le_pow k WB WB_pos
theorem Bd.mono {z : Int} {k m : Nat} (h : z.natAbs < WB ^ k) (hm : k ≤ m) : z.natAbs < WB ^ m := Nat.lt_of_lt_of_le h (Nat.pow_le_pow_right WB_pos hm)
theorem pow_sum_le (k m : Nat) : WB ^ k + WB ^ m ≤ WB ^ (k + m) + 1 := by
  have h1 := WB_one_le k
  have h2 := WB_one_le m
  rw [Nat.pow_add]
  generalize WB ^ k = a at *
  generalize WB ^ m = b at *
  obtain ⟨a, rfl⟩ : ∃ a', a = a' + 1 := ⟨a - 1, by omega⟩
  obtain ⟨b, rfl⟩ : ∃ b', b = b' + 1 := ⟨b - 1, by omega⟩
  rw [Nat.add_mul, Nat.mul_add]
  have : 0 ≤ a * b := Nat.zero_le _
  omega
theorem bd_add {x y : Int} {k m : Nat} (hx : x.natAbs < WB ^ k) (hy : y.natAbs < WB ^ m) : (x + y).natAbs < WB ^ (k + m + 1) := by
  have h1 := pow_sum_le k m
  have h2 : WB ^ (k + m) * 2 ≤ WB ^ (k + m + 1) := by rw [Nat.pow_succ]; exact Nat.mul_le_mul_left _ (by decide)
  have h3 := WB_one_le (k + m)
  omega
instance Bd.add (x y : Int) (k m : Nat) [hx : Bd x k] [hy : Bd y m] : Bd (x + y) (k + m + 1) := ⟨bd_add hx.h hy.h⟩
instance Bd.sub (x y : Int) (k m : Nat) [hx : Bd x k] [hy : Bd y m] : Bd (x - y) (k + m + 1) := ⟨by rw [Int.sub_eq_add_neg]; exact bd_add hx.h (by rw [Int.natAbs_neg]; exact hy.h)⟩
instance Bd.neg (x : Int) (k : Nat) [hx : Bd x k] : Bd (-x) k := ⟨by rw [Int.natAbs_neg]; exact hx.h⟩
instance Bd.mul (x y : Int) (k m : Nat) [hx : Bd x k] [hy : Bd y m] : Bd (x * y) (k + m) := ⟨by
  rw [Int.natAbs_mul, Nat.pow_add]
  exact Nat.mul_lt_mul_of_lt_of_le hx.h (Nat.le_of_lt hy.h) (WB_one_le m)⟩
theorem bdn_add {x y : Nat} {k m : Nat} (hx : x < WB ^ k) (hy : y < WB ^ m) : x + y < WB ^ (k + m + 1) := by
  have := bd_add (x := (x : Int)) (y := (y : Int)) (k := k) (m := m) (by simpa using hx) (by simpa using hy)
  omega
instance BdN.add (x y k m : Nat) [hx : BdN x k] [hy : BdN y m] : BdN (x + y) (k + m + 1) := ⟨bdn_add hx.h hy.h⟩
instance BdN.mul (x y k m : Nat) [hx : BdN x k] [hy : BdN y m] : BdN (x * y) (k + m) := ⟨by
  rw [Nat.pow_add]
  exact Nat.mul_lt_mul_of_lt_of_le hx.h (Nat.le_of_lt hy.h) (WB_one_le m)⟩
instance BdN.sub (x y k : Nat) [hx : BdN x k] : BdN (x - y) k := ⟨Nat.lt_of_le_of_lt (Nat.sub_le _ _) hx.h⟩
instance BdN.div (x y k : Nat) [hx : BdN x k] : BdN (x / y) k := ⟨Nat.lt_of_le_of_lt (Nat.div_le_self _ _) hx.h⟩
instance BdN.mod (x y k : Nat) [hx : BdN x k] : BdN (x % y) k := ⟨Nat.lt_of_le_of_lt (Nat.mod_le _ _) hx.h⟩
instance BdN.zero : BdN 0 0 := ⟨by simp⟩
instance BdN.ite (c : Prop) [Decidable c] (x k : Nat) [hx : BdN x k] : BdN (if c then 0 else x) k := ⟨by split; exact Nat.lt_of_lt_of_le (by decide) (WB_one_le k); exact hx.h⟩
instance BdN.gcd (x y k m : Nat) [hx : BdN x k] [hy : BdN y m] : BdN (Nat.gcd x y) (k + m) := ⟨by
  rcases Nat.eq_zero_or_pos x with h0 | h0
  · subst h0
    rw [Nat.gcd_zero_left]
    exact Nat.lt_of_lt_of_le hy.h (Nat.pow_le_pow_right WB_pos (by omega))
  · exact Nat.lt_of_le_of_lt (Nat.gcd_le_left y h0) (Nat.lt_of_lt_of_le hx.h (Nat.pow_le_pow_right WB_pos (by omega)))⟩
instance Bd.nat (n k : Nat) [h : BdN n k] : Bd (n : Int) k := ⟨by simpa using h.h⟩
instance Bd.zero : Bd 0 0 := ⟨by simp⟩
instance Bd.one : Bd 1 1 := ⟨by simp [WB]⟩
instance Bd.negOne : Bd (-1) 1 := ⟨by simp [WB]⟩
theorem bd_i64 (x : Int) (h1 : -9223372036854775808 ≤ x) (h2 : x ≤ 9223372036854775807) : x.natAbs < WB ^ 1 := by rw [Nat.pow_one, WB_eq]; omega

section
variable {a b : CA} {x y k m : Nat}
/-- The plain contract of two naturals as a rule's. -/
theorem nat2 {f : FuncId} {r : Nat} [ha : NI a x k] [hb : NI b y m] (he : ∃ fn, Tryd.prog.funcs[f]? = some fn ∧ (fn.name == "runtime.NumGoroutine") = false ∧ fn.body.isNone = false)
    (h : ∀ w va vb la lb, RN w va la → RN w vb lb → nval WB la = x → nval WB lb = y → la.length ≤ k → lb.length ≤ m → Calls Tryd.prog f #[va, vb] w fun e w' => (∃ v, e = .returned v ∧ ON w.heap.size w' v r) ∧ Ext w w') :
    PureOK Tryd.prog f [.it (.one (.c a)), .it (.one (.c b))] (.r (nrmN r)) :=
  PureOK.of_calls he rfl fun E S w vs hl hv => by
    match vs, hv with
    | [va, vb], ⟨h1, h2, _⟩ =>
      obtain ⟨la, ra, ea, ka⟩ := ha.h S w va h1
      obtain ⟨lb, rb, eb, kb⟩ := hb.h S w vb h2
      refine (h w va vb la lb ra rb ea eb ka kb).mono ?_
      rintro e w' ⟨⟨v, rfl, ho⟩, hx⟩
      exact ⟨v, rfl, nrmN.of_on ho hl, Off.of_below hx⟩
theorem nat1 {f : FuncId} {r : Nat} [ha : NI a x k] (he : ∃ fn, Tryd.prog.funcs[f]? = some fn ∧ (fn.name == "runtime.NumGoroutine") = false ∧ fn.body.isNone = false)
    (h : ∀ w va la, RN w va la → nval WB la = x → la.length ≤ k → Calls Tryd.prog f #[va] w fun e w' => (∃ v, e = .returned v ∧ ON w.heap.size w' v r) ∧ Ext w w') :
    PureOK Tryd.prog f [.it (.one (.c a))] (.r (nrmN r)) :=
  PureOK.of_calls he rfl fun E S w vs hl hv => by
    match vs, hv with
    | [va], ⟨h1, _⟩ =>
      obtain ⟨la, ra, ea, ka⟩ := ha.h S w va h1
      refine (h w va la ra ea ka).mono ?_
      rintro e w' ⟨⟨v, rfl, ho⟩, hx⟩
      exact ⟨v, rfl, nrmN.of_on ho hl, Off.of_below hx⟩
theorem nNorm [ha : NI a x k] (hk : k ≤ 1099511627775) : PureOK Tryd.prog 25 [.it (.one (.c a))] (.r (nrmN x)) :=
  nat1 ⟨_, Tryd.func25, rfl, rfl⟩ fun w va la h1 h2 h3 => by subst h2; exact Norm_any h1 (by omega)
theorem nAdd [ha : NI a x k] [hb : NI b y m] (hk : k + m ≤ 1099511627775) : PureOK Tryd.prog 93 [.it (.one (.c a)), .it (.one (.c b))] (.r (nrmN (x + y))) :=
  nat2 ⟨_, Tryd.func93, rfl, rfl⟩ fun w va vb la lb h1 h2 h3 h4 h5 h6 => by subst h3 h4; exact Add_any h1 h2 (by omega) (by omega)
theorem mMul [ha : NI a x k] [hb : NI b y m] (hk : k + m ≤ 274877906944) : PureOK Tryd.prog 91 [.it (.one (.c a)), .it (.one (.c b))] (.r (nrmN (x * y))) :=
  nat2 ⟨_, Tryd.func91, rfl, rfl⟩ fun w va vb la lb h1 h2 h3 h4 h5 h6 => by subst h3 h4; exact Mul_any h1 h2 (by omega) (by omega)
theorem dGcd [ha : NI a x k] [hb : NI b y m] (hk : k + m ≤ 1099511627770) : PureOK Tryd.prog 112 [.it (.one (.c a)), .it (.one (.c b))] (.r (nrmN (Nat.gcd x y))) :=
  nat2 ⟨_, Tryd.func112, rfl, rfl⟩ fun w va vb la lb h1 h2 h3 h4 h5 h6 => by subst h3 h4; exact Gcd_any h1 h2 hk (by omega) (by omega)
theorem nOf (x : Nat) (hx : x < WB) : PureOK Tryd.prog 89 [.v (.int .u64 (x : Int))] (.r (nrmN x)) :=
  PureOK.of_calls ⟨_, Tryd.func89, rfl, rfl⟩ rfl fun E S w vs hl hv => by
    match vs, hv with
    | [va], ⟨h1, _⟩ =>
      have h1' : va = .int .u64 (x : Int) := h1
      subst h1'
      refine (Of_own x hx w).mono ?_
      rintro e w' ⟨⟨v, rfl, ho⟩, hx⟩
      exact ⟨v, rfl, nrmN.of_on ho hl, Off.of_below hx⟩
theorem nCmp [ha : NI a x k] [hb : NI b y m] (hk : k + m ≤ 1099511627775) : PureOK Tryd.prog 27 [.it (.one (.c a)), .it (.one (.c b))] (.v (.int .i64 (cmpI x y))) :=
  PureOK.of_calls ⟨_, Tryd.func27, rfl, rfl⟩ rfl fun E S w vs hl hv => by
    match vs, hv with
    | [va, vb], ⟨h1, h2, _⟩ =>
      obtain ⟨la, ra, ea, ka⟩ := ha.h S w va h1
      obtain ⟨lb, rb, eb, kb⟩ := hb.h S w vb h2
      subst ea eb
      refine (Cmp_any ra rb (by omega) (by omega)).mono ?_
      rintro e w' ⟨rfl, hx⟩
      exact ⟨_, rfl, rfl, Off.of_below hx⟩
theorem nBits [ha : NI a x k] (hk : k ≤ 1099511627775) : PureOK Tryd.prog 26 [.it (.one (.c a))] (.v (.int .i64 (bitLen x : Int))) :=
  PureOK.of_calls ⟨_, Tryd.func26, rfl, rfl⟩ rfl fun E S w vs hl hv => by
    match vs, hv with
    | [va], ⟨h1, _⟩ =>
      obtain ⟨la, ra, ea, ka⟩ := ha.h S w va h1
      subst ea
      refine (Bits_any ra (by omega)).mono ?_
      rintro e w' ⟨rfl, rfl⟩
      exact ⟨_, rfl, rfl, Off.refl _ _⟩
theorem nWord [ha : NI a x k] (hk : k ≤ 1099511627775) : PureOK Tryd.prog 106 [.it (.one (.c a))] (.tup [.one (.c (.val (.int .u64 ((if x < WB then x else 0 : Nat) : Int)))), .one (.c (.val (.bool (decide (x < WB)))))]) :=
  PureOK.of_calls ⟨_, Tryd.func106, rfl, rfl⟩ rfl fun E S w vs hl hv => by
    match vs, hv with
    | [va], ⟨h1, _⟩ =>
      obtain ⟨la, ra, ea, ka⟩ := ha.h S w va h1
      subst ea
      refine (Word_any ra (by omega)).mono ?_
      rintro e w' ⟨rfl, rfl⟩
      exact ⟨_, rfl, ⟨[_, _], rfl, rfl, rfl, trivial⟩, Off.refl _ _⟩
theorem nSub [ha : NI a x k] [hb : NI b y m] (hk : k + m ≤ 1099511627775) : PureOK Tryd.prog 94 [.it (.one (.c a)), .it (.one (.c b))] (.tup [.one (.c (.sat (nrmN (x - y)))), .one (.c (.val (.bool (decide (y ≤ x)))))]) :=
  PureOK.of_calls ⟨_, Tryd.func94, rfl, rfl⟩ rfl fun E S w vs hl hv => by
    match vs, hv with
    | [va, vb], ⟨h1, h2, _⟩ =>
      obtain ⟨la, ra, ea, ka⟩ := ha.h S w va h1
      obtain ⟨lb, rb, eb, kb⟩ := hb.h S w vb h2
      subst ea eb
      rcases Nat.lt_or_ge (nval WB la) (nval WB lb) with hlt | hge
      · refine (Sub_less ra rb (by omega) (by omega) hlt).mono ?_
        rintro e w' ⟨rfl, hx⟩
        refine ⟨_, rfl, ⟨[_, _], rfl, ?_, ?_, trivial⟩, Off.of_below hx⟩
        · show (nrmN _).has _ _ _
          rw [Nat.sub_eq_zero_of_le (by omega)]; exact nrmN.zero
        · show _ = _
          rw [decide_eq_false (by omega)]
      · refine (Sub_ge ra rb (by omega) (by omega) hge).mono ?_
        rintro e w' ⟨⟨v, rfl, ho⟩, hx⟩
        refine ⟨_, rfl, ⟨[_, _], rfl, nrmN.of_on ho hl, ?_, trivial⟩, Off.of_below hx⟩
        show _ = _
        rw [decide_eq_true hge]
/-- What a division answers, by 0 too. -/
theorem dDivMod [ha : NI a x k] [hb : NI b y m] (hk : k + m ≤ 1099511627770) : PureOK Tryd.prog 90 [.it (.one (.c a)), .it (.one (.c b))] (.tup [.one (.c (.sat (nrmN (x / y)))), .one (.c (.sat (nrmN (if y = 0 then 0 else x % y)))), .one (.c (.val (.bool (decide (y ≠ 0)))))]) :=
  PureOK.of_calls ⟨_, Tryd.func90, rfl, rfl⟩ rfl fun E S w vs hl hv => by
    match vs, hv with
    | [va, vb], ⟨h1, h2, _⟩ =>
      obtain ⟨la, ra, ea, ka⟩ := ha.h S w va h1
      obtain ⟨lb, rb, eb, kb⟩ := hb.h S w vb h2
      subst ea eb
      by_cases h0 : nval WB lb = 0
      · refine (DivMod_zero ra rb (by omega) (by omega) h0).mono ?_
        rintro e w' ⟨rfl, hx⟩
        rw [h0]
        exact ⟨_, rfl, ⟨[_, _, _], rfl, by show (nrmN _).has _ _ _; rw [Nat.div_zero]; exact nrmN.zero, nrmN.zero, rfl, trivial⟩, Off.of_below hx⟩
      · refine (DivMod_pos ra rb (by omega) (by omega) (Nat.pos_of_ne_zero h0)).mono ?_
        rintro e w' ⟨⟨vq, vr, rfl, hq, hr⟩, hx⟩
        refine ⟨_, rfl, ⟨[_, _, _], rfl, nrmN.of_on hq hl, ?_, ?_, trivial⟩, Off.of_below hx⟩
        · rw [if_neg h0]; exact nrmN.of_on hr hl
        · show _ = _
          rw [decide_eq_true h0]
theorem dSmall [ha : NI a x k] (y : Nat) (hy : y < WB) (hk : k ≤ 1099511627770) : PureOK Tryd.prog 30 [.it (.one (.c a)), .v (.int .u64 (y : Int))] (.tup [.one (.c (.sat (nrmN (x / y)))), .one (.c (.val (.int .u64 ((if y = 0 then 0 else x % y : Nat) : Int)))), .one (.c (.val (.bool (decide (y ≠ 0)))))]) :=
  PureOK.of_calls ⟨_, Tryd.func30, rfl, rfl⟩ rfl fun E S w vs hl hv => by
    match vs, hv with
    | [va, vb], ⟨h1, h2, _⟩ =>
      obtain ⟨la, ra, ea, ka⟩ := ha.h S w va h1
      have h2' : vb = .int .u64 (y : Int) := h2
      subst ea h2'
      by_cases h0 : y = 0
      · subst h0
        refine (Small_zero va w).mono ?_
        rintro e w' ⟨rfl, rfl⟩
        exact ⟨_, rfl, ⟨[_, _, _], rfl, by show (nrmN _).has _ _ _; rw [Nat.div_zero]; exact nrmN.zero, rfl, rfl, trivial⟩, Off.refl _ _⟩
      · refine (Small_any ra (by omega) (Nat.pos_of_ne_zero h0) hy).mono ?_
        rintro e w' ⟨⟨v, rfl, ho⟩, hx⟩
        refine ⟨_, rfl, ⟨[_, _, _], rfl, nrmN.of_on ho hl, ?_, ?_, trivial⟩, Off.of_below hx⟩
        · show _ = _
          rw [if_neg h0]
        · show _ = _
          rw [decide_eq_true h0]
end
theorem rawN_iff {l : List Nat} {S : Nat → Prop} {w : World} {v : Value} : (rawN l).has S w v ↔ Sm WB l ∧ (sliceR 1 l.length (l.map fun x : Nat => .val (.int .u64 (x : Int)))).has S w v := Iff.rfl
theorem natR_iff {n k : Nat} {S : Nat → Prop} {w : World} {v : Value} : (natR n k).has S w v ↔ ∃ l, nval WB l = n ∧ l.length ≤ k ∧ (rawN l).has S w v := Iff.rfl
theorem nrmN_iff {n : Nat} {S : Nat → Prop} {w : World} {v : Value} : (nrmN n).has S w v ↔ ∃ l, Nrm l ∧ nval WB l = n ∧ (l = [] → v = .slice none 0 0) ∧ (rawN l).has S w v := Iff.rfl
attribute [irreducible] natR rawN nrmN wds
end Go.Proofs.YtkdonndeogihfaaDoor

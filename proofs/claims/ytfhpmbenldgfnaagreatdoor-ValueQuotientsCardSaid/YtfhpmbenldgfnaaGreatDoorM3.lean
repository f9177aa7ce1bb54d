import Derived.Test.YtfhpmbenldgfnaaGreatDoorM6
import Derived.Test.YtfhpmbenldgfnaaGreatDoorM0
import Derived.Test.YtfhpmbenldgfnaaGreatDoorM10
import Derived.Test.YtfhpmbenldgfnaaGreatDoorM1
import Derived.Test.YtfhpmbenldgfnaaGreatDoorM11
import Derived.Test.YtfhpmbenldgfnaaGreatDoorM2
/- Naturals and whole numbers in the symbolic run; the contracts of the packages nat, mul, div. -/
set_option linter.unusedVariables false
set_option linter.unusedSimpArgs false
namespace Go.Proofs.YtfhpmbenldgfnaaGreatDoor
open Go.RowKit QM SX

/-- A slice of words. -/
def rawN (l : List Nat) : Rep where
  has S w v := Sm WB l ∧ (sliceR 1 l.length (l.map fun x : Nat => .val (.int .u64 (x : Int)))).has S w v
  one h := (sliceR _ _ _).one h.2
  step h ho hs := ⟨h.1, (sliceR _ _ _).step h.2 ho hs⟩
theorem rawN.rn {l : List Nat} {S : Nat → Prop} {w : World} {v : Value} (h : (rawN l).has S w v) : RN w v l := by
  obtain ⟨hs, h⟩ := h
  obtain ⟨oa, cap, h1, h2, h3, h4, h5, h6⟩ := sliceR_iff.1 h
  refine ⟨oa, cap, h1, h2, h3, h4, hs, fun i hi => ?_⟩
  obtain ⟨b, o, u, e1, e2, e3, e4⟩ := h6 i (.val (.int .u64 ((gd l i : Nat) : Int))) (by simp [gd, List.getD_eq_getElem?_getD, hi])
  exact ⟨b, o, e1, by rw [e3, show u = _ from e4]⟩
/-- A normal natural. -/
def nrmN (n : Nat) : Rep where
  has S w v := ∃ l, Nrm l ∧ nval WB l = n ∧ (l = [] → v = .slice none 0 0) ∧ (rawN l).has S w v
  one h := by obtain ⟨l, _, _, _, h⟩ := h; exact (rawN l).one h
  step h ho hs := by obtain ⟨l, h1, h2, h3, h⟩ := h; exact ⟨l, h1, h2, h3, (rawN l).step h ho hs⟩
theorem nrmN.of_on {n base : Nat} {S : Nat → Prop} {w : World} {v : Value} (h : ON base w v n) (hS : ∀ k, S k → k < base) : (nrmN n).has S w v := by
  obtain ⟨l, h1, h2, h3, h4, h5⟩ := h
  refine ⟨l, h3, h4, h5, h2, ?_⟩
  rcases h1.2 with ⟨rfl, h0⟩ | ⟨g, cap, cur, rfl, hb, hg, hn, hm, hcs, htk⟩
  · have hl : l = [] := List.eq_nil_of_length_eq_zero h0
    subst hl
    exact sliceR_iff.2 ⟨none, 0, rfl, Nat.le_refl _, by simp [maxLen], fun _ => rfl, by simp, fun i c hc => by simp at hc⟩
  · refine sliceR_iff.2 ⟨some ⟨g, 0, none⟩, cap, rfl, hn, hm, fun e => (by cases e), by simp, fun i c hc => ?_⟩
    have hi : i < l.length := by have := (List.getElem?_eq_some_iff.1 hc).1; simpa using this
    refine ⟨g, 0, .int .u64 ((gd l i : Nat) : Int), rfl, fun h => by have := hS g h; omega, ?_, ?_⟩
    · rw [Nat.zero_add, h1.cellAt i (by omega)]
      simp [wv, List.getElem?_map, List.getElem?_eq_getElem hi, gd, List.getD_eq_getElem?_getD]
    · simp [List.getElem?_map, List.getElem?_eq_getElem hi] at hc
      subst hc
      simp [CA.has, gd, List.getD_eq_getElem?_getD, hi]
theorem nrmN.zero {S : Nat → Prop} {w : World} : (nrmN 0).has S w (.slice none 0 0) :=
  ⟨[], Nrm.nil, rfl, fun _ => rfl, Sm.nil, sliceR_iff.2 ⟨none, 0, rfl, Nat.le_refl _, by simp [maxLen], fun _ => rfl, by simp, fun i c hc => by simp at hc⟩⟩
/-- The normal words of a natural. -/
def wdsB (B : Nat) : Nat → Nat → List Nat
  | 0, _ => []
  | _ + 1, 0 => []
  | f + 1, n + 1 => ((n + 1) % B) :: wdsB B f ((n + 1) / B)
theorem wdsB_spec {B : Nat} (hB : 1 < B) : ∀ (f n : Nat), n ≤ f → Sm B (wdsB B f n) ∧ nval B (wdsB B f n) = n ∧ Nrm (wdsB B f n)
  | 0, n, h => by
    have : n = 0 := by omega
    subst this
    exact ⟨Sm.nil, rfl, Nrm.nil⟩
  | f + 1, 0, _ => ⟨Sm.nil, rfl, Nrm.nil⟩
  | f + 1, n + 1, h => by
    have hlt : (n + 1) / B < n + 1 := Nat.div_lt_self (by omega) hB
    obtain ⟨h1, h2, h3⟩ := wdsB_spec hB f ((n + 1) / B) (by omega)
    have hv : nval B (wdsB B (f + 1) (n + 1)) = n + 1 := by
      show (n + 1) % B + B * nval B (wdsB B f ((n + 1) / B)) = n + 1
      rw [h2]; exact Nat.mod_add_div _ _
    refine ⟨h1.cons (Nat.mod_lt _ (by omega)), hv, .inr ?_⟩
    have hc : wdsB B (f + 1) (n + 1) = (n + 1) % B :: wdsB B f ((n + 1) / B) := rfl
    rw [hc]
    generalize wdsB B f ((n + 1) / B) = l at *
    rcases h3 with h3 | h3
    · subst h3
      have h5 : (n + 1) / B = 0 := h2.symm
      have : (n + 1) % B = n + 1 := by have := Nat.mod_add_div (n + 1) B; rw [h5] at this; simpa using this
      simp [this]
    · have h6 : l.length ≠ 0 := by
        intro h0
        rw [List.eq_nil_of_length_eq_zero h0] at h3
        simp at h3
      obtain ⟨m, hm⟩ : ∃ m, l.length = m + 1 := ⟨l.length - 1, by omega⟩
      rw [hm] at h3
      simp only [List.length_cons, hm, Nat.add_sub_cancel, List.getD_eq_getElem?_getD, List.getElem?_cons_succ] at *
      exact h3
def wds (n : Nat) : List Nat := wdsB WB n n
theorem wds_sm (n : Nat) : Sm WB (wds n) := (wdsB_spec WB_one n n (Nat.le_refl n)).1
theorem wds_val (n : Nat) : nval WB (wds n) = n := (wdsB_spec WB_one n n (Nat.le_refl n)).2.1
theorem wds_nrm (n : Nat) : Nrm (wds n) := (wdsB_spec WB_one n n (Nat.le_refl n)).2.2
theorem wds_uniq {l : List Nat} (hs : Sm WB l) (hn : Nrm l) : l = wds (nval WB l) := nval_inj WB_pos hs (wds_sm _) hn (wds_nrm _) (wds_val _).symm
theorem wds_len {n k : Nat} (h : n < WB ^ k) : (wds n).length ≤ k := (wds_nrm n).len_le WB_pos (by rw [wds_val]; exact h)
theorem wds_zero (n : Nat) : (wds n).length = 0 ↔ n = 0 := by
  constructor
  · intro h; have := wds_val n; rw [List.eq_nil_of_length_eq_zero h] at this; exact this.symm
  · intro h; subst h; rfl
instance (l : List Nat) : AsSlice (rawN l) 1 l.length (l.map fun x : Nat => .val (.int .u64 (x : Int))) := ⟨fun _ _ _ h => h.2⟩
instance (n : Nat) : AsSlice (nrmN n) 1 (wds n).length ((wds n).map fun x : Nat => .val (.int .u64 (x : Int))) := ⟨fun _ _ _ h => by
  obtain ⟨l, h1, h2, _, h4⟩ := h
  have := wds_uniq h4.1 h1
  rw [h2] at this
  rw [← this]; exact h4.2⟩
/-- A bound on a number's words. -/
class Bd (z : Int) (k : outParam Nat) : Prop where
  h : z.natAbs < WB ^ k
/-- A natural of so many words at most, normal or not. -/
def natR (n k : Nat) : Rep where
  has S w v := ∃ l, nval WB l = n ∧ l.length ≤ k ∧ (rawN l).has S w v
  one h := by obtain ⟨l, _, _, h⟩ := h; exact (rawN l).one h
  step h ho hs := by obtain ⟨l, h1, h2, h⟩ := h; exact ⟨l, h1, h2, (rawN l).step h ho hs⟩
/-- A cell that holds a natural, normal or not. -/
class NI (a : CA) (n : outParam Nat) (k : outParam Nat) : Prop where
  p : ∀ S w v, a.has S w v → (natR n k).has S w v
theorem NI.h {a : CA} {n k : Nat} (x : NI a n k) : ∀ S w v, a.has S w v → ∃ l, RN w v l ∧ nval WB l = n ∧ l.length ≤ k := fun S w v h => by
  obtain ⟨l, h1, h2, h3⟩ := x.p S w v h
  exact ⟨l, rawN.rn h3, h1, h2⟩
instance NI.nat (n k : Nat) : NI (.sat (natR n k)) n k := ⟨fun _ _ _ h => h⟩
instance NI.raw (l : List Nat) : NI (.sat (rawN l)) (nval WB l) l.length := ⟨fun S w v h => ⟨l, rfl, Nat.le_refl _, h⟩⟩
instance NI.nil : NI (.val (.slice none 0 0)) 0 0 := ⟨fun S w v h => by
  rw [show v = _ from h]
  exact ⟨[], rfl, Nat.le_refl _, Sm.nil, sliceR_iff.2 ⟨none, 0, rfl, Nat.le_refl _, by simp [maxLen], fun _ => rfl, by simp, fun i c hc => by simp at hc⟩⟩⟩
theorem NI.nrm' {n k : Nat} (hk : n < WB ^ k) : NI (.sat (nrmN n)) n k := ⟨fun S w v h => by
  obtain ⟨l, h1, h2, _, h4⟩ := h
  exact ⟨l, h2, h1.len_le WB_pos (by rw [h2]; exact hk), h4⟩⟩
/-- The same of a natural. -/
class BdN (n : Nat) (k : outParam Nat) : Prop where
  h : n < WB ^ k
instance NI.nrm (n k : Nat) [h : BdN n k] : NI (.sat (nrmN n)) n k := NI.nrm' h.h
instance BdN.abs (z : Int) (k : Nat) [h : Bd z k] : BdN z.natAbs k := ⟨h.h⟩
theorem WB_one_le (k : Nat) : 1 ≤ WB ^ k := Nat.one_le_pow k WB WB_pos
theorem Bd.mono {z : Int} {k m : Nat} (h : z.natAbs < WB ^ k) (hm : k ≤ m) : z.natAbs < WB ^ m := Nat.lt_of_lt_of_le h (Nat.pow_le_pow_right WB_pos hm)
theorem pow_sum_le (k m : Nat) : WB ^ k + WB ^ m ≤ WB ^ (k + m) + 1 := by
  have h1 := WB_one_le k
  have h2 := WB_one_le m
  rw [Nat.pow_add]
  generalize WB ^ k = a at *
  generalize WB ^ m = b at *
  obtain ⟨a, rfl⟩ : ∃ a', a = a' + 1 := ⟨a - 1, by omega⟩
  obtain ⟨b, rfl⟩ : ∃ b', b = b' + 1 := ⟨b - 1, by omega⟩
  rw [Nat.add_mul, Nat.mul_add]
  have : 0 ≤ a * b := Nat.zero_le _
  omega
theorem bd_add {x y : Int} {k m : Nat} (hx : x.natAbs < WB ^ k) (hy : y.natAbs < WB ^ m) : (x + y).natAbs < WB ^ (k + m + 1) := by
  have h1 := pow_sum_le k m
  have h2 : WB ^ (k + m) * 2 ≤ WB ^ (k + m + 1) := by rw [Nat.pow_succ]; exact Nat.mul_le_mul_left _ (by decide)
  have h3 := WB_one_le (k + m)
  omega
instance Bd.add (x y : Int) (k m : Nat) [hx : Bd x k] [hy : Bd y m] : Bd (x + y) (k + m + 1) := ⟨bd_add hx.h hy.h⟩
instance Bd.neg (x : Int) (k : Nat) [hx : Bd x k] : Bd (-x) k := ⟨by rw [Int.natAbs_neg]; exact hx.h⟩
instance Bd.mul (x y : Int) (k m : Nat) [hx : Bd x k] [hy : Bd y m] : Bd (x * y) (k + m) := ⟨by
  rw [Int.natAbs_mul, Nat.pow_add]
  exact Nat.mul_lt_mul_of_lt_of_le hx.h (Nat.le_of_lt hy.h) (WB_one_le m)⟩
theorem bdn_add {x y : Nat} {k m : Nat} (hx : x < WB ^ k) (hy : y < WB ^ m) : x + y < WB ^ (k + m + 1) := by
  have := bd_add (x := (x : Int)) (y := (y : Int)) (k := k) (m := m) (by simpa using hx) (by simpa using hy)
  omega
instance BdN.add (x y k m : Nat) [hx : BdN x k] [hy : BdN y m] : BdN (x + y) (k + m + 1) := ⟨bdn_add hx.h hy.h⟩
instance BdN.mul (x y k m : Nat) [hx : BdN x k] [hy : BdN y m] : BdN (x * y) (k + m) := ⟨by
  rw [Nat.pow_add]
  exact Nat.mul_lt_mul_of_lt_of_le hx.h (Nat.le_of_lt hy.h) (WB_one_le m)⟩
instance BdN.sub (x y k : Nat) [hx : BdN x k] : BdN (x - y) k := ⟨Nat.lt_of_le_of_lt (Nat.sub_le _ _) hx.h⟩
instance BdN.div (x y k : Nat) [hx : BdN x k] : BdN (x / y) k := ⟨Nat.lt_of_le_of_lt (Nat.div_le_self _ _) hx.h⟩
instance BdN.mod (x y k : Nat) [hx : BdN x k] : BdN (x % y) k := ⟨Nat.lt_of_le_of_lt (Nat.mod_le _ _) hx.h⟩
instance BdN.ite (c : Prop) [Decidable c] (x k : Nat) [hx : BdN x k] : BdN (if c then 0 else x) k := ⟨by split; exact Nat.lt_of_lt_of_le (by decide) (WB_one_le k); exact hx.h⟩
instance BdN.gcd (x y k m : Nat) [hx : BdN x k] [hy : BdN y m] : BdN (Nat.gcd x y) (k + m) := ⟨by
  rcases Nat.eq_zero_or_pos x with h0 | h0
  · subst h0
    rw [Nat.gcd_zero_left]
    exact Nat.lt_of_lt_of_le hy.h (Nat.pow_le_pow_right WB_pos (by omega))
  · exact Nat.lt_of_le_of_lt (Nat.gcd_le_left y h0) (Nat.lt_of_lt_of_le hx.h (Nat.pow_le_pow_right WB_pos (by omega)))⟩
instance Bd.nat (n k : Nat) [h : BdN n k] : Bd (n : Int) k := ⟨by simpa using h.h⟩
instance Bd.zero : Bd 0 0 := ⟨by simp⟩
instance Bd.one : Bd 1 1 := ⟨by simp [WB]⟩
theorem bd_i64 (x : Int) (h1 : -9223372036854775808 ≤ x) (h2 : x ≤ 9223372036854775807) : x.natAbs < WB ^ 1 := by rw [Nat.pow_one, WB_eq]; omega

section
variable {a b : CA} {x y k m : Nat}
/-- The plain contract of two naturals as a rule's. -/
theorem nat2 {f : FuncId} {r : Nat} [ha : NI a x k] [hb : NI b y m] (he : ∃ fn, Tryz.prog.funcs[f]? = some fn ∧ (fn.name == "runtime.NumGoroutine") = false ∧ fn.body.isNone = false)
    (h : ∀ w va vb la lb, RN w va la → RN w vb lb → nval WB la = x → nval WB lb = y → la.length ≤ k → lb.length ≤ m → Calls Tryz.prog f #[va, vb] w fun e w' => (∃ v, e = .returned v ∧ ON w.heap.size w' v r) ∧ Ext w w') :
    PureOK Tryz.prog f [.it (.one (.c a)), .it (.one (.c b))] (.r (nrmN r)) :=
  PureOK.of_calls he rfl fun E S w vs hl hv => by
    match vs, hv with
    | [va, vb], ⟨h1, h2, _⟩ =>
      obtain ⟨la, ra, ea, ka⟩ := ha.h S w va h1
      obtain ⟨lb, rb, eb, kb⟩ := hb.h S w vb h2
      refine (h w va vb la lb ra rb ea eb ka kb).mono ?_
      rintro e w' ⟨⟨v, rfl, ho⟩, hx⟩
      exact ⟨v, rfl, nrmN.of_on ho hl, Off.of_below hx⟩
theorem nat1 {f : FuncId} {r : Nat} [ha : NI a x k] (he : ∃ fn, Tryz.prog.funcs[f]? = some fn ∧ (fn.name == "runtime.NumGoroutine") = false ∧ fn.body.isNone = false)
    (h : ∀ w va la, RN w va la → nval WB la = x → la.length ≤ k → Calls Tryz.prog f #[va] w fun e w' => (∃ v, e = .returned v ∧ ON w.heap.size w' v r) ∧ Ext w w') :
    PureOK Tryz.prog f [.it (.one (.c a))] (.r (nrmN r)) :=
  PureOK.of_calls he rfl fun E S w vs hl hv => by
    match vs, hv with
    | [va], ⟨h1, _⟩ =>
      obtain ⟨la, ra, ea, ka⟩ := ha.h S w va h1
      refine (h w va la ra ea ka).mono ?_
      rintro e w' ⟨⟨v, rfl, ho⟩, hx⟩
      exact ⟨v, rfl, nrmN.of_on ho hl, Off.of_below hx⟩
theorem nNorm [ha : NI a x k] (hk : k ≤ 1099511627775) : PureOK Tryz.prog 129 [.it (.one (.c a))] (.r (nrmN x)) :=
  nat1 ⟨_, Tryz.func129, rfl, rfl⟩ fun w va la h1 h2 h3 => by subst h2; exact Norm_any h1 (by omega)
theorem nAdd [ha : NI a x k] [hb : NI b y m] (hk : k + m ≤ 1099511627775) : PureOK Tryz.prog 200 [.it (.one (.c a)), .it (.one (.c b))] (.r (nrmN (x + y))) :=
  nat2 ⟨_, Tryz.func200, rfl, rfl⟩ fun w va vb la lb h1 h2 h3 h4 h5 h6 => by subst h3 h4; exact Add_any h1 h2 (by omega) (by omega)
theorem mMul [ha : NI a x k] [hb : NI b y m] (hk : k + m ≤ 274877906944) : PureOK Tryz.prog 196 [.it (.one (.c a)), .it (.one (.c b))] (.r (nrmN (x * y))) :=
  nat2 ⟨_, Tryz.func196, rfl, rfl⟩ fun w va vb la lb h1 h2 h3 h4 h5 h6 => by subst h3 h4; exact Mul_any h1 h2 (by omega) (by omega)
theorem dGcd [ha : NI a x k] [hb : NI b y m] (hk : k + m ≤ 1099511627770) : PureOK Tryz.prog 130 [.it (.one (.c a)), .it (.one (.c b))] (.r (nrmN (Nat.gcd x y))) :=
  nat2 ⟨_, Tryz.func130, rfl, rfl⟩ fun w va vb la lb h1 h2 h3 h4 h5 h6 => by subst h3 h4; exact Gcd_any h1 h2 hk (by omega) (by omega)
theorem nOf (x : Nat) (hx : x < WB) : PureOK Tryz.prog 65 [.v (.int .u64 (x : Int))] (.r (nrmN x)) :=
  PureOK.of_calls ⟨_, Tryz.func65, rfl, rfl⟩ rfl fun E S w vs hl hv => by
    match vs, hv with
    | [va], ⟨h1, _⟩ =>
      have h1' : va = .int .u64 (x : Int) := h1
      subst h1'
      refine (Of_own x hx w).mono ?_
      rintro e w' ⟨⟨v, rfl, ho⟩, hx⟩
      exact ⟨v, rfl, nrmN.of_on ho hl, Off.of_below hx⟩
theorem nCmp [ha : NI a x k] [hb : NI b y m] (hk : k + m ≤ 1099511627775) : PureOK Tryz.prog 219 [.it (.one (.c a)), .it (.one (.c b))] (.v (.int .i64 (cmpI x y))) :=
  PureOK.of_calls ⟨_, Tryz.func219, rfl, rfl⟩ rfl fun E S w vs hl hv => by
    match vs, hv with
    | [va, vb], ⟨h1, h2, _⟩ =>
      obtain ⟨la, ra, ea, ka⟩ := ha.h S w va h1
      obtain ⟨lb, rb, eb, kb⟩ := hb.h S w vb h2
      subst ea eb
      refine (Cmp_any ra rb (by omega) (by omega)).mono ?_
      rintro e w' ⟨rfl, hx⟩
      exact ⟨_, rfl, rfl, Off.of_below hx⟩
theorem nBits [ha : NI a x k] (hk : k ≤ 1099511627775) : PureOK Tryz.prog 89 [.it (.one (.c a))] (.v (.int .i64 (bitLen x : Int))) :=
  PureOK.of_calls ⟨_, Tryz.func89, rfl, rfl⟩ rfl fun E S w vs hl hv => by
    match vs, hv with
    | [va], ⟨h1, _⟩ =>
      obtain ⟨la, ra, ea, ka⟩ := ha.h S w va h1
      subst ea
      refine (Bits_any ra (by omega)).mono ?_
      rintro e w' ⟨rfl, rfl⟩
      exact ⟨_, rfl, rfl, Off.refl _ _⟩
theorem nWord [ha : NI a x k] (hk : k ≤ 1099511627775) : PureOK Tryz.prog 217 [.it (.one (.c a))] (.tup [.one (.c (.val (.int .u64 ((if x < WB then x else 0 : Nat) : Int)))), .one (.c (.val (.bool (decide (x < WB)))))]) :=
  PureOK.of_calls ⟨_, Tryz.func217, rfl, rfl⟩ rfl fun E S w vs hl hv => by
    match vs, hv with
    | [va], ⟨h1, _⟩ =>
      obtain ⟨la, ra, ea, ka⟩ := ha.h S w va h1
      subst ea
      refine (Word_any ra (by omega)).mono ?_
      rintro e w' ⟨rfl, rfl⟩
      exact ⟨_, rfl, ⟨[_, _], rfl, rfl, rfl, trivial⟩, Off.refl _ _⟩
theorem nSub [ha : NI a x k] [hb : NI b y m] (hk : k + m ≤ 1099511627775) : PureOK Tryz.prog 201 [.it (.one (.c a)), .it (.one (.c b))] (.tup [.one (.c (.sat (nrmN (x - y)))), .one (.c (.val (.bool (decide (y ≤ x)))))]) :=
  PureOK.of_calls ⟨_, Tryz.func201, rfl, rfl⟩ rfl fun E S w vs hl hv => by
    match vs, hv with
    | [va, vb], ⟨h1, h2, _⟩ =>
      obtain ⟨la, ra, ea, ka⟩ := ha.h S w va h1
      obtain ⟨lb, rb, eb, kb⟩ := hb.h S w vb h2
      subst ea eb
      rcases Nat.lt_or_ge (nval WB la) (nval WB lb) with hlt | hge
      · refine (Sub_less ra rb (by omega) (by omega) hlt).mono ?_
        rintro e w' ⟨rfl, hx⟩
        refine ⟨_, rfl, ⟨[_, _], rfl, ?_, ?_, trivial⟩, Off.of_below hx⟩
        · show (nrmN _).has _ _ _
          rw [Nat.sub_eq_zero_of_le (by omega)]; exact nrmN.zero
        · show _ = _
          rw [decide_eq_false (by omega)]
      · refine (Sub_ge ra rb (by omega) (by omega) hge).mono ?_
        rintro e w' ⟨⟨v, rfl, ho⟩, hx⟩
        refine ⟨_, rfl, ⟨[_, _], rfl, nrmN.of_on ho hl, ?_, trivial⟩, Off.of_below hx⟩
        show _ = _
        rw [decide_eq_true hge]
/-- What a division answers, by 0 too. -/
theorem dDivMod [ha : NI a x k] [hb : NI b y m] (hk : k + m ≤ 1099511627770) : PureOK Tryz.prog 195 [.it (.one (.c a)), .it (.one (.c b))] (.tup [.one (.c (.sat (nrmN (x / y)))), .one (.c (.sat (nrmN (if y = 0 then 0 else x % y)))), .one (.c (.val (.bool (decide (y ≠ 0)))))]) :=
  PureOK.of_calls ⟨_, Tryz.func195, rfl, rfl⟩ rfl fun E S w vs hl hv => by
    match vs, hv with
    | [va, vb], ⟨h1, h2, _⟩ =>
      obtain ⟨la, ra, ea, ka⟩ := ha.h S w va h1
      obtain ⟨lb, rb, eb, kb⟩ := hb.h S w vb h2
      subst ea eb
      by_cases h0 : nval WB lb = 0
      · refine (DivMod_zero ra rb (by omega) (by omega) h0).mono ?_
        rintro e w' ⟨rfl, hx⟩
        rw [h0]
        exact ⟨_, rfl, ⟨[_, _, _], rfl, by show (nrmN _).has _ _ _; rw [Nat.div_zero]; exact nrmN.zero, nrmN.zero, rfl, trivial⟩, Off.of_below hx⟩
      · refine (DivMod_pos ra rb (by omega) (by omega) (Nat.pos_of_ne_zero h0)).mono ?_
        rintro e w' ⟨⟨vq, vr, rfl, hq, hr⟩, hx⟩
        refine ⟨_, rfl, ⟨[_, _, _], rfl, nrmN.of_on hq hl, ?_, ?_, trivial⟩, Off.of_below hx⟩
        · rw [if_neg h0]; exact nrmN.of_on hr hl
        · show _ = _
          rw [decide_eq_true h0]
end
theorem rawN_iff {l : List Nat} {S : Nat → Prop} {w : World} {v : Value} : (rawN l).has S w v ↔ Sm WB l ∧ (sliceR 1 l.length (l.map fun x : Nat => .val (.int .u64 (x : Int)))).has S w v := Iff.rfl
theorem natR_iff {n k : Nat} {S : Nat → Prop} {w : World} {v : Value} : (natR n k).has S w v ↔ ∃ l, nval WB l = n ∧ l.length ≤ k ∧ (rawN l).has S w v := Iff.rfl
theorem nrmN_iff {n : Nat} {S : Nat → Prop} {w : World} {v : Value} : (nrmN n).has S w v ↔ ∃ l, Nrm l ∧ nval WB l = n ∧ (l = [] → v = .slice none 0 0) ∧ (rawN l).has S w v := Iff.rfl
attribute [irreducible] natR rawN nrmN wds
end Go.Proofs.YtfhpmbenldgfnaaGreatDoor
/- Package zint in the symbolic run: From, Sign, Neg, Abs, Of, Add, Sub, Mul. -/
set_option linter.unusedVariables false
set_option linter.unusedSimpArgs false
namespace Go.Proofs.YtfhpmbenldgfnaaGreatDoor
open Go.RowKit QM SX
attribute [local irreducible] IntKind.wrap bitLen cmpI nval Go1 Reg WP thenK inBlk retQ RetOK ResOK CallOK OpOK Sat
/-- A sign and a number. -/
def sgn (neg : Bool) (n : Nat) : Int := if neg then -(n : Int) else (n : Int)
theorem sgn_abs (z : Int) : sgn (decide (z < 0)) z.natAbs = z := by unfold sgn; split <;> simp_all <;> omega
theorem sgn_natAbs (neg : Bool) (n : Nat) : (sgn neg n).natAbs = n := by unfold sgn; split <;> omega
/-- A normal whole number's cells. -/
abbrev zN (z : Int) : List Atom := [.c (.val (.bool (decide (z < 0)))), .c (.sat (nrmN z.natAbs))]
/-- Cells of a whole number of so many words at most, normal or not. -/
abbrev zR (neg : Bool) (n k : Nat) : List Atom := [.c (.val (.bool neg)), .c (.sat (natR n k))]
/-- Cells that hold a whole number, normal or not. -/
class ZI (l : List Atom) (z : outParam Int) (k : outParam Nat) : Prop where
  h : ∃ neg n, z = sgn neg n ∧ ∀ E S w v, (AV.agg l).has E S w v → (AV.agg (zR neg n k)).has E S w v
theorem ZI.mk' {neg : Bool} {a : CA} {n k : Nat} (h : NI a n k) : ZI [.c (.val (.bool neg)), .c a] (sgn neg n) k := ⟨neg, n, rfl, fun E S w v hv => by
  obtain ⟨vs, hv, hall⟩ := hv
  match vs, hall with
  | [x, y], ⟨h1, h2, _⟩ => exact ⟨[x, y], hv, h1, h.p S w y h2, trivial⟩⟩
instance ZI.nat (neg : Bool) (n k : Nat) : ZI [.c (.val (.bool neg)), .c (.sat (natR n k))] (sgn neg n) k := ZI.mk' inferInstance
instance ZI.nrm (z : Int) (k : Nat) [h : Bd z k] : ZI [.c (.val (.bool (decide (z < 0)))), .c (.sat (nrmN z.natAbs))] z k := by
  have := ZI.mk' (neg := decide (z < 0)) (NI.nrm' h.h)
  rwa [sgn_abs] at this
instance ZI.raw (neg : Bool) (l : List Nat) : ZI [.c (.val (.bool neg)), .c (.sat (rawN l))] (sgn neg (nval WB l)) l.length := ZI.mk' inferInstance
instance ZI.zero : ZI [.c (.val (.bool false)), .c (.val (.slice none 0 0))] 0 0 := ZI.mk' (neg := false) (n := 0) inferInstance
theorem natR_bd {n k : Nat} {S : Nat → Prop} {w : World} {v : Value} (h : (natR n k).has S w v) : n < WB ^ k := by
  obtain ⟨l, h1, h2, h3⟩ := natR_iff.1 h
  rw [← h1]; exact nn_lt (rawN.rn h3).sm h2
theorem zR_bd {neg : Bool} {n k : Nat} {E : Env} {S : Nat → Prop} {w : World} {v : Value} (h : (AV.agg (zR neg n k)).has E S w v) : n < WB ^ k := by
  obtain ⟨vs, _, hall⟩ := h
  match vs, hall with
  | [_, _], ⟨_, h2, _⟩ => exact natR_bd h2
theorem z1 {f : FuncId} {r : AV} {l : List Atom} {z : Int} {k : Nat} [h : ZI l z k] (he : ∃ fn, Tryz.prog.funcs[f]? = some fn ∧ (fn.name == "runtime.NumGoroutine") = false ∧ fn.body.isNone = false)
    (hf : ∀ neg n, z = sgn neg n → BdN n k → PureOK Tryz.prog f [.agg (zR neg n k)] r) : PureOK Tryz.prog f [.agg l] r := by
  obtain ⟨neg, n, hz, hm⟩ := h.h
  refine PureOK.fact he (fun hb => hf neg n hz hb) fun E S w vs hv => ?_
  match vs, hv with
  | [x], ⟨h1, _⟩ => exact ⟨⟨hm E S w x h1, trivial⟩, ⟨zR_bd (hm E S w x h1)⟩⟩
theorem z2 {f : FuncId} {r : AV} {l l' : List Atom} {z z' : Int} {k k' : Nat} [h : ZI l z k] [h' : ZI l' z' k'] (he : ∃ fn, Tryz.prog.funcs[f]? = some fn ∧ (fn.name == "runtime.NumGoroutine") = false ∧ fn.body.isNone = false)
    (hf : ∀ neg n neg' n', z = sgn neg n → z' = sgn neg' n' → BdN n k → BdN n' k' → PureOK Tryz.prog f [.agg (zR neg n k), .agg (zR neg' n' k')] r) : PureOK Tryz.prog f [.agg l, .agg l'] r := by
  obtain ⟨neg, n, hz, hm⟩ := h.h
  obtain ⟨neg', n', hz', hm'⟩ := h'.h
  refine PureOK.fact (φ := BdN n k ∧ BdN n' k') he (fun hb => hf neg n neg' n' hz hz' hb.1 hb.2) fun E S w vs hv => ?_
  match vs, hv with
  | [x, y], ⟨h1, h2, _⟩ => exact ⟨⟨hm E S w x h1, hm' E S w y h2, trivial⟩, ⟨zR_bd (hm E S w x h1)⟩, ⟨zR_bd (hm' E S w y h2)⟩⟩
instance Bd.sgn (neg : Bool) (n k : Nat) [h : BdN n k] : Bd (sgn neg n) k := ⟨by rw [sgn_natAbs]; exact h.h⟩
theorem zN_sgn (neg : Bool) (n : Nat) : zN (sgn neg n) = [.c (.val (.bool (neg && decide (0 < n)))), .c (.sat (nrmN n))] := by
  have h1 : decide (sgn neg n < 0) = (neg && decide (0 < n)) := by
    unfold sgn; cases neg <;> simp
  unfold zN
  rw [sgn_natAbs, h1]
theorem zFrom {a : CA} {x k : Nat} [ha : NI a x k] (neg : Bool) (hk : k ≤ 1099511627775) : PureOK Tryz.prog 64 [.it (.one (.c a)), .v (.bool neg)] (.agg (zN (sgn neg x))) := by
  rw [zN_sgn]
  refine PureOK.args (args' := [.r (natR x k), .v (.bool neg)]) ?_ (fun E S w vs hv => ?_)
  rotate_left
  · match vs, hv with
    | [u, v], ⟨h1, h2, _⟩ => exact ⟨ha.p S w u h1, h2, trivial⟩
  refine PureOK.fn Tryz.func64 Tryz.results64 Tryz.ntmps64 rfl rfl rfl (by simp [AV.ids, AV0.ids, Atom.ids]) rfl (fun w0 T B E0 hB => ?_)
  cases neg
  · repeat (first | refine SX.goZ ?_ | (refine SX.Go1.is ?_; refine SX.Go1.isCall ?_; first
          | refine SX.Go1.call rfl (nNorm hk) rfl rfl ?_))
    exact RetOK.eq1 (ResOK.agg2 rfl rfl rfl) rfl
  · repeat (first | refine SX.goZ ?_ | (refine SX.Go1.is ?_; refine SX.Go1.isCall ?_; first
          | refine SX.Go1.call rfl (nNorm hk) rfl rfl ?_))
    refine RetOK.eq1 (ResOK.agg2 rfl rfl rfl) ?_
    have h : decide (0 < ((wds x).length : Int)) = decide (0 < x) := by
      have := wds_zero x
      rw [decide_eq_decide]; omega
    show AV0.agg [Atom.c (CA.val (.bool (decide (0 < ((wds x).length : Int))))), _] = _
    rw [h]; rfl
/-- A sign's number. -/
def isign (z : Int) : Int := if z = 0 then 0 else if z < 0 then -1 else 1
theorem bitLen_zero {n : Nat} : bitLen n = 0 ↔ n = 0 := by
  unfold bitLen; split <;> simp_all
theorem zSign {l : List Atom} {z : Int} {k : Nat} [h : ZI l z k] (hk : k ≤ 1099511627775) : PureOK Tryz.prog 63 [.agg l] (.v (.int .i64 (isign z))) := by
  refine z1 ⟨_, Tryz.func63, rfl, rfl⟩ fun neg n hz hn => ?_
  subst hz
  refine PureOK.fn Tryz.func63 Tryz.results63 Tryz.ntmps63 rfl rfl rfl (by simp [AV.ids, AV0.ids, Atom.ids]) rfl (fun w0 T B E0 hB => ?_)
  have hb := bitLen_zero (n := n)
  repeat (first | refine SX.goZ ?_ | (refine SX.Go1.is ?_; refine SX.Go1.isCall ?_; first
        | refine SX.Go1.call rfl (nBits hk) rfl rfl ?_))
  refine WP.cond rfl (fun hc => ?_) (fun hc => ?_)
  · repeat (first | refine SX.goZ ?_)
    refine RetOK.eq1 (ResOK.tmp rfl) ?_
    have : n = 0 := by simp at hc; omega
    subst this
    cases neg <;> rfl
  · repeat (first | refine SX.goZ ?_)
    have hn : 0 < n := by simp at hc; omega
    cases neg
    · repeat (first | refine SX.goZ ?_)
      refine RetOK.eq1 (ResOK.tmp rfl) ?_
      have : isign (sgn false n) = 1 := by unfold isign sgn; simp; omega
      rw [this]
    · repeat (first | refine SX.goZ ?_)
      refine RetOK.eq1 (ResOK.tmp rfl) ?_
      have : isign (sgn true n) = -1 := by unfold isign sgn; simp; omega
      rw [this]
theorem sgn_not (neg : Bool) (n : Nat) : sgn (!neg) n = -sgn neg n := by unfold sgn; cases neg <;> simp
theorem zNeg {l : List Atom} {z : Int} {k : Nat} [h : ZI l z k] (hk : k ≤ 1099511627775) : PureOK Tryz.prog 67 [.agg l] (.agg (zN (-z))) := by
  refine z1 ⟨_, Tryz.func67, rfl, rfl⟩ fun neg n hz hn => ?_
  subst hz
  rw [← sgn_not]
  refine PureOK.fn Tryz.func67 Tryz.results67 Tryz.ntmps67 rfl rfl rfl (by simp [AV.ids, AV0.ids, Atom.ids]) rfl (fun w0 T B E0 hB => ?_)
  repeat (first | refine SX.goZ ?_ | (refine SX.Go1.is ?_; refine SX.Go1.isCall ?_; first
        | refine SX.Go1.call rfl (zFrom _ hk) rfl rfl ?_))
  exact RetOK.eq1 (ResOK.agg2 rfl rfl rfl) rfl
end Go.Proofs.YtfhpmbenldgfnaaGreatDoor
/- Package zint in the symbolic run: Of, Add, Sub, Mul, Cmp, Same, Bits, Small. -/
set_option linter.unusedVariables false
set_option linter.unusedSimpArgs false
namespace Go.Proofs.YtfhpmbenldgfnaaGreatDoor
open Go.RowKit QM SX
attribute [local irreducible] IntKind.wrap bitLen cmpI nval Go1 Reg WP thenK inBlk retQ RetOK ResOK CallOK OpOK Sat
attribute [local irreducible] sgn isign
theorem zOf (z : Int) (h1 : -9223372036854775808 ≤ z) (h2 : z ≤ 9223372036854775807) : PureOK Tryz.prog 23 [.v (.int .i64 z)] (.agg (zN z)) := by
  have hb : NI (.sat (nrmN z.natAbs)) z.natAbs 1 := NI.nrm' (bd_i64 z h1 h2)
  refine PureOK.fn Tryz.func23 Tryz.results23 Tryz.ntmps23 rfl rfl rfl (by simp [AV.ids, AV0.ids, Atom.ids]) rfl (fun w0 T B E0 hB => ?_)
  repeat (first | refine SX.goZ ?_)
  refine WP.cond rfl (fun hc => ?_) (fun hc => ?_)
  · have hz : z < 0 := by simpa using hc
    have hw : IntKind.u64.wrap (0 - IntKind.u64.wrap z) = (z.natAbs : Int) := by
      simp only [IntKind.wrap, IntKind.bits, IntKind.signed]; simp; omega
    have hs : sgn true z.natAbs = z := by unfold sgn; simp; omega
    have hcc := nOf (z.natAbs) (by rw [WB_eq]; omega)
    repeat (first | refine SX.goZ ?_ | (refine SX.Go1.is ?_; refine SX.Go1.isCall ?_; first
          | refine SX.Go1.call rfl (hcc) rfl rfl ?_
          | refine SX.Go1.call rfl (zFrom true (by omega)) rfl rfl ?_))
    rw [hs]
    exact RetOK.eq1 (ResOK.agg2 rfl rfl rfl) rfl
  · have hz : 0 ≤ z := by simpa using hc
    have hw : IntKind.u64.wrap z = (z.natAbs : Int) := by
      simp only [IntKind.wrap, IntKind.bits, IntKind.signed]; simp; omega
    have hs : sgn false z.natAbs = z := by unfold sgn; simp; omega
    have hcc := nOf (z.natAbs) (by rw [WB_eq]; omega)
    repeat (first | refine SX.goZ ?_ | (refine SX.Go1.is ?_; refine SX.Go1.isCall ?_; first
          | refine SX.Go1.call rfl (hcc) rfl rfl ?_
          | refine SX.Go1.call rfl (nOf' _ hz (by omega)) rfl rfl ?_
          | refine SX.Go1.call rfl (zFrom false (by omega)) rfl rfl ?_))
    rw [hs]
    exact RetOK.eq1 (ResOK.agg2 rfl rfl rfl) rfl
theorem sgn_add_same (neg : Bool) (n m : Nat) : sgn neg (n + m) = sgn neg n + sgn neg m := by unfold sgn; split <;> omega
theorem sgn_add_ge (neg : Bool) {n m : Nat} (h : m ≤ n) : sgn neg (n - m) = sgn neg n + sgn (!neg) m := by unfold sgn; cases neg <;> simp <;> omega
theorem sgn_add_lt (neg : Bool) {n m : Nat} (h : n ≤ m) : sgn (!neg) (m - n) = sgn neg n + sgn (!neg) m := by unfold sgn; cases neg <;> simp <;> omega
theorem zAdd {l l' : List Atom} {x y : Int} {k m : Nat} [h : ZI l x k] [h' : ZI l' y m] (hk : k + m ≤ 1099511627774) : PureOK Tryz.prog 131 [.agg l, .agg l'] (.agg (zN (x + y))) := by
  refine z2 ⟨_, Tryz.func131, rfl, rfl⟩ fun neg n neg2 n2 hz hz2 hn hn2 => ?_
  subst hz hz2
  refine PureOK.fn Tryz.func131 Tryz.results131 Tryz.ntmps131 rfl rfl rfl (by simp [AV.ids, AV0.ids, Atom.ids]) rfl (fun w0 T B E0 hB => ?_)
  repeat (first | refine SX.goZ ?_)
  refine WP.cond rfl (fun hc => ?_) (fun hc => ?_)
  · have hq : neg = neg2 := by simpa using hc
    subst hq
    repeat (first | refine SX.goZ ?_ | (refine SX.Go1.is ?_; refine SX.Go1.isCall ?_; first
          | refine SX.Go1.call rfl (nAdd (by omega)) rfl rfl ?_
          | refine SX.Go1.call rfl (zFrom _ (by omega)) rfl rfl ?_))
    rw [← sgn_add_same]
    exact RetOK.eq1 (ResOK.agg2 rfl rfl rfl) rfl
  · have hq : neg2 = !neg := by cases neg <;> cases neg2 <;> simp_all
    subst hq
    repeat (first | refine SX.goZ ?_ | (refine SX.Go1.is ?_; refine SX.Go1.isCall ?_; first
          | refine SX.Go1.call rfl (nSub (by omega)) rfl rfl ?_))
    refine WP.cond rfl (fun hc2 => ?_) (fun hc2 => ?_)
    · have hle : n2 ≤ n := by simpa using hc2
      repeat (first | refine SX.goZ ?_ | (refine SX.Go1.is ?_; refine SX.Go1.isCall ?_; first
            | refine SX.Go1.call rfl (zFrom _ (by omega)) rfl rfl ?_))
      rw [← sgn_add_ge neg hle]
      exact RetOK.eq1 (ResOK.agg2 rfl rfl rfl) rfl
    · have hle : n ≤ n2 := by simp at hc2; omega
      repeat (first | refine SX.goZ ?_ | (refine SX.Go1.is ?_; refine SX.Go1.isCall ?_; first
            | refine SX.Go1.call rfl (nSub (by omega)) rfl rfl ?_
            | refine SX.Go1.call rfl (zFrom _ (by omega)) rfl rfl ?_))
      rw [← sgn_add_lt neg hle]
      exact RetOK.eq1 (ResOK.agg2 rfl rfl rfl) rfl
theorem zSub {l l' : List Atom} {x y : Int} {k m : Nat} [h : ZI l x k] [h' : ZI l' y m] (hk : k + m ≤ 1099511627774) : PureOK Tryz.prog 127 [.agg l, .agg l'] (.agg (zN (x - y))) := by
  refine z2 ⟨_, Tryz.func127, rfl, rfl⟩ fun neg n neg2 n2 hz hz2 hn hn2 => ?_
  subst hz hz2
  rw [Int.sub_eq_add_neg]
  refine PureOK.fn Tryz.func127 Tryz.results127 Tryz.ntmps127 rfl rfl rfl (by simp [AV.ids, AV0.ids, Atom.ids]) rfl (fun w0 T B E0 hB => ?_)
  repeat (first | refine SX.goZ ?_ | (refine SX.Go1.is ?_; refine SX.Go1.isCall ?_; first
        | refine SX.Go1.call rfl (zNeg (by omega)) rfl rfl ?_
        | refine SX.Go1.call rfl (zAdd (by omega)) rfl rfl ?_))
  exact RetOK.eq1 (ResOK.agg2 rfl rfl rfl) rfl
theorem sgn_mul (a b : Bool) (n m : Nat) : sgn (!(a == b)) (n * m) = sgn a n * sgn b m := by unfold sgn; cases a <;> cases b <;> simp [Int.neg_mul, Int.mul_neg]
theorem zMul {l l' : List Atom} {x y : Int} {k m : Nat} [h : ZI l x k] [h' : ZI l' y m] (hk : k + m ≤ 274877906944) : PureOK Tryz.prog 128 [.agg l, .agg l'] (.agg (zN (x * y))) := by
  refine z2 ⟨_, Tryz.func128, rfl, rfl⟩ fun neg n neg2 n2 hz hz2 hn hn2 => ?_
  subst hz hz2
  rw [← sgn_mul]
  refine PureOK.fn Tryz.func128 Tryz.results128 Tryz.ntmps128 rfl rfl rfl (by simp [AV.ids, AV0.ids, Atom.ids]) rfl (fun w0 T B E0 hB => ?_)
  repeat (first | refine SX.goZ ?_ | (refine SX.Go1.is ?_; refine SX.Go1.isCall ?_; first
        | refine SX.Go1.call rfl (mMul (by omega)) rfl rfl ?_
        | refine SX.Go1.call rfl (zFrom _ (by omega)) rfl rfl ?_))
  exact RetOK.eq1 (ResOK.agg2 rfl rfl rfl) rfl
/-- The order's number. -/
def icmp (x y : Int) : Int := if x < y then -1 else if x = y then 0 else 1
theorem icmp_flip (n m : Nat) : icmp (sgn true n) (sgn true m) = cmpI m n := by
  unfold icmp sgn cmpI; simp; repeat' split <;> omega
theorem icmp_pos (n m : Nat) : icmp (sgn false n) (sgn false m) = cmpI n m := by
  unfold icmp sgn cmpI; simp; repeat' split <;> omega
theorem zCmp {l l' : List Atom} {x y : Int} {k m : Nat} [h : ZI l x k] [h' : ZI l' y m] (hk : k + m ≤ 1099511627774) : PureOK Tryz.prog 191 [.agg l, .agg l'] (.v (.int .i64 (icmp x y))) := by
  refine z2 ⟨_, Tryz.func191, rfl, rfl⟩ fun neg n neg2 n2 hz hz2 hn hn2 => ?_
  subst hz hz2
  refine PureOK.fn Tryz.func191 Tryz.results191 Tryz.ntmps191 rfl rfl rfl (by simp [AV.ids, AV0.ids, Atom.ids]) rfl (fun w0 T B E0 hB => ?_)
  repeat (first | refine SX.goZ ?_ | (refine SX.Go1.is ?_; refine SX.Go1.isCall ?_; first
        | refine SX.Go1.call rfl (zSign (by omega)) rfl rfl ?_))
  have hx : isign (sgn neg n) < 0 ↔ sgn neg n < 0 := by unfold isign; repeat' split <;> omega
  have hx0 : 0 < isign (sgn neg n) ↔ 0 < sgn neg n := by unfold isign; repeat' split <;> omega
  have hy : isign (sgn neg2 n2) < 0 ↔ sgn neg2 n2 < 0 := by unfold isign; repeat' split <;> omega
  have hy0 : 0 < isign (sgn neg2 n2) ↔ 0 < sgn neg2 n2 := by unfold isign; repeat' split <;> omega
  have hxr : -1 ≤ isign (sgn neg n) ∧ isign (sgn neg n) ≤ 1 := by unfold isign; repeat' split <;> omega
  have hyr : -1 ≤ isign (sgn neg2 n2) ∧ isign (sgn neg2 n2) ≤ 1 := by unfold isign; repeat' split <;> omega
  refine WP.cond rfl (fun hc => ?_) (fun hc => ?_)
  · repeat (first | refine SX.goZ ?_)
    refine RetOK.eq1 (ResOK.tmp rfl) ?_
    have : icmp (sgn neg n) (sgn neg2 n2) = -1 := by unfold icmp; rw [if_pos (by simp at hc; omega)]
    rw [this]
  · repeat (first | refine SX.goZ ?_)
    refine WP.cond rfl (fun hc2 => ?_) (fun hc2 => ?_)
    · repeat (first | refine SX.goZ ?_)
      refine RetOK.eq1 (ResOK.tmp rfl) ?_
      have : icmp (sgn neg n) (sgn neg2 n2) = 1 := by unfold icmp; rw [if_neg (by simp at hc2; omega), if_neg (by simp at hc2; omega)]
      rw [this]
    · repeat (first | refine SX.goZ ?_)
      refine WP.cond rfl (fun hc3 => ?_) (fun hc3 => ?_)
      · have e1 : sgn neg n = sgn true n := by simp at hc hc2 hc3; unfold sgn at *; cases neg <;> simp at * <;> omega
        have e2 : sgn neg2 n2 = sgn true n2 := by simp at hc hc2 hc3; unfold sgn at *; cases neg2 <;> simp at * <;> omega
        repeat (first | refine SX.goZ ?_ | (refine SX.Go1.is ?_; refine SX.Go1.isCall ?_; first
              | refine SX.Go1.call rfl (nCmp (by omega)) rfl rfl ?_))
        rw [e1, e2, icmp_flip]
        exact RetOK.eq1 (ResOK.tmp rfl) rfl
      · have e1 : sgn neg n = sgn false n := by simp at hc hc2 hc3; unfold sgn at *; cases neg <;> simp at * <;> omega
        have e2 : sgn neg2 n2 = sgn false n2 := by simp at hc hc2 hc3; unfold sgn at *; cases neg2 <;> simp at * <;> omega
        repeat (first | refine SX.goZ ?_ | (refine SX.Go1.is ?_; refine SX.Go1.isCall ?_; first
              | refine SX.Go1.call rfl (nCmp (by omega)) rfl rfl ?_))
        rw [e1, e2, icmp_pos]
        exact RetOK.eq1 (ResOK.tmp rfl) rfl
theorem icmp_zero (x y : Int) : decide (icmp x y = 0) = decide (x = y) := by
  unfold icmp; rw [decide_eq_decide]; repeat' split <;> omega
theorem zSame {l l' : List Atom} {x y : Int} {k m : Nat} [h : ZI l x k] [h' : ZI l' y m] (hk : k + m ≤ 1099511627774) : PureOK Tryz.prog 122 [.agg l, .agg l'] (.v (.bool (decide (x = y)))) := by
  refine z2 ⟨_, Tryz.func122, rfl, rfl⟩ fun neg n neg2 n2 hz hz2 hn hn2 => ?_
  subst hz hz2
  rw [← icmp_zero]
  refine PureOK.fn Tryz.func122 Tryz.results122 Tryz.ntmps122 rfl rfl rfl (by simp [AV.ids, AV0.ids, Atom.ids]) rfl (fun w0 T B E0 hB => ?_)
  repeat (first | refine SX.goZ ?_ | (refine SX.Go1.is ?_; refine SX.Go1.isCall ?_; first
        | refine SX.Go1.call rfl (zCmp (by omega)) rfl rfl ?_))
  exact RetOK.eq1 (ResOK.tmp rfl) rfl
theorem zBits {l : List Atom} {z : Int} {k : Nat} [h : ZI l z k] (hk : k ≤ 1099511627775) : PureOK Tryz.prog 39 [.agg l] (.v (.int .i64 (bitLen z.natAbs : Int))) := by
  refine z1 ⟨_, Tryz.func39, rfl, rfl⟩ fun neg n hz hn => ?_
  subst hz
  rw [sgn_natAbs]
  refine PureOK.fn Tryz.func39 Tryz.results39 Tryz.ntmps39 rfl rfl rfl (by simp [AV.ids, AV0.ids, Atom.ids]) rfl (fun w0 T B E0 hB => ?_)
  repeat (first | refine SX.goZ ?_ | (refine SX.Go1.is ?_; refine SX.Go1.isCall ?_; first
        | refine SX.Go1.call rfl (nBits (by omega)) rfl rfl ?_))
  exact RetOK.eq1 (ResOK.tmp rfl) rfl
/-- Is it a number of 64 bits? -/
def i64ok (z : Int) : Bool := decide (-9223372036854775808 ≤ z) && decide (z ≤ 9223372036854775807)
def i64of (z : Int) : Int := if i64ok z then z else 0
end Go.Proofs.YtfhpmbenldgfnaaGreatDoor
/- Package zint in the symbolic run: Quo, one, Floor, Euclid, Round, Exact, Gcd. -/
set_option linter.unusedVariables false
set_option linter.unusedSimpArgs false
namespace Go.Proofs.YtfhpmbenldgfnaaGreatDoor
open Go.RowKit QM SX
attribute [local irreducible] IntKind.wrap bitLen cmpI nval Go1 Reg WP thenK inBlk retQ RetOK ResOK CallOK OpOK Sat
/-- What Quo answers beside the quotient. -/
def zrem (x y : Int) : Int := if y = 0 then 0 else x.tmod y
theorem sgn_quo (a b : Bool) (n m : Nat) : sgn (!(a == b)) (n / m) = (sgn a n).tdiv (sgn b m) := by
  unfold sgn; cases a <;> cases b <;> simp [Int.neg_tdiv, Int.tdiv_neg]
theorem sgn_eq_zero {b : Bool} {m : Nat} : sgn b m = 0 ↔ m = 0 := by unfold sgn; cases b <;> simp
theorem sgn_rem (a b : Bool) (n m : Nat) : sgn a (if m = 0 then 0 else n % m) = zrem (sgn a n) (sgn b m) := by
  unfold zrem
  by_cases h : m = 0
  · rw [if_pos h, if_pos (sgn_eq_zero.2 h)]; cases a <;> rfl
  · rw [if_neg h, if_neg (fun e => h (sgn_eq_zero.1 e))]
    unfold sgn; cases a <;> cases b <;> simp [Int.neg_tmod, Int.tmod_neg, Int.tmod_eq_emod_of_nonneg (Int.natCast_nonneg n)]
instance Bd.tdiv (x y : Int) (k : Nat) [h : Bd x k] : Bd (x.tdiv y) k := ⟨by rw [Int.natAbs_tdiv]; exact Nat.lt_of_le_of_lt (Nat.div_le_self _ _) h.h⟩
instance Bd.zrem (x y : Int) (k : Nat) [h : Bd x k] : Bd (zrem x y) k := ⟨by
  unfold Proofs.YtfhpmbenldgfnaaGreatDoor.zrem
  split
  · exact Nat.lt_of_lt_of_le (by decide) (WB_one_le k)
  · rw [Int.natAbs_tmod]; exact Nat.lt_of_le_of_lt (Nat.mod_le _ _) h.h⟩
attribute [local irreducible] sgn isign zrem
theorem zQuo {l l' : List Atom} {x y : Int} {k m : Nat} [h : ZI l x k] [h' : ZI l' y m] (hk : k + m ≤ 1099511627770) : PureOK Tryz.prog 125 [.agg l, .agg l'] (.tup [.agg (zN (x.tdiv y)), .agg (zN (zrem x y)), .one (.c (.val (.bool (decide (y ≠ 0)))))]) := by
  refine z2 ⟨_, Tryz.func125, rfl, rfl⟩ fun neg n neg2 n2 hz hz2 hn hn2 => ?_
  subst hz hz2
  rw [← sgn_quo, ← sgn_rem, show decide (sgn neg2 n2 ≠ 0) = decide (n2 ≠ 0) by rw [decide_eq_decide, ne_eq, ne_eq, sgn_eq_zero]]
  refine PureOK.fn Tryz.func125 Tryz.results125 Tryz.ntmps125 rfl rfl rfl (by simp [AV.ids, AV0.ids, Atom.ids]) rfl (fun w0 T B E0 hB => ?_)
  repeat (first | refine SX.goZ ?_ | (refine SX.Go1.is ?_; refine SX.Go1.isCall ?_; first
        | refine SX.Go1.call rfl (dDivMod (by omega)) rfl rfl ?_
        | refine SX.Go1.call rfl (zFrom _ (by omega)) rfl rfl ?_))
  exact RetOK.eq3 (ResOK.agg2 rfl rfl rfl) (ResOK.agg2 rfl rfl rfl) (ResOK.tmp rfl) rfl rfl rfl
/-- What Floor answers. -/
def zfq (x y : Int) : Int := if y = 0 then 0 else x.fdiv y
def zfr (x y : Int) : Int := if y = 0 then 0 else x.fmod y
attribute [local irreducible] zfq zfr
/-- What Euclid answers. -/
def zeq (x y : Int) : Int := if y = 0 then 0 else x / y
def zer (x y : Int) : Int := if y = 0 then 0 else x % y
theorem isign_zero (z : Int) : decide (isign z = 0) = decide (z = 0) := by
  rw [decide_eq_decide]; unfold isign; repeat' split <;> omega
end Go.Proofs.YtfhpmbenldgfnaaGreatDoor
/- Package zint in the symbolic run: Round, Exact, Gcd. -/
set_option linter.unusedVariables false
set_option linter.unusedSimpArgs false
namespace Go.Proofs.YtfhpmbenldgfnaaGreatDoor
open Go.RowKit QM SX
attribute [local irreducible] IntKind.wrap bitLen cmpI nval Go1 Reg WP thenK inBlk retQ RetOK ResOK CallOK OpOK Sat
attribute [local irreducible] sgn isign zrem zfq zfr
/-- What Round answers. -/
def zround (x y : Int) : Int := if y < 0 then zfq (-x + -x + -y) (-y + -y) else zfq (x + x + y) (y + y)
theorem zN0 : AV0.imp (.agg [.c (.val (.bool false)), .c (.val (.slice none 0 0))]) (.agg (zN 0)) := by
  rintro E S w v ⟨vs, hv, hall⟩
  match vs, hall with
  | [a, b], ⟨h1, h2, _⟩ =>
    refine ⟨[a, b], hv, h1, ?_, trivial⟩
    rw [show b = _ from h2]
    exact nrmN.zero
/-- What Exact answers. -/
def zexok (x y : Int) : Bool := decide (y ≠ 0) && decide (zrem x y = 0)
def zexq (x y : Int) : Int := if zexok x y then x.tdiv y else 0
instance Bd.zexq (x y : Int) (k : Nat) [h : Bd x k] : Bd (zexq x y) k := ⟨by
  unfold Proofs.YtfhpmbenldgfnaaGreatDoor.zexq
  split
  · exact (Bd.tdiv x y k).h
  · exact Nat.lt_of_lt_of_le (by decide) (WB_one_le _)⟩
theorem zExact {l l' : List Atom} {x y : Int} {k m : Nat} [h : ZI l x k] [h' : ZI l' y m] (hk : k + m ≤ 1099511627760) : PureOK Tryz.prog 58 [.agg l, .agg l'] (.tup [.agg (zN (zexq x y)), .one (.c (.val (.bool (zexok x y))))]) := by
  refine z2 ⟨_, Tryz.func58, rfl, rfl⟩ fun neg n neg2 n2 hz hz2 hn hn2 => ?_
  refine PureOK.fn Tryz.func58 Tryz.results58 Tryz.ntmps58 rfl rfl rfl (by simp [AV.ids, AV0.ids, Atom.ids]) rfl (fun w0 T B E0 hB => ?_)
  by_cases hy : y = 0
  · have hok : decide (y ≠ 0) = false := by simp [hy]
    have hok2 : (!decide (y ≠ 0)) = true := by simp [hy]
    have he : zexok x y = false := by unfold zexok; rw [hok]; rfl
    have hq : zexq x y = 0 := by unfold zexq; rw [he]; rfl
    rw [he, hq]
    rw [hz2] at hok hok2
    subst hz hz2
    repeat (first | refine SX.goZ ?_ | (refine SX.Go1.is ?_; refine SX.Go1.isCall ?_; first
          | refine SX.Go1.call rfl (zQuo (by omega)) rfl rfl ?_))
    exact RetOK.mk2 (ResOK.imp (ResOK.agg2 rfl rfl rfl) zN0) (ResOK.tmp rfl)
  · have hok : decide (y ≠ 0) = true := by simp [hy]
    have hok2 : (!decide (y ≠ 0)) = false := by simp [hy]
    rw [hz2] at hok hok2
    subst hz hz2
    repeat (first | refine SX.goZ ?_ | (refine SX.Go1.is ?_; refine SX.Go1.isCall ?_; first
          | refine SX.Go1.call rfl (zQuo (by omega)) rfl rfl ?_
          | refine SX.Go1.call rfl (zSign (by omega)) rfl rfl ?_))
    have hne : decide (isign (zrem (sgn neg n) (sgn neg2 n2)) ≠ 0) = decide (zrem (sgn neg n) (sgn neg2 n2) ≠ 0) := by
      have := isign_zero (zrem (sgn neg n) (sgn neg2 n2))
      rw [decide_eq_decide] at *
      omega
    rw [hne]
    refine WP.cond rfl (fun hc => ?_) (fun hc => ?_)
    · have hz0 : zrem (sgn neg n) (sgn neg2 n2) ≠ 0 := by simpa using hc
      have he : zexok (sgn neg n) (sgn neg2 n2) = false := by unfold zexok; simp [hz0]
      have hq : zexq (sgn neg n) (sgn neg2 n2) = 0 := by unfold zexq; rw [he]; rfl
      rw [he, hq]
      repeat (first | refine SX.goZ ?_)
      exact RetOK.mk2 (ResOK.imp (ResOK.agg2 rfl rfl rfl) zN0) (ResOK.tmp rfl)
    · have hz0 : zrem (sgn neg n) (sgn neg2 n2) = 0 := by simpa using hc
      have he : zexok (sgn neg n) (sgn neg2 n2) = true := by unfold zexok; rw [hok]; simp [hz0]
      have hq : zexq (sgn neg n) (sgn neg2 n2) = (sgn neg n).tdiv (sgn neg2 n2) := by unfold zexq; rw [he]; rfl
      rw [he, hq]
      repeat (first | refine SX.goZ ?_)
      exact RetOK.mk2 (ResOK.agg2 rfl rfl rfl) (ResOK.tmp rfl)
theorem sgn_false (n : Nat) : sgn false n = (n : Int) := by unfold sgn; simp
theorem zGcd {l l' : List Atom} {x y : Int} {k m : Nat} [h : ZI l x k] [h' : ZI l' y m] (hk : k + m ≤ 1099511627760) : PureOK Tryz.prog 68 [.agg l, .agg l'] (.agg (zN (Int.gcd x y : Int))) := by
  refine z2 ⟨_, Tryz.func68, rfl, rfl⟩ fun neg n neg2 n2 hz hz2 hn hn2 => ?_
  subst hz hz2
  rw [show (Int.gcd (sgn neg n) (sgn neg2 n2) : Int) = sgn false (Nat.gcd n n2) by rw [sgn_false]; unfold Int.gcd; rw [sgn_natAbs, sgn_natAbs]]
  refine PureOK.fn Tryz.func68 Tryz.results68 Tryz.ntmps68 rfl rfl rfl (by simp [AV.ids, AV0.ids, Atom.ids]) rfl (fun w0 T B E0 hB => ?_)
  repeat (first | refine SX.goZ ?_ | (refine SX.Go1.is ?_; refine SX.Go1.isCall ?_; first
        | refine SX.Go1.call rfl (dGcd (by omega)) rfl rfl ?_
        | refine SX.Go1.call rfl (zFrom _ (by omega)) rfl rfl ?_))
  exact RetOK.eq1 (ResOK.agg2 rfl rfl rfl) rfl
instance BdN.igcd (x y : Int) (k m : Nat) [hx : Bd x k] [hy : Bd y m] : BdN (Int.gcd x y) (k + m) := ⟨(BdN.gcd x.natAbs y.natAbs k m).h⟩
end Go.Proofs.YtfhpmbenldgfnaaGreatDoor
/- Package mul: Square, Pow; package zint: Pow. -/
set_option linter.unusedVariables false
set_option linter.unusedSimpArgs false
namespace Go.Proofs.YtfhpmbenldgfnaaGreatDoor
open Go.RowKit QM SX
attribute [local irreducible] IntKind.wrap bitLen cmpI nval Go1 Reg WP thenK inBlk retQ RetOK ResOK CallOK OpOK Sat
theorem mSquare {a : CA} {x k : Nat} [ha : NI a x k] (hk : k + k ≤ 274877906944) : PureOK Tryz.prog 225 [.it (.one (.c a))] (.r (nrmN (x * x))) := by
  refine PureOK.fn Tryz.func225 Tryz.results225 Tryz.ntmps225 rfl rfl rfl (by simp [AV.ids, AV0.ids, Atom.ids]) rfl (fun w0 T B E0 hB => ?_)
  repeat (first | refine SX.goZ ?_ | (refine SX.Go1.is ?_; refine SX.Go1.isCall ?_; first
        | refine SX.Go1.call rfl (mMul (by omega)) rfl rfl ?_))
  exact RetOK.eq1 (ResOK.tmp rfl) rfl
/-- May a power be reckoned? -/
def powok (x : Nat) (n : Int) : Bool := decide (0 ≤ n) && (decide (bitLen x = 0) || decide (n ≤ ((1048576 / bitLen x : Nat) : Int)))
def powv (x : Nat) (n : Int) : Nat := if powok x n = true then x ^ n.toNat else 0
/-- The words of a power at most. -/
@[irreducible] def pwK : Nat := 16384
attribute [local irreducible] powok powv
/-- What Pow answers. -/
def zpowv (z : Int) (n : Int) : Int := if powok z.natAbs n = true then z ^ n.toNat else 0
attribute [local irreducible] sgn zpowv
end Go.Proofs.YtfhpmbenldgfnaaGreatDoor
/- Digits of naturals: plain laws. -/
set_option linter.unusedVariables false
set_option linter.unusedSimpArgs false
namespace Go.Proofs.YtfhpmbenldgfnaaGreatDoor
open Go.RowKit QM SX
/-- So many digits of a number, with noughts ahead. -/
def decW : Nat → Nat → List UInt8
  | 0, _ => []
  | n + 1, x => decW n (x / 10) ++ [UInt8.ofNat (48 + x % 10)]
theorem decW_len : ∀ n x, (decW n x).length = n
  | 0, _ => rfl
  | n + 1, x => by rw [decW, List.length_append, decW_len n]; rfl
theorem decW_add : ∀ (m n x : Nat), decW (n + m) x = decW n (x / 10 ^ m) ++ decW m (x % 10 ^ m)
  | 0, n, x => by simp [decW]
  | m + 1, n, x => by
    have e1 : x / 10 ^ (m + 1) = x / 10 / 10 ^ m := by rw [Nat.div_div_eq_div_mul, Nat.pow_succ, Nat.mul_comm]
    have e2 : x % 10 ^ (m + 1) / 10 = x / 10 % 10 ^ m := by rw [Nat.pow_succ, Nat.mul_comm, Nat.mod_mul_right_div_self]
    have e3 : x % 10 ^ (m + 1) % 10 = x % 10 := by rw [Nat.pow_succ, Nat.mul_comm, Nat.mod_mul_right_mod]
    rw [← Nat.add_assoc, decW, decW_add m n, decW, e1, e2, e3, List.append_assoc]
/-- A number's digits; of 0 none. -/
def dig (x : Nat) : List UInt8 := if h : x = 0 then [] else dig (x / 10) ++ [UInt8.ofNat (48 + x % 10)]
decreasing_by omega
theorem dig_zero : dig 0 = [] := by rw [dig]; rfl
theorem dig_succ {x : Nat} (h : x ≠ 0) : dig x = dig (x / 10) ++ [UInt8.ofNat (48 + x % 10)] := by rw [dig, dif_neg h]
theorem decW_zero : ∀ n, (decW n 0).all (· == 48) = true
  | 0 => rfl
  | n + 1 => by rw [decW, List.all_append, show 0 / 10 = 0 from rfl, decW_zero n]; decide
theorem dropWhile_all {p : UInt8 → Bool} : ∀ {l : List UInt8}, l.all p = true → ∀ m, (l ++ m).dropWhile p = m.dropWhile p
  | [], _, m => rfl
  | a :: l, h, m => by
    rw [List.all_cons, Bool.and_eq_true] at h
    rw [List.cons_append, List.dropWhile_cons, if_pos h.1]; exact dropWhile_all h.2 m
theorem dropWhile_ne {p : UInt8 → Bool} : ∀ {l : List UInt8} (m : List UInt8), l.dropWhile p ≠ [] → (l ++ m).dropWhile p = l.dropWhile p ++ m
  | [], m, h => absurd rfl h
  | a :: l, m, h => by
    rw [List.cons_append, List.dropWhile_cons, List.dropWhile_cons] at *
    cases hp : p a
    · simp
    · simp only [hp, if_true] at h ⊢; exact dropWhile_ne m h
theorem dig_ne {x : Nat} (h : x ≠ 0) : dig x ≠ [] := by rw [dig_succ h]; simp
theorem byte_ne {d : Nat} (h0 : d ≠ 0) (h1 : d < 10) : (UInt8.ofNat (48 + d) == 48) = false := by
  rw [beq_eq_false_iff_ne]; intro e
  have := congrArg UInt8.toNat e
  rw [UInt8.toNat_ofNat'] at this
  have h48 : (48 : UInt8).toNat = 48 := rfl
  omega
theorem decW_drop : ∀ (n x : Nat), x < 10 ^ n → (decW n x).dropWhile (· == 48) = dig x
  | 0, x, h => by
    have : x = 0 := by simpa using h
    subst this; rw [dig_zero]; rfl
  | n + 1, x, h => by
    have hx : x / 10 < 10 ^ n := by rw [Nat.pow_succ] at h; omega
    have ih := decW_drop n (x / 10) hx
    rw [decW]
    by_cases h0 : x / 10 = 0
    · rw [h0, dropWhile_all (decW_zero n)]
      by_cases hx0 : x = 0
      · subst hx0; rw [dig_zero]; decide
      · rw [dig_succ hx0, h0, dig_zero, List.dropWhile_cons, byte_ne (by omega) (by omega)]; rfl
    · rw [dropWhile_ne _ (by rw [ih]; exact dig_ne h0), ih, ← dig_succ (by omega)]
/-- The digits by a power. -/
def nD : Nat → Nat
  | 0 => 18
  | j + 1 => nD j + nD j
def pw (j : Nat) : Nat := 10 ^ nD j
theorem pw_zero : pw 0 = 1000000000000000000 := rfl
theorem pw_succ (j : Nat) : pw (j + 1) = pw j * pw j := by unfold pw; rw [nD, Nat.pow_add]
theorem pw_pos (j : Nat) : 0 < pw j := Nat.pow_pos (by decide)
theorem nD_ge : ∀ j, j + 18 ≤ nD j
  | 0 => Nat.le_refl _
  | j + 1 => by have := nD_ge j; rw [nD]; omega
instance BdN.pw (j : Nat) : BdN (pw j) (nD j) := ⟨by
  show 10 ^ nD j < WB ^ nD j
  exact Nat.pow_lt_pow_left (by rw [WB_eq]; decide) (by have := nD_ge j; omega)⟩
theorem nD_bits (j : Nat) : nD j ≤ bitLen (pw j) := by
  have h := (bitLen_spec (pw j)).1
  have h2 : 2 ^ nD j ≤ pw j := Nat.pow_le_pow_left (by decide) _
  exact Nat.le_of_lt ((Nat.pow_lt_pow_iff_right (by decide)).1 (Nat.lt_of_le_of_lt h2 h))
theorem bits_le {x k : Nat} (h : x < WB ^ k) : bitLen x ≤ 64 * k := by
  have hs := (bitLen_spec x).2
  by_cases h0 : x = 0
  · subst h0; exact Nat.zero_le _
  · have h1 := hs h0
    have e : WB ^ k = 2 ^ (64 * k) := by rw [Nat.pow_mul]; rfl
    rw [e] at h
    have := (Nat.pow_lt_pow_iff_right (a := 2) (by decide)).1 (Nat.lt_of_le_of_lt h1 h)
    omega
/-- How often the first power is squared. -/
def pwM (x : Nat) : Nat → Nat → Nat
  | 0, j => j
  | f + 1, j => if 2 * bitLen (pw j) ≤ bitLen x + 1 then pwM x f (j + 1) else j
def pwm (x : Nat) : Nat := pwM x (bitLen x + 2) 0
theorem pw_enough {x j : Nat} (h : ¬ 2 * bitLen (pw j) ≤ bitLen x + 1) : x < pw (j + 1) := by
  have h1 := (bitLen_spec x).1
  have h2 := (bitLen_spec (pw j)).2 (Nat.ne_of_gt (pw_pos j))
  have h3 := nD_bits j
  have h4 := nD_ge j
  rw [pw_succ]
  refine Nat.lt_of_lt_of_le h1 (Nat.le_trans ?_ (Nat.mul_le_mul h2 h2))
  rw [← Nat.pow_add]
  exact Nat.pow_le_pow_right (by decide) (by omega)
/-- A numeral's text. -/
def decS (x : Nat) : List UInt8 := if x = 0 then [48] else dig x
theorem dig_len {x n : Nat} (h : x < 10 ^ n) : (dig x).length ≤ n := by
  rw [← decW_drop n x h]
  exact Nat.le_trans (List.dropWhile_sublist _).length_le (Nat.le_of_eq (decW_len n x))
end Go.Proofs.YtfhpmbenldgfnaaGreatDoor
/- Package dec in the symbolic run: Print. -/
set_option linter.unusedVariables false
set_option linter.unusedSimpArgs false
namespace Go.Proofs.YtfhpmbenldgfnaaGreatDoor
open Go.RowKit QM SX
attribute [local irreducible] IntKind.wrap Go1 Reg WP thenK inBlk retQ retF RetF RetOK ResOK CallOK OpOK Sat
attribute [local irreducible] decW pw nD pwM pwm decS
section
variable {a b : CA} {x y k m : Nat}
instance con_nBits [ha : NI a x k] : Con Tryz.prog 89 [.it (.one (.c a))] (k ≤ 1099511627775) (.v (.int .i64 (bitLen x : Int))) := ⟨fun h => nBits h⟩
instance con_mSquare [ha : NI a x k] : Con Tryz.prog 225 [.it (.one (.c a))] (k + k ≤ 274877906944) (.r (nrmN (x * x))) := ⟨fun h => mSquare h⟩
end
theorem decW_z (x : Nat) : decW 0 x = [] := by unfold decW; rfl
theorem decW_s (n x : Nat) : decW (n + 1) x = decW n (x / 10) ++ [UInt8.ofNat (48 + x % 10)] := by rw [decW]
theorem pureS {f : FuncId} {args : List Value} {r : Value} (he : ∃ fn, Tryz.prog.funcs[f]? = some fn ∧ (fn.name == "runtime.NumGoroutine") = false ∧ fn.body.isNone = false) (h : ∀ w, Calls Tryz.prog f args.toArray w fun e w' => e = .returned r ∧ w' = w) : PureOK Tryz.prog f (args.map AV.v) (.v r) :=
  PureOK.of_calls he rfl fun E S w vs hl hv => by
    have hvs : vs = args := by
      clear h
      induction args generalizing vs with
      | nil => cases vs with | nil => rfl | cons _ _ => exact hv.elim
      | cons a l ih => cases vs with | nil => exact hv.elim | cons b m => rw [ih m hv.2, show b = a from hv.1]
    subst hvs
    exact (h w).mono fun e w' ⟨h1, h2⟩ => ⟨r, h1, rfl, by subst h2; exact Off.refl _ _⟩
theorem byte48 (d : Nat) : ((UInt8.ofNat (48 + d % 10)).toNat : Int) = ((48 + d % 10 : Nat) : Int) := by
  rw [UInt8.toNat_ofNat']; omega
theorem con_word (x : Nat) (hx : x < WB) : OwnOK Tryz.prog 224 [.v (.int .u64 (x : Int))] 5 1 18 ((decW 18 x).flatMap bytC) := by
  rw [WB_eq] at hx
  refine OwnOK.fnF Tryz.func224 Tryz.results224 Tryz.ntmps224 rfl rfl rfl (by simp [AV.ids, AV0.ids, Atom.ids]) (fun w0 T B E0 hB => ?_)
  refine SX.go2 ?_
  refine W.loop3 (fun (k y : Nat) (tl : List UInt8) => k + tl.length = 18 ∧ y < 18446744073709551616 ∧ decW k y ++ tl = decW 18 x) (fun k y tl => [(0, .v (.int .u64 (y : Int))), (3, .own 100), (4, .v (.int .i64 ((k : Int) - 1)))])
    (fun k y tl => [(100, .row 5 1 18 ((List.replicate k 0 ++ tl).flatMap bytC))]) (fun k _ _ => k) 18 x [] ⟨rfl, hx, by simp⟩ (fun k y tl ⟨hk, hy, hd⟩ => ?_)
  cases k with
  | zero =>
    have e : (List.replicate 0 0 ++ tl).flatMap bytC = (decW 18 x).flatMap bytC := by rw [← hd, decW_z]; rfl
    refine SX.go2 ?_
    exact retO
  | succ k =>
    rw [show ((k + 1 : Nat) : Int) - 1 = (k : Int) by omega]
    have e : spl ((List.replicate (k + 1) 0 ++ tl).flatMap bytC) (k * 1) [.val (.int .u8 ((48 + y % 10 : Nat) : Int))] = (List.replicate k 0 ++ (UInt8.ofNat (48 + y % 10) :: tl)).flatMap bytC := by
      rw [← byte48, show [CA.val (.int .u8 ((UInt8.ofNat (48 + y % 10)).toNat : Int))] = bytC (UInt8.ofNat (48 + y % 10)) from rfl, flat_set _ _ _ (by simp; omega), List.replicate_succ']
      congr 1
      rw [List.append_assoc, List.set_append_right _ _ (by simp)]
      simp
    refine SX.go2 ?_
    -- ??
    exact W.next3 k (y / 10) (UInt8.ofNat (48 + y % 10) :: tl) ⟨by simp at hk ⊢; omega, by omega, by rw [← hd, decW_s]; simp⟩ (by omega)
/-- A natural as a cell. -/
def natC (n : Nat) : List CA := [.sat (nrmN n)]
instance : EncLen natC 1 := ⟨fun _ => rfl⟩
def pws (j : Nat) : List Nat := (List.range j).map pw
theorem pws_len (j : Nat) : (pws j).length = j := by simp [pws]
theorem pws_get {i j : Nat} (h : i < j) : (pws j)[i]? = some (pw i) := by simp [pws, h]
theorem pws_take {i j : Nat} (h : i ≤ j) : (pws j).take i = pws i := by
  unfold pws; rw [← List.map_take, List.take_range, Nat.min_eq_left h]
theorem pws_succ (j : Nat) : pws (j + 1) = pws j ++ [pw j] := by simp [pws, List.range_succ]
theorem pw_zero' : pw 0 = 1000000000000000000 := pw_zero
theorem con_powers {a : CA} {x k : Nat} [ha : NI a x k] (hx : x < WB ^ k) (hk : k ≤ 1000000000) : PureOK Tryz.prog 194 [.it (.one (.c a))] (.r (rowR 1 natC (pws (pwm x + 1)))) := by
  have cO : PureOK Tryz.prog 65 [.v (.int .u64 1000000000000000000)] (.r (nrmN (pw 0))) := by rw [pw_zero]; exact nOf 1000000000000000000 (by rw [WB_eq]; decide)
  have hb := bits_le hx
  have mark : OwnLit 5 := ⟨⟩
  have e0 : [CA.sat (nrmN (pw 0))] = (pws (0 + 1)).flatMap natC := rfl
  refine PureOK.fnF Tryz.func194 Tryz.results194 Tryz.ntmps194 rfl rfl rfl (by simp [AV.ids, AV0.ids, Atom.ids]) rfl (fun w0 T B E0 hB => ?_)
  refine SX.go2 ?_
  have hpm : pwM x (bitLen x + 2) 0 = pwm x := by unfold pwm; rfl
  refine W.loop2 (fun (j f : Nat) => (j = 0 ∨ nD j ≤ bitLen x + 1) ∧ pwM x f j = pwm x ∧ f + j = bitLen x + 2) (fun j f => [(0, .it (.one (.c a))), (3, .own 100)]) (fun j f => [(100, .row 23 1 (j + 1) ((pws (j + 1)).flatMap natC))]) (fun j f => f) 0 (bitLen x + 2) ⟨.inl rfl, hpm, rfl⟩ (fun j f ⟨h1, h2, h3⟩ => ?_)
  have hn : nD j ≤ 64000000001 := by
    rcases h1 with rfl | h1
    · have : nD 0 = 18 := by unfold nD; rfl
      omega
    · omega
  have hg : (pws (j + 1))[j + 1 - 1]? = some (pw j) := pws_get (by omega)
  have hbp := nD_bits j
  have hbj := nD_ge j
  have hbu := bits_le (BdN.pw j).h
  by_cases hq : 2 * bitLen (pw j) ≤ bitLen x + 1
  · cases f with
    | zero => exact absurd hq (by omega)
    | succ f =>
      have e1 : (pws (j + 1)).flatMap natC ++ [CA.sat (nrmN (pw j * pw j))] = (pws (j + 1 + 1)).flatMap natC := by
        rw [pws_succ (j + 1), List.flatMap_append, pw_succ]; rfl
      have h2' : pwM x f (j + 1) = pwm x := by rw [← h2]; conv => rhs; unfold pwM; rw [if_pos hq]
      have hs : nD (j + 1) = nD j + nD j := by conv => lhs; unfold nD
      refine SX.go2 ?_
      exact W.next2 (j + 1) f ⟨.inr (by omega), h2', by omega⟩ (by omega)
  · have hjm : j = pwm x := by
      rw [← h2]
      cases f with
      | zero => unfold pwM; rfl
      | succ f => conv => rhs; unfold pwM; rw [if_neg hq]
    refine SX.go2 ?_
    refine RetF.frz 100 ?_
    refine ret1' ?_
    rw [← hjm]
    show AV0.imp _ (.one (.c (.sat (sliceR 1 (pws (j + 1)).length ((pws (j + 1)).flatMap natC)))))
    rw [pws_len]; exact AV0.imp.refl _
theorem con_digits : ∀ (j : Nat) {a : CA} {x k : Nat} [ha : NI a x k] (L : List Nat), L = pws j → x < pw j → nD j ≤ 200000000000 → k ≤ 500000000000 →
    OwnOK Tryz.prog 193 [.it (.one (.c a)), .r (rowR 1 natC L)] 5 1 (nD j) ((decW (nD j) x).flatMap bytC)
  | 0, a, x, k, ha, L, hL, hx, hn, hk => by
    have e18 : nD 0 = 18 := by unfold nD; rfl
    have hxw : x < WB := by rw [pw_zero'] at hx; rw [WB_eq]; omega
    have cW := nWord (a := a) (x := x) (k := k) (by omega)
    rw [if_pos hxw] at cW
    have cw := con_word x hxw
    have hl0 : L.length = 0 := by rw [hL, pws_len]
    rw [e18]
    refine OwnOK.fnF Tryz.func193 Tryz.results193 Tryz.ntmps193 rfl rfl rfl (by simp [AV.ids, AV0.ids, Atom.ids]) (fun w0 T B E0 hB => ?_)
    refine SX.go2 ?_
    exact retO
  | j + 1, a, x, k, ha, L, hL, hx, hn, hk => by
    have hs : nD (j + 1) = nD j + nD j := by conv => lhs; unfold nD
    have hj := nD_ge j
    have hl1 : L.length = j + 1 := by rw [hL, pws_len]
    have hg : L[L.length - 1]? = some (pw j) := by rw [hl1, hL]; exact pws_get (by omega)
    have ht : L.take (L.length - 1) = pws j := by rw [hl1, hL]; exact pws_take (by omega)
    have hp := pw_pos j
    rw [pw_succ] at hx
    have hq : x / pw j < pw j := Nat.div_lt_of_lt_mul hx
    have hr : x % pw j < pw j := Nat.mod_lt _ hp
    have cD := dDivMod (a := a) (x := x) (k := k) (b := .sat (nrmN (pw j))) (y := pw j) (m := nD j) (by omega)
    rw [if_neg (by omega)] at cD
    haveI b1 : BdN (x / pw j) (nD j) := ⟨Nat.lt_trans hq (BdN.pw j).h⟩
    haveI b2 : BdN (x % pw j) (nD j) := ⟨Nat.lt_trans hr (BdN.pw j).h⟩
    have c1 := con_digits j (a := .sat (nrmN (x / pw j))) (k := nD j) (L.take (L.length - 1)) ht hq (by omega) (by omega)
    have c2 := (con_digits j (a := .sat (nrmN (x % pw j))) (k := nD j) (L.take (L.length - 1)) ht hr (by omega) (by omega)).pure
    have e1 : (decW (nD j) (x / pw j)).flatMap bytC ++ (decW (nD j) (x % pw j)).flatMap bytC = (decW (nD j + nD j) x).flatMap bytC := by
      rw [decW_add, List.flatMap_append, show 10 ^ nD j = pw j by unfold pw; rfl]
    rw [hs]
    refine OwnOK.fnF Tryz.func193 Tryz.results193 Tryz.ntmps193 rfl rfl rfl (by simp [AV.ids, AV0.ids, Atom.ids]) (fun w0 T B E0 hB => ?_)
    refine SX.go2 ?_
    exact retO
theorem con_TrimLeft (l : List UInt8) : PureOK Tryz.prog 192 [.v (str l), .v (str [48])] (.v (str (l.dropWhile (· == 48)))) :=
  pureS (args := [str l, str [48]]) ⟨_, Tryz.func192, rfl, rfl⟩ fun w => (Tryz.strings_TrimLeft_one ⟨⟨l⟩⟩ 48 (by decide) w).mono fun e w' ⟨h1, h2⟩ => ⟨h1, h2⟩
theorem pwm_lt (x : Nat) : x < pw (pwm x + 1) := by
  have key : ∀ (f j : Nat), f + j = bitLen x + 2 → ¬ 2 * bitLen (pw (pwM x f j)) ≤ bitLen x + 1 := by
    intro f
    induction f with
    | zero =>
      intro j hj
      have h1 := nD_bits j
      have h2 := nD_ge j
      unfold pwM; omega
    | succ f ih =>
      intro j hj
      unfold pwM
      split
      · exact ih (j + 1) (by omega)
      · assumption
  have := key (bitLen x + 2) 0 rfl
  exact pw_enough (by unfold pwm; exact this)
theorem pwm_nD {x k : Nat} (hx : x < WB ^ k) (hk : k ≤ 1000000000) : nD (pwm x + 1) ≤ 200000000000 := by
  have hb := bits_le hx
  have key : ∀ (f j : Nat), (j = 0 ∨ nD j ≤ bitLen x + 1) → nD (pwM x f j) ≤ 64000000001 := by
    intro f
    induction f with
    | zero =>
      intro j hj
      unfold pwM
      rcases hj with rfl | hj
      · have : nD 0 = 18 := by unfold nD; rfl
        omega
      · omega
    | succ f ih =>
      intro j hj
      unfold pwM
      split
      · rename_i h
        have h1 := nD_bits j
        exact ih (j + 1) (.inr (by conv => lhs; unfold nD
                                   omega))
      · rcases hj with rfl | hj
        · have : nD 0 = 18 := by unfold nD; rfl
          omega
        · omega
  have h1 := key (bitLen x + 2) 0 (.inl rfl)
  have h2 : nD (pwm x + 1) = nD (pwm x) + nD (pwm x) := by conv => lhs; unfold nD
  have h3 : nD (pwm x) ≤ 64000000001 := by unfold pwm; exact h1
  omega
/-- Print. -/
theorem con_Print {a : CA} {x k : Nat} [ha : NI a x k] (hx : x < WB ^ k) (hk : k ≤ 1000000000) : PureOK Tryz.prog 123 [.it (.one (.c a))] (.v (str (decS x))) := by
  have cP := con_powers (a := a) hx hk
  have cD := (con_digits (pwm x + 1) (a := a) (k := k) (pws (pwm x + 1)) rfl (pwm_lt x) (pwm_nD hx hk) (by omega)).pure
  have el : nD (pwm x + 1) = (decW (nD (pwm x + 1)) x).length := (decW_len _ _).symm
  have cD' : PureOK Tryz.prog 193 [.it (.one (.c a)), .r (rowR 1 natC (pws (pwm x + 1)))] (.r (rowR 1 bytC (decW (nD (pwm x + 1)) x))) := by
    show PureOK _ _ _ (.r (sliceR 1 (decW (nD (pwm x + 1)) x).length _))
    rw [decW_len]; exact cD
  clear cD
  have cT := con_TrimLeft (decW (nD (pwm x + 1)) x)
  have hd := decW_drop (nD (pwm x + 1)) x (by have := pwm_lt x; unfold pw at this; exact this)
  rw [hd] at cT
  have hS : decS x = if x = 0 then [48] else dig x := by unfold decS; rfl
  refine PureOK.fnF Tryz.func123 Tryz.results123 Tryz.ntmps123 rfl rfl rfl (by simp [AV.ids, AV0.ids, Atom.ids]) rfl (fun w0 T B E0 hB => ?_)
  by_cases h0 : x = 0
  · have hz : decide (dig x = []) = true := by subst h0; rw [dig_zero]; rfl
    refine SX.go2 ?_
    refine retS ?_; rw [hS, if_pos h0]
  · have hz : decide (dig x = []) = false := decide_eq_false (dig_ne h0)
    refine SX.go2 ?_
    refine retS ?_; rw [hS, if_neg h0]
end Go.Proofs.YtfhpmbenldgfnaaGreatDoor
/- Packages zint (texts) and rat in the symbolic run. -/
set_option linter.unusedVariables false
set_option linter.unusedSimpArgs false
namespace Go.Proofs.YtfhpmbenldgfnaaGreatDoor
open Go.RowKit QM SX
attribute [local irreducible] IntKind.wrap Go1 Reg WP thenK inBlk retQ retF RetF RetOK ResOK CallOK OpOK Sat
section
variable {l l' : List Atom} {a : CA} {x y : Int} {n k m : Nat}
instance con_zSign [h : ZI l x k] : Con Tryz.prog 63 [.agg l] (k ≤ 1099511627775) (.v (.int .i64 (isign x))) := ⟨fun h => zSign h⟩
instance con_zNeg [h : ZI l x k] : Con Tryz.prog 67 [.agg l] (k ≤ 1099511627775) (.agg (zN (-x))) := ⟨fun h => zNeg h⟩
instance con_zOf : Con Tryz.prog 23 [.v (.int .i64 x)] (-9223372036854775808 ≤ x ∧ x ≤ 9223372036854775807) (.agg (zN x)) := ⟨fun h => zOf x h.1 h.2⟩
instance con_zAdd [h : ZI l x k] [h' : ZI l' y m] : Con Tryz.prog 131 [.agg l, .agg l'] (k + m ≤ 1099511627774) (.agg (zN (x + y))) := ⟨fun h => zAdd h⟩
instance con_zSub [h : ZI l x k] [h' : ZI l' y m] : Con Tryz.prog 127 [.agg l, .agg l'] (k + m ≤ 1099511627774) (.agg (zN (x - y))) := ⟨fun h => zSub h⟩
instance con_zMul [h : ZI l x k] [h' : ZI l' y m] : Con Tryz.prog 128 [.agg l, .agg l'] (k + m ≤ 274877906944) (.agg (zN (x * y))) := ⟨fun h => zMul h⟩
instance con_zSame [h : ZI l x k] [h' : ZI l' y m] : Con Tryz.prog 122 [.agg l, .agg l'] (k + m ≤ 1099511627774) (.v (.bool (decide (x = y)))) := ⟨fun h => zSame h⟩
instance con_zBits [h : ZI l x k] : Con Tryz.prog 39 [.agg l] (k ≤ 1099511627775) (.v (.int .i64 (bitLen x.natAbs : Int))) := ⟨fun h => zBits h⟩
instance con_zExact [h : ZI l x k] [h' : ZI l' y m] : Con Tryz.prog 58 [.agg l, .agg l'] (k + m ≤ 1099511627760) (.tup [.agg (zN (zexq x y)), .one (.c (.val (.bool (zexok x y))))]) := ⟨fun h => zExact h⟩
instance con_zGcd [h : ZI l x k] [h' : ZI l' y m] : Con Tryz.prog 68 [.agg l, .agg l'] (k + m ≤ 1099511627760) (.agg (zN (Int.gcd x y : Int))) := ⟨fun h => zGcd h⟩
instance con_zFrom [h : NI a n k] (neg : Bool) : Con Tryz.prog 64 [.it (.one (.c a)), .v (.bool neg)] (k ≤ 1099511627775) (.agg (zN (sgn neg n))) := ⟨fun h => zFrom neg h⟩
end
theorem isign0 (z : Int) : isign z = 0 ↔ z = 0 := by unfold isign; (repeat' split) <;> omega
theorem isignN (z : Int) : isign z < 0 ↔ z < 0 := by unfold isign; (repeat' split) <;> omega
theorem isign_mulw (a b : Int) : IntKind.i64.wrap (isign a * isign b) = isign (a * b) := by
  have h : isign a * isign b = isign (a * b) := by
    unfold isign
    by_cases ha : a = 0
    · simp [ha]
    · by_cases hb : b = 0
      · simp [hb]
      · have hab : a * b ≠ 0 := Int.mul_ne_zero ha hb
        rw [if_neg ha, if_neg hb, if_neg hab]
        by_cases h1 : a < 0
        · by_cases h2 : b < 0
          · have := Int.mul_pos_of_neg_of_neg h1 h2
            rw [if_pos h1, if_pos h2, if_neg (by omega)]; rfl
          · have := Int.mul_neg_of_neg_of_pos h1 (show 0 < b by omega)
            rw [if_pos h1, if_neg h2, if_pos (by omega)]; rfl
        · by_cases h2 : b < 0
          · have := Int.mul_neg_of_pos_of_neg (show 0 < a by omega) h2
            rw [if_neg h1, if_pos h2, if_pos (by omega)]; rfl
          · have := Int.mul_pos (show 0 < a by omega) (show 0 < b by omega)
            rw [if_neg h1, if_neg h2, if_neg (by omega)]; rfl
  rw [h]
  have h1 : -1 ≤ isign (a * b) ∧ isign (a * b) ≤ 1 := by unfold isign; (repeat' split) <;> omega
  exact wrapI64 (by omega) (by omega)
/-- A whole number's text. -/
def zS (z : Int) : List UInt8 := if z < 0 then 45 :: decS z.natAbs else decS z.natAbs
theorem decS_len {x k : Nat} (h : x < WB ^ k) : (decS x).length ≤ 20 * k + 1 := by
  unfold decS
  split
  · simp
  · have : WB ^ k ≤ 10 ^ (20 * k) := by rw [Nat.pow_mul]; exact Nat.pow_le_pow_left (by rw [WB_eq]; decide) _
    have := dig_len (Nat.lt_of_lt_of_le h this)
    omega
theorem zS_len {z : Int} {k : Nat} [h : Bd z k] : (zS z).length ≤ 20 * k + 2 := by
  have := decS_len h.h
  unfold zS; split
  · rw [List.length_cons]; omega
  · omega
/-- Print. -/
instance con_zPrint {l : List Atom} {z : Int} {k : Nat} [h : ZI l z k] : Con Tryz.prog 52 [.agg l] (k ≤ 1000000000) (.v (str (zS z))) := ⟨fun hk => by
  refine z1 ⟨_, Tryz.func52, rfl, rfl⟩ fun neg n hz hn => ?_
  subst hz
  have hb := (inferInstance : BdN n k).h
  have cP := con_Print (a := .sat (natR n k)) hb hk
  have hl := decS_len hb
  have hS : zS (sgn neg n) = if sgn neg n < 0 then 45 :: decS n else decS n := by unfold zS; rw [sgn_natAbs]
  have hs := isignN (sgn neg n)
  refine PureOK.fnF Tryz.func52 Tryz.results52 Tryz.ntmps52 rfl rfl rfl (by simp [AV.ids, AV0.ids, Atom.ids]) rfl (fun w0 T B E0 hB => ?_)
  by_cases h0 : sgn neg n < 0
  · refine SX.go2 ?_
    refine retS ?_; rw [hS, if_pos h0]; rfl
  · refine SX.go2 ?_
    refine retS ?_; rw [hS, if_neg h0]⟩
/-- A fraction, as it is made. -/
def rmk (x y : Int) : Int × Int := if y = 0 then (0, 1) else if y < 0 then (zexq (-x) (Int.gcd (-x) (-y)), zexq (-y) (Int.gcd (-x) (-y))) else (zexq x (Int.gcd x y), zexq y (Int.gcd x y))
abbrev ratA (q : Int × Int) : List Atom := [.c (.val (.bool (decide (q.1 < 0)))), .c (.sat (nrmN q.1.natAbs)), .c (.val (.bool (decide (q.2 < 0)))), .c (.sat (nrmN q.2.natAbs))]
instance Bd.rmk1 (x y : Int) (k m : Nat) [h : Bd x k] [h' : Bd y m] : Bd (rmk x y).1 (k + m + 1) := ⟨by
  unfold rmk; repeat' split
  · exact Bd.mono (Bd.zero).h (by omega)
  · exact Bd.mono (Bd.zexq (-x) _ k).h (by omega)
  · exact Bd.mono (Bd.zexq x _ k).h (by omega)⟩
instance Bd.rmk2 (x y : Int) (k m : Nat) [h : Bd x k] [h' : Bd y m] : Bd (rmk x y).2 (k + m + 1) := ⟨by
  unfold rmk; repeat' split
  · exact Bd.mono (Bd.one).h (by omega)
  · exact Bd.mono (Bd.zexq (-y) _ m).h (by omega)
  · exact Bd.mono (Bd.zexq y _ m).h (by omega)⟩
instance con_rOf {l : List Atom} {z : Int} {k : Nat} [h : ZI l z k] : Con Tryz.prog 36 [.agg l] (k ≤ 1000000000) (.agg (ratA (z, 1))) := ⟨fun hk => by
  refine z1 ⟨_, Tryz.func36, rfl, rfl⟩ fun neg n hz hn => ?_
  subst hz
  refine PureOK.fnF Tryz.func36 Tryz.results36 Tryz.ntmps36 rfl rfl rfl (by simp [AV.ids, AV0.ids, Atom.ids]) rfl (fun w0 T B E0 hB => ?_)
  refine SX.go2 ?_
  exact retA (ResOK.agg4 rfl rfl rfl) rfl⟩
instance con_rZero : Con Tryz.prog 66 [] True (.agg (ratA (0, 1))) := ⟨fun hk => by
  refine PureOK.fnF Tryz.func66 Tryz.results66 Tryz.ntmps66 rfl rfl rfl (by simp [AV.ids, AV0.ids, Atom.ids]) rfl (fun w0 T B E0 hB => ?_)
  refine SX.go2 ?_
  exact retA (ResOK.agg4 rfl rfl rfl) rfl⟩
instance con_rMake {l l' : List Atom} {x y : Int} {k m : Nat} [h : ZI l x k] [h' : ZI l' y m] : Con Tryz.prog 24 [.agg l, .agg l'] (k + m ≤ 1000000000) (.tup [.agg (ratA (rmk x y)), .one (.c (.val (.bool (decide (y ≠ 0)))))]) := ⟨fun hk => by
  refine z2 ⟨_, Tryz.func24, rfl, rfl⟩ fun neg n neg2 n2 hz hz2 hn hn2 => ?_
  subst hz; subst hz2
  have hs0 := isign0 (sgn neg2 n2)
  have hsn := isignN (sgn neg2 n2)
  refine PureOK.fnF Tryz.func24 Tryz.results24 Tryz.ntmps24 rfl rfl rfl (by simp [AV.ids, AV0.ids, Atom.ids]) rfl (fun w0 T B E0 hB => ?_)
  by_cases h0 : sgn neg2 n2 = 0
  · refine SX.go2 ?_
    have e : rmk (sgn neg n) (sgn neg2 n2) = (0, 1) := by unfold rmk; rw [if_pos h0]
    rw [e]
    exact ret2' (ResOK.agg4 rfl rfl rfl) (ResOK.tmp rfl) (AV0.imp.refl _) (AV0.imp.of_eq (cb (by simp [h0])))
  · by_cases h1 : sgn neg2 n2 < 0
    · refine SX.go2 ?_
      have e : rmk (sgn neg n) (sgn neg2 n2) = (zexq (-sgn neg n) (Int.gcd (-sgn neg n) (-sgn neg2 n2)), zexq (-sgn neg2 n2) (Int.gcd (-sgn neg n) (-sgn neg2 n2))) := by unfold rmk; rw [if_neg h0, if_pos h1]
      rw [e]
      exact ret2' (ResOK.agg4 rfl rfl rfl) (ResOK.tmp rfl) (AV0.imp.refl _) (AV0.imp.of_eq (cb (by simp [h0])))
    · refine SX.go2 ?_
      have e : rmk (sgn neg n) (sgn neg2 n2) = (zexq (sgn neg n) (Int.gcd (sgn neg n) (sgn neg2 n2)), zexq (sgn neg2 n2) (Int.gcd (sgn neg n) (sgn neg2 n2))) := by unfold rmk; rw [if_neg h0, if_neg h1]
      rw [e]
      exact ret2' (ResOK.agg4 rfl rfl rfl) (ResOK.tmp rfl) (AV0.imp.refl _) (AV0.imp.of_eq (cb (by simp [h0])))⟩
theorem q1 {f : FuncId} {r : AV} {x0 x1 x2 x3 : Atom} {p q : Int} {k m : Nat} [h : ZI [x0, x1] p k] [h' : ZI [x2, x3] q m] (he : ∃ fn, Tryz.prog.funcs[f]? = some fn ∧ (fn.name == "runtime.NumGoroutine") = false ∧ fn.body.isNone = false)
    (hf : ∀ neg n neg' n', p = sgn neg n → q = sgn neg' n' → BdN n k → BdN n' m → PureOK Tryz.prog f [.agg (zR neg n k ++ zR neg' n' m)] r) : PureOK Tryz.prog f [.agg [x0, x1, x2, x3]] r := by
  obtain ⟨neg, n, hz, hm⟩ := h.h
  obtain ⟨neg', n', hz', hm'⟩ := h'.h
  refine PureOK.fact (φ := BdN n k ∧ BdN n' m) he (fun hb => hf neg n neg' n' hz hz' hb.1 hb.2) fun E S w vs hv => ?_
  match vs, hv with
  | [_], ⟨⟨[v0, v1, v2, v3], rfl, h0, h1, h2, h3, _⟩, _⟩ =>
    have a1 := hm E S w _ ⟨[v0, v1], rfl, h0, h1, trivial⟩
    have a2 := hm' E S w _ ⟨[v2, v3], rfl, h2, h3, trivial⟩
    refine ⟨⟨⟨[v0, v1, v2, v3], rfl, ?_⟩, trivial⟩, ⟨zR_bd a1⟩, ⟨zR_bd a2⟩⟩
    obtain ⟨us, e1, b1⟩ := a1
    obtain ⟨us', e2, b2⟩ := a2
    match us, us', b1, b2 with
    | [_, _], [_, _], ⟨c0, c1, _⟩, ⟨d0, d1, _⟩ =>
      cases e1; cases e2
      exact ⟨c0, c1, d0, d1, trivial⟩
theorem q2 {f : FuncId} {r : AV} {x0 x1 x2 x3 y0 y1 y2 y3 : Atom} {p q p' q' : Int} {k m k' m' : Nat} [h : ZI [x0, x1] p k] [h' : ZI [x2, x3] q m] [g : ZI [y0, y1] p' k'] [g' : ZI [y2, y3] q' m'] (he : ∃ fn, Tryz.prog.funcs[f]? = some fn ∧ (fn.name == "runtime.NumGoroutine") = false ∧ fn.body.isNone = false)
    (hf : ∀ neg n neg' n' neg2 n2 neg3 n3, p = sgn neg n → q = sgn neg' n' → p' = sgn neg2 n2 → q' = sgn neg3 n3 → BdN n k → BdN n' m → BdN n2 k' → BdN n3 m' → PureOK Tryz.prog f [.agg (zR neg n k ++ zR neg' n' m), .agg (zR neg2 n2 k' ++ zR neg3 n3 m')] r) : PureOK Tryz.prog f [.agg [x0, x1, x2, x3], .agg [y0, y1, y2, y3]] r := by
  obtain ⟨neg, n, hz, hm⟩ := h.h
  obtain ⟨neg', n', hz', hm'⟩ := h'.h
  obtain ⟨neg2, n2, hz2, hm2⟩ := g.h
  obtain ⟨neg3, n3, hz3, hm3⟩ := g'.h
  refine PureOK.fact (φ := BdN n k ∧ BdN n' m ∧ BdN n2 k' ∧ BdN n3 m') he (fun hb => hf neg n neg' n' neg2 n2 neg3 n3 hz hz' hz2 hz3 hb.1 hb.2.1 hb.2.2.1 hb.2.2.2) fun E S w vs hv => ?_
  match vs, hv with
  | [_, _], ⟨⟨[v0, v1, v2, v3], rfl, h0, h1, h2, h3, _⟩, ⟨[w0, w1, w2, w3], rfl, i0, i1, i2, i3, _⟩, _⟩ =>
    have a1 := hm E S w _ ⟨[v0, v1], rfl, h0, h1, trivial⟩
    have a2 := hm' E S w _ ⟨[v2, v3], rfl, h2, h3, trivial⟩
    have a3 := hm2 E S w _ ⟨[w0, w1], rfl, i0, i1, trivial⟩
    have a4 := hm3 E S w _ ⟨[w2, w3], rfl, i2, i3, trivial⟩
    refine ⟨⟨⟨[v0, v1, v2, v3], rfl, ?_⟩, ⟨[w0, w1, w2, w3], rfl, ?_⟩, trivial⟩, ⟨zR_bd a1⟩, ⟨zR_bd a2⟩, ⟨zR_bd a3⟩, ⟨zR_bd a4⟩⟩
    · obtain ⟨us, e1, b1⟩ := a1
      obtain ⟨us', e2, b2⟩ := a2
      match us, us', b1, b2 with
      | [_, _], [_, _], ⟨c0, c1, _⟩, ⟨d0, d1, _⟩ =>
        cases e1; cases e2
        exact ⟨c0, c1, d0, d1, trivial⟩
    · obtain ⟨us, e1, b1⟩ := a3
      obtain ⟨us', e2, b2⟩ := a4
      match us, us', b1, b2 with
      | [_, _], [_, _], ⟨c0, c1, _⟩, ⟨d0, d1, _⟩ =>
        cases e1; cases e2
        exact ⟨c0, c1, d0, d1, trivial⟩
attribute [irreducible] rmk
section
variable {x0 x1 x2 x3 y0 y1 y2 y3 : Atom} {p q r s : Int} {k m k' m' : Nat}
abbrev qn (p q : Int) : Int × Int := rmk p q
instance con_rNorm [h : ZI [x0, x1] p k] [h' : ZI [x2, x3] q m] : Con Tryz.prog 121 [.agg [x0, x1, x2, x3]] (k + m ≤ 1000000000) (.agg (ratA (rmk p q))) := ⟨fun hk => by
  refine q1 ⟨_, Tryz.func121, rfl, rfl⟩ fun neg n neg2 n2 hz hz2 hn hn2 => ?_
  subst hz; subst hz2
  refine PureOK.fnF Tryz.func121 Tryz.results121 Tryz.ntmps121 rfl rfl rfl (by simp [AV.ids, AV0.ids, Atom.ids]) rfl (fun w0 T B E0 hB => ?_)
  refine SX.go2 ?_
  exact retA (ResOK.agg4 rfl rfl rfl) rfl⟩
instance con_rSign [h : ZI [x0, x1] p k] [h' : ZI [x2, x3] q m] : Con Tryz.prog 21 [.agg [x0, x1, x2, x3]] (k + m ≤ 1000000000) (.v (.int .i64 (isign (p * q)))) := ⟨fun hk => by
  refine q1 ⟨_, Tryz.func21, rfl, rfl⟩ fun neg n neg2 n2 hz hz2 hn hn2 => ?_
  subst hz; subst hz2
  have hw : IntKind.i64.wrap (isign (sgn neg n) * isign (sgn neg2 n2)) = isign (sgn neg n * sgn neg2 n2) := isign_mulw _ _
  refine PureOK.fnF Tryz.func21 Tryz.results21 Tryz.ntmps21 rfl rfl rfl (by simp [AV.ids, AV0.ids, Atom.ids]) rfl (fun w0 T B E0 hB => ?_)
  refine SX.go2 ?_
  exact retI rfl⟩
instance con_rNeg [h : ZI [x0, x1] p k] [h' : ZI [x2, x3] q m] : Con Tryz.prog 124 [.agg [x0, x1, x2, x3]] (k + m ≤ 1000000000) (.agg (ratA (-(rmk p q).1, (rmk p q).2))) := ⟨fun hk => by
  refine q1 ⟨_, Tryz.func124, rfl, rfl⟩ fun neg n neg2 n2 hz hz2 hn hn2 => ?_
  subst hz; subst hz2
  refine PureOK.fnF Tryz.func124 Tryz.results124 Tryz.ntmps124 rfl rfl rfl (by simp [AV.ids, AV0.ids, Atom.ids]) rfl (fun w0 T B E0 hB => ?_)
  refine SX.go2 ?_
  exact retA (ResOK.agg4 rfl rfl rfl) rfl⟩
def qadd (p q r s : Int) : Int × Int := rmk ((rmk p q).1 * (rmk r s).2 + (rmk r s).1 * (rmk p q).2) ((rmk p q).2 * (rmk r s).2)
def qmul (p q r s : Int) : Int × Int := rmk ((rmk p q).1 * (rmk r s).1) ((rmk p q).2 * (rmk r s).2)
def qquo (p q r s : Int) : Int × Int := rmk ((rmk p q).1 * (rmk r s).2) ((rmk p q).2 * (rmk r s).1)
instance con_rAdd [h : ZI [x0, x1] p k] [h' : ZI [x2, x3] q m] [g : ZI [y0, y1] r k'] [g' : ZI [y2, y3] s m'] : Con Tryz.prog 69 [.agg [x0, x1, x2, x3], .agg [y0, y1, y2, y3]] (k + m + k' + m' ≤ 10000000) (.agg (ratA (qadd p q r s))) := ⟨fun hk => by
  refine q2 ⟨_, Tryz.func69, rfl, rfl⟩ fun neg n neg2 n2 neg3 n3 neg4 n4 hz hz2 hz3 hz4 hn hn2 hn3 hn4 => ?_
  subst hz; subst hz2; subst hz3; subst hz4
  refine PureOK.fnF Tryz.func69 Tryz.results69 Tryz.ntmps69 rfl rfl rfl (by simp [AV.ids, AV0.ids, Atom.ids]) rfl (fun w0 T B E0 hB => ?_)
  refine SX.go2 ?_
  exact retA (ResOK.agg4 rfl rfl rfl) rfl⟩
end
end Go.Proofs.YtfhpmbenldgfnaaGreatDoor
/- Package rat, reference 07 in the symbolic run. -/
set_option linter.unusedVariables false
set_option linter.unusedSimpArgs false
namespace Go.Proofs.YtfhpmbenldgfnaaGreatDoor
open Go.RowKit QM SX
attribute [local irreducible] IntKind.wrap Go1 Reg WP thenK inBlk retQ retF RetF RetOK ResOK CallOK OpOK Sat
attribute [local irreducible] decS zS
theorem isignP (z : Int) : 0 < isign z ↔ 0 < z := by unfold isign; (repeat' split) <;> omega
theorem imp_zero : AV0.imp (.agg [.c (.val (.bool false)), .c (.val (.slice none 0 0))]) (.agg (zN 0)) := fun E S w v h => by
  obtain ⟨vs, rfl, hall⟩ := h
  match vs, hall with
  | [a, b], ⟨h1, h2, _⟩ =>
    have h2' : b = .slice none 0 0 := h2
    subst h2'
    exact ⟨[a, _], rfl, h1, nrmN.zero, trivial⟩
def qsub (p q r s : Int) : Int × Int := qadd p q (-(rmk r s).1) (rmk r s).2
section
variable {x0 x1 x2 x3 y0 y1 y2 y3 : Atom} {p q r s : Int} {k m k' m' : Nat}
instance Bd.qadd1 (p q r s : Int) (k m k' m' : Nat) [Bd p k] [Bd q m] [Bd r k'] [Bd s m'] : Bd (qadd p q r s).1 (3 * (k + m + k' + m') + 12) := ⟨by unfold qadd; exact Bd.mono (Bd.rmk1 _ _ _ _).h (by omega)⟩
instance Bd.qadd2 (p q r s : Int) (k m k' m' : Nat) [Bd p k] [Bd q m] [Bd r k'] [Bd s m'] : Bd (qadd p q r s).2 (3 * (k + m + k' + m') + 12) := ⟨by unfold qadd; exact Bd.mono (Bd.rmk2 _ _ _ _).h (by omega)⟩
instance Bd.qsub1 (p q r s : Int) (k m k' m' : Nat) [Bd p k] [Bd q m] [Bd r k'] [Bd s m'] : Bd (qsub p q r s).1 (6 * (k + m + k' + m') + 20) := ⟨by unfold qsub; exact Bd.mono (Bd.qadd1 _ _ _ _ _ _ _ _).h (by omega)⟩
instance Bd.qsub2 (p q r s : Int) (k m k' m' : Nat) [Bd p k] [Bd q m] [Bd r k'] [Bd s m'] : Bd (qsub p q r s).2 (6 * (k + m + k' + m') + 20) := ⟨by unfold qsub; exact Bd.mono (Bd.qadd2 _ _ _ _ _ _ _ _).h (by omega)⟩
instance Bd.qmul1 (p q r s : Int) (k m k' m' : Nat) [Bd p k] [Bd q m] [Bd r k'] [Bd s m'] : Bd (qmul p q r s).1 (3 * (k + m + k' + m') + 12) := ⟨by unfold qmul; exact Bd.mono (Bd.rmk1 _ _ _ _).h (by omega)⟩
instance Bd.qmul2 (p q r s : Int) (k m k' m' : Nat) [Bd p k] [Bd q m] [Bd r k'] [Bd s m'] : Bd (qmul p q r s).2 (3 * (k + m + k' + m') + 12) := ⟨by unfold qmul; exact Bd.mono (Bd.rmk2 _ _ _ _).h (by omega)⟩
instance Bd.qquo1 (p q r s : Int) (k m k' m' : Nat) [Bd p k] [Bd q m] [Bd r k'] [Bd s m'] : Bd (qquo p q r s).1 (3 * (k + m + k' + m') + 12) := ⟨by unfold qquo; exact Bd.mono (Bd.rmk1 _ _ _ _).h (by omega)⟩
instance Bd.qquo2 (p q r s : Int) (k m k' m' : Nat) [Bd p k] [Bd q m] [Bd r k'] [Bd s m'] : Bd (qquo p q r s).2 (3 * (k + m + k' + m') + 12) := ⟨by unfold qquo; exact Bd.mono (Bd.rmk2 _ _ _ _).h (by omega)⟩
instance con_rSub [h : ZI [x0, x1] p k] [h' : ZI [x2, x3] q m] [g : ZI [y0, y1] r k'] [g' : ZI [y2, y3] s m'] : Con Tryz.prog 56 [.agg [x0, x1, x2, x3], .agg [y0, y1, y2, y3]] (k + m + k' + m' ≤ 1000000) (.agg (ratA (qsub p q r s))) := ⟨fun hk => by
  refine q2 ⟨_, Tryz.func56, rfl, rfl⟩ fun neg n neg2 n2 neg3 n3 neg4 n4 hz hz2 hz3 hz4 hn hn2 hn3 hn4 => ?_
  subst hz; subst hz2; subst hz3; subst hz4
  refine PureOK.fnF Tryz.func56 Tryz.results56 Tryz.ntmps56 rfl rfl rfl (by simp [AV.ids, AV0.ids, Atom.ids]) rfl (fun w0 T B E0 hB => ?_)
  refine SX.go2 ?_
  exact retA (ResOK.agg4 rfl rfl rfl) rfl⟩
instance con_rMul [h : ZI [x0, x1] p k] [h' : ZI [x2, x3] q m] [g : ZI [y0, y1] r k'] [g' : ZI [y2, y3] s m'] : Con Tryz.prog 75 [.agg [x0, x1, x2, x3], .agg [y0, y1, y2, y3]] (k + m + k' + m' ≤ 10000000) (.agg (ratA (qmul p q r s))) := ⟨fun hk => by
  refine q2 ⟨_, Tryz.func75, rfl, rfl⟩ fun neg n neg2 n2 neg3 n3 neg4 n4 hz hz2 hz3 hz4 hn hn2 hn3 hn4 => ?_
  subst hz; subst hz2; subst hz3; subst hz4
  refine PureOK.fnF Tryz.func75 Tryz.results75 Tryz.ntmps75 rfl rfl rfl (by simp [AV.ids, AV0.ids, Atom.ids]) rfl (fun w0 T B E0 hB => ?_)
  refine SX.go2 ?_
  exact retA (ResOK.agg4 rfl rfl rfl) rfl⟩
instance con_rQuo [h : ZI [x0, x1] p k] [h' : ZI [x2, x3] q m] [g : ZI [y0, y1] r k'] [g' : ZI [y2, y3] s m'] : Con Tryz.prog 106 [.agg [x0, x1, x2, x3], .agg [y0, y1, y2, y3]] (k + m + k' + m' ≤ 10000000) (.tup [.agg (ratA (qquo p q r s)), .one (.c (.val (.bool (decide ((rmk p q).2 * (rmk r s).1 ≠ 0)))))]) := ⟨fun hk => by
  refine q2 ⟨_, Tryz.func106, rfl, rfl⟩ fun neg n neg2 n2 neg3 n3 neg4 n4 hz hz2 hz3 hz4 hn hn2 hn3 hn4 => ?_
  subst hz; subst hz2; subst hz3; subst hz4
  refine PureOK.fnF Tryz.func106 Tryz.results106 Tryz.ntmps106 rfl rfl rfl (by simp [AV.ids, AV0.ids, Atom.ids]) rfl (fun w0 T B E0 hB => ?_)
  refine SX.go2 ?_
  exact ret2' (ResOK.agg4 rfl rfl rfl) (ResOK.tmp rfl) (AV0.imp.refl _) (AV0.imp.refl _)⟩
def qcmp (p q r s : Int) : Int := isign ((qsub p q r s).1 * (qsub p q r s).2)
instance con_rCmp [h : ZI [x0, x1] p k] [h' : ZI [x2, x3] q m] [g : ZI [y0, y1] r k'] [g' : ZI [y2, y3] s m'] : Con Tryz.prog 19 [.agg [x0, x1, x2, x3], .agg [y0, y1, y2, y3]] (k + m + k' + m' ≤ 1000000) (.v (.int .i64 (qcmp p q r s))) := ⟨fun hk => by
  refine q2 ⟨_, Tryz.func19, rfl, rfl⟩ fun neg n neg2 n2 neg3 n3 neg4 n4 hz hz2 hz3 hz4 hn hn2 hn3 hn4 => ?_
  subst hz; subst hz2; subst hz3; subst hz4
  refine PureOK.fnF Tryz.func19 Tryz.results19 Tryz.ntmps19 rfl rfl rfl (by simp [AV.ids, AV0.ids, Atom.ids]) rfl (fun w0 T B E0 hB => ?_)
  refine SX.go2 ?_
  exact retI rfl⟩
def rwhole (p q : Int) : Int := if (rmk p q).2 = 1 then (rmk p q).1 else 0
/-- A fraction's text. -/
def rS (q : Int × Int) : List UInt8 := if q.2 = 1 then zS q.1 else zS q.1 ++ [47] ++ zS q.2
instance con_rPrint [h : ZI [x0, x1] p k] [h' : ZI [x2, x3] q m] : Con Tryz.prog 51 [.agg [x0, x1, x2, x3]] (k + m ≤ 1000000) (.v (str (rS (rmk p q)))) := ⟨fun hk => by
  refine q1 ⟨_, Tryz.func51, rfl, rfl⟩ fun neg n neg2 n2 hz hz2 hn hn2 => ?_
  subst hz; subst hz2
  have l1 := zS_len (z := (rmk (sgn neg n) (sgn neg2 n2)).1)
  have l2 := zS_len (z := (rmk (sgn neg n) (sgn neg2 n2)).2)
  refine PureOK.fnF Tryz.func51 Tryz.results51 Tryz.ntmps51 rfl rfl rfl (by simp [AV.ids, AV0.ids, Atom.ids]) rfl (fun w0 T B E0 hB => ?_)
  by_cases h1 : (rmk (sgn neg n) (sgn neg2 n2)).2 = 1
  · refine SX.go2 ?_
    refine retS ?_; unfold rS; rw [if_pos h1]
  · refine SX.go2 ?_
    refine retS ?_; unfold rS; rw [if_neg h1]⟩
abbrev ratP (p q : Int) : List Atom := [.c (.val (.bool (decide (p < 0)))), .c (.sat (nrmN p.natAbs)), .c (.val (.bool (decide (q < 0)))), .c (.sat (nrmN q.natAbs))]
end
def isR (p q x y : Int) : Prop := (0 < q ∧ (Int.gcd p q : Int) = 1) ∧ p * y = x * q
attribute [irreducible] isR
end Go.Proofs.YtfhpmbenldgfnaaGreatDoor
/- The statements of package quincunxlaw07 in the symbolic run: what they begin with; RatMakes. -/
set_option linter.unusedVariables false
set_option linter.unusedSimpArgs false
namespace Go.Proofs.YtfhpmbenldgfnaaGreatDoor
open Go.RowKit QM SX
attribute [local irreducible] IntKind.wrap Go1 Reg WP thenK inBlk retQ retF RetF RetOK ResOK CallOK OpOK Sat
attribute [local irreducible] decS zS rwhole qsub qmul qquo qcmp rS
/-- A fraction's facts. -/
theorem zexq_dvd {x y : Int} (hy : y ≠ 0) (h : y ∣ x) : zexq x y = x.tdiv y := by
  have hz : zrem x y = 0 := by unfold zrem; first | (rw [if_neg hy]; exact Int.tmod_eq_zero_of_dvd h) | exact Int.tmod_eq_zero_of_dvd h
  unfold zexq zexok; rw [hz]; simp [hy]
theorem rmk_spec {x y : Int} (hy : y ≠ 0) : 0 < (rmk x y).2 ∧ Int.gcd (rmk x y).1 (rmk x y).2 = 1 ∧ (rmk x y).1 * y = x * (rmk x y).2 := by
  have key : ∀ x y : Int, 0 < y → 0 < zexq y (Int.gcd x y) ∧ Int.gcd (zexq x (Int.gcd x y)) (zexq y (Int.gcd x y)) = 1 ∧ zexq x (Int.gcd x y) * y = x * zexq y (Int.gcd x y) := by
    intro x y hy
    have hg : (Int.gcd x y : Int) ≠ 0 := by
      have := Int.gcd_ne_zero_right (a := x) (b := y) (by omega)
      omega
    have hgp : (0 : Int) < Int.gcd x y := by omega
    obtain ⟨a, ha⟩ := Int.gcd_dvd_left x y
    obtain ⟨b, hb⟩ := Int.gcd_dvd_right x y
    have e1 : zexq x (Int.gcd x y) = a := by
      rw [zexq_dvd hg (Int.gcd_dvd_left x y)]
      conv => lhs; arg 1; rw [ha]
      exact Int.mul_tdiv_cancel_left _ hg
    have e2 : zexq y (Int.gcd x y) = b := by
      rw [zexq_dvd hg (Int.gcd_dvd_right x y)]
      conv => lhs; arg 1; rw [hb]
      exact Int.mul_tdiv_cancel_left _ hg
    rw [e1, e2]
    generalize hG : Int.gcd x y = g at *
    have hbp : 0 < b := by
      rw [hb] at hy
      exact Int.pos_of_mul_pos_right hy (by omega)
    refine ⟨hbp, ?_, ?_⟩
    · have h1 : Int.gcd ((g : Int) * a) ((g : Int) * b) = g * Int.gcd a b := by rw [Int.gcd_mul_left]; simp
      rw [← ha, ← hb, hG] at h1
      have hgn : 0 < g := by omega
      exact Nat.eq_of_mul_eq_mul_left hgn (by omega)
    · rw [ha, hb]; grind
  unfold rmk
  rw [if_neg hy]
  by_cases h : y < 0
  · rw [if_pos h]
    have := key (-x) (-y) (by omega)
    refine ⟨this.1, this.2.1, ?_⟩
    have h3 := this.2.2
    grind
  · rw [if_neg h]; exact key x y (by omega)
theorem rmk_zero (x : Int) : rmk x 0 = (0, 1) := by unfold rmk; rfl
theorem dig1 {x : Nat} (h0 : x ≠ 0) (h : x < 10) : dig x = [UInt8.ofNat (48 + x)] := by
  rw [dig_succ h0, show x / 10 = 0 by omega, dig_zero, show x % 10 = x by omega]; rfl
abbrev zW (neg : Bool) (l : List Nat) : List Atom := [.c (.val (.bool neg)), .c (.sat (rawN l))]
abbrev qW (b : Bool) (l : List Nat) (c : Bool) (m : List Nat) : List Atom := [.c (.val (.bool b)), .c (.sat (rawN l)), .c (.val (.bool c)), .c (.sat (rawN m))]
end Go.Proofs.YtfhpmbenldgfnaaGreatDoor
/- Fractions by their values. -/
set_option linter.unusedVariables false
set_option linter.unusedSimpArgs false
namespace Go.Proofs.YtfhpmbenldgfnaaGreatDoor
open Go.RowKit QM SX
attribute [local irreducible] qsub qmul qquo qcmp qadd
/-- A fraction's value. -/
def qv (p q : Int) : Rat := (p : Rat) / (q : Rat)
theorem c0 {z : Int} (h : z ≠ 0) : (z : Rat) ≠ 0 := fun e => h (Rat.intCast_inj.1 e)
theorem qv_eq {a b c d : Int} (hb : b ≠ 0) (hd : d ≠ 0) (h : a * d = c * b) : qv a b = qv c d := by
  have h1 := c0 hb
  have h2 := c0 hd
  have h3 : (a : Rat) * d = c * b := by rw [← Rat.intCast_mul, ← Rat.intCast_mul, h]
  unfold qv; grind
theorem rmk_pos (p q : Int) : 0 < (rmk p q).2 := by
  by_cases h : q = 0
  · rw [h, rmk_zero]; decide
  · exact (rmk_spec h).1
theorem rmk_gcd (p q : Int) : Int.gcd (rmk p q).1 (rmk p q).2 = 1 := by
  by_cases h : q = 0
  · rw [h, rmk_zero]; decide
  · exact (rmk_spec h).2.1
theorem rmk_val (p q : Int) : qv (rmk p q).1 (rmk p q).2 = qv p q := by
  by_cases h : q = 0
  · rw [h, rmk_zero]; unfold qv; grind
  · have hs := rmk_spec (x := p) h
    exact qv_eq (by omega) h hs.2.2
/-- A fraction that was made: its value, and so many words. -/
structure Rd (X : Int × Int) (v : Rat) (K : Nat) : Prop where
  v : qv X.1 X.2 = v
  d : 0 < X.2
  g : Int.gcd X.1 X.2 = 1
  b1 : Bd X.1 K
  b2 : Bd X.2 K
/-- Cells of a fraction. -/
class Ra (l : List Atom) (v : outParam Rat) (K : outParam Nat) : Prop where
  h : ∃ x0 x1 x2 x3 p q k m, l = [x0, x1, x2, x3] ∧ ZI [x0, x1] p k ∧ ZI [x2, x3] q m ∧ k ≤ K ∧ m ≤ K ∧ Bd p k ∧ Bd q m ∧ qv p q = v
theorem Ra.raw {b c : Bool} {l m : List Nat} {K : Nat} (i1 : BdN (nval WB l) l.length) (i2 : BdN (nval WB m) m.length) (h1 : l.length ≤ K) (h2 : m.length ≤ K) : Ra (qW b l c m) (qv (sgn b (nval WB l)) (sgn c (nval WB m))) K :=
  ⟨_, _, _, _, _, _, _, _, rfl, inferInstance, inferInstance, h1, h2, inferInstance, inferInstance, rfl⟩
section
variable {l l' : List Atom} {v v' : Rat} {K K' : Nat}
theorem qv_div {a b c d : Int} : qv (a * d) (b * c) = qv a b / qv c d := by
  unfold qv; rw [Rat.intCast_mul, Rat.intCast_mul]; grind
theorem qv_mul {a b c d : Int} : qv (a * c) (b * d) = qv a b * qv c d := by
  unfold qv; rw [Rat.intCast_mul, Rat.intCast_mul]; grind
theorem qv_add {a b c d : Int} (hb : b ≠ 0) (hd : d ≠ 0) : qv (a * d + c * b) (b * d) = qv a b + qv c d := by
  have h1 := c0 hb
  have h2 := c0 hd
  unfold qv; rw [Rat.intCast_add, Rat.intCast_mul, Rat.intCast_mul, Rat.intCast_mul]; grind
theorem qv_neg {a b : Int} : qv (-a) b = -qv a b := by
  unfold qv; rw [Rat.intCast_neg]; grind
theorem qadd_val (p q r s : Int) : qv (qadd p q r s).1 (qadd p q r s).2 = qv p q + qv r s := by
  have h1 := rmk_pos p q
  have h2 := rmk_pos r s
  unfold qadd
  rw [rmk_val, qv_add (by omega) (by omega), rmk_val, rmk_val]
theorem qmul_val (p q r s : Int) : qv (qmul p q r s).1 (qmul p q r s).2 = qv p q * qv r s := by
  unfold qmul; rw [rmk_val, qv_mul, rmk_val, rmk_val]
theorem qquo_val (p q r s : Int) : qv (qquo p q r s).1 (qquo p q r s).2 = qv p q / qv r s := by
  unfold qquo; rw [rmk_val, qv_div, rmk_val, rmk_val]
theorem qsub_val (p q r s : Int) : qv (qsub p q r s).1 (qsub p q r s).2 = qv p q - qv r s := by
  unfold qsub; rw [qadd_val, qv_neg, rmk_val]; grind
theorem qadd_mk (p q r s : Int) : ∃ x y, qadd p q r s = rmk x y := ⟨_, _, by unfold qadd; rfl⟩
theorem qmul_mk (p q r s : Int) : ∃ x y, qmul p q r s = rmk x y := ⟨_, _, by unfold qmul; rfl⟩
theorem qquo_mk (p q r s : Int) : ∃ x y, qquo p q r s = rmk x y := ⟨_, _, by unfold qquo; rfl⟩
theorem mk_pos {X : Int × Int} (h : ∃ x y, X = rmk x y) : 0 < X.2 ∧ Int.gcd X.1 X.2 = 1 := by
  obtain ⟨x, y, rfl⟩ := h; exact ⟨rmk_pos x y, rmk_gcd x y⟩
theorem sgn_val {a b : Int} : (isign (a * b) = 0 ↔ qv a b = 0) ∧ (isign (a * b) < 0 ↔ qv a b < 0) := by
  have key : ∀ a b : Int, 0 < b → (a * b = 0 ↔ qv a b = 0) ∧ (a * b < 0 ↔ qv a b < 0) := by
    intro a b hb
    have h1 : (0 : Rat) < b := by rw [show (0 : Rat) = ((0 : Int) : Rat) from rfl]; exact Rat.intCast_lt_intCast.2 hb
    have ea : (a : Rat) = qv a b * b := by unfold qv; grind
    constructor
    · rw [Int.mul_eq_zero]
      constructor
      · rintro (h | h)
        · unfold qv; rw [h]; grind
        · omega
      · intro h; rw [h] at ea; left; exact Rat.intCast_inj.1 (by rw [ea]; grind)
    · have hneg : a * b < 0 ↔ a < 0 := by
        constructor
        · intro h
          exact Decidable.byContradiction fun hn => by
            have := Int.mul_nonneg (show 0 ≤ a by omega) (show 0 ≤ b by omega)
            omega
        · intro h; exact Int.mul_neg_of_neg_of_pos h hb
      have ha : a < 0 ↔ (a : Rat) < 0 := by rw [show (0 : Rat) = ((0 : Int) : Rat) from rfl, Rat.intCast_lt_intCast]
      rw [hneg, ha, ea]
      generalize qv a b = v at *
      generalize (b : Rat) = c at *
      constructor
      · intro h
        exact Decidable.byContradiction fun hn => by
          have := Rat.mul_nonneg (show 0 ≤ v by grind) (show 0 ≤ c by grind)
          grind
      · intro h
        have := Rat.mul_pos (show 0 < -v by grind) h1
        grind
  have hn : isign (a * b) < 0 ↔ a * b < 0 := isignN _
  have hz : isign (a * b) = 0 ↔ a * b = 0 := isign0 _
  rw [hn, hz]
  by_cases hb : b = 0
  · subst hb
    have : qv a 0 = 0 := by unfold qv; grind
    rw [this]; simp
  · by_cases hb0 : 0 < b
    · exact key a b hb0
    · have h := key (-a) (-b) (by omega)
      have e : qv (-a) (-b) = qv a b := qv_eq (by omega) hb (by grind)
      rw [e, show -a * -b = a * b by grind] at h
      exact h
theorem qcmp_val {p q r s : Int} : (qcmp p q r s = 0 ↔ qv p q = qv r s) ∧ (qcmp p q r s < 0 ↔ qv p q < qv r s) ∧ (0 < qcmp p q r s ↔ qv r s < qv p q) := by
  have h := sgn_val (a := (qsub p q r s).1) (b := (qsub p q r s).2)
  rw [qsub_val] at h
  unfold qcmp
  generalize isign ((qsub p q r s).1 * (qsub p q r s).2) = z at *
  have h1 : z = 0 ↔ qv p q = qv r s := by rw [h.1]; constructor <;> intro <;> grind
  have h2 : z < 0 ↔ qv p q < qv r s := by rw [h.2]; constructor <;> intro <;> grind
  refine ⟨h1, h2, ?_⟩
  have : 0 < z ↔ ¬ z = 0 ∧ ¬ z < 0 := by omega
  rw [this, h1, h2]
  constructor
  · intro ⟨a, b⟩; grind
  · intro a; constructor <;> grind
theorem eAdd (l l' : List Atom) [a : Ra l v K] [b : Ra l' v' K'] (h : K + K' ≤ 1000000) : ∃ X, PureOK Tryz.prog 69 [.agg l, .agg l'] (.agg (ratA X)) ∧ Rd X (v + v') (6 * (K + K') + 20) := by
  obtain ⟨x0, x1, x2, x3, p, q, k, m, rfl, z1, z2, hk, hm, b1, b2, hv⟩ := a.h
  obtain ⟨y0, y1, y2, y3, r, s, k', m', rfl, z3, z4, hk', hm', b3, b4, hv'⟩ := b.h
  exact ⟨_, (con_rAdd (h := z1) (h' := z2) (g := z3) (g' := z4)).h (by omega), ⟨by rw [qadd_val, hv, hv'], (mk_pos (qadd_mk ..)).1, (mk_pos (qadd_mk ..)).2, ⟨Bd.mono (Bd.qadd1 p q r s k m k' m').h (by omega)⟩, ⟨Bd.mono (Bd.qadd2 p q r s k m k' m').h (by omega)⟩⟩⟩
theorem eMul (l l' : List Atom) [a : Ra l v K] [b : Ra l' v' K'] (h : K + K' ≤ 1000000) : ∃ X, PureOK Tryz.prog 75 [.agg l, .agg l'] (.agg (ratA X)) ∧ Rd X (v * v') (6 * (K + K') + 20) := by
  obtain ⟨x0, x1, x2, x3, p, q, k, m, rfl, z1, z2, hk, hm, b1, b2, hv⟩ := a.h
  obtain ⟨y0, y1, y2, y3, r, s, k', m', rfl, z3, z4, hk', hm', b3, b4, hv'⟩ := b.h
  exact ⟨_, (con_rMul (h := z1) (h' := z2) (g := z3) (g' := z4)).h (by omega), ⟨by rw [qmul_val, hv, hv'], (mk_pos (qmul_mk ..)).1, (mk_pos (qmul_mk ..)).2, ⟨Bd.mono (Bd.qmul1 p q r s k m k' m').h (by omega)⟩, ⟨Bd.mono (Bd.qmul2 p q r s k m k' m').h (by omega)⟩⟩⟩
theorem eQuo (l l' : List Atom) [a : Ra l v K] [b : Ra l' v' K'] (h : K + K' ≤ 1000000) : ∃ X ok, PureOK Tryz.prog 106 [.agg l, .agg l'] (.tup [.agg (ratA X), .one (.c (.val (.bool ok)))]) ∧ Rd X (v / v') (6 * (K + K') + 20) ∧ (ok = true ↔ v' ≠ 0) := by
  obtain ⟨x0, x1, x2, x3, p, q, k, m, rfl, z1, z2, hk, hm, b1, b2, hv⟩ := a.h
  obtain ⟨y0, y1, y2, y3, r, s, k', m', rfl, z3, z4, hk', hm', b3, b4, hv'⟩ := b.h
  refine ⟨_, _, (con_rQuo (h := z1) (h' := z2) (g := z3) (g' := z4)).h (by omega), ⟨by rw [qquo_val, hv, hv'], (mk_pos (qquo_mk ..)).1, (mk_pos (qquo_mk ..)).2, ⟨Bd.mono (Bd.qquo1 p q r s k m k' m').h (by omega)⟩, ⟨Bd.mono (Bd.qquo2 p q r s k m k' m').h (by omega)⟩⟩, ?_⟩
  have h1 := rmk_pos p q
  have h2 := rmk_pos r s
  rw [decide_eq_true_iff, ← hv', ← rmk_val r s]
  have e : qv (rmk r s).1 (rmk r s).2 = 0 ↔ (rmk r s).1 = 0 := by
    have := (sgn_val (a := (rmk r s).1) (b := (rmk r s).2)).1
    rw [← this, isign0, Int.mul_eq_zero]; omega
  rw [Ne, Ne, e, Int.mul_eq_zero]; omega
theorem eCmp (l l' : List Atom) [a : Ra l v K] [b : Ra l' v' K'] (h : K + K' ≤ 400000) : ∃ z : Int, PureOK Tryz.prog 19 [.agg l, .agg l'] (.v (.int .i64 z)) ∧ (z = 0 ↔ v = v') ∧ (z < 0 ↔ v < v') ∧ (0 < z ↔ v' < v) := by
  obtain ⟨x0, x1, x2, x3, p, q, k, m, rfl, z1, z2, hk, hm, b1, b2, hv⟩ := a.h
  obtain ⟨y0, y1, y2, y3, r, s, k', m', rfl, z3, z4, hk', hm', b3, b4, hv'⟩ := b.h
  exact ⟨_, (con_rCmp (h := z1) (h' := z2) (g := z3) (g' := z4)).h (by omega), by rw [← hv, ← hv']; exact qcmp_val⟩
theorem eSign (l : List Atom) [a : Ra l v K] (h : K ≤ 400000) : ∃ z : Int, PureOK Tryz.prog 21 [.agg l] (.v (.int .i64 z)) ∧ (z = 0 ↔ v = 0) ∧ (z < 0 ↔ v < 0) := by
  obtain ⟨x0, x1, x2, x3, p, q, k, m, rfl, z1, z2, hk, hm, b1, b2, hv⟩ := a.h
  exact ⟨_, (con_rSign (h := z1) (h' := z2)).h (by omega), by rw [← hv]; exact sgn_val⟩
end
end Go.Proofs.YtfhpmbenldgfnaaGreatDoor
/- The statements RatField, RatRounds answer true. -/
set_option linter.unusedVariables false
set_option linter.unusedSimpArgs false
namespace Go.Proofs.YtfhpmbenldgfnaaGreatDoor
open Go.RowKit QM SX
attribute [local irreducible] IntKind.wrap Go1 Reg WP thenK inBlk retQ retF RetF RetOK ResOK CallOK OpOK Sat
attribute [local irreducible] qsub qmul qquo qcmp qadd qv
instance con_Few (b : Bool) (l : List Nat) (c : Bool) (m : List Nat) (z : Int) : Con Tryz.prog 33 [.agg (qW b l c m), .v (.int .i64 z)] True (.v (.bool (decide ((l.length : Int) ≤ z ∧ (m.length : Int) ≤ z)))) := ⟨fun _ => by
  refine PureOK.fnF Tryz.func33 Tryz.results33 Tryz.ntmps33 rfl rfl rfl (by simp [AV.ids, AV0.ids, Atom.ids]) rfl (fun w0 T B E0 hB => ?_)
  by_cases h1 : (l.length : Int) ≤ z
  · refine SX.go2 ?_
    refine retB ?_; rw [decide_eq_decide]; exact ⟨fun h => ⟨h1, h⟩, fun h => h.2⟩
  · refine SX.go2 ?_
    refine retB ?_; rw [eq_comm]; exact decide_eq_false (fun h => h1 h.1)⟩
attribute [local irreducible] zround zfq
end Go.Proofs.YtfhpmbenldgfnaaGreatDoor
/- The statement RatAdds answers true. -/
set_option linter.unusedVariables false
set_option linter.unusedSimpArgs false
namespace Go.Proofs.YtfhpmbenldgfnaaGreatDoor
open Go.RowKit QM SX
attribute [local irreducible] IntKind.wrap Go1 Reg WP thenK inBlk retQ retF RetF RetOK ResOK CallOK OpOK Sat
attribute [local irreducible] qsub qmul qquo qcmp qadd qv
theorem qv_lt {n d m e : Int} (hd : 0 < d) (he : 0 < e) : (qv n d < qv m e ↔ n * e < m * d) ∧ (qv n d = qv m e ↔ n * e = m * d) := by
  have hd' : (0 : Rat) < d := by rw [show (0 : Rat) = ((0 : Int) : Rat) from rfl]; exact Rat.intCast_lt_intCast.2 hd
  have he' : (0 : Rat) < e := by rw [show (0 : Rat) = ((0 : Int) : Rat) from rfl]; exact Rat.intCast_lt_intCast.2 he
  have en : (n : Rat) = qv n d * d := by unfold qv; grind
  have em : (m : Rat) = qv m e * e := by unfold qv; grind
  have hde := Rat.mul_pos hd' he'
  constructor
  · rw [← Rat.intCast_lt_intCast (a := n * e), Rat.intCast_mul, Rat.intCast_mul, en, em]
    generalize qv n d = v at *
    generalize qv m e = u at *
    constructor
    · intro h
      have := Rat.mul_pos (show 0 < u - v by grind) hde
      grind
    · intro h
      exact Decidable.byContradiction fun hn => by
        have := Rat.mul_nonneg (show 0 ≤ v - u by grind) (show (0 : Rat) ≤ (d : Rat) * e by grind)
        grind
  · rw [← Rat.intCast_inj (a := n * e), Rat.intCast_mul, Rat.intCast_mul, en, em]
    generalize qv n d = v at *
    generalize qv m e = u at *
    constructor
    · intro h; rw [h]; grind
    · intro h
      have h0 : (v - u) * ((d : Rat) * e) = 0 := by grind
      rcases Rat.mul_eq_zero.1 h0 with h1 | h1
      · grind
      · rw [h1] at hde; grind
attribute [local irreducible] isign icmp sgn
end Go.Proofs.YtfhpmbenldgfnaaGreatDoor
/- The statement RatPowers answers true. -/
set_option linter.unusedVariables false
set_option linter.unusedSimpArgs false
namespace Go.Proofs.YtfhpmbenldgfnaaGreatDoor
open Go.RowKit QM SX
attribute [local irreducible] IntKind.wrap Go1 Reg WP thenK inBlk retQ retF RetF RetOK ResOK CallOK OpOK Sat
attribute [local irreducible] qsub qmul qquo qcmp qadd qv
/-- A normal fraction hangs on its value alone. -/
theorem Rd.uniq {p q r s : Int} (h1 : 0 < q) (g1 : Int.gcd p q = 1) (h2 : 0 < s) (g2 : Int.gcd r s = 1) (hv : qv p q = qv r s) : p = r ∧ q = s := by
  have he := (qv_lt (n := p) (m := r) h1 h2).2.1 hv
  have d1 : q ∣ s := by
    have : q ∣ p * s := ⟨r, by rw [he, Int.mul_comm]⟩
    exact Int.natAbs_dvd_natAbs.1 (Nat.Coprime.dvd_of_dvd_mul_left (show Nat.gcd q.natAbs p.natAbs = 1 by rw [Nat.gcd_comm]; exact g1) (by rw [← Int.natAbs_mul]; exact Int.natAbs_dvd_natAbs.2 this))
  have d2 : s ∣ q := by
    have : s ∣ r * q := ⟨p, by rw [← he, Int.mul_comm]⟩
    exact Int.natAbs_dvd_natAbs.1 (Nat.Coprime.dvd_of_dvd_mul_left (show Nat.gcd s.natAbs r.natAbs = 1 by rw [Nat.gcd_comm]; exact g2) (by rw [← Int.natAbs_mul]; exact Int.natAbs_dvd_natAbs.2 this))
  have e : q = s := Int.dvd_antisymm (by omega) (by omega) d1 d2
  subst e
  exact ⟨Int.eq_of_mul_eq_mul_right (by omega) he, rfl⟩
attribute [local irreducible] zpowv powok sgn isign
section
variable {x0 x1 x2 x3 : Atom} {p q : Int} {k m : Nat}
end
/-- Powers of a numerator and a denominator. -/
def pwQ (x y : Int) : Nat → Int × Int
  | 0 => (1, 1)
  | k + 1 => (x ^ (k + 1), y ^ (k + 1))
end Go.Proofs.YtfhpmbenldgfnaaGreatDoor
/- Fractions in their normal form: bounds, contracts. -/
set_option linter.unusedVariables false
set_option linter.unusedSimpArgs false
namespace Go.Proofs.YtfhpmbenldgfnaaGreatDoor
open Go.RowKit QM SX
attribute [local irreducible] qsub qmul qquo qcmp qadd
/-- A fraction's cells. -/
abbrev qC (v : Rat) : List CA := [.val (.bool (decide (v.num < 0))), .sat (nrmN v.num.natAbs), .val (.bool (decide ((v.den : Int) < 0))), .sat (nrmN (v.den : Int).natAbs)]
abbrev qA (v : Rat) : List Atom := [.c (.val (.bool (decide (v.num < 0)))), .c (.sat (nrmN v.num.natAbs)), .c (.val (.bool (decide ((v.den : Int) < 0)))), .c (.sat (nrmN (v.den : Int).natAbs))]
theorem den_ne (v : Rat) : (v.den : Int) ≠ 0 := by have := v.den_nz; omega
theorem qv_self (v : Rat) : qv v.num v.den = v := by
  unfold qv
  rw [← Rat.divInt_eq_div]; exact Rat.num_divInt_den v
theorem qv_cross {p q : Int} {v : Rat} (hq : q ≠ 0) (h : qv p q = v) : v.num * q = p * v.den := by
  have h2 := qv_self v
  have d1 := c0 hq
  have d2 := c0 (den_ne v)
  unfold qv at h h2
  apply Rat.intCast_inj.1
  rw [Rat.intCast_mul, Rat.intCast_mul]
  generalize ((v.den : Int) : Rat) = d at *
  generalize ((v.num : Int) : Rat) = n at *
  generalize (p : Rat) = a at *
  generalize (q : Rat) = b at *
  subst h2
  grind
/-- A fraction's parts divide those of any way to write it. -/
theorem qv_parts {p q : Int} {v : Rat} (hq : q ≠ 0) (h : qv p q = v) : ∃ c : Int, q = c * v.den ∧ p = c * v.num := by
  have hx := qv_cross hq h
  have hc : Nat.Coprime v.num.natAbs v.den := v.reduced
  have hd : (v.den : Int) ∣ v.num * q := ⟨p, by rw [hx]; exact Int.mul_comm _ _⟩
  have hd2 : v.den ∣ q.natAbs := by
    have h1 : v.den ∣ (v.num * q).natAbs := Int.natAbs_natCast v.den ▸ (Int.natAbs_dvd_natAbs.2 hd)
    rw [Int.natAbs_mul] at h1
    exact hc.symm.dvd_of_dvd_mul_left h1
  obtain ⟨c, hcq⟩ : (v.den : Int) ∣ q := Int.natAbs_dvd_natAbs.1 (by rw [Int.natAbs_natCast]; exact hd2)
  refine ⟨c, by rw [hcq]; exact Int.mul_comm _ _, ?_⟩
  rw [hcq] at hx
  have h0 := den_ne v
  have : (v.den : Int) * (v.num * c) = (v.den : Int) * p := by grind
  have := Int.eq_of_mul_eq_mul_left h0 this
  grind
/-- A fraction's parts are below so many words. -/
structure RB (v : Rat) (K : Nat) : Prop where
  n : v.num.natAbs < WB ^ K
  d : v.den < WB ^ K
theorem RB.of {p q : Int} {v : Rat} {K : Nat} (hq : q ≠ 0) (h : qv p q = v) (h1 : p.natAbs < WB ^ K) (h2 : q.natAbs < WB ^ K) : RB v K := by
  obtain ⟨c, e1, e2⟩ := qv_parts hq h
  have hc : 1 ≤ c.natAbs := by
    rcases Nat.eq_zero_or_pos c.natAbs with h | h
    · have : c = 0 := by omega
      subst this; rw [Int.zero_mul] at e1; exact absurd e1 hq
    · exact h
  have a1 : q.natAbs = c.natAbs * v.den := by rw [e1, Int.natAbs_mul, Int.natAbs_natCast]
  have a2 : p.natAbs = c.natAbs * v.num.natAbs := by rw [e2, Int.natAbs_mul]
  have b1 := Nat.mul_le_mul_right v.den hc
  have b2 := Nat.mul_le_mul_right v.num.natAbs hc
  exact ⟨by omega, by omega⟩
theorem pow_ge (K : Nat) : 1 ≤ WB ^ K := Nat.pow_pos WB_pos
theorem mul_lt_pow {a b K L : Nat} (h1 : a < WB ^ K) (h2 : b < WB ^ L) : a * b < WB ^ (K + L) := by
  rw [Nat.pow_add]
  have := Nat.mul_le_mul (show a ≤ WB ^ K - 1 by omega) (show b ≤ WB ^ L - 1 by omega)
  have p1 := pow_ge K
  have p2 := pow_ge L
  refine Nat.lt_of_le_of_lt this ?_
  have h3 : (WB ^ K - 1) * (WB ^ L - 1) ≤ (WB ^ K - 1) * WB ^ L := Nat.mul_le_mul_left _ (Nat.sub_le _ _)
  have h4 : (WB ^ K - 1) * WB ^ L < WB ^ K * WB ^ L := (Nat.mul_lt_mul_right (by omega)).2 (by omega)
  omega
theorem two_lt (K : Nat) : 2 * WB ^ K ≤ WB ^ (K + 1) := by
  rw [Nat.pow_succ, Nat.mul_comm]; exact Nat.mul_le_mul_left _ (by rw [WB_eq]; decide)
theorem RB.mul {u v : Rat} {K L : Nat} (h : RB u K) (k : RB v L) : RB (u * v) (K + L) := by
  refine RB.of (p := u.num * v.num) (q := u.den * v.den) (Int.mul_ne_zero (den_ne u) (den_ne v)) ?_ ?_ ?_
  · rw [qv_mul, qv_self, qv_self]
  · rw [Int.natAbs_mul]; exact mul_lt_pow h.n k.n
  · rw [Int.natAbs_mul, Int.natAbs_natCast, Int.natAbs_natCast]; exact mul_lt_pow h.d k.d
theorem RB.zero {K : Nat} (hK : 1 ≤ K) : RB 0 K := by
  have h : WB ^ 1 ≤ WB ^ K := Nat.pow_le_pow_right WB_pos hK
  rw [Nat.pow_one] at h
  have := WB_eq
  exact ⟨by show (0 : Nat) < _; omega, by show (1 : Nat) < _; omega⟩
theorem RB.one {K : Nat} (hK : 1 ≤ K) : RB 1 K := by
  have h : WB ^ 1 ≤ WB ^ K := Nat.pow_le_pow_right WB_pos hK
  rw [Nat.pow_one] at h
  have := WB_eq
  exact ⟨by show (1 : Nat) < _; omega, by show (1 : Nat) < _; omega⟩
theorem RB.div {u v : Rat} {K L : Nat} (h : RB u K) (k : RB v L) (hv : v ≠ 0) : RB (u / v) (K + L) := by
  have hn : v.num ≠ 0 := fun e => hv (Rat.num_eq_zero.1 e)
  refine RB.of (p := u.num * v.den) (q := u.den * v.num) (Int.mul_ne_zero (den_ne u) hn) ?_ ?_ ?_
  · rw [qv_div, qv_self, qv_self]
  · rw [Int.natAbs_mul, Int.natAbs_natCast]; exact mul_lt_pow h.n k.d
  · rw [Int.natAbs_mul, Int.natAbs_natCast]; exact mul_lt_pow h.d k.n
theorem RB.ra {v : Rat} {K : Nat} (h : RB v K) : Ra (qA v) v K :=
  ⟨_, _, _, _, v.num, (v.den : Int), K, K, rfl, (haveI : Bd v.num K := ⟨h.n⟩; inferInstance), (haveI : Bd (v.den : Int) K := ⟨by rw [Int.natAbs_natCast]; exact h.d⟩; inferInstance), Nat.le_refl _, Nat.le_refl _, ⟨h.n⟩, ⟨by rw [Int.natAbs_natCast]; exact h.d⟩, qv_self v⟩
/-- A normal pair is its value's. -/
theorem Rd.nf {X : Int × Int} {v : Rat} {K : Nat} (h : Rd X v K) : X = (v.num, (v.den : Int)) := by
  obtain ⟨p, q⟩ := X
  have hq : q ≠ 0 := by have := h.d; dsimp only at this; omega
  obtain ⟨c, e1, e2⟩ := qv_parts hq (show qv p q = v from h.v)
  have hg : Int.gcd p q = 1 := h.g
  have hc1 : c.natAbs ∣ Int.gcd p q := Nat.dvd_gcd (by rw [e2, Int.natAbs_mul]; exact Nat.dvd_mul_right _ _) (by rw [e1, Int.natAbs_mul]; exact Nat.dvd_mul_right _ _)
  rw [hg] at hc1
  have hca : c.natAbs = 1 := Nat.dvd_one.1 hc1
  have hpos : 0 < q := h.d
  have hden : 0 < (v.den : Int) := by have := v.den_nz; omega
  have hc : c = 1 := by
    rcases Int.natAbs_eq_iff.1 hca with h | h
    · exact h
    · subst h; rw [e1] at hpos; simp at hpos; omega
  subst hc
  rw [Int.one_mul] at e1 e2
  rw [e1, e2]
section
variable {l l' : List Atom} {v v' : Rat} {K K' : Nat}
instance con_qAdd [a : Ra l v K] [b : Ra l' v' K'] : Con Tryz.prog 69 [.agg l, .agg l'] (K + K' ≤ 1000000) (.agg (qA (v + v'))) := ⟨fun h => by
  obtain ⟨X, c, r⟩ := eAdd l l' h
  rw [r.nf] at c; exact c⟩
instance con_qMul [a : Ra l v K] [b : Ra l' v' K'] : Con Tryz.prog 75 [.agg l, .agg l'] (K + K' ≤ 1000000) (.agg (qA (v * v'))) := ⟨fun h => by
  obtain ⟨X, c, r⟩ := eMul l l' h
  rw [r.nf] at c; exact c⟩
instance con_qQuo [a : Ra l v K] [b : Ra l' v' K'] : Con Tryz.prog 106 [.agg l, .agg l'] (K + K' ≤ 1000000) (.tup [.agg (qA (v / v')), .one (.c (.val (.bool (decide (v' ≠ 0)))))]) := ⟨fun h => by
  obtain ⟨X, ok, c, r, ho⟩ := eQuo l l' h
  have e : ok = decide (v' ≠ 0) := by
    cases ok with
    | true => exact (decide_eq_true (ho.1 rfl)).symm
    | false => exact (decide_eq_false fun hn => by have := ho.2 hn; cases this).symm
  rw [r.nf, e] at c; exact c⟩
end
end Go.Proofs.YtfhpmbenldgfnaaGreatDoor
/- A matrix of fractions, place by place; a row less a multiple of another. -/
set_option linter.unusedVariables false
set_option linter.unusedSimpArgs false
namespace Go.Proofs.YtfhpmbenldgfnaaGreatDoor
open Go.RowKit QM SX
attribute [local irreducible] IntKind.wrap Go1 Reg WP thenK inBlk retQ retF RetF RetOK ResOK CallOK OpOK Sat
attribute [local irreducible] qsub qmul qquo qcmp qadd qv
instance con_qZero : Con Tryz.prog 136 [] True (.agg (qA 0)) := ⟨fun _ => by
  refine PureOK.fnF Tryz.func136 Tryz.results136 Tryz.ntmps136 rfl rfl rfl (by simp [AV.ids, AV0.ids, Atom.ids]) rfl (fun w0 T B E0 hB => ?_)
  refine SX.go2 ?_
  exact retA (ResOK.agg4 rfl rfl rfl) rfl⟩
/-- A row less a multiple of another, so far. -/
def tkL (r s : List Rat) (f : Rat) (k : Nat) : List Rat := (List.zipWith (fun a b => a - f * b) (r.take k) (s.take k)) ++ r.drop k
end Go.Proofs.YtfhpmbenldgfnaaGreatDoor
/- A matrix that is made, place by place. -/
set_option linter.unusedVariables false
set_option linter.unusedSimpArgs false
namespace Go.Proofs.YtfhpmbenldgfnaaGreatDoor
open Go.RowKit QM SX
attribute [local irreducible] IntKind.wrap Go1 Reg WP thenK inBlk retQ retF RetF RetOK ResOK CallOK OpOK Sat
attribute [local irreducible] qsub qmul qquo qcmp qadd qv
/-- A matrix's rows, one behind the other. -/
def tabR (c : Nat) (val : Nat → Nat → Rat) (i : Nat) : List Rat := (List.range i).flatMap fun i => (List.range c).map (val i)
theorem tabR_zero {c : Nat} {val : Nat → Nat → Rat} : tabR c val 0 = [] := rfl
theorem tabR_succ {c i : Nat} {val : Nat → Nat → Rat} : tabR c val (i + 1) = tabR c val i ++ (List.range c).map (val i) := by
  unfold tabR; rw [List.range_succ, List.flatMap_append]; simp
theorem tabR_len {c : Nat} {val : Nat → Nat → Rat} : ∀ i, (tabR c val i).length = i * c
  | 0 => by simp [tabR_zero]
  | i + 1 => by rw [tabR_succ, List.length_append, tabR_len i]; simp [Nat.succ_mul]
def rowK (val : Nat → Nat → Rat) (i k : Nat) : List Rat := (List.range k).map (val i)
theorem rowK_succ {val : Nat → Nat → Rat} {i k : Nat} : rowK val i (k + 1) = rowK val i k ++ [val i k] := by
  unfold rowK; rw [List.range_succ, List.map_append]; rfl
abbrev Q4 := Bool × Rep × Bool × Rep
abbrev q4A (q : Q4) : List Atom := [.c (.val (.bool q.1)), .c (.sat q.2.1), .c (.val (.bool q.2.2.1)), .c (.sat q.2.2.2)]
abbrev matA (r c : Nat) (l : List Rat) : List Atom := [.c (.val (.int .i64 (r : Int))), .c (.val (.int .i64 (c : Int))), .c (.sat (rowR 4 qC l))]
theorem con_made (r c : Nat) (x : CA) (L : Nat → Nat → Q4) (val : Nat → Nat → Rat) (K : Nat) (hr : r ≤ 100) (hc : c ≤ 100) (hK : K + 1 ≤ 1000000)
    (hx : ∀ i k, i < r → k < c → FnV Tryz.prog x [.v (.int .i64 (i : Int)), .v (.int .i64 (k : Int))] (.agg (q4A (L i k)))) (hL : ∀ i k, i < r → k < c → Ra (q4A (L i k)) (val i k) K) (hx1 : x.oneB = true) :
    PureOK Tryz.prog 133 [.v (.int .i64 (r : Int)), .v (.int .i64 (c : Int)), .it (.one (.c x))] (.agg (matA r c (tabR c val r))) := by
  have iz : Ra (qA 0) 0 1 := (RB.zero (Nat.le_refl 1)).ra
  refine PureOK.fnF Tryz.func133 Tryz.results133 Tryz.ntmps133 rfl rfl rfl (by simp [AV.ids, AV0.ids, Atom.ids]) rfl (fun w0 T B E0 hB => ?_)
  refine SX.goQ ?_
  refine W.loop (fun i => i ≤ r) (fun i => [(1, .v (.int .i64 (c : Int))), (2, .it (.one (.c x))), (6, .ptr 6 0), (7, .ptr 7 0), (13, .v (.int .i64 (r : Int))), (14, .v (.int .i64 (i : Int)))]) (fun i => [(6, .box 30 [.c (.val (.int .i64 0)), .c (.val (.int .i64 0)), .c (.val (.slice none 0 0))]), (7, .box 30 [.c (.val (.int .i64 (r : Int))), .c (.val (.int .i64 (c : Int))), .own 100]), (100, .row 27 4 (i * c) ((tabR c val i).flatMap qC))]) (fun i => r - i) 0 (Nat.zero_le _) (fun i hi => ?_)
    (by
      refine SX.St.le_to [(100, none)] (by intro b h; cases h) ?_ ?_ rfl
      · repeat (first | exact trivial | refine ⟨⟨_, rfl, SX.AVto.same rfl⟩, ?_⟩)
      · exact ⟨SX.EntTo.same rfl rfl, SX.EntTo.boxTo rfl rfl ⟨AtomTo.same rfl, AtomTo.same rfl, AtomTo.nil rfl, trivial⟩, by rw [Nat.zero_mul]; exact SX.EntTo.nilRow rfl, trivial⟩)
  by_cases h : i < r
  · refine SX.goQ ?_
    refine W.loop (fun k => k ≤ c) (fun k => [(1, .v (.int .i64 (c : Int))), (2, .it (.one (.c x))), (6, .ptr 6 0), (7, .ptr 7 0), (8, .v (.int .i64 (i : Int))), (13, .v (.int .i64 (r : Int))), (14, .v (.int .i64 (i : Int))), (17, .v (.int .i64 (c : Int))), (18, .v (.int .i64 (k : Int)))]) (fun k => [(6, .box 30 [.c (.val (.int .i64 0)), .c (.val (.int .i64 0)), .c (.val (.slice none 0 0))]), (7, .box 30 [.c (.val (.int .i64 (r : Int))), .c (.val (.int .i64 (c : Int))), .own 100]), (100, .row 27 4 (i * c + k) ((tabR c val i ++ rowK val i k).flatMap qC))]) (fun k => c - k) 0 (Nat.zero_le _) (fun k hk => ?_)
      (by
        have e : Ent.row 27 4 (i * c) ((tabR c val i).flatMap qC) = Ent.row 27 4 (i * c + 0) ((tabR c val i ++ rowK val i 0).flatMap qC) := by simp [rowK]
        refine SX.St.le_to [] (by intro b h; cases h) ?_ ?_ rfl
        · repeat (first | exact trivial | refine ⟨⟨_, rfl, SX.AVto.same rfl⟩, ?_⟩)
        · exact ⟨SX.EntTo.same rfl rfl, SX.EntTo.same rfl rfl, SX.EntTo.eq rfl e rfl, trivial⟩)
    by_cases h2 : k < c
    · have hf := hx i k h h2
      have ir := hL i k h h2
      have hlen : i * c + k ≤ 20000 := by
        have := Nat.mul_le_mul (show i ≤ 100 by omega) hc
        omega
      refine SX.goQ ?_
      refine W.next (k + 1) h2 (by omega) (by
        have e2 : (tabR c val i ++ rowK val i k).flatMap qC ++ qC (val i k + 0) = (tabR c val i ++ rowK val i (k + 1)).flatMap qC := by
          rw [Rat.add_zero, rowK_succ, ← List.append_assoc, List.flatMap_append (xs := tabR c val i ++ rowK val i k)]; simp
        refine SX.St.le_to [(100, some 30)] (by intro b h; cases h) ?_ ?_ rfl
        · repeat (first | exact trivial | refine ⟨⟨_, rfl, SX.AVto.same rfl⟩, ?_⟩)
        · exact ⟨SX.EntTo.same rfl rfl, SX.EntTo.boxTo rfl rfl ⟨AtomTo.same rfl, AtomTo.same rfl, AtomTo.own rfl, trivial⟩, SX.EntTo.row rfl rfl (by omega) e2, trivial⟩)
    · obtain rfl : k = c := by omega
      refine SX.goQ ?_
      refine W.next (i + 1) h (by omega) (by
        have e2 : Ent.row 27 4 (i * k + k) ((tabR k val i ++ rowK val i k).flatMap qC) = Ent.row 27 4 ((i + 1) * k) ((tabR k val (i + 1)).flatMap qC) := by rw [Nat.succ_mul, tabR_succ]; rfl
        refine SX.St.le_to [] (by intro b h; cases h) ?_ ?_ rfl
        · repeat (first | exact trivial | refine ⟨⟨_, rfl, SX.AVto.same rfl⟩, ?_⟩)
        · exact ⟨SX.EntTo.same rfl rfl, SX.EntTo.same rfl rfl, SX.EntTo.eq rfl e2 rfl, trivial⟩)
  · obtain rfl : i = r := by omega
    refine SX.goQ ?_
    have hm : matA i c (tabR c val i) = [.c (.val (.int .i64 (i : Int))), .c (.val (.int .i64 (c : Int))), .c (.sat (sliceR 4 (i * c) ((tabR c val i).flatMap qC)))] := by
      show [_, _, Atom.c (.sat (sliceR 4 (tabR c val i).length _))] = _
      rw [tabR_len]
    rw [hm]
    refine RetF.frz 100 ?_
    exact retA (ResOK.agg3 rfl rfl rfl) rfl
end Go.Proofs.YtfhpmbenldgfnaaGreatDoor
/- A place of a matrix. -/
set_option linter.unusedVariables false
set_option linter.unusedSimpArgs false
namespace Go.Proofs.YtfhpmbenldgfnaaGreatDoor
open Go.RowKit QM SX
attribute [local irreducible] IntKind.wrap Go1 Reg WP thenK inBlk retQ retF RetF RetOK ResOK CallOK OpOK Sat
attribute [local irreducible] qsub qmul qquo qcmp qadd qv
abbrev q4C (q : Q4) : List CA := [.val (.bool q.1), .sat q.2.1, .val (.bool q.2.2.1), .sat q.2.2.2]
instance : EncLen q4C 4 := ⟨fun _ => rfl⟩
abbrev matQ (r c : Nat) (l : List Q4) : List Atom := [.c (.val (.int .i64 (r : Int))), .c (.val (.int .i64 (c : Int))), .c (.sat (rowR 4 q4C l))]
/-- A matrix's cells and the values that they tell, so many words each. -/
structure MV (l : List Q4) (vs : List Rat) (K : Nat) : Prop where
  len : l.length = vs.length
  ra : ∀ (i : Nat) q v, l[i]? = some q → vs[i]? = some v → Ra (q4A q) v K
instance con_Formed (r c : Int) {n : Nat} {cells : List CA} : Con Tryz.prog 88 [.agg [.c (.val (.int .i64 r)), .c (.val (.int .i64 c)), .c (.sat (sliceR 4 n cells))]] True (.v (.bool (decide (0 ≤ r ∧ r ≤ 64 ∧ 0 ≤ c ∧ c ≤ 64 ∧ (n : Int) = r * c)))) := ⟨fun _ => by
  refine PureOK.fnF Tryz.func88 Tryz.results88 Tryz.ntmps88 rfl rfl rfl (by simp [AV.ids, AV0.ids, Atom.ids]) rfl (fun w0 T B E0 hB => ?_)
  by_cases h1 : r ≥ 0
  · by_cases h2 : r ≤ 64
    · by_cases h3 : c ≥ 0
      · by_cases h4 : c ≤ 64
        · have hp : 0 ≤ r * c := Int.mul_nonneg h1 h3
          have hp2 : r * c ≤ 64 * 64 := Int.mul_le_mul h2 h4 h3 (by decide)
          refine SX.goQ ?_
          refine retB ?_
          rw [decide_eq_decide]
          exact ⟨fun h => ⟨h1, h2, h3, h4, h⟩, fun h => h.2.2.2.2⟩
        · refine SX.goQ ?_
          refine retB ?_; exact (decide_eq_false fun h => h4 h.2.2.2.1).symm
      · refine SX.goQ ?_
        refine retB ?_; exact (decide_eq_false fun h => h3 h.2.2.1).symm
    · refine SX.goQ ?_
      refine retB ?_; exact (decide_eq_false fun h => h2 h.2.1).symm
  · refine SX.goQ ?_
    refine retB ?_; exact (decide_eq_false fun h => h1 h.1).symm⟩
theorem con_get {r c i k : Nat} {l : List Q4} {q : Q4} (hq : l[i * c + k]? = some q) (hi : i ≤ 100) (hc : c ≤ 100) (hk : k ≤ 100) :
    PureOK Tryz.prog 161 [.agg (matQ r c l), .v (.int .i64 (i : Int)), .v (.int .i64 (k : Int))] (.agg (q4A q)) := by
  have hb := Nat.mul_le_mul hi hc
  have hlt : i * c + k < l.length := by
    rcases Nat.lt_or_ge (i * c + k) l.length with h | h
    · exact h
    · rw [List.getElem?_eq_none h] at hq; cases hq
  refine PureOK.fnF Tryz.func161 Tryz.results161 Tryz.ntmps161 rfl rfl rfl (by simp [AV.ids, AV0.ids, Atom.ids]) rfl (fun w0 T B E0 hB => ?_)
  refine SX.goQ ?_
  exact retA (ResOK.agg4 rfl rfl rfl) rfl
end Go.Proofs.YtfhpmbenldgfnaaGreatDoor
/- Rows that are begun. -/
set_option linter.unusedVariables false
set_option linter.unusedSimpArgs false
namespace Go.Proofs.YtfhpmbenldgfnaaGreatDoor
open Go.RowKit QM SX
attribute [local irreducible] IntKind.wrap Go1 Reg WP thenK inBlk retQ retF RetF RetOK ResOK CallOK OpOK Sat
attribute [local irreducible] qsub qmul qquo qcmp qadd qv
def piC (n : Nat) : List CA := [.val (.int .i64 (n : Int))]
abbrev RowsA (js : List Nat) (c : List (List Rat)) : AEnt := rowsE 28 27 4 qC js c
abbrev PivE (ps : List Nat) : Ent := .row 3 1 ps.length (ps.flatMap piC)
abbrev WkI := List Nat × List (List Rat)
/-- What is worked at: its rows, so many columns, the pivots. -/
def wkE (M : List (List Rat)) (cols : Nat) (ps : List Nat) : AEnt :=
  bunE 81 (fun p : WkI => p.1.Nodup ∧ (∀ j ∈ p.1, j < p.2.length) ∧ p.1.map (fun j => p.2.getD j []) = M) 155 (fun _ => [hdrA 91 0, .c (.val (.int .i64 (cols : Int))), .own 92]) (fun p => [(91, .abs (RowsA p.1 p.2)), (92, PivE ps)])
/-- Rows of two matrices, side by side. -/
def bgR (c d : Nat) (va vb : Nat → Nat → Rat) (i : Nat) : List Rat := rowK va i c ++ rowK vb i d
def bgM (c d : Nat) (va vb : Nat → Nat → Rat) (r : Nat) : List (List Rat) := (List.range r).map (bgR c d va vb)
abbrev matR (r c : Nat) (x : Rep) : List Atom := [.c (.val (.int .i64 (r : Int))), .c (.val (.int .i64 (c : Int))), .c (.sat x)]
end Go.Proofs.YtfhpmbenldgfnaaGreatDoor
/- A column's first row that is not 0 there. -/
set_option linter.unusedVariables false
set_option linter.unusedSimpArgs false
namespace Go.Proofs.YtfhpmbenldgfnaaGreatDoor
open Go.RowKit QM SX
attribute [local irreducible] IntKind.wrap Go1 Reg WP thenK inBlk retQ retF RetF RetOK ResOK CallOK OpOK Sat
attribute [local irreducible] qsub qmul qquo qcmp qadd qv
def rowC (r : List Rat) : List CA := [.sat (rowR 4 qC r)]
/-- The first place that answers true; -1: none. -/
def fi {α : Type} (p : α → Bool) : List α → Nat → Int
  | [], _ => -1
  | a :: l, k => if p a then (k : Int) else fi p l (k + 1)
theorem fi_drop {α : Type} {p : α → Bool} {l : List α} {k : Nat} {a : α} (h : l[k]? = some a) : fi p (l.drop k) k = if p a then (k : Int) else fi p (l.drop (k + 1)) (k + 1) := by
  have hk : k < l.length := by
    rcases Nat.lt_or_ge k l.length with h2 | h2
    · exact h2
    · rw [List.getElem?_eq_none h2] at h; cases h
  rw [List.drop_eq_getElem_cons hk]
  rw [List.getElem?_eq_getElem hk] at h
  rw [Option.some.inj h]; rfl
/-- Is a row's number at a place not 0? -/
def nz (col : Nat) (r : List Rat) : Bool := decide (r.getD col 0 ≠ 0)
end Go.Proofs.YtfhpmbenldgfnaaGreatDoor
/- A column. -/
set_option linter.unusedVariables false
set_option linter.unusedSimpArgs false
namespace Go.Proofs.YtfhpmbenldgfnaaGreatDoor
open Go.RowKit QM SX
attribute [local irreducible] IntKind.wrap Go1 Reg WP thenK inBlk retQ retF RetF RetOK ResOK CallOK OpOK Sat
attribute [local irreducible] qsub qmul qquo qcmp qadd qv
abbrev wkL (js : List Nat) (c : List (List Rat)) (ps : List Nat) : List (Nat × Ent) := [(91, .abs (RowsA js c)), (92, PivE ps)]
/-- A row times a number, so far. -/
def mlL (s : List Rat) (f : Rat) (k : Nat) : List Rat := (s.take k).map (· * f) ++ s.drop k
/-- A matrix's rows, reduced by a column. -/
def colI (M : List (List Rat)) (top col : Nat) : Int := fi (nz col) (M.drop top) 0
def sw {α : Type} (l : List α) (i j : Nat) : List α := match l[i]?, l[j]? with | some a, some b => (l.set i b).set j a | _, _ => l
def colBy (M : List (List Rat)) (top i col : Nat) : List Rat := let s := (sw M top (top + i)).getD top []; mlL s (1 / s.getD col 0) s.length
def colR (by_ : List Rat) (col : Nat) (r : List Rat) : List Rat := tkL r by_ (r.getD col 0) r.length
def colM (M : List (List Rat)) (top col : Nat) : List (List Rat) := if colI M top col < 0 then M else
  ((sw M top (top + (colI M top col).toNat)).map (colR (colBy M top (colI M top col).toNat col) col)).set top (colBy M top (colI M top col).toNat col)
def colP (M : List (List Rat)) (ps : List Nat) (col : Nat) : List Nat := if colI M ps.length col < 0 then ps else ps ++ [col]
theorem fi_spec {α : Type} {p : α → Bool} : ∀ (l : List α) (k : Nat), ¬ fi p l k < 0 → ∃ i a, fi p l k = ((k + i : Nat) : Int) ∧ l[i]? = some a ∧ p a = true
  | [], k, h => absurd (show (-1 : Int) < 0 by decide) h
  | a :: l, k, h => by
    unfold fi at h ⊢
    cases hp : p a with
    | true => exact ⟨0, a, by simp, rfl, hp⟩
    | false =>
      rw [hp] at h
      obtain ⟨i, b, h1, h2, h3⟩ := fi_spec l (k + 1) h
      exact ⟨i + 1, b, by rw [if_neg (by decide), h1]; congr 1; omega, h2, h3⟩
/-- The rows, so far as they are reduced. -/
def cRun (js : List Nat) (top col : Nat) (b : List Rat) (c : List (List Rat)) : Nat → List (List Rat)
  | 0 => c
  | r + 1 => if r = top then cRun js top col b c r else match js[r]? with
    | some j => (cRun js top col b c r).set j (colR b col ((cRun js top col b c r).getD j []))
    | none => cRun js top col b c r
end Go.Proofs.YtfhpmbenldgfnaaGreatDoor
/- A matrix's rows, reduced. -/
set_option linter.unusedVariables false
set_option linter.unusedSimpArgs false
namespace Go.Proofs.YtfhpmbenldgfnaaGreatDoor
open Go.RowKit QM SX
attribute [local irreducible] IntKind.wrap Go1 Reg WP thenK inBlk retQ retF RetF RetOK ResOK CallOK OpOK Sat
attribute [local irreducible] qsub qmul qquo qcmp qadd qv
/-- The columns, one after the other: so many are left. -/
def redS : Nat → Nat → List (List Rat) → List Nat → List (List Rat) × List Nat
  | 0, _, M, ps => (M, ps)
  | n + 1, col, M, ps => if ps.length < M.length then redS n (col + 1) (colM M ps.length col) (colP M ps col) else (M, ps)
/-- How many words a column makes of so many. -/
def kb (K : Nat) : Nat → Nat
  | 0 => K
  | n + 1 => kb (4 * K + 2) n
/-- A row's width, and its numbers' words. -/
def RW (M : List (List Rat)) (w K : Nat) : Prop := ∀ r ∈ M, r.length = w ∧ ∀ v ∈ r, RB v K
end Go.Proofs.YtfhpmbenldgfnaaGreatDoor
/- Reduced rows: the walk. -/
set_option linter.unusedVariables false
set_option linter.unusedSimpArgs false
namespace Go.Proofs.YtfhpmbenldgfnaaGreatDoor
open Go.RowKit QM SX
attribute [local irreducible] IntKind.wrap Go1 Reg WP thenK inBlk retQ retF RetF RetOK ResOK CallOK OpOK Sat
attribute [local irreducible] qsub qmul qquo qcmp qadd qv
structure RdS where
  col : Nat
  M : List (List Rat)
  ps : List Nat
end Go.Proofs.YtfhpmbenldgfnaaGreatDoor
/- The reduced form: the walk. -/
set_option linter.unusedVariables false
set_option linter.unusedSimpArgs false
namespace Go.Proofs.YtfhpmbenldgfnaaGreatDoor
open Go.RowKit QM SX
theorem weakArgs {P : Program} {f : FuncId} {args args' : List AV} {r : AV} (h : PureOK P f args' r) (hi : ∀ E S w vs, All2 (AV.has E S w) args vs → All2 (AV.has E S w) args' vs) : PureOK P f args r :=
  ⟨h.1, fun E S w vs hl hg hv a b c => h.2 E S w vs hl hg (hi E S w vs hv) a b c⟩
attribute [local irreducible] IntKind.wrap Go1 Reg WP thenK inBlk retQ retF RetF RetOK ResOK CallOK OpOK Sat
attribute [local irreducible] qsub qmul qquo qcmp qadd qv
abbrev q4v (v : Rat) : Q4 := (decide (v.num < 0), nrmN v.num.natAbs, decide ((v.den : Int) < 0), nrmN (v.den : Int).natAbs)
abbrev wkP (M : List (List Rat)) (cols : Nat) (ps : List Nat) : Rep := ptrR [.sat (rowR 1 rowC M), .val (.int .i64 (cols : Int)), .sat (rowR 1 piC ps)]
theorem nil_row {α : Type} {enc : α → List CA} {size : Nat} {S : Nat → Prop} {w : World} : (rowR size enc ([] : List α)).has S w (.slice none 0 0) :=
  sliceR_iff.2 ⟨none, 0, rfl, Nat.le_refl _, Nat.zero_le _, fun _ => rfl, by simp, fun i c h => by simp at h⟩
end Go.Proofs.YtfhpmbenldgfnaaGreatDoor
/- Linear algebra over fractions: sums, spans of rows, the reduced form. No program in sight. -/
set_option linter.unusedVariables false
set_option linter.unusedSimpArgs false
namespace LA
/-- The sum of the first so many. -/
def sm : Nat → (Nat → Rat) → Rat
  | 0, _ => 0
  | n + 1, f => sm n f + f n
/-- A row that is a sum of multiples of so many rows. -/
def Sp (n W : Nat) (m : Nat → Nat → Rat) (v : Nat → Rat) : Prop := ∃ c : Nat → Rat, ∀ k, k < W → v k = sm n (fun r => c r * m r k)
/-- The same rows, by their sums of multiples. -/
structure Eqv (n n' W : Nat) (m m' : Nat → Nat → Rat) : Prop where
  fwd : ∀ r, r < n' → Sp n W m (m' r)
  back : ∀ r, r < n → Sp n' W m' (m r)
/-- The reduced form's shape as far as so many columns. -/
structure Rref (n w : Nat) (m : Nat → Nat → Rat) (ps : List Nat) : Prop where
  len : ps.length ≤ n
  inc : ps.Pairwise (· < ·)
  lt : ∀ p ∈ ps, p < w
  one : ∀ i p, ps[i]? = some p → ∀ r, r < n → m r p = if r = i then 1 else 0
  low : ∀ i p, ps[i]? = some p → ∀ k, k < p → m i k = 0
  zero : ∀ r, ps.length ≤ r → r < n → ∀ k, k < w → m r k = 0
end LA
/- What the columns' steps make of rows: the reduced form. No program in sight. -/
set_option linter.unusedVariables false
set_option linter.unusedSimpArgs false
namespace Go.Proofs.YtfhpmbenldgfnaaGreatDoor
open LA
/-- Rows as numbers at places. -/
def mf (M : List (List Rat)) (r k : Nat) : Rat := (M.getD r []).getD k 0
/-- Rows of a width. -/
def Wd (M : List (List Rat)) (w : Nat) : Prop := ∀ r ∈ M, r.length = w
theorem fi_none {α : Type} {p : α → Bool} : ∀ {l : List α} {k : Nat}, fi p l k < 0 → ∀ a ∈ l, p a = false
  | [], k, _, a, h => by cases h
  | b :: l, k, h, a, ha => by
    unfold fi at h
    cases hp : p b with
    | true => rw [hp] at h; simp at h; omega
    | false =>
      rw [hp] at h
      rcases List.mem_cons.1 ha with rfl | ha
      · exact hp
      · exact fi_none (k := k + 1) (by simpa using h) a ha
/-- One column's step, by numbers. -/
structure ColS (n W : Nat) (m m' : Nat → Nat → Rat) (top i col : Nat) : Prop where
  hi : top ≤ i ∧ i < n
  ne : m i col ≠ 0
  at_ : ∀ r, r < n → ∀ k, k < W → m' r k = if r = top then m i k / m i col else (if r = i then m top k else m r k) - (if r = i then m top col else m r col) * (m i k / m i col)
end Go.Proofs.YtfhpmbenldgfnaaGreatDoor
/- Rows of two matrices side by side, reduced: what holds of them. No program in sight. -/
set_option linter.unusedVariables false
set_option linter.unusedSimpArgs false
namespace Go.Proofs.YtfhpmbenldgfnaaGreatDoor
open LA
/-- Two matrices' rows side by side, reduced by the first one's columns. -/
abbrev red (r c d : Nat) (va vb : Nat → Nat → Rat) : List (List Rat) × List Nat := redS c 0 (bgM c d va vb r) []
abbrev rdM (r c d : Nat) (va vb : Nat → Nat → Rat) : Nat → Nat → Rat := mf (red r c d va vb).1
abbrev rdP (r c d : Nat) (va vb : Nat → Nat → Rat) : List Nat := (red r c d va vb).2
section
variable {r c d : Nat} {va vb : Nat → Nat → Rat}
end
/-- One, place by place. -/
def idv (i k : Nat) : Rat := if i = k then 1 else 0
/-- The columns beside the pivots. -/
def frees (c : Nat) (ps : List Nat) : List Nat := (List.range c).filter fun k => decide (k ∉ ps)
end Go.Proofs.YtfhpmbenldgfnaaGreatDoor
/- The reduced form, an inverse: the walks. -/
set_option linter.unusedVariables false
set_option linter.unusedSimpArgs false
namespace Go.Proofs.YtfhpmbenldgfnaaGreatDoor
open Go.RowKit QM SX
attribute [local irreducible] IntKind.wrap Go1 Reg WP thenK inBlk retQ retF RetF RetOK ResOK CallOK OpOK Sat
attribute [local irreducible] qsub qmul qquo qcmp qadd qv mf
attribute [local irreducible] redS
theorem Ra.rb {l : List Atom} {v : Rat} {K : Nat} (h : Ra l v K) (hK : 1 ≤ K) : RB v K := by
  obtain ⟨x0, x1, x2, x3, p, q, k, m, _, _, _, h1, h2, h3, h4, h5⟩ := h.h
  by_cases hq : q = 0
  · subst hq
    have : v = 0 := by rw [← h5]; unfold qv; grind
    rw [this]; exact RB.zero hK
  · exact RB.of hq h5 (Nat.lt_of_lt_of_le h3.h (Nat.pow_le_pow_right WB_pos h1)) (Nat.lt_of_lt_of_le h4.h (Nat.pow_le_pow_right WB_pos h2))
/-- A matrix's number at a place. -/
def vat (vs : List Rat) (c i k : Nat) : Rat := vs.getD (i * c + k) 0
theorem idx_lt {r c i k : Nat} (hi : i < r) (hk : k < c) : i * c + k < r * c := by
  have := Nat.mul_le_mul_right c (show i + 1 ≤ r from hi)
  rw [Nat.succ_mul] at this; omega
theorem vat_at {vs : List Rat} {r c i k : Nat} (hl : vs.length = r * c) (hi : i < r) (hk : k < c) : vs[i * c + k]? = some (vat vs c i k) := by
  have h := idx_lt hi hk
  unfold vat
  rw [List.getD_eq_getElem?_getD, List.getElem?_eq_getElem (by omega)]; rfl
theorem MV.rb {l : List Q4} {vs : List Rat} {K : Nat} (h : MV l vs K) (hK : 1 ≤ K) : ∀ v ∈ vs, RB v K := by
  intro v hv
  obtain ⟨i, hi⟩ := List.mem_iff_getElem?.1 hv
  have hlt : i < vs.length := by
    rcases Nat.lt_or_ge i vs.length with h | h
    · exact h
    · rw [List.getElem?_eq_none h] at hi; cases hi
  exact Ra.rb (h.ra i _ v (List.getElem?_eq_getElem (show i < l.length by rw [h.len]; exact hlt)) hi) hK
theorem vat_RB {vs : List Rat} {K : Nat} (h : ∀ v ∈ vs, RB v K) (hK : 1 ≤ K) (c i k : Nat) : RB (vat vs c i k) K := by
  unfold vat
  rw [List.getD_eq_getElem?_getD]
  cases e : vs[i * c + k]? with
  | none => exact RB.zero hK
  | some v => exact h v (List.mem_of_getElem? e)
theorem tabR_at {c : Nat} {val : Nat → Nat → Rat} {k : Nat} (hk : k < c) : ∀ {r i : Nat}, i < r → (tabR c val r)[i * c + k]? = some (val i k)
  | 0, i, h => absurd h (Nat.not_lt_zero _)
  | r + 1, i, h => by
    rw [tabR_succ]
    by_cases hi : i < r
    · rw [List.getElem?_append_left (by rw [tabR_len]; exact idx_lt hi hk)]
      exact tabR_at hk hi
    · obtain rfl : i = r := by omega
      rw [List.getElem?_append_right (by rw [tabR_len]; omega), tabR_len, Nat.add_sub_cancel_left, List.getElem?_map, List.getElem?_range hk]; rfl
theorem tabR_RB {c r K : Nat} {val : Nat → Nat → Rat} (h : ∀ i k, i < r → k < c → RB (val i k) K) : ∀ v ∈ tabR c val r, RB v K := by
  intro v hv
  unfold tabR at hv
  obtain ⟨i, hi, hv⟩ := List.mem_flatMap.1 hv
  obtain ⟨k, hk, rfl⟩ := List.mem_map.1 hv
  exact h i k (List.mem_range.1 hi) (List.mem_range.1 hk)
theorem matA_matQ (r c : Nat) (l : List Rat) : matA r c l = matQ r c (l.map q4v) := by
  have e : rowR 4 qC l = rowR 4 q4C (l.map q4v) := by
    show sliceR 4 l.length (l.flatMap qC) = sliceR 4 (l.map q4v).length ((l.map q4v).flatMap q4C)
    rw [List.length_map, List.flatMap_map]
  unfold matA matQ
  rw [e]
theorem vat_tab {r c i k : Nat} {val : Nat → Nat → Rat} (hi : i < r) (hk : k < c) : vat (tabR c val r) c i k = val i k := by
  unfold vat
  rw [List.getD_eq_getElem?_getD, tabR_at hk hi]; rfl
theorem cF_true {r c : Nat} {n : Nat} {cells : List CA} (hl : n = r * c) (hr : r ≤ 64) (hc : c ≤ 64) : PureOK Tryz.prog 88 [.agg [.c (.val (.int .i64 (r : Int))), .c (.val (.int .i64 (c : Int))), .c (.sat (sliceR 4 n cells))]] (.v (.bool true)) := by
  have h := (con_Formed (r : Int) (c : Int) (n := n) (cells := cells)).h trivial
  rw [decide_eq_true (show 0 ≤ (r : Int) ∧ (r : Int) ≤ 64 ∧ 0 ≤ (c : Int) ∧ (c : Int) ≤ 64 ∧ (n : Int) = (r : Int) * (c : Int) from ⟨by omega, by omega, by omega, by omega, by rw [hl]; simp⟩)] at h
  exact h
/-- No matrix. -/
abbrev mat0 : List Atom := [.c (.val (.int .i64 0)), .c (.val (.int .i64 0)), .c (.val (.slice none 0 0))]
abbrev matZ (r c : Int) (l : List Q4) : List Atom := [.c (.val (.int .i64 r)), .c (.val (.int .i64 c)), .c (.sat (rowR 4 q4C l))]
abbrev eNo (z : Int) : AV0 := .one (.c (.val (.int .i64 z)))
/-- Is a matrix formed? -/
def FormedP (r c : Int) (n : Nat) : Prop := 0 ≤ r ∧ r ≤ 64 ∧ 0 ≤ c ∧ c ≤ 64 ∧ (n : Int) = r * c
end Go.Proofs.YtfhpmbenldgfnaaGreatDoor
/- An inverse; what solves equations: the walks. -/
set_option linter.unusedVariables false
set_option linter.unusedSimpArgs false
namespace Go.Proofs.YtfhpmbenldgfnaaGreatDoor
open Go.RowKit QM SX
attribute [local irreducible] IntKind.wrap Go1 Reg WP thenK inBlk retQ retF RetF RetOK ResOK CallOK OpOK Sat
attribute [local irreducible] qsub qmul qquo qcmp qadd qv redS mf
/-- A function without anything bound to it, as it stands in a text. -/
theorem fnArg {f : FuncId} {E : Env} {S : Nat → Prop} {w : World} {v : Value} (h : (AV.it (.one (.clo f []))).has E S w v) : (AV.it (.one (.c (.sat (cloR f [] []))))).has E S w v :=
  ⟨[], [], h, trivial, trivial⟩
end Go.Proofs.YtfhpmbenldgfnaaGreatDoor
/- Places in rows; what solves equations; what becomes 0: the walks. -/
set_option linter.unusedVariables false
set_option linter.unusedSimpArgs false
namespace Go.Proofs.YtfhpmbenldgfnaaGreatDoor
open Go.RowKit QM SX
attribute [local irreducible] IntKind.wrap Go1 Reg WP thenK inBlk retQ retF RetF RetOK ResOK CallOK OpOK Sat
attribute [local irreducible] qsub qmul qquo qcmp qadd qv redS mf
/-- Is it this number? -/
def isI (i a : Nat) : Bool := decide (i = a)
def nzQ (v : Rat) : Bool := decide (v ≠ 0)
/-- Does a row hold anything but noughts? -/
def anyNZ (l : List Rat) : Bool := decide (¬ fi nzQ l 0 < 0)
end Go.Proofs.YtfhpmbenldgfnaaGreatDoor
/- What solves equations: the walk. -/
set_option linter.unusedVariables false
set_option linter.unusedSimpArgs false
namespace Go.Proofs.YtfhpmbenldgfnaaGreatDoor
open Go.RowKit QM SX
attribute [local irreducible] IntKind.wrap Go1 Reg WP thenK inBlk retQ retF RetF RetOK ResOK CallOK OpOK Sat
attribute [local irreducible] qsub qmul qquo qcmp qadd qv redS mf
/-- What is told to solve: at the pivots what stands behind the columns. -/
def solX (ps : List Nat) (m : Nat → Nat → Rat) (c i k : Nat) : Rat := if i ∈ ps then m (fi (isI i) ps 0).toNat (c + k) else 0
/-- Behind the pivots' rows there are noughts alone. -/
def SolOK (r c d : Nat) (va vb : Nat → Nat → Rat) : Prop := ∀ i, (rdP r c d va vb).length ≤ i → i < r → ∀ k, k < d → rdM r c d va vb i (c + k) = 0
end Go.Proofs.YtfhpmbenldgfnaaGreatDoor
/- What becomes 0: the walk. -/
set_option linter.unusedVariables false
set_option linter.unusedSimpArgs false
namespace Go.Proofs.YtfhpmbenldgfnaaGreatDoor
open Go.RowKit QM SX
attribute [local irreducible] IntKind.wrap Go1 Reg WP thenK inBlk retQ retF RetF RetOK ResOK CallOK OpOK Sat
attribute [local irreducible] qsub qmul qquo qcmp qadd qv redS mf
/-- What is told to become 0. -/
def kerX (ps fr : List Nat) (m : Nat → Nat → Rat) (i k : Nat) : Rat := if i ∈ ps then -m (fi (isI i) ps 0).toNat (fr.getD k 0) else if fr.getD k 0 = i then 1 else 0
end Go.Proofs.YtfhpmbenldgfnaaGreatDoor
/- The reference for matrices of fractions (package quincunxref13). -/
set_option linter.unusedVariables false
set_option linter.unusedSimpArgs false
namespace Go.Proofs.YtfhpmbenldgfnaaGreatDoor
open Go.RowKit QM SX
attribute [local irreducible] IntKind.wrap Go1 Reg WP thenK inBlk retQ retF RetF RetOK ResOK CallOK OpOK Sat
attribute [local irreducible] qsub qmul qquo qcmp qadd qv redS mf
/-- A fraction as it comes in. -/
abbrev RawQ := Bool × List Nat × Bool × List Nat
abbrev rq (x : RawQ) : Q4 := (x.1, rawN x.2.1, x.2.2.1, rawN x.2.2.2)
/-- A fraction's value, as it comes in. -/
def rqv (x : RawQ) : Rat := qv (sgn x.1 (nval WB x.2.1)) (sgn x.2.2.1 (nval WB x.2.2.2))
def RSm (l : List RawQ) : Prop := ∀ x ∈ l, Sm WB x.2.1 ∧ Sm WB x.2.2.2
def RLen (l : List RawQ) (K : Nat) : Prop := ∀ x ∈ l, x.2.1.length ≤ K ∧ x.2.2.2.length ≤ K
theorem MV.raw {l : List RawQ} {K : Nat} (hs : RSm l) (hl : RLen l K) : MV (l.map rq) (l.map rqv) K := by
  refine ⟨by rw [List.length_map, List.length_map], fun i q v hq hv => ?_⟩
  rw [List.getElem?_map] at hq hv
  cases hx : l[i]? with
  | none => rw [hx] at hq; cases hq
  | some x =>
    rw [hx] at hq hv
    cases hq; cases hv
    have h1 := hs x (List.mem_of_getElem? hx)
    have h2 := hl x (List.mem_of_getElem? hx)
    exact Ra.raw ⟨nn_lt h1.1 (Nat.le_refl _)⟩ ⟨nn_lt h1.2 (Nat.le_refl _)⟩ h2.1 h2.2
theorem con_rFormed (r c : Int) {n : Nat} {cells : List CA} : PureOK Tryz.prog 37 [.agg [.c (.val (.int .i64 r)), .c (.val (.int .i64 c)), .c (.sat (sliceR 4 n cells))]] (.v (.bool (decide (0 ≤ r ∧ r ≤ 64 ∧ 0 ≤ c ∧ c ≤ 64 ∧ (n : Int) = r * c)))) := by
  refine PureOK.fnF Tryz.func37 Tryz.results37 Tryz.ntmps37 rfl rfl rfl (by simp [AV.ids, AV0.ids, Atom.ids]) rfl (fun w0 T B E0 hB => ?_)
  by_cases h1 : r ≥ 0
  · by_cases h2 : r ≤ 64
    · by_cases h3 : c ≥ 0
      · by_cases h4 : c ≤ 64
        · have hp : 0 ≤ r * c := Int.mul_nonneg h1 h3
          have hp2 : r * c ≤ 64 * 64 := Int.mul_le_mul h2 h4 h3 (by decide)
          refine SX.goF ?_
          refine retB ?_
          rw [decide_eq_decide]
          exact ⟨fun h => ⟨h1, h2, h3, h4, h⟩, fun h => h.2.2.2.2⟩
        · refine SX.goF ?_
          refine retB ?_; exact (decide_eq_false fun h => h4 h.2.2.2.1).symm
      · refine SX.goF ?_
        refine retB ?_; exact (decide_eq_false fun h => h3 h.2.2.1).symm
    · refine SX.goF ?_
      refine retB ?_; exact (decide_eq_false fun h => h2 h.2.1).symm
  · refine SX.goF ?_
    refine retB ?_; exact (decide_eq_false fun h => h1 h.1).symm
/-- A matrix of a size that is looked at. -/
def FewP (r c : Int) (l : List RawQ) (s w : Int) : Prop := (∀ k x, k < 100 → l[k]? = some x → (x.2.1.length : Int) ≤ w ∧ (x.2.2.2.length : Int) ≤ w) ∧ r ≤ s ∧ c ≤ s ∧ l.length ≤ 100
theorem con_rFew (r c : Int) (l : List RawQ) (s w : Int) :
    (FewP r c l s w → PureOK Tryz.prog 34 [.agg (matZ r c (l.map rq)), .v (.int .i64 s), .v (.int .i64 w)] (.v (.bool true))) ∧
    (¬ FewP r c l s w → PureOK Tryz.prog 34 [.agg (matZ r c (l.map rq)), .v (.int .i64 s), .v (.int .i64 w)] (.v (.bool false))) := by
  have hlen : (l.map rq).length = l.length := List.length_map _
  have key : ∀ (goal : Bool), (goal = true ↔ FewP r c l s w) → PureOK Tryz.prog 34 [.agg (matZ r c (l.map rq)), .v (.int .i64 s), .v (.int .i64 w)] (.v (.bool goal)) := by
    intro goal hg
    refine PureOK.fnF Tryz.func34 Tryz.results34 Tryz.ntmps34 rfl rfl rfl (by simp [AV.ids, AV0.ids, Atom.ids]) rfl (fun w0 T B E0 hB => ?_)
    refine SX.goF ?_
    refine W.loop (fun k => k ≤ l.length ∧ k ≤ 100 ∧ ∀ j x, j < k → l[j]? = some x → (x.2.1.length : Int) ≤ w ∧ (x.2.2.2.length : Int) ≤ w) (fun k => [(1, .v (.int .i64 s)), (2, .v (.int .i64 w)), (3, .ptr 3 0), (7, .v (.int .i64 (k : Int)))]) (fun k => [(3, .box 30 (matZ r c (l.map rq)))]) (fun k => l.length - k) 0 ⟨Nat.zero_le _, Nat.zero_le _, fun j x h => absurd h (Nat.not_lt_zero _)⟩ (fun k ⟨hk, hk2, he⟩ => ?_)
    by_cases h : k < l.length
    · have h' : k < (l.map rq).length := by omega
      by_cases h2 : k < 100
      · obtain ⟨x, hx⟩ : ∃ x, l[k]? = some x := ⟨_, List.getElem?_eq_getElem h⟩
        have hq : (l.map rq)[k]? = some (rq x) := by rw [List.getElem?_map, hx]; rfl
        have cF := (con_Few x.1 x.2.1 x.2.2.1 x.2.2.2 w).h trivial
        by_cases h3 : (x.2.1.length : Int) ≤ w ∧ (x.2.2.2.length : Int) ≤ w
        · rw [decide_eq_true h3] at cF
          refine SX.goF ?_
          refine W.next (k + 1) ⟨h, h2, fun j b hj hb => ?_⟩ (by omega)
          by_cases hjk : j < k
          · exact he j b hjk hb
          · obtain rfl : j = k := by omega
            rw [hx] at hb; rw [← Option.some.inj hb]; exact h3
        · rw [decide_eq_false h3] at cF
          refine SX.goF ?_
          refine retB ?_
          exact (Bool.eq_false_iff.2 fun ht => h3 ((hg.1 ht).1 k x h2 hx)).symm
      · obtain rfl : k = 100 := by omega
        have hno : ¬ (l.map rq).length ≤ 100 := by omega
        by_cases h3 : r ≤ s
        · by_cases h4 : c ≤ s
          · refine SX.goF ?_
            refine retB ?_
            rw [Bool.eq_iff_iff, hg, decide_eq_true_iff]
            exact ⟨fun h => by omega, fun h => by have := h.2.2.2; omega⟩
          · refine SX.goF ?_
            refine retB ?_
            exact (Bool.eq_false_iff.2 fun ht => h4 (hg.1 ht).2.2.1).symm
        · refine SX.goF ?_
          refine retB ?_
          exact (Bool.eq_false_iff.2 fun ht => h3 (hg.1 ht).2.1).symm
    · obtain rfl : k = l.length := by omega
      have h' : ¬ l.length < (l.map rq).length := by omega
      have all : ∀ k x, k < 100 → l[k]? = some x → (x.2.1.length : Int) ≤ w ∧ (x.2.2.2.length : Int) ≤ w := fun j x hj hx => by
        have hjl : j < l.length := by
          rcases Nat.lt_or_ge j l.length with h | h
          · exact h
          · rw [List.getElem?_eq_none h] at hx; cases hx
        exact he j x hjl hx
      by_cases h3 : r ≤ s
      · by_cases h4 : c ≤ s
        · refine SX.goF ?_
          refine retB ?_
          rw [Bool.eq_iff_iff, hg, decide_eq_true_iff]
          exact ⟨fun h => ⟨all, h3, h4, by omega⟩, fun h => by have := h.2.2.2; omega⟩
        · refine SX.goF ?_
          refine retB ?_
          exact (Bool.eq_false_iff.2 fun ht => h4 (hg.1 ht).2.2.1).symm
      · refine SX.goF ?_
        refine retB ?_
        exact (Bool.eq_false_iff.2 fun ht => h3 (hg.1 ht).2.1).symm
  exact ⟨fun h => key true ⟨fun _ => h, fun _ => rfl⟩, fun h => key false ⟨fun h => (by cases h), fun h2 => absurd h2 h⟩⟩
end Go.Proofs.YtfhpmbenldgfnaaGreatDoor
/- The reference for matrices of fractions (package quincunxref13): what it answers where all is as it should be. -/
set_option linter.unusedVariables false
set_option linter.unusedSimpArgs false
namespace Go.Proofs.YtfhpmbenldgfnaaGreatDoor
open Go.RowKit QM SX LA
attribute [local irreducible] IntKind.wrap Go1 Reg WP thenK inBlk retQ retF RetF RetOK ResOK CallOK OpOK Sat
attribute [local irreducible] qsub qmul qquo qcmp qadd qv redS mf
section
variable {l l' : List Atom} {v : Rat} {K K' : Nat}
end
theorem of_1 : PureOK Tryz.prog 23 [.v (.int .i64 1)] (.agg (zN 1)) := con_zOf.h ⟨by decide, by decide⟩
theorem rof_1 : PureOK Tryz.prog 36 [.agg (zN 1)] (.agg (qA 1)) := con_rOf.h (by decide)
theorem at_lt {α : Type} {l : List α} {i : Nat} {a : α} (h : l[i]? = some a) : i < l.length := by
  rcases Nat.lt_or_ge i l.length with h2 | h2
  · exact h2
  · rw [List.getElem?_eq_none h2] at h; cases h
end Go.Proofs.YtfhpmbenldgfnaaGreatDoor
/- The reference for matrices of fractions: products, the reduced form's shape; rows that hang on others. -/
set_option linter.unusedVariables false
set_option linter.unusedSimpArgs false
namespace Go.Proofs.YtfhpmbenldgfnaaGreatDoor
open Go.RowKit QM SX LA
attribute [local irreducible] IntKind.wrap Go1 Reg WP thenK inBlk retQ retF RetF RetOK ResOK CallOK OpOK Sat
attribute [local irreducible] qsub qmul qquo qcmp qadd qv redS mf
/-- A place of a product. -/
abbrev prodV (c : Nat) (va vb : Nat → Nat → Rat) (i k : Nat) : Rat := sm c (fun j => va i j * vb j k)
end Go.Proofs.YtfhpmbenldgfnaaGreatDoor
/- The reference for matrices of fractions: the reduced form's shape. -/
set_option linter.unusedVariables false
set_option linter.unusedSimpArgs false
namespace Go.Proofs.YtfhpmbenldgfnaaGreatDoor
open Go.RowKit QM SX LA
attribute [local irreducible] IntKind.wrap Go1 Reg WP thenK inBlk retQ retF RetF RetOK ResOK CallOK OpOK Sat
attribute [local irreducible] qsub qmul qquo qcmp qadd qv redS mf
end Go.Proofs.YtfhpmbenldgfnaaGreatDoor
/- Matrices of whole numbers; such over one number. -/
set_option linter.unusedVariables false
set_option linter.unusedSimpArgs false
namespace Go.Proofs.YtfhpmbenldgfnaaGreatDoor
open Go.RowKit QM SX LA
attribute [local irreducible] IntKind.wrap Go1 Reg WP thenK inBlk retQ retF RetF RetOK ResOK CallOK OpOK Sat
attribute [local irreducible] qsub qmul qquo qcmp qadd qv redS mf
abbrev Z2 := Bool × Rep
abbrev z2A (q : Z2) : List Atom := [.c (.val (.bool q.1)), .c (.sat q.2)]
abbrev z2C (q : Z2) : List CA := [.val (.bool q.1), .sat q.2]
instance : EncLen z2C 2 := ⟨fun _ => rfl⟩
instance : EncOne z2C := ⟨fun _ => rfl⟩
abbrev zC (z : Int) : List CA := [.val (.bool (decide (z < 0))), .sat (nrmN z.natAbs)]
abbrev z2v (z : Int) : Z2 := (decide (z < 0), nrmN z.natAbs)
/-- A whole number's cells and its value, so many words. -/
structure ZQ (q : Z2) (z : Int) (K : Nat) : Prop where
  h : ∃ n k, z = sgn q.1 n ∧ NI (.sat q.2) n k ∧ k ≤ K
  b : z.natAbs < WB ^ K
theorem NI.le {a : CA} {n k K : Nat} (x : NI a n k) (hK : k ≤ K) : NI a n K := ⟨fun S w v h => by
  obtain ⟨l, h1, h2, h3⟩ := natR_iff.1 (x.p S w v h)
  exact natR_iff.2 ⟨l, h1, Nat.le_trans h2 hK, h3⟩⟩
theorem ZQ.zi {q : Z2} {z : Int} {K : Nat} (h : ZQ q z K) : ZI (z2A q) z K := by
  obtain ⟨n, k, h1, h2, h3⟩ := h.h
  exact h1 ▸ ZI.mk' (neg := q.1) (h2.le h3)
theorem z_sgn (z : Int) : sgn (decide (z < 0)) z.natAbs = z := by
  unfold sgn
  by_cases h : z < 0
  · rw [decide_eq_true h]; simp; omega
  · rw [decide_eq_false h]; simp; omega
theorem ZQ.made {z : Int} {K : Nat} (h : z.natAbs < WB ^ K) : ZQ (z2v z) z K :=
  ⟨⟨z.natAbs, K, (z_sgn z).symm, NI.nrm' h, Nat.le_refl _⟩, h⟩
theorem ZQ.raw {b : Bool} {l : List Nat} {K : Nat} (hs : Sm WB l) (hl : l.length ≤ K) : ZQ (b, rawN l) (sgn b (nval WB l)) K :=
  ⟨⟨_, _, rfl, NI.raw l, hl⟩, by
    have h1 : (sgn b (nval WB l)).natAbs = nval WB l := by unfold sgn; split <;> omega
    rw [h1]; exact Nat.lt_of_lt_of_le (nn_lt hs (Nat.le_refl _)) (Nat.pow_le_pow_right WB_pos hl)⟩
structure MZ (l : List Z2) (zs : List Int) (K : Nat) : Prop where
  len : l.length = zs.length
  z : ∀ (i : Nat) q z, l[i]? = some q → zs[i]? = some z → ZQ q z K
abbrev matW (r c : Int) (l : List Z2) : List Atom := [.c (.val (.int .i64 r)), .c (.val (.int .i64 c)), .c (.sat (rowR 2 z2C l))]
abbrev matY (r c : Nat) (l : List Z2) : List Atom := [.c (.val (.int .i64 (r : Int))), .c (.val (.int .i64 (c : Int))), .c (.sat (rowR 2 z2C l))]
abbrev matN (r c : Nat) (l : List Int) : List Atom := [.c (.val (.int .i64 (r : Int))), .c (.val (.int .i64 (c : Int))), .c (.sat (rowR 2 zC l))]
def zat (zs : List Int) (c i k : Nat) : Int := zs.getD (i * c + k) 0
theorem MZ.made {zs : List Int} {K : Nat} (h : ∀ z ∈ zs, z.natAbs < WB ^ K) : MZ (zs.map z2v) zs K := by
  refine ⟨List.length_map _, fun i q z hq hz => ?_⟩
  rw [List.getElem?_map, hz] at hq
  cases hq
  exact ZQ.made (h z (List.mem_of_getElem? hz))
theorem from_z {q : Z2} {z : Int} {K : Nat} (h : ZQ q z K) (hK : K ≤ 1000000) : PureOK Tryz.prog 64 [.it (.one (.c (.sat q.2))), .v (.bool q.1)] (.agg (zN z)) := by
  obtain ⟨n, k, h1, h2, h3⟩ := h.h
  rw [h1]
  exact con_zFrom (h := h2) q.1 |>.h (by omega)
end Go.Proofs.YtfhpmbenldgfnaaGreatDoor
/- A matrix of whole numbers that is made, place by place; over one number. -/
set_option linter.unusedVariables false
set_option linter.unusedSimpArgs false
namespace Go.Proofs.YtfhpmbenldgfnaaGreatDoor
open Go.RowKit QM SX LA
attribute [local irreducible] IntKind.wrap Go1 Reg WP thenK inBlk retQ retF RetF RetOK ResOK CallOK OpOK Sat
attribute [local irreducible] qsub qmul qquo qcmp qadd qv redS mf
def tabZ (c : Nat) (val : Nat → Nat → Int) (i : Nat) : List Int := (List.range i).flatMap fun i => (List.range c).map (val i)
theorem tabZ_zero {c : Nat} {val : Nat → Nat → Int} : tabZ c val 0 = [] := rfl
def rowZ (val : Nat → Nat → Int) (i k : Nat) : List Int := (List.range k).map (val i)
def i64C (z : Int) : List CA := [.val (.int .i64 z)]
end Go.Proofs.YtfhpmbenldgfnaaGreatDoor
/- A matrix of whole numbers over one number; awake. -/
set_option linter.unusedVariables false
set_option linter.unusedSimpArgs false
namespace Go.Proofs.YtfhpmbenldgfnaaGreatDoor
open Go.RowKit QM SX LA
section
attribute [local irreducible] IntKind.wrap Go1 Reg WP thenK inBlk retQ retF RetF RetOK ResOK CallOK OpOK Sat
attribute [local irreducible] qsub qmul qquo qcmp qadd qv redS mf
end
end Go.Proofs.YtfhpmbenldgfnaaGreatDoor
/- Awake. -/
set_option linter.unusedVariables false
set_option linter.unusedSimpArgs false
namespace Go.Proofs.YtfhpmbenldgfnaaGreatDoor
open Go.RowKit QM SX LA
/-- The fixed matrix, its inverse. -/
def awV : List Rat := tabR 2 (fun i k => qv (zat (tabZ 2 (zat [1, 2, 3, 4] 2) 2) 2 i k) 1) 2
section
attribute [local irreducible] IntKind.wrap Go1 Reg WP thenK inBlk retQ retF RetF RetOK ResOK CallOK OpOK Sat
attribute [local irreducible] qsub qmul qquo qcmp qadd qv redS mf awV
end
end Go.Proofs.YtfhpmbenldgfnaaGreatDoor

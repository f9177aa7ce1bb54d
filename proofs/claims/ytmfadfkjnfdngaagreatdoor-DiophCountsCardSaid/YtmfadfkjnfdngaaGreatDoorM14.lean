import Derived.Test.YtmfadfkjnfdngaaGreatDoorM23
import Derived.Test.YtmfadfkjnfdngaaGreatDoorM2
import Derived.Test.YtmfadfkjnfdngaaGreatDoorM27
set_option linter.unusedVariables false
set_option linter.unusedSimpArgs false
namespace Go.Proofs.YtmfadfkjnfdngaaGreatDoor
open Go.RowKit QM SX

def rawN (l : List Nat) : Rep where
  has S w v := Sm WB l ∧ (sliceR 1 l.length (l.map fun x : Nat => .val (.int .u64 (x : Int)))).has S w v
  one h := (sliceR _ _ _).one h.2
  step h ho hs := ⟨h.1, (sliceR _ _ _).step h.2 ho hs⟩
theorem rawN.rn {l : List Nat} {S : Nat → Prop} {w : World} {v : Value} (h : (rawN l).has S w v) : RN w v l := by
  obtain ⟨hs, h⟩ := h
  obtain ⟨oa, cap, h1, h2, h3, h4, h5, h6⟩ := sliceR_iff.1 h
  refine ⟨oa, cap, h1, h2, h3, h4, hs, fun i hi => ?_⟩
  obtain ⟨b, o, u, e1, e2, e3, e4⟩ := h6 i (.val (.int .u64 ((gd l i : Nat) : Int))) (by simp [gd, List.getD_eq_getElem?_getD, hi])
  exact ⟨b, o, e1, by rw [e3, show u = _ from e4]⟩
def nrmN (n : Nat) : Rep where
  has S w v := ∃ l, Nrm l ∧ nval WB l = n ∧ (l = [] → v = .slice none 0 0) ∧ (rawN l).has S w v
  one h := by obtain ⟨l, _, _, _, h⟩ := h; exact (rawN l).one h
  step h ho hs := by obtain ⟨l, h1, h2, h3, h⟩ := h; exact ⟨l, h1, h2, h3, (rawN l).step h ho hs⟩
theorem nrmN.of_on {n base : Nat} {S : Nat → Prop} {w : World} {v : Value} (h : ON base w v n) (hS : ∀ k, S k → k < base) : (nrmN n).has S w v := by
  obtain ⟨l, h1, h2, h3, h4, h5⟩ := h
  refine ⟨l, h3, h4, h5, h2, ?_⟩
  rcases h1.2 with ⟨rfl, h0⟩ | ⟨g, cap, cur, rfl, hb, hg, hn, hm, hcs, htk⟩
  · have hl : l = [] := List.eq_nil_of_length_eq_zero h0
    subst hl
    exact sliceR_iff.2 ⟨none, 0, rfl, Nat.le_refl _, by simp [maxLen], fun _ => rfl, by simp, fun i c hc => by simp at hc⟩
  · refine sliceR_iff.2 ⟨some ⟨g, 0, none⟩, cap, rfl, hn, hm, fun e => (by cases e), by simp, fun i c hc => ?_⟩
    have hi : i < l.length := by have := (List.getElem?_eq_some_iff.1 hc).1; simpa using this
    refine ⟨g, 0, .int .u64 ((gd l i : Nat) : Int), rfl, fun h => by have := hS g h; omega, ?_, ?_⟩
    · rw [Nat.zero_add, h1.cellAt i (by omega)]
      simp [wv, List.getElem?_map, List.getElem?_eq_getElem hi, gd, List.getD_eq_getElem?_getD]
    · simp [List.getElem?_map, List.getElem?_eq_getElem hi] at hc
      subst hc
      simp [CA.has, gd, List.getD_eq_getElem?_getD, hi]
theorem nrmN.zero {S : Nat → Prop} {w : World} : (nrmN 0).has S w (.slice none 0 0) :=
  ⟨[], Nrm.nil, rfl, fun _ => rfl, Sm.nil, sliceR_iff.2 ⟨none, 0, rfl, Nat.le_refl _, by simp [maxLen], fun _ => rfl, by simp, fun i c hc => by simp at hc⟩⟩
def wdsB (B : Nat) : Nat → Nat → List Nat
  | 0, _ => []
  | _ + 1, 0 => []
  | f + 1, n + 1 => ((n + 1) % B) :: wdsB B f ((n + 1) / B)
theorem wdsB_spec {B : Nat} (hB : 1 < B) : ∀ (f n : Nat), n ≤ f → Sm B (wdsB B f n) ∧ nval B (wdsB B f n) = n ∧ Nrm (wdsB B f n)
  | 0, n, h => by
    have : n = 0 := by omega
    subst this
    exact ⟨Sm.nil, rfl, Nrm.nil⟩
  | f + 1, 0, _ => ⟨Sm.nil, rfl, Nrm.nil⟩
  | f + 1, n + 1, h => by
    have hlt : (n + 1) / B < n + 1 := Nat.div_lt_self (by omega) hB
    obtain ⟨h1, h2, h3⟩ := wdsB_spec hB f ((n + 1) / B) (by omega)
    have hv : nval B (wdsB B (f + 1) (n + 1)) = n + 1 := by
      show (n + 1) % B + B * nval B (wdsB B f ((n + 1) / B)) = n + 1
      rw [h2]; exact Nat.mod_add_div _ _
    refine ⟨h1.cons (Nat.mod_lt _ (by omega)), hv, .inr ?_⟩
    have hc : wdsB B (f + 1) (n + 1) = (n + 1) % B :: wdsB B f ((n + 1) / B) := rfl
    rw [hc]
    generalize wdsB B f ((n + 1) / B) = l at *
    rcases h3 with h3 | h3
    · subst h3
      have h5 : (n + 1) / B = 0 := h2.symm
      have : (n + 1) % B = n + 1 := by have := Nat.mod_add_div (n + 1) B; rw [h5] at this; simpa using this
      simp [this]
    · have h6 : l.length ≠ 0 := by
        intro h0
        rw [List.eq_nil_of_length_eq_zero h0] at h3
        simp at h3
      obtain ⟨m, hm⟩ : ∃ m, l.length = m + 1 := ⟨l.length - 1, by omega⟩
      rw [hm] at h3
      simp only [List.length_cons, hm, Nat.add_sub_cancel, List.getD_eq_getElem?_getD, List.getElem?_cons_succ] at *
      exact h3
def wds (n : Nat) : List Nat := wdsB WB n n
theorem wds_sm (n : Nat) : Sm WB (wds n) := (wdsB_spec WB_one n n (Nat.le_refl n)).1
theorem wds_val (n : Nat) : nval WB (wds n) = n := (wdsB_spec WB_one n n (Nat.le_refl n)).2.1
theorem wds_nrm (n : Nat) : Nrm (wds n) := (wdsB_spec WB_one n n (Nat.le_refl n)).2.2
theorem wds_uniq {l : List Nat} (hs : Sm WB l) (hn : Nrm l) : l = wds (nval WB l) := nval_inj WB_pos hs (wds_sm _) hn (wds_nrm _) (wds_val _).symm
theorem wds_zero (n : Nat) : (wds n).length = 0 ↔ n = 0 := by
  constructor
  · intro h; have := wds_val n; rw [List.eq_nil_of_length_eq_zero h] at this; exact this.symm
  · intro h; subst h; rfl
instance (l : List Nat) : AsSlice (rawN l) 1 l.length (l.map fun x : Nat => .val (.int .u64 (x : Int))) := ⟨fun _ _ _ h => h.2⟩
instance (n : Nat) : AsSlice (nrmN n) 1 (wds n).length ((wds n).map fun x : Nat => .val (.int .u64 (x : Int))) := ⟨fun _ _ _ h => by
  obtain ⟨l, h1, h2, _, h4⟩ := h
  have := wds_uniq h4.1 h1
  rw [h2] at this
  rw [← this]; exact h4.2⟩
class Bd (z : Int) (k : outParam Nat) : Prop where
  h : z.natAbs < WB ^ k
def natR (n k : Nat) : Rep where
  has S w v := ∃ l, nval WB l = n ∧ l.length ≤ k ∧ (rawN l).has S w v
  one h := by obtain ⟨l, _, _, h⟩ := h; exact (rawN l).one h
  step h ho hs := by obtain ⟨l, h1, h2, h⟩ := h; exact ⟨l, h1, h2, (rawN l).step h ho hs⟩
class NI (a : CA) (n : outParam Nat) (k : outParam Nat) : Prop where
  p : ∀ S w v, a.has S w v → (natR n k).has S w v
theorem NI.h {a : CA} {n k : Nat} (x : NI a n k) : ∀ S w v, a.has S w v → ∃ l, RN w v l ∧ nval WB l = n ∧ l.length ≤ k := fun S w v h => by
  obtain ⟨l, h1, h2, h3⟩ := x.p S w v h
  exact ⟨l, rawN.rn h3, h1, h2⟩
instance NI.nat (n k : Nat) : NI (.sat (natR n k)) n k := ⟨fun _ _ _ h => h⟩
instance NI.raw (l : List Nat) : NI (.sat (rawN l)) (nval WB l) l.length := ⟨fun S w v h => ⟨l, rfl, Nat.le_refl _, h⟩⟩
instance NI.nil : NI (.val (.slice none 0 0)) 0 0 := ⟨fun S w v h => by
  rw [show v = _ from h]
  exact ⟨[], rfl, Nat.le_refl _, Sm.nil, sliceR_iff.2 ⟨none, 0, rfl, Nat.le_refl _, by simp [maxLen], fun _ => rfl, by simp, fun i c hc => by simp at hc⟩⟩⟩
theorem NI.nrm' {n k : Nat} (hk : n < WB ^ k) : NI (.sat (nrmN n)) n k := ⟨fun S w v h => by
  obtain ⟨l, h1, h2, _, h4⟩ := h
  exact ⟨l, h2, h1.len_le WB_pos (by rw [h2]; exact hk), h4⟩⟩
class BdN (n : Nat) (k : outParam Nat) : Prop where
  h : n < WB ^ k
instance NI.nrm (n k : Nat) [h : BdN n k] : NI (.sat (nrmN n)) n k := NI.nrm' h.h
instance BdN.abs (z : Int) (k : Nat) [h : Bd z k] : BdN z.natAbs k := ⟨h.h⟩
theorem WB_one_le (k : Nat) : 1 ≤ WB ^ k := Nat.one_le_pow k WB WB_pos
theorem Bd.mono {z : Int} {k m : Nat} (h : z.natAbs < WB ^ k) (hm : k ≤ m) : z.natAbs < WB ^ m := Nat.lt_of_lt_of_le h (Nat.pow_le_pow_right WB_pos hm)
theorem pow_sum_le (k m : Nat) : WB ^ k + WB ^ m ≤ WB ^ (k + m) + 1 := by
  have h1 := WB_one_le k
  have h2 := WB_one_le m
  rw [Nat.pow_add]
  generalize WB ^ k = a at *
  generalize WB ^ m = b at *
  obtain ⟨a, rfl⟩ : ∃ a', a = a' + 1 := ⟨a - 1, by omega⟩
  obtain ⟨b, rfl⟩ : ∃ b', b = b' + 1 := ⟨b - 1, by omega⟩
  rw [Nat.add_mul, Nat.mul_add]
  have : 0 ≤ a * b := Nat.zero_le _
  omega
theorem bd_add {x y : Int} {k m : Nat} (hx : x.natAbs < WB ^ k) (hy : y.natAbs < WB ^ m) : (x + y).natAbs < WB ^ (k + m + 1) := by
  have h1 := pow_sum_le k m
  have h2 : WB ^ (k + m) * 2 ≤ WB ^ (k + m + 1) := by rw [Nat.pow_succ]; exact Nat.mul_le_mul_left _ (by decide)
  have h3 := WB_one_le (k + m)
  omega
instance Bd.add (x y : Int) (k m : Nat) [hx : Bd x k] [hy : Bd y m] : Bd (x + y) (k + m + 1) := ⟨bd_add hx.h hy.h⟩
instance Bd.sub (x y : Int) (k m : Nat) [hx : Bd x k] [hy : Bd y m] : Bd (x - y) (k + m + 1) := ⟨by rw [Int.sub_eq_add_neg]; exact bd_add hx.h (by rw [Int.natAbs_neg]; exact hy.h)⟩
instance Bd.neg (x : Int) (k : Nat) [hx : Bd x k] : Bd (-x) k := ⟨by rw [Int.natAbs_neg]; exact hx.h⟩
instance Bd.mul (x y : Int) (k m : Nat) [hx : Bd x k] [hy : Bd y m] : Bd (x * y) (k + m) := ⟨by
  rw [Int.natAbs_mul, Nat.pow_add]
  exact Nat.mul_lt_mul_of_lt_of_le hx.h (Nat.le_of_lt hy.h) (WB_one_le m)⟩
theorem bdn_add {x y : Nat} {k m : Nat} (hx : x < WB ^ k) (hy : y < WB ^ m) : x + y < WB ^ (k + m + 1) := by
  have := bd_add (x := (x : Int)) (y := (y : Int)) (k := k) (m := m) (by simpa using hx) (by simpa using hy)
  omega
instance BdN.add (x y k m : Nat) [hx : BdN x k] [hy : BdN y m] : BdN (x + y) (k + m + 1) := ⟨bdn_add hx.h hy.h⟩
instance BdN.mul (x y k m : Nat) [hx : BdN x k] [hy : BdN y m] : BdN (x * y) (k + m) := ⟨by
  rw [Nat.pow_add]
  exact Nat.mul_lt_mul_of_lt_of_le hx.h (Nat.le_of_lt hy.h) (WB_one_le m)⟩
instance BdN.sub (x y k : Nat) [hx : BdN x k] : BdN (x - y) k := ⟨Nat.lt_of_le_of_lt (Nat.sub_le _ _) hx.h⟩
instance BdN.div (x y k : Nat) [hx : BdN x k] : BdN (x / y) k := ⟨Nat.lt_of_le_of_lt (Nat.div_le_self _ _) hx.h⟩
instance BdN.mod (x y k : Nat) [hx : BdN x k] : BdN (x % y) k := ⟨Nat.lt_of_le_of_lt (Nat.mod_le _ _) hx.h⟩
instance BdN.ite (c : Prop) [Decidable c] (x k : Nat) [hx : BdN x k] : BdN (if c then 0 else x) k := ⟨by split; exact Nat.lt_of_lt_of_le (by decide) (WB_one_le k); exact hx.h⟩
instance BdN.gcd (x y k m : Nat) [hx : BdN x k] [hy : BdN y m] : BdN (Nat.gcd x y) (k + m) := ⟨by
  rcases Nat.eq_zero_or_pos x with h0 | h0
  · subst h0
    rw [Nat.gcd_zero_left]
    exact Nat.lt_of_lt_of_le hy.h (Nat.pow_le_pow_right WB_pos (by omega))
  · exact Nat.lt_of_le_of_lt (Nat.gcd_le_left y h0) (Nat.lt_of_lt_of_le hx.h (Nat.pow_le_pow_right WB_pos (by omega)))⟩
instance Bd.nat (n k : Nat) [h : BdN n k] : Bd (n : Int) k := ⟨by simpa using h.h⟩
instance Bd.zero : Bd 0 0 := ⟨by simp⟩
instance Bd.one : Bd 1 1 := ⟨by simp [WB]⟩
theorem bd_i64 (x : Int) (h1 : -9223372036854775808 ≤ x) (h2 : x ≤ 9223372036854775807) : x.natAbs < WB ^ 1 := by rw [Nat.pow_one, WB_eq]; omega

section
variable {a b : CA} {x y k m : Nat}
theorem nat2 {f : FuncId} {r : Nat} [ha : NI a x k] [hb : NI b y m] (he : ∃ fn, Tryz.prog.funcs[f]? = some fn ∧ (fn.name == "runtime.NumGoroutine") = false ∧ fn.body.isNone = false)
    (h : ∀ w va vb la lb, RN w va la → RN w vb lb → nval WB la = x → nval WB lb = y → la.length ≤ k → lb.length ≤ m → Calls Tryz.prog f #[va, vb] w fun e w' => (∃ v, e = .returned v ∧ ON w.heap.size w' v r) ∧ Ext w w') :
    PureOK Tryz.prog f [.it (.one (.c a)), .it (.one (.c b))] (.r (nrmN r)) :=
  PureOK.of_calls he rfl fun E S w vs hl hv => by
    match vs, hv with
    | [va, vb], ⟨h1, h2, _⟩ =>
      obtain ⟨la, ra, ea, ka⟩ := ha.h S w va h1
      obtain ⟨lb, rb, eb, kb⟩ := hb.h S w vb h2
      refine (h w va vb la lb ra rb ea eb ka kb).mono ?_
      rintro e w' ⟨⟨v, rfl, ho⟩, hx⟩
      exact ⟨v, rfl, nrmN.of_on ho hl, Off.of_below hx⟩
theorem nat1 {f : FuncId} {r : Nat} [ha : NI a x k] (he : ∃ fn, Tryz.prog.funcs[f]? = some fn ∧ (fn.name == "runtime.NumGoroutine") = false ∧ fn.body.isNone = false)
    (h : ∀ w va la, RN w va la → nval WB la = x → la.length ≤ k → Calls Tryz.prog f #[va] w fun e w' => (∃ v, e = .returned v ∧ ON w.heap.size w' v r) ∧ Ext w w') :
    PureOK Tryz.prog f [.it (.one (.c a))] (.r (nrmN r)) :=
  PureOK.of_calls he rfl fun E S w vs hl hv => by
    match vs, hv with
    | [va], ⟨h1, _⟩ =>
      obtain ⟨la, ra, ea, ka⟩ := ha.h S w va h1
      refine (h w va la ra ea ka).mono ?_
      rintro e w' ⟨⟨v, rfl, ho⟩, hx⟩
      exact ⟨v, rfl, nrmN.of_on ho hl, Off.of_below hx⟩
theorem nNorm [ha : NI a x k] (hk : k ≤ 1099511627775) : PureOK Tryz.prog 38 [.it (.one (.c a))] (.r (nrmN x)) :=
  nat1 ⟨_, Tryz.func38, rfl, rfl⟩ fun w va la h1 h2 h3 => by subst h2; exact Norm_any h1 (by omega)
theorem nAdd [ha : NI a x k] [hb : NI b y m] (hk : k + m ≤ 1099511627775) : PureOK Tryz.prog 69 [.it (.one (.c a)), .it (.one (.c b))] (.r (nrmN (x + y))) :=
  nat2 ⟨_, Tryz.func69, rfl, rfl⟩ fun w va vb la lb h1 h2 h3 h4 h5 h6 => by subst h3 h4; exact Add_any h1 h2 (by omega) (by omega)
theorem mMul [ha : NI a x k] [hb : NI b y m] (hk : k + m ≤ 274877906944) : PureOK Tryz.prog 37 [.it (.one (.c a)), .it (.one (.c b))] (.r (nrmN (x * y))) :=
  nat2 ⟨_, Tryz.func37, rfl, rfl⟩ fun w va vb la lb h1 h2 h3 h4 h5 h6 => by subst h3 h4; exact Mul_any h1 h2 (by omega) (by omega)
theorem dGcd [ha : NI a x k] [hb : NI b y m] (hk : k + m ≤ 1099511627770) : PureOK Tryz.prog 36 [.it (.one (.c a)), .it (.one (.c b))] (.r (nrmN (Nat.gcd x y))) :=
  nat2 ⟨_, Tryz.func36, rfl, rfl⟩ fun w va vb la lb h1 h2 h3 h4 h5 h6 => by subst h3 h4; exact Gcd_any h1 h2 hk (by omega) (by omega)
theorem nOf (x : Nat) (hx : x < WB) : PureOK Tryz.prog 20 [.v (.int .u64 (x : Int))] (.r (nrmN x)) :=
  PureOK.of_calls ⟨_, Tryz.func20, rfl, rfl⟩ rfl fun E S w vs hl hv => by
    match vs, hv with
    | [va], ⟨h1, _⟩ =>
      have h1' : va = .int .u64 (x : Int) := h1
      subst h1'
      refine (Of_own x hx w).mono ?_
      rintro e w' ⟨⟨v, rfl, ho⟩, hx⟩
      exact ⟨v, rfl, nrmN.of_on ho hl, Off.of_below hx⟩
theorem nCmp [ha : NI a x k] [hb : NI b y m] (hk : k + m ≤ 1099511627775) : PureOK Tryz.prog 41 [.it (.one (.c a)), .it (.one (.c b))] (.v (.int .i64 (cmpI x y))) :=
  PureOK.of_calls ⟨_, Tryz.func41, rfl, rfl⟩ rfl fun E S w vs hl hv => by
    match vs, hv with
    | [va, vb], ⟨h1, h2, _⟩ =>
      obtain ⟨la, ra, ea, ka⟩ := ha.h S w va h1
      obtain ⟨lb, rb, eb, kb⟩ := hb.h S w vb h2
      subst ea eb
      refine (Cmp_any ra rb (by omega) (by omega)).mono ?_
      rintro e w' ⟨rfl, hx⟩
      exact ⟨_, rfl, rfl, Off.of_below hx⟩
theorem nBits [ha : NI a x k] (hk : k ≤ 1099511627775) : PureOK Tryz.prog 21 [.it (.one (.c a))] (.v (.int .i64 (bitLen x : Int))) :=
  PureOK.of_calls ⟨_, Tryz.func21, rfl, rfl⟩ rfl fun E S w vs hl hv => by
    match vs, hv with
    | [va], ⟨h1, _⟩ =>
      obtain ⟨la, ra, ea, ka⟩ := ha.h S w va h1
      subst ea
      refine (Bits_any ra (by omega)).mono ?_
      rintro e w' ⟨rfl, rfl⟩
      exact ⟨_, rfl, rfl, Off.refl _ _⟩
theorem nWord [ha : NI a x k] (hk : k ≤ 1099511627775) : PureOK Tryz.prog 117 [.it (.one (.c a))] (.tup [.one (.c (.val (.int .u64 ((if x < WB then x else 0 : Nat) : Int)))), .one (.c (.val (.bool (decide (x < WB)))))]) :=
  PureOK.of_calls ⟨_, Tryz.func117, rfl, rfl⟩ rfl fun E S w vs hl hv => by
    match vs, hv with
    | [va], ⟨h1, _⟩ =>
      obtain ⟨la, ra, ea, ka⟩ := ha.h S w va h1
      subst ea
      refine (Word_any ra (by omega)).mono ?_
      rintro e w' ⟨rfl, rfl⟩
      exact ⟨_, rfl, ⟨[_, _], rfl, rfl, rfl, trivial⟩, Off.refl _ _⟩
theorem nSub [ha : NI a x k] [hb : NI b y m] (hk : k + m ≤ 1099511627775) : PureOK Tryz.prog 73 [.it (.one (.c a)), .it (.one (.c b))] (.tup [.one (.c (.sat (nrmN (x - y)))), .one (.c (.val (.bool (decide (y ≤ x)))))]) :=
  PureOK.of_calls ⟨_, Tryz.func73, rfl, rfl⟩ rfl fun E S w vs hl hv => by
    match vs, hv with
    | [va, vb], ⟨h1, h2, _⟩ =>
      obtain ⟨la, ra, ea, ka⟩ := ha.h S w va h1
      obtain ⟨lb, rb, eb, kb⟩ := hb.h S w vb h2
      subst ea eb
      rcases Nat.lt_or_ge (nval WB la) (nval WB lb) with hlt | hge
      · refine (Sub_less ra rb (by omega) (by omega) hlt).mono ?_
        rintro e w' ⟨rfl, hx⟩
        refine ⟨_, rfl, ⟨[_, _], rfl, ?_, ?_, trivial⟩, Off.of_below hx⟩
        · show (nrmN _).has _ _ _
          rw [Nat.sub_eq_zero_of_le (by omega)]; exact nrmN.zero
        · show _ = _
          rw [decide_eq_false (by omega)]
      · refine (Sub_ge ra rb (by omega) (by omega) hge).mono ?_
        rintro e w' ⟨⟨v, rfl, ho⟩, hx⟩
        refine ⟨_, rfl, ⟨[_, _], rfl, nrmN.of_on ho hl, ?_, trivial⟩, Off.of_below hx⟩
        show _ = _
        rw [decide_eq_true hge]
theorem dDivMod [ha : NI a x k] [hb : NI b y m] (hk : k + m ≤ 1099511627770) : PureOK Tryz.prog 74 [.it (.one (.c a)), .it (.one (.c b))] (.tup [.one (.c (.sat (nrmN (x / y)))), .one (.c (.sat (nrmN (if y = 0 then 0 else x % y)))), .one (.c (.val (.bool (decide (y ≠ 0)))))]) :=
  PureOK.of_calls ⟨_, Tryz.func74, rfl, rfl⟩ rfl fun E S w vs hl hv => by
    match vs, hv with
    | [va, vb], ⟨h1, h2, _⟩ =>
      obtain ⟨la, ra, ea, ka⟩ := ha.h S w va h1
      obtain ⟨lb, rb, eb, kb⟩ := hb.h S w vb h2
      subst ea eb
      by_cases h0 : nval WB lb = 0
      · refine (DivMod_zero ra rb (by omega) (by omega) h0).mono ?_
        rintro e w' ⟨rfl, hx⟩
        rw [h0]
        exact ⟨_, rfl, ⟨[_, _, _], rfl, by show (nrmN _).has _ _ _; rw [Nat.div_zero]; exact nrmN.zero, nrmN.zero, rfl, trivial⟩, Off.of_below hx⟩
      · refine (DivMod_pos ra rb (by omega) (by omega) (Nat.pos_of_ne_zero h0)).mono ?_
        rintro e w' ⟨⟨vq, vr, rfl, hq, hr⟩, hx⟩
        refine ⟨_, rfl, ⟨[_, _, _], rfl, nrmN.of_on hq hl, ?_, ?_, trivial⟩, Off.of_below hx⟩
        · rw [if_neg h0]; exact nrmN.of_on hr hl
        · show _ = _
          rw [decide_eq_true h0]
end
theorem rawN_iff {l : List Nat} {S : Nat → Prop} {w : World} {v : Value} : (rawN l).has S w v ↔ Sm WB l ∧ (sliceR 1 l.length (l.map fun x : Nat => .val (.int .u64 (x : Int)))).has S w v := Iff.rfl
theorem natR_iff {n k : Nat} {S : Nat → Prop} {w : World} {v : Value} : (natR n k).has S w v ↔ ∃ l, nval WB l = n ∧ l.length ≤ k ∧ (rawN l).has S w v := Iff.rfl
theorem nrmN_iff {n : Nat} {S : Nat → Prop} {w : World} {v : Value} : (nrmN n).has S w v ↔ ∃ l, Nrm l ∧ nval WB l = n ∧ (l = [] → v = .slice none 0 0) ∧ (rawN l).has S w v := Iff.rfl
attribute [irreducible] natR rawN nrmN wds
end Go.Proofs.YtmfadfkjnfdngaaGreatDoor
set_option linter.unusedVariables false
set_option linter.unusedSimpArgs false
namespace Go.Proofs.YtmfadfkjnfdngaaGreatDoor
open Go.RowKit QM SX
attribute [local irreducible] IntKind.wrap bitLen cmpI nval Go1 Reg WP thenK inBlk retQ RetOK ResOK CallOK OpOK Sat
def sgn (neg : Bool) (n : Nat) : Int := if neg then -(n : Int) else (n : Int)
theorem sgn_abs (z : Int) : sgn (decide (z < 0)) z.natAbs = z := by unfold sgn; split <;> simp_all <;> omega
theorem sgn_natAbs (neg : Bool) (n : Nat) : (sgn neg n).natAbs = n := by unfold sgn; split <;> omega
abbrev zN (z : Int) : List Atom := [.c (.val (.bool (decide (z < 0)))), .c (.sat (nrmN z.natAbs))]
abbrev zR (neg : Bool) (n k : Nat) : List Atom := [.c (.val (.bool neg)), .c (.sat (natR n k))]
class ZI (l : List Atom) (z : outParam Int) (k : outParam Nat) : Prop where
  h : ∃ neg n, z = sgn neg n ∧ ∀ E S w v, (AV.agg l).has E S w v → (AV.agg (zR neg n k)).has E S w v
theorem ZI.mk' {neg : Bool} {a : CA} {n k : Nat} (h : NI a n k) : ZI [.c (.val (.bool neg)), .c a] (sgn neg n) k := ⟨neg, n, rfl, fun E S w v hv => by
  obtain ⟨vs, hv, hall⟩ := hv
  match vs, hall with
  | [x, y], ⟨h1, h2, _⟩ => exact ⟨[x, y], hv, h1, h.p S w y h2, trivial⟩⟩
instance ZI.nat (neg : Bool) (n k : Nat) : ZI [.c (.val (.bool neg)), .c (.sat (natR n k))] (sgn neg n) k := ZI.mk' inferInstance
instance ZI.nrm (z : Int) (k : Nat) [h : Bd z k] : ZI [.c (.val (.bool (decide (z < 0)))), .c (.sat (nrmN z.natAbs))] z k := by
  have := ZI.mk' (neg := decide (z < 0)) (NI.nrm' h.h)
  rwa [sgn_abs] at this
instance ZI.zero : ZI [.c (.val (.bool false)), .c (.val (.slice none 0 0))] 0 0 := ZI.mk' (neg := false) (n := 0) inferInstance
theorem natR_bd {n k : Nat} {S : Nat → Prop} {w : World} {v : Value} (h : (natR n k).has S w v) : n < WB ^ k := by
  obtain ⟨l, h1, h2, h3⟩ := natR_iff.1 h
  rw [← h1]; exact nn_lt (rawN.rn h3).sm h2
theorem zR_bd {neg : Bool} {n k : Nat} {E : Env} {S : Nat → Prop} {w : World} {v : Value} (h : (AV.agg (zR neg n k)).has E S w v) : n < WB ^ k := by
  obtain ⟨vs, _, hall⟩ := h
  match vs, hall with
  | [_, _], ⟨_, h2, _⟩ => exact natR_bd h2
theorem z1 {f : FuncId} {r : AV} {l : List Atom} {z : Int} {k : Nat} [h : ZI l z k] (he : ∃ fn, Tryz.prog.funcs[f]? = some fn ∧ (fn.name == "runtime.NumGoroutine") = false ∧ fn.body.isNone = false)
    (hf : ∀ neg n, z = sgn neg n → BdN n k → PureOK Tryz.prog f [.agg (zR neg n k)] r) : PureOK Tryz.prog f [.agg l] r := by
  obtain ⟨neg, n, hz, hm⟩ := h.h
  refine PureOK.fact he (fun hb => hf neg n hz hb) fun E S w vs hv => ?_
  match vs, hv with
  | [x], ⟨h1, _⟩ => exact ⟨⟨hm E S w x h1, trivial⟩, ⟨zR_bd (hm E S w x h1)⟩⟩
theorem z2 {f : FuncId} {r : AV} {l l' : List Atom} {z z' : Int} {k k' : Nat} [h : ZI l z k] [h' : ZI l' z' k'] (he : ∃ fn, Tryz.prog.funcs[f]? = some fn ∧ (fn.name == "runtime.NumGoroutine") = false ∧ fn.body.isNone = false)
    (hf : ∀ neg n neg' n', z = sgn neg n → z' = sgn neg' n' → BdN n k → BdN n' k' → PureOK Tryz.prog f [.agg (zR neg n k), .agg (zR neg' n' k')] r) : PureOK Tryz.prog f [.agg l, .agg l'] r := by
  obtain ⟨neg, n, hz, hm⟩ := h.h
  obtain ⟨neg', n', hz', hm'⟩ := h'.h
  refine PureOK.fact (φ := BdN n k ∧ BdN n' k') he (fun hb => hf neg n neg' n' hz hz' hb.1 hb.2) fun E S w vs hv => ?_
  match vs, hv with
  | [x, y], ⟨h1, h2, _⟩ => exact ⟨⟨hm E S w x h1, hm' E S w y h2, trivial⟩, ⟨zR_bd (hm E S w x h1)⟩, ⟨zR_bd (hm' E S w y h2)⟩⟩
instance Bd.sgn (neg : Bool) (n k : Nat) [h : BdN n k] : Bd (sgn neg n) k := ⟨by rw [sgn_natAbs]; exact h.h⟩
theorem zN_sgn (neg : Bool) (n : Nat) : zN (sgn neg n) = [.c (.val (.bool (neg && decide (0 < n)))), .c (.sat (nrmN n))] := by
  have h1 : decide (sgn neg n < 0) = (neg && decide (0 < n)) := by
    unfold sgn; cases neg <;> simp
  unfold zN
  rw [sgn_natAbs, h1]
theorem zFrom {a : CA} {x k : Nat} [ha : NI a x k] (neg : Bool) (hk : k ≤ 1099511627775) : PureOK Tryz.prog 19 [.it (.one (.c a)), .v (.bool neg)] (.agg (zN (sgn neg x))) := by
  rw [zN_sgn]
  refine PureOK.args (args' := [.r (natR x k), .v (.bool neg)]) ?_ (fun E S w vs hv => ?_)
  rotate_left
  · match vs, hv with
    | [u, v], ⟨h1, h2, _⟩ => exact ⟨ha.p S w u h1, h2, trivial⟩
  refine PureOK.fn Tryz.func19 Tryz.results19 Tryz.ntmps19 rfl rfl rfl (by simp [AV.ids, AV0.ids, Atom.ids]) rfl (fun w0 T B E0 hB => ?_)
  cases neg
  · repeat (first | refine SX.goZ ?_ | (refine SX.Go1.is ?_; refine SX.Go1.isCall ?_; first
          | refine SX.Go1.call rfl (nNorm hk) rfl rfl ?_))
    exact RetOK.eq1 (ResOK.agg2 rfl rfl rfl) rfl
  · repeat (first | refine SX.goZ ?_ | (refine SX.Go1.is ?_; refine SX.Go1.isCall ?_; first
          | refine SX.Go1.call rfl (nNorm hk) rfl rfl ?_))
    refine RetOK.eq1 (ResOK.agg2 rfl rfl rfl) ?_
    have h : decide (0 < ((wds x).length : Int)) = decide (0 < x) := by
      have := wds_zero x
      rw [decide_eq_decide]; omega
    show AV0.agg [Atom.c (CA.val (.bool (decide (0 < ((wds x).length : Int))))), _] = _
    rw [h]; rfl
def isign (z : Int) : Int := if z = 0 then 0 else if z < 0 then -1 else 1
theorem bitLen_zero {n : Nat} : bitLen n = 0 ↔ n = 0 := by
  unfold bitLen; split <;> simp_all
theorem zSign {l : List Atom} {z : Int} {k : Nat} [h : ZI l z k] (hk : k ≤ 1099511627775) : PureOK Tryz.prog 9 [.agg l] (.v (.int .i64 (isign z))) := by
  refine z1 ⟨_, Tryz.func9, rfl, rfl⟩ fun neg n hz hn => ?_
  subst hz
  refine PureOK.fn Tryz.func9 Tryz.results9 Tryz.ntmps9 rfl rfl rfl (by simp [AV.ids, AV0.ids, Atom.ids]) rfl (fun w0 T B E0 hB => ?_)
  have hb := bitLen_zero (n := n)
  repeat (first | refine SX.goZ ?_ | (refine SX.Go1.is ?_; refine SX.Go1.isCall ?_; first
        | refine SX.Go1.call rfl (nBits hk) rfl rfl ?_))
  refine WP.cond rfl (fun hc => ?_) (fun hc => ?_)
  · repeat (first | refine SX.goZ ?_)
    refine RetOK.eq1 (ResOK.tmp rfl) ?_
    have : n = 0 := by simp at hc; omega
    subst this
    cases neg <;> rfl
  · repeat (first | refine SX.goZ ?_)
    have hn : 0 < n := by simp at hc; omega
    cases neg
    · repeat (first | refine SX.goZ ?_)
      refine RetOK.eq1 (ResOK.tmp rfl) ?_
      have : isign (sgn false n) = 1 := by unfold isign sgn; simp; omega
      rw [this]
    · repeat (first | refine SX.goZ ?_)
      refine RetOK.eq1 (ResOK.tmp rfl) ?_
      have : isign (sgn true n) = -1 := by unfold isign sgn; simp; omega
      rw [this]
theorem sgn_not (neg : Bool) (n : Nat) : sgn (!neg) n = -sgn neg n := by unfold sgn; cases neg <;> simp
theorem zNeg {l : List Atom} {z : Int} {k : Nat} [h : ZI l z k] (hk : k ≤ 1099511627775) : PureOK Tryz.prog 89 [.agg l] (.agg (zN (-z))) := by
  refine z1 ⟨_, Tryz.func89, rfl, rfl⟩ fun neg n hz hn => ?_
  subst hz
  rw [← sgn_not]
  refine PureOK.fn Tryz.func89 Tryz.results89 Tryz.ntmps89 rfl rfl rfl (by simp [AV.ids, AV0.ids, Atom.ids]) rfl (fun w0 T B E0 hB => ?_)
  repeat (first | refine SX.goZ ?_ | (refine SX.Go1.is ?_; refine SX.Go1.isCall ?_; first
        | refine SX.Go1.call rfl (zFrom _ hk) rfl rfl ?_))
  exact RetOK.eq1 (ResOK.agg2 rfl rfl rfl) rfl
theorem zAbs {l : List Atom} {z : Int} {k : Nat} [h : ZI l z k] (hk : k ≤ 1099511627775) : PureOK Tryz.prog 104 [.agg l] (.agg (zN (z.natAbs : Int))) := by
  refine z1 ⟨_, Tryz.func104, rfl, rfl⟩ fun neg n hz hn => ?_
  subst hz
  rw [sgn_natAbs]
  refine PureOK.fn Tryz.func104 Tryz.results104 Tryz.ntmps104 rfl rfl rfl (by simp [AV.ids, AV0.ids, Atom.ids]) rfl (fun w0 T B E0 hB => ?_)
  repeat (first | refine SX.goZ ?_ | (refine SX.Go1.is ?_; refine SX.Go1.isCall ?_; first
        | refine SX.Go1.call rfl (zFrom false hk) rfl rfl ?_))
  exact RetOK.eq1 (ResOK.agg2 rfl rfl rfl) rfl
end Go.Proofs.YtmfadfkjnfdngaaGreatDoor
set_option linter.unusedVariables false
set_option linter.unusedSimpArgs false
namespace Go.Proofs.YtmfadfkjnfdngaaGreatDoor
open Go.RowKit QM SX
attribute [local irreducible] IntKind.wrap bitLen cmpI nval Go1 Reg WP thenK inBlk retQ RetOK ResOK CallOK OpOK Sat
attribute [local irreducible] sgn isign
theorem zOf (z : Int) (h1 : -9223372036854775808 ≤ z) (h2 : z ≤ 9223372036854775807) : PureOK Tryz.prog 7 [.v (.int .i64 z)] (.agg (zN z)) := by
  have hb : NI (.sat (nrmN z.natAbs)) z.natAbs 1 := NI.nrm' (bd_i64 z h1 h2)
  refine PureOK.fn Tryz.func7 Tryz.results7 Tryz.ntmps7 rfl rfl rfl (by simp [AV.ids, AV0.ids, Atom.ids]) rfl (fun w0 T B E0 hB => ?_)
  repeat (first | refine SX.goZ ?_)
  refine WP.cond rfl (fun hc => ?_) (fun hc => ?_)
  · have hz : z < 0 := by simpa using hc
    have hw : IntKind.u64.wrap (0 - IntKind.u64.wrap z) = (z.natAbs : Int) := by
      simp only [IntKind.wrap, IntKind.bits, IntKind.signed]; simp; omega
    have hs : sgn true z.natAbs = z := by unfold sgn; simp; omega
    have hcc := nOf (z.natAbs) (by rw [WB_eq]; omega)
    repeat (first | refine SX.goZ ?_ | (refine SX.Go1.is ?_; refine SX.Go1.isCall ?_; first
          | refine SX.Go1.call rfl (hcc) rfl rfl ?_
          | refine SX.Go1.call rfl (zFrom true (by omega)) rfl rfl ?_))
    rw [hs]
    exact RetOK.eq1 (ResOK.agg2 rfl rfl rfl) rfl
  · have hz : 0 ≤ z := by simpa using hc
    have hw : IntKind.u64.wrap z = (z.natAbs : Int) := by
      simp only [IntKind.wrap, IntKind.bits, IntKind.signed]; simp; omega
    have hs : sgn false z.natAbs = z := by unfold sgn; simp; omega
    have hcc := nOf (z.natAbs) (by rw [WB_eq]; omega)
    repeat (first | refine SX.goZ ?_ | (refine SX.Go1.is ?_; refine SX.Go1.isCall ?_; first
          | refine SX.Go1.call rfl (hcc) rfl rfl ?_
          | refine SX.Go1.call rfl (nOf' _ hz (by omega)) rfl rfl ?_
          | refine SX.Go1.call rfl (zFrom false (by omega)) rfl rfl ?_))
    rw [hs]
    exact RetOK.eq1 (ResOK.agg2 rfl rfl rfl) rfl
theorem sgn_add_same (neg : Bool) (n m : Nat) : sgn neg (n + m) = sgn neg n + sgn neg m := by unfold sgn; split <;> omega
theorem sgn_add_ge (neg : Bool) {n m : Nat} (h : m ≤ n) : sgn neg (n - m) = sgn neg n + sgn (!neg) m := by unfold sgn; cases neg <;> simp <;> omega
theorem sgn_add_lt (neg : Bool) {n m : Nat} (h : n ≤ m) : sgn (!neg) (m - n) = sgn neg n + sgn (!neg) m := by unfold sgn; cases neg <;> simp <;> omega
theorem zAdd {l l' : List Atom} {x y : Int} {k m : Nat} [h : ZI l x k] [h' : ZI l' y m] (hk : k + m ≤ 1099511627774) : PureOK Tryz.prog 42 [.agg l, .agg l'] (.agg (zN (x + y))) := by
  refine z2 ⟨_, Tryz.func42, rfl, rfl⟩ fun neg n neg2 n2 hz hz2 hn hn2 => ?_
  subst hz hz2
  refine PureOK.fn Tryz.func42 Tryz.results42 Tryz.ntmps42 rfl rfl rfl (by simp [AV.ids, AV0.ids, Atom.ids]) rfl (fun w0 T B E0 hB => ?_)
  repeat (first | refine SX.goZ ?_)
  refine WP.cond rfl (fun hc => ?_) (fun hc => ?_)
  · have hq : neg = neg2 := by simpa using hc
    subst hq
    repeat (first | refine SX.goZ ?_ | (refine SX.Go1.is ?_; refine SX.Go1.isCall ?_; first
          | refine SX.Go1.call rfl (nAdd (by omega)) rfl rfl ?_
          | refine SX.Go1.call rfl (zFrom _ (by omega)) rfl rfl ?_))
    rw [← sgn_add_same]
    exact RetOK.eq1 (ResOK.agg2 rfl rfl rfl) rfl
  · have hq : neg2 = !neg := by cases neg <;> cases neg2 <;> simp_all
    subst hq
    repeat (first | refine SX.goZ ?_ | (refine SX.Go1.is ?_; refine SX.Go1.isCall ?_; first
          | refine SX.Go1.call rfl (nSub (by omega)) rfl rfl ?_))
    refine WP.cond rfl (fun hc2 => ?_) (fun hc2 => ?_)
    · have hle : n2 ≤ n := by simpa using hc2
      repeat (first | refine SX.goZ ?_ | (refine SX.Go1.is ?_; refine SX.Go1.isCall ?_; first
            | refine SX.Go1.call rfl (zFrom _ (by omega)) rfl rfl ?_))
      rw [← sgn_add_ge neg hle]
      exact RetOK.eq1 (ResOK.agg2 rfl rfl rfl) rfl
    · have hle : n ≤ n2 := by simp at hc2; omega
      repeat (first | refine SX.goZ ?_ | (refine SX.Go1.is ?_; refine SX.Go1.isCall ?_; first
            | refine SX.Go1.call rfl (nSub (by omega)) rfl rfl ?_
            | refine SX.Go1.call rfl (zFrom _ (by omega)) rfl rfl ?_))
      rw [← sgn_add_lt neg hle]
      exact RetOK.eq1 (ResOK.agg2 rfl rfl rfl) rfl
theorem zSub {l l' : List Atom} {x y : Int} {k m : Nat} [h : ZI l x k] [h' : ZI l' y m] (hk : k + m ≤ 1099511627774) : PureOK Tryz.prog 59 [.agg l, .agg l'] (.agg (zN (x - y))) := by
  refine z2 ⟨_, Tryz.func59, rfl, rfl⟩ fun neg n neg2 n2 hz hz2 hn hn2 => ?_
  subst hz hz2
  rw [Int.sub_eq_add_neg]
  refine PureOK.fn Tryz.func59 Tryz.results59 Tryz.ntmps59 rfl rfl rfl (by simp [AV.ids, AV0.ids, Atom.ids]) rfl (fun w0 T B E0 hB => ?_)
  repeat (first | refine SX.goZ ?_ | (refine SX.Go1.is ?_; refine SX.Go1.isCall ?_; first
        | refine SX.Go1.call rfl (zNeg (by omega)) rfl rfl ?_
        | refine SX.Go1.call rfl (zAdd (by omega)) rfl rfl ?_))
  exact RetOK.eq1 (ResOK.agg2 rfl rfl rfl) rfl
theorem sgn_mul (a b : Bool) (n m : Nat) : sgn (!(a == b)) (n * m) = sgn a n * sgn b m := by unfold sgn; cases a <;> cases b <;> simp [Int.neg_mul, Int.mul_neg]
theorem zMul {l l' : List Atom} {x y : Int} {k m : Nat} [h : ZI l x k] [h' : ZI l' y m] (hk : k + m ≤ 274877906944) : PureOK Tryz.prog 18 [.agg l, .agg l'] (.agg (zN (x * y))) := by
  refine z2 ⟨_, Tryz.func18, rfl, rfl⟩ fun neg n neg2 n2 hz hz2 hn hn2 => ?_
  subst hz hz2
  rw [← sgn_mul]
  refine PureOK.fn Tryz.func18 Tryz.results18 Tryz.ntmps18 rfl rfl rfl (by simp [AV.ids, AV0.ids, Atom.ids]) rfl (fun w0 T B E0 hB => ?_)
  repeat (first | refine SX.goZ ?_ | (refine SX.Go1.is ?_; refine SX.Go1.isCall ?_; first
        | refine SX.Go1.call rfl (mMul (by omega)) rfl rfl ?_
        | refine SX.Go1.call rfl (zFrom _ (by omega)) rfl rfl ?_))
  exact RetOK.eq1 (ResOK.agg2 rfl rfl rfl) rfl
def icmp (x y : Int) : Int := if x < y then -1 else if x = y then 0 else 1
theorem icmp_flip (n m : Nat) : icmp (sgn true n) (sgn true m) = cmpI m n := by
  unfold icmp sgn cmpI; simp; repeat' split <;> omega
theorem icmp_pos (n m : Nat) : icmp (sgn false n) (sgn false m) = cmpI n m := by
  unfold icmp sgn cmpI; simp; repeat' split <;> omega
theorem zCmp {l l' : List Atom} {x y : Int} {k m : Nat} [h : ZI l x k] [h' : ZI l' y m] (hk : k + m ≤ 1099511627774) : PureOK Tryz.prog 22 [.agg l, .agg l'] (.v (.int .i64 (icmp x y))) := by
  refine z2 ⟨_, Tryz.func22, rfl, rfl⟩ fun neg n neg2 n2 hz hz2 hn hn2 => ?_
  subst hz hz2
  refine PureOK.fn Tryz.func22 Tryz.results22 Tryz.ntmps22 rfl rfl rfl (by simp [AV.ids, AV0.ids, Atom.ids]) rfl (fun w0 T B E0 hB => ?_)
  repeat (first | refine SX.goZ ?_ | (refine SX.Go1.is ?_; refine SX.Go1.isCall ?_; first
        | refine SX.Go1.call rfl (zSign (by omega)) rfl rfl ?_))
  have hx : isign (sgn neg n) < 0 ↔ sgn neg n < 0 := by unfold isign; repeat' split <;> omega
  have hx0 : 0 < isign (sgn neg n) ↔ 0 < sgn neg n := by unfold isign; repeat' split <;> omega
  have hy : isign (sgn neg2 n2) < 0 ↔ sgn neg2 n2 < 0 := by unfold isign; repeat' split <;> omega
  have hy0 : 0 < isign (sgn neg2 n2) ↔ 0 < sgn neg2 n2 := by unfold isign; repeat' split <;> omega
  have hxr : -1 ≤ isign (sgn neg n) ∧ isign (sgn neg n) ≤ 1 := by unfold isign; repeat' split <;> omega
  have hyr : -1 ≤ isign (sgn neg2 n2) ∧ isign (sgn neg2 n2) ≤ 1 := by unfold isign; repeat' split <;> omega
  refine WP.cond rfl (fun hc => ?_) (fun hc => ?_)
  · repeat (first | refine SX.goZ ?_)
    refine RetOK.eq1 (ResOK.tmp rfl) ?_
    have : icmp (sgn neg n) (sgn neg2 n2) = -1 := by unfold icmp; rw [if_pos (by simp at hc; omega)]
    rw [this]
  · repeat (first | refine SX.goZ ?_)
    refine WP.cond rfl (fun hc2 => ?_) (fun hc2 => ?_)
    · repeat (first | refine SX.goZ ?_)
      refine RetOK.eq1 (ResOK.tmp rfl) ?_
      have : icmp (sgn neg n) (sgn neg2 n2) = 1 := by unfold icmp; rw [if_neg (by simp at hc2; omega), if_neg (by simp at hc2; omega)]
      rw [this]
    · repeat (first | refine SX.goZ ?_)
      refine WP.cond rfl (fun hc3 => ?_) (fun hc3 => ?_)
      · have e1 : sgn neg n = sgn true n := by simp at hc hc2 hc3; unfold sgn at *; cases neg <;> simp at * <;> omega
        have e2 : sgn neg2 n2 = sgn true n2 := by simp at hc hc2 hc3; unfold sgn at *; cases neg2 <;> simp at * <;> omega
        repeat (first | refine SX.goZ ?_ | (refine SX.Go1.is ?_; refine SX.Go1.isCall ?_; first
              | refine SX.Go1.call rfl (nCmp (by omega)) rfl rfl ?_))
        rw [e1, e2, icmp_flip]
        exact RetOK.eq1 (ResOK.tmp rfl) rfl
      · have e1 : sgn neg n = sgn false n := by simp at hc hc2 hc3; unfold sgn at *; cases neg <;> simp at * <;> omega
        have e2 : sgn neg2 n2 = sgn false n2 := by simp at hc hc2 hc3; unfold sgn at *; cases neg2 <;> simp at * <;> omega
        repeat (first | refine SX.goZ ?_ | (refine SX.Go1.is ?_; refine SX.Go1.isCall ?_; first
              | refine SX.Go1.call rfl (nCmp (by omega)) rfl rfl ?_))
        rw [e1, e2, icmp_pos]
        exact RetOK.eq1 (ResOK.tmp rfl) rfl
theorem icmp_zero (x y : Int) : decide (icmp x y = 0) = decide (x = y) := by
  unfold icmp; rw [decide_eq_decide]; repeat' split <;> omega
theorem zSame {l l' : List Atom} {x y : Int} {k m : Nat} [h : ZI l x k] [h' : ZI l' y m] (hk : k + m ≤ 1099511627774) : PureOK Tryz.prog 10 [.agg l, .agg l'] (.v (.bool (decide (x = y)))) := by
  refine z2 ⟨_, Tryz.func10, rfl, rfl⟩ fun neg n neg2 n2 hz hz2 hn hn2 => ?_
  subst hz hz2
  rw [← icmp_zero]
  refine PureOK.fn Tryz.func10 Tryz.results10 Tryz.ntmps10 rfl rfl rfl (by simp [AV.ids, AV0.ids, Atom.ids]) rfl (fun w0 T B E0 hB => ?_)
  repeat (first | refine SX.goZ ?_ | (refine SX.Go1.is ?_; refine SX.Go1.isCall ?_; first
        | refine SX.Go1.call rfl (zCmp (by omega)) rfl rfl ?_))
  exact RetOK.eq1 (ResOK.tmp rfl) rfl
def i64ok (z : Int) : Bool := decide (-9223372036854775808 ≤ z) && decide (z ≤ 9223372036854775807)
def i64of (z : Int) : Int := if i64ok z then z else 0
end Go.Proofs.YtmfadfkjnfdngaaGreatDoor

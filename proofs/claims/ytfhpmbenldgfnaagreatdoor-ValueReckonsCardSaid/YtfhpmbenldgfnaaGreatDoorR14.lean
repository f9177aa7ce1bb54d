import Derived.Test.YtfhpmbenldgfnaaGreatDoorR13
import Derived.Test.YtfhpmbenldgfnaaGreatDoorR12
import Derived.Test.YtfhpmbenldgfnaaGreatDoorR8
set_option linter.unusedVariables false
set_option linter.unusedSimpArgs false
namespace Go.Proofs.YtfhpmbenldgfnaaGreatDoor
open Go.RowKit QM SX LA
abbrev vlK (v : Vl) : List CA := [.val (.int .i64 v.k), .val (.bool v.q.1), .sat (rawN v.q.2.1), .val (.bool v.q.2.2.1), .sat (rawN v.q.2.2.2), .val (.int .i64 v.r), .val (.int .i64 v.c), .sat (rowR 4 q4C (v.a.map rq)), .sat (rowR 2 z2C (v.po.map rz)), .val (.int .u64 (v.p : Int)), .val (.int .i64 v.fr), .val (.int .i64 v.fc), .sat (rowR 1 wdC v.fa), .sat (rowR 1 wdC v.ri), .sat (rowR 15 vlC v.li)]
def fp64 (r c : Int) (n : Nat) : Bool := decide (0 ≤ r ∧ r ≤ 64 ∧ 0 ≤ c ∧ c ≤ 64 ∧ (n : Int) = r * c)
def mOk (r c : Int) (a : List RawQ) : Bool := a.all qOk && fp64 r c a.length
def lz (po : List RawZ) : Bool := decide (po.length = 0) || decide (rzv (po.getD (po.length - 1) (false, [])) ≠ 0)
def pOk (po : List RawZ) : Bool := po.all zOk && lz po
def ltp (p x : Nat) : Bool := decide (x < p)
def fOk (r c : Int) (fa : List Nat) (p : Nat) : Bool := fa.all (ltp p) && fp64 r c fa.length
def lw (ri : List Nat) : Bool := decide (ri.length = 0) || decide (ri.getD (ri.length - 1) 0 ≠ 0)
def rOk (p : Nat) (ri : List Nat) : Bool := ri.all (ltp p) && lw ri
def vK (rec : Vl → Bool) (pos : Bool) (v : Vl) : Bool := decide (vP v = 0) && (if v.k = 1 then qOk v.q else if v.k = 2 then mOk v.r v.c v.a else if v.k = 3 then pOk v.po else if v.k = 4 then decide (PrP v.p) && fOk v.fr v.fc v.fa v.p else if v.k = 5 then decide (PrP v.p) && rOk v.p v.ri else if v.k = 6 then pos && v.li.all rec else false)
def vF : Nat → Vl → Bool
  | 0, v => vK (fun _ => false) false v
  | d + 1, v => vK (vF d) true v
def vZ : Nat → Vl → Prop
  | 0, v => vZ0 v ∧ v.li = []
  | n + 1, v => vZ0 v ∧ ∀ x ∈ v.li, vZ n x
theorem vZ.z {n : Nat} {v : Vl} (h : vZ n v) : vZ0 v := by cases n <;> exact h.1
theorem vF_P {d : Nat} {v : Vl} (h : vP v ≠ 0) : vF d v = false := by
  cases d <;> (unfold vF vK; rw [decide_eq_false h]; rfl)
theorem vF_1 {d : Nat} {v : Vl} (h : vP v = 0) (hk : v.k = 1) : vF d v = qOk v.q := by
  cases d <;> (unfold vF vK; rw [decide_eq_true h, if_pos hk]; rfl)
theorem vF_2 {d : Nat} {v : Vl} (h : vP v = 0) (hk : v.k = 2) : vF d v = mOk v.r v.c v.a := by
  cases d <;> (unfold vF vK; rw [decide_eq_true h, if_neg (by omega), if_pos hk]; rfl)
theorem vF_3 {d : Nat} {v : Vl} (h : vP v = 0) (hk : v.k = 3) : vF d v = pOk v.po := by
  cases d <;> (unfold vF vK; rw [decide_eq_true h, if_neg (by omega), if_neg (by omega), if_pos hk]; rfl)
theorem vF_4 {d : Nat} {v : Vl} (h : vP v = 0) (hk : v.k = 4) : vF d v = (decide (PrP v.p) && fOk v.fr v.fc v.fa v.p) := by
  cases d <;> (unfold vF vK; rw [decide_eq_true h, if_neg (by omega), if_neg (by omega), if_neg (by omega), if_pos hk]; rfl)
theorem vF_5 {d : Nat} {v : Vl} (h : vP v = 0) (hk : v.k = 5) : vF d v = (decide (PrP v.p) && rOk v.p v.ri) := by
  cases d <;> (unfold vF vK; rw [decide_eq_true h, if_neg (by omega), if_neg (by omega), if_neg (by omega), if_neg (by omega), if_pos hk]; rfl)
theorem vF_60 {v : Vl} (hk : v.k = 6) : vF 0 v = false := by
  unfold vF vK; rw [if_neg (by omega), if_neg (by omega), if_neg (by omega), if_neg (by omega), if_neg (by omega), if_pos hk]; cases decide (vP v = 0) <;> rfl
theorem vF_6 {d : Nat} {v : Vl} (h : vP v = 0) (hk : v.k = 6) : vF (d + 1) v = v.li.all (vF d) := by
  unfold vF vK; rw [decide_eq_true h, if_neg (by omega), if_neg (by omega), if_neg (by omega), if_neg (by omega), if_neg (by omega), if_pos hk]; rfl
theorem vF_7 {d : Nat} {v : Vl} (hk : v.k ≠ 1 ∧ v.k ≠ 2 ∧ v.k ≠ 3 ∧ v.k ≠ 4 ∧ v.k ≠ 5 ∧ v.k ≠ 6) : vF d v = false := by
  cases d <;> (unfold vF vK; rw [if_neg (by omega), if_neg (by omega), if_neg (by omega), if_neg (by omega), if_neg (by omega), if_neg (by omega)]; cases decide (vP v = 0) <;> rfl)
theorem any_not {α : Type} (l : List α) (p : α → Bool) : (!l.any fun x => !p x) = l.all p := by
  induction l with
  | nil => rfl
  | cons a l ih => rw [List.any_cons, List.all_cons, ← ih]; cases p a <;> simp
theorem all_no {α : Type} {l : List α} {p : α → Bool} {k : Nat} {x : α} (hx : l[k]? = some x) (h : p x = false) : l.all p = false := by
  rw [Bool.eq_false_iff]; intro h2
  have := List.all_eq_true.1 h2 x (List.mem_of_getElem? hx)
  rw [h] at this; cases this
theorem all_yes {α : Type} {l : List α} {p : α → Bool} (h : ∀ (j : Nat) x, j < l.length → l[j]? = some x → p x = true) : l.all p = true := by
  rw [List.all_eq_true]; intro x hx
  obtain ⟨i, hi⟩ := List.mem_iff_getElem?.1 hx
  exact h i x (at_lt hi) hi
attribute [local irreducible] IntKind.wrap Go1 Reg WP thenK inBlk retQ retF RetF RetOK ResOK CallOK OpOK Sat
attribute [local irreducible] qsub qmul qquo qcmp qadd qv redS mf PrP qOk zOk vP fp64
theorem con_below1 (v : Vl) (x : Nat) : PureOK Tryz.prog 213 [.v (.int .u64 (x : Int)), .r (ptrR (vlK v))] (.v (.bool (!ltp v.p x))) := by
  refine PureOK.fnF Tryz.func213 Tryz.results213 Tryz.ntmps213 rfl rfl rfl (by simp [AV.ids, AV0.ids, Atom.ids]) rfl (fun w0 T B E0 hB => ?_)
  refine SX.goN ?_
  refine retB ?_
  unfold ltp
  rw [← decide_not, decide_eq_decide]; omega
theorem con_below (v : Vl) (l : List Nat) (hp : v.p < WB) (hl : l.length ≤ 100000) : PureOK Tryz.prog 155 [.agg (vlA v), .r (rowR 1 wdC l)] (.v (.bool (decide (PrP v.p) && l.all (ltp v.p)))) := by
  have cP := con_PrimeM v.p (by rw [WB_eq] at hp; exact hp)
  have cA := con_AnyW l (.sat (cloR 213 [] [.sat (ptrR (vlK v))])) (fun x => !ltp v.p x) (fun x _ => FnV.clo (con_below1 v x)) hl rfl
  rw [← any_not]
  refine PureOK.fnF Tryz.func155 Tryz.results155 Tryz.ntmps155 rfl rfl rfl (by simp [AV.ids, AV0.ids, Atom.ids]) rfl (fun w0 T B E0 hB => ?_)
  refine SX.goN ?_
  refine SX.WP.freezeB 2 hB rfl rfl ?_
  refine SX.WP.regionL ?_
  by_cases h : PrP v.p
  · rw [decide_eq_true h] at cP ⊢
    refine SX.goN ?_
    exact retB rfl
  · rw [decide_eq_false h] at cP ⊢
    refine SX.goN ?_
    exact retB rfl
theorem con_Formed21 (r c : Int) {n : Nat} {cells : List CA} : PureOK Tryz.prog 190 [.agg [.c (.val (.int .i64 r)), .c (.val (.int .i64 c)), .c (.sat (sliceR 1 n cells))]] (.v (.bool (fp64 r c n))) := by
  unfold fp64
  refine PureOK.fnF Tryz.func190 Tryz.results190 Tryz.ntmps190 rfl rfl rfl (by simp [AV.ids, AV0.ids, Atom.ids]) rfl (fun w0 T B E0 hB => ?_)
  by_cases h1 : r ≥ 0
  · by_cases h2 : r ≤ 64
    · by_cases h3 : c ≥ 0
      · by_cases h4 : c ≤ 64
        · have hp : 0 ≤ r * c := Int.mul_nonneg h1 h3
          have hp2 : r * c ≤ 64 * 64 := Int.mul_le_mul h2 h4 h3 (by decide)
          refine SX.goN ?_
          refine retB ?_
          rw [decide_eq_decide]
          exact ⟨fun h => ⟨h1, h2, h3, h4, h⟩, fun h => h.2.2.2.2⟩
        · refine SX.goN ?_
          refine retB ?_; exact (decide_eq_false fun h => h4 h.2.2.2.1).symm
      · refine SX.goN ?_
        refine retB ?_; exact (decide_eq_false fun h => h3 h.2.2.1).symm
    · refine SX.goN ?_
      refine retB ?_; exact (decide_eq_false fun h => h2 h.2.1).symm
  · refine SX.goN ?_
    refine retB ?_; exact (decide_eq_false fun h => h1 h.1).symm
theorem con_side (n : Int) : PureOK Tryz.prog 211 [.v (.int .i64 n)] (.v (.bool (decide (0 ≤ n ∧ n ≤ 64)))) := by
  refine PureOK.fnF Tryz.func211 Tryz.results211 Tryz.ntmps211 rfl rfl rfl (by simp [AV.ids, AV0.ids, Atom.ids]) rfl (fun w0 T B E0 hB => ?_)
  by_cases h : n ≥ 0
  · refine SX.goN ?_
    refine retB ?_; rw [decide_eq_decide]; omega
  · refine SX.goN ?_
    refine retB ?_; exact (decide_eq_false fun h' => h h'.1).symm
theorem con_fFormed (r c : Int) {n : Nat} {cells : List CA} : PureOK Tryz.prog 154 [.agg [.c (.val (.int .i64 r)), .c (.val (.int .i64 c)), .c (.sat (sliceR 1 n cells))]] (.v (.bool (fp64 r c n))) := by
  unfold fp64
  have s1 := con_side r
  have s2 := con_side c
  refine PureOK.fnF Tryz.func154 Tryz.results154 Tryz.ntmps154 rfl rfl rfl (by simp [AV.ids, AV0.ids, Atom.ids]) rfl (fun w0 T B E0 hB => ?_)
  by_cases h1 : 0 ≤ r ∧ r ≤ 64
  · rw [decide_eq_true h1] at s1
    by_cases h2 : 0 ≤ c ∧ c ≤ 64
    · rw [decide_eq_true h2] at s2
      have hp : 0 ≤ r * c := Int.mul_nonneg h1.1 h2.1
      have hp2 : r * c ≤ 64 * 64 := Int.mul_le_mul h1.2 h2.2 h2.1 (by decide)
      refine SX.goN ?_
      refine retB ?_
      rw [decide_eq_decide]
      exact ⟨fun h => ⟨h1.1, h1.2, h2.1, h2.2, h⟩, fun h => h.2.2.2.2⟩
    · rw [decide_eq_false h2] at s2
      refine SX.goN ?_
      refine retB ?_; exact (decide_eq_false fun h => h2 ⟨h.2.2.1, h.2.2.2.1⟩).symm
  · rw [decide_eq_false h1] at s1
    refine SX.goN ?_
    refine retB ?_; exact (decide_eq_false fun h => h1 ⟨h.1, h.2.1⟩).symm
theorem con_Normal13 (r c : Int) (a : List RawQ) (hl : a.length ≤ 100000) (ha : ∀ x ∈ a, (Sm WB x.2.1 ∧ Sm WB x.2.2.2) ∧ x.2.1.length ≤ 100000 ∧ x.2.2.2.length ≤ 100000) : PureOK Tryz.prog 114 [.agg (matZ r c (a.map rq))] (.v (.bool (mOk r c a))) := by
  have hlen : (a.map rq).length = a.length := List.length_map _
  have cF : PureOK Tryz.prog 37 [.agg (matZ r c (a.map rq))] (.v (.bool (fp64 r c (a.map rq).length))) := by
    unfold fp64; exact con_rFormed r c
  unfold mOk
  refine PureOK.fnF Tryz.func114 Tryz.results114 Tryz.ntmps114 rfl rfl rfl (by simp [AV.ids, AV0.ids, Atom.ids]) rfl (fun w0 T B E0 hB => ?_)
  refine SX.goN ?_
  refine W.loop (fun k => k ≤ a.length ∧ ∀ (j : Nat) x, j < k → a[j]? = some x → qOk x = true) (fun k => [(1, .ptr 1 0), (3, .v (.int .i64 (k : Int)))]) (fun k => [(1, .box 30 (matZ r c (a.map rq)))]) (fun k => a.length - k) 0 ⟨Nat.zero_le _, fun j x h => by omega⟩ (fun k ⟨hk, he⟩ => ?_)
  by_cases h : k < a.length
  · have h' : k < (a.map rq).length := by omega
    obtain ⟨x, hx⟩ : ∃ x, a[k]? = some x := ⟨_, List.getElem?_eq_getElem h⟩
    have hq : (a.map rq)[k]? = some (rq x) := by rw [List.getElem?_map, hx]; rfl
    have hax := ha x (List.mem_of_getElem? hx)
    have cN := con_Nrm x hax.1 (by omega)
    cases ho : qOk x with
    | true =>
      rw [ho] at cN
      refine SX.goN ?_
      refine W.next (k + 1) ⟨h, fun j y hj hy => ?_⟩ (by omega)
      by_cases hjk : j < k
      · exact he j y hjk hy
      · obtain rfl : j = k := by omega
        rw [hx] at hy; rw [← Option.some.inj hy]; exact ho
    | false =>
      rw [ho] at cN
      refine SX.goN ?_
      refine retB ?_; rw [all_no hx ho]; rfl
  · obtain rfl : k = a.length := by omega
    have h' : ¬ a.length < (a.map rq).length := by omega
    rw [all_yes he, ← hlen]
    refine SX.goN ?_
    exact retB (Bool.true_and _).symm
theorem con_Normal21 (r c : Int) (l : List Nat) (p : Nat) (hl : l.length ≤ 100000) : PureOK Tryz.prog 117 [.agg [.c (.val (.int .i64 r)), .c (.val (.int .i64 c)), .c (.sat (rowR 1 wdC l))], .v (.int .u64 (p : Int))] (.v (.bool (fOk r c l p))) := by
  have cF : PureOK Tryz.prog 190 [.agg [.c (.val (.int .i64 r)), .c (.val (.int .i64 c)), .c (.sat (rowR 1 wdC l))]] (.v (.bool (fp64 r c l.length))) := con_Formed21 r c
  unfold fOk
  refine PureOK.fnF Tryz.func117 Tryz.results117 Tryz.ntmps117 rfl rfl rfl (by simp [AV.ids, AV0.ids, Atom.ids]) rfl (fun w0 T B E0 hB => ?_)
  refine SX.goN ?_
  refine W.loop (fun k => k ≤ l.length ∧ ∀ (j : Nat) x, j < k → l[j]? = some x → ltp p x = true) (fun k => [(1, .v (.int .u64 (p : Int))), (2, .ptr 2 0), (5, .v (.int .i64 (k : Int)))]) (fun k => [(2, .box 35 [.c (.val (.int .i64 r)), .c (.val (.int .i64 c)), .c (.sat (rowR 1 wdC l))])]) (fun k => l.length - k) 0 ⟨Nat.zero_le _, fun j x h => by omega⟩ (fun k ⟨hk, he⟩ => ?_)
  by_cases h : k < l.length
  · obtain ⟨x, hx⟩ : ∃ x, l[k]? = some x := ⟨_, List.getElem?_eq_getElem h⟩
    by_cases ho : x < p
    · refine SX.goN ?_
      refine W.next (k + 1) ⟨h, fun j y hj hy => ?_⟩ (by omega)
      by_cases hjk : j < k
      · exact he j y hjk hy
      · obtain rfl : j = k := by omega
        rw [hx] at hy; rw [← Option.some.inj hy]; exact decide_eq_true ho
    · refine SX.goN ?_
      refine retB ?_; rw [all_no hx (decide_eq_false ho)]; rfl
  · obtain rfl : k = l.length := by omega
    rw [all_yes he]
    refine SX.goN ?_
    exact retB (Bool.true_and _).symm
theorem con_Normal10 (l : List RawZ) (hl : l.length ≤ 100000) (ha : ∀ x ∈ l, Sm WB x.2 ∧ x.2.length ≤ 100000) : PureOK Tryz.prog 115 [.r (rowR 2 z2C (l.map rz))] (.v (.bool (pOk l))) := by
  have hlen : (l.map rz).length = l.length := List.length_map _
  unfold pOk
  refine PureOK.fnF Tryz.func115 Tryz.results115 Tryz.ntmps115 rfl rfl rfl (by simp [AV.ids, AV0.ids, Atom.ids]) rfl (fun w0 T B E0 hB => ?_)
  refine SX.goN ?_
  refine W.loop (fun k => k ≤ l.length ∧ ∀ (j : Nat) x, j < k → l[j]? = some x → zOk x = true) (fun k => [(0, .r (rowR 2 z2C (l.map rz))), (3, .v (.int .i64 (k : Int)))]) (fun k => []) (fun k => l.length - k) 0 ⟨Nat.zero_le _, fun j x h => by omega⟩ (fun k ⟨hk, he⟩ => ?_)
  by_cases h : k < l.length
  · have h' : k < (l.map rz).length := by omega
    obtain ⟨x, hx⟩ : ∃ x, l[k]? = some x := ⟨_, List.getElem?_eq_getElem h⟩
    have hq : (l.map rz)[k]? = some (rz x) := by rw [List.getElem?_map, hx]; rfl
    have hax := ha x (List.mem_of_getElem? hx)
    have ho : zOk x = if x.2.length = 0 then !x.1 else decide (x.2.getD (x.2.length - 1) 0 ≠ 0) := by unfold zOk; rfl
    have nx : zOk x = true → ∀ (j : Nat) y, j < k + 1 → l[j]? = some y → zOk y = true := fun ht j y hj hy => by
      by_cases hjk : j < k
      · exact he j y hjk hy
      · obtain rfl : j = k := by omega
        rw [hx] at hy; rw [← Option.some.inj hy]; exact ht
    by_cases h0 : x.2.length = 0
    · rw [if_pos h0] at ho
      cases h1 : x.1
      · rw [h1] at ho
        refine SX.goN ?_
        exact W.next (k + 1) ⟨h, nx ho⟩ (by omega)
      · rw [h1] at ho
        refine SX.goN ?_
        refine retB ?_; rw [all_no hx ho]; rfl
    · rw [if_neg h0] at ho
      obtain ⟨w, hw⟩ : ∃ w, x.2[x.2.length - 1]? = some w := ⟨_, List.getElem?_eq_getElem (by omega)⟩
      have hg : x.2.getD (x.2.length - 1) 0 = w := by rw [List.getD_eq_getElem?_getD, hw]; rfl
      rw [hg] at ho
      by_cases h1 : w = 0
      · rw [decide_eq_false (fun e => e h1)] at ho
        refine SX.goN ?_
        refine retB ?_; rw [all_no hx ho]; rfl
      · rw [decide_eq_true h1] at ho
        refine SX.goN ?_
        exact W.next (k + 1) ⟨h, nx ho⟩ (by omega)
  · obtain rfl : k = l.length := by omega
    have h' : ¬ l.length < (l.map rz).length := by omega
    rw [all_yes he]
    unfold lz
    by_cases h0 : l.length = 0
    · refine SX.goN ?_
      refine retB ?_; rw [decide_eq_true h0]; rfl
    · obtain ⟨x, hx⟩ : ∃ x, l[l.length - 1]? = some x := ⟨_, List.getElem?_eq_getElem (by omega)⟩
      have hq : (l.map rz)[(l.map rz).length - 1]? = some (rz x) := by rw [hlen, List.getElem?_map, hx]; rfl
      have hg : l.getD (l.length - 1) (false, []) = x := by rw [List.getD_eq_getElem?_getD, hx]; rfl
      have hax := ha x (List.mem_of_getElem? hx)
      have cS := (con_zSign (h := ZI.raw x.1 x.2)).h (show x.2.length ≤ 1099511627775 by omega)
      have hs0 : isign (rzv x) = 0 ↔ rzv x = 0 := by unfold isign; (repeat' split) <;> omega
      change PureOK _ _ _ (.v (.int .i64 (isign (rzv x)))) at cS
      rw [hg]
      refine SX.goN ?_
      refine retB ?_; rw [decide_eq_false h0, Bool.true_and, Bool.false_or, decide_eq_decide, Ne, Ne, hs0]
end Go.Proofs.YtfhpmbenldgfnaaGreatDoor
set_option linter.unusedVariables false
set_option linter.unusedSimpArgs false
namespace Go.Proofs.YtfhpmbenldgfnaaGreatDoor
open Go.RowKit QM SX LA
attribute [local irreducible] IntKind.wrap Go1 Reg WP thenK inBlk retQ retF RetF RetOK ResOK CallOK OpOK Sat
attribute [local irreducible] qsub qmul qquo qcmp qadd qv redS mf PrP qOk zOk vP fp64 lz
theorem con_formed1 (q : RawQ) (hq : (Sm WB q.2.1 ∧ Sm WB q.2.2.2) ∧ q.2.1.length ≤ 100000 ∧ q.2.2.2.length ≤ 100000) : PureOK Tryz.prog 150 [.agg (q4A (rq q))] (.v (.bool (!qOk q))) := by
  have c := con_Frac q hq.1 (by omega)
  refine PureOK.fnF Tryz.func150 Tryz.results150 Tryz.ntmps150 rfl rfl rfl (by simp [AV.ids, AV0.ids, Atom.ids]) rfl (fun w0 T B E0 hB => ?_)
  refine SX.goN ?_
  exact retB rfl
theorem con_formed2 (z : RawZ) (hz : Sm WB z.2 ∧ z.2.length ≤ 100000) : PureOK Tryz.prog 152 [.agg (z2A (rz z))] (.v (.bool (!zOk z))) := by
  have c := con_vWhole z (by omega)
  refine PureOK.fnF Tryz.func152 Tryz.results152 Tryz.ntmps152 rfl rfl rfl (by simp [AV.ids, AV0.ids, Atom.ids]) rfl (fun w0 T B E0 hB => ?_)
  refine SX.goN ?_
  exact retB rfl
theorem con_formed3 (v : Vl) (d : Int) (b : Bool) (hd : 0 < d) (hd2 : d ≤ 100) (c : PureOK Tryz.prog 72 [.agg (vlA v), .v (.int .i64 (d - 1))] (.v (.bool b))) : PureOK Tryz.prog 157 [.agg (vlA v), .r (ptrR [.val (.int .i64 d)])] (.v (.bool (!b))) := by
  refine PureOK.fnF Tryz.func157 Tryz.results157 Tryz.ntmps157 rfl rfl rfl (by simp [AV.ids, AV0.ids, Atom.ids]) rfl (fun w0 T B E0 hB => ?_)
  refine SX.goN ?_
  exact retB rfl
theorem qmF (r c : Int) {n : Nat} {cells : List CA} : PureOK Tryz.prog 88 [.agg [.c (.val (.int .i64 r)), .c (.val (.int .i64 c)), .c (.sat (sliceR 4 n cells))]] (.v (.bool (fp64 r c n))) := by
  unfold fp64
  exact (con_Formed r c).h trivial
section
variable (v : Vl) (d : Nat) (hz : vZ0 v)
include hz
theorem blank_c : PureOK Tryz.prog 147 [.agg (vlA v), .r (sliceR 1 1 [.val (.int .i64 v.k)])] (.v (.bool (decide (vP v = 0)))) := con_blank v hz
theorem con_formedP (hP : vP v ≠ 0) : PureOK Tryz.prog 72 [.agg (vlA v), .v (.int .i64 (d : Int))] (.v (.bool (vF d v))) := by
  have c := blank_c v hz
  rw [decide_eq_false hP] at c
  rw [vF_P hP]
  refine PureOK.fnF Tryz.func72 Tryz.results72 Tryz.ntmps72 rfl rfl rfl (by simp [AV.ids, AV0.ids, Atom.ids]) rfl (fun w0 T B E0 hB => ?_)
  refine SX.goN ?_
  exact retB rfl
theorem con_formedk1 (hP : vP v = 0) (hk : v.k = 1) : PureOK Tryz.prog 72 [.agg (vlA v), .v (.int .i64 (d : Int))] (.v (.bool (vF d v))) := by
  have c := blank_c v hz
  rw [decide_eq_true hP] at c
  rw [vF_1 hP hk]
  have cF := con_Frac v.q hz.q.1 (by have := hz.q.2; omega)
  refine PureOK.fnF Tryz.func72 Tryz.results72 Tryz.ntmps72 rfl rfl rfl (by simp [AV.ids, AV0.ids, Atom.ids]) rfl (fun w0 T B E0 hB => ?_)
  refine SX.goN ?_
  exact retB rfl
theorem con_formedk2 (hP : vP v = 0) (hk : v.k = 2) : PureOK Tryz.prog 72 [.agg (vlA v), .v (.int .i64 (d : Int))] (.v (.bool (vF d v))) := by
  have c := blank_c v hz
  rw [decide_eq_true hP] at c
  rw [vF_2 hP hk]
  have cA := con_AnyfQ v.a 150 (fun x => !qOk x) (fun x hx => con_formed1 x (hz.a x hx)) hz.al
  have cF := qmF v.r v.c (n := (v.a.map rq).length) (cells := (v.a.map rq).flatMap q4C)
  have hl : (v.a.map rq).length = v.a.length := List.length_map _
  unfold mOk
  rw [← hl, ← any_not]
  cases h : fp64 v.r v.c (v.a.map rq).length
  · rw [h] at cF
    refine PureOK.fnF Tryz.func72 Tryz.results72 Tryz.ntmps72 rfl rfl rfl (by simp [AV.ids, AV0.ids, Atom.ids]) rfl (fun w0 T B E0 hB => ?_)
    refine SX.goN ?_
    refine retB ?_; rw [Bool.and_false]
  · rw [h] at cF
    refine PureOK.fnF Tryz.func72 Tryz.results72 Tryz.ntmps72 rfl rfl rfl (by simp [AV.ids, AV0.ids, Atom.ids]) rfl (fun w0 T B E0 hB => ?_)
    refine SX.goN ?_
    refine retB ?_; rw [Bool.and_true]
theorem con_formedk3 (hP : vP v = 0) (hk : v.k = 3) : PureOK Tryz.prog 72 [.agg (vlA v), .v (.int .i64 (d : Int))] (.v (.bool (vF d v))) := by
  have c := blank_c v hz
  rw [decide_eq_true hP] at c
  rw [vF_3 hP hk]
  have cA := con_AnyfZ v.po 152 (fun x => !zOk x) (fun x hx => con_formed2 x (hz.po x hx)) hz.pol
  have hl : (v.po.map rz).length = v.po.length := List.length_map _
  have hb := hz.pol
  unfold pOk lz
  rw [← any_not]
  by_cases h0 : v.po.length = 0
  · rw [decide_eq_true h0, Bool.true_or, Bool.and_true]
    refine PureOK.fnF Tryz.func72 Tryz.results72 Tryz.ntmps72 rfl rfl rfl (by simp [AV.ids, AV0.ids, Atom.ids]) rfl (fun w0 T B E0 hB => ?_)
    refine SX.goN ?_
    exact retB rfl
  · obtain ⟨x, hx⟩ : ∃ x, v.po[v.po.length - 1]? = some x := ⟨_, List.getElem?_eq_getElem (by omega)⟩
    have hq : (v.po.map rz)[(v.po.map rz).length - 1]? = some (rz x) := by rw [hl, List.getElem?_map, hx]; rfl
    have hg : v.po.getD (v.po.length - 1) (false, []) = x := by rw [List.getD_eq_getElem?_getD, hx]; rfl
    have hax := hz.po x (List.mem_of_getElem? hx)
    have cS := (con_zSign (h := ZI.raw x.1 x.2)).h (show x.2.length ≤ 1099511627775 by omega)
    have hs0 : isign (rzv x) = 0 ↔ rzv x = 0 := by unfold isign; (repeat' split) <;> omega
    change PureOK _ _ _ (.v (.int .i64 (isign (rzv x)))) at cS
    rw [hg, decide_eq_false h0, Bool.false_or]
    by_cases h1 : rzv x = 0
    · have h2 : isign (rzv x) = 0 := hs0.2 h1
      rw [decide_eq_false (fun e => e h1), Bool.and_false]
      refine PureOK.fnF Tryz.func72 Tryz.results72 Tryz.ntmps72 rfl rfl rfl (by simp [AV.ids, AV0.ids, Atom.ids]) rfl (fun w0 T B E0 hB => ?_)
      refine SX.goN ?_
      exact retB rfl
    · have h2 : ¬ isign (rzv x) = 0 := fun e => h1 (hs0.1 e)
      rw [decide_eq_true h1, Bool.and_true]
      refine PureOK.fnF Tryz.func72 Tryz.results72 Tryz.ntmps72 rfl rfl rfl (by simp [AV.ids, AV0.ids, Atom.ids]) rfl (fun w0 T B E0 hB => ?_)
      refine SX.goN ?_
      exact retB rfl
theorem con_formedk4 (hP : vP v = 0) (hk : v.k = 4) : PureOK Tryz.prog 72 [.agg (vlA v), .v (.int .i64 (d : Int))] (.v (.bool (vF d v))) := by
  have c := blank_c v hz
  rw [decide_eq_true hP] at c
  rw [vF_4 hP hk]
  have cB := con_below v v.fa hz.p hz.fal
  have cF : PureOK Tryz.prog 154 [.agg [.c (.val (.int .i64 v.fr)), .c (.val (.int .i64 v.fc)), .c (.sat (rowR 1 wdC v.fa))]] (.v (.bool (fp64 v.fr v.fc v.fa.length))) := con_fFormed v.fr v.fc
  unfold fOk
  cases h : fp64 v.fr v.fc v.fa.length
  · rw [h] at cF
    refine PureOK.fnF Tryz.func72 Tryz.results72 Tryz.ntmps72 rfl rfl rfl (by simp [AV.ids, AV0.ids, Atom.ids]) rfl (fun w0 T B E0 hB => ?_)
    refine SX.goN ?_
    refine retB ?_; rw [Bool.and_false, Bool.and_false]
  · rw [h] at cF
    refine PureOK.fnF Tryz.func72 Tryz.results72 Tryz.ntmps72 rfl rfl rfl (by simp [AV.ids, AV0.ids, Atom.ids]) rfl (fun w0 T B E0 hB => ?_)
    refine SX.goN ?_
    refine retB ?_; rw [Bool.and_true]
theorem con_formedk5 (hP : vP v = 0) (hk : v.k = 5) : PureOK Tryz.prog 72 [.agg (vlA v), .v (.int .i64 (d : Int))] (.v (.bool (vF d v))) := by
  have c := blank_c v hz
  rw [decide_eq_true hP] at c
  rw [vF_5 hP hk]
  have cB := con_below v v.ri hz.p hz.ril
  have hb := hz.ril
  unfold rOk lw
  rw [← Bool.and_assoc]
  generalize (decide (PrP v.p) && v.ri.all (ltp v.p)) = b at cB ⊢
  cases b
  · refine PureOK.fnF Tryz.func72 Tryz.results72 Tryz.ntmps72 rfl rfl rfl (by simp [AV.ids, AV0.ids, Atom.ids]) rfl (fun w0 T B E0 hB => ?_)
    refine SX.goN ?_
    exact retB rfl
  · by_cases h0 : v.ri.length = 0
    · rw [decide_eq_true h0]
      refine PureOK.fnF Tryz.func72 Tryz.results72 Tryz.ntmps72 rfl rfl rfl (by simp [AV.ids, AV0.ids, Atom.ids]) rfl (fun w0 T B E0 hB => ?_)
      refine SX.goN ?_
      exact retB rfl
    · obtain ⟨x, hx⟩ : ∃ x, v.ri[v.ri.length - 1]? = some x := ⟨_, List.getElem?_eq_getElem (by omega)⟩
      have hg : v.ri.getD (v.ri.length - 1) 0 = x := by rw [List.getD_eq_getElem?_getD, hx]; rfl
      rw [hg, decide_eq_false h0, Bool.false_or, Bool.true_and]
      refine PureOK.fnF Tryz.func72 Tryz.results72 Tryz.ntmps72 rfl rfl rfl (by simp [AV.ids, AV0.ids, Atom.ids]) rfl (fun w0 T B E0 hB => ?_)
      refine SX.goN ?_
      refine retB ?_; rw [decide_eq_decide]; omega
theorem con_formedk6 (hP : vP v = 0) (hk : v.k = 6) (hd : d ≤ 20) (hr : ∀ e, d = e + 1 → ∀ x ∈ v.li, PureOK Tryz.prog 72 [.agg (vlA x), .v (.int .i64 (e : Int))] (.v (.bool (vF e x)))) : PureOK Tryz.prog 72 [.agg (vlA v), .v (.int .i64 (d : Int))] (.v (.bool (vF d v))) := by
  have c := blank_c v hz
  rw [decide_eq_true hP] at c
  cases d with
  | zero =>
    rw [vF_60 hk]
    refine PureOK.fnF Tryz.func72 Tryz.results72 Tryz.ntmps72 rfl rfl rfl (by simp [AV.ids, AV0.ids, Atom.ids]) rfl (fun w0 T B E0 hB => ?_)
    refine SX.goN ?_
    refine SX.WP.freezeB 3 hB rfl rfl ?_
    refine SX.WP.regionL ?_
    refine SX.goN ?_
    exact retB rfl
  | succ e =>
    rw [vF_6 hP hk, ← any_not]
    have cA := con_AnyV v.li (.sat (cloR 157 [] [.sat (ptrR [.val (.int .i64 ((e + 1 : Nat) : Int))])])) (fun x => !vF e x) (fun x hx => FnV.clo (con_formed3 x ((e + 1 : Nat) : Int) (vF e x) (by omega) (by omega) (by
      rw [show ((e + 1 : Nat) : Int) - 1 = (e : Int) by omega]; exact hr e rfl x hx))) hz.lil rfl
    refine PureOK.fnF Tryz.func72 Tryz.results72 Tryz.ntmps72 rfl rfl rfl (by simp [AV.ids, AV0.ids, Atom.ids]) rfl (fun w0 T B E0 hB => ?_)
    refine SX.goN ?_
    refine SX.WP.freezeB 3 hB rfl rfl ?_
    refine SX.WP.regionL ?_
    refine SX.goN ?_
    exact retB rfl
theorem con_formedk7 (hP : vP v = 0) (hk : v.k ≠ 1 ∧ v.k ≠ 2 ∧ v.k ≠ 3 ∧ v.k ≠ 4 ∧ v.k ≠ 5 ∧ v.k ≠ 6) : PureOK Tryz.prog 72 [.agg (vlA v), .v (.int .i64 (d : Int))] (.v (.bool (vF d v))) := by
  have c := blank_c v hz
  rw [decide_eq_true hP] at c
  rw [vF_7 hk]
  refine PureOK.fnF Tryz.func72 Tryz.results72 Tryz.ntmps72 rfl rfl rfl (by simp [AV.ids, AV0.ids, Atom.ids]) rfl (fun w0 T B E0 hB => ?_)
  refine SX.goN ?_
  exact retB rfl
end
theorem con_formed : ∀ (n d : Nat) (v : Vl), vZ n v → d ≤ 20 → PureOK Tryz.prog 72 [.agg (vlA v), .v (.int .i64 (d : Int))] (.v (.bool (vF d v))) := by
  intro n
  induction n with
  | zero =>
    intro d v hv hd
    by_cases hP : vP v = 0
    · have hk : v.k = 1 ∨ v.k = 2 ∨ v.k = 3 ∨ v.k = 4 ∨ v.k = 5 ∨ v.k = 6 ∨ (v.k ≠ 1 ∧ v.k ≠ 2 ∧ v.k ≠ 3 ∧ v.k ≠ 4 ∧ v.k ≠ 5 ∧ v.k ≠ 6) := by omega
      rcases hk with hk | hk | hk | hk | hk | hk | hk
      · exact con_formedk1 v d hv.z hP hk
      · exact con_formedk2 v d hv.z hP hk
      · exact con_formedk3 v d hv.z hP hk
      · exact con_formedk4 v d hv.z hP hk
      · exact con_formedk5 v d hv.z hP hk
      · exact con_formedk6 v d hv.z hP hk hd fun e _ x hx => by rw [hv.2] at hx; cases hx
      · exact con_formedk7 v d hv.z hP hk
    · exact con_formedP v d hv.z hP
  | succ n ih =>
    intro d v hv hd
    by_cases hP : vP v = 0
    · have hk : v.k = 1 ∨ v.k = 2 ∨ v.k = 3 ∨ v.k = 4 ∨ v.k = 5 ∨ v.k = 6 ∨ (v.k ≠ 1 ∧ v.k ≠ 2 ∧ v.k ≠ 3 ∧ v.k ≠ 4 ∧ v.k ≠ 5 ∧ v.k ≠ 6) := by omega
      rcases hk with hk | hk | hk | hk | hk | hk | hk
      · exact con_formedk1 v d hv.z hP hk
      · exact con_formedk2 v d hv.z hP hk
      · exact con_formedk3 v d hv.z hP hk
      · exact con_formedk4 v d hv.z hP hk
      · exact con_formedk5 v d hv.z hP hk
      · exact con_formedk6 v d hv.z hP hk hd fun e he x hx => ih e x (hv.2 x hx) (by omega)
      · exact con_formedk7 v d hv.z hP hk
    · exact con_formedP v d hv.z hP
theorem con_vFormed {n : Nat} {v : Vl} (hv : vZ n v) : PureOK Tryz.prog 28 [.agg (vlA v)] (.v (.bool (vF 20 v))) := by
  have c := con_formed n 20 v hv (Nat.le_refl _)
  refine PureOK.fnF Tryz.func28 Tryz.results28 Tryz.ntmps28 rfl rfl rfl (by simp [AV.ids, AV0.ids, Atom.ids]) rfl (fun w0 T B E0 hB => ?_)
  refine SX.goN ?_
  exact retB rfl
end Go.Proofs.YtfhpmbenldgfnaaGreatDoor
set_option linter.unusedVariables false
set_option linter.unusedSimpArgs false
namespace Go.Proofs.YtfhpmbenldgfnaaGreatDoor
open Go.RowKit QM SX LA
abbrev vlB (v : Vl) : List Atom := [.c (.val (.int .i64 v.k)), .c (.val (.bool v.q.1)), .c (.sat (rawN v.q.2.1)), .c (.val (.bool v.q.2.2.1)), .c (.sat (rawN v.q.2.2.2)), .c (.val (.int .i64 v.r)), .c (.val (.int .i64 v.c)), .c (.sat (rowR 4 q4C (v.a.map rq))), .c (.sat (rowR 2 z2C (v.po.map rz))), .c (.val (.int .u64 (v.p : Int))), .c (.val (.int .i64 v.fr)), .c (.val (.int .i64 v.fc)), .c (.sat (rowR 1 wdC v.fa)), .c (.sat (rowR 1 wdC v.ri)), .c (.sat (rowR 15 vlE v.li))]
theorem vlA_B (v : Vl) : vlA v = vlB v := by unfold vlA vlB; rw [row_vlE]
attribute [local irreducible] IntKind.wrap Go1 Reg WP thenK inBlk retQ retF RetF RetOK ResOK CallOK OpOK Sat
attribute [local irreducible] qsub qmul qquo qcmp qadd qv redS mf PrP qOk zOk vP fp64 lz
section
variable (v : Vl) (d : Nat) (hz : vZ0 v)
include hz
omit hz in
theorem con_rFP (hP : vP v ≠ 0) : PureOK Tryz.prog 49 [.agg (vlA v), .v (.int .i64 (d : Int))] (.v (.bool (vF d v))) := by
  have c := con_Parts v
  rw [vF_P hP]
  refine PureOK.fnF Tryz.func49 Tryz.results49 Tryz.ntmps49 rfl rfl rfl (by simp [AV.ids, AV0.ids, Atom.ids]) rfl (fun w0 T B E0 hB => ?_)
  refine SX.goN ?_
  exact retB rfl
theorem con_rFk1 (hP : vP v = 0) (hk : v.k = 1) : PureOK Tryz.prog 49 [.agg (vlA v), .v (.int .i64 (d : Int))] (.v (.bool (vF d v))) := by
  have c := con_Parts v
  rw [hP] at c
  rw [vF_1 hP hk]
  have cF := con_Nrm v.q hz.q.1 (by have := hz.q.2; omega)
  refine PureOK.fnF Tryz.func49 Tryz.results49 Tryz.ntmps49 rfl rfl rfl (by simp [AV.ids, AV0.ids, Atom.ids]) rfl (fun w0 T B E0 hB => ?_)
  refine SX.goN ?_
  exact retB rfl
theorem con_rFk2 (hP : vP v = 0) (hk : v.k = 2) : PureOK Tryz.prog 49 [.agg (vlA v), .v (.int .i64 (d : Int))] (.v (.bool (vF d v))) := by
  have c := con_Parts v
  rw [hP] at c
  rw [vF_2 hP hk]
  have cF := con_Normal13 v.r v.c v.a hz.al hz.a
  refine PureOK.fnF Tryz.func49 Tryz.results49 Tryz.ntmps49 rfl rfl rfl (by simp [AV.ids, AV0.ids, Atom.ids]) rfl (fun w0 T B E0 hB => ?_)
  refine SX.goN ?_
  exact retB rfl
theorem con_rFk3 (hP : vP v = 0) (hk : v.k = 3) : PureOK Tryz.prog 49 [.agg (vlA v), .v (.int .i64 (d : Int))] (.v (.bool (vF d v))) := by
  have c := con_Parts v
  rw [hP] at c
  rw [vF_3 hP hk]
  have cF := con_Normal10 v.po hz.pol hz.po
  refine PureOK.fnF Tryz.func49 Tryz.results49 Tryz.ntmps49 rfl rfl rfl (by simp [AV.ids, AV0.ids, Atom.ids]) rfl (fun w0 T B E0 hB => ?_)
  refine SX.goN ?_
  exact retB rfl
theorem con_rFk4 (hP : vP v = 0) (hk : v.k = 4) : PureOK Tryz.prog 49 [.agg (vlA v), .v (.int .i64 (d : Int))] (.v (.bool (vF d v))) := by
  have c := con_Parts v
  rw [hP] at c
  rw [vF_4 hP hk]
  have cF := con_Normal21 v.fr v.fc v.fa v.p hz.fal
  have cP := con_PrimeR v.p (by have := hz.p; rw [WB_eq] at this; exact this)
  by_cases h : PrP v.p
  · rw [decide_eq_true h] at cP ⊢
    refine PureOK.fnF Tryz.func49 Tryz.results49 Tryz.ntmps49 rfl rfl rfl (by simp [AV.ids, AV0.ids, Atom.ids]) rfl (fun w0 T B E0 hB => ?_)
    refine SX.goN ?_
    exact retB rfl
  · rw [decide_eq_false h] at cP ⊢
    refine PureOK.fnF Tryz.func49 Tryz.results49 Tryz.ntmps49 rfl rfl rfl (by simp [AV.ids, AV0.ids, Atom.ids]) rfl (fun w0 T B E0 hB => ?_)
    refine SX.goN ?_
    exact retB rfl
theorem con_rFk5 (hP : vP v = 0) (hk : v.k = 5) : PureOK Tryz.prog 49 [.agg (vlA v), .v (.int .i64 (d : Int))] (.v (.bool (vF d v))) := by
  have c := con_Parts v
  rw [hP] at c
  rw [vF_5 hP hk]
  have cP := con_PrimeR v.p (by have := hz.p; rw [WB_eq] at this; exact this)
  have hb := hz.ril
  unfold rOk
  refine PureOK.fnF Tryz.func49 Tryz.results49 Tryz.ntmps49 rfl rfl rfl (by simp [AV.ids, AV0.ids, Atom.ids]) rfl (fun w0 T B E0 hB => ?_)
  refine SX.goN ?_
  refine W.loop (fun k => k ≤ v.ri.length ∧ ∀ (j : Nat) x, j < k → v.ri[j]? = some x → ltp v.p x = true) (fun k => [(2, .ptr 2 0), (5, .v (.int .i64 (k : Int)))]) (fun k => [(2, .box 39 (vlA v))]) (fun k => v.ri.length - k) 0 ⟨Nat.zero_le _, fun j x h => by omega⟩ (fun k ⟨hk, he⟩ => ?_)
  by_cases h : k < v.ri.length
  · obtain ⟨x, hx⟩ : ∃ x, v.ri[k]? = some x := ⟨_, List.getElem?_eq_getElem h⟩
    by_cases ho : x < v.p
    · refine SX.goN ?_
      refine W.next (k + 1) ⟨h, fun j y hj hy => ?_⟩ (by omega)
      by_cases hjk : j < k
      · exact he j y hjk hy
      · obtain rfl : j = k := by omega
        rw [hx] at hy; rw [← Option.some.inj hy]; exact decide_eq_true ho
    · refine SX.goN ?_
      refine retB ?_; rw [all_no hx (decide_eq_false ho), Bool.false_and, Bool.and_false]
  · obtain rfl : k = v.ri.length := by omega
    rw [all_yes he, Bool.true_and]
    by_cases hp : PrP v.p
    · rw [decide_eq_true hp] at cP ⊢
      unfold lw
      by_cases h0 : v.ri.length = 0
      · rw [decide_eq_true h0]
        refine SX.goN ?_
        exact retB rfl
      · obtain ⟨x, hx⟩ : ∃ x, v.ri[v.ri.length - 1]? = some x := ⟨_, List.getElem?_eq_getElem (by omega)⟩
        have hg : v.ri.getD (v.ri.length - 1) 0 = x := by rw [List.getD_eq_getElem?_getD, hx]; rfl
        rw [hg, decide_eq_false h0, Bool.false_or, Bool.true_and]
        refine SX.goN ?_
        refine retB ?_; rw [decide_eq_decide]; omega
    · rw [decide_eq_false hp] at cP ⊢
      refine SX.goN ?_
      exact retB rfl
theorem con_rFk6 (hP : vP v = 0) (hk : v.k = 6) (hd : d ≤ 20) (hr : ∀ e, d = e + 1 → ∀ x ∈ v.li, PureOK Tryz.prog 49 [.agg (vlA x), .v (.int .i64 (e : Int))] (.v (.bool (vF e x)))) : PureOK Tryz.prog 49 [.agg (vlA v), .v (.int .i64 (d : Int))] (.v (.bool (vF d v))) := by
  have c := con_Parts v
  rw [hP] at c
  have hb := hz.lil
  rw [vlA_B] at c ⊢
  cases d with
  | zero =>
    rw [vF_60 hk]
    refine PureOK.fnF Tryz.func49 Tryz.results49 Tryz.ntmps49 rfl rfl rfl (by simp [AV.ids, AV0.ids, Atom.ids]) rfl (fun w0 T B E0 hB => ?_)
    refine SX.goN ?_
    refine W.loop (fun k : Nat => k = 0) (fun k => [(1, .v (.int .i64 0)), (2, .ptr 2 0), (6, .v (.int .i64 (k : Int)))]) (fun k => [(2, .box 39 (vlB v))]) (fun k => k) 0 rfl (fun k hk => ?_)
    subst hk
    by_cases h : 0 < v.li.length
    · refine SX.goN ?_
      exact retB rfl
    · refine SX.goN ?_
      exact retB rfl
  | succ e =>
    rw [vF_6 hP hk]
    refine PureOK.fnF Tryz.func49 Tryz.results49 Tryz.ntmps49 rfl rfl rfl (by simp [AV.ids, AV0.ids, Atom.ids]) rfl (fun w0 T B E0 hB => ?_)
    refine SX.goN ?_
    refine W.loop (fun k => k ≤ v.li.length ∧ ∀ (j : Nat) x, j < k → v.li[j]? = some x → vF e x = true) (fun k => [(1, .v (.int .i64 ((e + 1 : Nat) : Int))), (2, .ptr 2 0), (6, .v (.int .i64 (k : Int)))]) (fun k => [(2, .box 39 (vlB v))]) (fun k => v.li.length - k) 0 ⟨Nat.zero_le _, fun j x h => by omega⟩ (fun k ⟨hk, he⟩ => ?_)
    by_cases h : k < v.li.length
    · obtain ⟨x, hx⟩ : ∃ x, v.li[k]? = some x := ⟨_, List.getElem?_eq_getElem h⟩
      have cE := hr e rfl x (List.mem_of_getElem? hx)
      rw [show (e : Int) = ((e + 1 - 1 : Nat) : Int) by omega] at cE
      cases ho : vF e x with
      | true =>
        rw [ho] at cE
        refine SX.goN ?_
        refine W.next (k + 1) ⟨h, fun j y hj hy => ?_⟩ (by omega)
        by_cases hjk : j < k
        · exact he j y hjk hy
        · obtain rfl : j = k := by omega
          rw [hx] at hy; rw [← Option.some.inj hy]; exact ho
      | false =>
        rw [ho] at cE
        refine SX.goN ?_
        refine retB ?_; rw [all_no hx ho]
    · obtain rfl : k = v.li.length := by omega
      rw [all_yes he]
      refine SX.goN ?_
      refine retB ?_; exact decide_eq_true (by omega)
omit hz in
theorem con_rFk7 (hP : vP v = 0) (hk : v.k ≠ 1 ∧ v.k ≠ 2 ∧ v.k ≠ 3 ∧ v.k ≠ 4 ∧ v.k ≠ 5 ∧ v.k ≠ 6) : PureOK Tryz.prog 49 [.agg (vlA v), .v (.int .i64 (d : Int))] (.v (.bool (vF d v))) := by
  have c := con_Parts v
  rw [hP] at c
  rw [vF_7 hk]
  refine PureOK.fnF Tryz.func49 Tryz.results49 Tryz.ntmps49 rfl rfl rfl (by simp [AV.ids, AV0.ids, Atom.ids]) rfl (fun w0 T B E0 hB => ?_)
  refine SX.goN ?_
  exact retB rfl
end
theorem con_rFormed29 : ∀ (n d : Nat) (v : Vl), vZ n v → d ≤ 20 → PureOK Tryz.prog 49 [.agg (vlA v), .v (.int .i64 (d : Int))] (.v (.bool (vF d v))) := by
  intro n
  induction n with
  | zero =>
    intro d v hv hd
    by_cases hP : vP v = 0
    · have hk : v.k = 1 ∨ v.k = 2 ∨ v.k = 3 ∨ v.k = 4 ∨ v.k = 5 ∨ v.k = 6 ∨ (v.k ≠ 1 ∧ v.k ≠ 2 ∧ v.k ≠ 3 ∧ v.k ≠ 4 ∧ v.k ≠ 5 ∧ v.k ≠ 6) := by omega
      rcases hk with hk | hk | hk | hk | hk | hk | hk
      · exact con_rFk1 v d hv.z hP hk
      · exact con_rFk2 v d hv.z hP hk
      · exact con_rFk3 v d hv.z hP hk
      · exact con_rFk4 v d hv.z hP hk
      · exact con_rFk5 v d hv.z hP hk
      · exact con_rFk6 v d hv.z hP hk hd fun e _ x hx => by rw [hv.2] at hx; cases hx
      · exact con_rFk7 v d hP hk
    · exact con_rFP v d hP
  | succ n ih =>
    intro d v hv hd
    by_cases hP : vP v = 0
    · have hk : v.k = 1 ∨ v.k = 2 ∨ v.k = 3 ∨ v.k = 4 ∨ v.k = 5 ∨ v.k = 6 ∨ (v.k ≠ 1 ∧ v.k ≠ 2 ∧ v.k ≠ 3 ∧ v.k ≠ 4 ∧ v.k ≠ 5 ∧ v.k ≠ 6) := by omega
      rcases hk with hk | hk | hk | hk | hk | hk | hk
      · exact con_rFk1 v d hv.z hP hk
      · exact con_rFk2 v d hv.z hP hk
      · exact con_rFk3 v d hv.z hP hk
      · exact con_rFk4 v d hv.z hP hk
      · exact con_rFk5 v d hv.z hP hk
      · exact con_rFk6 v d hv.z hP hk hd fun e he x hx => ih e x (hv.2 x hx) (by omega)
      · exact con_rFk7 v d hP hk
    · exact con_rFP v d hP
theorem con_is {n : Nat} {v : Vl} (hv : vZ n v) : PureOK Tryz.prog 14 [.agg (vlA v)] (.v (.bool (vF 20 v))) := by
  have c := con_rFormed29 n 20 v hv (Nat.le_refl _)
  refine PureOK.fnF Tryz.func14 Tryz.results14 Tryz.ntmps14 rfl rfl rfl (by simp [AV.ids, AV0.ids, Atom.ids]) rfl (fun w0 T B E0 hB => ?_)
  refine SX.goN ?_
  exact retB rfl
theorem con_none0 : PureOK Tryz.prog 15 [.agg (vlA v0)] (.v (.bool true)) := by
  have c := con_Parts v0
  rw [show vP v0 = 0 by decide +kernel] at c
  refine PureOK.fnF Tryz.func15 Tryz.results15 Tryz.ntmps15 rfl rfl rfl (by simp [AV.ids, AV0.ids, Atom.ids]) rfl (fun w0 T B E0 hB => ?_)
  refine SX.goN ?_
  exact retB rfl
end Go.Proofs.YtfhpmbenldgfnaaGreatDoor
set_option linter.unusedVariables false
set_option linter.unusedSimpArgs false
namespace Go.Proofs.YtfhpmbenldgfnaaGreatDoor
open Go.RowKit QM SX LA
theorem vZ0.num {v : Rat} {K : Nat} (h : RB v K) (hK : K ≤ 100000) : vZ0 (vNum v) where
  q := ⟨cq_sm v, Nat.le_trans (wds_len h.n) hK, Nat.le_trans (wds_len (by rw [Int.natAbs_natCast]; exact h.d)) hK⟩
  a := by intro x hx; cases hx
  al := Nat.zero_le _
  po := by intro x hx; cases hx
  pol := Nat.zero_le _
  p := WB_pos
  fa := by intro x hx; cases hx
  fal := Nat.zero_le _
  ri := by intro x hx; cases hx
  ril := Nat.zero_le _
  lil := Nat.zero_le _
theorem vZ.num {v : Rat} {K : Nat} (h : RB v K) (hK : K ≤ 100000) : vZ 0 (vNum v) := ⟨vZ0.num h hK, rfl⟩
theorem vP_num (v : Rat) : vP (vNum v) = 0 := (vP0 _).2 ⟨.inl rfl, .inr ⟨rfl, rfl, rfl⟩, .inr rfl, .inr ⟨rfl, rfl, rfl⟩, .inr rfl, .inr (.inr rfl), .inr rfl⟩
theorem vF_num (d : Nat) (v : Rat) : vF d (vNum v) = true := by
  rw [vF_1 (vP_num v) rfl]
  exact (qOk_iff (cq_sm v)).2 (by rw [cq_val])
theorem rmk_q (p q : Int) : rmk p q = ((qv p q).num, ((qv p q).den : Int)) := by
  have h2 : Nat.Coprime (qv p q).num.natAbs (qv p q).den := (qv p q).reduced
  have hd := (qv p q).den_nz
  have := Rd.uniq (rmk_pos p q) (rmk_gcd p q) (r := (qv p q).num) (s := ((qv p q).den : Int)) (by omega) (by unfold Int.gcd; rw [Int.natAbs_natCast]; exact h2) (by rw [rmk_val, qv_self])
  exact Prod.ext this.1 this.2
theorem cq_val' (x : Rat) : qv (sgn (cq x).1 (nval WB (cq x).2.1)) (sgn (cq x).2.2.1 (nval WB (cq x).2.2.2)) = x := cq_val x
def qS (v : Rat) : List UInt8 := rS (v.num, (v.den : Int))
def qB (v : Rat) : Nat := max (bitLen v.num.natAbs) (bitLen v.den)
attribute [local irreducible] IntKind.wrap Go1 Reg WP thenK inBlk retQ retF RetF RetOK ResOK CallOK OpOK Sat
attribute [local irreducible] qsub qmul qquo qcmp qadd qv redS mf PrP qOk zOk vP fp64 lz vF cq rqv
theorem con_numT (v : Rat) (e : Int) : PureOK Tryz.prog 107 [.agg (qA v), .v (.bool true), .v (.int .i64 e)] (.tup [.agg (vlA (vNum v)), eNo 0]) := by
  refine PureOK.fnF Tryz.func107 Tryz.results107 Tryz.ntmps107 rfl rfl rfl (by simp [AV.ids, AV0.ids, Atom.ids]) rfl (fun w0 T B E0 hB => ?_)
  refine SX.goN ?_
  refine .ok (RetOK.mk2 ((ResOK.agg15 rfl rfl rfl).imp ?_) (ResOK.tmp rfl))
  exact imp_num
theorem con_sum1 {x y : Rat} {K L : Nat} (hx : RB x K) (hy : RB y L) (hK : K + L ≤ 1000000) : PureOK Tryz.prog 47 [.agg (vlA (vNum x)), .agg (vlA (vNum y))] (.tup [.agg (vlA (vNum (x + y))), eNo 0]) := by
  haveI := Ra.cq hx
  haveI := Ra.cq hy
  obtain ⟨X, cA, hX⟩ := eAdd (q4A (rq (cq x))) (q4A (rq (cq y))) (K := K) (K' := L) (by omega)
  have e := hX.nf
  subst e
  have cN := con_numT (x + y) 0
  refine PureOK.fnF Tryz.func47 Tryz.results47 Tryz.ntmps47 rfl rfl rfl (by simp [AV.ids, AV0.ids, Atom.ids]) rfl (fun w0 T B E0 hB => ?_)
  refine SX.goN ?_
  exact .ok (RetOK.mk2 (ResOK.agg15 rfl rfl rfl) (ResOK.tmp rfl))
theorem con_vsame1 {x y : Rat} {K L : Nat} (hx : RB x K) (hy : RB y L) (hK : K + L ≤ 400000) : PureOK Tryz.prog 42 [.agg (vlA (vNum x)), .agg (vlA (vNum y))] (.v (.bool (decide (x = y)))) := by
  haveI := Ra.cq hx
  haveI := Ra.cq hy
  obtain ⟨z, cA, hz, _⟩ := eCmp (q4A (rq (cq x))) (q4A (rq (cq y))) (K := K) (K' := L) (by omega)
  rw [← decide_eq_decide.2 hz]
  refine PureOK.fnF Tryz.func42 Tryz.results42 Tryz.ntmps42 rfl rfl rfl (by simp [AV.ids, AV0.ids, Atom.ids]) rfl (fun w0 T B E0 hB => ?_)
  refine SX.goN ?_
  exact retB rfl
theorem con_Bin41 {x y : Rat} {K L : Nat} (hx : RB x K) (hy : RB y L) (hK : K + L ≤ 100000) : PureOK Tryz.prog 13 [.v (.int .i64 4), .agg (vlA (vNum x)), .agg (vlA (vNum y))] (.tup [.agg (vlA (vNum (x + y))), eNo 0]) := by
  have c := con_sum1 hx hy (by omega)
  have c1 := con_vFormed (vZ.num hx (by omega))
  have c2 := con_vFormed (vZ.num hy (by omega))
  rw [vF_num] at c1 c2
  refine PureOK.fnF Tryz.func13 Tryz.results13 Tryz.ntmps13 rfl rfl rfl (by simp [AV.ids, AV0.ids, Atom.ids]) rfl (fun w0 T B E0 hB => ?_)
  refine SX.goN ?_
  exact .ok (RetOK.mk2 (ResOK.agg15 rfl rfl rfl) (ResOK.tmp rfl))
theorem con_rPr {x : Rat} {K : Nat} (hx : RB x K) (hK : K ≤ 100000) : PureOK Tryz.prog 51 [.agg (q4A (rq (cq x)))] (.v (str (qS x))) := by
  have hl := (vZ0.num hx hK).q.2
  dsimp only at hl
  have h := (con_rPrint (h := ZI.raw (cq x).1 (cq x).2.1) (h' := ZI.raw (cq x).2.2.1 (cq x).2.2.2)).h (by omega)
  rw [rmk_q] at h
  rw [cq_val'] at h
  exact h
theorem con_text1 {x : Rat} {K : Nat} (hx : RB x K) (hK : K ≤ 100000) : PureOK Tryz.prog 71 [.agg (vlA (vNum x))] (.v (str (qS x))) := by
  have c := con_rPr hx hK
  refine PureOK.fnF Tryz.func71 Tryz.results71 Tryz.ntmps71 rfl rfl rfl (by simp [AV.ids, AV0.ids, Atom.ids]) rfl (fun w0 T B E0 hB => ?_)
  refine SX.goN ?_
  exact retS rfl
theorem con_Print1 {x : Rat} {K : Nat} (hx : RB x K) (hK : K ≤ 100000) : PureOK Tryz.prog 27 [.agg (vlA (vNum x))] (.tup [.one (.c (.val (str (qS x)))), eNo 0]) := by
  have c := con_text1 hx hK
  have c1 := con_vFormed (vZ.num hx hK)
  rw [vF_num] at c1
  refine PureOK.fnF Tryz.func27 Tryz.results27 Tryz.ntmps27 rfl rfl rfl (by simp [AV.ids, AV0.ids, Atom.ids]) rfl (fun w0 T B E0 hB => ?_)
  refine SX.goN ?_
  exact .ok (RetOK.mk2 (ResOK.tmp rfl) (ResOK.tmp rfl))
theorem con_awake29 : PureOK Tryz.prog 11 [] (.v (.bool true)) := by
  have o2 : PureOK Tryz.prog 23 [.v (.int .i64 2)] (.agg (zN 2)) := con_zOf.h ⟨by decide, by decide⟩
  have o3 : PureOK Tryz.prog 23 [.v (.int .i64 3)] (.agg (zN 3)) := con_zOf.h ⟨by decide, by decide⟩
  have w2 : PureOK Tryz.prog 22 [.agg (zN 2)] (.agg (vlA (vNum 2))) := con_Whole (K := 1) (z := 2) (ZQ.made (by rw [WB_eq]; decide)) (by decide) (by decide)
  have w3 : PureOK Tryz.prog 22 [.agg (zN 3)] (.agg (vlA (vNum 3))) := con_Whole (K := 1) (z := 3) (ZQ.made (by rw [WB_eq]; decide)) (by decide) (by decide)
  have h2 : RB 2 1 := RB.ofI (z := 2) (by rw [WB_eq]; decide) (by decide)
  have h3 : RB 3 1 := RB.ofI (z := 3) (by rw [WB_eq]; decide) (by decide)
  have h5 : RB 5 1 := RB.ofI (z := 5) (by rw [WB_eq]; decide) (by decide)
  have cB := con_Bin41 h2 h3 (by decide)
  rw [show (2 : Rat) + 3 = 5 by decide +kernel] at cB
  have cP := con_Print1 h5 (by decide)
  rw [show qS 5 = [53] by
    show rS (5, 1) = [53]
    unfold rS zS decS
    rw [show ((5 : Int).natAbs) = 5 from rfl, dig1 (by decide) (by decide)]
    decide] at cP
  refine PureOK.fnF Tryz.func11 Tryz.results11 Tryz.ntmps11 rfl rfl rfl (by simp [AV.ids, AV0.ids, Atom.ids]) rfl (fun w0 T B E0 hB => ?_)
  refine SX.goN ?_
  refine retB ?_; decide
end Go.Proofs.YtfhpmbenldgfnaaGreatDoor
set_option linter.unusedVariables false
set_option linter.unusedSimpArgs false
namespace Go.Proofs.YtfhpmbenldgfnaaGreatDoor
open Go.RowKit QM SX LA
theorem cqm_len {vs : List Rat} {K : Nat} (h : ∀ v ∈ vs, RB v K) (hK : K ≤ 100000) : ∀ x ∈ vs.map cq, (Sm WB x.2.1 ∧ Sm WB x.2.2.2) ∧ x.2.1.length ≤ 100000 ∧ x.2.2.2.length ≤ 100000 := fun x hx => by
  obtain ⟨v, hv, rfl⟩ := List.mem_map.1 hx
  exact (vZ0.num (h v hv) hK).q
theorem vZ0.mat {r c : Nat} {vs : List Rat} {K : Nat} (h : ∀ v ∈ vs, RB v K) (hK : K ≤ 100000) (hl : vs.length ≤ 100000) : vZ0 (vMat r c vs) where
  q := ⟨⟨Sm.nil, Sm.nil⟩, Nat.zero_le _, Nat.zero_le _⟩
  a := cqm_len h hK
  al := by rw [List.length_map]; exact hl
  po := by intro x hx; cases hx
  pol := Nat.zero_le _
  p := WB_pos
  fa := by intro x hx; cases hx
  fal := Nat.zero_le _
  ri := by intro x hx; cases hx
  ril := Nat.zero_le _
  lil := Nat.zero_le _
theorem vP_mat (r c : Nat) (vs : List Rat) : vP (vMat r c vs) = 0 := (vP0 _).2 ⟨.inr ⟨rfl, rfl, rfl, rfl⟩, .inl rfl, .inr rfl, .inr ⟨rfl, rfl, rfl⟩, .inr rfl, .inr (.inr rfl), .inr rfl⟩
theorem qOk_cq (v : Rat) : qOk (cq v) = true := (qOk_iff (cq_sm v)).2 (by rw [cq_val])
theorem fp64_nat {r c n : Nat} (hr : r ≤ 64) (hc : c ≤ 64) (hl : n = r * c) : fp64 (r : Int) (c : Int) n = true := decide_eq_true ⟨by omega, by omega, by omega, by omega, by rw [hl]; simp⟩
theorem vF_mat (d : Nat) {r c : Nat} {vs : List Rat} (hl : vs.length = r * c) (hr : r ≤ 64) (hc : c ≤ 64) : vF d (vMat r c vs) = true := by
  rw [vF_2 (vP_mat r c vs) rfl]
  unfold mOk
  rw [Bool.and_eq_true]
  refine ⟨List.all_eq_true.2 fun x hx => ?_, fp64_nat hr hc (by rw [List.length_map]; exact hl)⟩
  obtain ⟨v, _, rfl⟩ := List.mem_map.1 hx
  exact qOk_cq v
theorem Ra.rawq {q : RawQ} (hs : Sm WB q.2.1 ∧ Sm WB q.2.2.2) {K : Nat} (h : q.2.1.length ≤ K ∧ q.2.2.2.length ≤ K) : Ra (q4A (rq q)) (rqv q) K :=
  Ra.raw ⟨nn_lt hs.1 (Nat.le_refl _)⟩ ⟨nn_lt hs.2 (Nat.le_refl _)⟩ h.1 h.2
attribute [local irreducible] IntKind.wrap Go1 Reg WP thenK inBlk retQ retF RetF RetOK ResOK CallOK OpOK Sat
attribute [local irreducible] qsub qmul qquo qcmp qadd qv redS mf PrP qOk zOk vP fp64 lz vF cq rqv
end Go.Proofs.YtfhpmbenldgfnaaGreatDoor
set_option linter.unusedVariables false
set_option linter.unusedSimpArgs false
namespace Go.Proofs.YtfhpmbenldgfnaaGreatDoor
open Go.RowKit QM SX LA
open Go.ChangeShapes Go.WideShapes Go.ChangeAt Go.Joins
mutual
def rW : Vl → Prop
  | ⟨k, q, r, c, a, po, p, fr, fc, fa, ri, li⟩ => (Sm WB q.2.1 ∧ Sm WB q.2.2.2) ∧ RSm a ∧ (∀ x ∈ po, Sm WB x.2) ∧ p < WB ∧ (∀ x ∈ fa, x < WB) ∧ (∀ x ∈ ri, x < WB) ∧ rWL li
def rWL : List Vl → Prop
  | [] => True
  | v :: l => rW v ∧ rWL l
end
theorem rWL_iff : ∀ l : List Vl, rWL l ↔ ∀ v ∈ l, rW v
  | [] => by rw [rWL]; simp
  | v :: l => by rw [rWL, rWL_iff l]; simp
theorem rW_iff (v : Vl) : rW v ↔ (Sm WB v.q.2.1 ∧ Sm WB v.q.2.2.2) ∧ RSm v.a ∧ (∀ x ∈ v.po, Sm WB x.2) ∧ v.p < WB ∧ (∀ x ∈ v.fa, x < WB) ∧ (∀ x ∈ v.ri, x < WB) ∧ ∀ x ∈ v.li, rW x := by
  cases v; rw [rW, rWL_iff]
section
variable {H : Type} {enc : TypeId × Value → H} {W : World} {base : Nat} {sp : Nat → Bool} {hd : Bool}
theorem decWd (n : Nat) : DecF enc Tryz.prog W base sp hd n 33 wdC (fun w => w < WB) :=
  DecF.imp (dec_int Tryz.underlying33) Int.toNat (fun z hz => by have := bounds_u64 hz; rw [WB_eq]; omega) (fun z cs hz h => by
    have := bounds_u64 hz
    show All2 _ [CA.val (.int .u64 ((z.toNat : Nat) : Int))] cs
    rw [show ((z.toNat : Nat) : Int) = z by omega]; exact h)
theorem decWds (n : Nat) : DecF enc Tryz.prog W base sp hd n 22 (fun l : List Nat => [.sat (rowR 1 wdC l)]) (fun l => ∀ x ∈ l, x < WB) :=
  DecF.all (fun n => (dec_slice Tryz.underlying22 (by kernel_rfl) (decWd n)).conv id (fun _ h => h.2) (fun _ => rfl)) n
theorem decRing (n : Nat) : DecF enc Tryz.prog W base sp hd n 36 (fun l : List Nat => [.sat (rowR 1 wdC l)]) (fun l => ∀ x ∈ l, x < WB) :=
  DecF.all (fun n => (dec_slice Tryz.underlying36 (by kernel_rfl) (decWd n)).conv id (fun _ h => h.2) (fun _ => rfl)) n
theorem decFM (n : Nat) : DecF enc Tryz.prog W base sp hd n 35 (fun p : Int × Int × List Nat => [.val (.int .i64 p.1), .val (.int .i64 p.2.1), .sat (rowR 1 wdC p.2.2)]) (fun p => ∀ x ∈ p.2.2, x < WB) :=
  DecF.all (fun n => DecF.conv (dec_struct3 Tryz.underlying35 rfl (by kernel_rfl) (by kernel_rfl) (by kernel_rfl) (dec_int Tryz.underlying3) (dec_int Tryz.underlying3) (decWds n)) id (fun p h => h.2.2) (fun p => rfl)) n
def vzC (p : RawZ) : List CA := z2C (rz p)
instance : EncLen vzC 2 := ⟨fun _ => rfl⟩
theorem vz_row (l : List RawZ) : rowR 2 vzC l = rowR 2 z2C (l.map rz) := by
  show sliceR 2 l.length (l.flatMap vzC) = sliceR 2 (l.map rz).length ((l.map rz).flatMap z2C)
  rw [List.length_map, List.flatMap_map]; rfl
theorem decPoly (n : Nat) : DecF enc Tryz.prog W base sp hd n 32 (fun l : List RawZ => [.sat (rowR 2 z2C (l.map rz))]) (fun l => ∀ x ∈ l, Sm WB x.2) :=
  DecF.all (fun n => (dec_slice (enc' := vzC) Tryz.underlying32 (by kernel_rfl) ((decZS n).conv (e' := vzC) (ψ := fun p => Sm WB p.2) id (fun _ h => h) (fun _ => rfl))).conv id (fun _ h => h.2) (fun l => by
    show [CA.sat (rowR 2 z2C (l.map rz))] = [CA.sat (rowR 2 vzC l)]
    rw [vz_row])) n
theorem decVl2 : ∀ n : Nat, DecF enc Tryz.prog W base sp hd n 39 vlC rW ∧ DecF enc Tryz.prog W base sp hd (n + 1) 37 (fun l : List Vl => [.sat (rowR 15 vlC l)]) (fun l => ∀ x ∈ l, rW x)
  | 0 => ⟨DecF.zero, (dec_slice Tryz.underlying37 (by kernel_rfl) (DecF.zero (e := vlC) (φ := rW))).conv id (fun _ h => h.2) (fun _ => rfl)⟩
  | n + 1 => by
    obtain ⟨h1, h2⟩ := decVl2 n
    have hs : DecF enc Tryz.prog W base sp hd n 37 (fun l : List Vl => [.sat (rowR 15 vlC l)]) (fun l => ∀ x ∈ l, rW x) := by
      cases n with
      | zero => exact DecF.zero
      | succ m => exact (decVl2 m).2
    have hn : DecF enc Tryz.prog W base sp hd (n + 1) 39 vlC rW :=
      (dec_struct8 Tryz.underlying39 rfl (by kernel_rfl) (by kernel_rfl) (by kernel_rfl) (by kernel_rfl) (by kernel_rfl) (by kernel_rfl) (by kernel_rfl) (by kernel_rfl)
        (dec_int Tryz.underlying3) (decRatS n) (decMat n) (decPoly n) (decWd n) (decFM n) (decRing n) hs).conv (fun p => (⟨p.1, p.2.1, p.2.2.1.1, p.2.2.1.2.1, p.2.2.1.2.2, p.2.2.2.1, p.2.2.2.2.1, p.2.2.2.2.2.1.1, p.2.2.2.2.2.1.2.1, p.2.2.2.2.2.1.2.2, p.2.2.2.2.2.2.1, p.2.2.2.2.2.2.2⟩ : Vl))
        (fun p h => (rW_iff _).2 ⟨h.2.1, h.2.2.1, h.2.2.2.1, h.2.2.2.2.1, h.2.2.2.2.2.1, h.2.2.2.2.2.2.1, h.2.2.2.2.2.2.2⟩) (fun p => by rw [vlC_eq]; rfl)
    exact ⟨hn, (dec_slice Tryz.underlying37 (by kernel_rfl) hn).conv id (fun _ h => h.2) (fun _ => rfl)⟩
theorem decVal (n : Nat) : DecF enc Tryz.prog W base sp hd n 39 vlE rW := (decVl2 n).1.conv id (fun _ h => h) (fun v => (vlC_eq v).symm)
end
def vW1 (d : Nat) (v : Vl) : Prop := (v.po.length ≤ 5 ∧ ∀ x ∈ v.po, x.2.length ≤ 2) ∧ v.ri.length ≤ 5 ∧ v.li.length ≤ 4 ∧ (v.li.length = 0 ∨ d ≠ 0) ∧ v.p ≤ 4294967296 ∧ (v.q.2.1.length ≤ 2 ∧ v.q.2.2.2.length ≤ 2) ∧ FewP v.r v.c v.a 4 2 ∧ (v.fr ≤ 4 ∧ v.fc ≤ 4 ∧ v.fa.length ≤ 100)
def vW : Nat → Vl → Prop
  | 0, v => vW1 0 v ∧ v.li = []
  | d + 1, v => vW1 (d + 1) v ∧ ∀ x ∈ v.li, vW d x
theorem vW.one {d : Nat} {v : Vl} (h : vW d v) : vW1 d v := by cases d <;> exact h.1
theorem vZ.few : ∀ {d : Nat} {v : Vl}, vW d v → rW v → vZ d v := by
  have key : ∀ (d : Nat) (v : Vl), vW1 d v → rW v → vZ0 v := fun d v h hr => by
    obtain ⟨h1, h2, h3, h4, h5, h6, h7, h8⟩ := h
    obtain ⟨r1, r2, r3, r4, r5, r6, r7⟩ := (rW_iff v).1 hr
    exact ⟨⟨r1, by omega, by omega⟩, fun x hx => ⟨r2 x hx, by have := FewP.len (w := 2) h7 x hx; omega⟩, by have := h7.2.2.2; omega, fun x hx => ⟨r3 x hx, by have := h1.2 x hx; omega⟩, by omega, r4, r5, by omega, r6, by omega, by omega⟩
  intro d
  induction d with
  | zero => intro v h hr; exact ⟨key 0 v h.1 hr, h.2⟩
  | succ d ih => intro v h hr; exact ⟨key _ v h.1 hr, fun x hx => ih (h.2 x hx) (((rW_iff v).1 hr).2.2.2.2.2.2 x hx)⟩
end Go.Proofs.YtfhpmbenldgfnaaGreatDoor

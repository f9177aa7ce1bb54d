import Derived.Test.YtfhpmbenldgfnaaGreatDoorR14
import Derived.Test.YtfhpmbenldgfnaaGreatDoorR8
set_option linter.unusedVariables false
set_option linter.unusedSimpArgs false
namespace Go.Proofs.YtfhpmbenldgfnaaGreatDoor
open Go.RowKit QM SX LA
attribute [local irreducible] IntKind.wrap Go1 Reg WP thenK inBlk retQ retF RetF RetOK ResOK CallOK OpOK Sat
attribute [local irreducible] qsub qmul qquo qcmp qadd qv redS mf PrP qOk zOk vP fp64 lz vF cq rqv
theorem con_few10 (l : List RawZ) (goal : Bool) (hl : l.length ≤ 5) (hg : goal = true ↔ ∀ x ∈ l, x.2.length ≤ 2) :
    PureOK Tryz.prog 96 [.r (rowR 2 z2C (l.map rz)), .v (.int .i64 5), .v (.int .i64 2)] (.v (.bool goal)) := by
  have hlen : (l.map rz).length = l.length := List.length_map _
  refine PureOK.fnF Tryz.func96 Tryz.results96 Tryz.ntmps96 rfl rfl rfl (by simp [AV.ids, AV0.ids, Atom.ids]) rfl (fun w0 T B E0 hB => ?_)
  refine SX.goN ?_
  refine W.loop (fun k => k ≤ l.length ∧ ∀ (j : Nat) x, j < k → l[j]? = some x → x.2.length ≤ 2) (fun k => [(0, .r (rowR 2 z2C (l.map rz))), (1, .v (.int .i64 5)), (2, .v (.int .i64 2)), (7, .v (.int .i64 (k : Int)))]) (fun _ => []) (fun k => l.length - k) 0 ⟨Nat.zero_le _, fun j x h => absurd h (Nat.not_lt_zero _)⟩ (fun k ⟨hk, he⟩ => ?_)
  by_cases h : k < l.length
  · have h' : k < (l.map rz).length := by omega
    obtain ⟨x, hx⟩ : ∃ x, l[k]? = some x := ⟨_, List.getElem?_eq_getElem h⟩
    have hq : (l.map rz)[k]? = some (rz x) := by rw [List.getElem?_map, hx]; rfl
    by_cases h3 : x.2.length ≤ 2
    · refine SX.goN ?_
      refine W.next (k + 1) ⟨h, fun j b hj hb => ?_⟩ (by omega)
      by_cases hjk : j < k
      · exact he j b hjk hb
      · obtain rfl : j = k := by omega
        rw [hx] at hb; rw [← Option.some.inj hb]; exact h3
    · refine SX.goN ?_
      refine retB ?_
      exact (Bool.eq_false_iff.2 fun ht => h3 (hg.1 ht x (List.mem_of_getElem? hx))).symm
  · obtain rfl : k = l.length := by omega
    have h' : ¬ l.length < (l.map rz).length := by omega
    have ht : goal = true := hg.2 fun x hx => by
      obtain ⟨i, hi⟩ := List.mem_iff_getElem?.1 hx
      exact he i x (at_lt hi) hi
    subst ht
    refine SX.goN ?_
    refine retB ?_
    exact decide_eq_true (by omega)
theorem con_few21 (r c : Int) (l : List Nat) : PureOK Tryz.prog 97 [.agg [.c (.val (.int .i64 r)), .c (.val (.int .i64 c)), .c (.sat (rowR 1 wdC l))], .v (.int .i64 4)] (.v (.bool (decide (r ≤ 4 ∧ c ≤ 4 ∧ l.length ≤ 100)))) := by
  refine PureOK.fnF Tryz.func97 Tryz.results97 Tryz.ntmps97 rfl rfl rfl (by simp [AV.ids, AV0.ids, Atom.ids]) rfl (fun w0 T B E0 hB => ?_)
  by_cases h1 : r ≤ 4
  · by_cases h2 : c ≤ 4
    · refine SX.goN ?_
      refine retB ?_; rw [decide_eq_decide]; omega
    · refine SX.goN ?_
      refine retB ?_; exact (decide_eq_false fun h => h2 h.2.1).symm
  · refine SX.goN ?_
    refine retB ?_; exact (decide_eq_false fun h => h1 h.1).symm
theorem con_few07 (q : RawQ) : PureOK Tryz.prog 33 [.agg (q4A (rq q)), .v (.int .i64 2)] (.v (.bool (decide (q.2.1.length ≤ 2 ∧ q.2.2.2.length ≤ 2)))) := by
  have h := (con_Few q.1 q.2.1 q.2.2.1 q.2.2.2 2).h trivial
  rw [show decide ((q.2.1.length : Int) ≤ 2 ∧ (q.2.2.2.length : Int) ≤ 2) = decide (q.2.1.length ≤ 2 ∧ q.2.2.2.length ≤ 2) from decide_eq_decide.2 (by omega)] at h
  exact h
set_option maxRecDepth 20000 in
set_option maxHeartbeats 2000000 in
theorem con_Few1 (v : Vl) (d : Nat) (hd : d ≤ 20) (goal : Bool) (b : Vl → Prop) (hr : ∀ e, d = e + 1 → ∀ x ∈ v.li, (b x → PureOK Tryz.prog 41 [.agg (vlA x), .v (.int .i64 (e : Int))] (.v (.bool true))) ∧ (¬ b x → PureOK Tryz.prog 41 [.agg (vlA x), .v (.int .i64 (e : Int))] (.v (.bool false))))
    (hg : goal = true ↔ vW1 d v ∧ ∀ x ∈ v.li, b x) : PureOK Tryz.prog 41 [.agg (vlA v), .v (.int .i64 (d : Int))] (.v (.bool goal)) := by
  have l2 : (v.po.map rz).length = v.po.length := List.length_map _
  have cq := con_few07 v.q
  have cm := con_rFew v.r v.c v.a 4 2
  have cf := con_few21 v.fr v.fc v.fa
  have no : ∀ {p : Prop}, ¬ p → (vW1 d v ∧ (∀ x ∈ v.li, b x) → p) → false = goal := fun hn hp => (Bool.eq_false_iff.2 fun ht => hn (hp (hg.1 ht))).symm
  rw [vlA_B]
  refine PureOK.fnF Tryz.func41 Tryz.results41 Tryz.ntmps41 rfl rfl rfl (by simp [AV.ids, AV0.ids, Atom.ids]) rfl (fun w0 T B E0 hB => ?_)
  by_cases h1 : v.po.length ≤ 5
  rotate_left
  · refine SX.goN ?_
    refine retB (no h1 fun h => ?_); exact h.1.1.1
  by_cases h2 : ∀ x ∈ v.po, x.2.length ≤ 2
  rotate_left
  · have c1 := con_few10 v.po false h1 ⟨fun h => (by cases h), fun h => absurd h h2⟩
    refine SX.goN ?_
    refine retB (no h2 fun h => ?_); exact h.1.1.2
  have c1 := con_few10 v.po true h1 ⟨fun _ => h2, fun _ => rfl⟩
  by_cases h3 : v.ri.length ≤ 5
  rotate_left
  · refine SX.goN ?_
    refine retB (no h3 fun h => ?_); exact h.1.2.1
  by_cases h4 : v.li.length ≤ 4
  rotate_left
  · refine SX.goN ?_
    refine retB (no h4 fun h => ?_); exact h.1.2.2.1
  by_cases h5 : v.li.length = 0 ∨ d ≠ 0
  rotate_left
  · have h6 : v.li.length > 0 := by omega
    have h7 : d = 0 := by omega
    refine SX.goN ?_
    refine retB (no h5 fun h => ?_); exact h.1.2.2.2.1
  by_cases h8 : v.p ≤ 4294967296
  rotate_left
  · by_cases h6 : v.li.length > 0
    · have h7 : d ≠ 0 := by omega
      refine SX.goN ?_
      refine retB (no h8 fun h => ?_); exact h.1.2.2.2.2.1
    · refine SX.goN ?_
      refine retB (no h8 fun h => ?_); exact h.1.2.2.2.2.1
  refine W.meet [(1, .v (.int .i64 (d : Int))), (2, .ptr 2 0)] [(2, .box 39 (vlB v))] ?_ ?_
  · refine SX.goN ?_
    exact W.le
  refine W.meet [(1, .v (.int .i64 (d : Int))), (2, .ptr 2 0)] [(2, .box 39 (vlB v))] ?_ ?_
  · by_cases h6 : v.li.length > 0
    · have h7 : d ≠ 0 := by omega
      refine SX.goN ?_
      exact W.le
    · refine SX.goN ?_
      exact W.le
  refine SX.goN ?_
  refine W.loop (fun k => k ≤ v.li.length ∧ ∀ (j : Nat) x, j < k → v.li[j]? = some x → b x) (fun k => [(1, .v (.int .i64 (d : Int))), (2, .ptr 2 0), (5, .v (.int .i64 (k : Int)))]) (fun k => [(2, .box 39 (vlB v))]) (fun k => v.li.length - k) 0 ⟨Nat.zero_le _, fun j x h => absurd h (Nat.not_lt_zero _)⟩ (fun k ⟨hk, he⟩ => ?_)
  by_cases h : k < v.li.length
  · obtain ⟨e, rfl⟩ : ∃ e, d = e + 1 := ⟨d - 1, by omega⟩
    obtain ⟨x, hx⟩ : ∃ x, v.li[k]? = some x := ⟨_, List.getElem?_eq_getElem h⟩
    have hr2 := hr e rfl x (List.mem_of_getElem? hx)
    rw [show (e : Int) = ((e + 1 - 1 : Nat) : Int) by omega] at hr2
    by_cases hb : b x
    · have cE := hr2.1 hb
      refine SX.goN ?_
      refine W.next (k + 1) ⟨h, fun j y hj hy => ?_⟩ (by omega)
      by_cases hjk : j < k
      · exact he j y hjk hy
      · obtain rfl : j = k := by omega
        rw [hx] at hy; rw [← Option.some.inj hy]; exact hb
    · have cE := hr2.2 hb
      refine SX.goN ?_
      refine retB (no hb fun h => ?_); exact h.2 x (List.mem_of_getElem? hx)
  · obtain rfl : k = v.li.length := by omega
    have hall : ∀ x ∈ v.li, b x := fun x hx => by
      obtain ⟨i, hi⟩ := List.mem_iff_getElem?.1 hx
      exact he i x (at_lt hi) hi
    by_cases g1 : v.q.2.1.length ≤ 2 ∧ v.q.2.2.2.length ≤ 2
    · rw [decide_eq_true g1] at cq
      by_cases g2 : FewP v.r v.c v.a 4 2
      · have cm := cm.1 g2
        by_cases g3 : v.fr ≤ 4 ∧ v.fc ≤ 4 ∧ v.fa.length ≤ 100
        · rw [decide_eq_true g3] at cf
          have ht : goal = true := hg.2 ⟨⟨⟨h1, h2⟩, h3, h4, h5, h8, g1, g2, g3⟩, hall⟩
          subst ht
          refine SX.goN ?_
          exact retB rfl
        · rw [decide_eq_false g3] at cf
          refine SX.goN ?_
          refine retB (no g3 fun h => ?_); exact h.1.2.2.2.2.2.2.2
      · have cm := cm.2 g2
        refine SX.goN ?_
        refine retB (no g2 fun h => ?_); exact h.1.2.2.2.2.2.2.1
    · rw [decide_eq_false g1] at cq
      refine SX.goN ?_
      refine retB (no g1 fun h => ?_); exact h.1.2.2.2.2.2.1
theorem con_Few29 : ∀ (d : Nat) (v : Vl), d ≤ 20 → (vW d v → PureOK Tryz.prog 41 [.agg (vlA v), .v (.int .i64 (d : Int))] (.v (.bool true))) ∧ (¬ vW d v → PureOK Tryz.prog 41 [.agg (vlA v), .v (.int .i64 (d : Int))] (.v (.bool false))) := by
  intro d
  induction d with
  | zero =>
    intro v hd
    have e : vW 0 v ↔ vW1 0 v ∧ ∀ x ∈ v.li, False := by
      constructor
      · intro h; exact ⟨h.1, fun x hx => by rw [h.2] at hx; cases hx⟩
      · intro h
        refine ⟨h.1, ?_⟩
        cases hl : v.li with
        | nil => rfl
        | cons x l => exact (h.2 x (by rw [hl]; exact List.mem_cons_self ..)).elim
    exact ⟨fun h => con_Few1 v 0 hd true (fun _ => False) (fun e he => by omega) ⟨fun _ => e.1 h, fun _ => rfl⟩, fun h => con_Few1 v 0 hd false (fun _ => False) (fun e he => by omega) ⟨fun h2 => (by cases h2), fun h2 => absurd (e.2 h2) h⟩⟩
  | succ d ih =>
    intro v hd
    have hr : ∀ e, d + 1 = e + 1 → ∀ x ∈ v.li, (vW d x → PureOK Tryz.prog 41 [.agg (vlA x), .v (.int .i64 (e : Int))] (.v (.bool true))) ∧ (¬ vW d x → PureOK Tryz.prog 41 [.agg (vlA x), .v (.int .i64 (e : Int))] (.v (.bool false))) := fun e he x _ => by
      obtain rfl : d = e := by omega
      exact ih x (by omega)
    exact ⟨fun h => con_Few1 v (d + 1) hd true (vW d) hr ⟨fun _ => h, fun _ => rfl⟩, fun h => con_Few1 v (d + 1) hd false (vW d) hr ⟨fun h2 => (by cases h2), fun h2 => absurd h2 h⟩⟩
end Go.Proofs.YtfhpmbenldgfnaaGreatDoor
set_option linter.unusedVariables false
set_option linter.unusedSimpArgs false
namespace Go.Proofs.YtfhpmbenldgfnaaGreatDoor
open Go.RowKit QM SX LA
instance zeroZ : AsZero [.bool false, .slice none 0 0] (z2C (z2v 0)) := ⟨fun S w => ⟨rfl, nrmN.zero, trivial⟩⟩
def pl (zs : List Int) : Nat → Nat
  | 0 => 0
  | k + 1 => if zs.getD k 0 = 0 then pl zs k else k + 1
def plen (zs : List Int) : Nat := pl zs zs.length
def pNorm (zs : List Int) : List Int := zs.take (plen zs)
def pN (zs : List Int) : Prop := zs.length = 0 ∨ zs.getD (zs.length - 1) 0 ≠ 0
theorem pl_le (zs : List Int) : ∀ k, pl zs k ≤ k
  | 0 => Nat.le_refl _
  | k + 1 => by unfold pl; split; exact Nat.le_succ_of_le (pl_le zs k); exact Nat.le_refl _
theorem pl_top (zs : List Int) : ∀ k, pl zs k = 0 ∨ zs.getD (pl zs k - 1) 0 ≠ 0
  | 0 => .inl rfl
  | k + 1 => by
    unfold pl; split
    · exact pl_top zs k
    · next h => exact .inr h
theorem pl_zero (zs : List Int) : ∀ (k j : Nat), pl zs k ≤ j → j < k → zs.getD j 0 = 0
  | 0, j, _, h => absurd h (Nat.not_lt_zero _)
  | k + 1, j, h1, h2 => by
    unfold pl at h1
    split at h1
    · next h =>
      by_cases hj : j = k
      · subst hj; exact h
      · exact pl_zero zs k j h1 (by omega)
    · omega
theorem plen_le (zs : List Int) : plen zs ≤ zs.length := pl_le zs _
theorem pNorm_len (zs : List Int) : (pNorm zs).length = plen zs := by unfold pNorm; rw [List.length_take]; exact Nat.min_eq_left (plen_le zs)
theorem getD_ge {zs : List Int} {j : Nat} (h : zs.length ≤ j) : zs.getD j 0 = 0 := by rw [List.getD_eq_getElem?_getD, List.getElem?_eq_none h]; rfl
theorem pNorm_at (zs : List Int) (j : Nat) : (pNorm zs).getD j 0 = zs.getD j 0 := by
  by_cases h : j < plen zs
  · unfold pNorm; rw [List.getD_eq_getElem?_getD, List.getElem?_take, if_pos h, ← List.getD_eq_getElem?_getD]
  · rw [getD_ge (by rw [pNorm_len]; omega)]
    by_cases h2 : j < zs.length
    · exact (pl_zero zs _ j (by unfold plen at h; omega) h2).symm
    · exact (getD_ge (by omega)).symm
theorem pNorm_pN (zs : List Int) : pN (pNorm zs) := by
  rcases pl_top zs zs.length with h | h
  · exact .inl (by rw [pNorm_len]; exact h)
  · exact .inr (by rw [pNorm_len, pNorm_at]; exact h)
theorem pN_ext {a b : List Int} (ha : pN a) (hb : pN b) (h : ∀ j, a.getD j 0 = b.getD j 0) : a = b := by
  have key : ∀ {a b : List Int}, pN a → (∀ j, a.getD j 0 = b.getD j 0) → a.length ≤ b.length := fun {a b} ha h => by
    rcases ha with h0 | h0
    · omega
    · rcases Nat.lt_or_ge b.length a.length with h1 | h1
      · rw [h, getD_ge (by omega)] at h0; exact absurd rfl h0
      · exact h1
  have hl : a.length = b.length := Nat.le_antisymm (key ha h) (key hb fun j => (h j).symm)
  apply List.ext_getElem? ; intro j
  by_cases hj : j < a.length
  · have := h j
    rw [List.getD_eq_getElem?_getD, List.getD_eq_getElem?_getD, List.getElem?_eq_getElem hj, List.getElem?_eq_getElem (by omega)] at this
    rw [List.getElem?_eq_getElem hj, List.getElem?_eq_getElem (by omega)]
    exact congrArg some this
  · rw [List.getElem?_eq_none (by omega), List.getElem?_eq_none (by omega)]
theorem pNorm_self {zs : List Int} (h : pN zs) : pNorm zs = zs := pN_ext (pNorm_pN zs) h (pNorm_at zs)
def tabP (n : Nat) (f : Nat → Int) : List Int := (List.range n).map f
theorem tabP_len (n : Nat) (f : Nat → Int) : (tabP n f).length = n := by unfold tabP; rw [List.length_map, List.length_range]
theorem tabP_at {n : Nat} {f : Nat → Int} {j : Nat} (h : j < n) : (tabP n f).getD j 0 = f j := by
  unfold tabP; rw [List.getD_eq_getElem?_getD, List.getElem?_map, List.getElem?_range h]; rfl
def pBoth (op : Int → Int → Int) (a b : List Int) : List Int := pNorm (tabP (max a.length b.length) fun i => op (a.getD i 0) (b.getD i 0))
theorem pBoth_at {op : Int → Int → Int} (h0 : op 0 0 = 0) (a b : List Int) (j : Nat) : (pBoth op a b).getD j 0 = op (a.getD j 0) (b.getD j 0) := by
  unfold pBoth
  rw [pNorm_at]
  by_cases h : j < max a.length b.length
  · exact tabP_at h
  · rw [getD_ge (by rw [tabP_len]; omega), getD_ge (zs := a) (by omega), getD_ge (zs := b) (by omega), h0]
def patq (l : List Z2) (i : Nat) : Z2 := l.getD i (z2v 0)
theorem ZQ.zero (K : Nat) : ZQ (z2v 0) 0 K := ZQ.made (z := 0) (by rw [show (0 : Int).natAbs = 0 from rfl]; exact WB_one_le K)
theorem MZ.pat {l : List Z2} {zs : List Int} {K : Nat} (h : MZ l zs K) (i : Nat) : ZQ (patq l i) (zs.getD i 0) K := by
  unfold patq
  rw [List.getD_eq_getElem?_getD, List.getD_eq_getElem?_getD]
  have hl := h.len
  by_cases hi : i < l.length
  · rw [List.getElem?_eq_getElem hi, List.getElem?_eq_getElem (by omega)]
    exact h.z i _ _ (List.getElem?_eq_getElem hi) (List.getElem?_eq_getElem (by omega))
  · rw [List.getElem?_eq_none (by omega), List.getElem?_eq_none (by omega)]
    exact ZQ.zero K
theorem zat_b {zs : List Int} {K : Nat} (h : ∀ z ∈ zs, z.natAbs < WB ^ K) (i : Nat) : (zs.getD i 0).natAbs < WB ^ K := by
  rw [List.getD_eq_getElem?_getD]
  by_cases hi : i < zs.length
  · rw [List.getElem?_eq_getElem hi]; exact h _ (List.getElem_mem hi)
  · rw [List.getElem?_eq_none (by omega)]; exact WB_one_le K
theorem set_tab {f : Nat → Z2} {z : Z2} {n k : Nat} (hk : k < n) : ((List.range n).map fun i => if i < k then f i else z).set k (f k) = (List.range n).map fun i => if i < k + 1 then f i else z := by
  apply List.ext_getElem?
  intro j
  rw [List.getElem?_set]
  by_cases hj : k = j
  · subst hj
    rw [if_pos rfl, if_pos (by rw [List.length_map, List.length_range]; exact hk), List.getElem?_map, List.getElem?_range hk]
    simp
  · rw [if_neg hj, List.getElem?_map, List.getElem?_map]
    by_cases hjn : j < n
    · rw [List.getElem?_range hjn]
      simp only [Option.map_some]
      by_cases h1 : j < k
      · rw [if_pos h1, if_pos (by omega)]
      · rw [if_neg h1, if_neg (by omega)]
    · rw [List.getElem?_eq_none (by rw [List.length_range]; omega)]; rfl
theorem tab_all {f : Nat → Z2} {z : Z2} {n : Nat} : ((List.range n).map fun i => if i < n then f i else z) = (List.range n).map f := by
  refine List.map_congr_left fun i hi => ?_
  rw [if_pos (List.mem_range.1 hi)]
theorem tab_none {f : Nat → Z2} {z : Z2} {n : Nat} : (List.replicate n (z2C z)).flatten = ((List.range n).map fun i => if i < 0 then f i else z).flatMap z2C := by
  have : ((List.range n).map fun i => if i < 0 then f i else z) = List.replicate n z := by
    apply List.ext_getElem?; intro j
    rw [List.getElem?_map, List.getElem?_replicate]
    by_cases hj : j < n
    · rw [List.getElem?_range hj, if_pos hj]; simp
    · rw [List.getElem?_eq_none (by rw [List.length_range]; omega), if_neg hj]; rfl
  rw [this, List.flatMap, List.map_replicate]
attribute [local irreducible] IntKind.wrap Go1 Reg WP thenK inBlk retQ retF RetF RetOK ResOK CallOK OpOK Sat
attribute [local irreducible] qsub qmul qquo qcmp qadd qv redS mf PrP qOk zOk vP fp64 lz vF cq rqv plen
theorem con_pat (l : List Z2) (i : Nat) (hl : l.length ≤ 1000000) : PureOK Tryz.prog 59 [.r (rowR 2 z2C l), .v (.int .i64 (i : Int))] (.agg (z2A (patq l i))) := by
  unfold patq
  rw [List.getD_eq_getElem?_getD]
  refine PureOK.fnF Tryz.func59 Tryz.results59 Tryz.ntmps59 rfl rfl rfl (by simp [AV.ids, AV0.ids, Atom.ids]) rfl (fun w0 T B E0 hB => ?_)
  by_cases h : i < l.length
  · obtain ⟨q, hq⟩ : ∃ q, l[i]? = some q := ⟨_, List.getElem?_eq_getElem h⟩
    rw [hq]
    refine SX.goJ ?_
    exact retA (ResOK.agg2 rfl rfl rfl) rfl
  · rw [List.getElem?_eq_none (by omega)]
    refine SX.goJ ?_
    refine retAi (ResOK.agg2 rfl rfl rfl) ?_
    exact imp_zero
theorem con_pNorm {l : List Z2} {zs : List Int} {K : Nat} (hM : MZ l zs K) (hK : K ≤ 1000000) (hl : l.length ≤ 100000) : PureOK Tryz.prog 57 [.r (rowR 2 z2C l)] (.r (rowR 2 z2C ((pNorm zs).map z2v))) := by
  have hlen := hM.len
  have hle := plen_le zs
  refine PureOK.fnF Tryz.func57 Tryz.results57 Tryz.ntmps57 rfl rfl rfl (by simp [AV.ids, AV0.ids, Atom.ids]) rfl (fun w0 T B E0 hB => ?_)
  refine SX.goJ ?_
  refine W.loop (fun k => k ≤ l.length ∧ pl zs k = plen zs) (fun k => [(0, .r (rowR 2 z2C l)), (3, .v (.int .i64 (k : Int)))]) (fun _ => []) (fun k => k) l.length ⟨Nat.le_refl _, by rw [hlen]; unfold plen; rfl⟩ (fun k ⟨hk, he⟩ => ?_)
  by_cases h0 : 0 < k
  · obtain ⟨m, rfl⟩ : ∃ m, k = m + 1 := ⟨k - 1, by omega⟩
    obtain ⟨q, hq⟩ : ∃ q, l[m + 1 - 1]? = some q := ⟨_, List.getElem?_eq_getElem (by omega)⟩
    have hq' : l[m]? = some q := hq
    obtain ⟨z, hz⟩ : ∃ z, zs[m]? = some z := ⟨_, List.getElem?_eq_getElem (by omega)⟩
    have hg : zs.getD m 0 = z := by rw [List.getD_eq_getElem?_getD, hz]; rfl
    have zq := hM.z m q z hq' hz
    have cS := (con_zSign (h := zq.zi)).h (by omega)
    have hs0 : isign z = 0 ↔ z = 0 := by unfold isign; (repeat' split) <;> omega
    unfold pl at he
    rw [hg] at he
    by_cases hz0 : z = 0
    · rw [if_pos hz0] at he
      have h1 := hs0.2 hz0
      refine SX.goJ ?_
      exact W.next m ⟨by omega, he⟩ (by omega)
    · rw [if_neg hz0] at he
      have h1 : ¬ isign z = 0 := fun e => hz0 (hs0.1 e)
      rw [← he] at hle
      have e3 : (l.take (m + 1)).length = m + 1 := by rw [List.length_take]; omega
      refine SX.goJ ?_
      refine W.loop (fun j => j ≤ m + 1) (fun j => [(4, .own 100), (24, .r (rowR 2 z2C (l.take (m + 1)))), (25, .v (.int .i64 ((m + 1 : Nat) : Int))), (26, .v (.int .i64 (j : Int)))]) (fun j => [(100, .row 25 2 j (((zs.take j).map z2v).flatMap z2C))]) (fun j => m + 1 - j) 0 (Nat.zero_le _) (fun j hj => ?_)
        (by
          refine SX.St.le_to [(100, none)] (by intro b h; cases h) ?_ ?_ rfl
          · repeat (first | exact trivial | refine ⟨⟨_, rfl, SX.AVto.same rfl⟩, ?_⟩ | refine ⟨⟨_, rfl, SX.AVto.nil rfl⟩, ?_⟩ | refine ⟨⟨_, rfl, SX.AVto.int (by rw [e3])⟩, ?_⟩)
          · exact ⟨SX.EntTo.nilRow rfl, trivial⟩)
      by_cases h2 : j < m + 1
      · obtain ⟨q2, hq2⟩ : ∃ q2, l[j]? = some q2 := ⟨_, List.getElem?_eq_getElem (by omega)⟩
        have hq3 : (l.take (m + 1))[j]? = some q2 := by rw [List.getElem?_take, if_pos h2]; exact hq2
        have h3 : j < (l.take (m + 1)).length := by omega
        obtain ⟨z2, hz2⟩ : ∃ z2, zs[j]? = some z2 := ⟨_, List.getElem?_eq_getElem (by omega)⟩
        have cF := from_z (hM.z j q2 z2 hq2 hz2) hK
        have e2 : ((zs.take j).map z2v).flatMap z2C ++ z2C (z2v z2) = ((zs.take (j + 1)).map z2v).flatMap z2C := by rw [List.take_add_one, hz2]; simp
        refine SX.goJ ?_
        refine W.next (j + 1) h2 (by omega) (by
          refine SX.St.le_to [(100, some 37)] (by intro b h; cases h) ?_ ?_ rfl
          · repeat (first | exact trivial | refine ⟨⟨_, rfl, SX.AVto.same rfl⟩, ?_⟩ | refine ⟨⟨_, rfl, SX.AVto.own rfl⟩, ?_⟩)
          · exact ⟨SX.EntTo.row rfl rfl rfl e2, trivial⟩)
      · obtain rfl : j = m + 1 := by omega
        refine SX.goJ ?_
        refine RetF.frz 100 ?_
        refine ret1 ?_
        unfold pNorm; rw [← he]
        show AV0.one (.c (.sat (sliceR 2 (m + 1) _))) = .one (.c (.sat (sliceR 2 ((zs.take (m + 1)).map z2v).length _)))
        rw [List.length_map, List.length_take, Nat.min_eq_left (by omega)]
  · obtain rfl : k = 0 := by omega
    have he' : plen zs = 0 := he.symm
    refine SX.goJ ?_
    refine W.loop (fun j : Nat => j = 0) (fun j => [(4, .v (.slice none 0 0)), (25, .v (.int .i64 0)), (26, .v (.int .i64 (j : Int)))]) (fun _ => []) (fun j => j) 0 rfl (fun j hj => ?_)
    subst hj
    refine SX.goJ ?_
    refine ret1' ?_
    unfold pNorm; rw [he']
    exact fun E S w v h => (AtomI.nil (α := Z2) (enc := z2C) (size := 2)) E S w v h
end Go.Proofs.YtfhpmbenldgfnaaGreatDoor
set_option linter.unusedVariables false
set_option linter.unusedSimpArgs false
namespace Go.Proofs.YtfhpmbenldgfnaaGreatDoor
open Go.RowKit QM SX LA
theorem mz_tab {n K : Nat} {f : Nat → Int} (h : ∀ i, i < n → (f i).natAbs < WB ^ K) : MZ ((List.range n).map fun i => z2v (f i)) (tabP n f) K := by
  refine ⟨by rw [List.length_map, List.length_range, tabP_len], fun i q z hq hz => ?_⟩
  have hi : i < n := by have := at_lt hq; rwa [List.length_map, List.length_range] at this
  rw [List.getElem?_map, List.getElem?_range hi] at hq
  unfold tabP at hz
  rw [List.getElem?_map, List.getElem?_range hi] at hz
  cases hq; cases hz
  exact ZQ.made (h i hi)
theorem row_len {n : Nat} {l : List Z2} (h : l.length = n) : rowR 2 z2C l = sliceR 2 n (l.flatMap z2C) := by subst h; rfl
attribute [local irreducible] IntKind.wrap Go1 Reg WP thenK inBlk retQ retF RetF RetOK ResOK CallOK OpOK Sat
attribute [local irreducible] qsub qmul qquo qcmp qadd qv redS mf PrP qOk zOk vP fp64 lz vF cq rqv plen pNorm
theorem con_both {l l' : List Z2} {zs zs' : List Int} {K K' L : Nat} (op : Int → Int → Int) (x : CA) (hx1 : x.oneB = true) (hM : MZ l zs K) (hM' : MZ l' zs' K') (hl : l.length ≤ 10000) (hl' : l'.length ≤ 10000)
    (hx : ∀ i, FnV Tryz.prog x [.agg (z2A (patq l i)), .agg (z2A (patq l' i))] (.agg (zN (op (zs.getD i 0) (zs'.getD i 0))))) (hb : ∀ i, (op (zs.getD i 0) (zs'.getD i 0)).natAbs < WB ^ L) (hL : L ≤ 1000000) :
    PureOK Tryz.prog 126 [.r (rowR 2 z2C l), .r (rowR 2 z2C l'), .it (.one (.c x))] (.r (rowR 2 z2C ((pBoth op zs zs').map z2v))) := by
  have cN : PureOK Tryz.prog 57 [.r (sliceR 2 (max l.length l'.length) (((List.range (max l.length l'.length)).map fun i => z2v (op (zs.getD i 0) (zs'.getD i 0))).flatMap z2C))] (.r (rowR 2 z2C ((pBoth op zs zs').map z2v))) := by
    have h := con_pNorm (mz_tab (n := max l.length l'.length) (f := fun i => op (zs.getD i 0) (zs'.getD i 0)) fun i _ => hb i) hL (by rw [List.length_map, List.length_range]; omega)
    rw [row_len (n := max l.length l'.length) (by rw [List.length_map, List.length_range])] at h
    unfold pBoth
    rw [← hM.len, ← hM'.len]
    exact h
  have hm : max l.length l'.length ≤ 10000 := by omega
  refine PureOK.fnF Tryz.func126 Tryz.results126 Tryz.ntmps126 rfl rfl rfl (by simp [AV.ids, AV0.ids, Atom.ids]) rfl (fun w0 T B E0 hB => ?_)
  refine SX.goJ ?_
  refine W.loop (fun k => k ≤ max l.length l'.length) (fun k => [(0, .r (rowR 2 z2C l)), (1, .r (rowR 2 z2C l')), (2, .it (.one (.c x))), (7, .own 100), (16, .v (.int .i64 ((max l.length l'.length : Nat) : Int))), (17, .v (.int .i64 (k : Int)))]) (fun k => [(100, .row 25 2 (max l.length l'.length) (((List.range (max l.length l'.length)).map fun i => if i < k then z2v (op (zs.getD i 0) (zs'.getD i 0)) else z2v 0).flatMap z2C))]) (fun k => max l.length l'.length - k) 0 (Nat.zero_le _) (fun k hk => ?_)
    (by
      refine SX.St.le_to [(100, some 14)] (by intro b h; cases h) ?_ ?_ rfl
      · repeat (first | exact trivial | refine ⟨⟨_, rfl, SX.AVto.same rfl⟩, ?_⟩ | refine ⟨⟨_, rfl, SX.AVto.own rfl⟩, ?_⟩)
      · exact ⟨SX.EntTo.row rfl rfl rfl (tab_none (f := fun i => z2v (op (zs.getD i 0) (zs'.getD i 0)))), trivial⟩)
  by_cases h : k < max l.length l'.length
  · have c1 := con_pat l k (by omega)
    have c2 := con_pat l' k (by omega)
    have c3 := hx k
    have e2 : ((List.range (max l.length l'.length)).map fun i => if i < k then z2v (op (zs.getD i 0) (zs'.getD i 0)) else z2v 0).length = max l.length l'.length := by rw [List.length_map, List.length_range]
    have e3 := set_tab (f := fun i => z2v (op (zs.getD i 0) (zs'.getD i 0))) (z := z2v 0) h
    refine SX.goJ ?_
    refine SX.G.storeOWA (a := z2v (op (zs.getD k 0) (zs'.getD k 0))) ?_
    rw [e3]
    refine SX.goJ ?_
    exact W.next (k + 1) h (by omega)
  · obtain rfl : k = max l.length l'.length := by omega
    rw [tab_all]
    refine SX.WP.freeze 100 hB rfl ?_
    refine SX.goJ ?_
    exact ret1 rfl
theorem cloArgs {P : Program} {f g : FuncId} {a b r : AV} (h : PureOK P f [a, b, .it (.one (.c (.sat (cloR g [] []))))] r) : PureOK P f [a, b, .it (.one (.clo g []))] r :=
  weakArgs h fun E S w vs hv => by
    match vs, hv with
    | [u1, u2, u3], ⟨h1, h2, h3, _⟩ => exact ⟨h1, h2, fnArg h3, trivial⟩
abbrev pAdd := pBoth (· + ·)
abbrev pSub := pBoth (· - ·)
theorem con_pAdd {l l' : List Z2} {zs zs' : List Int} {K K' : Nat} (hM : MZ l zs K) (hM' : MZ l' zs' K') (hl : l.length ≤ 10000) (hl' : l'.length ≤ 10000) (hK : K + K' ≤ 100000) :
    PureOK Tryz.prog 79 [.r (rowR 2 z2C l), .r (rowR 2 z2C l')] (.r (rowR 2 z2C ((pAdd zs zs').map z2v))) := by
  have c := cloArgs (con_both (· + ·) (.sat (cloR 131 [] [])) rfl hM hM' hl hl' (fun i => FnV.const ((con_zAdd (h := (hM.pat i).zi) (h' := (hM'.pat i).zi)).h (by omega))) (L := K + K' + 1) (fun i => bd_add (hM.pat i).b (hM'.pat i).b) (by omega))
  refine PureOK.fnF Tryz.func79 Tryz.results79 Tryz.ntmps79 rfl rfl rfl (by simp [AV.ids, AV0.ids, Atom.ids]) rfl (fun w0 T B E0 hB => ?_)
  refine SX.goJ ?_
  exact ret1 rfl
theorem con_pSub {l l' : List Z2} {zs zs' : List Int} {K K' : Nat} (hM : MZ l zs K) (hM' : MZ l' zs' K') (hl : l.length ≤ 10000) (hl' : l'.length ≤ 10000) (hK : K + K' ≤ 100000) :
    PureOK Tryz.prog 60 [.r (rowR 2 z2C l), .r (rowR 2 z2C l')] (.r (rowR 2 z2C ((pSub zs zs').map z2v))) := by
  have c := cloArgs (con_both (· - ·) (.sat (cloR 127 [] [])) rfl hM hM' hl hl' (fun i => FnV.const ((con_zSub (h := (hM.pat i).zi) (h' := (hM'.pat i).zi)).h (by omega))) (L := K + K' + 1) (fun i => by
    have h2 : (-(zs'.getD i 0)).natAbs < WB ^ K' := by rw [Int.natAbs_neg]; exact (hM'.pat i).b
    have := bd_add (hM.pat i).b h2
    rwa [← Int.sub_eq_add_neg] at this) (by omega))
  refine PureOK.fnF Tryz.func60 Tryz.results60 Tryz.ntmps60 rfl rfl rfl (by simp [AV.ids, AV0.ids, Atom.ids]) rfl (fun w0 T B E0 hB => ?_)
  refine SX.goJ ?_
  exact ret1 rfl
theorem pSub_at (a b : List Int) (j : Nat) : (pSub a b).getD j 0 = a.getD j 0 - b.getD j 0 := pBoth_at (op := (· - ·)) rfl a b j
theorem pAdd_at (a b : List Int) (j : Nat) : (pAdd a b).getD j 0 = a.getD j 0 + b.getD j 0 := pBoth_at (op := (· + ·)) rfl a b j
theorem pBoth_pN (op : Int → Int → Int) (a b : List Int) : pN (pBoth op a b) := by unfold pBoth; exact pNorm_pN _
theorem pSub_nil {a b : List Int} (ha : pN a) (hb : pN b) : (pSub a b).length = 0 ↔ a = b := by
  constructor
  · intro h
    refine pN_ext ha hb fun j => ?_
    have h2 := pSub_at a b j
    have h3 : (pSub a b).getD j 0 = 0 := getD_ge (by omega)
    omega
  · rintro rfl
    have h2 : ∀ j, (pSub a a).getD j 0 = ([] : List Int).getD j 0 := fun j => by
      rw [pSub_at]; show a.getD j 0 - a.getD j 0 = 0; omega
    have h3 : pSub a a = [] := pN_ext (pBoth_pN _ a a) (.inl rfl) h2
    rw [h3]; rfl
theorem con_pSame {l l' : List Z2} {zs zs' : List Int} {K K' : Nat} (hM : MZ l zs K) (hM' : MZ l' zs' K') (hl : l.length ≤ 10000) (hl' : l'.length ≤ 10000) (hK : K + K' ≤ 100000) (hn : pN zs) (hn' : pN zs') :
    PureOK Tryz.prog 99 [.r (rowR 2 z2C l), .r (rowR 2 z2C l')] (.v (.bool (decide (zs = zs')))) := by
  have c := con_pSub hM hM' hl hl' hK
  have hlen : ((pSub zs zs').map z2v).length = (pSub zs zs').length := List.length_map _
  rw [show decide (zs = zs') = decide ((pSub zs zs').length = 0) from decide_eq_decide.2 (pSub_nil hn hn').symm]
  refine PureOK.fnF Tryz.func99 Tryz.results99 Tryz.ntmps99 rfl rfl rfl (by simp [AV.ids, AV0.ids, Atom.ids]) rfl (fun w0 T B E0 hB => ?_)
  refine SX.goJ ?_
  refine retB ?_
  rw [decide_eq_decide]; omega
def pScale (zs : List Int) (d : Int) : List Int := pNorm (zs.map (· * d))
end Go.Proofs.YtfhpmbenldgfnaaGreatDoor
set_option linter.unusedVariables false
set_option linter.unusedSimpArgs false
namespace Go.Proofs.YtfhpmbenldgfnaaGreatDoor
open Go.RowKit QM SX LA
theorem PrP.lt {p : Nat} (h : PrP p) : 2 ≤ p ∧ p < 2147483648 := ⟨h.1, h.2.1⟩
abbrev gfA (p : Nat) : List Atom := [.c (.val (.int .u64 (p : Int)))]
def eqL {α : Type} (p : α → α → Bool) : List α → List α → Bool
  | [], [] => true
  | a :: l, b :: l' => p a b && eqL p l l'
  | _, _ => false
theorem eqL_len {α : Type} {p : α → α → Bool} : ∀ {l l' : List α}, l.length ≠ l'.length → eqL p l l' = false
  | [], [], h => absurd rfl h
  | [], _ :: _, _ => rfl
  | _ :: _, [], _ => rfl
  | a :: l, b :: l', h => by rw [eqL, eqL_len (l := l) (l' := l') (fun e => h (by rw [List.length_cons, List.length_cons, e])), Bool.and_false]
theorem eqL_drop {α : Type} {p : α → α → Bool} {l l' : List α} {k : Nat} {a b : α} (h : l[k]? = some a) (h' : l'[k]? = some b) : eqL p (l.drop k) (l'.drop k) = (p a b && eqL p (l.drop (k + 1)) (l'.drop (k + 1))) := by
  obtain ⟨h1, rfl⟩ := List.getElem?_eq_some_iff.1 h
  obtain ⟨h2, rfl⟩ := List.getElem?_eq_some_iff.1 h'
  rw [List.drop_eq_getElem_cons h1, List.drop_eq_getElem_cons h2, eqL]
theorem eqL_iff {α : Type} {p : α → α → Bool} : ∀ {l l' : List α}, (∀ a ∈ l, ∀ b ∈ l', p a b = true ↔ a = b) → (eqL p l l' = true ↔ l = l')
  | [], [], _ => by simp [eqL]
  | [], _ :: _, _ => by simp [eqL]
  | _ :: _, [], _ => by simp [eqL]
  | a :: l, b :: l', h => by
    rw [eqL, Bool.and_eq_true, h a (List.mem_cons_self ..) b (List.mem_cons_self ..), eqL_iff (l := l) (l' := l') fun x hx y hy => h x (List.mem_cons_of_mem _ hx) y (List.mem_cons_of_mem _ hy)]
    simp
attribute [local irreducible] IntKind.wrap Go1 Reg WP thenK inBlk retQ retF RetF RetOK ResOK CallOK OpOK Sat
attribute [local irreducible] qsub qmul qquo qcmp qadd qv redS mf PrP qOk zOk vP fp64 lz vF cq rqv plen pNorm
theorem con_gfNew {p : Nat} (h : PrP p) : PureOK Tryz.prog 74 [.v (.int .u64 (p : Int))] (.tup [.agg (gfA p), .one (.c (.val (.bool true)))]) := by
  have hp := h.lt
  have c := con_PrimeM p (by omega)
  rw [decide_eq_true h] at c
  refine PureOK.fnF Tryz.func74 Tryz.results74 Tryz.ntmps74 rfl rfl rfl (by simp [AV.ids, AV0.ids, Atom.ids]) rfl (fun w0 T B E0 hB => ?_)
  refine SX.goJ ?_
  exact .ok (RetOK.mk2 (ResOK.agg1 rfl rfl rfl) (ResOK.tmp rfl))
theorem con_gfP {p : Nat} (h : PrP p) : PureOK Tryz.prog 215 [.agg (gfA p)] (.v (.int .u64 (p : Int))) := by
  have hp := h.lt
  refine PureOK.fnF Tryz.func215 Tryz.results215 Tryz.ntmps215 rfl rfl rfl (by simp [AV.ids, AV0.ids, Atom.ids]) rfl (fun w0 T B E0 hB => ?_)
  refine SX.goJ ?_
  exact retI rfl
theorem con_gfNorm {p : Nat} (h : PrP p) (x : Nat) (hx : x < 18446744073709551616) : PureOK Tryz.prog 187 [.agg (gfA p), .v (.int .u64 (x : Int))] (.v (.int .u64 ((x % p : Nat) : Int))) := by
  have hp := h.lt
  have c := con_gfP h
  have hr : IntKind.u64.wrap ((x : Int).tmod (p : Int)) = ((x % p : Nat) : Int) := by rw [tmod_nat]; exact wrapN (Nat.lt_of_le_of_lt (Nat.mod_le x p) hx)
  refine PureOK.fnF Tryz.func187 Tryz.results187 Tryz.ntmps187 rfl rfl rfl (by simp [AV.ids, AV0.ids, Atom.ids]) rfl (fun w0 T B E0 hB => ?_)
  refine SX.goJ ?_
  exact retI rfl
theorem con_field (v : Vl) (h : PrP v.p) : PureOK Tryz.prog 101 [.agg (vlA v)] (.agg (gfA v.p)) := by
  have c := con_gfNew h
  refine PureOK.fnF Tryz.func101 Tryz.results101 Tryz.ntmps101 rfl rfl rfl (by simp [AV.ids, AV0.ids, Atom.ids]) rfl (fun w0 T B E0 hB => ?_)
  refine SX.goJ ?_
  exact retA (ResOK.agg1 rfl rfl rfl) rfl
abbrev fmA (r c : Nat) (l : List Nat) : List Atom := [.c (.val (.int .i64 (r : Int))), .c (.val (.int .i64 (c : Int))), .c (.sat (rowR 1 wdC l))]
theorem con_fF {r c : Nat} {l : List Nat} (hl : l.length = r * c) (hr : r ≤ 64) (hc : c ≤ 64) : PureOK Tryz.prog 154 [.agg (fmA r c l)] (.v (.bool true)) := by
  have h : PureOK Tryz.prog 154 [.agg (fmA r c l)] (.v (.bool (fp64 r c l.length))) := con_fFormed r c
  rw [fp64_nat hr hc hl] at h; exact h
theorem con_falike {r c r' c' : Nat} {l l' : List Nat} (hl : l.length = r * c) (hl' : l'.length = r' * c') (hr : r ≤ 64) (hc : c ≤ 64) (hr' : r' ≤ 64) (hc' : c' ≤ 64) :
    PureOK Tryz.prog 169 [.agg (fmA r c l), .agg (fmA r' c' l')] (.v (.bool (decide (r = r' ∧ c = c')))) := by
  have cF := con_fF hl hr hc
  have cF' := con_fF hl' hr' hc'
  refine PureOK.fnF Tryz.func169 Tryz.results169 Tryz.ntmps169 rfl rfl rfl (by simp [AV.ids, AV0.ids, Atom.ids]) rfl (fun w0 T B E0 hB => ?_)
  by_cases h1 : (r : Int) = (r' : Int)
  · refine SX.goJ ?_
    refine retB ?_
    rw [decide_eq_decide]; omega
  · refine SX.goJ ?_
    refine retB ?_; exact (decide_eq_false fun h => h1 (by omega)).symm
theorem con_EqfQ (l l' : List RawQ) (x : CA) (p : RawQ → RawQ → Bool) (hx : ∀ v ∈ l, ∀ u ∈ l', FnV Tryz.prog x [.agg (q4A (rq v)), .agg (q4A (rq u))] (.v (.bool (p v u)))) (hl : l.length ≤ 100000) (hl' : l'.length ≤ 100000) (hx1 : x.oneB = true) :
    PureOK Tryz.prog 183 [.r (rowR 4 q4C (l.map rq)), .r (rowR 4 q4C (l'.map rq)), .it (.one (.c x))] (.v (.bool (eqL p l l'))) := by
  have e1 : (l.map rq).length = l.length := List.length_map _
  have e2 : (l'.map rq).length = l'.length := List.length_map _
  refine PureOK.fnF Tryz.func183 Tryz.results183 Tryz.ntmps183 rfl rfl rfl (by simp [AV.ids, AV0.ids, Atom.ids]) rfl (fun w0 T B E0 hB => ?_)
  by_cases hne : l.length = l'.length
  rotate_left
  · rw [eqL_len hne]
    refine SX.goJ ?_
    exact retB rfl
  refine SX.goJ ?_
  refine W.loop (fun k => k ≤ l.length ∧ eqL p (l.drop k) (l'.drop k) = eqL p l l') (fun k => [(1, .r (rowR 4 q4C (l'.map rq))), (2, .it (.one (.c x))), (15, .r (rowR 4 q4C (l.map rq))), (16, .v (.int .i64 ((l.map rq).length : Int))), (17, .v (.int .i64 (k : Int)))]) (fun _ => []) (fun k => l.length - k) 0 ⟨Nat.zero_le _, rfl⟩ (fun k ⟨hk, he⟩ => ?_)
  by_cases h : k < l.length
  · obtain ⟨a, ha⟩ : ∃ a, l[k]? = some a := ⟨_, List.getElem?_eq_getElem h⟩
    obtain ⟨b, hb⟩ : ∃ b, l'[k]? = some b := ⟨_, List.getElem?_eq_getElem (by omega)⟩
    have hf := hx a (List.mem_of_getElem? ha) b (List.mem_of_getElem? hb)
    have hq : (l.map rq)[k]? = some (rq a) := by rw [List.getElem?_map, ha]; rfl
    have hq' : (l'.map rq)[k]? = some (rq b) := by rw [List.getElem?_map, hb]; rfl
    have h1 : k < (l.map rq).length := by rw [List.length_map]; exact h
    have h2 : k < (l'.map rq).length := by rw [List.length_map]; omega
    rw [eqL_drop ha hb] at he
    cases hp : p a b with
    | false =>
      rw [hp] at hf he
      refine SX.goJ ?_
      refine retB ?_; rw [← he]; rfl
    | true =>
      rw [hp] at hf he
      refine SX.goJ ?_
      exact W.next (k + 1) ⟨h, he⟩ (by omega)
  · obtain rfl : k = l.length := by omega
    rw [List.drop_length, hne, List.drop_length] at he
    refine SX.goJ ?_
    refine retB ?_; rw [← he]; rfl
theorem con_EqffQ (l l' : List RawQ) (f : FuncId) (p : RawQ → RawQ → Bool) (hx : ∀ v ∈ l, ∀ u ∈ l', PureOK Tryz.prog f [.agg (q4A (rq v)), .agg (q4A (rq u))] (.v (.bool (p v u)))) (hl : l.length ≤ 100000) (hl' : l'.length ≤ 100000) :
    PureOK Tryz.prog 183 [.r (rowR 4 q4C (l.map rq)), .r (rowR 4 q4C (l'.map rq)), .it (.one (.clo f []))] (.v (.bool (eqL p l l'))) :=
  cloArgs (con_EqfQ l l' (.sat (cloR f [] [])) p (fun v h u h' => FnV.const (hx v h u h')) hl hl' rfl)
theorem con_EqfW (l l' : List Nat) (x : CA) (p : Nat → Nat → Bool) (hx : ∀ v ∈ l, ∀ u ∈ l', FnV Tryz.prog x [.v (.int .u64 (v : Int)), .v (.int .u64 (u : Int))] (.v (.bool (p v u)))) (hl : l.length ≤ 100000) (hl' : l'.length ≤ 100000) (hx1 : x.oneB = true) :
    PureOK Tryz.prog 185 [.r (rowR 1 wdC l), .r (rowR 1 wdC l'), .it (.one (.c x))] (.v (.bool (eqL p l l'))) := by
  refine PureOK.fnF Tryz.func185 Tryz.results185 Tryz.ntmps185 rfl rfl rfl (by simp [AV.ids, AV0.ids, Atom.ids]) rfl (fun w0 T B E0 hB => ?_)
  by_cases hne : l.length = l'.length
  rotate_left
  · rw [eqL_len hne]
    refine SX.goJ ?_
    exact retB rfl
  refine SX.goJ ?_
  refine W.loop (fun k => k ≤ l.length ∧ eqL p (l.drop k) (l'.drop k) = eqL p l l') (fun k => [(1, .r (rowR 1 wdC l')), (2, .it (.one (.c x))), (15, .r (rowR 1 wdC l)), (16, .v (.int .i64 (l.length : Int))), (17, .v (.int .i64 (k : Int)))]) (fun _ => []) (fun k => l.length - k) 0 ⟨Nat.zero_le _, rfl⟩ (fun k ⟨hk, he⟩ => ?_)
  by_cases h : k < l.length
  · obtain ⟨a, ha⟩ : ∃ a, l[k]? = some a := ⟨_, List.getElem?_eq_getElem h⟩
    obtain ⟨b, hb⟩ : ∃ b, l'[k]? = some b := ⟨_, List.getElem?_eq_getElem (by omega)⟩
    have hf := hx a (List.mem_of_getElem? ha) b (List.mem_of_getElem? hb)
    rw [eqL_drop ha hb] at he
    cases hp : p a b with
    | false =>
      rw [hp] at hf he
      refine SX.goJ ?_
      refine retB ?_; rw [← he]; rfl
    | true =>
      rw [hp] at hf he
      refine SX.goJ ?_
      exact W.next (k + 1) ⟨h, he⟩ (by omega)
  · obtain rfl : k = l.length := by omega
    rw [List.drop_length, hne, List.drop_length] at he
    refine SX.goJ ?_
    refine retB ?_; rw [← he]; rfl
theorem con_EqfV (l l' : List Vl) (x : CA) (p : Vl → Vl → Bool) (hx : ∀ v ∈ l, ∀ u ∈ l', FnV Tryz.prog x [.agg (vlA v), .agg (vlA u)] (.v (.bool (p v u)))) (hl : l.length ≤ 100000) (hl' : l'.length ≤ 100000) (hx1 : x.oneB = true) :
    PureOK Tryz.prog 103 [.r (rowR 15 vlC l), .r (rowR 15 vlC l'), .it (.one (.c x))] (.v (.bool (eqL p l l'))) := by
  rw [row_vlE, row_vlE]
  refine PureOK.fnF Tryz.func103 Tryz.results103 Tryz.ntmps103 rfl rfl rfl (by simp [AV.ids, AV0.ids, Atom.ids]) rfl (fun w0 T B E0 hB => ?_)
  by_cases hne : l.length = l'.length
  rotate_left
  · rw [eqL_len hne]
    refine SX.goJ ?_
    exact retB rfl
  refine SX.goJ ?_
  refine W.loop (fun k => k ≤ l.length ∧ eqL p (l.drop k) (l'.drop k) = eqL p l l') (fun k => [(1, .r (rowR 15 vlE l')), (2, .it (.one (.c x))), (15, .r (rowR 15 vlE l)), (16, .v (.int .i64 (l.length : Int))), (17, .v (.int .i64 (k : Int)))]) (fun _ => []) (fun k => l.length - k) 0 ⟨Nat.zero_le _, rfl⟩ (fun k ⟨hk, he⟩ => ?_)
  by_cases h : k < l.length
  · obtain ⟨a, ha⟩ : ∃ a, l[k]? = some a := ⟨_, List.getElem?_eq_getElem h⟩
    obtain ⟨b, hb⟩ : ∃ b, l'[k]? = some b := ⟨_, List.getElem?_eq_getElem (by omega)⟩
    have hf := hx a (List.mem_of_getElem? ha) b (List.mem_of_getElem? hb)
    rw [eqL_drop ha hb] at he
    cases hp : p a b with
    | false =>
      rw [hp] at hf he
      refine SX.goJ ?_
      refine retB ?_; rw [← he]; rfl
    | true =>
      rw [hp] at hf he
      refine SX.goJ ?_
      exact W.next (k + 1) ⟨h, he⟩ (by omega)
  · obtain rfl : k = l.length := by omega
    rw [List.drop_length, hne, List.drop_length] at he
    refine SX.goJ ?_
    refine retB ?_; rw [← he]; rfl
theorem con_EqffV (l l' : List Vl) (f : FuncId) (p : Vl → Vl → Bool) (hx : ∀ v ∈ l, ∀ u ∈ l', PureOK Tryz.prog f [.agg (vlA v), .agg (vlA u)] (.v (.bool (p v u)))) (hl : l.length ≤ 100000) (hl' : l'.length ≤ 100000) :
    PureOK Tryz.prog 103 [.r (rowR 15 vlC l), .r (rowR 15 vlC l'), .it (.one (.clo f []))] (.v (.bool (eqL p l l'))) :=
  cloArgs (con_EqfV l l' (.sat (cloR f [] [])) p (fun v h u h' => FnV.const (hx v h u h')) hl hl' rfl)
theorem con_EqualW (l l' : List Nat) (hl : l.length ≤ 100000) (hl' : l'.length ≤ 100000) : PureOK Tryz.prog 102 [.r (rowR 1 wdC l), .r (rowR 1 wdC l')] (.v (.bool (decide (l = l')))) := by
  have e : decide (l = l') = eqL (fun a b => decide (a = b)) l l' := by
    rw [Bool.eq_iff_iff, decide_eq_true_iff]
    exact (eqL_iff fun a _ b _ => by rw [decide_eq_true_iff]).symm
  rw [e]
  refine PureOK.fnF Tryz.func102 Tryz.results102 Tryz.ntmps102 rfl rfl rfl (by simp [AV.ids, AV0.ids, Atom.ids]) rfl (fun w0 T B E0 hB => ?_)
  by_cases hne : l.length = l'.length
  rotate_left
  · rw [eqL_len hne]
    refine SX.goJ ?_
    exact retB rfl
  refine SX.goJ ?_
  refine W.loop (fun k => k ≤ l.length ∧ eqL (fun a b => decide (a = b)) (l.drop k) (l'.drop k) = eqL (fun a b => decide (a = b)) l l') (fun k => [(0, .r (rowR 1 wdC l)), (1, .r (rowR 1 wdC l')), (12, .v (.int .i64 (l.length : Int))), (13, .v (.int .i64 (k : Int)))]) (fun _ => []) (fun k => l.length - k) 0 ⟨Nat.zero_le _, rfl⟩ (fun k ⟨hk, he⟩ => ?_)
  by_cases h : k < l.length
  · obtain ⟨a, ha⟩ : ∃ a, l[k]? = some a := ⟨_, List.getElem?_eq_getElem h⟩
    obtain ⟨b, hb⟩ : ∃ b, l'[k]? = some b := ⟨_, List.getElem?_eq_getElem (by omega)⟩
    rw [eqL_drop ha hb] at he
    by_cases hab : a = b
    · have hab' : (a : Int) = (b : Int) := by omega
      rw [decide_eq_true hab] at he
      refine SX.goJ ?_
      exact W.next (k + 1) ⟨h, he⟩ (by omega)
    · have hab' : ¬ (a : Int) = (b : Int) := by omega
      rw [decide_eq_false hab] at he
      refine SX.goJ ?_
      refine retB ?_; rw [← he]; rfl
  · obtain rfl : k = l.length := by omega
    rw [List.drop_length, hne, List.drop_length] at he
    refine SX.goJ ?_
    refine retB ?_; rw [← he]; rfl
theorem con_fSame1 {p : Nat} (h : PrP p) (x y : Nat) (hx : x < p) (hy : y < p) : PureOK Tryz.prog 186 [.v (.int .u64 (x : Int)), .v (.int .u64 (y : Int)), .r (ptrR [.val (.int .u64 (p : Int))])] (.v (.bool (decide (x = y)))) := by
  have hp := h.lt
  have c1 := con_gfNorm h x (by omega)
  have c2 := con_gfNorm h y (by omega)
  rw [Nat.mod_eq_of_lt hx] at c1
  rw [Nat.mod_eq_of_lt hy] at c2
  refine PureOK.fnF Tryz.func186 Tryz.results186 Tryz.ntmps186 rfl rfl rfl (by simp [AV.ids, AV0.ids, Atom.ids]) rfl (fun w0 T B E0 hB => ?_)
  refine SX.goJ ?_
  refine retB ?_; rw [decide_eq_decide]; omega
theorem con_fSame {p r c r' c' : Nat} {l l' : List Nat} (h : PrP p) (hl : l.length = r * c) (hl' : l'.length = r' * c') (hr : r ≤ 64) (hc : c ≤ 64) (hr' : r' ≤ 64) (hc' : c' ≤ 64) (hb : ∀ x ∈ l, x < p) (hb' : ∀ x ∈ l', x < p) :
    PureOK Tryz.prog 100 [.agg (gfA p), .agg (fmA r c l), .agg (fmA r' c' l')] (.v (.bool (decide (r = r' ∧ c = c' ∧ l = l')))) := by
  have cA := con_falike hl hl' hr hc hr' hc'
  have m1 := Nat.mul_le_mul hr hc
  have m2 := Nat.mul_le_mul hr' hc'
  have cE := con_EqfW l l' (.sat (cloR 186 [] [.sat (ptrR [.val (.int .u64 (p : Int))])])) (fun x y => decide (x = y)) (fun x hx y hy => FnV.clo (con_fSame1 h x y (hb x hx) (hb' y hy))) (by omega) (by omega) rfl
  rw [show eqL (fun x y => decide (x = y)) l l' = decide (l = l') by
    rw [Bool.eq_iff_iff, decide_eq_true_iff]
    exact eqL_iff fun a _ b _ => by rw [decide_eq_true_iff]] at cE
  refine PureOK.fnF Tryz.func100 Tryz.results100 Tryz.ntmps100 rfl rfl rfl (by simp [AV.ids, AV0.ids, Atom.ids]) rfl (fun w0 T B E0 hB => ?_)
  refine SX.goJ ?_
  refine SX.WP.freezeB 3 hB rfl rfl ?_
  refine SX.WP.regionL ?_
  by_cases h1 : r = r' ∧ c = c'
  · rw [decide_eq_true h1] at cA
    refine SX.goJ ?_
    refine retB ?_; rw [decide_eq_decide]; exact ⟨fun h => ⟨h1.1, h1.2, h⟩, fun h => h.2.2⟩
  · rw [decide_eq_false h1] at cA
    refine SX.goJ ?_
    refine retB ?_; exact (decide_eq_false fun h => h1 ⟨h.1, h.2.1⟩).symm
end Go.Proofs.YtfhpmbenldgfnaaGreatDoor
set_option linter.unusedVariables false
set_option linter.unusedSimpArgs false
namespace Go.Proofs.YtfhpmbenldgfnaaGreatDoor
open Go.RowKit QM SX LA
def wN (l : List Nat) : Prop := l.length = 0 ∨ l.getD (l.length - 1) 0 ≠ 0
inductive Sh (K : Nat) : Vl → Prop
  | num (x : Rat) (h : RB x K) : Sh K (vNum x)
  | mat (r c : Nat) (vs : List Rat) (hl : vs.length = r * c) (hr : r ≤ 64) (hc : c ≤ 64) (h : ∀ v ∈ vs, RB v K) : Sh K (vMat r c vs)
  | pol (zs : List Int) (hl : zs.length ≤ 10000) (hn : pN zs) (h : ∀ z ∈ zs, z.natAbs < WB ^ K) : Sh K (vPol zs)
  | fld (p r c : Nat) (l : List Nat) (hp : PrP p) (hl : l.length = r * c) (hr : r ≤ 64) (hc : c ≤ 64) (h : ∀ x ∈ l, x < p) : Sh K (vFld p r c l)
  | rng (p : Nat) (l : List Nat) (hp : PrP p) (hl : l.length ≤ 10000) (hn : wN l) (h : ∀ x ∈ l, x < p) : Sh K (vRng p l)
inductive Cv (K : Nat) : Nat → Vl → Prop
  | one {n : Nat} {v : Vl} (h : Sh K v) : Cv K n v
  | lst {n : Nat} (l : List Vl) (hl : l.length ≤ 10000) (h : ∀ x ∈ l, Cv K n x) : Cv K (n + 1) (vLst l)
noncomputable def sameV (u v : Vl) : Bool := @decide (u = v) (Classical.propDecidable _)
theorem sameV_iff {u v : Vl} : sameV u v = true ↔ u = v := by unfold sameV; exact @decide_eq_true_iff _ (Classical.propDecidable _)
theorem sameV_no {u v : Vl} (h : u ≠ v) : sameV u v = false := Bool.eq_false_iff.2 fun e => h (sameV_iff.1 e)
theorem sameV_self (u : Vl) : sameV u u = true := sameV_iff.2 rfl
theorem sameV_of {u v : Vl} {p : Prop} [Decidable p] (h : u = v ↔ p) : sameV u v = decide p := by
  rw [Bool.eq_iff_iff, sameV_iff, decide_eq_true_iff]; exact h
theorem cq_inj {x y : Rat} (h : cq x = cq y) : x = y := by rw [← cq_val x, h, cq_val]
theorem cz_inj {x y : Int} (h : cz x = cz y) : x = y := by rw [← cz_val x, h, cz_val]
theorem map_inj {α β : Type} {f : α → β} (hf : ∀ {x y}, f x = f y → x = y) : ∀ {l l' : List α}, l.map f = l'.map f → l = l'
  | [], [], _ => rfl
  | a :: l, b :: l', h => by
    rw [List.map_cons, List.map_cons] at h
    injection h with h1 h2
    rw [hf h1, map_inj hf h2]
theorem vNum_inj {x y : Rat} : vNum x = vNum y ↔ x = y := ⟨fun h => by injection h with _ h; exact cq_inj h, fun h => by rw [h]⟩
theorem vMat_inj {r c r' c' : Nat} {vs vs' : List Rat} : vMat r c vs = vMat r' c' vs' ↔ r = r' ∧ c = c' ∧ vs = vs' := by
  constructor
  · intro h
    injection h with _ _ h1 h2 h3
    exact ⟨by omega, by omega, map_inj cq_inj h3⟩
  · rintro ⟨rfl, rfl, rfl⟩; rfl
theorem vPol_inj {a b : List Int} : vPol a = vPol b ↔ a = b := ⟨fun h => by injection h with _ _ _ _ _ h; exact map_inj cz_inj h, fun h => by rw [h]⟩
theorem vFld_inj {p r c p' r' c' : Nat} {l l' : List Nat} : vFld p r c l = vFld p' r' c' l' ↔ p = p' ∧ r = r' ∧ c = c' ∧ l = l' := by
  constructor
  · intro h
    injection h with _ _ _ _ _ _ h1 h2 h3 h4
    exact ⟨h1, by omega, by omega, h4⟩
  · rintro ⟨rfl, rfl, rfl, rfl⟩; rfl
theorem vRng_inj {p p' : Nat} {l l' : List Nat} : vRng p l = vRng p' l' ↔ p = p' ∧ l = l' := by
  constructor
  · intro h
    injection h with _ _ _ _ _ _ h1 _ _ _ h2
    exact ⟨h1, h2⟩
  · rintro ⟨rfl, rfl⟩; rfl
theorem vLst_inj {l l' : List Vl} : vLst l = vLst l' ↔ l = l' := ⟨fun h => by injection h, fun h => by rw [h]⟩
theorem MZ.ofz {zs : List Int} {K : Nat} (h : ∀ z ∈ zs, z.natAbs < WB ^ K) : MZ ((zs.map cz).map rz) zs K := by
  have := MZ.raw (l := zs.map cz) (K := K) (fun a ha => by obtain ⟨z, _, rfl⟩ := List.mem_map.1 ha; exact cz_sm z) (fun a ha => by obtain ⟨z, hz, rfl⟩ := List.mem_map.1 ha; exact wds_len (h z hz))
  rwa [cz_vals] at this
attribute [local irreducible] IntKind.wrap Go1 Reg WP thenK inBlk retQ retF RetF RetOK ResOK CallOK OpOK Sat
attribute [local irreducible] qsub qmul qquo qcmp qadd qv redS mf PrP qOk zOk vP fp64 lz vF cq rqv plen pNorm
theorem con_qs1 {x y : Rat} {K L : Nat} (hx : RB x K) (hy : RB y L) (hK : K + L ≤ 400000) : PureOK Tryz.prog 184 [.agg (q4A (rq (cq x))), .agg (q4A (rq (cq y)))] (.v (.bool (decide (rqv (cq x) = rqv (cq y))))) := by
  rw [cq_val, cq_val]
  haveI := Ra.cq hx
  haveI := Ra.cq hy
  obtain ⟨z, cA, hz, _⟩ := eCmp (q4A (rq (cq x))) (q4A (rq (cq y))) (K := K) (K' := L) (by omega)
  rw [← decide_eq_decide.2 hz]
  refine PureOK.fnF Tryz.func184 Tryz.results184 Tryz.ntmps184 rfl rfl rfl (by simp [AV.ids, AV0.ids, Atom.ids]) rfl (fun w0 T B E0 hB => ?_)
  refine SX.goJ ?_
  exact retB rfl
theorem con_qmSameG {r c r' c' : Nat} {vs vs' : List Rat} {K L : Nat} (hv : ∀ v ∈ vs, RB v K) (hv' : ∀ v ∈ vs', RB v L) (hK : K + L ≤ 400000) (hl : vs.length = r * c) (hl' : vs'.length = r' * c') (hr : r ≤ 64) (hc : c ≤ 64) (hr' : r' ≤ 64) (hc' : c' ≤ 64) :
    PureOK Tryz.prog 98 [.agg (matQ r c ((vs.map cq).map rq)), .agg (matQ r' c' ((vs'.map cq).map rq))] (.v (.bool (decide (r = r' ∧ c = c' ∧ vs = vs')))) := by
  have m1 := Nat.mul_le_mul hr hc
  have m2 := Nat.mul_le_mul hr' hc'
  have k1 : (vs.map cq).length = vs.length := List.length_map _
  have k2 : (vs'.map cq).length = vs'.length := List.length_map _
  have cA := con_alike (l := (vs.map cq).map rq) (l' := (vs'.map cq).map rq) (by rw [List.length_map, List.length_map]; exact hl) (by rw [List.length_map, List.length_map]; exact hl') hr hc hr' hc' (decide (r = r' ∧ c = c')) decide_eq_true_iff
  have cE := con_EqffQ (vs.map cq) (vs'.map cq) 184 (fun a b => decide (rqv a = rqv b)) (fun a ha b hb => by
    obtain ⟨x, hx, rfl⟩ := List.mem_map.1 ha
    obtain ⟨y, hy, rfl⟩ := List.mem_map.1 hb
    exact con_qs1 (hv x hx) (hv' y hy) hK) (by omega) (by omega)
  have e : eqL (fun a b => decide (rqv a = rqv b)) (vs.map cq) (vs'.map cq) = decide (vs = vs') := by
    rw [Bool.eq_iff_iff, decide_eq_true_iff, eqL_iff (fun a ha b hb => by
      obtain ⟨x, hx, rfl⟩ := List.mem_map.1 ha
      obtain ⟨y, hy, rfl⟩ := List.mem_map.1 hb
      rw [decide_eq_true_iff, cq_val, cq_val]
      exact ⟨fun h => by rw [h], cq_inj⟩)]
    exact ⟨map_inj cq_inj, fun h => by rw [h]⟩
  rw [e] at cE
  refine PureOK.fnF Tryz.func98 Tryz.results98 Tryz.ntmps98 rfl rfl rfl (by simp [AV.ids, AV0.ids, Atom.ids]) rfl (fun w0 T B E0 hB => ?_)
  by_cases h1 : r = r' ∧ c = c'
  · rw [decide_eq_true h1] at cA
    refine SX.goJ ?_
    refine retB ?_; rw [decide_eq_decide]; exact ⟨fun h => ⟨h1.1, h1.2, h⟩, fun h => h.2.2⟩
  · rw [decide_eq_false h1] at cA
    refine SX.goJ ?_
    refine retB ?_; exact (decide_eq_false fun h => h1 ⟨h.1, h.2.1⟩).symm
theorem con_sameK (u v : Vl) (h : u.k ≠ v.k ∨ u.p ≠ v.p) : PureOK Tryz.prog 42 [.agg (vlA u), .agg (vlA v)] (.v (.bool (sameV u v))) := by
  rw [sameV_no (by rintro rfl; exact h.elim (fun h => h rfl) fun h => h rfl)]
  refine PureOK.fnF Tryz.func42 Tryz.results42 Tryz.ntmps42 rfl rfl rfl (by simp [AV.ids, AV0.ids, Atom.ids]) rfl (fun w0 T B E0 hB => ?_)
  by_cases h1 : u.k = v.k
  · have h2 : ¬ (u.p : Int) = (v.p : Int) := by omega
    refine SX.goJ ?_
    exact retB rfl
  · refine SX.goJ ?_
    exact retB rfl
section
variable {K L : Nat} (hKL : K + L ≤ 100000)
include hKL
theorem con_same2 {r c r' c' : Nat} {vs vs' : List Rat} (hv : ∀ v ∈ vs, RB v K) (hv' : ∀ v ∈ vs', RB v L) (hl : vs.length = r * c) (hl' : vs'.length = r' * c') (hr : r ≤ 64) (hc : c ≤ 64) (hr' : r' ≤ 64) (hc' : c' ≤ 64) :
    PureOK Tryz.prog 42 [.agg (vlA (vMat r c vs)), .agg (vlA (vMat r' c' vs'))] (.v (.bool (sameV (vMat r c vs) (vMat r' c' vs')))) := by
  have c1 := con_qmSameG hv hv' (by omega) hl hl' hr hc hr' hc'
  rw [sameV_of vMat_inj]
  refine PureOK.fnF Tryz.func42 Tryz.results42 Tryz.ntmps42 rfl rfl rfl (by simp [AV.ids, AV0.ids, Atom.ids]) rfl (fun w0 T B E0 hB => ?_)
  refine SX.goJ ?_
  exact retB rfl
theorem con_same3 {a b : List Int} (hl : a.length ≤ 10000) (hn : pN a) (h : ∀ z ∈ a, z.natAbs < WB ^ K) (hl' : b.length ≤ 10000) (hn' : pN b) (h' : ∀ z ∈ b, z.natAbs < WB ^ L) :
    PureOK Tryz.prog 42 [.agg (vlA (vPol a)), .agg (vlA (vPol b))] (.v (.bool (sameV (vPol a) (vPol b)))) := by
  have c1 := con_pSame (MZ.ofz h) (MZ.ofz h') (by rw [List.length_map, List.length_map]; exact hl) (by rw [List.length_map, List.length_map]; exact hl') hKL hn hn'
  rw [sameV_of vPol_inj]
  refine PureOK.fnF Tryz.func42 Tryz.results42 Tryz.ntmps42 rfl rfl rfl (by simp [AV.ids, AV0.ids, Atom.ids]) rfl (fun w0 T B E0 hB => ?_)
  refine SX.goJ ?_
  exact retB rfl
omit hKL in
theorem con_same4 {p r c r' c' : Nat} {l l' : List Nat} (hp : PrP p) (hl : l.length = r * c) (hr : r ≤ 64) (hc : c ≤ 64) (h : ∀ x ∈ l, x < p) (hl' : l'.length = r' * c') (hr' : r' ≤ 64) (hc' : c' ≤ 64) (h' : ∀ x ∈ l', x < p) :
    PureOK Tryz.prog 42 [.agg (vlA (vFld p r c l)), .agg (vlA (vFld p r' c' l'))] (.v (.bool (sameV (vFld p r c l) (vFld p r' c' l')))) := by
  have cf := con_field (vFld p r c l) hp
  have c1 := con_fSame hp hl hl' hr hc hr' hc' h h'
  have e : ((vFld p r c l).p : Int) = ((vFld p r' c' l').p : Int) := rfl
  rw [sameV_of (p := r = r' ∧ c = c' ∧ l = l') (vFld_inj.trans ⟨fun h => h.2, fun h => ⟨rfl, h⟩⟩)]
  refine PureOK.fnF Tryz.func42 Tryz.results42 Tryz.ntmps42 rfl rfl rfl (by simp [AV.ids, AV0.ids, Atom.ids]) rfl (fun w0 T B E0 hB => ?_)
  refine SX.goJ ?_
  exact retB rfl
omit hKL in
theorem con_same5 {p : Nat} {l l' : List Nat} (hl : l.length ≤ 10000) (hl' : l'.length ≤ 10000) :
    PureOK Tryz.prog 42 [.agg (vlA (vRng p l)), .agg (vlA (vRng p l'))] (.v (.bool (sameV (vRng p l) (vRng p l')))) := by
  have c1 := con_EqualW l l' (by omega) (by omega)
  have e : ((vRng p l).p : Int) = ((vRng p l').p : Int) := rfl
  rw [sameV_of (p := l = l') (vRng_inj.trans ⟨fun h => h.2, fun h => ⟨rfl, h⟩⟩)]
  refine PureOK.fnF Tryz.func42 Tryz.results42 Tryz.ntmps42 rfl rfl rfl (by simp [AV.ids, AV0.ids, Atom.ids]) rfl (fun w0 T B E0 hB => ?_)
  refine SX.goJ ?_
  exact retB rfl
omit hKL in
theorem con_same6 {l l' : List Vl} (hl : l.length ≤ 10000) (hl' : l'.length ≤ 10000) (h : ∀ x ∈ l, ∀ y ∈ l', PureOK Tryz.prog 42 [.agg (vlA x), .agg (vlA y)] (.v (.bool (sameV x y)))) :
    PureOK Tryz.prog 42 [.agg (vlA (vLst l)), .agg (vlA (vLst l'))] (.v (.bool (sameV (vLst l) (vLst l')))) := by
  have c1 := con_EqffV l l' 42 sameV h (by omega) (by omega)
  rw [show eqL sameV l l' = sameV (vLst l) (vLst l') by
    rw [Bool.eq_iff_iff, sameV_iff, vLst_inj]
    exact eqL_iff fun a _ b _ => sameV_iff] at c1
  refine PureOK.fnF Tryz.func42 Tryz.results42 Tryz.ntmps42 rfl rfl rfl (by simp [AV.ids, AV0.ids, Atom.ids]) rfl (fun w0 T B E0 hB => ?_)
  refine SX.goJ ?_
  exact retB rfl
theorem con_sameSh {u v : Vl} (hu : Sh K u) (hv : Sh L v) : PureOK Tryz.prog 42 [.agg (vlA u), .agg (vlA v)] (.v (.bool (sameV u v))) := by
  by_cases hk : u.k = v.k ∧ u.p = v.p
  · cases hu with
    | num x h => cases hv with
      | num y h' =>
        rw [sameV_of vNum_inj]; exact con_vsame1 h h' (by omega)
      | _ => exact absurd hk.1 (by simp)
    | mat r c vs hl hr hc h => cases hv with
      | mat r' c' vs' hl' hr' hc' h' => exact con_same2 hKL h h' hl hl' hr hc hr' hc'
      | _ => exact absurd hk.1 (by simp)
    | pol zs hl hn h => cases hv with
      | pol zs' hl' hn' h' => exact con_same3 hKL hl hn h hl' hn' h'
      | _ => exact absurd hk.1 (by simp)
    | fld p r c l hp hl hr hc h => cases hv with
      | fld p' r' c' l' hp' hl' hr' hc' h' =>
        obtain rfl : p = p' := hk.2
        exact con_same4 hp hl hr hc h hl' hr' hc' h'
      | _ => exact absurd hk.1 (by simp)
    | rng p l hp hl hn h => cases hv with
      | rng p' l' hp' hl' hn' h' =>
        obtain rfl : p = p' := hk.2
        exact con_same5 hl hl'
      | _ => exact absurd hk.1 (by simp)
  · exact con_sameK u v (by omega)
theorem con_same : ∀ (n m : Nat) (u v : Vl), Cv K n u → Cv L m v → PureOK Tryz.prog 42 [.agg (vlA u), .agg (vlA v)] (.v (.bool (sameV u v))) := by
  intro n
  induction n with
  | zero =>
    intro m u v hu hv
    cases hu with
    | one hu => cases hv with
      | one hv => exact con_sameSh hKL hu hv
      | lst l hl h => exact con_sameK u _ (by cases hu <;> exact .inl (by simp))
  | succ n ih =>
    intro m u v hu hv
    cases hu with
    | one hu => cases hv with
      | one hv => exact con_sameSh hKL hu hv
      | lst l hl h => exact con_sameK u _ (by cases hu <;> exact .inl (by simp))
    | lst l hl h => cases hv with
      | one hv => exact con_sameK _ v (by cases hv <;> exact .inl (by simp))
      | lst l' hl' h' => exact con_same6 hl hl' fun x hx y hy => ih _ x y (h x hx) (h' y hy)
end
end Go.Proofs.YtfhpmbenldgfnaaGreatDoor

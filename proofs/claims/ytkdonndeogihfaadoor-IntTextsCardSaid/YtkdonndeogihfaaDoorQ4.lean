import Derived.Test.YtkdonndeogihfaaDoorQ2
/- The reference for naturals (package quincunxref01): Cmp, Mul. -/
set_option linter.unusedVariables false
set_option linter.unusedSimpArgs false
namespace Go.Proofs.YtkdonndeogihfaaDoor
open Go.RowKit QM SX
attribute [local irreducible] IntKind.wrap bitLen cmpI nval Go1 Reg WP thenK inBlk retQ RetOK ResOK CallOK OpOK Sat
theorem tlen_bound (l : List Nat) (h : l.length ≤ 1000000000) : l.length ≤ 9223372036854775807 := by omega
theorem rTrimS (l : List Nat) (hs : Sm 65536 l) (hl : l.length ≤ 9223372036854775807) : PureOK Tryd.prog 70 [.r (digR l)] (.r (digR (dgs (nval 65536 l)))) := by
  rw [← trim_dgs hs]; exact rTrim l hl
theorem dgs_len_le {l : List Nat} (hs : Sm 65536 l) : (dgs (nval 65536 l)).length ≤ l.length := by
  rw [← trim_dgs hs, List.length_take]; exact Nat.min_le_right _ _
theorem dgs_len {n k : Nat} (h : n < 65536 ^ k) : (dgs n).length ≤ k := (dgs_nrm n).len_le (B := 65536) (by omega) (by rw [dgs_val]; exact h)
theorem dgs_zero : dgs 0 = [] := by rfl
theorem nval_scale (B b : Nat) : ∀ l : List Nat, nval B (l.map (· * b)) = b * nval B l
  | [] => by simp [nval]
  | x :: l => by simp only [List.map_cons, nval, nval_scale B b l]; grind
/-- A line of a product by hand. -/
def pline (la : List Nat) (b i k : Nat) : List Nat := List.replicate i 0 ++ (la.take k).map (· * b)
theorem pline_len {la : List Nat} {b i k : Nat} (h : k ≤ la.length) : (pline la b i k).length = i + k := by simp [pline, Nat.min_eq_left h]
theorem pline_succ {la : List Nat} {b i k : Nat} (h : k < la.length) : pline la b i (k + 1) = pline la b i k ++ [la.getD k 0 * b] := by
  unfold pline
  rw [List.take_add_one, List.getElem?_eq_getElem h, List.getD_eq_getElem?_getD, List.getElem?_eq_getElem h]
  simp only [List.map_append, Option.toList_some, List.map_cons, List.map_nil, List.append_assoc, Option.getD_some]
theorem pline_val (la : List Nat) (b i : Nat) : nval 65536 (pline la b i la.length) = 65536 ^ i * (b * nval 65536 la) := by
  unfold pline
  rw [nval_append, nval_replicate, List.take_length, nval_scale, List.length_replicate]; omega
theorem pline_small {la : List Nat} {b i k : Nat} (h : Sm 65536 la) (hb : b < 65536) : ∀ x ∈ pline la b i k, x ≤ 4611686018427387903 := by
  intro x hx
  unfold pline at hx
  rcases List.mem_append.1 hx with hx | hx
  · rw [List.eq_of_mem_replicate hx]; omega
  · obtain ⟨y, hy, rfl⟩ := List.mem_map.1 hx
    have h1 := h y (List.mem_of_mem_take hy)
    have : y * b ≤ 65536 * 65536 := Nat.mul_le_mul (by omega) (by omega)
    omega
set_option maxRecDepth 100000 in
set_option maxHeartbeats 1000000 in
theorem rMul0 (la lb : List Nat) (ha : Sm 65536 la) (hb : Sm 65536 lb) (hl : la.length + lb.length ≤ 100000000) : PureOK Tryd.prog 76 [.r (digR la), .r (digR lb)] (.r (digR (dgs (nval 65536 la * nval 65536 lb)))) := by
  refine PureOK.fn Tryd.func76 Tryd.results76 Tryd.ntmps76 rfl rfl rfl (by simp [AV.ids, AV0.ids, Atom.ids]) rfl (fun w0 T B E0 hB => ?_)
  repeat (first | refine SX.goZ ?_)
  refine WP.loop (ι := {i : Nat // i ≤ lb.length}) (fun i => mkSt [(0, .r (digR la)), (1, .r (digR lb)), (5, .r (digR (dgs (nval 65536 la * nval 65536 (lb.take i.val))))), (6, .v (.int .i64 (i.val : Int)))] [])
    (fun i => lb.length - i.val) ⟨0, Nat.zero_le _⟩
    (St.le_to [] (fun b h => by cases h) ⟨⟨_, rfl, AVto.same rfl⟩, ⟨_, rfl, AVto.same rfl⟩, ⟨_, rfl, by simp only [List.take_zero, nval, Nat.mul_zero, dgs_zero]; exact AVto.nilDig _⟩, ⟨_, rfl, AVto.same rfl⟩, trivial⟩ trivial rfl) (fun i => ?_)
  obtain ⟨i, hi⟩ := i
  simp only
  by_cases ht : i < lb.length
  · have d1 : decide ((i : Int) < (lb.length : Int)) = true := decide_eq_true (by omega)
    have a4 : IntKind.i64.wrap ((i : Int) + 1) = ((i + 1 : Nat) : Int) := by rw [← Int.natCast_add_one]; exact wrapI64 (by omega) (by omega)
    have gb := gd_get ht
    have sb := gd_sm hb i
    have hval : nval 65536 (lb.take (i + 1)) = nval 65536 (lb.take i) + 65536 ^ i * lb.getD i 0 := nval_take_succ lb i
    generalize lb.getD i 0 = b at *
    have hT : nval 65536 (lb.take i) < 65536 ^ lb.length := Nat.lt_of_lt_of_le (nval_lt (hb.take i)) (Nat.pow_le_pow_right (by omega) (by rw [List.length_take]; exact Nat.min_le_right _ _))
    have hA := nval_lt ha
    repeat (first | refine SX.goZ ?_)
    refine WP.loop (ι := {k : Nat // k ≤ i}) (fun k => mkSt [(0, .r (digR la)), (1, .r (digR lb)), (5, .r (digR (dgs (nval 65536 la * nval 65536 (lb.take i))))), (6, .v (.int .i64 (i : Int))), (7, .own 101), (8, .v (.int .i64 (k.val : Int)))] [(101, .row 3 1 (List.replicate k.val 0).length ((List.replicate k.val 0).map digC))])
      (fun k => i - k.val) ⟨0, Nat.zero_le _⟩
      (St.le_to [(101, none)] (fun b h => by cases h) ⟨⟨_, rfl, AVto.same rfl⟩, ⟨_, rfl, AVto.same rfl⟩, ⟨_, rfl, AVto.same rfl⟩, ⟨_, rfl, AVto.same rfl⟩, ⟨_, rfl, AVto.nil rfl⟩, ⟨_, rfl, AVto.same rfl⟩, trivial⟩ ⟨.nilRow rfl, trivial⟩ rfl) (fun k => ?_)
    obtain ⟨k, hk⟩ := k
    simp only
    have hrl : (List.replicate k 0).length = k := List.length_replicate
    by_cases hki : k < i
    · have d2 : decide ((k : Int) < (i : Int)) = true := decide_eq_true (by omega)
      have a5 : IntKind.i64.wrap ((k : Int) + 1) = ((k + 1 : Nat) : Int) := by rw [← Int.natCast_add_one]; exact wrapI64 (by omega) (by omega)
      repeat (first | refine SX.goZ ?_)
      refine ⟨⟨k + 1, by omega⟩, ?_, by simp only; omega⟩
      exact St.le_to [(101, some 23)] (fun b h => by cases h) ⟨⟨_, rfl, AVto.same rfl⟩, ⟨_, rfl, AVto.same rfl⟩, ⟨_, rfl, AVto.same rfl⟩, ⟨_, rfl, AVto.same rfl⟩, ⟨_, rfl, AVto.own rfl⟩, ⟨_, rfl, AVto.same rfl⟩, trivial⟩ ⟨.row rfl rfl (by simp) (by rw [List.replicate_succ', List.map_append]; rfl), trivial⟩ rfl
    · obtain rfl : k = i := by omega
      have d2 : decide ((k : Int) < (k : Int)) = false := decide_eq_false (by omega)
      repeat (first | refine SX.goZ ?_)
      refine WP.loop (ι := {m : Nat // m ≤ la.length}) (fun m => mkSt [(0, .r (digR la)), (1, .r (digR lb)), (5, .r (digR (dgs (nval 65536 la * nval 65536 (lb.take k))))), (6, .v (.int .i64 (k : Int))), (7, .own 102), (9, .v (.int .i64 (m.val : Int)))] [(102, .row 3 1 (pline la b k m.val).length ((pline la b k m.val).map digC))])
        (fun m => la.length - m.val) ⟨0, Nat.zero_le _⟩
        (St.le_to [(102, some 101)] (fun b h => by cases h) ⟨⟨_, rfl, AVto.same rfl⟩, ⟨_, rfl, AVto.same rfl⟩, ⟨_, rfl, AVto.same rfl⟩, ⟨_, rfl, AVto.same rfl⟩, ⟨_, rfl, AVto.own rfl⟩, ⟨_, rfl, AVto.same rfl⟩, trivial⟩ ⟨.row rfl rfl (by simp [pline]) (by simp [pline]), trivial⟩ rfl) (fun m => ?_)
      obtain ⟨m, hm⟩ := m
      simp only
      have hpl := pline_len (b := b) (i := k) hm
      by_cases hml : m < la.length
      · have d3 : decide ((m : Int) < (la.length : Int)) = true := decide_eq_true (by omega)
        have a6 : IntKind.i64.wrap ((m : Int) + 1) = ((m + 1 : Nat) : Int) := by rw [← Int.natCast_add_one]; exact wrapI64 (by omega) (by omega)
        have ga := gd_get hml
        have sa := gd_sm ha m
        have hps := pline_succ (b := b) (i := k) hml
        generalize la.getD m 0 = x at *
        have hxb : x * b ≤ 65536 * 65536 := Nat.mul_le_mul (by omega) (by omega)
        have a7 : IntKind.i64.wrap ((x : Int) * (b : Int)) = ((x * b : Nat) : Int) := by rw [← Int.natCast_mul]; exact wrapI64 (by omega) (by omega)
        repeat (first | refine SX.goZ ?_)
        refine ⟨⟨m + 1, by omega⟩, ?_, by simp only; omega⟩
        simp only [hps]
        exact St.le_to [(102, some 41)] (fun b h => by cases h) ⟨⟨_, rfl, AVto.same rfl⟩, ⟨_, rfl, AVto.same rfl⟩, ⟨_, rfl, AVto.same rfl⟩, ⟨_, rfl, AVto.same rfl⟩, ⟨_, rfl, AVto.own rfl⟩, ⟨_, rfl, AVto.same rfl⟩, trivial⟩ ⟨.row rfl rfl (by simp) (digR_snoc _ _), trivial⟩ rfl
      · obtain rfl : m = la.length := by omega
        have d3 : decide ((la.length : Int) < (la.length : Int)) = false := decide_eq_false (by omega)
        have hc := rCarried (pline la b k la.length) (by omega) (pline_small ha sb)
        rw [pline_val] at hc
        have hb1 : nval 65536 la * nval 65536 (lb.take k) < 65536 ^ (la.length + lb.length) := by
          rw [Nat.pow_add]; exact Nat.mul_lt_mul'' hA hT
        have hb2 : 65536 ^ k * (b * nval 65536 la) < 65536 ^ (k + (1 + la.length)) := by
          rw [Nat.pow_add, Nat.pow_add]
          exact Nat.mul_lt_mul_of_pos_left (Nat.mul_lt_mul'' (by omega) hA) (Nat.pow_pos (by omega))
        have l1 := dgs_len hb1
        have l2 := dgs_len hb2
        have had := rAdd0 _ _ (dgs_sm (nval 65536 la * nval 65536 (lb.take k))) (dgs_sm (65536 ^ k * (b * nval 65536 la))) (by omega)
        rw [dgs_val, dgs_val] at had
        have hfin : nval 65536 la * nval 65536 (lb.take k) + 65536 ^ k * (b * nval 65536 la) = nval 65536 la * nval 65536 (lb.take (k + 1)) := by rw [hval]; grind
        rw [hfin] at had
        refine WP.freeze 102 hB rfl ?_
        repeat (first | refine SX.goZ ?_ | (refine SX.Go1.is ?_; refine SX.Go1.isCall ?_; first
              | refine SX.Go1.call rfl (hc) rfl rfl ?_
              | refine SX.Go1.call rfl (had) rfl rfl ?_))
        exact ⟨⟨k + 1, by omega⟩, St.le_to [] (fun b h => by cases h) ⟨⟨_, rfl, AVto.same rfl⟩, ⟨_, rfl, AVto.same rfl⟩, ⟨_, rfl, AVto.same rfl⟩, ⟨_, rfl, AVto.same rfl⟩, trivial⟩ trivial rfl, by simp only; omega⟩
  · have d1 : decide ((i : Int) < (lb.length : Int)) = false := decide_eq_false (by omega)
    have e : lb.take i = lb := List.take_of_length_le (by omega)
    rw [e]
    repeat (first | refine SX.goZ ?_)
    exact RetOK.eq1 (ResOK.tmp rfl) rfl
end Go.Proofs.YtkdonndeogihfaaDoor
namespace Go.Proofs.YtkdonndeogihfaaDoor
open Go.RowKit QM SX
attribute [local irreducible] IntKind.wrap bitLen cmpI nval Go1 Reg WP thenK inBlk retQ RetOK ResOK CallOK OpOK Sat
/-- A word's digits on their way. -/
structure FInv (V n0 : Nat) (r : List Nat) (x k : Nat) : Prop where
  len : r.length = n0 + k
  k4 : k ≤ 4
  sm : Sm 65536 r
  val : nval 65536 r + 65536 ^ r.length * x = V
  small : x < 65536 ^ (4 - k)
theorem FInv.step {V n0 x k : Nat} {r : List Nat} (h : FInv V n0 r x k) (hk : k < 4) : FInv V n0 (r ++ [x % 65536]) (x / 65536) (k + 1) := by
  refine ⟨by rw [List.length_append, h.len]; simp; omega, by omega, h.sm.append (Sm.cons (Nat.mod_lt _ (by omega)) Sm.nil), ?_, ?_⟩
  · rw [nval_snoc, List.length_append, List.length_singleton, ← h.val]
    have e := Nat.div_add_mod x 65536
    generalize x / 65536 = q at *
    generalize x % 65536 = m at *
    rw [Nat.pow_succ]
    generalize 65536 ^ r.length = p at *
    subst e
    grind
  · have e : 4 - k = (4 - (k + 1)) + 1 := by omega
    have hs := h.small
    rw [e, Nat.pow_succ] at hs
    exact (Nat.div_lt_iff_lt_mul (by omega)).2 hs
theorem FInv.done {V n0 x : Nat} {r : List Nat} (h : FInv V n0 r x 4) : nval 65536 r = V := by
  have hs := h.small
  have : x = 0 := by simpa using hs
  have hv := h.val
  rw [this, Nat.mul_zero, Nat.add_zero] at hv
  exact hv
theorem WB_dig : WB = 65536 ^ 4 := by decide
theorem WB_digs (i : Nat) : WB ^ i = 65536 ^ (4 * i) := by rw [WB_dig, ← Nat.pow_mul]
set_option maxRecDepth 100000 in
set_option maxHeartbeats 1000000 in
theorem rFrom0 (l : List Nat) (hs : Sm WB l) (hl : l.length ≤ 100000000) : PureOK Tryd.prog 17 [.r (rawN l)] (.r (digR (dgs (nval WB l)))) := by
  refine PureOK.fn Tryd.func17 Tryd.results17 Tryd.ntmps17 rfl rfl rfl (by simp [AV.ids, AV0.ids, Atom.ids]) rfl (fun w0 T B E0 hB => ?_)
  repeat (first | refine SX.goZ ?_)
  refine WP.loop (ι := {p : List Nat × Nat // p.1.length = 4 * p.2 ∧ p.2 ≤ l.length ∧ Sm 65536 p.1 ∧ nval 65536 p.1 = nval WB (l.take p.2)}) (fun i => mkSt [(0, .r (rawN l)), (3, .own 100), (4, .v (.int .i64 (i.val.2 : Int)))] [(100, .row 3 1 i.val.1.length (i.val.1.map digC))])
    (fun i => l.length - i.val.2) ⟨([], 0), rfl, Nat.zero_le _, Sm.nil, by simp [nval]⟩
    (St.le_to [(100, none)] (fun b h => by cases h) ⟨⟨_, rfl, AVto.same rfl⟩, ⟨_, rfl, AVto.nil rfl⟩, ⟨_, rfl, AVto.same rfl⟩, trivial⟩ ⟨.nilRow rfl, trivial⟩ rfl) (fun i => ?_)
  obtain ⟨⟨r, i⟩, h1, h2, h3, h4⟩ := i
  simp only at h1 h2 h3 h4 ⊢
  by_cases ht : i < l.length
  · have d1 : decide ((i : Int) < (l.length : Int)) = true := decide_eq_true (by omega)
    have a4 : IntKind.i64.wrap ((i : Int) + 1) = ((i + 1 : Nat) : Int) := by rw [← Int.natCast_add_one]; exact wrapI64 (by omega) (by omega)
    have g := gd_get ht
    have hw := hs.getD WB_pos i
    have hv : nval WB (l.take (i + 1)) = nval WB (l.take i) + WB ^ i * l.getD i 0 := nval_take_succ l i
    generalize l.getD i 0 = x0 at *
    have st0 : FInv (nval WB (l.take (i + 1))) (4 * i) r x0 0 := ⟨by omega, by omega, h3, by rw [hv, h4, h1, WB_digs], by rw [show 4 - 0 = 4 from rfl, ← WB_dig]; exact hw⟩
    generalize hV : nval WB (l.take (i + 1)) = V at *
    repeat (first | refine SX.goZ ?_)
    refine WP.loop (ι := {p : List Nat × Nat × Nat // FInv V (4 * i) p.1 p.2.1 p.2.2}) (fun p => mkSt [(0, .r (rawN l)), (3, .own 101), (4, .v (.int .i64 (i : Int))), (5, .v (.int .u64 (p.val.2.1 : Int))), (6, .v (.int .i64 (p.val.2.2 : Int)))] [(101, .row 3 1 p.val.1.length (p.val.1.map digC))])
      (fun p => 4 - p.val.2.2) ⟨(r, x0, 0), st0⟩
      (St.le_to [(101, some 100)] (fun b h => by cases h) ⟨⟨_, rfl, AVto.same rfl⟩, ⟨_, rfl, AVto.own rfl⟩, ⟨_, rfl, AVto.same rfl⟩, ⟨_, rfl, AVto.same rfl⟩, ⟨_, rfl, AVto.same rfl⟩, trivial⟩ ⟨.row rfl rfl rfl rfl, trivial⟩ rfl) (fun p => ?_)
    obtain ⟨⟨r2, x, k⟩, hf⟩ := p
    simp only at hf ⊢
    have hk4 := hf.k4
    have hlen := hf.len
    by_cases hk : k < 4
    · have d2 : decide ((k : Int) < 4) = true := decide_eq_true (by omega)
      have a5 : IntKind.i64.wrap ((k : Int) + 1) = ((k + 1 : Nat) : Int) := by rw [← Int.natCast_add_one]; exact wrapI64 (by omega) (by omega)
      have hx64 : x < 18446744073709551616 := by
        have := hf.small
        have h5 : 65536 ^ (4 - k) ≤ 65536 ^ 4 := Nat.pow_le_pow_right (by omega) (by omega)
        omega
      have hm : x % 65536 < 65536 := Nat.mod_lt _ (by omega)
      have a2 : ((x : Nat) : Int).tmod 65536 = ((x % 65536 : Nat) : Int) := rfl
      have a6 : IntKind.i64.wrap ((x % 65536 : Nat) : Int) = ((x % 65536 : Nat) : Int) := wrapI64 (by omega) (by omega)
      have a3 : IntKind.u64.wrap (((x : Nat) : Int).tdiv 65536) = ((x / 65536 : Nat) : Int) := by
        rw [show ((x : Nat) : Int).tdiv 65536 = ((x / 65536 : Nat) : Int) from rfl]; exact wrapU64 (by omega) (by omega)
      repeat (first | refine SX.goZ ?_)
      refine ⟨⟨(r2 ++ [x % 65536], x / 65536, k + 1), hf.step hk⟩, ?_, by simp only; omega⟩
      exact St.le_to [(101, some 26)] (fun b h => by cases h) ⟨⟨_, rfl, AVto.same rfl⟩, ⟨_, rfl, AVto.own rfl⟩, ⟨_, rfl, AVto.same rfl⟩, ⟨_, rfl, AVto.same rfl⟩, ⟨_, rfl, AVto.same rfl⟩, trivial⟩ ⟨.row rfl rfl (by simp) (digR_snoc _ _), trivial⟩ rfl
    · obtain rfl : k = 4 := by omega
      have d2 : decide (((4 : Nat) : Int) < 4) = false := rfl
      repeat (first | refine SX.goZ ?_)
      refine ⟨⟨(r2, i + 1), by simp only; omega, by simp only; omega, hf.sm, ?_⟩, ?_, by simp only; omega⟩
      · simp only; rw [hf.done, hV]
      · exact St.le_to [(100, some 101)] (fun b h => by cases h) ⟨⟨_, rfl, AVto.same rfl⟩, ⟨_, rfl, AVto.own rfl⟩, ⟨_, rfl, AVto.same rfl⟩, trivial⟩ ⟨.row rfl rfl rfl rfl, trivial⟩ rfl
  · have d1 : decide ((i : Int) < (l.length : Int)) = false := decide_eq_false (by omega)
    rw [List.take_of_length_le (show l.length ≤ i by omega)] at h4
    have hc := rTrimS r h3 (by omega)
    rw [h4] at hc
    refine WP.freeze 100 hB rfl ?_
    repeat (first | refine SX.goZ ?_ | (refine SX.Go1.is ?_; refine SX.Go1.isCall ?_; first
          | refine SX.Go1.call rfl (hc) rfl rfl ?_))
    exact RetOK.eq1 (ResOK.tmp rfl) rfl
/-- The words' cells. -/
abbrev wrdC (x : Nat) : CA := .val (.int .u64 (x : Int))
set_option maxRecDepth 100000 in
theorem rSame0 (la lb : List Nat) (hl : la.length + lb.length ≤ 1000000000) : PureOK Tryd.prog 22 [.r (rawN la), .r (rawN lb)] (.v (.bool (decide (la = lb)))) := by
  refine PureOK.fn Tryd.func22 Tryd.results22 Tryd.ntmps22 rfl rfl rfl (by simp [AV.ids, AV0.ids, Atom.ids]) rfl (fun w0 T B E0 hB => ?_)
  by_cases hne : la.length = lb.length
  · have d1 : decide ((la.length : Int) ≠ (lb.length : Int)) = false := decide_eq_false (by omega)
    repeat (first | refine SX.goZ ?_)
    refine WP.loop (ι := {i : Nat // i ≤ la.length ∧ la.take i = lb.take i}) (fun i => mkSt [(0, .r (rawN la)), (1, .r (rawN lb)), (5, .v (.int .i64 (i.val : Int)))] [])
      (fun i => la.length - i.val) ⟨0, Nat.zero_le _, rfl⟩
      (St.le_to [] (fun b h => by cases h) ⟨⟨_, rfl, AVto.same rfl⟩, ⟨_, rfl, AVto.same rfl⟩, ⟨_, rfl, AVto.same rfl⟩, trivial⟩ trivial rfl) (fun i => ?_)
    obtain ⟨i, h1, h2⟩ := i
    simp only
    by_cases ht : i < la.length
    · have d2 : decide ((i : Int) < (la.length : Int)) = true := decide_eq_true (by omega)
      have a4 : IntKind.i64.wrap ((i : Int) + 1) = ((i + 1 : Nat) : Int) := by rw [← Int.natCast_add_one]; exact wrapI64 (by omega) (by omega)
      have ga := gd_get ht
      have gb := gd_get (l := lb) (i := i) (by omega)
      by_cases he : la.getD i 0 = lb.getD i 0
      · have d3 : decide (((la.getD i 0 : Nat) : Int) ≠ ((lb.getD i 0 : Nat) : Int)) = false := decide_eq_false (by omega)
        have h3 : la.take (i + 1) = lb.take (i + 1) := by rw [List.take_add_one, List.take_add_one, ga, gb, h2, he]
        repeat (first | refine SX.goZ ?_)
        exact ⟨⟨i + 1, by omega, h3⟩, St.le_to [] (fun b h => by cases h) ⟨⟨_, rfl, AVto.same rfl⟩, ⟨_, rfl, AVto.same rfl⟩, ⟨_, rfl, AVto.same rfl⟩, trivial⟩ trivial rfl, by simp only; omega⟩
      · have d3 : decide (((la.getD i 0 : Nat) : Int) ≠ ((lb.getD i 0 : Nat) : Int)) = true := decide_eq_true (by omega)
        have hn : decide (la = lb) = false := decide_eq_false fun e => he (by rw [e])
        repeat (first | refine SX.goZ ?_)
        exact RetOK.eq1 (ResOK.tmp rfl) (by rw [hn])
    · have d2 : decide ((i : Int) < (la.length : Int)) = false := decide_eq_false (by omega)
      have hy : decide (la = lb) = true := decide_eq_true (by
        rw [List.take_of_length_le (show la.length ≤ i by omega), List.take_of_length_le (show lb.length ≤ i by omega)] at h2; exact h2)
      repeat (first | refine SX.goZ ?_)
      exact RetOK.eq1 (ResOK.tmp rfl) (by rw [hy])
  · have d1 : decide ((la.length : Int) ≠ (lb.length : Int)) = true := decide_eq_true (by omega)
    have hn : decide (la = lb) = false := decide_eq_false fun e => hne (by rw [e])
    repeat (first | refine SX.goZ ?_)
    exact RetOK.eq1 (ResOK.tmp rfl) (by rw [hn])
end Go.Proofs.YtkdonndeogihfaaDoor

import Derived.Test.YtfhpmbenldgfnaaGreatDoorK18
import Derived.Test.YtfhpmbenldgfnaaGreatDoorK9
set_option linter.unusedVariables false
set_option linter.unusedSimpArgs false
namespace Go.Proofs.YtfhpmbenldgfnaaGreatDoor
open Go.RowKit QM SX LA
theorem mz_tab {n K : Nat} {f : Nat → Int} (h : ∀ i, i < n → (f i).natAbs < WB ^ K) : MZ ((List.range n).map fun i => z2v (f i)) (tabP n f) K := by
  refine ⟨by rw [List.length_map, List.length_range, tabP_len], fun i q z hq hz => ?_⟩
  have hi : i < n := by have := at_lt hq; rwa [List.length_map, List.length_range] at this
  rw [List.getElem?_map, List.getElem?_range hi] at hq
  unfold tabP at hz
  rw [List.getElem?_map, List.getElem?_range hi] at hz
  cases hq; cases hz
  exact ZQ.made (h i hi)
theorem row_len {n : Nat} {l : List Z2} (h : l.length = n) : rowR 2 z2C l = sliceR 2 n (l.flatMap z2C) := by subst h; rfl
attribute [local irreducible] IntKind.wrap Go1 Reg WP thenK inBlk retQ retF RetF RetOK ResOK CallOK OpOK Sat
attribute [local irreducible] qsub qmul qquo qcmp qadd qv redS mf PrP qOk zOk vP fp64 lz vF cq rqv plen pNorm
theorem con_both {l l' : List Z2} {zs zs' : List Int} {K K' L : Nat} (op : Int → Int → Int) (x : CA) (hx1 : x.oneB = true) (hM : MZ l zs K) (hM' : MZ l' zs' K') (hl : l.length ≤ 10000) (hl' : l'.length ≤ 10000)
    (hx : ∀ i, FnV Tryz.prog x [.agg (z2A (patq l i)), .agg (z2A (patq l' i))] (.agg (zN (op (zs.getD i 0) (zs'.getD i 0))))) (hb : ∀ i, (op (zs.getD i 0) (zs'.getD i 0)).natAbs < WB ^ L) (hL : L ≤ 1000000) :
    PureOK Tryz.prog 126 [.r (rowR 2 z2C l), .r (rowR 2 z2C l'), .it (.one (.c x))] (.r (rowR 2 z2C ((pBoth op zs zs').map z2v))) := by
  have cN : PureOK Tryz.prog 57 [.r (sliceR 2 (max l.length l'.length) (((List.range (max l.length l'.length)).map fun i => z2v (op (zs.getD i 0) (zs'.getD i 0))).flatMap z2C))] (.r (rowR 2 z2C ((pBoth op zs zs').map z2v))) := by
    have h := con_pNorm (mz_tab (n := max l.length l'.length) (f := fun i => op (zs.getD i 0) (zs'.getD i 0)) fun i _ => hb i) hL (by rw [List.length_map, List.length_range]; omega)
    rw [row_len (n := max l.length l'.length) (by rw [List.length_map, List.length_range])] at h
    unfold pBoth
    rw [← hM.len, ← hM'.len]
    exact h
  have hm : max l.length l'.length ≤ 10000 := by omega
  refine PureOK.fnF Tryz.func126 Tryz.results126 Tryz.ntmps126 rfl rfl rfl (by simp [AV.ids, AV0.ids, Atom.ids]) rfl (fun w0 T B E0 hB => ?_)
  refine SX.goJ ?_
  refine W.loop (fun k => k ≤ max l.length l'.length) (fun k => [(0, .r (rowR 2 z2C l)), (1, .r (rowR 2 z2C l')), (2, .it (.one (.c x))), (7, .own 100), (16, .v (.int .i64 ((max l.length l'.length : Nat) : Int))), (17, .v (.int .i64 (k : Int)))]) (fun k => [(100, .row 25 2 (max l.length l'.length) (((List.range (max l.length l'.length)).map fun i => if i < k then z2v (op (zs.getD i 0) (zs'.getD i 0)) else z2v 0).flatMap z2C))]) (fun k => max l.length l'.length - k) 0 (Nat.zero_le _) (fun k hk => ?_)
    (by
      refine SX.St.le_to [(100, some 14)] (by intro b h; cases h) ?_ ?_ rfl
      · repeat (first | exact trivial | refine ⟨⟨_, rfl, SX.AVto.same rfl⟩, ?_⟩ | refine ⟨⟨_, rfl, SX.AVto.own rfl⟩, ?_⟩)
      · exact ⟨SX.EntTo.row rfl rfl rfl (tab_none (f := fun i => z2v (op (zs.getD i 0) (zs'.getD i 0)))), trivial⟩)
  by_cases h : k < max l.length l'.length
  · have c1 := con_pat l k (by omega)
    have c2 := con_pat l' k (by omega)
    have c3 := hx k
    have e2 : ((List.range (max l.length l'.length)).map fun i => if i < k then z2v (op (zs.getD i 0) (zs'.getD i 0)) else z2v 0).length = max l.length l'.length := by rw [List.length_map, List.length_range]
    have e3 := set_tab (f := fun i => z2v (op (zs.getD i 0) (zs'.getD i 0))) (z := z2v 0) h
    refine SX.goJ ?_
    refine SX.G.storeOWA (a := z2v (op (zs.getD k 0) (zs'.getD k 0))) ?_
    rw [e3]
    refine SX.goJ ?_
    exact W.next (k + 1) h (by omega)
  · obtain rfl : k = max l.length l'.length := by omega
    rw [tab_all]
    refine SX.WP.freeze 100 hB rfl ?_
    refine SX.goJ ?_
    exact ret1 rfl
theorem cloArgs {P : Program} {f g : FuncId} {a b r : AV} (h : PureOK P f [a, b, .it (.one (.c (.sat (cloR g [] []))))] r) : PureOK P f [a, b, .it (.one (.clo g []))] r :=
  weakArgs h fun E S w vs hv => by
    match vs, hv with
    | [u1, u2, u3], ⟨h1, h2, h3, _⟩ => exact ⟨h1, h2, fnArg h3, trivial⟩
abbrev pAdd := pBoth (· + ·)
abbrev pSub := pBoth (· - ·)
theorem con_pSub {l l' : List Z2} {zs zs' : List Int} {K K' : Nat} (hM : MZ l zs K) (hM' : MZ l' zs' K') (hl : l.length ≤ 10000) (hl' : l'.length ≤ 10000) (hK : K + K' ≤ 100000) :
    PureOK Tryz.prog 60 [.r (rowR 2 z2C l), .r (rowR 2 z2C l')] (.r (rowR 2 z2C ((pSub zs zs').map z2v))) := by
  have c := cloArgs (con_both (· - ·) (.sat (cloR 127 [] [])) rfl hM hM' hl hl' (fun i => FnV.const ((con_zSub (h := (hM.pat i).zi) (h' := (hM'.pat i).zi)).h (by omega))) (L := K + K' + 1) (fun i => by
    have h2 : (-(zs'.getD i 0)).natAbs < WB ^ K' := by rw [Int.natAbs_neg]; exact (hM'.pat i).b
    have := bd_add (hM.pat i).b h2
    rwa [← Int.sub_eq_add_neg] at this) (by omega))
  refine PureOK.fnF Tryz.func60 Tryz.results60 Tryz.ntmps60 rfl rfl rfl (by simp [AV.ids, AV0.ids, Atom.ids]) rfl (fun w0 T B E0 hB => ?_)
  refine SX.goJ ?_
  exact ret1 rfl
theorem pSub_at (a b : List Int) (j : Nat) : (pSub a b).getD j 0 = a.getD j 0 - b.getD j 0 := pBoth_at (op := (· - ·)) rfl a b j
theorem pBoth_pN (op : Int → Int → Int) (a b : List Int) : pN (pBoth op a b) := by unfold pBoth; exact pNorm_pN _
theorem pSub_nil {a b : List Int} (ha : pN a) (hb : pN b) : (pSub a b).length = 0 ↔ a = b := by
  constructor
  · intro h
    refine pN_ext ha hb fun j => ?_
    have h2 := pSub_at a b j
    have h3 : (pSub a b).getD j 0 = 0 := getD_ge (by omega)
    omega
  · rintro rfl
    have h2 : ∀ j, (pSub a a).getD j 0 = ([] : List Int).getD j 0 := fun j => by
      rw [pSub_at]; show a.getD j 0 - a.getD j 0 = 0; omega
    have h3 : pSub a a = [] := pN_ext (pBoth_pN _ a a) (.inl rfl) h2
    rw [h3]; rfl
theorem con_pSame {l l' : List Z2} {zs zs' : List Int} {K K' : Nat} (hM : MZ l zs K) (hM' : MZ l' zs' K') (hl : l.length ≤ 10000) (hl' : l'.length ≤ 10000) (hK : K + K' ≤ 100000) (hn : pN zs) (hn' : pN zs') :
    PureOK Tryz.prog 99 [.r (rowR 2 z2C l), .r (rowR 2 z2C l')] (.v (.bool (decide (zs = zs')))) := by
  have c := con_pSub hM hM' hl hl' hK
  have hlen : ((pSub zs zs').map z2v).length = (pSub zs zs').length := List.length_map _
  rw [show decide (zs = zs') = decide ((pSub zs zs').length = 0) from decide_eq_decide.2 (pSub_nil hn hn').symm]
  refine PureOK.fnF Tryz.func99 Tryz.results99 Tryz.ntmps99 rfl rfl rfl (by simp [AV.ids, AV0.ids, Atom.ids]) rfl (fun w0 T B E0 hB => ?_)
  refine SX.goJ ?_
  refine retB ?_
  rw [decide_eq_decide]; omega
def pScale (zs : List Int) (d : Int) : List Int := pNorm (zs.map (· * d))
end Go.Proofs.YtfhpmbenldgfnaaGreatDoor
set_option linter.unusedVariables false
set_option linter.unusedSimpArgs false
namespace Go.Proofs.YtfhpmbenldgfnaaGreatDoor
open Go.RowKit QM SX LA
theorem PrP.lt {p : Nat} (h : PrP p) : 2 ≤ p ∧ p < 2147483648 := ⟨h.1, h.2.1⟩
abbrev gfA (p : Nat) : List Atom := [.c (.val (.int .u64 (p : Int)))]
def eqL {α : Type} (p : α → α → Bool) : List α → List α → Bool
  | [], [] => true
  | a :: l, b :: l' => p a b && eqL p l l'
  | _, _ => false
theorem eqL_len {α : Type} {p : α → α → Bool} : ∀ {l l' : List α}, l.length ≠ l'.length → eqL p l l' = false
  | [], [], h => absurd rfl h
  | [], _ :: _, _ => rfl
  | _ :: _, [], _ => rfl
  | a :: l, b :: l', h => by rw [eqL, eqL_len (l := l) (l' := l') (fun e => h (by rw [List.length_cons, List.length_cons, e])), Bool.and_false]
theorem eqL_drop {α : Type} {p : α → α → Bool} {l l' : List α} {k : Nat} {a b : α} (h : l[k]? = some a) (h' : l'[k]? = some b) : eqL p (l.drop k) (l'.drop k) = (p a b && eqL p (l.drop (k + 1)) (l'.drop (k + 1))) := by
  obtain ⟨h1, rfl⟩ := List.getElem?_eq_some_iff.1 h
  obtain ⟨h2, rfl⟩ := List.getElem?_eq_some_iff.1 h'
  rw [List.drop_eq_getElem_cons h1, List.drop_eq_getElem_cons h2, eqL]
theorem eqL_iff {α : Type} {p : α → α → Bool} : ∀ {l l' : List α}, (∀ a ∈ l, ∀ b ∈ l', p a b = true ↔ a = b) → (eqL p l l' = true ↔ l = l')
  | [], [], _ => by simp [eqL]
  | [], _ :: _, _ => by simp [eqL]
  | _ :: _, [], _ => by simp [eqL]
  | a :: l, b :: l', h => by
    rw [eqL, Bool.and_eq_true, h a (List.mem_cons_self ..) b (List.mem_cons_self ..), eqL_iff (l := l) (l' := l') fun x hx y hy => h x (List.mem_cons_of_mem _ hx) y (List.mem_cons_of_mem _ hy)]
    simp
attribute [local irreducible] IntKind.wrap Go1 Reg WP thenK inBlk retQ retF RetF RetOK ResOK CallOK OpOK Sat
attribute [local irreducible] qsub qmul qquo qcmp qadd qv redS mf PrP qOk zOk vP fp64 lz vF cq rqv plen pNorm
theorem con_gfNew {p : Nat} (h : PrP p) : PureOK Tryz.prog 74 [.v (.int .u64 (p : Int))] (.tup [.agg (gfA p), .one (.c (.val (.bool true)))]) := by
  have hp := h.lt
  have c := con_PrimeM p (by omega)
  rw [decide_eq_true h] at c
  refine PureOK.fnF Tryz.func74 Tryz.results74 Tryz.ntmps74 rfl rfl rfl (by simp [AV.ids, AV0.ids, Atom.ids]) rfl (fun w0 T B E0 hB => ?_)
  refine SX.goJ ?_
  exact .ok (RetOK.mk2 (ResOK.agg1 rfl rfl rfl) (ResOK.tmp rfl))
theorem con_gfP {p : Nat} (h : PrP p) : PureOK Tryz.prog 215 [.agg (gfA p)] (.v (.int .u64 (p : Int))) := by
  have hp := h.lt
  refine PureOK.fnF Tryz.func215 Tryz.results215 Tryz.ntmps215 rfl rfl rfl (by simp [AV.ids, AV0.ids, Atom.ids]) rfl (fun w0 T B E0 hB => ?_)
  refine SX.goJ ?_
  exact retI rfl
theorem con_gfNorm {p : Nat} (h : PrP p) (x : Nat) (hx : x < 18446744073709551616) : PureOK Tryz.prog 187 [.agg (gfA p), .v (.int .u64 (x : Int))] (.v (.int .u64 ((x % p : Nat) : Int))) := by
  have hp := h.lt
  have c := con_gfP h
  have hr : IntKind.u64.wrap ((x : Int).tmod (p : Int)) = ((x % p : Nat) : Int) := by rw [tmod_nat]; exact wrapN (Nat.lt_of_le_of_lt (Nat.mod_le x p) hx)
  refine PureOK.fnF Tryz.func187 Tryz.results187 Tryz.ntmps187 rfl rfl rfl (by simp [AV.ids, AV0.ids, Atom.ids]) rfl (fun w0 T B E0 hB => ?_)
  refine SX.goJ ?_
  exact retI rfl
theorem con_field (v : Vl) (h : PrP v.p) : PureOK Tryz.prog 101 [.agg (vlA v)] (.agg (gfA v.p)) := by
  have c := con_gfNew h
  refine PureOK.fnF Tryz.func101 Tryz.results101 Tryz.ntmps101 rfl rfl rfl (by simp [AV.ids, AV0.ids, Atom.ids]) rfl (fun w0 T B E0 hB => ?_)
  refine SX.goJ ?_
  exact retA (ResOK.agg1 rfl rfl rfl) rfl
abbrev fmA (r c : Nat) (l : List Nat) : List Atom := [.c (.val (.int .i64 (r : Int))), .c (.val (.int .i64 (c : Int))), .c (.sat (rowR 1 wdC l))]
theorem con_fF {r c : Nat} {l : List Nat} (hl : l.length = r * c) (hr : r ≤ 64) (hc : c ≤ 64) : PureOK Tryz.prog 154 [.agg (fmA r c l)] (.v (.bool true)) := by
  have h : PureOK Tryz.prog 154 [.agg (fmA r c l)] (.v (.bool (fp64 r c l.length))) := con_fFormed r c
  rw [fp64_nat hr hc hl] at h; exact h
theorem con_falike {r c r' c' : Nat} {l l' : List Nat} (hl : l.length = r * c) (hl' : l'.length = r' * c') (hr : r ≤ 64) (hc : c ≤ 64) (hr' : r' ≤ 64) (hc' : c' ≤ 64) :
    PureOK Tryz.prog 169 [.agg (fmA r c l), .agg (fmA r' c' l')] (.v (.bool (decide (r = r' ∧ c = c')))) := by
  have cF := con_fF hl hr hc
  have cF' := con_fF hl' hr' hc'
  refine PureOK.fnF Tryz.func169 Tryz.results169 Tryz.ntmps169 rfl rfl rfl (by simp [AV.ids, AV0.ids, Atom.ids]) rfl (fun w0 T B E0 hB => ?_)
  by_cases h1 : (r : Int) = (r' : Int)
  · refine SX.goJ ?_
    refine retB ?_
    rw [decide_eq_decide]; omega
  · refine SX.goJ ?_
    refine retB ?_; exact (decide_eq_false fun h => h1 (by omega)).symm
theorem con_EqfQ (l l' : List RawQ) (x : CA) (p : RawQ → RawQ → Bool) (hx : ∀ v ∈ l, ∀ u ∈ l', FnV Tryz.prog x [.agg (q4A (rq v)), .agg (q4A (rq u))] (.v (.bool (p v u)))) (hl : l.length ≤ 100000) (hl' : l'.length ≤ 100000) (hx1 : x.oneB = true) :
    PureOK Tryz.prog 183 [.r (rowR 4 q4C (l.map rq)), .r (rowR 4 q4C (l'.map rq)), .it (.one (.c x))] (.v (.bool (eqL p l l'))) := by
  have e1 : (l.map rq).length = l.length := List.length_map _
  have e2 : (l'.map rq).length = l'.length := List.length_map _
  refine PureOK.fnF Tryz.func183 Tryz.results183 Tryz.ntmps183 rfl rfl rfl (by simp [AV.ids, AV0.ids, Atom.ids]) rfl (fun w0 T B E0 hB => ?_)
  by_cases hne : l.length = l'.length
  rotate_left
  · rw [eqL_len hne]
    refine SX.goJ ?_
    exact retB rfl
  refine SX.goJ ?_
  refine W.loop (fun k => k ≤ l.length ∧ eqL p (l.drop k) (l'.drop k) = eqL p l l') (fun k => [(1, .r (rowR 4 q4C (l'.map rq))), (2, .it (.one (.c x))), (15, .r (rowR 4 q4C (l.map rq))), (16, .v (.int .i64 ((l.map rq).length : Int))), (17, .v (.int .i64 (k : Int)))]) (fun _ => []) (fun k => l.length - k) 0 ⟨Nat.zero_le _, rfl⟩ (fun k ⟨hk, he⟩ => ?_)
  by_cases h : k < l.length
  · obtain ⟨a, ha⟩ : ∃ a, l[k]? = some a := ⟨_, List.getElem?_eq_getElem h⟩
    obtain ⟨b, hb⟩ : ∃ b, l'[k]? = some b := ⟨_, List.getElem?_eq_getElem (by omega)⟩
    have hf := hx a (List.mem_of_getElem? ha) b (List.mem_of_getElem? hb)
    have hq : (l.map rq)[k]? = some (rq a) := by rw [List.getElem?_map, ha]; rfl
    have hq' : (l'.map rq)[k]? = some (rq b) := by rw [List.getElem?_map, hb]; rfl
    have h1 : k < (l.map rq).length := by rw [List.length_map]; exact h
    have h2 : k < (l'.map rq).length := by rw [List.length_map]; omega
    rw [eqL_drop ha hb] at he
    cases hp : p a b with
    | false =>
      rw [hp] at hf he
      refine SX.goJ ?_
      refine retB ?_; rw [← he]; rfl
    | true =>
      rw [hp] at hf he
      refine SX.goJ ?_
      exact W.next (k + 1) ⟨h, he⟩ (by omega)
  · obtain rfl : k = l.length := by omega
    rw [List.drop_length, hne, List.drop_length] at he
    refine SX.goJ ?_
    refine retB ?_; rw [← he]; rfl
theorem con_EqffQ (l l' : List RawQ) (f : FuncId) (p : RawQ → RawQ → Bool) (hx : ∀ v ∈ l, ∀ u ∈ l', PureOK Tryz.prog f [.agg (q4A (rq v)), .agg (q4A (rq u))] (.v (.bool (p v u)))) (hl : l.length ≤ 100000) (hl' : l'.length ≤ 100000) :
    PureOK Tryz.prog 183 [.r (rowR 4 q4C (l.map rq)), .r (rowR 4 q4C (l'.map rq)), .it (.one (.clo f []))] (.v (.bool (eqL p l l'))) :=
  cloArgs (con_EqfQ l l' (.sat (cloR f [] [])) p (fun v h u h' => FnV.const (hx v h u h')) hl hl' rfl)
theorem con_EqfW (l l' : List Nat) (x : CA) (p : Nat → Nat → Bool) (hx : ∀ v ∈ l, ∀ u ∈ l', FnV Tryz.prog x [.v (.int .u64 (v : Int)), .v (.int .u64 (u : Int))] (.v (.bool (p v u)))) (hl : l.length ≤ 100000) (hl' : l'.length ≤ 100000) (hx1 : x.oneB = true) :
    PureOK Tryz.prog 185 [.r (rowR 1 wdC l), .r (rowR 1 wdC l'), .it (.one (.c x))] (.v (.bool (eqL p l l'))) := by
  refine PureOK.fnF Tryz.func185 Tryz.results185 Tryz.ntmps185 rfl rfl rfl (by simp [AV.ids, AV0.ids, Atom.ids]) rfl (fun w0 T B E0 hB => ?_)
  by_cases hne : l.length = l'.length
  rotate_left
  · rw [eqL_len hne]
    refine SX.goJ ?_
    exact retB rfl
  refine SX.goJ ?_
  refine W.loop (fun k => k ≤ l.length ∧ eqL p (l.drop k) (l'.drop k) = eqL p l l') (fun k => [(1, .r (rowR 1 wdC l')), (2, .it (.one (.c x))), (15, .r (rowR 1 wdC l)), (16, .v (.int .i64 (l.length : Int))), (17, .v (.int .i64 (k : Int)))]) (fun _ => []) (fun k => l.length - k) 0 ⟨Nat.zero_le _, rfl⟩ (fun k ⟨hk, he⟩ => ?_)
  by_cases h : k < l.length
  · obtain ⟨a, ha⟩ : ∃ a, l[k]? = some a := ⟨_, List.getElem?_eq_getElem h⟩
    obtain ⟨b, hb⟩ : ∃ b, l'[k]? = some b := ⟨_, List.getElem?_eq_getElem (by omega)⟩
    have hf := hx a (List.mem_of_getElem? ha) b (List.mem_of_getElem? hb)
    rw [eqL_drop ha hb] at he
    cases hp : p a b with
    | false =>
      rw [hp] at hf he
      refine SX.goJ ?_
      refine retB ?_; rw [← he]; rfl
    | true =>
      rw [hp] at hf he
      refine SX.goJ ?_
      exact W.next (k + 1) ⟨h, he⟩ (by omega)
  · obtain rfl : k = l.length := by omega
    rw [List.drop_length, hne, List.drop_length] at he
    refine SX.goJ ?_
    refine retB ?_; rw [← he]; rfl
theorem con_EqfV (l l' : List Vl) (x : CA) (p : Vl → Vl → Bool) (hx : ∀ v ∈ l, ∀ u ∈ l', FnV Tryz.prog x [.agg (vlA v), .agg (vlA u)] (.v (.bool (p v u)))) (hl : l.length ≤ 100000) (hl' : l'.length ≤ 100000) (hx1 : x.oneB = true) :
    PureOK Tryz.prog 103 [.r (rowR 15 vlC l), .r (rowR 15 vlC l'), .it (.one (.c x))] (.v (.bool (eqL p l l'))) := by
  rw [row_vlE, row_vlE]
  refine PureOK.fnF Tryz.func103 Tryz.results103 Tryz.ntmps103 rfl rfl rfl (by simp [AV.ids, AV0.ids, Atom.ids]) rfl (fun w0 T B E0 hB => ?_)
  by_cases hne : l.length = l'.length
  rotate_left
  · rw [eqL_len hne]
    refine SX.goJ ?_
    exact retB rfl
  refine SX.goJ ?_
  refine W.loop (fun k => k ≤ l.length ∧ eqL p (l.drop k) (l'.drop k) = eqL p l l') (fun k => [(1, .r (rowR 15 vlE l')), (2, .it (.one (.c x))), (15, .r (rowR 15 vlE l)), (16, .v (.int .i64 (l.length : Int))), (17, .v (.int .i64 (k : Int)))]) (fun _ => []) (fun k => l.length - k) 0 ⟨Nat.zero_le _, rfl⟩ (fun k ⟨hk, he⟩ => ?_)
  by_cases h : k < l.length
  · obtain ⟨a, ha⟩ : ∃ a, l[k]? = some a := ⟨_, List.getElem?_eq_getElem h⟩
    obtain ⟨b, hb⟩ : ∃ b, l'[k]? = some b := ⟨_, List.getElem?_eq_getElem (by omega)⟩
    have hf := hx a (List.mem_of_getElem? ha) b (List.mem_of_getElem? hb)
    rw [eqL_drop ha hb] at he
    cases hp : p a b with
    | false =>
      rw [hp] at hf he
      refine SX.goJ ?_
      refine retB ?_; rw [← he]; rfl
    | true =>
      rw [hp] at hf he
      refine SX.goJ ?_
      exact W.next (k + 1) ⟨h, he⟩ (by omega)
  · obtain rfl : k = l.length := by omega
    rw [List.drop_length, hne, List.drop_length] at he
    refine SX.goJ ?_
    refine retB ?_; rw [← he]; rfl
theorem con_EqffV (l l' : List Vl) (f : FuncId) (p : Vl → Vl → Bool) (hx : ∀ v ∈ l, ∀ u ∈ l', PureOK Tryz.prog f [.agg (vlA v), .agg (vlA u)] (.v (.bool (p v u)))) (hl : l.length ≤ 100000) (hl' : l'.length ≤ 100000) :
    PureOK Tryz.prog 103 [.r (rowR 15 vlC l), .r (rowR 15 vlC l'), .it (.one (.clo f []))] (.v (.bool (eqL p l l'))) :=
  cloArgs (con_EqfV l l' (.sat (cloR f [] [])) p (fun v h u h' => FnV.const (hx v h u h')) hl hl' rfl)
theorem con_EqualW (l l' : List Nat) (hl : l.length ≤ 100000) (hl' : l'.length ≤ 100000) : PureOK Tryz.prog 102 [.r (rowR 1 wdC l), .r (rowR 1 wdC l')] (.v (.bool (decide (l = l')))) := by
  have e : decide (l = l') = eqL (fun a b => decide (a = b)) l l' := by
    rw [Bool.eq_iff_iff, decide_eq_true_iff]
    exact (eqL_iff fun a _ b _ => by rw [decide_eq_true_iff]).symm
  rw [e]
  refine PureOK.fnF Tryz.func102 Tryz.results102 Tryz.ntmps102 rfl rfl rfl (by simp [AV.ids, AV0.ids, Atom.ids]) rfl (fun w0 T B E0 hB => ?_)
  by_cases hne : l.length = l'.length
  rotate_left
  · rw [eqL_len hne]
    refine SX.goJ ?_
    exact retB rfl
  refine SX.goJ ?_
  refine W.loop (fun k => k ≤ l.length ∧ eqL (fun a b => decide (a = b)) (l.drop k) (l'.drop k) = eqL (fun a b => decide (a = b)) l l') (fun k => [(0, .r (rowR 1 wdC l)), (1, .r (rowR 1 wdC l')), (12, .v (.int .i64 (l.length : Int))), (13, .v (.int .i64 (k : Int)))]) (fun _ => []) (fun k => l.length - k) 0 ⟨Nat.zero_le _, rfl⟩ (fun k ⟨hk, he⟩ => ?_)
  by_cases h : k < l.length
  · obtain ⟨a, ha⟩ : ∃ a, l[k]? = some a := ⟨_, List.getElem?_eq_getElem h⟩
    obtain ⟨b, hb⟩ : ∃ b, l'[k]? = some b := ⟨_, List.getElem?_eq_getElem (by omega)⟩
    rw [eqL_drop ha hb] at he
    by_cases hab : a = b
    · have hab' : (a : Int) = (b : Int) := by omega
      rw [decide_eq_true hab] at he
      refine SX.goJ ?_
      exact W.next (k + 1) ⟨h, he⟩ (by omega)
    · have hab' : ¬ (a : Int) = (b : Int) := by omega
      rw [decide_eq_false hab] at he
      refine SX.goJ ?_
      refine retB ?_; rw [← he]; rfl
  · obtain rfl : k = l.length := by omega
    rw [List.drop_length, hne, List.drop_length] at he
    refine SX.goJ ?_
    refine retB ?_; rw [← he]; rfl
theorem con_fSame1 {p : Nat} (h : PrP p) (x y : Nat) (hx : x < p) (hy : y < p) : PureOK Tryz.prog 186 [.v (.int .u64 (x : Int)), .v (.int .u64 (y : Int)), .r (ptrR [.val (.int .u64 (p : Int))])] (.v (.bool (decide (x = y)))) := by
  have hp := h.lt
  have c1 := con_gfNorm h x (by omega)
  have c2 := con_gfNorm h y (by omega)
  rw [Nat.mod_eq_of_lt hx] at c1
  rw [Nat.mod_eq_of_lt hy] at c2
  refine PureOK.fnF Tryz.func186 Tryz.results186 Tryz.ntmps186 rfl rfl rfl (by simp [AV.ids, AV0.ids, Atom.ids]) rfl (fun w0 T B E0 hB => ?_)
  refine SX.goJ ?_
  refine retB ?_; rw [decide_eq_decide]; omega
theorem con_fSame {p r c r' c' : Nat} {l l' : List Nat} (h : PrP p) (hl : l.length = r * c) (hl' : l'.length = r' * c') (hr : r ≤ 64) (hc : c ≤ 64) (hr' : r' ≤ 64) (hc' : c' ≤ 64) (hb : ∀ x ∈ l, x < p) (hb' : ∀ x ∈ l', x < p) :
    PureOK Tryz.prog 100 [.agg (gfA p), .agg (fmA r c l), .agg (fmA r' c' l')] (.v (.bool (decide (r = r' ∧ c = c' ∧ l = l')))) := by
  have cA := con_falike hl hl' hr hc hr' hc'
  have m1 := Nat.mul_le_mul hr hc
  have m2 := Nat.mul_le_mul hr' hc'
  have cE := con_EqfW l l' (.sat (cloR 186 [] [.sat (ptrR [.val (.int .u64 (p : Int))])])) (fun x y => decide (x = y)) (fun x hx y hy => FnV.clo (con_fSame1 h x y (hb x hx) (hb' y hy))) (by omega) (by omega) rfl
  rw [show eqL (fun x y => decide (x = y)) l l' = decide (l = l') by
    rw [Bool.eq_iff_iff, decide_eq_true_iff]
    exact eqL_iff fun a _ b _ => by rw [decide_eq_true_iff]] at cE
  refine PureOK.fnF Tryz.func100 Tryz.results100 Tryz.ntmps100 rfl rfl rfl (by simp [AV.ids, AV0.ids, Atom.ids]) rfl (fun w0 T B E0 hB => ?_)
  refine SX.goJ ?_
  refine SX.WP.freezeB 3 hB rfl rfl ?_
  refine SX.WP.regionL ?_
  by_cases h1 : r = r' ∧ c = c'
  · rw [decide_eq_true h1] at cA
    refine SX.goJ ?_
    refine retB ?_; rw [decide_eq_decide]; exact ⟨fun h => ⟨h1.1, h1.2, h⟩, fun h => h.2.2⟩
  · rw [decide_eq_false h1] at cA
    refine SX.goJ ?_
    refine retB ?_; exact (decide_eq_false fun h => h1 ⟨h.1, h.2.1⟩).symm
end Go.Proofs.YtfhpmbenldgfnaaGreatDoor
set_option linter.unusedVariables false
set_option linter.unusedSimpArgs false
namespace Go.Proofs.YtfhpmbenldgfnaaGreatDoor
open Go.RowKit QM SX LA
def wN (l : List Nat) : Prop := l.length = 0 ∨ l.getD (l.length - 1) 0 ≠ 0
inductive Sh (K : Nat) : Vl → Prop
  | num (x : Rat) (h : RB x K) : Sh K (vNum x)
  | mat (r c : Nat) (vs : List Rat) (hl : vs.length = r * c) (hr : r ≤ 64) (hc : c ≤ 64) (h : ∀ v ∈ vs, RB v K) : Sh K (vMat r c vs)
  | pol (zs : List Int) (hl : zs.length ≤ 10000) (hn : pN zs) (h : ∀ z ∈ zs, z.natAbs < WB ^ K) : Sh K (vPol zs)
  | fld (p r c : Nat) (l : List Nat) (hp : PrP p) (hl : l.length = r * c) (hr : r ≤ 64) (hc : c ≤ 64) (h : ∀ x ∈ l, x < p) : Sh K (vFld p r c l)
  | rng (p : Nat) (l : List Nat) (hp : PrP p) (hl : l.length ≤ 10000) (hn : wN l) (h : ∀ x ∈ l, x < p) : Sh K (vRng p l)
inductive Cv (K : Nat) : Nat → Vl → Prop
  | one {n : Nat} {v : Vl} (h : Sh K v) : Cv K n v
  | lst {n : Nat} (l : List Vl) (hl : l.length ≤ 10000) (h : ∀ x ∈ l, Cv K n x) : Cv K (n + 1) (vLst l)
noncomputable def sameV (u v : Vl) : Bool := @decide (u = v) (Classical.propDecidable _)
theorem sameV_iff {u v : Vl} : sameV u v = true ↔ u = v := by unfold sameV; exact @decide_eq_true_iff _ (Classical.propDecidable _)
theorem sameV_no {u v : Vl} (h : u ≠ v) : sameV u v = false := Bool.eq_false_iff.2 fun e => h (sameV_iff.1 e)
theorem sameV_self (u : Vl) : sameV u u = true := sameV_iff.2 rfl
theorem sameV_of {u v : Vl} {p : Prop} [Decidable p] (h : u = v ↔ p) : sameV u v = decide p := by
  rw [Bool.eq_iff_iff, sameV_iff, decide_eq_true_iff]; exact h
theorem cq_inj {x y : Rat} (h : cq x = cq y) : x = y := by rw [← cq_val x, h, cq_val]
theorem cz_inj {x y : Int} (h : cz x = cz y) : x = y := by rw [← cz_val x, h, cz_val]
theorem map_inj {α β : Type} {f : α → β} (hf : ∀ {x y}, f x = f y → x = y) : ∀ {l l' : List α}, l.map f = l'.map f → l = l'
  | [], [], _ => rfl
  | a :: l, b :: l', h => by
    rw [List.map_cons, List.map_cons] at h
    injection h with h1 h2
    rw [hf h1, map_inj hf h2]
theorem vNum_inj {x y : Rat} : vNum x = vNum y ↔ x = y := ⟨fun h => by injection h with _ h; exact cq_inj h, fun h => by rw [h]⟩
theorem vMat_inj {r c r' c' : Nat} {vs vs' : List Rat} : vMat r c vs = vMat r' c' vs' ↔ r = r' ∧ c = c' ∧ vs = vs' := by
  constructor
  · intro h
    injection h with _ _ h1 h2 h3
    exact ⟨by omega, by omega, map_inj cq_inj h3⟩
  · rintro ⟨rfl, rfl, rfl⟩; rfl
theorem vPol_inj {a b : List Int} : vPol a = vPol b ↔ a = b := ⟨fun h => by injection h with _ _ _ _ _ h; exact map_inj cz_inj h, fun h => by rw [h]⟩
theorem vFld_inj {p r c p' r' c' : Nat} {l l' : List Nat} : vFld p r c l = vFld p' r' c' l' ↔ p = p' ∧ r = r' ∧ c = c' ∧ l = l' := by
  constructor
  · intro h
    injection h with _ _ _ _ _ _ h1 h2 h3 h4
    exact ⟨h1, by omega, by omega, h4⟩
  · rintro ⟨rfl, rfl, rfl, rfl⟩; rfl
theorem vRng_inj {p p' : Nat} {l l' : List Nat} : vRng p l = vRng p' l' ↔ p = p' ∧ l = l' := by
  constructor
  · intro h
    injection h with _ _ _ _ _ _ h1 _ _ _ h2
    exact ⟨h1, h2⟩
  · rintro ⟨rfl, rfl⟩; rfl
theorem vLst_inj {l l' : List Vl} : vLst l = vLst l' ↔ l = l' := ⟨fun h => by injection h, fun h => by rw [h]⟩
theorem MZ.ofz {zs : List Int} {K : Nat} (h : ∀ z ∈ zs, z.natAbs < WB ^ K) : MZ ((zs.map cz).map rz) zs K := by
  have := MZ.raw (l := zs.map cz) (K := K) (fun a ha => by obtain ⟨z, _, rfl⟩ := List.mem_map.1 ha; exact cz_sm z) (fun a ha => by obtain ⟨z, hz, rfl⟩ := List.mem_map.1 ha; exact wds_len (h z hz))
  rwa [cz_vals] at this
attribute [local irreducible] IntKind.wrap Go1 Reg WP thenK inBlk retQ retF RetF RetOK ResOK CallOK OpOK Sat
attribute [local irreducible] qsub qmul qquo qcmp qadd qv redS mf PrP qOk zOk vP fp64 lz vF cq rqv plen pNorm
theorem con_qs1 {x y : Rat} {K L : Nat} (hx : RB x K) (hy : RB y L) (hK : K + L ≤ 400000) : PureOK Tryz.prog 184 [.agg (q4A (rq (cq x))), .agg (q4A (rq (cq y)))] (.v (.bool (decide (rqv (cq x) = rqv (cq y))))) := by
  rw [cq_val, cq_val]
  haveI := Ra.cq hx
  haveI := Ra.cq hy
  obtain ⟨z, cA, hz, _⟩ := eCmp (q4A (rq (cq x))) (q4A (rq (cq y))) (K := K) (K' := L) (by omega)
  rw [← decide_eq_decide.2 hz]
  refine PureOK.fnF Tryz.func184 Tryz.results184 Tryz.ntmps184 rfl rfl rfl (by simp [AV.ids, AV0.ids, Atom.ids]) rfl (fun w0 T B E0 hB => ?_)
  refine SX.goJ ?_
  exact retB rfl
theorem con_qmSameG {r c r' c' : Nat} {vs vs' : List Rat} {K L : Nat} (hv : ∀ v ∈ vs, RB v K) (hv' : ∀ v ∈ vs', RB v L) (hK : K + L ≤ 400000) (hl : vs.length = r * c) (hl' : vs'.length = r' * c') (hr : r ≤ 64) (hc : c ≤ 64) (hr' : r' ≤ 64) (hc' : c' ≤ 64) :
    PureOK Tryz.prog 98 [.agg (matQ r c ((vs.map cq).map rq)), .agg (matQ r' c' ((vs'.map cq).map rq))] (.v (.bool (decide (r = r' ∧ c = c' ∧ vs = vs')))) := by
  have m1 := Nat.mul_le_mul hr hc
  have m2 := Nat.mul_le_mul hr' hc'
  have k1 : (vs.map cq).length = vs.length := List.length_map _
  have k2 : (vs'.map cq).length = vs'.length := List.length_map _
  have cA := con_alike (l := (vs.map cq).map rq) (l' := (vs'.map cq).map rq) (by rw [List.length_map, List.length_map]; exact hl) (by rw [List.length_map, List.length_map]; exact hl') hr hc hr' hc' (decide (r = r' ∧ c = c')) decide_eq_true_iff
  have cE := con_EqffQ (vs.map cq) (vs'.map cq) 184 (fun a b => decide (rqv a = rqv b)) (fun a ha b hb => by
    obtain ⟨x, hx, rfl⟩ := List.mem_map.1 ha
    obtain ⟨y, hy, rfl⟩ := List.mem_map.1 hb
    exact con_qs1 (hv x hx) (hv' y hy) hK) (by omega) (by omega)
  have e : eqL (fun a b => decide (rqv a = rqv b)) (vs.map cq) (vs'.map cq) = decide (vs = vs') := by
    rw [Bool.eq_iff_iff, decide_eq_true_iff, eqL_iff (fun a ha b hb => by
      obtain ⟨x, hx, rfl⟩ := List.mem_map.1 ha
      obtain ⟨y, hy, rfl⟩ := List.mem_map.1 hb
      rw [decide_eq_true_iff, cq_val, cq_val]
      exact ⟨fun h => by rw [h], cq_inj⟩)]
    exact ⟨map_inj cq_inj, fun h => by rw [h]⟩
  rw [e] at cE
  refine PureOK.fnF Tryz.func98 Tryz.results98 Tryz.ntmps98 rfl rfl rfl (by simp [AV.ids, AV0.ids, Atom.ids]) rfl (fun w0 T B E0 hB => ?_)
  by_cases h1 : r = r' ∧ c = c'
  · rw [decide_eq_true h1] at cA
    refine SX.goJ ?_
    refine retB ?_; rw [decide_eq_decide]; exact ⟨fun h => ⟨h1.1, h1.2, h⟩, fun h => h.2.2⟩
  · rw [decide_eq_false h1] at cA
    refine SX.goJ ?_
    refine retB ?_; exact (decide_eq_false fun h => h1 ⟨h.1, h.2.1⟩).symm
theorem con_sameK (u v : Vl) (h : u.k ≠ v.k ∨ u.p ≠ v.p) : PureOK Tryz.prog 42 [.agg (vlA u), .agg (vlA v)] (.v (.bool (sameV u v))) := by
  rw [sameV_no (by rintro rfl; exact h.elim (fun h => h rfl) fun h => h rfl)]
  refine PureOK.fnF Tryz.func42 Tryz.results42 Tryz.ntmps42 rfl rfl rfl (by simp [AV.ids, AV0.ids, Atom.ids]) rfl (fun w0 T B E0 hB => ?_)
  by_cases h1 : u.k = v.k
  · have h2 : ¬ (u.p : Int) = (v.p : Int) := by omega
    refine SX.goJ ?_
    exact retB rfl
  · refine SX.goJ ?_
    exact retB rfl
section
variable {K L : Nat} (hKL : K + L ≤ 100000)
include hKL
theorem con_same2 {r c r' c' : Nat} {vs vs' : List Rat} (hv : ∀ v ∈ vs, RB v K) (hv' : ∀ v ∈ vs', RB v L) (hl : vs.length = r * c) (hl' : vs'.length = r' * c') (hr : r ≤ 64) (hc : c ≤ 64) (hr' : r' ≤ 64) (hc' : c' ≤ 64) :
    PureOK Tryz.prog 42 [.agg (vlA (vMat r c vs)), .agg (vlA (vMat r' c' vs'))] (.v (.bool (sameV (vMat r c vs) (vMat r' c' vs')))) := by
  have c1 := con_qmSameG hv hv' (by omega) hl hl' hr hc hr' hc'
  rw [sameV_of vMat_inj]
  refine PureOK.fnF Tryz.func42 Tryz.results42 Tryz.ntmps42 rfl rfl rfl (by simp [AV.ids, AV0.ids, Atom.ids]) rfl (fun w0 T B E0 hB => ?_)
  refine SX.goJ ?_
  exact retB rfl
theorem con_same3 {a b : List Int} (hl : a.length ≤ 10000) (hn : pN a) (h : ∀ z ∈ a, z.natAbs < WB ^ K) (hl' : b.length ≤ 10000) (hn' : pN b) (h' : ∀ z ∈ b, z.natAbs < WB ^ L) :
    PureOK Tryz.prog 42 [.agg (vlA (vPol a)), .agg (vlA (vPol b))] (.v (.bool (sameV (vPol a) (vPol b)))) := by
  have c1 := con_pSame (MZ.ofz h) (MZ.ofz h') (by rw [List.length_map, List.length_map]; exact hl) (by rw [List.length_map, List.length_map]; exact hl') hKL hn hn'
  rw [sameV_of vPol_inj]
  refine PureOK.fnF Tryz.func42 Tryz.results42 Tryz.ntmps42 rfl rfl rfl (by simp [AV.ids, AV0.ids, Atom.ids]) rfl (fun w0 T B E0 hB => ?_)
  refine SX.goJ ?_
  exact retB rfl
omit hKL in
theorem con_same4 {p r c r' c' : Nat} {l l' : List Nat} (hp : PrP p) (hl : l.length = r * c) (hr : r ≤ 64) (hc : c ≤ 64) (h : ∀ x ∈ l, x < p) (hl' : l'.length = r' * c') (hr' : r' ≤ 64) (hc' : c' ≤ 64) (h' : ∀ x ∈ l', x < p) :
    PureOK Tryz.prog 42 [.agg (vlA (vFld p r c l)), .agg (vlA (vFld p r' c' l'))] (.v (.bool (sameV (vFld p r c l) (vFld p r' c' l')))) := by
  have cf := con_field (vFld p r c l) hp
  have c1 := con_fSame hp hl hl' hr hc hr' hc' h h'
  have e : ((vFld p r c l).p : Int) = ((vFld p r' c' l').p : Int) := rfl
  rw [sameV_of (p := r = r' ∧ c = c' ∧ l = l') (vFld_inj.trans ⟨fun h => h.2, fun h => ⟨rfl, h⟩⟩)]
  refine PureOK.fnF Tryz.func42 Tryz.results42 Tryz.ntmps42 rfl rfl rfl (by simp [AV.ids, AV0.ids, Atom.ids]) rfl (fun w0 T B E0 hB => ?_)
  refine SX.goJ ?_
  exact retB rfl
omit hKL in
theorem con_same5 {p : Nat} {l l' : List Nat} (hl : l.length ≤ 10000) (hl' : l'.length ≤ 10000) :
    PureOK Tryz.prog 42 [.agg (vlA (vRng p l)), .agg (vlA (vRng p l'))] (.v (.bool (sameV (vRng p l) (vRng p l')))) := by
  have c1 := con_EqualW l l' (by omega) (by omega)
  have e : ((vRng p l).p : Int) = ((vRng p l').p : Int) := rfl
  rw [sameV_of (p := l = l') (vRng_inj.trans ⟨fun h => h.2, fun h => ⟨rfl, h⟩⟩)]
  refine PureOK.fnF Tryz.func42 Tryz.results42 Tryz.ntmps42 rfl rfl rfl (by simp [AV.ids, AV0.ids, Atom.ids]) rfl (fun w0 T B E0 hB => ?_)
  refine SX.goJ ?_
  exact retB rfl
omit hKL in
theorem con_same6 {l l' : List Vl} (hl : l.length ≤ 10000) (hl' : l'.length ≤ 10000) (h : ∀ x ∈ l, ∀ y ∈ l', PureOK Tryz.prog 42 [.agg (vlA x), .agg (vlA y)] (.v (.bool (sameV x y)))) :
    PureOK Tryz.prog 42 [.agg (vlA (vLst l)), .agg (vlA (vLst l'))] (.v (.bool (sameV (vLst l) (vLst l')))) := by
  have c1 := con_EqffV l l' 42 sameV h (by omega) (by omega)
  rw [show eqL sameV l l' = sameV (vLst l) (vLst l') by
    rw [Bool.eq_iff_iff, sameV_iff, vLst_inj]
    exact eqL_iff fun a _ b _ => sameV_iff] at c1
  refine PureOK.fnF Tryz.func42 Tryz.results42 Tryz.ntmps42 rfl rfl rfl (by simp [AV.ids, AV0.ids, Atom.ids]) rfl (fun w0 T B E0 hB => ?_)
  refine SX.goJ ?_
  exact retB rfl
theorem con_sameSh {u v : Vl} (hu : Sh K u) (hv : Sh L v) : PureOK Tryz.prog 42 [.agg (vlA u), .agg (vlA v)] (.v (.bool (sameV u v))) := by
  by_cases hk : u.k = v.k ∧ u.p = v.p
  · cases hu with
    | num x h => cases hv with
      | num y h' =>
        rw [sameV_of vNum_inj]; exact con_vsame1 h h' (by omega)
      | _ => exact absurd hk.1 (by simp)
    | mat r c vs hl hr hc h => cases hv with
      | mat r' c' vs' hl' hr' hc' h' => exact con_same2 hKL h h' hl hl' hr hc hr' hc'
      | _ => exact absurd hk.1 (by simp)
    | pol zs hl hn h => cases hv with
      | pol zs' hl' hn' h' => exact con_same3 hKL hl hn h hl' hn' h'
      | _ => exact absurd hk.1 (by simp)
    | fld p r c l hp hl hr hc h => cases hv with
      | fld p' r' c' l' hp' hl' hr' hc' h' =>
        obtain rfl : p = p' := hk.2
        exact con_same4 hp hl hr hc h hl' hr' hc' h'
      | _ => exact absurd hk.1 (by simp)
    | rng p l hp hl hn h => cases hv with
      | rng p' l' hp' hl' hn' h' =>
        obtain rfl : p = p' := hk.2
        exact con_same5 hl hl'
      | _ => exact absurd hk.1 (by simp)
  · exact con_sameK u v (by omega)
theorem con_same : ∀ (n m : Nat) (u v : Vl), Cv K n u → Cv L m v → PureOK Tryz.prog 42 [.agg (vlA u), .agg (vlA v)] (.v (.bool (sameV u v))) := by
  intro n
  induction n with
  | zero =>
    intro m u v hu hv
    cases hu with
    | one hu => cases hv with
      | one hv => exact con_sameSh hKL hu hv
      | lst l hl h => exact con_sameK u _ (by cases hu <;> exact .inl (by simp))
  | succ n ih =>
    intro m u v hu hv
    cases hu with
    | one hu => cases hv with
      | one hv => exact con_sameSh hKL hu hv
      | lst l hl h => exact con_sameK u _ (by cases hu <;> exact .inl (by simp))
    | lst l hl h => cases hv with
      | one hv => exact con_sameK _ v (by cases hv <;> exact .inl (by simp))
      | lst l' hl' h' => exact con_same6 hl hl' fun x hx y hy => ih _ x y (h x hx) (h' y hy)
end
end Go.Proofs.YtfhpmbenldgfnaaGreatDoor
set_option linter.unusedVariables false
set_option linter.unusedSimpArgs false
namespace Go.Proofs.YtfhpmbenldgfnaaGreatDoor
open Go.RowKit QM SX LA
theorem zOk_cz (z : Int) : zOk (cz z) = true := (zOk_iff (cz_sm z)).2 (by rw [cz_val])
theorem lz_iff {zs : List Int} : lz (zs.map cz) = true ↔ pN zs := by
  unfold lz pN
  rw [Bool.or_eq_true, decide_eq_true_iff, decide_eq_true_iff, List.length_map]
  by_cases h : zs.length = 0
  · exact ⟨fun _ => .inl h, fun _ => .inl h⟩
  · have e : rzv ((zs.map cz).getD (zs.length - 1) (false, [])) = zs.getD (zs.length - 1) 0 := by
      rw [List.getD_eq_getElem?_getD, List.getD_eq_getElem?_getD, List.getElem?_map, List.getElem?_eq_getElem (show zs.length - 1 < zs.length by omega)]
      exact cz_val _
    rw [e]
theorem lw_iff {l : List Nat} : lw l = true ↔ wN l := by
  unfold lw wN
  rw [Bool.or_eq_true, decide_eq_true_iff, decide_eq_true_iff]
theorem ltp_all {p : Nat} {l : List Nat} : l.all (ltp p) = true ↔ ∀ x ∈ l, x < p := by
  rw [List.all_eq_true]
  exact ⟨fun h x hx => of_decide_eq_true (h x hx), fun h x hx => decide_eq_true (h x hx)⟩
theorem vP_pol (zs : List Int) : vP (vPol zs) = 0 := (vP0 _).2 ⟨.inr ⟨rfl, rfl, rfl, rfl⟩, .inr ⟨rfl, rfl, rfl⟩, .inl rfl, .inr ⟨rfl, rfl, rfl⟩, .inr rfl, .inr (.inr rfl), .inr rfl⟩
theorem vP_fld (p r c : Nat) (l : List Nat) : vP (vFld p r c l) = 0 := (vP0 _).2 ⟨.inr ⟨rfl, rfl, rfl, rfl⟩, .inr ⟨rfl, rfl, rfl⟩, .inr rfl, .inl rfl, .inr rfl, .inl rfl, .inr rfl⟩
theorem vP_rng (p : Nat) (l : List Nat) : vP (vRng p l) = 0 := (vP0 _).2 ⟨.inr ⟨rfl, rfl, rfl, rfl⟩, .inr ⟨rfl, rfl, rfl⟩, .inr rfl, .inr ⟨rfl, rfl, rfl⟩, .inl rfl, .inr (.inl rfl), .inr rfl⟩
theorem vP_lst (l : List Vl) : vP (vLst l) = 0 := (vP0 _).2 ⟨.inr ⟨rfl, rfl, rfl, rfl⟩, .inr ⟨rfl, rfl, rfl⟩, .inr rfl, .inr ⟨rfl, rfl, rfl⟩, .inr rfl, .inr (.inr rfl), .inl rfl⟩
theorem rq0_sz : (Sm WB rq0.2.1 ∧ Sm WB rq0.2.2.2) ∧ rq0.2.1.length ≤ 100000 ∧ rq0.2.2.2.length ≤ 100000 := ⟨⟨Sm.nil, Sm.nil⟩, Nat.zero_le _, Nat.zero_le _⟩
theorem no_mem {α : Type} {p : α → Prop} : ∀ x ∈ ([] : List α), p x := fun x hx => by cases hx
theorem vZ0_pol {zs : List Int} {K : Nat} (h : ∀ z ∈ zs, z.natAbs < WB ^ K) (hK : K ≤ 100000) (hl : zs.length ≤ 100000) : vZ0 (vPol zs) where
  q := rq0_sz
  a := no_mem
  al := Nat.zero_le _
  po := fun x hx => by obtain ⟨z, hz, rfl⟩ := List.mem_map.1 hx; exact ⟨cz_sm z, Nat.le_trans (wds_len (h z hz)) hK⟩
  pol := by rw [List.length_map]; exact hl
  p := WB_pos
  fa := no_mem
  fal := Nat.zero_le _
  ri := no_mem
  ril := Nat.zero_le _
  lil := Nat.zero_le _
theorem PrP.wb {p : Nat} (h : PrP p) : p < WB := by have := h.2.1; rw [WB_eq]; omega
theorem vZ0_fld {p r c : Nat} {l : List Nat} (hp : PrP p) (h : ∀ x ∈ l, x < p) (hl : l.length ≤ 100000) : vZ0 (vFld p r c l) where
  q := rq0_sz
  a := no_mem
  al := Nat.zero_le _
  po := no_mem
  pol := Nat.zero_le _
  p := hp.wb
  fa := fun x hx => Nat.lt_trans (h x hx) hp.wb
  fal := hl
  ri := no_mem
  ril := Nat.zero_le _
  lil := Nat.zero_le _
theorem vZ0_rng {p : Nat} {l : List Nat} (hp : PrP p) (h : ∀ x ∈ l, x < p) (hl : l.length ≤ 100000) : vZ0 (vRng p l) where
  q := rq0_sz
  a := no_mem
  al := Nat.zero_le _
  po := no_mem
  pol := Nat.zero_le _
  p := hp.wb
  fa := no_mem
  fal := Nat.zero_le _
  ri := fun x hx => Nat.lt_trans (h x hx) hp.wb
  ril := hl
  lil := Nat.zero_le _
theorem vZ0_lst {l : List Vl} (hl : l.length ≤ 100000) : vZ0 (vLst l) where
  q := rq0_sz
  a := no_mem
  al := Nat.zero_le _
  po := no_mem
  pol := Nat.zero_le _
  p := WB_pos
  fa := no_mem
  fal := Nat.zero_le _
  ri := no_mem
  ril := Nat.zero_le _
  lil := hl
theorem Sh.z {K : Nat} {v : Vl} (h : Sh K v) (hK : K ≤ 100000) : vZ0 v ∧ v.li = [] := by
  cases h with
  | num x h => exact ⟨vZ0.num h hK, rfl⟩
  | mat r c vs hl hr hc h => exact ⟨vZ0.mat h hK (by have := Nat.mul_le_mul hr hc; omega), rfl⟩
  | pol zs hl hn h => exact ⟨vZ0_pol h hK (by omega), rfl⟩
  | fld p r c l hp hl hr hc h => exact ⟨vZ0_fld hp h (by have := Nat.mul_le_mul hr hc; omega), rfl⟩
  | rng p l hp hl hn h => exact ⟨vZ0_rng hp h (by omega), rfl⟩
theorem Sh.f {K : Nat} {v : Vl} (h : Sh K v) (d : Nat) : vF d v = true := by
  cases h with
  | num x h => exact vF_num d x
  | mat r c vs hl hr hc h => exact vF_mat d hl hr hc
  | pol zs hl hn h =>
    rw [vF_3 (vP_pol zs) rfl]; unfold pOk
    rw [Bool.and_eq_true]
    exact ⟨List.all_eq_true.2 fun x hx => by obtain ⟨z, _, rfl⟩ := List.mem_map.1 hx; exact zOk_cz z, lz_iff.2 hn⟩
  | fld p r c l hp hl hr hc h =>
    rw [vF_4 (vP_fld p r c l) rfl]; unfold fOk
    rw [Bool.and_eq_true, Bool.and_eq_true]
    exact ⟨decide_eq_true hp, ltp_all.2 h, fp64_nat hr hc hl⟩
  | rng p l hp hl hn h =>
    rw [vF_5 (vP_rng p l) rfl]; unfold rOk
    rw [Bool.and_eq_true, Bool.and_eq_true]
    exact ⟨decide_eq_true hp, ltp_all.2 h, lw_iff.2 hn⟩
theorem Sh.zz {K : Nat} {v : Vl} (h : Sh K v) (hK : K ≤ 100000) : ∀ n, vZ n v
  | 0 => h.z hK
  | n + 1 => ⟨(h.z hK).1, by rw [(h.z hK).2]; exact no_mem⟩
theorem Cv.z {K : Nat} (hK : K ≤ 100000) : ∀ {n : Nat} {v : Vl}, Cv K n v → vZ n v := by
  intro n
  induction n with
  | zero =>
    intro v h
    cases h with
    | one h => exact h.zz hK 0
  | succ n ih =>
    intro v h
    cases h with
    | one h => exact h.zz hK _
    | lst l hl h => exact ⟨vZ0_lst (by omega), fun x hx => ih (h x hx)⟩
theorem Cv.f {K : Nat} : ∀ {n : Nat} {v : Vl}, Cv K n v → ∀ d, n < d → vF d v = true := by
  intro n
  induction n with
  | zero =>
    intro v h d hd
    cases h with
    | one h => exact h.f d
  | succ n ih =>
    intro v h d hd
    cases h with
    | one h => exact h.f d
    | lst l hl h =>
      obtain ⟨e, rfl⟩ : ∃ e, d = e + 1 := ⟨d - 1, by omega⟩
      rw [vF_6 (vP_lst l) rfl]
      exact List.all_eq_true.2 fun x hx => ih (h x hx) e (by omega)
theorem map_back {α β : Type} {f : α → β} {g : β → α} : ∀ (l : List β), (∀ x ∈ l, x = f (g x)) → l = (l.map g).map f
  | [], _ => rfl
  | x :: l, h => by rw [List.map_cons, List.map_cons, ← h x (List.mem_cons_self ..), ← map_back l fun y hy => h y (List.mem_cons_of_mem _ hy)]
theorem rqv_b {q : RawQ} (hs : Sm WB q.2.1 ∧ Sm WB q.2.2.2) (h : q.2.1.length ≤ 2 ∧ q.2.2.2.length ≤ 2) : RB (rqv q) 2 := Ra.rb (Ra.rawq hs h) (by decide)
theorem nilL {α : Type} {l : List α} (h : l.length = 0) : l = [] := List.eq_nil_of_length_eq_zero h
theorem small_key {d e : Nat} {v : Vl} (hw : vW1 d v) (hr : rW v) (hf : vF e v = true) : Sh 2 v ∨ (v = vLst v.li ∧ ∃ e', e = e' + 1 ∧ ∀ x ∈ v.li, vF e' x = true) := by
  by_cases hP : vP v = 0
  rotate_left
  · rw [vF_P hP] at hf; cases hf
  have h0 := (vP0 v).1 hP
  obtain ⟨w1, w2, w3, w4, w5, w6, w7, w8⟩ := hw
  obtain ⟨r1, r2, r3, r4, r5, r6, r7⟩ := (rW_iff v).1 hr
  have hk : v.k = 1 ∨ v.k = 2 ∨ v.k = 3 ∨ v.k = 4 ∨ v.k = 5 ∨ v.k = 6 ∨ (v.k ≠ 1 ∧ v.k ≠ 2 ∧ v.k ≠ 3 ∧ v.k ≠ 4 ∧ v.k ≠ 5 ∧ v.k ≠ 6) := by omega
  have q0 : v.k ≠ 1 → v.q = rq0 := fun h => (rq0_iff _).2 (h0.1.resolve_left h)
  have m0 : v.k ≠ 2 → v.r = 0 ∧ v.c = 0 ∧ v.a = [] := fun h => by have := h0.2.1.resolve_left h; exact ⟨this.1, this.2.1, nilL this.2.2⟩
  have p0 : v.k ≠ 3 → v.po = [] := fun h => nilL (h0.2.2.1.resolve_left h)
  have f0 : v.k ≠ 4 → v.fr = 0 ∧ v.fc = 0 ∧ v.fa = [] := fun h => by have := h0.2.2.2.1.resolve_left h; exact ⟨this.1, this.2.1, nilL this.2.2⟩
  have i0 : v.k ≠ 5 → v.ri = [] := fun h => nilL (h0.2.2.2.2.1.resolve_left h)
  have P0 : v.k ≠ 4 → v.k ≠ 5 → v.p = 0 := fun h h' => (h0.2.2.2.2.2.1.resolve_left h).resolve_left h'
  have l0 : v.k ≠ 6 → v.li = [] := fun h => nilL (h0.2.2.2.2.2.2.resolve_left h)
  clear h0
  rcases hk with hk | hk | hk | hk | hk | hk | hk
  · rw [vF_1 hP hk] at hf
    have e1 := (qOk_iff r1).1 hf
    obtain ⟨m1, m2, m3⟩ := m0 (by omega); obtain ⟨f1, f2, f3⟩ := f0 (by omega)
    have p1 := p0 (by omega); have i1 := i0 (by omega); have P1 := P0 (by omega) (by omega); have l1 := l0 (by omega)
    have rb := rqv_b r1 w6
    obtain ⟨k, q, r, c, a, po, p, fr, fc, fa, ri, li⟩ := v
    dsimp only at *
    subst hk m1 m2 m3 f1 f2 f3 p1 i1 P1 l1
    rw [e1]
    exact .inl (.num _ rb)
  · rw [vF_2 hP hk] at hf
    unfold mOk at hf
    rw [Bool.and_eq_true] at hf
    have e1 : ∀ x ∈ v.a, x = cq (rqv x) := fun x hx => (qOk_iff (r2 x hx)).1 (List.all_eq_true.1 hf.1 x hx)
    have e2 := of_decide_eq_true hf.2
    have rb : ∀ y ∈ v.a.map rqv, RB y 2 := fun y hy => by
      obtain ⟨x, hx, rfl⟩ := List.mem_map.1 hy
      exact rqv_b (r2 x hx) (FewP.len (w := 2) w7 x hx)
    have q1 := q0 (by omega); obtain ⟨f1, f2, f3⟩ := f0 (by omega)
    have p1 := p0 (by omega); have i1 := i0 (by omega); have P1 := P0 (by omega) (by omega); have l1 := l0 (by omega)
    obtain ⟨k, q, r, c, a, po, p, fr, fc, fa, ri, li⟩ := v
    dsimp only at *
    subst hk q1 f1 f2 f3 p1 i1 P1 l1
    obtain ⟨n, rfl⟩ : ∃ n : Nat, r = n := ⟨r.toNat, by omega⟩
    obtain ⟨m, rfl⟩ : ∃ m : Nat, c = m := ⟨c.toNat, by omega⟩
    have e3 := map_back (f := cq) (g := rqv) a e1
    have e4 : (a.map rqv).length = n * m := by rw [List.length_map]; have := e2.2.2.2.2; rw [← Int.natCast_mul] at this; omega
    have := Sh.mat n m (a.map rqv) e4 (by omega) (by omega) rb
    unfold vMat at this
    rw [← e3] at this
    exact .inl this
  · rw [vF_3 hP hk] at hf
    unfold pOk at hf
    rw [Bool.and_eq_true] at hf
    have e1 : ∀ x ∈ v.po, x = cz (rzv x) := fun x hx => (zOk_iff (r3 x hx)).1 (List.all_eq_true.1 hf.1 x hx)
    have rb : ∀ y ∈ v.po.map rzv, y.natAbs < WB ^ 2 := fun y hy => by
      obtain ⟨x, hx, rfl⟩ := List.mem_map.1 hy
      exact (ZQ.raw (b := x.1) (r3 x hx) (w1.2 x hx)).b
    have q1 := q0 (by omega); obtain ⟨f1, f2, f3⟩ := f0 (by omega); obtain ⟨m1, m2, m3⟩ := m0 (by omega)
    have i1 := i0 (by omega); have P1 := P0 (by omega) (by omega); have l1 := l0 (by omega)
    obtain ⟨k, q, r, c, a, po, p, fr, fc, fa, ri, li⟩ := v
    dsimp only at *
    subst hk q1 f1 f2 f3 m1 m2 m3 i1 P1 l1
    have e3 := map_back (f := cz) (g := rzv) po e1
    have e4 : pN (po.map rzv) := lz_iff.1 (by rw [← e3]; exact hf.2)
    have := Sh.pol (po.map rzv) (by rw [List.length_map]; omega) e4 rb
    unfold vPol at this
    rw [← e3] at this
    exact .inl this
  · rw [vF_4 hP hk] at hf
    unfold fOk at hf
    rw [Bool.and_eq_true, Bool.and_eq_true, decide_eq_true_iff, ltp_all] at hf
    have e2 := of_decide_eq_true hf.2.2
    have q1 := q0 (by omega); obtain ⟨m1, m2, m3⟩ := m0 (by omega)
    have p1 := p0 (by omega); have i1 := i0 (by omega); have l1 := l0 (by omega)
    obtain ⟨k, q, r, c, a, po, p, fr, fc, fa, ri, li⟩ := v
    dsimp only at *
    subst hk q1 m1 m2 m3 p1 i1 l1
    obtain ⟨n, rfl⟩ : ∃ n : Nat, fr = n := ⟨fr.toNat, by omega⟩
    obtain ⟨m, rfl⟩ : ∃ m : Nat, fc = m := ⟨fc.toNat, by omega⟩
    have e4 : fa.length = n * m := by have := e2.2.2.2.2; rw [← Int.natCast_mul] at this; omega
    exact .inl (.fld p n m fa hf.1 e4 (by omega) (by omega) hf.2.1)
  · rw [vF_5 hP hk] at hf
    unfold rOk at hf
    rw [Bool.and_eq_true, Bool.and_eq_true, decide_eq_true_iff, ltp_all, lw_iff] at hf
    have q1 := q0 (by omega); obtain ⟨m1, m2, m3⟩ := m0 (by omega); obtain ⟨f1, f2, f3⟩ := f0 (by omega)
    have p1 := p0 (by omega); have l1 := l0 (by omega)
    obtain ⟨k, q, r, c, a, po, p, fr, fc, fa, ri, li⟩ := v
    dsimp only at *
    subst hk q1 m1 m2 m3 f1 f2 f3 p1 l1
    exact .inl (.rng p ri hf.1 (by omega) hf.2.2 hf.2.1)
  · have q1 := q0 (by omega); obtain ⟨m1, m2, m3⟩ := m0 (by omega); obtain ⟨f1, f2, f3⟩ := f0 (by omega)
    have p1 := p0 (by omega); have i1 := i0 (by omega); have P1 := P0 (by omega) (by omega)
    cases e with
    | zero => rw [vF_60 hk] at hf; cases hf
    | succ e =>
      rw [vF_6 hP hk, List.all_eq_true] at hf
      obtain ⟨k, q, r, c, a, po, p, fr, fc, fa, ri, li⟩ := v
      dsimp only at *
      subst hk q1 m1 m2 m3 f1 f2 f3 p1 i1 P1
      exact .inr ⟨rfl, e, rfl, hf⟩
  · rw [vF_7 hk] at hf; cases hf
theorem Cv.of : ∀ {d e : Nat} {v : Vl}, vW d v → rW v → vF e v = true → Cv 2 (d + 1) v := by
  intro d
  induction d with
  | zero =>
    intro e v h hr hf
    rcases small_key h.one hr hf with h1 | ⟨h1, e', he, h2⟩
    · exact .one h1
    · rw [h1]; exact .lst v.li (by rw [h.2]; exact Nat.zero_le _) (by rw [h.2]; exact no_mem)
  | succ d ih =>
    intro e v h hr hf
    rcases small_key h.one hr hf with h1 | ⟨h1, e', he, h2⟩
    · exact .one h1
    · rw [h1]
      exact .lst v.li (by have := h.one.2.2.1; omega) fun x hx => ih (h.2 x hx) (((rW_iff v).1 hr).2.2.2.2.2.2 x hx) (h2 x hx)
attribute [local irreducible] IntKind.wrap Go1 Reg WP thenK inBlk retQ retF RetF RetOK ResOK CallOK OpOK Sat
attribute [local irreducible] qsub qmul qquo qcmp qadd qv redS mf PrP qOk zOk vP fp64 lz vF cq rqv plen pNorm
theorem Cv.F {K n : Nat} {v : Vl} (h : Cv K n v) (hK : K ≤ 100000) (hn : n ≤ 15) : PureOK Tryz.prog 28 [.agg (vlA v)] (.v (.bool true)) := by
  have c := con_vFormed (h.z hK)
  rwa [h.f 20 (by omega)] at c
theorem Cv.is {K n : Nat} {v : Vl} (h : Cv K n v) (hK : K ≤ 100000) (hn : n ≤ 15) : PureOK Tryz.prog 14 [.agg (vlA v)] (.v (.bool true)) := by
  have c := con_is (h.z hK)
  rwa [h.f 20 (by omega)] at c
theorem con_Same {K L n m : Nat} {u v : Vl} (hu : Cv K n u) (hv : Cv L m v) (hK : K + L ≤ 100000) (hn : n ≤ 15) (hm : m ≤ 15) : PureOK Tryz.prog 17 [.agg (vlA u), .agg (vlA v)] (.v (.bool (sameV u v))) := by
  have c := con_same hK n m u v hu hv
  have c1 := hu.F (by omega) hn
  have c2 := hv.F (by omega) hm
  refine PureOK.fnF Tryz.func17 Tryz.results17 Tryz.ntmps17 rfl rfl rfl (by simp [AV.ids, AV0.ids, Atom.ids]) rfl (fun w0 T B E0 hB => ?_)
  refine SX.goJ ?_
  exact retB rfl
end Go.Proofs.YtfhpmbenldgfnaaGreatDoor
set_option linter.unusedVariables false
set_option linter.unusedSimpArgs false
namespace Go.Proofs.YtfhpmbenldgfnaaGreatDoor
open Go.RowKit QM SX LA
abbrev mq (vs : List Rat) : List Q4 := (vs.map cq).map rq
abbrev mz (zs : List Int) : List Z2 := (zs.map cz).map rz
theorem mq_len (vs : List Rat) : (mq vs).length = vs.length := by rw [List.length_map, List.length_map]
theorem imp_mat {r c : Nat} {vs : List Rat} : AV0.imp (.agg [.c (.val (.int .i64 2)), .c (.val (.bool false)), .c (.val (.slice none 0 0)), .c (.val (.bool false)), .c (.val (.slice none 0 0)), .c (.val (.int .i64 (r : Int))), .c (.val (.int .i64 (c : Int))), .c (.sat (rowR 4 q4C (vs.map q4v))), .c (.val (.slice none 0 0)), .c (.val (.int .u64 0)), .c (.val (.int .i64 0)), .c (.val (.int .i64 0)), .c (.val (.slice none 0 0)), .c (.val (.slice none 0 0)), .c (.val (.slice none 0 0))]) (.agg (vlA (vMat r c vs))) :=
  imp_agg ⟨AtomI.refl _, AtomI.refl _, AtomI.nilN, AtomI.refl _, AtomI.nilN, AtomI.refl _, AtomI.refl _, AtomI.rats vs, AtomI.nil, AtomI.refl _, AtomI.refl _, AtomI.refl _, AtomI.nil, AtomI.nil, AtomI.nil, trivial⟩
attribute [local irreducible] IntKind.wrap Go1 Reg WP thenK inBlk retQ retF RetF RetOK ResOK CallOK OpOK Sat
attribute [local irreducible] qsub qmul qquo qcmp qadd qv redS mf PrP qOk zOk vP fp64 lz vF cq rqv plen pNorm pBoth pScale
theorem con_matT (r c : Nat) (vs : List Rat) : PureOK Tryz.prog 108 [.agg (matQ r c (vs.map q4v)), .v (.int .i64 0)] (.tup [.agg (vlA (vMat r c vs)), eNo 0]) := by
  refine PureOK.fnF Tryz.func108 Tryz.results108 Tryz.ntmps108 rfl rfl rfl (by simp [AV.ids, AV0.ids, Atom.ids]) rfl (fun w0 T B E0 hB => ?_)
  refine SX.goJ ?_
  refine .ok (RetOK.mk2 ((ResOK.agg15 rfl rfl rfl).imp ?_) (ResOK.tmp rfl))
  exact imp_mat
def mAdd (r c : Nat) (vs vs' : List Rat) : List Rat := tabR c (fun i k => vat vs c i k + vat vs' c i k) r
def mScale (r c : Nat) (vs : List Rat) (x : Rat) : List Rat := tabR c (fun i k => vat vs c i k * x) r
def mxMul (r c d : Nat) (vs vs' : List Rat) : List Rat := tabR d (prodV c (vat vs c) (vat vs' d)) r
theorem con_prod1 {x y : Rat} {K L : Nat} (hx : RB x K) (hy : RB y L) (hK : K + L ≤ 1000000) : PureOK Tryz.prog 104 [.agg (vlA (vNum x)), .agg (vlA (vNum y))] (.tup [.agg (vlA (vNum (x * y))), eNo 0]) := by
  haveI := Ra.cq hx
  haveI := Ra.cq hy
  obtain ⟨X, cA, hX⟩ := eMul (q4A (rq (cq x))) (q4A (rq (cq y))) (K := K) (K' := L) (by omega)
  have e := hX.nf
  subst e
  have cN := con_numT (x * y) 0
  refine PureOK.fnF Tryz.func104 Tryz.results104 Tryz.ntmps104 rfl rfl rfl (by simp [AV.ids, AV0.ids, Atom.ids]) rfl (fun w0 T B E0 hB => ?_)
  refine SX.goJ ?_
  refine .ok (RetOK.mk2 (ResOK.agg15 rfl rfl rfl) (ResOK.tmp rfl))
theorem con_prod2 {r c d : Nat} {vs vs' : List Rat} {K L : Nat} (h : ∀ v ∈ vs, RB v K) (h' : ∀ v ∈ vs', RB v L) (hl : vs.length = r * c) (hl' : vs'.length = c * d) (hr : r ≤ 64) (hc : c ≤ 64) (hd : d ≤ 64) (h1 : 1 ≤ K) (h1' : 1 ≤ L) (hB : 1 + (c + 1) * (K + L + 1) ≤ 400000) :
    PureOK Tryz.prog 104 [.agg (vlA (vMat r c vs)), .agg (vlA (vMat c d vs'))] (.tup [.agg (vlA (vMat r d (mxMul r c d vs vs'))), eNo 0]) := by
  have c1 := con_qmMul (MV.cq h) (by rw [mq_len]; exact hl) (MV.cq h') (by rw [mq_len]; exact hl') hr hc hd h1 h1' hB
  rw [matA_matQ] at c1
  have c2 := con_matT r d (mxMul r c d vs vs')
  refine PureOK.fnF Tryz.func104 Tryz.results104 Tryz.ntmps104 rfl rfl rfl (by simp [AV.ids, AV0.ids, Atom.ids]) rfl (fun w0 T B E0 hB => ?_)
  refine SX.goJ ?_
  refine .ok (RetOK.mk2 (ResOK.agg15 rfl rfl rfl) (ResOK.tmp rfl))
theorem con_whl {x : Rat} {K : Nat} (hx : RB x K) (hK : K ≤ 100000) : PureOK Tryz.prog 178 [.agg (q4A (rq (cq x)))] (.tup [.agg (zN (if x.den = 1 then x.num else 0)), .one (.c (.val (.bool (decide (x.den = 1)))))]) := by
  have hl := (vZ0.num hx hK).q.2
  dsimp only at hl
  have h := (con_rWhole (h := ZI.raw (cq x).1 (cq x).2.1) (h' := ZI.raw (cq x).2.2.1 (cq x).2.2.2)).h (by omega)
  unfold rwhole at h
  rw [rmk_q, cq_val'] at h
  have e1 : ((x.den : Int) = 1) ↔ x.den = 1 := by omega
  simp only [e1] at h
  exact h
section
variable {u v w : Vl} {e : Int}
theorem con_times0 (hk : u.k = v.k) (c : PureOK Tryz.prog 104 [.agg (vlA u), .agg (vlA v)] (.tup [.agg (vlA w), eNo e])) : PureOK Tryz.prog 44 [.agg (vlA u), .agg (vlA v)] (.tup [.agg (vlA w), eNo e]) := by
  refine PureOK.fnF Tryz.func44 Tryz.results44 Tryz.ntmps44 rfl rfl rfl (by simp [AV.ids, AV0.ids, Atom.ids]) rfl (fun w0 T B E0 hB => ?_)
  refine SX.goJ ?_
  refine .ok (RetOK.mk2 (ResOK.agg15 rfl rfl rfl) (ResOK.tmp rfl))
theorem con_BinF1 (op : Int) (c1 : PureOK Tryz.prog 28 [.agg (vlA u)] (.v (.bool false))) : PureOK Tryz.prog 13 [.v (.int .i64 op), .agg (vlA u), .agg (vlA v)] (.tup [.agg (vlA v0), eNo 1]) := by
  refine PureOK.fnF Tryz.func13 Tryz.results13 Tryz.ntmps13 rfl rfl rfl (by simp [AV.ids, AV0.ids, Atom.ids]) rfl (fun w0 T B E0 hB => ?_)
  refine SX.goJ ?_
  refine .ok (RetOK.mk2 ((ResOK.agg15 rfl rfl rfl).imp ?_) (ResOK.tmp rfl))
  exact imp_none
variable (c1 : PureOK Tryz.prog 28 [.agg (vlA u)] (.v (.bool true))) (c2 : PureOK Tryz.prog 28 [.agg (vlA v)] (.v (.bool true)))
include c1 c2
theorem con_Bin6 (c : PureOK Tryz.prog 44 [.agg (vlA u), .agg (vlA v)] (.tup [.agg (vlA w), eNo e])) : PureOK Tryz.prog 13 [.v (.int .i64 6), .agg (vlA u), .agg (vlA v)] (.tup [.agg (vlA w), eNo e]) := by
  refine PureOK.fnF Tryz.func13 Tryz.results13 Tryz.ntmps13 rfl rfl rfl (by simp [AV.ids, AV0.ids, Atom.ids]) rfl (fun w0 T B E0 hB => ?_)
  refine SX.goJ ?_
  refine .ok (RetOK.mk2 (ResOK.agg15 rfl rfl rfl) (ResOK.tmp rfl))
theorem con_Bin8 (c : PureOK Tryz.prog 46 [.agg (vlA u), .agg (vlA v)] (.tup [.agg (vlA w), eNo e])) : PureOK Tryz.prog 13 [.v (.int .i64 8), .agg (vlA u), .agg (vlA v)] (.tup [.agg (vlA w), eNo e]) := by
  refine PureOK.fnF Tryz.func13 Tryz.results13 Tryz.ntmps13 rfl rfl rfl (by simp [AV.ids, AV0.ids, Atom.ids]) rfl (fun w0 T B E0 hB => ?_)
  refine SX.goJ ?_
  refine .ok (RetOK.mk2 (ResOK.agg15 rfl rfl rfl) (ResOK.tmp rfl))
end
end Go.Proofs.YtfhpmbenldgfnaaGreatDoor
set_option linter.unusedVariables false
set_option linter.unusedSimpArgs false
namespace Go.Proofs.YtfhpmbenldgfnaaGreatDoor
open Go.RowKit QM SX LA
def mulV (i : Int) : Vl → Vl
  | ⟨k, q, r, c, a, po, p, fr, fc, fa, ri, li⟩ => if k = 1 then vNum (i * rqv q) else if k = 2 then vMat r.toNat c.toNat (mScale r.toNat c.toNat (a.map rqv) i) else vPol (pScale (po.map rzv) i)
attribute [local irreducible] IntKind.wrap Go1 Reg WP thenK inBlk retQ retF RetF RetOK ResOK CallOK OpOK Sat
attribute [local irreducible] qsub qmul qquo qcmp qadd qv redS mf PrP qOk zOk vP fp64 lz vF cq rqv plen pNorm pBoth pScale
structure Muls (v : Vl) (k : Nat) : Prop where
  a : PureOK Tryz.prog 44 [.agg (vlA (vNum ((k : Int) : Rat))), .agg (vlA v)] (.tup [.agg (vlA (mulV k v)), eNo 0])
  b : PureOK Tryz.prog 44 [.agg (vlA v), .agg (vlA (vNum ((k : Int) : Rat)))] (.tup [.agg (vlA (mulV k v)), eNo 0])
  h : ∃ (w : Vl) (e : Int), PureOK Tryz.prog 44 [.agg (vlA (vNum (1 / 2))), .agg (vlA v)] (.tup [.agg (vlA w), eNo e]) ∧ ((v.k ≠ 3 ∧ e = 0) ∨ (v.k = 3 ∧ e = 5))
  d : PureOK Tryz.prog 48 [.agg (vlA v), .agg (vlA v)] (.tup [.agg (vlA (mulV 0 v)), eNo 0])
  s : ∀ i, i < k → PureOK Tryz.prog 47 [.agg (vlA (mulV (i : Int) v)), .agg (vlA v)] (.tup [.agg (vlA (mulV ((i + 1 : Nat) : Int) v)), eNo 0])
  c : ∀ i, i ≤ k → Cv 4 0 (mulV (i : Int) v)
  kk : ∀ i, (mulV i v).k = v.k
end Go.Proofs.YtfhpmbenldgfnaaGreatDoor
set_option linter.unusedVariables false
set_option linter.unusedSimpArgs false
set_option linter.unusedSectionVars false
namespace Go.Proofs.YtfhpmbenldgfnaaGreatDoor
open Go.RowKit QM SX LA
def cvR (a b : List Int) : Nat → Nat → Int
  | 0, _ => 0
  | i + 1, m => cvR a b i m + (if i ≤ m then a.getD i 0 * b.getD (m - i) 0 else 0)
def cvP (a b : List Int) (i k m : Nat) : Int := cvR a b i m + (if i ≤ m ∧ m < i + k then a.getD i 0 * b.getD (m - i) 0 else 0)
def pMul (a b : List Int) : List Int := if a.length = 0 ∨ b.length = 0 then [] else pNorm (tabP (a.length + b.length - 1) (cvR a b a.length))
abbrev tabz (n : Nat) (f : Nat → Int) : List Z2 := (List.range n).map fun m => z2v (f m)
attribute [local irreducible] IntKind.wrap Go1 Reg WP thenK inBlk retQ retF RetF RetOK ResOK CallOK OpOK Sat
attribute [local irreducible] qsub qmul qquo qcmp qadd qv redS mf PrP qOk zOk vP fp64 lz vF cq rqv plen pNorm pBoth pScale mulV cvR cvP pMul
end Go.Proofs.YtfhpmbenldgfnaaGreatDoor
set_option linter.unusedVariables false
set_option linter.unusedSimpArgs false
set_option linter.unusedSectionVars false
namespace Go.Proofs.YtfhpmbenldgfnaaGreatDoor
open Go.RowKit QM SX LA
def pShift (zs : List Int) (n : Nat) : List Int := List.replicate n 0 ++ zs
def exF (b : List Int) : Nat → List Int → (Nat → Int) → Option ((Nat → Int) × List Int)
  | 0, a, f => some (f, a)
  | n + 1, a, f => if zexok (a.getD (n + b.length - 1) 0) (b.getD (b.length - 1) 0) then exF b n (pSub a (pShift (pScale b (zexq (a.getD (n + b.length - 1) 0) (b.getD (b.length - 1) 0))) n)) (fun i => if i = n then zexq (a.getD (n + b.length - 1) 0) (b.getD (b.length - 1) 0) else f i) else none
def exR (zs b : List Int) : Option (List Int) := if b.length = 0 then none else match exF b (zs.length + 1 - b.length) zs (fun _ => 0) with
  | none => none
  | some (f, a) => if a.length = 0 then some (pNorm (tabP (zs.length + 1 - b.length) f)) else none
def cvG (f : Nat → Int) (b : List Int) : Nat → Nat → Int
  | 0, _ => 0
  | i + 1, j => cvG f b i j + (if i ≤ j then f i * b.getD (j - i) 0 else 0)
attribute [local irreducible] IntKind.wrap Go1 Reg WP thenK inBlk retQ retF RetF RetOK ResOK CallOK OpOK Sat
attribute [local irreducible] qsub qmul qquo qcmp qadd qv redS mf PrP qOk zOk vP fp64 lz vF cq rqv plen pNorm pBoth pScale mulV cvR cvP pMul pShift zexq zexok exF
structure DvK (S L K K' : Nat) (n : Nat) (a : List Int) (f : Nat → Int) : Prop where
  le : n ≤ S
  p : pN a
  l : a.length ≤ L
  b : ∀ z ∈ a, z.natAbs < WB ^ (K + (S - n) * (K' + 1))
  f : ∀ i, (f i).natAbs < WB ^ (K + S * (K' + 1))
theorem bd_up {x K L : Nat} (h : x < WB ^ K) (hK : K ≤ L) : x < WB ^ L := Nat.lt_of_lt_of_le h (Nat.pow_le_pow_right WB_pos hK)
end Go.Proofs.YtfhpmbenldgfnaaGreatDoor
set_option linter.unusedVariables false
set_option linter.unusedSimpArgs false
namespace Go.Proofs.YtfhpmbenldgfnaaGreatDoor
open Go.RowKit QM SX LA
attribute [local irreducible] IntKind.wrap Go1 Reg WP thenK inBlk retQ retF RetF RetOK ResOK CallOK OpOK Sat
attribute [local irreducible] qsub qmul qquo qcmp qadd qv redS mf PrP qOk zOk vP fp64 lz vF cq rqv plen pNorm pBoth pScale mulV vW
theorem con_fewT {u v : Vl} (hu : vW 3 u) (hv : vW 3 v) : PureOK Tryz.prog 12 [.agg (vlA u), .agg (vlA v)] (.v (.bool true)) := by
  have c1 := (con_Few29 3 u (by decide)).1 hu
  have c2 := (con_Few29 3 v (by decide)).1 hv
  refine PureOK.fnF Tryz.func12 Tryz.results12 Tryz.ntmps12 rfl rfl rfl (by simp [AV.ids, AV0.ids, Atom.ids]) rfl (fun w0 T B E0 hB => ?_)
  refine SX.goJ ?_
  exact retB rfl
theorem con_fewF {u v : Vl} (h : ¬ (vW 3 u ∧ vW 3 v)) : PureOK Tryz.prog 12 [.agg (vlA u), .agg (vlA v)] (.v (.bool false)) := by
  by_cases hu : vW 3 u
  · have c1 := (con_Few29 3 u (by decide)).1 hu
    have c2 := (con_Few29 3 v (by decide)).2 fun hv => h ⟨hu, hv⟩
    refine PureOK.fnF Tryz.func12 Tryz.results12 Tryz.ntmps12 rfl rfl rfl (by simp [AV.ids, AV0.ids, Atom.ids]) rfl (fun w0 T B E0 hB => ?_)
    refine SX.goJ ?_
    exact retB rfl
  · have c1 := (con_Few29 3 u (by decide)).2 hu
    refine PureOK.fnF Tryz.func12 Tryz.results12 Tryz.ntmps12 rfl rfl rfl (by simp [AV.ids, AV0.ids, Atom.ids]) rfl (fun w0 T B E0 hB => ?_)
    refine SX.goJ ?_
    exact retB rfl
section
variable (n : Int) {k : Nat} (hn : n.tmod 7 = (k : Int)) (hk : k ≤ 6) {v : Vl}
include hn hk
end
end Go.Proofs.YtfhpmbenldgfnaaGreatDoor

import Derived.Test.YtfhpmbenldgfnaaGreatDoorR16
import Derived.Test.YtfhpmbenldgfnaaGreatDoorR8
set_option linter.unusedVariables false
set_option linter.unusedSimpArgs false
namespace Go.Proofs.YtfhpmbenldgfnaaGreatDoor
open Go.RowKit QM SX LA
def wl (zs : List Nat) : Nat → Nat
  | 0 => 0
  | k + 1 => if zs.getD k 0 = 0 then wl zs k else k + 1
def wlen (zs : List Nat) : Nat := wl zs zs.length
def wNorm (zs : List Nat) : List Nat := zs.take (wlen zs)
def gN (zs : List Nat) : Prop := zs.length = 0 ∨ zs.getD (zs.length - 1) 0 ≠ 0
theorem wl_le (zs : List Nat) : ∀ k, wl zs k ≤ k
  | 0 => Nat.le_refl _
  | k + 1 => by unfold wl; split; exact Nat.le_succ_of_le (wl_le zs k); exact Nat.le_refl _
theorem wl_top (zs : List Nat) : ∀ k, wl zs k = 0 ∨ zs.getD (wl zs k - 1) 0 ≠ 0
  | 0 => .inl rfl
  | k + 1 => by
    unfold wl; split
    · exact wl_top zs k
    · next h => exact .inr h
theorem wl_zero (zs : List Nat) : ∀ (k j : Nat), wl zs k ≤ j → j < k → zs.getD j 0 = 0
  | 0, j, _, h => absurd h (Nat.not_lt_zero _)
  | k + 1, j, h1, h2 => by
    unfold wl at h1
    split at h1
    · next h =>
      by_cases hj : j = k
      · subst hj; exact h
      · exact wl_zero zs k j h1 (by omega)
    · omega
theorem wlen_le (zs : List Nat) : wlen zs ≤ zs.length := wl_le zs _
theorem wNorm_len (zs : List Nat) : (wNorm zs).length = wlen zs := by unfold wNorm; rw [List.length_take]; exact Nat.min_eq_left (wlen_le zs)
theorem getDw_ge {zs : List Nat} {j : Nat} (h : zs.length ≤ j) : zs.getD j 0 = 0 := by rw [List.getD_eq_getElem?_getD, List.getElem?_eq_none h]; rfl
theorem wNorm_at (zs : List Nat) (j : Nat) : (wNorm zs).getD j 0 = zs.getD j 0 := by
  by_cases h : j < wlen zs
  · unfold wNorm; rw [List.getD_eq_getElem?_getD, List.getElem?_take, if_pos h, ← List.getD_eq_getElem?_getD]
  · rw [getDw_ge (by rw [wNorm_len]; omega)]
    by_cases h2 : j < zs.length
    · exact (wl_zero zs _ j (by unfold wlen at h; omega) h2).symm
    · exact (getDw_ge (by omega)).symm
theorem wNorm_gN (zs : List Nat) : gN (wNorm zs) := by
  rcases wl_top zs zs.length with h | h
  · exact .inl (by rw [wNorm_len]; exact h)
  · exact .inr (by rw [wNorm_len, wNorm_at]; exact h)
theorem gN_ext {a b : List Nat} (ha : gN a) (hb : gN b) (h : ∀ j, a.getD j 0 = b.getD j 0) : a = b := by
  have key : ∀ {a b : List Nat}, gN a → (∀ j, a.getD j 0 = b.getD j 0) → a.length ≤ b.length := fun {a b} ha h => by
    rcases ha with h0 | h0
    · omega
    · rcases Nat.lt_or_ge b.length a.length with h1 | h1
      · rw [h, getDw_ge (by omega)] at h0; exact absurd rfl h0
      · exact h1
  have hl : a.length = b.length := Nat.le_antisymm (key ha h) (key hb fun j => (h j).symm)
  apply List.ext_getElem? ; intro j
  by_cases hj : j < a.length
  · have := h j
    rw [List.getD_eq_getElem?_getD, List.getD_eq_getElem?_getD, List.getElem?_eq_getElem hj, List.getElem?_eq_getElem (by omega)] at this
    rw [List.getElem?_eq_getElem hj, List.getElem?_eq_getElem (by omega)]
    exact congrArg some this
  · rw [List.getElem?_eq_none (by omega), List.getElem?_eq_none (by omega)]
theorem wNorm_mem {zs : List Nat} : ∀ z ∈ wNorm zs, z ∈ zs := fun z h => List.mem_of_mem_take h
def tabN (n : Nat) (f : Nat → Nat) : List Nat := (List.range n).map f
theorem tabN_len (n : Nat) (f : Nat → Nat) : (tabN n f).length = n := by unfold tabN; rw [List.length_map, List.length_range]
theorem tabN_at {n : Nat} {f : Nat → Nat} {j : Nat} (h : j < n) : (tabN n f).getD j 0 = f j := by
  unfold tabN; rw [List.getD_eq_getElem?_getD, List.getElem?_map, List.getElem?_range h]; rfl
def wBoth (op : Nat → Nat → Nat) (a b : List Nat) : List Nat := wNorm (tabN (max a.length b.length) fun i => op (a.getD i 0) (b.getD i 0))
theorem wNorm_lt {zs : List Nat} {p : Nat} (h : ∀ z ∈ zs, z < p) : ∀ z ∈ wNorm zs, z < p := fun z hz => h z (wNorm_mem z hz)
theorem tabN_lt {n p : Nat} {f : Nat → Nat} (h : ∀ i, f i < p) : ∀ z ∈ tabN n f, z < p := fun z hz => by
  unfold tabN at hz
  obtain ⟨i, _, rfl⟩ := List.mem_map.1 hz
  exact h i
theorem tabN_get {n : Nat} {f : Nat → Nat} {k : Nat} (h : k < n) : (tabN n f)[k]? = some (f k) := by
  unfold tabN; rw [List.getElem?_map, List.getElem?_range h]; rfl
theorem tabN_set {n : Nat} {f g : Nat → Nat} {k : Nat} {x : Nat} (h : ∀ m, (if m = k then x else f m) = g m) : (tabN n f).set k x = tabN n g := by
  apply List.ext_getElem?
  intro j
  rw [List.getElem?_set]
  by_cases hj : k = j
  · subst hj
    rw [if_pos rfl, tabN_len]
    by_cases hk : k < n
    · rw [if_pos hk, tabN_get hk, ← h k, if_pos rfl]
    · rw [if_neg hk, List.getElem?_eq_none (by rw [tabN_len]; omega)]
  · rw [if_neg hj]
    by_cases hk : j < n
    · rw [tabN_get hk, tabN_get hk, ← h j, if_neg (fun e => hj e.symm)]
    · rw [List.getElem?_eq_none (by rw [tabN_len]; omega), List.getElem?_eq_none (by rw [tabN_len]; omega)]
theorem tabN_zero {n : Nat} {f : Nat → Nat} (h : ∀ m, f m = 0) : List.replicate n (CA.val (.int .u64 0)) = (tabN n f).flatMap wdC := by
  have : tabN n f = List.replicate n 0 := by
    apply List.ext_getElem?; intro j
    rw [List.getElem?_replicate]
    by_cases hj : j < n
    · rw [tabN_get hj, if_pos hj, h]
    · rw [if_neg hj, List.getElem?_eq_none (by rw [tabN_len]; omega)]
  rw [this]
  clear this h
  induction n with
  | zero => rfl
  | succ n ih => rw [List.replicate_succ, List.replicate_succ, List.flatMap_cons, ← ih]; rfl
theorem wd_map (l : List Nat) : l.flatMap wdC = l.map fun x : Nat => CA.val (.int .u64 (x : Int)) := by
  induction l with
  | nil => rfl
  | cons a l ih => rw [List.flatMap_cons, ih]; rfl
theorem spl_wd {l : List Nat} {i x : Nat} (h : i < l.length) : spl (l.flatMap wdC) (i * 1) [CA.val (.int .u64 (x : Int))] = (l.set i x).flatMap wdC := by
  rw [wd_map, wd_map, Nat.mul_one]
  exact spl_map (fun x : Nat => CA.val (.int .u64 (x : Int))) l i x h
def wRest (p : Nat) (l : List Nat) : List Nat := l.map (· % p)
theorem wRest_len (p : Nat) (l : List Nat) : (wRest p l).length = l.length := List.length_map _
theorem wRest_at (p : Nat) (l : List Nat) (k : Nat) : (wRest p l).getD k 0 = l.getD k 0 % p := by
  unfold wRest
  rw [List.getD_eq_getElem?_getD, List.getD_eq_getElem?_getD, List.getElem?_map]
  by_cases hk : k < l.length
  · rw [List.getElem?_eq_getElem hk]; rfl
  · rw [List.getElem?_eq_none (by omega)]; exact (Nat.zero_mod p).symm
theorem wRest_lt {p : Nat} (hp : PrP p) (l : List Nat) : ∀ z ∈ wRest p l, z < p := fun z hz => by
  unfold wRest at hz
  obtain ⟨i, _, rfl⟩ := List.mem_map.1 hz
  exact Nat.mod_lt _ (by have := hp.lt; omega)
theorem getDw_lt {l : List Nat} {B : Nat} (h : ∀ x ∈ l, x < B) (hB : 0 < B) (k : Nat) : l.getD k 0 < B := by
  rw [List.getD_eq_getElem?_getD]
  by_cases hi : k < l.length
  · rw [List.getElem?_eq_getElem hi]; exact h _ (List.getElem_mem hi)
  · rw [List.getElem?_eq_none (by omega)]; exact hB
def fNorm (p : Nat) (l : List Nat) : List Nat := wNorm (wRest p l)
theorem fNorm_gN (p : Nat) (l : List Nat) : gN (fNorm p l) := wNorm_gN _
theorem fNorm_lt {p : Nat} (hp : PrP p) (l : List Nat) : ∀ z ∈ fNorm p l, z < p := wNorm_lt (wRest_lt hp l)
theorem fNorm_len (p : Nat) (l : List Nat) : (fNorm p l).length ≤ l.length := by
  unfold fNorm; rw [wNorm_len]
  have := wlen_le (wRest p l)
  rwa [wRest_len] at this
theorem fNorm_at (p : Nat) (l : List Nat) (j : Nat) : (fNorm p l).getD j 0 = l.getD j 0 % p := by unfold fNorm; rw [wNorm_at, wRest_at]
theorem roww_len {n : Nat} {l : List Nat} (h : l.length = n) : rowR 1 wdC l = sliceR 1 n (l.flatMap wdC) := by subst h; rfl
attribute [local irreducible] IntKind.wrap Go1 Reg WP thenK inBlk retQ retF RetF RetOK ResOK CallOK OpOK Sat
attribute [local irreducible] qsub qmul qquo qcmp qadd qv redS mf PrP qOk zOk vP fp64 lz vF cq rqv plen pNorm pBoth pScale mulV fA fS fM wlen wNorm wRest
theorem con_wat (l : List Nat) (i : Nat) (hl : l.length ≤ 1000000) : PureOK Tryz.prog 216 [.r (rowR 1 wdC l), .v (.int .i64 (i : Int))] (.v (.int .u64 ((l.getD i 0 : Nat) : Int))) := by
  rw [List.getD_eq_getElem?_getD]
  refine PureOK.fnF Tryz.func216 Tryz.results216 Tryz.ntmps216 rfl rfl rfl (by simp [AV.ids, AV0.ids, Atom.ids]) rfl (fun w0 T B E0 hB => ?_)
  by_cases h : i < l.length
  · obtain ⟨q, hq⟩ : ∃ q, l[i]? = some q := ⟨_, List.getElem?_eq_getElem h⟩
    rw [hq]
    refine SX.goL ?_
    exact retI rfl
  · rw [List.getElem?_eq_none (by omega)]
    refine SX.goL ?_
    exact retI rfl
set_option maxRecDepth 20000 in
set_option maxHeartbeats 2000000 in
theorem con_fNorm {p : Nat} (hp : PrP p) {l : List Nat} (hl : l.length ≤ 100000) (hb : ∀ x ∈ l, x < 18446744073709551616) : PureOK Tryz.prog 175 [.agg (gfA p), .r (rowR 1 wdC l)] (.r (rowR 1 wdC (fNorm p l))) := by
  have hlen := wRest_len p l
  have hle := wlen_le (wRest p l)
  have hpl := hp.lt
  refine PureOK.fnF Tryz.func175 Tryz.results175 Tryz.ntmps175 rfl rfl rfl (by simp [AV.ids, AV0.ids, Atom.ids]) rfl (fun w0 T B E0 hB => ?_)
  refine SX.goL ?_
  refine W.loop (fun k => k ≤ l.length ∧ wl (wRest p l) k = wlen (wRest p l)) (fun k => [(1, .r (rowR 1 wdC l)), (2, .ptr 2 0), (5, .v (.int .i64 (k : Int)))]) (fun _ => [(2, .box 100 (gfA p))]) (fun k => k) l.length ⟨Nat.le_refl _, by rw [← hlen]; unfold wlen; rfl⟩ (fun k ⟨hk, he⟩ => ?_)
  by_cases h0 : 0 < k
  · obtain ⟨m, rfl⟩ : ∃ m, k = m + 1 := ⟨k - 1, by omega⟩
    obtain ⟨q, hq⟩ : ∃ q, l[m + 1 - 1]? = some q := ⟨_, List.getElem?_eq_getElem (by omega)⟩
    have hq' : l[m]? = some q := hq
    have hg : (wRest p l).getD m 0 = q % p := by rw [wRest_at, List.getD_eq_getElem?_getD, hq']; rfl
    have cS := con_gfNorm hp q (hb q (List.mem_of_getElem? hq'))
    unfold wl at he
    rw [hg] at he
    by_cases hz0 : q % p = 0
    · rw [if_pos hz0] at he
      rw [hz0] at cS
      refine SX.goL ?_
      exact W.next m ⟨by omega, he⟩ (by omega)
    · rw [if_neg hz0] at he
      have h1 : ¬ ((q % p : Nat) : Int) = 0 := by omega
      rw [← he] at hle
      refine SX.goL ?_
      refine W.loop (fun j => j ≤ m + 1) (fun j => [(1, .r (rowR 1 wdC l)), (2, .ptr 2 0), (6, .own 100), (29, .v (.int .i64 ((m + 1 : Nat) : Int))), (30, .v (.int .i64 (j : Int)))]) (fun j => [(2, .box 100 (gfA p)), (100, .row 33 1 (m + 1) ((tabN (m + 1) fun i => if i < j then l.getD i 0 % p else 0).flatMap wdC))]) (fun j => m + 1 - j) 0 (Nat.zero_le _) (fun j hj => ?_)
        (by
          refine SX.St.le_to [(100, some 27)] (by intro b h; cases h) ?_ ?_ rfl
          · repeat (first | exact trivial | refine ⟨⟨_, rfl, SX.AVto.same rfl⟩, ?_⟩ | refine ⟨⟨_, rfl, SX.AVto.own rfl⟩, ?_⟩)
          · exact ⟨SX.EntTo.same rfl rfl, SX.EntTo.row rfl rfl rfl (tabN_zero fun m => by rw [if_neg (Nat.not_lt_zero m)]), trivial⟩)
      by_cases h2 : j < m + 1
      · obtain ⟨q2, hq2⟩ : ∃ q2, l[j]? = some q2 := ⟨_, List.getElem?_eq_getElem (by omega)⟩
        have cF := con_gfNorm hp q2 (hb q2 (List.mem_of_getElem? hq2))
        have g2 : l.getD j 0 = q2 := by rw [List.getD_eq_getElem?_getD, hq2]; rfl
        have hln := tabN_len (m + 1) fun i => if i < j then l.getD i 0 % p else 0
        have hst := tabN_set (n := m + 1) (f := fun i => if i < j then l.getD i 0 % p else 0) (g := fun i => if i < j + 1 then l.getD i 0 % p else 0) (k := j) (x := q2 % p) (fun i => by
          by_cases hi : i = j
          · subst hi; rw [if_pos rfl, if_pos (by omega), g2]
          · rw [if_neg hi]
            by_cases hi2 : i < j
            · rw [if_pos hi2, if_pos (by omega)]
            · rw [if_neg hi2, if_neg (by omega)])
        refine SX.goL ?_
        refine W.next (j + 1) h2 (by omega) (by
          refine SX.St.le_to [(100, some 100)] (by intro b h; cases h) ?_ ?_ rfl
          · repeat (first | exact trivial | refine ⟨⟨_, rfl, SX.AVto.same rfl⟩, ?_⟩ | refine ⟨⟨_, rfl, SX.AVto.own rfl⟩, ?_⟩)
          · exact ⟨SX.EntTo.same rfl rfl, SX.EntTo.row rfl rfl rfl ((spl_wd (by rw [hln]; exact h2)).trans (by rw [hst])), trivial⟩)
      · obtain rfl : j = m + 1 := by omega
        refine SX.goL ?_
        refine RetF.frz 100 ?_
        refine ret1 ?_
        have e9 : (tabN (m + 1) fun i => if i < m + 1 then l.getD i 0 % p else 0) = fNorm p l := by
          unfold fNorm wNorm
          rw [← he]
          apply List.ext_getElem?; intro i
          by_cases hi : i < m + 1
          · rw [tabN_get hi, if_pos hi, List.getElem?_take, if_pos hi]
            have h7 := wRest_at p l i
            have hi3 : i < (wRest p l).length := by omega
            rw [List.getD_eq_getElem?_getD, List.getElem?_eq_getElem hi3] at h7
            rw [List.getElem?_eq_getElem hi3, ← h7]; rfl
          · rw [List.getElem?_eq_none (by rw [tabN_len]; omega), List.getElem?_eq_none (by rw [List.length_take]; omega)]
        rw [e9]
        have e8 : (fNorm p l).length = m + 1 := by rw [← e9, tabN_len]
        rw [roww_len e8]; rfl
  · obtain rfl : k = 0 := by omega
    have he' : wlen (wRest p l) = 0 := he.symm
    refine SX.goL ?_
    refine ret1' ?_
    unfold fNorm wNorm; rw [he']
    exact fun E S w v h => (AtomI.nil (α := Nat) (enc := wdC) (size := 1)) E S w v h
end Go.Proofs.YtfhpmbenldgfnaaGreatDoor
set_option linter.unusedVariables false
set_option linter.unusedSimpArgs false
namespace Go.Proofs.YtfhpmbenldgfnaaGreatDoor
open Go.RowKit QM SX LA
def fBoth (p : Nat) (op : Nat → Nat → Nat) (a b : List Nat) : List Nat := fNorm p (tabN (max a.length b.length) fun i => op (a.getD i 0) (b.getD i 0))
def wvR (p : Nat) (a b : List Nat) : Nat → Nat → Nat
  | 0, _ => 0
  | i + 1, m => if i ≤ m ∧ m < i + b.length then fA p (wvR p a b i m) (fM p (a.getD i 0) (b.getD (m - i) 0)) else wvR p a b i m
def wvP (p : Nat) (a b : List Nat) (i k m : Nat) : Nat := if i ≤ m ∧ m < i + k then fA p (wvR p a b i m) (fM p (a.getD i 0) (b.getD (m - i) 0)) else wvR p a b i m
theorem wvP_zero (p : Nat) (a b : List Nat) (i m : Nat) : wvP p a b i 0 m = wvR p a b i m := by unfold wvP; rw [if_neg (by omega)]
theorem wvP_full (p : Nat) (a b : List Nat) (i m : Nat) : wvP p a b i b.length m = wvR p a b (i + 1) m := rfl
theorem wvP_succ (p : Nat) (a b : List Nat) (i k m : Nat) : (if m = i + k then fA p (wvP p a b i k (i + k)) (fM p (a.getD i 0) (b.getD k 0)) else wvP p a b i k m) = wvP p a b i (k + 1) m := by
  unfold wvP
  by_cases h : m = i + k
  · subst h
    rw [if_pos rfl, if_neg (by omega), if_pos (by omega), show i + k - i = k by omega]
  · rw [if_neg h]
    by_cases h2 : i ≤ m ∧ m < i + k
    · rw [if_pos h2, if_pos (by omega)]
    · rw [if_neg h2, if_neg (by omega)]
theorem wvR_lt {p : Nat} (h : PrP p) (a b : List Nat) (m : Nat) : ∀ i, wvR p a b i m < p
  | 0 => by have := h.lt; show 0 < p; omega
  | i + 1 => by
    unfold wvR; split
    · exact fA_lt h _ _
    · exact wvR_lt h a b m i
theorem wvP_lt {p : Nat} (h : PrP p) (a b : List Nat) (i k m : Nat) : wvP p a b i k m < p := by
  unfold wvP; split
  · exact fA_lt h _ _
  · exact wvR_lt h a b m i
def fMul (p : Nat) (a b : List Nat) : List Nat := if (fNorm p a).length = 0 ∨ (fNorm p b).length = 0 then [] else fNorm p (tabN ((fNorm p a).length + (fNorm p b).length - 1) (wvR p (fNorm p a) (fNorm p b) (fNorm p a).length))
theorem fMul_gN (p : Nat) (a b : List Nat) : gN (fMul p a b) := by
  unfold fMul; split
  · exact .inl rfl
  · exact fNorm_gN _ _
theorem fMul_lt {p : Nat} (hp : PrP p) (a b : List Nat) : ∀ z ∈ fMul p a b, z < p := by
  unfold fMul; split
  · intro z hz; cases hz
  · exact fNorm_lt hp _
theorem fMul_len (p : Nat) (a b : List Nat) : (fMul p a b).length ≤ a.length + b.length := by
  unfold fMul; split
  · exact Nat.zero_le _
  · have h1 := fNorm_len p a
    have h2 := fNorm_len p b
    have h3 := fNorm_len p (tabN ((fNorm p a).length + (fNorm p b).length - 1) (wvR p (fNorm p a) (fNorm p b) (fNorm p a).length))
    rw [tabN_len] at h3; omega
theorem fBoth_gN (p : Nat) (op : Nat → Nat → Nat) (a b : List Nat) : gN (fBoth p op a b) := fNorm_gN _ _
theorem fBoth_lt {p : Nat} (hp : PrP p) (op : Nat → Nat → Nat) (a b : List Nat) : ∀ z ∈ fBoth p op a b, z < p := fNorm_lt hp _
theorem fBoth_len (p : Nat) (op : Nat → Nat → Nat) (a b : List Nat) : (fBoth p op a b).length ≤ max a.length b.length := by
  have h := fNorm_len p (tabN (max a.length b.length) fun i => op (a.getD i 0) (b.getD i 0))
  rwa [tabN_len] at h
theorem fBoth_at {p : Nat} {op : Nat → Nat → Nat} (h0 : op 0 0 = 0) (hop : ∀ x y, op x y < p) (a b : List Nat) (j : Nat) : (fBoth p op a b).getD j 0 = op (a.getD j 0) (b.getD j 0) := by
  unfold fBoth
  rw [fNorm_at]
  by_cases h : j < max a.length b.length
  · rw [tabN_at h]; exact Nat.mod_eq_of_lt (hop _ _)
  · rw [getDw_ge (by rw [tabN_len]; omega), getDw_ge (zs := a) (by omega), getDw_ge (zs := b) (by omega), h0, Nat.zero_mod]
attribute [local irreducible] IntKind.wrap Go1 Reg WP thenK inBlk retQ retF RetF RetOK ResOK CallOK OpOK Sat
attribute [local irreducible] qsub qmul qquo qcmp qadd qv redS mf PrP qOk zOk vP fp64 lz vF cq rqv plen pNorm pBoth pScale mulV fA fS fM wlen wNorm wRest fNorm wvR wvP
theorem con_fNormT {p : Nat} (hp : PrP p) {n : Nat} {f : Nat → Nat} (hn : n ≤ 100000) (hf : ∀ i, f i < 18446744073709551616) : PureOK Tryz.prog 175 [.agg (gfA p), .r (sliceR 1 n ((tabN n f).flatMap wdC))] (.r (rowR 1 wdC (fNorm p (tabN n f)))) := by
  have c := con_fNorm hp (l := tabN n f) (by rw [tabN_len]; exact hn) (tabN_lt hf)
  rwa [roww_len (n := n) (tabN_len n f)] at c
theorem con_fboth {p : Nat} (hp : PrP p) {l l' : List Nat} (op : Nat → Nat → Nat) (x : CA) (hx1 : x.oneB = true) (hl : l.length ≤ 10000) (hl' : l'.length ≤ 10000)
    (hx : ∀ i, FnV Tryz.prog x [.v (.int .u64 ((l.getD i 0 : Nat) : Int)), .v (.int .u64 ((l'.getD i 0 : Nat) : Int))] (.v (.int .u64 ((op (l.getD i 0) (l'.getD i 0) : Nat) : Int)))) (hb : ∀ x y, op x y < 18446744073709551616) :
    PureOK Tryz.prog 173 [.agg (gfA p), .r (rowR 1 wdC l), .r (rowR 1 wdC l'), .it (.one (.c x))] (.r (rowR 1 wdC (fBoth p op l l'))) := by
  have cN := con_fNormT hp (n := max l.length l'.length) (f := fun i => op (l.getD i 0) (l'.getD i 0)) (by omega) (fun i => hb _ _)
  have hm : max l.length l'.length ≤ 10000 := by omega
  refine PureOK.fnF Tryz.func173 Tryz.results173 Tryz.ntmps173 rfl rfl rfl (by simp [AV.ids, AV0.ids, Atom.ids]) rfl (fun w0 T B E0 hB => ?_)
  refine SX.goL ?_
  refine W.loop (fun k => k ≤ max l.length l'.length) (fun k => [(1, .r (rowR 1 wdC l)), (2, .r (rowR 1 wdC l')), (3, .it (.one (.c x))), (4, .ptr 4 0), (9, .own 100), (18, .v (.int .i64 ((max l.length l'.length : Nat) : Int))), (19, .v (.int .i64 (k : Int)))]) (fun k => [(4, .box 100 (gfA p)), (100, .row 33 1 (max l.length l'.length) ((tabN (max l.length l'.length) fun i => if i < k then op (l.getD i 0) (l'.getD i 0) else 0).flatMap wdC))]) (fun k => max l.length l'.length - k) 0 (Nat.zero_le _) (fun k hk => ?_)
    (by
      refine SX.St.le_to [(100, some 16)] (by intro b h; cases h) ?_ ?_ rfl
      · repeat (first | exact trivial | refine ⟨⟨_, rfl, SX.AVto.same rfl⟩, ?_⟩ | refine ⟨⟨_, rfl, SX.AVto.own rfl⟩, ?_⟩)
      · exact ⟨SX.EntTo.same rfl rfl, SX.EntTo.row rfl rfl rfl (tabN_zero fun m => by rw [if_neg (Nat.not_lt_zero m)]), trivial⟩)
  by_cases h : k < max l.length l'.length
  · have c1 := con_wat l k (by omega)
    have c2 := con_wat l' k (by omega)
    have c3 := hx k
    have hln := tabN_len (max l.length l'.length) fun i => if i < k then op (l.getD i 0) (l'.getD i 0) else 0
    have hst := tabN_set (n := max l.length l'.length) (f := fun i => if i < k then op (l.getD i 0) (l'.getD i 0) else 0) (g := fun i => if i < k + 1 then op (l.getD i 0) (l'.getD i 0) else 0) (k := k) (x := op (l.getD k 0) (l'.getD k 0)) (fun i => by
      by_cases hi : i = k
      · subst hi; rw [if_pos rfl, if_pos (by omega)]
      · rw [if_neg hi]
        by_cases hi2 : i < k
        · rw [if_pos hi2, if_pos (by omega)]
        · rw [if_neg hi2, if_neg (by omega)])
    refine SX.goL ?_
    refine W.next (k + 1) h (by omega) (by
      refine SX.St.le_to [(100, some 100)] (by intro b h; cases h) ?_ ?_ rfl
      · repeat (first | exact trivial | refine ⟨⟨_, rfl, SX.AVto.same rfl⟩, ?_⟩ | refine ⟨⟨_, rfl, SX.AVto.own rfl⟩, ?_⟩)
      · exact ⟨SX.EntTo.same rfl rfl, SX.EntTo.row rfl rfl rfl ((spl_wd (by rw [hln]; exact h)).trans (by rw [hst])), trivial⟩)
  · obtain rfl : k = max l.length l'.length := by omega
    have e9 : (tabN (max l.length l'.length) fun i => if i < max l.length l'.length then op (l.getD i 0) (l'.getD i 0) else 0) = tabN (max l.length l'.length) fun i => op (l.getD i 0) (l'.getD i 0) := by
      unfold tabN
      exact List.map_congr_left fun i hi => if_pos (List.mem_range.1 hi)
    rw [e9]
    refine SX.WP.freeze 100 hB rfl ?_
    refine SX.goL ?_
    exact ret1 rfl
abbrev fAdd (p : Nat) := fBoth p (fA p)
abbrev fSub (p : Nat) := fBoth p (fS p)
theorem con_fAdd {p : Nat} (hp : PrP p) {l l' : List Nat} (hl : l.length ≤ 10000) (hl' : l'.length ≤ 10000) (hb : ∀ x ∈ l, x < 18446744073709551616) (hb' : ∀ x ∈ l', x < 18446744073709551616) :
    PureOK Tryz.prog 84 [.agg (gfA p), .r (rowR 1 wdC l), .r (rowR 1 wdC l')] (.r (rowR 1 wdC (fAdd p l l'))) := by
  have hpl := hp.lt
  have c := con_fboth hp (fA p) (.sat (cloA 171 [.val (.int .u64 (p : Int))])) rfl hl hl' (fun i => FnV.bound (con_gfA hp _ _ (getDw_lt hb (by decide) i) (getDw_lt hb' (by decide) i))) (fun x y => by have := fA_lt hp x y; omega)
  refine PureOK.fnF Tryz.func84 Tryz.results84 Tryz.ntmps84 rfl rfl rfl (by simp [AV.ids, AV0.ids, Atom.ids]) rfl (fun w0 T B E0 hB => ?_)
  refine SX.goL ?_
  refine SX.WP.regionL ?_
  refine SX.goL ?_
  exact ret1 rfl
theorem con_fSub {p : Nat} (hp : PrP p) {l l' : List Nat} (hl : l.length ≤ 10000) (hl' : l'.length ≤ 10000) (hb : ∀ x ∈ l, x < 18446744073709551616) (hb' : ∀ x ∈ l', x < 18446744073709551616) :
    PureOK Tryz.prog 85 [.agg (gfA p), .r (rowR 1 wdC l), .r (rowR 1 wdC l')] (.r (rowR 1 wdC (fSub p l l'))) := by
  have hpl := hp.lt
  have c := con_fboth hp (fS p) (.sat (cloA 174 [.val (.int .u64 (p : Int))])) rfl hl hl' (fun i => FnV.bound (con_gfS hp _ _ (getDw_lt hb (by decide) i) (getDw_lt hb' (by decide) i))) (fun x y => by have := fS_lt hp x y; omega)
  refine PureOK.fnF Tryz.func85 Tryz.results85 Tryz.ntmps85 rfl rfl rfl (by simp [AV.ids, AV0.ids, Atom.ids]) rfl (fun w0 T B E0 hB => ?_)
  refine SX.goL ?_
  refine SX.WP.regionL ?_
  refine SX.goL ?_
  exact ret1 rfl
theorem con_fSub0 {p : Nat} (hp : PrP p) {l' : List Nat} (hl' : l'.length ≤ 10000) (hb' : ∀ x ∈ l', x < 18446744073709551616) :
    PureOK Tryz.prog 85 [.agg (gfA p), .v (.slice none 0 0), .r (rowR 1 wdC l')] (.r (rowR 1 wdC (fSub p [] l'))) :=
  weakArgs (con_fSub hp (l := []) (Nat.zero_le _) hl' (fun x hx => by cases hx) hb') fun E S w vs hv => by
    match vs, hv with
    | [u1, u2, u3], ⟨h1, h2, h3, _⟩ => exact ⟨h1, AtomI.nil (α := Nat) (enc := wdC) (size := 1) E S w u2 h2, h3, trivial⟩
set_option maxRecDepth 20000 in
set_option maxHeartbeats 4000000 in
theorem con_fMul {p : Nat} (hp : PrP p) {l l' : List Nat} (hl : l.length ≤ 10000) (hl' : l'.length ≤ 10000) (hb : ∀ x ∈ l, x < 18446744073709551616) (hb' : ∀ x ∈ l', x < 18446744073709551616) :
    PureOK Tryz.prog 86 [.agg (gfA p), .r (rowR 1 wdC l), .r (rowR 1 wdC l')] (.r (rowR 1 wdC (fMul p l l'))) := by
  have hpl := hp.lt
  have c1 := con_fNorm hp (l := l) (by omega) hb
  have c2 := con_fNorm hp (l := l') (by omega) hb'
  have n1 := fNorm_len p l
  have n2 := fNorm_len p l'
  have hA := fNorm_lt hp l
  have hB' := fNorm_lt hp l'
  unfold fMul
  generalize fNorm p l = a at *
  generalize fNorm p l' = b at *
  by_cases h0 : a.length = 0 ∨ b.length = 0
  · rw [if_pos h0]
    refine PureOK.fnF Tryz.func86 Tryz.results86 Tryz.ntmps86 rfl rfl rfl (by simp [AV.ids, AV0.ids, Atom.ids]) rfl (fun w0 T B E0 hB => ?_)
    by_cases h1 : a.length = 0
    · refine SX.goL ?_
      refine ret1' ?_
      exact fun E S w v h => AtomI.nil (α := Nat) (enc := wdC) (size := 1) E S w v h
    · have h2 := h0.resolve_left h1
      refine SX.goL ?_
      refine ret1' ?_
      exact fun E S w v h => AtomI.nil (α := Nat) (enc := wdC) (size := 1) E S w v h
  rw [if_neg h0]
  have hN : ∃ N, N = a.length + b.length - 1 := ⟨_, rfl⟩
  obtain ⟨N, hN⟩ := hN
  have cN := con_fNormT hp (n := N) (f := wvR p a b a.length) (by omega) (fun i => by have := wvR_lt hp a b i a.length; omega)
  rw [← hN]
  refine PureOK.fnF Tryz.func86 Tryz.results86 Tryz.ntmps86 rfl rfl rfl (by simp [AV.ids, AV0.ids, Atom.ids]) rfl (fun w0 T B E0 hB => ?_)
  refine SX.goL ?_
  refine W.loop (fun i => i ≤ a.length) (fun i => [(2, .r (rowR 1 wdC b)), (3, .ptr 3 0), (7, .own 100), (33, .r (rowR 1 wdC a)), (34, .v (.int .i64 (a.length : Int))), (35, .v (.int .i64 (i : Int)))]) (fun i => [(3, .box 100 (gfA p)), (100, .row 33 1 N ((tabN N (wvR p a b i)).flatMap wdC))]) (fun i => a.length - i) 0 (Nat.zero_le _) (fun i hi => ?_)
    (by
      refine SX.St.le_to [(100, some 32)] (by intro b h; cases h) ?_ ?_ rfl
      · repeat (first | exact trivial | refine ⟨⟨_, rfl, SX.AVto.same rfl⟩, ?_⟩ | refine ⟨⟨_, rfl, SX.AVto.own rfl⟩, ?_⟩ | refine ⟨⟨_, rfl, SX.AVto.int (by omega)⟩, ?_⟩)
      · exact ⟨SX.EntTo.same rfl rfl, SX.EntTo.row rfl rfl (by omega) (by rw [show a.length + b.length - 1 = N by omega]; exact tabN_zero fun m => by unfold wvR; rfl), trivial⟩)
  by_cases h : i < a.length
  rotate_left
  · obtain rfl : i = a.length := by omega
    refine SX.WP.freeze 100 hB rfl ?_
    refine SX.goL ?_
    exact ret1 rfl
  obtain ⟨x, hx⟩ : ∃ x, a[i]? = some x := ⟨_, List.getElem?_eq_getElem h⟩
  have gx : a.getD i 0 = x := by rw [List.getD_eq_getElem?_getD, hx]; rfl
  have lx := hA x (List.mem_of_getElem? hx)
  refine SX.goL ?_
  refine W.loop (fun k => k ≤ b.length) (fun k => [(2, .r (rowR 1 wdC b)), (3, .ptr 3 0), (7, .own 100), (8, .v (.int .i64 (i : Int))), (9, .v (.int .u64 (x : Int))), (33, .r (rowR 1 wdC a)), (34, .v (.int .i64 (a.length : Int))), (35, .v (.int .i64 (i : Int))), (40, .r (rowR 1 wdC b)), (41, .v (.int .i64 (b.length : Int))), (42, .v (.int .i64 (k : Int)))]) (fun k => [(3, .box 100 (gfA p)), (100, .row 33 1 N ((tabN N (wvP p a b i k)).flatMap wdC))]) (fun k => b.length - k) 0 (Nat.zero_le _) (fun k hk => ?_)
    (by
      refine SX.St.le_to [(100, some 100)] (by intro b h; cases h) ?_ ?_ rfl
      · repeat (first | exact trivial | refine ⟨⟨_, rfl, SX.AVto.same rfl⟩, ?_⟩ | refine ⟨⟨_, rfl, SX.AVto.own rfl⟩, ?_⟩ | refine ⟨⟨_, rfl, SX.AVto.int (by omega)⟩, ?_⟩)
      · exact ⟨SX.EntTo.same rfl rfl, SX.EntTo.row rfl rfl rfl (by rw [show wvP p a b i 0 = wvR p a b i from funext fun m => wvP_zero p a b i m]), trivial⟩)
  by_cases h2 : k < b.length
  · obtain ⟨y, hy⟩ : ∃ y, b[k]? = some y := ⟨_, List.getElem?_eq_getElem h2⟩
    have gy : b.getD k 0 = y := by rw [List.getD_eq_getElem?_getD, hy]; rfl
    have ly := hB' y (List.mem_of_getElem? hy)
    have hN2 : i + k < N := by omega
    have hat := tabN_get (f := wvP p a b i k) hN2
    have hln := tabN_len N (wvP p a b i k)
    have l1 := wvP_lt hp a b i k (i + k)
    have l2 := fM_lt hp x y
    have cM := con_gfM hp x y (by omega) (by omega)
    have cA := con_gfA hp (wvP p a b i k (i + k)) (fM p x y) (by omega) (by omega)
    have hst := tabN_set (n := N) (f := wvP p a b i k) (g := wvP p a b i (k + 1)) (k := i + k) (x := fA p (wvP p a b i k (i + k)) (fM p x y)) (fun m => by
      have := wvP_succ p a b i k m
      rw [gx, gy] at this; exact this)
    refine SX.goL ?_
    refine W.next (k + 1) h2 (by omega) (by
      refine SX.St.le_to [(100, some 100)] (by intro b h; cases h) ?_ ?_ rfl
      · repeat (first | exact trivial | refine ⟨⟨_, rfl, SX.AVto.same rfl⟩, ?_⟩ | refine ⟨⟨_, rfl, SX.AVto.own rfl⟩, ?_⟩)
      · exact ⟨SX.EntTo.same rfl rfl, SX.EntTo.row rfl rfl rfl ((spl_wd (by rw [hln]; exact hN2)).trans (by rw [hst])), trivial⟩)
  · obtain rfl : k = b.length := by omega
    rw [show wvP p a b i b.length = wvR p a b (i + 1) from funext fun m => wvP_full p a b i m]
    refine SX.goL ?_
    exact W.next (i + 1) h (by omega)
end Go.Proofs.YtfhpmbenldgfnaaGreatDoor
set_option linter.unusedVariables false
set_option linter.unusedSimpArgs false
set_option linter.unusedSectionVars false
namespace Go.Proofs.YtfhpmbenldgfnaaGreatDoor
open Go.RowKit QM SX LA
def cvR (a b : List Int) : Nat → Nat → Int
  | 0, _ => 0
  | i + 1, m => cvR a b i m + (if i ≤ m then a.getD i 0 * b.getD (m - i) 0 else 0)
def cvP (a b : List Int) (i k m : Nat) : Int := cvR a b i m + (if i ≤ m ∧ m < i + k then a.getD i 0 * b.getD (m - i) 0 else 0)
theorem cvP_zero (a b : List Int) (i m : Nat) : cvP a b i 0 m = cvR a b i m := by unfold cvP; rw [if_neg (by omega), Int.add_zero]
theorem cvP_full (a b : List Int) (i m : Nat) : cvP a b i b.length m = cvR a b (i + 1) m := by
  show _ = cvR a b i m + (if i ≤ m then a.getD i 0 * b.getD (m - i) 0 else 0)
  unfold cvP
  by_cases h : i ≤ m
  · rw [if_pos h]
    by_cases h2 : m < i + b.length
    · rw [if_pos ⟨h, h2⟩]
    · rw [if_neg (by omega), getD_ge (zs := b) (j := m - i) (by omega), Int.mul_zero]
  · rw [if_neg (by omega), if_neg h]
theorem cvP_succ (a b : List Int) (i k m : Nat) : (if m = i + k then cvP a b i k (i + k) + a.getD i 0 * b.getD k 0 else cvP a b i k m) = cvP a b i (k + 1) m := by
  unfold cvP
  by_cases h : m = i + k
  · subst h
    rw [if_pos rfl, if_neg (by omega), if_pos (by omega), show i + k - i = k by omega]; omega
  · rw [if_neg h]
    by_cases h2 : i ≤ m ∧ m < i + k
    · rw [if_pos h2, if_pos (by omega)]
    · rw [if_neg h2, if_neg (by omega)]
theorem cvR_bd {a b : List Int} {K L : Nat} (h : ∀ z ∈ a, z.natAbs < WB ^ K) (h' : ∀ z ∈ b, z.natAbs < WB ^ L) (m : Nat) : ∀ i, (cvR a b i m).natAbs < WB ^ (K + L + i)
  | 0 => by show (0 : Int).natAbs < _; exact Nat.pow_pos WB_pos
  | i + 1 => by
    have h1 := cvR_bd h h' m i
    have h2 : (a.getD i 0 * b.getD (m - i) 0).natAbs < WB ^ (K + L + i) := by
      rw [Int.natAbs_mul]
      have := mul_lt_pow (zat_b h i) (zat_b h' (m - i))
      exact Nat.lt_of_lt_of_le this (Nat.pow_le_pow_right WB_pos (by omega))
    have h3 := two_lt (K + L + i)
    show (cvR a b i m + (if i ≤ m then a.getD i 0 * b.getD (m - i) 0 else 0)).natAbs < WB ^ (K + L + (i + 1))
    rw [← Nat.add_assoc]
    have h4 := Int.natAbs_add_le (cvR a b i m) (if i ≤ m then a.getD i 0 * b.getD (m - i) 0 else 0)
    by_cases h5 : i ≤ m
    · rw [if_pos h5] at h4 ⊢; omega
    · rw [if_neg h5] at h4 ⊢; simp only [Int.natAbs_zero] at h4; omega
theorem cvP_bd {a b : List Int} {K L : Nat} (h : ∀ z ∈ a, z.natAbs < WB ^ K) (h' : ∀ z ∈ b, z.natAbs < WB ^ L) (i k m : Nat) : (cvP a b i k m).natAbs < WB ^ (K + L + i + 1) := by
  unfold cvP
  by_cases h2 : i ≤ m ∧ m < i + k
  · rw [if_pos h2]
    have := cvR_bd h h' m (i + 1)
    rw [cvR, if_pos h2.1] at this
    exact this
  · rw [if_neg h2, Int.add_zero]
    exact Nat.lt_of_lt_of_le (cvR_bd h h' m i) (Nat.pow_le_pow_right WB_pos (by omega))
theorem cvR_more (a b : List Int) (m : Nat) : ∀ (i j : Nat), a.length ≤ i → cvR a b (i + j) m = cvR a b i m
  | i, 0, _ => rfl
  | i, j + 1, h => by
    show cvR a b (i + j) m + (if i + j ≤ m then a.getD (i + j) 0 * b.getD (m - (i + j)) 0 else 0) = _
    rw [cvR_more a b m i j h, getD_ge (zs := a) (by omega), Int.zero_mul]
    split <;> omega
theorem cvR_ge (a b : List Int) (m : Nat) : ∀ i, i + b.length ≤ m + 1 → cvR a b i m = 0
  | 0, _ => rfl
  | i + 1, h => by
    show cvR a b i m + (if i ≤ m then a.getD i 0 * b.getD (m - i) 0 else 0) = 0
    rw [cvR_ge a b m i (by omega), getD_ge (zs := b) (by omega), Int.mul_zero]
    split <;> omega
def pMul (a b : List Int) : List Int := if a.length = 0 ∨ b.length = 0 then [] else pNorm (tabP (a.length + b.length - 1) (cvR a b a.length))
theorem pMul_pN (a b : List Int) : pN (pMul a b) := by
  unfold pMul; split
  · exact .inl rfl
  · exact pNorm_pN _
theorem pMul_at (a b : List Int) (M : Nat) (hM : a.length ≤ M) (m : Nat) : (pMul a b).getD m 0 = cvR a b M m := by
  obtain ⟨j, rfl⟩ : ∃ j, M = a.length + j := ⟨M - a.length, by omega⟩
  rw [cvR_more a b m a.length j (Nat.le_refl _)]
  unfold pMul
  split
  · next h =>
    rw [getD_ge (zs := []) (Nat.zero_le _)]
    rcases h with h | h
    · rw [h]; rfl
    · have key : ∀ i, cvR a b i m = 0 := fun i => by
        induction i with
        | zero => rfl
        | succ i ih =>
          rw [cvR, ih, getD_ge (zs := b) (by omega), Int.mul_zero]
          split <;> omega
      exact (key _).symm
  · next h =>
    rw [pNorm_at]
    by_cases h2 : m < a.length + b.length - 1
    · exact tabP_at h2
    · rw [getD_ge (by rw [tabP_len]; omega)]
      exact (cvR_ge a b m a.length (by omega)).symm
theorem pMul_bd {a b : List Int} {K L : Nat} (h : ∀ z ∈ a, z.natAbs < WB ^ K) (h' : ∀ z ∈ b, z.natAbs < WB ^ L) : ∀ z ∈ pMul a b, z.natAbs < WB ^ (K + L + a.length) := fun z hz => by
  obtain ⟨j, rfl⟩ := mem_getD hz
  rw [pMul_at a b a.length (Nat.le_refl _)]
  exact cvR_bd h h' j a.length
theorem pMul_len (a b : List Int) : (pMul a b).length ≤ a.length + b.length := by
  unfold pMul
  split
  · exact Nat.zero_le _
  · rw [pNorm_len]
    have := plen_le (tabP (a.length + b.length - 1) (cvR a b a.length))
    rw [tabP_len] at this; omega
abbrev tabz (n : Nat) (f : Nat → Int) : List Z2 := (List.range n).map fun m => z2v (f m)
theorem tabz_at {n : Nat} {f : Nat → Int} {k : Nat} (h : k < n) : (tabz n f)[k]? = some (z2v (f k)) := by
  rw [List.getElem?_map, List.getElem?_range h]; rfl
theorem tabz_set {n : Nat} {f g : Nat → Int} {k : Nat} {x : Int} (h : ∀ m, (if m = k then x else f m) = g m) : (tabz n f).set k (z2v x) = tabz n g := by
  apply List.ext_getElem?
  intro j
  rw [List.getElem?_set]
  by_cases hj : k = j
  · subst hj
    rw [if_pos rfl, List.length_map, List.length_range]
    by_cases hk : k < n
    · rw [if_pos hk, tabz_at hk, ← h k, if_pos rfl]
    · rw [if_neg hk, List.getElem?_eq_none (by rw [List.length_map, List.length_range]; omega)]
  · rw [if_neg hj]
    by_cases hk : j < n
    · rw [tabz_at hk, tabz_at hk, ← h j, if_neg (fun e => hj e.symm)]
    · rw [List.getElem?_eq_none (by rw [List.length_map, List.length_range]; omega), List.getElem?_eq_none (by rw [List.length_map, List.length_range]; omega)]
theorem tabz_zero {n : Nat} {f : Nat → Int} (h : ∀ m, f m = 0) : (List.replicate n (z2C (z2v 0))).flatten = (tabz n f).flatMap z2C := by
  have : tabz n f = List.replicate n (z2v 0) := by
    apply List.ext_getElem?; intro j
    rw [List.getElem?_replicate]
    by_cases hj : j < n
    · rw [tabz_at hj, if_pos hj, h]
    · rw [if_neg hj, List.getElem?_eq_none (by rw [List.length_map, List.length_range]; omega)]
  rw [this, List.flatMap, List.map_replicate]
theorem tabz_len (n : Nat) (f : Nat → Int) : (tabz n f).length = n := by rw [List.length_map, List.length_range]
attribute [local irreducible] IntKind.wrap Go1 Reg WP thenK inBlk retQ retF RetF RetOK ResOK CallOK OpOK Sat
attribute [local irreducible] qsub qmul qquo qcmp qadd qv redS mf PrP qOk zOk vP fp64 lz vF cq rqv plen pNorm pBoth pScale mulV cvR cvP pMul
theorem con_nrm {l : List Z2} {zs : List Int} {K : Nat} (hM : MZ l zs K) (hK : K ≤ 1000000) (hl : l.length ≤ 100000) (hn : pN zs) : PureOK Tryz.prog 57 [.r (rowR 2 z2C l)] (.r (rowR 2 z2C (zs.map z2v))) := by
  have c := con_pNorm hM hK hl
  rwa [pNorm_self hn] at c
theorem con_nrmT {n K : Nat} {f : Nat → Int} (h : ∀ i, i < n → (f i).natAbs < WB ^ K) (hK : K ≤ 1000000) (hl : n ≤ 100000) : PureOK Tryz.prog 57 [.r (sliceR 2 n ((tabz n f).flatMap z2C))] (.r (rowR 2 z2C ((pNorm (tabP n f)).map z2v))) := by
  have c := con_pNorm (mz_tab (n := n) (f := f) h) hK (by rw [List.length_map, List.length_range]; exact hl)
  rwa [row_len (n := n) (by rw [List.length_map, List.length_range])] at c
set_option maxRecDepth 20000 in
set_option maxHeartbeats 2000000 in
theorem con_pMul {l l' : List Z2} {zs zs' : List Int} {K K' : Nat} (hM : MZ l zs K) (hM' : MZ l' zs' K') (hn : pN zs) (hn' : pN zs') (hl : l.length ≤ 10000) (hl' : l'.length ≤ 10000) (hK : K + K' + l.length ≤ 100000) (hb : ∀ z ∈ zs, z.natAbs < WB ^ K) (hb' : ∀ z ∈ zs', z.natAbs < WB ^ K') :
    PureOK Tryz.prog 80 [.r (rowR 2 z2C l), .r (rowR 2 z2C l')] (.r (rowR 2 z2C ((pMul zs zs').map z2v))) := by
  have c1 := con_nrm hM (by omega) (by omega) hn
  have c2 := con_nrm hM' (by omega) (by omega) hn'
  have e1 := hM.len
  have e2 := hM'.len
  have m1 : (zs.map z2v).length = zs.length := List.length_map _
  have m2 : (zs'.map z2v).length = zs'.length := List.length_map _
  by_cases h0 : zs.length = 0 ∨ zs'.length = 0
  · have e3 : pMul zs zs' = [] := by unfold pMul; rw [if_pos h0]
    rw [e3]
    refine PureOK.fnF Tryz.func80 Tryz.results80 Tryz.ntmps80 rfl rfl rfl (by simp [AV.ids, AV0.ids, Atom.ids]) rfl (fun w0 T B E0 hB => ?_)
    by_cases h1 : zs.length = 0
    · refine SX.goL ?_
      refine ret1' ?_
      exact fun E S w v h => AtomI.nil (α := Z2) (enc := z2C) (size := 2) E S w v h
    · have h2 := h0.resolve_left h1
      refine SX.goL ?_
      refine ret1' ?_
      exact fun E S w v h => AtomI.nil (α := Z2) (enc := z2C) (size := 2) E S w v h
  have hN : ∃ N, N = zs.length + zs'.length - 1 := ⟨_, rfl⟩
  obtain ⟨N, hN⟩ := hN
  have e3 : pMul zs zs' = pNorm (tabP N (cvR zs zs' zs.length)) := by unfold pMul; rw [if_neg h0, hN]
  have cN := con_nrmT (n := N) (f := cvR zs zs' zs.length) (K := K + K' + zs.length) (fun i _ => cvR_bd hb hb' i zs.length) (by omega) (by omega)
  rw [e3]
  refine PureOK.fnF Tryz.func80 Tryz.results80 Tryz.ntmps80 rfl rfl rfl (by simp [AV.ids, AV0.ids, Atom.ids]) rfl (fun w0 T B E0 hB => ?_)
  refine SX.goL ?_
  refine W.loop (fun i => i ≤ zs.length) (fun i => [(1, .r (rowR 2 z2C (zs'.map z2v))), (5, .own 100), (29, .r (rowR 2 z2C (zs.map z2v))), (30, .v (.int .i64 (zs.length : Int))), (31, .v (.int .i64 (i : Int)))]) (fun i => [(100, .row 25 2 N ((tabz N (cvR zs zs' i)).flatMap z2C))]) (fun i => zs.length - i) 0 (Nat.zero_le _) (fun i hi => ?_)
    (by
      refine SX.St.le_to [(100, some 28)] (by intro b h; cases h) ?_ ?_ rfl
      · repeat (first | exact trivial | refine ⟨⟨_, rfl, SX.AVto.same rfl⟩, ?_⟩ | refine ⟨⟨_, rfl, SX.AVto.own rfl⟩, ?_⟩ | refine ⟨⟨_, rfl, SX.AVto.int (by omega)⟩, ?_⟩)
      · exact ⟨SX.EntTo.row rfl rfl (by omega) (by rw [show (zs.map z2v).length + (zs'.map z2v).length - 1 = N by omega]; exact tabz_zero fun m => by unfold cvR; rfl), trivial⟩)
  by_cases h : i < zs.length
  rotate_left
  · obtain rfl : i = zs.length := by omega
    refine SX.WP.freeze 100 hB rfl ?_
    refine SX.goL ?_
    exact ret1 rfl
  obtain ⟨x, hx⟩ : ∃ x, zs[i]? = some x := ⟨_, List.getElem?_eq_getElem h⟩
  have hx' : (zs.map z2v)[i]? = some (z2v x) := by rw [List.getElem?_map, hx]; rfl
  have h' : i < (zs.map z2v).length := by omega
  have gx : zs.getD i 0 = x := by rw [List.getD_eq_getElem?_getD, hx]; rfl
  have qx : ZQ (z2v x) x K := ZQ.made (hb x (List.mem_of_getElem? hx))
  refine SX.goL ?_
  refine W.loop (fun k => k ≤ zs'.length) (fun k => [(1, .r (rowR 2 z2C (zs'.map z2v))), (5, .own 100), (6, .v (.int .i64 (i : Int))), (7, .ptr 7 0), (29, .r (rowR 2 z2C (zs.map z2v))), (30, .v (.int .i64 (zs.length : Int))), (31, .v (.int .i64 (i : Int))), (36, .r (rowR 2 z2C (zs'.map z2v))), (37, .v (.int .i64 (zs'.length : Int))), (38, .v (.int .i64 (k : Int)))]) (fun k => [(7, .box 25 (z2A (z2v x))), (100, .row 25 2 N ((tabz N (cvP zs zs' i k)).flatMap z2C))]) (fun k => zs'.length - k) 0 (Nat.zero_le _) (fun k hk => ?_)
    (by
      refine SX.St.le_to [(100, some 100)] (by intro b h; cases h) ?_ ?_ rfl
      · repeat (first | exact trivial | refine ⟨⟨_, rfl, SX.AVto.same rfl⟩, ?_⟩ | refine ⟨⟨_, rfl, SX.AVto.own rfl⟩, ?_⟩ | refine ⟨⟨_, rfl, SX.AVto.int (by omega)⟩, ?_⟩)
      · exact ⟨SX.EntTo.same rfl rfl, SX.EntTo.row rfl rfl rfl (by rw [show cvP zs zs' i 0 = cvR zs zs' i from funext fun m => cvP_zero zs zs' i m]), trivial⟩)
  by_cases h2 : k < zs'.length
  · obtain ⟨y, hy⟩ : ∃ y, zs'[k]? = some y := ⟨_, List.getElem?_eq_getElem h2⟩
    have hy' : (zs'.map z2v)[k]? = some (z2v y) := by rw [List.getElem?_map, hy]; rfl
    have h2' : k < (zs'.map z2v).length := by omega
    have gy : zs'.getD k 0 = y := by rw [List.getD_eq_getElem?_getD, hy]; rfl
    have qy : ZQ (z2v y) y K' := ZQ.made (hb' y (List.mem_of_getElem? hy))
    have hN2 : i + k < N := by omega
    have hat := tabz_at (f := cvP zs zs' i k) hN2
    have hln := tabz_len N (cvP zs zs' i k)
    have cM := (con_zMul (h := qx.zi) (h' := qy.zi)).h (by omega)
    have qm : ZQ (z2v (x * y)) (x * y) (K + K') := ZQ.made (by rw [Int.natAbs_mul]; exact mul_lt_pow qx.b qy.b)
    have qa : ZQ (z2v (cvP zs zs' i k (i + k))) (cvP zs zs' i k (i + k)) (K + K' + i + 1) := ZQ.made (cvP_bd hb hb' i k (i + k))
    have cA := (con_zAdd (h := qa.zi) (h' := qm.zi)).h (by omega)
    have hst := tabz_set (n := N) (f := cvP zs zs' i k) (g := cvP zs zs' i (k + 1)) (k := i + k) (x := cvP zs zs' i k (i + k) + x * y) (fun m => by
      have := cvP_succ zs zs' i k m
      rw [gx, gy] at this; exact this)
    refine SX.goL ?_
    refine SX.G.storeOWA (a := z2v (cvP zs zs' i k (i + k) + x * y)) ?_
    rw [hst]
    refine SX.goL ?_
    exact W.next (k + 1) h2 (by omega)
  · obtain rfl : k = zs'.length := by omega
    rw [show cvP zs zs' i zs'.length = cvR zs zs' (i + 1) from funext fun m => cvP_full zs zs' i m]
    refine SX.goL ?_
    exact W.next (i + 1) h (by omega)
end Go.Proofs.YtfhpmbenldgfnaaGreatDoor
set_option linter.unusedVariables false
set_option linter.unusedSimpArgs false
set_option linter.unusedSectionVars false
namespace Go.Proofs.YtfhpmbenldgfnaaGreatDoor
open Go.RowKit QM SX LA
def pShift (zs : List Int) (n : Nat) : List Int := List.replicate n 0 ++ zs
theorem pSub_bd1 {a b : List Int} {K : Nat} (h : ∀ z ∈ a, z.natAbs < WB ^ K) (h' : ∀ z ∈ b, z.natAbs < WB ^ K) : ∀ z ∈ pSub a b, z.natAbs < WB ^ (K + 1) := fun z hz => by
  obtain ⟨j, rfl⟩ := mem_getD hz
  rw [pSub_at]
  have h1 := zat_b h j
  have h2 := zat_b h' j
  have h3 := two_lt K
  have := Int.natAbs_sub_le (a.getD j 0) (b.getD j 0)
  omega
def exF (b : List Int) : Nat → List Int → (Nat → Int) → Option ((Nat → Int) × List Int)
  | 0, a, f => some (f, a)
  | n + 1, a, f => if zexok (a.getD (n + b.length - 1) 0) (b.getD (b.length - 1) 0) then exF b n (pSub a (pShift (pScale b (zexq (a.getD (n + b.length - 1) 0) (b.getD (b.length - 1) 0))) n)) (fun i => if i = n then zexq (a.getD (n + b.length - 1) 0) (b.getD (b.length - 1) 0) else f i) else none
def exR (zs b : List Int) : Option (List Int) := if b.length = 0 then none else match exF b (zs.length + 1 - b.length) zs (fun _ => 0) with
  | none => none
  | some (f, a) => if a.length = 0 then some (pNorm (tabP (zs.length + 1 - b.length) f)) else none
def cvG (f : Nat → Int) (b : List Int) : Nat → Nat → Int
  | 0, _ => 0
  | i + 1, j => cvG f b i j + (if i ≤ j then f i * b.getD (j - i) 0 else 0)
attribute [local irreducible] IntKind.wrap Go1 Reg WP thenK inBlk retQ retF RetF RetOK ResOK CallOK OpOK Sat
attribute [local irreducible] qsub qmul qquo qcmp qadd qv redS mf PrP qOk zOk vP fp64 lz vF cq rqv plen pNorm pBoth pScale mulV cvR cvP pMul pShift zexq zexok exF
structure DvK (S L K K' : Nat) (n : Nat) (a : List Int) (f : Nat → Int) : Prop where
  le : n ≤ S
  p : pN a
  l : a.length ≤ L
  b : ∀ z ∈ a, z.natAbs < WB ^ (K + (S - n) * (K' + 1))
  f : ∀ i, (f i).natAbs < WB ^ (K + S * (K' + 1))
theorem bd_up {x K L : Nat} (h : x < WB ^ K) (hK : K ≤ L) : x < WB ^ L := Nat.lt_of_lt_of_le h (Nat.pow_le_pow_right WB_pos hK)
end Go.Proofs.YtfhpmbenldgfnaaGreatDoor
set_option linter.unusedVariables false
set_option linter.unusedSimpArgs false
namespace Go.Proofs.YtfhpmbenldgfnaaGreatDoor
open Go.RowKit QM SX LA
attribute [local irreducible] IntKind.wrap Go1 Reg WP thenK inBlk retQ retF RetF RetOK ResOK CallOK OpOK Sat
attribute [local irreducible] qsub qmul qquo qcmp qadd qv redS mf PrP qOk zOk vP fp64 lz vF cq rqv plen pNorm pBoth pScale mulV vW
theorem con_fewT {u v : Vl} (hu : vW 3 u) (hv : vW 3 v) : PureOK Tryz.prog 12 [.agg (vlA u), .agg (vlA v)] (.v (.bool true)) := by
  have c1 := (con_Few29 3 u (by decide)).1 hu
  have c2 := (con_Few29 3 v (by decide)).1 hv
  refine PureOK.fnF Tryz.func12 Tryz.results12 Tryz.ntmps12 rfl rfl rfl (by simp [AV.ids, AV0.ids, Atom.ids]) rfl (fun w0 T B E0 hB => ?_)
  refine SX.goJ ?_
  exact retB rfl
theorem con_fewF {u v : Vl} (h : ¬ (vW 3 u ∧ vW 3 v)) : PureOK Tryz.prog 12 [.agg (vlA u), .agg (vlA v)] (.v (.bool false)) := by
  by_cases hu : vW 3 u
  · have c1 := (con_Few29 3 u (by decide)).1 hu
    have c2 := (con_Few29 3 v (by decide)).2 fun hv => h ⟨hu, hv⟩
    refine PureOK.fnF Tryz.func12 Tryz.results12 Tryz.ntmps12 rfl rfl rfl (by simp [AV.ids, AV0.ids, Atom.ids]) rfl (fun w0 T B E0 hB => ?_)
    refine SX.goJ ?_
    exact retB rfl
  · have c1 := (con_Few29 3 u (by decide)).2 hu
    refine PureOK.fnF Tryz.func12 Tryz.results12 Tryz.ntmps12 rfl rfl rfl (by simp [AV.ids, AV0.ids, Atom.ids]) rfl (fun w0 T B E0 hB => ?_)
    refine SX.goJ ?_
    exact retB rfl
section
variable (n : Int) {k : Nat} (hn : n.tmod 7 = (k : Int)) (hk : k ≤ 6) {v : Vl}
include hn hk
end
end Go.Proofs.YtfhpmbenldgfnaaGreatDoor
set_option linter.unusedVariables false
set_option linter.unusedSimpArgs false
set_option linter.unusedSectionVars false
namespace Go.Proofs.YtfhpmbenldgfnaaGreatDoor
open Go.RowKit QM SX LA
attribute [local irreducible] IntKind.wrap Go1 Reg WP thenK inBlk retQ retF RetF RetOK ResOK CallOK OpOK Sat
attribute [local irreducible] qsub qmul qquo qcmp qadd qv redS mf PrP qOk zOk vP fp64 lz vF cq rqv plen pNorm pBoth pScale mulV cvR cvP pMul pShift zexq zexok exF vW sameV
theorem con_prod3 {a b : List Int} {K L : Nat} (h : ∀ z ∈ a, z.natAbs < WB ^ K) (h' : ∀ z ∈ b, z.natAbs < WB ^ L) (hn : pN a) (hn' : pN b) (hl : a.length ≤ 4000) (hl' : b.length ≤ 4000) (hK : K + L ≤ 90000) :
    PureOK Tryz.prog 104 [.agg (vlA (vPol a)), .agg (vlA (vPol b))] (.tup [.agg (vlA (vPol (pMul a b))), eNo 0]) := by
  have c1 := con_pMul (MZ.ofz h) (MZ.ofz h') hn hn' (by rw [mz_len]; omega) (by rw [mz_len]; omega) (by rw [mz_len]; omega) h h'
  refine PureOK.fnF Tryz.func104 Tryz.results104 Tryz.ntmps104 rfl rfl rfl (by simp [AV.ids, AV0.ids, Atom.ids]) rfl (fun w0 T B E0 hB => ?_)
  refine SX.goL ?_
  refine .ok (RetOK.mk2 ((ResOK.agg15 rfl rfl rfl).imp ?_) (ResOK.tmp rfl))
  exact imp_pol
section
variable {a b : List Int} {K L : Nat} (h : ∀ z ∈ a, z.natAbs < WB ^ K) (h' : ∀ z ∈ b, z.natAbs < WB ^ L) (hn : pN a) (hn' : pN b) (hl : a.length ≤ 4000) (hl' : b.length ≤ 4000) (hK : K + (a.length + 1) * (L + 1) ≤ 30000) (hL : L ≤ 30000)
include h h' hn hn' hl hl' hK hL
end
def quoT (u v : Vl) : Prop := v.k = 1 ∧ (u.k = 1 ∨ u.k = 2) ∨ u.k = 3 ∧ v.k = 3
section
variable {u v q : Vl} (hf : PureOK Tryz.prog 12 [.agg (vlA u), .agg (vlA v)] (.v (.bool true)))
include hf
variable (hi : PureOK Tryz.prog 14 [.agg (vlA u)] (.v (.bool true))) (hi' : PureOK Tryz.prog 14 [.agg (vlA v)] (.v (.bool true)))
include hi hi'
end
end Go.Proofs.YtfhpmbenldgfnaaGreatDoor

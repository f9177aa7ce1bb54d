import Derived.Test.YtmfadfkjnfdngaaGreatDoorM16
import Derived.Test.YtmfadfkjnfdngaaGreatDoorM29
import Derived.Test.YtmfadfkjnfdngaaGreatDoorM10
set_option linter.unusedVariables false
set_option linter.unusedSimpArgs false
namespace Go.Proofs.YtmfadfkjnfdngaaGreatDoor
open Go.RowKit QM SX
open Go.ChangeShapes Go.WideShapes Go.ChangeAt Go.Joins
section
variable {H : Type} {enc : TypeId × Value → H} {P : Program} {W : World} {base : Nat} {sp : Nat → Bool} {hd : Bool}
theorem DecF.imp {α β : Type} {n : Nat} {t : TypeId} {e : α → List CA} {φ : α → Prop} {e' : β → List CA} {ψ : β → Prop} (h : DecF enc P W base sp hd n t e φ) (f : α → β) (hf : ∀ a, φ a → ψ (f a)) (he : ∀ a cs, φ a → All2 (CA.has none' W) (e a) cs → All2 (CA.has none' W) (e' (f a)) cs) : DecF enc P W base sp hd n t e' ψ :=
  fun cs x hx => let ⟨a, h1, h2⟩ := h cs x hx; ⟨f a, hf a h1, he a cs h1 h2⟩
def u64C (z : Int) : List CA := [.val (.int .u64 z)]
instance : EncLen u64C 1 := ⟨fun _ => rfl⟩
theorem decNat (n : Nat) : DecF enc Tryz.prog W base sp hd n 28 (fun l : List Nat => [.sat (rawN l)]) (fun _ => True) :=
  DecF.all (fun n => DecF.imp (dec_slice (enc' := u64C) Tryz.underlying28 (by kernel_rfl) (dec_int Tryz.underlying56)) (fun l => l.map Int.toNat) (fun _ _ => trivial) (fun l cs hl hall => by
    match cs, hall with
    | [v], ⟨h1, _⟩ =>
      refine ⟨?_, trivial⟩
      have hb : ∀ z ∈ l, 0 ≤ z ∧ z ≤ 18446744073709551615 := fun z hz => bounds_u64 (hl.2 z hz)
      refine rawN_iff.2 ⟨?_, ?_⟩
      · intro x hx
        obtain ⟨z, hz, rfl⟩ := List.mem_map.1 hx
        have := hb z hz
        rw [WB_eq]; omega
      · have e : (l.map Int.toNat).map (fun x : Nat => CA.val (.int .u64 (x : Int))) = l.flatMap u64C := by
          clear h1 hall hl
          induction l with
          | nil => rfl
          | cons z l ih =>
            have := hb z (by simp)
            rw [List.map_cons, List.map_cons, List.flatMap_cons, ih (fun y hy => hb y (by simp [hy]))]
            show _ :: _ = CA.val (.int .u64 z) :: _
            rw [show ((z.toNat : Nat) : Int) = z by omega]; rfl
        rw [e, List.length_map]; exact h1)) n
end
end Go.Proofs.YtmfadfkjnfdngaaGreatDoor
set_option linter.unusedVariables false
set_option linter.unusedSimpArgs false
namespace Go.Proofs.YtmfadfkjnfdngaaGreatDoor
open Go.RowKit QM SX
theorem weakArgs {P : Program} {f : FuncId} {args args' : List AV} {r : AV} (h : PureOK P f args' r) (hi : ∀ E S w vs, All2 (AV.has E S w) args vs → All2 (AV.has E S w) args' vs) : PureOK P f args r :=
  ⟨h.1, fun E S w vs hl hg hv a b c => h.2 E S w vs hl hg (hi E S w vs hv) a b c⟩
theorem nil_row {α : Type} {enc : α → List CA} {size : Nat} {S : Nat → Prop} {w : World} : (rowR size enc ([] : List α)).has S w (.slice none 0 0) :=
  sliceR_iff.2 ⟨none, 0, rfl, Nat.le_refl _, Nat.zero_le _, fun _ => rfl, by simp, fun i c h => by simp at h⟩
attribute [local irreducible] IntKind.wrap Go1 Reg WP thenK inBlk retQ retF RetF RetOK ResOK CallOK OpOK Sat
theorem idx_lt {r c i k : Nat} (hi : i < r) (hk : k < c) : i * c + k < r * c := by
  have := Nat.mul_le_mul_right c (show i + 1 ≤ r from hi)
  rw [Nat.succ_mul] at this; omega
def FormedP (r c : Int) (n : Nat) : Prop := 0 ≤ r ∧ r ≤ 64 ∧ 0 ≤ c ∧ c ≤ 64 ∧ (n : Int) = r * c
abbrev eNo (z : Int) : AV0 := .one (.c (.val (.int .i64 z)))
theorem at_lt {α : Type} {l : List α} {i : Nat} {a : α} (h : l[i]? = some a) : i < l.length := by
  rcases Nat.lt_or_ge i l.length with h2 | h2
  · exact h2
  · rw [List.getElem?_eq_none h2] at h; cases h
theorem of_0 : PureOK Tryz.prog 7 [.v (.int .i64 0)] (.agg (zN 0)) := con_zOf.h ⟨by decide, by decide⟩
theorem of_1 : PureOK Tryz.prog 7 [.v (.int .i64 1)] (.agg (zN 1)) := con_zOf.h ⟨by decide, by decide⟩
theorem fnArg {f : FuncId} {E : Env} {S : Nat → Prop} {w : World} {v : Value} (h : (AV.it (.one (.clo f []))).has E S w v) : (AV.it (.one (.c (.sat (cloR f [] []))))).has E S w v :=
  ⟨[], [], h, trivial, trivial⟩
abbrev matR (r c : Nat) (x : Rep) : List Atom := [.c (.val (.int .i64 (r : Int))), .c (.val (.int .i64 (c : Int))), .c (.sat x)]
abbrev Z2 := Bool × Rep
abbrev z2A (q : Z2) : List Atom := [.c (.val (.bool q.1)), .c (.sat q.2)]
abbrev z2C (q : Z2) : List CA := [.val (.bool q.1), .sat q.2]
instance : EncLen z2C 2 := ⟨fun _ => rfl⟩
abbrev zC (z : Int) : List CA := [.val (.bool (decide (z < 0))), .sat (nrmN z.natAbs)]
instance : EncLen zC 2 := ⟨fun _ => rfl⟩
instance : EncOne zC := ⟨fun _ => rfl⟩
abbrev z2v (z : Int) : Z2 := (decide (z < 0), nrmN z.natAbs)
structure ZQ (q : Z2) (z : Int) (K : Nat) : Prop where
  h : ∃ n k, z = sgn q.1 n ∧ NI (.sat q.2) n k ∧ k ≤ K
  b : z.natAbs < WB ^ K
theorem NI.le {a : CA} {n k K : Nat} (x : NI a n k) (hK : k ≤ K) : NI a n K := ⟨fun S w v h => by
  obtain ⟨l, h1, h2, h3⟩ := natR_iff.1 (x.p S w v h)
  exact natR_iff.2 ⟨l, h1, Nat.le_trans h2 hK, h3⟩⟩
theorem ZQ.zi {q : Z2} {z : Int} {K : Nat} (h : ZQ q z K) : ZI (z2A q) z K := by
  obtain ⟨n, k, h1, h2, h3⟩ := h.h
  exact h1 ▸ ZI.mk' (neg := q.1) (h2.le h3)
theorem z_sgn (z : Int) : sgn (decide (z < 0)) z.natAbs = z := by
  unfold sgn
  by_cases h : z < 0
  · rw [decide_eq_true h]; simp; omega
  · rw [decide_eq_false h]; simp; omega
theorem ZQ.made {z : Int} {K : Nat} (h : z.natAbs < WB ^ K) : ZQ (z2v z) z K :=
  ⟨⟨z.natAbs, K, (z_sgn z).symm, NI.nrm' h, Nat.le_refl _⟩, h⟩
theorem ZQ.raw {b : Bool} {l : List Nat} {K : Nat} (hs : Sm WB l) (hl : l.length ≤ K) : ZQ (b, rawN l) (sgn b (nval WB l)) K :=
  ⟨⟨_, _, rfl, NI.raw l, hl⟩, by
    have h1 : (sgn b (nval WB l)).natAbs = nval WB l := by unfold sgn; split <;> omega
    rw [h1]; exact Nat.lt_of_lt_of_le (nn_lt hs (Nat.le_refl _)) (Nat.pow_le_pow_right WB_pos hl)⟩
theorem ZQ.mono {q : Z2} {z : Int} {K L : Nat} (h : ZQ q z K) (hK : K ≤ L) : ZQ q z L := by
  obtain ⟨n, k, h1, h2, h3⟩ := h.h
  exact ⟨⟨n, k, h1, h2, by omega⟩, Nat.lt_of_lt_of_le h.b (Nat.pow_le_pow_right WB_pos hK)⟩
structure MZ (l : List Z2) (zs : List Int) (K : Nat) : Prop where
  len : l.length = zs.length
  z : ∀ (i : Nat) q z, l[i]? = some q → zs[i]? = some z → ZQ q z K
abbrev matW (r c : Int) (l : List Z2) : List Atom := [.c (.val (.int .i64 r)), .c (.val (.int .i64 c)), .c (.sat (rowR 2 z2C l))]
abbrev matY (r c : Nat) (l : List Z2) : List Atom := [.c (.val (.int .i64 (r : Int))), .c (.val (.int .i64 (c : Int))), .c (.sat (rowR 2 z2C l))]
abbrev matN (r c : Nat) (l : List Int) : List Atom := [.c (.val (.int .i64 (r : Int))), .c (.val (.int .i64 (c : Int))), .c (.sat (rowR 2 zC l))]
def zat (zs : List Int) (c i k : Nat) : Int := zs.getD (i * c + k) 0
theorem zat_at {zs : List Int} {r c i k : Nat} (hl : zs.length = r * c) (hi : i < r) (hk : k < c) : zs[i * c + k]? = some (zat zs c i k) := by
  have h := idx_lt hi hk
  unfold zat
  rw [List.getD_eq_getElem?_getD, List.getElem?_eq_getElem (by omega)]; rfl
theorem MZ.at {r c i k K : Nat} {l : List Z2} {zs : List Int} (hM : MZ l zs K) (hl : l.length = r * c) (hi : i < r) (hk : k < c) : ∃ q, l[i * c + k]? = some q ∧ ZQ q (zat zs c i k) K := by
  have h := idx_lt hi hk
  obtain ⟨q, hq⟩ : ∃ q, l[i * c + k]? = some q := ⟨_, List.getElem?_eq_getElem (by omega)⟩
  exact ⟨q, hq, hM.z _ _ _ hq (zat_at (by rw [← hM.len]; exact hl) hi hk)⟩
theorem matN_matY (r c : Nat) (l : List Int) : matN r c l = matY r c (l.map z2v) := by
  have e : rowR 2 zC l = rowR 2 z2C (l.map z2v) := by
    show sliceR 2 l.length (l.flatMap zC) = sliceR 2 (l.map z2v).length ((l.map z2v).flatMap z2C)
    rw [List.length_map, List.flatMap_map]
  unfold matN matY
  rw [e]
theorem MZ.made {zs : List Int} {K : Nat} (h : ∀ z ∈ zs, z.natAbs < WB ^ K) : MZ (zs.map z2v) zs K := by
  refine ⟨List.length_map _, fun i q z hq hz => ?_⟩
  rw [List.getElem?_map, hz] at hq
  cases hq
  exact ZQ.made (h z (List.mem_of_getElem? hz))
instance con_zside (n : Int) : Con Tryz.prog 24 [.v (.int .i64 n)] True (.v (.bool (decide (0 ≤ n ∧ n ≤ 64)))) := ⟨fun _ => by
  refine PureOK.fnF Tryz.func24 Tryz.results24 Tryz.ntmps24 rfl rfl rfl (by simp [AV.ids, AV0.ids, Atom.ids]) rfl (fun w0 T B E0 hB => ?_)
  by_cases h1 : n ≥ 0
  · by_cases h2 : n ≤ 64
    · refine SX.goF ?_
      refine retB ?_; rw [decide_eq_true (show 0 ≤ n ∧ n ≤ 64 from ⟨h1, h2⟩)]; exact decide_eq_true h2
    · refine SX.goF ?_
      refine retB ?_; rw [decide_eq_false (show ¬ (0 ≤ n ∧ n ≤ 64) from fun h => h2 h.2)]; exact decide_eq_false h2
  · refine SX.goF ?_
    refine retB ?_; rw [decide_eq_false (show ¬ (0 ≤ n ∧ n ≤ 64) from fun h => h1 h.1)]⟩
theorem con_zFormed (r c : Int) {n : Nat} {cells : List CA} (goal : Bool) (hg : goal = true ↔ FormedP r c n) : PureOK Tryz.prog 27 [.agg [.c (.val (.int .i64 r)), .c (.val (.int .i64 c)), .c (.sat (sliceR 2 n cells))]] (.v (.bool goal)) := by
  have s1 := (con_zside r).h trivial
  have s2 := (con_zside c).h trivial
  refine PureOK.fnF Tryz.func27 Tryz.results27 Tryz.ntmps27 rfl rfl rfl (by simp [AV.ids, AV0.ids, Atom.ids]) rfl (fun w0 T B E0 hB => ?_)
  by_cases h1 : 0 ≤ r ∧ r ≤ 64
  · rw [decide_eq_true h1] at s1
    by_cases h2 : 0 ≤ c ∧ c ≤ 64
    · rw [decide_eq_true h2] at s2
      have hp : 0 ≤ r * c := Int.mul_nonneg h1.1 h2.1
      have hp2 : r * c ≤ 64 * 64 := Int.mul_le_mul h1.2 h2.2 h2.1 (by decide)
      refine SX.goF ?_
      refine retB ?_
      rw [Bool.eq_iff_iff, hg, decide_eq_true_iff]
      exact ⟨fun h => ⟨h1.1, h1.2, h2.1, h2.2, h⟩, fun h => h.2.2.2.2⟩
    · rw [decide_eq_false h2] at s2
      refine SX.goF ?_
      refine retB ?_; exact (Bool.eq_false_iff.2 fun ht => h2 ⟨(hg.1 ht).2.2.1, (hg.1 ht).2.2.2.1⟩).symm
  · rw [decide_eq_false h1] at s1
    refine SX.goF ?_
    refine retB ?_; exact (Bool.eq_false_iff.2 fun ht => h1 ⟨(hg.1 ht).1, (hg.1 ht).2.1⟩).symm
theorem con_zF {r c : Int} {n : Nat} {cells : List CA} (h : FormedP r c n) : PureOK Tryz.prog 27 [.agg [.c (.val (.int .i64 r)), .c (.val (.int .i64 c)), .c (.sat (sliceR 2 n cells))]] (.v (.bool true)) := con_zFormed r c true ⟨fun _ => h, fun _ => rfl⟩
theorem con_zF0 {r c : Int} {n : Nat} {cells : List CA} (h : ¬ FormedP r c n) : PureOK Tryz.prog 27 [.agg [.c (.val (.int .i64 r)), .c (.val (.int .i64 c)), .c (.sat (sliceR 2 n cells))]] (.v (.bool false)) := con_zFormed r c false ⟨fun h => (by cases h), fun h2 => absurd h2 h⟩
theorem FormedP.nat {r c n : Nat} (hr : r ≤ 64) (hc : c ≤ 64) (h : n = r * c) : FormedP r c n := ⟨by omega, by omega, by omega, by omega, by rw [h]; simp⟩
theorem con_zget {r c i k : Nat} {l : List Z2} {q : Z2} (hq : l[i * c + k]? = some q) (hi : i ≤ 1000) (hc : c ≤ 1000) (hk : k ≤ 1000) :
    PureOK Tryz.prog 63 [.agg (matY r c l), .v (.int .i64 (i : Int)), .v (.int .i64 (k : Int))] (.agg (z2A q)) := by
  have hb := Nat.mul_le_mul hi hc
  have hlt := at_lt hq
  refine PureOK.fnF Tryz.func63 Tryz.results63 Tryz.ntmps63 rfl rfl rfl (by simp [AV.ids, AV0.ids, Atom.ids]) rfl (fun w0 T B E0 hB => ?_)
  refine SX.goF ?_
  exact retA (ResOK.agg2 rfl rfl rfl) rfl
theorem con_zhas {r c i : Nat} {l : List Z2} (h : i < r) : PureOK Tryz.prog 62 [.agg (matY r c l), .v (.int .i64 (i : Int))] (.v (.bool true)) := by
  refine PureOK.fnF Tryz.func62 Tryz.results62 Tryz.ntmps62 rfl rfl rfl (by simp [AV.ids, AV0.ids, Atom.ids]) rfl (fun w0 T B E0 hB => ?_)
  refine SX.goF ?_
  refine retB ?_; exact decide_eq_true (by omega)
theorem from_z {q : Z2} {z : Int} {K : Nat} (h : ZQ q z K) (hK : K ≤ 1000000) : PureOK Tryz.prog 19 [.it (.one (.c (.sat q.2))), .v (.bool q.1)] (.agg (zN z)) := by
  obtain ⟨n, k, h1, h2, h3⟩ := h.h
  rw [h1]
  exact con_zFrom (h := h2) q.1 |>.h (by omega)
theorem con_zAt {r c i k : Nat} {l : List Z2} {zs : List Int} {K : Nat} (hM : MZ l zs K) (hl : l.length = r * c) (hr : r ≤ 64) (hc : c ≤ 64) (hi : i < r) (hk : k < c) (hK : K ≤ 1000000) :
    PureOK Tryz.prog 35 [.agg (matY r c l), .v (.int .i64 (i : Int)), .v (.int .i64 (k : Int))] (.agg (zN (zat zs c i k))) := by
  obtain ⟨q, hq, hz⟩ := hM.at hl hi hk
  have cg := con_zget (r := r) hq (by omega) (by omega) (by omega)
  have ch := con_zhas (c := c) (l := l) hi
  have cF := con_zF (cells := l.flatMap z2C) (FormedP.nat hr hc hl)
  have cR := from_z hz hK
  refine PureOK.fnF Tryz.func35 Tryz.results35 Tryz.ntmps35 rfl rfl rfl (by simp [AV.ids, AV0.ids, Atom.ids]) rfl (fun w0 T B E0 hB => ?_)
  refine SX.goF ?_
  exact retA (ResOK.agg2 rfl rfl rfl) rfl
def tabZ (c : Nat) (val : Nat → Nat → Int) (i : Nat) : List Int := (List.range i).flatMap fun i => (List.range c).map (val i)
theorem tabZ_zero {c : Nat} {val : Nat → Nat → Int} : tabZ c val 0 = [] := rfl
theorem tabZ_succ {c i : Nat} {val : Nat → Nat → Int} : tabZ c val (i + 1) = tabZ c val i ++ (List.range c).map (val i) := by
  unfold tabZ; rw [List.range_succ, List.flatMap_append]; simp
theorem tabZ_len {c : Nat} {val : Nat → Nat → Int} : ∀ i, (tabZ c val i).length = i * c
  | 0 => by simp [tabZ_zero]
  | i + 1 => by rw [tabZ_succ, List.length_append, tabZ_len i]; simp [Nat.succ_mul]
theorem tabZ_at {c : Nat} {val : Nat → Nat → Int} {k : Nat} (hk : k < c) : ∀ {r i : Nat}, i < r → (tabZ c val r)[i * c + k]? = some (val i k)
  | 0, i, h => absurd h (Nat.not_lt_zero _)
  | r + 1, i, h => by
    rw [tabZ_succ]
    by_cases hi : i < r
    · rw [List.getElem?_append_left (by rw [tabZ_len]; exact idx_lt hi hk)]
      exact tabZ_at hk hi
    · obtain rfl : i = r := by omega
      rw [List.getElem?_append_right (by rw [tabZ_len]; omega), tabZ_len, Nat.add_sub_cancel_left, List.getElem?_map, List.getElem?_range hk]; rfl
theorem tabZ_bd {c r K : Nat} {val : Nat → Nat → Int} (h : ∀ i k, i < r → k < c → (val i k).natAbs < WB ^ K) : ∀ v ∈ tabZ c val r, v.natAbs < WB ^ K := by
  intro v hv
  unfold tabZ at hv
  obtain ⟨i, hi, hv⟩ := List.mem_flatMap.1 hv
  obtain ⟨k, hk, rfl⟩ := List.mem_map.1 hv
  exact h i k (List.mem_range.1 hi) (List.mem_range.1 hk)
def rowZ (val : Nat → Nat → Int) (i k : Nat) : List Int := (List.range k).map (val i)
theorem rowZ_succ {val : Nat → Nat → Int} {i k : Nat} : rowZ val i (k + 1) = rowZ val i k ++ [val i k] := by
  unfold rowZ; rw [List.range_succ, List.map_append]; rfl
theorem con_zmade (r c : Nat) (x : CA) (L : Nat → Nat → Z2) (val : Nat → Nat → Int) (K : Nat) (hr : r ≤ 100) (hc : c ≤ 100) (hK : K ≤ 1000000)
    (hx : ∀ i k, i < r → k < c → FnV Tryz.prog x [.v (.int .i64 (i : Int)), .v (.int .i64 (k : Int))] (.agg (z2A (L i k)))) (hL : ∀ i k, i < r → k < c → ZQ (L i k) (val i k) K) (hx1 : x.oneB = true) :
    PureOK Tryz.prog 25 [.v (.int .i64 (r : Int)), .v (.int .i64 (c : Int)), .it (.one (.c x))] (.agg (matN r c (tabZ c val r))) := by
  refine PureOK.fnF Tryz.func25 Tryz.results25 Tryz.ntmps25 rfl rfl rfl (by simp [AV.ids, AV0.ids, Atom.ids]) rfl (fun w0 T B E0 hB => ?_)
  refine SX.goF ?_
  refine W.loop (fun i => i ≤ r) (fun i => [(1, .v (.int .i64 (c : Int))), (2, .it (.one (.c x))), (6, .ptr 6 0), (7, .ptr 7 0), (14, .v (.int .i64 (r : Int))), (15, .v (.int .i64 (i : Int)))]) (fun i => [(6, .box 24 [.c (.val (.int .i64 0)), .c (.val (.int .i64 0)), .c (.val (.slice none 0 0))]), (7, .box 24 [.c (.val (.int .i64 (r : Int))), .c (.val (.int .i64 (c : Int))), .own 100]), (100, .row 30 2 (i * c) ((tabZ c val i).flatMap zC))]) (fun i => r - i) 0 (Nat.zero_le _) (fun i hi => ?_)
    (by
      refine SX.St.le_to [(100, none)] (by intro b h; cases h) ?_ ?_ rfl
      · repeat (first | exact trivial | refine ⟨⟨_, rfl, SX.AVto.same rfl⟩, ?_⟩)
      · exact ⟨SX.EntTo.same rfl rfl, SX.EntTo.boxTo rfl rfl ⟨AtomTo.same rfl, AtomTo.same rfl, AtomTo.nil rfl, trivial⟩, by rw [Nat.zero_mul]; exact SX.EntTo.nilRow rfl, trivial⟩)
  by_cases h : i < r
  · refine SX.goF ?_
    refine W.loop (fun k => k ≤ c) (fun k => [(1, .v (.int .i64 (c : Int))), (2, .it (.one (.c x))), (6, .ptr 6 0), (7, .ptr 7 0), (8, .v (.int .i64 (i : Int))), (14, .v (.int .i64 (r : Int))), (15, .v (.int .i64 (i : Int))), (18, .v (.int .i64 (c : Int))), (19, .v (.int .i64 (k : Int)))]) (fun k => [(6, .box 24 [.c (.val (.int .i64 0)), .c (.val (.int .i64 0)), .c (.val (.slice none 0 0))]), (7, .box 24 [.c (.val (.int .i64 (r : Int))), .c (.val (.int .i64 (c : Int))), .own 100]), (100, .row 30 2 (i * c + k) ((tabZ c val i ++ rowZ val i k).flatMap zC))]) (fun k => c - k) 0 (Nat.zero_le _) (fun k hk => ?_)
      (by
        have e : Ent.row 30 2 (i * c) ((tabZ c val i).flatMap zC) = Ent.row 30 2 (i * c + 0) ((tabZ c val i ++ rowZ val i 0).flatMap zC) := by simp [rowZ]
        refine SX.St.le_to [] (by intro b h; cases h) ?_ ?_ rfl
        · repeat (first | exact trivial | refine ⟨⟨_, rfl, SX.AVto.same rfl⟩, ?_⟩)
        · exact ⟨SX.EntTo.same rfl rfl, SX.EntTo.same rfl rfl, SX.EntTo.eq rfl e rfl, trivial⟩)
    by_cases h2 : k < c
    · have hf := hx i k h h2
      have cR := from_z (hL i k h h2) hK
      have hlen : i * c + k ≤ 20000 := by
        have := Nat.mul_le_mul (show i ≤ 100 by omega) hc
        omega
      refine SX.goF ?_
      refine W.next (k + 1) h2 (by omega) (by
        have e2 : (tabZ c val i ++ rowZ val i k).flatMap zC ++ zC (val i k) = (tabZ c val i ++ rowZ val i (k + 1)).flatMap zC := by
          rw [rowZ_succ, ← List.append_assoc, List.flatMap_append (xs := tabZ c val i ++ rowZ val i k)]; simp
        refine SX.St.le_to [(100, some 34)] (by intro b h; cases h) ?_ ?_ rfl
        · repeat (first | exact trivial | refine ⟨⟨_, rfl, SX.AVto.same rfl⟩, ?_⟩)
        · exact ⟨SX.EntTo.same rfl rfl, SX.EntTo.boxTo rfl rfl ⟨AtomTo.same rfl, AtomTo.same rfl, AtomTo.own rfl, trivial⟩, SX.EntTo.row rfl rfl (by omega) e2, trivial⟩)
    · obtain rfl : k = c := by omega
      refine SX.goF ?_
      refine W.next (i + 1) h (by omega) (by
        have e2 : Ent.row 30 2 (i * k + k) ((tabZ k val i ++ rowZ val i k).flatMap zC) = Ent.row 30 2 ((i + 1) * k) ((tabZ k val (i + 1)).flatMap zC) := by rw [Nat.succ_mul, tabZ_succ]; rfl
        refine SX.St.le_to [] (by intro b h; cases h) ?_ ?_ rfl
        · repeat (first | exact trivial | refine ⟨⟨_, rfl, SX.AVto.same rfl⟩, ?_⟩)
        · exact ⟨SX.EntTo.same rfl rfl, SX.EntTo.same rfl rfl, SX.EntTo.eq rfl e2 rfl, trivial⟩)
  · obtain rfl : i = r := by omega
    refine SX.goF ?_
    have hm : matN i c (tabZ c val i) = [.c (.val (.int .i64 (i : Int))), .c (.val (.int .i64 (c : Int))), .c (.sat (sliceR 2 (i * c) ((tabZ c val i).flatMap zC)))] := by
      show [_, _, Atom.c (.sat (sliceR 2 (tabZ c val i).length _))] = _
      rw [tabZ_len]
    rw [hm]
    refine RetF.frz 100 ?_
    exact retA (ResOK.agg3 rfl rfl rfl) rfl
def i64C (z : Int) : List CA := [.val (.int .i64 z)]
instance : EncLen i64C 1 := ⟨fun _ => rfl⟩
theorem con_zmOf1 {l : List Int} {c i k : Nat} {z : Int} (hz : l[i * c + k]? = some z) (hi : i ≤ 100) (hc : c ≤ 100) (hk : k ≤ 100) (hz1 : -9223372036854775808 ≤ z) (hz2 : z ≤ 9223372036854775807) :
    PureOK Tryz.prog 26 [.v (.int .i64 (i : Int)), .v (.int .i64 (k : Int)), .r (ptrR [.sat (rowR 1 i64C l)]), .r (ptrR [.val (.int .i64 (c : Int))])] (.agg (zN z)) := by
  have hb := Nat.mul_le_mul hi hc
  have hlt := at_lt hz
  have cO := (con_zOf (x := z)).h ⟨hz1, hz2⟩
  refine PureOK.fnF Tryz.func26 Tryz.results26 Tryz.ntmps26 rfl rfl rfl (by simp [AV.ids, AV0.ids, Atom.ids]) rfl (fun w0 T B E0 hB => ?_)
  refine SX.goF ?_
  exact retA (ResOK.agg2 rfl rfl rfl) rfl
theorem i64_bd {z : Int} (h1 : -9223372036854775808 ≤ z) (h2 : z ≤ 9223372036854775807) : z.natAbs < WB ^ 1 := by
  rw [Nat.pow_one, WB_eq]; omega
theorem con_zmOf {r c : Nat} {l : List Int} (hl : l.length = r * c) (hr : r ≤ 64) (hc : c ≤ 64) (hz : ∀ z ∈ l, -9223372036854775808 ≤ z ∧ z ≤ 9223372036854775807) :
    PureOK Tryz.prog 12 [.v (.int .i64 (r : Int)), .v (.int .i64 (c : Int)), .r (rowR 1 i64C l)] (.tup [.agg (matN r c (tabZ c (zat l c) r)), eNo 0]) := by
  have s1 := (con_zside (r : Int)).h trivial
  have s2 := (con_zside (c : Int)).h trivial
  rw [decide_eq_true (show 0 ≤ (r : Int) ∧ (r : Int) ≤ 64 by omega)] at s1
  rw [decide_eq_true (show 0 ≤ (c : Int) ∧ (c : Int) ≤ 64 by omega)] at s2
  have hb := Nat.mul_le_mul hr hc
  have hbd : ∀ i k, i < r → k < c → l[i * c + k]? = some (zat l c i k) := fun i k hi hk => zat_at hl hi hk
  have cM := con_zmade r c (.sat (cloR 26 [] [.sat (ptrR [.sat (rowR 1 i64C l)]), .sat (ptrR [.val (.int .i64 (c : Int))])])) (fun i k => z2v (zat l c i k)) (zat l c) 1 (by omega) (by omega) (by omega)
    (fun i k hi hk => FnV.clo (by
      have h := hz _ (List.mem_of_getElem? (hbd i k hi hk))
      exact con_zmOf1 (hbd i k hi hk) (by omega) (by omega) (by omega) h.1 h.2))
    (fun i k hi hk => by
      have h := hz _ (List.mem_of_getElem? (hbd i k hi hk))
      exact ZQ.made (i64_bd h.1 h.2)) rfl
  have hmul : (r : Int) * (c : Int) = ((r * c : Nat) : Int) := by simp
  refine PureOK.fnF Tryz.func12 Tryz.results12 Tryz.ntmps12 rfl rfl rfl (by simp [AV.ids, AV0.ids, Atom.ids]) rfl (fun w0 T B E0 hB => ?_)
  refine SX.goF ?_
  refine SX.WP.freezeB 5 hB rfl rfl ?_
  refine SX.WP.freezeB 4 hB rfl rfl ?_
  refine SX.WP.regionL ?_
  refine SX.goF ?_
  exact .ok (RetOK.mk2 (ResOK.agg3 rfl rfl rfl) (ResOK.tmp rfl))
abbrev RowsB (js : List Nat) (c : List (List Int)) : AEnt := rowsE 22 30 2 zC js c
def zrK (va : Nat → Nat → Int) (i k : Nat) : List Int := (List.range k).map (va i)
def zgM (va : Nat → Nat → Int) (c r : Nat) : List (List Int) := (List.range r).map fun i => zrK va i c
theorem zrK_succ {va : Nat → Nat → Int} {i k : Nat} : zrK va i (k + 1) = zrK va i k ++ [va i k] := by unfold zrK; rw [List.range_succ, List.map_append]; rfl
theorem zrK_len {va : Nat → Nat → Int} {i k : Nat} : (zrK va i k).length = k := by simp [zrK]
theorem zgM_len {va : Nat → Nat → Int} {c r : Nat} : (zgM va c r).length = r := by simp [zgM]
theorem rowsB_next {va : Nat → Nat → Int} {c i : Nat} : RowsB (List.range i ++ [(zgM va c i).length]) (zgM va c i ++ [zrK va i c]) = RowsB (List.range (i + 1)) (zgM va c (i + 1)) := by
  rw [zgM_len, List.range_succ]
  unfold zgM
  rw [List.range_succ, List.map_append]; rfl
theorem isign_ne {z : Int} : isign z = 0 ↔ z = 0 := by
  unfold isign
  split
  · rename_i h; exact ⟨fun _ => h, fun _ => rfl⟩
  · rename_i h
    split
    · exact ⟨fun h2 => by omega, fun h2 => absurd h2 h⟩
    · exact ⟨fun h2 => by omega, fun h2 => absurd h2 h⟩
end Go.Proofs.YtmfadfkjnfdngaaGreatDoor
set_option linter.unusedVariables false
set_option linter.unusedSimpArgs false
namespace Go.Proofs.YtmfadfkjnfdngaaGreatDoor
open Go.RowKit QM SX
theorem lt_someZ {α : Type} {l : List α} {i : Nat} {a : α} (h : l[i]? = some a) : i < l.length := by
  rcases Nat.lt_or_ge i l.length with h1 | h1
  · exact h1
  · rw [List.getElem?_eq_none h1] at h; cases h
theorem nd_injZ {js : List Nat} (h : js.Nodup) {i k j : Nat} (hi : js[i]? = some j) (hk : js[k]? = some j) : i = k := by
  have h1 := lt_someZ hi
  have h2 := lt_someZ hk
  rw [List.getElem?_eq_getElem h1] at hi
  rw [List.getElem?_eq_getElem h2] at hk
  have e := (Option.some.inj hi).trans (Option.some.inj hk).symm
  have h := List.pairwise_iff_getElem.1 h
  rcases Nat.lt_trichotomy i k with hl | hl | hl
  · exact absurd e (h i k h1 h2 hl)
  · exact hl
  · exact absurd e.symm (h k i h2 h1 hl)
theorem nd_neZ {js : List Nat} (h : js.Nodup) {i k j l : Nat} (hi : js[i]? = some j) (hk : js[k]? = some l) (hne : i ≠ k) : j ≠ l := fun e => hne (nd_injZ h hi (e ▸ hk))
theorem zrK_at {A : Nat → Nat → Int} {i w k : Nat} (h : k < w) : (zrK A i w)[k]? = some (A i k) := by
  unfold zrK; rw [List.getElem?_map, List.getElem?_range h]; rfl
theorem zrK_congr {A B : Nat → Nat → Int} {i j w : Nat} (h : ∀ k, k < w → A i k = B j k) : zrK A i w = zrK B j w := List.map_congr_left fun k hk => h k (List.mem_range.1 hk)
theorem zrK_set {A : Nat → Nat → Int} {i w k : Nat} {v : Int} (h : k < w) : (zrK A i w).set k v = zrK (fun x y => if y = k then v else A x y) i w := by
  apply List.ext_getElem?
  intro n
  rw [List.getElem?_set]
  by_cases hn : k = n
  · subst hn
    rw [if_pos rfl, if_pos (by rw [zrK_len]; exact h), zrK_at h]
    simp
  · rw [if_neg hn]
    by_cases hl : n < w
    · rw [zrK_at hl, zrK_at hl]
      simp [show ¬ n = k from fun e => hn e.symm]
    · rw [List.getElem?_eq_none (by rw [zrK_len]; omega), List.getElem?_eq_none (by rw [zrK_len]; omega)]
abbrev ZQs := List Nat × List (List Int)
structure ZOk (r w : Nat) (A : Nat → Nat → Int) (q : ZQs) : Prop where
  len : q.1.length = r
  nd : q.1.Nodup
  lt : ∀ j ∈ q.1, j < q.2.length
  row : ∀ i j, q.1[i]? = some j → q.2[j]? = some (zrK A i w)
section
variable {r w : Nat} {A A' : Nat → Nat → Int} {q : ZQs}
theorem ZOk.congr (z : ZOk r w A q) (h : ∀ i k, i < r → k < w → A i k = A' i k) : ZOk r w A' q := ⟨z.len, z.nd, z.lt, fun i j hj => by
  have := lt_someZ hj
  rw [z.row i j hj, zrK_congr fun k hk => h i k (by have := z.len; omega) hk]⟩
theorem ZOk.get (z : ZOk r w A q) {i : Nat} (hi : i < r) : ∃ j, q.1[i]? = some j ∧ j < q.2.length ∧ q.2[j]? = some (zrK A i w) :=
  have h : i < q.1.length := by rw [z.len]; exact hi
  ⟨_, List.getElem?_eq_getElem h, z.lt _ (List.getElem_mem _), z.row i _ (List.getElem?_eq_getElem h)⟩
theorem ZOk.set (z : ZOk r w A q) {x j : Nat} (hj : q.1[x]? = some j) (h : ∀ i k, i < r → k < w → i ≠ x → A' i k = A i k) : ZOk r w A' (q.1, q.2.set j (zrK A' x w)) := by
  have hjl := z.lt j (List.mem_of_getElem? hj)
  refine ⟨z.len, z.nd, fun j' hj' => by show j' < (q.2.set j _).length; rw [List.length_set]; exact z.lt j' hj', fun i j' hj' => ?_⟩
  show (q.2.set j (zrK A' x w))[j']? = _
  have hj' : q.1[i]? = some j' := hj'
  rw [List.getElem?_set]
  by_cases e : j = j'
  · subst e
    rw [if_pos rfl, if_pos hjl, nd_injZ z.nd hj' hj]
  · rw [if_neg e, z.row i j' hj']
    have hi := lt_someZ hj'
    have hix : i ≠ x := fun h => by subst h; rw [hj'] at hj; exact e (Option.some.inj hj).symm
    rw [zrK_congr fun k hk => (h i k (by have := z.len; omega) hk hix).symm]
theorem ZOk.swap (z : ZOk r w A q) {i k ji jk : Nat} (hi : q.1[i]? = some ji) (hk : q.1[k]? = some jk) : ZOk r w (fun x y => A (if x = k then i else if x = i then k else x) y) ((q.1.set i jk).set k ji, q.2) := by
  have h1 := lt_someZ hi
  have h2 := lt_someZ hk
  have hg : ∀ x, ((q.1.set i jk).set k ji)[x]? = q.1[if x = k then i else if x = i then k else x]? := fun x => by
    rw [List.getElem?_set, List.length_set, List.getElem?_set]
    by_cases hx : k = x
    · subst hx; rw [if_pos rfl, if_pos h2, if_pos rfl, hi]
    · rw [if_neg hx, if_neg (show ¬ x = k from fun e => hx e.symm)]
      by_cases hy : i = x
      · subst hy; rw [if_pos rfl, if_pos h1, if_pos rfl, hk]
      · rw [if_neg hy, if_neg (show ¬ x = i from fun e => hy e.symm)]
  refine ⟨by show ((q.1.set i jk).set k ji).length = r; rw [List.length_set, List.length_set]; exact z.len, ?_, fun j hj => ?_, fun x j hj => ?_⟩
  · show ((q.1.set i jk).set k ji).Nodup
    rw [List.nodup_iff_pairwise_ne, List.pairwise_iff_getElem]
    intro a b ha hb hab he
    rw [List.length_set, List.length_set] at ha hb
    have ea := hg a
    have eb := hg b
    rw [List.getElem?_eq_getElem (by rw [List.length_set, List.length_set]; exact ha)] at ea
    rw [List.getElem?_eq_getElem (by rw [List.length_set, List.length_set]; exact hb), ← he, ea] at eb
    have hla : (if a = k then i else if a = i then k else a) < q.1.length := by split <;> (try split) <;> omega
    have := nd_injZ z.nd (List.getElem?_eq_getElem hla) (eb.symm.trans (List.getElem?_eq_getElem hla))
    split at this <;> split at this <;> (try split at this) <;> (try split at this) <;> omega
  · have hj : j ∈ (q.1.set i jk).set k ji := hj
    rcases List.mem_or_eq_of_mem_set hj with h | h
    · rcases List.mem_or_eq_of_mem_set h with h | h
      · exact z.lt j h
      · rw [h]; exact z.lt _ (List.mem_of_getElem? hk)
    · rw [h]; exact z.lt _ (List.mem_of_getElem? hi)
  · have hj : ((q.1.set i jk).set k ji)[x]? = some j := hj
    rw [hg] at hj
    exact z.row _ j hj
end
def RL (r w : Nat) (A : Nat → Nat → Int) : AEnt := exE (ZOk r w A) fun q => RowsB q.1 q.2
theorem RL_congr {r w : Nat} {A A' : Nat → Nat → Int} (h : ∀ i k, i < r → k < w → A i k = A' i k) : RL r w A = RL r w A' := by
  unfold RL
  congr 1
  funext q
  exact propext ⟨fun z => z.congr h, fun z => z.congr fun i k hi hk => (h i k hi hk).symm⟩
theorem rl_open {P : Program} {C : Ctx} {st : St} {Q : Exit → St → Prop} {cd : Code} {r w : Nat} {A : Nat → Nat → Int} (b : Nat) (hb : st.hp b = .ent (.abs (RL r w A))) (h : ∀ js c, ZOk r w A (js, c) → WP P C cd (abSt st b (RowsB js c)) Q) : WP P C cd st Q :=
  WP.openX (ι := ZQs) b hb fun q hq => h q.1 q.2 hq
theorem rl_le {C : Ctx} {st : St} {r w : Nat} {A : Nat → Nat → Int} {js : List Nat} {c : List (List Int)} (b : Nat) (hb : st.hp b = .ent (.abs (RowsB js c))) (hz : ZOk r w A (js, c)) : St.le C st (abSt st b (RL r w A)) := St.le_absI b hb fun _ _ _ _ _ h => ⟨(js, c), hz, h⟩
theorem rl_to {st : St} {ρ : List (Nat × Option Nat)} {b r w : Nat} {A : Nat → Nat → Int} {js : List Nat} {c : List (List Int)} (hb : st.hp b = .ent (.abs (RowsB js c))) (hz : ZOk r w A (js, c)) (hf : fresh ρ [b] = true) : EntTo st ρ b (.abs (RL r w A)) := EntTo.absI hb (fun _ _ _ _ _ h => ⟨(js, c), hz, h⟩) hf
theorem rl_pre {P : Program} {f : FuncId} {args : List AV} {out : Out} {r w b : Nat} {A : Nat → Nat → Int} {js : List Nat} {c : List (List Int)} (h : CallOK P f args [(b, .abs (RL r w A))] out) (hz : ZOk r w A (js, c)) : CallOK P f args [(b, .abs (RowsB js c))] out := CallOK.preI h fun _ _ _ _ _ h => ⟨(js, c), hz, h⟩
def adF (A : Nat → Nat → Int) (i k : Nat) (z : Int) (x y : Nat) : Int := if x = i then A i y + z * A k y else A x y
def ngF (A : Nat → Nat → Int) (i : Nat) (x y : Nat) : Int := if x = i then -A i y else A x y
def acF (A : Nat → Nat → Int) (i k : Nat) (z : Int) (x y : Nat) : Int := if y = i then A x i + z * A x k else A x y
def swF (A : Nat → Nat → Int) (i k : Nat) (x y : Nat) : Int := A x (if y = k then i else if y = i then k else y)
def srF (A : Nat → Nat → Int) (i k : Nat) (x y : Nat) : Int := A (if x = k then i else if x = i then k else x) y
def adK (A : Nat → Nat → Int) (i k : Nat) (z : Int) (w n : Nat) : List Int := zrK (fun x y => if y < n then A x y + z * A k y else A x y) i w
def ngK (A : Nat → Nat → Int) (i : Nat) (w n : Nat) : List Int := zrK (fun x y => if y < n then -A x y else A x y) i w
section
variable {A : Nat → Nat → Int} {i k w n : Nat} {z : Int}
theorem adK_len : (adK A i k z w n).length = w := zrK_len
theorem adK_get (h : n < w) : (adK A i k z w n)[n]? = some (A i n) := (zrK_at h).trans (congrArg some (if_neg (Nat.lt_irrefl _)))
theorem adK_set (h : n < w) : (adK A i k z w n).set n (A i n + z * A k n) = adK A i k z w (n + 1) := by
  unfold adK
  rw [zrK_set h]
  refine zrK_congr fun y hy => ?_
  show (if y = n then A i n + z * A k n else if y < n then A i y + z * A k y else A i y) = if y < n + 1 then A i y + z * A k y else A i y
  by_cases e : y = n
  · subst e; rw [if_pos rfl, if_pos (Nat.lt_succ_self _)]
  · rw [if_neg e]
    by_cases e2 : y < n
    · rw [if_pos e2, if_pos (by omega)]
    · rw [if_neg e2, if_neg (by omega)]
theorem adK_zero : adK A i k z w 0 = zrK A i w := zrK_congr fun y hy => if_neg (Nat.not_lt_zero _)
theorem adK_end : adK A i k z w w = zrK (adF A i k z) i w := zrK_congr fun y hy => by
  show (if y < w then A i y + z * A k y else A i y) = adF A i k z i y
  unfold adF
  rw [if_pos hy, if_pos rfl]
theorem ngK_len : (ngK A i w n).length = w := zrK_len
theorem ngK_get (h : n < w) : (ngK A i w n)[n]? = some (A i n) := (zrK_at h).trans (congrArg some (if_neg (Nat.lt_irrefl _)))
theorem ngK_set (h : n < w) : (ngK A i w n).set n (-A i n) = ngK A i w (n + 1) := by
  unfold ngK
  rw [zrK_set h]
  refine zrK_congr fun y hy => ?_
  show (if y = n then -A i n else if y < n then -A i y else A i y) = if y < n + 1 then -A i y else A i y
  by_cases e : y = n
  · subst e; rw [if_pos rfl, if_pos (Nat.lt_succ_self _)]
  · rw [if_neg e]
    by_cases e2 : y < n
    · rw [if_pos e2, if_pos (by omega)]
    · rw [if_neg e2, if_neg (by omega)]
theorem ngK_zero : ngK A i w 0 = zrK A i w := zrK_congr fun y hy => if_neg (Nat.not_lt_zero _)
theorem ngK_end : ngK A i w w = zrK (ngF A i) i w := zrK_congr fun y hy => by
  show (if y < w then -A i y else A i y) = ngF A i i y
  unfold ngF
  rw [if_pos hy, if_pos rfl]
end
theorem set_sameZ {α : Type} {c : List α} {j : Nat} {x : α} (h : c[j]? = some x) : c.set j x = c := by
  apply List.ext_getElem?
  intro n
  rw [List.getElem?_set]
  by_cases hn : j = n
  · subst hn; rw [if_pos rfl, if_pos (lt_someZ h), h]
  · rw [if_neg hn]
end Go.Proofs.YtmfadfkjnfdngaaGreatDoor
set_option linter.unusedVariables false
set_option linter.unusedSimpArgs false
namespace Go.Proofs.YtmfadfkjnfdngaaGreatDoor
open Go.RowKit QM SX
attribute [local irreducible] IntKind.wrap Go1 Reg WP thenK inBlk retQ retF RetF RetOK ResOK CallOK OpOK Sat
attribute [local irreducible] adK ngK zrK RL
theorem con_addRow {r w i k K L : Nat} {z : Int} {A : Nat → Nat → Int} (hi : i < r) (hk : k < r) (hik : i ≠ k) (hr : r ≤ 100) (hw : w ≤ 100) (hA : ∀ x y, x < r → y < w → (A x y).natAbs < WB ^ K) (hz : z.natAbs < WB ^ L) (hK : K + K + L ≤ 270000000000) :
    CallOK Tryz.prog 80 [.it (.one (hdrA 82 0)), .v (.int .i64 (i : Int)), .v (.int .i64 (k : Int)), .agg (zN z)] [(82, .abs (RL r w A))] ⟨.tup [], [(82, .ent (.abs (RL r w (adF A i k z))))]⟩ := by
  haveI iZ : Bd z L := ⟨hz⟩
  refine CallOK.fnA Tryz.func80 Tryz.results80 Tryz.ntmps80 rfl rfl rfl rfl rfl rfl rfl rfl (fun w0 T B E0 hB => ?_)
  refine rl_open 82 rfl fun js c q => ?_
  obtain ⟨ji, hji, lji, cji⟩ := q.get hi
  obtain ⟨jk, hjk, ljk, cjk⟩ := q.get hk
  have hji : js[i]? = some ji := hji
  have hjk : js[k]? = some jk := hjk
  have lji : ji < c.length := lji
  have ljk : jk < c.length := ljk
  have cji : c[ji]? = some (zrK A i w) := cji
  have cjk : c[jk]? = some (zrK A k w) := cjk
  have hne : ji ≠ jk := nd_neZ q.nd hji hjk hik
  have hjl : js.length = r := q.len
  have hwi : (zrK A i w).length = w := zrK_len
  have hwk : (zrK A k w).length = w := zrK_len
  refine SX.goB ?_
  refine W.loop (fun n => n ≤ w) (fun n => [(0, .it (.one (hdrA 82 0))), (1, .v (.int .i64 (i : Int))), (2, .v (.int .i64 (k : Int))), (7, .ptr 7 0), (13, .v (.int .i64 ((zrK A i w).length : Int))), (14, .v (.int .i64 (n : Int)))]) (fun n => [(82, .abs (RowsB js (c.set ji (adK A i k z w n)))), (7, .box 30 (zN z))]) (fun n => w - n) 0 (Nat.zero_le _) (fun n hn => ?_)
    (by
      have e : RowsB js c = RowsB js (c.set ji (adK A i k z w 0)) := by rw [adK_zero, set_sameZ cji]
      refine SX.St.le_to [] (by intro b h; exact SX.fixIs h rfl) ?_ ?_ rfl
      · repeat (first | exact trivial | refine ⟨⟨_, rfl, SX.AVto.same rfl⟩, ?_⟩)
      · exact ⟨SX.EntTo.eq rfl (congrArg Ent.abs e) rfl, SX.EntTo.same rfl rfl, trivial⟩)
  by_cases h : n < w
  · haveI iA : Bd (A i n) K := ⟨hA i n hi h⟩
    haveI iB : Bd (A k n) K := ⟨hA k n hk h⟩
    have c1 : (c.set ji (adK A i k z w n))[ji]? = some (adK A i k z w n) := by rw [List.getElem?_set, if_pos rfl, if_pos lji]
    have c2 : (c.set ji (adK A i k z w n))[jk]? = some (zrK A k w) := by rw [List.getElem?_set, if_neg hne]; exact cjk
    have g1 := adK_get (A := A) (i := i) (k := k) (z := z) h
    have g2 := zrK_at (A := A) (i := k) h
    have gl := adK_len (A := A) (i := i) (k := k) (z := z) (w := w) (n := n)
    have e1 : RowsB js ((c.set ji (adK A i k z w n)).set ji ((adK A i k z w n).set n (A i n + z * A k n))) = RowsB js (c.set ji (adK A i k z w (n + 1))) := by rw [adK_set h, List.set_set]
    refine SX.goB ?_
    refine W.next (n + 1) h (by omega) (by
      refine SX.St.le_to [] (by intro b h; exact SX.fixIs h rfl) ?_ ?_ rfl
      · repeat (first | exact trivial | refine ⟨⟨_, rfl, SX.AVto.same rfl⟩, ?_⟩)
      · exact ⟨SX.EntTo.eq rfl (congrArg Ent.abs e1) rfl, SX.EntTo.same rfl rfl, trivial⟩)
  · obtain rfl : n = w := by omega
    have qs := q.set (A' := adF A i k z) hji fun x y hx hy hxi => if_neg hxi
    rw [← adK_end] at qs
    refine SX.goB ?_
    refine RetF.le (rl_le 82 rfl qs) ?_
    exact retP (xs := []) trivial ⟨rfl, trivial⟩
theorem con_negRow {r w i K : Nat} {A : Nat → Nat → Int} (hi : i < r) (hr : r ≤ 100) (hw : w ≤ 100) (hA : ∀ x y, x < r → y < w → (A x y).natAbs < WB ^ K) (hK : K ≤ 270000000000) :
    CallOK Tryz.prog 81 [.it (.one (hdrA 82 0)), .v (.int .i64 (i : Int))] [(82, .abs (RL r w A))] ⟨.tup [], [(82, .ent (.abs (RL r w (ngF A i))))]⟩ := by
  refine CallOK.fnA Tryz.func81 Tryz.results81 Tryz.ntmps81 rfl rfl rfl rfl rfl rfl rfl rfl (fun w0 T B E0 hB => ?_)
  refine rl_open 82 rfl fun js c q => ?_
  obtain ⟨ji, hji, lji, cji⟩ := q.get hi
  have hji : js[i]? = some ji := hji
  have lji : ji < c.length := lji
  have cji : c[ji]? = some (zrK A i w) := cji
  have hjl : js.length = r := q.len
  have hwi : (zrK A i w).length = w := zrK_len
  refine SX.goB ?_
  refine W.loop (fun n => n ≤ w) (fun n => [(0, .it (.one (hdrA 82 0))), (1, .v (.int .i64 (i : Int))), (9, .v (.int .i64 ((zrK A i w).length : Int))), (10, .v (.int .i64 (n : Int)))]) (fun n => [(82, .abs (RowsB js (c.set ji (ngK A i w n))))]) (fun n => w - n) 0 (Nat.zero_le _) (fun n hn => ?_)
    (by
      have e : RowsB js c = RowsB js (c.set ji (ngK A i w 0)) := by rw [ngK_zero, set_sameZ cji]
      refine SX.St.le_to [] (by intro b h; exact SX.fixIs h rfl) ?_ ?_ rfl
      · repeat (first | exact trivial | refine ⟨⟨_, rfl, SX.AVto.same rfl⟩, ?_⟩)
      · exact ⟨SX.EntTo.eq rfl (congrArg Ent.abs e) rfl, trivial⟩)
  by_cases h : n < w
  · haveI iA : Bd (A i n) K := ⟨hA i n hi h⟩
    have c1 : (c.set ji (ngK A i w n))[ji]? = some (ngK A i w n) := by rw [List.getElem?_set, if_pos rfl, if_pos lji]
    have g1 := ngK_get (A := A) (i := i) h
    have gl := ngK_len (A := A) (i := i) (w := w) (n := n)
    have e1 : RowsB js ((c.set ji (ngK A i w n)).set ji ((ngK A i w n).set n (-A i n))) = RowsB js (c.set ji (ngK A i w (n + 1))) := by rw [ngK_set h, List.set_set]
    refine SX.goB ?_
    refine W.next (n + 1) h (by omega) (by
      refine SX.St.le_to [] (by intro b h; exact SX.fixIs h rfl) ?_ ?_ rfl
      · repeat (first | exact trivial | refine ⟨⟨_, rfl, SX.AVto.same rfl⟩, ?_⟩)
      · exact ⟨SX.EntTo.eq rfl (congrArg Ent.abs e1) rfl, trivial⟩)
  · obtain rfl : n = w := by omega
    have qs := q.set (A' := ngF A i) hji fun x y hx hy hxi => if_neg hxi
    rw [← ngK_end] at qs
    refine SX.goB ?_
    refine RetF.le (rl_le 82 rfl qs) ?_
    exact retP (xs := []) trivial ⟨rfl, trivial⟩
theorem con_addCol {r w i k K L : Nat} {z : Int} {A : Nat → Nat → Int} (hi : i < w) (hk : k < w) (hr : r ≤ 100) (hw : w ≤ 100) (hA : ∀ x y, x < r → y < w → (A x y).natAbs < WB ^ K) (hz : z.natAbs < WB ^ L) (hK : K + K + L ≤ 270000000000) :
    CallOK Tryz.prog 106 [.it (.one (hdrA 82 0)), .v (.int .i64 (i : Int)), .v (.int .i64 (k : Int)), .agg (zN z)] [(82, .abs (RL r w A))] ⟨.tup [], [(82, .ent (.abs (RL r w (acF A i k z))))]⟩ := by
  haveI iZ : Bd z L := ⟨hz⟩
  refine CallOK.fnA Tryz.func106 Tryz.results106 Tryz.ntmps106 rfl rfl rfl rfl rfl rfl rfl rfl (fun w0 T B E0 hB => ?_)
  refine rl_open 82 rfl fun js c q => ?_
  have hjl : js.length = r := q.len
  refine SX.goB ?_
  refine W.loop2 (fun n c' => n ≤ r ∧ ZOk r w (fun x y => if x < n then acF A i k z x y else A x y) (js, c')) (fun n c' => [(1, .v (.int .i64 (i : Int))), (2, .v (.int .i64 (k : Int))), (7, .ptr 7 0), (10, .it (.one (hdrA 82 0))), (11, .v (.int .i64 (js.length : Int))), (12, .v (.int .i64 (n : Int)))]) (fun n c' => [(82, .abs (RowsB js c')), (7, .box 30 (zN z))]) (fun n c' => r - n) 0 c ⟨Nat.zero_le _, q.congr fun x y hx hy => (if_neg (Nat.not_lt_zero _)).symm⟩ (fun n c' ⟨hn, q'⟩ => ?_)
  by_cases h : n < r
  · obtain ⟨jn, hjn, ljn, cjn⟩ := q'.get h
    have hjn : js[n]? = some jn := hjn
    have ljn : jn < c'.length := ljn
    have cjn : c'[jn]? = some (zrK A n w) := cjn.trans (congrArg some (zrK_congr fun y hy => if_neg (Nat.lt_irrefl _)))
    have hwn : (zrK A n w).length = w := zrK_len
    haveI iA : Bd (A n i) K := ⟨hA n i h hi⟩
    haveI iB : Bd (A n k) K := ⟨hA n k h hk⟩
    have g1 := zrK_at (A := A) (i := n) hi
    have g2 := zrK_at (A := A) (i := n) hk
    have qs := q'.set (A' := fun x y => if x < n + 1 then acF A i k z x y else A x y) hjn fun x y hx hy hxn => by
      show (if x < n + 1 then _ else _) = if x < n then _ else _
      by_cases e : x < n
      · rw [if_pos e, if_pos (by omega)]
      · rw [if_neg e, if_neg (by omega)]
    have e1 : (zrK A n w).set i (A n i + z * A n k) = zrK (fun x y => if x < n + 1 then acF A i k z x y else A x y) n w := by
      rw [zrK_set hi]
      refine zrK_congr fun y hy => ?_
      show (if y = i then A n i + z * A n k else A n y) = if n < n + 1 then acF A i k z n y else A n y
      rw [if_pos (Nat.lt_succ_self _)]; rfl
    rw [← e1] at qs
    refine SX.goB ?_
    exact W.next2 (n + 1) (c'.set jn ((zrK A n w).set i (A n i + z * A n k))) ⟨h, qs⟩ (by omega)
  · obtain rfl : n = r := by omega
    have qs := q'.congr (A' := acF A i k z) fun x y hx hy => if_pos hx
    refine SX.goB ?_
    refine RetF.le (rl_le 82 rfl qs) ?_
    exact retP (xs := []) trivial ⟨rfl, trivial⟩
theorem con_swapCols {r w i k : Nat} {A : Nat → Nat → Int} (hi : i < w) (hk : k < w) (hr : r ≤ 100) (hw : w ≤ 100) :
    CallOK Tryz.prog 105 [.it (.one (hdrA 82 0)), .v (.int .i64 (i : Int)), .v (.int .i64 (k : Int))] [(82, .abs (RL r w A))] ⟨.tup [], [(82, .ent (.abs (RL r w (swF A i k))))]⟩ := by
  refine CallOK.fnA Tryz.func105 Tryz.results105 Tryz.ntmps105 rfl rfl rfl rfl rfl rfl rfl rfl (fun w0 T B E0 hB => ?_)
  refine rl_open 82 rfl fun js c q => ?_
  have hjl : js.length = r := q.len
  refine SX.goB ?_
  refine W.loop2 (fun n c' => n ≤ r ∧ ZOk r w (fun x y => if x < n then swF A i k x y else A x y) (js, c')) (fun n c' => [(1, .v (.int .i64 (i : Int))), (2, .v (.int .i64 (k : Int))), (8, .it (.one (hdrA 82 0))), (9, .v (.int .i64 (js.length : Int))), (10, .v (.int .i64 (n : Int)))]) (fun n c' => [(82, .abs (RowsB js c'))]) (fun n c' => r - n) 0 c ⟨Nat.zero_le _, q.congr fun x y hx hy => (if_neg (Nat.not_lt_zero _)).symm⟩ (fun n c' ⟨hn, q'⟩ => ?_)
  by_cases h : n < r
  · obtain ⟨jn, hjn, ljn, cjn⟩ := q'.get h
    have hjn : js[n]? = some jn := hjn
    have ljn : jn < c'.length := ljn
    have cjn : c'[jn]? = some (zrK A n w) := cjn.trans (congrArg some (zrK_congr fun y hy => if_neg (Nat.lt_irrefl _)))
    have hwn : (zrK A n w).length = w := zrK_len
    have g1 := zrK_at (A := A) (i := n) hi
    have g2 := zrK_at (A := A) (i := n) hk
    have c2 : (c'.set jn ((zrK A n w).set i (A n k)))[jn]? = some ((zrK A n w).set i (A n k)) := by rw [List.getElem?_set, if_pos rfl, if_pos ljn]
    have hw2 : ((zrK A n w).set i (A n k)).length = w := by rw [List.length_set]; exact hwn
    have qs := q'.set (A' := fun x y => if x < n + 1 then swF A i k x y else A x y) hjn fun x y hx hy hxn => by
      show (if x < n + 1 then _ else _) = if x < n then _ else _
      by_cases e : x < n
      · rw [if_pos e, if_pos (by omega)]
      · rw [if_neg e, if_neg (by omega)]
    have e1 : ((zrK A n w).set i (A n k)).set k (A n i) = zrK (fun x y => if x < n + 1 then swF A i k x y else A x y) n w := by
      rw [zrK_set hi, zrK_set hk]
      refine zrK_congr fun y hy => ?_
      show (if y = k then A n i else if y = i then A n k else A n y) = if n < n + 1 then swF A i k n y else A n y
      rw [if_pos (Nat.lt_succ_self _)]
      unfold swF
      by_cases e : y = k
      · rw [if_pos e, if_pos e]
      · rw [if_neg e, if_neg e]
        by_cases e2 : y = i
        · rw [if_pos e2, if_pos e2]
        · rw [if_neg e2, if_neg e2]
    rw [← e1] at qs
    refine SX.goB ?_
    refine W.next2 (n + 1) _ ⟨h, qs⟩ (by omega) (by
      have e2 : RowsB js ((c'.set jn ((zrK A n w).set i (A n k))).set jn (((zrK A n w).set i (A n k)).set k (A n i))) = RowsB js (c'.set jn (((zrK A n w).set i (A n k)).set k (A n i))) := by rw [List.set_set]
      refine SX.St.le_to [] (by intro b h; exact SX.fixIs h rfl) ?_ ?_ rfl
      · repeat (first | exact trivial | refine ⟨⟨_, rfl, SX.AVto.same rfl⟩, ?_⟩)
      · exact ⟨SX.EntTo.eq rfl (congrArg Ent.abs e2) rfl, trivial⟩)
  · obtain rfl : n = r := by omega
    have qs := q'.congr (A' := swF A i k) fun x y hx hy => if_pos hx
    refine SX.goB ?_
    refine RetF.le (rl_le 82 rfl qs) ?_
    exact retP (xs := []) trivial ⟨rfl, trivial⟩
end Go.Proofs.YtmfadfkjnfdngaaGreatDoor

import Derived.Test.YtfhpmbenldgfnaaGreatDoorM4
import Derived.Test.YtfhpmbenldgfnaaGreatDoorM2
/- Sameness of values. -/
set_option linter.unusedVariables false
set_option linter.unusedSimpArgs false
namespace Go.Proofs.YtfhpmbenldgfnaaGreatDoor
open Go.RowKit QM SX LA
/-- A polynomial over a field that ends where it should. -/
def wN (l : List Nat) : Prop := l.length = 0 ∨ l.getD (l.length - 1) 0 ≠ 0
/-- Formed values that are no lists, of numbers of so many words. -/
inductive Sh (K : Nat) : Vl → Prop
  | num (x : Rat) (h : RB x K) : Sh K (vNum x)
  | mat (r c : Nat) (vs : List Rat) (hl : vs.length = r * c) (hr : r ≤ 64) (hc : c ≤ 64) (h : ∀ v ∈ vs, RB v K) : Sh K (vMat r c vs)
  | pol (zs : List Int) (hl : zs.length ≤ 10000) (hn : pN zs) (h : ∀ z ∈ zs, z.natAbs < WB ^ K) : Sh K (vPol zs)
  | fld (p r c : Nat) (l : List Nat) (hp : PrP p) (hl : l.length = r * c) (hr : r ≤ 64) (hc : c ≤ 64) (h : ∀ x ∈ l, x < p) : Sh K (vFld p r c l)
  | rng (p : Nat) (l : List Nat) (hp : PrP p) (hl : l.length ≤ 10000) (hn : wN l) (h : ∀ x ∈ l, x < p) : Sh K (vRng p l)
/-- Formed values, of lists nested so deep. -/
inductive Cv (K : Nat) : Nat → Vl → Prop
  | one {n : Nat} {v : Vl} (h : Sh K v) : Cv K n v
  | lst {n : Nat} (l : List Vl) (hl : l.length ≤ 10000) (h : ∀ x ∈ l, Cv K n x) : Cv K (n + 1) (vLst l)
noncomputable def sameV (u v : Vl) : Bool := @decide (u = v) (Classical.propDecidable _)
theorem sameV_iff {u v : Vl} : sameV u v = true ↔ u = v := by unfold sameV; exact @decide_eq_true_iff _ (Classical.propDecidable _)
theorem sameV_no {u v : Vl} (h : u ≠ v) : sameV u v = false := Bool.eq_false_iff.2 fun e => h (sameV_iff.1 e)
theorem sameV_self (u : Vl) : sameV u u = true := sameV_iff.2 rfl
theorem sameV_of {u v : Vl} {p : Prop} [Decidable p] (h : u = v ↔ p) : sameV u v = decide p := by
  rw [Bool.eq_iff_iff, sameV_iff, decide_eq_true_iff]; exact h
theorem cq_inj {x y : Rat} (h : cq x = cq y) : x = y := by rw [← cq_val x, h, cq_val]
theorem cz_inj {x y : Int} (h : cz x = cz y) : x = y := by rw [← cz_val x, h, cz_val]
theorem map_inj {α β : Type} {f : α → β} (hf : ∀ {x y}, f x = f y → x = y) : ∀ {l l' : List α}, l.map f = l'.map f → l = l'
  | [], [], _ => rfl
  | a :: l, b :: l', h => by
    rw [List.map_cons, List.map_cons] at h
    injection h with h1 h2
    rw [hf h1, map_inj hf h2]
theorem vNum_inj {x y : Rat} : vNum x = vNum y ↔ x = y := ⟨fun h => by injection h with _ h; exact cq_inj h, fun h => by rw [h]⟩
theorem vMat_inj {r c r' c' : Nat} {vs vs' : List Rat} : vMat r c vs = vMat r' c' vs' ↔ r = r' ∧ c = c' ∧ vs = vs' := by
  constructor
  · intro h
    injection h with _ _ h1 h2 h3
    exact ⟨by omega, by omega, map_inj cq_inj h3⟩
  · rintro ⟨rfl, rfl, rfl⟩; rfl
theorem vPol_inj {a b : List Int} : vPol a = vPol b ↔ a = b := ⟨fun h => by injection h with _ _ _ _ _ h; exact map_inj cz_inj h, fun h => by rw [h]⟩
theorem vFld_inj {p r c p' r' c' : Nat} {l l' : List Nat} : vFld p r c l = vFld p' r' c' l' ↔ p = p' ∧ r = r' ∧ c = c' ∧ l = l' := by
  constructor
  · intro h
    injection h with _ _ _ _ _ _ h1 h2 h3 h4
    exact ⟨h1, by omega, by omega, h4⟩
  · rintro ⟨rfl, rfl, rfl, rfl⟩; rfl
theorem vRng_inj {p p' : Nat} {l l' : List Nat} : vRng p l = vRng p' l' ↔ p = p' ∧ l = l' := by
  constructor
  · intro h
    injection h with _ _ _ _ _ _ h1 _ _ _ h2
    exact ⟨h1, h2⟩
  · rintro ⟨rfl, rfl⟩; rfl
theorem vLst_inj {l l' : List Vl} : vLst l = vLst l' ↔ l = l' := ⟨fun h => by injection h, fun h => by rw [h]⟩
theorem MZ.ofz {zs : List Int} {K : Nat} (h : ∀ z ∈ zs, z.natAbs < WB ^ K) : MZ ((zs.map cz).map rz) zs K := by
  have := MZ.raw (l := zs.map cz) (K := K) (fun a ha => by obtain ⟨z, _, rfl⟩ := List.mem_map.1 ha; exact cz_sm z) (fun a ha => by obtain ⟨z, hz, rfl⟩ := List.mem_map.1 ha; exact wds_len (h z hz))
  rwa [cz_vals] at this
attribute [local irreducible] IntKind.wrap Go1 Reg WP thenK inBlk retQ retF RetF RetOK ResOK CallOK OpOK Sat
attribute [local irreducible] qsub qmul qquo qcmp qadd qv redS mf PrP qOk zOk vP fp64 lz vF cq rqv plen pNorm
theorem con_qs1 {x y : Rat} {K L : Nat} (hx : RB x K) (hy : RB y L) (hK : K + L ≤ 400000) : PureOK Tryz.prog 184 [.agg (q4A (rq (cq x))), .agg (q4A (rq (cq y)))] (.v (.bool (decide (rqv (cq x) = rqv (cq y))))) := by
  rw [cq_val, cq_val]
  haveI := Ra.cq hx
  haveI := Ra.cq hy
  obtain ⟨z, cA, hz, _⟩ := eCmp (q4A (rq (cq x))) (q4A (rq (cq y))) (K := K) (K' := L) (by omega)
  rw [← decide_eq_decide.2 hz]
  refine PureOK.fnF Tryz.func184 Tryz.results184 Tryz.ntmps184 rfl rfl rfl (by simp [AV.ids, AV0.ids, Atom.ids]) rfl (fun w0 T B E0 hB => ?_)
  refine SX.goJ ?_
  exact retB rfl
theorem con_qmSameG {r c r' c' : Nat} {vs vs' : List Rat} {K L : Nat} (hv : ∀ v ∈ vs, RB v K) (hv' : ∀ v ∈ vs', RB v L) (hK : K + L ≤ 400000) (hl : vs.length = r * c) (hl' : vs'.length = r' * c') (hr : r ≤ 64) (hc : c ≤ 64) (hr' : r' ≤ 64) (hc' : c' ≤ 64) :
    PureOK Tryz.prog 98 [.agg (matQ r c ((vs.map cq).map rq)), .agg (matQ r' c' ((vs'.map cq).map rq))] (.v (.bool (decide (r = r' ∧ c = c' ∧ vs = vs')))) := by
  have m1 := Nat.mul_le_mul hr hc
  have m2 := Nat.mul_le_mul hr' hc'
  have k1 : (vs.map cq).length = vs.length := List.length_map _
  have k2 : (vs'.map cq).length = vs'.length := List.length_map _
  have cA := con_alike (l := (vs.map cq).map rq) (l' := (vs'.map cq).map rq) (by rw [List.length_map, List.length_map]; exact hl) (by rw [List.length_map, List.length_map]; exact hl') hr hc hr' hc' (decide (r = r' ∧ c = c')) decide_eq_true_iff
  have cE := con_EqffQ (vs.map cq) (vs'.map cq) 184 (fun a b => decide (rqv a = rqv b)) (fun a ha b hb => by
    obtain ⟨x, hx, rfl⟩ := List.mem_map.1 ha
    obtain ⟨y, hy, rfl⟩ := List.mem_map.1 hb
    exact con_qs1 (hv x hx) (hv' y hy) hK) (by omega) (by omega)
  have e : eqL (fun a b => decide (rqv a = rqv b)) (vs.map cq) (vs'.map cq) = decide (vs = vs') := by
    rw [Bool.eq_iff_iff, decide_eq_true_iff, eqL_iff (fun a ha b hb => by
      obtain ⟨x, hx, rfl⟩ := List.mem_map.1 ha
      obtain ⟨y, hy, rfl⟩ := List.mem_map.1 hb
      rw [decide_eq_true_iff, cq_val, cq_val]
      exact ⟨fun h => by rw [h], cq_inj⟩)]
    exact ⟨map_inj cq_inj, fun h => by rw [h]⟩
  rw [e] at cE
  refine PureOK.fnF Tryz.func98 Tryz.results98 Tryz.ntmps98 rfl rfl rfl (by simp [AV.ids, AV0.ids, Atom.ids]) rfl (fun w0 T B E0 hB => ?_)
  by_cases h1 : r = r' ∧ c = c'
  · rw [decide_eq_true h1] at cA
    refine SX.goJ ?_
    refine retB ?_; rw [decide_eq_decide]; exact ⟨fun h => ⟨h1.1, h1.2, h⟩, fun h => h.2.2⟩
  · rw [decide_eq_false h1] at cA
    refine SX.goJ ?_
    refine retB ?_; exact (decide_eq_false fun h => h1 ⟨h.1, h.2.1⟩).symm
theorem con_sameK (u v : Vl) (h : u.k ≠ v.k ∨ u.p ≠ v.p) : PureOK Tryz.prog 42 [.agg (vlA u), .agg (vlA v)] (.v (.bool (sameV u v))) := by
  rw [sameV_no (by rintro rfl; exact h.elim (fun h => h rfl) fun h => h rfl)]
  refine PureOK.fnF Tryz.func42 Tryz.results42 Tryz.ntmps42 rfl rfl rfl (by simp [AV.ids, AV0.ids, Atom.ids]) rfl (fun w0 T B E0 hB => ?_)
  by_cases h1 : u.k = v.k
  · have h2 : ¬ (u.p : Int) = (v.p : Int) := by omega
    refine SX.goJ ?_
    exact retB rfl
  · refine SX.goJ ?_
    exact retB rfl
section
variable {K L : Nat} (hKL : K + L ≤ 100000)
include hKL
theorem con_same2 {r c r' c' : Nat} {vs vs' : List Rat} (hv : ∀ v ∈ vs, RB v K) (hv' : ∀ v ∈ vs', RB v L) (hl : vs.length = r * c) (hl' : vs'.length = r' * c') (hr : r ≤ 64) (hc : c ≤ 64) (hr' : r' ≤ 64) (hc' : c' ≤ 64) :
    PureOK Tryz.prog 42 [.agg (vlA (vMat r c vs)), .agg (vlA (vMat r' c' vs'))] (.v (.bool (sameV (vMat r c vs) (vMat r' c' vs')))) := by
  have c1 := con_qmSameG hv hv' (by omega) hl hl' hr hc hr' hc'
  rw [sameV_of vMat_inj]
  refine PureOK.fnF Tryz.func42 Tryz.results42 Tryz.ntmps42 rfl rfl rfl (by simp [AV.ids, AV0.ids, Atom.ids]) rfl (fun w0 T B E0 hB => ?_)
  refine SX.goJ ?_
  exact retB rfl
theorem con_same3 {a b : List Int} (hl : a.length ≤ 10000) (hn : pN a) (h : ∀ z ∈ a, z.natAbs < WB ^ K) (hl' : b.length ≤ 10000) (hn' : pN b) (h' : ∀ z ∈ b, z.natAbs < WB ^ L) :
    PureOK Tryz.prog 42 [.agg (vlA (vPol a)), .agg (vlA (vPol b))] (.v (.bool (sameV (vPol a) (vPol b)))) := by
  have c1 := con_pSame (MZ.ofz h) (MZ.ofz h') (by rw [List.length_map, List.length_map]; exact hl) (by rw [List.length_map, List.length_map]; exact hl') hKL hn hn'
  rw [sameV_of vPol_inj]
  refine PureOK.fnF Tryz.func42 Tryz.results42 Tryz.ntmps42 rfl rfl rfl (by simp [AV.ids, AV0.ids, Atom.ids]) rfl (fun w0 T B E0 hB => ?_)
  refine SX.goJ ?_
  exact retB rfl
omit hKL in
theorem con_same4 {p r c r' c' : Nat} {l l' : List Nat} (hp : PrP p) (hl : l.length = r * c) (hr : r ≤ 64) (hc : c ≤ 64) (h : ∀ x ∈ l, x < p) (hl' : l'.length = r' * c') (hr' : r' ≤ 64) (hc' : c' ≤ 64) (h' : ∀ x ∈ l', x < p) :
    PureOK Tryz.prog 42 [.agg (vlA (vFld p r c l)), .agg (vlA (vFld p r' c' l'))] (.v (.bool (sameV (vFld p r c l) (vFld p r' c' l')))) := by
  have cf := con_field (vFld p r c l) hp
  have c1 := con_fSame hp hl hl' hr hc hr' hc' h h'
  have e : ((vFld p r c l).p : Int) = ((vFld p r' c' l').p : Int) := rfl
  rw [sameV_of (p := r = r' ∧ c = c' ∧ l = l') (vFld_inj.trans ⟨fun h => h.2, fun h => ⟨rfl, h⟩⟩)]
  refine PureOK.fnF Tryz.func42 Tryz.results42 Tryz.ntmps42 rfl rfl rfl (by simp [AV.ids, AV0.ids, Atom.ids]) rfl (fun w0 T B E0 hB => ?_)
  refine SX.goJ ?_
  exact retB rfl
omit hKL in
theorem con_same5 {p : Nat} {l l' : List Nat} (hl : l.length ≤ 10000) (hl' : l'.length ≤ 10000) :
    PureOK Tryz.prog 42 [.agg (vlA (vRng p l)), .agg (vlA (vRng p l'))] (.v (.bool (sameV (vRng p l) (vRng p l')))) := by
  have c1 := con_EqualW l l' (by omega) (by omega)
  have e : ((vRng p l).p : Int) = ((vRng p l').p : Int) := rfl
  rw [sameV_of (p := l = l') (vRng_inj.trans ⟨fun h => h.2, fun h => ⟨rfl, h⟩⟩)]
  refine PureOK.fnF Tryz.func42 Tryz.results42 Tryz.ntmps42 rfl rfl rfl (by simp [AV.ids, AV0.ids, Atom.ids]) rfl (fun w0 T B E0 hB => ?_)
  refine SX.goJ ?_
  exact retB rfl
omit hKL in
theorem con_same6 {l l' : List Vl} (hl : l.length ≤ 10000) (hl' : l'.length ≤ 10000) (h : ∀ x ∈ l, ∀ y ∈ l', PureOK Tryz.prog 42 [.agg (vlA x), .agg (vlA y)] (.v (.bool (sameV x y)))) :
    PureOK Tryz.prog 42 [.agg (vlA (vLst l)), .agg (vlA (vLst l'))] (.v (.bool (sameV (vLst l) (vLst l')))) := by
  have c1 := con_EqffV l l' 42 sameV h (by omega) (by omega)
  rw [show eqL sameV l l' = sameV (vLst l) (vLst l') by
    rw [Bool.eq_iff_iff, sameV_iff, vLst_inj]
    exact eqL_iff fun a _ b _ => sameV_iff] at c1
  refine PureOK.fnF Tryz.func42 Tryz.results42 Tryz.ntmps42 rfl rfl rfl (by simp [AV.ids, AV0.ids, Atom.ids]) rfl (fun w0 T B E0 hB => ?_)
  refine SX.goJ ?_
  exact retB rfl
theorem con_sameSh {u v : Vl} (hu : Sh K u) (hv : Sh L v) : PureOK Tryz.prog 42 [.agg (vlA u), .agg (vlA v)] (.v (.bool (sameV u v))) := by
  by_cases hk : u.k = v.k ∧ u.p = v.p
  · cases hu with
    | num x h => cases hv with
      | num y h' =>
        rw [sameV_of vNum_inj]; exact con_vsame1 h h' (by omega)
      | _ => exact absurd hk.1 (by simp)
    | mat r c vs hl hr hc h => cases hv with
      | mat r' c' vs' hl' hr' hc' h' => exact con_same2 hKL h h' hl hl' hr hc hr' hc'
      | _ => exact absurd hk.1 (by simp)
    | pol zs hl hn h => cases hv with
      | pol zs' hl' hn' h' => exact con_same3 hKL hl hn h hl' hn' h'
      | _ => exact absurd hk.1 (by simp)
    | fld p r c l hp hl hr hc h => cases hv with
      | fld p' r' c' l' hp' hl' hr' hc' h' =>
        obtain rfl : p = p' := hk.2
        exact con_same4 hp hl hr hc h hl' hr' hc' h'
      | _ => exact absurd hk.1 (by simp)
    | rng p l hp hl hn h => cases hv with
      | rng p' l' hp' hl' hn' h' =>
        obtain rfl : p = p' := hk.2
        exact con_same5 hl hl'
      | _ => exact absurd hk.1 (by simp)
  · exact con_sameK u v (by omega)
theorem con_same : ∀ (n m : Nat) (u v : Vl), Cv K n u → Cv L m v → PureOK Tryz.prog 42 [.agg (vlA u), .agg (vlA v)] (.v (.bool (sameV u v))) := by
  intro n
  induction n with
  | zero =>
    intro m u v hu hv
    cases hu with
    | one hu => cases hv with
      | one hv => exact con_sameSh hKL hu hv
      | lst l hl h => exact con_sameK u _ (by cases hu <;> exact .inl (by simp))
  | succ n ih =>
    intro m u v hu hv
    cases hu with
    | one hu => cases hv with
      | one hv => exact con_sameSh hKL hu hv
      | lst l hl h => exact con_sameK u _ (by cases hu <;> exact .inl (by simp))
    | lst l hl h => cases hv with
      | one hv => exact con_sameK _ v (by cases hv <;> exact .inl (by simp))
      | lst l' hl' h' => exact con_same6 hl hl' fun x hx y hy => ih _ x y (h x hx) (h' y hy)
end
end Go.Proofs.YtfhpmbenldgfnaaGreatDoor
/- Formed values, told by their kinds. -/
set_option linter.unusedVariables false
set_option linter.unusedSimpArgs false
namespace Go.Proofs.YtfhpmbenldgfnaaGreatDoor
open Go.RowKit QM SX LA
theorem zOk_cz (z : Int) : zOk (cz z) = true := (zOk_iff (cz_sm z)).2 (by rw [cz_val])
theorem lz_iff {zs : List Int} : lz (zs.map cz) = true ↔ pN zs := by
  unfold lz pN
  rw [Bool.or_eq_true, decide_eq_true_iff, decide_eq_true_iff, List.length_map]
  by_cases h : zs.length = 0
  · exact ⟨fun _ => .inl h, fun _ => .inl h⟩
  · have e : rzv ((zs.map cz).getD (zs.length - 1) (false, [])) = zs.getD (zs.length - 1) 0 := by
      rw [List.getD_eq_getElem?_getD, List.getD_eq_getElem?_getD, List.getElem?_map, List.getElem?_eq_getElem (show zs.length - 1 < zs.length by omega)]
      exact cz_val _
    rw [e]
theorem lw_iff {l : List Nat} : lw l = true ↔ wN l := by
  unfold lw wN
  rw [Bool.or_eq_true, decide_eq_true_iff, decide_eq_true_iff]
theorem ltp_all {p : Nat} {l : List Nat} : l.all (ltp p) = true ↔ ∀ x ∈ l, x < p := by
  rw [List.all_eq_true]
  exact ⟨fun h x hx => of_decide_eq_true (h x hx), fun h x hx => decide_eq_true (h x hx)⟩
theorem vP_pol (zs : List Int) : vP (vPol zs) = 0 := (vP0 _).2 ⟨.inr ⟨rfl, rfl, rfl, rfl⟩, .inr ⟨rfl, rfl, rfl⟩, .inl rfl, .inr ⟨rfl, rfl, rfl⟩, .inr rfl, .inr (.inr rfl), .inr rfl⟩
theorem vP_fld (p r c : Nat) (l : List Nat) : vP (vFld p r c l) = 0 := (vP0 _).2 ⟨.inr ⟨rfl, rfl, rfl, rfl⟩, .inr ⟨rfl, rfl, rfl⟩, .inr rfl, .inl rfl, .inr rfl, .inl rfl, .inr rfl⟩
theorem vP_rng (p : Nat) (l : List Nat) : vP (vRng p l) = 0 := (vP0 _).2 ⟨.inr ⟨rfl, rfl, rfl, rfl⟩, .inr ⟨rfl, rfl, rfl⟩, .inr rfl, .inr ⟨rfl, rfl, rfl⟩, .inl rfl, .inr (.inl rfl), .inr rfl⟩
theorem vP_lst (l : List Vl) : vP (vLst l) = 0 := (vP0 _).2 ⟨.inr ⟨rfl, rfl, rfl, rfl⟩, .inr ⟨rfl, rfl, rfl⟩, .inr rfl, .inr ⟨rfl, rfl, rfl⟩, .inr rfl, .inr (.inr rfl), .inl rfl⟩
theorem rq0_sz : (Sm WB rq0.2.1 ∧ Sm WB rq0.2.2.2) ∧ rq0.2.1.length ≤ 100000 ∧ rq0.2.2.2.length ≤ 100000 := ⟨⟨Sm.nil, Sm.nil⟩, Nat.zero_le _, Nat.zero_le _⟩
theorem no_mem {α : Type} {p : α → Prop} : ∀ x ∈ ([] : List α), p x := fun x hx => by cases hx
theorem vZ0_pol {zs : List Int} {K : Nat} (h : ∀ z ∈ zs, z.natAbs < WB ^ K) (hK : K ≤ 100000) (hl : zs.length ≤ 100000) : vZ0 (vPol zs) where
  q := rq0_sz
  a := no_mem
  al := Nat.zero_le _
  po := fun x hx => by obtain ⟨z, hz, rfl⟩ := List.mem_map.1 hx; exact ⟨cz_sm z, Nat.le_trans (wds_len (h z hz)) hK⟩
  pol := by rw [List.length_map]; exact hl
  p := WB_pos
  fa := no_mem
  fal := Nat.zero_le _
  ri := no_mem
  ril := Nat.zero_le _
  lil := Nat.zero_le _
theorem PrP.wb {p : Nat} (h : PrP p) : p < WB := by have := h.2.1; rw [WB_eq]; omega
theorem vZ0_fld {p r c : Nat} {l : List Nat} (hp : PrP p) (h : ∀ x ∈ l, x < p) (hl : l.length ≤ 100000) : vZ0 (vFld p r c l) where
  q := rq0_sz
  a := no_mem
  al := Nat.zero_le _
  po := no_mem
  pol := Nat.zero_le _
  p := hp.wb
  fa := fun x hx => Nat.lt_trans (h x hx) hp.wb
  fal := hl
  ri := no_mem
  ril := Nat.zero_le _
  lil := Nat.zero_le _
theorem vZ0_rng {p : Nat} {l : List Nat} (hp : PrP p) (h : ∀ x ∈ l, x < p) (hl : l.length ≤ 100000) : vZ0 (vRng p l) where
  q := rq0_sz
  a := no_mem
  al := Nat.zero_le _
  po := no_mem
  pol := Nat.zero_le _
  p := hp.wb
  fa := no_mem
  fal := Nat.zero_le _
  ri := fun x hx => Nat.lt_trans (h x hx) hp.wb
  ril := hl
  lil := Nat.zero_le _
theorem vZ0_lst {l : List Vl} (hl : l.length ≤ 100000) : vZ0 (vLst l) where
  q := rq0_sz
  a := no_mem
  al := Nat.zero_le _
  po := no_mem
  pol := Nat.zero_le _
  p := WB_pos
  fa := no_mem
  fal := Nat.zero_le _
  ri := no_mem
  ril := Nat.zero_le _
  lil := hl
theorem Sh.z {K : Nat} {v : Vl} (h : Sh K v) (hK : K ≤ 100000) : vZ0 v ∧ v.li = [] := by
  cases h with
  | num x h => exact ⟨vZ0.num h hK, rfl⟩
  | mat r c vs hl hr hc h => exact ⟨vZ0.mat h hK (by have := Nat.mul_le_mul hr hc; omega), rfl⟩
  | pol zs hl hn h => exact ⟨vZ0_pol h hK (by omega), rfl⟩
  | fld p r c l hp hl hr hc h => exact ⟨vZ0_fld hp h (by have := Nat.mul_le_mul hr hc; omega), rfl⟩
  | rng p l hp hl hn h => exact ⟨vZ0_rng hp h (by omega), rfl⟩
theorem Sh.f {K : Nat} {v : Vl} (h : Sh K v) (d : Nat) : vF d v = true := by
  cases h with
  | num x h => exact vF_num d x
  | mat r c vs hl hr hc h => exact vF_mat d hl hr hc
  | pol zs hl hn h =>
    rw [vF_3 (vP_pol zs) rfl]; unfold pOk
    rw [Bool.and_eq_true]
    exact ⟨List.all_eq_true.2 fun x hx => by obtain ⟨z, _, rfl⟩ := List.mem_map.1 hx; exact zOk_cz z, lz_iff.2 hn⟩
  | fld p r c l hp hl hr hc h =>
    rw [vF_4 (vP_fld p r c l) rfl]; unfold fOk
    rw [Bool.and_eq_true, Bool.and_eq_true]
    exact ⟨decide_eq_true hp, ltp_all.2 h, fp64_nat hr hc hl⟩
  | rng p l hp hl hn h =>
    rw [vF_5 (vP_rng p l) rfl]; unfold rOk
    rw [Bool.and_eq_true, Bool.and_eq_true]
    exact ⟨decide_eq_true hp, ltp_all.2 h, lw_iff.2 hn⟩
theorem Sh.zz {K : Nat} {v : Vl} (h : Sh K v) (hK : K ≤ 100000) : ∀ n, vZ n v
  | 0 => h.z hK
  | n + 1 => ⟨(h.z hK).1, by rw [(h.z hK).2]; exact no_mem⟩
theorem Cv.z {K : Nat} (hK : K ≤ 100000) : ∀ {n : Nat} {v : Vl}, Cv K n v → vZ n v := by
  intro n
  induction n with
  | zero =>
    intro v h
    cases h with
    | one h => exact h.zz hK 0
  | succ n ih =>
    intro v h
    cases h with
    | one h => exact h.zz hK _
    | lst l hl h => exact ⟨vZ0_lst (by omega), fun x hx => ih (h x hx)⟩
theorem Cv.f {K : Nat} : ∀ {n : Nat} {v : Vl}, Cv K n v → ∀ d, n < d → vF d v = true := by
  intro n
  induction n with
  | zero =>
    intro v h d hd
    cases h with
    | one h => exact h.f d
  | succ n ih =>
    intro v h d hd
    cases h with
    | one h => exact h.f d
    | lst l hl h =>
      obtain ⟨e, rfl⟩ : ∃ e, d = e + 1 := ⟨d - 1, by omega⟩
      rw [vF_6 (vP_lst l) rfl]
      exact List.all_eq_true.2 fun x hx => ih (h x hx) e (by omega)
/-- What is small and formed is one of these. -/
theorem map_back {α β : Type} {f : α → β} {g : β → α} : ∀ (l : List β), (∀ x ∈ l, x = f (g x)) → l = (l.map g).map f
  | [], _ => rfl
  | x :: l, h => by rw [List.map_cons, List.map_cons, ← h x (List.mem_cons_self ..), ← map_back l fun y hy => h y (List.mem_cons_of_mem _ hy)]
theorem rqv_b {q : RawQ} (hs : Sm WB q.2.1 ∧ Sm WB q.2.2.2) (h : q.2.1.length ≤ 2 ∧ q.2.2.2.length ≤ 2) : RB (rqv q) 2 := Ra.rb (Ra.rawq hs h) (by decide)
theorem nilL {α : Type} {l : List α} (h : l.length = 0) : l = [] := List.eq_nil_of_length_eq_zero h
theorem small_key {d e : Nat} {v : Vl} (hw : vW1 d v) (hr : rW v) (hf : vF e v = true) : Sh 2 v ∨ (v = vLst v.li ∧ ∃ e', e = e' + 1 ∧ ∀ x ∈ v.li, vF e' x = true) := by
  by_cases hP : vP v = 0
  rotate_left
  · rw [vF_P hP] at hf; cases hf
  have h0 := (vP0 v).1 hP
  obtain ⟨w1, w2, w3, w4, w5, w6, w7, w8⟩ := hw
  obtain ⟨r1, r2, r3, r4, r5, r6, r7⟩ := (rW_iff v).1 hr
  have hk : v.k = 1 ∨ v.k = 2 ∨ v.k = 3 ∨ v.k = 4 ∨ v.k = 5 ∨ v.k = 6 ∨ (v.k ≠ 1 ∧ v.k ≠ 2 ∧ v.k ≠ 3 ∧ v.k ≠ 4 ∧ v.k ≠ 5 ∧ v.k ≠ 6) := by omega
  have q0 : v.k ≠ 1 → v.q = rq0 := fun h => (rq0_iff _).2 (h0.1.resolve_left h)
  have m0 : v.k ≠ 2 → v.r = 0 ∧ v.c = 0 ∧ v.a = [] := fun h => by have := h0.2.1.resolve_left h; exact ⟨this.1, this.2.1, nilL this.2.2⟩
  have p0 : v.k ≠ 3 → v.po = [] := fun h => nilL (h0.2.2.1.resolve_left h)
  have f0 : v.k ≠ 4 → v.fr = 0 ∧ v.fc = 0 ∧ v.fa = [] := fun h => by have := h0.2.2.2.1.resolve_left h; exact ⟨this.1, this.2.1, nilL this.2.2⟩
  have i0 : v.k ≠ 5 → v.ri = [] := fun h => nilL (h0.2.2.2.2.1.resolve_left h)
  have P0 : v.k ≠ 4 → v.k ≠ 5 → v.p = 0 := fun h h' => (h0.2.2.2.2.2.1.resolve_left h).resolve_left h'
  have l0 : v.k ≠ 6 → v.li = [] := fun h => nilL (h0.2.2.2.2.2.2.resolve_left h)
  clear h0
  rcases hk with hk | hk | hk | hk | hk | hk | hk
  · rw [vF_1 hP hk] at hf
    have e1 := (qOk_iff r1).1 hf
    obtain ⟨m1, m2, m3⟩ := m0 (by omega); obtain ⟨f1, f2, f3⟩ := f0 (by omega)
    have p1 := p0 (by omega); have i1 := i0 (by omega); have P1 := P0 (by omega) (by omega); have l1 := l0 (by omega)
    have rb := rqv_b r1 w6
    obtain ⟨k, q, r, c, a, po, p, fr, fc, fa, ri, li⟩ := v
    dsimp only at *
    subst hk m1 m2 m3 f1 f2 f3 p1 i1 P1 l1
    rw [e1]
    exact .inl (.num _ rb)
  · rw [vF_2 hP hk] at hf
    unfold mOk at hf
    rw [Bool.and_eq_true] at hf
    have e1 : ∀ x ∈ v.a, x = cq (rqv x) := fun x hx => (qOk_iff (r2 x hx)).1 (List.all_eq_true.1 hf.1 x hx)
    have e2 := of_decide_eq_true hf.2
    have rb : ∀ y ∈ v.a.map rqv, RB y 2 := fun y hy => by
      obtain ⟨x, hx, rfl⟩ := List.mem_map.1 hy
      exact rqv_b (r2 x hx) (FewP.len (w := 2) w7 x hx)
    have q1 := q0 (by omega); obtain ⟨f1, f2, f3⟩ := f0 (by omega)
    have p1 := p0 (by omega); have i1 := i0 (by omega); have P1 := P0 (by omega) (by omega); have l1 := l0 (by omega)
    obtain ⟨k, q, r, c, a, po, p, fr, fc, fa, ri, li⟩ := v
    dsimp only at *
    subst hk q1 f1 f2 f3 p1 i1 P1 l1
    obtain ⟨n, rfl⟩ : ∃ n : Nat, r = n := ⟨r.toNat, by omega⟩
    obtain ⟨m, rfl⟩ : ∃ m : Nat, c = m := ⟨c.toNat, by omega⟩
    have e3 := map_back (f := cq) (g := rqv) a e1
    have e4 : (a.map rqv).length = n * m := by rw [List.length_map]; have := e2.2.2.2.2; rw [← Int.natCast_mul] at this; omega
    have := Sh.mat n m (a.map rqv) e4 (by omega) (by omega) rb
    unfold vMat at this
    rw [← e3] at this
    exact .inl this
  · rw [vF_3 hP hk] at hf
    unfold pOk at hf
    rw [Bool.and_eq_true] at hf
    have e1 : ∀ x ∈ v.po, x = cz (rzv x) := fun x hx => (zOk_iff (r3 x hx)).1 (List.all_eq_true.1 hf.1 x hx)
    have rb : ∀ y ∈ v.po.map rzv, y.natAbs < WB ^ 2 := fun y hy => by
      obtain ⟨x, hx, rfl⟩ := List.mem_map.1 hy
      exact (ZQ.raw (b := x.1) (r3 x hx) (w1.2 x hx)).b
    have q1 := q0 (by omega); obtain ⟨f1, f2, f3⟩ := f0 (by omega); obtain ⟨m1, m2, m3⟩ := m0 (by omega)
    have i1 := i0 (by omega); have P1 := P0 (by omega) (by omega); have l1 := l0 (by omega)
    obtain ⟨k, q, r, c, a, po, p, fr, fc, fa, ri, li⟩ := v
    dsimp only at *
    subst hk q1 f1 f2 f3 m1 m2 m3 i1 P1 l1
    have e3 := map_back (f := cz) (g := rzv) po e1
    have e4 : pN (po.map rzv) := lz_iff.1 (by rw [← e3]; exact hf.2)
    have := Sh.pol (po.map rzv) (by rw [List.length_map]; omega) e4 rb
    unfold vPol at this
    rw [← e3] at this
    exact .inl this
  · rw [vF_4 hP hk] at hf
    unfold fOk at hf
    rw [Bool.and_eq_true, Bool.and_eq_true, decide_eq_true_iff, ltp_all] at hf
    have e2 := of_decide_eq_true hf.2.2
    have q1 := q0 (by omega); obtain ⟨m1, m2, m3⟩ := m0 (by omega)
    have p1 := p0 (by omega); have i1 := i0 (by omega); have l1 := l0 (by omega)
    obtain ⟨k, q, r, c, a, po, p, fr, fc, fa, ri, li⟩ := v
    dsimp only at *
    subst hk q1 m1 m2 m3 p1 i1 l1
    obtain ⟨n, rfl⟩ : ∃ n : Nat, fr = n := ⟨fr.toNat, by omega⟩
    obtain ⟨m, rfl⟩ : ∃ m : Nat, fc = m := ⟨fc.toNat, by omega⟩
    have e4 : fa.length = n * m := by have := e2.2.2.2.2; rw [← Int.natCast_mul] at this; omega
    exact .inl (.fld p n m fa hf.1 e4 (by omega) (by omega) hf.2.1)
  · rw [vF_5 hP hk] at hf
    unfold rOk at hf
    rw [Bool.and_eq_true, Bool.and_eq_true, decide_eq_true_iff, ltp_all, lw_iff] at hf
    have q1 := q0 (by omega); obtain ⟨m1, m2, m3⟩ := m0 (by omega); obtain ⟨f1, f2, f3⟩ := f0 (by omega)
    have p1 := p0 (by omega); have l1 := l0 (by omega)
    obtain ⟨k, q, r, c, a, po, p, fr, fc, fa, ri, li⟩ := v
    dsimp only at *
    subst hk q1 m1 m2 m3 f1 f2 f3 p1 l1
    exact .inl (.rng p ri hf.1 (by omega) hf.2.2 hf.2.1)
  · have q1 := q0 (by omega); obtain ⟨m1, m2, m3⟩ := m0 (by omega); obtain ⟨f1, f2, f3⟩ := f0 (by omega)
    have p1 := p0 (by omega); have i1 := i0 (by omega); have P1 := P0 (by omega) (by omega)
    cases e with
    | zero => rw [vF_60 hk] at hf; cases hf
    | succ e =>
      rw [vF_6 hP hk, List.all_eq_true] at hf
      obtain ⟨k, q, r, c, a, po, p, fr, fc, fa, ri, li⟩ := v
      dsimp only at *
      subst hk q1 m1 m2 m3 f1 f2 f3 p1 i1 P1
      exact .inr ⟨rfl, e, rfl, hf⟩
  · rw [vF_7 hk] at hf; cases hf
theorem Cv.of : ∀ {d e : Nat} {v : Vl}, vW d v → rW v → vF e v = true → Cv 2 (d + 1) v := by
  intro d
  induction d with
  | zero =>
    intro e v h hr hf
    rcases small_key h.one hr hf with h1 | ⟨h1, e', he, h2⟩
    · exact .one h1
    · rw [h1]; exact .lst v.li (by rw [h.2]; exact Nat.zero_le _) (by rw [h.2]; exact no_mem)
  | succ d ih =>
    intro e v h hr hf
    rcases small_key h.one hr hf with h1 | ⟨h1, e', he, h2⟩
    · exact .one h1
    · rw [h1]
      exact .lst v.li (by have := h.one.2.2.1; omega) fun x hx => ih (h.2 x hx) (((rW_iff v).1 hr).2.2.2.2.2.2 x hx) (h2 x hx)
attribute [local irreducible] IntKind.wrap Go1 Reg WP thenK inBlk retQ retF RetF RetOK ResOK CallOK OpOK Sat
attribute [local irreducible] qsub qmul qquo qcmp qadd qv redS mf PrP qOk zOk vP fp64 lz vF cq rqv plen pNorm
theorem Cv.F {K n : Nat} {v : Vl} (h : Cv K n v) (hK : K ≤ 100000) (hn : n ≤ 15) : PureOK Tryz.prog 28 [.agg (vlA v)] (.v (.bool true)) := by
  have c := con_vFormed (h.z hK)
  rwa [h.f 20 (by omega)] at c
theorem Cv.is {K n : Nat} {v : Vl} (h : Cv K n v) (hK : K ≤ 100000) (hn : n ≤ 15) : PureOK Tryz.prog 14 [.agg (vlA v)] (.v (.bool true)) := by
  have c := con_is (h.z hK)
  rwa [h.f 20 (by omega)] at c
theorem con_Same {K L n m : Nat} {u v : Vl} (hu : Cv K n u) (hv : Cv L m v) (hK : K + L ≤ 100000) (hn : n ≤ 15) (hm : m ≤ 15) : PureOK Tryz.prog 17 [.agg (vlA u), .agg (vlA v)] (.v (.bool (sameV u v))) := by
  have c := con_same hK n m u v hu hv
  have c1 := hu.F (by omega) hn
  have c2 := hv.F (by omega) hm
  refine PureOK.fnF Tryz.func17 Tryz.results17 Tryz.ntmps17 rfl rfl rfl (by simp [AV.ids, AV0.ids, Atom.ids]) rfl (fun w0 T B E0 hB => ?_)
  refine SX.goJ ?_
  exact retB rfl
end Go.Proofs.YtfhpmbenldgfnaaGreatDoor
/- Sums, differences, multiples of numbers, matrices, polynomials; Binary. -/
set_option linter.unusedVariables false
set_option linter.unusedSimpArgs false
namespace Go.Proofs.YtfhpmbenldgfnaaGreatDoor
open Go.RowKit QM SX LA
abbrev mq (vs : List Rat) : List Q4 := (vs.map cq).map rq
abbrev mz (zs : List Int) : List Z2 := (zs.map cz).map rz
theorem mq_len (vs : List Rat) : (mq vs).length = vs.length := by rw [List.length_map, List.length_map]
theorem mz_len (zs : List Int) : (mz zs).length = zs.length := by rw [List.length_map, List.length_map]
theorem imp_mat {r c : Nat} {vs : List Rat} : AV0.imp (.agg [.c (.val (.int .i64 2)), .c (.val (.bool false)), .c (.val (.slice none 0 0)), .c (.val (.bool false)), .c (.val (.slice none 0 0)), .c (.val (.int .i64 (r : Int))), .c (.val (.int .i64 (c : Int))), .c (.sat (rowR 4 q4C (vs.map q4v))), .c (.val (.slice none 0 0)), .c (.val (.int .u64 0)), .c (.val (.int .i64 0)), .c (.val (.int .i64 0)), .c (.val (.slice none 0 0)), .c (.val (.slice none 0 0)), .c (.val (.slice none 0 0))]) (.agg (vlA (vMat r c vs))) :=
  imp_agg ⟨AtomI.refl _, AtomI.refl _, AtomI.nilN, AtomI.refl _, AtomI.nilN, AtomI.refl _, AtomI.refl _, AtomI.rats vs, AtomI.nil, AtomI.refl _, AtomI.refl _, AtomI.refl _, AtomI.nil, AtomI.nil, AtomI.nil, trivial⟩
theorem imp_pol {zs : List Int} : AV0.imp (.agg [.c (.val (.int .i64 3)), .c (.val (.bool false)), .c (.val (.slice none 0 0)), .c (.val (.bool false)), .c (.val (.slice none 0 0)), .c (.val (.int .i64 0)), .c (.val (.int .i64 0)), .c (.val (.slice none 0 0)), .c (.sat (rowR 2 z2C (zs.map z2v))), .c (.val (.int .u64 0)), .c (.val (.int .i64 0)), .c (.val (.int .i64 0)), .c (.val (.slice none 0 0)), .c (.val (.slice none 0 0)), .c (.val (.slice none 0 0))]) (.agg (vlA (vPol zs))) :=
  imp_agg ⟨AtomI.refl _, AtomI.refl _, AtomI.nilN, AtomI.refl _, AtomI.nilN, AtomI.refl _, AtomI.refl _, AtomI.nil, AtomI.ints zs, AtomI.refl _, AtomI.refl _, AtomI.refl _, AtomI.nil, AtomI.nil, AtomI.nil, trivial⟩
attribute [local irreducible] IntKind.wrap Go1 Reg WP thenK inBlk retQ retF RetF RetOK ResOK CallOK OpOK Sat
attribute [local irreducible] qsub qmul qquo qcmp qadd qv redS mf PrP qOk zOk vP fp64 lz vF cq rqv plen pNorm pBoth pScale
theorem con_matT (r c : Nat) (vs : List Rat) : PureOK Tryz.prog 108 [.agg (matQ r c (vs.map q4v)), .v (.int .i64 0)] (.tup [.agg (vlA (vMat r c vs)), eNo 0]) := by
  refine PureOK.fnF Tryz.func108 Tryz.results108 Tryz.ntmps108 rfl rfl rfl (by simp [AV.ids, AV0.ids, Atom.ids]) rfl (fun w0 T B E0 hB => ?_)
  refine SX.goJ ?_
  refine .ok (RetOK.mk2 ((ResOK.agg15 rfl rfl rfl).imp ?_) (ResOK.tmp rfl))
  exact imp_mat
/-- Sums and multiples of matrices' numbers. -/
def mAdd (r c : Nat) (vs vs' : List Rat) : List Rat := tabR c (fun i k => vat vs c i k + vat vs' c i k) r
def mScale (r c : Nat) (vs : List Rat) (x : Rat) : List Rat := tabR c (fun i k => vat vs c i k * x) r
def mxMul (r c d : Nat) (vs vs' : List Rat) : List Rat := tabR d (prodV c (vat vs c) (vat vs' d)) r
theorem mScale_len (r c : Nat) (vs : List Rat) (x : Rat) : (mScale r c vs x).length = r * c := tabR_len r
theorem mScale_RB {r c : Nat} {vs : List Rat} {x : Rat} {K L : Nat} (h : ∀ v ∈ vs, RB v K) (h' : RB x L) (h1 : 1 ≤ K) : ∀ v ∈ mScale r c vs x, RB v (K + L) := tabR_RB fun i k _ _ => (vat_RB h h1 c i k).mul h'
theorem con_prod1 {x y : Rat} {K L : Nat} (hx : RB x K) (hy : RB y L) (hK : K + L ≤ 1000000) : PureOK Tryz.prog 104 [.agg (vlA (vNum x)), .agg (vlA (vNum y))] (.tup [.agg (vlA (vNum (x * y))), eNo 0]) := by
  haveI := Ra.cq hx
  haveI := Ra.cq hy
  obtain ⟨X, cA, hX⟩ := eMul (q4A (rq (cq x))) (q4A (rq (cq y))) (K := K) (K' := L) (by omega)
  have e := hX.nf
  subst e
  have cN := con_numT (x * y) 0
  refine PureOK.fnF Tryz.func104 Tryz.results104 Tryz.ntmps104 rfl rfl rfl (by simp [AV.ids, AV0.ids, Atom.ids]) rfl (fun w0 T B E0 hB => ?_)
  refine SX.goJ ?_
  refine .ok (RetOK.mk2 (ResOK.agg15 rfl rfl rfl) (ResOK.tmp rfl))
theorem con_mul2 {r c : Nat} {vs : List Rat} {x : Rat} {K L : Nat} (hx : RB x L) (h : ∀ v ∈ vs, RB v K) (hl : vs.length = r * c) (hr : r ≤ 64) (hc : c ≤ 64) (h1 : 1 ≤ K) (h1' : 1 ≤ L) (hK : K + L ≤ 100000) :
    PureOK Tryz.prog 105 [.agg (vlA (vNum x)), .agg (vlA (vMat r c vs))] (.tup [.agg (vlA (vMat r c (mScale r c vs x))), eNo 0]) := by
  have c1 := con_qmScale (d := rq (cq x)) (v := x) (K' := L) (MV.cq h) (by rw [mq_len]; exact hl) (Ra.cq hx) hr hc h1 h1' (by omega)
  rw [matA_matQ] at c1
  have c2 := con_matT r c (mScale r c vs x)
  refine PureOK.fnF Tryz.func105 Tryz.results105 Tryz.ntmps105 rfl rfl rfl (by simp [AV.ids, AV0.ids, Atom.ids]) rfl (fun w0 T B E0 hB => ?_)
  refine SX.goJ ?_
  refine .ok (RetOK.mk2 (ResOK.agg15 rfl rfl rfl) (ResOK.tmp rfl))
section
variable {u v w : Vl} {e : Int}
theorem con_times0 (hk : u.k = v.k) (c : PureOK Tryz.prog 104 [.agg (vlA u), .agg (vlA v)] (.tup [.agg (vlA w), eNo e])) : PureOK Tryz.prog 44 [.agg (vlA u), .agg (vlA v)] (.tup [.agg (vlA w), eNo e]) := by
  refine PureOK.fnF Tryz.func44 Tryz.results44 Tryz.ntmps44 rfl rfl rfl (by simp [AV.ids, AV0.ids, Atom.ids]) rfl (fun w0 T B E0 hB => ?_)
  refine SX.goJ ?_
  refine .ok (RetOK.mk2 (ResOK.agg15 rfl rfl rfl) (ResOK.tmp rfl))
theorem con_times2 (hk : v.k = 1) (hk2 : u.k ≠ 1) (c : PureOK Tryz.prog 105 [.agg (vlA v), .agg (vlA u)] (.tup [.agg (vlA w), eNo e])) : PureOK Tryz.prog 44 [.agg (vlA u), .agg (vlA v)] (.tup [.agg (vlA w), eNo e]) := by
  refine PureOK.fnF Tryz.func44 Tryz.results44 Tryz.ntmps44 rfl rfl rfl (by simp [AV.ids, AV0.ids, Atom.ids]) rfl (fun w0 T B E0 hB => ?_)
  refine SX.goJ ?_
  refine .ok (RetOK.mk2 (ResOK.agg15 rfl rfl rfl) (ResOK.tmp rfl))
theorem con_BinF1 (op : Int) (c1 : PureOK Tryz.prog 28 [.agg (vlA u)] (.v (.bool false))) : PureOK Tryz.prog 13 [.v (.int .i64 op), .agg (vlA u), .agg (vlA v)] (.tup [.agg (vlA v0), eNo 1]) := by
  refine PureOK.fnF Tryz.func13 Tryz.results13 Tryz.ntmps13 rfl rfl rfl (by simp [AV.ids, AV0.ids, Atom.ids]) rfl (fun w0 T B E0 hB => ?_)
  refine SX.goJ ?_
  refine .ok (RetOK.mk2 ((ResOK.agg15 rfl rfl rfl).imp ?_) (ResOK.tmp rfl))
  exact imp_none
theorem con_BinF2 (op : Int) {b : Bool} (c1 : PureOK Tryz.prog 28 [.agg (vlA u)] (.v (.bool b))) (c2 : PureOK Tryz.prog 28 [.agg (vlA v)] (.v (.bool false))) : PureOK Tryz.prog 13 [.v (.int .i64 op), .agg (vlA u), .agg (vlA v)] (.tup [.agg (vlA v0), eNo 1]) := by
  cases b
  · exact con_BinF1 op c1
  · refine PureOK.fnF Tryz.func13 Tryz.results13 Tryz.ntmps13 rfl rfl rfl (by simp [AV.ids, AV0.ids, Atom.ids]) rfl (fun w0 T B E0 hB => ?_)
    refine SX.goJ ?_
    refine .ok (RetOK.mk2 ((ResOK.agg15 rfl rfl rfl).imp ?_) (ResOK.tmp rfl))
    exact imp_none
variable (c1 : PureOK Tryz.prog 28 [.agg (vlA u)] (.v (.bool true))) (c2 : PureOK Tryz.prog 28 [.agg (vlA v)] (.v (.bool true)))
include c1 c2
theorem con_Bin6 (c : PureOK Tryz.prog 44 [.agg (vlA u), .agg (vlA v)] (.tup [.agg (vlA w), eNo e])) : PureOK Tryz.prog 13 [.v (.int .i64 6), .agg (vlA u), .agg (vlA v)] (.tup [.agg (vlA w), eNo e]) := by
  refine PureOK.fnF Tryz.func13 Tryz.results13 Tryz.ntmps13 rfl rfl rfl (by simp [AV.ids, AV0.ids, Atom.ids]) rfl (fun w0 T B E0 hB => ?_)
  refine SX.goJ ?_
  refine .ok (RetOK.mk2 (ResOK.agg15 rfl rfl rfl) (ResOK.tmp rfl))
theorem con_Bin7 (c : PureOK Tryz.prog 45 [.agg (vlA u), .agg (vlA v)] (.tup [.agg (vlA w), eNo e])) : PureOK Tryz.prog 13 [.v (.int .i64 7), .agg (vlA u), .agg (vlA v)] (.tup [.agg (vlA w), eNo e]) := by
  refine PureOK.fnF Tryz.func13 Tryz.results13 Tryz.ntmps13 rfl rfl rfl (by simp [AV.ids, AV0.ids, Atom.ids]) rfl (fun w0 T B E0 hB => ?_)
  refine SX.goJ ?_
  refine .ok (RetOK.mk2 (ResOK.agg15 rfl rfl rfl) (ResOK.tmp rfl))
end
end Go.Proofs.YtfhpmbenldgfnaaGreatDoor
/- Comparing numbers; multiples, told by their kinds. -/
set_option linter.unusedVariables false
set_option linter.unusedSimpArgs false
namespace Go.Proofs.YtfhpmbenldgfnaaGreatDoor
open Go.RowKit QM SX LA
theorem pScale_at (zs : List Int) (d : Int) (j : Nat) : (pScale zs d).getD j 0 = zs.getD j 0 * d := by
  unfold pScale
  rw [pNorm_at, List.getD_eq_getElem?_getD, List.getElem?_map, List.getD_eq_getElem?_getD]
  cases zs[j]? with
  | none => exact (Int.zero_mul d).symm
  | some z => rfl
theorem pBoth_len {op : Int → Int → Int} (a b : List Int) : (pBoth op a b).length ≤ max a.length b.length := by
  unfold pBoth; rw [pNorm_len]; exact Nat.le_trans (plen_le _) (by rw [tabP_len]; exact Nat.le_refl _)
theorem pScale_len (zs : List Int) (d : Int) : (pScale zs d).length ≤ zs.length := by
  unfold pScale; rw [pNorm_len]; exact Nat.le_trans (plen_le _) (by rw [List.length_map]; exact Nat.le_refl _)
theorem mem_getD {zs : List Int} {z : Int} (h : z ∈ zs) : ∃ j, zs.getD j 0 = z := by
  obtain ⟨j, hj⟩ := List.mem_iff_getElem?.1 h
  exact ⟨j, by rw [List.getD_eq_getElem?_getD, hj]; rfl⟩
theorem pScale_bd {zs : List Int} {d : Int} {K L : Nat} (h : ∀ z ∈ zs, z.natAbs < WB ^ K) (hd : d.natAbs < WB ^ L) : ∀ z ∈ pScale zs d, z.natAbs < WB ^ (K + L) := fun z hz => by
  obtain ⟨j, rfl⟩ := mem_getD hz
  rw [pScale_at, Int.natAbs_mul, Nat.pow_add]
  exact Nat.mul_lt_mul'' (zat_b h j) hd
/-- A value that is multiplied. -/
def mulV (i : Int) : Vl → Vl
  | ⟨k, q, r, c, a, po, p, fr, fc, fa, ri, li⟩ => if k = 1 then vNum (i * rqv q) else if k = 2 then vMat r.toNat c.toNat (mScale r.toNat c.toNat (a.map rqv) i) else vPol (pScale (po.map rzv) i)
attribute [local irreducible] IntKind.wrap Go1 Reg WP thenK inBlk retQ retF RetF RetOK ResOK CallOK OpOK Sat
attribute [local irreducible] qsub qmul qquo qcmp qadd qv redS mf PrP qOk zOk vP fp64 lz vF cq rqv plen pNorm pBoth pScale
/-- What the statement asks of a value that may be multiplied. -/
structure Muls (v : Vl) (k : Nat) : Prop where
  a : PureOK Tryz.prog 44 [.agg (vlA (vNum ((k : Int) : Rat))), .agg (vlA v)] (.tup [.agg (vlA (mulV k v)), eNo 0])
  b : PureOK Tryz.prog 44 [.agg (vlA v), .agg (vlA (vNum ((k : Int) : Rat)))] (.tup [.agg (vlA (mulV k v)), eNo 0])
  h : ∃ (w : Vl) (e : Int), PureOK Tryz.prog 44 [.agg (vlA (vNum (1 / 2))), .agg (vlA v)] (.tup [.agg (vlA w), eNo e]) ∧ ((v.k ≠ 3 ∧ e = 0) ∨ (v.k = 3 ∧ e = 5))
  d : PureOK Tryz.prog 48 [.agg (vlA v), .agg (vlA v)] (.tup [.agg (vlA (mulV 0 v)), eNo 0])
  s : ∀ i, i < k → PureOK Tryz.prog 47 [.agg (vlA (mulV (i : Int) v)), .agg (vlA v)] (.tup [.agg (vlA (mulV ((i + 1 : Nat) : Int) v)), eNo 0])
  c : ∀ i, i ≤ k → Cv 4 0 (mulV (i : Int) v)
  kk : ∀ i, (mulV i v).k = v.k
end Go.Proofs.YtfhpmbenldgfnaaGreatDoor
/- Polynomials of whole numbers: products, exact quotients. -/
set_option linter.unusedVariables false
set_option linter.unusedSimpArgs false
set_option linter.unusedSectionVars false
namespace Go.Proofs.YtfhpmbenldgfnaaGreatDoor
open Go.RowKit QM SX LA
/-- The sum of the first rows' products. -/
def cvR (a b : List Int) : Nat → Nat → Int
  | 0, _ => 0
  | i + 1, m => cvR a b i m + (if i ≤ m then a.getD i 0 * b.getD (m - i) 0 else 0)
/-- .. and of a part of the next row. -/
def cvP (a b : List Int) (i k m : Nat) : Int := cvR a b i m + (if i ≤ m ∧ m < i + k then a.getD i 0 * b.getD (m - i) 0 else 0)
theorem cvP_zero (a b : List Int) (i m : Nat) : cvP a b i 0 m = cvR a b i m := by unfold cvP; rw [if_neg (by omega), Int.add_zero]
theorem cvP_full (a b : List Int) (i m : Nat) : cvP a b i b.length m = cvR a b (i + 1) m := by
  show _ = cvR a b i m + (if i ≤ m then a.getD i 0 * b.getD (m - i) 0 else 0)
  unfold cvP
  by_cases h : i ≤ m
  · rw [if_pos h]
    by_cases h2 : m < i + b.length
    · rw [if_pos ⟨h, h2⟩]
    · rw [if_neg (by omega), getD_ge (zs := b) (j := m - i) (by omega), Int.mul_zero]
  · rw [if_neg (by omega), if_neg h]
theorem cvP_succ (a b : List Int) (i k m : Nat) : (if m = i + k then cvP a b i k (i + k) + a.getD i 0 * b.getD k 0 else cvP a b i k m) = cvP a b i (k + 1) m := by
  unfold cvP
  by_cases h : m = i + k
  · subst h
    rw [if_pos rfl, if_neg (by omega), if_pos (by omega), show i + k - i = k by omega]; omega
  · rw [if_neg h]
    by_cases h2 : i ≤ m ∧ m < i + k
    · rw [if_pos h2, if_pos (by omega)]
    · rw [if_neg h2, if_neg (by omega)]
theorem cvR_bd {a b : List Int} {K L : Nat} (h : ∀ z ∈ a, z.natAbs < WB ^ K) (h' : ∀ z ∈ b, z.natAbs < WB ^ L) (m : Nat) : ∀ i, (cvR a b i m).natAbs < WB ^ (K + L + i)
  | 0 => by show (0 : Int).natAbs < _; exact Nat.pow_pos WB_pos
  | i + 1 => by
    have h1 := cvR_bd h h' m i
    have h2 : (a.getD i 0 * b.getD (m - i) 0).natAbs < WB ^ (K + L + i) := by
      rw [Int.natAbs_mul]
      have := mul_lt_pow (zat_b h i) (zat_b h' (m - i))
      exact Nat.lt_of_lt_of_le this (Nat.pow_le_pow_right WB_pos (by omega))
    have h3 := two_lt (K + L + i)
    show (cvR a b i m + (if i ≤ m then a.getD i 0 * b.getD (m - i) 0 else 0)).natAbs < WB ^ (K + L + (i + 1))
    rw [← Nat.add_assoc]
    have h4 := Int.natAbs_add_le (cvR a b i m) (if i ≤ m then a.getD i 0 * b.getD (m - i) 0 else 0)
    by_cases h5 : i ≤ m
    · rw [if_pos h5] at h4 ⊢; omega
    · rw [if_neg h5] at h4 ⊢; simp only [Int.natAbs_zero] at h4; omega
theorem cvP_bd {a b : List Int} {K L : Nat} (h : ∀ z ∈ a, z.natAbs < WB ^ K) (h' : ∀ z ∈ b, z.natAbs < WB ^ L) (i k m : Nat) : (cvP a b i k m).natAbs < WB ^ (K + L + i + 1) := by
  unfold cvP
  by_cases h2 : i ≤ m ∧ m < i + k
  · rw [if_pos h2]
    have := cvR_bd h h' m (i + 1)
    rw [cvR, if_pos h2.1] at this
    exact this
  · rw [if_neg h2, Int.add_zero]
    exact Nat.lt_of_lt_of_le (cvR_bd h h' m i) (Nat.pow_le_pow_right WB_pos (by omega))
/-- Behind the last row nothing is added. -/
theorem cvR_more (a b : List Int) (m : Nat) : ∀ (i j : Nat), a.length ≤ i → cvR a b (i + j) m = cvR a b i m
  | i, 0, _ => rfl
  | i, j + 1, h => by
    show cvR a b (i + j) m + (if i + j ≤ m then a.getD (i + j) 0 * b.getD (m - (i + j)) 0 else 0) = _
    rw [cvR_more a b m i j h, getD_ge (zs := a) (by omega), Int.zero_mul]
    split <;> omega
theorem cvR_ge (a b : List Int) (m : Nat) : ∀ i, i + b.length ≤ m + 1 → cvR a b i m = 0
  | 0, _ => rfl
  | i + 1, h => by
    show cvR a b i m + (if i ≤ m then a.getD i 0 * b.getD (m - i) 0 else 0) = 0
    rw [cvR_ge a b m i (by omega), getD_ge (zs := b) (by omega), Int.mul_zero]
    split <;> omega
theorem cvR_congr {a a' b : List Int} (h : ∀ j, a.getD j 0 = a'.getD j 0) (m : Nat) : ∀ i, cvR a b i m = cvR a' b i m
  | 0 => rfl
  | i + 1 => by rw [cvR, cvR, cvR_congr h m i, h]
def pMul (a b : List Int) : List Int := if a.length = 0 ∨ b.length = 0 then [] else pNorm (tabP (a.length + b.length - 1) (cvR a b a.length))
theorem pMul_pN (a b : List Int) : pN (pMul a b) := by
  unfold pMul; split
  · exact .inl rfl
  · exact pNorm_pN _
theorem pMul_at (a b : List Int) (M : Nat) (hM : a.length ≤ M) (m : Nat) : (pMul a b).getD m 0 = cvR a b M m := by
  obtain ⟨j, rfl⟩ : ∃ j, M = a.length + j := ⟨M - a.length, by omega⟩
  rw [cvR_more a b m a.length j (Nat.le_refl _)]
  unfold pMul
  split
  · next h =>
    rw [getD_ge (zs := []) (Nat.zero_le _)]
    rcases h with h | h
    · rw [h]; rfl
    · have key : ∀ i, cvR a b i m = 0 := fun i => by
        induction i with
        | zero => rfl
        | succ i ih =>
          rw [cvR, ih, getD_ge (zs := b) (by omega), Int.mul_zero]
          split <;> omega
      exact (key _).symm
  · next h =>
    rw [pNorm_at]
    by_cases h2 : m < a.length + b.length - 1
    · exact tabP_at h2
    · rw [getD_ge (by rw [tabP_len]; omega)]
      exact (cvR_ge a b m a.length (by omega)).symm
/-- A table of numbers, and one number turned. -/
abbrev tabz (n : Nat) (f : Nat → Int) : List Z2 := (List.range n).map fun m => z2v (f m)
theorem tabz_at {n : Nat} {f : Nat → Int} {k : Nat} (h : k < n) : (tabz n f)[k]? = some (z2v (f k)) := by
  rw [List.getElem?_map, List.getElem?_range h]; rfl
theorem tabz_set {n : Nat} {f g : Nat → Int} {k : Nat} {x : Int} (h : ∀ m, (if m = k then x else f m) = g m) : (tabz n f).set k (z2v x) = tabz n g := by
  apply List.ext_getElem?
  intro j
  rw [List.getElem?_set]
  by_cases hj : k = j
  · subst hj
    rw [if_pos rfl, List.length_map, List.length_range]
    by_cases hk : k < n
    · rw [if_pos hk, tabz_at hk, ← h k, if_pos rfl]
    · rw [if_neg hk, List.getElem?_eq_none (by rw [List.length_map, List.length_range]; omega)]
  · rw [if_neg hj]
    by_cases hk : j < n
    · rw [tabz_at hk, tabz_at hk, ← h j, if_neg (fun e => hj e.symm)]
    · rw [List.getElem?_eq_none (by rw [List.length_map, List.length_range]; omega), List.getElem?_eq_none (by rw [List.length_map, List.length_range]; omega)]
theorem tabz_zero {n : Nat} {f : Nat → Int} (h : ∀ m, f m = 0) : (List.replicate n (z2C (z2v 0))).flatten = (tabz n f).flatMap z2C := by
  have : tabz n f = List.replicate n (z2v 0) := by
    apply List.ext_getElem?; intro j
    rw [List.getElem?_replicate]
    by_cases hj : j < n
    · rw [tabz_at hj, if_pos hj, h]
    · rw [if_neg hj, List.getElem?_eq_none (by rw [List.length_map, List.length_range]; omega)]
  rw [this, List.flatMap, List.map_replicate]
theorem tabz_len (n : Nat) (f : Nat → Int) : (tabz n f).length = n := by rw [List.length_map, List.length_range]
attribute [local irreducible] IntKind.wrap Go1 Reg WP thenK inBlk retQ retF RetF RetOK ResOK CallOK OpOK Sat
attribute [local irreducible] qsub qmul qquo qcmp qadd qv redS mf PrP qOk zOk vP fp64 lz vF cq rqv plen pNorm pBoth pScale mulV cvR cvP pMul
theorem con_nrm {l : List Z2} {zs : List Int} {K : Nat} (hM : MZ l zs K) (hK : K ≤ 1000000) (hl : l.length ≤ 100000) (hn : pN zs) : PureOK Tryz.prog 57 [.r (rowR 2 z2C l)] (.r (rowR 2 z2C (zs.map z2v))) := by
  have c := con_pNorm hM hK hl
  rwa [pNorm_self hn] at c
theorem con_nrmT {n K : Nat} {f : Nat → Int} (h : ∀ i, i < n → (f i).natAbs < WB ^ K) (hK : K ≤ 1000000) (hl : n ≤ 100000) : PureOK Tryz.prog 57 [.r (sliceR 2 n ((tabz n f).flatMap z2C))] (.r (rowR 2 z2C ((pNorm (tabP n f)).map z2v))) := by
  have c := con_pNorm (mz_tab (n := n) (f := f) h) hK (by rw [List.length_map, List.length_range]; exact hl)
  rwa [row_len (n := n) (by rw [List.length_map, List.length_range])] at c
set_option maxRecDepth 20000 in
set_option maxHeartbeats 2000000 in
theorem con_pMul {l l' : List Z2} {zs zs' : List Int} {K K' : Nat} (hM : MZ l zs K) (hM' : MZ l' zs' K') (hn : pN zs) (hn' : pN zs') (hl : l.length ≤ 10000) (hl' : l'.length ≤ 10000) (hK : K + K' + l.length ≤ 100000) (hb : ∀ z ∈ zs, z.natAbs < WB ^ K) (hb' : ∀ z ∈ zs', z.natAbs < WB ^ K') :
    PureOK Tryz.prog 80 [.r (rowR 2 z2C l), .r (rowR 2 z2C l')] (.r (rowR 2 z2C ((pMul zs zs').map z2v))) := by
  have c1 := con_nrm hM (by omega) (by omega) hn
  have c2 := con_nrm hM' (by omega) (by omega) hn'
  have e1 := hM.len
  have e2 := hM'.len
  have m1 : (zs.map z2v).length = zs.length := List.length_map _
  have m2 : (zs'.map z2v).length = zs'.length := List.length_map _
  by_cases h0 : zs.length = 0 ∨ zs'.length = 0
  · have e3 : pMul zs zs' = [] := by unfold pMul; rw [if_pos h0]
    rw [e3]
    refine PureOK.fnF Tryz.func80 Tryz.results80 Tryz.ntmps80 rfl rfl rfl (by simp [AV.ids, AV0.ids, Atom.ids]) rfl (fun w0 T B E0 hB => ?_)
    by_cases h1 : zs.length = 0
    · refine SX.goL ?_
      refine ret1' ?_
      exact fun E S w v h => AtomI.nil (α := Z2) (enc := z2C) (size := 2) E S w v h
    · have h2 := h0.resolve_left h1
      refine SX.goL ?_
      refine ret1' ?_
      exact fun E S w v h => AtomI.nil (α := Z2) (enc := z2C) (size := 2) E S w v h
  have hN : ∃ N, N = zs.length + zs'.length - 1 := ⟨_, rfl⟩
  obtain ⟨N, hN⟩ := hN
  have e3 : pMul zs zs' = pNorm (tabP N (cvR zs zs' zs.length)) := by unfold pMul; rw [if_neg h0, hN]
  have cN := con_nrmT (n := N) (f := cvR zs zs' zs.length) (K := K + K' + zs.length) (fun i _ => cvR_bd hb hb' i zs.length) (by omega) (by omega)
  rw [e3]
  refine PureOK.fnF Tryz.func80 Tryz.results80 Tryz.ntmps80 rfl rfl rfl (by simp [AV.ids, AV0.ids, Atom.ids]) rfl (fun w0 T B E0 hB => ?_)
  refine SX.goL ?_
  refine W.loop (fun i => i ≤ zs.length) (fun i => [(1, .r (rowR 2 z2C (zs'.map z2v))), (5, .own 100), (29, .r (rowR 2 z2C (zs.map z2v))), (30, .v (.int .i64 (zs.length : Int))), (31, .v (.int .i64 (i : Int)))]) (fun i => [(100, .row 25 2 N ((tabz N (cvR zs zs' i)).flatMap z2C))]) (fun i => zs.length - i) 0 (Nat.zero_le _) (fun i hi => ?_)
    (by
      refine SX.St.le_to [(100, some 28)] (by intro b h; cases h) ?_ ?_ rfl
      · repeat (first | exact trivial | refine ⟨⟨_, rfl, SX.AVto.same rfl⟩, ?_⟩ | refine ⟨⟨_, rfl, SX.AVto.own rfl⟩, ?_⟩ | refine ⟨⟨_, rfl, SX.AVto.int (by omega)⟩, ?_⟩)
      · exact ⟨SX.EntTo.row rfl rfl (by omega) (by rw [show (zs.map z2v).length + (zs'.map z2v).length - 1 = N by omega]; exact tabz_zero fun m => by unfold cvR; rfl), trivial⟩)
  by_cases h : i < zs.length
  rotate_left
  · obtain rfl : i = zs.length := by omega
    refine SX.WP.freeze 100 hB rfl ?_
    refine SX.goL ?_
    exact ret1 rfl
  obtain ⟨x, hx⟩ : ∃ x, zs[i]? = some x := ⟨_, List.getElem?_eq_getElem h⟩
  have hx' : (zs.map z2v)[i]? = some (z2v x) := by rw [List.getElem?_map, hx]; rfl
  have h' : i < (zs.map z2v).length := by omega
  have gx : zs.getD i 0 = x := by rw [List.getD_eq_getElem?_getD, hx]; rfl
  have qx : ZQ (z2v x) x K := ZQ.made (hb x (List.mem_of_getElem? hx))
  refine SX.goL ?_
  refine W.loop (fun k => k ≤ zs'.length) (fun k => [(1, .r (rowR 2 z2C (zs'.map z2v))), (5, .own 100), (6, .v (.int .i64 (i : Int))), (7, .ptr 7 0), (29, .r (rowR 2 z2C (zs.map z2v))), (30, .v (.int .i64 (zs.length : Int))), (31, .v (.int .i64 (i : Int))), (36, .r (rowR 2 z2C (zs'.map z2v))), (37, .v (.int .i64 (zs'.length : Int))), (38, .v (.int .i64 (k : Int)))]) (fun k => [(7, .box 25 (z2A (z2v x))), (100, .row 25 2 N ((tabz N (cvP zs zs' i k)).flatMap z2C))]) (fun k => zs'.length - k) 0 (Nat.zero_le _) (fun k hk => ?_)
    (by
      refine SX.St.le_to [(100, some 100)] (by intro b h; cases h) ?_ ?_ rfl
      · repeat (first | exact trivial | refine ⟨⟨_, rfl, SX.AVto.same rfl⟩, ?_⟩ | refine ⟨⟨_, rfl, SX.AVto.own rfl⟩, ?_⟩ | refine ⟨⟨_, rfl, SX.AVto.int (by omega)⟩, ?_⟩)
      · exact ⟨SX.EntTo.same rfl rfl, SX.EntTo.row rfl rfl rfl (by rw [show cvP zs zs' i 0 = cvR zs zs' i from funext fun m => cvP_zero zs zs' i m]), trivial⟩)
  by_cases h2 : k < zs'.length
  · obtain ⟨y, hy⟩ : ∃ y, zs'[k]? = some y := ⟨_, List.getElem?_eq_getElem h2⟩
    have hy' : (zs'.map z2v)[k]? = some (z2v y) := by rw [List.getElem?_map, hy]; rfl
    have h2' : k < (zs'.map z2v).length := by omega
    have gy : zs'.getD k 0 = y := by rw [List.getD_eq_getElem?_getD, hy]; rfl
    have qy : ZQ (z2v y) y K' := ZQ.made (hb' y (List.mem_of_getElem? hy))
    have hN2 : i + k < N := by omega
    have hat := tabz_at (f := cvP zs zs' i k) hN2
    have hln := tabz_len N (cvP zs zs' i k)
    have cM := (con_zMul (h := qx.zi) (h' := qy.zi)).h (by omega)
    have qm : ZQ (z2v (x * y)) (x * y) (K + K') := ZQ.made (by rw [Int.natAbs_mul]; exact mul_lt_pow qx.b qy.b)
    have qa : ZQ (z2v (cvP zs zs' i k (i + k))) (cvP zs zs' i k (i + k)) (K + K' + i + 1) := ZQ.made (cvP_bd hb hb' i k (i + k))
    have cA := (con_zAdd (h := qa.zi) (h' := qm.zi)).h (by omega)
    have hst := tabz_set (n := N) (f := cvP zs zs' i k) (g := cvP zs zs' i (k + 1)) (k := i + k) (x := cvP zs zs' i k (i + k) + x * y) (fun m => by
      have := cvP_succ zs zs' i k m
      rw [gx, gy] at this; exact this)
    refine SX.goL ?_
    refine SX.G.storeOWA (a := z2v (cvP zs zs' i k (i + k) + x * y)) ?_
    rw [hst]
    refine SX.goL ?_
    exact W.next (k + 1) h2 (by omega)
  · obtain rfl : k = zs'.length := by omega
    rw [show cvP zs zs' i zs'.length = cvR zs zs' (i + 1) from funext fun m => cvP_full zs zs' i m]
    refine SX.goL ?_
    exact W.next (i + 1) h (by omega)
end Go.Proofs.YtfhpmbenldgfnaaGreatDoor
/- Exact quotients of polynomials. -/
set_option linter.unusedVariables false
set_option linter.unusedSimpArgs false
set_option linter.unusedSectionVars false
namespace Go.Proofs.YtfhpmbenldgfnaaGreatDoor
open Go.RowKit QM SX LA
def pShift (zs : List Int) (n : Nat) : List Int := List.replicate n 0 ++ zs
theorem pShift_at (zs : List Int) (n j : Nat) : (pShift zs n).getD j 0 = if n ≤ j then zs.getD (j - n) 0 else 0 := by
  unfold pShift
  rw [List.getD_eq_getElem?_getD, List.getElem?_append, List.length_replicate]
  by_cases h : n ≤ j
  · rw [if_neg (by omega), if_pos h, List.getD_eq_getElem?_getD]
  · rw [if_pos (by omega), if_neg h, List.getElem?_replicate, if_pos (by omega)]; rfl
theorem pShift_len (zs : List Int) (n : Nat) : (pShift zs n).length = n + zs.length := by unfold pShift; rw [List.length_append, List.length_replicate]
theorem pShift_bd {zs : List Int} {n K : Nat} (h : ∀ z ∈ zs, z.natAbs < WB ^ K) : ∀ z ∈ pShift zs n, z.natAbs < WB ^ K := fun z hz => by
  unfold pShift at hz
  rw [List.mem_append] at hz
  rcases hz with hz | hz
  · rw [(List.mem_replicate.1 hz).2]; exact Nat.pow_pos WB_pos
  · exact h z hz
theorem pShift_map (zs : List Int) (n : Nat) : (pShift zs n).map z2v = List.replicate n (z2v 0) ++ zs.map z2v := by unfold pShift; rw [List.map_append, List.map_replicate]
theorem pSub_bd1 {a b : List Int} {K : Nat} (h : ∀ z ∈ a, z.natAbs < WB ^ K) (h' : ∀ z ∈ b, z.natAbs < WB ^ K) : ∀ z ∈ pSub a b, z.natAbs < WB ^ (K + 1) := fun z hz => by
  obtain ⟨j, rfl⟩ := mem_getD hz
  rw [pSub_at]
  have h1 := zat_b h j
  have h2 := zat_b h' j
  have h3 := two_lt K
  have := Int.natAbs_sub_le (a.getD j 0) (b.getD j 0)
  omega
/-- Division, from the top on. -/
def exF (b : List Int) : Nat → List Int → (Nat → Int) → Option ((Nat → Int) × List Int)
  | 0, a, f => some (f, a)
  | n + 1, a, f => if zexok (a.getD (n + b.length - 1) 0) (b.getD (b.length - 1) 0) then exF b n (pSub a (pShift (pScale b (zexq (a.getD (n + b.length - 1) 0) (b.getD (b.length - 1) 0))) n)) (fun i => if i = n then zexq (a.getD (n + b.length - 1) 0) (b.getD (b.length - 1) 0) else f i) else none
def exR (zs b : List Int) : Option (List Int) := if b.length = 0 then none else match exF b (zs.length + 1 - b.length) zs (fun _ => 0) with
  | none => none
  | some (f, a) => if a.length = 0 then some (pNorm (tabP (zs.length + 1 - b.length) f)) else none
def cvG (f : Nat → Int) (b : List Int) : Nat → Nat → Int
  | 0, _ => 0
  | i + 1, j => cvG f b i j + (if i ≤ j then f i * b.getD (j - i) 0 else 0)
theorem cvG_tab {S : Nat} {f : Nat → Int} {b : List Int} {j : Nat} : ∀ i, i ≤ S → cvR (tabP S f) b i j = cvG f b i j
  | 0, _ => rfl
  | i + 1, h => by rw [cvR, cvG, cvG_tab i (by omega), tabP_at (by omega)]
theorem cvG_upd {f : Nat → Int} {b : List Int} {j n : Nat} {x : Int} (h0 : f n = 0) : ∀ S, cvG (fun i => if i = n then x else f i) b S j = cvG f b S j + (if n < S ∧ n ≤ j then x * b.getD (j - n) 0 else 0)
  | 0 => by rw [if_neg (by omega)]; rfl
  | S + 1 => by
    rw [cvG, cvG, cvG_upd h0 S]
    by_cases h : S = n
    · subst h
      rw [if_neg (show ¬ (S < S ∧ S ≤ j) by omega), if_pos rfl, h0, Int.zero_mul]
      by_cases h1 : S ≤ j
      · rw [if_pos h1, if_pos h1, if_pos (show S < S + 1 ∧ S ≤ j by omega)]; (try omega)
      · rw [if_neg h1, if_neg h1, if_neg (show ¬ (S < S + 1 ∧ S ≤ j) by omega)]; (try omega)
    · rw [if_neg h]
      by_cases h1 : n < S ∧ n ≤ j
      · rw [if_pos h1, if_pos (show n < S + 1 ∧ n ≤ j by omega)]; (try omega)
      · rw [if_neg h1, if_neg (show ¬ (n < S + 1 ∧ n ≤ j) by omega)]; (try omega)
theorem exF_sound {b : List Int} {S : Nat} : ∀ (n : Nat) (a : List Int) (f : Nat → Int) (f' : Nat → Int) (a' : List Int), n ≤ S → (∀ i, i < n → f i = 0) → exF b n a f = some (f', a') → ∀ j, a.getD j 0 + cvG f b S j = a'.getD j 0 + cvG f' b S j
  | 0, a, f, f', a', _, _, h, j => by
    unfold exF at h
    injection h with h; injection h with h1 h2
    rw [h1, h2]
  | n + 1, a, f, f', a', hn, h0, h, j => by
    unfold exF at h
    split at h
    · generalize zexq (a.getD (n + b.length - 1) 0) (b.getD (b.length - 1) 0) = x at h
      have := exF_sound (S := S) n _ _ f' a' (by omega) (fun i hi => by rw [if_neg (by omega)]; exact h0 i (by omega)) h j
      rw [pSub_at, pShift_at, cvG_upd (h0 n (by omega))] at this
      rw [← this]
      by_cases h1 : n ≤ j
      · rw [if_pos h1, if_pos ⟨by omega, h1⟩, pScale_at, Int.mul_comm x]; omega
      · rw [if_neg h1, if_neg (by omega)]; omega
    · cases h
/-- What is divided is the product. -/
theorem exR_sound {zs b q : List Int} (hn : pN zs) (h : exR zs b = some q) : pN q ∧ pMul q b = zs ∧ q.length ≤ zs.length + 1 - b.length := by
  unfold exR at h
  split at h
  · cases h
  · split at h
    · cases h
    · next f a he =>
      split at h
      · next h0 =>
        injection h with h
        subst h
        have hlen : (pNorm (tabP (zs.length + 1 - b.length) f)).length ≤ zs.length + 1 - b.length := by
          rw [pNorm_len]
          exact Nat.le_trans (plen_le _) (by rw [tabP_len]; exact Nat.le_refl _)
        refine ⟨pNorm_pN _, pN_ext (pMul_pN _ _) hn fun j => ?_, hlen⟩
        rw [pMul_at _ _ (zs.length + 1 - b.length) hlen, cvR_congr (pNorm_at _), cvG_tab _ (Nat.le_refl _)]
        have key := exF_sound (S := zs.length + 1 - b.length) _ zs (fun _ => 0) f a (Nat.le_refl _) (fun _ _ => rfl) he j
        rw [getD_ge (zs := a) (by omega)] at key
        have z0 : ∀ S, cvG (fun _ => 0) b S j = 0 := fun S => by
          induction S with
          | zero => rfl
          | succ S ih =>
            rw [cvG, ih, Int.zero_mul]
            split <;> omega
        rw [z0] at key
        omega
      · cases h
theorem zexq_bd {x y : Int} {K : Nat} (h : x.natAbs < WB ^ K) : (zexq x y).natAbs < WB ^ K := by
  unfold zexq
  split
  · rw [Int.natAbs_tdiv]
    exact Nat.lt_of_le_of_lt (Nat.div_le_self _ _) h
  · exact Nat.pow_pos WB_pos
attribute [local irreducible] IntKind.wrap Go1 Reg WP thenK inBlk retQ retF RetF RetOK ResOK CallOK OpOK Sat
attribute [local irreducible] qsub qmul qquo qcmp qadd qv redS mf PrP qOk zOk vP fp64 lz vF cq rqv plen pNorm pBoth pScale mulV cvR cvP pMul pShift zexq zexok exF
theorem con_shifted {zs : List Int} {n : Nat} (hl : zs.length ≤ 100000) (hn : n ≤ 100000) : PureOK Tryz.prog 61 [.r (rowR 2 z2C (zs.map z2v)), .v (.int .i64 (n : Int))] (.r (rowR 2 z2C ((pShift zs n).map z2v))) := by
  have m1 : (zs.map z2v).length = zs.length := List.length_map _
  rw [pShift_map]
  refine PureOK.fnF Tryz.func61 Tryz.results61 Tryz.ntmps61 rfl rfl rfl (by simp [AV.ids, AV0.ids, Atom.ids]) rfl (fun w0 T B E0 hB => ?_)
  refine SX.goL ?_
  refine RetF.frz 12 ?_
  refine ret1 ?_
  show AV0.one (.c (.sat (sliceR 2 (n + (zs.map z2v).length) _))) = .one (.c (.sat (sliceR 2 (List.replicate n (z2v 0) ++ zs.map z2v).length _)))
  rw [List.length_append, List.length_replicate, List.flatMap_append]
  have e : (List.replicate n (z2v 0)).flatMap z2C = (List.replicate n (z2C (z2v 0))).flatten := by rw [List.flatMap, List.map_replicate]
  rw [e]
/-- What the division keeps of sizes. -/
structure DvK (S L K K' : Nat) (n : Nat) (a : List Int) (f : Nat → Int) : Prop where
  le : n ≤ S
  p : pN a
  l : a.length ≤ L
  b : ∀ z ∈ a, z.natAbs < WB ^ (K + (S - n) * (K' + 1))
  f : ∀ i, (f i).natAbs < WB ^ (K + S * (K' + 1))
theorem bd_up {x K L : Nat} (h : x < WB ^ K) (hK : K ≤ L) : x < WB ^ L := Nat.lt_of_lt_of_le h (Nat.pow_le_pow_right WB_pos hK)
theorem patq_map (a : List Int) (i : Nat) : patq (a.map z2v) i = z2v (a.getD i 0) := by
  unfold patq
  rw [List.getD_eq_getElem?_getD, List.getD_eq_getElem?_getD, List.getElem?_map]
  cases a[i]? <;> rfl
set_option maxRecDepth 20000 in
set_option maxHeartbeats 4000000 in
theorem con_pExact {l l' : List Z2} {zs b : List Int} {K K' : Nat} (hM : MZ l zs K) (hM' : MZ l' b K') (hn : pN zs) (hn' : pN b) (hl : l.length ≤ 4000) (hl' : l'.length ≤ 4000) (hz : ∀ z ∈ zs, z.natAbs < WB ^ K) (hb : ∀ z ∈ b, z.natAbs < WB ^ K') (hK : K + (zs.length + 1) * (K' + 1) ≤ 30000) (hK' : K' ≤ 30000) :
    PureOK Tryz.prog 20 [.r (rowR 2 z2C l), .r (rowR 2 z2C l')] (.tup [.one (.c (.sat (rowR 2 z2C (((exR zs b).getD []).map z2v)))), .one (.c (.val (.bool (exR zs b).isSome)))]) := by
  have hK2 : K ≤ 30000 := by omega
  have c1 := con_nrm hM (by omega) (by omega) hn
  have c2 := con_nrm hM' (by omega) (by omega) hn'
  have e1 := hM.len
  have e2 := hM'.len
  have m1 : (zs.map z2v).length = zs.length := List.length_map _
  have m2 : (b.map z2v).length = b.length := List.length_map _
  by_cases hb0 : b.length = 0
  · have e3 : exR zs b = none := by unfold exR; rw [if_pos hb0]
    rw [e3]
    refine PureOK.fnF Tryz.func20 Tryz.results20 Tryz.ntmps20 rfl rfl rfl (by simp [AV.ids, AV0.ids, Atom.ids]) rfl (fun w0 T B E0 hB => ?_)
    refine SX.goL ?_
    refine .ok (RetOK.mk2 ((ResOK.tmp rfl).imp ?_) (ResOK.tmp rfl))
    exact fun E S w v h => AtomI.nil (α := Z2) (enc := z2C) (size := 2) E S w v h
  obtain ⟨S, hS⟩ : ∃ S, S = zs.length + 1 - b.length := ⟨_, rfl⟩
  have hSK : S * (K' + 1) ≤ (zs.length + 1) * (K' + 1) := Nat.mul_le_mul_right _ (by omega)
  have e3 : exR zs b = match exF b S zs (fun _ => 0) with | none => none | some (f, a) => if a.length = 0 then some (pNorm (tabP S f)) else none := by unfold exR; rw [if_neg hb0, hS]
  obtain ⟨y, hy⟩ : ∃ y, b[b.length - 1]? = some y := ⟨_, List.getElem?_eq_getElem (by omega)⟩
  have hy' : (b.map z2v)[(b.map z2v).length - 1]? = some (z2v y) := by rw [m2, List.getElem?_map, hy]; rfl
  have gy : b.getD (b.length - 1) 0 = y := by rw [List.getD_eq_getElem?_getD, hy]; rfl
  have qy : ZQ (z2v y) y K' := ZQ.made (hb y (List.mem_of_getElem? hy))
  by_cases hS0 : zs.length < b.length
  · have hSz : S = 0 := by omega
    refine PureOK.fnF Tryz.func20 Tryz.results20 Tryz.ntmps20 rfl rfl rfl (by simp [AV.ids, AV0.ids, Atom.ids]) rfl (fun w0 T B E0 hB => ?_)
    refine SX.goL ?_
    refine W.loop3 (fun n a f => DvK S (zs.length + b.length + 1) K K' n a f ∧ exF b n a f = exF b S zs (fun _ => 0)) (fun n a f => [(0, .r (rowR 2 z2C (a.map z2v))), (1, .r (rowR 2 z2C (b.map z2v))), (4, .v (.slice none 0 0)), (5, .v (.bool false)), (6, .own 100), (7, .v (.int .i64 ((n : Int) - 1)))]) (fun n a f => [(100, .row 25 2 S ((tabz S f).flatMap z2C))]) (fun n _ _ => n) S zs (fun _ => 0) ⟨⟨Nat.le_refl _, hn, by omega, fun z h => bd_up (hz z h) (by omega), fun i => Nat.pow_pos WB_pos⟩, rfl⟩ (fun n a f ⟨hD, hE⟩ => ?_)
      (by
        refine SX.St.le_to [(100, some 24)] (by intro b h; cases h) ?_ ?_ rfl
        · repeat (first | exact trivial | refine ⟨⟨_, rfl, SX.AVto.same rfl⟩, ?_⟩ | refine ⟨⟨_, rfl, SX.AVto.own rfl⟩, ?_⟩ | refine ⟨⟨_, rfl, SX.AVto.int (by omega)⟩, ?_⟩)
        · exact ⟨SX.EntTo.row rfl rfl (by omega) (by rw [← tabz_zero (n := S) (f := fun _ => 0) fun _ => rfl, hSz]; (try rw [m1, m2])), trivial⟩)
    have ma : (a.map z2v).length = a.length := List.length_map _
    have hal := hD.l
    cases n with
    | zero =>
      have hE' : exF b S zs (fun _ => 0) = some (f, a) := by rw [← hE]; unfold exF; rfl
      rw [hE'] at e3
      dsimp only at e3
      by_cases ha : a.length = 0
      · rw [if_pos ha] at e3
        rw [e3]
        have cN := con_nrmT (n := S) (f := f) (K := K + S * (K' + 1)) (fun i _ => hD.f i) (by omega) (by omega)
        refine SX.WP.freeze 100 hB rfl ?_
        refine SX.goL ?_
        exact .ok (RetOK.mk2 (ResOK.tmp rfl) (ResOK.tmp rfl))
      · rw [if_neg ha] at e3
        rw [e3]
        refine SX.goL ?_
        refine .ok (RetOK.mk2 ((ResOK.tmp rfl).imp ?_) (ResOK.tmp rfl))
        exact fun E S w v h => AtomI.nil (α := Z2) (enc := z2C) (size := 2) E S w v h
    | succ m => exfalso; have := hD.le; omega
  · have hSz : S = max (zs.length - b.length + 1) 0 := by omega
    refine PureOK.fnF Tryz.func20 Tryz.results20 Tryz.ntmps20 rfl rfl rfl (by simp [AV.ids, AV0.ids, Atom.ids]) rfl (fun w0 T B E0 hB => ?_)
    refine SX.goL ?_
    refine W.loop3 (fun n a f => DvK S (zs.length + b.length + 1) K K' n a f ∧ exF b n a f = exF b S zs (fun _ => 0)) (fun n a f => [(0, .r (rowR 2 z2C (a.map z2v))), (1, .r (rowR 2 z2C (b.map z2v))), (4, .v (.slice none 0 0)), (5, .v (.bool false)), (6, .own 100), (7, .v (.int .i64 ((n : Int) - 1)))]) (fun n a f => [(100, .row 25 2 S ((tabz S f).flatMap z2C))]) (fun n _ _ => n) S zs (fun _ => 0) ⟨⟨Nat.le_refl _, hn, by omega, fun z h => bd_up (hz z h) (by omega), fun i => Nat.pow_pos WB_pos⟩, rfl⟩ (fun n a f ⟨hD, hE⟩ => ?_)
      (by
        refine SX.St.le_to [(100, some 24)] (by intro b h; cases h) ?_ ?_ rfl
        · repeat (first | exact trivial | refine ⟨⟨_, rfl, SX.AVto.same rfl⟩, ?_⟩ | refine ⟨⟨_, rfl, SX.AVto.own rfl⟩, ?_⟩ | refine ⟨⟨_, rfl, SX.AVto.int (by omega)⟩, ?_⟩)
        · exact ⟨SX.EntTo.row rfl rfl (by omega) (by rw [← tabz_zero (n := S) (f := fun _ => 0) fun _ => rfl, hSz]; (try rw [m1, m2])), trivial⟩)
    have ma : (a.map z2v).length = a.length := List.length_map _
    have hal := hD.l
    cases n with
    | zero =>
      have hE' : exF b S zs (fun _ => 0) = some (f, a) := by rw [← hE]; unfold exF; rfl
      rw [hE'] at e3
      dsimp only at e3
      by_cases ha : a.length = 0
      · rw [if_pos ha] at e3
        rw [e3]
        have cN := con_nrmT (n := S) (f := f) (K := K + S * (K' + 1)) (fun i _ => hD.f i) (by omega) (by omega)
        refine SX.WP.freeze 100 hB rfl ?_
        refine SX.goL ?_
        exact .ok (RetOK.mk2 (ResOK.tmp rfl) (ResOK.tmp rfl))
      · rw [if_neg ha] at e3
        rw [e3]
        refine SX.goL ?_
        refine .ok (RetOK.mk2 ((ResOK.tmp rfl).imp ?_) (ResOK.tmp rfl))
        exact fun E S w v h => AtomI.nil (α := Z2) (enc := z2C) (size := 2) E S w v h
    | succ m =>
      have hm : m < S := by have := hD.le; omega
      have en : (((m + 1 : Nat) : Int) - 1) = (m : Int) := by omega
      have hKm : (S - (m + 1)) * (K' + 1) ≤ S * (K' + 1) := Nat.mul_le_mul_right _ (by omega)
      have hKm2 : (S - m) * (K' + 1) = (S - (m + 1)) * (K' + 1) + (K' + 1) := by rw [show S - m = S - (m + 1) + 1 by omega, Nat.add_mul, Nat.one_mul]
      have hKm3 : (S - m) * (K' + 1) ≤ S * (K' + 1) := Nat.mul_le_mul_right _ (by omega)
      obtain ⟨t, ht⟩ : ∃ t, t = a.getD (m + b.length - 1) 0 := ⟨_, rfl⟩
      have hE' : (if zexok t y then exF b m (pSub a (pShift (pScale b (zexq t y)) m)) (fun i => if i = m then zexq t y else f i) else none) = exF b S zs (fun _ => 0) := by
        rw [← hE]; conv => rhs; unfold exF
        rw [gy, ← ht]
      have tb : t.natAbs < WB ^ (K + (S - (m + 1)) * (K' + 1)) := by rw [ht]; exact zat_b hD.b _
      have cA := con_pat (a.map z2v) (m + (b.map z2v).length - 1) (by omega)
      rw [patq_map, m2, ← ht] at cA
      rw [show m + b.length - 1 = m + (b.map z2v).length - 1 by rw [m2]] at cA
      have qt : ZQ (z2v t) t (K + (S - (m + 1)) * (K' + 1)) := ZQ.made tb
      have cE := (con_zExact (h := qt.zi) (h' := qy.zi)).h (by omega)
      show WP _ _ _ (mkSt [(0, .r (rowR 2 z2C (a.map z2v))), (1, .r (rowR 2 z2C (b.map z2v))), (4, .v (.slice none 0 0)), (5, .v (.bool false)), (6, .own 100), (7, .v (.int .i64 (((m + 1 : Nat) : Int) - 1)))] [(100, .row 25 2 S ((tabz S f).flatMap z2C))]) _
      rw [en]
      cases hx : zexok t y with
      | false =>
        rw [hx] at hE' cE
        rw [← hE', if_neg (by decide)] at e3
        dsimp only at e3
        rw [e3]
        refine SX.goL ?_
        refine .ok (RetOK.mk2 ((ResOK.tmp rfl).imp ?_) (ResOK.tmp rfl))
        exact fun E S w v h => AtomI.nil (α := Z2) (enc := z2C) (size := 2) E S w v h
      | true =>
        rw [hx, if_pos rfl] at hE'
        rw [hx] at cE
        generalize hq : zexq t y = x at hE' cE
        have xb : x.natAbs < WB ^ (K + (S - (m + 1)) * (K' + 1)) := by rw [← hq]; exact zexq_bd tb
        have qx : ZQ (z2v x) x (K + (S - (m + 1)) * (K' + 1)) := ZQ.made xb
        have cS := con_pScale (l := b.map z2v) (q := z2v x) (MZ.made hb) qx (by omega) (by omega)
        have sl := pScale_len b x
        have sb := pScale_bd hb xb
        have cH := con_shifted (zs := pScale b x) (n := m) (by omega) (by omega)
        have hl1 := pShift_len (pScale b x) m
        have cD := con_pSub (MZ.made hD.b) (MZ.made (pShift_bd (n := m) sb)) (by omega) (by rw [List.length_map]; omega) (by omega)
        have hst := tabz_set (n := S) (f := f) (g := fun i => if i = m then x else f i) (k := m) (x := x) (fun i => rfl)
        have hln := tabz_len S f
        refine SX.goL ?_
        refine SX.G.storeOWA (a := z2v x) ?_
        rw [hst]
        refine SX.goL ?_
        refine W.next3 m (pSub a (pShift (pScale b x) m)) (fun i => if i = m then x else f i) ⟨⟨by omega, pBoth_pN _ _ _, ?_, ?_, ?_⟩, hE'⟩ (by omega)
        · have := pBoth_len (op := (· - ·)) a (pShift (pScale b x) m)
          show (pBoth (· - ·) a (pShift (pScale b x) m)).length ≤ _
          omega
        · intro z hzz
          exact bd_up (pSub_bd1 (K := K + (S - (m + 1)) * (K' + 1) + K') (fun z h => bd_up (hD.b z h) (by omega)) (fun z h => bd_up (pShift_bd sb z h) (by omega)) z hzz) (by omega)
        · intro i
          show (if i = m then x else f i).natAbs < _
          split
          · exact bd_up xb (by omega)
          · exact hD.f i
end Go.Proofs.YtfhpmbenldgfnaaGreatDoor
/- The statement ValueMultiples answers true. -/
set_option linter.unusedVariables false
set_option linter.unusedSimpArgs false
namespace Go.Proofs.YtfhpmbenldgfnaaGreatDoor
open Go.RowKit QM SX LA
attribute [local irreducible] IntKind.wrap Go1 Reg WP thenK inBlk retQ retF RetF RetOK ResOK CallOK OpOK Sat
attribute [local irreducible] qsub qmul qquo qcmp qadd qv redS mf PrP qOk zOk vP fp64 lz vF cq rqv plen pNorm pBoth pScale mulV vW
theorem con_fewT {u v : Vl} (hu : vW 3 u) (hv : vW 3 v) : PureOK Tryz.prog 12 [.agg (vlA u), .agg (vlA v)] (.v (.bool true)) := by
  have c1 := (con_Few29 3 u (by decide)).1 hu
  have c2 := (con_Few29 3 v (by decide)).1 hv
  refine PureOK.fnF Tryz.func12 Tryz.results12 Tryz.ntmps12 rfl rfl rfl (by simp [AV.ids, AV0.ids, Atom.ids]) rfl (fun w0 T B E0 hB => ?_)
  refine SX.goJ ?_
  exact retB rfl
theorem con_fewF {u v : Vl} (h : ¬ (vW 3 u ∧ vW 3 v)) : PureOK Tryz.prog 12 [.agg (vlA u), .agg (vlA v)] (.v (.bool false)) := by
  by_cases hu : vW 3 u
  · have c1 := (con_Few29 3 u (by decide)).1 hu
    have c2 := (con_Few29 3 v (by decide)).2 fun hv => h ⟨hu, hv⟩
    refine PureOK.fnF Tryz.func12 Tryz.results12 Tryz.ntmps12 rfl rfl rfl (by simp [AV.ids, AV0.ids, Atom.ids]) rfl (fun w0 T B E0 hB => ?_)
    refine SX.goJ ?_
    exact retB rfl
  · have c1 := (con_Few29 3 u (by decide)).2 hu
    refine PureOK.fnF Tryz.func12 Tryz.results12 Tryz.ntmps12 rfl rfl rfl (by simp [AV.ids, AV0.ids, Atom.ids]) rfl (fun w0 T B E0 hB => ?_)
    refine SX.goJ ?_
    exact retB rfl
section
variable (n : Int) {k : Nat} (hn : n.tmod 7 = (k : Int)) (hk : k ≤ 6) {v : Vl}
include hn hk
end
end Go.Proofs.YtfhpmbenldgfnaaGreatDoor
/- The statement ValueQuotients answers true. -/
set_option linter.unusedVariables false
set_option linter.unusedSimpArgs false
set_option linter.unusedSectionVars false
namespace Go.Proofs.YtfhpmbenldgfnaaGreatDoor
open Go.RowKit QM SX LA
theorem exF_bd {S K K' : Nat} {b : List Int} (hb : ∀ z ∈ b, z.natAbs < WB ^ K') : ∀ (n : Nat) (a : List Int) (f f' : Nat → Int) (a' : List Int), n ≤ S → (∀ z ∈ a, z.natAbs < WB ^ (K + (S - n) * (K' + 1))) → (∀ i, (f i).natAbs < WB ^ (K + S * (K' + 1))) → exF b n a f = some (f', a') → ∀ i, (f' i).natAbs < WB ^ (K + S * (K' + 1))
  | 0, a, f, f', a', _, _, hf, h => by
    unfold exF at h
    injection h with h; injection h with h1 h2
    rw [← h1]; exact hf
  | m + 1, a, f, f', a', hn, ha, hf, h => by
    unfold exF at h
    split at h
    · have hKm2 : (S - m) * (K' + 1) = (S - (m + 1)) * (K' + 1) + (K' + 1) := by rw [show S - m = S - (m + 1) + 1 by omega, Nat.add_mul, Nat.one_mul]
      have hKm : (S - (m + 1)) * (K' + 1) ≤ S * (K' + 1) := Nat.mul_le_mul_right _ (by omega)
      have xb := zexq_bd (x := a.getD (m + b.length - 1) 0) (y := b.getD (b.length - 1) 0) (zat_b ha _)
      generalize zexq (a.getD (m + b.length - 1) 0) (b.getD (b.length - 1) 0) = x at h xb
      refine exF_bd hb m _ _ f' a' (by omega) (fun z hzz => ?_) (fun i => ?_) h
      · exact bd_up (pSub_bd1 (K := K + (S - (m + 1)) * (K' + 1) + K') (fun z h => bd_up (ha z h) (by omega)) (fun z h => bd_up (pShift_bd (pScale_bd hb xb) z h) (by omega)) z hzz) (by omega)
      · show (if i = m then x else f i).natAbs < _
        split
        · exact bd_up xb (by omega)
        · exact hf i
    · cases h
theorem exR_bd {zs b q : List Int} {K K' : Nat} (hz : ∀ z ∈ zs, z.natAbs < WB ^ K) (hb : ∀ z ∈ b, z.natAbs < WB ^ K') (h : exR zs b = some q) : ∀ z ∈ q, z.natAbs < WB ^ (K + (zs.length + 1) * (K' + 1)) := by
  unfold exR at h
  split at h
  · cases h
  · split at h
    · cases h
    · next f a he =>
      split at h
      · injection h with h
        subst h
        intro z hzz
        have h1 := exF_bd (S := zs.length + 1 - b.length) (K := K) hb _ zs (fun _ => 0) f a (Nat.le_refl _) (fun z h => bd_up (hz z h) (by omega)) (fun _ => Nat.pow_pos WB_pos) he
        have h2 := pNorm_mem z hzz
        unfold tabP at h2
        obtain ⟨i, _, rfl⟩ := List.mem_map.1 h2
        exact bd_up (h1 i) (by have := Nat.mul_le_mul_right (K' + 1) (show zs.length + 1 - b.length ≤ zs.length + 1 by omega); omega)
      · cases h
theorem mScale_back {r c : Nat} {vs : List Rat} {y : Rat} (hl : vs.length = r * c) (hy : y ≠ 0) : mScale r c (mScale r c vs (1 / y)) y = vs := by
  unfold mScale
  refine (tabR_ext (v := vat vs c) fun i hi k hk => ?_).trans (tab_vat hl)
  rw [vat_tab hi hk, Rat.mul_assoc, Rat.div_def, Rat.one_mul, Rat.inv_mul_cancel _ hy, Rat.mul_one]
attribute [local irreducible] IntKind.wrap Go1 Reg WP thenK inBlk retQ retF RetF RetOK ResOK CallOK OpOK Sat
attribute [local irreducible] qsub qmul qquo qcmp qadd qv redS mf PrP qOk zOk vP fp64 lz vF cq rqv plen pNorm pBoth pScale mulV cvR cvP pMul pShift zexq zexok exF vW sameV
theorem con_prod3 {a b : List Int} {K L : Nat} (h : ∀ z ∈ a, z.natAbs < WB ^ K) (h' : ∀ z ∈ b, z.natAbs < WB ^ L) (hn : pN a) (hn' : pN b) (hl : a.length ≤ 4000) (hl' : b.length ≤ 4000) (hK : K + L ≤ 90000) :
    PureOK Tryz.prog 104 [.agg (vlA (vPol a)), .agg (vlA (vPol b))] (.tup [.agg (vlA (vPol (pMul a b))), eNo 0]) := by
  have c1 := con_pMul (MZ.ofz h) (MZ.ofz h') hn hn' (by rw [mz_len]; omega) (by rw [mz_len]; omega) (by rw [mz_len]; omega) h h'
  refine PureOK.fnF Tryz.func104 Tryz.results104 Tryz.ntmps104 rfl rfl rfl (by simp [AV.ids, AV0.ids, Atom.ids]) rfl (fun w0 T B E0 hB => ?_)
  refine SX.goL ?_
  refine .ok (RetOK.mk2 ((ResOK.agg15 rfl rfl rfl).imp ?_) (ResOK.tmp rfl))
  exact imp_pol
theorem con_quo1 {x y : Rat} {K L : Nat} (hx : RB x K) (hy : RB y L) (hK : K + L ≤ 100000) (h0 : y ≠ 0) : PureOK Tryz.prog 45 [.agg (vlA (vNum x)), .agg (vlA (vNum y))] (.tup [.agg (vlA (vNum (x / y))), eNo 0]) := by
  haveI := Ra.cq hx
  haveI := Ra.cq hy
  have c := (con_qQuo (l := q4A (rq (cq x))) (l' := q4A (rq (cq y))) (K := K) (K' := L)).h (by omega)
  rw [decide_eq_true h0] at c
  have cN := con_numT (x / y) 3
  refine PureOK.fnF Tryz.func45 Tryz.results45 Tryz.ntmps45 rfl rfl rfl (by simp [AV.ids, AV0.ids, Atom.ids]) rfl (fun w0 T B E0 hB => ?_)
  refine SX.goL ?_
  refine .ok (RetOK.mk2 (ResOK.agg15 rfl rfl rfl) (ResOK.tmp rfl))
theorem con_quo10 {x : Rat} {K : Nat} (hx : RB x K) (hK : K ≤ 100000) : PureOK Tryz.prog 45 [.agg (vlA (vNum x)), .agg (vlA (vNum 0))] (.tup [.agg (vlA v0), eNo 3]) := by
  haveI := Ra.cq hx
  haveI := Ra.cq (RB.zero (Nat.le_refl 1))
  have c := (con_qQuo (l := q4A (rq (cq x))) (l' := q4A (rq (cq 0))) (K := K) (K' := 1)).h (by omega)
  rw [decide_eq_false (fun h => h rfl)] at c
  have cN := con_numF (x / 0) 3
  refine PureOK.fnF Tryz.func45 Tryz.results45 Tryz.ntmps45 rfl rfl rfl (by simp [AV.ids, AV0.ids, Atom.ids]) rfl (fun w0 T B E0 hB => ?_)
  refine SX.goL ?_
  refine .ok (RetOK.mk2 ((ResOK.agg15 rfl rfl rfl).imp ?_) (ResOK.tmp rfl))
  exact AV0.imp.refl _
theorem con_quo2 {r c : Nat} {vs : List Rat} {y : Rat} {K L : Nat} (h : ∀ v ∈ vs, RB v K) (hy : RB y L) (hl : vs.length = r * c) (hr : r ≤ 64) (hc : c ≤ 64) (h1 : 1 ≤ K) (hK : K + L ≤ 90000) (h0 : y ≠ 0) : PureOK Tryz.prog 45 [.agg (vlA (vMat r c vs)), .agg (vlA (vNum y))] (.tup [.agg (vlA (vMat r c (mScale r c vs (1 / y)))), eNo 0]) := by
  haveI := Ra.cq hy
  haveI : Ra (qA 1) 1 1 := (RB.one (Nat.le_refl 1)).ra
  have o1 := of_1
  have o2 := rof_1
  have cq' := (con_qQuo (l := qA 1) (l' := q4A (rq (cq y))) (K := 1) (K' := L)).h (by omega)
  rw [decide_eq_true h0] at cq'
  have c1 := con_qmScale (d := q4v (1 / y)) (v := 1 / y) (K' := 1 + L) (MV.cq h) (by rw [mq_len]; exact hl) ((RB.one (Nat.le_refl 1)).div hy h0).ra hr hc h1 (by omega) (by omega)
  rw [matA_matQ] at c1
  have c2 := con_matT r c (mScale r c vs (1 / y))
  refine PureOK.fnF Tryz.func45 Tryz.results45 Tryz.ntmps45 rfl rfl rfl (by simp [AV.ids, AV0.ids, Atom.ids]) rfl (fun w0 T B E0 hB => ?_)
  refine SX.goL ?_
  refine .ok (RetOK.mk2 (ResOK.agg15 rfl rfl rfl) (ResOK.tmp rfl))
theorem con_quo20 {r c : Nat} {vs : List Rat} : PureOK Tryz.prog 45 [.agg (vlA (vMat r c vs)), .agg (vlA (vNum 0))] (.tup [.agg (vlA v0), eNo 3]) := by
  haveI := Ra.cq (RB.zero (Nat.le_refl 1))
  haveI : Ra (qA 1) 1 1 := (RB.one (Nat.le_refl 1)).ra
  have o1 := of_1
  have o2 := rof_1
  have cq' := (con_qQuo (l := qA 1) (l' := q4A (rq (cq 0))) (K := 1) (K' := 1)).h (by omega)
  rw [decide_eq_false (fun h => h rfl)] at cq'
  refine PureOK.fnF Tryz.func45 Tryz.results45 Tryz.ntmps45 rfl rfl rfl (by simp [AV.ids, AV0.ids, Atom.ids]) rfl (fun w0 T B E0 hB => ?_)
  refine SX.goL ?_
  refine .ok (RetOK.mk2 ((ResOK.agg15 rfl rfl rfl).imp ?_) (ResOK.tmp rfl))
  exact imp_none
section
variable {a b : List Int} {K L : Nat} (h : ∀ z ∈ a, z.natAbs < WB ^ K) (h' : ∀ z ∈ b, z.natAbs < WB ^ L) (hn : pN a) (hn' : pN b) (hl : a.length ≤ 4000) (hl' : b.length ≤ 4000) (hK : K + (a.length + 1) * (L + 1) ≤ 30000) (hL : L ≤ 30000)
include h h' hn hn' hl hl' hK hL
theorem con_quo3x : PureOK Tryz.prog 20 [.r (rowR 2 z2C (mz a)), .r (rowR 2 z2C (mz b))] (.tup [.one (.c (.sat (rowR 2 z2C (((exR a b).getD []).map z2v)))), .one (.c (.val (.bool (exR a b).isSome)))]) :=
  con_pExact (MZ.ofz h) (MZ.ofz h') hn hn' (by rw [mz_len]; exact hl) (by rw [mz_len]; exact hl') h h' hK hL
theorem con_quo3 {q : List Int} (e : exR a b = some q) : PureOK Tryz.prog 45 [.agg (vlA (vPol a)), .agg (vlA (vPol b))] (.tup [.agg (vlA (vPol q)), eNo 0]) := by
  have c := con_quo3x h h' hn hn' hl hl' hK hL
  rw [e] at c
  refine PureOK.fnF Tryz.func45 Tryz.results45 Tryz.ntmps45 rfl rfl rfl (by simp [AV.ids, AV0.ids, Atom.ids]) rfl (fun w0 T B E0 hB => ?_)
  refine SX.goL ?_
  refine .ok (RetOK.mk2 ((ResOK.agg15 rfl rfl rfl).imp ?_) (ResOK.tmp rfl))
  exact imp_pol
theorem con_quo30 (e : exR a b = none) : PureOK Tryz.prog 45 [.agg (vlA (vPol a)), .agg (vlA (vPol b))] (.tup [.agg (vlA v0), eNo 3]) := by
  have c := con_quo3x h h' hn hn' hl hl' hK hL
  rw [e] at c
  refine PureOK.fnF Tryz.func45 Tryz.results45 Tryz.ntmps45 rfl rfl rfl (by simp [AV.ids, AV0.ids, Atom.ids]) rfl (fun w0 T B E0 hB => ?_)
  refine SX.goL ?_
  refine .ok (RetOK.mk2 ((ResOK.agg15 rfl rfl rfl).imp ?_) (ResOK.tmp rfl))
  exact imp_none
end
def quoT (u v : Vl) : Prop := v.k = 1 ∧ (u.k = 1 ∨ u.k = 2) ∨ u.k = 3 ∧ v.k = 3
theorem con_quoE {u v : Vl} (h : ¬ quoT u v) : PureOK Tryz.prog 45 [.agg (vlA u), .agg (vlA v)] (.tup [.agg (vlA v0), eNo 5]) := by
  unfold quoT at h
  refine PureOK.fnF Tryz.func45 Tryz.results45 Tryz.ntmps45 rfl rfl rfl (by simp [AV.ids, AV0.ids, Atom.ids]) rfl (fun w0 T B E0 hB => ?_)
  by_cases h1 : u.k = 1
  · have h2 : v.k ≠ 1 := by omega
    refine SX.goL ?_
    refine .ok (RetOK.mk2 ((ResOK.agg15 rfl rfl rfl).imp ?_) (ResOK.tmp rfl))
    exact imp_none
  by_cases h3 : u.k = 2
  · have h2 : v.k ≠ 1 := by omega
    refine SX.goL ?_
    refine .ok (RetOK.mk2 ((ResOK.agg15 rfl rfl rfl).imp ?_) (ResOK.tmp rfl))
    exact imp_none
  by_cases h4 : u.k = 3
  · have h2 : v.k ≠ 3 := by omega
    refine SX.goL ?_
    refine .ok (RetOK.mk2 ((ResOK.agg15 rfl rfl rfl).imp ?_) (ResOK.tmp rfl))
    exact imp_none
  refine SX.goL ?_
  refine .ok (RetOK.mk2 ((ResOK.agg15 rfl rfl rfl).imp ?_) (ResOK.tmp rfl))
  exact imp_none
section
variable {u v q : Vl} (hf : PureOK Tryz.prog 12 [.agg (vlA u), .agg (vlA v)] (.v (.bool true)))
include hf
set_option maxRecDepth 20000 in
set_option maxHeartbeats 4000000 in
theorem Quo_bad {b c : Bool} (h : b = false ∨ c = false)
    (hF : PureOK Tryz.prog 28 [.agg (vlA u)] (.v (.bool b))) (hF' : PureOK Tryz.prog 28 [.agg (vlA v)] (.v (.bool c)))
    (hi : PureOK Tryz.prog 14 [.agg (vlA u)] (.v (.bool b))) (hi' : PureOK Tryz.prog 14 [.agg (vlA v)] (.v (.bool c))) :
    PureOK Tryz.prog 4 [.agg (vlA u), .agg (vlA v)] (.v (.bool true)) := by
  have cW := con_awake29
  have c0 := con_none0
  have hb : PureOK Tryz.prog 13 [.v (.int .i64 7), .agg (vlA u), .agg (vlA v)] (.tup [.agg (vlA v0), eNo 1]) := by
    cases b with
    | false => exact con_BinF1 7 hF
    | true => cases c with
      | false => exact con_BinF2 7 hF hF'
      | true => rcases h with h | h <;> cases h
  clear hF hF'
  refine PureOK.fnF Tryz.func4 Tryz.results4 Tryz.ntmps4 rfl rfl rfl (by simp [AV.ids, AV0.ids, Atom.ids]) rfl (fun w0 T B E0 hB => ?_)
  cases b with
  | false =>
    refine SX.goL ?_
    exact retB rfl
  | true => cases c with
    | false =>
      refine SX.goL ?_
      exact retB rfl
    | true => rcases h with h | h <;> cases h
variable (hi : PureOK Tryz.prog 14 [.agg (vlA u)] (.v (.bool true))) (hi' : PureOK Tryz.prog 14 [.agg (vlA v)] (.v (.bool true)))
include hi hi'
set_option maxRecDepth 20000 in
set_option maxHeartbeats 4000000 in
theorem Quo_ty (hb : PureOK Tryz.prog 13 [.v (.int .i64 7), .agg (vlA u), .agg (vlA v)] (.tup [.agg (vlA v0), eNo 5])) (h : ¬ quoT u v) : PureOK Tryz.prog 4 [.agg (vlA u), .agg (vlA v)] (.v (.bool true)) := by
  have cW := con_awake29
  have c0 := con_none0
  unfold quoT at h
  refine PureOK.fnF Tryz.func4 Tryz.results4 Tryz.ntmps4 rfl rfl rfl (by simp [AV.ids, AV0.ids, Atom.ids]) rfl (fun w0 T B E0 hB => ?_)
  by_cases h1 : v.k = 1
  · have h2 : u.k ≠ 1 ∧ u.k ≠ 2 := by omega
    by_cases h3 : u.k = 3
    · refine SX.goL ?_
      exact retB rfl
    · refine SX.goL ?_
      exact retB rfl
  · by_cases h3 : u.k = 3
    · have h4 : v.k ≠ 3 := by omega
      refine SX.goL ?_
      exact retB rfl
    · refine SX.goL ?_
      exact retB rfl
set_option maxRecDepth 20000 in
set_option maxHeartbeats 4000000 in
theorem Quo_num (hb : PureOK Tryz.prog 13 [.v (.int .i64 7), .agg (vlA u), .agg (vlA v)] (.tup [.agg (vlA q), eNo 0])) (hm : PureOK Tryz.prog 13 [.v (.int .i64 6), .agg (vlA q), .agg (vlA v)] (.tup [.agg (vlA u), eNo 0])) (h1 : v.k = 1) (h2 : u.k = 1 ∨ u.k = 2) {z : Int} (hz : z ≠ 0) (hs : PureOK Tryz.prog 21 [.agg (q4A (rq v.q))] (.v (.int .i64 z)))
    (hq : PureOK Tryz.prog 14 [.agg (vlA q)] (.v (.bool true))) (hS : PureOK Tryz.prog 17 [.agg (vlA u), .agg (vlA u)] (.v (.bool true))) : PureOK Tryz.prog 4 [.agg (vlA u), .agg (vlA v)] (.v (.bool true)) := by
  have cW := con_awake29
  have h3 : u.k ≠ 3 := by omega
  refine PureOK.fnF Tryz.func4 Tryz.results4 Tryz.ntmps4 rfl rfl rfl (by simp [AV.ids, AV0.ids, Atom.ids]) rfl (fun w0 T B E0 hB => ?_)
  by_cases h4 : u.k = 1
  · refine SX.goL ?_
    exact retB rfl
  · have h5 : u.k = 2 := by omega
    refine SX.goL ?_
    exact retB rfl
set_option maxRecDepth 20000 in
set_option maxHeartbeats 4000000 in
theorem Quo_num0 (hb : PureOK Tryz.prog 13 [.v (.int .i64 7), .agg (vlA u), .agg (vlA v)] (.tup [.agg (vlA v0), eNo 3])) (h1 : v.k = 1) (h2 : u.k = 1 ∨ u.k = 2) (hs : PureOK Tryz.prog 21 [.agg (q4A (rq v.q))] (.v (.int .i64 0))) : PureOK Tryz.prog 4 [.agg (vlA u), .agg (vlA v)] (.v (.bool true)) := by
  have cW := con_awake29
  have c0 := con_none0
  have h3 : u.k ≠ 3 := by omega
  refine PureOK.fnF Tryz.func4 Tryz.results4 Tryz.ntmps4 rfl rfl rfl (by simp [AV.ids, AV0.ids, Atom.ids]) rfl (fun w0 T B E0 hB => ?_)
  by_cases h4 : u.k = 1
  · refine SX.goL ?_
    exact retB rfl
  · have h5 : u.k = 2 := by omega
    refine SX.goL ?_
    exact retB rfl
set_option maxRecDepth 20000 in
set_option maxHeartbeats 4000000 in
theorem Quo_pol {r : AV0} (hb : PureOK Tryz.prog 13 [.v (.int .i64 7), .agg (vlA u), .agg (vlA v)] (.tup [.agg (vlA q), eNo 0])) (hm : PureOK Tryz.prog 13 [.v (.int .i64 6), .agg (vlA q), .agg (vlA v)] (.tup [.agg (vlA u), eNo 0])) (h1 : v.k = 3) (h2 : u.k = 3) {x : Rep} (hx : PureOK Tryz.prog 20 [.r (rowR 2 z2C (u.po.map rz)), .r (rowR 2 z2C (v.po.map rz))] (.tup [.one (.c (.sat x)), .one (.c (.val (.bool true)))]))
    (hq : PureOK Tryz.prog 14 [.agg (vlA q)] (.v (.bool true))) (hS : PureOK Tryz.prog 17 [.agg (vlA u), .agg (vlA u)] (.v (.bool true))) : PureOK Tryz.prog 4 [.agg (vlA u), .agg (vlA v)] (.v (.bool true)) := by
  have cW := con_awake29
  refine PureOK.fnF Tryz.func4 Tryz.results4 Tryz.ntmps4 rfl rfl rfl (by simp [AV.ids, AV0.ids, Atom.ids]) rfl (fun w0 T B E0 hB => ?_)
  refine SX.goL ?_
  exact retB rfl
set_option maxRecDepth 20000 in
set_option maxHeartbeats 4000000 in
theorem Quo_pol0 (hb : PureOK Tryz.prog 13 [.v (.int .i64 7), .agg (vlA u), .agg (vlA v)] (.tup [.agg (vlA v0), eNo 3])) (h1 : v.k = 3) (h2 : u.k = 3) {x : Rep} (hx : PureOK Tryz.prog 20 [.r (rowR 2 z2C (u.po.map rz)), .r (rowR 2 z2C (v.po.map rz))] (.tup [.one (.c (.sat x)), .one (.c (.val (.bool false)))])) : PureOK Tryz.prog 4 [.agg (vlA u), .agg (vlA v)] (.v (.bool true)) := by
  have cW := con_awake29
  have c0 := con_none0
  refine PureOK.fnF Tryz.func4 Tryz.results4 Tryz.ntmps4 rfl rfl rfl (by simp [AV.ids, AV0.ids, Atom.ids]) rfl (fun w0 T B E0 hB => ?_)
  refine SX.goL ?_
  exact retB rfl
end
end Go.Proofs.YtfhpmbenldgfnaaGreatDoor
/- The statement ValueQuotients answers true: the cases together. -/
set_option linter.unusedVariables false
set_option linter.unusedSimpArgs false
namespace Go.Proofs.YtfhpmbenldgfnaaGreatDoor
open Go.RowKit QM SX LA
attribute [local irreducible] IntKind.wrap Go1 Reg WP thenK inBlk retQ retF RetF RetOK ResOK CallOK OpOK Sat
attribute [local irreducible] qsub qmul qquo qcmp qadd qv redS mf PrP qOk zOk vP fp64 lz vF cq rqv plen pNorm pBoth pScale mulV cvR cvP pMul pShift zexq zexok exF vW sameV
theorem isT {K n : Nat} {v : Vl} (h : Cv K n v) (hK : K ≤ 50000) (hn : n ≤ 15) : PureOK Tryz.prog 14 [.agg (vlA v)] (.v (.bool true)) := h.is (by omega) hn
theorem sameU {K n : Nat} {v : Vl} (h : Cv K n v) (hK : K ≤ 50000) (hn : n ≤ 15) : PureOK Tryz.prog 17 [.agg (vlA v), .agg (vlA v)] (.v (.bool true)) := by
  have c := con_Same h h (by omega) hn hn
  rwa [sameV_self] at c
theorem Cv.kind1 {K n : Nat} {v : Vl} (h : Cv K n v) (hk : v.k = 1) : ∃ x, v = vNum x ∧ RB x K := by
  cases h with
  | one h => cases h with
    | num x h => exact ⟨x, rfl, h⟩
    | _ => exact absurd hk (by simp)
  | lst l hl h => exact absurd hk (by simp)
theorem vW_pol {d : Nat} {zs : List Int} (h : vW d (vPol zs)) : zs.length ≤ 5 := by
  have := h.one.1.1
  simpa using this
theorem ValueQuotients_ok (u : Vl) (hu : rW u) (v : Vl) (hv : rW v) : PureOK Tryz.prog 4 [.agg (vlA u), .agg (vlA v)] (.v (.bool true)) := by
  by_cases hw : vW 3 u ∧ vW 3 v
  · have hf := con_fewT hw.1 hw.2
    have z1 := vZ.few hw.1 hu
    have z2 := vZ.few hw.2 hv
    have F1 := con_vFormed z1
    have F2 := con_vFormed z2
    have i1 := con_is z1
    have i2 := con_is z2
    by_cases h : vF 20 u = true ∧ vF 20 v = true
    · have C1 := Cv.of hw.1 hu h.1
      have C2 := Cv.of hw.2 hv h.2
      have G1 := C1.F (by decide) (by decide)
      have G2 := C2.F (by decide) (by decide)
      rw [h.1] at i1
      rw [h.2] at i2
      by_cases ht : quoT u v
      · rcases ht with ⟨hk, hk2⟩ | ⟨hk, hk2⟩
        · obtain ⟨y, rfl, hy⟩ := C2.kind1 hk
          haveI := Ra.cq hy
          obtain ⟨z, cS, hz, _⟩ := eSign (q4A (rq (cq y))) (K := 2) (by decide)
          by_cases h0 : y = 0
          · have hz0 : z = 0 := hz.2 h0
            subst hz0
            have hk3 := hk2
            rcases hk2 with hk2 | hk2
            · obtain ⟨x, rfl, hx⟩ := C1.kind1 hk2
              subst h0
              exact Quo_num0 hf i1 i2 (con_Bin7 G1 G2 (con_quo10 hx (by decide))) hk hk3 cS
            · subst h0
              cases C1 with
              | one hc => cases hc with
                | mat r c vs hl hr hc hb => exact Quo_num0 hf i1 i2 (con_Bin7 G1 G2 con_quo20) hk hk3 cS
                | _ => exact absurd hk2 (by simp)
              | lst l hl h => exact absurd hk2 (by simp)
          · have hz0 : z ≠ 0 := fun e => h0 (hz.1 e)
            have hk3 := hk2
            rcases hk2 with hk2 | hk2
            · obtain ⟨x, rfl, hx⟩ := C1.kind1 hk2
              have hq : Cv 4 0 (vNum (x / y)) := .one (.num _ (hx.div hy h0))
              have hm := con_prod1 (hx.div hy h0) hy (by decide)
              rw [Rat.div_mul_cancel h0] at hm
              exact Quo_num hf i1 i2 (con_Bin7 G1 G2 (con_quo1 hx hy (by decide) h0)) (con_Bin6 (hq.F (by decide) (by decide)) G2 (con_times0 rfl hm)) hk hk3 hz0 cS (isT hq (by decide) (by decide)) (sameU C1 (by decide) (by decide))
            · cases C1 with
              | one hc => cases hc with
                | mat r c vs hl hr hc hb =>
                  have hb2 := mScale_RB hb ((RB.one (Nat.le_refl 1)).div hy h0) (by decide) (r := r) (c := c)
                  have hq : Cv 5 0 (vMat r c (mScale r c vs (1 / y))) := .one (.mat _ _ _ (mScale_len r c vs _) hr hc hb2)
                  have hm := con_mul2 hy hb2 (mScale_len r c vs _) hr hc (by decide) (by decide) (by decide)
                  rw [mScale_back hl h0] at hm
                  exact Quo_num hf i1 i2 (con_Bin7 G1 G2 (con_quo2 hb hy hl hr hc (by decide) (by decide) h0)) (con_Bin6 (hq.F (by decide) (by decide)) G2 (con_times2 rfl (by simp) hm)) hk hk3 hz0 cS (isT hq (by decide) (by decide)) (sameU (Cv.one (n := 0) (.mat r c vs hl hr hc hb)) (by decide) (by decide))
                | _ => exact absurd hk2 (by simp)
              | lst l hl h => exact absurd hk2 (by simp)
        · cases C1 with
          | one hc => cases hc with
            | pol a hl hn ha => cases C2 with
              | one hc => cases hc with
                | pol b hl' hn' hb =>
                  have l1 := vW_pol hw.1
                  have l2 := vW_pol hw.2
                  have hK : 2 + (a.length + 1) * (2 + 1) ≤ 30000 := by omega
                  have cx := con_quo3x ha hb hn hn' (by omega) (by omega) hK (by decide)
                  cases he : exR a b with
                  | none =>
                    rw [he] at cx
                    exact Quo_pol0 hf i1 i2 (con_Bin7 G1 G2 (con_quo30 ha hb hn hn' (by omega) (by omega) hK (by decide) he)) rfl rfl cx
                  | some q =>
                    rw [he] at cx
                    obtain ⟨s1, s2, s3⟩ := exR_sound hn he
                    have qb : ∀ z ∈ q, z.natAbs < WB ^ 20 := fun z hz => bd_up (exR_bd ha hb he z hz) (by omega)
                    have hq : Cv 20 0 (vPol q) := .one (.pol q (by omega) s1 qb)
                    have hm := con_prod3 qb hb s1 hn' (by omega) (by omega) (by decide)
                    rw [s2] at hm
                    exact Quo_pol (r := eNo 0) hf i1 i2 (con_Bin7 G1 G2 (con_quo3 ha hb hn hn' (by omega) (by omega) hK (by decide) he)) (con_Bin6 (hq.F (by decide) (by decide)) G2 (con_times0 rfl hm)) rfl rfl cx (isT hq (by decide) (by decide)) (sameU (Cv.one (n := 0) (.pol a hl hn ha)) (by decide) (by decide))
                | _ => exact absurd hk2 (by simp)
              | lst l hl h => exact absurd hk2 (by simp)
            | _ => exact absurd hk (by simp)
          | lst l hl h => exact absurd hk (by simp)
      · exact Quo_ty hf i1 i2 (con_Bin7 G1 G2 (con_quoE ht)) ht
    · refine Quo_bad hf ?_ F1 F2 i1 i2
      cases h1 : vF 20 u with
      | false => exact .inl rfl
      | true => exact .inr (Bool.eq_false_iff.2 fun h2 => h ⟨h1, h2⟩)
  · have cW := con_awake29
    have hf := con_fewF hw
    refine PureOK.fnF Tryz.func4 Tryz.results4 Tryz.ntmps4 rfl rfl rfl (by simp [AV.ids, AV0.ids, Atom.ids]) rfl (fun w0 T B E0 hB => ?_)
    refine SX.goL ?_
    exact retB rfl
end Go.Proofs.YtfhpmbenldgfnaaGreatDoor

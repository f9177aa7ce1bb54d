import Derived.Test.YtfhpmbenldgfnaaGreatDoorM4
/- Sameness of values. -/
set_option linter.unusedVariables false
set_option linter.unusedSimpArgs false
namespace Go.Proofs.YtfhpmbenldgfnaaGreatDoor
open Go.RowKit QM SX LA
/-- A polynomial over a field that ends where it should. -/
def wN (l : List Nat) : Prop := l.length = 0 ∨ l.getD (l.length - 1) 0 ≠ 0
/-- Formed values that are no lists, of numbers of so many words. -/
inductive Sh (K : Nat) : Vl → Prop
  | num (x : Rat) (h : RB x K) : Sh K (vNum x)
  | mat (r c : Nat) (vs : List Rat) (hl : vs.length = r * c) (hr : r ≤ 64) (hc : c ≤ 64) (h : ∀ v ∈ vs, RB v K) : Sh K (vMat r c vs)
  | pol (zs : List Int) (hl : zs.length ≤ 10000) (hn : pN zs) (h : ∀ z ∈ zs, z.natAbs < WB ^ K) : Sh K (vPol zs)
  | fld (p r c : Nat) (l : List Nat) (hp : PrP p) (hl : l.length = r * c) (hr : r ≤ 64) (hc : c ≤ 64) (h : ∀ x ∈ l, x < p) : Sh K (vFld p r c l)
  | rng (p : Nat) (l : List Nat) (hp : PrP p) (hl : l.length ≤ 10000) (hn : wN l) (h : ∀ x ∈ l, x < p) : Sh K (vRng p l)
/-- Formed values, of lists nested so deep. -/
inductive Cv (K : Nat) : Nat → Vl → Prop
  | one {n : Nat} {v : Vl} (h : Sh K v) : Cv K n v
  | lst {n : Nat} (l : List Vl) (hl : l.length ≤ 10000) (h : ∀ x ∈ l, Cv K n x) : Cv K (n + 1) (vLst l)
noncomputable def sameV (u v : Vl) : Bool := @decide (u = v) (Classical.propDecidable _)
theorem sameV_iff {u v : Vl} : sameV u v = true ↔ u = v := by unfold sameV; exact @decide_eq_true_iff _ (Classical.propDecidable _)
theorem sameV_no {u v : Vl} (h : u ≠ v) : sameV u v = false := Bool.eq_false_iff.2 fun e => h (sameV_iff.1 e)
theorem sameV_self (u : Vl) : sameV u u = true := sameV_iff.2 rfl
theorem sameV_of {u v : Vl} {p : Prop} [Decidable p] (h : u = v ↔ p) : sameV u v = decide p := by
  rw [Bool.eq_iff_iff, sameV_iff, decide_eq_true_iff]; exact h
theorem cq_inj {x y : Rat} (h : cq x = cq y) : x = y := by rw [← cq_val x, h, cq_val]
theorem cz_inj {x y : Int} (h : cz x = cz y) : x = y := by rw [← cz_val x, h, cz_val]
theorem map_inj {α β : Type} {f : α → β} (hf : ∀ {x y}, f x = f y → x = y) : ∀ {l l' : List α}, l.map f = l'.map f → l = l'
  | [], [], _ => rfl
  | a :: l, b :: l', h => by
    rw [List.map_cons, List.map_cons] at h
    injection h with h1 h2
    rw [hf h1, map_inj hf h2]
theorem vNum_inj {x y : Rat} : vNum x = vNum y ↔ x = y := ⟨fun h => by injection h with _ h; exact cq_inj h, fun h => by rw [h]⟩
theorem vMat_inj {r c r' c' : Nat} {vs vs' : List Rat} : vMat r c vs = vMat r' c' vs' ↔ r = r' ∧ c = c' ∧ vs = vs' := by
  constructor
  · intro h
    injection h with _ _ h1 h2 h3
    exact ⟨by omega, by omega, map_inj cq_inj h3⟩
  · rintro ⟨rfl, rfl, rfl⟩; rfl
theorem vPol_inj {a b : List Int} : vPol a = vPol b ↔ a = b := ⟨fun h => by injection h with _ _ _ _ _ h; exact map_inj cz_inj h, fun h => by rw [h]⟩
theorem vFld_inj {p r c p' r' c' : Nat} {l l' : List Nat} : vFld p r c l = vFld p' r' c' l' ↔ p = p' ∧ r = r' ∧ c = c' ∧ l = l' := by
  constructor
  · intro h
    injection h with _ _ _ _ _ _ h1 h2 h3 h4
    exact ⟨h1, by omega, by omega, h4⟩
  · rintro ⟨rfl, rfl, rfl, rfl⟩; rfl
theorem vRng_inj {p p' : Nat} {l l' : List Nat} : vRng p l = vRng p' l' ↔ p = p' ∧ l = l' := by
  constructor
  · intro h
    injection h with _ _ _ _ _ _ h1 _ _ _ h2
    exact ⟨h1, h2⟩
  · rintro ⟨rfl, rfl⟩; rfl
theorem vLst_inj {l l' : List Vl} : vLst l = vLst l' ↔ l = l' := ⟨fun h => by injection h, fun h => by rw [h]⟩
theorem MZ.ofz {zs : List Int} {K : Nat} (h : ∀ z ∈ zs, z.natAbs < WB ^ K) : MZ ((zs.map cz).map rz) zs K := by
  have := MZ.raw (l := zs.map cz) (K := K) (fun a ha => by obtain ⟨z, _, rfl⟩ := List.mem_map.1 ha; exact cz_sm z) (fun a ha => by obtain ⟨z, hz, rfl⟩ := List.mem_map.1 ha; exact wds_len (h z hz))
  rwa [cz_vals] at this
attribute [local irreducible] IntKind.wrap Go1 Reg WP thenK inBlk retQ retF RetF RetOK ResOK CallOK OpOK Sat
attribute [local irreducible] qsub qmul qquo qcmp qadd qv redS mf PrP qOk zOk vP fp64 lz vF cq rqv plen pNorm
theorem con_qs1 {x y : Rat} {K L : Nat} (hx : RB x K) (hy : RB y L) (hK : K + L ≤ 400000) : PureOK Tryz.prog 184 [.agg (q4A (rq (cq x))), .agg (q4A (rq (cq y)))] (.v (.bool (decide (rqv (cq x) = rqv (cq y))))) := by
  rw [cq_val, cq_val]
  haveI := Ra.cq hx
  haveI := Ra.cq hy
  obtain ⟨z, cA, hz, _⟩ := eCmp (q4A (rq (cq x))) (q4A (rq (cq y))) (K := K) (K' := L) (by omega)
  rw [← decide_eq_decide.2 hz]
  refine PureOK.fnF Tryz.func184 Tryz.results184 Tryz.ntmps184 rfl rfl rfl (by simp [AV.ids, AV0.ids, Atom.ids]) rfl (fun w0 T B E0 hB => ?_)
  refine SX.goJ ?_
  exact retB rfl
theorem con_qmSameG {r c r' c' : Nat} {vs vs' : List Rat} {K L : Nat} (hv : ∀ v ∈ vs, RB v K) (hv' : ∀ v ∈ vs', RB v L) (hK : K + L ≤ 400000) (hl : vs.length = r * c) (hl' : vs'.length = r' * c') (hr : r ≤ 64) (hc : c ≤ 64) (hr' : r' ≤ 64) (hc' : c' ≤ 64) :
    PureOK Tryz.prog 98 [.agg (matQ r c ((vs.map cq).map rq)), .agg (matQ r' c' ((vs'.map cq).map rq))] (.v (.bool (decide (r = r' ∧ c = c' ∧ vs = vs')))) := by
  have m1 := Nat.mul_le_mul hr hc
  have m2 := Nat.mul_le_mul hr' hc'
  have k1 : (vs.map cq).length = vs.length := List.length_map _
  have k2 : (vs'.map cq).length = vs'.length := List.length_map _
  have cA := con_alike (l := (vs.map cq).map rq) (l' := (vs'.map cq).map rq) (by rw [List.length_map, List.length_map]; exact hl) (by rw [List.length_map, List.length_map]; exact hl') hr hc hr' hc' (decide (r = r' ∧ c = c')) decide_eq_true_iff
  have cE := con_EqffQ (vs.map cq) (vs'.map cq) 184 (fun a b => decide (rqv a = rqv b)) (fun a ha b hb => by
    obtain ⟨x, hx, rfl⟩ := List.mem_map.1 ha
    obtain ⟨y, hy, rfl⟩ := List.mem_map.1 hb
    exact con_qs1 (hv x hx) (hv' y hy) hK) (by omega) (by omega)
  have e : eqL (fun a b => decide (rqv a = rqv b)) (vs.map cq) (vs'.map cq) = decide (vs = vs') := by
    rw [Bool.eq_iff_iff, decide_eq_true_iff, eqL_iff (fun a ha b hb => by
      obtain ⟨x, hx, rfl⟩ := List.mem_map.1 ha
      obtain ⟨y, hy, rfl⟩ := List.mem_map.1 hb
      rw [decide_eq_true_iff, cq_val, cq_val]
      exact ⟨fun h => by rw [h], cq_inj⟩)]
    exact ⟨map_inj cq_inj, fun h => by rw [h]⟩
  rw [e] at cE
  refine PureOK.fnF Tryz.func98 Tryz.results98 Tryz.ntmps98 rfl rfl rfl (by simp [AV.ids, AV0.ids, Atom.ids]) rfl (fun w0 T B E0 hB => ?_)
  by_cases h1 : r = r' ∧ c = c'
  · rw [decide_eq_true h1] at cA
    refine SX.goJ ?_
    refine retB ?_; rw [decide_eq_decide]; exact ⟨fun h => ⟨h1.1, h1.2, h⟩, fun h => h.2.2⟩
  · rw [decide_eq_false h1] at cA
    refine SX.goJ ?_
    refine retB ?_; exact (decide_eq_false fun h => h1 ⟨h.1, h.2.1⟩).symm
theorem con_sameK (u v : Vl) (h : u.k ≠ v.k ∨ u.p ≠ v.p) : PureOK Tryz.prog 42 [.agg (vlA u), .agg (vlA v)] (.v (.bool (sameV u v))) := by
  rw [sameV_no (by rintro rfl; exact h.elim (fun h => h rfl) fun h => h rfl)]
  refine PureOK.fnF Tryz.func42 Tryz.results42 Tryz.ntmps42 rfl rfl rfl (by simp [AV.ids, AV0.ids, Atom.ids]) rfl (fun w0 T B E0 hB => ?_)
  by_cases h1 : u.k = v.k
  · have h2 : ¬ (u.p : Int) = (v.p : Int) := by omega
    refine SX.goJ ?_
    exact retB rfl
  · refine SX.goJ ?_
    exact retB rfl
section
variable {K L : Nat} (hKL : K + L ≤ 100000)
include hKL
theorem con_same2 {r c r' c' : Nat} {vs vs' : List Rat} (hv : ∀ v ∈ vs, RB v K) (hv' : ∀ v ∈ vs', RB v L) (hl : vs.length = r * c) (hl' : vs'.length = r' * c') (hr : r ≤ 64) (hc : c ≤ 64) (hr' : r' ≤ 64) (hc' : c' ≤ 64) :
    PureOK Tryz.prog 42 [.agg (vlA (vMat r c vs)), .agg (vlA (vMat r' c' vs'))] (.v (.bool (sameV (vMat r c vs) (vMat r' c' vs')))) := by
  have c1 := con_qmSameG hv hv' (by omega) hl hl' hr hc hr' hc'
  rw [sameV_of vMat_inj]
  refine PureOK.fnF Tryz.func42 Tryz.results42 Tryz.ntmps42 rfl rfl rfl (by simp [AV.ids, AV0.ids, Atom.ids]) rfl (fun w0 T B E0 hB => ?_)
  refine SX.goJ ?_
  exact retB rfl
theorem con_same3 {a b : List Int} (hl : a.length ≤ 10000) (hn : pN a) (h : ∀ z ∈ a, z.natAbs < WB ^ K) (hl' : b.length ≤ 10000) (hn' : pN b) (h' : ∀ z ∈ b, z.natAbs < WB ^ L) :
    PureOK Tryz.prog 42 [.agg (vlA (vPol a)), .agg (vlA (vPol b))] (.v (.bool (sameV (vPol a) (vPol b)))) := by
  have c1 := con_pSame (MZ.ofz h) (MZ.ofz h') (by rw [List.length_map, List.length_map]; exact hl) (by rw [List.length_map, List.length_map]; exact hl') hKL hn hn'
  rw [sameV_of vPol_inj]
  refine PureOK.fnF Tryz.func42 Tryz.results42 Tryz.ntmps42 rfl rfl rfl (by simp [AV.ids, AV0.ids, Atom.ids]) rfl (fun w0 T B E0 hB => ?_)
  refine SX.goJ ?_
  exact retB rfl
omit hKL in
theorem con_same4 {p r c r' c' : Nat} {l l' : List Nat} (hp : PrP p) (hl : l.length = r * c) (hr : r ≤ 64) (hc : c ≤ 64) (h : ∀ x ∈ l, x < p) (hl' : l'.length = r' * c') (hr' : r' ≤ 64) (hc' : c' ≤ 64) (h' : ∀ x ∈ l', x < p) :
    PureOK Tryz.prog 42 [.agg (vlA (vFld p r c l)), .agg (vlA (vFld p r' c' l'))] (.v (.bool (sameV (vFld p r c l) (vFld p r' c' l')))) := by
  have cf := con_field (vFld p r c l) hp
  have c1 := con_fSame hp hl hl' hr hc hr' hc' h h'
  have e : ((vFld p r c l).p : Int) = ((vFld p r' c' l').p : Int) := rfl
  rw [sameV_of (p := r = r' ∧ c = c' ∧ l = l') (vFld_inj.trans ⟨fun h => h.2, fun h => ⟨rfl, h⟩⟩)]
  refine PureOK.fnF Tryz.func42 Tryz.results42 Tryz.ntmps42 rfl rfl rfl (by simp [AV.ids, AV0.ids, Atom.ids]) rfl (fun w0 T B E0 hB => ?_)
  refine SX.goJ ?_
  exact retB rfl
omit hKL in
theorem con_same5 {p : Nat} {l l' : List Nat} (hl : l.length ≤ 10000) (hl' : l'.length ≤ 10000) :
    PureOK Tryz.prog 42 [.agg (vlA (vRng p l)), .agg (vlA (vRng p l'))] (.v (.bool (sameV (vRng p l) (vRng p l')))) := by
  have c1 := con_EqualW l l' (by omega) (by omega)
  have e : ((vRng p l).p : Int) = ((vRng p l').p : Int) := rfl
  rw [sameV_of (p := l = l') (vRng_inj.trans ⟨fun h => h.2, fun h => ⟨rfl, h⟩⟩)]
  refine PureOK.fnF Tryz.func42 Tryz.results42 Tryz.ntmps42 rfl rfl rfl (by simp [AV.ids, AV0.ids, Atom.ids]) rfl (fun w0 T B E0 hB => ?_)
  refine SX.goJ ?_
  exact retB rfl
omit hKL in
theorem con_same6 {l l' : List Vl} (hl : l.length ≤ 10000) (hl' : l'.length ≤ 10000) (h : ∀ x ∈ l, ∀ y ∈ l', PureOK Tryz.prog 42 [.agg (vlA x), .agg (vlA y)] (.v (.bool (sameV x y)))) :
    PureOK Tryz.prog 42 [.agg (vlA (vLst l)), .agg (vlA (vLst l'))] (.v (.bool (sameV (vLst l) (vLst l')))) := by
  have c1 := con_EqffV l l' 42 sameV h (by omega) (by omega)
  rw [show eqL sameV l l' = sameV (vLst l) (vLst l') by
    rw [Bool.eq_iff_iff, sameV_iff, vLst_inj]
    exact eqL_iff fun a _ b _ => sameV_iff] at c1
  refine PureOK.fnF Tryz.func42 Tryz.results42 Tryz.ntmps42 rfl rfl rfl (by simp [AV.ids, AV0.ids, Atom.ids]) rfl (fun w0 T B E0 hB => ?_)
  refine SX.goJ ?_
  exact retB rfl
theorem con_sameSh {u v : Vl} (hu : Sh K u) (hv : Sh L v) : PureOK Tryz.prog 42 [.agg (vlA u), .agg (vlA v)] (.v (.bool (sameV u v))) := by
  by_cases hk : u.k = v.k ∧ u.p = v.p
  · cases hu with
    | num x h => cases hv with
      | num y h' =>
        rw [sameV_of vNum_inj]; exact con_vsame1 h h' (by omega)
      | _ => exact absurd hk.1 (by simp)
    | mat r c vs hl hr hc h => cases hv with
      | mat r' c' vs' hl' hr' hc' h' => exact con_same2 hKL h h' hl hl' hr hc hr' hc'
      | _ => exact absurd hk.1 (by simp)
    | pol zs hl hn h => cases hv with
      | pol zs' hl' hn' h' => exact con_same3 hKL hl hn h hl' hn' h'
      | _ => exact absurd hk.1 (by simp)
    | fld p r c l hp hl hr hc h => cases hv with
      | fld p' r' c' l' hp' hl' hr' hc' h' =>
        obtain rfl : p = p' := hk.2
        exact con_same4 hp hl hr hc h hl' hr' hc' h'
      | _ => exact absurd hk.1 (by simp)
    | rng p l hp hl hn h => cases hv with
      | rng p' l' hp' hl' hn' h' =>
        obtain rfl : p = p' := hk.2
        exact con_same5 hl hl'
      | _ => exact absurd hk.1 (by simp)
  · exact con_sameK u v (by omega)
theorem con_same : ∀ (n m : Nat) (u v : Vl), Cv K n u → Cv L m v → PureOK Tryz.prog 42 [.agg (vlA u), .agg (vlA v)] (.v (.bool (sameV u v))) := by
  intro n
  induction n with
  | zero =>
    intro m u v hu hv
    cases hu with
    | one hu => cases hv with
      | one hv => exact con_sameSh hKL hu hv
      | lst l hl h => exact con_sameK u _ (by cases hu <;> exact .inl (by simp))
  | succ n ih =>
    intro m u v hu hv
    cases hu with
    | one hu => cases hv with
      | one hv => exact con_sameSh hKL hu hv
      | lst l hl h => exact con_sameK u _ (by cases hu <;> exact .inl (by simp))
    | lst l hl h => cases hv with
      | one hv => exact con_sameK _ v (by cases hv <;> exact .inl (by simp))
      | lst l' hl' h' => exact con_same6 hl hl' fun x hx y hy => ih _ x y (h x hx) (h' y hy)
end
end Go.Proofs.YtfhpmbenldgfnaaGreatDoor
/- Formed values, told by their kinds. -/
set_option linter.unusedVariables false
set_option linter.unusedSimpArgs false
namespace Go.Proofs.YtfhpmbenldgfnaaGreatDoor
open Go.RowKit QM SX LA
theorem zOk_cz (z : Int) : zOk (cz z) = true := (zOk_iff (cz_sm z)).2 (by rw [cz_val])
theorem lz_iff {zs : List Int} : lz (zs.map cz) = true ↔ pN zs := by
  unfold lz pN
  rw [Bool.or_eq_true, decide_eq_true_iff, decide_eq_true_iff, List.length_map]
  by_cases h : zs.length = 0
  · exact ⟨fun _ => .inl h, fun _ => .inl h⟩
  · have e : rzv ((zs.map cz).getD (zs.length - 1) (false, [])) = zs.getD (zs.length - 1) 0 := by
      rw [List.getD_eq_getElem?_getD, List.getD_eq_getElem?_getD, List.getElem?_map, List.getElem?_eq_getElem (show zs.length - 1 < zs.length by omega)]
      exact cz_val _
    rw [e]
theorem lw_iff {l : List Nat} : lw l = true ↔ wN l := by
  unfold lw wN
  rw [Bool.or_eq_true, decide_eq_true_iff, decide_eq_true_iff]
theorem ltp_all {p : Nat} {l : List Nat} : l.all (ltp p) = true ↔ ∀ x ∈ l, x < p := by
  rw [List.all_eq_true]
  exact ⟨fun h x hx => of_decide_eq_true (h x hx), fun h x hx => decide_eq_true (h x hx)⟩
theorem vP_pol (zs : List Int) : vP (vPol zs) = 0 := (vP0 _).2 ⟨.inr ⟨rfl, rfl, rfl, rfl⟩, .inr ⟨rfl, rfl, rfl⟩, .inl rfl, .inr ⟨rfl, rfl, rfl⟩, .inr rfl, .inr (.inr rfl), .inr rfl⟩
theorem vP_fld (p r c : Nat) (l : List Nat) : vP (vFld p r c l) = 0 := (vP0 _).2 ⟨.inr ⟨rfl, rfl, rfl, rfl⟩, .inr ⟨rfl, rfl, rfl⟩, .inr rfl, .inl rfl, .inr rfl, .inl rfl, .inr rfl⟩
theorem vP_rng (p : Nat) (l : List Nat) : vP (vRng p l) = 0 := (vP0 _).2 ⟨.inr ⟨rfl, rfl, rfl, rfl⟩, .inr ⟨rfl, rfl, rfl⟩, .inr rfl, .inr ⟨rfl, rfl, rfl⟩, .inl rfl, .inr (.inl rfl), .inr rfl⟩
theorem vP_lst (l : List Vl) : vP (vLst l) = 0 := (vP0 _).2 ⟨.inr ⟨rfl, rfl, rfl, rfl⟩, .inr ⟨rfl, rfl, rfl⟩, .inr rfl, .inr ⟨rfl, rfl, rfl⟩, .inr rfl, .inr (.inr rfl), .inl rfl⟩
theorem rq0_sz : (Sm WB rq0.2.1 ∧ Sm WB rq0.2.2.2) ∧ rq0.2.1.length ≤ 100000 ∧ rq0.2.2.2.length ≤ 100000 := ⟨⟨Sm.nil, Sm.nil⟩, Nat.zero_le _, Nat.zero_le _⟩
theorem no_mem {α : Type} {p : α → Prop} : ∀ x ∈ ([] : List α), p x := fun x hx => by cases hx
theorem vZ0_pol {zs : List Int} {K : Nat} (h : ∀ z ∈ zs, z.natAbs < WB ^ K) (hK : K ≤ 100000) (hl : zs.length ≤ 100000) : vZ0 (vPol zs) where
  q := rq0_sz
  a := no_mem
  al := Nat.zero_le _
  po := fun x hx => by obtain ⟨z, hz, rfl⟩ := List.mem_map.1 hx; exact ⟨cz_sm z, Nat.le_trans (wds_len (h z hz)) hK⟩
  pol := by rw [List.length_map]; exact hl
  p := WB_pos
  fa := no_mem
  fal := Nat.zero_le _
  ri := no_mem
  ril := Nat.zero_le _
  lil := Nat.zero_le _
theorem PrP.wb {p : Nat} (h : PrP p) : p < WB := by have := h.2.1; rw [WB_eq]; omega
theorem vZ0_fld {p r c : Nat} {l : List Nat} (hp : PrP p) (h : ∀ x ∈ l, x < p) (hl : l.length ≤ 100000) : vZ0 (vFld p r c l) where
  q := rq0_sz
  a := no_mem
  al := Nat.zero_le _
  po := no_mem
  pol := Nat.zero_le _
  p := hp.wb
  fa := fun x hx => Nat.lt_trans (h x hx) hp.wb
  fal := hl
  ri := no_mem
  ril := Nat.zero_le _
  lil := Nat.zero_le _
theorem vZ0_rng {p : Nat} {l : List Nat} (hp : PrP p) (h : ∀ x ∈ l, x < p) (hl : l.length ≤ 100000) : vZ0 (vRng p l) where
  q := rq0_sz
  a := no_mem
  al := Nat.zero_le _
  po := no_mem
  pol := Nat.zero_le _
  p := hp.wb
  fa := no_mem
  fal := Nat.zero_le _
  ri := fun x hx => Nat.lt_trans (h x hx) hp.wb
  ril := hl
  lil := Nat.zero_le _
theorem vZ0_lst {l : List Vl} (hl : l.length ≤ 100000) : vZ0 (vLst l) where
  q := rq0_sz
  a := no_mem
  al := Nat.zero_le _
  po := no_mem
  pol := Nat.zero_le _
  p := WB_pos
  fa := no_mem
  fal := Nat.zero_le _
  ri := no_mem
  ril := Nat.zero_le _
  lil := hl
theorem Sh.z {K : Nat} {v : Vl} (h : Sh K v) (hK : K ≤ 100000) : vZ0 v ∧ v.li = [] := by
  cases h with
  | num x h => exact ⟨vZ0.num h hK, rfl⟩
  | mat r c vs hl hr hc h => exact ⟨vZ0.mat h hK (by have := Nat.mul_le_mul hr hc; omega), rfl⟩
  | pol zs hl hn h => exact ⟨vZ0_pol h hK (by omega), rfl⟩
  | fld p r c l hp hl hr hc h => exact ⟨vZ0_fld hp h (by have := Nat.mul_le_mul hr hc; omega), rfl⟩
  | rng p l hp hl hn h => exact ⟨vZ0_rng hp h (by omega), rfl⟩
theorem Sh.f {K : Nat} {v : Vl} (h : Sh K v) (d : Nat) : vF d v = true := by
  cases h with
  | num x h => exact vF_num d x
  | mat r c vs hl hr hc h => exact vF_mat d hl hr hc
  | pol zs hl hn h =>
    rw [vF_3 (vP_pol zs) rfl]; unfold pOk
    rw [Bool.and_eq_true]
    exact ⟨List.all_eq_true.2 fun x hx => by obtain ⟨z, _, rfl⟩ := List.mem_map.1 hx; exact zOk_cz z, lz_iff.2 hn⟩
  | fld p r c l hp hl hr hc h =>
    rw [vF_4 (vP_fld p r c l) rfl]; unfold fOk
    rw [Bool.and_eq_true, Bool.and_eq_true]
    exact ⟨decide_eq_true hp, ltp_all.2 h, fp64_nat hr hc hl⟩
  | rng p l hp hl hn h =>
    rw [vF_5 (vP_rng p l) rfl]; unfold rOk
    rw [Bool.and_eq_true, Bool.and_eq_true]
    exact ⟨decide_eq_true hp, ltp_all.2 h, lw_iff.2 hn⟩
theorem Sh.zz {K : Nat} {v : Vl} (h : Sh K v) (hK : K ≤ 100000) : ∀ n, vZ n v
  | 0 => h.z hK
  | n + 1 => ⟨(h.z hK).1, by rw [(h.z hK).2]; exact no_mem⟩
theorem Cv.z {K : Nat} (hK : K ≤ 100000) : ∀ {n : Nat} {v : Vl}, Cv K n v → vZ n v := by
  intro n
  induction n with
  | zero =>
    intro v h
    cases h with
    | one h => exact h.zz hK 0
  | succ n ih =>
    intro v h
    cases h with
    | one h => exact h.zz hK _
    | lst l hl h => exact ⟨vZ0_lst (by omega), fun x hx => ih (h x hx)⟩
theorem Cv.f {K : Nat} : ∀ {n : Nat} {v : Vl}, Cv K n v → ∀ d, n < d → vF d v = true := by
  intro n
  induction n with
  | zero =>
    intro v h d hd
    cases h with
    | one h => exact h.f d
  | succ n ih =>
    intro v h d hd
    cases h with
    | one h => exact h.f d
    | lst l hl h =>
      obtain ⟨e, rfl⟩ : ∃ e, d = e + 1 := ⟨d - 1, by omega⟩
      rw [vF_6 (vP_lst l) rfl]
      exact List.all_eq_true.2 fun x hx => ih (h x hx) e (by omega)
/-- What is small and formed is one of these. -/
theorem map_back {α β : Type} {f : α → β} {g : β → α} : ∀ (l : List β), (∀ x ∈ l, x = f (g x)) → l = (l.map g).map f
  | [], _ => rfl
  | x :: l, h => by rw [List.map_cons, List.map_cons, ← h x (List.mem_cons_self ..), ← map_back l fun y hy => h y (List.mem_cons_of_mem _ hy)]
theorem rqv_b {q : RawQ} (hs : Sm WB q.2.1 ∧ Sm WB q.2.2.2) (h : q.2.1.length ≤ 2 ∧ q.2.2.2.length ≤ 2) : RB (rqv q) 2 := Ra.rb (Ra.rawq hs h) (by decide)
theorem nilL {α : Type} {l : List α} (h : l.length = 0) : l = [] := List.eq_nil_of_length_eq_zero h
theorem small_key {d e : Nat} {v : Vl} (hw : vW1 d v) (hr : rW v) (hf : vF e v = true) : Sh 2 v ∨ (v = vLst v.li ∧ ∃ e', e = e' + 1 ∧ ∀ x ∈ v.li, vF e' x = true) := by
  by_cases hP : vP v = 0
  rotate_left
  · rw [vF_P hP] at hf; cases hf
  have h0 := (vP0 v).1 hP
  obtain ⟨w1, w2, w3, w4, w5, w6, w7, w8⟩ := hw
  obtain ⟨r1, r2, r3, r4, r5, r6, r7⟩ := (rW_iff v).1 hr
  have hk : v.k = 1 ∨ v.k = 2 ∨ v.k = 3 ∨ v.k = 4 ∨ v.k = 5 ∨ v.k = 6 ∨ (v.k ≠ 1 ∧ v.k ≠ 2 ∧ v.k ≠ 3 ∧ v.k ≠ 4 ∧ v.k ≠ 5 ∧ v.k ≠ 6) := by omega
  have q0 : v.k ≠ 1 → v.q = rq0 := fun h => (rq0_iff _).2 (h0.1.resolve_left h)
  have m0 : v.k ≠ 2 → v.r = 0 ∧ v.c = 0 ∧ v.a = [] := fun h => by have := h0.2.1.resolve_left h; exact ⟨this.1, this.2.1, nilL this.2.2⟩
  have p0 : v.k ≠ 3 → v.po = [] := fun h => nilL (h0.2.2.1.resolve_left h)
  have f0 : v.k ≠ 4 → v.fr = 0 ∧ v.fc = 0 ∧ v.fa = [] := fun h => by have := h0.2.2.2.1.resolve_left h; exact ⟨this.1, this.2.1, nilL this.2.2⟩
  have i0 : v.k ≠ 5 → v.ri = [] := fun h => nilL (h0.2.2.2.2.1.resolve_left h)
  have P0 : v.k ≠ 4 → v.k ≠ 5 → v.p = 0 := fun h h' => (h0.2.2.2.2.2.1.resolve_left h).resolve_left h'
  have l0 : v.k ≠ 6 → v.li = [] := fun h => nilL (h0.2.2.2.2.2.2.resolve_left h)
  clear h0
  rcases hk with hk | hk | hk | hk | hk | hk | hk
  · rw [vF_1 hP hk] at hf
    have e1 := (qOk_iff r1).1 hf
    obtain ⟨m1, m2, m3⟩ := m0 (by omega); obtain ⟨f1, f2, f3⟩ := f0 (by omega)
    have p1 := p0 (by omega); have i1 := i0 (by omega); have P1 := P0 (by omega) (by omega); have l1 := l0 (by omega)
    have rb := rqv_b r1 w6
    obtain ⟨k, q, r, c, a, po, p, fr, fc, fa, ri, li⟩ := v
    dsimp only at *
    subst hk m1 m2 m3 f1 f2 f3 p1 i1 P1 l1
    rw [e1]
    exact .inl (.num _ rb)
  · rw [vF_2 hP hk] at hf
    unfold mOk at hf
    rw [Bool.and_eq_true] at hf
    have e1 : ∀ x ∈ v.a, x = cq (rqv x) := fun x hx => (qOk_iff (r2 x hx)).1 (List.all_eq_true.1 hf.1 x hx)
    have e2 := of_decide_eq_true hf.2
    have rb : ∀ y ∈ v.a.map rqv, RB y 2 := fun y hy => by
      obtain ⟨x, hx, rfl⟩ := List.mem_map.1 hy
      exact rqv_b (r2 x hx) (FewP.len (w := 2) w7 x hx)
    have q1 := q0 (by omega); obtain ⟨f1, f2, f3⟩ := f0 (by omega)
    have p1 := p0 (by omega); have i1 := i0 (by omega); have P1 := P0 (by omega) (by omega); have l1 := l0 (by omega)
    obtain ⟨k, q, r, c, a, po, p, fr, fc, fa, ri, li⟩ := v
    dsimp only at *
    subst hk q1 f1 f2 f3 p1 i1 P1 l1
    obtain ⟨n, rfl⟩ : ∃ n : Nat, r = n := ⟨r.toNat, by omega⟩
    obtain ⟨m, rfl⟩ : ∃ m : Nat, c = m := ⟨c.toNat, by omega⟩
    have e3 := map_back (f := cq) (g := rqv) a e1
    have e4 : (a.map rqv).length = n * m := by rw [List.length_map]; have := e2.2.2.2.2; rw [← Int.natCast_mul] at this; omega
    have := Sh.mat n m (a.map rqv) e4 (by omega) (by omega) rb
    unfold vMat at this
    rw [← e3] at this
    exact .inl this
  · rw [vF_3 hP hk] at hf
    unfold pOk at hf
    rw [Bool.and_eq_true] at hf
    have e1 : ∀ x ∈ v.po, x = cz (rzv x) := fun x hx => (zOk_iff (r3 x hx)).1 (List.all_eq_true.1 hf.1 x hx)
    have rb : ∀ y ∈ v.po.map rzv, y.natAbs < WB ^ 2 := fun y hy => by
      obtain ⟨x, hx, rfl⟩ := List.mem_map.1 hy
      exact (ZQ.raw (b := x.1) (r3 x hx) (w1.2 x hx)).b
    have q1 := q0 (by omega); obtain ⟨f1, f2, f3⟩ := f0 (by omega); obtain ⟨m1, m2, m3⟩ := m0 (by omega)
    have i1 := i0 (by omega); have P1 := P0 (by omega) (by omega); have l1 := l0 (by omega)
    obtain ⟨k, q, r, c, a, po, p, fr, fc, fa, ri, li⟩ := v
    dsimp only at *
    subst hk q1 f1 f2 f3 m1 m2 m3 i1 P1 l1
    have e3 := map_back (f := cz) (g := rzv) po e1
    have e4 : pN (po.map rzv) := lz_iff.1 (by rw [← e3]; exact hf.2)
    have := Sh.pol (po.map rzv) (by rw [List.length_map]; omega) e4 rb
    unfold vPol at this
    rw [← e3] at this
    exact .inl this
  · rw [vF_4 hP hk] at hf
    unfold fOk at hf
    rw [Bool.and_eq_true, Bool.and_eq_true, decide_eq_true_iff, ltp_all] at hf
    have e2 := of_decide_eq_true hf.2.2
    have q1 := q0 (by omega); obtain ⟨m1, m2, m3⟩ := m0 (by omega)
    have p1 := p0 (by omega); have i1 := i0 (by omega); have l1 := l0 (by omega)
    obtain ⟨k, q, r, c, a, po, p, fr, fc, fa, ri, li⟩ := v
    dsimp only at *
    subst hk q1 m1 m2 m3 p1 i1 l1
    obtain ⟨n, rfl⟩ : ∃ n : Nat, fr = n := ⟨fr.toNat, by omega⟩
    obtain ⟨m, rfl⟩ : ∃ m : Nat, fc = m := ⟨fc.toNat, by omega⟩
    have e4 : fa.length = n * m := by have := e2.2.2.2.2; rw [← Int.natCast_mul] at this; omega
    exact .inl (.fld p n m fa hf.1 e4 (by omega) (by omega) hf.2.1)
  · rw [vF_5 hP hk] at hf
    unfold rOk at hf
    rw [Bool.and_eq_true, Bool.and_eq_true, decide_eq_true_iff, ltp_all, lw_iff] at hf
    have q1 := q0 (by omega); obtain ⟨m1, m2, m3⟩ := m0 (by omega); obtain ⟨f1, f2, f3⟩ := f0 (by omega)
    have p1 := p0 (by omega); have l1 := l0 (by omega)
    obtain ⟨k, q, r, c, a, po, p, fr, fc, fa, ri, li⟩ := v
    dsimp only at *
    subst hk q1 m1 m2 m3 f1 f2 f3 p1 l1
    exact .inl (.rng p ri hf.1 (by omega) hf.2.2 hf.2.1)
  · have q1 := q0 (by omega); obtain ⟨m1, m2, m3⟩ := m0 (by omega); obtain ⟨f1, f2, f3⟩ := f0 (by omega)
    have p1 := p0 (by omega); have i1 := i0 (by omega); have P1 := P0 (by omega) (by omega)
    cases e with
    | zero => rw [vF_60 hk] at hf; cases hf
    | succ e =>
      rw [vF_6 hP hk, List.all_eq_true] at hf
      obtain ⟨k, q, r, c, a, po, p, fr, fc, fa, ri, li⟩ := v
      dsimp only at *
      subst hk q1 m1 m2 m3 f1 f2 f3 p1 i1 P1
      exact .inr ⟨rfl, e, rfl, hf⟩
  · rw [vF_7 hk] at hf; cases hf
theorem Cv.of : ∀ {d e : Nat} {v : Vl}, vW d v → rW v → vF e v = true → Cv 2 (d + 1) v := by
  intro d
  induction d with
  | zero =>
    intro e v h hr hf
    rcases small_key h.one hr hf with h1 | ⟨h1, e', he, h2⟩
    · exact .one h1
    · rw [h1]; exact .lst v.li (by rw [h.2]; exact Nat.zero_le _) (by rw [h.2]; exact no_mem)
  | succ d ih =>
    intro e v h hr hf
    rcases small_key h.one hr hf with h1 | ⟨h1, e', he, h2⟩
    · exact .one h1
    · rw [h1]
      exact .lst v.li (by have := h.one.2.2.1; omega) fun x hx => ih (h.2 x hx) (((rW_iff v).1 hr).2.2.2.2.2.2 x hx) (h2 x hx)
attribute [local irreducible] IntKind.wrap Go1 Reg WP thenK inBlk retQ retF RetF RetOK ResOK CallOK OpOK Sat
attribute [local irreducible] qsub qmul qquo qcmp qadd qv redS mf PrP qOk zOk vP fp64 lz vF cq rqv plen pNorm
theorem Cv.F {K n : Nat} {v : Vl} (h : Cv K n v) (hK : K ≤ 100000) (hn : n ≤ 15) : PureOK Tryz.prog 28 [.agg (vlA v)] (.v (.bool true)) := by
  have c := con_vFormed (h.z hK)
  rwa [h.f 20 (by omega)] at c
theorem con_Same {K L n m : Nat} {u v : Vl} (hu : Cv K n u) (hv : Cv L m v) (hK : K + L ≤ 100000) (hn : n ≤ 15) (hm : m ≤ 15) : PureOK Tryz.prog 17 [.agg (vlA u), .agg (vlA v)] (.v (.bool (sameV u v))) := by
  have c := con_same hK n m u v hu hv
  have c1 := hu.F (by omega) hn
  have c2 := hv.F (by omega) hm
  refine PureOK.fnF Tryz.func17 Tryz.results17 Tryz.ntmps17 rfl rfl rfl (by simp [AV.ids, AV0.ids, Atom.ids]) rfl (fun w0 T B E0 hB => ?_)
  refine SX.goJ ?_
  exact retB rfl
end Go.Proofs.YtfhpmbenldgfnaaGreatDoor
/- Sums, differences, multiples of numbers, matrices, polynomials; Binary. -/
set_option linter.unusedVariables false
set_option linter.unusedSimpArgs false
namespace Go.Proofs.YtfhpmbenldgfnaaGreatDoor
open Go.RowKit QM SX LA
abbrev mq (vs : List Rat) : List Q4 := (vs.map cq).map rq
abbrev mz (zs : List Int) : List Z2 := (zs.map cz).map rz
theorem mq_len (vs : List Rat) : (mq vs).length = vs.length := by rw [List.length_map, List.length_map]
theorem mz_len (zs : List Int) : (mz zs).length = zs.length := by rw [List.length_map, List.length_map]
theorem imp_mat {r c : Nat} {vs : List Rat} : AV0.imp (.agg [.c (.val (.int .i64 2)), .c (.val (.bool false)), .c (.val (.slice none 0 0)), .c (.val (.bool false)), .c (.val (.slice none 0 0)), .c (.val (.int .i64 (r : Int))), .c (.val (.int .i64 (c : Int))), .c (.sat (rowR 4 q4C (vs.map q4v))), .c (.val (.slice none 0 0)), .c (.val (.int .u64 0)), .c (.val (.int .i64 0)), .c (.val (.int .i64 0)), .c (.val (.slice none 0 0)), .c (.val (.slice none 0 0)), .c (.val (.slice none 0 0))]) (.agg (vlA (vMat r c vs))) :=
  imp_agg ⟨AtomI.refl _, AtomI.refl _, AtomI.nilN, AtomI.refl _, AtomI.nilN, AtomI.refl _, AtomI.refl _, AtomI.rats vs, AtomI.nil, AtomI.refl _, AtomI.refl _, AtomI.refl _, AtomI.nil, AtomI.nil, AtomI.nil, trivial⟩
theorem imp_pol {zs : List Int} : AV0.imp (.agg [.c (.val (.int .i64 3)), .c (.val (.bool false)), .c (.val (.slice none 0 0)), .c (.val (.bool false)), .c (.val (.slice none 0 0)), .c (.val (.int .i64 0)), .c (.val (.int .i64 0)), .c (.val (.slice none 0 0)), .c (.sat (rowR 2 z2C (zs.map z2v))), .c (.val (.int .u64 0)), .c (.val (.int .i64 0)), .c (.val (.int .i64 0)), .c (.val (.slice none 0 0)), .c (.val (.slice none 0 0)), .c (.val (.slice none 0 0))]) (.agg (vlA (vPol zs))) :=
  imp_agg ⟨AtomI.refl _, AtomI.refl _, AtomI.nilN, AtomI.refl _, AtomI.nilN, AtomI.refl _, AtomI.refl _, AtomI.nil, AtomI.ints zs, AtomI.refl _, AtomI.refl _, AtomI.refl _, AtomI.nil, AtomI.nil, AtomI.nil, trivial⟩
attribute [local irreducible] IntKind.wrap Go1 Reg WP thenK inBlk retQ retF RetF RetOK ResOK CallOK OpOK Sat
attribute [local irreducible] qsub qmul qquo qcmp qadd qv redS mf PrP qOk zOk vP fp64 lz vF cq rqv plen pNorm pBoth pScale
theorem con_matT (r c : Nat) (vs : List Rat) : PureOK Tryz.prog 108 [.agg (matQ r c (vs.map q4v)), .v (.int .i64 0)] (.tup [.agg (vlA (vMat r c vs)), eNo 0]) := by
  refine PureOK.fnF Tryz.func108 Tryz.results108 Tryz.ntmps108 rfl rfl rfl (by simp [AV.ids, AV0.ids, Atom.ids]) rfl (fun w0 T B E0 hB => ?_)
  refine SX.goJ ?_
  refine .ok (RetOK.mk2 ((ResOK.agg15 rfl rfl rfl).imp ?_) (ResOK.tmp rfl))
  exact imp_mat
/-- Sums and multiples of matrices' numbers. -/
def mAdd (r c : Nat) (vs vs' : List Rat) : List Rat := tabR c (fun i k => vat vs c i k + vat vs' c i k) r
def mScale (r c : Nat) (vs : List Rat) (x : Rat) : List Rat := tabR c (fun i k => vat vs c i k * x) r
def mxMul (r c d : Nat) (vs vs' : List Rat) : List Rat := tabR d (prodV c (vat vs c) (vat vs' d)) r
theorem mScale_len (r c : Nat) (vs : List Rat) (x : Rat) : (mScale r c vs x).length = r * c := tabR_len r
theorem mScale_RB {r c : Nat} {vs : List Rat} {x : Rat} {K L : Nat} (h : ∀ v ∈ vs, RB v K) (h' : RB x L) (h1 : 1 ≤ K) : ∀ v ∈ mScale r c vs x, RB v (K + L) := tabR_RB fun i k _ _ => (vat_RB h h1 c i k).mul h'
theorem con_qmAddV {r c : Nat} {vs vs' : List Rat} {K L : Nat} (h : ∀ v ∈ vs, RB v K) (h' : ∀ v ∈ vs', RB v L) (hl : vs.length = r * c) (hl' : vs'.length = r * c) (hr : r ≤ 64) (hc : c ≤ 64) (h1 : 1 ≤ K) (h1' : 1 ≤ L) (hK : K + L ≤ 300000) :
    PureOK Tryz.prog 77 [.agg (matQ r c (mq vs)), .agg (matQ r c (mq vs'))] (.tup [.agg (matQ r c ((mAdd r c vs vs').map q4v)), eNo 0]) := by
  have c1 := con_qmAdd (MV.cq h) (by rw [mq_len]; exact hl) (MV.cq h') (by rw [mq_len]; exact hl') hr hc h1 h1' hK
  rw [matA_matQ] at c1
  exact c1
theorem con_sum2 {r c : Nat} {vs vs' : List Rat} {K L : Nat} (h : ∀ v ∈ vs, RB v K) (h' : ∀ v ∈ vs', RB v L) (hl : vs.length = r * c) (hl' : vs'.length = r * c) (hr : r ≤ 64) (hc : c ≤ 64) (h1 : 1 ≤ K) (h1' : 1 ≤ L) (hK : K + L ≤ 300000) :
    PureOK Tryz.prog 47 [.agg (vlA (vMat r c vs)), .agg (vlA (vMat r c vs'))] (.tup [.agg (vlA (vMat r c (mAdd r c vs vs'))), eNo 0]) := by
  have c1 := con_qmAddV h h' hl hl' hr hc h1 h1' hK
  have c2 := con_matT r c (mAdd r c vs vs')
  refine PureOK.fnF Tryz.func47 Tryz.results47 Tryz.ntmps47 rfl rfl rfl (by simp [AV.ids, AV0.ids, Atom.ids]) rfl (fun w0 T B E0 hB => ?_)
  refine SX.goJ ?_
  refine .ok (RetOK.mk2 (ResOK.agg15 rfl rfl rfl) (ResOK.tmp rfl))
theorem con_sum3 {a b : List Int} {K L : Nat} (h : ∀ z ∈ a, z.natAbs < WB ^ K) (h' : ∀ z ∈ b, z.natAbs < WB ^ L) (hl : a.length ≤ 10000) (hl' : b.length ≤ 10000) (hK : K + L ≤ 100000) :
    PureOK Tryz.prog 47 [.agg (vlA (vPol a)), .agg (vlA (vPol b))] (.tup [.agg (vlA (vPol (pAdd a b))), eNo 0]) := by
  have c1 := con_pAdd (MZ.ofz h) (MZ.ofz h') (by rw [mz_len]; exact hl) (by rw [mz_len]; exact hl') hK
  refine PureOK.fnF Tryz.func47 Tryz.results47 Tryz.ntmps47 rfl rfl rfl (by simp [AV.ids, AV0.ids, Atom.ids]) rfl (fun w0 T B E0 hB => ?_)
  refine SX.goJ ?_
  refine .ok (RetOK.mk2 ((ResOK.agg15 rfl rfl rfl).imp ?_) (ResOK.tmp rfl))
  exact imp_pol
theorem con_neg1 {x : Rat} {K : Nat} (hx : RB x K) (hK : K ≤ 100000) : PureOK Tryz.prog 87 [.agg (vlA (vNum x))] (.tup [.agg (vlA (vNum (-x))), eNo 0]) := by
  haveI := Ra.cq hx
  obtain ⟨X, cA, hX⟩ := eNeg (q4A (rq (cq x))) (K := K) (by omega)
  have e := hX.nf
  subst e
  have cN := con_numT (-x) 0
  refine PureOK.fnF Tryz.func87 Tryz.results87 Tryz.ntmps87 rfl rfl rfl (by simp [AV.ids, AV0.ids, Atom.ids]) rfl (fun w0 T B E0 hB => ?_)
  refine SX.goJ ?_
  refine .ok (RetOK.mk2 (ResOK.agg15 rfl rfl rfl) (ResOK.tmp rfl))
theorem con_neg2 {r c : Nat} {vs : List Rat} {K : Nat} (h : ∀ v ∈ vs, RB v K) (hl : vs.length = r * c) (hr : r ≤ 64) (hc : c ≤ 64) (h1 : 1 ≤ K) (hK : K ≤ 100000) :
    PureOK Tryz.prog 87 [.agg (vlA (vMat r c vs))] (.tup [.agg (vlA (vMat r c (mScale r c vs (-1)))), eNo 0]) := by
  have o1 : PureOK Tryz.prog 23 [.v (.int .i64 (-1))] (.agg (zN (-1))) := con_zOf.h ⟨by decide, by decide⟩
  haveI b1 : Bd (-1) 1 := ⟨by rw [WB_eq]; decide⟩
  have o2 : PureOK Tryz.prog 36 [.agg (zN (-1))] (.agg (qA (-1))) := con_rOf.h (by decide)
  have c1 := con_qmScale (d := q4v (-1)) (v := -1) (K' := 1) (MV.cq h) (by rw [mq_len]; exact hl) (RB.ofI (z := -1) b1.h (by decide)).ra hr hc h1 (by decide) (by omega)
  rw [matA_matQ] at c1
  have c2 := con_matT r c (mScale r c vs (-1))
  refine PureOK.fnF Tryz.func87 Tryz.results87 Tryz.ntmps87 rfl rfl rfl (by simp [AV.ids, AV0.ids, Atom.ids]) rfl (fun w0 T B E0 hB => ?_)
  refine SX.goJ ?_
  refine .ok (RetOK.mk2 (ResOK.agg15 rfl rfl rfl) (ResOK.tmp rfl))
theorem con_pSub0 {b : List Int} {L : Nat} (h' : ∀ z ∈ b, z.natAbs < WB ^ L) (hl' : b.length ≤ 10000) (hK : L ≤ 90000) :
    PureOK Tryz.prog 60 [.v (.slice none 0 0), .r (rowR 2 z2C (mz b))] (.r (rowR 2 z2C ((pSub [] b).map z2v))) :=
  weakArgs (con_pSub (l := []) (zs := []) (K := 1) ⟨rfl, fun i q z h => by simp at h⟩ (MZ.ofz h') (Nat.zero_le _) (by rw [mz_len]; exact hl') (by omega)) fun E S w vs hv => by
    match vs, hv with
    | [u1, u2], ⟨h1, h2, _⟩ => exact ⟨AtomI.nil (α := Z2) (enc := z2C) (size := 2) E S w u1 h1, h2, trivial⟩
theorem con_neg3 {b : List Int} {L : Nat} (h' : ∀ z ∈ b, z.natAbs < WB ^ L) (hl' : b.length ≤ 10000) (hK : L ≤ 90000) :
    PureOK Tryz.prog 87 [.agg (vlA (vPol b))] (.tup [.agg (vlA (vPol (pSub [] b))), eNo 0]) := by
  have c1 := con_pSub0 h' hl' hK
  refine PureOK.fnF Tryz.func87 Tryz.results87 Tryz.ntmps87 rfl rfl rfl (by simp [AV.ids, AV0.ids, Atom.ids]) rfl (fun w0 T B E0 hB => ?_)
  refine SX.goJ ?_
  refine .ok (RetOK.mk2 ((ResOK.agg15 rfl rfl rfl).imp ?_) (ResOK.tmp rfl))
  exact imp_pol
theorem con_diff {u v w x : Vl} {e : Int} (c1 : PureOK Tryz.prog 87 [.agg (vlA v)] (.tup [.agg (vlA w), eNo 0])) (c2 : PureOK Tryz.prog 47 [.agg (vlA u), .agg (vlA w)] (.tup [.agg (vlA x), eNo e])) :
    PureOK Tryz.prog 48 [.agg (vlA u), .agg (vlA v)] (.tup [.agg (vlA x), eNo e]) := by
  refine PureOK.fnF Tryz.func48 Tryz.results48 Tryz.ntmps48 rfl rfl rfl (by simp [AV.ids, AV0.ids, Atom.ids]) rfl (fun w0 T B E0 hB => ?_)
  refine SX.goJ ?_
  refine .ok (RetOK.mk2 (ResOK.agg15 rfl rfl rfl) (ResOK.tmp rfl))
theorem con_prod1 {x y : Rat} {K L : Nat} (hx : RB x K) (hy : RB y L) (hK : K + L ≤ 1000000) : PureOK Tryz.prog 104 [.agg (vlA (vNum x)), .agg (vlA (vNum y))] (.tup [.agg (vlA (vNum (x * y))), eNo 0]) := by
  haveI := Ra.cq hx
  haveI := Ra.cq hy
  obtain ⟨X, cA, hX⟩ := eMul (q4A (rq (cq x))) (q4A (rq (cq y))) (K := K) (K' := L) (by omega)
  have e := hX.nf
  subst e
  have cN := con_numT (x * y) 0
  refine PureOK.fnF Tryz.func104 Tryz.results104 Tryz.ntmps104 rfl rfl rfl (by simp [AV.ids, AV0.ids, Atom.ids]) rfl (fun w0 T B E0 hB => ?_)
  refine SX.goJ ?_
  refine .ok (RetOK.mk2 (ResOK.agg15 rfl rfl rfl) (ResOK.tmp rfl))
theorem con_mul2 {r c : Nat} {vs : List Rat} {x : Rat} {K L : Nat} (hx : RB x L) (h : ∀ v ∈ vs, RB v K) (hl : vs.length = r * c) (hr : r ≤ 64) (hc : c ≤ 64) (h1 : 1 ≤ K) (h1' : 1 ≤ L) (hK : K + L ≤ 100000) :
    PureOK Tryz.prog 105 [.agg (vlA (vNum x)), .agg (vlA (vMat r c vs))] (.tup [.agg (vlA (vMat r c (mScale r c vs x))), eNo 0]) := by
  have c1 := con_qmScale (d := rq (cq x)) (v := x) (K' := L) (MV.cq h) (by rw [mq_len]; exact hl) (Ra.cq hx) hr hc h1 h1' (by omega)
  rw [matA_matQ] at c1
  have c2 := con_matT r c (mScale r c vs x)
  refine PureOK.fnF Tryz.func105 Tryz.results105 Tryz.ntmps105 rfl rfl rfl (by simp [AV.ids, AV0.ids, Atom.ids]) rfl (fun w0 T B E0 hB => ?_)
  refine SX.goJ ?_
  refine .ok (RetOK.mk2 (ResOK.agg15 rfl rfl rfl) (ResOK.tmp rfl))
/-- Of a whole number, its number. -/
theorem con_whl {x : Rat} {K : Nat} (hx : RB x K) (hK : K ≤ 100000) : PureOK Tryz.prog 178 [.agg (q4A (rq (cq x)))] (.tup [.agg (zN (if x.den = 1 then x.num else 0)), .one (.c (.val (.bool (decide (x.den = 1)))))]) := by
  have hl := (vZ0.num hx hK).q.2
  dsimp only at hl
  have h := (con_rWhole (h := ZI.raw (cq x).1 (cq x).2.1) (h' := ZI.raw (cq x).2.2.1 (cq x).2.2.2)).h (by omega)
  unfold rwhole at h
  rw [rmk_q, cq_val'] at h
  have e1 : ((x.den : Int) = 1) ↔ x.den = 1 := by omega
  simp only [e1] at h
  exact h
theorem con_mul3 {a : List Int} {z : Int} {K L : Nat} (hz : z.natAbs < WB ^ L) (h1 : 1 ≤ L) (h : ∀ z ∈ a, z.natAbs < WB ^ K) (hl : a.length ≤ 10000) (hK : K + L ≤ 100000) :
    PureOK Tryz.prog 105 [.agg (vlA (vNum (z : Rat))), .agg (vlA (vPol a))] (.tup [.agg (vlA (vPol (pScale a z))), eNo 0]) := by
  have cw := con_whl (RB.ofI hz h1) (by omega)
  rw [if_pos (Rat.den_intCast z), decide_eq_true (Rat.den_intCast z), Rat.num_intCast] at cw
  have c1 := con_pScale (q := z2v z) (d := z) (K' := L) (MZ.ofz h) (ZQ.made hz) (by rw [mz_len]; exact hl) hK
  refine PureOK.fnF Tryz.func105 Tryz.results105 Tryz.ntmps105 rfl rfl rfl (by simp [AV.ids, AV0.ids, Atom.ids]) rfl (fun w0 T B E0 hB => ?_)
  refine SX.goJ ?_
  refine .ok (RetOK.mk2 ((ResOK.agg15 rfl rfl rfl).imp ?_) (ResOK.tmp rfl))
  exact imp_pol
theorem con_mul3n {a : List Int} {x : Rat} {K : Nat} (hx : RB x K) (hK : K ≤ 100000) (hd : x.den ≠ 1) :
    PureOK Tryz.prog 105 [.agg (vlA (vNum x)), .agg (vlA (vPol a))] (.tup [.agg (vlA v0), eNo 5]) := by
  have cw := con_whl hx hK
  rw [if_neg hd, decide_eq_false hd] at cw
  refine PureOK.fnF Tryz.func105 Tryz.results105 Tryz.ntmps105 rfl rfl rfl (by simp [AV.ids, AV0.ids, Atom.ids]) rfl (fun w0 T B E0 hB => ?_)
  refine SX.goJ ?_
  refine .ok (RetOK.mk2 ((ResOK.agg15 rfl rfl rfl).imp ?_) (ResOK.tmp rfl))
  exact imp_none
theorem con_mulE {u v : Vl} (h : v.k ≠ 2 ∧ v.k ≠ 3) : PureOK Tryz.prog 105 [.agg (vlA u), .agg (vlA v)] (.tup [.agg (vlA v0), eNo 5]) := by
  refine PureOK.fnF Tryz.func105 Tryz.results105 Tryz.ntmps105 rfl rfl rfl (by simp [AV.ids, AV0.ids, Atom.ids]) rfl (fun w0 T B E0 hB => ?_)
  refine SX.goJ ?_
  refine .ok (RetOK.mk2 ((ResOK.agg15 rfl rfl rfl).imp ?_) (ResOK.tmp rfl))
  exact imp_none
section
variable {u v w : Vl} {e : Int}
theorem con_times0 (hk : u.k = v.k) (c : PureOK Tryz.prog 104 [.agg (vlA u), .agg (vlA v)] (.tup [.agg (vlA w), eNo e])) : PureOK Tryz.prog 44 [.agg (vlA u), .agg (vlA v)] (.tup [.agg (vlA w), eNo e]) := by
  refine PureOK.fnF Tryz.func44 Tryz.results44 Tryz.ntmps44 rfl rfl rfl (by simp [AV.ids, AV0.ids, Atom.ids]) rfl (fun w0 T B E0 hB => ?_)
  refine SX.goJ ?_
  refine .ok (RetOK.mk2 (ResOK.agg15 rfl rfl rfl) (ResOK.tmp rfl))
theorem con_times1 (hk : u.k = 1) (hk2 : v.k ≠ 1) (c : PureOK Tryz.prog 105 [.agg (vlA u), .agg (vlA v)] (.tup [.agg (vlA w), eNo e])) : PureOK Tryz.prog 44 [.agg (vlA u), .agg (vlA v)] (.tup [.agg (vlA w), eNo e]) := by
  refine PureOK.fnF Tryz.func44 Tryz.results44 Tryz.ntmps44 rfl rfl rfl (by simp [AV.ids, AV0.ids, Atom.ids]) rfl (fun w0 T B E0 hB => ?_)
  refine SX.goJ ?_
  refine .ok (RetOK.mk2 (ResOK.agg15 rfl rfl rfl) (ResOK.tmp rfl))
theorem con_times2 (hk : v.k = 1) (hk2 : u.k ≠ 1) (c : PureOK Tryz.prog 105 [.agg (vlA v), .agg (vlA u)] (.tup [.agg (vlA w), eNo e])) : PureOK Tryz.prog 44 [.agg (vlA u), .agg (vlA v)] (.tup [.agg (vlA w), eNo e]) := by
  refine PureOK.fnF Tryz.func44 Tryz.results44 Tryz.ntmps44 rfl rfl rfl (by simp [AV.ids, AV0.ids, Atom.ids]) rfl (fun w0 T B E0 hB => ?_)
  refine SX.goJ ?_
  refine .ok (RetOK.mk2 (ResOK.agg15 rfl rfl rfl) (ResOK.tmp rfl))
theorem con_BinF1 (op : Int) (c1 : PureOK Tryz.prog 28 [.agg (vlA u)] (.v (.bool false))) : PureOK Tryz.prog 13 [.v (.int .i64 op), .agg (vlA u), .agg (vlA v)] (.tup [.agg (vlA v0), eNo 1]) := by
  refine PureOK.fnF Tryz.func13 Tryz.results13 Tryz.ntmps13 rfl rfl rfl (by simp [AV.ids, AV0.ids, Atom.ids]) rfl (fun w0 T B E0 hB => ?_)
  refine SX.goJ ?_
  refine .ok (RetOK.mk2 ((ResOK.agg15 rfl rfl rfl).imp ?_) (ResOK.tmp rfl))
  exact imp_none
theorem con_BinF2 (op : Int) {b : Bool} (c1 : PureOK Tryz.prog 28 [.agg (vlA u)] (.v (.bool b))) (c2 : PureOK Tryz.prog 28 [.agg (vlA v)] (.v (.bool false))) : PureOK Tryz.prog 13 [.v (.int .i64 op), .agg (vlA u), .agg (vlA v)] (.tup [.agg (vlA v0), eNo 1]) := by
  cases b
  · exact con_BinF1 op c1
  · refine PureOK.fnF Tryz.func13 Tryz.results13 Tryz.ntmps13 rfl rfl rfl (by simp [AV.ids, AV0.ids, Atom.ids]) rfl (fun w0 T B E0 hB => ?_)
    refine SX.goJ ?_
    refine .ok (RetOK.mk2 ((ResOK.agg15 rfl rfl rfl).imp ?_) (ResOK.tmp rfl))
    exact imp_none
variable (c1 : PureOK Tryz.prog 28 [.agg (vlA u)] (.v (.bool true))) (c2 : PureOK Tryz.prog 28 [.agg (vlA v)] (.v (.bool true)))
include c1 c2
theorem con_Bin4 (hk : u.k = v.k) (c : PureOK Tryz.prog 47 [.agg (vlA u), .agg (vlA v)] (.tup [.agg (vlA w), eNo e])) : PureOK Tryz.prog 13 [.v (.int .i64 4), .agg (vlA u), .agg (vlA v)] (.tup [.agg (vlA w), eNo e]) := by
  refine PureOK.fnF Tryz.func13 Tryz.results13 Tryz.ntmps13 rfl rfl rfl (by simp [AV.ids, AV0.ids, Atom.ids]) rfl (fun w0 T B E0 hB => ?_)
  refine SX.goJ ?_
  refine .ok (RetOK.mk2 (ResOK.agg15 rfl rfl rfl) (ResOK.tmp rfl))
theorem con_Bin5 (hk : u.k = v.k) (c : PureOK Tryz.prog 48 [.agg (vlA u), .agg (vlA v)] (.tup [.agg (vlA w), eNo e])) : PureOK Tryz.prog 13 [.v (.int .i64 5), .agg (vlA u), .agg (vlA v)] (.tup [.agg (vlA w), eNo e]) := by
  refine PureOK.fnF Tryz.func13 Tryz.results13 Tryz.ntmps13 rfl rfl rfl (by simp [AV.ids, AV0.ids, Atom.ids]) rfl (fun w0 T B E0 hB => ?_)
  refine SX.goJ ?_
  refine .ok (RetOK.mk2 (ResOK.agg15 rfl rfl rfl) (ResOK.tmp rfl))
theorem con_Bin6 (c : PureOK Tryz.prog 44 [.agg (vlA u), .agg (vlA v)] (.tup [.agg (vlA w), eNo e])) : PureOK Tryz.prog 13 [.v (.int .i64 6), .agg (vlA u), .agg (vlA v)] (.tup [.agg (vlA w), eNo e]) := by
  refine PureOK.fnF Tryz.func13 Tryz.results13 Tryz.ntmps13 rfl rfl rfl (by simp [AV.ids, AV0.ids, Atom.ids]) rfl (fun w0 T B E0 hB => ?_)
  refine SX.goJ ?_
  refine .ok (RetOK.mk2 (ResOK.agg15 rfl rfl rfl) (ResOK.tmp rfl))
end
end Go.Proofs.YtfhpmbenldgfnaaGreatDoor
/- Comparing numbers; multiples, told by their kinds. -/
set_option linter.unusedVariables false
set_option linter.unusedSimpArgs false
namespace Go.Proofs.YtfhpmbenldgfnaaGreatDoor
open Go.RowKit QM SX LA
theorem pScale_at (zs : List Int) (d : Int) (j : Nat) : (pScale zs d).getD j 0 = zs.getD j 0 * d := by
  unfold pScale
  rw [pNorm_at, List.getD_eq_getElem?_getD, List.getElem?_map, List.getD_eq_getElem?_getD]
  cases zs[j]? with
  | none => exact (Int.zero_mul d).symm
  | some z => rfl
theorem pScale_pN (zs : List Int) (d : Int) : pN (pScale zs d) := pNorm_pN _
theorem pBoth_len {op : Int → Int → Int} (a b : List Int) : (pBoth op a b).length ≤ max a.length b.length := by
  unfold pBoth; rw [pNorm_len]; exact Nat.le_trans (plen_le _) (by rw [tabP_len]; exact Nat.le_refl _)
theorem pScale_len (zs : List Int) (d : Int) : (pScale zs d).length ≤ zs.length := by
  unfold pScale; rw [pNorm_len]; exact Nat.le_trans (plen_le _) (by rw [List.length_map]; exact Nat.le_refl _)
theorem mem_getD {zs : List Int} {z : Int} (h : z ∈ zs) : ∃ j, zs.getD j 0 = z := by
  obtain ⟨j, hj⟩ := List.mem_iff_getElem?.1 h
  exact ⟨j, by rw [List.getD_eq_getElem?_getD, hj]; rfl⟩
theorem pScale_bd {zs : List Int} {d : Int} {K L : Nat} (h : ∀ z ∈ zs, z.natAbs < WB ^ K) (hd : d.natAbs < WB ^ L) : ∀ z ∈ pScale zs d, z.natAbs < WB ^ (K + L) := fun z hz => by
  obtain ⟨j, rfl⟩ := mem_getD hz
  rw [pScale_at, Int.natAbs_mul, Nat.pow_add]
  exact Nat.mul_lt_mul'' (zat_b h j) hd
theorem pSub0_at (a : List Int) (j : Nat) : (pSub [] a).getD j 0 = -a.getD j 0 := by
  rw [pSub_at]; show 0 - a.getD j 0 = _; omega
theorem pSub0_bd {a : List Int} {K : Nat} (h : ∀ z ∈ a, z.natAbs < WB ^ K) : ∀ z ∈ pSub [] a, z.natAbs < WB ^ K := fun z hz => by
  obtain ⟨j, rfl⟩ := mem_getD hz
  rw [pSub0_at, Int.natAbs_neg]; exact zat_b h j
theorem RB.nat {n K : Nat} (h : n < WB ^ K) (h1 : 1 ≤ K) : RB ((n : Int) : Rat) K := RB.ofI (z := (n : Int)) (by rw [Int.natAbs_natCast]; exact h) h1
/-- A value that is multiplied. -/
def mulV (i : Int) : Vl → Vl
  | ⟨k, q, r, c, a, po, p, fr, fc, fa, ri, li⟩ => if k = 1 then vNum (i * rqv q) else if k = 2 then vMat r.toNat c.toNat (mScale r.toNat c.toNat (a.map rqv) i) else vPol (pScale (po.map rzv) i)
theorem mulV_num (i : Int) (x : Rat) : mulV i (vNum x) = vNum (i * x) := by
  show mulV i ⟨1, cq x, 0, 0, [], [], 0, 0, 0, [], [], []⟩ = _
  rw [mulV, if_pos rfl, cq_val]
theorem mulV_mat (i : Int) (r c : Nat) (vs : List Rat) : mulV i (vMat r c vs) = vMat r c (mScale r c vs i) := by
  show mulV i ⟨2, rq0, (r : Int), (c : Int), vs.map cq, [], 0, 0, 0, [], [], []⟩ = _
  rw [mulV, if_neg (by decide), if_pos rfl, cq_vals, Int.toNat_natCast, Int.toNat_natCast]
theorem mulV_pol (i : Int) (zs : List Int) : mulV i (vPol zs) = vPol (pScale zs i) := by
  show mulV i ⟨3, rq0, 0, 0, [], zs.map cz, 0, 0, 0, [], [], []⟩ = _
  rw [mulV, if_neg (by decide), if_neg (by decide), cz_vals]
theorem mSum {r c : Nat} {vs : List Rat} {i : Int} : mAdd r c (mScale r c vs i) vs = mScale r c vs ((i + 1 : Int) : Rat) := by
  unfold mAdd mScale
  refine tabR_ext fun a ha b hb => ?_
  rw [vat_tab ha hb]
  rw [Rat.intCast_add, Rat.mul_add, Rat.intCast_one, Rat.mul_one]
theorem mNeg {r c : Nat} {vs : List Rat} : mAdd r c vs (mScale r c vs (-1)) = mScale r c vs ((0 : Int) : Rat) := by
  unfold mAdd mScale
  refine tabR_ext fun a ha b hb => ?_
  rw [vat_tab ha hb, Rat.intCast_zero, Rat.mul_zero, Rat.mul_neg, Rat.mul_one, ← Rat.sub_eq_add_neg, Rat.sub_self]
theorem pSum {zs : List Int} {i : Int} : pAdd (pScale zs i) zs = pScale zs (i + 1) := pN_ext (pBoth_pN _ _ _) (pScale_pN _ _) fun j => by
  rw [pAdd_at, pScale_at, pScale_at, Int.mul_add, Int.mul_one]
theorem pNeg {zs : List Int} : pAdd zs (pSub [] zs) = pScale zs 0 := pN_ext (pBoth_pN _ _ _) (pScale_pN _ _) fun j => by
  rw [pAdd_at, pSub0_at, pScale_at]; omega
attribute [local irreducible] IntKind.wrap Go1 Reg WP thenK inBlk retQ retF RetF RetOK ResOK CallOK OpOK Sat
attribute [local irreducible] qsub qmul qquo qcmp qadd qv redS mf PrP qOk zOk vP fp64 lz vF cq rqv plen pNorm pBoth pScale
/-- What the statement asks of a value that may be multiplied. -/
structure Muls (v : Vl) (k : Nat) : Prop where
  a : PureOK Tryz.prog 44 [.agg (vlA (vNum ((k : Int) : Rat))), .agg (vlA v)] (.tup [.agg (vlA (mulV k v)), eNo 0])
  b : PureOK Tryz.prog 44 [.agg (vlA v), .agg (vlA (vNum ((k : Int) : Rat)))] (.tup [.agg (vlA (mulV k v)), eNo 0])
  h : ∃ (w : Vl) (e : Int), PureOK Tryz.prog 44 [.agg (vlA (vNum (1 / 2))), .agg (vlA v)] (.tup [.agg (vlA w), eNo e]) ∧ ((v.k ≠ 3 ∧ e = 0) ∨ (v.k = 3 ∧ e = 5))
  d : PureOK Tryz.prog 48 [.agg (vlA v), .agg (vlA v)] (.tup [.agg (vlA (mulV 0 v)), eNo 0])
  s : ∀ i, i < k → PureOK Tryz.prog 47 [.agg (vlA (mulV (i : Int) v)), .agg (vlA v)] (.tup [.agg (vlA (mulV ((i + 1 : Nat) : Int) v)), eNo 0])
  c : ∀ i, i ≤ k → Cv 4 0 (mulV (i : Int) v)
  kk : ∀ i, (mulV i v).k = v.k
theorem small_wb {i : Nat} (h : i ≤ 6) : i < WB ^ 1 := by rw [Nat.pow_one, WB_eq]; omega
theorem half_RB : RB (1 / 2 : Rat) 1 := RB.of (p := 1) (q := 2) (by decide) (by unfold qv; rfl) (by rw [Nat.pow_one, WB_eq]; decide) (by rw [Nat.pow_one, WB_eq]; decide)
theorem half_den : (1 / 2 : Rat).den ≠ 1 := by decide +kernel
theorem Muls.num {x : Rat} (h : RB x 2) {k : Nat} (hk : k ≤ 6) : Muls (vNum x) k where
  a := by
    rw [mulV_num]
    exact con_times0 rfl (con_prod1 (RB.nat (small_wb hk) (by decide)) h (by decide))
  b := by
    rw [mulV_num, Rat.mul_comm]
    exact con_times0 rfl (con_prod1 h (RB.nat (small_wb hk) (by decide)) (by decide))
  h := ⟨_, 0, con_times0 rfl (con_prod1 half_RB h (by decide)), .inl ⟨by simp, rfl⟩⟩
  d := by
    have c := con_diff (con_neg1 h (by decide)) (con_sum1 h h.neg (by decide))
    rw [← Rat.sub_eq_add_neg, Rat.sub_self] at c
    rw [mulV_num, Rat.intCast_zero, Rat.zero_mul]
    exact c
  s := fun i hi => by
    rw [mulV_num, mulV_num, Int.natCast_add, Rat.intCast_add, Rat.add_mul, show ((1 : Nat) : Int) = 1 from rfl, Rat.intCast_one, Rat.one_mul]
    exact con_sum1 ((RB.nat (small_wb (show i ≤ 6 by omega)) (by decide)).mul h) h (by decide)
  c := fun i hi => by
    rw [mulV_num]
    exact .one (.num _ (((RB.nat (small_wb (show i ≤ 6 by omega)) (by decide)).mul h).mono (by decide)))
  kk := fun i => by rw [mulV_num]
theorem Muls.mat {r c : Nat} {vs : List Rat} (hl : vs.length = r * c) (hr : r ≤ 64) (hc : c ≤ 64) (h : ∀ v ∈ vs, RB v 2) {k : Nat} (hk : k ≤ 6) : Muls (vMat r c vs) k where
  a := by
    rw [mulV_mat]
    exact con_times1 rfl (by simp) (con_mul2 (RB.nat (small_wb hk) (by decide)) h hl hr hc (by decide) (by decide) (by decide))
  b := by
    rw [mulV_mat]
    exact con_times2 rfl (by simp) (con_mul2 (RB.nat (small_wb hk) (by decide)) h hl hr hc (by decide) (by decide) (by decide))
  h := ⟨_, 0, con_times1 rfl (by simp) (con_mul2 half_RB h hl hr hc (by decide) (by decide) (by decide)), .inl ⟨by simp, rfl⟩⟩
  d := by
    rw [mulV_mat, ← mNeg]
    exact con_diff (con_neg2 h hl hr hc (by decide) (by decide)) (con_sum2 h (mScale_RB h (RB.ofI (z := -1) (by rw [Nat.pow_one, WB_eq]; decide) (by decide) : RB (((-1 : Int)) : Rat) 1) (by decide)) hl (mScale_len r c vs _) hr hc (by decide) (by decide) (by decide))
  s := fun i hi => by
    rw [mulV_mat, mulV_mat, Int.natCast_add, show ((1 : Nat) : Int) = 1 from rfl, ← mSum]
    exact con_sum2 (mScale_RB h (RB.nat (small_wb (show i ≤ 6 by omega)) (by decide)) (by decide)) h (mScale_len r c vs _) hl hr hc (by decide) (by decide) (by decide)
  c := fun i hi => by
    rw [mulV_mat]
    exact .one (.mat _ _ _ (mScale_len r c vs _) hr hc fun v hv => (mScale_RB h (RB.nat (small_wb (show i ≤ 6 by omega)) (by decide)) (by decide) v hv).mono (by decide))
  kk := fun i => by rw [mulV_mat]
theorem int_wb {i : Nat} (h : i ≤ 6) : ((i : Int)).natAbs < WB ^ 1 := by rw [Int.natAbs_natCast]; exact small_wb h
theorem Muls.pol {zs : List Int} (hl : zs.length ≤ 10000) (hn : pN zs) (h : ∀ z ∈ zs, z.natAbs < WB ^ 2) {k : Nat} (hk : k ≤ 6) : Muls (vPol zs) k where
  a := by
    rw [mulV_pol]
    exact con_times1 rfl (by simp) (con_mul3 (int_wb hk) (by decide) h hl (by decide))
  b := by
    rw [mulV_pol]
    exact con_times2 rfl (by simp) (con_mul3 (int_wb hk) (by decide) h hl (by decide))
  h := ⟨_, 5, con_times1 rfl (by simp) (con_mul3n half_RB (by decide) half_den), .inr ⟨rfl, rfl⟩⟩
  d := by
    rw [mulV_pol, ← pNeg]
    exact con_diff (con_neg3 h hl (by decide)) (con_sum3 h (pSub0_bd h) hl (Nat.le_trans (pBoth_len [] zs) (by simp; omega)) (by decide))
  s := fun i hi => by
    rw [mulV_pol, mulV_pol, Int.natCast_add, show ((1 : Nat) : Int) = 1 from rfl, ← pSum]
    exact con_sum3 (pScale_bd h (int_wb (show i ≤ 6 by omega))) h (Nat.le_trans (pScale_len _ _) hl) hl (by decide)
  c := fun i hi => by
    rw [mulV_pol]
    exact .one (.pol _ (Nat.le_trans (pScale_len _ _) hl) (pScale_pN _ _) fun z hz => Nat.lt_of_lt_of_le (pScale_bd h (int_wb (show i ≤ 6 by omega)) z hz) (Nat.pow_le_pow_right WB_pos (by decide)))
  kk := fun i => by rw [mulV_pol]
end Go.Proofs.YtfhpmbenldgfnaaGreatDoor
/- The statement ValueMultiples answers true. -/
set_option linter.unusedVariables false
set_option linter.unusedSimpArgs false
namespace Go.Proofs.YtfhpmbenldgfnaaGreatDoor
open Go.RowKit QM SX LA
attribute [local irreducible] IntKind.wrap Go1 Reg WP thenK inBlk retQ retF RetF RetOK ResOK CallOK OpOK Sat
attribute [local irreducible] qsub qmul qquo qcmp qadd qv redS mf PrP qOk zOk vP fp64 lz vF cq rqv plen pNorm pBoth pScale mulV vW
theorem con_fewT {u v : Vl} (hu : vW 3 u) (hv : vW 3 v) : PureOK Tryz.prog 12 [.agg (vlA u), .agg (vlA v)] (.v (.bool true)) := by
  have c1 := (con_Few29 3 u (by decide)).1 hu
  have c2 := (con_Few29 3 v (by decide)).1 hv
  refine PureOK.fnF Tryz.func12 Tryz.results12 Tryz.ntmps12 rfl rfl rfl (by simp [AV.ids, AV0.ids, Atom.ids]) rfl (fun w0 T B E0 hB => ?_)
  refine SX.goJ ?_
  exact retB rfl
theorem con_fewF {u v : Vl} (h : ¬ (vW 3 u ∧ vW 3 v)) : PureOK Tryz.prog 12 [.agg (vlA u), .agg (vlA v)] (.v (.bool false)) := by
  by_cases hu : vW 3 u
  · have c1 := (con_Few29 3 u (by decide)).1 hu
    have c2 := (con_Few29 3 v (by decide)).2 fun hv => h ⟨hu, hv⟩
    refine PureOK.fnF Tryz.func12 Tryz.results12 Tryz.ntmps12 rfl rfl rfl (by simp [AV.ids, AV0.ids, Atom.ids]) rfl (fun w0 T B E0 hB => ?_)
    refine SX.goJ ?_
    exact retB rfl
  · have c1 := (con_Few29 3 u (by decide)).2 hu
    refine PureOK.fnF Tryz.func12 Tryz.results12 Tryz.ntmps12 rfl rfl rfl (by simp [AV.ids, AV0.ids, Atom.ids]) rfl (fun w0 T B E0 hB => ?_)
    refine SX.goJ ?_
    exact retB rfl
theorem half_make : PureOK Tryz.prog 24 [.agg (zN 1), .agg (zN 2)] (.tup [.agg (qA (1 / 2)), .one (.c (.val (.bool true)))]) := by
  haveI z1 : ZI (zN 1) 1 1 := (ZQ.made (z := 1) (K := 1) (by rw [WB_eq]; decide)).zi
  haveI z2 : ZI (zN 2) 2 1 := (ZQ.made (z := 2) (K := 1) (by rw [WB_eq]; decide)).zi
  have h := (con_rMake (l := zN 1) (l' := zN 2) (x := 1) (y := 2)).h (by decide)
  rw [rmk_q, show qv 1 2 = 1 / 2 by unfold qv; rfl] at h
  exact h
theorem half_num : PureOK Tryz.prog 25 [.agg (qA (1 / 2))] (.agg (vlA (vNum (1 / 2)))) := con_Number (q := q4v (1 / 2)) half_RB.ra (by decide)
theorem of_nat (k : Nat) (hk : k ≤ 4611686018427387903) : PureOK Tryz.prog 23 [.v (.int .i64 (k : Int))] (.agg (zN (k : Int))) := con_zOf.h ⟨by omega, by omega⟩
theorem whole_nat (k : Nat) (hk : k ≤ 4611686018427387903) : PureOK Tryz.prog 22 [.agg (zN (k : Int))] (.agg (vlA (vNum ((k : Int) : Rat)))) := con_Whole (K := 1) (z := (k : Int)) (ZQ.made (by rw [Nat.pow_one, WB_eq, Int.natAbs_natCast]; omega)) (by decide) (by decide)
set_option maxRecDepth 20000 in
set_option maxHeartbeats 4000000 in
theorem Mul_ok1 (n : Int) {k : Nat} (hn : n.tmod 7 = (k : Int)) (hk : k ≤ 6) {v : Vl} (hF : PureOK Tryz.prog 28 [.agg (vlA v)] (.v (.bool true))) (hi : PureOK Tryz.prog 14 [.agg (vlA v)] (.v (.bool true))) (hf : PureOK Tryz.prog 12 [.agg (vlA v), .agg (vlA v)] (.v (.bool true)))
    (hv : v.k ≤ 3) (m : Muls v k) : PureOK Tryz.prog 5 [.v (.int .u8 n), .agg (vlA v)] (.v (.bool true)) := by
  have cW := con_awake29
  have o1 := of_nat k (by omega)
  have w1 := whole_nat k (by omega)
  have o2 := of_1
  have o3 : PureOK Tryz.prog 23 [.v (.int .i64 2)] (.agg (zN 2)) := of_nat 2 (by decide)
  have hm := half_make
  have hN := half_num
  have hkF := (Cv.one (n := 0) (.num _ (RB.nat (small_wb hk) (by decide)) : Sh 1 (vNum ((k : Int) : Rat)))).F (by decide) (by decide)
  have hhF := (Cv.one (n := 0) (.num _ half_RB : Sh 1 (vNum (1 / 2)))).F (by decide) (by decide)
  have b1 := con_Bin6 hkF hF m.a
  have b2 := con_Bin6 hF hkF m.b
  obtain ⟨w, e, h3, he⟩ := m.h
  have b3 := con_Bin6 hhF hF h3
  have b4 : PureOK Tryz.prog 13 [.v (.int .i64 5), .agg (vlA v), .agg (vlA v)] (.tup [.agg (vlA (mulV ((0 : Nat) : Int) v)), eNo 0]) := con_Bin5 hF hF rfl m.d
  have s1 := con_Same (m.c k (Nat.le_refl _)) (m.c k (Nat.le_refl _)) (by decide) (by decide) (by decide)
  rw [sameV_self] at s1
  have hs : ∀ i, i < k → PureOK Tryz.prog 13 [.v (.int .i64 4), .agg (vlA (mulV (i : Int) v)), .agg (vlA v)] (.tup [.agg (vlA (mulV ((i + 1 : Nat) : Int) v)), eNo 0]) := fun i hi => con_Bin4 ((m.c i (by omega)).F (by decide) (by decide)) hF (m.kk _) (m.s i hi)
  clear m hF h3
  refine PureOK.fnF Tryz.func5 Tryz.results5 Tryz.ntmps5 rfl rfl rfl (by simp [AV.ids, AV0.ids, Atom.ids]) rfl (fun w0 T B E0 hB => ?_)
  rcases he with ⟨h3, rfl⟩ | ⟨h3, rfl⟩
  · have hq : (!(decide ((0 : Int) = 0) == decide (v.k ≠ 3))) = false := by rw [decide_eq_true h3]; rfl
    refine SX.goJ ?_
    refine W.loop (fun i => i ≤ k) (fun i => [(3, .ptr 3 0), (5, .v (.int .i64 (k : Int))), (6, .ptr 6 0), (7, .v (.int .i64 0)), (8, .ptr 8 0), (9, .v (.int .i64 0)), (14, .ptr 14 0), (15, .v (.int .i64 0)), (16, .v (.int .i64 (i : Int)))]) (fun i => [(3, .box 39 (vlA v)), (6, .box 39 (vlA (mulV (k : Int) v))), (8, .box 39 (vlA (mulV (k : Int) v))), (14, .box 39 (vlA (mulV (i : Int) v)))]) (fun i => k - i) 0 (Nat.zero_le _) (fun i hi => ?_)
      (by
        refine SX.St.le_to [] (by intro b h; cases h) ?_ ?_ rfl
        · repeat (first | exact trivial | refine ⟨⟨_, rfl, SX.AVto.same rfl⟩, ?_⟩)
        · repeat (first | exact trivial | refine ⟨SX.EntTo.same rfl rfl, ?_⟩))
    by_cases h : i < k
    · have c := hs i h
      refine SX.goJ ?_
      exact W.next (i + 1) h (by omega)
    · obtain rfl : i = k := by omega
      refine SX.goJ ?_
      exact retB rfl
  · have hq : (!(decide ((5 : Int) = 0) == decide (v.k ≠ 3))) = false := by rw [show decide (v.k ≠ 3) = false from decide_eq_false (fun h => h h3)]; rfl
    refine SX.goJ ?_
    refine W.loop (fun i => i ≤ k) (fun i => [(3, .ptr 3 0), (5, .v (.int .i64 (k : Int))), (6, .ptr 6 0), (7, .v (.int .i64 0)), (8, .ptr 8 0), (9, .v (.int .i64 0)), (14, .ptr 14 0), (15, .v (.int .i64 0)), (16, .v (.int .i64 (i : Int)))]) (fun i => [(3, .box 39 (vlA v)), (6, .box 39 (vlA (mulV (k : Int) v))), (8, .box 39 (vlA (mulV (k : Int) v))), (14, .box 39 (vlA (mulV (i : Int) v)))]) (fun i => k - i) 0 (Nat.zero_le _) (fun i hi => ?_)
      (by
        refine SX.St.le_to [] (by intro b h; cases h) ?_ ?_ rfl
        · repeat (first | exact trivial | refine ⟨⟨_, rfl, SX.AVto.same rfl⟩, ?_⟩)
        · repeat (first | exact trivial | refine ⟨SX.EntTo.same rfl rfl, ?_⟩))
    by_cases h : i < k
    · have c := hs i h
      refine SX.goJ ?_
      exact W.next (i + 1) h (by omega)
    · obtain rfl : i = k := by omega
      refine SX.goJ ?_
      exact retB rfl
section
variable (n : Int) {k : Nat} (hn : n.tmod 7 = (k : Int)) (hk : k ≤ 6) {v : Vl}
include hn hk
theorem Mul_ok2 (hF : PureOK Tryz.prog 28 [.agg (vlA v)] (.v (.bool true))) (hi : PureOK Tryz.prog 14 [.agg (vlA v)] (.v (.bool true))) (hf : PureOK Tryz.prog 12 [.agg (vlA v), .agg (vlA v)] (.v (.bool true)))
    (hv : v.k > 3) : PureOK Tryz.prog 5 [.v (.int .u8 n), .agg (vlA v)] (.v (.bool true)) := by
  have cW := con_awake29
  have o1 := of_nat k (by omega)
  have w1 := whole_nat k (by omega)
  have o2 := of_1
  have o3 : PureOK Tryz.prog 23 [.v (.int .i64 2)] (.agg (zN 2)) := of_nat 2 (by decide)
  have hm := half_make
  have hN := half_num
  have hkF := (Cv.one (n := 0) (.num _ (RB.nat (small_wb hk) (by decide)) : Sh 1 (vNum ((k : Int) : Rat)))).F (by decide) (by decide)
  have hhF := (Cv.one (n := 0) (.num _ half_RB : Sh 1 (vNum (1 / 2)))).F (by decide) (by decide)
  have b1 := con_Bin6 hkF hF (con_times1 rfl (by omega) (con_mulE (by omega)))
  have b2 := con_Bin6 hF hkF (con_times2 rfl (by omega) (con_mulE (by omega)))
  have b3 := con_Bin6 hhF hF (con_times1 rfl (by omega) (con_mulE (by omega)))
  have c0 := con_none0
  clear hF
  refine PureOK.fnF Tryz.func5 Tryz.results5 Tryz.ntmps5 rfl rfl rfl (by simp [AV.ids, AV0.ids, Atom.ids]) rfl (fun w0 T B E0 hB => ?_)
  refine SX.goJ ?_
  exact retB rfl
theorem Mul_ok3 (hF : PureOK Tryz.prog 28 [.agg (vlA v)] (.v (.bool false))) (hi : PureOK Tryz.prog 14 [.agg (vlA v)] (.v (.bool false))) (hf : PureOK Tryz.prog 12 [.agg (vlA v), .agg (vlA v)] (.v (.bool true))) :
    PureOK Tryz.prog 5 [.v (.int .u8 n), .agg (vlA v)] (.v (.bool true)) := by
  have cW := con_awake29
  have o1 := of_nat k (by omega)
  have w1 := whole_nat k (by omega)
  have o2 := of_1
  have o3 : PureOK Tryz.prog 23 [.v (.int .i64 2)] (.agg (zN 2)) := of_nat 2 (by decide)
  have hm := half_make
  have hN := half_num
  have hkF := (Cv.one (n := 0) (.num _ (RB.nat (small_wb hk) (by decide)) : Sh 1 (vNum ((k : Int) : Rat)))).F (by decide) (by decide)
  have hhF := (Cv.one (n := 0) (.num _ half_RB : Sh 1 (vNum (1 / 2)))).F (by decide) (by decide)
  have b1 := con_BinF2 6 hkF hF
  have b2 := con_BinF1 (v := vNum ((k : Int) : Rat)) 6 hF
  have b3 := con_BinF2 6 hhF hF
  clear hF
  refine PureOK.fnF Tryz.func5 Tryz.results5 Tryz.ntmps5 rfl rfl rfl (by simp [AV.ids, AV0.ids, Atom.ids]) rfl (fun w0 T B E0 hB => ?_)
  refine SX.goJ ?_
  exact retB rfl
end
theorem ValueMultiples_ok (n : Int) (hz : IntKind.u8.wrap n = n) (v : Vl) (hrW : rW v) : PureOK Tryz.prog 5 [.v (.int .u8 n), .agg (vlA v)] (.v (.bool true)) := by
  obtain ⟨m, rfl⟩ : ∃ m : Nat, n = m := ⟨n.toNat, by rw [IntKind.wrap_u8] at hz; omega⟩
  have hn : (m : Int).tmod 7 = ((m % 7 : Nat) : Int) := by
    rw [show (7 : Int) = ((7 : Nat) : Int) from rfl, tmod_nat]
  have hk : m % 7 ≤ 6 := by omega
  by_cases hw : vW 3 v
  · have hf := con_fewT hw hw
    have hZ := vZ.few hw hrW
    have cF := con_vFormed hZ
    have ci := con_is hZ
    by_cases hF : vF 20 v = true
    · rw [hF] at cF ci
      have hC := Cv.of hw hrW hF
      cases hC with
      | one h =>
        cases h with
        | num x h => exact Mul_ok1 _ hn hk cF ci hf (by simp) (Muls.num h hk)
        | mat r c vs hl hr hc h => exact Mul_ok1 _ hn hk cF ci hf (by simp) (Muls.mat hl hr hc h hk)
        | pol zs hl hn' h => exact Mul_ok1 _ hn hk cF ci hf (by simp) (Muls.pol hl hn' h hk)
        | fld p r c l hp hl hr hc h => exact Mul_ok2 _ hn hk cF ci hf (by simp)
        | rng p l hp hl hn' h => exact Mul_ok2 _ hn hk cF ci hf (by simp)
      | lst l hl h => exact Mul_ok2 _ hn hk cF ci hf (by simp)
    · rw [Bool.eq_false_iff.2 hF] at cF ci
      exact Mul_ok3 _ hn hk cF ci hf
  · have cW := con_awake29
    have hf := con_fewF (u := v) (v := v) fun h => hw h.1
    refine PureOK.fnF Tryz.func5 Tryz.results5 Tryz.ntmps5 rfl rfl rfl (by simp [AV.ids, AV0.ids, Atom.ids]) rfl (fun w0 T B E0 hB => ?_)
    refine SX.goJ ?_
    exact retB rfl
end Go.Proofs.YtfhpmbenldgfnaaGreatDoor

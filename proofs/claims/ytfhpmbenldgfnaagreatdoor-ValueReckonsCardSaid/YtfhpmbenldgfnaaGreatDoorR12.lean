import Derived.Test.YtfhpmbenldgfnaaGreatDoorR10
import Derived.Test.YtfhpmbenldgfnaaGreatDoorR26
import Derived.Test.YtfhpmbenldgfnaaGreatDoorR11
import Derived.Test.YtfhpmbenldgfnaaGreatDoorR7
set_option linter.unusedVariables false
set_option linter.unusedSimpArgs false
namespace Go.Proofs.YtfhpmbenldgfnaaGreatDoor
open Go.RowKit QM SX
open Go.ChangeShapes Go.WideShapes Go.ChangeAt Go.Joins
section
variable {H : Type} {enc : TypeId × Value → H} {P : Program} {W : World} {base : Nat} {sp : Nat → Bool} {hd : Bool}
theorem DecF.imp {α β : Type} {n : Nat} {t : TypeId} {e : α → List CA} {φ : α → Prop} {e' : β → List CA} {ψ : β → Prop} (h : DecF enc P W base sp hd n t e φ) (f : α → β) (hf : ∀ a, φ a → ψ (f a)) (he : ∀ a cs, φ a → All2 (CA.has none' W) (e a) cs → All2 (CA.has none' W) (e' (f a)) cs) : DecF enc P W base sp hd n t e' ψ :=
  fun cs x hx => let ⟨a, h1, h2⟩ := h cs x hx; ⟨f a, hf a h1, he a cs h1 h2⟩
def u64C (z : Int) : List CA := [.val (.int .u64 z)]
instance : EncLen u64C 1 := ⟨fun _ => rfl⟩
theorem decNat (n : Nat) : DecF enc Tryz.prog W base sp hd n 23 (fun l : List Nat => [.sat (rawN l)]) (fun _ => True) :=
  DecF.all (fun n => DecF.imp (dec_slice (enc' := u64C) Tryz.underlying23 (by kernel_rfl) (dec_int Tryz.underlying33)) (fun l => l.map Int.toNat) (fun _ _ => trivial) (fun l cs hl hall => by
    match cs, hall with
    | [v], ⟨h1, _⟩ =>
      refine ⟨?_, trivial⟩
      have hb : ∀ z ∈ l, 0 ≤ z ∧ z ≤ 18446744073709551615 := fun z hz => bounds_u64 (hl.2 z hz)
      refine rawN_iff.2 ⟨?_, ?_⟩
      · intro x hx
        obtain ⟨z, hz, rfl⟩ := List.mem_map.1 hx
        have := hb z hz
        rw [WB_eq]; omega
      · have e : (l.map Int.toNat).map (fun x : Nat => CA.val (.int .u64 (x : Int))) = l.flatMap u64C := by
          clear h1 hall hl
          induction l with
          | nil => rfl
          | cons z l ih =>
            have := hb z (by simp)
            rw [List.map_cons, List.map_cons, List.flatMap_cons, ih (fun y hy => hb y (by simp [hy]))]
            show _ :: _ = CA.val (.int .u64 z) :: _
            rw [show ((z.toNat : Nat) : Int) = z by omega]; rfl
        rw [e, List.length_map]; exact h1)) n
end
end Go.Proofs.YtfhpmbenldgfnaaGreatDoor
set_option linter.unusedVariables false
set_option linter.unusedSimpArgs false
namespace Go.Proofs.YtfhpmbenldgfnaaGreatDoor
open Go.RowKit QM SX LA
open Go.ChangeShapes Go.WideShapes Go.ChangeAt Go.Joins
section
variable {H : Type} {enc : TypeId × Value → H} {W : World} {base : Nat} {sp : Nat → Bool} {hd : Bool}
theorem sm_of {l : List Nat} : ∀ {cs : List Value}, All2 (CA.has none' W) [.sat (rawN l)] cs → Sm WB l
  | [v], h => (rawN_iff.1 h.1).1
theorem decNatS (n : Nat) : DecF enc Tryz.prog W base sp hd n 23 (fun l : List Nat => [.sat (rawN l)]) (fun l => Sm WB l) :=
  fun cs x hx => let ⟨l, _, h2⟩ := decNat n cs x hx; ⟨l, sm_of h2, h2⟩
theorem decZS (n : Nat) : DecF enc Tryz.prog W base sp hd n 25 (fun p : Bool × List Nat => [.val (.bool p.1), .sat (rawN p.2)]) (fun p => Sm WB p.2) :=
  DecF.all (fun n => DecF.conv (dec_struct2 Tryz.underlying25 rfl (by kernel_rfl) (by kernel_rfl) (dec_bool Tryz.underlying4) (decNatS n)) id (fun _ h => h.2) (fun _ => rfl)) n
def rqC (p : RawQ) : List CA := q4C (rq p)
instance : EncLen rqC 4 := ⟨fun _ => rfl⟩
theorem decRatS (n : Nat) : DecF enc Tryz.prog W base sp hd n 27 rqC (fun p => Sm WB p.2.1 ∧ Sm WB p.2.2.2) :=
  DecF.all (fun n => DecF.conv (dec_struct2 Tryz.underlying27 rfl (by kernel_rfl) (by kernel_rfl) (decZS n) (decZS n)) (fun p => (p.1.1, p.1.2, p.2.1, p.2.2)) (fun _ h => h) (fun _ => rfl)) n
abbrev RawM := Int × Int × List RawQ
theorem rq_row (l : List RawQ) : rowR 4 rqC l = rowR 4 q4C (l.map rq) := by
  show sliceR 4 l.length (l.flatMap rqC) = sliceR 4 (l.map rq).length ((l.map rq).flatMap q4C)
  rw [List.length_map, List.flatMap_map]; rfl
theorem decRatsS (n : Nat) : DecF enc Tryz.prog W base sp hd n 28 (fun l : List RawQ => [.sat (rowR 4 rqC l)]) (fun l => l.length ≤ maxLen ∧ ∀ a ∈ l, Sm WB a.2.1 ∧ Sm WB a.2.2.2) :=
  DecF.all (fun n => dec_slice Tryz.underlying28 (by kernel_rfl) (decRatS n)) n
theorem decMat (n : Nat) : DecF enc Tryz.prog W base sp hd n 30 (fun p : RawM => [.val (.int .i64 p.1), .val (.int .i64 p.2.1), .sat (rowR 4 q4C (p.2.2.map rq))]) (fun p => RSm p.2.2) :=
  DecF.all (fun n => DecF.conv (dec_struct3 Tryz.underlying30 rfl (by kernel_rfl) (by kernel_rfl) (by kernel_rfl) (dec_int Tryz.underlying3) (dec_int Tryz.underlying3) (decRatsS n)) id (fun p h => h.2.2.2) (fun p => by
    show [CA.val (.int .i64 p.1), CA.val (.int .i64 p.2.1), CA.sat (rowR 4 q4C (p.2.2.map rq))] = [CA.val (.int .i64 p.1), CA.val (.int .i64 p.2.1), CA.sat (rowR 4 rqC p.2.2)]
    rw [rq_row])) n
end
attribute [local irreducible] IntKind.wrap Go1 Reg WP thenK inBlk retQ retF RetF RetOK ResOK CallOK OpOK Sat
attribute [local irreducible] qsub qmul qquo qcmp qadd qv redS mf
theorem FewP.len {r c : Int} {l : List RawQ} {s : Int} {w : Nat} (h : FewP r c l s w) : RLen l w := by
  intro x hx
  obtain ⟨i, hi⟩ := List.mem_iff_getElem?.1 hx
  have hil := at_lt hi
  have := h.1 i x (by have := h.2.2.2; omega) hi
  omega
end Go.Proofs.YtfhpmbenldgfnaaGreatDoor
set_option linter.unusedVariables false
set_option linter.unusedSimpArgs false
namespace Go.Proofs.YtfhpmbenldgfnaaGreatDoor
open Go.RowKit QM SX LA
attribute [local irreducible] IntKind.wrap Go1 Reg WP thenK inBlk retQ retF RetF RetOK ResOK CallOK OpOK Sat
attribute [local irreducible] qsub qmul qquo qcmp qadd qv redS mf
theorem prod_RB {c K K' : Nat} {va vb : Nat → Nat → Rat} {i k : Nat} (ha : ∀ j, j < c → RB (va i j) K) (hb : ∀ j, j < c → RB (vb j k) K') : RB (prodV c va vb i k) (1 + c * (K + K' + 1)) :=
  sm_RB fun j hj => (ha j hj).mul (hb j hj)
end Go.Proofs.YtfhpmbenldgfnaaGreatDoor
set_option linter.unusedVariables false
set_option linter.unusedSimpArgs false
namespace Go.Proofs.YtfhpmbenldgfnaaGreatDoor
open Go.RowKit QM SX LA
attribute [local irreducible] IntKind.wrap Go1 Reg WP thenK inBlk retQ retF RetF RetOK ResOK CallOK OpOK Sat
attribute [local irreducible] qsub qmul qquo qcmp qadd qv redS mf
end Go.Proofs.YtfhpmbenldgfnaaGreatDoor
set_option linter.unusedVariables false
set_option linter.unusedSimpArgs false
namespace Go.Proofs.YtfhpmbenldgfnaaGreatDoor
open Go.RowKit QM SX LA
attribute [local irreducible] IntKind.wrap Go1 Reg WP thenK inBlk retQ retF RetF RetOK ResOK CallOK OpOK Sat
attribute [local irreducible] qsub qmul qquo qcmp qadd qv redS mf
theorem nil_rowG {α : Type} {enc : α → List CA} {size : Nat} {E : Env} {S : Nat → Prop} {w : World} {v : Value} (h : (Atom.c (.val (.slice none 0 0))).has E S w v) : (Atom.c (.sat (rowR size enc ([] : List α)))).has E S w v := by
  rw [show v = .slice none 0 0 from h]; exact nil_row
theorem mat0_imp {α : Type} {enc : α → List CA} {size : Nat} : AV0.imp (.agg mat0) (.agg [.c (.val (.int .i64 ((0 : Nat) : Int))), .c (.val (.int .i64 ((0 : Nat) : Int))), .c (.sat (rowR size enc ([] : List α)))]) := fun E S w v ⟨vs, h1, h2⟩ => by
  refine ⟨vs, h1, ?_⟩
  clear h1
  match vs, h2 with
  | [a, b, c], ⟨k1, k2, k3, _⟩ => exact ⟨k1, k2, nil_rowG k3, trivial⟩
abbrev ptrM (r c : Nat) (l : List Q4) : AV := .r (ptrR [.val (.int .i64 (r : Int)), .val (.int .i64 (c : Int)), .sat (rowR 4 q4C l)])
def q0 : Q4 := q4v 0
def qat (l : List Q4) (c i k : Nat) : Q4 := l.getD (i * c + k) q0
theorem qat_at {l : List Q4} {r c i k : Nat} (hl : l.length = r * c) (hi : i < r) (hk : k < c) : l[i * c + k]? = some (qat l c i k) := by
  have h := idx_lt hi hk
  unfold qat
  rw [List.getD_eq_getElem?_getD, List.getElem?_eq_getElem (by omega)]; rfl
theorem MV.qat {r c i k K : Nat} {l : List Q4} {vs : List Rat} (hM : MV l vs K) (hl : l.length = r * c) (hi : i < r) (hk : k < c) : Ra (q4A (qat l c i k)) (vat vs c i k) K :=
  hM.ra _ _ _ (qat_at hl hi hk) (vat_at (by rw [← hM.len]; exact hl) hi hk)
theorem con_alike {r c r' c' : Nat} {l l' : List Q4} (hl : l.length = r * c) (hl' : l'.length = r' * c') (hr : r ≤ 64) (hc : c ≤ 64) (hr' : r' ≤ 64) (hc' : c' ≤ 64) (goal : Bool) (hg : goal = true ↔ r = r' ∧ c = c') :
    PureOK Tryz.prog 162 [.agg (matQ r c l), .agg (matQ r' c' l')] (.v (.bool goal)) := by
  have cF := cF_true (cells := l.flatMap q4C) hl hr hc
  have cF' := cF_true (cells := l'.flatMap q4C) hl' hr' hc'
  refine PureOK.fnF Tryz.func162 Tryz.results162 Tryz.ntmps162 rfl rfl rfl (by simp [AV.ids, AV0.ids, Atom.ids]) rfl (fun w0 T B E0 hB => ?_)
  by_cases h1 : (r : Int) = (r' : Int)
  · refine SX.goF ?_
    refine retB ?_
    rw [Bool.eq_iff_iff, hg, decide_eq_true_iff]; omega
  · refine SX.goF ?_
    refine retB ?_
    exact (Bool.eq_false_iff.2 fun ht => h1 (by have := (hg.1 ht).1; omega)).symm
theorem con_qmA1 {r c i k : Nat} {l l' : List Q4} {q q' : Q4} {v v' : Rat} {K K' : Nat} (hq : l[i * c + k]? = some q) (hq' : l'[i * c + k]? = some q') (ra : Ra (q4A q) v K) (ra' : Ra (q4A q') v' K') (hi : i ≤ 100) (hc : c ≤ 100) (hk : k ≤ 100) (hK : K + K' ≤ 400000) :
    PureOK Tryz.prog 163 [.v (.int .i64 (i : Int)), .v (.int .i64 (k : Int)), ptrM r c l, ptrM r c l'] (.agg (q4A (q4v (v + v')))) := by
  have cG := con_get (r := r) hq hi hc hk
  have cG' := con_get (r := r) hq' hi hc hk
  have cA := (con_qAdd (a := ra) (b := ra')).h (by omega)
  refine PureOK.fnF Tryz.func163 Tryz.results163 Tryz.ntmps163 rfl rfl rfl (by simp [AV.ids, AV0.ids, Atom.ids]) rfl (fun w0 T B E0 hB => ?_)
  refine SX.goF ?_
  exact retA (ResOK.agg4 rfl rfl rfl) rfl
theorem con_qmAdd {r c : Nat} {l l' : List Q4} {vs vs' : List Rat} {K K' : Nat} (hM : MV l vs K) (hl : l.length = r * c) (hM' : MV l' vs' K') (hl' : l'.length = r * c) (hr : r ≤ 64) (hc : c ≤ 64) (h1 : 1 ≤ K) (h1' : 1 ≤ K') (hK : K + K' ≤ 300000) :
    PureOK Tryz.prog 77 [.agg (matQ r c l), .agg (matQ r c l')] (.tup [.agg (matA r c (tabR c (fun i k => vat vs c i k + vat vs' c i k) r)), eNo 0]) := by
  have cF := con_alike hl hl' hr hc hr hc true ⟨fun _ => ⟨rfl, rfl⟩, fun _ => rfl⟩
  have cM := con_made r c (.sat (cloR 163 [] [.sat (ptrR [.val (.int .i64 (r : Int)), .val (.int .i64 (c : Int)), .sat (rowR 4 q4C l)]), .sat (ptrR [.val (.int .i64 (r : Int)), .val (.int .i64 (c : Int)), .sat (rowR 4 q4C l')])])) (fun i k => q4v (vat vs c i k + vat vs' c i k)) (fun i k => vat vs c i k + vat vs' c i k) (K + K' + 1) (by omega) (by omega) (by omega)
    (fun i k hi hk => FnV.clo (con_qmA1 (qat_at hl hi hk) (qat_at hl' hi hk) (hM.qat hl hi hk) (hM'.qat hl' hi hk) (by omega) (by omega) (by omega) (by omega)))
    (fun i k hi hk => ((vat_RB (hM.rb h1) h1 c i k).add (vat_RB (hM'.rb h1') h1' c i k)).ra) rfl
  refine PureOK.fnF Tryz.func77 Tryz.results77 Tryz.ntmps77 rfl rfl rfl (by simp [AV.ids, AV0.ids, Atom.ids]) rfl (fun w0 T B E0 hB => ?_)
  refine SX.goF ?_
  refine SX.WP.freezeB 2 hB rfl rfl ?_
  refine SX.WP.freezeB 3 hB rfl rfl ?_
  refine SX.WP.regionL ?_
  refine SX.goF ?_
  exact .ok (RetOK.mk2 (ResOK.agg3 rfl rfl rfl) (ResOK.tmp rfl))
theorem con_qmAdd0 {r c r' c' : Nat} {l l' : List Q4} (hl : l.length = r * c) (hl' : l'.length = r' * c') (hr : r ≤ 64) (hc : c ≤ 64) (hr' : r' ≤ 64) (hc' : c' ≤ 64) (h : ¬ (r = r' ∧ c = c')) :
    PureOK Tryz.prog 77 [.agg (matQ r c l), .agg (matQ r' c' l')] (.tup [.agg (matQ 0 0 []), eNo 2]) := by
  have cF := con_alike hl hl' hr hc hr' hc' false ⟨fun h => (by cases h), fun e => absurd e h⟩
  refine PureOK.fnF Tryz.func77 Tryz.results77 Tryz.ntmps77 rfl rfl rfl (by simp [AV.ids, AV0.ids, Atom.ids]) rfl (fun w0 T B E0 hB => ?_)
  refine SX.goF ?_
  exact .ok (RetOK.mk2 ((ResOK.agg3 rfl rfl rfl).imp mat0_imp) (ResOK.tmp rfl))
theorem con_qmS1 {r c i k : Nat} {l : List Q4} {q d : Q4} {v v' : Rat} {K K' : Nat} (hq : l[i * c + k]? = some q) (ra : Ra (q4A q) v K) (ra' : Ra (q4A d) v' K') (hi : i ≤ 100) (hc : c ≤ 100) (hk : k ≤ 100) (hK : K + K' ≤ 400000) :
    PureOK Tryz.prog 160 [.v (.int .i64 (i : Int)), .v (.int .i64 (k : Int)), ptrM r c l, .r (ptrR [.val (.bool d.1), .sat d.2.1, .val (.bool d.2.2.1), .sat d.2.2.2])] (.agg (q4A (q4v (v * v')))) := by
  have cG := con_get (r := r) hq hi hc hk
  have cA := (con_qMul (a := ra) (b := ra')).h (by omega)
  refine PureOK.fnF Tryz.func160 Tryz.results160 Tryz.ntmps160 rfl rfl rfl (by simp [AV.ids, AV0.ids, Atom.ids]) rfl (fun w0 T B E0 hB => ?_)
  refine SX.goF ?_
  exact retA (ResOK.agg4 rfl rfl rfl) rfl
theorem con_qmScale {r c : Nat} {l : List Q4} {d : Q4} {vs : List Rat} {v : Rat} {K K' : Nat} (hM : MV l vs K) (hl : l.length = r * c) (hd : Ra (q4A d) v K') (hr : r ≤ 64) (hc : c ≤ 64) (h1 : 1 ≤ K) (h1' : 1 ≤ K') (hK : K + K' ≤ 300000) :
    PureOK Tryz.prog 76 [.agg (matQ r c l), .agg (q4A d)] (.tup [.agg (matA r c (tabR c (fun i k => vat vs c i k * v) r)), eNo 0]) := by
  have cF := cF_true (cells := l.flatMap q4C) hl hr hc
  have cM := con_made r c (.sat (cloR 160 [] [.sat (ptrR [.val (.int .i64 (r : Int)), .val (.int .i64 (c : Int)), .sat (rowR 4 q4C l)]), .sat (ptrR [.val (.bool d.1), .sat d.2.1, .val (.bool d.2.2.1), .sat d.2.2.2])])) (fun i k => q4v (vat vs c i k * v)) (fun i k => vat vs c i k * v) (K + K') (by omega) (by omega) (by omega)
    (fun i k hi hk => FnV.clo (con_qmS1 (qat_at hl hi hk) (hM.qat hl hi hk) hd (by omega) (by omega) (by omega) (by omega)))
    (fun i k hi hk => ((vat_RB (hM.rb h1) h1 c i k).mul (Ra.rb hd h1')).ra) rfl
  refine PureOK.fnF Tryz.func76 Tryz.results76 Tryz.ntmps76 rfl rfl rfl (by simp [AV.ids, AV0.ids, Atom.ids]) rfl (fun w0 T B E0 hB => ?_)
  refine SX.goF ?_
  refine SX.WP.freezeB 2 hB rfl rfl ?_
  refine SX.WP.freezeB 3 hB rfl rfl ?_
  refine SX.WP.regionL ?_
  refine SX.goF ?_
  exact .ok (RetOK.mk2 (ResOK.agg3 rfl rfl rfl) (ResOK.tmp rfl))
theorem con_qmM1 {r c d i k : Nat} {l l' : List Q4} {vs vs' : List Rat} {K K' : Nat} (hM : MV l vs K) (hl : l.length = r * c) (hM' : MV l' vs' K') (hl' : l'.length = c * d) (hi : i < r) (hk : k < d) (hr : r ≤ 100) (hc : c ≤ 100) (hd : d ≤ 100) (h1 : 1 ≤ K) (h1' : 1 ≤ K') (hB : 1 + (c + 1) * (K + K' + 1) ≤ 400000) :
    PureOK Tryz.prog 164 [.v (.int .i64 (i : Int)), .v (.int .i64 (k : Int)), ptrM r c l, ptrM c d l'] (.agg (q4A (q4v (prodV c (vat vs c) (vat vs' d) i k)))) := by
  have hKK : K + K' ≤ 400000 := by
    have := Nat.mul_le_mul_right (K + K' + 1) (show 1 ≤ c + 1 by omega)
    omega
  have hRB := vat_RB (hM.rb h1) h1 c
  have hRB' := vat_RB (hM'.rb h1') h1' d
  have hsm : ∀ j, j ≤ c → RB (sm j (fun j => vat vs c i j * vat vs' d j k)) (1 + j * (K + K' + 1)) := fun j _ => sm_RB fun j _ => (hRB i j).mul (hRB' j k)
  refine PureOK.fnF Tryz.func164 Tryz.results164 Tryz.ntmps164 rfl rfl rfl (by simp [AV.ids, AV0.ids, Atom.ids]) rfl (fun w0 T B E0 hB => ?_)
  refine SX.goF ?_
  refine W.loop (fun j => j ≤ c) (fun j => [(0, .v (.int .i64 (i : Int))), (1, .v (.int .i64 (k : Int))), (2, ptrM r c l), (3, ptrM c d l'), (6, .ptr 6 0), (7, .ptr 7 0), (11, .v (.int .i64 (c : Int))), (12, .v (.int .i64 (j : Int)))]) (fun j => [(6, .box 27 [.c (.val (.bool false)), .c (.val (.slice none 0 0)), .c (.val (.bool false)), .c (.val (.slice none 0 0))]), (7, .box 27 (qA (sm j (fun j => vat vs c i j * vat vs' d j k))))]) (fun j => c - j) 0 (Nat.zero_le _) (fun j hj => ?_)
    (by
      refine SX.St.le_to [] (by intro b h; cases h) ?_ ?_ rfl
      · repeat (first | exact trivial | refine ⟨⟨_, rfl, SX.AVto.same rfl⟩, ?_⟩)
      · exact ⟨SX.EntTo.same rfl rfl, SX.EntTo.same rfl rfl, trivial⟩)
  by_cases hj2 : j < c
  · obtain ⟨q, hq, ra⟩ := hM.at hl hi hj2
    obtain ⟨q', hq', ra'⟩ := hM'.at hl' hj2 hk
    have cA := con_get (r := r) hq (by omega) (by omega) (by omega)
    have cA' := con_get (r := c) hq' (by omega) (by omega) (by omega)
    have rs := (hsm j hj).ra
    have rp := ((hRB i j).mul (hRB' j k)).ra
    have hb2 := Nat.mul_le_mul_right (K + K' + 1) (show j + 1 ≤ c + 1 by omega)
    rw [Nat.succ_mul] at hb2
    have cM := (con_qMul (a := ra) (b := ra')).h (by omega)
    have cD := (con_qAdd (a := rs) (b := rp)).h (by omega)
    refine SX.goF ?_
    refine W.next (j + 1) hj2 (by omega) (by
      refine SX.St.le_to [] (by intro b h; cases h) ?_ ?_ rfl
      · repeat (first | exact trivial | refine ⟨⟨_, rfl, SX.AVto.same rfl⟩, ?_⟩)
      · exact ⟨SX.EntTo.same rfl rfl, SX.EntTo.same rfl rfl, trivial⟩)
  · obtain rfl : j = c := by omega
    refine SX.goF ?_
    exact retA (ResOK.agg4 rfl rfl rfl) rfl
theorem con_qmMul {r c d : Nat} {l l' : List Q4} {vs vs' : List Rat} {K K' : Nat} (hM : MV l vs K) (hl : l.length = r * c) (hM' : MV l' vs' K') (hl' : l'.length = c * d) (hr : r ≤ 64) (hc : c ≤ 64) (hd : d ≤ 64) (h1 : 1 ≤ K) (h1' : 1 ≤ K') (hB : 1 + (c + 1) * (K + K' + 1) ≤ 400000) :
    PureOK Tryz.prog 78 [.agg (matQ r c l), .agg (matQ c d l')] (.tup [.agg (matA r d (tabR d (prodV c (vat vs c) (vat vs' d)) r)), eNo 0]) := by
  have cF := cF_true (cells := l.flatMap q4C) hl hr hc
  have cF' := cF_true (cells := l'.flatMap q4C) hl' hc hd
  have cM := con_made r d (.sat (cloR 164 [] [.sat (ptrR [.val (.int .i64 (r : Int)), .val (.int .i64 (c : Int)), .sat (rowR 4 q4C l)]), .sat (ptrR [.val (.int .i64 (c : Int)), .val (.int .i64 (d : Int)), .sat (rowR 4 q4C l')])])) (fun i k => q4v (prodV c (vat vs c) (vat vs' d) i k)) (prodV c (vat vs c) (vat vs' d)) (1 + c * (K + K' + 1)) (by omega) (by omega) (by
      have := Nat.mul_le_mul_right (K + K' + 1) (show c ≤ c + 1 by omega); omega)
    (fun i k hi hk => FnV.clo (con_qmM1 hM hl hM' hl' hi hk (by omega) (by omega) (by omega) h1 h1' hB))
    (fun i k hi hk => (prod_RB (fun j _ => vat_RB (hM.rb h1) h1 c i j) (fun j _ => vat_RB (hM'.rb h1') h1' d j k)).ra) rfl
  refine PureOK.fnF Tryz.func78 Tryz.results78 Tryz.ntmps78 rfl rfl rfl (by simp [AV.ids, AV0.ids, Atom.ids]) rfl (fun w0 T B E0 hB => ?_)
  refine SX.goF ?_
  refine SX.WP.freezeB 2 hB rfl rfl ?_
  refine SX.WP.freezeB 3 hB rfl rfl ?_
  refine SX.WP.regionL ?_
  refine SX.goF ?_
  exact .ok (RetOK.mk2 (ResOK.agg3 rfl rfl rfl) (ResOK.tmp rfl))
theorem con_qmMul0 {r c r' d : Nat} {l l' : List Q4} (hl : l.length = r * c) (hl' : l'.length = r' * d) (hr : r ≤ 64) (hc : c ≤ 64) (hr' : r' ≤ 64) (hd : d ≤ 64) (h : ¬ c = r') :
    PureOK Tryz.prog 78 [.agg (matQ r c l), .agg (matQ r' d l')] (.tup [.agg (matQ 0 0 []), eNo 2]) := by
  have cF := cF_true (cells := l.flatMap q4C) hl hr hc
  have cF' := cF_true (cells := l'.flatMap q4C) hl' hr' hd
  have h2 : ¬ (c : Int) = (r' : Int) := by omega
  refine PureOK.fnF Tryz.func78 Tryz.results78 Tryz.ntmps78 rfl rfl rfl (by simp [AV.ids, AV0.ids, Atom.ids]) rfl (fun w0 T B E0 hB => ?_)
  refine SX.goF ?_
  exact .ok (RetOK.mk2 ((ResOK.agg3 rfl rfl rfl).imp mat0_imp) (ResOK.tmp rfl))
end Go.Proofs.YtfhpmbenldgfnaaGreatDoor
set_option linter.unusedVariables false
set_option linter.unusedSimpArgs false
namespace Go.Proofs.YtfhpmbenldgfnaaGreatDoor
open Go.RowKit QM SX LA
attribute [local irreducible] IntKind.wrap Go1 Reg WP thenK inBlk retQ retF RetF RetOK ResOK CallOK OpOK Sat
attribute [local irreducible] qsub qmul qquo qcmp qadd qv redS mf
end Go.Proofs.YtfhpmbenldgfnaaGreatDoor
set_option linter.unusedVariables false
set_option linter.unusedSimpArgs false
namespace Go.Proofs.YtfhpmbenldgfnaaGreatDoor
open Go.RowKit QM SX LA
attribute [local irreducible] IntKind.wrap Go1 Reg WP thenK inBlk retQ retF RetF RetOK ResOK CallOK OpOK Sat
attribute [local irreducible] qsub qmul qquo qcmp qadd qv redS mf
end Go.Proofs.YtfhpmbenldgfnaaGreatDoor
set_option linter.unusedVariables false
set_option linter.unusedSimpArgs false
namespace Go.Proofs.YtfhpmbenldgfnaaGreatDoor
open Go.RowKit QM SX LA
attribute [local irreducible] IntKind.wrap Go1 Reg WP thenK inBlk retQ retF RetF RetOK ResOK CallOK OpOK Sat
attribute [local irreducible] qsub qmul qquo qcmp qadd qv redS mf
abbrev ptrZ (r c : Nat) (l : List Z2) : AV := .r (ptrR [.val (.int .i64 (r : Int)), .val (.int .i64 (c : Int)), .sat (rowR 2 z2C l)])
def zat2 (l : List Z2) (c i k : Nat) : Z2 := l.getD (i * c + k) (z2v 0)
def smZ : Nat → (Nat → Int) → Int
  | 0, _ => 0
  | n + 1, f => smZ n f + f n
end Go.Proofs.YtfhpmbenldgfnaaGreatDoor
set_option linter.unusedVariables false
set_option linter.unusedSimpArgs false
namespace Go.Proofs.YtfhpmbenldgfnaaGreatDoor
open Go.RowKit QM SX LA
open Go.ChangeShapes Go.WideShapes Go.ChangeAt Go.Joins
abbrev RawZ := Bool × List Nat
abbrev rz (x : RawZ) : Z2 := (x.1, rawN x.2)
def rzv (x : RawZ) : Int := sgn x.1 (nval WB x.2)
def rzC (p : RawZ) : List CA := z2C (rz p)
abbrev RawW := Int × Int × List RawZ
section
variable {H : Type} {enc : TypeId × Value → H} {W : World} {base : Nat} {sp : Nat → Bool} {hd : Bool}
end
attribute [local irreducible] IntKind.wrap Go1 Reg WP thenK inBlk retQ retF RetF RetOK ResOK CallOK OpOK Sat
attribute [local irreducible] qsub qmul qquo qcmp qadd qv redS mf
theorem MZ.raw {l : List RawZ} {K : Nat} (hs : ∀ a ∈ l, Sm WB a.2) (hl : ∀ a ∈ l, a.2.length ≤ K) : MZ (l.map rz) (l.map rzv) K := by
  refine ⟨by rw [List.length_map, List.length_map], fun i q z hq hz => ?_⟩
  rw [List.getElem?_map] at hq hz
  cases hx : l[i]? with
  | none => rw [hx] at hq; cases hq
  | some x =>
    rw [hx] at hq hz
    cases hq; cases hz
    exact ZQ.raw (hs x (List.mem_of_getElem? hx)) (hl x (List.mem_of_getElem? hx))
def FewZ (r c : Int) (l : List RawZ) (s w : Int) : Prop := ((∀ k x, k < 100 → l[k]? = some x → (x.2.length : Int) ≤ w) ∧ l.length ≤ 100) ∧ r ≤ s ∧ c ≤ s
end Go.Proofs.YtfhpmbenldgfnaaGreatDoor
set_option linter.unusedVariables false
set_option linter.unusedSimpArgs false
namespace Go.Proofs.YtfhpmbenldgfnaaGreatDoor
open Go.RowKit QM SX LA
def lcmL : List Rat → Nat
  | [] => 1
  | v :: l => Nat.lcm (lcmL l) v.den
def lcmF (l : List Rat) : Nat := lcmL l.reverse
def qj (z : Int) : Rat := qv z 1
def clrM (vs : List Rat) : List Int := vs.map fun v => (v * qj (lcmF vs)).num
def gcdF (d : Nat) : List Int → Nat
  | [] => d
  | z :: l => gcdF (Nat.gcd d z.natAbs) l
def gcdK (d : Nat) (l : List Int) (k : Nat) : Nat := gcdF d (l.take k)
end Go.Proofs.YtfhpmbenldgfnaaGreatDoor
set_option linter.unusedVariables false
set_option linter.unusedSimpArgs false
namespace Go.Proofs.YtfhpmbenldgfnaaGreatDoor
open Go.RowKit QM SX LA
attribute [local irreducible] IntKind.wrap Go1 Reg WP thenK inBlk retQ retF RetF RetOK ResOK CallOK OpOK Sat
attribute [local irreducible] qsub qmul qquo qcmp qadd qv redS mf
end Go.Proofs.YtfhpmbenldgfnaaGreatDoor
set_option linter.unusedVariables false
set_option linter.unusedSimpArgs false
namespace Go.Proofs.YtfhpmbenldgfnaaGreatDoor
open Go.RowKit QM SX LA
attribute [local irreducible] IntKind.wrap Go1 Reg WP thenK inBlk retQ retF RetF RetOK ResOK CallOK OpOK Sat
attribute [local irreducible] qsub qmul qquo qcmp qadd qv redS mf
end Go.Proofs.YtfhpmbenldgfnaaGreatDoor
set_option linter.unusedVariables false
set_option linter.unusedSimpArgs false
namespace Go.Proofs.YtfhpmbenldgfnaaGreatDoor
open Go.RowKit QM SX LA
def wdC (w : Nat) : List CA := [.val (.int .u64 (w : Int))]
instance : EncLen wdC 1 := ⟨fun _ => rfl⟩
structure Vl where
  k : Int
  q : RawQ
  r : Int
  c : Int
  a : List RawQ
  po : List RawZ
  p : Nat
  fr : Int
  fc : Int
  fa : List Nat
  ri : List Nat
  li : List Vl
mutual
def vlC : Vl → List CA
  | ⟨k, q, r, c, a, po, p, fr, fc, fa, ri, li⟩ => [.val (.int .i64 k), .val (.bool q.1), .sat (rawN q.2.1), .val (.bool q.2.2.1), .sat (rawN q.2.2.2), .val (.int .i64 r), .val (.int .i64 c), .sat (rowR 4 q4C (a.map rq)), .sat (rowR 2 z2C (po.map rz)), .val (.int .u64 (p : Int)), .val (.int .i64 fr), .val (.int .i64 fc), .sat (rowR 1 wdC fa), .sat (rowR 1 wdC ri), .sat (sliceR 15 li.length (vlL li))]
def vlL : List Vl → List CA
  | [] => []
  | k :: ks => vlC k ++ vlL ks
end
theorem vlL_eq : ∀ ks : List Vl, vlL ks = ks.flatMap vlC
  | [] => by rw [vlL]; rfl
  | k :: ks => by rw [vlL, vlL_eq ks, List.flatMap_cons]
def vlE (v : Vl) : List CA := [.val (.int .i64 v.k), .val (.bool v.q.1), .sat (rawN v.q.2.1), .val (.bool v.q.2.2.1), .sat (rawN v.q.2.2.2), .val (.int .i64 v.r), .val (.int .i64 v.c), .sat (rowR 4 q4C (v.a.map rq)), .sat (rowR 2 z2C (v.po.map rz)), .val (.int .u64 (v.p : Int)), .val (.int .i64 v.fr), .val (.int .i64 v.fc), .sat (rowR 1 wdC v.fa), .sat (rowR 1 wdC v.ri), .sat (rowR 15 vlC v.li)]
theorem vlC_eq (v : Vl) : vlC v = vlE v := by
  cases v; rw [vlC, vlL_eq]; rfl
instance : EncLen vlC 15 := ⟨fun v => by rw [vlC_eq]; rfl⟩
instance : EncLen vlE 15 := ⟨fun v => rfl⟩
theorem row_vlE (l : List Vl) : rowR 15 vlC l = rowR 15 vlE l := by rw [show vlC = vlE from funext vlC_eq]
abbrev vlA (v : Vl) : List Atom := [.c (.val (.int .i64 v.k)), .c (.val (.bool v.q.1)), .c (.sat (rawN v.q.2.1)), .c (.val (.bool v.q.2.2.1)), .c (.sat (rawN v.q.2.2.2)), .c (.val (.int .i64 v.r)), .c (.val (.int .i64 v.c)), .c (.sat (rowR 4 q4C (v.a.map rq))), .c (.sat (rowR 2 z2C (v.po.map rz))), .c (.val (.int .u64 (v.p : Int))), .c (.val (.int .i64 v.fr)), .c (.val (.int .i64 v.fc)), .c (.sat (rowR 1 wdC v.fa)), .c (.sat (rowR 1 wdC v.ri)), .c (.sat (rowR 15 vlC v.li))]
def cq (v : Rat) : RawQ := (decide (v.num < 0), wds v.num.natAbs, decide ((v.den : Int) < 0), wds (v.den : Int).natAbs)
def cz (z : Int) : RawZ := (decide (z < 0), wds z.natAbs)
abbrev rq0 : RawQ := (false, [], false, [])
abbrev v0 : Vl := ⟨0, rq0, 0, 0, [], [], 0, 0, 0, [], [], []⟩
abbrev vNum (v : Rat) : Vl := ⟨1, cq v, 0, 0, [], [], 0, 0, 0, [], [], []⟩
abbrev vMat (r c : Nat) (vs : List Rat) : Vl := ⟨2, rq0, r, c, vs.map cq, [], 0, 0, 0, [], [], []⟩
abbrev vPol (zs : List Int) : Vl := ⟨3, rq0, 0, 0, [], zs.map cz, 0, 0, 0, [], [], []⟩
abbrev vFld (p r c : Nat) (l : List Nat) : Vl := ⟨4, rq0, 0, 0, [], [], p, r, c, l, [], []⟩
abbrev vRng (p : Nat) (l : List Nat) : Vl := ⟨5, rq0, 0, 0, [], [], p, 0, 0, [], l, []⟩
abbrev vLst (l : List Vl) : Vl := ⟨6, rq0, 0, 0, [], [], 0, 0, 0, [], [], l⟩
def AtomI (x y : Atom) : Prop := ∀ E S w v, x.has E S w v → y.has E S w v
theorem AtomI.refl (x : Atom) : AtomI x x := fun _ _ _ _ h => h
theorem agg_go {E : Env} {S : Nat → Prop} {w : World} : ∀ {l l' : List Atom}, All2 AtomI l l' → ∀ us, All2 (Atom.has E S w) l us → All2 (Atom.has E S w) l' us
  | [], [], _, _, h2 => h2
  | x :: l, y :: l', h, u :: us, h2 => ⟨h.1 _ _ _ _ h2.1, agg_go h.2 us h2.2⟩
theorem imp_agg {l l' : List Atom} (h : All2 AtomI l l') : AV0.imp (.agg l) (.agg l') := fun E S w v ⟨us, hu, h2⟩ => ⟨us, hu, agg_go h us h2⟩
theorem slice_imp {size n : Nat} {cells cells' : List CA} {S : Nat → Prop} {w : World} (hl : cells.length = cells'.length) (h : ∀ (i : Nat) (c c' : CA), cells[i]? = some c → cells'[i]? = some c' → ∀ u, c.has S w u → c'.has S w u) {v : Value} (hv : (sliceR size n cells).has S w v) : (sliceR size n cells').has S w v := by
  obtain ⟨oa, cap, h1, h2, h3, h4, h5, h6⟩ := sliceR_iff.1 hv
  refine sliceR_iff.2 ⟨oa, cap, h1, h2, h3, h4, by omega, fun i c' hc' => ?_⟩
  have hi := at_lt hc'
  obtain ⟨b, o, u, e1, e2, e3, e4⟩ := h6 i cells[i] (List.getElem?_eq_getElem (by omega))
  exact ⟨b, o, u, e1, e2, e3, h i _ _ (List.getElem?_eq_getElem (by omega)) hc' u e4⟩
theorem AtomI.slice {size n : Nat} {cells cells' : List CA} (hl : cells.length = cells'.length) (h : ∀ (i : Nat) (c c' : CA), cells[i]? = some c → cells'[i]? = some c' → ∀ S w u, c.has S w u → c'.has S w u) : AtomI (.c (.sat (sliceR size n cells))) (.c (.sat (sliceR size n cells'))) := fun E S w v hv => slice_imp hl (fun i c c' h1 h2 => h i c c' h1 h2 S w) hv
def CellI (x y : CA) : Prop := ∀ S w u, x.has S w u → y.has S w u
theorem CellI.refl (x : CA) : CellI x x := fun _ _ _ h => h
theorem All2.len {α β : Type} {R : α → β → Prop} : ∀ {l : List α} {l' : List β}, All2 R l l' → l.length = l'.length
  | [], [], _ => rfl
  | _ :: _, _ :: _, h => by rw [List.length_cons, List.length_cons, All2.len h.2]
theorem All2.at {α β : Type} {R : α → β → Prop} : ∀ {l : List α} {l' : List β}, All2 R l l' → ∀ (i : Nat) (a : α) (b : β), l[i]? = some a → l'[i]? = some b → R a b
  | _ :: _, _ :: _, h, 0, a, b, ha, hb => by cases ha; cases hb; exact h.1
  | _ :: _, _ :: _, h, i + 1, a, b, ha, hb => All2.at h.2 i a b ha hb
theorem All2.app {α β : Type} {R : α → β → Prop} : ∀ {l : List α} {l' : List β} {m : List α} {m' : List β}, All2 R l l' → All2 R m m' → All2 R (l ++ m) (l' ++ m')
  | [], [], _, _, _, h => h
  | _ :: _, _ :: _, _, _, h, h2 => ⟨h.1, All2.app h.2 h2⟩
theorem All2.flat {α β γ : Type} {R : CA → CA → Prop} {enc : α → List CA} {enc' : β → List CA} {f : γ → α} {g : γ → β} : ∀ (l : List γ), (∀ x ∈ l, All2 R (enc (f x)) (enc' (g x))) → All2 R ((l.map f).flatMap enc) ((l.map g).flatMap enc')
  | [], _ => trivial
  | x :: l, h => All2.app (h x (List.mem_cons_self ..)) (All2.flat l fun y hy => h y (List.mem_cons_of_mem _ hy))
theorem AtomI.row {α β γ : Type} {size : Nat} {enc : α → List CA} {enc' : β → List CA} {f : γ → α} {g : γ → β} (l : List γ) (h : ∀ x ∈ l, All2 CellI (enc (f x)) (enc' (g x))) : AtomI (.c (.sat (rowR size enc (l.map f)))) (.c (.sat (rowR size enc' (l.map g)))) := by
  have h2 := All2.flat l h
  show AtomI (.c (.sat (sliceR size (l.map f).length ((l.map f).flatMap enc)))) (.c (.sat (sliceR size (l.map g).length ((l.map g).flatMap enc'))))
  rw [List.length_map, List.length_map]
  exact AtomI.slice (All2.len h2) (fun i c c' h3 h4 => All2.at h2 i c c' h3 h4)
theorem nrm_raw (n : Nat) : CellI (.sat (nrmN n)) (.sat (rawN (wds n))) := fun S w v h => by
  obtain ⟨l, h1, h2, _, h4⟩ := nrmN_iff.1 h
  have := wds_uniq (rawN_iff.1 h4).1 h1
  rw [h2] at this
  rw [← this]; exact h4
theorem AtomI.nrm (n : Nat) : AtomI (.c (.sat (nrmN n))) (.c (.sat (rawN (wds n)))) := fun E S w v h => nrm_raw n S w v h
theorem AtomI.nil {α : Type} {size : Nat} {enc : α → List CA} : AtomI (.c (.val (.slice none 0 0))) (.c (.sat (rowR size enc []))) := fun E S w v h => by
  rw [show v = .slice none 0 0 from h]; exact nil_row
theorem AtomI.nilN : AtomI (.c (.val (.slice none 0 0))) (.c (.sat (rawN []))) := fun E S w v h => by
  rw [show v = .slice none 0 0 from h]
  exact rawN_iff.2 ⟨Sm.nil, (nil_row (α := Nat) (enc := wdC) (size := 1) : (rowR 1 wdC []).has S w _)⟩
theorem AtomI.rats (vs : List Rat) : AtomI (.c (.sat (rowR 4 q4C (vs.map q4v)))) (.c (.sat (rowR 4 q4C ((vs.map cq).map rq)))) := by
  rw [List.map_map]
  exact AtomI.row vs fun x _ => ⟨CellI.refl _, nrm_raw _, CellI.refl _, nrm_raw _, trivial⟩
theorem AtomI.ints (zs : List Int) : AtomI (.c (.sat (rowR 2 z2C (zs.map z2v)))) (.c (.sat (rowR 2 z2C ((zs.map cz).map rz)))) := by
  rw [List.map_map]
  exact AtomI.row zs fun x _ => ⟨CellI.refl _, nrm_raw _, trivial⟩
theorem cq_val (v : Rat) : rqv (cq v) = v := by
  show qv (sgn (decide (v.num < 0)) (nval WB (wds v.num.natAbs))) (sgn (decide ((v.den : Int) < 0)) (nval WB (wds (v.den : Int).natAbs))) = v
  rw [wds_val, wds_val, z_sgn, z_sgn]
  exact qv_self v
theorem cz_val (z : Int) : rzv (cz z) = z := by
  show sgn (decide (z < 0)) (nval WB (wds z.natAbs)) = z
  rw [wds_val, z_sgn]
theorem cq_sm (v : Rat) : Sm WB (cq v).2.1 ∧ Sm WB (cq v).2.2.2 := ⟨wds_sm _, wds_sm _⟩
theorem cz_sm (z : Int) : Sm WB (cz z).2 := wds_sm _
theorem RSm.cq (vs : List Rat) : RSm (vs.map cq) := fun x hx => by obtain ⟨v, _, rfl⟩ := List.mem_map.1 hx; exact cq_sm v
theorem RLen.cq {vs : List Rat} {K : Nat} (h : ∀ v ∈ vs, RB v K) : RLen (vs.map cq) K := fun x hx => by
  obtain ⟨v, hv, rfl⟩ := List.mem_map.1 hx
  exact ⟨wds_len (h v hv).n, wds_len (by rw [Int.natAbs_natCast]; exact (h v hv).d)⟩
theorem cq_vals (vs : List Rat) : (vs.map cq).map rqv = vs := by
  rw [List.map_map, show rqv ∘ cq = id from funext cq_val, List.map_id]
theorem cz_vals (zs : List Int) : (zs.map cz).map rzv = zs := by
  rw [List.map_map, show rzv ∘ cz = id from funext cz_val, List.map_id]
theorem MV.cq {vs : List Rat} {K : Nat} (h : ∀ v ∈ vs, RB v K) : MV ((vs.map cq).map rq) vs K := by
  have := MV.raw (RSm.cq vs) (RLen.cq h)
  rwa [cq_vals] at this
theorem Ra.cq {v : Rat} {K : Nat} (h : RB v K) : Ra (q4A (rq (cq v))) v K := by
  have := (MV.cq (vs := [v]) (K := K) fun u hu => by rw [List.mem_singleton.1 hu]; exact h).ra 0 _ _ rfl rfl
  exact this
end Go.Proofs.YtfhpmbenldgfnaaGreatDoor
set_option linter.unusedVariables false
set_option linter.unusedSimpArgs false
namespace Go.Proofs.YtfhpmbenldgfnaaGreatDoor
open Go.RowKit QM SX LA
attribute [local irreducible] IntKind.wrap Go1 Reg WP thenK inBlk retQ retF RetF RetOK ResOK CallOK OpOK Sat
attribute [local irreducible] qsub qmul qquo qcmp qadd qv redS mf
section
variable {P : Program} {C : Ctx} {st : St}
theorem retAi {r : ResultVar} {x y : AV0} (h : ResOK P st r x) (e : x.imp y) : RetF C P [r] ⟨.it y, []⟩ st := .ok (RetOK.mk1 (h.imp e))
end
theorem imp_num {v : Rat} : AV0.imp (.agg [.c (.val (.int .i64 1)), .c (.val (.bool (decide (v.num < 0)))), .c (.sat (nrmN v.num.natAbs)), .c (.val (.bool (decide ((v.den : Int) < 0)))), .c (.sat (nrmN (v.den : Int).natAbs)), .c (.val (.int .i64 0)), .c (.val (.int .i64 0)), .c (.val (.slice none 0 0)), .c (.val (.slice none 0 0)), .c (.val (.int .u64 0)), .c (.val (.int .i64 0)), .c (.val (.int .i64 0)), .c (.val (.slice none 0 0)), .c (.val (.slice none 0 0)), .c (.val (.slice none 0 0))]) (.agg (vlA (vNum v))) :=
  imp_agg ⟨AtomI.refl _, AtomI.refl _, AtomI.nrm _, AtomI.refl _, AtomI.nrm _, AtomI.refl _, AtomI.refl _, AtomI.nil, AtomI.nil, AtomI.refl _, AtomI.refl _, AtomI.refl _, AtomI.nil, AtomI.nil, AtomI.nil, trivial⟩
theorem imp_none : AV0.imp (.agg [.c (.val (.int .i64 0)), .c (.val (.bool false)), .c (.val (.slice none 0 0)), .c (.val (.bool false)), .c (.val (.slice none 0 0)), .c (.val (.int .i64 0)), .c (.val (.int .i64 0)), .c (.val (.slice none 0 0)), .c (.val (.slice none 0 0)), .c (.val (.int .u64 0)), .c (.val (.int .i64 0)), .c (.val (.int .i64 0)), .c (.val (.slice none 0 0)), .c (.val (.slice none 0 0)), .c (.val (.slice none 0 0))]) (.agg (vlA v0)) :=
  imp_agg ⟨AtomI.refl _, AtomI.refl _, AtomI.nilN, AtomI.refl _, AtomI.nilN, AtomI.refl _, AtomI.refl _, AtomI.nil, AtomI.nil, AtomI.refl _, AtomI.refl _, AtomI.refl _, AtomI.nil, AtomI.nil, AtomI.nil, trivial⟩
theorem con_Number {q : Q4} {v : Rat} {K : Nat} (h : Ra (q4A q) v K) (hK : K ≤ 100000) : PureOK Tryz.prog 25 [.agg (q4A q)] (.agg (vlA (vNum v))) := by
  have cO : PureOK Tryz.prog 36 [.agg [.c (.val (.bool false)), .c (.val (.slice none 0 0))]] (.agg (qA 0)) := con_rOf.h (by decide)
  haveI : Ra (qA 0) 0 1 := (RB.zero (Nat.le_refl 1)).ra
  obtain ⟨X, cA, hX⟩ := eAdd (q4A q) (qA 0) (K := K) (K' := 1) (by omega)
  rw [Rat.add_zero] at hX
  have e := hX.nf
  subst e
  refine PureOK.fnF Tryz.func25 Tryz.results25 Tryz.ntmps25 rfl rfl rfl (by simp [AV.ids, AV0.ids, Atom.ids]) rfl (fun w0 T B E0 hB => ?_)
  refine SX.goN ?_
  refine retAi (ResOK.agg15 rfl rfl rfl) ?_
  exact imp_num
theorem RB.ofI {z : Int} {K : Nat} (h : z.natAbs < WB ^ K) (h1 : 1 ≤ K) : RB (z : Rat) K := RB.of (p := z) (q := 1) (by decide) (by unfold qv; grind) h (by
  rw [show (1 : Int).natAbs = 1 from rfl]
  exact (Bd.mono Bd.one.h h1 : (1 : Int).natAbs < WB ^ K))
theorem con_Whole {q : Z2} {z : Int} {K : Nat} (h : ZQ q z K) (h1 : 1 ≤ K) (hK : K ≤ 100000) : PureOK Tryz.prog 22 [.agg (z2A q)] (.agg (vlA (vNum (z : Rat)))) := by
  haveI := h.zi
  have cO : PureOK Tryz.prog 36 [.agg (z2A q)] (.agg (qA (z : Rat))) := con_rOf.h (by omega)
  have hR : RB (z : Rat) K := RB.ofI h.b h1
  have cN : PureOK Tryz.prog 25 [.agg (qA (z : Rat))] (.agg (vlA (vNum (z : Rat)))) := con_Number (q := q4v z) hR.ra hK
  refine PureOK.fnF Tryz.func22 Tryz.results22 Tryz.ntmps22 rfl rfl rfl (by simp [AV.ids, AV0.ids, Atom.ids]) rfl (fun w0 T B E0 hB => ?_)
  refine SX.goN ?_
  refine retAi (ResOK.agg15 rfl rfl rfl) ?_
  exact AV0.imp.refl _
end Go.Proofs.YtfhpmbenldgfnaaGreatDoor
set_option linter.unusedVariables false
set_option linter.unusedSimpArgs false
namespace Go.Proofs.YtfhpmbenldgfnaaGreatDoor
open Go.RowKit QM SX LA
attribute [local irreducible] IntKind.wrap Go1 Reg WP thenK inBlk retQ retF RetF RetOK ResOK CallOK OpOK Sat
attribute [local irreducible] qsub qmul qquo qcmp qadd qv redS mf
theorem con_None13 (r c : Int) {n : Nat} {cells : List CA} : PureOK Tryz.prog 119 [.agg [.c (.val (.int .i64 r)), .c (.val (.int .i64 c)), .c (.sat (sliceR 4 n cells))]] (.v (.bool (decide (r = 0 ∧ c = 0 ∧ n = 0)))) := by
  refine PureOK.fnF Tryz.func119 Tryz.results119 Tryz.ntmps119 rfl rfl rfl (by simp [AV.ids, AV0.ids, Atom.ids]) rfl (fun w0 T B E0 hB => ?_)
  by_cases h1 : r = 0
  · by_cases h2 : c = 0
    · refine SX.goN ?_
      refine retB ?_
      rw [decide_eq_decide]
      constructor
      · intro h; exact ⟨h1, h2, by omega⟩
      · intro h; omega
    · refine SX.goN ?_
      refine retB ?_; exact (decide_eq_false fun h => h2 h.2.1).symm
  · refine SX.goN ?_
    refine retB ?_; exact (decide_eq_false fun h => h1 h.1).symm
theorem con_None21 (r c : Int) {n : Nat} {cells : List CA} : PureOK Tryz.prog 120 [.agg [.c (.val (.int .i64 r)), .c (.val (.int .i64 c)), .c (.sat (sliceR 1 n cells))]] (.v (.bool (decide (r = 0 ∧ c = 0 ∧ n = 0)))) := by
  refine PureOK.fnF Tryz.func120 Tryz.results120 Tryz.ntmps120 rfl rfl rfl (by simp [AV.ids, AV0.ids, Atom.ids]) rfl (fun w0 T B E0 hB => ?_)
  by_cases h1 : r = 0
  · by_cases h2 : c = 0
    · refine SX.goN ?_
      refine retB ?_
      rw [decide_eq_decide]
      constructor
      · intro h; exact ⟨h1, h2, by omega⟩
      · intro h; omega
    · refine SX.goN ?_
      refine retB ?_; exact (decide_eq_false fun h => h2 h.2.1).symm
  · refine SX.goN ?_
    refine retB ?_; exact (decide_eq_false fun h => h1 h.1).symm
theorem rq0_iff (q : RawQ) : q = rq0 ↔ q.2.1.length = 0 ∧ q.2.2.2.length = 0 ∧ q.1 = false ∧ q.2.2.1 = false := by
  constructor
  · rintro rfl; exact ⟨rfl, rfl, rfl, rfl⟩
  · obtain ⟨b, l, b', l'⟩ := q
    rintro ⟨h1, h2, h3, h4⟩
    dsimp only at h1 h2 h3 h4
    rw [List.eq_nil_of_length_eq_zero h1, List.eq_nil_of_length_eq_zero h2, h3, h4]
theorem con_bare (q : RawQ) : PureOK Tryz.prog 118 [.agg (q4A (rq q))] (.v (.bool (decide (q = rq0)))) := by
  have hq := rq0_iff q
  rw [show decide (q = rq0) = decide (q.2.1.length = 0 ∧ q.2.2.2.length = 0 ∧ q.1 = false ∧ q.2.2.1 = false) from decide_eq_decide.2 hq]
  refine PureOK.fnF Tryz.func118 Tryz.results118 Tryz.ntmps118 rfl rfl rfl (by simp [AV.ids, AV0.ids, Atom.ids]) rfl (fun w0 T B E0 hB => ?_)
  by_cases h1 : q.2.1.length = 0
  · by_cases h2 : q.2.2.2.length = 0
    · cases h3 : q.1
      · cases h4 : q.2.2.1
        · refine SX.goN ?_
          refine retB ?_; rw [h4]; exact (decide_eq_true ⟨h1, h2, rfl, rfl⟩).symm
        · refine SX.goN ?_
          refine retB ?_; rw [h4]; exact (decide_eq_false fun h => by cases h.2.2.2).symm
      · refine SX.goN ?_
        refine retB ?_; exact (decide_eq_false fun h => by cases h.2.2.1).symm
    · refine SX.goN ?_
      refine retB ?_; exact (decide_eq_false fun h => h2 h.2.1).symm
  · refine SX.goN ?_
    refine retB ?_; exact (decide_eq_false fun h => h1 h.1).symm
def pt (p : Prop) [Decidable p] : Nat := if p then 1 else 0
theorem pt_t {p : Prop} [Decidable p] (h : p) : pt p = 1 := if_pos h
theorem pt_f {p : Prop} [Decidable p] (h : ¬ p) : pt p = 0 := if_neg h
theorem pt_le (p : Prop) [Decidable p] : pt p ≤ 1 := by unfold pt; split <;> omega
def vP (v : Vl) : Nat := pt (v.k ≠ 1 ∧ v.q ≠ rq0) + pt (v.k ≠ 2 ∧ ¬ (v.r = 0 ∧ v.c = 0 ∧ v.a.length = 0)) + pt (v.k ≠ 3 ∧ v.po.length ≠ 0) + pt (v.k ≠ 4 ∧ ¬ (v.fr = 0 ∧ v.fc = 0 ∧ v.fa.length = 0)) + pt (v.k ≠ 5 ∧ v.ri.length ≠ 0) + pt ((v.k ≠ 4 ∧ v.k ≠ 5) ∧ v.p ≠ 0) + pt (v.k ≠ 6 ∧ v.li.length ≠ 0)
theorem con_Parts (v : Vl) : PureOK Tryz.prog 50 [.agg (vlA v)] (.v (.int .i64 (vP v : Int))) := by
  have c1 := con_bare v.q
  have c2 := con_None13 v.r v.c (n := (v.a.map rq).length) (cells := (v.a.map rq).flatMap q4C)
  have c4 := con_None21 v.fr v.fc (n := v.fa.length) (cells := v.fa.flatMap wdC)
  have l1 : (v.a.map rq).length = v.a.length := List.length_map _
  have l2 : (v.po.map rz).length = v.po.length := List.length_map _
  generalize hv : vP v = N
  unfold vP at hv
  have b1 := pt_le (v.k ≠ 1 ∧ v.q ≠ rq0)
  have b2 := pt_le (v.k ≠ 2 ∧ ¬ (v.r = 0 ∧ v.c = 0 ∧ v.a.length = 0))
  have b3 := pt_le (v.k ≠ 3 ∧ v.po.length ≠ 0)
  have b4 := pt_le (v.k ≠ 4 ∧ ¬ (v.fr = 0 ∧ v.fc = 0 ∧ v.fa.length = 0))
  have b5 := pt_le (v.k ≠ 5 ∧ v.ri.length ≠ 0)
  have b6 := pt_le ((v.k ≠ 4 ∧ v.k ≠ 5) ∧ v.p ≠ 0)
  have b7 := pt_le (v.k ≠ 6 ∧ v.li.length ≠ 0)
  generalize e1 : pt (v.k ≠ 1 ∧ v.q ≠ rq0) = n1 at hv b1
  generalize e2 : pt (v.k ≠ 2 ∧ ¬ (v.r = 0 ∧ v.c = 0 ∧ v.a.length = 0)) = n2 at hv b2
  generalize e3 : pt (v.k ≠ 3 ∧ v.po.length ≠ 0) = n3 at hv b3
  generalize e4 : pt (v.k ≠ 4 ∧ ¬ (v.fr = 0 ∧ v.fc = 0 ∧ v.fa.length = 0)) = n4 at hv b4
  generalize e5 : pt (v.k ≠ 5 ∧ v.ri.length ≠ 0) = n5 at hv b5
  generalize e6 : pt ((v.k ≠ 4 ∧ v.k ≠ 5) ∧ v.p ≠ 0) = n6 at hv b6
  generalize e7 : pt (v.k ≠ 6 ∧ v.li.length ≠ 0) = n7 at hv b7
  refine PureOK.fnF Tryz.func50 Tryz.results50 Tryz.ntmps50 rfl rfl rfl (by simp [AV.ids, AV0.ids, Atom.ids]) rfl (fun w0 T B E0 hB => ?_)
  refine W.meet [(1, .ptr 1 0)] [(1, .box 39 (vlA v))] ?_ ?_
  · refine SX.goN ?_
    exact W.le
  refine W.meet [(1, .ptr 1 0), (3, .v (.int .i64 0))] [(1, .box 39 (vlA v))] ?_ ?_
  · refine SX.goN ?_
    exact W.le
  refine W.meet [(1, .ptr 1 0), (3, .v (.int .i64 (n1 : Int)))] [(1, .box 39 (vlA v))] ?_ ?_
  · by_cases h : v.k = 1
    · rw [pt_f fun h' => h'.1 h] at e1; subst e1
      refine SX.goN ?_
      exact W.le
    · by_cases h2 : v.q = rq0
      · rw [pt_f fun h' => h'.2 h2] at e1; subst e1
        rw [decide_eq_true h2] at c1
        refine SX.goN ?_
        exact W.le
      · rw [pt_t ⟨h, h2⟩] at e1; subst e1
        rw [decide_eq_false h2] at c1
        refine SX.goN ?_
        exact W.le
  refine W.meet [(1, .ptr 1 0), (3, .v (.int .i64 ((n1 + n2 : Nat) : Int)))] [(1, .box 39 (vlA v))] ?_ ?_
  · by_cases h : v.k = 2
    · rw [pt_f fun h' => h'.1 h] at e2; subst e2
      refine SX.goN ?_
      exact W.le
    · by_cases h2 : v.r = 0 ∧ v.c = 0 ∧ v.a.length = 0
      · rw [pt_f fun h' => h'.2 h2] at e2; subst e2
        rw [decide_eq_true (show _ ∧ _ ∧ _ from ⟨h2.1, h2.2.1, l1.trans h2.2.2⟩)] at c2
        refine SX.goN ?_
        exact W.le
      · rw [pt_t ⟨h, h2⟩] at e2; subst e2
        rw [decide_eq_false fun h3 => h2 ⟨h3.1, h3.2.1, l1.symm.trans h3.2.2⟩] at c2
        refine SX.goN ?_
        exact W.le
  refine W.meet [(1, .ptr 1 0), (3, .v (.int .i64 ((n1 + n2 + n3 : Nat) : Int)))] [(1, .box 39 (vlA v))] ?_ ?_
  · by_cases h : v.k = 3
    · rw [pt_f fun h' => h'.1 h] at e3; subst e3
      refine SX.goN ?_
      exact W.le
    · by_cases h2 : v.po.length = 0
      · rw [pt_f fun h' => h'.2 h2] at e3; subst e3
        refine SX.goN ?_
        exact W.le
      · rw [pt_t ⟨h, h2⟩] at e3; subst e3
        refine SX.goN ?_
        exact W.le
  refine W.meet [(1, .ptr 1 0), (3, .v (.int .i64 ((n1 + n2 + n3 + n4 : Nat) : Int)))] [(1, .box 39 (vlA v))] ?_ ?_
  · by_cases h : v.k = 4
    · rw [pt_f fun h' => h'.1 h] at e4; subst e4
      refine SX.goN ?_
      exact W.le
    · by_cases h2 : v.fr = 0 ∧ v.fc = 0 ∧ v.fa.length = 0
      · rw [pt_f fun h' => h'.2 h2] at e4; subst e4
        rw [decide_eq_true h2] at c4
        refine SX.goN ?_
        exact W.le
      · rw [pt_t ⟨h, h2⟩] at e4; subst e4
        rw [decide_eq_false h2] at c4
        refine SX.goN ?_
        exact W.le
  refine W.meet [(1, .ptr 1 0), (3, .v (.int .i64 ((n1 + n2 + n3 + n4 + n5 : Nat) : Int)))] [(1, .box 39 (vlA v))] ?_ ?_
  · by_cases h : v.k = 5
    · rw [pt_f fun h' => h'.1 h] at e5; subst e5
      refine SX.goN ?_
      exact W.le
    · by_cases h2 : v.ri.length = 0
      · rw [pt_f fun h' => h'.2 h2] at e5; subst e5
        refine SX.goN ?_
        exact W.le
      · rw [pt_t ⟨h, h2⟩] at e5; subst e5
        refine SX.goN ?_
        exact W.le
  refine W.meet [(1, .ptr 1 0), (3, .v (.int .i64 ((n1 + n2 + n3 + n4 + n5 + n6 : Nat) : Int)))] [(1, .box 39 (vlA v))] ?_ ?_
  · by_cases h : v.k = 4
    · rw [pt_f fun h' => h'.1.1 h] at e6; subst e6
      refine SX.goN ?_
      exact W.le
    · by_cases h1 : v.k = 5
      · rw [pt_f fun h' => h'.1.2 h1] at e6; subst e6
        refine SX.goN ?_
        exact W.le
      · by_cases h2 : v.p = 0
        · rw [pt_f fun h' => h'.2 h2] at e6; subst e6
          refine SX.goN ?_
          exact W.le
        · rw [pt_t ⟨⟨h, h1⟩, h2⟩] at e6; subst e6
          refine SX.goN ?_
          exact W.le
  refine W.meet [(1, .ptr 1 0), (3, .v (.int .i64 ((n1 + n2 + n3 + n4 + n5 + n6 + n7 : Nat) : Int)))] [(1, .box 39 (vlA v))] ?_ ?_
  · by_cases h : v.k = 6
    · rw [pt_f fun h' => h'.1 h] at e7; subst e7
      refine SX.goN ?_
      exact W.le
    · by_cases h2 : v.li.length = 0
      · rw [pt_f fun h' => h'.2 h2] at e7; subst e7
        refine SX.goN ?_
        exact W.le
      · rw [pt_t ⟨h, h2⟩] at e7; subst e7
        refine SX.goN ?_
        exact W.le
  refine SX.goN ?_
  refine retI ?_
  rw [← hv]
end Go.Proofs.YtfhpmbenldgfnaaGreatDoor

import Derived.Test.YtfhpmbenldgfnaaGreatDoorM3
import Derived.Test.YtfhpmbenldgfnaaGreatDoorM12
import Derived.Test.YtfhpmbenldgfnaaGreatDoorM2
/- Fractions that come in. -/
set_option linter.unusedVariables false
set_option linter.unusedSimpArgs false
namespace Go.Proofs.YtfhpmbenldgfnaaGreatDoor
open Go.RowKit QM SX
open Go.ChangeShapes Go.WideShapes Go.ChangeAt Go.Joins
section
variable {H : Type} {enc : TypeId × Value → H} {P : Program} {W : World} {base : Nat} {sp : Nat → Bool} {hd : Bool}
theorem DecF.imp {α β : Type} {n : Nat} {t : TypeId} {e : α → List CA} {φ : α → Prop} {e' : β → List CA} {ψ : β → Prop} (h : DecF enc P W base sp hd n t e φ) (f : α → β) (hf : ∀ a, φ a → ψ (f a)) (he : ∀ a cs, φ a → All2 (CA.has none' W) (e a) cs → All2 (CA.has none' W) (e' (f a)) cs) : DecF enc P W base sp hd n t e' ψ :=
  fun cs x hx => let ⟨a, h1, h2⟩ := h cs x hx; ⟨f a, hf a h1, he a cs h1 h2⟩
def u64C (z : Int) : List CA := [.val (.int .u64 z)]
instance : EncLen u64C 1 := ⟨fun _ => rfl⟩
theorem decNat (n : Nat) : DecF enc Tryz.prog W base sp hd n 23 (fun l : List Nat => [.sat (rawN l)]) (fun _ => True) :=
  DecF.all (fun n => DecF.imp (dec_slice (enc' := u64C) Tryz.underlying23 (by kernel_rfl) (dec_int Tryz.underlying33)) (fun l => l.map Int.toNat) (fun _ _ => trivial) (fun l cs hl hall => by
    match cs, hall with
    | [v], ⟨h1, _⟩ =>
      refine ⟨?_, trivial⟩
      have hb : ∀ z ∈ l, 0 ≤ z ∧ z ≤ 18446744073709551615 := fun z hz => bounds_u64 (hl.2 z hz)
      refine rawN_iff.2 ⟨?_, ?_⟩
      · intro x hx
        obtain ⟨z, hz, rfl⟩ := List.mem_map.1 hx
        have := hb z hz
        rw [WB_eq]; omega
      · have e : (l.map Int.toNat).map (fun x : Nat => CA.val (.int .u64 (x : Int))) = l.flatMap u64C := by
          clear h1 hall hl
          induction l with
          | nil => rfl
          | cons z l ih =>
            have := hb z (by simp)
            rw [List.map_cons, List.map_cons, List.flatMap_cons, ih (fun y hy => hb y (by simp [hy]))]
            show _ :: _ = CA.val (.int .u64 z) :: _
            rw [show ((z.toNat : Nat) : Int) = z by omega]; rfl
        rw [e, List.length_map]; exact h1)) n
end
end Go.Proofs.YtfhpmbenldgfnaaGreatDoor
/- Matrices of fractions that come in; what a matrix is reduced to. -/
set_option linter.unusedVariables false
set_option linter.unusedSimpArgs false
namespace Go.Proofs.YtfhpmbenldgfnaaGreatDoor
open Go.RowKit QM SX LA
open Go.ChangeShapes Go.WideShapes Go.ChangeAt Go.Joins
section
variable {H : Type} {enc : TypeId × Value → H} {W : World} {base : Nat} {sp : Nat → Bool} {hd : Bool}
theorem sm_of {l : List Nat} : ∀ {cs : List Value}, All2 (CA.has none' W) [.sat (rawN l)] cs → Sm WB l
  | [v], h => (rawN_iff.1 h.1).1
theorem decNatS (n : Nat) : DecF enc Tryz.prog W base sp hd n 23 (fun l : List Nat => [.sat (rawN l)]) (fun l => Sm WB l) :=
  fun cs x hx => let ⟨l, _, h2⟩ := decNat n cs x hx; ⟨l, sm_of h2, h2⟩
theorem decZS (n : Nat) : DecF enc Tryz.prog W base sp hd n 25 (fun p : Bool × List Nat => [.val (.bool p.1), .sat (rawN p.2)]) (fun p => Sm WB p.2) :=
  DecF.all (fun n => DecF.conv (dec_struct2 Tryz.underlying25 rfl (by kernel_rfl) (by kernel_rfl) (dec_bool Tryz.underlying4) (decNatS n)) id (fun _ h => h.2) (fun _ => rfl)) n
def rqC (p : RawQ) : List CA := q4C (rq p)
instance : EncLen rqC 4 := ⟨fun _ => rfl⟩
theorem decRatS (n : Nat) : DecF enc Tryz.prog W base sp hd n 27 rqC (fun p => Sm WB p.2.1 ∧ Sm WB p.2.2.2) :=
  DecF.all (fun n => DecF.conv (dec_struct2 Tryz.underlying27 rfl (by kernel_rfl) (by kernel_rfl) (decZS n) (decZS n)) (fun p => (p.1.1, p.1.2, p.2.1, p.2.2)) (fun _ h => h) (fun _ => rfl)) n
abbrev RawM := Int × Int × List RawQ
theorem rq_row (l : List RawQ) : rowR 4 rqC l = rowR 4 q4C (l.map rq) := by
  show sliceR 4 l.length (l.flatMap rqC) = sliceR 4 (l.map rq).length ((l.map rq).flatMap q4C)
  rw [List.length_map, List.flatMap_map]; rfl
theorem decRatsS (n : Nat) : DecF enc Tryz.prog W base sp hd n 28 (fun l : List RawQ => [.sat (rowR 4 rqC l)]) (fun l => l.length ≤ maxLen ∧ ∀ a ∈ l, Sm WB a.2.1 ∧ Sm WB a.2.2.2) :=
  DecF.all (fun n => dec_slice Tryz.underlying28 (by kernel_rfl) (decRatS n)) n
theorem decMat (n : Nat) : DecF enc Tryz.prog W base sp hd n 30 (fun p : RawM => [.val (.int .i64 p.1), .val (.int .i64 p.2.1), .sat (rowR 4 q4C (p.2.2.map rq))]) (fun p => RSm p.2.2) :=
  DecF.all (fun n => DecF.conv (dec_struct3 Tryz.underlying30 rfl (by kernel_rfl) (by kernel_rfl) (by kernel_rfl) (dec_int Tryz.underlying3) (dec_int Tryz.underlying3) (decRatsS n)) id (fun p h => h.2.2.2) (fun p => by
    show [CA.val (.int .i64 p.1), CA.val (.int .i64 p.2.1), CA.sat (rowR 4 q4C (p.2.2.map rq))] = [CA.val (.int .i64 p.1), CA.val (.int .i64 p.2.1), CA.sat (rowR 4 rqC p.2.2)]
    rw [rq_row])) n
end
attribute [local irreducible] IntKind.wrap Go1 Reg WP thenK inBlk retQ retF RetF RetOK ResOK CallOK OpOK Sat
attribute [local irreducible] qsub qmul qquo qcmp qadd qv redS mf
theorem FewP.len {r c : Int} {l : List RawQ} {s : Int} {w : Nat} (h : FewP r c l s w) : RLen l w := by
  intro x hx
  obtain ⟨i, hi⟩ := List.mem_iff_getElem?.1 hx
  have hil := at_lt hi
  have := h.1 i x (by have := h.2.2.2; omega) hi
  omega
end Go.Proofs.YtfhpmbenldgfnaaGreatDoor
/- An inverse is one on both sides. -/
set_option linter.unusedVariables false
set_option linter.unusedSimpArgs false
namespace Go.Proofs.YtfhpmbenldgfnaaGreatDoor
open Go.RowKit QM SX LA
attribute [local irreducible] IntKind.wrap Go1 Reg WP thenK inBlk retQ retF RetF RetOK ResOK CallOK OpOK Sat
attribute [local irreducible] qsub qmul qquo qcmp qadd qv redS mf
end Go.Proofs.YtfhpmbenldgfnaaGreatDoor
/- What becomes 0, and what stands in it. -/
set_option linter.unusedVariables false
set_option linter.unusedSimpArgs false
namespace Go.Proofs.YtfhpmbenldgfnaaGreatDoor
open Go.RowKit QM SX LA
attribute [local irreducible] IntKind.wrap Go1 Reg WP thenK inBlk retQ retF RetF RetOK ResOK CallOK OpOK Sat
attribute [local irreducible] qsub qmul qquo qcmp qadd qv redS mf
end Go.Proofs.YtfhpmbenldgfnaaGreatDoor
/- Sums, multiples, products, transposes of matrices of fractions: the walks. -/
set_option linter.unusedVariables false
set_option linter.unusedSimpArgs false
namespace Go.Proofs.YtfhpmbenldgfnaaGreatDoor
open Go.RowKit QM SX LA
attribute [local irreducible] IntKind.wrap Go1 Reg WP thenK inBlk retQ retF RetF RetOK ResOK CallOK OpOK Sat
attribute [local irreducible] qsub qmul qquo qcmp qadd qv redS mf
abbrev ptrM (r c : Nat) (l : List Q4) : AV := .r (ptrR [.val (.int .i64 (r : Int)), .val (.int .i64 (c : Int)), .sat (rowR 4 q4C l)])
def q0 : Q4 := q4v 0
/-- A matrix's cells at a place. -/
def qat (l : List Q4) (c i k : Nat) : Q4 := l.getD (i * c + k) q0
theorem qat_at {l : List Q4} {r c i k : Nat} (hl : l.length = r * c) (hi : i < r) (hk : k < c) : l[i * c + k]? = some (qat l c i k) := by
  have h := idx_lt hi hk
  unfold qat
  rw [List.getD_eq_getElem?_getD, List.getElem?_eq_getElem (by omega)]; rfl
theorem MV.qat {r c i k K : Nat} {l : List Q4} {vs : List Rat} (hM : MV l vs K) (hl : l.length = r * c) (hi : i < r) (hk : k < c) : Ra (q4A (qat l c i k)) (vat vs c i k) K :=
  hM.ra _ _ _ (qat_at hl hi hk) (vat_at (by rw [← hM.len]; exact hl) hi hk)
theorem con_alike {r c r' c' : Nat} {l l' : List Q4} (hl : l.length = r * c) (hl' : l'.length = r' * c') (hr : r ≤ 64) (hc : c ≤ 64) (hr' : r' ≤ 64) (hc' : c' ≤ 64) (goal : Bool) (hg : goal = true ↔ r = r' ∧ c = c') :
    PureOK Tryz.prog 162 [.agg (matQ r c l), .agg (matQ r' c' l')] (.v (.bool goal)) := by
  have cF := cF_true (cells := l.flatMap q4C) hl hr hc
  have cF' := cF_true (cells := l'.flatMap q4C) hl' hr' hc'
  refine PureOK.fnF Tryz.func162 Tryz.results162 Tryz.ntmps162 rfl rfl rfl (by simp [AV.ids, AV0.ids, Atom.ids]) rfl (fun w0 T B E0 hB => ?_)
  by_cases h1 : (r : Int) = (r' : Int)
  · refine SX.goF ?_
    refine retB ?_
    rw [Bool.eq_iff_iff, hg, decide_eq_true_iff]; omega
  · refine SX.goF ?_
    refine retB ?_
    exact (Bool.eq_false_iff.2 fun ht => h1 (by have := (hg.1 ht).1; omega)).symm
theorem con_qmS1 {r c i k : Nat} {l : List Q4} {q d : Q4} {v v' : Rat} {K K' : Nat} (hq : l[i * c + k]? = some q) (ra : Ra (q4A q) v K) (ra' : Ra (q4A d) v' K') (hi : i ≤ 100) (hc : c ≤ 100) (hk : k ≤ 100) (hK : K + K' ≤ 400000) :
    PureOK Tryz.prog 160 [.v (.int .i64 (i : Int)), .v (.int .i64 (k : Int)), ptrM r c l, .r (ptrR [.val (.bool d.1), .sat d.2.1, .val (.bool d.2.2.1), .sat d.2.2.2])] (.agg (q4A (q4v (v * v')))) := by
  have cG := con_get (r := r) hq hi hc hk
  have cA := (con_qMul (a := ra) (b := ra')).h (by omega)
  refine PureOK.fnF Tryz.func160 Tryz.results160 Tryz.ntmps160 rfl rfl rfl (by simp [AV.ids, AV0.ids, Atom.ids]) rfl (fun w0 T B E0 hB => ?_)
  refine SX.goF ?_
  exact retA (ResOK.agg4 rfl rfl rfl) rfl
theorem con_qmScale {r c : Nat} {l : List Q4} {d : Q4} {vs : List Rat} {v : Rat} {K K' : Nat} (hM : MV l vs K) (hl : l.length = r * c) (hd : Ra (q4A d) v K') (hr : r ≤ 64) (hc : c ≤ 64) (h1 : 1 ≤ K) (h1' : 1 ≤ K') (hK : K + K' ≤ 300000) :
    PureOK Tryz.prog 76 [.agg (matQ r c l), .agg (q4A d)] (.tup [.agg (matA r c (tabR c (fun i k => vat vs c i k * v) r)), eNo 0]) := by
  have cF := cF_true (cells := l.flatMap q4C) hl hr hc
  have cM := con_made r c (.sat (cloR 160 [] [.sat (ptrR [.val (.int .i64 (r : Int)), .val (.int .i64 (c : Int)), .sat (rowR 4 q4C l)]), .sat (ptrR [.val (.bool d.1), .sat d.2.1, .val (.bool d.2.2.1), .sat d.2.2.2])])) (fun i k => q4v (vat vs c i k * v)) (fun i k => vat vs c i k * v) (K + K') (by omega) (by omega) (by omega)
    (fun i k hi hk => FnV.clo (con_qmS1 (qat_at hl hi hk) (hM.qat hl hi hk) hd (by omega) (by omega) (by omega) (by omega)))
    (fun i k hi hk => ((vat_RB (hM.rb h1) h1 c i k).mul (Ra.rb hd h1')).ra) rfl
  refine PureOK.fnF Tryz.func76 Tryz.results76 Tryz.ntmps76 rfl rfl rfl (by simp [AV.ids, AV0.ids, Atom.ids]) rfl (fun w0 T B E0 hB => ?_)
  refine SX.goF ?_
  refine SX.WP.freezeB 2 hB rfl rfl ?_
  refine SX.WP.freezeB 3 hB rfl rfl ?_
  refine SX.WP.regionL ?_
  refine SX.goF ?_
  exact .ok (RetOK.mk2 (ResOK.agg3 rfl rfl rfl) (ResOK.tmp rfl))
end Go.Proofs.YtfhpmbenldgfnaaGreatDoor
/- Rows that are turned; equations that are solved. -/
set_option linter.unusedVariables false
set_option linter.unusedSimpArgs false
namespace Go.Proofs.YtfhpmbenldgfnaaGreatDoor
open Go.RowKit QM SX LA
attribute [local irreducible] IntKind.wrap Go1 Reg WP thenK inBlk retQ retF RetF RetOK ResOK CallOK OpOK Sat
attribute [local irreducible] qsub qmul qquo qcmp qadd qv redS mf
/-- A table is told by its numbers. -/
theorem tabR_ext {c r : Nat} {u v : Nat → Nat → Rat} (h : ∀ i, i < r → ∀ k, k < c → u i k = v i k) : tabR c u r = tabR c v r := by
  unfold tabR
  have key : ∀ l : List Nat, (∀ i ∈ l, i < r) → l.flatMap (fun i => (List.range c).map (u i)) = l.flatMap (fun i => (List.range c).map (v i)) := by
    intro l
    induction l with
    | nil => intro _; rfl
    | cons i l ih =>
      intro hl
      rw [List.flatMap_cons, List.flatMap_cons, ih (fun j hj => hl j (by simp [hj]))]
      congr 1
      exact List.map_congr_left fun k hk => h i (hl i (by simp)) k (List.mem_range.1 hk)
  exact key _ fun i hi => List.mem_range.1 hi
end Go.Proofs.YtfhpmbenldgfnaaGreatDoor
/- Equations that are solved, or not. -/
set_option linter.unusedVariables false
set_option linter.unusedSimpArgs false
namespace Go.Proofs.YtfhpmbenldgfnaaGreatDoor
open Go.RowKit QM SX LA
attribute [local irreducible] IntKind.wrap Go1 Reg WP thenK inBlk retQ retF RetF RetOK ResOK CallOK OpOK Sat
attribute [local irreducible] qsub qmul qquo qcmp qadd qv redS mf
theorem tab_vat {vs : List Rat} {r c : Nat} (hl : vs.length = r * c) : tabR c (vat vs c) r = vs := by
  apply List.ext_getElem?
  intro n
  rcases Nat.lt_or_ge n (r * c) with h | h
  · have hc : 0 < c := by
      rcases Nat.eq_zero_or_pos c with h0 | h0
      · subst h0; omega
      · exact h0
    have h1 : n / c < r := by rw [Nat.div_lt_iff_lt_mul hc]; exact h
    have h2 := Nat.mod_lt n hc
    have h3 : n / c * c + n % c = n := by rw [Nat.mul_comm]; exact Nat.div_add_mod n c
    have a1 := tabR_at (val := vat vs c) h2 h1
    have a2 := vat_at hl h1 h2
    rw [h3] at a1 a2
    rw [a1, a2]
  · rw [List.getElem?_eq_none (by rw [tabR_len]; exact h), List.getElem?_eq_none (by omega)]
end Go.Proofs.YtfhpmbenldgfnaaGreatDoor
/- Sums, multiples, products, transposes of matrices of whole numbers: the walks; the same matrices of fractions. -/
set_option linter.unusedVariables false
set_option linter.unusedSimpArgs false
namespace Go.Proofs.YtfhpmbenldgfnaaGreatDoor
open Go.RowKit QM SX LA
attribute [local irreducible] IntKind.wrap Go1 Reg WP thenK inBlk retQ retF RetF RetOK ResOK CallOK OpOK Sat
attribute [local irreducible] qsub qmul qquo qcmp qadd qv redS mf
abbrev ptrZ (r c : Nat) (l : List Z2) : AV := .r (ptrR [.val (.int .i64 (r : Int)), .val (.int .i64 (c : Int)), .sat (rowR 2 z2C l)])
def zat2 (l : List Z2) (c i k : Nat) : Z2 := l.getD (i * c + k) (z2v 0)
/-- A sum of whole numbers. -/
def smZ : Nat → (Nat → Int) → Int
  | 0, _ => 0
  | n + 1, f => smZ n f + f n
end Go.Proofs.YtfhpmbenldgfnaaGreatDoor
/- Matrices of whole numbers that come in; the same matrices. -/
set_option linter.unusedVariables false
set_option linter.unusedSimpArgs false
namespace Go.Proofs.YtfhpmbenldgfnaaGreatDoor
open Go.RowKit QM SX LA
open Go.ChangeShapes Go.WideShapes Go.ChangeAt Go.Joins
abbrev RawZ := Bool × List Nat
abbrev rz (x : RawZ) : Z2 := (x.1, rawN x.2)
def rzv (x : RawZ) : Int := sgn x.1 (nval WB x.2)
def rzC (p : RawZ) : List CA := z2C (rz p)
abbrev RawW := Int × Int × List RawZ
section
variable {H : Type} {enc : TypeId × Value → H} {W : World} {base : Nat} {sp : Nat → Bool} {hd : Bool}
end
attribute [local irreducible] IntKind.wrap Go1 Reg WP thenK inBlk retQ retF RetF RetOK ResOK CallOK OpOK Sat
attribute [local irreducible] qsub qmul qquo qcmp qadd qv redS mf
theorem MZ.raw {l : List RawZ} {K : Nat} (hs : ∀ a ∈ l, Sm WB a.2) (hl : ∀ a ∈ l, a.2.length ≤ K) : MZ (l.map rz) (l.map rzv) K := by
  refine ⟨by rw [List.length_map, List.length_map], fun i q z hq hz => ?_⟩
  rw [List.getElem?_map] at hq hz
  cases hx : l[i]? with
  | none => rw [hx] at hq; cases hq
  | some x =>
    rw [hx] at hq hz
    cases hq; cases hz
    exact ZQ.raw (hs x (List.mem_of_getElem? hx)) (hl x (List.mem_of_getElem? hx))
def FewZ (r c : Int) (l : List RawZ) (s w : Int) : Prop := ((∀ k x, k < 100 → l[k]? = some x → (x.2.length : Int) ≤ w) ∧ l.length ≤ 100) ∧ r ≤ s ∧ c ≤ s
/-! The same matrices of fractions. -/
end Go.Proofs.YtfhpmbenldgfnaaGreatDoor
/- A matrix times the least number that makes it whole. -/
set_option linter.unusedVariables false
set_option linter.unusedSimpArgs false
namespace Go.Proofs.YtfhpmbenldgfnaaGreatDoor
open Go.RowKit QM SX LA
/-! The least common denominator. -/
def lcmL : List Rat → Nat
  | [] => 1
  | v :: l => Nat.lcm (lcmL l) v.den
/-- From the front. -/
def lcmF (l : List Rat) : Nat := lcmL l.reverse
/-- A whole number as a fraction. -/
def qj (z : Int) : Rat := qv z 1
/-- The numerators over the least common denominator. -/
def clrM (vs : List Rat) : List Int := vs.map fun v => (v * qj (lcmF vs)).num
/-- The greatest common divisor, number by number. -/
def gcdF (d : Nat) : List Int → Nat
  | [] => d
  | z :: l => gcdF (Nat.gcd d z.natAbs) l
def gcdK (d : Nat) (l : List Int) (k : Nat) : Nat := gcdF d (l.take k)
end Go.Proofs.YtfhpmbenldgfnaaGreatDoor
/- A matrix times the least number that makes it whole: the walk; the statement. -/
set_option linter.unusedVariables false
set_option linter.unusedSimpArgs false
namespace Go.Proofs.YtfhpmbenldgfnaaGreatDoor
open Go.RowKit QM SX LA
attribute [local irreducible] IntKind.wrap Go1 Reg WP thenK inBlk retQ retF RetF RetOK ResOK CallOK OpOK Sat
attribute [local irreducible] qsub qmul qquo qcmp qadd qv redS mf
end Go.Proofs.YtfhpmbenldgfnaaGreatDoor
/- A matrix times the least number that makes it whole is whole; no divisor does it. -/
set_option linter.unusedVariables false
set_option linter.unusedSimpArgs false
namespace Go.Proofs.YtfhpmbenldgfnaaGreatDoor
open Go.RowKit QM SX LA
attribute [local irreducible] IntKind.wrap Go1 Reg WP thenK inBlk retQ retF RetF RetOK ResOK CallOK OpOK Sat
attribute [local irreducible] qsub qmul qquo qcmp qadd qv redS mf
end Go.Proofs.YtfhpmbenldgfnaaGreatDoor
/- Values of the language: their cells. -/
set_option linter.unusedVariables false
set_option linter.unusedSimpArgs false
namespace Go.Proofs.YtfhpmbenldgfnaaGreatDoor
open Go.RowKit QM SX LA
def wdC (w : Nat) : List CA := [.val (.int .u64 (w : Int))]
instance : EncLen wdC 1 := ⟨fun _ => rfl⟩
/-- A value as it comes. -/
structure Vl where
  k : Int
  q : RawQ
  r : Int
  c : Int
  a : List RawQ
  po : List RawZ
  p : Nat
  fr : Int
  fc : Int
  fa : List Nat
  ri : List Nat
  li : List Vl
mutual
def vlC : Vl → List CA
  | ⟨k, q, r, c, a, po, p, fr, fc, fa, ri, li⟩ => [.val (.int .i64 k), .val (.bool q.1), .sat (rawN q.2.1), .val (.bool q.2.2.1), .sat (rawN q.2.2.2), .val (.int .i64 r), .val (.int .i64 c), .sat (rowR 4 q4C (a.map rq)), .sat (rowR 2 z2C (po.map rz)), .val (.int .u64 (p : Int)), .val (.int .i64 fr), .val (.int .i64 fc), .sat (rowR 1 wdC fa), .sat (rowR 1 wdC ri), .sat (sliceR 15 li.length (vlL li))]
def vlL : List Vl → List CA
  | [] => []
  | k :: ks => vlC k ++ vlL ks
end
theorem vlL_eq : ∀ ks : List Vl, vlL ks = ks.flatMap vlC
  | [] => by rw [vlL]; rfl
  | k :: ks => by rw [vlL, vlL_eq ks, List.flatMap_cons]
/-- A value's cells, told field by field. -/
def vlE (v : Vl) : List CA := [.val (.int .i64 v.k), .val (.bool v.q.1), .sat (rawN v.q.2.1), .val (.bool v.q.2.2.1), .sat (rawN v.q.2.2.2), .val (.int .i64 v.r), .val (.int .i64 v.c), .sat (rowR 4 q4C (v.a.map rq)), .sat (rowR 2 z2C (v.po.map rz)), .val (.int .u64 (v.p : Int)), .val (.int .i64 v.fr), .val (.int .i64 v.fc), .sat (rowR 1 wdC v.fa), .sat (rowR 1 wdC v.ri), .sat (rowR 15 vlC v.li)]
theorem vlC_eq (v : Vl) : vlC v = vlE v := by
  cases v; rw [vlC, vlL_eq]; rfl
instance : EncLen vlC 15 := ⟨fun v => by rw [vlC_eq]; rfl⟩
instance : EncLen vlE 15 := ⟨fun v => rfl⟩
theorem row_vlE (l : List Vl) : rowR 15 vlC l = rowR 15 vlE l := by rw [show vlC = vlE from funext vlC_eq]
/-- A value's atoms. -/
abbrev vlA (v : Vl) : List Atom := [.c (.val (.int .i64 v.k)), .c (.val (.bool v.q.1)), .c (.sat (rawN v.q.2.1)), .c (.val (.bool v.q.2.2.1)), .c (.sat (rawN v.q.2.2.2)), .c (.val (.int .i64 v.r)), .c (.val (.int .i64 v.c)), .c (.sat (rowR 4 q4C (v.a.map rq))), .c (.sat (rowR 2 z2C (v.po.map rz))), .c (.val (.int .u64 (v.p : Int))), .c (.val (.int .i64 v.fr)), .c (.val (.int .i64 v.fc)), .c (.sat (rowR 1 wdC v.fa)), .c (.sat (rowR 1 wdC v.ri)), .c (.sat (rowR 15 vlC v.li))]
/-- The normal cells of a fraction, of a whole number. -/
def cq (v : Rat) : RawQ := (decide (v.num < 0), wds v.num.natAbs, decide ((v.den : Int) < 0), wds (v.den : Int).natAbs)
def cz (z : Int) : RawZ := (decide (z < 0), wds z.natAbs)
abbrev rq0 : RawQ := (false, [], false, [])
/-- Nothing; a number; a matrix. -/
abbrev v0 : Vl := ⟨0, rq0, 0, 0, [], [], 0, 0, 0, [], [], []⟩
abbrev vNum (v : Rat) : Vl := ⟨1, cq v, 0, 0, [], [], 0, 0, 0, [], [], []⟩
abbrev vMat (r c : Nat) (vs : List Rat) : Vl := ⟨2, rq0, r, c, vs.map cq, [], 0, 0, 0, [], [], []⟩
abbrev vPol (zs : List Int) : Vl := ⟨3, rq0, 0, 0, [], zs.map cz, 0, 0, 0, [], [], []⟩
abbrev vFld (p r c : Nat) (l : List Nat) : Vl := ⟨4, rq0, 0, 0, [], [], p, r, c, l, [], []⟩
abbrev vRng (p : Nat) (l : List Nat) : Vl := ⟨5, rq0, 0, 0, [], [], p, 0, 0, [], l, []⟩
abbrev vLst (l : List Vl) : Vl := ⟨6, rq0, 0, 0, [], [], 0, 0, 0, [], [], l⟩
/-- What holds of cells told in one way holds of them told in the other. -/
def AtomI (x y : Atom) : Prop := ∀ E S w v, x.has E S w v → y.has E S w v
theorem AtomI.refl (x : Atom) : AtomI x x := fun _ _ _ _ h => h
theorem agg_go {E : Env} {S : Nat → Prop} {w : World} : ∀ {l l' : List Atom}, All2 AtomI l l' → ∀ us, All2 (Atom.has E S w) l us → All2 (Atom.has E S w) l' us
  | [], [], _, _, h2 => h2
  | x :: l, y :: l', h, u :: us, h2 => ⟨h.1 _ _ _ _ h2.1, agg_go h.2 us h2.2⟩
theorem imp_agg {l l' : List Atom} (h : All2 AtomI l l') : AV0.imp (.agg l) (.agg l') := fun E S w v ⟨us, hu, h2⟩ => ⟨us, hu, agg_go h us h2⟩
theorem slice_imp {size n : Nat} {cells cells' : List CA} {S : Nat → Prop} {w : World} (hl : cells.length = cells'.length) (h : ∀ (i : Nat) (c c' : CA), cells[i]? = some c → cells'[i]? = some c' → ∀ u, c.has S w u → c'.has S w u) {v : Value} (hv : (sliceR size n cells).has S w v) : (sliceR size n cells').has S w v := by
  obtain ⟨oa, cap, h1, h2, h3, h4, h5, h6⟩ := sliceR_iff.1 hv
  refine sliceR_iff.2 ⟨oa, cap, h1, h2, h3, h4, by omega, fun i c' hc' => ?_⟩
  have hi := at_lt hc'
  obtain ⟨b, o, u, e1, e2, e3, e4⟩ := h6 i cells[i] (List.getElem?_eq_getElem (by omega))
  exact ⟨b, o, u, e1, e2, e3, h i _ _ (List.getElem?_eq_getElem (by omega)) hc' u e4⟩
theorem AtomI.slice {size n : Nat} {cells cells' : List CA} (hl : cells.length = cells'.length) (h : ∀ (i : Nat) (c c' : CA), cells[i]? = some c → cells'[i]? = some c' → ∀ S w u, c.has S w u → c'.has S w u) : AtomI (.c (.sat (sliceR size n cells))) (.c (.sat (sliceR size n cells'))) := fun E S w v hv => slice_imp hl (fun i c c' h1 h2 => h i c c' h1 h2 S w) hv
/-- Cells that are told one by one. -/
def CellI (x y : CA) : Prop := ∀ S w u, x.has S w u → y.has S w u
theorem CellI.refl (x : CA) : CellI x x := fun _ _ _ h => h
theorem All2.len {α β : Type} {R : α → β → Prop} : ∀ {l : List α} {l' : List β}, All2 R l l' → l.length = l'.length
  | [], [], _ => rfl
  | _ :: _, _ :: _, h => by rw [List.length_cons, List.length_cons, All2.len h.2]
theorem All2.at {α β : Type} {R : α → β → Prop} : ∀ {l : List α} {l' : List β}, All2 R l l' → ∀ (i : Nat) (a : α) (b : β), l[i]? = some a → l'[i]? = some b → R a b
  | _ :: _, _ :: _, h, 0, a, b, ha, hb => by cases ha; cases hb; exact h.1
  | _ :: _, _ :: _, h, i + 1, a, b, ha, hb => All2.at h.2 i a b ha hb
theorem All2.app {α β : Type} {R : α → β → Prop} : ∀ {l : List α} {l' : List β} {m : List α} {m' : List β}, All2 R l l' → All2 R m m' → All2 R (l ++ m) (l' ++ m')
  | [], [], _, _, _, h => h
  | _ :: _, _ :: _, _, _, h, h2 => ⟨h.1, All2.app h.2 h2⟩
theorem All2.flat {α β γ : Type} {R : CA → CA → Prop} {enc : α → List CA} {enc' : β → List CA} {f : γ → α} {g : γ → β} : ∀ (l : List γ), (∀ x ∈ l, All2 R (enc (f x)) (enc' (g x))) → All2 R ((l.map f).flatMap enc) ((l.map g).flatMap enc')
  | [], _ => trivial
  | x :: l, h => All2.app (h x (List.mem_cons_self ..)) (All2.flat l fun y hy => h y (List.mem_cons_of_mem _ hy))
theorem AtomI.row {α β γ : Type} {size : Nat} {enc : α → List CA} {enc' : β → List CA} {f : γ → α} {g : γ → β} (l : List γ) (h : ∀ x ∈ l, All2 CellI (enc (f x)) (enc' (g x))) : AtomI (.c (.sat (rowR size enc (l.map f)))) (.c (.sat (rowR size enc' (l.map g)))) := by
  have h2 := All2.flat l h
  show AtomI (.c (.sat (sliceR size (l.map f).length ((l.map f).flatMap enc)))) (.c (.sat (sliceR size (l.map g).length ((l.map g).flatMap enc'))))
  rw [List.length_map, List.length_map]
  exact AtomI.slice (All2.len h2) (fun i c c' h3 h4 => All2.at h2 i c c' h3 h4)
theorem nrm_raw (n : Nat) : CellI (.sat (nrmN n)) (.sat (rawN (wds n))) := fun S w v h => by
  obtain ⟨l, h1, h2, _, h4⟩ := nrmN_iff.1 h
  have := wds_uniq (rawN_iff.1 h4).1 h1
  rw [h2] at this
  rw [← this]; exact h4
theorem AtomI.nrm (n : Nat) : AtomI (.c (.sat (nrmN n))) (.c (.sat (rawN (wds n)))) := fun E S w v h => nrm_raw n S w v h
theorem AtomI.nil {α : Type} {size : Nat} {enc : α → List CA} : AtomI (.c (.val (.slice none 0 0))) (.c (.sat (rowR size enc []))) := fun E S w v h => by
  rw [show v = .slice none 0 0 from h]; exact nil_row
theorem AtomI.nilN : AtomI (.c (.val (.slice none 0 0))) (.c (.sat (rawN []))) := fun E S w v h => by
  rw [show v = .slice none 0 0 from h]
  exact rawN_iff.2 ⟨Sm.nil, (nil_row (α := Nat) (enc := wdC) (size := 1) : (rowR 1 wdC []).has S w _)⟩
theorem AtomI.rats (vs : List Rat) : AtomI (.c (.sat (rowR 4 q4C (vs.map q4v)))) (.c (.sat (rowR 4 q4C ((vs.map cq).map rq)))) := by
  rw [List.map_map]
  exact AtomI.row vs fun x _ => ⟨CellI.refl _, nrm_raw _, CellI.refl _, nrm_raw _, trivial⟩
theorem AtomI.ints (zs : List Int) : AtomI (.c (.sat (rowR 2 z2C (zs.map z2v)))) (.c (.sat (rowR 2 z2C ((zs.map cz).map rz)))) := by
  rw [List.map_map]
  exact AtomI.row zs fun x _ => ⟨CellI.refl _, nrm_raw _, trivial⟩
theorem cq_val (v : Rat) : rqv (cq v) = v := by
  show qv (sgn (decide (v.num < 0)) (nval WB (wds v.num.natAbs))) (sgn (decide ((v.den : Int) < 0)) (nval WB (wds (v.den : Int).natAbs))) = v
  rw [wds_val, wds_val, z_sgn, z_sgn]
  exact qv_self v
theorem cz_val (z : Int) : rzv (cz z) = z := by
  show sgn (decide (z < 0)) (nval WB (wds z.natAbs)) = z
  rw [wds_val, z_sgn]
theorem cq_sm (v : Rat) : Sm WB (cq v).2.1 ∧ Sm WB (cq v).2.2.2 := ⟨wds_sm _, wds_sm _⟩
theorem cz_sm (z : Int) : Sm WB (cz z).2 := wds_sm _
theorem RSm.cq (vs : List Rat) : RSm (vs.map cq) := fun x hx => by obtain ⟨v, _, rfl⟩ := List.mem_map.1 hx; exact cq_sm v
theorem RLen.cq {vs : List Rat} {K : Nat} (h : ∀ v ∈ vs, RB v K) : RLen (vs.map cq) K := fun x hx => by
  obtain ⟨v, hv, rfl⟩ := List.mem_map.1 hx
  exact ⟨wds_len (h v hv).n, wds_len (by rw [Int.natAbs_natCast]; exact (h v hv).d)⟩
theorem cq_vals (vs : List Rat) : (vs.map cq).map rqv = vs := by
  rw [List.map_map, show rqv ∘ cq = id from funext cq_val, List.map_id]
theorem cz_vals (zs : List Int) : (zs.map cz).map rzv = zs := by
  rw [List.map_map, show rzv ∘ cz = id from funext cz_val, List.map_id]
theorem MV.cq {vs : List Rat} {K : Nat} (h : ∀ v ∈ vs, RB v K) : MV ((vs.map cq).map rq) vs K := by
  have := MV.raw (RSm.cq vs) (RLen.cq h)
  rwa [cq_vals] at this
theorem Ra.cq {v : Rat} {K : Nat} (h : RB v K) : Ra (q4A (rq (cq v))) v K := by
  have := (MV.cq (vs := [v]) (K := K) fun u hu => by rw [List.mem_singleton.1 hu]; exact h).ra 0 _ _ rfl rfl
  exact this
end Go.Proofs.YtfhpmbenldgfnaaGreatDoor
/- Values that are made. -/
set_option linter.unusedVariables false
set_option linter.unusedSimpArgs false
namespace Go.Proofs.YtfhpmbenldgfnaaGreatDoor
open Go.RowKit QM SX LA
attribute [local irreducible] IntKind.wrap Go1 Reg WP thenK inBlk retQ retF RetF RetOK ResOK CallOK OpOK Sat
attribute [local irreducible] qsub qmul qquo qcmp qadd qv redS mf
section
variable {P : Program} {C : Ctx} {st : St}
theorem retAi {r : ResultVar} {x y : AV0} (h : ResOK P st r x) (e : x.imp y) : RetF C P [r] ⟨.it y, []⟩ st := .ok (RetOK.mk1 (h.imp e))
end
theorem imp_num {v : Rat} : AV0.imp (.agg [.c (.val (.int .i64 1)), .c (.val (.bool (decide (v.num < 0)))), .c (.sat (nrmN v.num.natAbs)), .c (.val (.bool (decide ((v.den : Int) < 0)))), .c (.sat (nrmN (v.den : Int).natAbs)), .c (.val (.int .i64 0)), .c (.val (.int .i64 0)), .c (.val (.slice none 0 0)), .c (.val (.slice none 0 0)), .c (.val (.int .u64 0)), .c (.val (.int .i64 0)), .c (.val (.int .i64 0)), .c (.val (.slice none 0 0)), .c (.val (.slice none 0 0)), .c (.val (.slice none 0 0))]) (.agg (vlA (vNum v))) :=
  imp_agg ⟨AtomI.refl _, AtomI.refl _, AtomI.nrm _, AtomI.refl _, AtomI.nrm _, AtomI.refl _, AtomI.refl _, AtomI.nil, AtomI.nil, AtomI.refl _, AtomI.refl _, AtomI.refl _, AtomI.nil, AtomI.nil, AtomI.nil, trivial⟩
theorem imp_none : AV0.imp (.agg [.c (.val (.int .i64 0)), .c (.val (.bool false)), .c (.val (.slice none 0 0)), .c (.val (.bool false)), .c (.val (.slice none 0 0)), .c (.val (.int .i64 0)), .c (.val (.int .i64 0)), .c (.val (.slice none 0 0)), .c (.val (.slice none 0 0)), .c (.val (.int .u64 0)), .c (.val (.int .i64 0)), .c (.val (.int .i64 0)), .c (.val (.slice none 0 0)), .c (.val (.slice none 0 0)), .c (.val (.slice none 0 0))]) (.agg (vlA v0)) :=
  imp_agg ⟨AtomI.refl _, AtomI.refl _, AtomI.nilN, AtomI.refl _, AtomI.nilN, AtomI.refl _, AtomI.refl _, AtomI.nil, AtomI.nil, AtomI.refl _, AtomI.refl _, AtomI.refl _, AtomI.nil, AtomI.nil, AtomI.nil, trivial⟩
theorem con_Number {q : Q4} {v : Rat} {K : Nat} (h : Ra (q4A q) v K) (hK : K ≤ 100000) : PureOK Tryz.prog 25 [.agg (q4A q)] (.agg (vlA (vNum v))) := by
  have cO : PureOK Tryz.prog 36 [.agg [.c (.val (.bool false)), .c (.val (.slice none 0 0))]] (.agg (qA 0)) := con_rOf.h (by decide)
  haveI : Ra (qA 0) 0 1 := (RB.zero (Nat.le_refl 1)).ra
  obtain ⟨X, cA, hX⟩ := eAdd (q4A q) (qA 0) (K := K) (K' := 1) (by omega)
  rw [Rat.add_zero] at hX
  have e := hX.nf
  subst e
  refine PureOK.fnF Tryz.func25 Tryz.results25 Tryz.ntmps25 rfl rfl rfl (by simp [AV.ids, AV0.ids, Atom.ids]) rfl (fun w0 T B E0 hB => ?_)
  refine SX.goN ?_
  refine retAi (ResOK.agg15 rfl rfl rfl) ?_
  exact imp_num
theorem RB.ofI {z : Int} {K : Nat} (h : z.natAbs < WB ^ K) (h1 : 1 ≤ K) : RB (z : Rat) K := RB.of (p := z) (q := 1) (by decide) (by unfold qv; grind) h (by
  rw [show (1 : Int).natAbs = 1 from rfl]
  exact (Bd.mono Bd.one.h h1 : (1 : Int).natAbs < WB ^ K))
theorem con_Whole {q : Z2} {z : Int} {K : Nat} (h : ZQ q z K) (h1 : 1 ≤ K) (hK : K ≤ 100000) : PureOK Tryz.prog 22 [.agg (z2A q)] (.agg (vlA (vNum (z : Rat)))) := by
  haveI := h.zi
  have cO : PureOK Tryz.prog 36 [.agg (z2A q)] (.agg (qA (z : Rat))) := con_rOf.h (by omega)
  have hR : RB (z : Rat) K := RB.ofI h.b h1
  have cN : PureOK Tryz.prog 25 [.agg (qA (z : Rat))] (.agg (vlA (vNum (z : Rat)))) := con_Number (q := q4v z) hR.ra hK
  refine PureOK.fnF Tryz.func22 Tryz.results22 Tryz.ntmps22 rfl rfl rfl (by simp [AV.ids, AV0.ids, Atom.ids]) rfl (fun w0 T B E0 hB => ?_)
  refine SX.goN ?_
  refine retAi (ResOK.agg15 rfl rfl rfl) ?_
  exact AV0.imp.refl _
end Go.Proofs.YtfhpmbenldgfnaaGreatDoor
/- What of a value is not its kind's. -/
set_option linter.unusedVariables false
set_option linter.unusedSimpArgs false
namespace Go.Proofs.YtfhpmbenldgfnaaGreatDoor
open Go.RowKit QM SX LA
attribute [local irreducible] IntKind.wrap Go1 Reg WP thenK inBlk retQ retF RetF RetOK ResOK CallOK OpOK Sat
attribute [local irreducible] qsub qmul qquo qcmp qadd qv redS mf
theorem con_None13 (r c : Int) {n : Nat} {cells : List CA} : PureOK Tryz.prog 119 [.agg [.c (.val (.int .i64 r)), .c (.val (.int .i64 c)), .c (.sat (sliceR 4 n cells))]] (.v (.bool (decide (r = 0 ∧ c = 0 ∧ n = 0)))) := by
  refine PureOK.fnF Tryz.func119 Tryz.results119 Tryz.ntmps119 rfl rfl rfl (by simp [AV.ids, AV0.ids, Atom.ids]) rfl (fun w0 T B E0 hB => ?_)
  by_cases h1 : r = 0
  · by_cases h2 : c = 0
    · refine SX.goN ?_
      refine retB ?_
      rw [decide_eq_decide]
      constructor
      · intro h; exact ⟨h1, h2, by omega⟩
      · intro h; omega
    · refine SX.goN ?_
      refine retB ?_; exact (decide_eq_false fun h => h2 h.2.1).symm
  · refine SX.goN ?_
    refine retB ?_; exact (decide_eq_false fun h => h1 h.1).symm
theorem con_None21 (r c : Int) {n : Nat} {cells : List CA} : PureOK Tryz.prog 120 [.agg [.c (.val (.int .i64 r)), .c (.val (.int .i64 c)), .c (.sat (sliceR 1 n cells))]] (.v (.bool (decide (r = 0 ∧ c = 0 ∧ n = 0)))) := by
  refine PureOK.fnF Tryz.func120 Tryz.results120 Tryz.ntmps120 rfl rfl rfl (by simp [AV.ids, AV0.ids, Atom.ids]) rfl (fun w0 T B E0 hB => ?_)
  by_cases h1 : r = 0
  · by_cases h2 : c = 0
    · refine SX.goN ?_
      refine retB ?_
      rw [decide_eq_decide]
      constructor
      · intro h; exact ⟨h1, h2, by omega⟩
      · intro h; omega
    · refine SX.goN ?_
      refine retB ?_; exact (decide_eq_false fun h => h2 h.2.1).symm
  · refine SX.goN ?_
    refine retB ?_; exact (decide_eq_false fun h => h1 h.1).symm
theorem rq0_iff (q : RawQ) : q = rq0 ↔ q.2.1.length = 0 ∧ q.2.2.2.length = 0 ∧ q.1 = false ∧ q.2.2.1 = false := by
  constructor
  · rintro rfl; exact ⟨rfl, rfl, rfl, rfl⟩
  · obtain ⟨b, l, b', l'⟩ := q
    rintro ⟨h1, h2, h3, h4⟩
    dsimp only at h1 h2 h3 h4
    rw [List.eq_nil_of_length_eq_zero h1, List.eq_nil_of_length_eq_zero h2, h3, h4]
theorem con_bare (q : RawQ) : PureOK Tryz.prog 118 [.agg (q4A (rq q))] (.v (.bool (decide (q = rq0)))) := by
  have hq := rq0_iff q
  rw [show decide (q = rq0) = decide (q.2.1.length = 0 ∧ q.2.2.2.length = 0 ∧ q.1 = false ∧ q.2.2.1 = false) from decide_eq_decide.2 hq]
  refine PureOK.fnF Tryz.func118 Tryz.results118 Tryz.ntmps118 rfl rfl rfl (by simp [AV.ids, AV0.ids, Atom.ids]) rfl (fun w0 T B E0 hB => ?_)
  by_cases h1 : q.2.1.length = 0
  · by_cases h2 : q.2.2.2.length = 0
    · cases h3 : q.1
      · cases h4 : q.2.2.1
        · refine SX.goN ?_
          refine retB ?_; rw [h4]; exact (decide_eq_true ⟨h1, h2, rfl, rfl⟩).symm
        · refine SX.goN ?_
          refine retB ?_; rw [h4]; exact (decide_eq_false fun h => by cases h.2.2.2).symm
      · refine SX.goN ?_
        refine retB ?_; exact (decide_eq_false fun h => by cases h.2.2.1).symm
    · refine SX.goN ?_
      refine retB ?_; exact (decide_eq_false fun h => h2 h.2.1).symm
  · refine SX.goN ?_
    refine retB ?_; exact (decide_eq_false fun h => h1 h.1).symm
/-- One, or none. -/
def pt (p : Prop) [Decidable p] : Nat := if p then 1 else 0
theorem pt_t {p : Prop} [Decidable p] (h : p) : pt p = 1 := if_pos h
theorem pt_f {p : Prop} [Decidable p] (h : ¬ p) : pt p = 0 := if_neg h
theorem pt_le (p : Prop) [Decidable p] : pt p ≤ 1 := by unfold pt; split <;> omega
/-- How many of a value's parts have something, beside its own kind's. -/
def vP (v : Vl) : Nat := pt (v.k ≠ 1 ∧ v.q ≠ rq0) + pt (v.k ≠ 2 ∧ ¬ (v.r = 0 ∧ v.c = 0 ∧ v.a.length = 0)) + pt (v.k ≠ 3 ∧ v.po.length ≠ 0) + pt (v.k ≠ 4 ∧ ¬ (v.fr = 0 ∧ v.fc = 0 ∧ v.fa.length = 0)) + pt (v.k ≠ 5 ∧ v.ri.length ≠ 0) + pt ((v.k ≠ 4 ∧ v.k ≠ 5) ∧ v.p ≠ 0) + pt (v.k ≠ 6 ∧ v.li.length ≠ 0)
theorem con_Parts (v : Vl) : PureOK Tryz.prog 50 [.agg (vlA v)] (.v (.int .i64 (vP v : Int))) := by
  have c1 := con_bare v.q
  have c2 := con_None13 v.r v.c (n := (v.a.map rq).length) (cells := (v.a.map rq).flatMap q4C)
  have c4 := con_None21 v.fr v.fc (n := v.fa.length) (cells := v.fa.flatMap wdC)
  have l1 : (v.a.map rq).length = v.a.length := List.length_map _
  have l2 : (v.po.map rz).length = v.po.length := List.length_map _
  generalize hv : vP v = N
  unfold vP at hv
  have b1 := pt_le (v.k ≠ 1 ∧ v.q ≠ rq0)
  have b2 := pt_le (v.k ≠ 2 ∧ ¬ (v.r = 0 ∧ v.c = 0 ∧ v.a.length = 0))
  have b3 := pt_le (v.k ≠ 3 ∧ v.po.length ≠ 0)
  have b4 := pt_le (v.k ≠ 4 ∧ ¬ (v.fr = 0 ∧ v.fc = 0 ∧ v.fa.length = 0))
  have b5 := pt_le (v.k ≠ 5 ∧ v.ri.length ≠ 0)
  have b6 := pt_le ((v.k ≠ 4 ∧ v.k ≠ 5) ∧ v.p ≠ 0)
  have b7 := pt_le (v.k ≠ 6 ∧ v.li.length ≠ 0)
  generalize e1 : pt (v.k ≠ 1 ∧ v.q ≠ rq0) = n1 at hv b1
  generalize e2 : pt (v.k ≠ 2 ∧ ¬ (v.r = 0 ∧ v.c = 0 ∧ v.a.length = 0)) = n2 at hv b2
  generalize e3 : pt (v.k ≠ 3 ∧ v.po.length ≠ 0) = n3 at hv b3
  generalize e4 : pt (v.k ≠ 4 ∧ ¬ (v.fr = 0 ∧ v.fc = 0 ∧ v.fa.length = 0)) = n4 at hv b4
  generalize e5 : pt (v.k ≠ 5 ∧ v.ri.length ≠ 0) = n5 at hv b5
  generalize e6 : pt ((v.k ≠ 4 ∧ v.k ≠ 5) ∧ v.p ≠ 0) = n6 at hv b6
  generalize e7 : pt (v.k ≠ 6 ∧ v.li.length ≠ 0) = n7 at hv b7
  refine PureOK.fnF Tryz.func50 Tryz.results50 Tryz.ntmps50 rfl rfl rfl (by simp [AV.ids, AV0.ids, Atom.ids]) rfl (fun w0 T B E0 hB => ?_)
  refine W.meet [(1, .ptr 1 0)] [(1, .box 39 (vlA v))] ?_ ?_
  · refine SX.goN ?_
    exact W.le
  refine W.meet [(1, .ptr 1 0), (3, .v (.int .i64 0))] [(1, .box 39 (vlA v))] ?_ ?_
  · refine SX.goN ?_
    exact W.le
  refine W.meet [(1, .ptr 1 0), (3, .v (.int .i64 (n1 : Int)))] [(1, .box 39 (vlA v))] ?_ ?_
  · by_cases h : v.k = 1
    · rw [pt_f fun h' => h'.1 h] at e1; subst e1
      refine SX.goN ?_
      exact W.le
    · by_cases h2 : v.q = rq0
      · rw [pt_f fun h' => h'.2 h2] at e1; subst e1
        rw [decide_eq_true h2] at c1
        refine SX.goN ?_
        exact W.le
      · rw [pt_t ⟨h, h2⟩] at e1; subst e1
        rw [decide_eq_false h2] at c1
        refine SX.goN ?_
        exact W.le
  refine W.meet [(1, .ptr 1 0), (3, .v (.int .i64 ((n1 + n2 : Nat) : Int)))] [(1, .box 39 (vlA v))] ?_ ?_
  · by_cases h : v.k = 2
    · rw [pt_f fun h' => h'.1 h] at e2; subst e2
      refine SX.goN ?_
      exact W.le
    · by_cases h2 : v.r = 0 ∧ v.c = 0 ∧ v.a.length = 0
      · rw [pt_f fun h' => h'.2 h2] at e2; subst e2
        rw [decide_eq_true (show _ ∧ _ ∧ _ from ⟨h2.1, h2.2.1, l1.trans h2.2.2⟩)] at c2
        refine SX.goN ?_
        exact W.le
      · rw [pt_t ⟨h, h2⟩] at e2; subst e2
        rw [decide_eq_false fun h3 => h2 ⟨h3.1, h3.2.1, l1.symm.trans h3.2.2⟩] at c2
        refine SX.goN ?_
        exact W.le
  refine W.meet [(1, .ptr 1 0), (3, .v (.int .i64 ((n1 + n2 + n3 : Nat) : Int)))] [(1, .box 39 (vlA v))] ?_ ?_
  · by_cases h : v.k = 3
    · rw [pt_f fun h' => h'.1 h] at e3; subst e3
      refine SX.goN ?_
      exact W.le
    · by_cases h2 : v.po.length = 0
      · rw [pt_f fun h' => h'.2 h2] at e3; subst e3
        refine SX.goN ?_
        exact W.le
      · rw [pt_t ⟨h, h2⟩] at e3; subst e3
        refine SX.goN ?_
        exact W.le
  refine W.meet [(1, .ptr 1 0), (3, .v (.int .i64 ((n1 + n2 + n3 + n4 : Nat) : Int)))] [(1, .box 39 (vlA v))] ?_ ?_
  · by_cases h : v.k = 4
    · rw [pt_f fun h' => h'.1 h] at e4; subst e4
      refine SX.goN ?_
      exact W.le
    · by_cases h2 : v.fr = 0 ∧ v.fc = 0 ∧ v.fa.length = 0
      · rw [pt_f fun h' => h'.2 h2] at e4; subst e4
        rw [decide_eq_true h2] at c4
        refine SX.goN ?_
        exact W.le
      · rw [pt_t ⟨h, h2⟩] at e4; subst e4
        rw [decide_eq_false h2] at c4
        refine SX.goN ?_
        exact W.le
  refine W.meet [(1, .ptr 1 0), (3, .v (.int .i64 ((n1 + n2 + n3 + n4 + n5 : Nat) : Int)))] [(1, .box 39 (vlA v))] ?_ ?_
  · by_cases h : v.k = 5
    · rw [pt_f fun h' => h'.1 h] at e5; subst e5
      refine SX.goN ?_
      exact W.le
    · by_cases h2 : v.ri.length = 0
      · rw [pt_f fun h' => h'.2 h2] at e5; subst e5
        refine SX.goN ?_
        exact W.le
      · rw [pt_t ⟨h, h2⟩] at e5; subst e5
        refine SX.goN ?_
        exact W.le
  refine W.meet [(1, .ptr 1 0), (3, .v (.int .i64 ((n1 + n2 + n3 + n4 + n5 + n6 : Nat) : Int)))] [(1, .box 39 (vlA v))] ?_ ?_
  · by_cases h : v.k = 4
    · rw [pt_f fun h' => h'.1.1 h] at e6; subst e6
      refine SX.goN ?_
      exact W.le
    · by_cases h1 : v.k = 5
      · rw [pt_f fun h' => h'.1.2 h1] at e6; subst e6
        refine SX.goN ?_
        exact W.le
      · by_cases h2 : v.p = 0
        · rw [pt_f fun h' => h'.2 h2] at e6; subst e6
          refine SX.goN ?_
          exact W.le
        · rw [pt_t ⟨⟨h, h1⟩, h2⟩] at e6; subst e6
          refine SX.goN ?_
          exact W.le
  refine W.meet [(1, .ptr 1 0), (3, .v (.int .i64 ((n1 + n2 + n3 + n4 + n5 + n6 + n7 : Nat) : Int)))] [(1, .box 39 (vlA v))] ?_ ?_
  · by_cases h : v.k = 6
    · rw [pt_f fun h' => h'.1 h] at e7; subst e7
      refine SX.goN ?_
      exact W.le
    · by_cases h2 : v.li.length = 0
      · rw [pt_f fun h' => h'.2 h2] at e7; subst e7
        refine SX.goN ?_
        exact W.le
      · rw [pt_t ⟨h, h2⟩] at e7; subst e7
        refine SX.goN ?_
        exact W.le
  refine SX.goN ?_
  refine retI ?_
  rw [← hv]
end Go.Proofs.YtfhpmbenldgfnaaGreatDoor
/- Tests of a value's numbers; what is looked for in a row. -/
set_option linter.unusedVariables false
set_option linter.unusedSimpArgs false
namespace Go.Proofs.YtfhpmbenldgfnaaGreatDoor
open Go.RowKit QM SX LA
/-- Is a whole number told in the normal way? -/
def zOk (x : RawZ) : Bool := if x.2.length = 0 then !x.1 else decide (x.2.getD (x.2.length - 1) 0 ≠ 0)
theorem zOk_iff {x : RawZ} (hs : Sm WB x.2) : zOk x = true ↔ x = cz (rzv x) := by
  constructor
  · intro h
    obtain ⟨b, l⟩ := x
    unfold zOk at h
    dsimp only at h hs
    have hn : Nrm l := by
      split at h
      · next h0 => exact .inl (List.eq_nil_of_length_eq_zero h0)
      · exact .inr (of_decide_eq_true h)
    have hw := wds_uniq hs hn
    have hna : (sgn b (nval WB l)).natAbs = nval WB l := by unfold sgn; split <;> omega
    show (b, l) = (decide (sgn b (nval WB l) < 0), wds (sgn b (nval WB l)).natAbs)
    rw [hna, ← hw]
    congr 1
    split at h
    · next h0 =>
      have hb : b = false := by simpa using h
      subst hb
      exact (decide_eq_false (by unfold sgn; simp)).symm
    · next h0 =>
      have hne : nval WB l ≠ 0 := fun e => h0 (by rw [hw, e]; exact (wds_zero 0).2 rfl)
      cases b
      · exact (decide_eq_false (by unfold sgn; simp)).symm
      · exact (decide_eq_true (by unfold sgn; simp; omega)).symm
  · intro h
    rw [h]
    generalize rzv x = z
    unfold zOk cz
    dsimp only
    split
    · next h0 =>
      have hz := (wds_zero z.natAbs).1 h0
      rw [decide_eq_false (by omega)]; rfl
    · next h0 =>
      rcases wds_nrm z.natAbs with h | h
      · rw [h] at h0; exact absurd rfl h0
      · exact decide_eq_true h
/-- Is a fraction told in the normal way? -/
def qOk (q : RawQ) : Bool := zOk (q.1, q.2.1) && zOk (q.2.2.1, q.2.2.2) && decide (0 < rzv (q.2.2.1, q.2.2.2)) && decide (Int.gcd (rzv (q.1, q.2.1)) (rzv (q.2.2.1, q.2.2.2)) = 1)
theorem qOk_iff {q : RawQ} (hs : Sm WB q.2.1 ∧ Sm WB q.2.2.2) : qOk q = true ↔ q = cq (rqv q) := by
  have e1 := zOk_iff (x := (q.1, q.2.1)) hs.1
  have e2 := zOk_iff (x := (q.2.2.1, q.2.2.2)) hs.2
  unfold qOk
  rw [Bool.and_eq_true, Bool.and_eq_true, Bool.and_eq_true, e1, e2, decide_eq_true_iff, decide_eq_true_iff]
  obtain ⟨b, l, b', l'⟩ := q
  dsimp only
  constructor
  · rintro ⟨⟨⟨h1, h2⟩, h3⟩, h4⟩
    have hr : rqv (b, l, b', l') = qv (rzv (b, l)) (rzv (b', l')) := rfl
    have hX : Rd (rzv (b, l), rzv (b', l')) (rqv (b, l, b', l')) (l.length + l'.length + 1) := ⟨hr.symm, h3, h4, ⟨Nat.lt_of_lt_of_le (ZQ.raw (b := b) (l := l) hs.1 (Nat.le_refl _)).b (Nat.pow_le_pow_right WB_pos (by omega))⟩, ⟨Nat.lt_of_lt_of_le (ZQ.raw (b := b') (l := l') hs.2 (Nat.le_refl _)).b (Nat.pow_le_pow_right WB_pos (by omega))⟩⟩
    have hn := hX.nf
    injection hn with n1 n2
    injection h1 with a1 a2
    injection h2 with a3 a4
    unfold cq
    rw [← n1, ← n2]
    exact Prod.ext a1 (Prod.ext a2 (Prod.ext a3 a4))
  · intro h
    generalize rqv (b, l, b', l') = v at h
    injection h with h1 h
    injection h with h2 h
    injection h with h3 h4
    have z1 : rzv (b, l) = v.num := by rw [h1, h2]; exact cz_val v.num
    have z2 : rzv (b', l') = (v.den : Int) := by rw [h3, h4]; exact cz_val (v.den : Int)
    rw [z1, z2]
    refine ⟨⟨⟨?_, ?_⟩, ?_⟩, ?_⟩
    · rw [h1, h2]; rfl
    · rw [h3, h4]; rfl
    · have := v.den_nz; omega
    · have h2 : Nat.Coprime v.num.natAbs v.den := v.reduced
      unfold Int.gcd; rw [Int.natAbs_natCast]; exact h2
theorem fi_any {α : Type} {p : α → Bool} (l : List α) : decide (¬ fi p l 0 < 0) = l.any p := by
  rw [Bool.eq_iff_iff, decide_eq_true_iff, List.any_eq_true]
  constructor
  · intro h
    obtain ⟨i, a, _, h2, h3⟩ := fi_spec l 0 h
    exact ⟨a, List.mem_of_getElem? h2, h3⟩
  · rintro ⟨a, h1, h2⟩ h3
    rw [fi_none h3 a h1] at h2; cases h2
attribute [local irreducible] IntKind.wrap Go1 Reg WP thenK inBlk retQ retF RetF RetOK ResOK CallOK OpOK Sat
attribute [local irreducible] qsub qmul qquo qcmp qadd qv redS mf
theorem con_Plain (x : RawZ) (hl : x.2.length ≤ 1000000000) : PureOK Tryz.prog 189 [.agg (z2A (rz x))] (.v (.bool (zOk x))) := by
  unfold zOk
  refine PureOK.fnF Tryz.func189 Tryz.results189 Tryz.ntmps189 rfl rfl rfl (by simp [AV.ids, AV0.ids, Atom.ids]) rfl (fun w0 T B E0 hB => ?_)
  by_cases h0 : x.2.length = 0
  · rw [if_pos h0]
    cases h1 : x.1
    · refine SX.goN ?_
      refine retB ?_; rfl
    · refine SX.goN ?_
      refine retB ?_; rfl
  · rw [if_neg h0]
    obtain ⟨w, hw⟩ : ∃ w, x.2[x.2.length - 1]? = some w := ⟨_, List.getElem?_eq_getElem (by omega)⟩
    have hg : x.2.getD (x.2.length - 1) 0 = w := by rw [List.getD_eq_getElem?_getD, hw]; rfl
    rw [hg]
    refine SX.goN ?_
    refine retB ?_
    rw [decide_eq_decide]; omega
theorem con_vWhole (x : RawZ) (hl : x.2.length ≤ 1000000000) : PureOK Tryz.prog 153 [.agg (z2A (rz x))] (.v (.bool (zOk x))) := by
  unfold zOk
  refine PureOK.fnF Tryz.func153 Tryz.results153 Tryz.ntmps153 rfl rfl rfl (by simp [AV.ids, AV0.ids, Atom.ids]) rfl (fun w0 T B E0 hB => ?_)
  by_cases h0 : x.2.length = 0
  · rw [if_pos h0]
    cases h1 : x.1
    · refine SX.goN ?_
      refine retB ?_; rfl
    · refine SX.goN ?_
      refine retB ?_; rfl
  · rw [if_neg h0]
    obtain ⟨w, hw⟩ : ∃ w, x.2[x.2.length - 1]? = some w := ⟨_, List.getElem?_eq_getElem (by omega)⟩
    have hg : x.2.getD (x.2.length - 1) 0 = w := by rw [List.getD_eq_getElem?_getD, hw]; rfl
    rw [hg]
    refine SX.goN ?_
    refine retB ?_
    rw [decide_eq_decide]; omega
theorem gsame (q : RawQ) (hs : Sm WB q.2.1 ∧ Sm WB q.2.2.2) (hl : q.2.1.length + q.2.2.2.length ≤ 1000000) : PureOK Tryz.prog 122 [.agg (zN (Int.gcd (rzv (q.1, q.2.1)) (rzv (q.2.2.1, q.2.2.2)) : Int)), .agg (zN 1)] (.v (.bool (decide (Int.gcd (rzv (q.1, q.2.1)) (rzv (q.2.2.1, q.2.2.2)) = 1)))) := by
  haveI b1 : Bd (rzv (q.1, q.2.1)) q.2.1.length := ⟨(ZQ.raw (b := q.1) hs.1 (Nat.le_refl _)).b⟩
  haveI b2 : Bd (rzv (q.2.2.1, q.2.2.2)) q.2.2.2.length := ⟨(ZQ.raw (b := q.2.2.1) hs.2 (Nat.le_refl _)).b⟩
  haveI b3 : Bd (Int.gcd (rzv (q.1, q.2.1)) (rzv (q.2.2.1, q.2.2.2)) : Int) (q.2.1.length + q.2.2.2.length) := ⟨by rw [Int.natAbs_natCast]; exact (BdN.igcd _ _ _ _).h⟩
  have h := (con_zSame (l := zN (Int.gcd (rzv (q.1, q.2.1)) (rzv (q.2.2.1, q.2.2.2)) : Int)) (l' := zN 1)).h (show q.2.1.length + q.2.2.2.length + 1 ≤ 1099511627774 by omega)
  rw [show decide ((Int.gcd (rzv (q.1, q.2.1)) (rzv (q.2.2.1, q.2.2.2)) : Int) = 1) = decide (Int.gcd (rzv (q.1, q.2.1)) (rzv (q.2.2.1, q.2.2.2)) = 1) from decide_eq_decide.2 (by omega)] at h
  exact h
theorem con_Nrm (q : RawQ) (hs : Sm WB q.2.1 ∧ Sm WB q.2.2.2) (hl : q.2.1.length + q.2.2.2.length ≤ 1000000) : PureOK Tryz.prog 113 [.agg (q4A (rq q))] (.v (.bool (qOk q))) := by
  have c1 := con_Plain (q.1, q.2.1) (by dsimp only; omega)
  have c2 := con_Plain (q.2.2.1, q.2.2.2) (by dsimp only; omega)
  have cS := con_zSign (h := ZI.raw q.2.2.1 q.2.2.2).h (show q.2.2.2.length ≤ 1099511627775 by omega)
  have cG := (con_zGcd (h := ZI.raw q.1 q.2.1) (h' := ZI.raw q.2.2.1 q.2.2.2)).h (show q.2.1.length + q.2.2.2.length ≤ 1099511627760 by omega)
  have o1 := of_1
  have cE := gsame q hs hl
  unfold qOk
  have hsg := isignP (rzv (q.2.2.1, q.2.2.2))
  change PureOK _ _ _ (.v (.int .i64 (isign (rzv (q.2.2.1, q.2.2.2))))) at cS
  change PureOK _ _ _ (.agg (zN (Int.gcd (rzv (q.1, q.2.1)) (rzv (q.2.2.1, q.2.2.2)) : Int))) at cG
  generalize rzv (q.2.2.1, q.2.2.2) = z at *
  refine PureOK.fnF Tryz.func113 Tryz.results113 Tryz.ntmps113 rfl rfl rfl (by simp [AV.ids, AV0.ids, Atom.ids]) rfl (fun w0 T B E0 hB => ?_)
  cases h1 : zOk (q.1, q.2.1)
  · rw [h1] at c1
    refine SX.goN ?_
    exact retB rfl
  · rw [h1] at c1
    cases h2 : zOk (q.2.2.1, q.2.2.2)
    · rw [h2] at c2
      refine SX.goN ?_
      exact retB rfl
    · rw [h2] at c2
      by_cases h3 : 0 < z
      · refine SX.goN ?_
        refine retB ?_; rw [decide_eq_true h3]; rfl
      · refine SX.goN ?_
        refine retB ?_; rw [decide_eq_false h3]; rfl
theorem con_Frac (q : RawQ) (hs : Sm WB q.2.1 ∧ Sm WB q.2.2.2) (hl : q.2.1.length + q.2.2.2.length ≤ 1000000) : PureOK Tryz.prog 148 [.agg (q4A (rq q))] (.v (.bool (qOk q))) := by
  have c1 := con_vWhole (q.1, q.2.1) (by dsimp only; omega)
  have c2 := con_vWhole (q.2.2.1, q.2.2.2) (by dsimp only; omega)
  have cS := con_zSign (h := ZI.raw q.2.2.1 q.2.2.2).h (show q.2.2.2.length ≤ 1099511627775 by omega)
  have cG := (con_zGcd (h := ZI.raw q.1 q.2.1) (h' := ZI.raw q.2.2.1 q.2.2.2)).h (show q.2.1.length + q.2.2.2.length ≤ 1099511627760 by omega)
  have o1 := of_1
  have cE := gsame q hs hl
  unfold qOk
  have hsg := isignP (rzv (q.2.2.1, q.2.2.2))
  change PureOK _ _ _ (.v (.int .i64 (isign (rzv (q.2.2.1, q.2.2.2))))) at cS
  change PureOK _ _ _ (.agg (zN (Int.gcd (rzv (q.1, q.2.1)) (rzv (q.2.2.1, q.2.2.2)) : Int))) at cG
  generalize rzv (q.2.2.1, q.2.2.2) = z at *
  refine PureOK.fnF Tryz.func148 Tryz.results148 Tryz.ntmps148 rfl rfl rfl (by simp [AV.ids, AV0.ids, Atom.ids]) rfl (fun w0 T B E0 hB => ?_)
  cases h1 : zOk (q.1, q.2.1)
  · rw [h1] at c1
    refine SX.goN ?_
    exact retB rfl
  · rw [h1] at c1
    cases h2 : zOk (q.2.2.1, q.2.2.2)
    · rw [h2] at c2
      refine SX.goN ?_
      exact retB rfl
    · rw [h2] at c2
      by_cases h3 : 0 < z
      · refine SX.goN ?_
        refine retB ?_; rw [decide_eq_true h3]; rfl
      · refine SX.goN ?_
        refine retB ?_; rw [decide_eq_false h3]; rfl
theorem con_IdxQ (l : List RawQ) (x : CA) (p : RawQ → Bool) (hx : ∀ v ∈ l, FnV Tryz.prog x [.agg (q4A (rq v))] (.v (.bool (p v)))) (hl : l.length ≤ 100000) (hx1 : x.oneB = true) :
    PureOK Tryz.prog 209 [.r (rowR 4 q4C (l.map rq)), .it (.one (.c x))] (.v (.int .i64 (fi p l 0))) := by
  have hlen : (l.map rq).length = l.length := List.length_map _
  refine PureOK.fnF Tryz.func209 Tryz.results209 Tryz.ntmps209 rfl rfl rfl (by simp [AV.ids, AV0.ids, Atom.ids]) rfl (fun w0 T B E0 hB => ?_)
  refine SX.goN ?_
  refine W.loop (fun k => k ≤ l.length ∧ fi p (l.drop k) k = fi p l 0) (fun k => [(0, .r (rowR 4 q4C (l.map rq))), (1, .it (.one (.c x))), (7, .v (.int .i64 (l.length : Int))), (8, .v (.int .i64 (k : Int)))]) (fun _ => []) (fun k => l.length - k) 0 ⟨Nat.zero_le _, rfl⟩ (fun k ⟨hk, he⟩ => ?_)
  by_cases h : k < l.length
  · obtain ⟨r, hr⟩ : ∃ r, l[k]? = some r := ⟨_, List.getElem?_eq_getElem h⟩
    have hf := hx r (List.mem_of_getElem? hr)
    have hq : (l.map rq)[k]? = some (rq r) := by rw [List.getElem?_map, hr]; rfl
    have h' : k < (l.map rq).length := by rw [List.length_map]; exact h
    rw [fi_drop hr] at he
    cases hp : p r with
    | true =>
      rw [hp] at hf he
      refine SX.goN ?_
      refine retI ?_; rw [← he]; rfl
    | false =>
      rw [hp] at hf he
      refine SX.goN ?_
      exact W.next (k + 1) ⟨h, he⟩ (by omega)
  · obtain rfl : k = l.length := by omega
    rw [List.drop_length] at he
    have h' : ¬ l.length < (l.map rq).length := by rw [List.length_map]; omega
    refine SX.goN ?_
    refine retI ?_; rw [← he]; rfl
theorem con_AnyQ (l : List RawQ) (x : CA) (p : RawQ → Bool) (hx : ∀ v ∈ l, FnV Tryz.prog x [.agg (q4A (rq v))] (.v (.bool (p v)))) (hl : l.length ≤ 100000) (hx1 : x.oneB = true) :
    PureOK Tryz.prog 149 [.r (rowR 4 q4C (l.map rq)), .it (.one (.c x))] (.v (.bool (l.any p))) := by
  have c := con_IdxQ l x p hx hl hx1
  rw [← fi_any]
  refine PureOK.fnF Tryz.func149 Tryz.results149 Tryz.ntmps149 rfl rfl rfl (by simp [AV.ids, AV0.ids, Atom.ids]) rfl (fun w0 T B E0 hB => ?_)
  refine SX.goN ?_
  refine retB ?_
  rw [decide_eq_decide]; omega
theorem con_AnyfQ (l : List RawQ) (f : FuncId) (p : RawQ → Bool) (hx : ∀ v ∈ l, PureOK Tryz.prog f [.agg (q4A (rq v))] (.v (.bool (p v)))) (hl : l.length ≤ 100000) :
    PureOK Tryz.prog 149 [.r (rowR 4 q4C (l.map rq)), .it (.one (.clo f []))] (.v (.bool (l.any p))) :=
  weakArgs (con_AnyQ l (.sat (cloR f [] [])) p (fun v h => FnV.const (hx v h)) hl rfl) fun E S w vs hv => by
    match vs, hv with
    | [u1, u2], ⟨h1, h2, _⟩ => exact ⟨h1, fnArg h2, trivial⟩
theorem con_IdxZ (l : List RawZ) (x : CA) (p : RawZ → Bool) (hx : ∀ v ∈ l, FnV Tryz.prog x [.agg (z2A (rz v))] (.v (.bool (p v)))) (hl : l.length ≤ 100000) (hx1 : x.oneB = true) :
    PureOK Tryz.prog 210 [.r (rowR 2 z2C (l.map rz)), .it (.one (.c x))] (.v (.int .i64 (fi p l 0))) := by
  have hlen : (l.map rz).length = l.length := List.length_map _
  refine PureOK.fnF Tryz.func210 Tryz.results210 Tryz.ntmps210 rfl rfl rfl (by simp [AV.ids, AV0.ids, Atom.ids]) rfl (fun w0 T B E0 hB => ?_)
  refine SX.goN ?_
  refine W.loop (fun k => k ≤ l.length ∧ fi p (l.drop k) k = fi p l 0) (fun k => [(0, .r (rowR 2 z2C (l.map rz))), (1, .it (.one (.c x))), (7, .v (.int .i64 (l.length : Int))), (8, .v (.int .i64 (k : Int)))]) (fun _ => []) (fun k => l.length - k) 0 ⟨Nat.zero_le _, rfl⟩ (fun k ⟨hk, he⟩ => ?_)
  by_cases h : k < l.length
  · obtain ⟨r, hr⟩ : ∃ r, l[k]? = some r := ⟨_, List.getElem?_eq_getElem h⟩
    have hf := hx r (List.mem_of_getElem? hr)
    have hq : (l.map rz)[k]? = some (rz r) := by rw [List.getElem?_map, hr]; rfl
    have h' : k < (l.map rz).length := by rw [List.length_map]; exact h
    rw [fi_drop hr] at he
    cases hp : p r with
    | true =>
      rw [hp] at hf he
      refine SX.goN ?_
      refine retI ?_; rw [← he]; rfl
    | false =>
      rw [hp] at hf he
      refine SX.goN ?_
      exact W.next (k + 1) ⟨h, he⟩ (by omega)
  · obtain rfl : k = l.length := by omega
    rw [List.drop_length] at he
    have h' : ¬ l.length < (l.map rz).length := by rw [List.length_map]; omega
    refine SX.goN ?_
    refine retI ?_; rw [← he]; rfl
theorem con_AnyZ (l : List RawZ) (x : CA) (p : RawZ → Bool) (hx : ∀ v ∈ l, FnV Tryz.prog x [.agg (z2A (rz v))] (.v (.bool (p v)))) (hl : l.length ≤ 100000) (hx1 : x.oneB = true) :
    PureOK Tryz.prog 151 [.r (rowR 2 z2C (l.map rz)), .it (.one (.c x))] (.v (.bool (l.any p))) := by
  have c := con_IdxZ l x p hx hl hx1
  rw [← fi_any]
  refine PureOK.fnF Tryz.func151 Tryz.results151 Tryz.ntmps151 rfl rfl rfl (by simp [AV.ids, AV0.ids, Atom.ids]) rfl (fun w0 T B E0 hB => ?_)
  refine SX.goN ?_
  refine retB ?_
  rw [decide_eq_decide]; omega
theorem con_AnyfZ (l : List RawZ) (f : FuncId) (p : RawZ → Bool) (hx : ∀ v ∈ l, PureOK Tryz.prog f [.agg (z2A (rz v))] (.v (.bool (p v)))) (hl : l.length ≤ 100000) :
    PureOK Tryz.prog 151 [.r (rowR 2 z2C (l.map rz)), .it (.one (.clo f []))] (.v (.bool (l.any p))) :=
  weakArgs (con_AnyZ l (.sat (cloR f [] [])) p (fun v h => FnV.const (hx v h)) hl rfl) fun E S w vs hv => by
    match vs, hv with
    | [u1, u2], ⟨h1, h2, _⟩ => exact ⟨h1, fnArg h2, trivial⟩
theorem con_IdxW (l : List Nat) (x : CA) (p : Nat → Bool) (hx : ∀ v ∈ l, FnV Tryz.prog x [.v (.int .u64 (v : Int))] (.v (.bool (p v)))) (hl : l.length ≤ 100000) (hx1 : x.oneB = true) :
    PureOK Tryz.prog 244 [.r (rowR 1 wdC l), .it (.one (.c x))] (.v (.int .i64 (fi p l 0))) := by
  refine PureOK.fnF Tryz.func244 Tryz.results244 Tryz.ntmps244 rfl rfl rfl (by simp [AV.ids, AV0.ids, Atom.ids]) rfl (fun w0 T B E0 hB => ?_)
  refine SX.goN ?_
  refine W.loop (fun k => k ≤ l.length ∧ fi p (l.drop k) k = fi p l 0) (fun k => [(0, .r (rowR 1 wdC l)), (1, .it (.one (.c x))), (7, .v (.int .i64 (l.length : Int))), (8, .v (.int .i64 (k : Int)))]) (fun _ => []) (fun k => l.length - k) 0 ⟨Nat.zero_le _, rfl⟩ (fun k ⟨hk, he⟩ => ?_)
  by_cases h : k < l.length
  · obtain ⟨r, hr⟩ : ∃ r, l[k]? = some r := ⟨_, List.getElem?_eq_getElem h⟩
    have hf := hx r (List.mem_of_getElem? hr)
    rw [fi_drop hr] at he
    cases hp : p r with
    | true =>
      rw [hp] at hf he
      refine SX.goN ?_
      refine retI ?_; rw [← he]; rfl
    | false =>
      rw [hp] at hf he
      refine SX.goN ?_
      exact W.next (k + 1) ⟨h, he⟩ (by omega)
  · obtain rfl : k = l.length := by omega
    rw [List.drop_length] at he
    refine SX.goN ?_
    refine retI ?_; rw [← he]; rfl
theorem con_AnyW (l : List Nat) (x : CA) (p : Nat → Bool) (hx : ∀ v ∈ l, FnV Tryz.prog x [.v (.int .u64 (v : Int))] (.v (.bool (p v)))) (hl : l.length ≤ 100000) (hx1 : x.oneB = true) :
    PureOK Tryz.prog 212 [.r (rowR 1 wdC l), .it (.one (.c x))] (.v (.bool (l.any p))) := by
  have c := con_IdxW l x p hx hl hx1
  rw [← fi_any]
  refine PureOK.fnF Tryz.func212 Tryz.results212 Tryz.ntmps212 rfl rfl rfl (by simp [AV.ids, AV0.ids, Atom.ids]) rfl (fun w0 T B E0 hB => ?_)
  refine SX.goN ?_
  refine retB ?_
  rw [decide_eq_decide]; omega
theorem con_IdxV (l : List Vl) (x : CA) (p : Vl → Bool) (hx : ∀ v ∈ l, FnV Tryz.prog x [.agg (vlA v)] (.v (.bool (p v)))) (hl : l.length ≤ 100000) (hx1 : x.oneB = true) :
    PureOK Tryz.prog 214 [.r (rowR 15 vlC l), .it (.one (.c x))] (.v (.int .i64 (fi p l 0))) := by
  rw [row_vlE]
  refine PureOK.fnF Tryz.func214 Tryz.results214 Tryz.ntmps214 rfl rfl rfl (by simp [AV.ids, AV0.ids, Atom.ids]) rfl (fun w0 T B E0 hB => ?_)
  refine SX.goN ?_
  refine W.loop (fun k => k ≤ l.length ∧ fi p (l.drop k) k = fi p l 0) (fun k => [(0, .r (rowR 15 vlE l)), (1, .it (.one (.c x))), (7, .v (.int .i64 (l.length : Int))), (8, .v (.int .i64 (k : Int)))]) (fun _ => []) (fun k => l.length - k) 0 ⟨Nat.zero_le _, rfl⟩ (fun k ⟨hk, he⟩ => ?_)
  by_cases h : k < l.length
  · obtain ⟨r, hr⟩ : ∃ r, l[k]? = some r := ⟨_, List.getElem?_eq_getElem h⟩
    have hf := hx r (List.mem_of_getElem? hr)
    rw [fi_drop hr] at he
    cases hp : p r with
    | true =>
      rw [hp] at hf he
      refine SX.goN ?_
      refine retI ?_; rw [← he]; rfl
    | false =>
      rw [hp] at hf he
      refine SX.goN ?_
      exact W.next (k + 1) ⟨h, he⟩ (by omega)
  · obtain rfl : k = l.length := by omega
    rw [List.drop_length] at he
    refine SX.goN ?_
    refine retI ?_; rw [← he]; rfl
theorem con_AnyV (l : List Vl) (x : CA) (p : Vl → Bool) (hx : ∀ v ∈ l, FnV Tryz.prog x [.agg (vlA v)] (.v (.bool (p v)))) (hl : l.length ≤ 100000) (hx1 : x.oneB = true) :
    PureOK Tryz.prog 156 [.r (rowR 15 vlC l), .it (.one (.c x))] (.v (.bool (l.any p))) := by
  have c := con_IdxV l x p hx hl hx1
  rw [← fi_any]
  refine PureOK.fnF Tryz.func156 Tryz.results156 Tryz.ntmps156 rfl rfl rfl (by simp [AV.ids, AV0.ids, Atom.ids]) rfl (fun w0 T B E0 hB => ?_)
  refine SX.goN ?_
  refine retB ?_
  rw [decide_eq_decide]; omega
end Go.Proofs.YtfhpmbenldgfnaaGreatDoor
/- What is blank; primes. -/
set_option linter.unusedVariables false
set_option linter.unusedSimpArgs false
namespace Go.Proofs.YtfhpmbenldgfnaaGreatDoor
open Go.RowKit QM SX LA
theorem vP0 (v : Vl) : vP v = 0 ↔ (v.k = 1 ∨ (v.q.2.1.length = 0 ∧ v.q.2.2.2.length = 0 ∧ v.q.1 = false ∧ v.q.2.2.1 = false)) ∧ (v.k = 2 ∨ (v.r = 0 ∧ v.c = 0 ∧ v.a.length = 0)) ∧ (v.k = 3 ∨ v.po.length = 0) ∧ (v.k = 4 ∨ (v.fr = 0 ∧ v.fc = 0 ∧ v.fa.length = 0)) ∧ (v.k = 5 ∨ v.ri.length = 0) ∧ (v.k = 4 ∨ v.k = 5 ∨ v.p = 0) ∧ (v.k = 6 ∨ v.li.length = 0) := by
  have e : ∀ (p : Prop) [Decidable p], pt p = 0 ↔ ¬ p := fun p _ => by unfold pt; split <;> simp_all
  unfold vP
  rw [Nat.add_eq_zero_iff, Nat.add_eq_zero_iff, Nat.add_eq_zero_iff, Nat.add_eq_zero_iff, Nat.add_eq_zero_iff, Nat.add_eq_zero_iff, e, e, e, e, e, e, e, ← rq0_iff]
  constructor
  · rintro ⟨⟨⟨⟨⟨⟨h1, h2⟩, h3⟩, h4⟩, h5⟩, h6⟩, h7⟩
    refine ⟨?_, by omega, by omega, by omega, by omega, by omega, by omega⟩
    by_cases h : v.k = 1
    · exact .inl h
    · exact .inr (Decidable.byContradiction fun h' => h1 ⟨h, h'⟩)
  · rintro ⟨h1, h2, h3, h4, h5, h6, h7⟩
    refine ⟨⟨⟨⟨⟨⟨?_, by omega⟩, by omega⟩, by omega⟩, by omega⟩, by omega⟩, by omega⟩
    rintro ⟨h, h'⟩; exact h1.elim h h'
theorem bits0 {b : Bool} {l : List Nat} (h : l.length = 0) : bitLen (sgn b (nval WB l)).natAbs = 0 := by
  rw [List.eq_nil_of_length_eq_zero h]
  cases b <;> rfl
def kiC (k : Int) : List CA := [.val (.int .i64 k)]
instance : EncLen kiC 1 := ⟨fun _ => rfl⟩
attribute [local irreducible] IntKind.wrap Go1 Reg WP thenK inBlk retQ retF RetF RetOK ResOK CallOK OpOK Sat
attribute [local irreducible] qsub qmul qquo qcmp qadd qv redS mf
theorem con_IdxK (l : List Int) (i : Int) (hl : l.length ≤ 1000) : PureOK Tryz.prog 243 [.r (rowR 1 kiC l), .v (.int .i64 i)] (.v (.int .i64 (fi (fun a => decide (i = a)) l 0))) := by
  refine PureOK.fnF Tryz.func243 Tryz.results243 Tryz.ntmps243 rfl rfl rfl (by simp [AV.ids, AV0.ids, Atom.ids]) rfl (fun w0 T B E0 hB => ?_)
  refine SX.goN ?_
  refine W.loop (fun k => k ≤ l.length ∧ fi (fun a => decide (i = a)) (l.drop k) k = fi (fun a => decide (i = a)) l 0) (fun k => [(0, .r (rowR 1 kiC l)), (1, .v (.int .i64 i)), (7, .v (.int .i64 (l.length : Int))), (8, .v (.int .i64 (k : Int)))]) (fun _ => []) (fun k => l.length - k) 0 ⟨Nat.zero_le _, rfl⟩ (fun k ⟨hk, he⟩ => ?_)
  by_cases h : k < l.length
  · obtain ⟨r, hr⟩ : ∃ r, l[k]? = some r := ⟨_, List.getElem?_eq_getElem h⟩
    rw [fi_drop hr] at he
    by_cases hp : i = r
    · rw [if_pos (decide_eq_true hp)] at he
      refine SX.goN ?_
      exact retI he
    · rw [if_neg (by rw [decide_eq_false hp]; decide)] at he
      refine SX.goN ?_
      exact W.next (k + 1) ⟨h, he⟩ (by omega)
  · obtain rfl : k = l.length := by omega
    rw [List.drop_length] at he
    refine SX.goN ?_
    refine retI ?_; rw [← he]; rfl
theorem con_ContK (k i : Int) : PureOK Tryz.prog 208 [.r (rowR 1 kiC [k]), .v (.int .i64 i)] (.v (.bool (decide (i = k)))) := by
  have c := con_IdxK [k] i (by rw [List.length_singleton]; decide)
  refine PureOK.fnF Tryz.func208 Tryz.results208 Tryz.ntmps208 rfl rfl rfl (by simp [AV.ids, AV0.ids, Atom.ids]) rfl (fun w0 T B E0 hB => ?_)
  have e : fi (fun a => decide (i = a)) [k] 0 = if i = k then 0 else -1 := by
    unfold fi
    by_cases h : i = k
    · rw [if_pos (decide_eq_true h), if_pos h]; rfl
    · rw [if_neg (by rw [decide_eq_false h]; decide), if_neg h]; rfl
  rw [e] at c
  by_cases h : i = k
  · rw [if_pos h] at c
    refine SX.goN ?_
    refine retB ?_; rw [decide_eq_true h]
    first | rfl | decide
  · rw [if_neg h] at c
    refine SX.goN ?_
    refine retB ?_; rw [decide_eq_false h]
    first | rfl | decide
theorem con_blank1 (k i : Int) : PureOK Tryz.prog 207 [.v (.int .i64 i), .r (ptrR [.sat (rowR 1 kiC [k])])] (.v (.bool (!decide (i = k)))) := by
  have c := con_ContK k i
  refine PureOK.fnF Tryz.func207 Tryz.results207 Tryz.ntmps207 rfl rfl rfl (by simp [AV.ids, AV0.ids, Atom.ids]) rfl (fun w0 T B E0 hB => ?_)
  refine SX.goN ?_
  exact retB rfl
/-- Sizes of a value's own numbers. -/
structure vZ0 (v : Vl) : Prop where
  q : (Sm WB v.q.2.1 ∧ Sm WB v.q.2.2.2) ∧ v.q.2.1.length ≤ 100000 ∧ v.q.2.2.2.length ≤ 100000
  a : ∀ x ∈ v.a, (Sm WB x.2.1 ∧ Sm WB x.2.2.2) ∧ x.2.1.length ≤ 100000 ∧ x.2.2.2.length ≤ 100000
  al : v.a.length ≤ 100000
  po : ∀ x ∈ v.po, Sm WB x.2 ∧ x.2.length ≤ 100000
  pol : v.po.length ≤ 100000
  p : v.p < WB
  fa : ∀ x ∈ v.fa, x < WB
  fal : v.fa.length ≤ 100000
  ri : ∀ x ∈ v.ri, x < WB
  ril : v.ri.length ≤ 100000
  lil : v.li.length ≤ 100000
set_option maxRecDepth 20000 in
set_option maxHeartbeats 2000000 in
theorem con_blank_1 (v : Vl) (hz : vZ0 v) (hk : v.k = 1) : PureOK Tryz.prog 147 [.agg (vlA v), .r (rowR 1 kiC [v.k])] (.v (.bool (decide (vP v = 0)))) := by
  have c1 : FnV Tryz.prog (.sat (cloR 207 [] [.sat (ptrR [.sat (rowR 1 kiC [v.k])])])) [.v (.int .i64 1)] (.v (.bool (!decide (1 = v.k)))) := FnV.clo (con_blank1 v.k 1)
  have c2 : FnV Tryz.prog (.sat (cloR 207 [] [.sat (ptrR [.sat (rowR 1 kiC [v.k])])])) [.v (.int .i64 2)] (.v (.bool (!decide (2 = v.k)))) := FnV.clo (con_blank1 v.k 2)
  have c3 : FnV Tryz.prog (.sat (cloR 207 [] [.sat (ptrR [.sat (rowR 1 kiC [v.k])])])) [.v (.int .i64 3)] (.v (.bool (!decide (3 = v.k)))) := FnV.clo (con_blank1 v.k 3)
  have c4 : FnV Tryz.prog (.sat (cloR 207 [] [.sat (ptrR [.sat (rowR 1 kiC [v.k])])])) [.v (.int .i64 4)] (.v (.bool (!decide (4 = v.k)))) := FnV.clo (con_blank1 v.k 4)
  have c5 : FnV Tryz.prog (.sat (cloR 207 [] [.sat (ptrR [.sat (rowR 1 kiC [v.k])])])) [.v (.int .i64 5)] (.v (.bool (!decide (5 = v.k)))) := FnV.clo (con_blank1 v.k 5)
  have c6 : FnV Tryz.prog (.sat (cloR 207 [] [.sat (ptrR [.sat (rowR 1 kiC [v.k])])])) [.v (.int .i64 6)] (.v (.bool (!decide (6 = v.k)))) := FnV.clo (con_blank1 v.k 6)
  have cb1 := (con_zBits (h := ZI.raw v.q.1 v.q.2.1)).h (show v.q.2.1.length ≤ 1099511627775 by have := hz.q.2.1; omega)
  have cb2 := (con_zBits (h := ZI.raw v.q.2.2.1 v.q.2.2.2)).h (show v.q.2.2.2.length ≤ 1099511627775 by have := hz.q.2.2; omega)
  have hP := vP0 v
  have f1 := bits0 (b := v.q.1) (l := v.q.2.1)
  have f2 := bits0 (b := v.q.2.2.1) (l := v.q.2.2.2)
  have b1 := hz.q.2.1
  have b2 := hz.q.2.2
  have b3 := hz.al
  have b4 := hz.pol
  have b5 := hz.fal
  have b6 := hz.ril
  have b7 := hz.lil
  have l1 : (v.a.map rq).length = v.a.length := List.length_map _
  have l2 : (v.po.map rz).length = v.po.length := List.length_map _
  refine PureOK.fnF Tryz.func147 Tryz.results147 Tryz.ntmps147 rfl rfl rfl (by simp [AV.ids, AV0.ids, Atom.ids]) rfl (fun w0 T B E0 hB => ?_)
  refine SX.goN ?_
  refine SX.WP.freezeB 3 hB rfl rfl ?_
  refine SX.WP.regionL ?_
  have k0 : v.k = 1 := hk
  have e1 : (!decide ((1 : Int) = v.k)) = false := by rw [k0]; rfl
  have e2 : (!decide ((2 : Int) = v.k)) = true := by rw [k0]; rfl
  have e3 : (!decide ((3 : Int) = v.k)) = true := by rw [k0]; rfl
  have e4 : (!decide ((4 : Int) = v.k)) = true := by rw [k0]; rfl
  have e5 : (!decide ((5 : Int) = v.k)) = true := by rw [k0]; rfl
  have e6 : (!decide ((6 : Int) = v.k)) = true := by rw [k0]; rfl
  rw [e1] at c1; rw [e2] at c2; rw [e3] at c3; rw [e4] at c4; rw [e5] at c5; rw [e6] at c6
  clear e1 e2 e3 e4 e5 e6
  repeat' (first | refine SX.goN ?_ | refine SX.W.ite (fun h => ?_) (fun h => ?_) | refine SX.W.iteN (fun h => ?_) (fun h => ?_) | refine SX.W.iteB (fun h => ?_) (fun h => ?_) | refine SX.R.ite (fun h => ?_) (fun h => ?_) | refine SX.R.iteN (fun h => ?_) (fun h => ?_) | refine SX.R.iteB (fun h => ?_) (fun h => ?_))
  all_goals
    refine retB ?_
    refine Bool.eq_iff_iff.2 (Iff.trans ?_ decide_eq_true_iff.symm)
    rw [hP]
    constructor
    · intro hh
      first
        | (cases hh; done)
        | (try rw [decide_eq_true_iff] at hh
           refine ⟨?_, ?_, ?_, ?_, ?_, ?_, ?_⟩ <;> first | omega | (refine .inr ⟨?_, ?_, ?_, ?_⟩ <;> first | omega | assumption))
    · rintro ⟨h1, h2, h3, h4, h5, h6, h7⟩
      first
        | rfl
        | (rw [decide_eq_true_iff]; omega)
        | (exfalso; first | omega | (rcases h1 with h1 | ⟨g1, g2, g3, g4⟩ <;> first | omega | (clear c1 c2 c3 c4 c5 c6 f1 f2 hP; simp_all; done)))
set_option maxRecDepth 20000 in
set_option maxHeartbeats 2000000 in
theorem con_blank_2 (v : Vl) (hz : vZ0 v) (hk : v.k = 2) : PureOK Tryz.prog 147 [.agg (vlA v), .r (rowR 1 kiC [v.k])] (.v (.bool (decide (vP v = 0)))) := by
  have c1 : FnV Tryz.prog (.sat (cloR 207 [] [.sat (ptrR [.sat (rowR 1 kiC [v.k])])])) [.v (.int .i64 1)] (.v (.bool (!decide (1 = v.k)))) := FnV.clo (con_blank1 v.k 1)
  have c2 : FnV Tryz.prog (.sat (cloR 207 [] [.sat (ptrR [.sat (rowR 1 kiC [v.k])])])) [.v (.int .i64 2)] (.v (.bool (!decide (2 = v.k)))) := FnV.clo (con_blank1 v.k 2)
  have c3 : FnV Tryz.prog (.sat (cloR 207 [] [.sat (ptrR [.sat (rowR 1 kiC [v.k])])])) [.v (.int .i64 3)] (.v (.bool (!decide (3 = v.k)))) := FnV.clo (con_blank1 v.k 3)
  have c4 : FnV Tryz.prog (.sat (cloR 207 [] [.sat (ptrR [.sat (rowR 1 kiC [v.k])])])) [.v (.int .i64 4)] (.v (.bool (!decide (4 = v.k)))) := FnV.clo (con_blank1 v.k 4)
  have c5 : FnV Tryz.prog (.sat (cloR 207 [] [.sat (ptrR [.sat (rowR 1 kiC [v.k])])])) [.v (.int .i64 5)] (.v (.bool (!decide (5 = v.k)))) := FnV.clo (con_blank1 v.k 5)
  have c6 : FnV Tryz.prog (.sat (cloR 207 [] [.sat (ptrR [.sat (rowR 1 kiC [v.k])])])) [.v (.int .i64 6)] (.v (.bool (!decide (6 = v.k)))) := FnV.clo (con_blank1 v.k 6)
  have cb1 := (con_zBits (h := ZI.raw v.q.1 v.q.2.1)).h (show v.q.2.1.length ≤ 1099511627775 by have := hz.q.2.1; omega)
  have cb2 := (con_zBits (h := ZI.raw v.q.2.2.1 v.q.2.2.2)).h (show v.q.2.2.2.length ≤ 1099511627775 by have := hz.q.2.2; omega)
  have hP := vP0 v
  have f1 := bits0 (b := v.q.1) (l := v.q.2.1)
  have f2 := bits0 (b := v.q.2.2.1) (l := v.q.2.2.2)
  have b1 := hz.q.2.1
  have b2 := hz.q.2.2
  have b3 := hz.al
  have b4 := hz.pol
  have b5 := hz.fal
  have b6 := hz.ril
  have b7 := hz.lil
  have l1 : (v.a.map rq).length = v.a.length := List.length_map _
  have l2 : (v.po.map rz).length = v.po.length := List.length_map _
  refine PureOK.fnF Tryz.func147 Tryz.results147 Tryz.ntmps147 rfl rfl rfl (by simp [AV.ids, AV0.ids, Atom.ids]) rfl (fun w0 T B E0 hB => ?_)
  refine SX.goN ?_
  refine SX.WP.freezeB 3 hB rfl rfl ?_
  refine SX.WP.regionL ?_
  have k0 : v.k = 2 := hk
  have e1 : (!decide ((1 : Int) = v.k)) = true := by rw [k0]; rfl
  have e2 : (!decide ((2 : Int) = v.k)) = false := by rw [k0]; rfl
  have e3 : (!decide ((3 : Int) = v.k)) = true := by rw [k0]; rfl
  have e4 : (!decide ((4 : Int) = v.k)) = true := by rw [k0]; rfl
  have e5 : (!decide ((5 : Int) = v.k)) = true := by rw [k0]; rfl
  have e6 : (!decide ((6 : Int) = v.k)) = true := by rw [k0]; rfl
  rw [e1] at c1; rw [e2] at c2; rw [e3] at c3; rw [e4] at c4; rw [e5] at c5; rw [e6] at c6
  clear e1 e2 e3 e4 e5 e6
  repeat' (first | refine SX.goN ?_ | refine SX.W.ite (fun h => ?_) (fun h => ?_) | refine SX.W.iteN (fun h => ?_) (fun h => ?_) | refine SX.W.iteB (fun h => ?_) (fun h => ?_) | refine SX.R.ite (fun h => ?_) (fun h => ?_) | refine SX.R.iteN (fun h => ?_) (fun h => ?_) | refine SX.R.iteB (fun h => ?_) (fun h => ?_))
  all_goals
    refine retB ?_
    refine Bool.eq_iff_iff.2 (Iff.trans ?_ decide_eq_true_iff.symm)
    rw [hP]
    constructor
    · intro hh
      first
        | (cases hh; done)
        | (try rw [decide_eq_true_iff] at hh
           refine ⟨?_, ?_, ?_, ?_, ?_, ?_, ?_⟩ <;> first | omega | (refine .inr ⟨?_, ?_, ?_, ?_⟩ <;> first | omega | assumption))
    · rintro ⟨h1, h2, h3, h4, h5, h6, h7⟩
      first
        | rfl
        | (rw [decide_eq_true_iff]; omega)
        | (exfalso; first | omega | (rcases h1 with h1 | ⟨g1, g2, g3, g4⟩ <;> first | omega | (clear c1 c2 c3 c4 c5 c6 f1 f2 hP; simp_all; done)))
set_option maxRecDepth 20000 in
set_option maxHeartbeats 2000000 in
theorem con_blank_3 (v : Vl) (hz : vZ0 v) (hk : v.k = 3) : PureOK Tryz.prog 147 [.agg (vlA v), .r (rowR 1 kiC [v.k])] (.v (.bool (decide (vP v = 0)))) := by
  have c1 : FnV Tryz.prog (.sat (cloR 207 [] [.sat (ptrR [.sat (rowR 1 kiC [v.k])])])) [.v (.int .i64 1)] (.v (.bool (!decide (1 = v.k)))) := FnV.clo (con_blank1 v.k 1)
  have c2 : FnV Tryz.prog (.sat (cloR 207 [] [.sat (ptrR [.sat (rowR 1 kiC [v.k])])])) [.v (.int .i64 2)] (.v (.bool (!decide (2 = v.k)))) := FnV.clo (con_blank1 v.k 2)
  have c3 : FnV Tryz.prog (.sat (cloR 207 [] [.sat (ptrR [.sat (rowR 1 kiC [v.k])])])) [.v (.int .i64 3)] (.v (.bool (!decide (3 = v.k)))) := FnV.clo (con_blank1 v.k 3)
  have c4 : FnV Tryz.prog (.sat (cloR 207 [] [.sat (ptrR [.sat (rowR 1 kiC [v.k])])])) [.v (.int .i64 4)] (.v (.bool (!decide (4 = v.k)))) := FnV.clo (con_blank1 v.k 4)
  have c5 : FnV Tryz.prog (.sat (cloR 207 [] [.sat (ptrR [.sat (rowR 1 kiC [v.k])])])) [.v (.int .i64 5)] (.v (.bool (!decide (5 = v.k)))) := FnV.clo (con_blank1 v.k 5)
  have c6 : FnV Tryz.prog (.sat (cloR 207 [] [.sat (ptrR [.sat (rowR 1 kiC [v.k])])])) [.v (.int .i64 6)] (.v (.bool (!decide (6 = v.k)))) := FnV.clo (con_blank1 v.k 6)
  have cb1 := (con_zBits (h := ZI.raw v.q.1 v.q.2.1)).h (show v.q.2.1.length ≤ 1099511627775 by have := hz.q.2.1; omega)
  have cb2 := (con_zBits (h := ZI.raw v.q.2.2.1 v.q.2.2.2)).h (show v.q.2.2.2.length ≤ 1099511627775 by have := hz.q.2.2; omega)
  have hP := vP0 v
  have f1 := bits0 (b := v.q.1) (l := v.q.2.1)
  have f2 := bits0 (b := v.q.2.2.1) (l := v.q.2.2.2)
  have b1 := hz.q.2.1
  have b2 := hz.q.2.2
  have b3 := hz.al
  have b4 := hz.pol
  have b5 := hz.fal
  have b6 := hz.ril
  have b7 := hz.lil
  have l1 : (v.a.map rq).length = v.a.length := List.length_map _
  have l2 : (v.po.map rz).length = v.po.length := List.length_map _
  refine PureOK.fnF Tryz.func147 Tryz.results147 Tryz.ntmps147 rfl rfl rfl (by simp [AV.ids, AV0.ids, Atom.ids]) rfl (fun w0 T B E0 hB => ?_)
  refine SX.goN ?_
  refine SX.WP.freezeB 3 hB rfl rfl ?_
  refine SX.WP.regionL ?_
  have k0 : v.k = 3 := hk
  have e1 : (!decide ((1 : Int) = v.k)) = true := by rw [k0]; rfl
  have e2 : (!decide ((2 : Int) = v.k)) = true := by rw [k0]; rfl
  have e3 : (!decide ((3 : Int) = v.k)) = false := by rw [k0]; rfl
  have e4 : (!decide ((4 : Int) = v.k)) = true := by rw [k0]; rfl
  have e5 : (!decide ((5 : Int) = v.k)) = true := by rw [k0]; rfl
  have e6 : (!decide ((6 : Int) = v.k)) = true := by rw [k0]; rfl
  rw [e1] at c1; rw [e2] at c2; rw [e3] at c3; rw [e4] at c4; rw [e5] at c5; rw [e6] at c6
  clear e1 e2 e3 e4 e5 e6
  repeat' (first | refine SX.goN ?_ | refine SX.W.ite (fun h => ?_) (fun h => ?_) | refine SX.W.iteN (fun h => ?_) (fun h => ?_) | refine SX.W.iteB (fun h => ?_) (fun h => ?_) | refine SX.R.ite (fun h => ?_) (fun h => ?_) | refine SX.R.iteN (fun h => ?_) (fun h => ?_) | refine SX.R.iteB (fun h => ?_) (fun h => ?_))
  all_goals
    refine retB ?_
    refine Bool.eq_iff_iff.2 (Iff.trans ?_ decide_eq_true_iff.symm)
    rw [hP]
    constructor
    · intro hh
      first
        | (cases hh; done)
        | (try rw [decide_eq_true_iff] at hh
           refine ⟨?_, ?_, ?_, ?_, ?_, ?_, ?_⟩ <;> first | omega | (refine .inr ⟨?_, ?_, ?_, ?_⟩ <;> first | omega | assumption))
    · rintro ⟨h1, h2, h3, h4, h5, h6, h7⟩
      first
        | rfl
        | (rw [decide_eq_true_iff]; omega)
        | (exfalso; first | omega | (rcases h1 with h1 | ⟨g1, g2, g3, g4⟩ <;> first | omega | (clear c1 c2 c3 c4 c5 c6 f1 f2 hP; simp_all; done)))
set_option maxRecDepth 20000 in
set_option maxHeartbeats 2000000 in
theorem con_blank_4 (v : Vl) (hz : vZ0 v) (hk : v.k = 4) : PureOK Tryz.prog 147 [.agg (vlA v), .r (rowR 1 kiC [v.k])] (.v (.bool (decide (vP v = 0)))) := by
  have c1 : FnV Tryz.prog (.sat (cloR 207 [] [.sat (ptrR [.sat (rowR 1 kiC [v.k])])])) [.v (.int .i64 1)] (.v (.bool (!decide (1 = v.k)))) := FnV.clo (con_blank1 v.k 1)
  have c2 : FnV Tryz.prog (.sat (cloR 207 [] [.sat (ptrR [.sat (rowR 1 kiC [v.k])])])) [.v (.int .i64 2)] (.v (.bool (!decide (2 = v.k)))) := FnV.clo (con_blank1 v.k 2)
  have c3 : FnV Tryz.prog (.sat (cloR 207 [] [.sat (ptrR [.sat (rowR 1 kiC [v.k])])])) [.v (.int .i64 3)] (.v (.bool (!decide (3 = v.k)))) := FnV.clo (con_blank1 v.k 3)
  have c4 : FnV Tryz.prog (.sat (cloR 207 [] [.sat (ptrR [.sat (rowR 1 kiC [v.k])])])) [.v (.int .i64 4)] (.v (.bool (!decide (4 = v.k)))) := FnV.clo (con_blank1 v.k 4)
  have c5 : FnV Tryz.prog (.sat (cloR 207 [] [.sat (ptrR [.sat (rowR 1 kiC [v.k])])])) [.v (.int .i64 5)] (.v (.bool (!decide (5 = v.k)))) := FnV.clo (con_blank1 v.k 5)
  have c6 : FnV Tryz.prog (.sat (cloR 207 [] [.sat (ptrR [.sat (rowR 1 kiC [v.k])])])) [.v (.int .i64 6)] (.v (.bool (!decide (6 = v.k)))) := FnV.clo (con_blank1 v.k 6)
  have cb1 := (con_zBits (h := ZI.raw v.q.1 v.q.2.1)).h (show v.q.2.1.length ≤ 1099511627775 by have := hz.q.2.1; omega)
  have cb2 := (con_zBits (h := ZI.raw v.q.2.2.1 v.q.2.2.2)).h (show v.q.2.2.2.length ≤ 1099511627775 by have := hz.q.2.2; omega)
  have hP := vP0 v
  have f1 := bits0 (b := v.q.1) (l := v.q.2.1)
  have f2 := bits0 (b := v.q.2.2.1) (l := v.q.2.2.2)
  have b1 := hz.q.2.1
  have b2 := hz.q.2.2
  have b3 := hz.al
  have b4 := hz.pol
  have b5 := hz.fal
  have b6 := hz.ril
  have b7 := hz.lil
  have l1 : (v.a.map rq).length = v.a.length := List.length_map _
  have l2 : (v.po.map rz).length = v.po.length := List.length_map _
  refine PureOK.fnF Tryz.func147 Tryz.results147 Tryz.ntmps147 rfl rfl rfl (by simp [AV.ids, AV0.ids, Atom.ids]) rfl (fun w0 T B E0 hB => ?_)
  refine SX.goN ?_
  refine SX.WP.freezeB 3 hB rfl rfl ?_
  refine SX.WP.regionL ?_
  have k0 : v.k = 4 := hk
  have e1 : (!decide ((1 : Int) = v.k)) = true := by rw [k0]; rfl
  have e2 : (!decide ((2 : Int) = v.k)) = true := by rw [k0]; rfl
  have e3 : (!decide ((3 : Int) = v.k)) = true := by rw [k0]; rfl
  have e4 : (!decide ((4 : Int) = v.k)) = false := by rw [k0]; rfl
  have e5 : (!decide ((5 : Int) = v.k)) = true := by rw [k0]; rfl
  have e6 : (!decide ((6 : Int) = v.k)) = true := by rw [k0]; rfl
  rw [e1] at c1; rw [e2] at c2; rw [e3] at c3; rw [e4] at c4; rw [e5] at c5; rw [e6] at c6
  clear e1 e2 e3 e4 e5 e6
  repeat' (first | refine SX.goN ?_ | refine SX.W.ite (fun h => ?_) (fun h => ?_) | refine SX.W.iteN (fun h => ?_) (fun h => ?_) | refine SX.W.iteB (fun h => ?_) (fun h => ?_) | refine SX.R.ite (fun h => ?_) (fun h => ?_) | refine SX.R.iteN (fun h => ?_) (fun h => ?_) | refine SX.R.iteB (fun h => ?_) (fun h => ?_))
  all_goals
    refine retB ?_
    refine Bool.eq_iff_iff.2 (Iff.trans ?_ decide_eq_true_iff.symm)
    rw [hP]
    constructor
    · intro hh
      first
        | (cases hh; done)
        | (try rw [decide_eq_true_iff] at hh
           refine ⟨?_, ?_, ?_, ?_, ?_, ?_, ?_⟩ <;> first | omega | (refine .inr ⟨?_, ?_, ?_, ?_⟩ <;> first | omega | assumption))
    · rintro ⟨h1, h2, h3, h4, h5, h6, h7⟩
      first
        | rfl
        | (rw [decide_eq_true_iff]; omega)
        | (exfalso; first | omega | (rcases h1 with h1 | ⟨g1, g2, g3, g4⟩ <;> first | omega | (clear c1 c2 c3 c4 c5 c6 f1 f2 hP; simp_all; done)))
set_option maxRecDepth 20000 in
set_option maxHeartbeats 2000000 in
theorem con_blank_5 (v : Vl) (hz : vZ0 v) (hk : v.k = 5) : PureOK Tryz.prog 147 [.agg (vlA v), .r (rowR 1 kiC [v.k])] (.v (.bool (decide (vP v = 0)))) := by
  have c1 : FnV Tryz.prog (.sat (cloR 207 [] [.sat (ptrR [.sat (rowR 1 kiC [v.k])])])) [.v (.int .i64 1)] (.v (.bool (!decide (1 = v.k)))) := FnV.clo (con_blank1 v.k 1)
  have c2 : FnV Tryz.prog (.sat (cloR 207 [] [.sat (ptrR [.sat (rowR 1 kiC [v.k])])])) [.v (.int .i64 2)] (.v (.bool (!decide (2 = v.k)))) := FnV.clo (con_blank1 v.k 2)
  have c3 : FnV Tryz.prog (.sat (cloR 207 [] [.sat (ptrR [.sat (rowR 1 kiC [v.k])])])) [.v (.int .i64 3)] (.v (.bool (!decide (3 = v.k)))) := FnV.clo (con_blank1 v.k 3)
  have c4 : FnV Tryz.prog (.sat (cloR 207 [] [.sat (ptrR [.sat (rowR 1 kiC [v.k])])])) [.v (.int .i64 4)] (.v (.bool (!decide (4 = v.k)))) := FnV.clo (con_blank1 v.k 4)
  have c5 : FnV Tryz.prog (.sat (cloR 207 [] [.sat (ptrR [.sat (rowR 1 kiC [v.k])])])) [.v (.int .i64 5)] (.v (.bool (!decide (5 = v.k)))) := FnV.clo (con_blank1 v.k 5)
  have c6 : FnV Tryz.prog (.sat (cloR 207 [] [.sat (ptrR [.sat (rowR 1 kiC [v.k])])])) [.v (.int .i64 6)] (.v (.bool (!decide (6 = v.k)))) := FnV.clo (con_blank1 v.k 6)
  have cb1 := (con_zBits (h := ZI.raw v.q.1 v.q.2.1)).h (show v.q.2.1.length ≤ 1099511627775 by have := hz.q.2.1; omega)
  have cb2 := (con_zBits (h := ZI.raw v.q.2.2.1 v.q.2.2.2)).h (show v.q.2.2.2.length ≤ 1099511627775 by have := hz.q.2.2; omega)
  have hP := vP0 v
  have f1 := bits0 (b := v.q.1) (l := v.q.2.1)
  have f2 := bits0 (b := v.q.2.2.1) (l := v.q.2.2.2)
  have b1 := hz.q.2.1
  have b2 := hz.q.2.2
  have b3 := hz.al
  have b4 := hz.pol
  have b5 := hz.fal
  have b6 := hz.ril
  have b7 := hz.lil
  have l1 : (v.a.map rq).length = v.a.length := List.length_map _
  have l2 : (v.po.map rz).length = v.po.length := List.length_map _
  refine PureOK.fnF Tryz.func147 Tryz.results147 Tryz.ntmps147 rfl rfl rfl (by simp [AV.ids, AV0.ids, Atom.ids]) rfl (fun w0 T B E0 hB => ?_)
  refine SX.goN ?_
  refine SX.WP.freezeB 3 hB rfl rfl ?_
  refine SX.WP.regionL ?_
  have k0 : v.k = 5 := hk
  have e1 : (!decide ((1 : Int) = v.k)) = true := by rw [k0]; rfl
  have e2 : (!decide ((2 : Int) = v.k)) = true := by rw [k0]; rfl
  have e3 : (!decide ((3 : Int) = v.k)) = true := by rw [k0]; rfl
  have e4 : (!decide ((4 : Int) = v.k)) = true := by rw [k0]; rfl
  have e5 : (!decide ((5 : Int) = v.k)) = false := by rw [k0]; rfl
  have e6 : (!decide ((6 : Int) = v.k)) = true := by rw [k0]; rfl
  rw [e1] at c1; rw [e2] at c2; rw [e3] at c3; rw [e4] at c4; rw [e5] at c5; rw [e6] at c6
  clear e1 e2 e3 e4 e5 e6
  repeat' (first | refine SX.goN ?_ | refine SX.W.ite (fun h => ?_) (fun h => ?_) | refine SX.W.iteN (fun h => ?_) (fun h => ?_) | refine SX.W.iteB (fun h => ?_) (fun h => ?_) | refine SX.R.ite (fun h => ?_) (fun h => ?_) | refine SX.R.iteN (fun h => ?_) (fun h => ?_) | refine SX.R.iteB (fun h => ?_) (fun h => ?_))
  all_goals
    refine retB ?_
    refine Bool.eq_iff_iff.2 (Iff.trans ?_ decide_eq_true_iff.symm)
    rw [hP]
    constructor
    · intro hh
      first
        | (cases hh; done)
        | (try rw [decide_eq_true_iff] at hh
           refine ⟨?_, ?_, ?_, ?_, ?_, ?_, ?_⟩ <;> first | omega | (refine .inr ⟨?_, ?_, ?_, ?_⟩ <;> first | omega | assumption))
    · rintro ⟨h1, h2, h3, h4, h5, h6, h7⟩
      first
        | rfl
        | (rw [decide_eq_true_iff]; omega)
        | (exfalso; first | omega | (rcases h1 with h1 | ⟨g1, g2, g3, g4⟩ <;> first | omega | (clear c1 c2 c3 c4 c5 c6 f1 f2 hP; simp_all; done)))
set_option maxRecDepth 20000 in
set_option maxHeartbeats 2000000 in
theorem con_blank_6 (v : Vl) (hz : vZ0 v) (hk : v.k = 6) : PureOK Tryz.prog 147 [.agg (vlA v), .r (rowR 1 kiC [v.k])] (.v (.bool (decide (vP v = 0)))) := by
  have c1 : FnV Tryz.prog (.sat (cloR 207 [] [.sat (ptrR [.sat (rowR 1 kiC [v.k])])])) [.v (.int .i64 1)] (.v (.bool (!decide (1 = v.k)))) := FnV.clo (con_blank1 v.k 1)
  have c2 : FnV Tryz.prog (.sat (cloR 207 [] [.sat (ptrR [.sat (rowR 1 kiC [v.k])])])) [.v (.int .i64 2)] (.v (.bool (!decide (2 = v.k)))) := FnV.clo (con_blank1 v.k 2)
  have c3 : FnV Tryz.prog (.sat (cloR 207 [] [.sat (ptrR [.sat (rowR 1 kiC [v.k])])])) [.v (.int .i64 3)] (.v (.bool (!decide (3 = v.k)))) := FnV.clo (con_blank1 v.k 3)
  have c4 : FnV Tryz.prog (.sat (cloR 207 [] [.sat (ptrR [.sat (rowR 1 kiC [v.k])])])) [.v (.int .i64 4)] (.v (.bool (!decide (4 = v.k)))) := FnV.clo (con_blank1 v.k 4)
  have c5 : FnV Tryz.prog (.sat (cloR 207 [] [.sat (ptrR [.sat (rowR 1 kiC [v.k])])])) [.v (.int .i64 5)] (.v (.bool (!decide (5 = v.k)))) := FnV.clo (con_blank1 v.k 5)
  have c6 : FnV Tryz.prog (.sat (cloR 207 [] [.sat (ptrR [.sat (rowR 1 kiC [v.k])])])) [.v (.int .i64 6)] (.v (.bool (!decide (6 = v.k)))) := FnV.clo (con_blank1 v.k 6)
  have cb1 := (con_zBits (h := ZI.raw v.q.1 v.q.2.1)).h (show v.q.2.1.length ≤ 1099511627775 by have := hz.q.2.1; omega)
  have cb2 := (con_zBits (h := ZI.raw v.q.2.2.1 v.q.2.2.2)).h (show v.q.2.2.2.length ≤ 1099511627775 by have := hz.q.2.2; omega)
  have hP := vP0 v
  have f1 := bits0 (b := v.q.1) (l := v.q.2.1)
  have f2 := bits0 (b := v.q.2.2.1) (l := v.q.2.2.2)
  have b1 := hz.q.2.1
  have b2 := hz.q.2.2
  have b3 := hz.al
  have b4 := hz.pol
  have b5 := hz.fal
  have b6 := hz.ril
  have b7 := hz.lil
  have l1 : (v.a.map rq).length = v.a.length := List.length_map _
  have l2 : (v.po.map rz).length = v.po.length := List.length_map _
  refine PureOK.fnF Tryz.func147 Tryz.results147 Tryz.ntmps147 rfl rfl rfl (by simp [AV.ids, AV0.ids, Atom.ids]) rfl (fun w0 T B E0 hB => ?_)
  refine SX.goN ?_
  refine SX.WP.freezeB 3 hB rfl rfl ?_
  refine SX.WP.regionL ?_
  have k0 : v.k = 6 := hk
  have e1 : (!decide ((1 : Int) = v.k)) = true := by rw [k0]; rfl
  have e2 : (!decide ((2 : Int) = v.k)) = true := by rw [k0]; rfl
  have e3 : (!decide ((3 : Int) = v.k)) = true := by rw [k0]; rfl
  have e4 : (!decide ((4 : Int) = v.k)) = true := by rw [k0]; rfl
  have e5 : (!decide ((5 : Int) = v.k)) = true := by rw [k0]; rfl
  have e6 : (!decide ((6 : Int) = v.k)) = false := by rw [k0]; rfl
  rw [e1] at c1; rw [e2] at c2; rw [e3] at c3; rw [e4] at c4; rw [e5] at c5; rw [e6] at c6
  clear e1 e2 e3 e4 e5 e6
  repeat' (first | refine SX.goN ?_ | refine SX.W.ite (fun h => ?_) (fun h => ?_) | refine SX.W.iteN (fun h => ?_) (fun h => ?_) | refine SX.W.iteB (fun h => ?_) (fun h => ?_) | refine SX.R.ite (fun h => ?_) (fun h => ?_) | refine SX.R.iteN (fun h => ?_) (fun h => ?_) | refine SX.R.iteB (fun h => ?_) (fun h => ?_))
  all_goals
    refine retB ?_
    refine Bool.eq_iff_iff.2 (Iff.trans ?_ decide_eq_true_iff.symm)
    rw [hP]
    constructor
    · intro hh
      first
        | (cases hh; done)
        | (try rw [decide_eq_true_iff] at hh
           refine ⟨?_, ?_, ?_, ?_, ?_, ?_, ?_⟩ <;> first | omega | (refine .inr ⟨?_, ?_, ?_, ?_⟩ <;> first | omega | assumption))
    · rintro ⟨h1, h2, h3, h4, h5, h6, h7⟩
      first
        | rfl
        | (rw [decide_eq_true_iff]; omega)
        | (exfalso; first | omega | (rcases h1 with h1 | ⟨g1, g2, g3, g4⟩ <;> first | omega | (clear c1 c2 c3 c4 c5 c6 f1 f2 hP; simp_all; done)))
set_option maxRecDepth 20000 in
set_option maxHeartbeats 2000000 in
theorem con_blank_7 (v : Vl) (hz : vZ0 v) (hk : v.k ≠ 1 ∧ v.k ≠ 2 ∧ v.k ≠ 3 ∧ v.k ≠ 4 ∧ v.k ≠ 5 ∧ v.k ≠ 6) : PureOK Tryz.prog 147 [.agg (vlA v), .r (rowR 1 kiC [v.k])] (.v (.bool (decide (vP v = 0)))) := by
  have c1 : FnV Tryz.prog (.sat (cloR 207 [] [.sat (ptrR [.sat (rowR 1 kiC [v.k])])])) [.v (.int .i64 1)] (.v (.bool (!decide (1 = v.k)))) := FnV.clo (con_blank1 v.k 1)
  have c2 : FnV Tryz.prog (.sat (cloR 207 [] [.sat (ptrR [.sat (rowR 1 kiC [v.k])])])) [.v (.int .i64 2)] (.v (.bool (!decide (2 = v.k)))) := FnV.clo (con_blank1 v.k 2)
  have c3 : FnV Tryz.prog (.sat (cloR 207 [] [.sat (ptrR [.sat (rowR 1 kiC [v.k])])])) [.v (.int .i64 3)] (.v (.bool (!decide (3 = v.k)))) := FnV.clo (con_blank1 v.k 3)
  have c4 : FnV Tryz.prog (.sat (cloR 207 [] [.sat (ptrR [.sat (rowR 1 kiC [v.k])])])) [.v (.int .i64 4)] (.v (.bool (!decide (4 = v.k)))) := FnV.clo (con_blank1 v.k 4)
  have c5 : FnV Tryz.prog (.sat (cloR 207 [] [.sat (ptrR [.sat (rowR 1 kiC [v.k])])])) [.v (.int .i64 5)] (.v (.bool (!decide (5 = v.k)))) := FnV.clo (con_blank1 v.k 5)
  have c6 : FnV Tryz.prog (.sat (cloR 207 [] [.sat (ptrR [.sat (rowR 1 kiC [v.k])])])) [.v (.int .i64 6)] (.v (.bool (!decide (6 = v.k)))) := FnV.clo (con_blank1 v.k 6)
  have cb1 := (con_zBits (h := ZI.raw v.q.1 v.q.2.1)).h (show v.q.2.1.length ≤ 1099511627775 by have := hz.q.2.1; omega)
  have cb2 := (con_zBits (h := ZI.raw v.q.2.2.1 v.q.2.2.2)).h (show v.q.2.2.2.length ≤ 1099511627775 by have := hz.q.2.2; omega)
  have hP := vP0 v
  have f1 := bits0 (b := v.q.1) (l := v.q.2.1)
  have f2 := bits0 (b := v.q.2.2.1) (l := v.q.2.2.2)
  have b1 := hz.q.2.1
  have b2 := hz.q.2.2
  have b3 := hz.al
  have b4 := hz.pol
  have b5 := hz.fal
  have b6 := hz.ril
  have b7 := hz.lil
  have l1 : (v.a.map rq).length = v.a.length := List.length_map _
  have l2 : (v.po.map rz).length = v.po.length := List.length_map _
  refine PureOK.fnF Tryz.func147 Tryz.results147 Tryz.ntmps147 rfl rfl rfl (by simp [AV.ids, AV0.ids, Atom.ids]) rfl (fun w0 T B E0 hB => ?_)
  refine SX.goN ?_
  refine SX.WP.freezeB 3 hB rfl rfl ?_
  refine SX.WP.regionL ?_
  have k0 := hk
  have e1 : (!decide ((1 : Int) = v.k)) = true := by rw [decide_eq_false (by omega)]; rfl
  have e2 : (!decide ((2 : Int) = v.k)) = true := by rw [decide_eq_false (by omega)]; rfl
  have e3 : (!decide ((3 : Int) = v.k)) = true := by rw [decide_eq_false (by omega)]; rfl
  have e4 : (!decide ((4 : Int) = v.k)) = true := by rw [decide_eq_false (by omega)]; rfl
  have e5 : (!decide ((5 : Int) = v.k)) = true := by rw [decide_eq_false (by omega)]; rfl
  have e6 : (!decide ((6 : Int) = v.k)) = true := by rw [decide_eq_false (by omega)]; rfl
  rw [e1] at c1; rw [e2] at c2; rw [e3] at c3; rw [e4] at c4; rw [e5] at c5; rw [e6] at c6
  clear e1 e2 e3 e4 e5 e6
  repeat' (first | refine SX.goN ?_ | refine SX.W.ite (fun h => ?_) (fun h => ?_) | refine SX.W.iteN (fun h => ?_) (fun h => ?_) | refine SX.W.iteB (fun h => ?_) (fun h => ?_) | refine SX.R.ite (fun h => ?_) (fun h => ?_) | refine SX.R.iteN (fun h => ?_) (fun h => ?_) | refine SX.R.iteB (fun h => ?_) (fun h => ?_))
  all_goals
    refine retB ?_
    refine Bool.eq_iff_iff.2 (Iff.trans ?_ decide_eq_true_iff.symm)
    rw [hP]
    constructor
    · intro hh
      first
        | (cases hh; done)
        | (try rw [decide_eq_true_iff] at hh
           refine ⟨?_, ?_, ?_, ?_, ?_, ?_, ?_⟩ <;> first | omega | (refine .inr ⟨?_, ?_, ?_, ?_⟩ <;> first | omega | assumption))
    · rintro ⟨h1, h2, h3, h4, h5, h6, h7⟩
      first
        | rfl
        | (rw [decide_eq_true_iff]; omega)
        | (exfalso; first | omega | (rcases h1 with h1 | ⟨g1, g2, g3, g4⟩ <;> first | omega | (clear c1 c2 c3 c4 c5 c6 f1 f2 hP; simp_all; done)))
theorem con_blank (v : Vl) (hz : vZ0 v) : PureOK Tryz.prog 147 [.agg (vlA v), .r (rowR 1 kiC [v.k])] (.v (.bool (decide (vP v = 0)))) := by
  have hk : v.k = 1 ∨ v.k = 2 ∨ v.k = 3 ∨ v.k = 4 ∨ v.k = 5 ∨ v.k = 6 ∨ (v.k ≠ 1 ∧ v.k ≠ 2 ∧ v.k ≠ 3 ∧ v.k ≠ 4 ∧ v.k ≠ 5 ∧ v.k ≠ 6) := by omega
  rcases hk with hk | hk | hk | hk | hk | hk | hk
  · exact con_blank_1 v hz hk
  · exact con_blank_2 v hz hk
  · exact con_blank_3 v hz hk
  · exact con_blank_4 v hz hk
  · exact con_blank_5 v hz hk
  · exact con_blank_6 v hz hk
  · exact con_blank_7 v hz hk
end Go.Proofs.YtfhpmbenldgfnaaGreatDoor
/- Primes. -/
set_option linter.unusedVariables false
set_option linter.unusedSimpArgs false
namespace Go.Proofs.YtfhpmbenldgfnaaGreatDoor
open Go.RowKit QM SX LA
/-- A prime below 2^31. -/
def PrP (p : Nat) : Prop := 2 ≤ p ∧ p < 2147483648 ∧ ∀ d, d < p → 2 ≤ d ∧ d * d ≤ p → p % d ≠ 0
instance (p : Nat) : Decidable (PrP p) := by unfold PrP; infer_instance
theorem tmod_nat (a b : Nat) : (a : Int).tmod (b : Int) = ((a % b : Nat) : Int) := rfl
theorem tdiv_nat (a b : Nat) : (a : Int).tdiv (b : Int) = ((a / b : Nat) : Int) := rfl
theorem wrapN {n : Nat} (h : n < 18446744073709551616) : IntKind.u64.wrap (n : Int) = (n : Int) := wrapU64 (by omega) (by omega)
theorem PrP.intro {p d : Nat} (h1 : 2 ≤ p) (h2 : p < 2147483648) (h3 : p < d * d) (h : ∀ e, 2 ≤ e → e < d → p % e ≠ 0) : PrP p := ⟨h1, h2, fun e _ he => h e he.1 (by
  rcases Nat.lt_or_ge e d with h' | h'
  · exact h'
  · have := Nat.mul_le_mul h' h'; omega)⟩
theorem PrP.not {p d : Nat} (h1 : 2 ≤ d) (h2 : d * d ≤ p) (h3 : p % d = 0) : ¬ PrP p := fun h => h.2.2 d (by
  have := Nat.mul_le_mul h1 (Nat.le_refl d); omega) ⟨h1, h2⟩ h3
attribute [local irreducible] IntKind.wrap Go1 Reg WP thenK inBlk retQ retF RetF RetOK ResOK CallOK OpOK Sat
attribute [local irreducible] qsub qmul qquo qcmp qadd qv redS mf PrP
theorem con_PrimeR (p : Nat) (hp : p < 18446744073709551616) : PureOK Tryz.prog 116 [.v (.int .u64 (p : Int))] (.v (.bool (decide (PrP p)))) := by
  refine PureOK.fnF Tryz.func116 Tryz.results116 Tryz.ntmps116 rfl rfl rfl (by simp [AV.ids, AV0.ids, Atom.ids]) rfl (fun w0 T B E0 hB => ?_)
  by_cases h1 : p < 2
  · have h1' : (p : Int) < 2 := by omega
    refine SX.goN ?_
    refine retB ?_; exact (decide_eq_false fun h => by unfold PrP at h; omega).symm
  by_cases h2 : 2147483648 ≤ p
  · have h2' : (p : Int) ≥ 2147483648 := by omega
    refine SX.goN ?_
    refine retB ?_; exact (decide_eq_false fun h => by unfold PrP at h; omega).symm
  refine SX.goN ?_
  refine W.loop (fun d => 2 ≤ d ∧ d ≤ 50000 ∧ ∀ e, 2 ≤ e → e < d → p % e ≠ 0) (fun d => [(0, .v (.int .u64 (p : Int))), (3, .v (.int .u64 (d : Int)))]) (fun _ => []) (fun d => 50001 - d) 2 ⟨by omega, by omega, fun e h h' => by omega⟩ (fun d ⟨hd, hd2, he⟩ => ?_)
  have hq : IntKind.u64.wrap ((p : Int).tdiv (d : Int)) = ((p / d : Nat) : Int) := by rw [tdiv_nat]; exact wrapN (Nat.lt_of_le_of_lt (Nat.div_le_self p d) hp)
  have hr : IntKind.u64.wrap ((p : Int).tmod (d : Int)) = ((p % d : Nat) : Int) := by rw [tmod_nat]; exact wrapN (Nat.lt_of_le_of_lt (Nat.mod_le p d) hp)
  have hdz : (d : Int) ≠ 0 := by omega
  by_cases h : d ≤ p / d
  · have hdd : d * d ≤ p := (Nat.le_div_iff_mul_le (by omega)).1 h
    by_cases h3 : p % d = 0
    · refine SX.goN ?_
      refine retB ?_; exact (decide_eq_false (PrP.not hd hdd h3)).symm
    · have hd3 : d ≤ 46340 := by
        rcases Nat.lt_or_ge 46340 d with h4 | h4
        · have := Nat.mul_le_mul h4 h4; omega
        · exact h4
      refine SX.goN ?_
      refine W.next (d + 1) ⟨by omega, by omega, fun e h h' => ?_⟩ (by omega)
      by_cases h5 : e < d
      · exact he e h h5
      · obtain rfl : e = d := by omega
        exact h3
  · have hdd : p < d * d := by
      rcases Nat.lt_or_ge p (d * d) with h4 | h4
      · exact h4
      · exact absurd ((Nat.le_div_iff_mul_le (by omega)).2 h4) h
    refine SX.goN ?_
    refine retB ?_; exact (decide_eq_true (PrP.intro (by omega) (by omega) hdd he)).symm
theorem con_PrimeM (p : Nat) (hp : p < 18446744073709551616) : PureOK Tryz.prog 159 [.v (.int .u64 (p : Int))] (.v (.bool (decide (PrP p)))) := by
  have hr2 : IntKind.u64.wrap ((p : Int).tmod 2) = ((p % 2 : Nat) : Int) := by rw [show (2 : Int) = ((2 : Nat) : Int) from rfl, tmod_nat]; exact wrapN (Nat.lt_of_le_of_lt (Nat.mod_le p 2) hp)
  refine PureOK.fnF Tryz.func159 Tryz.results159 Tryz.ntmps159 rfl rfl rfl (by simp [AV.ids, AV0.ids, Atom.ids]) rfl (fun w0 T B E0 hB => ?_)
  by_cases h1 : p < 2
  · have h1' : (p : Int) < 2 := by omega
    refine SX.goN ?_
    refine retB ?_; rw [Bool.eq_iff_iff, decide_eq_true_iff]; refine Iff.trans ?_ decide_eq_true_iff.symm
    exact ⟨fun h => by omega, fun h => by unfold PrP at h; omega⟩
  by_cases h2 : 2147483648 ≤ p
  · have h2' : (p : Int) ≥ 2147483648 := by omega
    refine SX.goN ?_
    refine retB ?_; rw [Bool.eq_iff_iff, decide_eq_true_iff]; refine Iff.trans ?_ decide_eq_true_iff.symm
    exact ⟨fun h => by omega, fun h => by unfold PrP at h; omega⟩
  by_cases h3 : p % 2 = 0
  · refine SX.goN ?_
    refine retB ?_; rw [Bool.eq_iff_iff, decide_eq_true_iff]; refine Iff.trans ?_ decide_eq_true_iff.symm
    constructor
    · intro h
      obtain rfl : p = 2 := by omega
      exact PrP.intro (d := 2) (by decide) (by decide) (by decide) (fun e h h' => by omega)
    · intro h
      rcases Nat.lt_or_ge p 4 with h4 | h4
      · omega
      · exact absurd h (PrP.not (d := 2) (by decide) (by omega) h3)
  refine SX.goN ?_
  refine W.loop (fun d => 3 ≤ d ∧ d ≤ 50000 ∧ d % 2 = 1 ∧ ∀ e, 2 ≤ e → e < d → p % e ≠ 0) (fun d => [(0, .v (.int .u64 (p : Int))), (3, .v (.int .u64 (d : Int)))]) (fun _ => []) (fun d => 50001 - d) 3 ⟨by omega, by omega, by omega, fun e h h' => (show e = 2 by omega) ▸ h3⟩ (fun d ⟨hd, hd2, hodd, he⟩ => ?_)
  have hmm : d * d ≤ 50000 * 50000 := Nat.mul_le_mul hd2 hd2
  have hq : IntKind.u64.wrap ((d : Int) * (d : Int)) = ((d * d : Nat) : Int) := by rw [← Int.natCast_mul]; exact wrapN (by omega)
  have hr : IntKind.u64.wrap ((p : Int).tmod (d : Int)) = ((p % d : Nat) : Int) := by rw [tmod_nat]; exact wrapN (Nat.lt_of_le_of_lt (Nat.mod_le p d) hp)
  have hdz : (d : Int) ≠ 0 := by omega
  by_cases h : d * d ≤ p
  · by_cases h5 : p % d = 0
    · refine SX.goN ?_
      refine retB ?_; exact (decide_eq_false (PrP.not (by omega) h h5)).symm
    · have hd3 : d ≤ 46340 := by
        rcases Nat.lt_or_ge 46340 d with h4 | h4
        · have := Nat.mul_le_mul h4 h4; omega
        · exact h4
      refine SX.goN ?_
      refine W.next (d + 2) ⟨by omega, by omega, by omega, fun e h h' => ?_⟩ (by omega)
      by_cases h6 : e < d
      · exact he e h h6
      · by_cases h7 : e = d
        · subst h7; exact h5
        · obtain rfl : e = d + 1 := by omega
          intro h8
          have h9 : (d + 1) % 2 = 0 := by omega
          have : p % 2 = 0 := Nat.mod_eq_zero_of_dvd (Nat.dvd_trans (Nat.dvd_of_mod_eq_zero h9) (Nat.dvd_of_mod_eq_zero h8))
          exact h3 this
  · refine SX.goN ?_
    refine retB ?_; exact (decide_eq_true (PrP.intro (by omega) (by omega) (by omega) he)).symm
end Go.Proofs.YtfhpmbenldgfnaaGreatDoor
/- Is a value formed? -/
set_option linter.unusedVariables false
set_option linter.unusedSimpArgs false
namespace Go.Proofs.YtfhpmbenldgfnaaGreatDoor
open Go.RowKit QM SX LA
abbrev vlK (v : Vl) : List CA := [.val (.int .i64 v.k), .val (.bool v.q.1), .sat (rawN v.q.2.1), .val (.bool v.q.2.2.1), .sat (rawN v.q.2.2.2), .val (.int .i64 v.r), .val (.int .i64 v.c), .sat (rowR 4 q4C (v.a.map rq)), .sat (rowR 2 z2C (v.po.map rz)), .val (.int .u64 (v.p : Int)), .val (.int .i64 v.fr), .val (.int .i64 v.fc), .sat (rowR 1 wdC v.fa), .sat (rowR 1 wdC v.ri), .sat (rowR 15 vlC v.li)]
def fp64 (r c : Int) (n : Nat) : Bool := decide (0 ≤ r ∧ r ≤ 64 ∧ 0 ≤ c ∧ c ≤ 64 ∧ (n : Int) = r * c)
def mOk (r c : Int) (a : List RawQ) : Bool := a.all qOk && fp64 r c a.length
def lz (po : List RawZ) : Bool := decide (po.length = 0) || decide (rzv (po.getD (po.length - 1) (false, [])) ≠ 0)
def pOk (po : List RawZ) : Bool := po.all zOk && lz po
def ltp (p x : Nat) : Bool := decide (x < p)
def fOk (r c : Int) (fa : List Nat) (p : Nat) : Bool := fa.all (ltp p) && fp64 r c fa.length
def lw (ri : List Nat) : Bool := decide (ri.length = 0) || decide (ri.getD (ri.length - 1) 0 ≠ 0)
def rOk (p : Nat) (ri : List Nat) : Bool := ri.all (ltp p) && lw ri
def vK (rec : Vl → Bool) (pos : Bool) (v : Vl) : Bool := decide (vP v = 0) && (if v.k = 1 then qOk v.q else if v.k = 2 then mOk v.r v.c v.a else if v.k = 3 then pOk v.po else if v.k = 4 then decide (PrP v.p) && fOk v.fr v.fc v.fa v.p else if v.k = 5 then decide (PrP v.p) && rOk v.p v.ri else if v.k = 6 then pos && v.li.all rec else false)
/-- Is a value formed, with lists nested so deep at most? -/
def vF : Nat → Vl → Bool
  | 0, v => vK (fun _ => false) false v
  | d + 1, v => vK (vF d) true v
def vZ : Nat → Vl → Prop
  | 0, v => vZ0 v ∧ v.li = []
  | n + 1, v => vZ0 v ∧ ∀ x ∈ v.li, vZ n x
theorem vZ.z {n : Nat} {v : Vl} (h : vZ n v) : vZ0 v := by cases n <;> exact h.1
theorem vF_P {d : Nat} {v : Vl} (h : vP v ≠ 0) : vF d v = false := by
  cases d <;> (unfold vF vK; rw [decide_eq_false h]; rfl)
theorem vF_1 {d : Nat} {v : Vl} (h : vP v = 0) (hk : v.k = 1) : vF d v = qOk v.q := by
  cases d <;> (unfold vF vK; rw [decide_eq_true h, if_pos hk]; rfl)
theorem vF_2 {d : Nat} {v : Vl} (h : vP v = 0) (hk : v.k = 2) : vF d v = mOk v.r v.c v.a := by
  cases d <;> (unfold vF vK; rw [decide_eq_true h, if_neg (by omega), if_pos hk]; rfl)
theorem vF_3 {d : Nat} {v : Vl} (h : vP v = 0) (hk : v.k = 3) : vF d v = pOk v.po := by
  cases d <;> (unfold vF vK; rw [decide_eq_true h, if_neg (by omega), if_neg (by omega), if_pos hk]; rfl)
theorem vF_4 {d : Nat} {v : Vl} (h : vP v = 0) (hk : v.k = 4) : vF d v = (decide (PrP v.p) && fOk v.fr v.fc v.fa v.p) := by
  cases d <;> (unfold vF vK; rw [decide_eq_true h, if_neg (by omega), if_neg (by omega), if_neg (by omega), if_pos hk]; rfl)
theorem vF_5 {d : Nat} {v : Vl} (h : vP v = 0) (hk : v.k = 5) : vF d v = (decide (PrP v.p) && rOk v.p v.ri) := by
  cases d <;> (unfold vF vK; rw [decide_eq_true h, if_neg (by omega), if_neg (by omega), if_neg (by omega), if_neg (by omega), if_pos hk]; rfl)
theorem vF_60 {v : Vl} (hk : v.k = 6) : vF 0 v = false := by
  unfold vF vK; rw [if_neg (by omega), if_neg (by omega), if_neg (by omega), if_neg (by omega), if_neg (by omega), if_pos hk]; cases decide (vP v = 0) <;> rfl
theorem vF_6 {d : Nat} {v : Vl} (h : vP v = 0) (hk : v.k = 6) : vF (d + 1) v = v.li.all (vF d) := by
  unfold vF vK; rw [decide_eq_true h, if_neg (by omega), if_neg (by omega), if_neg (by omega), if_neg (by omega), if_neg (by omega), if_pos hk]; rfl
theorem vF_7 {d : Nat} {v : Vl} (hk : v.k ≠ 1 ∧ v.k ≠ 2 ∧ v.k ≠ 3 ∧ v.k ≠ 4 ∧ v.k ≠ 5 ∧ v.k ≠ 6) : vF d v = false := by
  cases d <;> (unfold vF vK; rw [if_neg (by omega), if_neg (by omega), if_neg (by omega), if_neg (by omega), if_neg (by omega), if_neg (by omega)]; cases decide (vP v = 0) <;> rfl)
theorem any_not {α : Type} (l : List α) (p : α → Bool) : (!l.any fun x => !p x) = l.all p := by
  induction l with
  | nil => rfl
  | cons a l ih => rw [List.any_cons, List.all_cons, ← ih]; cases p a <;> simp
theorem all_no {α : Type} {l : List α} {p : α → Bool} {k : Nat} {x : α} (hx : l[k]? = some x) (h : p x = false) : l.all p = false := by
  rw [Bool.eq_false_iff]; intro h2
  have := List.all_eq_true.1 h2 x (List.mem_of_getElem? hx)
  rw [h] at this; cases this
theorem all_yes {α : Type} {l : List α} {p : α → Bool} (h : ∀ (j : Nat) x, j < l.length → l[j]? = some x → p x = true) : l.all p = true := by
  rw [List.all_eq_true]; intro x hx
  obtain ⟨i, hi⟩ := List.mem_iff_getElem?.1 hx
  exact h i x (at_lt hi) hi
attribute [local irreducible] IntKind.wrap Go1 Reg WP thenK inBlk retQ retF RetF RetOK ResOK CallOK OpOK Sat
attribute [local irreducible] qsub qmul qquo qcmp qadd qv redS mf PrP qOk zOk vP fp64
theorem con_below1 (v : Vl) (x : Nat) : PureOK Tryz.prog 213 [.v (.int .u64 (x : Int)), .r (ptrR (vlK v))] (.v (.bool (!ltp v.p x))) := by
  refine PureOK.fnF Tryz.func213 Tryz.results213 Tryz.ntmps213 rfl rfl rfl (by simp [AV.ids, AV0.ids, Atom.ids]) rfl (fun w0 T B E0 hB => ?_)
  refine SX.goN ?_
  refine retB ?_
  unfold ltp
  rw [← decide_not, decide_eq_decide]; omega
theorem con_below (v : Vl) (l : List Nat) (hp : v.p < WB) (hl : l.length ≤ 100000) : PureOK Tryz.prog 155 [.agg (vlA v), .r (rowR 1 wdC l)] (.v (.bool (decide (PrP v.p) && l.all (ltp v.p)))) := by
  have cP := con_PrimeM v.p (by rw [WB_eq] at hp; exact hp)
  have cA := con_AnyW l (.sat (cloR 213 [] [.sat (ptrR (vlK v))])) (fun x => !ltp v.p x) (fun x _ => FnV.clo (con_below1 v x)) hl rfl
  rw [← any_not]
  refine PureOK.fnF Tryz.func155 Tryz.results155 Tryz.ntmps155 rfl rfl rfl (by simp [AV.ids, AV0.ids, Atom.ids]) rfl (fun w0 T B E0 hB => ?_)
  refine SX.goN ?_
  refine SX.WP.freezeB 2 hB rfl rfl ?_
  refine SX.WP.regionL ?_
  by_cases h : PrP v.p
  · rw [decide_eq_true h] at cP ⊢
    refine SX.goN ?_
    exact retB rfl
  · rw [decide_eq_false h] at cP ⊢
    refine SX.goN ?_
    exact retB rfl
theorem con_Formed21 (r c : Int) {n : Nat} {cells : List CA} : PureOK Tryz.prog 190 [.agg [.c (.val (.int .i64 r)), .c (.val (.int .i64 c)), .c (.sat (sliceR 1 n cells))]] (.v (.bool (fp64 r c n))) := by
  unfold fp64
  refine PureOK.fnF Tryz.func190 Tryz.results190 Tryz.ntmps190 rfl rfl rfl (by simp [AV.ids, AV0.ids, Atom.ids]) rfl (fun w0 T B E0 hB => ?_)
  by_cases h1 : r ≥ 0
  · by_cases h2 : r ≤ 64
    · by_cases h3 : c ≥ 0
      · by_cases h4 : c ≤ 64
        · have hp : 0 ≤ r * c := Int.mul_nonneg h1 h3
          have hp2 : r * c ≤ 64 * 64 := Int.mul_le_mul h2 h4 h3 (by decide)
          refine SX.goN ?_
          refine retB ?_
          rw [decide_eq_decide]
          exact ⟨fun h => ⟨h1, h2, h3, h4, h⟩, fun h => h.2.2.2.2⟩
        · refine SX.goN ?_
          refine retB ?_; exact (decide_eq_false fun h => h4 h.2.2.2.1).symm
      · refine SX.goN ?_
        refine retB ?_; exact (decide_eq_false fun h => h3 h.2.2.1).symm
    · refine SX.goN ?_
      refine retB ?_; exact (decide_eq_false fun h => h2 h.2.1).symm
  · refine SX.goN ?_
    refine retB ?_; exact (decide_eq_false fun h => h1 h.1).symm
theorem con_side (n : Int) : PureOK Tryz.prog 211 [.v (.int .i64 n)] (.v (.bool (decide (0 ≤ n ∧ n ≤ 64)))) := by
  refine PureOK.fnF Tryz.func211 Tryz.results211 Tryz.ntmps211 rfl rfl rfl (by simp [AV.ids, AV0.ids, Atom.ids]) rfl (fun w0 T B E0 hB => ?_)
  by_cases h : n ≥ 0
  · refine SX.goN ?_
    refine retB ?_; rw [decide_eq_decide]; omega
  · refine SX.goN ?_
    refine retB ?_; exact (decide_eq_false fun h' => h h'.1).symm
theorem con_fFormed (r c : Int) {n : Nat} {cells : List CA} : PureOK Tryz.prog 154 [.agg [.c (.val (.int .i64 r)), .c (.val (.int .i64 c)), .c (.sat (sliceR 1 n cells))]] (.v (.bool (fp64 r c n))) := by
  unfold fp64
  have s1 := con_side r
  have s2 := con_side c
  refine PureOK.fnF Tryz.func154 Tryz.results154 Tryz.ntmps154 rfl rfl rfl (by simp [AV.ids, AV0.ids, Atom.ids]) rfl (fun w0 T B E0 hB => ?_)
  by_cases h1 : 0 ≤ r ∧ r ≤ 64
  · rw [decide_eq_true h1] at s1
    by_cases h2 : 0 ≤ c ∧ c ≤ 64
    · rw [decide_eq_true h2] at s2
      have hp : 0 ≤ r * c := Int.mul_nonneg h1.1 h2.1
      have hp2 : r * c ≤ 64 * 64 := Int.mul_le_mul h1.2 h2.2 h2.1 (by decide)
      refine SX.goN ?_
      refine retB ?_
      rw [decide_eq_decide]
      exact ⟨fun h => ⟨h1.1, h1.2, h2.1, h2.2, h⟩, fun h => h.2.2.2.2⟩
    · rw [decide_eq_false h2] at s2
      refine SX.goN ?_
      refine retB ?_; exact (decide_eq_false fun h => h2 ⟨h.2.2.1, h.2.2.2.1⟩).symm
  · rw [decide_eq_false h1] at s1
    refine SX.goN ?_
    refine retB ?_; exact (decide_eq_false fun h => h1 ⟨h.1, h.2.1⟩).symm
theorem con_Normal13 (r c : Int) (a : List RawQ) (hl : a.length ≤ 100000) (ha : ∀ x ∈ a, (Sm WB x.2.1 ∧ Sm WB x.2.2.2) ∧ x.2.1.length ≤ 100000 ∧ x.2.2.2.length ≤ 100000) : PureOK Tryz.prog 114 [.agg (matZ r c (a.map rq))] (.v (.bool (mOk r c a))) := by
  have hlen : (a.map rq).length = a.length := List.length_map _
  have cF : PureOK Tryz.prog 37 [.agg (matZ r c (a.map rq))] (.v (.bool (fp64 r c (a.map rq).length))) := by
    unfold fp64; exact con_rFormed r c
  unfold mOk
  refine PureOK.fnF Tryz.func114 Tryz.results114 Tryz.ntmps114 rfl rfl rfl (by simp [AV.ids, AV0.ids, Atom.ids]) rfl (fun w0 T B E0 hB => ?_)
  refine SX.goN ?_
  refine W.loop (fun k => k ≤ a.length ∧ ∀ (j : Nat) x, j < k → a[j]? = some x → qOk x = true) (fun k => [(1, .ptr 1 0), (3, .v (.int .i64 (k : Int)))]) (fun k => [(1, .box 30 (matZ r c (a.map rq)))]) (fun k => a.length - k) 0 ⟨Nat.zero_le _, fun j x h => by omega⟩ (fun k ⟨hk, he⟩ => ?_)
  by_cases h : k < a.length
  · have h' : k < (a.map rq).length := by omega
    obtain ⟨x, hx⟩ : ∃ x, a[k]? = some x := ⟨_, List.getElem?_eq_getElem h⟩
    have hq : (a.map rq)[k]? = some (rq x) := by rw [List.getElem?_map, hx]; rfl
    have hax := ha x (List.mem_of_getElem? hx)
    have cN := con_Nrm x hax.1 (by omega)
    cases ho : qOk x with
    | true =>
      rw [ho] at cN
      refine SX.goN ?_
      refine W.next (k + 1) ⟨h, fun j y hj hy => ?_⟩ (by omega)
      by_cases hjk : j < k
      · exact he j y hjk hy
      · obtain rfl : j = k := by omega
        rw [hx] at hy; rw [← Option.some.inj hy]; exact ho
    | false =>
      rw [ho] at cN
      refine SX.goN ?_
      refine retB ?_; rw [all_no hx ho]; rfl
  · obtain rfl : k = a.length := by omega
    have h' : ¬ a.length < (a.map rq).length := by omega
    rw [all_yes he, ← hlen]
    refine SX.goN ?_
    exact retB (Bool.true_and _).symm
theorem con_Normal21 (r c : Int) (l : List Nat) (p : Nat) (hl : l.length ≤ 100000) : PureOK Tryz.prog 117 [.agg [.c (.val (.int .i64 r)), .c (.val (.int .i64 c)), .c (.sat (rowR 1 wdC l))], .v (.int .u64 (p : Int))] (.v (.bool (fOk r c l p))) := by
  have cF : PureOK Tryz.prog 190 [.agg [.c (.val (.int .i64 r)), .c (.val (.int .i64 c)), .c (.sat (rowR 1 wdC l))]] (.v (.bool (fp64 r c l.length))) := con_Formed21 r c
  unfold fOk
  refine PureOK.fnF Tryz.func117 Tryz.results117 Tryz.ntmps117 rfl rfl rfl (by simp [AV.ids, AV0.ids, Atom.ids]) rfl (fun w0 T B E0 hB => ?_)
  refine SX.goN ?_
  refine W.loop (fun k => k ≤ l.length ∧ ∀ (j : Nat) x, j < k → l[j]? = some x → ltp p x = true) (fun k => [(1, .v (.int .u64 (p : Int))), (2, .ptr 2 0), (5, .v (.int .i64 (k : Int)))]) (fun k => [(2, .box 35 [.c (.val (.int .i64 r)), .c (.val (.int .i64 c)), .c (.sat (rowR 1 wdC l))])]) (fun k => l.length - k) 0 ⟨Nat.zero_le _, fun j x h => by omega⟩ (fun k ⟨hk, he⟩ => ?_)
  by_cases h : k < l.length
  · obtain ⟨x, hx⟩ : ∃ x, l[k]? = some x := ⟨_, List.getElem?_eq_getElem h⟩
    by_cases ho : x < p
    · refine SX.goN ?_
      refine W.next (k + 1) ⟨h, fun j y hj hy => ?_⟩ (by omega)
      by_cases hjk : j < k
      · exact he j y hjk hy
      · obtain rfl : j = k := by omega
        rw [hx] at hy; rw [← Option.some.inj hy]; exact decide_eq_true ho
    · refine SX.goN ?_
      refine retB ?_; rw [all_no hx (decide_eq_false ho)]; rfl
  · obtain rfl : k = l.length := by omega
    rw [all_yes he]
    refine SX.goN ?_
    exact retB (Bool.true_and _).symm
theorem con_Normal10 (l : List RawZ) (hl : l.length ≤ 100000) (ha : ∀ x ∈ l, Sm WB x.2 ∧ x.2.length ≤ 100000) : PureOK Tryz.prog 115 [.r (rowR 2 z2C (l.map rz))] (.v (.bool (pOk l))) := by
  have hlen : (l.map rz).length = l.length := List.length_map _
  unfold pOk
  refine PureOK.fnF Tryz.func115 Tryz.results115 Tryz.ntmps115 rfl rfl rfl (by simp [AV.ids, AV0.ids, Atom.ids]) rfl (fun w0 T B E0 hB => ?_)
  refine SX.goN ?_
  refine W.loop (fun k => k ≤ l.length ∧ ∀ (j : Nat) x, j < k → l[j]? = some x → zOk x = true) (fun k => [(0, .r (rowR 2 z2C (l.map rz))), (3, .v (.int .i64 (k : Int)))]) (fun k => []) (fun k => l.length - k) 0 ⟨Nat.zero_le _, fun j x h => by omega⟩ (fun k ⟨hk, he⟩ => ?_)
  by_cases h : k < l.length
  · have h' : k < (l.map rz).length := by omega
    obtain ⟨x, hx⟩ : ∃ x, l[k]? = some x := ⟨_, List.getElem?_eq_getElem h⟩
    have hq : (l.map rz)[k]? = some (rz x) := by rw [List.getElem?_map, hx]; rfl
    have hax := ha x (List.mem_of_getElem? hx)
    have ho : zOk x = if x.2.length = 0 then !x.1 else decide (x.2.getD (x.2.length - 1) 0 ≠ 0) := by unfold zOk; rfl
    have nx : zOk x = true → ∀ (j : Nat) y, j < k + 1 → l[j]? = some y → zOk y = true := fun ht j y hj hy => by
      by_cases hjk : j < k
      · exact he j y hjk hy
      · obtain rfl : j = k := by omega
        rw [hx] at hy; rw [← Option.some.inj hy]; exact ht
    by_cases h0 : x.2.length = 0
    · rw [if_pos h0] at ho
      cases h1 : x.1
      · rw [h1] at ho
        refine SX.goN ?_
        exact W.next (k + 1) ⟨h, nx ho⟩ (by omega)
      · rw [h1] at ho
        refine SX.goN ?_
        refine retB ?_; rw [all_no hx ho]; rfl
    · rw [if_neg h0] at ho
      obtain ⟨w, hw⟩ : ∃ w, x.2[x.2.length - 1]? = some w := ⟨_, List.getElem?_eq_getElem (by omega)⟩
      have hg : x.2.getD (x.2.length - 1) 0 = w := by rw [List.getD_eq_getElem?_getD, hw]; rfl
      rw [hg] at ho
      by_cases h1 : w = 0
      · rw [decide_eq_false (fun e => e h1)] at ho
        refine SX.goN ?_
        refine retB ?_; rw [all_no hx ho]; rfl
      · rw [decide_eq_true h1] at ho
        refine SX.goN ?_
        exact W.next (k + 1) ⟨h, nx ho⟩ (by omega)
  · obtain rfl : k = l.length := by omega
    have h' : ¬ l.length < (l.map rz).length := by omega
    rw [all_yes he]
    unfold lz
    by_cases h0 : l.length = 0
    · refine SX.goN ?_
      refine retB ?_; rw [decide_eq_true h0]; rfl
    · obtain ⟨x, hx⟩ : ∃ x, l[l.length - 1]? = some x := ⟨_, List.getElem?_eq_getElem (by omega)⟩
      have hq : (l.map rz)[(l.map rz).length - 1]? = some (rz x) := by rw [hlen, List.getElem?_map, hx]; rfl
      have hg : l.getD (l.length - 1) (false, []) = x := by rw [List.getD_eq_getElem?_getD, hx]; rfl
      have hax := ha x (List.mem_of_getElem? hx)
      have cS := (con_zSign (h := ZI.raw x.1 x.2)).h (show x.2.length ≤ 1099511627775 by omega)
      have hs0 : isign (rzv x) = 0 ↔ rzv x = 0 := by unfold isign; (repeat' split) <;> omega
      change PureOK _ _ _ (.v (.int .i64 (isign (rzv x)))) at cS
      rw [hg]
      refine SX.goN ?_
      refine retB ?_; rw [decide_eq_false h0, Bool.true_and, Bool.false_or, decide_eq_decide, Ne, Ne, hs0]
end Go.Proofs.YtfhpmbenldgfnaaGreatDoor
/- Is a value formed? The walks. -/
set_option linter.unusedVariables false
set_option linter.unusedSimpArgs false
namespace Go.Proofs.YtfhpmbenldgfnaaGreatDoor
open Go.RowKit QM SX LA
attribute [local irreducible] IntKind.wrap Go1 Reg WP thenK inBlk retQ retF RetF RetOK ResOK CallOK OpOK Sat
attribute [local irreducible] qsub qmul qquo qcmp qadd qv redS mf PrP qOk zOk vP fp64 lz
theorem con_formed1 (q : RawQ) (hq : (Sm WB q.2.1 ∧ Sm WB q.2.2.2) ∧ q.2.1.length ≤ 100000 ∧ q.2.2.2.length ≤ 100000) : PureOK Tryz.prog 150 [.agg (q4A (rq q))] (.v (.bool (!qOk q))) := by
  have c := con_Frac q hq.1 (by omega)
  refine PureOK.fnF Tryz.func150 Tryz.results150 Tryz.ntmps150 rfl rfl rfl (by simp [AV.ids, AV0.ids, Atom.ids]) rfl (fun w0 T B E0 hB => ?_)
  refine SX.goN ?_
  exact retB rfl
theorem con_formed2 (z : RawZ) (hz : Sm WB z.2 ∧ z.2.length ≤ 100000) : PureOK Tryz.prog 152 [.agg (z2A (rz z))] (.v (.bool (!zOk z))) := by
  have c := con_vWhole z (by omega)
  refine PureOK.fnF Tryz.func152 Tryz.results152 Tryz.ntmps152 rfl rfl rfl (by simp [AV.ids, AV0.ids, Atom.ids]) rfl (fun w0 T B E0 hB => ?_)
  refine SX.goN ?_
  exact retB rfl
theorem con_formed3 (v : Vl) (d : Int) (b : Bool) (hd : 0 < d) (hd2 : d ≤ 100) (c : PureOK Tryz.prog 72 [.agg (vlA v), .v (.int .i64 (d - 1))] (.v (.bool b))) : PureOK Tryz.prog 157 [.agg (vlA v), .r (ptrR [.val (.int .i64 d)])] (.v (.bool (!b))) := by
  refine PureOK.fnF Tryz.func157 Tryz.results157 Tryz.ntmps157 rfl rfl rfl (by simp [AV.ids, AV0.ids, Atom.ids]) rfl (fun w0 T B E0 hB => ?_)
  refine SX.goN ?_
  exact retB rfl
theorem qmF (r c : Int) {n : Nat} {cells : List CA} : PureOK Tryz.prog 88 [.agg [.c (.val (.int .i64 r)), .c (.val (.int .i64 c)), .c (.sat (sliceR 4 n cells))]] (.v (.bool (fp64 r c n))) := by
  unfold fp64
  exact (con_Formed r c).h trivial
section
variable (v : Vl) (d : Nat) (hz : vZ0 v)
include hz
theorem blank_c : PureOK Tryz.prog 147 [.agg (vlA v), .r (sliceR 1 1 [.val (.int .i64 v.k)])] (.v (.bool (decide (vP v = 0)))) := con_blank v hz
theorem con_formedP (hP : vP v ≠ 0) : PureOK Tryz.prog 72 [.agg (vlA v), .v (.int .i64 (d : Int))] (.v (.bool (vF d v))) := by
  have c := blank_c v hz
  rw [decide_eq_false hP] at c
  rw [vF_P hP]
  refine PureOK.fnF Tryz.func72 Tryz.results72 Tryz.ntmps72 rfl rfl rfl (by simp [AV.ids, AV0.ids, Atom.ids]) rfl (fun w0 T B E0 hB => ?_)
  refine SX.goN ?_
  exact retB rfl
theorem con_formedk1 (hP : vP v = 0) (hk : v.k = 1) : PureOK Tryz.prog 72 [.agg (vlA v), .v (.int .i64 (d : Int))] (.v (.bool (vF d v))) := by
  have c := blank_c v hz
  rw [decide_eq_true hP] at c
  rw [vF_1 hP hk]
  have cF := con_Frac v.q hz.q.1 (by have := hz.q.2; omega)
  refine PureOK.fnF Tryz.func72 Tryz.results72 Tryz.ntmps72 rfl rfl rfl (by simp [AV.ids, AV0.ids, Atom.ids]) rfl (fun w0 T B E0 hB => ?_)
  refine SX.goN ?_
  exact retB rfl
theorem con_formedk2 (hP : vP v = 0) (hk : v.k = 2) : PureOK Tryz.prog 72 [.agg (vlA v), .v (.int .i64 (d : Int))] (.v (.bool (vF d v))) := by
  have c := blank_c v hz
  rw [decide_eq_true hP] at c
  rw [vF_2 hP hk]
  have cA := con_AnyfQ v.a 150 (fun x => !qOk x) (fun x hx => con_formed1 x (hz.a x hx)) hz.al
  have cF := qmF v.r v.c (n := (v.a.map rq).length) (cells := (v.a.map rq).flatMap q4C)
  have hl : (v.a.map rq).length = v.a.length := List.length_map _
  unfold mOk
  rw [← hl, ← any_not]
  cases h : fp64 v.r v.c (v.a.map rq).length
  · rw [h] at cF
    refine PureOK.fnF Tryz.func72 Tryz.results72 Tryz.ntmps72 rfl rfl rfl (by simp [AV.ids, AV0.ids, Atom.ids]) rfl (fun w0 T B E0 hB => ?_)
    refine SX.goN ?_
    refine retB ?_; rw [Bool.and_false]
  · rw [h] at cF
    refine PureOK.fnF Tryz.func72 Tryz.results72 Tryz.ntmps72 rfl rfl rfl (by simp [AV.ids, AV0.ids, Atom.ids]) rfl (fun w0 T B E0 hB => ?_)
    refine SX.goN ?_
    refine retB ?_; rw [Bool.and_true]
theorem con_formedk3 (hP : vP v = 0) (hk : v.k = 3) : PureOK Tryz.prog 72 [.agg (vlA v), .v (.int .i64 (d : Int))] (.v (.bool (vF d v))) := by
  have c := blank_c v hz
  rw [decide_eq_true hP] at c
  rw [vF_3 hP hk]
  have cA := con_AnyfZ v.po 152 (fun x => !zOk x) (fun x hx => con_formed2 x (hz.po x hx)) hz.pol
  have hl : (v.po.map rz).length = v.po.length := List.length_map _
  have hb := hz.pol
  unfold pOk lz
  rw [← any_not]
  by_cases h0 : v.po.length = 0
  · rw [decide_eq_true h0, Bool.true_or, Bool.and_true]
    refine PureOK.fnF Tryz.func72 Tryz.results72 Tryz.ntmps72 rfl rfl rfl (by simp [AV.ids, AV0.ids, Atom.ids]) rfl (fun w0 T B E0 hB => ?_)
    refine SX.goN ?_
    exact retB rfl
  · obtain ⟨x, hx⟩ : ∃ x, v.po[v.po.length - 1]? = some x := ⟨_, List.getElem?_eq_getElem (by omega)⟩
    have hq : (v.po.map rz)[(v.po.map rz).length - 1]? = some (rz x) := by rw [hl, List.getElem?_map, hx]; rfl
    have hg : v.po.getD (v.po.length - 1) (false, []) = x := by rw [List.getD_eq_getElem?_getD, hx]; rfl
    have hax := hz.po x (List.mem_of_getElem? hx)
    have cS := (con_zSign (h := ZI.raw x.1 x.2)).h (show x.2.length ≤ 1099511627775 by omega)
    have hs0 : isign (rzv x) = 0 ↔ rzv x = 0 := by unfold isign; (repeat' split) <;> omega
    change PureOK _ _ _ (.v (.int .i64 (isign (rzv x)))) at cS
    rw [hg, decide_eq_false h0, Bool.false_or]
    by_cases h1 : rzv x = 0
    · have h2 : isign (rzv x) = 0 := hs0.2 h1
      rw [decide_eq_false (fun e => e h1), Bool.and_false]
      refine PureOK.fnF Tryz.func72 Tryz.results72 Tryz.ntmps72 rfl rfl rfl (by simp [AV.ids, AV0.ids, Atom.ids]) rfl (fun w0 T B E0 hB => ?_)
      refine SX.goN ?_
      exact retB rfl
    · have h2 : ¬ isign (rzv x) = 0 := fun e => h1 (hs0.1 e)
      rw [decide_eq_true h1, Bool.and_true]
      refine PureOK.fnF Tryz.func72 Tryz.results72 Tryz.ntmps72 rfl rfl rfl (by simp [AV.ids, AV0.ids, Atom.ids]) rfl (fun w0 T B E0 hB => ?_)
      refine SX.goN ?_
      exact retB rfl
theorem con_formedk4 (hP : vP v = 0) (hk : v.k = 4) : PureOK Tryz.prog 72 [.agg (vlA v), .v (.int .i64 (d : Int))] (.v (.bool (vF d v))) := by
  have c := blank_c v hz
  rw [decide_eq_true hP] at c
  rw [vF_4 hP hk]
  have cB := con_below v v.fa hz.p hz.fal
  have cF : PureOK Tryz.prog 154 [.agg [.c (.val (.int .i64 v.fr)), .c (.val (.int .i64 v.fc)), .c (.sat (rowR 1 wdC v.fa))]] (.v (.bool (fp64 v.fr v.fc v.fa.length))) := con_fFormed v.fr v.fc
  unfold fOk
  cases h : fp64 v.fr v.fc v.fa.length
  · rw [h] at cF
    refine PureOK.fnF Tryz.func72 Tryz.results72 Tryz.ntmps72 rfl rfl rfl (by simp [AV.ids, AV0.ids, Atom.ids]) rfl (fun w0 T B E0 hB => ?_)
    refine SX.goN ?_
    refine retB ?_; rw [Bool.and_false, Bool.and_false]
  · rw [h] at cF
    refine PureOK.fnF Tryz.func72 Tryz.results72 Tryz.ntmps72 rfl rfl rfl (by simp [AV.ids, AV0.ids, Atom.ids]) rfl (fun w0 T B E0 hB => ?_)
    refine SX.goN ?_
    refine retB ?_; rw [Bool.and_true]
theorem con_formedk5 (hP : vP v = 0) (hk : v.k = 5) : PureOK Tryz.prog 72 [.agg (vlA v), .v (.int .i64 (d : Int))] (.v (.bool (vF d v))) := by
  have c := blank_c v hz
  rw [decide_eq_true hP] at c
  rw [vF_5 hP hk]
  have cB := con_below v v.ri hz.p hz.ril
  have hb := hz.ril
  unfold rOk lw
  rw [← Bool.and_assoc]
  generalize (decide (PrP v.p) && v.ri.all (ltp v.p)) = b at cB ⊢
  cases b
  · refine PureOK.fnF Tryz.func72 Tryz.results72 Tryz.ntmps72 rfl rfl rfl (by simp [AV.ids, AV0.ids, Atom.ids]) rfl (fun w0 T B E0 hB => ?_)
    refine SX.goN ?_
    exact retB rfl
  · by_cases h0 : v.ri.length = 0
    · rw [decide_eq_true h0]
      refine PureOK.fnF Tryz.func72 Tryz.results72 Tryz.ntmps72 rfl rfl rfl (by simp [AV.ids, AV0.ids, Atom.ids]) rfl (fun w0 T B E0 hB => ?_)
      refine SX.goN ?_
      exact retB rfl
    · obtain ⟨x, hx⟩ : ∃ x, v.ri[v.ri.length - 1]? = some x := ⟨_, List.getElem?_eq_getElem (by omega)⟩
      have hg : v.ri.getD (v.ri.length - 1) 0 = x := by rw [List.getD_eq_getElem?_getD, hx]; rfl
      rw [hg, decide_eq_false h0, Bool.false_or, Bool.true_and]
      refine PureOK.fnF Tryz.func72 Tryz.results72 Tryz.ntmps72 rfl rfl rfl (by simp [AV.ids, AV0.ids, Atom.ids]) rfl (fun w0 T B E0 hB => ?_)
      refine SX.goN ?_
      refine retB ?_; rw [decide_eq_decide]; omega
theorem con_formedk6 (hP : vP v = 0) (hk : v.k = 6) (hd : d ≤ 20) (hr : ∀ e, d = e + 1 → ∀ x ∈ v.li, PureOK Tryz.prog 72 [.agg (vlA x), .v (.int .i64 (e : Int))] (.v (.bool (vF e x)))) : PureOK Tryz.prog 72 [.agg (vlA v), .v (.int .i64 (d : Int))] (.v (.bool (vF d v))) := by
  have c := blank_c v hz
  rw [decide_eq_true hP] at c
  cases d with
  | zero =>
    rw [vF_60 hk]
    refine PureOK.fnF Tryz.func72 Tryz.results72 Tryz.ntmps72 rfl rfl rfl (by simp [AV.ids, AV0.ids, Atom.ids]) rfl (fun w0 T B E0 hB => ?_)
    refine SX.goN ?_
    refine SX.WP.freezeB 3 hB rfl rfl ?_
    refine SX.WP.regionL ?_
    refine SX.goN ?_
    exact retB rfl
  | succ e =>
    rw [vF_6 hP hk, ← any_not]
    have cA := con_AnyV v.li (.sat (cloR 157 [] [.sat (ptrR [.val (.int .i64 ((e + 1 : Nat) : Int))])])) (fun x => !vF e x) (fun x hx => FnV.clo (con_formed3 x ((e + 1 : Nat) : Int) (vF e x) (by omega) (by omega) (by
      rw [show ((e + 1 : Nat) : Int) - 1 = (e : Int) by omega]; exact hr e rfl x hx))) hz.lil rfl
    refine PureOK.fnF Tryz.func72 Tryz.results72 Tryz.ntmps72 rfl rfl rfl (by simp [AV.ids, AV0.ids, Atom.ids]) rfl (fun w0 T B E0 hB => ?_)
    refine SX.goN ?_
    refine SX.WP.freezeB 3 hB rfl rfl ?_
    refine SX.WP.regionL ?_
    refine SX.goN ?_
    exact retB rfl
theorem con_formedk7 (hP : vP v = 0) (hk : v.k ≠ 1 ∧ v.k ≠ 2 ∧ v.k ≠ 3 ∧ v.k ≠ 4 ∧ v.k ≠ 5 ∧ v.k ≠ 6) : PureOK Tryz.prog 72 [.agg (vlA v), .v (.int .i64 (d : Int))] (.v (.bool (vF d v))) := by
  have c := blank_c v hz
  rw [decide_eq_true hP] at c
  rw [vF_7 hk]
  refine PureOK.fnF Tryz.func72 Tryz.results72 Tryz.ntmps72 rfl rfl rfl (by simp [AV.ids, AV0.ids, Atom.ids]) rfl (fun w0 T B E0 hB => ?_)
  refine SX.goN ?_
  exact retB rfl
end
theorem con_formed : ∀ (n d : Nat) (v : Vl), vZ n v → d ≤ 20 → PureOK Tryz.prog 72 [.agg (vlA v), .v (.int .i64 (d : Int))] (.v (.bool (vF d v))) := by
  intro n
  induction n with
  | zero =>
    intro d v hv hd
    by_cases hP : vP v = 0
    · have hk : v.k = 1 ∨ v.k = 2 ∨ v.k = 3 ∨ v.k = 4 ∨ v.k = 5 ∨ v.k = 6 ∨ (v.k ≠ 1 ∧ v.k ≠ 2 ∧ v.k ≠ 3 ∧ v.k ≠ 4 ∧ v.k ≠ 5 ∧ v.k ≠ 6) := by omega
      rcases hk with hk | hk | hk | hk | hk | hk | hk
      · exact con_formedk1 v d hv.z hP hk
      · exact con_formedk2 v d hv.z hP hk
      · exact con_formedk3 v d hv.z hP hk
      · exact con_formedk4 v d hv.z hP hk
      · exact con_formedk5 v d hv.z hP hk
      · exact con_formedk6 v d hv.z hP hk hd fun e _ x hx => by rw [hv.2] at hx; cases hx
      · exact con_formedk7 v d hv.z hP hk
    · exact con_formedP v d hv.z hP
  | succ n ih =>
    intro d v hv hd
    by_cases hP : vP v = 0
    · have hk : v.k = 1 ∨ v.k = 2 ∨ v.k = 3 ∨ v.k = 4 ∨ v.k = 5 ∨ v.k = 6 ∨ (v.k ≠ 1 ∧ v.k ≠ 2 ∧ v.k ≠ 3 ∧ v.k ≠ 4 ∧ v.k ≠ 5 ∧ v.k ≠ 6) := by omega
      rcases hk with hk | hk | hk | hk | hk | hk | hk
      · exact con_formedk1 v d hv.z hP hk
      · exact con_formedk2 v d hv.z hP hk
      · exact con_formedk3 v d hv.z hP hk
      · exact con_formedk4 v d hv.z hP hk
      · exact con_formedk5 v d hv.z hP hk
      · exact con_formedk6 v d hv.z hP hk hd fun e he x hx => ih e x (hv.2 x hx) (by omega)
      · exact con_formedk7 v d hv.z hP hk
    · exact con_formedP v d hv.z hP
theorem con_vFormed {n : Nat} {v : Vl} (hv : vZ n v) : PureOK Tryz.prog 28 [.agg (vlA v)] (.v (.bool (vF 20 v))) := by
  have c := con_formed n 20 v hv (Nat.le_refl _)
  refine PureOK.fnF Tryz.func28 Tryz.results28 Tryz.ntmps28 rfl rfl rfl (by simp [AV.ids, AV0.ids, Atom.ids]) rfl (fun w0 T B E0 hB => ?_)
  refine SX.goN ?_
  exact retB rfl
end Go.Proofs.YtfhpmbenldgfnaaGreatDoor
/- Is a value formed? The reference. -/
set_option linter.unusedVariables false
set_option linter.unusedSimpArgs false
namespace Go.Proofs.YtfhpmbenldgfnaaGreatDoor
open Go.RowKit QM SX LA
abbrev vlB (v : Vl) : List Atom := [.c (.val (.int .i64 v.k)), .c (.val (.bool v.q.1)), .c (.sat (rawN v.q.2.1)), .c (.val (.bool v.q.2.2.1)), .c (.sat (rawN v.q.2.2.2)), .c (.val (.int .i64 v.r)), .c (.val (.int .i64 v.c)), .c (.sat (rowR 4 q4C (v.a.map rq))), .c (.sat (rowR 2 z2C (v.po.map rz))), .c (.val (.int .u64 (v.p : Int))), .c (.val (.int .i64 v.fr)), .c (.val (.int .i64 v.fc)), .c (.sat (rowR 1 wdC v.fa)), .c (.sat (rowR 1 wdC v.ri)), .c (.sat (rowR 15 vlE v.li))]
theorem vlA_B (v : Vl) : vlA v = vlB v := by unfold vlA vlB; rw [row_vlE]
attribute [local irreducible] IntKind.wrap Go1 Reg WP thenK inBlk retQ retF RetF RetOK ResOK CallOK OpOK Sat
attribute [local irreducible] qsub qmul qquo qcmp qadd qv redS mf PrP qOk zOk vP fp64 lz
section
variable (v : Vl) (d : Nat) (hz : vZ0 v)
include hz
omit hz in
theorem con_rFP (hP : vP v ≠ 0) : PureOK Tryz.prog 49 [.agg (vlA v), .v (.int .i64 (d : Int))] (.v (.bool (vF d v))) := by
  have c := con_Parts v
  rw [vF_P hP]
  refine PureOK.fnF Tryz.func49 Tryz.results49 Tryz.ntmps49 rfl rfl rfl (by simp [AV.ids, AV0.ids, Atom.ids]) rfl (fun w0 T B E0 hB => ?_)
  refine SX.goN ?_
  exact retB rfl
theorem con_rFk1 (hP : vP v = 0) (hk : v.k = 1) : PureOK Tryz.prog 49 [.agg (vlA v), .v (.int .i64 (d : Int))] (.v (.bool (vF d v))) := by
  have c := con_Parts v
  rw [hP] at c
  rw [vF_1 hP hk]
  have cF := con_Nrm v.q hz.q.1 (by have := hz.q.2; omega)
  refine PureOK.fnF Tryz.func49 Tryz.results49 Tryz.ntmps49 rfl rfl rfl (by simp [AV.ids, AV0.ids, Atom.ids]) rfl (fun w0 T B E0 hB => ?_)
  refine SX.goN ?_
  exact retB rfl
theorem con_rFk2 (hP : vP v = 0) (hk : v.k = 2) : PureOK Tryz.prog 49 [.agg (vlA v), .v (.int .i64 (d : Int))] (.v (.bool (vF d v))) := by
  have c := con_Parts v
  rw [hP] at c
  rw [vF_2 hP hk]
  have cF := con_Normal13 v.r v.c v.a hz.al hz.a
  refine PureOK.fnF Tryz.func49 Tryz.results49 Tryz.ntmps49 rfl rfl rfl (by simp [AV.ids, AV0.ids, Atom.ids]) rfl (fun w0 T B E0 hB => ?_)
  refine SX.goN ?_
  exact retB rfl
theorem con_rFk3 (hP : vP v = 0) (hk : v.k = 3) : PureOK Tryz.prog 49 [.agg (vlA v), .v (.int .i64 (d : Int))] (.v (.bool (vF d v))) := by
  have c := con_Parts v
  rw [hP] at c
  rw [vF_3 hP hk]
  have cF := con_Normal10 v.po hz.pol hz.po
  refine PureOK.fnF Tryz.func49 Tryz.results49 Tryz.ntmps49 rfl rfl rfl (by simp [AV.ids, AV0.ids, Atom.ids]) rfl (fun w0 T B E0 hB => ?_)
  refine SX.goN ?_
  exact retB rfl
theorem con_rFk4 (hP : vP v = 0) (hk : v.k = 4) : PureOK Tryz.prog 49 [.agg (vlA v), .v (.int .i64 (d : Int))] (.v (.bool (vF d v))) := by
  have c := con_Parts v
  rw [hP] at c
  rw [vF_4 hP hk]
  have cF := con_Normal21 v.fr v.fc v.fa v.p hz.fal
  have cP := con_PrimeR v.p (by have := hz.p; rw [WB_eq] at this; exact this)
  by_cases h : PrP v.p
  · rw [decide_eq_true h] at cP ⊢
    refine PureOK.fnF Tryz.func49 Tryz.results49 Tryz.ntmps49 rfl rfl rfl (by simp [AV.ids, AV0.ids, Atom.ids]) rfl (fun w0 T B E0 hB => ?_)
    refine SX.goN ?_
    exact retB rfl
  · rw [decide_eq_false h] at cP ⊢
    refine PureOK.fnF Tryz.func49 Tryz.results49 Tryz.ntmps49 rfl rfl rfl (by simp [AV.ids, AV0.ids, Atom.ids]) rfl (fun w0 T B E0 hB => ?_)
    refine SX.goN ?_
    exact retB rfl
theorem con_rFk5 (hP : vP v = 0) (hk : v.k = 5) : PureOK Tryz.prog 49 [.agg (vlA v), .v (.int .i64 (d : Int))] (.v (.bool (vF d v))) := by
  have c := con_Parts v
  rw [hP] at c
  rw [vF_5 hP hk]
  have cP := con_PrimeR v.p (by have := hz.p; rw [WB_eq] at this; exact this)
  have hb := hz.ril
  unfold rOk
  refine PureOK.fnF Tryz.func49 Tryz.results49 Tryz.ntmps49 rfl rfl rfl (by simp [AV.ids, AV0.ids, Atom.ids]) rfl (fun w0 T B E0 hB => ?_)
  refine SX.goN ?_
  refine W.loop (fun k => k ≤ v.ri.length ∧ ∀ (j : Nat) x, j < k → v.ri[j]? = some x → ltp v.p x = true) (fun k => [(2, .ptr 2 0), (5, .v (.int .i64 (k : Int)))]) (fun k => [(2, .box 39 (vlA v))]) (fun k => v.ri.length - k) 0 ⟨Nat.zero_le _, fun j x h => by omega⟩ (fun k ⟨hk, he⟩ => ?_)
  by_cases h : k < v.ri.length
  · obtain ⟨x, hx⟩ : ∃ x, v.ri[k]? = some x := ⟨_, List.getElem?_eq_getElem h⟩
    by_cases ho : x < v.p
    · refine SX.goN ?_
      refine W.next (k + 1) ⟨h, fun j y hj hy => ?_⟩ (by omega)
      by_cases hjk : j < k
      · exact he j y hjk hy
      · obtain rfl : j = k := by omega
        rw [hx] at hy; rw [← Option.some.inj hy]; exact decide_eq_true ho
    · refine SX.goN ?_
      refine retB ?_; rw [all_no hx (decide_eq_false ho), Bool.false_and, Bool.and_false]
  · obtain rfl : k = v.ri.length := by omega
    rw [all_yes he, Bool.true_and]
    by_cases hp : PrP v.p
    · rw [decide_eq_true hp] at cP ⊢
      unfold lw
      by_cases h0 : v.ri.length = 0
      · rw [decide_eq_true h0]
        refine SX.goN ?_
        exact retB rfl
      · obtain ⟨x, hx⟩ : ∃ x, v.ri[v.ri.length - 1]? = some x := ⟨_, List.getElem?_eq_getElem (by omega)⟩
        have hg : v.ri.getD (v.ri.length - 1) 0 = x := by rw [List.getD_eq_getElem?_getD, hx]; rfl
        rw [hg, decide_eq_false h0, Bool.false_or, Bool.true_and]
        refine SX.goN ?_
        refine retB ?_; rw [decide_eq_decide]; omega
    · rw [decide_eq_false hp] at cP ⊢
      refine SX.goN ?_
      exact retB rfl
theorem con_rFk6 (hP : vP v = 0) (hk : v.k = 6) (hd : d ≤ 20) (hr : ∀ e, d = e + 1 → ∀ x ∈ v.li, PureOK Tryz.prog 49 [.agg (vlA x), .v (.int .i64 (e : Int))] (.v (.bool (vF e x)))) : PureOK Tryz.prog 49 [.agg (vlA v), .v (.int .i64 (d : Int))] (.v (.bool (vF d v))) := by
  have c := con_Parts v
  rw [hP] at c
  have hb := hz.lil
  rw [vlA_B] at c ⊢
  cases d with
  | zero =>
    rw [vF_60 hk]
    refine PureOK.fnF Tryz.func49 Tryz.results49 Tryz.ntmps49 rfl rfl rfl (by simp [AV.ids, AV0.ids, Atom.ids]) rfl (fun w0 T B E0 hB => ?_)
    refine SX.goN ?_
    refine W.loop (fun k : Nat => k = 0) (fun k => [(1, .v (.int .i64 0)), (2, .ptr 2 0), (6, .v (.int .i64 (k : Int)))]) (fun k => [(2, .box 39 (vlB v))]) (fun k => k) 0 rfl (fun k hk => ?_)
    subst hk
    by_cases h : 0 < v.li.length
    · refine SX.goN ?_
      exact retB rfl
    · refine SX.goN ?_
      exact retB rfl
  | succ e =>
    rw [vF_6 hP hk]
    refine PureOK.fnF Tryz.func49 Tryz.results49 Tryz.ntmps49 rfl rfl rfl (by simp [AV.ids, AV0.ids, Atom.ids]) rfl (fun w0 T B E0 hB => ?_)
    refine SX.goN ?_
    refine W.loop (fun k => k ≤ v.li.length ∧ ∀ (j : Nat) x, j < k → v.li[j]? = some x → vF e x = true) (fun k => [(1, .v (.int .i64 ((e + 1 : Nat) : Int))), (2, .ptr 2 0), (6, .v (.int .i64 (k : Int)))]) (fun k => [(2, .box 39 (vlB v))]) (fun k => v.li.length - k) 0 ⟨Nat.zero_le _, fun j x h => by omega⟩ (fun k ⟨hk, he⟩ => ?_)
    by_cases h : k < v.li.length
    · obtain ⟨x, hx⟩ : ∃ x, v.li[k]? = some x := ⟨_, List.getElem?_eq_getElem h⟩
      have cE := hr e rfl x (List.mem_of_getElem? hx)
      rw [show (e : Int) = ((e + 1 - 1 : Nat) : Int) by omega] at cE
      cases ho : vF e x with
      | true =>
        rw [ho] at cE
        refine SX.goN ?_
        refine W.next (k + 1) ⟨h, fun j y hj hy => ?_⟩ (by omega)
        by_cases hjk : j < k
        · exact he j y hjk hy
        · obtain rfl : j = k := by omega
          rw [hx] at hy; rw [← Option.some.inj hy]; exact ho
      | false =>
        rw [ho] at cE
        refine SX.goN ?_
        refine retB ?_; rw [all_no hx ho]
    · obtain rfl : k = v.li.length := by omega
      rw [all_yes he]
      refine SX.goN ?_
      refine retB ?_; exact decide_eq_true (by omega)
omit hz in
theorem con_rFk7 (hP : vP v = 0) (hk : v.k ≠ 1 ∧ v.k ≠ 2 ∧ v.k ≠ 3 ∧ v.k ≠ 4 ∧ v.k ≠ 5 ∧ v.k ≠ 6) : PureOK Tryz.prog 49 [.agg (vlA v), .v (.int .i64 (d : Int))] (.v (.bool (vF d v))) := by
  have c := con_Parts v
  rw [hP] at c
  rw [vF_7 hk]
  refine PureOK.fnF Tryz.func49 Tryz.results49 Tryz.ntmps49 rfl rfl rfl (by simp [AV.ids, AV0.ids, Atom.ids]) rfl (fun w0 T B E0 hB => ?_)
  refine SX.goN ?_
  exact retB rfl
end
theorem con_rFormed29 : ∀ (n d : Nat) (v : Vl), vZ n v → d ≤ 20 → PureOK Tryz.prog 49 [.agg (vlA v), .v (.int .i64 (d : Int))] (.v (.bool (vF d v))) := by
  intro n
  induction n with
  | zero =>
    intro d v hv hd
    by_cases hP : vP v = 0
    · have hk : v.k = 1 ∨ v.k = 2 ∨ v.k = 3 ∨ v.k = 4 ∨ v.k = 5 ∨ v.k = 6 ∨ (v.k ≠ 1 ∧ v.k ≠ 2 ∧ v.k ≠ 3 ∧ v.k ≠ 4 ∧ v.k ≠ 5 ∧ v.k ≠ 6) := by omega
      rcases hk with hk | hk | hk | hk | hk | hk | hk
      · exact con_rFk1 v d hv.z hP hk
      · exact con_rFk2 v d hv.z hP hk
      · exact con_rFk3 v d hv.z hP hk
      · exact con_rFk4 v d hv.z hP hk
      · exact con_rFk5 v d hv.z hP hk
      · exact con_rFk6 v d hv.z hP hk hd fun e _ x hx => by rw [hv.2] at hx; cases hx
      · exact con_rFk7 v d hP hk
    · exact con_rFP v d hP
  | succ n ih =>
    intro d v hv hd
    by_cases hP : vP v = 0
    · have hk : v.k = 1 ∨ v.k = 2 ∨ v.k = 3 ∨ v.k = 4 ∨ v.k = 5 ∨ v.k = 6 ∨ (v.k ≠ 1 ∧ v.k ≠ 2 ∧ v.k ≠ 3 ∧ v.k ≠ 4 ∧ v.k ≠ 5 ∧ v.k ≠ 6) := by omega
      rcases hk with hk | hk | hk | hk | hk | hk | hk
      · exact con_rFk1 v d hv.z hP hk
      · exact con_rFk2 v d hv.z hP hk
      · exact con_rFk3 v d hv.z hP hk
      · exact con_rFk4 v d hv.z hP hk
      · exact con_rFk5 v d hv.z hP hk
      · exact con_rFk6 v d hv.z hP hk hd fun e he x hx => ih e x (hv.2 x hx) (by omega)
      · exact con_rFk7 v d hP hk
    · exact con_rFP v d hP
theorem con_is {n : Nat} {v : Vl} (hv : vZ n v) : PureOK Tryz.prog 14 [.agg (vlA v)] (.v (.bool (vF 20 v))) := by
  have c := con_rFormed29 n 20 v hv (Nat.le_refl _)
  refine PureOK.fnF Tryz.func14 Tryz.results14 Tryz.ntmps14 rfl rfl rfl (by simp [AV.ids, AV0.ids, Atom.ids]) rfl (fun w0 T B E0 hB => ?_)
  refine SX.goN ?_
  exact retB rfl
theorem con_none0 : PureOK Tryz.prog 15 [.agg (vlA v0)] (.v (.bool true)) := by
  have c := con_Parts v0
  rw [show vP v0 = 0 by decide +kernel] at c
  refine PureOK.fnF Tryz.func15 Tryz.results15 Tryz.ntmps15 rfl rfl rfl (by simp [AV.ids, AV0.ids, Atom.ids]) rfl (fun w0 T B E0 hB => ?_)
  refine SX.goN ?_
  exact retB rfl
end Go.Proofs.YtfhpmbenldgfnaaGreatDoor
/- Numbers as values. -/
set_option linter.unusedVariables false
set_option linter.unusedSimpArgs false
namespace Go.Proofs.YtfhpmbenldgfnaaGreatDoor
open Go.RowKit QM SX LA
theorem vZ0.num {v : Rat} {K : Nat} (h : RB v K) (hK : K ≤ 100000) : vZ0 (vNum v) where
  q := ⟨cq_sm v, Nat.le_trans (wds_len h.n) hK, Nat.le_trans (wds_len (by rw [Int.natAbs_natCast]; exact h.d)) hK⟩
  a := by intro x hx; cases hx
  al := Nat.zero_le _
  po := by intro x hx; cases hx
  pol := Nat.zero_le _
  p := WB_pos
  fa := by intro x hx; cases hx
  fal := Nat.zero_le _
  ri := by intro x hx; cases hx
  ril := Nat.zero_le _
  lil := Nat.zero_le _
theorem vZ.num {v : Rat} {K : Nat} (h : RB v K) (hK : K ≤ 100000) : vZ 0 (vNum v) := ⟨vZ0.num h hK, rfl⟩
theorem vP_num (v : Rat) : vP (vNum v) = 0 := (vP0 _).2 ⟨.inl rfl, .inr ⟨rfl, rfl, rfl⟩, .inr rfl, .inr ⟨rfl, rfl, rfl⟩, .inr rfl, .inr (.inr rfl), .inr rfl⟩
theorem vF_num (d : Nat) (v : Rat) : vF d (vNum v) = true := by
  rw [vF_1 (vP_num v) rfl]
  exact (qOk_iff (cq_sm v)).2 (by rw [cq_val])
theorem rmk_q (p q : Int) : rmk p q = ((qv p q).num, ((qv p q).den : Int)) := by
  have h2 : Nat.Coprime (qv p q).num.natAbs (qv p q).den := (qv p q).reduced
  have hd := (qv p q).den_nz
  have := Rd.uniq (rmk_pos p q) (rmk_gcd p q) (r := (qv p q).num) (s := ((qv p q).den : Int)) (by omega) (by unfold Int.gcd; rw [Int.natAbs_natCast]; exact h2) (by rw [rmk_val, qv_self])
  exact Prod.ext this.1 this.2
theorem cq_val' (x : Rat) : qv (sgn (cq x).1 (nval WB (cq x).2.1)) (sgn (cq x).2.2.1 (nval WB (cq x).2.2.2)) = x := cq_val x
/-- A number's text, its bits. -/
def qS (v : Rat) : List UInt8 := rS (v.num, (v.den : Int))
def qB (v : Rat) : Nat := max (bitLen v.num.natAbs) (bitLen v.den)
attribute [local irreducible] IntKind.wrap Go1 Reg WP thenK inBlk retQ retF RetF RetOK ResOK CallOK OpOK Sat
attribute [local irreducible] qsub qmul qquo qcmp qadd qv redS mf PrP qOk zOk vP fp64 lz vF cq rqv
theorem con_numT (v : Rat) (e : Int) : PureOK Tryz.prog 107 [.agg (qA v), .v (.bool true), .v (.int .i64 e)] (.tup [.agg (vlA (vNum v)), eNo 0]) := by
  refine PureOK.fnF Tryz.func107 Tryz.results107 Tryz.ntmps107 rfl rfl rfl (by simp [AV.ids, AV0.ids, Atom.ids]) rfl (fun w0 T B E0 hB => ?_)
  refine SX.goN ?_
  refine .ok (RetOK.mk2 ((ResOK.agg15 rfl rfl rfl).imp ?_) (ResOK.tmp rfl))
  exact imp_num
theorem con_numF (v : Rat) (e : Int) : PureOK Tryz.prog 107 [.agg (qA v), .v (.bool false), .v (.int .i64 e)] (.tup [.agg (vlA v0), eNo e]) := by
  refine PureOK.fnF Tryz.func107 Tryz.results107 Tryz.ntmps107 rfl rfl rfl (by simp [AV.ids, AV0.ids, Atom.ids]) rfl (fun w0 T B E0 hB => ?_)
  refine SX.goN ?_
  refine .ok (RetOK.mk2 ((ResOK.agg15 rfl rfl rfl).imp ?_) (ResOK.tmp rfl))
  exact imp_none
theorem con_sum1 {x y : Rat} {K L : Nat} (hx : RB x K) (hy : RB y L) (hK : K + L ≤ 1000000) : PureOK Tryz.prog 47 [.agg (vlA (vNum x)), .agg (vlA (vNum y))] (.tup [.agg (vlA (vNum (x + y))), eNo 0]) := by
  haveI := Ra.cq hx
  haveI := Ra.cq hy
  obtain ⟨X, cA, hX⟩ := eAdd (q4A (rq (cq x))) (q4A (rq (cq y))) (K := K) (K' := L) (by omega)
  have e := hX.nf
  subst e
  have cN := con_numT (x + y) 0
  refine PureOK.fnF Tryz.func47 Tryz.results47 Tryz.ntmps47 rfl rfl rfl (by simp [AV.ids, AV0.ids, Atom.ids]) rfl (fun w0 T B E0 hB => ?_)
  refine SX.goN ?_
  exact .ok (RetOK.mk2 (ResOK.agg15 rfl rfl rfl) (ResOK.tmp rfl))
theorem con_vsame1 {x y : Rat} {K L : Nat} (hx : RB x K) (hy : RB y L) (hK : K + L ≤ 400000) : PureOK Tryz.prog 42 [.agg (vlA (vNum x)), .agg (vlA (vNum y))] (.v (.bool (decide (x = y)))) := by
  haveI := Ra.cq hx
  haveI := Ra.cq hy
  obtain ⟨z, cA, hz, _⟩ := eCmp (q4A (rq (cq x))) (q4A (rq (cq y))) (K := K) (K' := L) (by omega)
  rw [← decide_eq_decide.2 hz]
  refine PureOK.fnF Tryz.func42 Tryz.results42 Tryz.ntmps42 rfl rfl rfl (by simp [AV.ids, AV0.ids, Atom.ids]) rfl (fun w0 T B E0 hB => ?_)
  refine SX.goN ?_
  exact retB rfl
theorem con_Bin41 {x y : Rat} {K L : Nat} (hx : RB x K) (hy : RB y L) (hK : K + L ≤ 100000) : PureOK Tryz.prog 13 [.v (.int .i64 4), .agg (vlA (vNum x)), .agg (vlA (vNum y))] (.tup [.agg (vlA (vNum (x + y))), eNo 0]) := by
  have c := con_sum1 hx hy (by omega)
  have c1 := con_vFormed (vZ.num hx (by omega))
  have c2 := con_vFormed (vZ.num hy (by omega))
  rw [vF_num] at c1 c2
  refine PureOK.fnF Tryz.func13 Tryz.results13 Tryz.ntmps13 rfl rfl rfl (by simp [AV.ids, AV0.ids, Atom.ids]) rfl (fun w0 T B E0 hB => ?_)
  refine SX.goN ?_
  exact .ok (RetOK.mk2 (ResOK.agg15 rfl rfl rfl) (ResOK.tmp rfl))
theorem con_rPr {x : Rat} {K : Nat} (hx : RB x K) (hK : K ≤ 100000) : PureOK Tryz.prog 51 [.agg (q4A (rq (cq x)))] (.v (str (qS x))) := by
  have hl := (vZ0.num hx hK).q.2
  dsimp only at hl
  have h := (con_rPrint (h := ZI.raw (cq x).1 (cq x).2.1) (h' := ZI.raw (cq x).2.2.1 (cq x).2.2.2)).h (by omega)
  rw [rmk_q] at h
  rw [cq_val'] at h
  exact h
theorem con_text1 {x : Rat} {K : Nat} (hx : RB x K) (hK : K ≤ 100000) : PureOK Tryz.prog 71 [.agg (vlA (vNum x))] (.v (str (qS x))) := by
  have c := con_rPr hx hK
  refine PureOK.fnF Tryz.func71 Tryz.results71 Tryz.ntmps71 rfl rfl rfl (by simp [AV.ids, AV0.ids, Atom.ids]) rfl (fun w0 T B E0 hB => ?_)
  refine SX.goN ?_
  exact retS rfl
theorem con_Print1 {x : Rat} {K : Nat} (hx : RB x K) (hK : K ≤ 100000) : PureOK Tryz.prog 27 [.agg (vlA (vNum x))] (.tup [.one (.c (.val (str (qS x)))), eNo 0]) := by
  have c := con_text1 hx hK
  have c1 := con_vFormed (vZ.num hx hK)
  rw [vF_num] at c1
  refine PureOK.fnF Tryz.func27 Tryz.results27 Tryz.ntmps27 rfl rfl rfl (by simp [AV.ids, AV0.ids, Atom.ids]) rfl (fun w0 T B E0 hB => ?_)
  refine SX.goN ?_
  exact .ok (RetOK.mk2 (ResOK.tmp rfl) (ResOK.tmp rfl))
theorem con_awake29 : PureOK Tryz.prog 11 [] (.v (.bool true)) := by
  have o2 : PureOK Tryz.prog 23 [.v (.int .i64 2)] (.agg (zN 2)) := con_zOf.h ⟨by decide, by decide⟩
  have o3 : PureOK Tryz.prog 23 [.v (.int .i64 3)] (.agg (zN 3)) := con_zOf.h ⟨by decide, by decide⟩
  have w2 : PureOK Tryz.prog 22 [.agg (zN 2)] (.agg (vlA (vNum 2))) := con_Whole (K := 1) (z := 2) (ZQ.made (by rw [WB_eq]; decide)) (by decide) (by decide)
  have w3 : PureOK Tryz.prog 22 [.agg (zN 3)] (.agg (vlA (vNum 3))) := con_Whole (K := 1) (z := 3) (ZQ.made (by rw [WB_eq]; decide)) (by decide) (by decide)
  have h2 : RB 2 1 := RB.ofI (z := 2) (by rw [WB_eq]; decide) (by decide)
  have h3 : RB 3 1 := RB.ofI (z := 3) (by rw [WB_eq]; decide) (by decide)
  have h5 : RB 5 1 := RB.ofI (z := 5) (by rw [WB_eq]; decide) (by decide)
  have cB := con_Bin41 h2 h3 (by decide)
  rw [show (2 : Rat) + 3 = 5 by decide +kernel] at cB
  have cP := con_Print1 h5 (by decide)
  rw [show qS 5 = [53] by
    show rS (5, 1) = [53]
    unfold rS zS decS
    rw [show ((5 : Int).natAbs) = 5 from rfl, dig1 (by decide) (by decide)]
    decide] at cP
  refine PureOK.fnF Tryz.func11 Tryz.results11 Tryz.ntmps11 rfl rfl rfl (by simp [AV.ids, AV0.ids, Atom.ids]) rfl (fun w0 T B E0 hB => ?_)
  refine SX.goN ?_
  refine retB ?_; decide
end Go.Proofs.YtfhpmbenldgfnaaGreatDoor
/- Matrices as values; the statement ValueMakes answers true. -/
set_option linter.unusedVariables false
set_option linter.unusedSimpArgs false
namespace Go.Proofs.YtfhpmbenldgfnaaGreatDoor
open Go.RowKit QM SX LA
theorem cqm_len {vs : List Rat} {K : Nat} (h : ∀ v ∈ vs, RB v K) (hK : K ≤ 100000) : ∀ x ∈ vs.map cq, (Sm WB x.2.1 ∧ Sm WB x.2.2.2) ∧ x.2.1.length ≤ 100000 ∧ x.2.2.2.length ≤ 100000 := fun x hx => by
  obtain ⟨v, hv, rfl⟩ := List.mem_map.1 hx
  exact (vZ0.num (h v hv) hK).q
theorem vZ0.mat {r c : Nat} {vs : List Rat} {K : Nat} (h : ∀ v ∈ vs, RB v K) (hK : K ≤ 100000) (hl : vs.length ≤ 100000) : vZ0 (vMat r c vs) where
  q := ⟨⟨Sm.nil, Sm.nil⟩, Nat.zero_le _, Nat.zero_le _⟩
  a := cqm_len h hK
  al := by rw [List.length_map]; exact hl
  po := by intro x hx; cases hx
  pol := Nat.zero_le _
  p := WB_pos
  fa := by intro x hx; cases hx
  fal := Nat.zero_le _
  ri := by intro x hx; cases hx
  ril := Nat.zero_le _
  lil := Nat.zero_le _
theorem vP_mat (r c : Nat) (vs : List Rat) : vP (vMat r c vs) = 0 := (vP0 _).2 ⟨.inr ⟨rfl, rfl, rfl, rfl⟩, .inl rfl, .inr rfl, .inr ⟨rfl, rfl, rfl⟩, .inr rfl, .inr (.inr rfl), .inr rfl⟩
theorem qOk_cq (v : Rat) : qOk (cq v) = true := (qOk_iff (cq_sm v)).2 (by rw [cq_val])
theorem fp64_nat {r c n : Nat} (hr : r ≤ 64) (hc : c ≤ 64) (hl : n = r * c) : fp64 (r : Int) (c : Int) n = true := decide_eq_true ⟨by omega, by omega, by omega, by omega, by rw [hl]; simp⟩
theorem vF_mat (d : Nat) {r c : Nat} {vs : List Rat} (hl : vs.length = r * c) (hr : r ≤ 64) (hc : c ≤ 64) : vF d (vMat r c vs) = true := by
  rw [vF_2 (vP_mat r c vs) rfl]
  unfold mOk
  rw [Bool.and_eq_true]
  refine ⟨List.all_eq_true.2 fun x hx => ?_, fp64_nat hr hc (by rw [List.length_map]; exact hl)⟩
  obtain ⟨v, _, rfl⟩ := List.mem_map.1 hx
  exact qOk_cq v
theorem Ra.rawq {q : RawQ} (hs : Sm WB q.2.1 ∧ Sm WB q.2.2.2) {K : Nat} (h : q.2.1.length ≤ K ∧ q.2.2.2.length ≤ K) : Ra (q4A (rq q)) (rqv q) K :=
  Ra.raw ⟨nn_lt hs.1 (Nat.le_refl _)⟩ ⟨nn_lt hs.2 (Nat.le_refl _)⟩ h.1 h.2
attribute [local irreducible] IntKind.wrap Go1 Reg WP thenK inBlk retQ retF RetF RetOK ResOK CallOK OpOK Sat
attribute [local irreducible] qsub qmul qquo qcmp qadd qv redS mf PrP qOk zOk vP fp64 lz vF cq rqv
end Go.Proofs.YtfhpmbenldgfnaaGreatDoor
/- Values that come in; those of a size that is looked at. -/
set_option linter.unusedVariables false
set_option linter.unusedSimpArgs false
namespace Go.Proofs.YtfhpmbenldgfnaaGreatDoor
open Go.RowKit QM SX LA
open Go.ChangeShapes Go.WideShapes Go.ChangeAt Go.Joins
mutual
/-- What comes in is of words. -/
def rW : Vl → Prop
  | ⟨k, q, r, c, a, po, p, fr, fc, fa, ri, li⟩ => (Sm WB q.2.1 ∧ Sm WB q.2.2.2) ∧ RSm a ∧ (∀ x ∈ po, Sm WB x.2) ∧ p < WB ∧ (∀ x ∈ fa, x < WB) ∧ (∀ x ∈ ri, x < WB) ∧ rWL li
def rWL : List Vl → Prop
  | [] => True
  | v :: l => rW v ∧ rWL l
end
theorem rWL_iff : ∀ l : List Vl, rWL l ↔ ∀ v ∈ l, rW v
  | [] => by rw [rWL]; simp
  | v :: l => by rw [rWL, rWL_iff l]; simp
theorem rW_iff (v : Vl) : rW v ↔ (Sm WB v.q.2.1 ∧ Sm WB v.q.2.2.2) ∧ RSm v.a ∧ (∀ x ∈ v.po, Sm WB x.2) ∧ v.p < WB ∧ (∀ x ∈ v.fa, x < WB) ∧ (∀ x ∈ v.ri, x < WB) ∧ ∀ x ∈ v.li, rW x := by
  cases v; rw [rW, rWL_iff]
section
variable {H : Type} {enc : TypeId × Value → H} {W : World} {base : Nat} {sp : Nat → Bool} {hd : Bool}
theorem decWd (n : Nat) : DecF enc Tryz.prog W base sp hd n 33 wdC (fun w => w < WB) :=
  DecF.imp (dec_int Tryz.underlying33) Int.toNat (fun z hz => by have := bounds_u64 hz; rw [WB_eq]; omega) (fun z cs hz h => by
    have := bounds_u64 hz
    show All2 _ [CA.val (.int .u64 ((z.toNat : Nat) : Int))] cs
    rw [show ((z.toNat : Nat) : Int) = z by omega]; exact h)
theorem decWds (n : Nat) : DecF enc Tryz.prog W base sp hd n 22 (fun l : List Nat => [.sat (rowR 1 wdC l)]) (fun l => ∀ x ∈ l, x < WB) :=
  DecF.all (fun n => (dec_slice Tryz.underlying22 (by kernel_rfl) (decWd n)).conv id (fun _ h => h.2) (fun _ => rfl)) n
theorem decRing (n : Nat) : DecF enc Tryz.prog W base sp hd n 36 (fun l : List Nat => [.sat (rowR 1 wdC l)]) (fun l => ∀ x ∈ l, x < WB) :=
  DecF.all (fun n => (dec_slice Tryz.underlying36 (by kernel_rfl) (decWd n)).conv id (fun _ h => h.2) (fun _ => rfl)) n
theorem decFM (n : Nat) : DecF enc Tryz.prog W base sp hd n 35 (fun p : Int × Int × List Nat => [.val (.int .i64 p.1), .val (.int .i64 p.2.1), .sat (rowR 1 wdC p.2.2)]) (fun p => ∀ x ∈ p.2.2, x < WB) :=
  DecF.all (fun n => DecF.conv (dec_struct3 Tryz.underlying35 rfl (by kernel_rfl) (by kernel_rfl) (by kernel_rfl) (dec_int Tryz.underlying3) (dec_int Tryz.underlying3) (decWds n)) id (fun p h => h.2.2) (fun p => rfl)) n
def vzC (p : RawZ) : List CA := z2C (rz p)
instance : EncLen vzC 2 := ⟨fun _ => rfl⟩
theorem vz_row (l : List RawZ) : rowR 2 vzC l = rowR 2 z2C (l.map rz) := by
  show sliceR 2 l.length (l.flatMap vzC) = sliceR 2 (l.map rz).length ((l.map rz).flatMap z2C)
  rw [List.length_map, List.flatMap_map]; rfl
theorem decPoly (n : Nat) : DecF enc Tryz.prog W base sp hd n 32 (fun l : List RawZ => [.sat (rowR 2 z2C (l.map rz))]) (fun l => ∀ x ∈ l, Sm WB x.2) :=
  DecF.all (fun n => (dec_slice (enc' := vzC) Tryz.underlying32 (by kernel_rfl) ((decZS n).conv (e' := vzC) (ψ := fun p => Sm WB p.2) id (fun _ h => h) (fun _ => rfl))).conv id (fun _ h => h.2) (fun l => by
    show [CA.sat (rowR 2 z2C (l.map rz))] = [CA.sat (rowR 2 vzC l)]
    rw [vz_row])) n
theorem decVl2 : ∀ n : Nat, DecF enc Tryz.prog W base sp hd n 39 vlC rW ∧ DecF enc Tryz.prog W base sp hd (n + 1) 37 (fun l : List Vl => [.sat (rowR 15 vlC l)]) (fun l => ∀ x ∈ l, rW x)
  | 0 => ⟨DecF.zero, (dec_slice Tryz.underlying37 (by kernel_rfl) (DecF.zero (e := vlC) (φ := rW))).conv id (fun _ h => h.2) (fun _ => rfl)⟩
  | n + 1 => by
    obtain ⟨h1, h2⟩ := decVl2 n
    have hs : DecF enc Tryz.prog W base sp hd n 37 (fun l : List Vl => [.sat (rowR 15 vlC l)]) (fun l => ∀ x ∈ l, rW x) := by
      cases n with
      | zero => exact DecF.zero
      | succ m => exact (decVl2 m).2
    have hn : DecF enc Tryz.prog W base sp hd (n + 1) 39 vlC rW :=
      (dec_struct8 Tryz.underlying39 rfl (by kernel_rfl) (by kernel_rfl) (by kernel_rfl) (by kernel_rfl) (by kernel_rfl) (by kernel_rfl) (by kernel_rfl) (by kernel_rfl)
        (dec_int Tryz.underlying3) (decRatS n) (decMat n) (decPoly n) (decWd n) (decFM n) (decRing n) hs).conv (fun p => (⟨p.1, p.2.1, p.2.2.1.1, p.2.2.1.2.1, p.2.2.1.2.2, p.2.2.2.1, p.2.2.2.2.1, p.2.2.2.2.2.1.1, p.2.2.2.2.2.1.2.1, p.2.2.2.2.2.1.2.2, p.2.2.2.2.2.2.1, p.2.2.2.2.2.2.2⟩ : Vl))
        (fun p h => (rW_iff _).2 ⟨h.2.1, h.2.2.1, h.2.2.2.1, h.2.2.2.2.1, h.2.2.2.2.2.1, h.2.2.2.2.2.2.1, h.2.2.2.2.2.2.2⟩) (fun p => by rw [vlC_eq]; rfl)
    exact ⟨hn, (dec_slice Tryz.underlying37 (by kernel_rfl) hn).conv id (fun _ h => h.2) (fun _ => rfl)⟩
theorem decVal (n : Nat) : DecF enc Tryz.prog W base sp hd n 39 vlE rW := (decVl2 n).1.conv id (fun _ h => h) (fun v => (vlC_eq v).symm)
end
/-- Values of a size that is looked at. -/
def vW1 (d : Nat) (v : Vl) : Prop := (v.po.length ≤ 5 ∧ ∀ x ∈ v.po, x.2.length ≤ 2) ∧ v.ri.length ≤ 5 ∧ v.li.length ≤ 4 ∧ (v.li.length = 0 ∨ d ≠ 0) ∧ v.p ≤ 4294967296 ∧ (v.q.2.1.length ≤ 2 ∧ v.q.2.2.2.length ≤ 2) ∧ FewP v.r v.c v.a 4 2 ∧ (v.fr ≤ 4 ∧ v.fc ≤ 4 ∧ v.fa.length ≤ 100)
def vW : Nat → Vl → Prop
  | 0, v => vW1 0 v ∧ v.li = []
  | d + 1, v => vW1 (d + 1) v ∧ ∀ x ∈ v.li, vW d x
theorem vW.one {d : Nat} {v : Vl} (h : vW d v) : vW1 d v := by cases d <;> exact h.1
theorem vZ.few : ∀ {d : Nat} {v : Vl}, vW d v → rW v → vZ d v := by
  have key : ∀ (d : Nat) (v : Vl), vW1 d v → rW v → vZ0 v := fun d v h hr => by
    obtain ⟨h1, h2, h3, h4, h5, h6, h7, h8⟩ := h
    obtain ⟨r1, r2, r3, r4, r5, r6, r7⟩ := (rW_iff v).1 hr
    exact ⟨⟨r1, by omega, by omega⟩, fun x hx => ⟨r2 x hx, by have := FewP.len (w := 2) h7 x hx; omega⟩, by have := h7.2.2.2; omega, fun x hx => ⟨r3 x hx, by have := h1.2 x hx; omega⟩, by omega, r4, r5, by omega, r6, by omega, by omega⟩
  intro d
  induction d with
  | zero => intro v h hr; exact ⟨key 0 v h.1 hr, h.2⟩
  | succ d ih => intro v h hr; exact ⟨key _ v h.1 hr, fun x hx => ih (h.2 x hx) (((rW_iff v).1 hr).2.2.2.2.2.2 x hx)⟩
end Go.Proofs.YtfhpmbenldgfnaaGreatDoor
/- Values of a size that is looked at: the walk. -/
set_option linter.unusedVariables false
set_option linter.unusedSimpArgs false
namespace Go.Proofs.YtfhpmbenldgfnaaGreatDoor
open Go.RowKit QM SX LA
attribute [local irreducible] IntKind.wrap Go1 Reg WP thenK inBlk retQ retF RetF RetOK ResOK CallOK OpOK Sat
attribute [local irreducible] qsub qmul qquo qcmp qadd qv redS mf PrP qOk zOk vP fp64 lz vF cq rqv
theorem con_few10 (l : List RawZ) (goal : Bool) (hl : l.length ≤ 5) (hg : goal = true ↔ ∀ x ∈ l, x.2.length ≤ 2) :
    PureOK Tryz.prog 96 [.r (rowR 2 z2C (l.map rz)), .v (.int .i64 5), .v (.int .i64 2)] (.v (.bool goal)) := by
  have hlen : (l.map rz).length = l.length := List.length_map _
  refine PureOK.fnF Tryz.func96 Tryz.results96 Tryz.ntmps96 rfl rfl rfl (by simp [AV.ids, AV0.ids, Atom.ids]) rfl (fun w0 T B E0 hB => ?_)
  refine SX.goN ?_
  refine W.loop (fun k => k ≤ l.length ∧ ∀ (j : Nat) x, j < k → l[j]? = some x → x.2.length ≤ 2) (fun k => [(0, .r (rowR 2 z2C (l.map rz))), (1, .v (.int .i64 5)), (2, .v (.int .i64 2)), (7, .v (.int .i64 (k : Int)))]) (fun _ => []) (fun k => l.length - k) 0 ⟨Nat.zero_le _, fun j x h => absurd h (Nat.not_lt_zero _)⟩ (fun k ⟨hk, he⟩ => ?_)
  by_cases h : k < l.length
  · have h' : k < (l.map rz).length := by omega
    obtain ⟨x, hx⟩ : ∃ x, l[k]? = some x := ⟨_, List.getElem?_eq_getElem h⟩
    have hq : (l.map rz)[k]? = some (rz x) := by rw [List.getElem?_map, hx]; rfl
    by_cases h3 : x.2.length ≤ 2
    · refine SX.goN ?_
      refine W.next (k + 1) ⟨h, fun j b hj hb => ?_⟩ (by omega)
      by_cases hjk : j < k
      · exact he j b hjk hb
      · obtain rfl : j = k := by omega
        rw [hx] at hb; rw [← Option.some.inj hb]; exact h3
    · refine SX.goN ?_
      refine retB ?_
      exact (Bool.eq_false_iff.2 fun ht => h3 (hg.1 ht x (List.mem_of_getElem? hx))).symm
  · obtain rfl : k = l.length := by omega
    have h' : ¬ l.length < (l.map rz).length := by omega
    have ht : goal = true := hg.2 fun x hx => by
      obtain ⟨i, hi⟩ := List.mem_iff_getElem?.1 hx
      exact he i x (at_lt hi) hi
    subst ht
    refine SX.goN ?_
    refine retB ?_
    exact decide_eq_true (by omega)
theorem con_few21 (r c : Int) (l : List Nat) : PureOK Tryz.prog 97 [.agg [.c (.val (.int .i64 r)), .c (.val (.int .i64 c)), .c (.sat (rowR 1 wdC l))], .v (.int .i64 4)] (.v (.bool (decide (r ≤ 4 ∧ c ≤ 4 ∧ l.length ≤ 100)))) := by
  refine PureOK.fnF Tryz.func97 Tryz.results97 Tryz.ntmps97 rfl rfl rfl (by simp [AV.ids, AV0.ids, Atom.ids]) rfl (fun w0 T B E0 hB => ?_)
  by_cases h1 : r ≤ 4
  · by_cases h2 : c ≤ 4
    · refine SX.goN ?_
      refine retB ?_; rw [decide_eq_decide]; omega
    · refine SX.goN ?_
      refine retB ?_; exact (decide_eq_false fun h => h2 h.2.1).symm
  · refine SX.goN ?_
    refine retB ?_; exact (decide_eq_false fun h => h1 h.1).symm
theorem con_few07 (q : RawQ) : PureOK Tryz.prog 33 [.agg (q4A (rq q)), .v (.int .i64 2)] (.v (.bool (decide (q.2.1.length ≤ 2 ∧ q.2.2.2.length ≤ 2)))) := by
  have h := (con_Few q.1 q.2.1 q.2.2.1 q.2.2.2 2).h trivial
  rw [show decide ((q.2.1.length : Int) ≤ 2 ∧ (q.2.2.2.length : Int) ≤ 2) = decide (q.2.1.length ≤ 2 ∧ q.2.2.2.length ≤ 2) from decide_eq_decide.2 (by omega)] at h
  exact h
set_option maxRecDepth 20000 in
set_option maxHeartbeats 2000000 in
theorem con_Few1 (v : Vl) (d : Nat) (hd : d ≤ 20) (goal : Bool) (b : Vl → Prop) (hr : ∀ e, d = e + 1 → ∀ x ∈ v.li, (b x → PureOK Tryz.prog 41 [.agg (vlA x), .v (.int .i64 (e : Int))] (.v (.bool true))) ∧ (¬ b x → PureOK Tryz.prog 41 [.agg (vlA x), .v (.int .i64 (e : Int))] (.v (.bool false))))
    (hg : goal = true ↔ vW1 d v ∧ ∀ x ∈ v.li, b x) : PureOK Tryz.prog 41 [.agg (vlA v), .v (.int .i64 (d : Int))] (.v (.bool goal)) := by
  have l2 : (v.po.map rz).length = v.po.length := List.length_map _
  have cq := con_few07 v.q
  have cm := con_rFew v.r v.c v.a 4 2
  have cf := con_few21 v.fr v.fc v.fa
  have no : ∀ {p : Prop}, ¬ p → (vW1 d v ∧ (∀ x ∈ v.li, b x) → p) → false = goal := fun hn hp => (Bool.eq_false_iff.2 fun ht => hn (hp (hg.1 ht))).symm
  rw [vlA_B]
  refine PureOK.fnF Tryz.func41 Tryz.results41 Tryz.ntmps41 rfl rfl rfl (by simp [AV.ids, AV0.ids, Atom.ids]) rfl (fun w0 T B E0 hB => ?_)
  by_cases h1 : v.po.length ≤ 5
  rotate_left
  · refine SX.goN ?_
    refine retB (no h1 fun h => ?_); exact h.1.1.1
  by_cases h2 : ∀ x ∈ v.po, x.2.length ≤ 2
  rotate_left
  · have c1 := con_few10 v.po false h1 ⟨fun h => (by cases h), fun h => absurd h h2⟩
    refine SX.goN ?_
    refine retB (no h2 fun h => ?_); exact h.1.1.2
  have c1 := con_few10 v.po true h1 ⟨fun _ => h2, fun _ => rfl⟩
  by_cases h3 : v.ri.length ≤ 5
  rotate_left
  · refine SX.goN ?_
    refine retB (no h3 fun h => ?_); exact h.1.2.1
  by_cases h4 : v.li.length ≤ 4
  rotate_left
  · refine SX.goN ?_
    refine retB (no h4 fun h => ?_); exact h.1.2.2.1
  by_cases h5 : v.li.length = 0 ∨ d ≠ 0
  rotate_left
  · have h6 : v.li.length > 0 := by omega
    have h7 : d = 0 := by omega
    refine SX.goN ?_
    refine retB (no h5 fun h => ?_); exact h.1.2.2.2.1
  by_cases h8 : v.p ≤ 4294967296
  rotate_left
  · by_cases h6 : v.li.length > 0
    · have h7 : d ≠ 0 := by omega
      refine SX.goN ?_
      refine retB (no h8 fun h => ?_); exact h.1.2.2.2.2.1
    · refine SX.goN ?_
      refine retB (no h8 fun h => ?_); exact h.1.2.2.2.2.1
  refine W.meet [(1, .v (.int .i64 (d : Int))), (2, .ptr 2 0)] [(2, .box 39 (vlB v))] ?_ ?_
  · refine SX.goN ?_
    exact W.le
  refine W.meet [(1, .v (.int .i64 (d : Int))), (2, .ptr 2 0)] [(2, .box 39 (vlB v))] ?_ ?_
  · by_cases h6 : v.li.length > 0
    · have h7 : d ≠ 0 := by omega
      refine SX.goN ?_
      exact W.le
    · refine SX.goN ?_
      exact W.le
  refine SX.goN ?_
  refine W.loop (fun k => k ≤ v.li.length ∧ ∀ (j : Nat) x, j < k → v.li[j]? = some x → b x) (fun k => [(1, .v (.int .i64 (d : Int))), (2, .ptr 2 0), (5, .v (.int .i64 (k : Int)))]) (fun k => [(2, .box 39 (vlB v))]) (fun k => v.li.length - k) 0 ⟨Nat.zero_le _, fun j x h => absurd h (Nat.not_lt_zero _)⟩ (fun k ⟨hk, he⟩ => ?_)
  by_cases h : k < v.li.length
  · obtain ⟨e, rfl⟩ : ∃ e, d = e + 1 := ⟨d - 1, by omega⟩
    obtain ⟨x, hx⟩ : ∃ x, v.li[k]? = some x := ⟨_, List.getElem?_eq_getElem h⟩
    have hr2 := hr e rfl x (List.mem_of_getElem? hx)
    rw [show (e : Int) = ((e + 1 - 1 : Nat) : Int) by omega] at hr2
    by_cases hb : b x
    · have cE := hr2.1 hb
      refine SX.goN ?_
      refine W.next (k + 1) ⟨h, fun j y hj hy => ?_⟩ (by omega)
      by_cases hjk : j < k
      · exact he j y hjk hy
      · obtain rfl : j = k := by omega
        rw [hx] at hy; rw [← Option.some.inj hy]; exact hb
    · have cE := hr2.2 hb
      refine SX.goN ?_
      refine retB (no hb fun h => ?_); exact h.2 x (List.mem_of_getElem? hx)
  · obtain rfl : k = v.li.length := by omega
    have hall : ∀ x ∈ v.li, b x := fun x hx => by
      obtain ⟨i, hi⟩ := List.mem_iff_getElem?.1 hx
      exact he i x (at_lt hi) hi
    by_cases g1 : v.q.2.1.length ≤ 2 ∧ v.q.2.2.2.length ≤ 2
    · rw [decide_eq_true g1] at cq
      by_cases g2 : FewP v.r v.c v.a 4 2
      · have cm := cm.1 g2
        by_cases g3 : v.fr ≤ 4 ∧ v.fc ≤ 4 ∧ v.fa.length ≤ 100
        · rw [decide_eq_true g3] at cf
          have ht : goal = true := hg.2 ⟨⟨⟨h1, h2⟩, h3, h4, h5, h8, g1, g2, g3⟩, hall⟩
          subst ht
          refine SX.goN ?_
          exact retB rfl
        · rw [decide_eq_false g3] at cf
          refine SX.goN ?_
          refine retB (no g3 fun h => ?_); exact h.1.2.2.2.2.2.2.2
      · have cm := cm.2 g2
        refine SX.goN ?_
        refine retB (no g2 fun h => ?_); exact h.1.2.2.2.2.2.2.1
    · rw [decide_eq_false g1] at cq
      refine SX.goN ?_
      refine retB (no g1 fun h => ?_); exact h.1.2.2.2.2.2.1
theorem con_Few29 : ∀ (d : Nat) (v : Vl), d ≤ 20 → (vW d v → PureOK Tryz.prog 41 [.agg (vlA v), .v (.int .i64 (d : Int))] (.v (.bool true))) ∧ (¬ vW d v → PureOK Tryz.prog 41 [.agg (vlA v), .v (.int .i64 (d : Int))] (.v (.bool false))) := by
  intro d
  induction d with
  | zero =>
    intro v hd
    have e : vW 0 v ↔ vW1 0 v ∧ ∀ x ∈ v.li, False := by
      constructor
      · intro h; exact ⟨h.1, fun x hx => by rw [h.2] at hx; cases hx⟩
      · intro h
        refine ⟨h.1, ?_⟩
        cases hl : v.li with
        | nil => rfl
        | cons x l => exact (h.2 x (by rw [hl]; exact List.mem_cons_self ..)).elim
    exact ⟨fun h => con_Few1 v 0 hd true (fun _ => False) (fun e he => by omega) ⟨fun _ => e.1 h, fun _ => rfl⟩, fun h => con_Few1 v 0 hd false (fun _ => False) (fun e he => by omega) ⟨fun h2 => (by cases h2), fun h2 => absurd (e.2 h2) h⟩⟩
  | succ d ih =>
    intro v hd
    have hr : ∀ e, d + 1 = e + 1 → ∀ x ∈ v.li, (vW d x → PureOK Tryz.prog 41 [.agg (vlA x), .v (.int .i64 (e : Int))] (.v (.bool true))) ∧ (¬ vW d x → PureOK Tryz.prog 41 [.agg (vlA x), .v (.int .i64 (e : Int))] (.v (.bool false))) := fun e he x _ => by
      obtain rfl : d = e := by omega
      exact ih x (by omega)
    exact ⟨fun h => con_Few1 v (d + 1) hd true (vW d) hr ⟨fun _ => h, fun _ => rfl⟩, fun h => con_Few1 v (d + 1) hd false (vW d) hr ⟨fun h2 => (by cases h2), fun h2 => absurd h2 h⟩⟩
end Go.Proofs.YtfhpmbenldgfnaaGreatDoor
/- Polynomials of whole numbers: sums, differences, sameness. -/
set_option linter.unusedVariables false
set_option linter.unusedSimpArgs false
namespace Go.Proofs.YtfhpmbenldgfnaaGreatDoor
open Go.RowKit QM SX LA
instance zeroZ : AsZero [.bool false, .slice none 0 0] (z2C (z2v 0)) := ⟨fun S w => ⟨rfl, nrmN.zero, trivial⟩⟩
/-- Where a polynomial ends. -/
def pl (zs : List Int) : Nat → Nat
  | 0 => 0
  | k + 1 => if zs.getD k 0 = 0 then pl zs k else k + 1
def plen (zs : List Int) : Nat := pl zs zs.length
def pNorm (zs : List Int) : List Int := zs.take (plen zs)
/-- A polynomial that ends where it should. -/
def pN (zs : List Int) : Prop := zs.length = 0 ∨ zs.getD (zs.length - 1) 0 ≠ 0
theorem pl_le (zs : List Int) : ∀ k, pl zs k ≤ k
  | 0 => Nat.le_refl _
  | k + 1 => by unfold pl; split; exact Nat.le_succ_of_le (pl_le zs k); exact Nat.le_refl _
theorem pl_top (zs : List Int) : ∀ k, pl zs k = 0 ∨ zs.getD (pl zs k - 1) 0 ≠ 0
  | 0 => .inl rfl
  | k + 1 => by
    unfold pl; split
    · exact pl_top zs k
    · next h => exact .inr h
theorem pl_zero (zs : List Int) : ∀ (k j : Nat), pl zs k ≤ j → j < k → zs.getD j 0 = 0
  | 0, j, _, h => absurd h (Nat.not_lt_zero _)
  | k + 1, j, h1, h2 => by
    unfold pl at h1
    split at h1
    · next h =>
      by_cases hj : j = k
      · subst hj; exact h
      · exact pl_zero zs k j h1 (by omega)
    · omega
theorem plen_le (zs : List Int) : plen zs ≤ zs.length := pl_le zs _
theorem pNorm_len (zs : List Int) : (pNorm zs).length = plen zs := by unfold pNorm; rw [List.length_take]; exact Nat.min_eq_left (plen_le zs)
theorem getD_ge {zs : List Int} {j : Nat} (h : zs.length ≤ j) : zs.getD j 0 = 0 := by rw [List.getD_eq_getElem?_getD, List.getElem?_eq_none h]; rfl
theorem pNorm_at (zs : List Int) (j : Nat) : (pNorm zs).getD j 0 = zs.getD j 0 := by
  by_cases h : j < plen zs
  · unfold pNorm; rw [List.getD_eq_getElem?_getD, List.getElem?_take, if_pos h, ← List.getD_eq_getElem?_getD]
  · rw [getD_ge (by rw [pNorm_len]; omega)]
    by_cases h2 : j < zs.length
    · exact (pl_zero zs _ j (by unfold plen at h; omega) h2).symm
    · exact (getD_ge (by omega)).symm
theorem pNorm_pN (zs : List Int) : pN (pNorm zs) := by
  rcases pl_top zs zs.length with h | h
  · exact .inl (by rw [pNorm_len]; exact h)
  · exact .inr (by rw [pNorm_len, pNorm_at]; exact h)
/-- Two that end where they should, and have the same numbers, are the same. -/
theorem pN_ext {a b : List Int} (ha : pN a) (hb : pN b) (h : ∀ j, a.getD j 0 = b.getD j 0) : a = b := by
  have key : ∀ {a b : List Int}, pN a → (∀ j, a.getD j 0 = b.getD j 0) → a.length ≤ b.length := fun {a b} ha h => by
    rcases ha with h0 | h0
    · omega
    · rcases Nat.lt_or_ge b.length a.length with h1 | h1
      · rw [h, getD_ge (by omega)] at h0; exact absurd rfl h0
      · exact h1
  have hl : a.length = b.length := Nat.le_antisymm (key ha h) (key hb fun j => (h j).symm)
  apply List.ext_getElem? ; intro j
  by_cases hj : j < a.length
  · have := h j
    rw [List.getD_eq_getElem?_getD, List.getD_eq_getElem?_getD, List.getElem?_eq_getElem hj, List.getElem?_eq_getElem (by omega)] at this
    rw [List.getElem?_eq_getElem hj, List.getElem?_eq_getElem (by omega)]
    exact congrArg some this
  · rw [List.getElem?_eq_none (by omega), List.getElem?_eq_none (by omega)]
theorem pNorm_self {zs : List Int} (h : pN zs) : pNorm zs = zs := pN_ext (pNorm_pN zs) h (pNorm_at zs)
theorem pNorm_mem {zs : List Int} : ∀ z ∈ pNorm zs, z ∈ zs := fun z h => List.mem_of_mem_take h
def tabP (n : Nat) (f : Nat → Int) : List Int := (List.range n).map f
theorem tabP_len (n : Nat) (f : Nat → Int) : (tabP n f).length = n := by unfold tabP; rw [List.length_map, List.length_range]
theorem tabP_at {n : Nat} {f : Nat → Int} {j : Nat} (h : j < n) : (tabP n f).getD j 0 = f j := by
  unfold tabP; rw [List.getD_eq_getElem?_getD, List.getElem?_map, List.getElem?_range h]; rfl
/-- Two at once. -/
def pBoth (op : Int → Int → Int) (a b : List Int) : List Int := pNorm (tabP (max a.length b.length) fun i => op (a.getD i 0) (b.getD i 0))
theorem pBoth_at {op : Int → Int → Int} (h0 : op 0 0 = 0) (a b : List Int) (j : Nat) : (pBoth op a b).getD j 0 = op (a.getD j 0) (b.getD j 0) := by
  unfold pBoth
  rw [pNorm_at]
  by_cases h : j < max a.length b.length
  · exact tabP_at h
  · rw [getD_ge (by rw [tabP_len]; omega), getD_ge (zs := a) (by omega), getD_ge (zs := b) (by omega), h0]
def patq (l : List Z2) (i : Nat) : Z2 := l.getD i (z2v 0)
theorem ZQ.zero (K : Nat) : ZQ (z2v 0) 0 K := ZQ.made (z := 0) (by rw [show (0 : Int).natAbs = 0 from rfl]; exact WB_one_le K)
theorem MZ.pat {l : List Z2} {zs : List Int} {K : Nat} (h : MZ l zs K) (i : Nat) : ZQ (patq l i) (zs.getD i 0) K := by
  unfold patq
  rw [List.getD_eq_getElem?_getD, List.getD_eq_getElem?_getD]
  have hl := h.len
  by_cases hi : i < l.length
  · rw [List.getElem?_eq_getElem hi, List.getElem?_eq_getElem (by omega)]
    exact h.z i _ _ (List.getElem?_eq_getElem hi) (List.getElem?_eq_getElem (by omega))
  · rw [List.getElem?_eq_none (by omega), List.getElem?_eq_none (by omega)]
    exact ZQ.zero K
theorem zat_b {zs : List Int} {K : Nat} (h : ∀ z ∈ zs, z.natAbs < WB ^ K) (i : Nat) : (zs.getD i 0).natAbs < WB ^ K := by
  rw [List.getD_eq_getElem?_getD]
  by_cases hi : i < zs.length
  · rw [List.getElem?_eq_getElem hi]; exact h _ (List.getElem_mem hi)
  · rw [List.getElem?_eq_none (by omega)]; exact WB_one_le K
theorem set_tab {f : Nat → Z2} {z : Z2} {n k : Nat} (hk : k < n) : ((List.range n).map fun i => if i < k then f i else z).set k (f k) = (List.range n).map fun i => if i < k + 1 then f i else z := by
  apply List.ext_getElem?
  intro j
  rw [List.getElem?_set]
  by_cases hj : k = j
  · subst hj
    rw [if_pos rfl, if_pos (by rw [List.length_map, List.length_range]; exact hk), List.getElem?_map, List.getElem?_range hk]
    simp
  · rw [if_neg hj, List.getElem?_map, List.getElem?_map]
    by_cases hjn : j < n
    · rw [List.getElem?_range hjn]
      simp only [Option.map_some]
      by_cases h1 : j < k
      · rw [if_pos h1, if_pos (by omega)]
      · rw [if_neg h1, if_neg (by omega)]
    · rw [List.getElem?_eq_none (by rw [List.length_range]; omega)]; rfl
theorem tab_all {f : Nat → Z2} {z : Z2} {n : Nat} : ((List.range n).map fun i => if i < n then f i else z) = (List.range n).map f := by
  refine List.map_congr_left fun i hi => ?_
  rw [if_pos (List.mem_range.1 hi)]
theorem tab_none {f : Nat → Z2} {z : Z2} {n : Nat} : (List.replicate n (z2C z)).flatten = ((List.range n).map fun i => if i < 0 then f i else z).flatMap z2C := by
  have : ((List.range n).map fun i => if i < 0 then f i else z) = List.replicate n z := by
    apply List.ext_getElem?; intro j
    rw [List.getElem?_map, List.getElem?_replicate]
    by_cases hj : j < n
    · rw [List.getElem?_range hj, if_pos hj]; simp
    · rw [List.getElem?_eq_none (by rw [List.length_range]; omega), if_neg hj]; rfl
  rw [this, List.flatMap, List.map_replicate]
attribute [local irreducible] IntKind.wrap Go1 Reg WP thenK inBlk retQ retF RetF RetOK ResOK CallOK OpOK Sat
attribute [local irreducible] qsub qmul qquo qcmp qadd qv redS mf PrP qOk zOk vP fp64 lz vF cq rqv plen
theorem con_pat (l : List Z2) (i : Nat) (hl : l.length ≤ 1000000) : PureOK Tryz.prog 59 [.r (rowR 2 z2C l), .v (.int .i64 (i : Int))] (.agg (z2A (patq l i))) := by
  unfold patq
  rw [List.getD_eq_getElem?_getD]
  refine PureOK.fnF Tryz.func59 Tryz.results59 Tryz.ntmps59 rfl rfl rfl (by simp [AV.ids, AV0.ids, Atom.ids]) rfl (fun w0 T B E0 hB => ?_)
  by_cases h : i < l.length
  · obtain ⟨q, hq⟩ : ∃ q, l[i]? = some q := ⟨_, List.getElem?_eq_getElem h⟩
    rw [hq]
    refine SX.goJ ?_
    exact retA (ResOK.agg2 rfl rfl rfl) rfl
  · rw [List.getElem?_eq_none (by omega)]
    refine SX.goJ ?_
    refine retAi (ResOK.agg2 rfl rfl rfl) ?_
    exact imp_zero
theorem con_pNorm {l : List Z2} {zs : List Int} {K : Nat} (hM : MZ l zs K) (hK : K ≤ 1000000) (hl : l.length ≤ 100000) : PureOK Tryz.prog 57 [.r (rowR 2 z2C l)] (.r (rowR 2 z2C ((pNorm zs).map z2v))) := by
  have hlen := hM.len
  have hle := plen_le zs
  refine PureOK.fnF Tryz.func57 Tryz.results57 Tryz.ntmps57 rfl rfl rfl (by simp [AV.ids, AV0.ids, Atom.ids]) rfl (fun w0 T B E0 hB => ?_)
  refine SX.goJ ?_
  refine W.loop (fun k => k ≤ l.length ∧ pl zs k = plen zs) (fun k => [(0, .r (rowR 2 z2C l)), (3, .v (.int .i64 (k : Int)))]) (fun _ => []) (fun k => k) l.length ⟨Nat.le_refl _, by rw [hlen]; unfold plen; rfl⟩ (fun k ⟨hk, he⟩ => ?_)
  by_cases h0 : 0 < k
  · obtain ⟨m, rfl⟩ : ∃ m, k = m + 1 := ⟨k - 1, by omega⟩
    obtain ⟨q, hq⟩ : ∃ q, l[m + 1 - 1]? = some q := ⟨_, List.getElem?_eq_getElem (by omega)⟩
    have hq' : l[m]? = some q := hq
    obtain ⟨z, hz⟩ : ∃ z, zs[m]? = some z := ⟨_, List.getElem?_eq_getElem (by omega)⟩
    have hg : zs.getD m 0 = z := by rw [List.getD_eq_getElem?_getD, hz]; rfl
    have zq := hM.z m q z hq' hz
    have cS := (con_zSign (h := zq.zi)).h (by omega)
    have hs0 : isign z = 0 ↔ z = 0 := by unfold isign; (repeat' split) <;> omega
    unfold pl at he
    rw [hg] at he
    by_cases hz0 : z = 0
    · rw [if_pos hz0] at he
      have h1 := hs0.2 hz0
      refine SX.goJ ?_
      exact W.next m ⟨by omega, he⟩ (by omega)
    · rw [if_neg hz0] at he
      have h1 : ¬ isign z = 0 := fun e => hz0 (hs0.1 e)
      rw [← he] at hle
      have e3 : (l.take (m + 1)).length = m + 1 := by rw [List.length_take]; omega
      refine SX.goJ ?_
      refine W.loop (fun j => j ≤ m + 1) (fun j => [(4, .own 100), (24, .r (rowR 2 z2C (l.take (m + 1)))), (25, .v (.int .i64 ((m + 1 : Nat) : Int))), (26, .v (.int .i64 (j : Int)))]) (fun j => [(100, .row 25 2 j (((zs.take j).map z2v).flatMap z2C))]) (fun j => m + 1 - j) 0 (Nat.zero_le _) (fun j hj => ?_)
        (by
          refine SX.St.le_to [(100, none)] (by intro b h; cases h) ?_ ?_ rfl
          · repeat (first | exact trivial | refine ⟨⟨_, rfl, SX.AVto.same rfl⟩, ?_⟩ | refine ⟨⟨_, rfl, SX.AVto.nil rfl⟩, ?_⟩ | refine ⟨⟨_, rfl, SX.AVto.int (by rw [e3])⟩, ?_⟩)
          · exact ⟨SX.EntTo.nilRow rfl, trivial⟩)
      by_cases h2 : j < m + 1
      · obtain ⟨q2, hq2⟩ : ∃ q2, l[j]? = some q2 := ⟨_, List.getElem?_eq_getElem (by omega)⟩
        have hq3 : (l.take (m + 1))[j]? = some q2 := by rw [List.getElem?_take, if_pos h2]; exact hq2
        have h3 : j < (l.take (m + 1)).length := by omega
        obtain ⟨z2, hz2⟩ : ∃ z2, zs[j]? = some z2 := ⟨_, List.getElem?_eq_getElem (by omega)⟩
        have cF := from_z (hM.z j q2 z2 hq2 hz2) hK
        have e2 : ((zs.take j).map z2v).flatMap z2C ++ z2C (z2v z2) = ((zs.take (j + 1)).map z2v).flatMap z2C := by rw [List.take_add_one, hz2]; simp
        refine SX.goJ ?_
        refine W.next (j + 1) h2 (by omega) (by
          refine SX.St.le_to [(100, some 37)] (by intro b h; cases h) ?_ ?_ rfl
          · repeat (first | exact trivial | refine ⟨⟨_, rfl, SX.AVto.same rfl⟩, ?_⟩ | refine ⟨⟨_, rfl, SX.AVto.own rfl⟩, ?_⟩)
          · exact ⟨SX.EntTo.row rfl rfl rfl e2, trivial⟩)
      · obtain rfl : j = m + 1 := by omega
        refine SX.goJ ?_
        refine RetF.frz 100 ?_
        refine ret1 ?_
        unfold pNorm; rw [← he]
        show AV0.one (.c (.sat (sliceR 2 (m + 1) _))) = .one (.c (.sat (sliceR 2 ((zs.take (m + 1)).map z2v).length _)))
        rw [List.length_map, List.length_take, Nat.min_eq_left (by omega)]
  · obtain rfl : k = 0 := by omega
    have he' : plen zs = 0 := he.symm
    refine SX.goJ ?_
    refine W.loop (fun j : Nat => j = 0) (fun j => [(4, .v (.slice none 0 0)), (25, .v (.int .i64 0)), (26, .v (.int .i64 (j : Int)))]) (fun _ => []) (fun j => j) 0 rfl (fun j hj => ?_)
    subst hj
    refine SX.goJ ?_
    refine ret1' ?_
    unfold pNorm; rw [he']
    exact fun E S w v h => (AtomI.nil (α := Z2) (enc := z2C) (size := 2)) E S w v h
end Go.Proofs.YtfhpmbenldgfnaaGreatDoor
/- Polynomials of whole numbers: sums, differences, sameness, multiples. -/
set_option linter.unusedVariables false
set_option linter.unusedSimpArgs false
namespace Go.Proofs.YtfhpmbenldgfnaaGreatDoor
open Go.RowKit QM SX LA
theorem mz_tab {n K : Nat} {f : Nat → Int} (h : ∀ i, i < n → (f i).natAbs < WB ^ K) : MZ ((List.range n).map fun i => z2v (f i)) (tabP n f) K := by
  refine ⟨by rw [List.length_map, List.length_range, tabP_len], fun i q z hq hz => ?_⟩
  have hi : i < n := by have := at_lt hq; rwa [List.length_map, List.length_range] at this
  rw [List.getElem?_map, List.getElem?_range hi] at hq
  unfold tabP at hz
  rw [List.getElem?_map, List.getElem?_range hi] at hz
  cases hq; cases hz
  exact ZQ.made (h i hi)
theorem row_len {n : Nat} {l : List Z2} (h : l.length = n) : rowR 2 z2C l = sliceR 2 n (l.flatMap z2C) := by subst h; rfl
attribute [local irreducible] IntKind.wrap Go1 Reg WP thenK inBlk retQ retF RetF RetOK ResOK CallOK OpOK Sat
attribute [local irreducible] qsub qmul qquo qcmp qadd qv redS mf PrP qOk zOk vP fp64 lz vF cq rqv plen pNorm
theorem con_both {l l' : List Z2} {zs zs' : List Int} {K K' L : Nat} (op : Int → Int → Int) (x : CA) (hx1 : x.oneB = true) (hM : MZ l zs K) (hM' : MZ l' zs' K') (hl : l.length ≤ 10000) (hl' : l'.length ≤ 10000)
    (hx : ∀ i, FnV Tryz.prog x [.agg (z2A (patq l i)), .agg (z2A (patq l' i))] (.agg (zN (op (zs.getD i 0) (zs'.getD i 0))))) (hb : ∀ i, (op (zs.getD i 0) (zs'.getD i 0)).natAbs < WB ^ L) (hL : L ≤ 1000000) :
    PureOK Tryz.prog 126 [.r (rowR 2 z2C l), .r (rowR 2 z2C l'), .it (.one (.c x))] (.r (rowR 2 z2C ((pBoth op zs zs').map z2v))) := by
  have cN : PureOK Tryz.prog 57 [.r (sliceR 2 (max l.length l'.length) (((List.range (max l.length l'.length)).map fun i => z2v (op (zs.getD i 0) (zs'.getD i 0))).flatMap z2C))] (.r (rowR 2 z2C ((pBoth op zs zs').map z2v))) := by
    have h := con_pNorm (mz_tab (n := max l.length l'.length) (f := fun i => op (zs.getD i 0) (zs'.getD i 0)) fun i _ => hb i) hL (by rw [List.length_map, List.length_range]; omega)
    rw [row_len (n := max l.length l'.length) (by rw [List.length_map, List.length_range])] at h
    unfold pBoth
    rw [← hM.len, ← hM'.len]
    exact h
  have hm : max l.length l'.length ≤ 10000 := by omega
  refine PureOK.fnF Tryz.func126 Tryz.results126 Tryz.ntmps126 rfl rfl rfl (by simp [AV.ids, AV0.ids, Atom.ids]) rfl (fun w0 T B E0 hB => ?_)
  refine SX.goJ ?_
  refine W.loop (fun k => k ≤ max l.length l'.length) (fun k => [(0, .r (rowR 2 z2C l)), (1, .r (rowR 2 z2C l')), (2, .it (.one (.c x))), (7, .own 100), (16, .v (.int .i64 ((max l.length l'.length : Nat) : Int))), (17, .v (.int .i64 (k : Int)))]) (fun k => [(100, .row 25 2 (max l.length l'.length) (((List.range (max l.length l'.length)).map fun i => if i < k then z2v (op (zs.getD i 0) (zs'.getD i 0)) else z2v 0).flatMap z2C))]) (fun k => max l.length l'.length - k) 0 (Nat.zero_le _) (fun k hk => ?_)
    (by
      refine SX.St.le_to [(100, some 14)] (by intro b h; cases h) ?_ ?_ rfl
      · repeat (first | exact trivial | refine ⟨⟨_, rfl, SX.AVto.same rfl⟩, ?_⟩ | refine ⟨⟨_, rfl, SX.AVto.own rfl⟩, ?_⟩)
      · exact ⟨SX.EntTo.row rfl rfl rfl (tab_none (f := fun i => z2v (op (zs.getD i 0) (zs'.getD i 0)))), trivial⟩)
  by_cases h : k < max l.length l'.length
  · have c1 := con_pat l k (by omega)
    have c2 := con_pat l' k (by omega)
    have c3 := hx k
    have e2 : ((List.range (max l.length l'.length)).map fun i => if i < k then z2v (op (zs.getD i 0) (zs'.getD i 0)) else z2v 0).length = max l.length l'.length := by rw [List.length_map, List.length_range]
    have e3 := set_tab (f := fun i => z2v (op (zs.getD i 0) (zs'.getD i 0))) (z := z2v 0) h
    refine SX.goJ ?_
    refine SX.G.storeOWA (a := z2v (op (zs.getD k 0) (zs'.getD k 0))) ?_
    rw [e3]
    refine SX.goJ ?_
    exact W.next (k + 1) h (by omega)
  · obtain rfl : k = max l.length l'.length := by omega
    rw [tab_all]
    refine SX.WP.freeze 100 hB rfl ?_
    refine SX.goJ ?_
    exact ret1 rfl
theorem cloArgs {P : Program} {f g : FuncId} {a b r : AV} (h : PureOK P f [a, b, .it (.one (.c (.sat (cloR g [] []))))] r) : PureOK P f [a, b, .it (.one (.clo g []))] r :=
  weakArgs h fun E S w vs hv => by
    match vs, hv with
    | [u1, u2, u3], ⟨h1, h2, h3, _⟩ => exact ⟨h1, h2, fnArg h3, trivial⟩
abbrev pAdd := pBoth (· + ·)
abbrev pSub := pBoth (· - ·)
theorem con_pSub {l l' : List Z2} {zs zs' : List Int} {K K' : Nat} (hM : MZ l zs K) (hM' : MZ l' zs' K') (hl : l.length ≤ 10000) (hl' : l'.length ≤ 10000) (hK : K + K' ≤ 100000) :
    PureOK Tryz.prog 60 [.r (rowR 2 z2C l), .r (rowR 2 z2C l')] (.r (rowR 2 z2C ((pSub zs zs').map z2v))) := by
  have c := cloArgs (con_both (· - ·) (.sat (cloR 127 [] [])) rfl hM hM' hl hl' (fun i => FnV.const ((con_zSub (h := (hM.pat i).zi) (h' := (hM'.pat i).zi)).h (by omega))) (L := K + K' + 1) (fun i => by
    have h2 : (-(zs'.getD i 0)).natAbs < WB ^ K' := by rw [Int.natAbs_neg]; exact (hM'.pat i).b
    have := bd_add (hM.pat i).b h2
    rwa [← Int.sub_eq_add_neg] at this) (by omega))
  refine PureOK.fnF Tryz.func60 Tryz.results60 Tryz.ntmps60 rfl rfl rfl (by simp [AV.ids, AV0.ids, Atom.ids]) rfl (fun w0 T B E0 hB => ?_)
  refine SX.goJ ?_
  exact ret1 rfl
theorem pSub_at (a b : List Int) (j : Nat) : (pSub a b).getD j 0 = a.getD j 0 - b.getD j 0 := pBoth_at (op := (· - ·)) rfl a b j
theorem pBoth_pN (op : Int → Int → Int) (a b : List Int) : pN (pBoth op a b) := by unfold pBoth; exact pNorm_pN _
theorem pSub_nil {a b : List Int} (ha : pN a) (hb : pN b) : (pSub a b).length = 0 ↔ a = b := by
  constructor
  · intro h
    refine pN_ext ha hb fun j => ?_
    have h2 := pSub_at a b j
    have h3 : (pSub a b).getD j 0 = 0 := getD_ge (by omega)
    omega
  · rintro rfl
    have h2 : ∀ j, (pSub a a).getD j 0 = ([] : List Int).getD j 0 := fun j => by
      rw [pSub_at]; show a.getD j 0 - a.getD j 0 = 0; omega
    have h3 : pSub a a = [] := pN_ext (pBoth_pN _ a a) (.inl rfl) h2
    rw [h3]; rfl
theorem con_pSame {l l' : List Z2} {zs zs' : List Int} {K K' : Nat} (hM : MZ l zs K) (hM' : MZ l' zs' K') (hl : l.length ≤ 10000) (hl' : l'.length ≤ 10000) (hK : K + K' ≤ 100000) (hn : pN zs) (hn' : pN zs') :
    PureOK Tryz.prog 99 [.r (rowR 2 z2C l), .r (rowR 2 z2C l')] (.v (.bool (decide (zs = zs')))) := by
  have c := con_pSub hM hM' hl hl' hK
  have hlen : ((pSub zs zs').map z2v).length = (pSub zs zs').length := List.length_map _
  rw [show decide (zs = zs') = decide ((pSub zs zs').length = 0) from decide_eq_decide.2 (pSub_nil hn hn').symm]
  refine PureOK.fnF Tryz.func99 Tryz.results99 Tryz.ntmps99 rfl rfl rfl (by simp [AV.ids, AV0.ids, Atom.ids]) rfl (fun w0 T B E0 hB => ?_)
  refine SX.goJ ?_
  refine retB ?_
  rw [decide_eq_decide]; omega
def pScale (zs : List Int) (d : Int) : List Int := pNorm (zs.map (· * d))
theorem con_pScale {l : List Z2} {q : Z2} {zs : List Int} {d : Int} {K K' : Nat} (hM : MZ l zs K) (hd : ZQ q d K') (hl : l.length ≤ 10000) (hK : K + K' ≤ 100000) :
    PureOK Tryz.prog 62 [.r (rowR 2 z2C l), .agg (z2A q)] (.r (rowR 2 z2C ((pScale zs d).map z2v))) := by
  have hlen := hM.len
  have et : zs.map (· * d) = tabP l.length (fun i => zs.getD i 0 * d) := by
    unfold tabP
    apply List.ext_getElem?; intro j
    rw [List.getElem?_map, List.getElem?_map]
    by_cases hj : j < l.length
    · rw [List.getElem?_range hj, List.getElem?_eq_getElem (by omega)]
      show some (zs[j] * d) = some (zs.getD j 0 * d)
      rw [List.getD_eq_getElem?_getD, List.getElem?_eq_getElem (by omega)]; rfl
    · rw [List.getElem?_eq_none (by omega), List.getElem?_eq_none (by rw [List.length_range]; omega)]; rfl
  have hb : ∀ i, (zs.getD i 0 * d).natAbs < WB ^ (K + K') := fun i => by
    rw [Int.natAbs_mul, Nat.pow_add]
    exact Nat.mul_lt_mul'' (hM.pat i).b hd.b
  have cN : PureOK Tryz.prog 57 [.r (sliceR 2 l.length (((List.range l.length).map fun i => z2v (zs.getD i 0 * d)).flatMap z2C))] (.r (rowR 2 z2C ((pScale zs d).map z2v))) := by
    have h := con_pNorm (mz_tab (n := l.length) (f := fun i => zs.getD i 0 * d) fun i _ => hb i) (by omega) (by rw [List.length_map, List.length_range]; omega)
    rw [row_len (n := l.length) (by rw [List.length_map, List.length_range])] at h
    unfold pScale
    rw [et]
    exact h
  refine PureOK.fnF Tryz.func62 Tryz.results62 Tryz.ntmps62 rfl rfl rfl (by simp [AV.ids, AV0.ids, Atom.ids]) rfl (fun w0 T B E0 hB => ?_)
  refine SX.goJ ?_
  refine W.loop (fun k => k ≤ l.length) (fun k => [(3, .ptr 3 0), (5, .own 100), (11, .r (rowR 2 z2C l)), (12, .v (.int .i64 (l.length : Int))), (13, .v (.int .i64 (k : Int)))]) (fun k => [(3, .box 25 (z2A q)), (100, .row 25 2 l.length (((List.range l.length).map fun i => if i < k then z2v (zs.getD i 0 * d) else z2v 0).flatMap z2C))]) (fun k => l.length - k) 0 (Nat.zero_le _) (fun k hk => ?_)
    (by
      refine SX.St.le_to [(100, some 10)] (by intro b h; cases h) ?_ ?_ rfl
      · repeat (first | exact trivial | refine ⟨⟨_, rfl, SX.AVto.same rfl⟩, ?_⟩ | refine ⟨⟨_, rfl, SX.AVto.own rfl⟩, ?_⟩)
      · exact ⟨SX.EntTo.same rfl rfl, SX.EntTo.row rfl rfl rfl (tab_none (f := fun i => z2v (zs.getD i 0 * d))), trivial⟩)
  by_cases h : k < l.length
  · obtain ⟨q2, hq2⟩ : ∃ q2, l[k]? = some q2 := ⟨_, List.getElem?_eq_getElem h⟩
    obtain ⟨z2, hz2⟩ : ∃ z2, zs[k]? = some z2 := ⟨_, List.getElem?_eq_getElem (by omega)⟩
    have hg : zs.getD k 0 = z2 := by rw [List.getD_eq_getElem?_getD, hz2]; rfl
    have cM := (con_zMul (h := (hM.z k q2 z2 hq2 hz2).zi) (h' := hd.zi)).h (by omega)
    have e2 : ((List.range l.length).map fun i => if i < k then z2v (zs.getD i 0 * d) else z2v 0).length = l.length := by rw [List.length_map, List.length_range]
    have e3 := set_tab (f := fun i => z2v (zs.getD i 0 * d)) (z := z2v 0) h
    rw [← hg] at cM
    refine SX.goJ ?_
    refine SX.G.storeOWA (a := z2v (zs.getD k 0 * d)) ?_
    rw [e3]
    refine SX.goJ ?_
    exact W.next (k + 1) h (by omega)
  · obtain rfl : k = l.length := by omega
    rw [tab_all]
    refine SX.WP.freeze 100 hB rfl ?_
    refine SX.goJ ?_
    exact ret1 rfl
end Go.Proofs.YtfhpmbenldgfnaaGreatDoor
/- Fields of a prime; sameness of values. -/
set_option linter.unusedVariables false
set_option linter.unusedSimpArgs false
namespace Go.Proofs.YtfhpmbenldgfnaaGreatDoor
open Go.RowKit QM SX LA
theorem PrP.lt {p : Nat} (h : PrP p) : 2 ≤ p ∧ p < 2147483648 := ⟨h.1, h.2.1⟩
abbrev gfA (p : Nat) : List Atom := [.c (.val (.int .u64 (p : Int)))]
/-- Two lists, place for place. -/
def eqL {α : Type} (p : α → α → Bool) : List α → List α → Bool
  | [], [] => true
  | a :: l, b :: l' => p a b && eqL p l l'
  | _, _ => false
theorem eqL_len {α : Type} {p : α → α → Bool} : ∀ {l l' : List α}, l.length ≠ l'.length → eqL p l l' = false
  | [], [], h => absurd rfl h
  | [], _ :: _, _ => rfl
  | _ :: _, [], _ => rfl
  | a :: l, b :: l', h => by rw [eqL, eqL_len (l := l) (l' := l') (fun e => h (by rw [List.length_cons, List.length_cons, e])), Bool.and_false]
theorem eqL_drop {α : Type} {p : α → α → Bool} {l l' : List α} {k : Nat} {a b : α} (h : l[k]? = some a) (h' : l'[k]? = some b) : eqL p (l.drop k) (l'.drop k) = (p a b && eqL p (l.drop (k + 1)) (l'.drop (k + 1))) := by
  obtain ⟨h1, rfl⟩ := List.getElem?_eq_some_iff.1 h
  obtain ⟨h2, rfl⟩ := List.getElem?_eq_some_iff.1 h'
  rw [List.drop_eq_getElem_cons h1, List.drop_eq_getElem_cons h2, eqL]
theorem eqL_iff {α : Type} {p : α → α → Bool} : ∀ {l l' : List α}, (∀ a ∈ l, ∀ b ∈ l', p a b = true ↔ a = b) → (eqL p l l' = true ↔ l = l')
  | [], [], _ => by simp [eqL]
  | [], _ :: _, _ => by simp [eqL]
  | _ :: _, [], _ => by simp [eqL]
  | a :: l, b :: l', h => by
    rw [eqL, Bool.and_eq_true, h a (List.mem_cons_self ..) b (List.mem_cons_self ..), eqL_iff (l := l) (l' := l') fun x hx y hy => h x (List.mem_cons_of_mem _ hx) y (List.mem_cons_of_mem _ hy)]
    simp
attribute [local irreducible] IntKind.wrap Go1 Reg WP thenK inBlk retQ retF RetF RetOK ResOK CallOK OpOK Sat
attribute [local irreducible] qsub qmul qquo qcmp qadd qv redS mf PrP qOk zOk vP fp64 lz vF cq rqv plen pNorm
theorem con_gfNew {p : Nat} (h : PrP p) : PureOK Tryz.prog 74 [.v (.int .u64 (p : Int))] (.tup [.agg (gfA p), .one (.c (.val (.bool true)))]) := by
  have hp := h.lt
  have c := con_PrimeM p (by omega)
  rw [decide_eq_true h] at c
  refine PureOK.fnF Tryz.func74 Tryz.results74 Tryz.ntmps74 rfl rfl rfl (by simp [AV.ids, AV0.ids, Atom.ids]) rfl (fun w0 T B E0 hB => ?_)
  refine SX.goJ ?_
  exact .ok (RetOK.mk2 (ResOK.agg1 rfl rfl rfl) (ResOK.tmp rfl))
theorem con_gfP {p : Nat} (h : PrP p) : PureOK Tryz.prog 215 [.agg (gfA p)] (.v (.int .u64 (p : Int))) := by
  have hp := h.lt
  refine PureOK.fnF Tryz.func215 Tryz.results215 Tryz.ntmps215 rfl rfl rfl (by simp [AV.ids, AV0.ids, Atom.ids]) rfl (fun w0 T B E0 hB => ?_)
  refine SX.goJ ?_
  exact retI rfl
theorem con_gfNorm {p : Nat} (h : PrP p) (x : Nat) (hx : x < 18446744073709551616) : PureOK Tryz.prog 187 [.agg (gfA p), .v (.int .u64 (x : Int))] (.v (.int .u64 ((x % p : Nat) : Int))) := by
  have hp := h.lt
  have c := con_gfP h
  have hr : IntKind.u64.wrap ((x : Int).tmod (p : Int)) = ((x % p : Nat) : Int) := by rw [tmod_nat]; exact wrapN (Nat.lt_of_le_of_lt (Nat.mod_le x p) hx)
  refine PureOK.fnF Tryz.func187 Tryz.results187 Tryz.ntmps187 rfl rfl rfl (by simp [AV.ids, AV0.ids, Atom.ids]) rfl (fun w0 T B E0 hB => ?_)
  refine SX.goJ ?_
  exact retI rfl
theorem con_field (v : Vl) (h : PrP v.p) : PureOK Tryz.prog 101 [.agg (vlA v)] (.agg (gfA v.p)) := by
  have c := con_gfNew h
  refine PureOK.fnF Tryz.func101 Tryz.results101 Tryz.ntmps101 rfl rfl rfl (by simp [AV.ids, AV0.ids, Atom.ids]) rfl (fun w0 T B E0 hB => ?_)
  refine SX.goJ ?_
  exact retA (ResOK.agg1 rfl rfl rfl) rfl
abbrev fmA (r c : Nat) (l : List Nat) : List Atom := [.c (.val (.int .i64 (r : Int))), .c (.val (.int .i64 (c : Int))), .c (.sat (rowR 1 wdC l))]
theorem con_fF {r c : Nat} {l : List Nat} (hl : l.length = r * c) (hr : r ≤ 64) (hc : c ≤ 64) : PureOK Tryz.prog 154 [.agg (fmA r c l)] (.v (.bool true)) := by
  have h : PureOK Tryz.prog 154 [.agg (fmA r c l)] (.v (.bool (fp64 r c l.length))) := con_fFormed r c
  rw [fp64_nat hr hc hl] at h; exact h
theorem con_falike {r c r' c' : Nat} {l l' : List Nat} (hl : l.length = r * c) (hl' : l'.length = r' * c') (hr : r ≤ 64) (hc : c ≤ 64) (hr' : r' ≤ 64) (hc' : c' ≤ 64) :
    PureOK Tryz.prog 169 [.agg (fmA r c l), .agg (fmA r' c' l')] (.v (.bool (decide (r = r' ∧ c = c')))) := by
  have cF := con_fF hl hr hc
  have cF' := con_fF hl' hr' hc'
  refine PureOK.fnF Tryz.func169 Tryz.results169 Tryz.ntmps169 rfl rfl rfl (by simp [AV.ids, AV0.ids, Atom.ids]) rfl (fun w0 T B E0 hB => ?_)
  by_cases h1 : (r : Int) = (r' : Int)
  · refine SX.goJ ?_
    refine retB ?_
    rw [decide_eq_decide]; omega
  · refine SX.goJ ?_
    refine retB ?_; exact (decide_eq_false fun h => h1 (by omega)).symm
theorem con_EqfQ (l l' : List RawQ) (x : CA) (p : RawQ → RawQ → Bool) (hx : ∀ v ∈ l, ∀ u ∈ l', FnV Tryz.prog x [.agg (q4A (rq v)), .agg (q4A (rq u))] (.v (.bool (p v u)))) (hl : l.length ≤ 100000) (hl' : l'.length ≤ 100000) (hx1 : x.oneB = true) :
    PureOK Tryz.prog 183 [.r (rowR 4 q4C (l.map rq)), .r (rowR 4 q4C (l'.map rq)), .it (.one (.c x))] (.v (.bool (eqL p l l'))) := by
  have e1 : (l.map rq).length = l.length := List.length_map _
  have e2 : (l'.map rq).length = l'.length := List.length_map _
  refine PureOK.fnF Tryz.func183 Tryz.results183 Tryz.ntmps183 rfl rfl rfl (by simp [AV.ids, AV0.ids, Atom.ids]) rfl (fun w0 T B E0 hB => ?_)
  by_cases hne : l.length = l'.length
  rotate_left
  · rw [eqL_len hne]
    refine SX.goJ ?_
    exact retB rfl
  refine SX.goJ ?_
  refine W.loop (fun k => k ≤ l.length ∧ eqL p (l.drop k) (l'.drop k) = eqL p l l') (fun k => [(1, .r (rowR 4 q4C (l'.map rq))), (2, .it (.one (.c x))), (15, .r (rowR 4 q4C (l.map rq))), (16, .v (.int .i64 ((l.map rq).length : Int))), (17, .v (.int .i64 (k : Int)))]) (fun _ => []) (fun k => l.length - k) 0 ⟨Nat.zero_le _, rfl⟩ (fun k ⟨hk, he⟩ => ?_)
  by_cases h : k < l.length
  · obtain ⟨a, ha⟩ : ∃ a, l[k]? = some a := ⟨_, List.getElem?_eq_getElem h⟩
    obtain ⟨b, hb⟩ : ∃ b, l'[k]? = some b := ⟨_, List.getElem?_eq_getElem (by omega)⟩
    have hf := hx a (List.mem_of_getElem? ha) b (List.mem_of_getElem? hb)
    have hq : (l.map rq)[k]? = some (rq a) := by rw [List.getElem?_map, ha]; rfl
    have hq' : (l'.map rq)[k]? = some (rq b) := by rw [List.getElem?_map, hb]; rfl
    have h1 : k < (l.map rq).length := by rw [List.length_map]; exact h
    have h2 : k < (l'.map rq).length := by rw [List.length_map]; omega
    rw [eqL_drop ha hb] at he
    cases hp : p a b with
    | false =>
      rw [hp] at hf he
      refine SX.goJ ?_
      refine retB ?_; rw [← he]; rfl
    | true =>
      rw [hp] at hf he
      refine SX.goJ ?_
      exact W.next (k + 1) ⟨h, he⟩ (by omega)
  · obtain rfl : k = l.length := by omega
    rw [List.drop_length, hne, List.drop_length] at he
    refine SX.goJ ?_
    refine retB ?_; rw [← he]; rfl
theorem con_EqffQ (l l' : List RawQ) (f : FuncId) (p : RawQ → RawQ → Bool) (hx : ∀ v ∈ l, ∀ u ∈ l', PureOK Tryz.prog f [.agg (q4A (rq v)), .agg (q4A (rq u))] (.v (.bool (p v u)))) (hl : l.length ≤ 100000) (hl' : l'.length ≤ 100000) :
    PureOK Tryz.prog 183 [.r (rowR 4 q4C (l.map rq)), .r (rowR 4 q4C (l'.map rq)), .it (.one (.clo f []))] (.v (.bool (eqL p l l'))) :=
  cloArgs (con_EqfQ l l' (.sat (cloR f [] [])) p (fun v h u h' => FnV.const (hx v h u h')) hl hl' rfl)
theorem con_EqfW (l l' : List Nat) (x : CA) (p : Nat → Nat → Bool) (hx : ∀ v ∈ l, ∀ u ∈ l', FnV Tryz.prog x [.v (.int .u64 (v : Int)), .v (.int .u64 (u : Int))] (.v (.bool (p v u)))) (hl : l.length ≤ 100000) (hl' : l'.length ≤ 100000) (hx1 : x.oneB = true) :
    PureOK Tryz.prog 185 [.r (rowR 1 wdC l), .r (rowR 1 wdC l'), .it (.one (.c x))] (.v (.bool (eqL p l l'))) := by
  refine PureOK.fnF Tryz.func185 Tryz.results185 Tryz.ntmps185 rfl rfl rfl (by simp [AV.ids, AV0.ids, Atom.ids]) rfl (fun w0 T B E0 hB => ?_)
  by_cases hne : l.length = l'.length
  rotate_left
  · rw [eqL_len hne]
    refine SX.goJ ?_
    exact retB rfl
  refine SX.goJ ?_
  refine W.loop (fun k => k ≤ l.length ∧ eqL p (l.drop k) (l'.drop k) = eqL p l l') (fun k => [(1, .r (rowR 1 wdC l')), (2, .it (.one (.c x))), (15, .r (rowR 1 wdC l)), (16, .v (.int .i64 (l.length : Int))), (17, .v (.int .i64 (k : Int)))]) (fun _ => []) (fun k => l.length - k) 0 ⟨Nat.zero_le _, rfl⟩ (fun k ⟨hk, he⟩ => ?_)
  by_cases h : k < l.length
  · obtain ⟨a, ha⟩ : ∃ a, l[k]? = some a := ⟨_, List.getElem?_eq_getElem h⟩
    obtain ⟨b, hb⟩ : ∃ b, l'[k]? = some b := ⟨_, List.getElem?_eq_getElem (by omega)⟩
    have hf := hx a (List.mem_of_getElem? ha) b (List.mem_of_getElem? hb)
    rw [eqL_drop ha hb] at he
    cases hp : p a b with
    | false =>
      rw [hp] at hf he
      refine SX.goJ ?_
      refine retB ?_; rw [← he]; rfl
    | true =>
      rw [hp] at hf he
      refine SX.goJ ?_
      exact W.next (k + 1) ⟨h, he⟩ (by omega)
  · obtain rfl : k = l.length := by omega
    rw [List.drop_length, hne, List.drop_length] at he
    refine SX.goJ ?_
    refine retB ?_; rw [← he]; rfl
theorem con_EqfV (l l' : List Vl) (x : CA) (p : Vl → Vl → Bool) (hx : ∀ v ∈ l, ∀ u ∈ l', FnV Tryz.prog x [.agg (vlA v), .agg (vlA u)] (.v (.bool (p v u)))) (hl : l.length ≤ 100000) (hl' : l'.length ≤ 100000) (hx1 : x.oneB = true) :
    PureOK Tryz.prog 103 [.r (rowR 15 vlC l), .r (rowR 15 vlC l'), .it (.one (.c x))] (.v (.bool (eqL p l l'))) := by
  rw [row_vlE, row_vlE]
  refine PureOK.fnF Tryz.func103 Tryz.results103 Tryz.ntmps103 rfl rfl rfl (by simp [AV.ids, AV0.ids, Atom.ids]) rfl (fun w0 T B E0 hB => ?_)
  by_cases hne : l.length = l'.length
  rotate_left
  · rw [eqL_len hne]
    refine SX.goJ ?_
    exact retB rfl
  refine SX.goJ ?_
  refine W.loop (fun k => k ≤ l.length ∧ eqL p (l.drop k) (l'.drop k) = eqL p l l') (fun k => [(1, .r (rowR 15 vlE l')), (2, .it (.one (.c x))), (15, .r (rowR 15 vlE l)), (16, .v (.int .i64 (l.length : Int))), (17, .v (.int .i64 (k : Int)))]) (fun _ => []) (fun k => l.length - k) 0 ⟨Nat.zero_le _, rfl⟩ (fun k ⟨hk, he⟩ => ?_)
  by_cases h : k < l.length
  · obtain ⟨a, ha⟩ : ∃ a, l[k]? = some a := ⟨_, List.getElem?_eq_getElem h⟩
    obtain ⟨b, hb⟩ : ∃ b, l'[k]? = some b := ⟨_, List.getElem?_eq_getElem (by omega)⟩
    have hf := hx a (List.mem_of_getElem? ha) b (List.mem_of_getElem? hb)
    rw [eqL_drop ha hb] at he
    cases hp : p a b with
    | false =>
      rw [hp] at hf he
      refine SX.goJ ?_
      refine retB ?_; rw [← he]; rfl
    | true =>
      rw [hp] at hf he
      refine SX.goJ ?_
      exact W.next (k + 1) ⟨h, he⟩ (by omega)
  · obtain rfl : k = l.length := by omega
    rw [List.drop_length, hne, List.drop_length] at he
    refine SX.goJ ?_
    refine retB ?_; rw [← he]; rfl
theorem con_EqffV (l l' : List Vl) (f : FuncId) (p : Vl → Vl → Bool) (hx : ∀ v ∈ l, ∀ u ∈ l', PureOK Tryz.prog f [.agg (vlA v), .agg (vlA u)] (.v (.bool (p v u)))) (hl : l.length ≤ 100000) (hl' : l'.length ≤ 100000) :
    PureOK Tryz.prog 103 [.r (rowR 15 vlC l), .r (rowR 15 vlC l'), .it (.one (.clo f []))] (.v (.bool (eqL p l l'))) :=
  cloArgs (con_EqfV l l' (.sat (cloR f [] [])) p (fun v h u h' => FnV.const (hx v h u h')) hl hl' rfl)
theorem con_EqualW (l l' : List Nat) (hl : l.length ≤ 100000) (hl' : l'.length ≤ 100000) : PureOK Tryz.prog 102 [.r (rowR 1 wdC l), .r (rowR 1 wdC l')] (.v (.bool (decide (l = l')))) := by
  have e : decide (l = l') = eqL (fun a b => decide (a = b)) l l' := by
    rw [Bool.eq_iff_iff, decide_eq_true_iff]
    exact (eqL_iff fun a _ b _ => by rw [decide_eq_true_iff]).symm
  rw [e]
  refine PureOK.fnF Tryz.func102 Tryz.results102 Tryz.ntmps102 rfl rfl rfl (by simp [AV.ids, AV0.ids, Atom.ids]) rfl (fun w0 T B E0 hB => ?_)
  by_cases hne : l.length = l'.length
  rotate_left
  · rw [eqL_len hne]
    refine SX.goJ ?_
    exact retB rfl
  refine SX.goJ ?_
  refine W.loop (fun k => k ≤ l.length ∧ eqL (fun a b => decide (a = b)) (l.drop k) (l'.drop k) = eqL (fun a b => decide (a = b)) l l') (fun k => [(0, .r (rowR 1 wdC l)), (1, .r (rowR 1 wdC l')), (12, .v (.int .i64 (l.length : Int))), (13, .v (.int .i64 (k : Int)))]) (fun _ => []) (fun k => l.length - k) 0 ⟨Nat.zero_le _, rfl⟩ (fun k ⟨hk, he⟩ => ?_)
  by_cases h : k < l.length
  · obtain ⟨a, ha⟩ : ∃ a, l[k]? = some a := ⟨_, List.getElem?_eq_getElem h⟩
    obtain ⟨b, hb⟩ : ∃ b, l'[k]? = some b := ⟨_, List.getElem?_eq_getElem (by omega)⟩
    rw [eqL_drop ha hb] at he
    by_cases hab : a = b
    · have hab' : (a : Int) = (b : Int) := by omega
      rw [decide_eq_true hab] at he
      refine SX.goJ ?_
      exact W.next (k + 1) ⟨h, he⟩ (by omega)
    · have hab' : ¬ (a : Int) = (b : Int) := by omega
      rw [decide_eq_false hab] at he
      refine SX.goJ ?_
      refine retB ?_; rw [← he]; rfl
  · obtain rfl : k = l.length := by omega
    rw [List.drop_length, hne, List.drop_length] at he
    refine SX.goJ ?_
    refine retB ?_; rw [← he]; rfl
theorem con_fSame1 {p : Nat} (h : PrP p) (x y : Nat) (hx : x < p) (hy : y < p) : PureOK Tryz.prog 186 [.v (.int .u64 (x : Int)), .v (.int .u64 (y : Int)), .r (ptrR [.val (.int .u64 (p : Int))])] (.v (.bool (decide (x = y)))) := by
  have hp := h.lt
  have c1 := con_gfNorm h x (by omega)
  have c2 := con_gfNorm h y (by omega)
  rw [Nat.mod_eq_of_lt hx] at c1
  rw [Nat.mod_eq_of_lt hy] at c2
  refine PureOK.fnF Tryz.func186 Tryz.results186 Tryz.ntmps186 rfl rfl rfl (by simp [AV.ids, AV0.ids, Atom.ids]) rfl (fun w0 T B E0 hB => ?_)
  refine SX.goJ ?_
  refine retB ?_; rw [decide_eq_decide]; omega
theorem con_fSame {p r c r' c' : Nat} {l l' : List Nat} (h : PrP p) (hl : l.length = r * c) (hl' : l'.length = r' * c') (hr : r ≤ 64) (hc : c ≤ 64) (hr' : r' ≤ 64) (hc' : c' ≤ 64) (hb : ∀ x ∈ l, x < p) (hb' : ∀ x ∈ l', x < p) :
    PureOK Tryz.prog 100 [.agg (gfA p), .agg (fmA r c l), .agg (fmA r' c' l')] (.v (.bool (decide (r = r' ∧ c = c' ∧ l = l')))) := by
  have cA := con_falike hl hl' hr hc hr' hc'
  have m1 := Nat.mul_le_mul hr hc
  have m2 := Nat.mul_le_mul hr' hc'
  have cE := con_EqfW l l' (.sat (cloR 186 [] [.sat (ptrR [.val (.int .u64 (p : Int))])])) (fun x y => decide (x = y)) (fun x hx y hy => FnV.clo (con_fSame1 h x y (hb x hx) (hb' y hy))) (by omega) (by omega) rfl
  rw [show eqL (fun x y => decide (x = y)) l l' = decide (l = l') by
    rw [Bool.eq_iff_iff, decide_eq_true_iff]
    exact eqL_iff fun a _ b _ => by rw [decide_eq_true_iff]] at cE
  refine PureOK.fnF Tryz.func100 Tryz.results100 Tryz.ntmps100 rfl rfl rfl (by simp [AV.ids, AV0.ids, Atom.ids]) rfl (fun w0 T B E0 hB => ?_)
  refine SX.goJ ?_
  refine SX.WP.freezeB 3 hB rfl rfl ?_
  refine SX.WP.regionL ?_
  by_cases h1 : r = r' ∧ c = c'
  · rw [decide_eq_true h1] at cA
    refine SX.goJ ?_
    refine retB ?_; rw [decide_eq_decide]; exact ⟨fun h => ⟨h1.1, h1.2, h⟩, fun h => h.2.2⟩
  · rw [decide_eq_false h1] at cA
    refine SX.goJ ?_
    refine retB ?_; exact (decide_eq_false fun h => h1 ⟨h.1, h.2.1⟩).symm
end Go.Proofs.YtfhpmbenldgfnaaGreatDoor

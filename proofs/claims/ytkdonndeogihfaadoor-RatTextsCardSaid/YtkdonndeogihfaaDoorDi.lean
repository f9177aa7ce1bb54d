import Derived.Test.YtkdonndeogihfaaDoorD4
import Derived.Test.YtkdonndeogihfaaDoorIn
/- Fractions that come in. -/
set_option linter.unusedVariables false
set_option linter.unusedSimpArgs false
namespace Go.Proofs.YtkdonndeogihfaaDoor
open Go.RowKit QM SX
open Go.ChangeShapes Go.WideShapes Go.ChangeAt Go.Joins
section
variable {H : Type} {enc : TypeId × Value → H} {P : Program} {W : World} {base : Nat} {sp : Nat → Bool} {hd : Bool}
theorem DecF.imp {α β : Type} {n : Nat} {t : TypeId} {e : α → List CA} {φ : α → Prop} {e' : β → List CA} {ψ : β → Prop} (h : DecF enc P W base sp hd n t e φ) (f : α → β) (hf : ∀ a, φ a → ψ (f a)) (he : ∀ a cs, φ a → All2 (CA.has none' W) (e a) cs → All2 (CA.has none' W) (e' (f a)) cs) : DecF enc P W base sp hd n t e' ψ :=
  fun cs x hx => let ⟨a, h1, h2⟩ := h cs x hx; ⟨f a, hf a h1, he a cs h1 h2⟩
def u64C (z : Int) : List CA := [.val (.int .u64 z)]
instance : EncLen u64C 1 := ⟨fun _ => rfl⟩
theorem decNat (n : Nat) : DecF enc Tryd.prog W base sp hd n 23 (fun l : List Nat => [.sat (rawN l)]) (fun _ => True) :=
  DecF.all (fun n => DecF.imp (dec_slice (enc' := u64C) Tryd.underlying23 (by kernel_rfl) (dec_int Tryd.underlying41)) (fun l => l.map Int.toNat) (fun _ _ => trivial) (fun l cs hl hall => by
    match cs, hall with
    | [v], ⟨h1, _⟩ =>
      refine ⟨?_, trivial⟩
      have hb : ∀ z ∈ l, 0 ≤ z ∧ z ≤ 18446744073709551615 := fun z hz => bounds_u64 (hl.2 z hz)
      refine rawN_iff.2 ⟨?_, ?_⟩
      · intro x hx
        obtain ⟨z, hz, rfl⟩ := List.mem_map.1 hx
        have := hb z hz
        rw [WB_eq]; omega
      · have e : (l.map Int.toNat).map (fun x : Nat => CA.val (.int .u64 (x : Int))) = l.flatMap u64C := by
          clear h1 hall hl
          induction l with
          | nil => rfl
          | cons z l ih =>
            have := hb z (by simp)
            rw [List.map_cons, List.map_cons, List.flatMap_cons, ih (fun y hy => hb y (by simp [hy]))]
            show _ :: _ = CA.val (.int .u64 z) :: _
            rw [show ((z.toNat : Nat) : Int) = z by omega]; rfl
        rw [e, List.length_map]; exact h1)) n
theorem decZ (n : Nat) : DecF enc Tryd.prog W base sp hd n 48 (fun p : Bool × List Nat => [.val (.bool p.1)] ++ [.sat (rawN p.2)]) (fun _ => True) :=
  DecF.all (fun n => DecF.conv (dec_struct2 Tryd.underlying48 rfl (by kernel_rfl) (by kernel_rfl) (dec_bool Tryd.underlying4) (decNat n)) id (fun _ _ => trivial) (fun _ => rfl)) n
theorem decRat (n : Nat) : DecF enc Tryd.prog W base sp hd n 50 (fun p : Bool × List Nat × Bool × List Nat => [.val (.bool p.1), .sat (rawN p.2.1), .val (.bool p.2.2.1), .sat (rawN p.2.2.2)]) (fun _ => True) :=
  DecF.all (fun n => DecF.conv (dec_struct2 Tryd.underlying50 rfl (by kernel_rfl) (by kernel_rfl) (decZ n) (decZ n)) (fun p => (p.1.1, p.1.2, p.2.1, p.2.2)) (fun _ _ => trivial) (fun _ => rfl)) n
end
end Go.Proofs.YtkdonndeogihfaaDoor

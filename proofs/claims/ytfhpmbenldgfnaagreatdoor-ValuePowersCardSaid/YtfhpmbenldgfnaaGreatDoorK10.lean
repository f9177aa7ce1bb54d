import Derived.Test.YtfhpmbenldgfnaaGreatDoorK28
set_option linter.unusedVariables false
set_option linter.unusedSimpArgs false
namespace SX
open Go Go.RowKit Go.ChangeShapes Go.WideShapes Go.ChangeAt Go.Joins
section
variable {H : Type} {enc : TypeId × Value → H} {P : Program} {W : World} {base : Nat} {sp : Nat → Bool} {hd : Bool}
theorem dec_struct8 {n : Nat} {α0 α1 α2 α3 α4 α5 α6 α7 : Type} {t : TypeId} {f0 f1 f2 f3 f4 f5 f6 f7 : Go.Field} {e0 : α0 → List CA} {e1 : α1 → List CA} {e2 : α2 → List CA} {e3 : α3 → List CA} {e4 : α4 → List CA} {e5 : α5 → List CA} {e6 : α6 → List CA} {e7 : α7 → List CA} {φ0 : α0 → Prop} {φ1 : α1 → Prop} {φ2 : α2 → Prop} {φ3 : α3 → Prop} {φ4 : α4 → Prop} {φ5 : α5 → Prop} {φ6 : α6 → Prop} {φ7 : α7 → Prop} (ht : P.underlying t = some (.struct #[f0, f1, f2, f3, f4, f5, f6, f7]))
    (o0 : f0.offset = 0) (o1 : f1.offset = P.cellsOf f0.type) (o2 : f2.offset = P.cellsOf f0.type + P.cellsOf f1.type) (o3 : f3.offset = P.cellsOf f0.type + P.cellsOf f1.type + P.cellsOf f2.type) (o4 : f4.offset = P.cellsOf f0.type + P.cellsOf f1.type + P.cellsOf f2.type + P.cellsOf f3.type) (o5 : f5.offset = P.cellsOf f0.type + P.cellsOf f1.type + P.cellsOf f2.type + P.cellsOf f3.type + P.cellsOf f4.type) (o6 : f6.offset = P.cellsOf f0.type + P.cellsOf f1.type + P.cellsOf f2.type + P.cellsOf f3.type + P.cellsOf f4.type + P.cellsOf f5.type) (o7 : f7.offset = P.cellsOf f0.type + P.cellsOf f1.type + P.cellsOf f2.type + P.cellsOf f3.type + P.cellsOf f4.type + P.cellsOf f5.type + P.cellsOf f6.type) (hs : P.cellsOf t = P.cellsOf f0.type + P.cellsOf f1.type + P.cellsOf f2.type + P.cellsOf f3.type + P.cellsOf f4.type + P.cellsOf f5.type + P.cellsOf f6.type + P.cellsOf f7.type)
    (h0 : DecF enc P W base sp hd n f0.type e0 φ0) (h1 : DecF enc P W base sp hd n f1.type e1 φ1) (h2 : DecF enc P W base sp hd n f2.type e2 φ2) (h3 : DecF enc P W base sp hd n f3.type e3 φ3) (h4 : DecF enc P W base sp hd n f4.type e4 φ4) (h5 : DecF enc P W base sp hd n f5.type e5 φ5) (h6 : DecF enc P W base sp hd n f6.type e6 φ6) (h7 : DecF enc P W base sp hd n f7.type e7 φ7) :
    DecF enc P W base sp hd (n + 1) t (fun p : α0 × α1 × α2 × α3 × α4 × α5 × α6 × α7 => e0 (p.1) ++ (e1 (p.2.1) ++ (e2 (p.2.2.1) ++ (e3 (p.2.2.2.1) ++ (e4 (p.2.2.2.2.1) ++ (e5 (p.2.2.2.2.2.1) ++ (e6 (p.2.2.2.2.2.2.1) ++ (e7 (p.2.2.2.2.2.2.2))))))))) (fun p => φ0 (p.1) ∧ φ1 (p.2.1) ∧ φ2 (p.2.2.1) ∧ φ3 (p.2.2.2.1) ∧ φ4 (p.2.2.2.2.1) ∧ φ5 (p.2.2.2.2.2.1) ∧ φ6 (p.2.2.2.2.2.2.1) ∧ φ7 (p.2.2.2.2.2.2.2)) := fun cs x hx => by
  obtain ⟨xs, m, hm, _, hl, hlen, hf⟩ := DataW.trod_struct ht hx
  cases hm
  match xs, hlen with
  | [y0, y1, y2, y3, y4, y5, y6, y7], _ =>
    have g0 := hf 0 f0 rfl
    have g1 := hf 1 f1 rfl
    have g2 := hf 2 f2 rfl
    have g3 := hf 3 f3 rfl
    have g4 := hf 4 f4 rfl
    have g5 := hf 5 f5 rfl
    have g6 := hf 6 f6 rfl
    have g7 := hf 7 f7 rfl
    rw [o0, List.drop_zero] at g0
    rw [o1] at g1
    rw [o2] at g2
    rw [o3] at g3
    rw [o4] at g4
    rw [o5] at g5
    rw [o6] at g6
    rw [o7] at g7
    obtain ⟨a0, w0, h0⟩ := h0 _ _ g0
    obtain ⟨a1, w1, h1⟩ := h1 _ _ g1
    obtain ⟨a2, w2, h2⟩ := h2 _ _ g2
    obtain ⟨a3, w3, h3⟩ := h3 _ _ g3
    obtain ⟨a4, w4, h4⟩ := h4 _ _ g4
    obtain ⟨a5, w5, h5⟩ := h5 _ _ g5
    obtain ⟨a6, w6, h6⟩ := h6 _ _ g6
    obtain ⟨a7, w7, h7⟩ := h7 _ _ g7
    rw [List.take_of_length_le (by rw [List.length_drop]; omega)] at h7
    exact ⟨(a0, a1, a2, a3, a4, a5, a6, a7), ⟨w0, w1, w2, w3, w4, w5, w6, w7⟩, (All2.cut _ h0 (All2.cut _ (by simp only [List.drop_drop, Nat.add_assoc] at h1 ⊢; exact h1) (All2.cut _ (by simp only [List.drop_drop, Nat.add_assoc] at h2 ⊢; exact h2) (All2.cut _ (by simp only [List.drop_drop, Nat.add_assoc] at h3 ⊢; exact h3) (All2.cut _ (by simp only [List.drop_drop, Nat.add_assoc] at h4 ⊢; exact h4) (All2.cut _ (by simp only [List.drop_drop, Nat.add_assoc] at h5 ⊢; exact h5) (All2.cut _ (by simp only [List.drop_drop, Nat.add_assoc] at h6 ⊢; exact h6) (by simp only [List.drop_drop, Nat.add_assoc] at h7 ⊢; exact h7))))))))⟩
end
end SX

import Derived.Test.YtmfadfkjnfdngaaGreatDoorM5
import Derived.ProofKit
import Derived.OpenShut
import Derived.ShutString
import Derived.ChangeOld
import Derived.Carry
import Derived.Below
import Derived.Lib.SmallJoins
import Derived.Deep.Strs
set_option linter.unusedVariables false
set_option linter.unusedSimpArgs false
namespace SX
open Go Go.RowKit Go.ChangeShapes Go.WideShapes Go.ChangeAt Go.Joins
section
variable {H : Type} {enc : TypeId × Value → H} {P : Program} {W : World} {base : Nat} {sp : Nat → Bool} {hd : Bool}
def DecF (enc : TypeId × Value → H) (P : Program) (W : World) (base : Nat) (sp : Nat → Bool) (hd : Bool) {α : Type} (n : Nat) (t : TypeId) (e : α → List CA) (φ : α → Prop) : Prop :=
  ∀ cs x, DataW.trod enc P W base sp hd n t cs = some x → ∃ a, φ a ∧ All2 (CA.has none' W) (e a) cs
theorem DecF.conv {α β : Type} {n : Nat} {t : TypeId} {e : α → List CA} {φ : α → Prop} {e' : β → List CA} {ψ : β → Prop} (h : DecF enc P W base sp hd n t e φ) (f : α → β) (hf : ∀ a, φ a → ψ (f a)) (he : ∀ a, e' (f a) = e a) : DecF enc P W base sp hd n t e' ψ :=
  fun cs x hx => let ⟨a, h1, h2⟩ := h cs x hx; ⟨f a, hf a h1, by rw [he]; exact h2⟩
theorem dec_int {n : Nat} {t : TypeId} {k : IntKind} (ht : P.underlying t = some (.int k)) : DecF enc P W base sp hd n t (fun z : Int => [.val (.int k z)]) (fun z => (Lit.int k z).wf = true) := fun cs x hx => by
  obtain ⟨z, rfl, _, hw⟩ := DataW.trod_int ht hx
  exact ⟨z, hw, rfl, trivial⟩
theorem dec_bool {n : Nat} {t : TypeId} (ht : P.underlying t = some .bool) : DecF enc P W base sp hd n t (fun b : Bool => [.val (.bool b)]) (fun _ => True) := fun cs x hx => by
  obtain ⟨z, rfl, _⟩ := DataW.trod_bool ht hx
  exact ⟨z, trivial, rfl, trivial⟩
theorem dec_str {n : Nat} {t : TypeId} (ht : P.underlying t = some .string) : DecF enc P W base sp hd n t (fun l : List UInt8 => [.val (str l)]) (fun l => l.length ≤ maxLen) := fun cs x hx => by
  obtain ⟨s, rfl, _, hs⟩ := DataW.trod_string ht hx
  exact ⟨s.data.toList, hs, rfl, trivial⟩
theorem All2.cut {α β : Type} {p : α → β → Prop} {a b : List α} {cs : List β} (k : Nat) (h1 : All2 p a (cs.take k)) (h2 : All2 p b (cs.drop k)) : All2 p (a ++ b) cs := by
  have := h1.append h2
  rwa [List.take_append_drop] at this
theorem dec_struct2 {n : Nat} {α β : Type} {t : TypeId} {f0 f1 : Go.Field} {e0 : α → List CA} {e1 : β → List CA} {φ0 : α → Prop} {φ1 : β → Prop} (ht : P.underlying t = some (.struct #[f0, f1]))
    (o0 : f0.offset = 0) (o1 : f1.offset = P.cellsOf f0.type) (hs : P.cellsOf t = P.cellsOf f0.type + P.cellsOf f1.type)
    (h0 : DecF enc P W base sp hd n f0.type e0 φ0) (h1 : DecF enc P W base sp hd n f1.type e1 φ1) :
    DecF enc P W base sp hd (n + 1) t (fun p : α × β => e0 p.1 ++ e1 p.2) (fun p => φ0 p.1 ∧ φ1 p.2) := fun cs x hx => by
  obtain ⟨xs, m, hm, _, hl, hlen, hf⟩ := DataW.trod_struct ht hx
  cases hm
  match xs, hlen with
  | [y0, y1], _ =>
    have g0 := hf 0 f0 rfl
    have g1 := hf 1 f1 rfl
    rw [o0, List.drop_zero] at g0
    rw [o1] at g1
    obtain ⟨a, ha, h0⟩ := h0 _ _ g0
    obtain ⟨b, hb, h1⟩ := h1 _ _ g1
    rw [List.take_of_length_le (by rw [List.length_drop]; omega)] at h1
    exact ⟨(a, b), ⟨ha, hb⟩, All2.cut _ h0 h1⟩
theorem dec_struct3 {n : Nat} {α β γ : Type} {t : TypeId} {f0 f1 f2 : Go.Field} {e0 : α → List CA} {e1 : β → List CA} {e2 : γ → List CA} {φ0 : α → Prop} {φ1 : β → Prop} {φ2 : γ → Prop} (ht : P.underlying t = some (.struct #[f0, f1, f2]))
    (o0 : f0.offset = 0) (o1 : f1.offset = P.cellsOf f0.type) (o2 : f2.offset = P.cellsOf f0.type + P.cellsOf f1.type) (hs : P.cellsOf t = P.cellsOf f0.type + P.cellsOf f1.type + P.cellsOf f2.type)
    (h0 : DecF enc P W base sp hd n f0.type e0 φ0) (h1 : DecF enc P W base sp hd n f1.type e1 φ1) (h2 : DecF enc P W base sp hd n f2.type e2 φ2) :
    DecF enc P W base sp hd (n + 1) t (fun p : α × β × γ => e0 p.1 ++ (e1 p.2.1 ++ e2 p.2.2)) (fun p => φ0 p.1 ∧ φ1 p.2.1 ∧ φ2 p.2.2) := fun cs x hx => by
  obtain ⟨xs, m, hm, _, hl, hlen, hf⟩ := DataW.trod_struct ht hx
  cases hm
  match xs, hlen with
  | [y0, y1, y2], _ =>
    have g0 := hf 0 f0 rfl
    have g1 := hf 1 f1 rfl
    have g2 := hf 2 f2 rfl
    rw [o0, List.drop_zero] at g0
    rw [o1] at g1
    rw [o2] at g2
    obtain ⟨a, ha, h0⟩ := h0 _ _ g0
    obtain ⟨b, hb, h1⟩ := h1 _ _ g1
    obtain ⟨c, hc, h2⟩ := h2 _ _ g2
    rw [List.take_of_length_le (by rw [List.length_drop]; omega)] at h2
    exact ⟨(a, b, c), ⟨ha, hb, hc⟩, All2.cut _ h0 (All2.cut _ h1 (by rw [List.drop_drop]; exact h2))⟩
theorem exists_list {α : Type} {p : Nat → α → Prop} : ∀ n, (∀ i, i < n → ∃ a, p i a) → ∃ l : List α, l.length = n ∧ ∀ i a, l[i]? = some a → p i a
  | 0, _ => ⟨[], rfl, fun i a h => by simp at h⟩
  | n + 1, h => by
    obtain ⟨l, hl, hp⟩ := exists_list n fun i hi => h i (by omega)
    obtain ⟨a, ha⟩ := h n (by omega)
    refine ⟨l ++ [a], by simp [hl], fun i b hb => ?_⟩
    by_cases hi : i < l.length
    · rw [List.getElem?_append_left hi] at hb; exact hp i b hb
    · rw [List.getElem?_append_right (by omega)] at hb
      have h0 : i - l.length = 0 := by
        have := (List.getElem?_eq_some_iff.1 hb).1
        simp at this; omega
      rw [h0] at hb; simp at hb; subst hb
      rw [show i = n by omega]; exact ha
theorem flat_get {α : Type} {enc : α → List CA} {size : Nat} [h : EncLen enc size] {l : List α} {i : Nat} {c : CA} (hc : (l.flatMap enc)[i]? = some c) : ∃ q r a, i = q * size + r ∧ r < size ∧ l[q]? = some a ∧ (enc a)[r]? = some c := by
  induction l generalizing i with
  | nil => simp at hc
  | cons x l ih =>
    rw [List.flatMap_cons] at hc
    by_cases hi : i < (enc x).length
    · rw [List.getElem?_append_left hi] at hc
      exact ⟨0, i, x, by omega, by rw [h.h] at hi; exact hi, rfl, hc⟩
    · rw [List.getElem?_append_right (by omega), h.h] at hc
      obtain ⟨q, r, a, e, hr, ha, hca⟩ := ih hc
      rw [h.h] at hi
      exact ⟨q + 1, r, a, by rw [Nat.add_mul]; omega, hr, by simpa using ha, hca⟩
theorem addr_zero (a : Addr) : a.add 0 = a := rfl
theorem dec_slice {n : Nat} {α : Type} {t e : TypeId} {size : Nat} {enc' : α → List CA} {φ : α → Prop} [hz : EncLen enc' size] (ht : P.underlying t = some (.slice e)) (hs : P.cellsOf e = size) (h : DecF enc P W base sp hd n e enc' φ) :
    DecF enc P W base sp hd (n + 1) t (fun l : List α => [.sat (rowR size enc' l)]) (fun l => l.length ≤ maxLen ∧ ∀ a ∈ l, φ a) := fun cs x hx => by
  rcases DataW.trod_slice ht hx with ⟨rfl, _⟩ | ⟨a, len, cap, elems, rest, m, hm, rfl, rfl, hb, hl, hmx, hlen, hel, _, _⟩
  · exact ⟨[], ⟨Nat.zero_le _, fun a ha => by cases ha⟩, sliceR_iff.2 ⟨none, 0, rfl, Nat.le_refl _, by simp [maxLen], fun _ => rfl, by simp, fun i c hc => by simp at hc⟩, trivial⟩
  · cases hm
    rw [hs] at hel
    obtain ⟨l, hll, hp⟩ := exists_list (p := fun i b => φ b ∧ ∃ cs', W.cells? base (a.add (i * size)) size = some cs' ∧ All2 (CA.has none' W) (enc' b) cs') len (fun i hi => by
      have := hel i hi
      rw [List.getElem?_eq_getElem (by omega)] at this
      obtain ⟨cs', h1, h2⟩ := Option.bind_eq_some_iff.1 this
      obtain ⟨b, hb, hb2⟩ := h _ _ h2
      exact ⟨b, hb, cs', h1, hb2⟩)
    refine ⟨l, ⟨by omega, fun b hb => ?_⟩, sliceR_iff.2 ⟨some a, cap, by rw [hll], by omega, hmx, fun e => (by cases e), flat_len l, fun i c hc => ?_⟩, trivial⟩
    · obtain ⟨i, hi⟩ := List.getElem?_of_mem hb
      exact (hp i b hi).1
    · obtain ⟨q, r, b, rfl, hr, hbq, hcb⟩ := flat_get hc
      obtain ⟨_, cs', h1, h2⟩ := hp q b hbq
      obtain ⟨u, hu, hcu⟩ := h2.get hcb
      have h3 := (World.cells?_some h1).2.2 r hr
      rw [hu] at h3
      have hspt : a.spot = none := by
        have hq := (List.getElem?_eq_some_iff.1 hbq).1
        obtain ⟨_, cs0, k1, k2⟩ := hp 0 _ (List.getElem?_eq_getElem (show 0 < l.length by omega))
        have k3 := (World.cells?_some k1).2.2 0 (by omega)
        have k4 := (World.cells?_some k1).2.1
        rw [Nat.zero_mul, addr_zero, addr_zero, List.getElem?_eq_getElem (by omega)] at k3
        exact World.cell?_spot k3
      obtain ⟨bb, o, spt⟩ := a
      obtain rfl : spt = none := hspt
      refine ⟨bb, o, u, rfl, fun e => e, ?_, hcu⟩
      rw [← h3, Addr.add_lit, Addr.add_lit, Nat.add_assoc]
theorem dec_one {α : Type} {t : TypeId} {v : Value} {d : DataW H} {p : List MemPlace} {R : α → CA} {φ : α → Prop} (h : ∀ n, DecF enc P W base sp hd n t (fun a => [R a]) φ) (hv : v.cells.toList = [v]) (hT : DataW.Trod enc P W base sp hd t v d p) : ∃ a, φ a ∧ (R a).has none' W v := by
  obtain ⟨n, hn⟩ := hT
  obtain ⟨a, ha, hc⟩ := h n _ _ hn
  rw [hv] at hc
  exact ⟨a, ha, hc.1⟩
theorem dec_oneSlice {α : Type} {r : Reach} {b0 : Nat} {t e : TypeId} {v : Value} {d : DataW H} {p : List MemPlace} {R : α → CA} {φ : α → Prop} (ht : P.underlying t = some (.slice e)) (hv : Value.okWide P W r b0 t v) (h : ∀ n, DecF enc P W base sp hd n t (fun a => [R a]) φ) (hT : DataW.Trod enc P W base sp hd t v d p) : ∃ a, φ a ∧ (R a).has none' W v := by
  obtain ⟨a, len, cap, rfl⟩ := okWide_slice ht hv
  exact dec_one h rfl hT
theorem dec_agg {α : Type} {r : Reach} {b0 : Nat} {t : TypeId} {fs : Array Go.Field} {v : Value} {d : DataW H} {p : List MemPlace} {R : α → List CA} {φ : α → Prop} (ht : P.underlying t = some (.struct fs)) (hv : Value.okWide P W r b0 t v) (h : ∀ n, DecF enc P W base sp hd n t R φ) (hT : DataW.Trod enc P W base sp hd t v d p) :
    ∃ a, φ a ∧ ∀ E, (AV.agg ((R a).map Atom.c)).has E none' W v := by
  obtain ⟨cs, rfl, _⟩ := okWide_struct ht hv
  obtain ⟨n, hn⟩ := hT
  obtain ⟨a, ha, hc⟩ := h n _ _ hn
  refine ⟨a, ha, fun E => ⟨cs.toList, by simp, ?_⟩⟩
  have hc' : All2 (CA.has none' W) (R a) cs.toList := hc
  revert hc'
  generalize R a = l
  generalize cs.toList = m
  intro hc'
  induction l generalizing m with
  | nil => cases m with | nil => trivial | cons _ _ => exact hc'.elim
  | cons x l ih => cases m with | nil => exact hc'.elim | cons y m => exact ⟨hc'.1, ih m hc'.2⟩
theorem DecF.zero {α : Type} {t : TypeId} {e : α → List CA} {φ : α → Prop} : DecF enc P W base sp hd 0 t e φ := fun cs x hx => by simp [DataW.trod] at hx
theorem DecF.all {α : Type} {t : TypeId} {e : α → List CA} {φ : α → Prop} (h : ∀ n, DecF enc P W base sp hd (n + 1) t e φ) : ∀ n, DecF enc P W base sp hd n t e φ
  | 0 => DecF.zero
  | n + 1 => h n
end
end SX

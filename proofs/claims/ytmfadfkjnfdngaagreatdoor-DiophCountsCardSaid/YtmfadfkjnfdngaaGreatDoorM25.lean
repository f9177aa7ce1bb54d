import Derived.Test.YtmfadfkjnfdngaaGreatDoorM24
import Derived.WalkKit
import Derived.WalkSpells
set_option linter.unusedVariables false
set_option linter.unusedSimpArgs false
namespace QM
open Go Go.RowKit

theorem hid {p : Prop} (h : p) : Hid p := h
def WB : Nat := 18446744073709551616
theorem WB_pos : 0 < WB := by decide
theorem WB_one : 1 < WB := by decide
theorem WB_eq : WB = 18446744073709551616 := rfl
theorem gd_lt {l : List Nat} (h : Sm WB l) (i : Nat) : gd l i < WB := h.getD WB_pos i
theorem gd_ge {l : List Nat} {i : Nat} (h : l.length ≤ i) : gd l i = 0 := by simp [gd, h]
def Ext (w w' : World) : Prop := Below w.heap.size w w'
theorem Ext.refl (w : World) : Ext w w := Below.refl _ _
theorem Ext.trans {a b c : World} (h : Ext a b) (k : Ext b c) : Ext a c := Below.trans h (Below.mono k h.size)
theorem Ext.size {a b : World} (h : Ext a b) : a.heap.size ≤ b.heap.size := Below.size h
theorem Ext.alloc (w : World) (o : Obj) : Ext w (w.alloc o) := (Below.refl _ _).alloc (Nat.le_refl _) o
theorem Ext.drew (w : World) : Ext w w.drew := (Below.refl _ _).drew
theorem Ext.block {w w' : World} (h : Ext w w') {k : Nat} (hk : k < w.heap.size) : w'.heap[k]? = w.heap[k]? := Below.block h k hk
theorem Ext.cell {w w' : World} (h : Ext w w') {a : Addr} {v : Value} (hc : w.cell? a = some v) : w'.cell? a = some v :=
  (Below.cell h (World.block_lt_of_cell? w a hc)).trans hc

def RN (w : World) (v : Value) (l : List Nat) : Prop :=
  ∃ oa cap, v = .slice oa l.length cap ∧ l.length ≤ cap ∧ cap ≤ maxLen ∧ (oa = none → cap = 0) ∧ Sm WB l ∧
    ∀ i, i < l.length → ∃ b o, oa = some ⟨b, o, none⟩ ∧ w.cell? ⟨b, o + i, none⟩ = some (.int .u64 ((gd l i : Nat) : Int))
theorem RN.ext {w w' : World} {v : Value} {l : List Nat} (h : RN w v l) (he : Ext w w') : RN w' v l := by
  obtain ⟨oa, cap, hv, h1, h2, h3, h4, h5⟩ := h
  exact ⟨oa, cap, hv, h1, h2, h3, h4, fun i hi => let ⟨b, o, e, c⟩ := h5 i hi; ⟨b, o, e, he.cell c⟩⟩
theorem RN.sm {w : World} {v : Value} {l : List Nat} (h : RN w v l) : Sm WB l := by
  obtain ⟨oa, cap, hv, h1, h2, h3, h4, h5⟩ := h; exact h4
theorem RN.nil (w : World) : RN w (.slice none 0 0) [] := ⟨none, 0, rfl, by simp, by simp [maxLen], fun _ => rfl, Sm.nil, fun i hi => by simp at hi⟩
theorem RN.shape {w : World} {v : Value} {l : List Nat} (h : RN w v l) :
    (l = [] ∧ ∃ oa cap, v = .slice oa 0 cap ∧ cap ≤ maxLen ∧ (oa = none → cap = 0)) ∨
    (∃ b o cap, v = .slice (some ⟨b, o, none⟩) l.length cap ∧ 0 < l.length ∧ l.length ≤ cap ∧ cap ≤ maxLen ∧
      ∀ i, i < l.length → w.cell? ⟨b, o + i, none⟩ = some (.int .u64 ((gd l i : Nat) : Int))) := by
  obtain ⟨oa, cap, hv, h1, h2, h3, h4, h5⟩ := h
  rcases Nat.eq_zero_or_pos l.length with h0 | h0
  · have : l = [] := List.eq_nil_of_length_eq_zero h0
    subst this
    exact .inl ⟨rfl, oa, cap, by simpa using hv, h2, h3⟩
  · obtain ⟨b, o, e, _⟩ := h5 0 h0
    subst e
    refine .inr ⟨b, o, cap, hv, h0, h1, h2, fun i hi => ?_⟩
    obtain ⟨b', o', e', c⟩ := h5 i hi
    simp only [Option.some.injEq, Addr.mk.injEq, and_true] at e'
    obtain ⟨rfl, rfl⟩ := e'
    exact c
theorem RN.mk {w : World} {b o cap : Nat} {l : List Nat} (hs : Sm WB l) (h1 : l.length ≤ cap) (h2 : cap ≤ maxLen)
    (h : ∀ i, i < l.length → w.cell? ⟨b, o + i, none⟩ = some (.int .u64 ((gd l i : Nat) : Int))) : RN w (.slice (some ⟨b, o, none⟩) l.length cap) l :=
  ⟨_, cap, rfl, h1, h2, (fun e => by cases e), hs, fun i hi => ⟨b, o, rfl, h i hi⟩⟩
theorem gd_take {l : List Nat} {n i : Nat} (h : i < n) : gd (l.take n) i = gd l i := by
  simp [gd, List.getD_eq_getElem?_getD, List.getElem?_take, h]
theorem RN.take {w : World} {oa : Option Addr} {n cap : Nat} {l : List Nat} (h : RN w (.slice oa n cap) l) {k : Nat} (hk : k ≤ n) : RN w (.slice oa k cap) (l.take k) := by
  obtain ⟨oa', cap', hv, h1, h2, h3, h4, h5⟩ := h
  simp only [Value.slice.injEq] at hv
  obtain ⟨rfl, rfl, rfl⟩ := hv
  have hl : (l.take k).length = k := by rw [List.length_take]; omega
  refine ⟨oa, cap, by rw [hl], by omega, h2, h3, h4.take k, fun i hi => ?_⟩
  obtain ⟨b, o, e, c⟩ := h5 i (by omega)
  exact ⟨b, o, e, by rw [c, gd_take (by omega)]⟩
theorem RN.len {w : World} {oa : Option Addr} {n cap : Nat} {l : List Nat} (h : RN w (.slice oa n cap) l) : n = l.length := by
  obtain ⟨oa', cap', hv, _⟩ := h
  simp only [Value.slice.injEq] at hv
  exact hv.2.1
def NN (w : World) (v : Value) (n : Nat) : Prop := ∃ l, RN w v l ∧ Nrm l ∧ nval WB l = n ∧ (l = [] → v = .slice none 0 0)
end QM

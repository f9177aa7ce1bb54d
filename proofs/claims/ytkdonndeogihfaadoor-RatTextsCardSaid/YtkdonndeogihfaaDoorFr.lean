import Derived.Test.YtkdonndeogihfaaDoorSxk
import Derived.ProofKit
import Derived.OpenShut
import Derived.ShutString
import Derived.ChangeOld
import Derived.Carry
import Derived.Below
import Derived.Lib.SmallJoins
/- What comes in, as the symbolic run's representations. -/
set_option linter.unusedVariables false
set_option linter.unusedSimpArgs false
namespace Go.Proofs.YtkdonndeogihfaaDoor
open Go.RowKit QM SX
open Go.ChangeShapes Go.WideShapes Go.ChangeAt
theorem raw_nil (W : World) : (rawN []).has none' W (.slice none 0 0) :=
  rawN_iff.2 ⟨Sm.nil, sliceR_iff.2 ⟨none, 0, rfl, Nat.le_refl _, by simp [maxLen], fun _ => rfl, by simp, fun i c hc => by simp at hc⟩⟩
theorem raw_ints {W : World} {a : Addr} {len cap : Nat} {zs : List Int} (hl : len ≤ cap) (hm : cap ≤ maxLen) (hz : len ≤ zs.length)
    (hcell : ∀ i, i < zs.length → W.cell? (a.add i) = some (.int .u64 (zs.getD i 0))) (hwf : ∀ n ∈ zs, (Lit.int .u64 n).wf = true) :
    (rawN ((zs.take len).map Int.toNat)).has none' W (.slice (some a) len cap) := by
  have hlen : ((zs.take len).map Int.toNat).length = len := by simp; omega
  have hb : ∀ i, i < zs.length → 0 ≤ zs.getD i 0 ∧ zs.getD i 0 ≤ 18446744073709551615 := by
    intro i hi
    have := hwf (zs.getD i 0) (by rw [List.getD_eq_getElem?_getD, List.getElem?_eq_getElem hi]; simp)
    exact bounds_u64 this
  refine rawN_iff.2 ⟨?_, sliceR_iff.2 ⟨some a, cap, by rw [hlen], by omega, hm, fun e => (by cases e), by simp, fun i c hc => ?_⟩⟩
  · intro x hx
    obtain ⟨n, hn, rfl⟩ := List.mem_map.1 hx
    have := bounds_u64 (hwf n (List.mem_of_mem_take hn))
    rw [WB_eq]; omega
  · have hi : i < len := by
      have := (List.getElem?_eq_some_iff.1 hc).1
      simp at this; omega
    have hiz : i < zs.length := by omega
    have h0 := hcell i hiz
    obtain ⟨b, o, sp⟩ := a
    have hsp : sp = none := by
      have := World.cell?_spot (hcell 0 (by omega))
      simpa [Addr.add] using this
    subst hsp
    rw [Addr.add_lit] at h0
    refine ⟨b, o, _, rfl, fun e => e, h0, ?_⟩
    have h1 := hb i hiz
    have h2 : ((zs.take len).map Int.toNat).map (fun x : Nat => CA.val (.int .u64 (x : Int))) = (zs.take len).map (fun z => CA.val (.int .u64 (z.toNat : Int))) := by rw [List.map_map]; rfl
    rw [h2, List.getElem?_map, List.getElem?_take, if_pos hi, List.getElem?_eq_getElem hiz] at hc
    simp at hc
    subst hc
    show Value.int .u64 _ = Value.int .u64 _
    rw [List.getD_eq_getElem?_getD, List.getElem?_eq_getElem hiz] at *
    simp at *
    omega
theorem has_zW {neg : Bool} {l : List Nat} {E : Env} {W : World} {v : Value} (h : (rawN l).has none' W v) : (AV.agg [.c (.val (.bool neg)), .c (.sat (rawN l))]).has E none' W (.agg #[.bool neg, v]) :=
  ⟨[.bool neg, v], rfl, rfl, h, trivial⟩
end Go.Proofs.YtkdonndeogihfaaDoor

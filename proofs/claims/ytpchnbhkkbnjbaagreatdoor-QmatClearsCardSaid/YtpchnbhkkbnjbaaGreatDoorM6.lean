import Derived.Test.YtpchnbhkkbnjbaaGreatDoorM4
import Derived.Test.YtpchnbhkkbnjbaaGreatDoorM13
import Derived.Test.YtpchnbhkkbnjbaaGreatDoorM5
/- Fractions that come in. -/
set_option linter.unusedVariables false
set_option linter.unusedSimpArgs false
namespace Go.Proofs.YtpchnbhkkbnjbaaGreatDoor
open Go.RowKit QM SX
open Go.ChangeShapes Go.WideShapes Go.ChangeAt Go.Joins
section
variable {H : Type} {enc : TypeId × Value → H} {P : Program} {W : World} {base : Nat} {sp : Nat → Bool} {hd : Bool}
theorem DecF.imp {α β : Type} {n : Nat} {t : TypeId} {e : α → List CA} {φ : α → Prop} {e' : β → List CA} {ψ : β → Prop} (h : DecF enc P W base sp hd n t e φ) (f : α → β) (hf : ∀ a, φ a → ψ (f a)) (he : ∀ a cs, φ a → All2 (CA.has none' W) (e a) cs → All2 (CA.has none' W) (e' (f a)) cs) : DecF enc P W base sp hd n t e' ψ :=
  fun cs x hx => let ⟨a, h1, h2⟩ := h cs x hx; ⟨f a, hf a h1, he a cs h1 h2⟩
def u64C (z : Int) : List CA := [.val (.int .u64 z)]
instance : EncLen u64C 1 := ⟨fun _ => rfl⟩
theorem decNat (n : Nat) : DecF enc Tryz.prog W base sp hd n 43 (fun l : List Nat => [.sat (rawN l)]) (fun _ => True) :=
  DecF.all (fun n => DecF.imp (dec_slice (enc' := u64C) Tryz.underlying43 (by kernel_rfl) (dec_int Tryz.underlying94)) (fun l => l.map Int.toNat) (fun _ _ => trivial) (fun l cs hl hall => by
    match cs, hall with
    | [v], ⟨h1, _⟩ =>
      refine ⟨?_, trivial⟩
      have hb : ∀ z ∈ l, 0 ≤ z ∧ z ≤ 18446744073709551615 := fun z hz => bounds_u64 (hl.2 z hz)
      refine rawN_iff.2 ⟨?_, ?_⟩
      · intro x hx
        obtain ⟨z, hz, rfl⟩ := List.mem_map.1 hx
        have := hb z hz
        rw [WB_eq]; omega
      · have e : (l.map Int.toNat).map (fun x : Nat => CA.val (.int .u64 (x : Int))) = l.flatMap u64C := by
          clear h1 hall hl
          induction l with
          | nil => rfl
          | cons z l ih =>
            have := hb z (by simp)
            rw [List.map_cons, List.map_cons, List.flatMap_cons, ih (fun y hy => hb y (by simp [hy]))]
            show _ :: _ = CA.val (.int .u64 z) :: _
            rw [show ((z.toNat : Nat) : Int) = z by omega]; rfl
        rw [e, List.length_map]; exact h1)) n
theorem decZ (n : Nat) : DecF enc Tryz.prog W base sp hd n 45 (fun p : Bool × List Nat => [.val (.bool p.1)] ++ [.sat (rawN p.2)]) (fun _ => True) :=
  DecF.all (fun n => DecF.conv (dec_struct2 Tryz.underlying45 rfl (by kernel_rfl) (by kernel_rfl) (dec_bool Tryz.underlying4) (decNat n)) id (fun _ _ => trivial) (fun _ => rfl)) n
theorem decRat (n : Nat) : DecF enc Tryz.prog W base sp hd n 52 (fun p : Bool × List Nat × Bool × List Nat => [.val (.bool p.1), .sat (rawN p.2.1), .val (.bool p.2.2.1), .sat (rawN p.2.2.2)]) (fun _ => True) :=
  DecF.all (fun n => DecF.conv (dec_struct2 Tryz.underlying52 rfl (by kernel_rfl) (by kernel_rfl) (decZ n) (decZ n)) (fun p => (p.1.1, p.1.2, p.2.1, p.2.2)) (fun _ _ => trivial) (fun _ => rfl)) n
end
end Go.Proofs.YtpchnbhkkbnjbaaGreatDoor
/- Matrices of fractions that come in; what a matrix is reduced to. -/
set_option linter.unusedVariables false
set_option linter.unusedSimpArgs false
namespace Go.Proofs.YtpchnbhkkbnjbaaGreatDoor
open Go.RowKit QM SX LA
open Go.ChangeShapes Go.WideShapes Go.ChangeAt Go.Joins
section
variable {H : Type} {enc : TypeId × Value → H} {W : World} {base : Nat} {sp : Nat → Bool} {hd : Bool}
theorem sm_of {l : List Nat} : ∀ {cs : List Value}, All2 (CA.has none' W) [.sat (rawN l)] cs → Sm WB l
  | [v], h => (rawN_iff.1 h.1).1
theorem decNatS (n : Nat) : DecF enc Tryz.prog W base sp hd n 43 (fun l : List Nat => [.sat (rawN l)]) (fun l => Sm WB l) :=
  fun cs x hx => let ⟨l, _, h2⟩ := decNat n cs x hx; ⟨l, sm_of h2, h2⟩
theorem decZS (n : Nat) : DecF enc Tryz.prog W base sp hd n 45 (fun p : Bool × List Nat => [.val (.bool p.1), .sat (rawN p.2)]) (fun p => Sm WB p.2) :=
  DecF.all (fun n => DecF.conv (dec_struct2 Tryz.underlying45 rfl (by kernel_rfl) (by kernel_rfl) (dec_bool Tryz.underlying4) (decNatS n)) id (fun _ h => h.2) (fun _ => rfl)) n
def rqC (p : RawQ) : List CA := q4C (rq p)
instance : EncLen rqC 4 := ⟨fun _ => rfl⟩
theorem decRatS (n : Nat) : DecF enc Tryz.prog W base sp hd n 52 rqC (fun p => Sm WB p.2.1 ∧ Sm WB p.2.2.2) :=
  DecF.all (fun n => DecF.conv (dec_struct2 Tryz.underlying52 rfl (by kernel_rfl) (by kernel_rfl) (decZS n) (decZS n)) (fun p => (p.1.1, p.1.2, p.2.1, p.2.2)) (fun _ h => h) (fun _ => rfl)) n
abbrev RawM := Int × Int × List RawQ
theorem rq_row (l : List RawQ) : rowR 4 rqC l = rowR 4 q4C (l.map rq) := by
  show sliceR 4 l.length (l.flatMap rqC) = sliceR 4 (l.map rq).length ((l.map rq).flatMap q4C)
  rw [List.length_map, List.flatMap_map]; rfl
theorem decRatsS (n : Nat) : DecF enc Tryz.prog W base sp hd n 22 (fun l : List RawQ => [.sat (rowR 4 rqC l)]) (fun l => l.length ≤ maxLen ∧ ∀ a ∈ l, Sm WB a.2.1 ∧ Sm WB a.2.2.2) :=
  DecF.all (fun n => dec_slice Tryz.underlying22 (by kernel_rfl) (decRatS n)) n
theorem decMat (n : Nat) : DecF enc Tryz.prog W base sp hd n 24 (fun p : RawM => [.val (.int .i64 p.1), .val (.int .i64 p.2.1), .sat (rowR 4 q4C (p.2.2.map rq))]) (fun p => RSm p.2.2) :=
  DecF.all (fun n => DecF.conv (dec_struct3 Tryz.underlying24 rfl (by kernel_rfl) (by kernel_rfl) (by kernel_rfl) (dec_int Tryz.underlying3) (dec_int Tryz.underlying3) (decRatsS n)) id (fun p h => h.2.2.2) (fun p => by
    show [CA.val (.int .i64 p.1), CA.val (.int .i64 p.2.1), CA.sat (rowR 4 q4C (p.2.2.map rq))] = [CA.val (.int .i64 p.1), CA.val (.int .i64 p.2.1), CA.sat (rowR 4 rqC p.2.2)]
    rw [rq_row])) n
end
attribute [local irreducible] IntKind.wrap Go1 Reg WP thenK inBlk retQ retF RetF RetOK ResOK CallOK OpOK Sat
attribute [local irreducible] qsub qmul qquo qcmp qadd qv redS mf
theorem kb_2 : ∀ c, c < 5 → kb 2 c ≤ 682 := by decide
theorem kb_2b : ∀ c, c < 6 → kb 2 c ≤ 2730 := by decide
theorem kb_682 : ∀ c, c < 4 → kb 682 c ≤ 49000 := by decide
theorem kb_682c : ∀ c, c < 5 → kb 682 c ≤ 400000 := by decide
theorem FewP.len {r c : Int} {l : List RawQ} {s : Int} {w : Nat} (h : FewP r c l s w) : RLen l w := by
  intro x hx
  obtain ⟨i, hi⟩ := List.mem_iff_getElem?.1 hx
  have hil := at_lt hi
  have := h.1 i x (by have := h.2.2.2; omega) hi
  omega
theorem MV.append {l l' : List Q4} {vs vs' : List Rat} {K K' L : Nat} (h : MV l vs K) (h' : MV l' vs' K') (h1 : ∀ q v, Ra (q4A q) v K → Ra (q4A q) v L) (h2 : ∀ q v, Ra (q4A q) v K' → Ra (q4A q) v L) : MV (l ++ l') (vs ++ vs') L := by
  refine ⟨by rw [List.length_append, List.length_append, h.len, h'.len], fun i q v hq hv => ?_⟩
  rcases Nat.lt_or_ge i l.length with hi | hi
  · rw [List.getElem?_append_left hi] at hq
    rw [List.getElem?_append_left (by rw [← h.len]; exact hi)] at hv
    exact h1 q v (h.ra i q v hq hv)
  · rw [List.getElem?_append_right hi] at hq
    rw [List.getElem?_append_right (by rw [← h.len]; exact hi), ← h.len] at hv
    exact h2 q v (h'.ra _ q v hq hv)
theorem Ra.mono {l : List Atom} {v : Rat} {K L : Nat} (h : Ra l v K) (hK : K ≤ L) : Ra l v L := by
  obtain ⟨x0, x1, x2, x3, p, q, k, m, h1, h2, h3, h4, h5, h6, h7, h8⟩ := h.h
  exact ⟨x0, x1, x2, x3, p, q, k, m, h1, h2, h3, by omega, by omega, h6, h7, h8⟩
theorem MV.mono {l : List Q4} {vs : List Rat} {K L : Nat} (h : MV l vs K) (hK : K ≤ L) : MV l vs L := ⟨h.len, fun i q v hq hv => (h.ra i q v hq hv).mono hK⟩
theorem MV.app {l l' : List Q4} {vs vs' : List Rat} {K : Nat} (h : MV l vs K) (h' : MV l' vs' K) : MV (l ++ l') (vs ++ vs') K := h.append h' (fun _ _ h => h) fun _ _ h => h
theorem _root_.LA.Rref.congr {n w : Nat} {m m' : Nat → Nat → Rat} {ps : List Nat} (h : Rref n w m ps) (he : ∀ i k, i < n → k < w → m' i k = m i k) : Rref n w m' ps :=
  ⟨h.len, h.inc, h.lt, fun i p hp r hr => by rw [he r p hr (h.lt p (List.mem_of_getElem? hp))]; exact h.one i p hp r hr,
    fun i p hp k hk => by
      have h1 := at_lt hp
      have h2 := h.len
      have h3 := h.lt p (List.mem_of_getElem? hp)
      rw [he i k (by omega) (by omega)]; exact h.low i p hp k hk,
    fun r h1 h2 k hk => by rw [he r k h2 hk]; exact h.zero r h1 h2 k hk⟩
theorem vat_app1 {vs vs' : List Rat} {r c i k : Nat} (hl : vs.length = r * c) (hi : i < r) (hk : k < c) : vat (vs ++ vs') c i k = vat vs c i k := by
  have h := idx_lt hi hk
  unfold vat
  rw [List.getD_eq_getElem?_getD, List.getD_eq_getElem?_getD, List.getElem?_append_left (by omega)]
theorem vat_app2 {vs vs' : List Rat} {r c i k : Nat} (hl : vs.length = r * c) : vat (vs ++ vs') c (r + i) k = vat vs' c i k := by
  unfold vat
  rw [List.getD_eq_getElem?_getD, List.getD_eq_getElem?_getD, List.getElem?_append_right (by rw [hl, Nat.add_mul]; omega), hl, Nat.add_mul, show r * c + i * c + k - r * c = i * c + k by omega]
theorem QmatReduces_ok (p : RawM) (hs : RSm p.2.2) : PureOK Tryz.prog 3 [.agg [.c (.val (.int .i64 p.1)), .c (.val (.int .i64 p.2.1)), .c (.sat (rowR 4 q4C (p.2.2.map rq)))]] (.v (.bool true)) := by
  obtain ⟨r, c, l⟩ := p
  dsimp only at hs ⊢
  have cW := con_awake13
  have cFew := con_rFew r c l 4 2
  by_cases hf : FewP r c l 4 2
  · have cFew := cFew.1 hf
    have hlen : (l.map rq).length = l.length := List.length_map _
    by_cases hF : FormedP r c (l.map rq).length
    · have hRL := FewP.len (w := 2) hf
      obtain ⟨n, rfl⟩ : ∃ n : Nat, r = n := ⟨r.toNat, by have := hF.1; omega⟩
      obtain ⟨m, rfl⟩ : ∃ m : Nat, c = m := ⟨c.toNat, by have := hF.2.2.1; omega⟩
      have hn : n ≤ 4 := by have := hf.2.1; omega
      have hm : m ≤ 4 := by have := hf.2.2.1; omega
      have hl : (l.map rq).length = n * m := by
        have := hF.2.2.2.2
        rw [← Int.natCast_mul] at this; omega
      have hnm := Nat.mul_le_mul hn hm
      have hM := MV.raw hs hRL
      have hvl : (l.map rqv).length = n * m := by rw [← hM.len]; exact hl
      have cF := con_rF (cells := (l.map rq).flatMap q4C) hF
      have cR := con_Reduce hM hl (by omega) (by omega) (by decide) (fun k hk => Nat.le_trans (kb_2 k (by omega)) (by decide)) (Nat.le_trans (kb_2 m (by omega)) (by decide))
      rw [matA_matQ] at cR
      have hRW : RW (bgM m 0 (vat (l.map rqv) m) idv n) (m + 0) 2 := bgM_RW (fun i k _ _ => vat_RB (hM.rb (by decide)) (by decide) m i k) (fun i k _ h => absurd h (Nat.not_lt_zero _))
      have hmRB : ∀ v ∈ tabR m (rdM n m 0 (vat (l.map rqv) m) idv) n, RB v 682 := fun v hv => (tabR_RB (fun i k hi hk => red_RB hRW hi (by omega)) v hv).mono (kb_2 m (by omega))
      have hml : (tabR m (rdM n m 0 (vat (l.map rqv) m) idv) n).length = n * m := tabR_len n
      have hmat : ∀ i k, i < n → k < m → vat (tabR m (rdM n m 0 (vat (l.map rqv) m) idv) n) m i k = rdM n m 0 (vat (l.map rqv) m) idv i k := fun i k hi hk => vat_tab hi hk
      have hR := red_rref (r := n) (c := m) (d := 0) (va := vat (l.map rqv) m) (vb := idv)
      have hh : ∀ i, i < n → ∀ k, k < m → vat (l.map rqv) m i k = sm (rdP n m 0 (vat (l.map rqv) m) idv).length (fun j => vat (l.map rqv) m i ((rdP n m 0 (vat (l.map rqv) m) idv).getD j 0) * vat (tabR m (rdM n m 0 (vat (l.map rqv) m) idv) n) m j k) := fun i hi k hk => by
        exact (red_hangs (r := n) (d := 0) (va := vat (l.map rqv) m) (vb := idv) hi hk).trans (sm_congr fun j hj => by rw [hmat j k (by have := hR.len; omega) hk])
      have hst : rdP (n + n) m 0 (vat (l.map rqv ++ tabR m (rdM n m 0 (vat (l.map rqv) m) idv) n) m) idv = rdP n m 0 (vat (l.map rqv) m) idv := red_stack (fun i hi k hk => vat_app1 hvl hi hk) (fun i hi k hk => by rw [vat_app2 hvl, hmat i k hi hk])
      have hR' := hR.congr hmat
      have hps := hR.len
      have hplt := hR.lt
      generalize tabR m (rdM n m 0 (vat (l.map rqv) m) idv) n = ms at *
      have hMm := MV.made hmRB
      have hMS := (hM.mono (show 2 ≤ 682 by decide)).app hMm
      have hml' : (ms.map q4v).length = n * m := by rw [List.length_map]; exact hml
      have cN := con_mNormal hmRB (by decide) hml (by omega) (by omega)
      have cS := con_rStacked (r := n) (c := m) (r' := n) (c' := m) (l := l.map rq) (l' := ms.map q4v) (by omega) (by omega) (by omega) (by omega)
      have cR2 := con_Reduce hMS (r := n + n) (c := m) (by rw [List.length_append, hl, hml', Nat.add_mul]) (by omega) (by omega) (by decide) (fun k hk => kb_682 k (by omega)) (kb_682c m (by omega))
      rw [hst] at cR2
      generalize tabR m (rdM (n + n) m 0 (vat (l.map rqv ++ ms) m) idv) (n + n) = bs at cR2
      generalize rdP n m 0 (vat (l.map rqv) m) idv = ps at *
      have cD := con_mReduced hMm hml' (by omega) (by omega) (by decide) hR'
      have cH : ∀ i, i < n → PureOK Tryz.prog 17 [.agg (matQ n m (l.map rq)), .v (.int .i64 (i : Int)), .agg (matQ n m (ms.map q4v)), .r (rowR 1 piC ps)] (.v (.bool true)) := fun i hi =>
        con_hangs hM hl hMm hml' hi (by omega) (by omega) (by omega) hps hplt (by decide) (by decide) (by omega) (hh i hi)
      clear hRW hmRB hmat hR hh hst hR' hRL hs
      refine PureOK.fnF Tryz.func3 Tryz.results3 Tryz.ntmps3 rfl rfl rfl (by simp [AV.ids, AV0.ids, Atom.ids]) rfl (fun w0 T B E0 hB => ?_)
      refine SX.goF ?_
      refine W.loop (fun i => i ≤ n) (fun i => [(1, .ptr 1 0), (3, .ptr 3 0), (4, .r (rowR 1 piC ps)), (6, .v (.int .i64 (i : Int)))]) (fun i => [(1, .box 24 (matQ n m (l.map rq))), (3, .box 24 (matQ n m (ms.map q4v)))]) (fun i => n - i) 0 (Nat.zero_le _) (fun i hi => ?_)
      by_cases hi2 : i < n
      · have cHi := cH i hi2
        refine SX.goF ?_
        exact W.next (i + 1) hi2 (by omega)
      · obtain rfl : i = n := by omega
        refine SX.goF ?_
        refine retB ?_; exact decide_eq_true (by omega)
    · have cF := con_rF0 (cells := (l.map rq).flatMap q4C) hF
      have cR := con_Reduce0 hF
      have cN := con_rNone
      refine PureOK.fnF Tryz.func3 Tryz.results3 Tryz.ntmps3 rfl rfl rfl (by simp [AV.ids, AV0.ids, Atom.ids]) rfl (fun w0 T B E0 hB => ?_)
      refine SX.goF ?_
      refine retB ?_; first | rfl | exact decide_eq_true rfl
  · have cFew := cFew.2 hf
    refine PureOK.fnF Tryz.func3 Tryz.results3 Tryz.ntmps3 rfl rfl rfl (by simp [AV.ids, AV0.ids, Atom.ids]) rfl (fun w0 T B E0 hB => ?_)
    refine SX.goF ?_
    exact retB rfl
end Go.Proofs.YtpchnbhkkbnjbaaGreatDoor
/- An inverse is one on both sides. -/
set_option linter.unusedVariables false
set_option linter.unusedSimpArgs false
namespace Go.Proofs.YtpchnbhkkbnjbaaGreatDoor
open Go.RowKit QM SX LA
attribute [local irreducible] IntKind.wrap Go1 Reg WP thenK inBlk retQ retF RetF RetOK ResOK CallOK OpOK Sat
attribute [local irreducible] qsub qmul qquo qcmp qadd qv redS mf
/-- A formed matrix of a size that is looked at. -/
theorem fewMat {r c : Int} {l : List RawQ} {s w : Int} {k : Nat} (hf : FewP r c l s w) (hk : s = k) (hF : FormedP r c (l.map rq).length) : ∃ n m : Nat, r = n ∧ c = m ∧ n ≤ k ∧ m ≤ k ∧ (l.map rq).length = n * m := by
  obtain ⟨n, rfl⟩ : ∃ n : Nat, r = n := ⟨r.toNat, by have := hF.1; omega⟩
  obtain ⟨m, rfl⟩ : ∃ m : Nat, c = m := ⟨c.toNat, by have := hF.2.2.1; omega⟩
  have h3 := hF.2.2.2.2
  rw [← Int.natCast_mul] at h3
  exact ⟨n, m, rfl, rfl, by have := hf.2.1; omega, by have := hf.2.2.1; omega, by omega⟩
theorem prod_RB {c K K' : Nat} {va vb : Nat → Nat → Rat} {i k : Nat} (ha : ∀ j, j < c → RB (va i j) K) (hb : ∀ j, j < c → RB (vb j k) K') : RB (prodV c va vb i k) (1 + c * (K + K' + 1)) :=
  sm_RB fun j hj => (ha j hj).mul (hb j hj)
theorem QmatInverts_ok (p : RawM) (hs : RSm p.2.2) : PureOK Tryz.prog 4 [.agg [.c (.val (.int .i64 p.1)), .c (.val (.int .i64 p.2.1)), .c (.sat (rowR 4 q4C (p.2.2.map rq)))]] (.v (.bool true)) := by
  obtain ⟨r, c, l⟩ := p
  dsimp only at hs ⊢
  have cW := con_awake13
  have cFew := con_rFew r c l 4 2
  by_cases hf : FewP r c l 4 2
  · have cFew := cFew.1 hf
    by_cases hF : FormedP r c (l.map rq).length
    · have cF := con_rF (cells := (l.map rq).flatMap q4C) hF
      by_cases hrc : r = c
      · have hRL := FewP.len (w := 2) hf
        obtain ⟨n, m, rfl, rfl, hn, hm, hl⟩ := fewMat (k := 4) hf rfl hF
        obtain rfl : n = m := by omega
        have hM := MV.raw hs hRL
        have hnm := Nat.mul_le_mul hn hn
        have hRBv := vat_RB (hM.rb (by decide)) (by decide) n
        have cI := con_Inverse hM hl (by omega) (by decide) (fun k hk => Nat.le_trans (kb_2 k (by omega)) (by decide)) (Nat.le_trans (kb_2 n (by omega)) (by decide))
        have cR := con_Reduce hM hl (by omega) (by omega) (by decide) (fun k hk => Nat.le_trans (kb_2 k (by omega)) (by decide)) (Nat.le_trans (kb_2 n (by omega)) (by decide))
        have hu := (red_uniq (r := n) (c := n) (d := n) (r' := n) (d' := 0) (va := vat (l.map rqv) n) (vb := idv) (va' := vat (l.map rqv) n) (vb' := idv) Eqv.refl).1
        rw [← hu, matA_matQ] at cR
        have hlen := (red_rref (r := n) (c := n) (d := n) (va := vat (l.map rqv) n) (vb := idv)).len
        have hRW : RW (bgM n n (vat (l.map rqv) n) idv n) (n + n) 2 := bgM_RW (fun i k _ _ => hRBv i k) (fun i k _ _ => (idv_RB i k).mono (by decide))
        have cNo := con_rNone
        generalize (tabR n (rdM n n 0 (vat (l.map rqv) n) idv) n).map q4v = ms at cR
        by_cases hp : (rdP n n n (vat (l.map rqv) n) idv).length < n
        · rw [if_pos hp] at cI
          generalize rdP n n n (vat (l.map rqv) n) idv = ps at *
          refine PureOK.fnF Tryz.func4 Tryz.results4 Tryz.ntmps4 rfl rfl rfl (by simp [AV.ids, AV0.ids, Atom.ids]) rfl (fun w0 T B E0 hB => ?_)
          refine SX.goF ?_
          refine retB ?_; first | rfl | exact decide_eq_true rfl
        · rw [if_neg hp] at cI
          have hinv := red_inv (n := n) (va := vat (l.map rqv) n) (by omega)
          have hTB : ∀ i k, i < n → k < n → RB (rdM n n n (vat (l.map rqv) n) idv i (n + k)) 682 := fun i k hi hk => (red_RB hRW hi (by omega)).mono (kb_2 n (by omega))
          have hTR : ∀ v ∈ tabR n (fun i k => rdM n n n (vat (l.map rqv) n) idv i (n + k)) n, RB v 682 := tabR_RB hTB
          have hTv : ∀ i k, i < n → k < n → vat (tabR n (fun i k => rdM n n n (vat (l.map rqv) n) idv i (n + k)) n) n i k = rdM n n n (vat (l.map rqv) n) idv i (n + k) := fun i k hi hk => vat_tab hi hk
          have hTl : (tabR n (fun i k => rdM n n n (vat (l.map rqv) n) idv i (n + k)) n).length = n * n := tabR_len n
          have h1 : ∀ i k, i < n → k < n → prodV n (vat (l.map rqv) n) (vat (tabR n (fun i k => rdM n n n (vat (l.map rqv) n) idv i (n + k)) n) n) i k = idv i k := fun i k hi hk => by
            rw [← hinv.1 i hi k hk]; exact sm_congr fun j hj => by rw [hTv j k hj hk]
          have h2 : ∀ i k, i < n → k < n → prodV n (vat (tabR n (fun i k => rdM n n n (vat (l.map rqv) n) idv i (n + k)) n) n) (vat (l.map rqv) n) i k = idv i k := fun i k hi hk => by
            rw [← hinv.2 i hi k hk]; exact sm_congr fun j hj => by rw [hTv i j hi hj]
          generalize tabR n (fun i k => rdM n n n (vat (l.map rqv) n) idv i (n + k)) n = ts at *
          have hMT := MV.made hTR
          have hTl' : (ts.map q4v).length = n * n := by rw [List.length_map]; exact hTl
          have hTRv := vat_RB hTR (by decide) n
          rw [matA_matQ] at cI
          have cN := con_mNormal hTR (by decide) hTl (by omega) (by omega)
          have c1 := con_mMul hM hl hMT hTl' (by omega) (by omega) (by omega) (by decide) (by decide) (by have := Nat.mul_le_mul_right (2 + 682 + 1) (show n + 1 ≤ 5 by omega); omega)
          have c2 := con_mMul hMT hTl' hM hl (by omega) (by omega) (by omega) (by decide) (by decide) (by have := Nat.mul_le_mul_right (682 + 2 + 1) (show n + 1 ≤ 5 by omega); omega)
          rw [matA_matQ] at c1 c2
          have b1 : 1 + n * (2 + 682 + 1) ≤ 2741 := by have := Nat.mul_le_mul_right (2 + 682 + 1) (show n ≤ 4 by omega); omega
          have b2 : 1 + n * (682 + 2 + 1) ≤ 2741 := by have := Nat.mul_le_mul_right (682 + 2 + 1) (show n ≤ 4 by omega); omega
          have p1 : MV ((tabR n (prodV n (vat (l.map rqv) n) (vat ts n)) n).map q4v) (tabR n (prodV n (vat (l.map rqv) n) (vat ts n)) n) 2741 := MV.made (tabR_RB fun i k hi hk => (prod_RB (fun j _ => hRBv i j) (fun j _ => hTRv j k)).mono b1)
          have p2 : MV ((tabR n (prodV n (vat ts n) (vat (l.map rqv) n)) n).map q4v) (tabR n (prodV n (vat ts n) (vat (l.map rqv) n)) n) 2741 := MV.made (tabR_RB fun i k hi hk => (prod_RB (fun j _ => hTRv i j) (fun j _ => hRBv j k)).mono b2)
          have o1 := con_mOne p1 (by rw [List.length_map]; exact tabR_len n) (by omega) (fun i k hi hk => (vat_tab hi hk).trans (h1 i k hi hk)) (by decide)
          have o2 := con_mOne p2 (by rw [List.length_map]; exact tabR_len n) (by omega) (fun i k hi hk => (vat_tab hi hk).trans (h2 i k hi hk)) (by decide)
          generalize (tabR n (prodV n (vat (l.map rqv) n) (vat ts n)) n).map q4v = x1 at c1 o1
          generalize (tabR n (prodV n (vat ts n) (vat (l.map rqv) n)) n).map q4v = x2 at c2 o2
          generalize rdP n n n (vat (l.map rqv) n) idv = ps at *
          clear hTB hTR hTv h1 h2 hinv hRW hu hRBv hTRv p1 p2
          refine PureOK.fnF Tryz.func4 Tryz.results4 Tryz.ntmps4 rfl rfl rfl (by simp [AV.ids, AV0.ids, Atom.ids]) rfl (fun w0 T B E0 hB => ?_)
          refine SX.goF ?_
          refine retB ?_; first | rfl | exact decide_eq_true rfl
      · have cI := con_Inverse0 (r := r) (c := c) (l := l.map rq) (fun h => hrc h.2)
        have cN := con_rNone
        refine PureOK.fnF Tryz.func4 Tryz.results4 Tryz.ntmps4 rfl rfl rfl (by simp [AV.ids, AV0.ids, Atom.ids]) rfl (fun w0 T B E0 hB => ?_)
        refine SX.goF ?_
        refine retB ?_; first | rfl | exact decide_eq_true rfl
    · have cF := con_rF0 (cells := (l.map rq).flatMap q4C) hF
      have cI := con_Inverse0 (r := r) (c := c) (l := l.map rq) (fun h => hF h.1)
      have cN := con_rNone
      refine PureOK.fnF Tryz.func4 Tryz.results4 Tryz.ntmps4 rfl rfl rfl (by simp [AV.ids, AV0.ids, Atom.ids]) rfl (fun w0 T B E0 hB => ?_)
      refine SX.goF ?_
      refine retB ?_; first | rfl | exact decide_eq_true rfl
  · have cFew := cFew.2 hf
    refine PureOK.fnF Tryz.func4 Tryz.results4 Tryz.ntmps4 rfl rfl rfl (by simp [AV.ids, AV0.ids, Atom.ids]) rfl (fun w0 T B E0 hB => ?_)
    refine SX.goF ?_
    exact retB rfl
end Go.Proofs.YtpchnbhkkbnjbaaGreatDoor
/- What becomes 0, and what stands in it. -/
set_option linter.unusedVariables false
set_option linter.unusedSimpArgs false
namespace Go.Proofs.YtpchnbhkkbnjbaaGreatDoor
open Go.RowKit QM SX LA
attribute [local irreducible] IntKind.wrap Go1 Reg WP thenK inBlk retQ retF RetF RetOK ResOK CallOK OpOK Sat
attribute [local irreducible] qsub qmul qquo qcmp qadd qv redS mf
theorem fi_idx {ps : List Nat} (hnd : ps.Nodup) {j p : Nat} (hp : ps[j]? = some p) : (fi (isI p) ps 0).toNat = j := by
  obtain ⟨j', h1, h2⟩ := fi_at (List.mem_of_getElem? hp)
  rw [h1, Int.toNat_natCast]
  exact (List.getElem?_inj (at_lt h2) hnd).1 (h2.trans hp.symm)
theorem kerX_piv {ps fr : List Nat} {m : Nat → Nat → Rat} (hnd : ps.Nodup) {j k : Nat} (hj : j < ps.length) : kerX ps fr m (ps.getD j 0) k = -m j (fr.getD k 0) := by
  have hp := getE hj
  unfold kerX
  rw [if_pos (List.mem_of_getElem? hp), fi_idx hnd hp]
theorem kerX_free {ps fr : List Nat} {m : Nat → Nat → Rat} {i k : Nat} (h : i ∉ ps) : kerX ps fr m i k = if fr.getD k 0 = i then 1 else 0 := by
  unfold kerX; rw [if_neg h]
theorem kerX_idv {c : Nat} {ps : List Nat} {m : Nat → Nat → Rat} {i k : Nat} (hi : i < c) (h : i ∉ ps) (hk : k < (frees c ps).length) : kerX ps (frees c ps) m i k = idv k (frees i ps).length := by
  rw [kerX_free h]
  unfold idv
  have hat := frees_at hi h
  have hkk := getE hk
  by_cases hke : k = (frees i ps).length
  · rw [if_pos hke]
    rw [← hke, hkk] at hat
    rw [if_pos (Option.some.inj hat)]
  · rw [if_neg hke, if_neg fun e => hke ?_]
    rw [e, ← hat] at hkk
    exact (List.getElem?_inj hk frees_nodup).1 hkk
set_option maxHeartbeats 2000000 in
theorem QmatKernels_ok (p : RawM) (hs : RSm p.2.2) : PureOK Tryz.prog 7 [.agg [.c (.val (.int .i64 p.1)), .c (.val (.int .i64 p.2.1)), .c (.sat (rowR 4 q4C (p.2.2.map rq)))]] (.v (.bool true)) := by
  obtain ⟨r, c, l⟩ := p
  dsimp only at hs ⊢
  have cW := con_awake13
  have cFew := con_rFew r c l 5 2
  by_cases hf : FewP r c l 5 2
  · have cFew := cFew.1 hf
    by_cases hF : FormedP r c (l.map rq).length
    · have cF := con_rF (cells := (l.map rq).flatMap q4C) hF
      have hRL := FewP.len (w := 2) hf
      obtain ⟨n, m, rfl, rfl, hn, hm, hl⟩ := fewMat (k := 5) hf rfl hF
      have hM := MV.raw hs hRL
      have hnm := Nat.mul_le_mul hn hm
      have hRBv := vat_RB (hM.rb (by decide)) (by decide) m
      have hkb : ∀ k, k < m → kb 2 k ≤ 49000 := fun k hk => Nat.le_trans (kb_2b k (by omega)) (by decide)
      have hkc : kb 2 m ≤ 400000 := Nat.le_trans (kb_2b m (by omega)) (by decide)
      have cK := con_Kernel hM hl (by omega) (by omega) (by decide) hkb hkc
      have cR := con_Reduce hM hl (by omega) (by omega) (by decide) hkb hkc
      rw [matA_matQ] at cR cK
      have hR := red_rref (r := n) (c := m) (d := 0) (va := vat (l.map rqv) m) (vb := idv)
      have hRW : RW (bgM m 0 (vat (l.map rqv) m) idv n) (m + 0) 2 := bgM_RW (fun i k _ _ => hRBv i k) (fun i k _ h => absurd h (Nat.not_lt_zero _))
      have hmB : ∀ i k, i < n → k < m → RB (rdM n m 0 (vat (l.map rqv) m) idv i k) 2730 := fun i k hi hk => (red_RB hRW hi (by omega)).mono (kb_2b m (by omega))
      have hker : ∀ (x : Nat → Nat → Rat) (f k : Nat), f < m → f ∉ rdP n m 0 (vat (l.map rqv) m) idv → (∀ j, j < (rdP n m 0 (vat (l.map rqv) m) idv).length → x ((rdP n m 0 (vat (l.map rqv) m) idv).getD j 0) k = -rdM n m 0 (vat (l.map rqv) m) idv j f) → (∀ i, i < m → i ∉ rdP n m 0 (vat (l.map rqv) m) idv → x i k = if i = f then 1 else 0) → ∀ i, i < n → sm m (fun j => vat (l.map rqv) m i j * x j k) = 0 := fun x f k h1 h2 h3 h4 i hi => red_kernel h1 h2 h3 h4 hi
      have hlen := hR.len
      have hnd := inc_nodup hR.inc
      have hplt := hR.lt
      have hfl := frees_len hnd hplt
      generalize (tabR m (rdM n m 0 (vat (l.map rqv) m) idv) n).map q4v = ms at cR
      generalize rdM n m 0 (vat (l.map rqv) m) idv = M at *
      generalize rdP n m 0 (vat (l.map rqv) m) idv = ps at *
      have hfn : (frees m ps).length ≤ 5 := by omega
      have hXB : ∀ i k, i < m → k < (frees m ps).length → RB (kerX ps (frees m ps) M i k) 2730 := fun i k hi hk => by
        have hkk := getE hk
        unfold kerX
        split
        · rename_i h
          obtain ⟨j, h1, h2⟩ := fi_at h
          rw [h1, Int.toNat_natCast]
          have := at_lt h2
          exact (hmB j _ (by omega) (frees_mem.1 (List.mem_of_getElem? hkk)).1).neg
        · split
          · exact RB.one (by decide)
          · exact RB.zero (by decide)
      have hXR : ∀ v ∈ tabR (frees m ps).length (kerX ps (frees m ps) M) m, RB v 2730 := tabR_RB hXB
      have hXl : (tabR (frees m ps).length (kerX ps (frees m ps) M) m).length = m * (frees m ps).length := tabR_len m
      have hXv : ∀ i k, i < m → k < (frees m ps).length → vat (tabR (frees m ps).length (kerX ps (frees m ps) M) m) (frees m ps).length i k = kerX ps (frees m ps) M i k := fun i k hi hk => vat_tab hi hk
      have hprod : ∀ i k, i < n → k < (frees m ps).length → prodV m (vat (l.map rqv) m) (vat (tabR (frees m ps).length (kerX ps (frees m ps) M) m) (frees m ps).length) i k = 0 := fun i k hi hk => by
        have hkk := getE hk
        have hfm := frees_mem.1 (List.mem_of_getElem? hkk)
        refine hker _ _ k hfm.1 hfm.2 (fun j hj => ?_) (fun i' hi' hip => ?_) i hi
        · rw [hXv _ k (hplt _ (List.mem_of_getElem? (getE hj))) hk, kerX_piv hnd hj]
        · rw [hXv i' k hi' hk, kerX_free hip]
          by_cases e : (frees m ps).getD k 0 = i'
          · rw [if_pos e, if_pos e.symm]
          · rw [if_neg e, if_neg fun h => e h.symm]
      generalize hX : tabR (frees m ps).length (kerX ps (frees m ps) M) m = xs at *
      have hid : ∀ i k, i < m → i ∉ ps → k < (frees m ps).length → vat xs (frees m ps).length i k = idv k (frees i ps).length := fun i k hi hip hk => (hXv i k hi hk).trans (kerX_idv hi hip hk)
      have hMX := MV.made hXR
      have hXl' : (xs.map q4v).length = m * (frees m ps).length := by rw [List.length_map]; exact hXl
      have hXRv := vat_RB hXR (by decide) (frees m ps).length
      have cN := con_mNormal hXR (by decide) hXl (by omega) (by omega)
      have cM := con_mMul hM hl hMX hXl' (by omega) (by omega) (by omega) (by decide) (by decide) (by have := Nat.mul_le_mul_right (2 + 2730 + 1) (show m + 1 ≤ 6 by omega); omega)
      rw [matA_matQ] at cM
      have b1 : 1 + m * (2 + 2730 + 1) ≤ 13666 := by have := Nat.mul_le_mul_right (2 + 2730 + 1) hm; omega
      have p1 : MV ((tabR (frees m ps).length (prodV m (vat (l.map rqv) m) (vat xs (frees m ps).length)) n).map q4v) (tabR (frees m ps).length (prodV m (vat (l.map rqv) m) (vat xs (frees m ps).length)) n) 13666 := MV.made (tabR_RB fun i k hi hk => (prod_RB (fun j _ => hRBv i j) (fun j _ => hXRv j k)).mono b1)
      have hz : ∀ v ∈ tabR (frees m ps).length (prodV m (vat (l.map rqv) m) (vat xs (frees m ps).length)) n, v = 0 := fun v hv => by
        unfold tabR at hv
        obtain ⟨i, hi, hv⟩ := List.mem_flatMap.1 hv
        obtain ⟨k, hk, rfl⟩ := List.mem_map.1 hv
        exact hprod i k (List.mem_range.1 hi) (List.mem_range.1 hk)
      have cZ := con_mZero (r := n) (c := (frees m ps).length) p1 hz (by decide) (by rw [List.length_map, tabR_len]; have := Nat.mul_le_mul hn hfn; omega)
      generalize (tabR (frees m ps).length (prodV m (vat (l.map rqv) m) (vat xs (frees m ps).length)) n).map q4v = x1 at cM cZ
      have cIn : ∀ i, i < m → PureOK Tryz.prog 37 [.r (rowR 1 piC ps), .v (.int .i64 (i : Int))] (.v (.bool (decide (i ∈ ps)))) := fun i hi => con_rIn ps i (by omega)
      have o0 := of_0
      have o1 := of_1
      have r0 := rof_0
      have r1 := rof_1
      have hfs : ∀ i, (frees i ps).length ≤ i := fun i => frees_lt
      generalize hfe : (frees m ps).length = f at *
      clear hker hmB hXB hXv hprod hz p1 hRW hRBv hXRv hR hs hRL
      refine PureOK.fnF Tryz.func7 Tryz.results7 Tryz.ntmps7 rfl rfl rfl (by simp [AV.ids, AV0.ids, Atom.ids]) rfl (fun w0 T B E0 hB => ?_)
      refine SX.goF ?_
      refine W.loop (fun i => i ≤ m) (fun i => [(1, .ptr 1 0), (3, .ptr 3 0), (6, .r (rowR 1 piC ps)), (8, .v (.int .i64 ((frees i ps).length : Int))), (9, .v (.int .i64 (i : Int)))]) (fun i => [(1, .box 24 (matQ n m (l.map rq))), (3, .box 24 (matQ m f (xs.map q4v)))]) (fun i => m - i) 0 (Nat.zero_le _) (fun i hi => ?_)
      by_cases hi2 : i < m
      · have cI := cIn i hi2
        have hfi := hfs i
        by_cases hip : i ∈ ps
        · rw [decide_eq_true hip] at cI
          have e2 : (frees (i + 1) ps).length = (frees i ps).length := by rw [frees_succ, if_pos hip]
          refine SX.goF ?_
          exact W.next (i + 1) hi2 (by omega)
        · rw [decide_eq_false hip] at cI
          have e2 : (frees (i + 1) ps).length = (frees i ps).length + 1 := by rw [frees_succ, if_neg hip, List.length_append]; rfl
          have hidi := fun k hk => hid i k hi2 hip hk
          generalize (frees i ps).length = fr at *
          refine SX.goF ?_
          refine W.loop (fun k => k ≤ f) (fun k => [(1, .ptr 1 0), (3, .ptr 3 0), (6, .r (rowR 1 piC ps)), (8, .v (.int .i64 (fr : Int))), (9, .v (.int .i64 (i : Int))), (10, .v (.int .i64 (k : Int)))]) (fun k => [(1, .box 24 (matQ n m (l.map rq))), (3, .box 24 (matQ m f (xs.map q4v)))]) (fun k => f - k) 0 (Nat.zero_le _) (fun k hk => ?_)
          by_cases hk2 : k < f
          · obtain ⟨q, hq, ra⟩ := hMX.at hXl' hi2 hk2
            rw [hidi k hk2] at ra
            have cA := con_rAt (r := m) hq (by omega) (by omega) (by omega)
            have cC := cmp_id k fr ra (by decide)
            by_cases hkf : k = fr
            · have cC1 := cC.1 hkf
              have h3 : (k : Int) = (fr : Int) := by omega
              clear cC
              refine SX.goF ?_
              exact W.next (k + 1) hk2 (by omega)
            · have cC1 := cC.2 hkf
              have h3 : ¬ (k : Int) = (fr : Int) := by omega
              clear cC
              refine SX.goF ?_
              exact W.next (k + 1) hk2 (by omega)
          · obtain rfl : k = f := by omega
            refine SX.goF ?_
            exact W.next (i + 1) hi2 (by omega)
      · obtain rfl : i = m := by omega
        refine SX.goF ?_
        exact retB rfl
    · have cF := con_rF0 (cells := (l.map rq).flatMap q4C) hF
      have cI := con_Kernel0 (r := r) (c := c) (l := l.map rq) hF
      have cN := con_rNone
      refine PureOK.fnF Tryz.func7 Tryz.results7 Tryz.ntmps7 rfl rfl rfl (by simp [AV.ids, AV0.ids, Atom.ids]) rfl (fun w0 T B E0 hB => ?_)
      refine SX.goF ?_
      refine retB ?_; first | rfl | exact decide_eq_true rfl
  · have cFew := cFew.2 hf
    refine PureOK.fnF Tryz.func7 Tryz.results7 Tryz.ntmps7 rfl rfl rfl (by simp [AV.ids, AV0.ids, Atom.ids]) rfl (fun w0 T B E0 hB => ?_)
    refine SX.goF ?_
    exact retB rfl
end Go.Proofs.YtpchnbhkkbnjbaaGreatDoor
/- Sums, multiples, products, transposes of matrices of fractions: the walks. -/
set_option linter.unusedVariables false
set_option linter.unusedSimpArgs false
namespace Go.Proofs.YtpchnbhkkbnjbaaGreatDoor
open Go.RowKit QM SX LA
attribute [local irreducible] IntKind.wrap Go1 Reg WP thenK inBlk retQ retF RetF RetOK ResOK CallOK OpOK Sat
attribute [local irreducible] qsub qmul qquo qcmp qadd qv redS mf
theorem nil_rowG {α : Type} {enc : α → List CA} {size : Nat} {E : Env} {S : Nat → Prop} {w : World} {v : Value} (h : (Atom.c (.val (.slice none 0 0))).has E S w v) : (Atom.c (.sat (rowR size enc ([] : List α)))).has E S w v := by
  rw [show v = .slice none 0 0 from h]; exact nil_row
theorem mat0_imp {α : Type} {enc : α → List CA} {size : Nat} : AV0.imp (.agg mat0) (.agg [.c (.val (.int .i64 ((0 : Nat) : Int))), .c (.val (.int .i64 ((0 : Nat) : Int))), .c (.sat (rowR size enc ([] : List α)))]) := fun E S w v ⟨vs, h1, h2⟩ => by
  refine ⟨vs, h1, ?_⟩
  clear h1
  match vs, h2 with
  | [a, b, c], ⟨k1, k2, k3, _⟩ => exact ⟨k1, k2, nil_rowG k3, trivial⟩
abbrev ptrM (r c : Nat) (l : List Q4) : AV := .r (ptrR [.val (.int .i64 (r : Int)), .val (.int .i64 (c : Int)), .sat (rowR 4 q4C l)])
theorem con_qmT1 {r c i k : Nat} {l : List Q4} {q : Q4} (hq : l[k * c + i]? = some q) (hi : i ≤ 100) (hc : c ≤ 100) (hk : k ≤ 100) : PureOK Tryz.prog 87 [.v (.int .i64 (i : Int)), .v (.int .i64 (k : Int)), ptrM r c l] (.agg (q4A q)) := by
  have cG := con_get (r := r) hq hk hc hi
  refine PureOK.fnF Tryz.func87 Tryz.results87 Tryz.ntmps87 rfl rfl rfl (by simp [AV.ids, AV0.ids, Atom.ids]) rfl (fun w0 T B E0 hB => ?_)
  refine SX.goF ?_
  exact retA (ResOK.agg4 rfl rfl rfl) rfl
def q0 : Q4 := q4v 0
/-- A matrix's cells at a place. -/
def qat (l : List Q4) (c i k : Nat) : Q4 := l.getD (i * c + k) q0
theorem qat_at {l : List Q4} {r c i k : Nat} (hl : l.length = r * c) (hi : i < r) (hk : k < c) : l[i * c + k]? = some (qat l c i k) := by
  have h := idx_lt hi hk
  unfold qat
  rw [List.getD_eq_getElem?_getD, List.getElem?_eq_getElem (by omega)]; rfl
theorem MV.qat {r c i k K : Nat} {l : List Q4} {vs : List Rat} (hM : MV l vs K) (hl : l.length = r * c) (hi : i < r) (hk : k < c) : Ra (q4A (qat l c i k)) (vat vs c i k) K :=
  hM.ra _ _ _ (qat_at hl hi hk) (vat_at (by rw [← hM.len]; exact hl) hi hk)
theorem con_qmTranspose {r c : Nat} {l : List Q4} {vs : List Rat} {K : Nat} (hM : MV l vs K) (hl : l.length = r * c) (hr : r ≤ 64) (hc : c ≤ 64) (hK : K ≤ 400000) :
    PureOK Tryz.prog 41 [.agg (matQ r c l)] (.tup [.agg (matA c r (tabR r (fun i k => vat vs c k i) c)), eNo 0]) := by
  have cF := cF_true (cells := l.flatMap q4C) hl hr hc
  have cM := con_made c r (.sat (cloR 87 [] [.sat (ptrR [.val (.int .i64 (r : Int)), .val (.int .i64 (c : Int)), .sat (rowR 4 q4C l)])])) (fun i k => qat l c k i) (fun i k => vat vs c k i) K (by omega) (by omega) (by omega)
    (fun i k hi hk => FnV.clo (con_qmT1 (qat_at hl hk hi) (by omega) (by omega) (by omega))) (fun i k hi hk => hM.qat hl hk hi) rfl
  refine PureOK.fnF Tryz.func41 Tryz.results41 Tryz.ntmps41 rfl rfl rfl (by simp [AV.ids, AV0.ids, Atom.ids]) rfl (fun w0 T B E0 hB => ?_)
  refine SX.goF ?_
  refine SX.WP.freezeB 1 hB rfl rfl ?_
  refine SX.WP.regionL ?_
  refine SX.goF ?_
  exact .ok (RetOK.mk2 (ResOK.agg3 rfl rfl rfl) (ResOK.tmp rfl))
theorem con_alike {r c r' c' : Nat} {l l' : List Q4} (hl : l.length = r * c) (hl' : l'.length = r' * c') (hr : r ≤ 64) (hc : c ≤ 64) (hr' : r' ≤ 64) (hc' : c' ≤ 64) (goal : Bool) (hg : goal = true ↔ r = r' ∧ c = c') :
    PureOK Tryz.prog 93 [.agg (matQ r c l), .agg (matQ r' c' l')] (.v (.bool goal)) := by
  have cF := cF_true (cells := l.flatMap q4C) hl hr hc
  have cF' := cF_true (cells := l'.flatMap q4C) hl' hr' hc'
  refine PureOK.fnF Tryz.func93 Tryz.results93 Tryz.ntmps93 rfl rfl rfl (by simp [AV.ids, AV0.ids, Atom.ids]) rfl (fun w0 T B E0 hB => ?_)
  by_cases h1 : (r : Int) = (r' : Int)
  · refine SX.goF ?_
    refine retB ?_
    rw [Bool.eq_iff_iff, hg, decide_eq_true_iff]; omega
  · refine SX.goF ?_
    refine retB ?_
    exact (Bool.eq_false_iff.2 fun ht => h1 (by have := (hg.1 ht).1; omega)).symm
theorem con_qmA1 {r c i k : Nat} {l l' : List Q4} {q q' : Q4} {v v' : Rat} {K K' : Nat} (hq : l[i * c + k]? = some q) (hq' : l'[i * c + k]? = some q') (ra : Ra (q4A q) v K) (ra' : Ra (q4A q') v' K') (hi : i ≤ 100) (hc : c ≤ 100) (hk : k ≤ 100) (hK : K + K' ≤ 400000) :
    PureOK Tryz.prog 94 [.v (.int .i64 (i : Int)), .v (.int .i64 (k : Int)), ptrM r c l, ptrM r c l'] (.agg (q4A (q4v (v + v')))) := by
  have cG := con_get (r := r) hq hi hc hk
  have cG' := con_get (r := r) hq' hi hc hk
  have cA := (con_qAdd (a := ra) (b := ra')).h (by omega)
  refine PureOK.fnF Tryz.func94 Tryz.results94 Tryz.ntmps94 rfl rfl rfl (by simp [AV.ids, AV0.ids, Atom.ids]) rfl (fun w0 T B E0 hB => ?_)
  refine SX.goF ?_
  exact retA (ResOK.agg4 rfl rfl rfl) rfl
theorem con_qmAdd {r c : Nat} {l l' : List Q4} {vs vs' : List Rat} {K K' : Nat} (hM : MV l vs K) (hl : l.length = r * c) (hM' : MV l' vs' K') (hl' : l'.length = r * c) (hr : r ≤ 64) (hc : c ≤ 64) (h1 : 1 ≤ K) (h1' : 1 ≤ K') (hK : K + K' ≤ 300000) :
    PureOK Tryz.prog 45 [.agg (matQ r c l), .agg (matQ r c l')] (.tup [.agg (matA r c (tabR c (fun i k => vat vs c i k + vat vs' c i k) r)), eNo 0]) := by
  have cF := con_alike hl hl' hr hc hr hc true ⟨fun _ => ⟨rfl, rfl⟩, fun _ => rfl⟩
  have cM := con_made r c (.sat (cloR 94 [] [.sat (ptrR [.val (.int .i64 (r : Int)), .val (.int .i64 (c : Int)), .sat (rowR 4 q4C l)]), .sat (ptrR [.val (.int .i64 (r : Int)), .val (.int .i64 (c : Int)), .sat (rowR 4 q4C l')])])) (fun i k => q4v (vat vs c i k + vat vs' c i k)) (fun i k => vat vs c i k + vat vs' c i k) (K + K' + 1) (by omega) (by omega) (by omega)
    (fun i k hi hk => FnV.clo (con_qmA1 (qat_at hl hi hk) (qat_at hl' hi hk) (hM.qat hl hi hk) (hM'.qat hl' hi hk) (by omega) (by omega) (by omega) (by omega)))
    (fun i k hi hk => ((vat_RB (hM.rb h1) h1 c i k).add (vat_RB (hM'.rb h1') h1' c i k)).ra) rfl
  refine PureOK.fnF Tryz.func45 Tryz.results45 Tryz.ntmps45 rfl rfl rfl (by simp [AV.ids, AV0.ids, Atom.ids]) rfl (fun w0 T B E0 hB => ?_)
  refine SX.goF ?_
  refine SX.WP.freezeB 2 hB rfl rfl ?_
  refine SX.WP.freezeB 3 hB rfl rfl ?_
  refine SX.WP.regionL ?_
  refine SX.goF ?_
  exact .ok (RetOK.mk2 (ResOK.agg3 rfl rfl rfl) (ResOK.tmp rfl))
theorem con_qmAdd0 {r c r' c' : Nat} {l l' : List Q4} (hl : l.length = r * c) (hl' : l'.length = r' * c') (hr : r ≤ 64) (hc : c ≤ 64) (hr' : r' ≤ 64) (hc' : c' ≤ 64) (h : ¬ (r = r' ∧ c = c')) :
    PureOK Tryz.prog 45 [.agg (matQ r c l), .agg (matQ r' c' l')] (.tup [.agg (matQ 0 0 []), eNo 2]) := by
  have cF := con_alike hl hl' hr hc hr' hc' false ⟨fun h => (by cases h), fun e => absurd e h⟩
  refine PureOK.fnF Tryz.func45 Tryz.results45 Tryz.ntmps45 rfl rfl rfl (by simp [AV.ids, AV0.ids, Atom.ids]) rfl (fun w0 T B E0 hB => ?_)
  refine SX.goF ?_
  exact .ok (RetOK.mk2 ((ResOK.agg3 rfl rfl rfl).imp mat0_imp) (ResOK.tmp rfl))
theorem con_qmS1 {r c i k : Nat} {l : List Q4} {q d : Q4} {v v' : Rat} {K K' : Nat} (hq : l[i * c + k]? = some q) (ra : Ra (q4A q) v K) (ra' : Ra (q4A d) v' K') (hi : i ≤ 100) (hc : c ≤ 100) (hk : k ≤ 100) (hK : K + K' ≤ 400000) :
    PureOK Tryz.prog 99 [.v (.int .i64 (i : Int)), .v (.int .i64 (k : Int)), ptrM r c l, .r (ptrR [.val (.bool d.1), .sat d.2.1, .val (.bool d.2.2.1), .sat d.2.2.2])] (.agg (q4A (q4v (v * v')))) := by
  have cG := con_get (r := r) hq hi hc hk
  have cA := (con_qMul (a := ra) (b := ra')).h (by omega)
  refine PureOK.fnF Tryz.func99 Tryz.results99 Tryz.ntmps99 rfl rfl rfl (by simp [AV.ids, AV0.ids, Atom.ids]) rfl (fun w0 T B E0 hB => ?_)
  refine SX.goF ?_
  exact retA (ResOK.agg4 rfl rfl rfl) rfl
theorem con_qmScale {r c : Nat} {l : List Q4} {d : Q4} {vs : List Rat} {v : Rat} {K K' : Nat} (hM : MV l vs K) (hl : l.length = r * c) (hd : Ra (q4A d) v K') (hr : r ≤ 64) (hc : c ≤ 64) (h1 : 1 ≤ K) (h1' : 1 ≤ K') (hK : K + K' ≤ 300000) :
    PureOK Tryz.prog 49 [.agg (matQ r c l), .agg (q4A d)] (.tup [.agg (matA r c (tabR c (fun i k => vat vs c i k * v) r)), eNo 0]) := by
  have cF := cF_true (cells := l.flatMap q4C) hl hr hc
  have cM := con_made r c (.sat (cloR 99 [] [.sat (ptrR [.val (.int .i64 (r : Int)), .val (.int .i64 (c : Int)), .sat (rowR 4 q4C l)]), .sat (ptrR [.val (.bool d.1), .sat d.2.1, .val (.bool d.2.2.1), .sat d.2.2.2])])) (fun i k => q4v (vat vs c i k * v)) (fun i k => vat vs c i k * v) (K + K') (by omega) (by omega) (by omega)
    (fun i k hi hk => FnV.clo (con_qmS1 (qat_at hl hi hk) (hM.qat hl hi hk) hd (by omega) (by omega) (by omega) (by omega)))
    (fun i k hi hk => ((vat_RB (hM.rb h1) h1 c i k).mul (Ra.rb hd h1')).ra) rfl
  refine PureOK.fnF Tryz.func49 Tryz.results49 Tryz.ntmps49 rfl rfl rfl (by simp [AV.ids, AV0.ids, Atom.ids]) rfl (fun w0 T B E0 hB => ?_)
  refine SX.goF ?_
  refine SX.WP.freezeB 2 hB rfl rfl ?_
  refine SX.WP.freezeB 3 hB rfl rfl ?_
  refine SX.WP.regionL ?_
  refine SX.goF ?_
  exact .ok (RetOK.mk2 (ResOK.agg3 rfl rfl rfl) (ResOK.tmp rfl))
theorem con_qmM1 {r c d i k : Nat} {l l' : List Q4} {vs vs' : List Rat} {K K' : Nat} (hM : MV l vs K) (hl : l.length = r * c) (hM' : MV l' vs' K') (hl' : l'.length = c * d) (hi : i < r) (hk : k < d) (hr : r ≤ 100) (hc : c ≤ 100) (hd : d ≤ 100) (h1 : 1 ≤ K) (h1' : 1 ≤ K') (hB : 1 + (c + 1) * (K + K' + 1) ≤ 400000) :
    PureOK Tryz.prog 67 [.v (.int .i64 (i : Int)), .v (.int .i64 (k : Int)), ptrM r c l, ptrM c d l'] (.agg (q4A (q4v (prodV c (vat vs c) (vat vs' d) i k)))) := by
  have hKK : K + K' ≤ 400000 := by
    have := Nat.mul_le_mul_right (K + K' + 1) (show 1 ≤ c + 1 by omega)
    omega
  have hRB := vat_RB (hM.rb h1) h1 c
  have hRB' := vat_RB (hM'.rb h1') h1' d
  have hsm : ∀ j, j ≤ c → RB (sm j (fun j => vat vs c i j * vat vs' d j k)) (1 + j * (K + K' + 1)) := fun j _ => sm_RB fun j _ => (hRB i j).mul (hRB' j k)
  refine PureOK.fnF Tryz.func67 Tryz.results67 Tryz.ntmps67 rfl rfl rfl (by simp [AV.ids, AV0.ids, Atom.ids]) rfl (fun w0 T B E0 hB => ?_)
  refine SX.goF ?_
  refine W.loop (fun j => j ≤ c) (fun j => [(0, .v (.int .i64 (i : Int))), (1, .v (.int .i64 (k : Int))), (2, ptrM r c l), (3, ptrM c d l'), (6, .ptr 6 0), (7, .ptr 7 0), (11, .v (.int .i64 (c : Int))), (12, .v (.int .i64 (j : Int)))]) (fun j => [(6, .box 52 [.c (.val (.bool false)), .c (.val (.slice none 0 0)), .c (.val (.bool false)), .c (.val (.slice none 0 0))]), (7, .box 52 (qA (sm j (fun j => vat vs c i j * vat vs' d j k))))]) (fun j => c - j) 0 (Nat.zero_le _) (fun j hj => ?_)
    (by
      refine SX.St.le_to [] (by intro b h; cases h) ?_ ?_ rfl
      · repeat (first | exact trivial | refine ⟨⟨_, rfl, SX.AVto.same rfl⟩, ?_⟩)
      · exact ⟨SX.EntTo.same rfl rfl, SX.EntTo.same rfl rfl, trivial⟩)
  by_cases hj2 : j < c
  · obtain ⟨q, hq, ra⟩ := hM.at hl hi hj2
    obtain ⟨q', hq', ra'⟩ := hM'.at hl' hj2 hk
    have cA := con_get (r := r) hq (by omega) (by omega) (by omega)
    have cA' := con_get (r := c) hq' (by omega) (by omega) (by omega)
    have rs := (hsm j hj).ra
    have rp := ((hRB i j).mul (hRB' j k)).ra
    have hb2 := Nat.mul_le_mul_right (K + K' + 1) (show j + 1 ≤ c + 1 by omega)
    rw [Nat.succ_mul] at hb2
    have cM := (con_qMul (a := ra) (b := ra')).h (by omega)
    have cD := (con_qAdd (a := rs) (b := rp)).h (by omega)
    refine SX.goF ?_
    refine W.next (j + 1) hj2 (by omega) (by
      refine SX.St.le_to [] (by intro b h; cases h) ?_ ?_ rfl
      · repeat (first | exact trivial | refine ⟨⟨_, rfl, SX.AVto.same rfl⟩, ?_⟩)
      · exact ⟨SX.EntTo.same rfl rfl, SX.EntTo.same rfl rfl, trivial⟩)
  · obtain rfl : j = c := by omega
    refine SX.goF ?_
    exact retA (ResOK.agg4 rfl rfl rfl) rfl
theorem con_qmMul {r c d : Nat} {l l' : List Q4} {vs vs' : List Rat} {K K' : Nat} (hM : MV l vs K) (hl : l.length = r * c) (hM' : MV l' vs' K') (hl' : l'.length = c * d) (hr : r ≤ 64) (hc : c ≤ 64) (hd : d ≤ 64) (h1 : 1 ≤ K) (h1' : 1 ≤ K') (hB : 1 + (c + 1) * (K + K' + 1) ≤ 400000) :
    PureOK Tryz.prog 22 [.agg (matQ r c l), .agg (matQ c d l')] (.tup [.agg (matA r d (tabR d (prodV c (vat vs c) (vat vs' d)) r)), eNo 0]) := by
  have cF := cF_true (cells := l.flatMap q4C) hl hr hc
  have cF' := cF_true (cells := l'.flatMap q4C) hl' hc hd
  have cM := con_made r d (.sat (cloR 67 [] [.sat (ptrR [.val (.int .i64 (r : Int)), .val (.int .i64 (c : Int)), .sat (rowR 4 q4C l)]), .sat (ptrR [.val (.int .i64 (c : Int)), .val (.int .i64 (d : Int)), .sat (rowR 4 q4C l')])])) (fun i k => q4v (prodV c (vat vs c) (vat vs' d) i k)) (prodV c (vat vs c) (vat vs' d)) (1 + c * (K + K' + 1)) (by omega) (by omega) (by
      have := Nat.mul_le_mul_right (K + K' + 1) (show c ≤ c + 1 by omega); omega)
    (fun i k hi hk => FnV.clo (con_qmM1 hM hl hM' hl' hi hk (by omega) (by omega) (by omega) h1 h1' hB))
    (fun i k hi hk => (prod_RB (fun j _ => vat_RB (hM.rb h1) h1 c i j) (fun j _ => vat_RB (hM'.rb h1') h1' d j k)).ra) rfl
  refine PureOK.fnF Tryz.func22 Tryz.results22 Tryz.ntmps22 rfl rfl rfl (by simp [AV.ids, AV0.ids, Atom.ids]) rfl (fun w0 T B E0 hB => ?_)
  refine SX.goF ?_
  refine SX.WP.freezeB 2 hB rfl rfl ?_
  refine SX.WP.freezeB 3 hB rfl rfl ?_
  refine SX.WP.regionL ?_
  refine SX.goF ?_
  exact .ok (RetOK.mk2 (ResOK.agg3 rfl rfl rfl) (ResOK.tmp rfl))
theorem con_qmMul0 {r c r' d : Nat} {l l' : List Q4} (hl : l.length = r * c) (hl' : l'.length = r' * d) (hr : r ≤ 64) (hc : c ≤ 64) (hr' : r' ≤ 64) (hd : d ≤ 64) (h : ¬ c = r') :
    PureOK Tryz.prog 22 [.agg (matQ r c l), .agg (matQ r' d l')] (.tup [.agg (matQ 0 0 []), eNo 2]) := by
  have cF := cF_true (cells := l.flatMap q4C) hl hr hc
  have cF' := cF_true (cells := l'.flatMap q4C) hl' hr' hd
  have h2 : ¬ (c : Int) = (r' : Int) := by omega
  refine PureOK.fnF Tryz.func22 Tryz.results22 Tryz.ntmps22 rfl rfl rfl (by simp [AV.ids, AV0.ids, Atom.ids]) rfl (fun w0 T B E0 hB => ?_)
  refine SX.goF ?_
  exact .ok (RetOK.mk2 ((ResOK.agg3 rfl rfl rfl).imp mat0_imp) (ResOK.tmp rfl))
end Go.Proofs.YtpchnbhkkbnjbaaGreatDoor
/- Rows that are turned; equations that are solved. -/
set_option linter.unusedVariables false
set_option linter.unusedSimpArgs false
namespace Go.Proofs.YtpchnbhkkbnjbaaGreatDoor
open Go.RowKit QM SX LA
attribute [local irreducible] IntKind.wrap Go1 Reg WP thenK inBlk retQ retF RetF RetOK ResOK CallOK OpOK Sat
attribute [local irreducible] qsub qmul qquo qcmp qadd qv redS mf
theorem kb_13 : ∀ c, c < 5 → kb 13 c ≤ 3498 := by decide
/-- A table is told by its numbers. -/
theorem tabR_ext {c r : Nat} {u v : Nat → Nat → Rat} (h : ∀ i, i < r → ∀ k, k < c → u i k = v i k) : tabR c u r = tabR c v r := by
  unfold tabR
  have key : ∀ l : List Nat, (∀ i ∈ l, i < r) → l.flatMap (fun i => (List.range c).map (u i)) = l.flatMap (fun i => (List.range c).map (v i)) := by
    intro l
    induction l with
    | nil => intro _; rfl
    | cons i l ih =>
      intro hl
      rw [List.flatMap_cons, List.flatMap_cons, ih (fun j hj => hl j (by simp [hj]))]
      congr 1
      exact List.map_congr_left fun k hk => h i (hl i (by simp)) k (List.mem_range.1 hk)
  exact key _ fun i hi => List.mem_range.1 hi
/-- Reduced forms of the same rows. -/
theorem red_same {r r' c d d' : Nat} {va vb va' vb' : Nat → Nat → Rat} (h : Eqv r r' c va va') (hr : r = r') : tabR c (rdM r c d va vb) r = tabR c (rdM r' c d' va' vb') r' := by
  subst hr
  obtain ⟨hp, hm⟩ := red_uniq (d := d) (vb := vb) (d' := d') (vb' := vb') h
  refine tabR_ext fun i hi k hk => ?_
  by_cases hip : i < (rdP r c d va vb).length
  · exact hm i hip k hk
  · rw [red_rref.zero i (by omega) hi k hk, red_rref.zero i (by rw [← hp]; omega) hi k hk]
set_option maxHeartbeats 2000000 in
theorem QmatRows_ok (p : RawM) (hs : RSm p.2.2) (p' : RawM) (hs' : RSm p'.2.2) : PureOK Tryz.prog 5 [.agg [.c (.val (.int .i64 p.1)), .c (.val (.int .i64 p.2.1)), .c (.sat (rowR 4 q4C (p.2.2.map rq)))], .agg [.c (.val (.int .i64 p'.1)), .c (.val (.int .i64 p'.2.1)), .c (.sat (rowR 4 q4C (p'.2.2.map rq)))]] (.v (.bool true)) := by
  obtain ⟨r, c, l⟩ := p
  obtain ⟨r', c', l'⟩ := p'
  dsimp only at hs hs' ⊢
  have cW := con_awake13
  have cFew := con_rFew r c l 4 1
  have cFew' := con_rFew r' c' l' 4 1
  by_cases hf : FewP r c l 4 1
  · have cFew := cFew.1 hf
    by_cases hf' : FewP r' c' l' 4 1
    · have cFew' := cFew'.1 hf'
      by_cases hF : FormedP r c (l.map rq).length
      · have cF := con_rF (cells := (l.map rq).flatMap q4C) hF
        by_cases hF' : FormedP r' c' (l'.map rq).length ∧ r' = c'
        · obtain ⟨n, m, rfl, rfl, hn, hm, hl⟩ := fewMat (k := 4) hf rfl hF
          obtain ⟨n', m', rfl, rfl, hn', hm', hl'⟩ := fewMat (k := 4) hf' rfl hF'.1
          obtain rfl : n' = m' := by have := hF'.2; omega
          have hM := (MV.raw hs (FewP.len (w := 1) hf))
          have hM' := (MV.raw hs' (FewP.len (w := 1) hf'))
          have hkb : ∀ k, k < n' → kb 1 k ≤ 49000 := fun k hk => (show ∀ k, k < 4 → kb 1 k ≤ 49000 by decide) k (by omega)
          have cI := con_Inverse hM' hl' (by omega) (by decide) hkb ((show ∀ k, k < 5 → kb 1 k ≤ 400000 by decide) n' (by omega))
          have hlen := (red_rref (r := n') (c := n') (d := n') (va := vat (l'.map rqv) n') (vb := idv)).len
          by_cases hp : (rdP n' n' n' (vat (l'.map rqv) n') idv).length < n'
          · rw [if_pos hp] at cI
            refine PureOK.fnF Tryz.func5 Tryz.results5 Tryz.ntmps5 rfl rfl rfl (by simp [AV.ids, AV0.ids, Atom.ids]) rfl (fun w0 T B E0 hB => ?_)
            refine SX.goF ?_
            exact retB rfl
          · rw [if_neg hp, matA_matQ] at cI
            by_cases hnn : n' = n
            · subst hnn
              have hinv := (red_inv (n := n') (va := vat (l'.map rqv) n') (by omega)).2
              have hcm : ∀ k, k < m → kb 1 k ≤ 49000 := fun k hk => (show ∀ k, k < 4 → kb 1 k ≤ 49000 by decide) k (by omega)
              have cR := con_Reduce hM hl (by omega) (by omega) (by decide) hcm ((show ∀ k, k < 5 → kb 1 k ≤ 400000 by decide) m (by omega))
              have cM := con_qmMul hM' hl' hM hl (by omega) (by omega) (by omega) (by decide) (by decide) (by omega)
              rw [matA_matQ] at cM
              have hRBa := vat_RB (hM.rb (by decide)) (by decide) m
              have hRBb := vat_RB (hM'.rb (by decide)) (by decide) n'
              have hBR : ∀ v ∈ tabR m (prodV n' (vat (l'.map rqv) n') (vat (l.map rqv) m)) n', RB v 13 := tabR_RB fun i k hi hk => (prod_RB (fun j _ => hRBb i j) (fun j _ => hRBa j k)).mono (by omega)
              have hBl : (tabR m (prodV n' (vat (l'.map rqv) n') (vat (l.map rqv) m)) n').length = n' * m := tabR_len n'
              have hE : Eqv n' n' m (vat (l.map rqv) m) (vat (tabR m (prodV n' (vat (l'.map rqv) n') (vat (l.map rqv) m)) n') m) := red_turn hinv fun i hi k hk => vat_tab hi hk
              generalize tabR m (prodV n' (vat (l'.map rqv) n') (vat (l.map rqv) m)) n' = bs at *
              have hMB := MV.made hBR
              have hBl' : (bs.map q4v).length = n' * m := by rw [List.length_map]; exact hBl
              have cR2 := con_Reduce hMB hBl' (by omega) (by omega) (by decide) (fun k hk => Nat.le_trans (kb_13 k (by omega)) (by decide)) (Nat.le_trans (kb_13 m (by omega)) (by decide))
              have hpe := (red_uniq (d := 0) (vb := idv) (d' := 0) (vb' := idv) hE).1
              have hme := red_same (d := 0) (vb := idv) (d' := 0) (vb' := idv) hE rfl
              rw [← hpe, ← hme, matA_matQ] at cR2
              rw [matA_matQ] at cR
              have hRW : RW (bgM m 0 (vat (l.map rqv) m) idv n') (m + 0) 1 := bgM_RW (fun i k _ _ => hRBa i k) (fun i k _ h => absurd h (Nat.not_lt_zero _))
              have hmRB : ∀ v ∈ tabR m (rdM n' m 0 (vat (l.map rqv) m) idv) n', RB v 1000 := fun v hv => (tabR_RB (fun i k hi hk => red_RB hRW hi (by omega)) v hv).mono ((show ∀ k, k < 5 → kb 1 k ≤ 1000 by decide) m (by omega))
              have hml : (tabR m (rdM n' m 0 (vat (l.map rqv) m) idv) n').length = n' * m := tabR_len n'
              have cS := con_mSame (r := n') (c := m) (MV.made hmRB) (MV.made hmRB) (by decide) (by rw [List.length_map, hml]; have := Nat.mul_le_mul hn' hm; omega)
              generalize (tabR m (rdM n' m 0 (vat (l.map rqv) m) idv) n').map q4v = ms at *
              generalize rdP n' m 0 (vat (l.map rqv) m) idv = ps at *
              clear hinv hRBa hRBb hE hRW hmRB
              refine PureOK.fnF Tryz.func5 Tryz.results5 Tryz.ntmps5 rfl rfl rfl (by simp [AV.ids, AV0.ids, Atom.ids]) rfl (fun w0 T B E0 hB => ?_)
              refine SX.goF ?_
              refine retB ?_; first | rfl | exact decide_eq_true rfl
            · have hne : ¬ (n' : Int) = (n : Int) := by omega
              refine PureOK.fnF Tryz.func5 Tryz.results5 Tryz.ntmps5 rfl rfl rfl (by simp [AV.ids, AV0.ids, Atom.ids]) rfl (fun w0 T B E0 hB => ?_)
              refine SX.goF ?_
              exact retB rfl
        · have cI := con_Inverse0 (r := r') (c := c') (l := l'.map rq) hF'
          refine PureOK.fnF Tryz.func5 Tryz.results5 Tryz.ntmps5 rfl rfl rfl (by simp [AV.ids, AV0.ids, Atom.ids]) rfl (fun w0 T B E0 hB => ?_)
          refine SX.goF ?_
          exact retB rfl
      · have cF := con_rF0 (cells := (l.map rq).flatMap q4C) hF
        refine PureOK.fnF Tryz.func5 Tryz.results5 Tryz.ntmps5 rfl rfl rfl (by simp [AV.ids, AV0.ids, Atom.ids]) rfl (fun w0 T B E0 hB => ?_)
        refine SX.goF ?_
        exact retB rfl
    · have cFew' := cFew'.2 hf'
      refine PureOK.fnF Tryz.func5 Tryz.results5 Tryz.ntmps5 rfl rfl rfl (by simp [AV.ids, AV0.ids, Atom.ids]) rfl (fun w0 T B E0 hB => ?_)
      refine SX.goF ?_
      exact retB rfl
  · have cFew := cFew.2 hf
    refine PureOK.fnF Tryz.func5 Tryz.results5 Tryz.ntmps5 rfl rfl rfl (by simp [AV.ids, AV0.ids, Atom.ids]) rfl (fun w0 T B E0 hB => ?_)
    refine SX.goF ?_
    exact retB rfl
end Go.Proofs.YtpchnbhkkbnjbaaGreatDoor
/- Equations that are solved, or not. -/
set_option linter.unusedVariables false
set_option linter.unusedSimpArgs false
namespace Go.Proofs.YtpchnbhkkbnjbaaGreatDoor
open Go.RowKit QM SX LA
attribute [local irreducible] IntKind.wrap Go1 Reg WP thenK inBlk retQ retF RetF RetOK ResOK CallOK OpOK Sat
attribute [local irreducible] qsub qmul qquo qcmp qadd qv redS mf
theorem tab_vat {vs : List Rat} {r c : Nat} (hl : vs.length = r * c) : tabR c (vat vs c) r = vs := by
  apply List.ext_getElem?
  intro n
  rcases Nat.lt_or_ge n (r * c) with h | h
  · have hc : 0 < c := by
      rcases Nat.eq_zero_or_pos c with h0 | h0
      · subst h0; omega
      · exact h0
    have h1 : n / c < r := by rw [Nat.div_lt_iff_lt_mul hc]; exact h
    have h2 := Nat.mod_lt n hc
    have h3 : n / c * c + n % c = n := by rw [Nat.mul_comm]; exact Nat.div_add_mod n c
    have a1 := tabR_at (val := vat vs c) h2 h1
    have a2 := vat_at hl h1 h2
    rw [h3] at a1 a2
    rw [a1, a2]
  · rw [List.getElem?_eq_none (by rw [tabR_len]; exact h), List.getElem?_eq_none (by omega)]
theorem solX_piv {ps : List Nat} {m : Nat → Nat → Rat} {c : Nat} (hnd : ps.Nodup) {j k : Nat} (hj : j < ps.length) : solX ps m c (ps.getD j 0) k = m j (c + k) := by
  have hp := getE hj
  unfold solX
  rw [if_pos (List.mem_of_getElem? hp), fi_idx hnd hp]
set_option maxHeartbeats 2000000 in
theorem QmatSolves_ok (p : RawM) (hs : RSm p.2.2) (p' : RawM) (hs' : RSm p'.2.2) : PureOK Tryz.prog 8 [.agg [.c (.val (.int .i64 p.1)), .c (.val (.int .i64 p.2.1)), .c (.sat (rowR 4 q4C (p.2.2.map rq)))], .agg [.c (.val (.int .i64 p'.1)), .c (.val (.int .i64 p'.2.1)), .c (.sat (rowR 4 q4C (p'.2.2.map rq)))]] (.v (.bool true)) := by
  obtain ⟨r, c, l⟩ := p
  obtain ⟨r', c', l'⟩ := p'
  dsimp only at hs hs' ⊢
  have cW := con_awake13
  have cFew := con_rFew r c l 4 2
  have cFew' := con_rFew r' c' l' 4 2
  have cNo := con_rNone
  by_cases hf : FewP r c l 4 2
  · have cFew := cFew.1 hf
    by_cases hf' : FewP r' c' l' 4 2
    · have cFew' := cFew'.1 hf'
      by_cases hF : FormedP r c (l.map rq).length
      · have cF := con_rF (cells := (l.map rq).flatMap q4C) hF
        by_cases hF' : FormedP r' c' (l'.map rq).length
        · have cF' := con_rF (cells := (l'.map rq).flatMap q4C) hF'
          by_cases hrr : r = r'
          · obtain ⟨n, m, rfl, rfl, hn, hm, hl⟩ := fewMat (k := 4) hf rfl hF
            obtain ⟨n', d, rfl, rfl, hn', hd, hl'⟩ := fewMat (k := 4) hf' rfl hF'
            obtain rfl : n = n' := by omega
            have hM := (MV.raw hs (FewP.len (w := 2) hf))
            have hM' := (MV.raw hs' (FewP.len (w := 2) hf'))
            have hvl : (l.map rqv).length = n * m := by rw [← hM.len]; exact hl
            have hvl' : (l'.map rqv).length = n * d := by rw [← hM'.len]; exact hl'
            have hnm := Nat.mul_le_mul hn hm
            have hnd4 := Nat.mul_le_mul hn hd
            have hkb : ∀ k, k < m → kb 2 k ≤ 49000 := fun k hk => Nat.le_trans (kb_2 k (by omega)) (by decide)
            have hkc : kb 2 m ≤ 400000 := Nat.le_trans (kb_2 m (by omega)) (by decide)
            have cS := con_Solve hM hl hM' hl' (by omega) (by omega) (by omega) (by decide) hkb hkc
            have cR := con_Reduce hM hl (by omega) (by omega) (by decide) hkb hkc
            have hu := (red_uniq (r := n) (c := m) (d := d) (r' := n) (d' := 0) (va := vat (l.map rqv) m) (vb := vat (l'.map rqv) d) (va' := vat (l.map rqv) m) (vb' := idv) Eqv.refl).1
            rw [← hu, matA_matQ] at cR
            have hR := red_rref (r := n) (c := m) (d := d) (va := vat (l.map rqv) m) (vb := vat (l'.map rqv) d)
            have hRBa := vat_RB (hM.rb (by decide)) (by decide) m
            have hRBb := vat_RB (hM'.rb (by decide)) (by decide) d
            have hRW : RW (bgM m d (vat (l.map rqv) m) (vat (l'.map rqv) d) n) (m + d) 2 := bgM_RW (fun i k _ _ => hRBa i k) (fun i k _ _ => hRBb i k)
            have hlen := hR.len
            have hnd := inc_nodup hR.inc
            have hplt := hR.lt
            generalize (tabR m (rdM n m 0 (vat (l.map rqv) m) idv) n).map q4v = ms at cR
            by_cases hok : SolOK n m d (vat (l.map rqv) m) (vat (l'.map rqv) d)
            · have cS := cS.1 hok
              have hXB : ∀ i k, i < m → k < d → RB (solX (rdP n m d (vat (l.map rqv) m) (vat (l'.map rqv) d)) (rdM n m d (vat (l.map rqv) m) (vat (l'.map rqv) d)) m i k) 682 := fun i k hi hk => by
                unfold solX
                split
                · rename_i h
                  obtain ⟨j, h1, h2⟩ := fi_at h
                  rw [h1, Int.toNat_natCast]
                  have := at_lt h2
                  exact (red_RB hRW (by omega) (by omega)).mono (kb_2 m (by omega))
                · exact RB.zero (by decide)
              have hXR := tabR_RB hXB
              have hXv : ∀ i k, i < m → k < d → vat (tabR d (solX (rdP n m d (vat (l.map rqv) m) (vat (l'.map rqv) d)) (rdM n m d (vat (l.map rqv) m) (vat (l'.map rqv) d)) m) m) d i k = solX (rdP n m d (vat (l.map rqv) m) (vat (l'.map rqv) d)) (rdM n m d (vat (l.map rqv) m) (vat (l'.map rqv) d)) m i k := fun i k hi hk => vat_tab hi hk
              have hXl := tabR_len (c := d) (val := solX (rdP n m d (vat (l.map rqv) m) (vat (l'.map rqv) d)) (rdM n m d (vat (l.map rqv) m) (vat (l'.map rqv) d)) m) m
              have hno : ∀ i k, i < m → k < d → i ∉ rdP n m d (vat (l.map rqv) m) (vat (l'.map rqv) d) → vat (tabR d (solX (rdP n m d (vat (l.map rqv) m) (vat (l'.map rqv) d)) (rdM n m d (vat (l.map rqv) m) (vat (l'.map rqv) d)) m) m) d i k = 0 := fun i k hi hk h => by
                rw [hXv i k hi hk]; unfold solX; rw [if_neg h]
              have hprod : ∀ i, i < n → ∀ k, k < d → prodV m (vat (l.map rqv) m) (vat (tabR d (solX (rdP n m d (vat (l.map rqv) m) (vat (l'.map rqv) d)) (rdM n m d (vat (l.map rqv) m) (vat (l'.map rqv) d)) m) m) d) i k = vat (l'.map rqv) d i k := fun i hi k hk => by
                refine red_solves (r := n) (c := m) (d := d) hok (fun j hj k hk => ?_) (fun i' hi' hip k hk => hno i' k hi' hk hip) hi hk
                rw [hXv _ k (hplt _ (List.mem_of_getElem? (getE hj))) hk, solX_piv hnd hj]
              generalize tabR d (solX (rdP n m d (vat (l.map rqv) m) (vat (l'.map rqv) d)) (rdM n m d (vat (l.map rqv) m) (vat (l'.map rqv) d)) m) m = xs at *
              have hMX := MV.made hXR
              have hXl' : (xs.map q4v).length = m * d := by rw [List.length_map]; exact hXl
              have hXRv := vat_RB hXR (by decide) d
              rw [matA_matQ] at cS
              have cN := con_mNormal hXR (by decide) hXl (by omega) (by omega)
              have cM := con_mMul hM hl hMX hXl' (by omega) (by omega) (by omega) (by decide) (by decide) (by have := Nat.mul_le_mul_right (2 + 682 + 1) (show m + 1 ≤ 5 by omega); omega)
              rw [show tabR d (prodV m (vat (l.map rqv) m) (vat xs d)) n = l'.map rqv from (tabR_ext hprod).trans (tab_vat hvl'), matA_matQ] at cM
              have hPB : ∀ v ∈ l'.map rqv, RB v 2 := hM'.rb (by decide)
              have cSa := con_mSame (r := n) (c := d) (MV.made hPB) hM' (by decide) (by rw [List.length_map]; omega)
              have cIn : ∀ i, i < m → PureOK Tryz.prog 37 [.r (rowR 1 piC (rdP n m d (vat (l.map rqv) m) (vat (l'.map rqv) d))), .v (.int .i64 (i : Int))] (.v (.bool (decide (i ∈ rdP n m d (vat (l.map rqv) m) (vat (l'.map rqv) d))))) := fun i hi => con_rIn _ i (by omega)
              generalize (l'.map rqv).map q4v = ys at *
              generalize rdP n m d (vat (l.map rqv) m) (vat (l'.map rqv) d) = ps at *
              clear hXB hXv hprod hXRv hRW hRBa hRBb hok hu hR hs hs' hPB
              refine PureOK.fnF Tryz.func8 Tryz.results8 Tryz.ntmps8 rfl rfl rfl (by simp [AV.ids, AV0.ids, Atom.ids]) rfl (fun w0 T B E0 hB => ?_)
              refine SX.goF ?_
              refine W.loop (fun i => i ≤ m) (fun i => [(2, .ptr 2 0), (3, .ptr 3 0), (5, .ptr 5 0), (8, .r (rowR 1 piC ps)), (17, .v (.int .i64 (i : Int)))]) (fun i => [(2, .box 24 (matQ n m (l.map rq))), (3, .box 24 (matQ n d (l'.map rq))), (5, .box 24 (matQ m d (xs.map q4v)))]) (fun i => m - i) 0 (Nat.zero_le _) (fun i hi => ?_)
              by_cases hi2 : i < m
              · have cI := cIn i hi2
                refine SX.goF ?_
                refine W.loop (fun k => k ≤ d) (fun k => [(2, .ptr 2 0), (3, .ptr 3 0), (5, .ptr 5 0), (8, .r (rowR 1 piC ps)), (17, .v (.int .i64 (i : Int))), (18, .v (.int .i64 (k : Int)))]) (fun k => [(2, .box 24 (matQ n m (l.map rq))), (3, .box 24 (matQ n d (l'.map rq))), (5, .box 24 (matQ m d (xs.map q4v)))]) (fun k => d - k) 0 (Nat.zero_le _) (fun k hk => ?_)
                by_cases hk2 : k < d
                · by_cases hip : i ∈ ps
                  · rw [decide_eq_true hip] at cI
                    refine SX.goF ?_
                    exact W.next (k + 1) hk2 (by omega)
                  · rw [decide_eq_false hip] at cI
                    obtain ⟨q, hq, ra⟩ := hMX.at hXl' hi2 hk2
                    rw [hno i k hi2 hk2 hip] at ra
                    have cA := con_rAt (r := m) hq (by omega) (by omega) (by omega)
                    have cC := sign_0 (l := q4A q) (by decide)
                    refine SX.goF ?_
                    exact W.next (k + 1) hk2 (by omega)
                · obtain rfl : k = d := by omega
                  refine SX.goF ?_
                  exact W.next (i + 1) hi2 (by omega)
              · obtain rfl : i = m := by omega
                refine SX.goF ?_
                refine retB ?_; first | rfl | exact decide_eq_true rfl
            · have cS := cS.2 hok
              obtain ⟨i0, k0, hi0, hk0, hne⟩ : ∃ i0 k0, ((rdP n m d (vat (l.map rqv) m) (vat (l'.map rqv) d)).length ≤ i0 ∧ i0 < n) ∧ k0 < d ∧ rdM n m d (vat (l.map rqv) m) (vat (l'.map rqv) d) i0 (m + k0) ≠ 0 := by
                refine Classical.byContradiction fun hno => hok fun i h1 h2 k hk => Classical.byContradiction fun hne => hno ⟨i, k, ⟨h1, h2⟩, hk, hne⟩
              have cT := con_qmTranspose hM hl (by omega) (by omega) (by decide)
              have cU := con_qmTranspose hM' hl' (by omega) (by omega) (by decide)
              have hTR : ∀ v ∈ tabR n (fun i k => vat (l.map rqv) m k i) m, RB v 2 := tabR_RB fun i k _ _ => hRBa k i
              have hUR : ∀ v ∈ tabR n (fun i k => vat (l'.map rqv) d k i) d, RB v 2 := tabR_RB fun i k _ _ => hRBb k i
              have hTl : (tabR n (fun i k => vat (l.map rqv) m k i) m).length = m * n := tabR_len m
              have hUl : (tabR n (fun i k => vat (l'.map rqv) d k i) d).length = d * n := tabR_len d
              have hnev := red_never (r := n) (c := m) (d := d) (va := vat (l.map rqv) m) (vb := vat (l'.map rqv) d) (vt := vat (tabR n (fun i k => vat (l.map rqv) m k i) m ++ tabR n (fun i k => vat (l'.map rqv) d k i) d) n) (vx := idv) (e := 0) hi0 hk0 hne
                (fun j hj i hi => by rw [vat_app1 hTl hj hi, vat_tab hj hi]) (fun j hj i hi => by rw [vat_app2 hTl, vat_tab hj hi])
              generalize tabR n (fun i k => vat (l.map rqv) m k i) m = ts at *
              generalize tabR n (fun i k => vat (l'.map rqv) d k i) d = us at *
              rw [matA_matQ] at cT cU
              have hMTU := (MV.made hTR).app (MV.made hUR)
              have hTl' : (ts.map q4v).length = m * n := by rw [List.length_map]; exact hTl
              have hUl' : (us.map q4v).length = d * n := by rw [List.length_map]; exact hUl
              have hmn := Nat.mul_le_mul hm hn
              have hdn := Nat.mul_le_mul hd hn
              have cK := con_rStacked (r := m) (c := n) (r' := d) (c' := n) (l := ts.map q4v) (l' := us.map q4v) (by omega) (by omega) (by omega) (by omega)
              have cR2 := con_Reduce hMTU (r := m + d) (c := n) (by rw [List.length_append, hTl', hUl', Nat.add_mul]) (by omega) (by omega) (by decide) (fun k hk => Nat.le_trans (kb_2 k (by omega)) (by decide)) (Nat.le_trans (kb_2 n (by omega)) (by decide))
              have hlen2 := (red_rref (r := m + d) (c := n) (d := 0) (va := vat (ts ++ us) n) (vb := idv)).len
              generalize tabR n (rdM (m + d) n 0 (vat (ts ++ us) n) idv) (m + d) = bs at cR2
              generalize rdP (m + d) n 0 (vat (ts ++ us) n) idv = qs at *
              generalize rdP n m d (vat (l.map rqv) m) (vat (l'.map rqv) d) = ps at *
              clear hRW hRBa hRBb hok hu hR hs hs' hne hMTU
              refine PureOK.fnF Tryz.func8 Tryz.results8 Tryz.ntmps8 rfl rfl rfl (by simp [AV.ids, AV0.ids, Atom.ids]) rfl (fun w0 T B E0 hB => ?_)
              refine SX.goF ?_
              refine retB ?_; exact decide_eq_true (by omega)
          · have cS := con_SolveS (r := r) (c := c) (r' := r') (d := c') (l := l.map rq) (l' := l'.map rq) (fun h => hrr h.2.2)
            refine PureOK.fnF Tryz.func8 Tryz.results8 Tryz.ntmps8 rfl rfl rfl (by simp [AV.ids, AV0.ids, Atom.ids]) rfl (fun w0 T B E0 hB => ?_)
            refine SX.goF ?_
            refine retB ?_; first | rfl | exact decide_eq_true rfl
        · have cF' := con_rF0 (cells := (l'.map rq).flatMap q4C) hF'
          have cS := con_SolveS (r := r) (c := c) (r' := r') (d := c') (l := l.map rq) (l' := l'.map rq) (fun h => hF' h.2.1)
          refine PureOK.fnF Tryz.func8 Tryz.results8 Tryz.ntmps8 rfl rfl rfl (by simp [AV.ids, AV0.ids, Atom.ids]) rfl (fun w0 T B E0 hB => ?_)
          refine SX.goF ?_
          refine retB ?_; first | rfl | exact decide_eq_true rfl
      · have cF := con_rF0 (cells := (l.map rq).flatMap q4C) hF
        have cS := con_SolveS (r := r) (c := c) (r' := r') (d := c') (l := l.map rq) (l' := l'.map rq) (fun h => hF h.1)
        refine PureOK.fnF Tryz.func8 Tryz.results8 Tryz.ntmps8 rfl rfl rfl (by simp [AV.ids, AV0.ids, Atom.ids]) rfl (fun w0 T B E0 hB => ?_)
        refine SX.goF ?_
        refine retB ?_; first | rfl | exact decide_eq_true rfl
    · have cFew' := cFew'.2 hf'
      refine PureOK.fnF Tryz.func8 Tryz.results8 Tryz.ntmps8 rfl rfl rfl (by simp [AV.ids, AV0.ids, Atom.ids]) rfl (fun w0 T B E0 hB => ?_)
      refine SX.goF ?_
      exact retB rfl
  · have cFew := cFew.2 hf
    refine PureOK.fnF Tryz.func8 Tryz.results8 Tryz.ntmps8 rfl rfl rfl (by simp [AV.ids, AV0.ids, Atom.ids]) rfl (fun w0 T B E0 hB => ?_)
    refine SX.goF ?_
    exact retB rfl
end Go.Proofs.YtpchnbhkkbnjbaaGreatDoor
/- Sums, multiples, products, transposes of matrices of whole numbers: the walks; the same matrices of fractions. -/
set_option linter.unusedVariables false
set_option linter.unusedSimpArgs false
namespace Go.Proofs.YtpchnbhkkbnjbaaGreatDoor
open Go.RowKit QM SX LA
attribute [local irreducible] IntKind.wrap Go1 Reg WP thenK inBlk retQ retF RetF RetOK ResOK CallOK OpOK Sat
attribute [local irreducible] qsub qmul qquo qcmp qadd qv redS mf
abbrev ptrZ (r c : Nat) (l : List Z2) : AV := .r (ptrR [.val (.int .i64 (r : Int)), .val (.int .i64 (c : Int)), .sat (rowR 2 z2C l)])
def zat2 (l : List Z2) (c i k : Nat) : Z2 := l.getD (i * c + k) (z2v 0)
theorem zat2_at {l : List Z2} {r c i k : Nat} (hl : l.length = r * c) (hi : i < r) (hk : k < c) : l[i * c + k]? = some (zat2 l c i k) := by
  have h := idx_lt hi hk
  unfold zat2
  rw [List.getD_eq_getElem?_getD, List.getElem?_eq_getElem (by omega)]; rfl
theorem MZ.zat2 {r c i k K : Nat} {l : List Z2} {zs : List Int} (hM : MZ l zs K) (hl : l.length = r * c) (hi : i < r) (hk : k < c) : ZQ (zat2 l c i k) (zat zs c i k) K :=
  hM.z _ _ _ (zat2_at hl hi hk) (zat_at (by rw [← hM.len]; exact hl) hi hk)
theorem con_zmT1 {r c i k : Nat} {l : List Z2} {q : Z2} (hq : l[k * c + i]? = some q) (hi : i ≤ 100) (hc : c ≤ 100) (hk : k ≤ 100) : PureOK Tryz.prog 97 [.v (.int .i64 (i : Int)), .v (.int .i64 (k : Int)), ptrZ r c l] (.agg (z2A q)) := by
  have cG := con_zget (r := r) hq (by omega) (by omega) (by omega)
  refine PureOK.fnF Tryz.func97 Tryz.results97 Tryz.ntmps97 rfl rfl rfl (by simp [AV.ids, AV0.ids, Atom.ids]) rfl (fun w0 T B E0 hB => ?_)
  refine SX.goF ?_
  exact retA (ResOK.agg2 rfl rfl rfl) rfl
theorem con_zmTranspose {r c : Nat} {l : List Z2} {zs : List Int} {K : Nat} (hM : MZ l zs K) (hl : l.length = r * c) (hr : r ≤ 64) (hc : c ≤ 64) (hK : K ≤ 400000) :
    PureOK Tryz.prog 47 [.agg (matY r c l)] (.tup [.agg (matN c r (tabZ r (fun i k => zat zs c k i) c)), eNo 0]) := by
  have cF := con_zF (cells := l.flatMap z2C) (FormedP.nat hr hc hl)
  have cM := con_zmade c r (.sat (cloR 97 [] [.sat (ptrR [.val (.int .i64 (r : Int)), .val (.int .i64 (c : Int)), .sat (rowR 2 z2C l)])])) (fun i k => zat2 l c k i) (fun i k => zat zs c k i) K (by omega) (by omega) (by omega)
    (fun i k hi hk => FnV.clo (con_zmT1 (zat2_at hl hk hi) (by omega) (by omega) (by omega))) (fun i k hi hk => hM.zat2 hl hk hi) rfl
  refine PureOK.fnF Tryz.func47 Tryz.results47 Tryz.ntmps47 rfl rfl rfl (by simp [AV.ids, AV0.ids, Atom.ids]) rfl (fun w0 T B E0 hB => ?_)
  refine SX.goF ?_
  refine SX.WP.freezeB 1 hB rfl rfl ?_
  refine SX.WP.regionL ?_
  refine SX.goF ?_
  exact .ok (RetOK.mk2 (ResOK.agg3 rfl rfl rfl) (ResOK.tmp rfl))
theorem con_zalike {r c r' c' : Nat} {l l' : List Z2} (hl : l.length = r * c) (hl' : l'.length = r' * c') (hr : r ≤ 64) (hc : c ≤ 64) (hr' : r' ≤ 64) (hc' : c' ≤ 64) (goal : Bool) (hg : goal = true ↔ r = r' ∧ c = c') :
    PureOK Tryz.prog 88 [.agg (matY r c l), .agg (matY r' c' l')] (.v (.bool goal)) := by
  have cF := con_zF (cells := l.flatMap z2C) (FormedP.nat hr hc hl)
  have cF' := con_zF (cells := l'.flatMap z2C) (FormedP.nat hr' hc' hl')
  refine PureOK.fnF Tryz.func88 Tryz.results88 Tryz.ntmps88 rfl rfl rfl (by simp [AV.ids, AV0.ids, Atom.ids]) rfl (fun w0 T B E0 hB => ?_)
  by_cases h1 : (r : Int) = (r' : Int)
  · refine SX.goF ?_
    refine retB ?_
    rw [Bool.eq_iff_iff, hg, decide_eq_true_iff]; omega
  · refine SX.goF ?_
    refine retB ?_
    exact (Bool.eq_false_iff.2 fun ht => h1 (by have := (hg.1 ht).1; omega)).symm
theorem con_zmA1 {r c i k : Nat} {l l' : List Z2} {q q' : Z2} {v v' : Int} {K K' : Nat} (hq : l[i * c + k]? = some q) (hq' : l'[i * c + k]? = some q') (ra : ZQ q v K) (ra' : ZQ q' v' K') (hi : i ≤ 100) (hc : c ≤ 100) (hk : k ≤ 100) (hK : K + K' ≤ 400000) :
    PureOK Tryz.prog 90 [.v (.int .i64 (i : Int)), .v (.int .i64 (k : Int)), ptrZ r c l, ptrZ r c l'] (.agg (z2A (z2v (v + v')))) := by
  have cG := con_zget (r := r) hq (by omega) (by omega) (by omega)
  have cG' := con_zget (r := r) hq' (by omega) (by omega) (by omega)
  have cA := (con_zAdd (h := ra.zi) (h' := ra'.zi)).h (by omega)
  refine PureOK.fnF Tryz.func90 Tryz.results90 Tryz.ntmps90 rfl rfl rfl (by simp [AV.ids, AV0.ids, Atom.ids]) rfl (fun w0 T B E0 hB => ?_)
  refine SX.goF ?_
  exact retA (ResOK.agg2 rfl rfl rfl) rfl
theorem add_lt {a b : Int} {K : Nat} (h : a.natAbs < WB ^ K) (h' : b.natAbs < WB ^ K) : (a + b).natAbs < WB ^ (K + 1) := by
  have := two_lt K
  omega
theorem con_zmAdd {r c : Nat} {l l' : List Z2} {zs zs' : List Int} {K : Nat} (hM : MZ l zs K) (hl : l.length = r * c) (hM' : MZ l' zs' K) (hl' : l'.length = r * c) (hr : r ≤ 64) (hc : c ≤ 64) (hK : K ≤ 100000) :
    PureOK Tryz.prog 44 [.agg (matY r c l), .agg (matY r c l')] (.tup [.agg (matN r c (tabZ c (fun i k => zat zs c i k + zat zs' c i k) r)), eNo 0]) := by
  have cF := con_zalike hl hl' hr hc hr hc true ⟨fun _ => ⟨rfl, rfl⟩, fun _ => rfl⟩
  have cM := con_zmade r c (.sat (cloR 90 [] [.sat (ptrR [.val (.int .i64 (r : Int)), .val (.int .i64 (c : Int)), .sat (rowR 2 z2C l)]), .sat (ptrR [.val (.int .i64 (r : Int)), .val (.int .i64 (c : Int)), .sat (rowR 2 z2C l')])])) (fun i k => z2v (zat zs c i k + zat zs' c i k)) (fun i k => zat zs c i k + zat zs' c i k) (K + 1) (by omega) (by omega) (by omega)
    (fun i k hi hk => FnV.clo (con_zmA1 (zat2_at hl hi hk) (zat2_at hl' hi hk) (hM.zat2 hl hi hk) (hM'.zat2 hl' hi hk) (by omega) (by omega) (by omega) (by omega)))
    (fun i k hi hk => ZQ.made (add_lt (hM.zat2 hl hi hk).b (hM'.zat2 hl' hi hk).b)) rfl
  refine PureOK.fnF Tryz.func44 Tryz.results44 Tryz.ntmps44 rfl rfl rfl (by simp [AV.ids, AV0.ids, Atom.ids]) rfl (fun w0 T B E0 hB => ?_)
  refine SX.goF ?_
  refine SX.WP.freezeB 2 hB rfl rfl ?_
  refine SX.WP.freezeB 3 hB rfl rfl ?_
  refine SX.WP.regionL ?_
  refine SX.goF ?_
  exact .ok (RetOK.mk2 (ResOK.agg3 rfl rfl rfl) (ResOK.tmp rfl))
theorem con_zmAdd0 {r c r' c' : Nat} {l l' : List Z2} (hl : l.length = r * c) (hl' : l'.length = r' * c') (hr : r ≤ 64) (hc : c ≤ 64) (hr' : r' ≤ 64) (hc' : c' ≤ 64) (h : ¬ (r = r' ∧ c = c')) :
    PureOK Tryz.prog 44 [.agg (matY r c l), .agg (matY r' c' l')] (.tup [.agg (matY 0 0 []), eNo 2]) := by
  have cF := con_zalike hl hl' hr hc hr' hc' false ⟨fun h => (by cases h), fun e => absurd e h⟩
  refine PureOK.fnF Tryz.func44 Tryz.results44 Tryz.ntmps44 rfl rfl rfl (by simp [AV.ids, AV0.ids, Atom.ids]) rfl (fun w0 T B E0 hB => ?_)
  refine SX.goF ?_
  exact .ok (RetOK.mk2 ((ResOK.agg3 rfl rfl rfl).imp mat0_imp) (ResOK.tmp rfl))
theorem con_zmS1 {r c i k : Nat} {l : List Z2} {q d : Z2} {v v' : Int} {K K' : Nat} (hq : l[i * c + k]? = some q) (ra : ZQ q v K) (ra' : ZQ d v' K') (hi : i ≤ 100) (hc : c ≤ 100) (hk : k ≤ 100) (hK : K + K' ≤ 400000) :
    PureOK Tryz.prog 98 [.v (.int .i64 (i : Int)), .v (.int .i64 (k : Int)), ptrZ r c l, .r (ptrR [.val (.bool d.1), .sat d.2])] (.agg (z2A (z2v (v * v')))) := by
  have cG := con_zget (r := r) hq (by omega) (by omega) (by omega)
  have cA := (con_zMul (h := ra.zi) (h' := ra'.zi)).h (by omega)
  refine PureOK.fnF Tryz.func98 Tryz.results98 Tryz.ntmps98 rfl rfl rfl (by simp [AV.ids, AV0.ids, Atom.ids]) rfl (fun w0 T B E0 hB => ?_)
  refine SX.goF ?_
  exact retA (ResOK.agg2 rfl rfl rfl) rfl
theorem mul_ltZ {a b : Int} {K L : Nat} (h : a.natAbs < WB ^ K) (h' : b.natAbs < WB ^ L) : (a * b).natAbs < WB ^ (K + L) := by
  rw [Int.natAbs_mul]; exact mul_lt_pow h h'
theorem con_zmScale {r c : Nat} {l : List Z2} {d : Z2} {zs : List Int} {v : Int} {K K' : Nat} (hM : MZ l zs K) (hl : l.length = r * c) (hd : ZQ d v K') (hr : r ≤ 64) (hc : c ≤ 64) (hK : K + K' ≤ 300000) :
    PureOK Tryz.prog 48 [.agg (matY r c l), .agg (z2A d)] (.tup [.agg (matN r c (tabZ c (fun i k => zat zs c i k * v) r)), eNo 0]) := by
  have cF := con_zF (cells := l.flatMap z2C) (FormedP.nat hr hc hl)
  have cM := con_zmade r c (.sat (cloR 98 [] [.sat (ptrR [.val (.int .i64 (r : Int)), .val (.int .i64 (c : Int)), .sat (rowR 2 z2C l)]), .sat (ptrR [.val (.bool d.1), .sat d.2])])) (fun i k => z2v (zat zs c i k * v)) (fun i k => zat zs c i k * v) (K + K') (by omega) (by omega) (by omega)
    (fun i k hi hk => FnV.clo (con_zmS1 (zat2_at hl hi hk) (hM.zat2 hl hi hk) hd (by omega) (by omega) (by omega) (by omega)))
    (fun i k hi hk => ZQ.made (mul_ltZ (hM.zat2 hl hi hk).b hd.b)) rfl
  refine PureOK.fnF Tryz.func48 Tryz.results48 Tryz.ntmps48 rfl rfl rfl (by simp [AV.ids, AV0.ids, Atom.ids]) rfl (fun w0 T B E0 hB => ?_)
  refine SX.goF ?_
  refine SX.WP.freezeB 2 hB rfl rfl ?_
  refine SX.WP.freezeB 3 hB rfl rfl ?_
  refine SX.WP.regionL ?_
  refine SX.goF ?_
  exact .ok (RetOK.mk2 (ResOK.agg3 rfl rfl rfl) (ResOK.tmp rfl))
/-- A sum of whole numbers. -/
def smZ : Nat → (Nat → Int) → Int
  | 0, _ => 0
  | n + 1, f => smZ n f + f n
theorem smZ_lt {f : Nat → Int} {K : Nat} : ∀ {n : Nat}, (∀ j, j < n → (f j).natAbs < WB ^ K) → (smZ n f).natAbs < WB ^ (K + n)
  | 0, _ => pow_ge _
  | n + 1, h => by
    have h1 := smZ_lt (n := n) fun j hj => h j (by omega)
    have h2 := Nat.lt_of_lt_of_le (h n (by omega)) (Nat.pow_le_pow_right (n := WB) WB_pos (show K ≤ K + n by omega))
    exact add_lt h1 h2
theorem AtomTo.nilNrm {ρ : List (Nat × Option Nat)} : AtomTo ρ (.c (.val (.slice none 0 0))) (.c (.sat (nrmN 0))) := fun E S w v hv => by
  rw [show v = .slice none 0 0 from hv]
  refine nrmN_iff.2 ⟨[], by unfold Nrm; simp, rfl, fun _ => rfl, ?_⟩
  exact rawN_iff.2 ⟨Sm.nil, nil_row (enc := fun x : Nat => [CA.val (.int .u64 (x : Int))])⟩
theorem con_zmM1 {r c d i k : Nat} {l l' : List Z2} {zs zs' : List Int} {K K' : Nat} (hM : MZ l zs K) (hl : l.length = r * c) (hM' : MZ l' zs' K') (hl' : l'.length = c * d) (hi : i < r) (hk : k < d) (hr : r ≤ 100) (hc : c ≤ 100) (hd : d ≤ 100) (hKB : K + K' ≤ 100000) :
    PureOK Tryz.prog 95 [.v (.int .i64 (i : Int)), .v (.int .i64 (k : Int)), ptrZ r c l, ptrZ c d l'] (.agg (z2A (z2v (smZ c (fun j => zat zs c i j * zat zs' d j k))))) := by
  have hsm : ∀ j, j ≤ c → (smZ j (fun j => zat zs c i j * zat zs' d j k)).natAbs < WB ^ (K + K' + j) := fun j hj => smZ_lt fun j hj => mul_ltZ (hM.zat2 hl hi (by omega)).b (hM'.zat2 hl' (by omega) hk).b
  refine PureOK.fnF Tryz.func95 Tryz.results95 Tryz.ntmps95 rfl rfl rfl (by simp [AV.ids, AV0.ids, Atom.ids]) rfl (fun w0 T B E0 hB => ?_)
  refine SX.goF ?_
  refine W.loop (fun j => j ≤ c) (fun j => [(0, .v (.int .i64 (i : Int))), (1, .v (.int .i64 (k : Int))), (2, ptrZ r c l), (3, ptrZ c d l'), (6, .ptr 6 0), (7, .ptr 7 0), (10, .v (.int .i64 (c : Int))), (11, .v (.int .i64 (j : Int)))]) (fun j => [(6, .box 45 [.c (.val (.bool false)), .c (.val (.slice none 0 0))]), (7, .box 45 (zN (smZ j (fun j => zat zs c i j * zat zs' d j k))))]) (fun j => c - j) 0 (Nat.zero_le _) (fun j hj => ?_)
    (by
      refine SX.St.le_to [] (by intro b h; cases h) ?_ ?_ rfl
      · repeat (first | exact trivial | refine ⟨⟨_, rfl, SX.AVto.same rfl⟩, ?_⟩)
      · exact ⟨SX.EntTo.same rfl rfl, SX.EntTo.boxTo rfl rfl ⟨AtomTo.same rfl, AtomTo.nilNrm, trivial⟩, trivial⟩)
  by_cases hj2 : j < c
  · obtain ⟨q, hq, ra⟩ := hM.at hl hi hj2
    obtain ⟨q', hq', ra'⟩ := hM'.at hl' hj2 hk
    have cA := con_zget (r := r) hq (by omega) (by omega) (by omega)
    have cA' := con_zget (r := c) hq' (by omega) (by omega) (by omega)
    have rs := (ZQ.made (hsm j hj)).zi
    have rp := (ZQ.made (mul_ltZ ra.b ra'.b)).zi
    have cM := (con_zMul (h := ra.zi) (h' := ra'.zi)).h (by omega)
    have cD := (con_zAdd (h := rs) (h' := rp)).h (by omega)
    refine SX.goF ?_
    refine W.next (j + 1) hj2 (by omega) (by
      refine SX.St.le_to [] (by intro b h; cases h) ?_ ?_ rfl
      · repeat (first | exact trivial | refine ⟨⟨_, rfl, SX.AVto.same rfl⟩, ?_⟩)
      · exact ⟨SX.EntTo.same rfl rfl, SX.EntTo.same rfl rfl, trivial⟩)
  · obtain rfl : j = c := by omega
    refine SX.goF ?_
    exact retA (ResOK.agg2 rfl rfl rfl) rfl
theorem con_zmMul {r c d : Nat} {l l' : List Z2} {zs zs' : List Int} {K K' : Nat} (hM : MZ l zs K) (hl : l.length = r * c) (hM' : MZ l' zs' K') (hl' : l'.length = c * d) (hr : r ≤ 64) (hc : c ≤ 64) (hd : d ≤ 64) (hKB : K + K' ≤ 100000) :
    PureOK Tryz.prog 46 [.agg (matY r c l), .agg (matY c d l')] (.tup [.agg (matN r d (tabZ d (fun i k => smZ c (fun j => zat zs c i j * zat zs' d j k)) r)), eNo 0]) := by
  have cF := con_zF (cells := l.flatMap z2C) (FormedP.nat hr hc hl)
  have cF' := con_zF (cells := l'.flatMap z2C) (FormedP.nat hc hd hl')
  have cM := con_zmade r d (.sat (cloR 95 [] [.sat (ptrR [.val (.int .i64 (r : Int)), .val (.int .i64 (c : Int)), .sat (rowR 2 z2C l)]), .sat (ptrR [.val (.int .i64 (c : Int)), .val (.int .i64 (d : Int)), .sat (rowR 2 z2C l')])])) (fun i k => z2v (smZ c (fun j => zat zs c i j * zat zs' d j k))) (fun i k => smZ c (fun j => zat zs c i j * zat zs' d j k)) (K + K' + c) (by omega) (by omega) (by omega)
    (fun i k hi hk => FnV.clo (con_zmM1 hM hl hM' hl' hi hk (by omega) (by omega) (by omega) hKB))
    (fun i k hi hk => ZQ.made (smZ_lt fun j hj => mul_ltZ (hM.zat2 hl hi hj).b (hM'.zat2 hl' hj hk).b)) rfl
  refine PureOK.fnF Tryz.func46 Tryz.results46 Tryz.ntmps46 rfl rfl rfl (by simp [AV.ids, AV0.ids, Atom.ids]) rfl (fun w0 T B E0 hB => ?_)
  refine SX.goF ?_
  refine SX.WP.freezeB 2 hB rfl rfl ?_
  refine SX.WP.freezeB 3 hB rfl rfl ?_
  refine SX.WP.regionL ?_
  refine SX.goF ?_
  exact .ok (RetOK.mk2 (ResOK.agg3 rfl rfl rfl) (ResOK.tmp rfl))
theorem con_zmMul0 {r c r' d : Nat} {l l' : List Z2} (hl : l.length = r * c) (hl' : l'.length = r' * d) (hr : r ≤ 64) (hc : c ≤ 64) (hr' : r' ≤ 64) (hd : d ≤ 64) (h : ¬ c = r') :
    PureOK Tryz.prog 46 [.agg (matY r c l), .agg (matY r' d l')] (.tup [.agg (matY 0 0 []), eNo 2]) := by
  have cF := con_zF (cells := l.flatMap z2C) (FormedP.nat hr hc hl)
  have cF' := con_zF (cells := l'.flatMap z2C) (FormedP.nat hr' hd hl')
  have h2 : ¬ (c : Int) = (r' : Int) := by omega
  refine PureOK.fnF Tryz.func46 Tryz.results46 Tryz.ntmps46 rfl rfl rfl (by simp [AV.ids, AV0.ids, Atom.ids]) rfl (fun w0 T B E0 hB => ?_)
  refine SX.goF ?_
  exact .ok (RetOK.mk2 ((ResOK.agg3 rfl rfl rfl).imp mat0_imp) (ResOK.tmp rfl))
end Go.Proofs.YtpchnbhkkbnjbaaGreatDoor
/- Matrices of whole numbers that come in; the same matrices. -/
set_option linter.unusedVariables false
set_option linter.unusedSimpArgs false
namespace Go.Proofs.YtpchnbhkkbnjbaaGreatDoor
open Go.RowKit QM SX LA
open Go.ChangeShapes Go.WideShapes Go.ChangeAt Go.Joins
abbrev RawZ := Bool × List Nat
abbrev rz (x : RawZ) : Z2 := (x.1, rawN x.2)
def rzv (x : RawZ) : Int := sgn x.1 (nval WB x.2)
def rzC (p : RawZ) : List CA := z2C (rz p)
instance : EncLen rzC 2 := ⟨fun _ => rfl⟩
abbrev RawW := Int × Int × List RawZ
section
variable {H : Type} {enc : TypeId × Value → H} {W : World} {base : Nat} {sp : Nat → Bool} {hd : Bool}
theorem rz_row (l : List RawZ) : rowR 2 rzC l = rowR 2 z2C (l.map rz) := by
  show sliceR 2 l.length (l.flatMap rzC) = sliceR 2 (l.map rz).length ((l.map rz).flatMap z2C)
  rw [List.length_map, List.flatMap_map]; rfl
theorem decZsS (n : Nat) : DecF enc Tryz.prog W base sp hd n 39 (fun l : List RawZ => [.sat (rowR 2 rzC l)]) (fun l => l.length ≤ maxLen ∧ ∀ a ∈ l, Sm WB a.2) :=
  DecF.all (fun n => dec_slice (enc' := rzC) Tryz.underlying39 (by kernel_rfl) (DecF.conv (decZS n) id (fun _ h => h) (fun _ => rfl))) n
theorem decZMat (n : Nat) : DecF enc Tryz.prog W base sp hd n 41 (fun p : RawW => [.val (.int .i64 p.1), .val (.int .i64 p.2.1), .sat (rowR 2 z2C (p.2.2.map rz))]) (fun p => ∀ a ∈ p.2.2, Sm WB a.2) :=
  DecF.all (fun n => DecF.conv (dec_struct3 Tryz.underlying41 rfl (by kernel_rfl) (by kernel_rfl) (by kernel_rfl) (dec_int Tryz.underlying3) (dec_int Tryz.underlying3) (decZsS n)) id (fun p h => h.2.2.2) (fun p => by
    show [CA.val (.int .i64 p.1), CA.val (.int .i64 p.2.1), CA.sat (rowR 2 z2C (p.2.2.map rz))] = [CA.val (.int .i64 p.1), CA.val (.int .i64 p.2.1), CA.sat (rowR 2 rzC p.2.2)]
    rw [rz_row])) n
end
attribute [local irreducible] IntKind.wrap Go1 Reg WP thenK inBlk retQ retF RetF RetOK ResOK CallOK OpOK Sat
attribute [local irreducible] qsub qmul qquo qcmp qadd qv redS mf
theorem MZ.raw {l : List RawZ} {K : Nat} (hs : ∀ a ∈ l, Sm WB a.2) (hl : ∀ a ∈ l, a.2.length ≤ K) : MZ (l.map rz) (l.map rzv) K := by
  refine ⟨by rw [List.length_map, List.length_map], fun i q z hq hz => ?_⟩
  rw [List.getElem?_map] at hq hz
  cases hx : l[i]? with
  | none => rw [hx] at hq; cases hq
  | some x =>
    rw [hx] at hq hz
    cases hq; cases hz
    exact ZQ.raw (hs x (List.mem_of_getElem? hx)) (hl x (List.mem_of_getElem? hx))
theorem con_r11Formed (r c : Int) {n : Nat} {cells : List CA} (goal : Bool) (hg : goal = true ↔ FormedP r c n) : PureOK Tryz.prog 26 [.agg [.c (.val (.int .i64 r)), .c (.val (.int .i64 c)), .c (.sat (sliceR 2 n cells))]] (.v (.bool goal)) := by
  refine PureOK.fnF Tryz.func26 Tryz.results26 Tryz.ntmps26 rfl rfl rfl (by simp [AV.ids, AV0.ids, Atom.ids]) rfl (fun w0 T B E0 hB => ?_)
  by_cases h1 : r ≥ 0
  · by_cases h2 : r ≤ 64
    · by_cases h3 : c ≥ 0
      · by_cases h4 : c ≤ 64
        · have hp : 0 ≤ r * c := Int.mul_nonneg h1 h3
          have hp2 : r * c ≤ 64 * 64 := Int.mul_le_mul h2 h4 h3 (by decide)
          refine SX.goF ?_
          refine retB ?_
          rw [Bool.eq_iff_iff, hg, decide_eq_true_iff]
          exact ⟨fun h => ⟨h1, h2, h3, h4, h⟩, fun h => h.2.2.2.2⟩
        · refine SX.goF ?_
          refine retB ?_; exact (Bool.eq_false_iff.2 fun ht => h4 (hg.1 ht).2.2.2.1).symm
      · refine SX.goF ?_
        refine retB ?_; exact (Bool.eq_false_iff.2 fun ht => h3 (hg.1 ht).2.2.1).symm
    · refine SX.goF ?_
      refine retB ?_; exact (Bool.eq_false_iff.2 fun ht => h2 (hg.1 ht).2.1).symm
  · refine SX.goF ?_
    refine retB ?_; exact (Bool.eq_false_iff.2 fun ht => h1 (hg.1 ht).1).symm
def FewZ (r c : Int) (l : List RawZ) (s w : Int) : Prop := ((∀ k x, k < 100 → l[k]? = some x → (x.2.length : Int) ≤ w) ∧ l.length ≤ 100) ∧ r ≤ s ∧ c ≤ s
theorem con_r10Few (l : List RawZ) (w : Int) (goal : Bool) (hg : goal = true ↔ (∀ k x, k < 100 → l[k]? = some x → (x.2.length : Int) ≤ w) ∧ l.length ≤ 100) :
    PureOK Tryz.prog 69 [.r (rowR 2 z2C (l.map rz)), .v (.int .i64 100), .v (.int .i64 w)] (.v (.bool goal)) := by
  have hlen : (l.map rz).length = l.length := List.length_map _
  refine PureOK.fnF Tryz.func69 Tryz.results69 Tryz.ntmps69 rfl rfl rfl (by simp [AV.ids, AV0.ids, Atom.ids]) rfl (fun w0 T B E0 hB => ?_)
  refine SX.goF ?_
  refine W.loop (fun k => k ≤ l.length ∧ k ≤ 100 ∧ ∀ j x, j < k → l[j]? = some x → (x.2.length : Int) ≤ w) (fun k => [(0, .r (rowR 2 z2C (l.map rz))), (1, .v (.int .i64 100)), (2, .v (.int .i64 w)), (7, .v (.int .i64 (k : Int)))]) (fun _ => []) (fun k => l.length - k) 0 ⟨Nat.zero_le _, Nat.zero_le _, fun j x h => absurd h (Nat.not_lt_zero _)⟩ (fun k ⟨hk, hk2, he⟩ => ?_)
  by_cases h : k < l.length
  · have h' : k < (l.map rz).length := by omega
    by_cases h2 : k < 100
    · obtain ⟨x, hx⟩ : ∃ x, l[k]? = some x := ⟨_, List.getElem?_eq_getElem h⟩
      have hq : (l.map rz)[k]? = some (rz x) := by rw [List.getElem?_map, hx]; rfl
      by_cases h3 : (x.2.length : Int) ≤ w
      · refine SX.goF ?_
        refine W.next (k + 1) ⟨h, h2, fun j b hj hb => ?_⟩ (by omega)
        by_cases hjk : j < k
        · exact he j b hjk hb
        · obtain rfl : j = k := by omega
          rw [hx] at hb; rw [← Option.some.inj hb]; exact h3
      · refine SX.goF ?_
        refine retB ?_
        exact (Bool.eq_false_iff.2 fun ht => h3 ((hg.1 ht).1 k x h2 hx)).symm
    · obtain rfl : k = 100 := by omega
      refine SX.goF ?_
      refine retB ?_
      rw [Bool.eq_iff_iff, hg, decide_eq_true_iff]
      exact ⟨fun h => by omega, fun h => by have := h.2; omega⟩
  · obtain rfl : k = l.length := by omega
    have h' : ¬ l.length < (l.map rz).length := by omega
    have all : ∀ k x, k < 100 → l[k]? = some x → (x.2.length : Int) ≤ w := fun j x hj hx => he j x (at_lt hx) hx
    refine SX.goF ?_
    refine retB ?_
    rw [Bool.eq_iff_iff, hg, decide_eq_true_iff]
    exact ⟨fun h => ⟨all, by omega⟩, fun h => by have := h.2; omega⟩
theorem con_r11Few (r c : Int) (l : List RawZ) (s w : Int) (goal : Bool) (hg : goal = true ↔ FewZ r c l s w) :
    PureOK Tryz.prog 24 [.agg (matW r c (l.map rz)), .v (.int .i64 s), .v (.int .i64 w)] (.v (.bool goal)) := by
  by_cases h1 : r ≤ s
  · by_cases h2 : c ≤ s
    · have cF := con_r10Few l w goal (hg.trans ⟨fun h => h.1, fun h => ⟨h, h1, h2⟩⟩)
      refine PureOK.fnF Tryz.func24 Tryz.results24 Tryz.ntmps24 rfl rfl rfl (by simp [AV.ids, AV0.ids, Atom.ids]) rfl (fun w0 T B E0 hB => ?_)
      refine SX.goF ?_
      exact retB rfl
    · refine PureOK.fnF Tryz.func24 Tryz.results24 Tryz.ntmps24 rfl rfl rfl (by simp [AV.ids, AV0.ids, Atom.ids]) rfl (fun w0 T B E0 hB => ?_)
      refine SX.goF ?_
      refine retB ?_; exact (Bool.eq_false_iff.2 fun ht => h2 (hg.1 ht).2.2).symm
  · refine PureOK.fnF Tryz.func24 Tryz.results24 Tryz.ntmps24 rfl rfl rfl (by simp [AV.ids, AV0.ids, Atom.ids]) rfl (fun w0 T B E0 hB => ?_)
    refine SX.goF ?_
    refine retB ?_; exact (Bool.eq_false_iff.2 fun ht => h1 (hg.1 ht).2.1).symm
/-! The same matrices of fractions. -/
theorem con_same1 {q q' : Q4} {v : Rat} {K K' : Nat} (h : Ra (q4A q) v K) (h' : Ra (q4A q') v K') (hK : K + K' ≤ 400000) : PureOK Tryz.prog 101 [.agg (q4A q), .agg (q4A q')] (.v (.bool true)) := by
  have cC := cmp_eq (l := q4A q) (l' := q4A q') (v := v) hK
  refine PureOK.fnF Tryz.func101 Tryz.results101 Tryz.ntmps101 rfl rfl rfl (by simp [AV.ids, AV0.ids, Atom.ids]) rfl (fun w0 T B E0 hB => ?_)
  refine SX.goF ?_
  refine retB ?_; first | rfl | exact decide_eq_true rfl
theorem con_EqualQ {l l' : List Q4} (x : CA) (hx : ∀ (k : Nat) (q q' : Q4), l[k]? = some q → l'[k]? = some q' → FnV Tryz.prog x [.agg (q4A q), .agg (q4A q')] (.v (.bool true))) (hl : l.length = l'.length) (hb : l.length ≤ 100000) (hx1 : x.oneB = true) :
    PureOK Tryz.prog 100 [.r (rowR 4 q4C l), .r (rowR 4 q4C l'), .it (.one (.c x))] (.v (.bool true)) := by
  refine PureOK.fnF Tryz.func100 Tryz.results100 Tryz.ntmps100 rfl rfl rfl (by simp [AV.ids, AV0.ids, Atom.ids]) rfl (fun w0 T B E0 hB => ?_)
  refine SX.goF ?_
  refine W.loop (fun k => k ≤ l.length) (fun k => [(1, .r (rowR 4 q4C l')), (2, .it (.one (.c x))), (15, .r (rowR 4 q4C l)), (16, .v (.int .i64 (l.length : Int))), (17, .v (.int .i64 (k : Int)))]) (fun _ => []) (fun k => l.length - k) 0 (Nat.zero_le _) (fun k hk => ?_)
  by_cases h : k < l.length
  · have h' : k < l'.length := by omega
    obtain ⟨q, hq⟩ : ∃ q, l[k]? = some q := ⟨_, List.getElem?_eq_getElem h⟩
    obtain ⟨q', hq'⟩ : ∃ q, l'[k]? = some q := ⟨_, List.getElem?_eq_getElem h'⟩
    have cC := hx k q q' hq hq'
    refine SX.goF ?_
    exact W.next (k + 1) h (by omega)
  · obtain rfl : k = l.length := by omega
    refine SX.goF ?_
    exact retB rfl
theorem con_qmSame {r c : Nat} {l l' : List Q4} {vs : List Rat} {K K' : Nat} (hM : MV l vs K) (hM' : MV l' vs K') (hl : l.length = r * c) (hr : r ≤ 64) (hc : c ≤ 64) (hK : K + K' ≤ 400000) :
    PureOK Tryz.prog 50 [.agg (matQ r c l), .agg (matQ r c l')] (.v (.bool true)) := by
  have hl' : l'.length = r * c := by rw [hM'.len, ← hM.len]; exact hl
  have hb := Nat.mul_le_mul hr hc
  have cA := con_alike hl hl' hr hc hr hc true ⟨fun _ => ⟨rfl, rfl⟩, fun _ => rfl⟩
  have cE : PureOK Tryz.prog 100 [.r (rowR 4 q4C l), .r (rowR 4 q4C l'), .it (.one (.clo 101 []))] (.v (.bool true)) :=
    weakArgs (con_EqualQ (l := l) (l' := l') (.sat (cloR 101 [] [])) (fun k q q' hq hq' => FnV.const (by
      obtain ⟨v, hv⟩ : ∃ v, vs[k]? = some v := ⟨_, List.getElem?_eq_getElem (show k < vs.length by rw [← hM.len]; exact at_lt hq)⟩
      exact con_same1 (hM.ra _ _ _ hq hv) (hM'.ra _ _ _ hq' hv) hK)) (by omega) (by omega) rfl) fun E S w vs hv => by
      match vs, hv with
      | [u1, u2, u3], ⟨h1, h2, h3, _⟩ => exact ⟨h1, h2, fnArg h3, trivial⟩
  refine PureOK.fnF Tryz.func50 Tryz.results50 Tryz.ntmps50 rfl rfl rfl (by simp [AV.ids, AV0.ids, Atom.ids]) rfl (fun w0 T B E0 hB => ?_)
  refine SX.goF ?_
  exact retB rfl
end Go.Proofs.YtpchnbhkkbnjbaaGreatDoor
/- A matrix times the least number that makes it whole. -/
set_option linter.unusedVariables false
set_option linter.unusedSimpArgs false
namespace Go.Proofs.YtpchnbhkkbnjbaaGreatDoor
open Go.RowKit QM SX LA
/-! The least common denominator. -/
def lcmL : List Rat → Nat
  | [] => 1
  | v :: l => Nat.lcm (lcmL l) v.den
theorem lcmL_pos : ∀ l, 0 < lcmL l
  | [] => by decide
  | v :: l => Nat.lcm_pos (lcmL_pos l) (Nat.pos_of_ne_zero v.den_nz)
theorem lcmL_dvd : ∀ {l : List Rat} {v : Rat}, v ∈ l → v.den ∣ lcmL l
  | w :: l, v, h => by
    rcases List.mem_cons.1 h with rfl | h
    · exact Nat.dvd_lcm_right _ _
    · exact Nat.dvd_trans (lcmL_dvd h) (Nat.dvd_lcm_left _ _)
theorem lcmL_least : ∀ {l : List Rat} {n : Nat}, (∀ v ∈ l, v.den ∣ n) → lcmL l ∣ n
  | [], n, _ => Nat.one_dvd n
  | v :: l, n, h => Nat.lcm_dvd (lcmL_least fun w hw => h w (by simp [hw])) (h v (by simp))
theorem lcmL_lt {K : Nat} : ∀ {l : List Rat}, (∀ v ∈ l, RB v K) → lcmL l < WB ^ (1 + l.length * K)
  | [], _ => by
    have := WB_eq
    show 1 < WB ^ (1 + 0 * K)
    rw [Nat.zero_mul, Nat.add_zero, Nat.pow_one]; omega
  | v :: l, h => by
    have h1 := lcmL_lt (l := l) fun w hw => h w (by simp [hw])
    have h2 := (h v (by simp)).d
    refine Nat.lt_of_le_of_lt (Nat.le_of_dvd (Nat.mul_pos (lcmL_pos l) (Nat.pos_of_ne_zero v.den_nz)) (Nat.lcm_dvd (Nat.dvd_mul_right _ _) (Nat.dvd_mul_left _ _))) ?_
    have h3 := mul_lt_pow h1 h2
    rw [List.length_cons, Nat.succ_mul, ← Nat.add_assoc]; exact h3
/-- From the front. -/
def lcmF (l : List Rat) : Nat := lcmL l.reverse
theorem lcmF_snoc {l : List Rat} {v : Rat} : lcmF (l ++ [v]) = Nat.lcm (lcmF l) v.den := by
  unfold lcmF; rw [List.reverse_append]; rfl
/-- A whole number as a fraction. -/
def qj (z : Int) : Rat := qv z 1
theorem qj_cast (z : Int) : qj z = (z : Rat) := by unfold qj qv; grind
/-- A fraction times what its denominator divides is whole. -/
theorem whole_mul {v : Rat} {D : Nat} (h : v.den ∣ D) (hD : 0 < D) : (v * qj D).den = 1 ∧ qv (v * qj D).num D = v ∧ (v * qj D).num.natAbs ≤ v.num.natAbs * D := by
  obtain ⟨c, rfl⟩ := h
  have hd := v.den_nz
  have hq := c0 (den_ne v)
  have hc : (c : Rat) ≠ 0 := fun e => by
    have : c = 0 := by exact_mod_cast e
    subst this; simp at hD
  have e : v * qj ((v.den * c : Nat) : Int) = ((v.num * c : Int) : Rat) := by
    rw [qj_cast, Int.natCast_mul, Rat.intCast_mul, Rat.intCast_mul]
    have hv := qv_self v
    unfold qv at hv
    generalize ((v.den : Int) : Rat) = d at *
    generalize ((v.num : Int) : Rat) = n at *
    rw [← hv]; grind
  rw [e]
  refine ⟨Rat.den_intCast _, ?_, ?_⟩
  · rw [Rat.num_intCast]
    refine (qv_eq (by omega) (den_ne v) ?_).trans (qv_self v)
    rw [Int.natCast_mul]; grind
  · rw [Rat.num_intCast, Int.natAbs_mul, Int.natAbs_natCast]
    exact Nat.mul_le_mul_left _ (Nat.le_mul_of_pos_left c (Nat.pos_of_ne_zero hd))
/-- The numerators over the least common denominator. -/
def clrM (vs : List Rat) : List Int := vs.map fun v => (v * qj (lcmF vs)).num
theorem lcmF_pos (l : List Rat) : 0 < lcmF l := lcmL_pos _
theorem lcmF_dvd {l : List Rat} {v : Rat} (h : v ∈ l) : v.den ∣ lcmF l := lcmL_dvd (List.mem_reverse.2 h)
theorem lcmF_least {l : List Rat} {n : Nat} (h : ∀ v ∈ l, v.den ∣ n) : lcmF l ∣ n := lcmL_least fun v hv => h v (List.mem_reverse.1 hv)
/-- No divisor of the least number makes the matrix whole. -/
theorem clr_gcd {vs : List Rat} {g : Nat} (h1 : g ∣ lcmF vs) (h2 : ∀ z ∈ clrM vs, (g : Int) ∣ z) : g = 1 := by
  obtain ⟨e, he⟩ := h1
  have hp := lcmF_pos vs
  have he0 : 0 < e := by
    rcases Nat.eq_zero_or_pos e with h | h
    · subst h; rw [Nat.mul_zero] at he; omega
    · exact h
  have hg0 : 0 < g := by
    rcases Nat.eq_zero_or_pos g with h | h
    · subst h; rw [Nat.zero_mul] at he; omega
    · exact h
  have key : lcmF vs ∣ e := by
    refine lcmF_least fun v hv => ?_
    obtain ⟨w, hw⟩ := h2 _ (List.mem_map.2 ⟨v, hv, rfl⟩)
    have h3 := (whole_mul (lcmF_dvd hv) hp).2.1
    rw [hw, he] at h3
    have h4 : qv w e = v := by
      rw [← h3]
      refine qv_eq (by omega) (by rw [Int.natCast_mul]; exact Int.mul_ne_zero (by omega) (by omega)) ?_
      rw [Int.natCast_mul]; grind
    obtain ⟨c, hc, _⟩ := qv_parts (by omega) h4
    exact Int.natCast_dvd_natCast.1 ⟨c, by rw [hc]; exact Int.mul_comm _ _⟩
  have h5 := Nat.le_of_dvd he0 key
  rw [he] at h5
  have : g * e ≤ 1 * e := by omega
  have := Nat.le_of_mul_le_mul_right this he0
  omega
/-- The greatest common divisor, number by number. -/
def gcdF (d : Nat) : List Int → Nat
  | [] => d
  | z :: l => gcdF (Nat.gcd d z.natAbs) l
theorem gcdF_dvd : ∀ {l : List Int} {d : Nat}, gcdF d l ∣ d ∧ ∀ z ∈ l, (gcdF d l : Int) ∣ z
  | [], d => ⟨Nat.dvd_refl _, fun z h => (by cases h)⟩
  | w :: l, d => by
    obtain ⟨h1, h2⟩ := gcdF_dvd (l := l) (d := Nat.gcd d w.natAbs)
    refine ⟨Nat.dvd_trans h1 (Nat.gcd_dvd_left _ _), fun z hz => ?_⟩
    rcases List.mem_cons.1 hz with rfl | hz
    · exact Int.ofNat_dvd_left.2 (Nat.dvd_trans h1 (Nat.gcd_dvd_right _ _))
    · exact h2 z hz
theorem clr_one (vs : List Rat) : gcdF (lcmF vs) (clrM vs) = 1 := clr_gcd gcdF_dvd.1 gcdF_dvd.2
theorem gcdF_le : ∀ {l : List Int} {d : Nat}, 0 < d → gcdF d l ≤ d
  | l, d, h => Nat.le_of_dvd h gcdF_dvd.1
def gcdK (d : Nat) (l : List Int) (k : Nat) : Nat := gcdF d (l.take k)
theorem gcdF_snoc {d : Nat} {z : Int} : ∀ {l : List Int} , gcdF d (l ++ [z]) = Nat.gcd (gcdF d l) z.natAbs
  | [] => rfl
  | w :: l => gcdF_snoc (l := l)
end Go.Proofs.YtpchnbhkkbnjbaaGreatDoor
/- A matrix times the least number that makes it whole: the walk; the statement. -/
set_option linter.unusedVariables false
set_option linter.unusedSimpArgs false
namespace Go.Proofs.YtpchnbhkkbnjbaaGreatDoor
open Go.RowKit QM SX LA
attribute [local irreducible] IntKind.wrap Go1 Reg WP thenK inBlk retQ retF RetF RetOK ResOK CallOK OpOK Sat
attribute [local irreducible] qsub qmul qquo qcmp qadd qv redS mf
theorem wds_0 : (wds 0).length = 0 := by
  have := wds_len (n := 0) (k := 0) (by rw [Nat.pow_zero]; decide)
  omega
theorem con_dExact {a b : CA} {x y k m : Nat} [ha : NI a x k] [hb : NI b y m] (hd : y ∣ x) (hy : y ≠ 0) (hk : k + m ≤ 1099511627770) : PureOK Tryz.prog 113 [.it (.one (.c a)), .it (.one (.c b))] (.tup [.one (.c (.sat (nrmN (x / y)))), .one (.c (.val (.bool true)))]) := by
  have cD := dDivMod (ha := ha) (hb := hb) hk
  rw [if_neg hy, Nat.mod_eq_zero_of_dvd hd, decide_eq_true hy] at cD
  have hw := wds_0
  refine PureOK.fnF Tryz.func113 Tryz.results113 Tryz.ntmps113 rfl rfl rfl (by simp [AV.ids, AV0.ids, Atom.ids]) rfl (fun w0 T B E0 hB => ?_)
  refine SX.goF ?_
  exact .ok (RetOK.mk2 (ResOK.tmp rfl) (ResOK.tmp rfl))
theorem con_dLcm {a b : CA} {x y k m : Nat} [ha : NI a x k] [hb : NI b y m] (hx : x ≠ 0) (hy : y ≠ 0) (hbx : x < WB ^ k) (hby : y < WB ^ m) (hk : k + m ≤ 1000000) : PureOK Tryz.prog 75 [.it (.one (.c a)), .it (.one (.c b))] (.r (nrmN (Nat.lcm x y))) := by
  have hg0 : Nat.gcd x y ≠ 0 := fun e => hx (Nat.eq_zero_of_gcd_eq_zero_left e)
  have hgx : Nat.gcd x y ≤ x := Nat.le_of_dvd (by omega) (Nat.gcd_dvd_left x y)
  haveI iG : NI (.sat (nrmN (Nat.gcd x y))) (Nat.gcd x y) k := NI.nrm' (Nat.lt_of_le_of_lt hgx hbx)
  have hqx : x / Nat.gcd x y ≤ x := Nat.div_le_self _ _
  haveI iQ : NI (.sat (nrmN (x / Nat.gcd x y))) (x / Nat.gcd x y) k := NI.nrm' (Nat.lt_of_le_of_lt hqx hbx)
  have cG := dGcd (ha := ha) (hb := hb) (by omega)
  have b1 := nBits (ha := ha) (by omega)
  have b2 := nBits (ha := hb) (by omega)
  have h1 : bitLen x ≠ 0 := fun e => hx (bitLen_zero.1 e)
  have h2 : bitLen y ≠ 0 := fun e => hy (bitLen_zero.1 e)
  have cE := con_dExact (ha := ha) (hb := iG) (Nat.gcd_dvd_left x y) hg0 (by omega)
  have cM := mMul (ha := iQ) (hb := hb) (by omega)
  have e : x / Nat.gcd x y * y = Nat.lcm x y := by
    unfold Nat.lcm
    rw [Nat.div_mul_right_comm (Nat.gcd_dvd_left x y)]
  rw [e] at cM
  generalize bitLen x = p at *
  generalize bitLen y = q at *
  refine PureOK.fnF Tryz.func75 Tryz.results75 Tryz.ntmps75 rfl rfl rfl (by simp [AV.ids, AV0.ids, Atom.ids]) rfl (fun w0 T B E0 hB => ?_)
  refine SX.goF ?_
  exact ret1 rfl
theorem whole_q {v : Rat} {K : Nat} (hv : RB v K) (hd : v.den = 1) (hK : K ≤ 100000) : PureOK Tryz.prog 76 [.agg (qA v)] (.tup [.agg (zN v.num), .one (.c (.val (.bool true)))]) := by
  haveI b1 : Bd v.num K := ⟨hv.n⟩
  haveI b2 : Bd (v.den : Int) K := ⟨by rw [Int.natAbs_natCast]; exact hv.d⟩
  have h1 : ZI [.c (.val (.bool (decide (v.num < 0)))), .c (.sat (nrmN v.num.natAbs))] v.num K := inferInstance
  have h2 : ZI [.c (.val (.bool (decide ((v.den : Int) < 0)))), .c (.sat (nrmN (v.den : Int).natAbs))] (v.den : Int) K := inferInstance
  have c := (con_rWhole (h := h1) (h' := h2)).h (by omega)
  have e : rmk v.num (v.den : Int) = (v.num, (v.den : Int)) := (Rd.rmk b1 b2 (qv_self v) (Nat.le_refl _)).nf
  have e2 : rwhole v.num (v.den : Int) = v.num := by
    unfold rwhole; rw [e, hd]; rfl
  rw [e2, e, decide_eq_true (show (v.num, (v.den : Int)).2 = 1 by rw [hd]; rfl)] at c
  exact c
theorem take_snoc {α : Type} {l : List α} {k : Nat} {a : α} (h : l[k]? = some a) : l.take (k + 1) = l.take k ++ [a] := by
  rw [List.take_add_one, h]; rfl
theorem lcmF_take {vs : List Rat} {k : Nat} {v : Rat} (h : vs[k]? = some v) : lcmF (vs.take (k + 1)) = Nat.lcm (lcmF (vs.take k)) v.den := by
  rw [take_snoc h, lcmF_snoc]
theorem lcmF_lt {vs : List Rat} {K : Nat} (h : ∀ v ∈ vs, RB v K) (k : Nat) : lcmF (vs.take k) < WB ^ (1 + vs.length * K) := by
  have h1 := lcmL_lt (l := (vs.take k).reverse) (K := K) fun v hv => h v (List.mem_of_mem_take (List.mem_reverse.1 hv))
  refine Nat.lt_of_lt_of_le h1 (Nat.pow_le_pow_right WB_pos ?_)
  rw [List.length_reverse, List.length_take]
  have := Nat.mul_le_mul_right K (Nat.min_le_right k vs.length)
  omega
theorem con_Clear0 {r c : Int} {l : List Q4} (h : ¬ FormedP r c l.length) : PureOK Tryz.prog 29 [.agg (matZ r c l)] (.tup [.agg mat0, .agg [.c (.val (.bool false)), .c (.val (.slice none 0 0))], eNo 2]) := by
  have cF := cF_false (cells := l.flatMap q4C) h
  refine PureOK.fnF Tryz.func29 Tryz.results29 Tryz.ntmps29 rfl rfl rfl (by simp [AV.ids, AV0.ids, Atom.ids]) rfl (fun w0 T B E0 hB => ?_)
  refine SX.goF ?_
  exact .ok (RetOK.mk3 (ResOK.agg3 rfl rfl rfl) (ResOK.agg2 rfl rfl rfl) (ResOK.tmp rfl))
theorem con_Clear {r c : Nat} {l : List Q4} {vs : List Rat} {K : Nat} (hM : MV l vs K) (hl : l.length = r * c) (hr : r ≤ 64) (hc : c ≤ 64) (hK1 : 1 ≤ K) (hB0 : 1 + (r * c + 1) * K ≤ 50000) :
    PureOK Tryz.prog 29 [.agg (matQ r c l)] (.tup [.agg (matN r c (clrM vs)), .agg (zN ((lcmF vs : Nat) : Int)), eNo 0]) := by
  have hvl : vs.length = r * c := by rw [← hM.len]; exact hl
  have hrc := Nat.mul_le_mul hr hc
  have hKn : K ≤ 50000 := by
    have := Nat.mul_le_mul_right K (show 1 ≤ r * c + 1 by omega)
    omega
  have hKm : 1 + vs.length * K ≤ 50000 := by
    rw [hvl]
    have := Nat.mul_le_mul_right K (show r * c ≤ r * c + 1 by omega)
    omega
  have cF := cF_true (cells := l.flatMap q4C) hl hr hc
  have cM := con_made r c (.sat (cloA 68 [.val (.int .i64 (r : Int)), .val (.int .i64 (c : Int)), .sat (rowR 4 q4C l)])) (fun i k => qat l c i k) (vat vs c) K (by omega) (by omega) (by omega)
    (fun i k hi hk => FnV.bound (con_get (qat_at hl hi hk) (by omega) (by omega) (by omega))) (fun i k hi hk => hM.qat hl hi hk) rfl
  rw [tab_vat hvl, matA_matQ] at cM
  have hlen : (vs.map q4v).length = r * c := by rw [List.length_map]; exact hvl
  have hRB := hM.rb hK1
  have o1 := of_1
  have hms : (clrM vs).length = vs.length := List.length_map _
  refine PureOK.fnF Tryz.func29 Tryz.results29 Tryz.ntmps29 rfl rfl rfl (by simp [AV.ids, AV0.ids, Atom.ids]) rfl (fun w0 T B E0 hB => ?_)
  refine SX.goF ?_
  refine SX.WP.regionL ?_
  refine SX.goF ?_
  refine W.loop (fun k => k ≤ vs.length) (fun k => [(1, .ptr 1 0), (2, .ptr 2 0), (3, .ptr 3 0), (5, .ptr 5 0), (27, .r (rowR 4 q4C (vs.map q4v))), (28, .v (.int .i64 ((vs.map q4v).length : Int))), (29, .v (.int .i64 (k : Int)))]) (fun k => [(1, .box 24 (matQ r c (vs.map q4v))), (2, .box 41 mat0), (3, .box 45 [.c (.val (.bool false)), .c (.val (.slice none 0 0))]), (5, .box 45 (zN ((lcmF (vs.take k) : Nat) : Int)))]) (fun k => vs.length - k) 0 (Nat.zero_le _) (fun k hk => ?_)
    (by
      refine SX.St.le_to [] (by intro b h; cases h) ?_ ?_ rfl
      · repeat (first | exact trivial | refine ⟨⟨_, rfl, SX.AVto.same rfl⟩, ?_⟩)
      · exact ⟨SX.EntTo.same rfl rfl, SX.EntTo.same rfl rfl, SX.EntTo.same rfl rfl, SX.EntTo.same rfl rfl, trivial⟩)
  by_cases hk2 : k < vs.length
  · obtain ⟨v, hx⟩ : ∃ v, vs[k]? = some v := ⟨_, List.getElem?_eq_getElem hk2⟩
    have hq : (vs.map q4v)[k]? = some (q4v v) := by rw [List.getElem?_map, hx]; rfl
    have hk3 : k < (vs.map q4v).length := at_lt hq
    have hvb := hRB v (List.mem_of_getElem? hx)
    have hlb := lcmF_lt hRB k
    have hlb2 := lcmF_lt hRB (k + 1)
    rw [lcmF_take hx] at hlb2
    haveI n1 : NI (.sat (nrmN (lcmF (vs.take k)))) (lcmF (vs.take k)) (1 + vs.length * K) := NI.nrm' hlb
    haveI n2 : NI (.sat (nrmN v.den)) v.den K := NI.nrm' hvb.d
    haveI n3 : NI (.sat (nrmN (Nat.lcm (lcmF (vs.take k)) v.den))) (Nat.lcm (lcmF (vs.take k)) v.den) (1 + vs.length * K) := NI.nrm' hlb2
    have cL : PureOK Tryz.prog 75 [.r (nrmN ((lcmF (vs.take k) : Nat) : Int).natAbs), .r (nrmN ((v.den : Nat) : Int).natAbs)] (.r (nrmN (Nat.lcm (lcmF (vs.take k)) v.den))) := con_dLcm (ha := n1) (hb := n2) (by have := lcmF_pos (vs.take k); omega) v.den_nz hlb hvb.d (by omega)
    have cR : PureOK Tryz.prog 74 [.r (nrmN (Nat.lcm (lcmF (vs.take k)) v.den)), .v (.bool false)] (.agg (zN ((Nat.lcm (lcmF (vs.take k)) v.den : Nat) : Int))) := (con_zFrom (h := n3) false).h (by omega)
    have e5 : Ent.box 45 (zN ((Nat.lcm (lcmF (vs.take k)) v.den : Nat) : Int)) = Ent.box 45 (zN ((lcmF (vs.take (k + 1)) : Nat) : Int)) := by rw [lcmF_take hx]
    refine SX.goF ?_
    refine W.next (k + 1) hk2 (by omega) (by
      refine SX.St.le_to [] (by intro b h; cases h) ?_ ?_ rfl
      · repeat (first | exact trivial | refine ⟨⟨_, rfl, SX.AVto.same rfl⟩, ?_⟩)
      · exact ⟨SX.EntTo.same rfl rfl, SX.EntTo.same rfl rfl, SX.EntTo.same rfl rfl, SX.EntTo.eq rfl e5 rfl, trivial⟩)
  · obtain rfl : k = vs.length := by omega
    have hk3 : ¬ vs.length < (vs.map q4v).length := by rw [List.length_map]; omega
    rw [List.take_length]
    have hD := lcmF_lt hRB vs.length
    rw [List.take_length] at hD
    have hDq := ZQ.made (z := ((lcmF vs : Nat) : Int)) (K := 1 + vs.length * K) hD
    have cO := (con_rOf (h := hDq.zi)).h (by omega)
    have rO : Ra (ratA (((lcmF vs : Nat) : Int), 1)) (qj ((lcmF vs : Nat) : Int)) (1 + vs.length * K) := Ra.mono (hDq.ra zq1) (by omega)
    refine SX.goF ?_
    refine W.loop (fun k => k ≤ vs.length) (fun k => [(1, .ptr 1 0), (2, .ptr 2 0), (3, .ptr 3 0), (5, .ptr 5 0), (8, .ptr 8 0), (47, .r (rowR 4 q4C (vs.map q4v))), (48, .v (.int .i64 ((vs.map q4v).length : Int))), (49, .v (.int .i64 (k : Int)))]) (fun k => [(1, .box 24 (matQ r c (vs.map q4v))), (2, .box 41 mat0), (3, .box 45 [.c (.val (.bool false)), .c (.val (.slice none 0 0))]), (5, .box 45 (zN ((lcmF vs : Nat) : Int))), (8, .box 41 [.c (.val (.int .i64 (r : Int))), .c (.val (.int .i64 (c : Int))), .own 100]), (100, .row 45 2 k (((clrM vs).take k).flatMap zC))]) (fun k => vs.length - k) 0 (Nat.zero_le _) (fun k hk => ?_)
      (by
        refine SX.St.le_to [(100, none)] (by intro b h; cases h) ?_ ?_ rfl
        · repeat (first | exact trivial | refine ⟨⟨_, rfl, SX.AVto.same rfl⟩, ?_⟩)
        · exact ⟨SX.EntTo.same rfl rfl, SX.EntTo.same rfl rfl, SX.EntTo.same rfl rfl, SX.EntTo.same rfl rfl, SX.EntTo.boxTo rfl rfl ⟨AtomTo.same rfl, AtomTo.same rfl, AtomTo.nil rfl, trivial⟩, SX.EntTo.nilRow rfl, trivial⟩)
    by_cases hk4 : k < vs.length
    · obtain ⟨v, hx⟩ : ∃ v, vs[k]? = some v := ⟨_, List.getElem?_eq_getElem hk4⟩
      have hq : (vs.map q4v)[k]? = some (q4v v) := by rw [List.getElem?_map, hx]; rfl
      have hk5 : k < (vs.map q4v).length := at_lt hq
      have hvb := hRB v (List.mem_of_getElem? hx)
      have rv := hvb.ra
      have hw := whole_mul (lcmF_dvd (List.mem_of_getElem? hx)) (lcmF_pos vs)
      have cMu : PureOK Tryz.prog 61 [.agg (q4A (q4v v)), .agg (ratA (((lcmF vs : Nat) : Int), 1))] (.agg (qA (v * qj ((lcmF vs : Nat) : Int)))) := (con_qMul (a := rv) (b := rO)).h (by omega)
      have hPB : RB (v * qj ((lcmF vs : Nat) : Int)) (K + (1 + vs.length * K)) := hvb.mul (Ra.rb rO (by omega))
      have cW := whole_q hPB hw.1 (by omega)
      have hm : (clrM vs)[k]? = some (v * qj ((lcmF vs : Nat) : Int)).num := by unfold clrM; rw [List.getElem?_map, hx]; rfl
      have e6 : ((clrM vs).take k).flatMap zC ++ zC (v * qj ((lcmF vs : Nat) : Int)).num = ((clrM vs).take (k + 1)).flatMap zC := by rw [take_snoc hm, List.flatMap_append]; simp
      generalize (v * qj ((lcmF vs : Nat) : Int)).num = z at *
      refine SX.goF ?_
      refine W.next (k + 1) hk4 (by omega) (by
        refine SX.St.le_to [(100, some 65)] (by intro b h; cases h) ?_ ?_ rfl
        · repeat (first | exact trivial | refine ⟨⟨_, rfl, SX.AVto.same rfl⟩, ?_⟩)
        · exact ⟨SX.EntTo.same rfl rfl, SX.EntTo.same rfl rfl, SX.EntTo.same rfl rfl, SX.EntTo.same rfl rfl, SX.EntTo.boxTo rfl rfl ⟨AtomTo.same rfl, AtomTo.same rfl, AtomTo.own rfl, trivial⟩, SX.EntTo.row rfl rfl rfl e6, trivial⟩)
    · obtain rfl : k = vs.length := by omega
      have hk6 : ¬ vs.length < (vs.map q4v).length := by rw [List.length_map]; omega
      have e7 : (clrM vs).take vs.length = clrM vs := by rw [← hms, List.take_length]
      rw [e7]
      refine SX.goF ?_
      have hm : matN r c (clrM vs) = [.c (.val (.int .i64 (r : Int))), .c (.val (.int .i64 (c : Int))), .c (.sat (sliceR 2 vs.length ((clrM vs).flatMap zC)))] := by
        show [_, _, Atom.c (.sat (sliceR 2 (clrM vs).length _))] = _
        rw [hms]
      rw [hm]
      refine RetF.frz 100 ?_
      exact .ok (RetOK.mk3 (ResOK.agg3 rfl rfl rfl) (ResOK.agg2 rfl rfl rfl) (ResOK.tmp rfl))
end Go.Proofs.YtpchnbhkkbnjbaaGreatDoor
/- A matrix times the least number that makes it whole is whole; no divisor does it. -/
set_option linter.unusedVariables false
set_option linter.unusedSimpArgs false
namespace Go.Proofs.YtpchnbhkkbnjbaaGreatDoor
open Go.RowKit QM SX LA
attribute [local irreducible] IntKind.wrap Go1 Reg WP thenK inBlk retQ retF RetF RetOK ResOK CallOK OpOK Sat
attribute [local irreducible] qsub qmul qquo qcmp qadd qv redS mf
theorem con_r11None : PureOK Tryz.prog 30 [.agg mat0] (.v (.bool true)) := by
  refine PureOK.fnF Tryz.func30 Tryz.results30 Tryz.ntmps30 rfl rfl rfl (by simp [AV.ids, AV0.ids, Atom.ids]) rfl (fun w0 T B E0 hB => ?_)
  refine SX.goF ?_
  first | exact retB rfl | (refine retB ?_; rfl)
theorem con_r11Normal {r c : Nat} {zs : List Int} {K : Nat} (hz : ∀ z ∈ zs, z.natAbs < WB ^ K) (hK : K ≤ 1000000) (hl : zs.length = r * c) (hr : r ≤ 64) (hc : c ≤ 64) :
    PureOK Tryz.prog 34 [.agg (matY r c (zs.map z2v))] (.v (.bool true)) := by
  have hlen : (zs.map z2v).length = zs.length := List.length_map _
  have hb := Nat.mul_le_mul hr hc
  have cF := con_r11Formed (r : Int) (c : Int) (n := (zs.map z2v).length) (cells := (zs.map z2v).flatMap z2C) true ⟨fun _ => FormedP.nat hr hc (by rw [hlen]; exact hl), fun _ => rfl⟩
  refine PureOK.fnF Tryz.func34 Tryz.results34 Tryz.ntmps34 rfl rfl rfl (by simp [AV.ids, AV0.ids, Atom.ids]) rfl (fun w0 T B E0 hB => ?_)
  refine SX.goF ?_
  refine W.loop (fun k => k ≤ zs.length) (fun k => [(1, .ptr 1 0), (3, .v (.int .i64 (k : Int)))]) (fun k => [(1, .box 41 (matY r c (zs.map z2v)))]) (fun k => zs.length - k) 0 (Nat.zero_le _) (fun k hk => ?_)
  by_cases h : k < zs.length
  · have h' : k < (zs.map z2v).length := by omega
    obtain ⟨z, hx⟩ : ∃ z, zs[k]? = some z := ⟨_, List.getElem?_eq_getElem h⟩
    have hq : (zs.map z2v)[k]? = some (z2v z) := by rw [List.getElem?_map, hx]; rfl
    have hlz : (wds z.natAbs).length ≤ K := wds_len (hz z (List.mem_of_getElem? hx))
    have hz2 := wds_zero z.natAbs
    by_cases h0 : (wds z.natAbs).length = 0
    · have hz0 : decide (z < 0) = false := decide_eq_false (by omega)
      refine SX.goF ?_
      exact W.next (k + 1) h (by omega)
    · obtain ⟨w, hw⟩ : ∃ w, (wds z.natAbs)[(wds z.natAbs).length - 1]? = some w := ⟨_, List.getElem?_eq_getElem (by omega)⟩
      have hw0 : w ≠ 0 := by
        rcases wds_nrm z.natAbs with h | h
        · rw [h] at h0; exact absurd rfl h0
        · intro e; apply h; rw [List.getD_eq_getElem?_getD, hw, e]; rfl
      refine SX.goF ?_
      exact W.next (k + 1) h (by omega)
  · obtain rfl : k = zs.length := by omega
    have h' : ¬ zs.length < (zs.map z2v).length := by omega
    refine SX.goF ?_
    exact retB rfl
theorem clrM_lt {vs : List Rat} {K : Nat} (h : ∀ v ∈ vs, RB v K) : ∀ z ∈ clrM vs, z.natAbs < WB ^ (K + (1 + vs.length * K)) := by
  intro z hz
  obtain ⟨v, hv, rfl⟩ := List.mem_map.1 hz
  have h1 := (whole_mul (lcmF_dvd hv) (lcmF_pos vs)).2.2
  have h2 := lcmF_lt h vs.length
  rw [List.take_length] at h2
  exact Nat.lt_of_le_of_lt h1 (mul_lt_pow (h v hv).n h2)
end Go.Proofs.YtpchnbhkkbnjbaaGreatDoor
/- The statement QmatClears answers true. -/
set_option linter.unusedVariables false
set_option linter.unusedSimpArgs false
namespace Go.Proofs.YtpchnbhkkbnjbaaGreatDoor
open Go.RowKit QM SX LA
attribute [local irreducible] IntKind.wrap Go1 Reg WP thenK inBlk retQ retF RetF RetOK ResOK CallOK OpOK Sat
attribute [local irreducible] qsub qmul qquo qcmp qadd qv redS mf
theorem fewZMat' {r c : Int} {l : List RawZ} {w : Int} (hf : FewZ r c l 4 w) (hF : FormedP r c (l.map rz).length) : ∃ n m : Nat, r = n ∧ c = m ∧ n ≤ 4 ∧ m ≤ 4 ∧ (l.map rz).length = n * m := by
  obtain ⟨n, rfl⟩ : ∃ n : Nat, r = n := ⟨r.toNat, by have := hF.1; omega⟩
  obtain ⟨m, rfl⟩ : ∃ m : Nat, c = m := ⟨c.toNat, by have := hF.2.2.1; omega⟩
  have h3 := hF.2.2.2.2
  rw [← Int.natCast_mul] at h3
  exact ⟨n, m, rfl, rfl, by have := hf.2.1; omega, by have := hf.2.2; omega, by omega⟩
theorem FewZ.len' {r c : Int} {l : List RawZ} {s : Int} {w : Nat} (h : FewZ r c l s w) : ∀ a ∈ l, a.2.length ≤ w := by
  intro x hx
  obtain ⟨i, hi⟩ := List.mem_iff_getElem?.1 hx
  have hil := at_lt hi
  have := h.1.1 i x (by have := h.1.2; omega) hi
  omega
theorem lt_pow_le {a K L : Nat} (h : a < WB ^ K) (hK : K ≤ L) : a < WB ^ L := Nat.lt_of_lt_of_le h (Nat.pow_le_pow_right WB_pos hK)
/-- What the whole matrix over the number is. -/
theorem clr_back {vs : List Rat} {r c : Nat} (hl : vs.length = r * c) : tabR c (fun i k => qv (zat (clrM vs) c i k) ((lcmF vs : Nat) : Int)) r = vs := by
  refine (tabR_ext (v := vat vs c) fun i hi k hk => ?_).trans (tab_vat hl)
  have h1 := vat_at hl hi hk
  have h2 : (clrM vs)[i * c + k]? = some (vat vs c i k * qj ((lcmF vs : Nat) : Int)).num := by unfold clrM; rw [List.getElem?_map, h1]; rfl
  have h3 : zat (clrM vs) c i k = (vat vs c i k * qj ((lcmF vs : Nat) : Int)).num := by
    unfold zat; rw [List.getD_eq_getElem?_getD, h2]; rfl
  show qv (zat (clrM vs) c i k) _ = _
  rw [h3]
  exact (whole_mul (lcmF_dvd (List.mem_of_getElem? h1)) (lcmF_pos vs)).2.1
theorem zsign0 : PureOK Tryz.prog 27 [.agg [.c (.val (.bool false)), .c (.val (.slice none 0 0))]] (.v (.int .i64 0)) := by
  have i0 : ZI [.c (.val (.bool false)), .c (.val (.slice none 0 0))] (sgn false 0) 0 := ZI.mk' NI.nil
  exact (con_zSign (h := i0)).h (by decide)
/-- The two loops, where nothing stands before the first one's end. -/
structure ClrA (n m : Nat) (la : List Q4) (ms : List Int) (D : Nat) (bs : List Q4) : Prop where
  cC : PureOK Tryz.prog 29 [.agg (matQ n m la)] (.tup [.agg (matY n m (ms.map z2v)), .agg (zN (D : Int)), eNo 0])
  cO : PureOK Tryz.prog 25 [.agg (matY n m (ms.map z2v)), .agg (zN (D : Int))] (.tup [.agg (matQ n m bs), eNo 0])
  cS : PureOK Tryz.prog 27 [.agg (zN (D : Int))] (.v (.int .i64 1))
  cN : PureOK Tryz.prog 34 [.agg (matY n m (ms.map z2v))] (.v (.bool true))
  cE : PureOK Tryz.prog 23 [.agg (matQ n m bs), .agg (matQ n m la)] (.v (.bool true))
  hb : ∀ z ∈ ms, z.natAbs < WB ^ 40
  hD : 0 < D ∧ D < WB ^ 40
  hl : ms.length ≤ 16
  g : gcdF D ms = 1
theorem clr_facts {n m : Nat} {la : List Q4} {vs : List Rat} (hM : MV la vs 2) (hl : la.length = n * m) (hn : n ≤ 4) (hm : m ≤ 4) : ∃ ms D bs, ClrA n m la ms D bs := by
  have hvl : vs.length = n * m := by rw [← hM.len]; exact hl
  have hnm := Nat.mul_le_mul hn hm
  have hRB := hM.rb (by decide)
  have hms : (clrM vs).length = vs.length := List.length_map _
  have cC := con_Clear hM hl (by omega) (by omega) (by decide) (by omega)
  rw [matN_matY] at cC
  have hb : ∀ z ∈ clrM vs, z.natAbs < WB ^ 40 := fun z hz => lt_pow_le (clrM_lt hRB z hz) (by omega)
  have hD : lcmF vs < WB ^ 40 := by
    have h := lcmF_lt hRB vs.length
    rw [List.take_length] at h
    exact lt_pow_le h (by omega)
  have hDq : ZQ (z2v ((lcmF vs : Nat) : Int)) ((lcmF vs : Nat) : Int) 40 := ZQ.made hD
  have hDp := lcmF_pos vs
  have hml : ((clrM vs).map z2v).length = n * m := by rw [List.length_map, hms]; exact hvl
  have cO := con_Over (MZ.made hb) hml (by omega) (by omega) hDq (by omega) (by decide) (by decide) (Nat.le_refl _)
  rw [clr_back hvl, matA_matQ] at cO
  have cS : PureOK Tryz.prog 27 [.agg (zN ((lcmF vs : Nat) : Int))] (.v (.int .i64 1)) := by
    have h := (con_zSign (h := hDq.zi)).h (by decide)
    rw [show isign ((lcmF vs : Nat) : Int) = 1 by unfold isign; rw [if_neg (by omega), if_neg (by omega)]] at h
    exact h
  exact ⟨clrM vs, lcmF vs, vs.map q4v, cC, cO, cS, con_r11Normal hb (by decide) (by rw [hms]; exact hvl) (by omega) (by omega), con_mSame (MV.made hRB) hM (by decide) (by rw [List.length_map]; omega), hb, ⟨hDp, hD⟩, by omega, clr_one vs⟩
theorem gcd_take {D : Nat} {ms : List Int} {k : Nat} {z : Int} (h : ms[k]? = some z) : gcdF D (ms.take (k + 1)) = Nat.gcd (gcdF D (ms.take k)) z.natAbs := by
  rw [take_snoc h, gcdF_snoc]
theorem gcd_lt {D : Nat} {l : List Int} (h : 0 < D ∧ D < WB ^ 40) : gcdF D l < WB ^ 40 := Nat.lt_of_le_of_lt (gcdF_le h.1) h.2
set_option maxHeartbeats 4000000 in
set_option maxRecDepth 20000 in
theorem QmatClears_ok (p : RawM) (hs : RSm p.2.2) (p' : RawW) (hs' : ∀ a ∈ p'.2.2, Sm WB a.2) (y : RawZ) (hy : Sm WB y.2) :
    PureOK Tryz.prog 6 [.agg [.c (.val (.int .i64 p.1)), .c (.val (.int .i64 p.2.1)), .c (.sat (rowR 4 q4C (p.2.2.map rq)))], .agg [.c (.val (.int .i64 p'.1)), .c (.val (.int .i64 p'.2.1)), .c (.sat (rowR 2 z2C (p'.2.2.map rz)))], .agg [.c (.val (.bool y.1)), .c (.sat (rawN y.2))]] (.v (.bool true)) := by
  obtain ⟨r, c, l⟩ := p
  obtain ⟨r', c', l'⟩ := p'
  obtain ⟨b, d⟩ := y
  dsimp only at hs hs' hy ⊢
  have cW := con_awake13
  have cFew := con_rFew r c l 4 2
  by_cases hf : FewP r c l 4 2
  · have cFew := cFew.1 hf
    by_cases hf' : FewZ r' c' l' 4 2
    · have cFew' := con_r11Few r' c' l' 4 2 true ⟨fun _ => hf', fun _ => rfl⟩
      by_cases hd : d.length ≤ 2
      · have hdq : ZQ (b, rawN d) (sgn b (nval WB d)) 2 := ZQ.raw hy hd
        have cSg := (con_zSign (h := hdq.zi)).h (by decide)
        have hA : (∃ n m la ms D bs, r = (n : Nat) ∧ c = (m : Nat) ∧ l.map rq = la ∧ FormedP r c la.length ∧ ClrA n m la ms D bs) ∨ ¬ FormedP r c (l.map rq).length := by
          by_cases hF : FormedP r c (l.map rq).length
          · obtain ⟨n, m, rfl, rfl, hn, hm, hl⟩ := fewMat (k := 4) hf rfl hF
            obtain ⟨ms, D, bs, h⟩ := clr_facts (MV.raw hs (FewP.len (w := 2) hf)) hl hn hm
            exact .inl ⟨n, m, _, ms, D, bs, rfl, rfl, rfl, hF, h⟩
          · exact .inr hF
        rcases hA with ⟨n, m, la, ms, D, bs, rfl, rfl, hla, hF, ⟨cC, cO, cS, cN, cE, hb, hD, hml, hg⟩⟩ | hF
        · rw [hla] at cFew ⊢
          have cF := con_rF (cells := la.flatMap q4C) hF
          have o1 := of_1
          by_cases hF' : FormedP r' c' (l'.map rz).length
          · have f2 := con_r11Formed r' c' (n := (l'.map rz).length) (cells := (l'.map rz).flatMap z2C) true ⟨fun _ => hF', fun _ => rfl⟩
            by_cases hy0 : sgn b (nval WB d) = 0
            · have cOv := con_OverD (r := r') (c := c') (l := l'.map rz) (d := (b, rawN d)) hF' (by rw [hy0] at hdq; exact hdq) (by decide)
              rw [hy0, show isign 0 = 0 from rfl] at cSg
              refine PureOK.fnF Tryz.func6 Tryz.results6 Tryz.ntmps6 rfl rfl rfl (by simp [AV.ids, AV0.ids, Atom.ids]) rfl (fun w0 T B E0 hB => ?_)
              refine SX.goF ?_
              refine W.loop (fun i : Nat => i = 0) (fun i : Nat => [(3, .ptr 3 0), (7, .ptr 7 0), (8, .v (.int .i64 3)), (9, .v (.int .i64 (i : Int)))]) (fun i => [(3, .box 24 (matQ n m la)), (7, .box 24 mat0)]) (fun i => 1 - i) 0 rfl (fun i hi => ?_)
              subst hi
              refine SX.goF ?_
              refine W.loop (fun k => k ≤ ms.length) (fun k => [(3, .ptr 3 0), (10, .ptr 10 0), (11, .ptr 11 0), (12, .v (.int .i64 0)), (13, .ptr 13 0), (14, .v (.int .i64 0)), (15, .ptr 15 0), (16, .v (.int .i64 (k : Int)))]) (fun k => [(3, .box 24 (matQ n m la)), (10, .box 41 (matY n m (ms.map z2v))), (11, .box 45 (zN (D : Int))), (13, .box 24 (matQ n m bs)), (15, .box 45 (zN ((gcdF D (ms.take k) : Nat) : Int)))]) (fun k => ms.length - k) 0 (Nat.zero_le _) (fun k hk => ?_)
                (by
                  refine SX.St.le_to [] (by intro b h; cases h) ?_ ?_ rfl
                  · repeat (first | exact trivial | refine ⟨⟨_, rfl, SX.AVto.same rfl⟩, ?_⟩)
                  · exact ⟨SX.EntTo.same rfl rfl, SX.EntTo.same rfl rfl, SX.EntTo.same rfl rfl, SX.EntTo.same rfl rfl, SX.EntTo.same rfl rfl, trivial⟩)
              by_cases hk2 : k < ms.length
              · obtain ⟨z, hx⟩ : ∃ z, ms[k]? = some z := ⟨_, List.getElem?_eq_getElem hk2⟩
                have hq : (ms.map z2v)[k]? = some (z2v z) := by rw [List.getElem?_map, hx]; rfl
                have hk3 : k < (ms.map z2v).length := at_lt hq
                have zq := ZQ.made (hb z (List.mem_of_getElem? hx))
                have gq : ZQ (z2v ((gcdF D (ms.take k) : Nat) : Int)) ((gcdF D (ms.take k) : Nat) : Int) 40 := ZQ.made (gcd_lt hD)
                have cG : PureOK Tryz.prog 31 [.agg (zN ((gcdF D (ms.take k) : Nat) : Int)), .agg (z2A (z2v z))] (.agg (zN ((gcdF D (ms.take (k + 1)) : Nat) : Int))) := by
                  have h := (con_zGcd (h := gq.zi) (h' := zq.zi)).h (by decide)
                  rw [gcd_take hx]; exact h
                refine SX.goF ?_
                exact W.next (k + 1) hk2 (by omega)
              · obtain rfl : k = ms.length := by omega
                have hk3 : ¬ ms.length < (ms.map z2v).length := by rw [List.length_map]; omega
                have cSa : PureOK Tryz.prog 32 [.agg (zN ((gcdF D (ms.take ms.length) : Nat) : Int)), .agg (zN 1)] (.v (.bool true)) := by
                  rw [List.take_length, hg]
                  have h := (con_zSame (h := zq1.zi) (h' := zq1.zi)).h (by decide)
                  rw [decide_eq_true rfl] at h; exact h
                refine SX.goF ?_
                refine retB ?_; first | rfl | exact decide_eq_true rfl
            · obtain ⟨n', m', rfl, rfl, hn', hm', hl'⟩ := fewZMat' hf' hF'
              have hMz := MZ.raw hs' (FewZ.len' (w := 2) hf')
              have cOv := con_Over hMz hl' (by omega) (by omega) hdq hy0 (by decide) (by decide) (Nat.le_refl _)
              rw [matA_matQ] at cOv
              have hs1 : ¬ isign (sgn b (nval WB d)) = 0 := fun e => hy0 ((isign0 _).1 e)
              have hQl : (tabR m' (fun i k => qv (zat (l'.map rzv) m' i k) (sgn b (nval WB d))) n').length = n' * m' := tabR_len n'
              have hzl : (l'.map rzv).length = n' * m' := by rw [← hMz.len]; exact hl'
              have hnm' := Nat.mul_le_mul hn' hm'
              have hQ : ∀ (k : Nat) (z : Z2), (l'.map rz)[k]? = some z → ∃ v, (tabR m' (fun i k => qv (zat (l'.map rzv) m' i k) (sgn b (nval WB d))) n')[k]? = some v ∧ PureOK Tryz.prog 28 [.agg (q4A (q4v v)), .agg (q4A (z.1, z.2, b, rawN d))] (.v (.int .i64 0)) := fun k z hz => by
                have hk := at_lt hz
                have hm0 : 0 < m' := by
                  rcases Nat.eq_zero_or_pos m' with h0 | h0
                  · subst h0; omega
                  · exact h0
                have h1 : k / m' < n' := by rw [Nat.div_lt_iff_lt_mul hm0]; omega
                have h2 := Nat.mod_lt k hm0
                have h3 : k / m' * m' + k % m' = k := by rw [Nat.mul_comm]; exact Nat.div_add_mod k m'
                have a1 := tabR_at (val := fun i k => qv (zat (l'.map rzv) m' i k) (sgn b (nval WB d))) h2 h1
                have a2 := zat_at hzl h1 h2
                rw [h3] at a1 a2
                have zq := hMz.z _ _ _ hz a2
                have i2 := zq.ra hdq
                exact ⟨_, a1, cmp_eq (a := (Ra.rb i2 (by decide)).ra) (b := i2) (show max 2 2 + max 2 2 ≤ 400000 by decide)⟩
              generalize tabR m' (fun i k => qv (zat (l'.map rzv) m' i k) (sgn b (nval WB d))) n' = qs at *
              generalize isign (sgn b (nval WB d)) = sg at *
              clear hMz hdq
              generalize l'.map rz = lz at *
              refine PureOK.fnF Tryz.func6 Tryz.results6 Tryz.ntmps6 rfl rfl rfl (by simp [AV.ids, AV0.ids, Atom.ids]) rfl (fun w0 T B E0 hB => ?_)
              refine SX.goF ?_
              refine SX.W.condF ?_ rfl (by simp [hs1])
              refine SX.goF ?_
              refine W.loop (fun i => i ≤ qs.length) (fun i => [(3, .ptr 3 0), (4, .ptr 4 0), (5, .ptr 5 0), (7, .ptr 7 0), (8, .v (.int .i64 0)), (9, .v (.int .i64 (i : Int)))]) (fun i => [(3, .box 24 (matQ n m la)), (4, .box 41 (matY n' m' lz)), (5, .box 45 [.c (.val (.bool b)), .c (.sat (rawN d))]), (7, .box 24 (matQ n' m' (qs.map q4v)))]) (fun i => qs.length - i) 0 (Nat.zero_le _) (fun i hi => ?_)
                (by
                  refine SX.St.le_to [] (by intro b h; cases h) ?_ ?_ rfl
                  · repeat (first | exact trivial | refine ⟨⟨_, rfl, SX.AVto.same rfl⟩, ?_⟩)
                  · exact ⟨SX.EntTo.same rfl rfl, SX.EntTo.same rfl rfl, SX.EntTo.same rfl rfl, SX.EntTo.same rfl rfl, trivial⟩)
              by_cases hi2 : i < qs.length
              · obtain ⟨z, hz⟩ : ∃ z, lz[i]? = some z := ⟨_, List.getElem?_eq_getElem (by omega)⟩
                obtain ⟨v, hv, cCm⟩ := hQ i z hz
                have hq : (qs.map q4v)[i]? = some (q4v v) := by rw [List.getElem?_map, hv]; rfl
                have hi3 : i < (qs.map q4v).length := at_lt hq
                have hi4 : i < lz.length := at_lt hz
                refine SX.goF ?_
                exact W.next (i + 1) hi2 (by omega)
              · obtain rfl : i = qs.length := by omega
                have hi3 : ¬ qs.length < (qs.map q4v).length := by rw [List.length_map]; omega
                refine SX.goF ?_
                refine W.loop (fun k => k ≤ ms.length) (fun k => [(3, .ptr 3 0), (10, .ptr 10 0), (11, .ptr 11 0), (12, .v (.int .i64 0)), (13, .ptr 13 0), (14, .v (.int .i64 0)), (15, .ptr 15 0), (16, .v (.int .i64 (k : Int)))]) (fun k => [(3, .box 24 (matQ n m la)), (10, .box 41 (matY n m (ms.map z2v))), (11, .box 45 (zN (D : Int))), (13, .box 24 (matQ n m bs)), (15, .box 45 (zN ((gcdF D (ms.take k) : Nat) : Int)))]) (fun k => ms.length - k) 0 (Nat.zero_le _) (fun k hk => ?_)
                  (by
                    refine SX.St.le_to [] (by intro b h; cases h) ?_ ?_ rfl
                    · repeat (first | exact trivial | refine ⟨⟨_, rfl, SX.AVto.same rfl⟩, ?_⟩)
                    · exact ⟨SX.EntTo.same rfl rfl, SX.EntTo.same rfl rfl, SX.EntTo.same rfl rfl, SX.EntTo.same rfl rfl, SX.EntTo.same rfl rfl, trivial⟩)
                by_cases hk2 : k < ms.length
                · obtain ⟨z, hx⟩ : ∃ z, ms[k]? = some z := ⟨_, List.getElem?_eq_getElem hk2⟩
                  have hq : (ms.map z2v)[k]? = some (z2v z) := by rw [List.getElem?_map, hx]; rfl
                  have hk3 : k < (ms.map z2v).length := at_lt hq
                  have zq := ZQ.made (hb z (List.mem_of_getElem? hx))
                  have gq : ZQ (z2v ((gcdF D (ms.take k) : Nat) : Int)) ((gcdF D (ms.take k) : Nat) : Int) 40 := ZQ.made (gcd_lt hD)
                  have cG : PureOK Tryz.prog 31 [.agg (zN ((gcdF D (ms.take k) : Nat) : Int)), .agg (z2A (z2v z))] (.agg (zN ((gcdF D (ms.take (k + 1)) : Nat) : Int))) := by
                    have h := (con_zGcd (h := gq.zi) (h' := zq.zi)).h (by decide)
                    rw [gcd_take hx]; exact h
                  refine SX.goF ?_
                  exact W.next (k + 1) hk2 (by omega)
                · obtain rfl : k = ms.length := by omega
                  have hk3 : ¬ ms.length < (ms.map z2v).length := by rw [List.length_map]; omega
                  have cSa : PureOK Tryz.prog 32 [.agg (zN ((gcdF D (ms.take ms.length) : Nat) : Int)), .agg (zN 1)] (.v (.bool true)) := by
                    rw [List.take_length, hg]
                    have h := (con_zSame (h := zq1.zi) (h' := zq1.zi)).h (by decide)
                    rw [decide_eq_true rfl] at h; exact h
                  refine SX.goF ?_
                  refine retB ?_; first | rfl | exact decide_eq_true rfl
          · have f2 := con_r11Formed r' c' (n := (l'.map rz).length) (cells := (l'.map rz).flatMap z2C) false ⟨fun h => (by cases h), fun h => absurd h hF'⟩
            have cOv := con_OverS (r := r') (c := c') (l := l'.map rz) (d := (b, rawN d)) hF'
            refine PureOK.fnF Tryz.func6 Tryz.results6 Tryz.ntmps6 rfl rfl rfl (by simp [AV.ids, AV0.ids, Atom.ids]) rfl (fun w0 T B E0 hB => ?_)
            refine SX.goF ?_
            refine W.loop (fun i : Nat => i = 0) (fun i : Nat => [(3, .ptr 3 0), (7, .ptr 7 0), (8, .v (.int .i64 2)), (9, .v (.int .i64 (i : Int)))]) (fun i => [(3, .box 24 (matQ n m la)), (7, .box 24 mat0)]) (fun i => 1 - i) 0 rfl (fun i hi => ?_)
            subst hi
            refine SX.goF ?_
            refine W.loop (fun k => k ≤ ms.length) (fun k => [(3, .ptr 3 0), (10, .ptr 10 0), (11, .ptr 11 0), (12, .v (.int .i64 0)), (13, .ptr 13 0), (14, .v (.int .i64 0)), (15, .ptr 15 0), (16, .v (.int .i64 (k : Int)))]) (fun k => [(3, .box 24 (matQ n m la)), (10, .box 41 (matY n m (ms.map z2v))), (11, .box 45 (zN (D : Int))), (13, .box 24 (matQ n m bs)), (15, .box 45 (zN ((gcdF D (ms.take k) : Nat) : Int)))]) (fun k => ms.length - k) 0 (Nat.zero_le _) (fun k hk => ?_)
              (by
                refine SX.St.le_to [] (by intro b h; cases h) ?_ ?_ rfl
                · repeat (first | exact trivial | refine ⟨⟨_, rfl, SX.AVto.same rfl⟩, ?_⟩)
                · exact ⟨SX.EntTo.same rfl rfl, SX.EntTo.same rfl rfl, SX.EntTo.same rfl rfl, SX.EntTo.same rfl rfl, SX.EntTo.same rfl rfl, trivial⟩)
            by_cases hk2 : k < ms.length
            · obtain ⟨z, hx⟩ : ∃ z, ms[k]? = some z := ⟨_, List.getElem?_eq_getElem hk2⟩
              have hq : (ms.map z2v)[k]? = some (z2v z) := by rw [List.getElem?_map, hx]; rfl
              have hk3 : k < (ms.map z2v).length := at_lt hq
              have zq := ZQ.made (hb z (List.mem_of_getElem? hx))
              have gq : ZQ (z2v ((gcdF D (ms.take k) : Nat) : Int)) ((gcdF D (ms.take k) : Nat) : Int) 40 := ZQ.made (gcd_lt hD)
              have cG : PureOK Tryz.prog 31 [.agg (zN ((gcdF D (ms.take k) : Nat) : Int)), .agg (z2A (z2v z))] (.agg (zN ((gcdF D (ms.take (k + 1)) : Nat) : Int))) := by
                have h := (con_zGcd (h := gq.zi) (h' := zq.zi)).h (by decide)
                rw [gcd_take hx]; exact h
              refine SX.goF ?_
              exact W.next (k + 1) hk2 (by omega)
            · obtain rfl : k = ms.length := by omega
              have hk3 : ¬ ms.length < (ms.map z2v).length := by rw [List.length_map]; omega
              have cSa : PureOK Tryz.prog 32 [.agg (zN ((gcdF D (ms.take ms.length) : Nat) : Int)), .agg (zN 1)] (.v (.bool true)) := by
                rw [List.take_length, hg]
                have h := (con_zSame (h := zq1.zi) (h' := zq1.zi)).h (by decide)
                rw [decide_eq_true rfl] at h; exact h
              refine SX.goF ?_
              refine retB ?_; first | rfl | exact decide_eq_true rfl
        · have cF := con_rF0 (cells := (l.map rq).flatMap q4C) hF
          have cC := con_Clear0 hF
          have cNo := con_r11None
          have cS0 := zsign0
          by_cases hF' : FormedP r' c' (l'.map rz).length
          · have f2 := con_r11Formed r' c' (n := (l'.map rz).length) (cells := (l'.map rz).flatMap z2C) true ⟨fun _ => hF', fun _ => rfl⟩
            by_cases hy0 : sgn b (nval WB d) = 0
            · have cOv := con_OverD (r := r') (c := c') (l := l'.map rz) (d := (b, rawN d)) hF' (by rw [hy0] at hdq; exact hdq) (by decide)
              rw [hy0, show isign 0 = 0 from rfl] at cSg
              refine PureOK.fnF Tryz.func6 Tryz.results6 Tryz.ntmps6 rfl rfl rfl (by simp [AV.ids, AV0.ids, Atom.ids]) rfl (fun w0 T B E0 hB => ?_)
              refine SX.goF ?_
              refine W.loop (fun i : Nat => i = 0) (fun i : Nat => [(3, .ptr 3 0), (7, .ptr 7 0), (8, .v (.int .i64 3)), (9, .v (.int .i64 (i : Int)))]) (fun i => [(3, .box 24 (matZ r c (l.map rq))), (7, .box 24 mat0)]) (fun i => 1 - i) 0 rfl (fun i hi => ?_)
              subst hi
              refine SX.goF ?_
              refine retB ?_; first | rfl | exact decide_eq_true rfl
            · obtain ⟨n', m', rfl, rfl, hn', hm', hl'⟩ := fewZMat' hf' hF'
              have hMz := MZ.raw hs' (FewZ.len' (w := 2) hf')
              have cOv := con_Over hMz hl' (by omega) (by omega) hdq hy0 (by decide) (by decide) (Nat.le_refl _)
              rw [matA_matQ] at cOv
              have hs1 : ¬ isign (sgn b (nval WB d)) = 0 := fun e => hy0 ((isign0 _).1 e)
              have hQl : (tabR m' (fun i k => qv (zat (l'.map rzv) m' i k) (sgn b (nval WB d))) n').length = n' * m' := tabR_len n'
              have hzl : (l'.map rzv).length = n' * m' := by rw [← hMz.len]; exact hl'
              have hnm' := Nat.mul_le_mul hn' hm'
              have hQ : ∀ (k : Nat) (z : Z2), (l'.map rz)[k]? = some z → ∃ v, (tabR m' (fun i k => qv (zat (l'.map rzv) m' i k) (sgn b (nval WB d))) n')[k]? = some v ∧ PureOK Tryz.prog 28 [.agg (q4A (q4v v)), .agg (q4A (z.1, z.2, b, rawN d))] (.v (.int .i64 0)) := fun k z hz => by
                have hk := at_lt hz
                have hm0 : 0 < m' := by
                  rcases Nat.eq_zero_or_pos m' with h0 | h0
                  · subst h0; omega
                  · exact h0
                have h1 : k / m' < n' := by rw [Nat.div_lt_iff_lt_mul hm0]; omega
                have h2 := Nat.mod_lt k hm0
                have h3 : k / m' * m' + k % m' = k := by rw [Nat.mul_comm]; exact Nat.div_add_mod k m'
                have a1 := tabR_at (val := fun i k => qv (zat (l'.map rzv) m' i k) (sgn b (nval WB d))) h2 h1
                have a2 := zat_at hzl h1 h2
                rw [h3] at a1 a2
                have zq := hMz.z _ _ _ hz a2
                have i2 := zq.ra hdq
                exact ⟨_, a1, cmp_eq (a := (Ra.rb i2 (by decide)).ra) (b := i2) (show max 2 2 + max 2 2 ≤ 400000 by decide)⟩
              generalize tabR m' (fun i k => qv (zat (l'.map rzv) m' i k) (sgn b (nval WB d))) n' = qs at *
              generalize isign (sgn b (nval WB d)) = sg at *
              clear hMz hdq
              generalize l'.map rz = lz at *
              refine PureOK.fnF Tryz.func6 Tryz.results6 Tryz.ntmps6 rfl rfl rfl (by simp [AV.ids, AV0.ids, Atom.ids]) rfl (fun w0 T B E0 hB => ?_)
              refine SX.goF ?_
              refine SX.W.condF ?_ rfl (by simp [hs1])
              refine SX.goF ?_
              refine W.loop (fun i => i ≤ qs.length) (fun i => [(3, .ptr 3 0), (4, .ptr 4 0), (5, .ptr 5 0), (7, .ptr 7 0), (8, .v (.int .i64 0)), (9, .v (.int .i64 (i : Int)))]) (fun i => [(3, .box 24 (matZ r c (l.map rq))), (4, .box 41 (matY n' m' lz)), (5, .box 45 [.c (.val (.bool b)), .c (.sat (rawN d))]), (7, .box 24 (matQ n' m' (qs.map q4v)))]) (fun i => qs.length - i) 0 (Nat.zero_le _) (fun i hi => ?_)
                (by
                  refine SX.St.le_to [] (by intro b h; cases h) ?_ ?_ rfl
                  · repeat (first | exact trivial | refine ⟨⟨_, rfl, SX.AVto.same rfl⟩, ?_⟩)
                  · exact ⟨SX.EntTo.same rfl rfl, SX.EntTo.same rfl rfl, SX.EntTo.same rfl rfl, SX.EntTo.same rfl rfl, trivial⟩)
              by_cases hi2 : i < qs.length
              · obtain ⟨z, hz⟩ : ∃ z, lz[i]? = some z := ⟨_, List.getElem?_eq_getElem (by omega)⟩
                obtain ⟨v, hv, cCm⟩ := hQ i z hz
                have hq : (qs.map q4v)[i]? = some (q4v v) := by rw [List.getElem?_map, hv]; rfl
                have hi3 : i < (qs.map q4v).length := at_lt hq
                have hi4 : i < lz.length := at_lt hz
                refine SX.goF ?_
                exact W.next (i + 1) hi2 (by omega)
              · obtain rfl : i = qs.length := by omega
                have hi3 : ¬ qs.length < (qs.map q4v).length := by rw [List.length_map]; omega
                refine SX.goF ?_
                refine retB ?_; first | rfl | exact decide_eq_true rfl
          · have f2 := con_r11Formed r' c' (n := (l'.map rz).length) (cells := (l'.map rz).flatMap z2C) false ⟨fun h => (by cases h), fun h => absurd h hF'⟩
            have cOv := con_OverS (r := r') (c := c') (l := l'.map rz) (d := (b, rawN d)) hF'
            refine PureOK.fnF Tryz.func6 Tryz.results6 Tryz.ntmps6 rfl rfl rfl (by simp [AV.ids, AV0.ids, Atom.ids]) rfl (fun w0 T B E0 hB => ?_)
            refine SX.goF ?_
            refine W.loop (fun i : Nat => i = 0) (fun i : Nat => [(3, .ptr 3 0), (7, .ptr 7 0), (8, .v (.int .i64 2)), (9, .v (.int .i64 (i : Int)))]) (fun i => [(3, .box 24 (matZ r c (l.map rq))), (7, .box 24 mat0)]) (fun i => 1 - i) 0 rfl (fun i hi => ?_)
            subst hi
            refine SX.goF ?_
            refine retB ?_; first | rfl | exact decide_eq_true rfl
      · refine PureOK.fnF Tryz.func6 Tryz.results6 Tryz.ntmps6 rfl rfl rfl (by simp [AV.ids, AV0.ids, Atom.ids]) rfl (fun w0 T B E0 hB => ?_)
        refine SX.goF ?_
        exact retB rfl
    · have cFew' := con_r11Few r' c' l' 4 2 false ⟨fun h => (by cases h), fun h => absurd h hf'⟩
      refine PureOK.fnF Tryz.func6 Tryz.results6 Tryz.ntmps6 rfl rfl rfl (by simp [AV.ids, AV0.ids, Atom.ids]) rfl (fun w0 T B E0 hB => ?_)
      refine SX.goF ?_
      exact retB rfl
  · have cFew := cFew.2 hf
    refine PureOK.fnF Tryz.func6 Tryz.results6 Tryz.ntmps6 rfl rfl rfl (by simp [AV.ids, AV0.ids, Atom.ids]) rfl (fun w0 T B E0 hB => ?_)
    refine SX.goF ?_
    exact retB rfl
end Go.Proofs.YtpchnbhkkbnjbaaGreatDoor

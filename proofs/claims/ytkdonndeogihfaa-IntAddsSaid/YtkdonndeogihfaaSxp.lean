import Derived.Test.YtkdonndeogihfaaSxo
/- Parts of rows and texts, bytes of texts, places in the call's own rows, giving a row away. No program in sight. -/
set_option linter.unusedVariables false
set_option linter.unusedSimpArgs false
namespace SX
open Go Go.RowKit
section
variable {P : Program}
theorem run_bound {w : World} {k : IntKind} {i : Int} {y : Nat} {code : BoundsCode} (h0 : 0 ≤ i) (h1 : i ≤ (y : Int)) : (Instr.sliceBound (.int k i) y code).run P w = .ok i.toNat w := by
  simp [Instr.sliceBound, asIntOf, h0, h1]
theorem run_sliceAt_str {w : World} {t : TypeId} {s : ByteArray} {lo hi : Option Value} {l h m : Nat} (ht : P.underlying t = some .string) (hb : (Instr.sliceBounds false s.size s.size lo hi none).run P w = .ok (l, h, m) w) :
    (Instr.sliceAt t (.string s) lo hi none).run P w = .ok (.string (s.extract l h)) w := by
  simp [Instr.sliceAt, Instr.slice, run_underlying ht, hb]
theorem run_sliceAt_row {w : World} {t e : TypeId} {a : Option Addr} {n cap size : Nat} {lo hi : Option Value} {l h m : Nat} (ht : P.underlying t = some (.slice e)) (hs : (P.info? e).map (·.size) = some size) (hb : (Instr.sliceBounds true n cap lo hi none).run P w = .ok (l, h, m) w) :
    (Instr.sliceAt t (.slice a n cap) lo hi none).run P w = .ok (.slice (if m = l then a else a.map (·.add (l * size))) (h - l) (m - l)) w := by
  simp [Instr.sliceAt, Instr.slice, run_underlying ht, hb, run_sizeOf hs]
theorem bounds_hi {w : World} {b : Bool} {n cap : Nat} {k : IntKind} {i : Int} (h0 : 0 ≤ i) (h1 : i ≤ (cap : Int)) : (Instr.sliceBounds b n cap none (some (.int k i)) none).run P w = .ok (0, i.toNat, cap) w := by
  simp [Instr.sliceBounds, run_bound h0 h1]
theorem bounds_lo {w : World} {b : Bool} {n cap : Nat} {k : IntKind} {i : Int} (h0 : 0 ≤ i) (h1 : i ≤ (n : Int)) : (Instr.sliceBounds b n cap (some (.int k i)) none none).run P w = .ok (i.toNat, n, cap) w := by
  simp [Instr.sliceBounds, run_bound h0 h1]
theorem bounds_lh {w : World} {b : Bool} {n cap : Nat} {k k' : IntKind} {i j : Int} (h0 : 0 ≤ i) (h1 : i ≤ j) (h2 : j ≤ (cap : Int)) : (Instr.sliceBounds b n cap (some (.int k i)) (some (.int k' j)) none).run P w = .ok (i.toNat, j.toNat, cap) w := by
  have h3 : i ≤ ((j.toNat : Nat) : Int) := by omega
  simp [Instr.sliceBounds, run_bound (show 0 ≤ j by omega) h2, run_bound h0 h3]
theorem sliceR_part {S : Nat → Prop} {w : World} {size n : Nat} {cells : List CA} {a : Option Addr} {cap l h : Nat} (hv : (sliceR size n cells).has S w (.slice a n cap)) (hlh : l ≤ h) (hh : h ≤ n) :
    (sliceR size (h - l) ((cells.drop (l * size)).take ((h - l) * size))).has S w (.slice (if cap = l then a else a.map (·.add (l * size))) (h - l) (cap - l)) := by
  obtain ⟨oa, cap', e0, h1, h2, h3, h4, h5⟩ := sliceR_iff.1 hv
  cases e0
  refine sliceR_iff.2 ⟨_, _, rfl, by omega, by omega, fun hn => ?_, ?_, fun i c hc => ?_⟩
  · split at hn
    · omega
    · cases a with
      | none => have := h3 rfl; omega
      | some a => cases hn
  · rw [List.length_take, List.length_drop, h4]
    have : (h - l) * size ≤ n * size - l * size := by rw [← Nat.sub_mul]; exact Nat.mul_le_mul_right _ (by omega)
    omega
  · rw [List.getElem?_take] at hc
    split at hc
    · rename_i hi
      rw [List.getElem?_drop] at hc
      obtain ⟨b, o, u, e1, e2, e3, e4⟩ := h5 _ c hc
      subst e1
      have hne : cap ≠ l := by
        rintro rfl
        have : h - cap = 0 := by omega
        rw [this] at hi; omega
      refine ⟨b, o + l * size, u, ?_, e2, by rw [Nat.add_assoc]; exact e3, e4⟩
      rw [if_neg hne]; simp [Addr.add_lit]
    · cases hc
end
section
variable {P : Program} {C : Ctx} {st : St}
variable {ops rest : List Oper} {acc : List (List Nat × List Nat)} {K : List (List Nat × List Nat) → St → Prop} {d : Tmp} {dst : Option Tmp} {op : Op} {ty t : TypeId} {x y z : Operand} {k k' : IntKind} {i j : Int}
theorem Go1.sliceHiR {e : TypeId} {size n : Nat} {cells : List CA} {r : Rep} [ht : TSlice P t e size] [hr : AsSlice r size n cells] (hd : dstOK dst C.nt = true) (hx : st.ev x = some (.r r)) (hy : st.ev y = some (.v (.int k i))) (h0 : 0 ≤ i) (h1 : i ≤ (n : Int))
    (next : Reg P C ops rest (st.app dst ⟨.r (sliceR size i.toNat (cells.take (i.toNat * size))), []⟩) (([], []) :: acc) K) : Go1 P C ops dst (.slice t x none (some y) none) ty rest st acc K :=
  Go1.pureV [] [] (by simp) hd (by simp) (fun o ho _ st' E S a w hev hs _ => by
    obtain ⟨hx1, _⟩ := hs.ev ((hev x (by simp [ho, Op.operands])).trans hx)
    have hyv : a.eval y = .int k i := (hs.ev ((hev y (by simp [ho, Op.operands])).trans hy)).1
    have hr1 := hr.h _ _ _ hx1
    obtain ⟨oa, cap, hv, hn, _⟩ := sliceR_iff.1 hr1
    rw [hv] at hr1
    have hp := sliceR_part (l := 0) (h := i.toNat) hr1 (Nat.zero_le _) (by omega)
    rw [Nat.zero_mul, List.drop_zero, Nat.sub_zero] at hp
    refine ⟨fun i hi => (by cases hi), _, ?_, hp⟩
    unfold execOp; rw [ho]
    simp only [Option.map_some, Option.map_none, hv, hyv]
    simp [run_sliceAt_row ht.h ht.s (bounds_hi (w := w) (b := true) (n := n) (cap := cap) (k := k) h0 (by omega))]) next
theorem Go1.sliceLoR {e : TypeId} {size n : Nat} {cells : List CA} {r : Rep} [ht : TSlice P t e size] [hr : AsSlice r size n cells] (hd : dstOK dst C.nt = true) (hx : st.ev x = some (.r r)) (hy : st.ev y = some (.v (.int k i))) (h0 : 0 ≤ i) (h1 : i ≤ (n : Int))
    (next : Reg P C ops rest (st.app dst ⟨.r (sliceR size (n - i.toNat) (cells.drop (i.toNat * size))), []⟩) (([], []) :: acc) K) : Go1 P C ops dst (.slice t x (some y) none none) ty rest st acc K :=
  Go1.pureV [] [] (by simp) hd (by simp) (fun o ho _ st' E S a w hev hs _ => by
    obtain ⟨hx1, _⟩ := hs.ev ((hev x (by simp [ho, Op.operands])).trans hx)
    have hyv : a.eval y = .int k i := (hs.ev ((hev y (by simp [ho, Op.operands])).trans hy)).1
    have hr1 := hr.h _ _ _ hx1
    obtain ⟨oa, cap, hv, hn, _, _, hlen, _⟩ := sliceR_iff.1 hr1
    rw [hv] at hr1
    have hp := sliceR_part (l := i.toNat) (h := n) hr1 (by omega) (Nat.le_refl _)
    rw [List.take_of_length_le (by rw [List.length_drop, hlen, ← Nat.sub_mul]; exact Nat.le_refl _)] at hp
    refine ⟨fun i hi => (by cases hi), _, ?_, hp⟩
    unfold execOp; rw [ho]
    simp only [Option.map_some, Option.map_none, hv, hyv]
    simp [run_sliceAt_row ht.h ht.s (bounds_lo (w := w) (b := true) (n := n) (cap := cap) (k := k) h0 h1)]) next
theorem Go1.sliceHiS {s : ByteArray} [ht : TStr P t] (hd : dstOK dst C.nt = true) (hx : st.ev x = some (.v (.string s))) (hy : st.ev y = some (.v (.int k i))) (h0 : 0 ≤ i) (h1 : i ≤ (s.size : Int))
    (next : Reg P C ops rest (st.app dst ⟨.v (.string (s.extract 0 i.toNat)), []⟩) (([], []) :: acc) K) : Go1 P C ops dst (.slice t x none (some y) none) ty rest st acc K :=
  Go1.pureV [] [] (by simp) hd (by simp) (fun o ho _ st' E S a w hev hs _ => by
    have hv : a.eval x = .string s := (hs.ev ((hev x (by simp [ho, Op.operands])).trans hx)).1
    have hyv : a.eval y = .int k i := (hs.ev ((hev y (by simp [ho, Op.operands])).trans hy)).1
    refine ⟨fun i hi => (by cases hi), _, ?_, rfl⟩
    unfold execOp; rw [ho]
    simp only [Option.map_some, Option.map_none, hv, hyv]
    simp [run_sliceAt_str ht.h (bounds_hi (w := w) (b := false) (n := s.size) (cap := s.size) (k := k) h0 h1)]) next
theorem Go1.sliceLoS {s : ByteArray} [ht : TStr P t] (hd : dstOK dst C.nt = true) (hx : st.ev x = some (.v (.string s))) (hy : st.ev y = some (.v (.int k i))) (h0 : 0 ≤ i) (h1 : i ≤ (s.size : Int))
    (next : Reg P C ops rest (st.app dst ⟨.v (.string (s.extract i.toNat s.size)), []⟩) (([], []) :: acc) K) : Go1 P C ops dst (.slice t x (some y) none none) ty rest st acc K :=
  Go1.pureV [] [] (by simp) hd (by simp) (fun o ho _ st' E S a w hev hs _ => by
    have hv : a.eval x = .string s := (hs.ev ((hev x (by simp [ho, Op.operands])).trans hx)).1
    have hyv : a.eval y = .int k i := (hs.ev ((hev y (by simp [ho, Op.operands])).trans hy)).1
    refine ⟨fun i hi => (by cases hi), _, ?_, rfl⟩
    unfold execOp; rw [ho]
    simp only [Option.map_some, Option.map_none, hv, hyv]
    simp [run_sliceAt_str ht.h (bounds_lo (w := w) (b := false) (n := s.size) (cap := s.size) (k := k) h0 h1)]) next
theorem Go1.sliceLHS {s : ByteArray} [ht : TStr P t] (hd : dstOK dst C.nt = true) (hx : st.ev x = some (.v (.string s))) (hy : st.ev y = some (.v (.int k i))) (hz : st.ev z = some (.v (.int k' j))) (h0 : 0 ≤ i) (h1 : i ≤ j) (h2 : j ≤ (s.size : Int))
    (next : Reg P C ops rest (st.app dst ⟨.v (.string (s.extract i.toNat j.toNat)), []⟩) (([], []) :: acc) K) : Go1 P C ops dst (.slice t x (some y) (some z) none) ty rest st acc K :=
  Go1.pureV [] [] (by simp) hd (by simp) (fun o ho _ st' E S a w hev hs _ => by
    have hv : a.eval x = .string s := (hs.ev ((hev x (by simp [ho, Op.operands])).trans hx)).1
    have hyv : a.eval y = .int k i := (hs.ev ((hev y (by simp [ho, Op.operands])).trans hy)).1
    have hzv : a.eval z = .int k' j := (hs.ev ((hev z (by simp [ho, Op.operands])).trans hz)).1
    refine ⟨fun i hi => (by cases hi), _, ?_, rfl⟩
    unfold execOp; rw [ho]
    simp only [Option.map_some, Option.map_none, hv, hyv, hzv]
    simp [run_sliceAt_str ht.h (bounds_lh (w := w) (b := false) (n := s.size) (cap := s.size) (k := k) (k' := k') h0 h1 h2)]) next
/-- A text's byte. -/
theorem Go1.indexS {s : ByteArray} {b : UInt8} [ht : TStr P t] (hd : dstOK dst C.nt = true) (hx : st.ev x = some (.v (.string s))) (hy : st.ev y = some (.v (.int k i))) (h0 : 0 ≤ i) (hb : s[i.toNat]? = some b)
    (next : Reg P C ops rest (st.app dst ⟨.v (.int .u8 (b.toNat : Int)), []⟩) (([], []) :: acc) K) : Go1 P C ops dst (.index t x y) ty rest st acc K :=
  Go1.pureV [] [] (by simp) hd (by simp) (fun o ho _ st' E S a w hev hs _ => by
    have hv : a.eval x = .string s := (hs.ev ((hev x (by simp [ho, Op.operands])).trans hx)).1
    have hyv : a.eval y = .int k i := (hs.ev ((hev y (by simp [ho, Op.operands])).trans hy)).1
    refine ⟨fun i hi => (by cases hi), _, ?_, rfl⟩
    unfold execOp; rw [ho]
    simp [hv, hyv, Instr.index, asIntOf, run_underlying ht.h, h0, hb]) next
theorem Go1.eqlS {ty' : TypeId} {s u : ByteArray} (hd : dstOK dst C.nt = true) (hx : st.ev x = some (.v (.string s))) (hy : st.ev y = some (.v (.string u))) (next : Reg P C ops rest (st.app dst ⟨.v (.bool (s.toList == u.toList)), []⟩) (([], []) :: acc) K) : Go1 P C ops dst (.binOp .eql t x y ty') ty rest st acc K :=
  Go1.val2 hd rfl hx hy (fun ρ o w ho h1 h2 => by unfold execOp; rw [ho]; simp [h1, h2, eqGuard, binOp, Op.stringOp]) next
theorem Go1.neqS {ty' : TypeId} {s u : ByteArray} (hd : dstOK dst C.nt = true) (hx : st.ev x = some (.v (.string s))) (hy : st.ev y = some (.v (.string u))) (next : Reg P C ops rest (st.app dst ⟨.v (.bool (!(s.toList == u.toList))), []⟩) (([], []) :: acc) K) : Go1 P C ops dst (.binOp .neq t x y ty') ty rest st acc K :=
  Go1.val2 hd rfl hx hy (fun ρ o w ho h1 h2 => by unfold execOp; rw [ho]; simp [h1, h2, eqGuard, binOp, Op.stringOp]) next
/-- The place of an element of a row of the call's own. -/
theorem Go1.indexAddrO {e : TypeId} {b n size i : Nat} {cells : List CA} [ht : TSlice P t e size] (hd : dstOK dst C.nt = true) (hx : st.ev x = some (.own b)) (hb : st.hp b = .ent (.row e size n cells)) (hy : st.ev y = some (.v (.int k (i : Int)))) (hi : i < n)
    (next : Reg P C ops rest (st.app dst ⟨.it (.one (.rptr b (i * size))), []⟩) (([b], []) :: acc) K) : Go1 P C ops dst (.indexAddr t x y) ty rest st acc K :=
  Go1.pureV [(b, .row e size n cells)] [b] (fun c e' hc => by simp at hc; simp [hc.1]) hd (fun c e' hc => by simp at hc; obtain ⟨rfl, rfl⟩ := hc; exact hb) (fun o ho _ st' E S a w hev hs hrd => by
    obtain ⟨⟨hxv, _⟩, hid⟩ := hs.ev ((hev x (by simp [ho, Op.operands])).trans hx)
    have hyv : a.eval y = .int k (i : Int) := (hs.ev ((hev y (by simp [ho, Op.operands])).trans hy)).1
    obtain ⟨vs, hown, _⟩ := hs.hp b _ (hrd b _ List.mem_cons_self)
    have hsz := run_sizeOf ht.s w
    rcases hown.2 with ⟨_, h0⟩ | ⟨g, cap, cur, hv, _⟩
    · omega
    · refine ⟨hid, .pointer (some ⟨g, i * size, none⟩), ?_, g, n, cap, hv, rfl⟩
      unfold execOp; rw [ho]
      simp [hxv, hv, hyv, Instr.indexAt, asIntOf, run_underlying ht.h, hsz, Addr.add_lit, hi]) next
/-- A cell of a row of the call's own is read. -/
theorem Go1.loadO1 {e : TypeId} {b n size off : Nat} {c : CA} {cells : List CA} [ht : TOne P t] (hd : dstOK dst C.nt = true) (hx : st.ev x = some (.it (.one (.rptr b off)))) (hb : st.hp b = .ent (.row e size n cells)) (hc : cells[off]? = some c)
    (next : Reg P C ops rest (st.app dst ⟨.it (.one (.c c)), []⟩) (([b], []) :: acc) K) : Go1 P C ops dst (.load t x) ty rest st acc K :=
  Go1.pureV [(b, .row e size n cells)] [b] (fun c e' hc => by simp at hc; simp [hc.1]) hd (fun c e' hc => by simp at hc; obtain ⟨rfl, rfl⟩ := hc; exact hb) (fun o ho _ st' E S a w hev hs hrd => by
    obtain ⟨⟨g, n', cap, h1, hv⟩, _⟩ := hs.ev ((hev x (by simp [ho, Op.operands])).trans hx)
    obtain ⟨vs, hown, hvs⟩ := hs.hp b _ (hrd b _ List.mem_cons_self)
    rw [h1] at hown
    have hcell := hown.cells (g := g) rfl
    obtain ⟨u, hu, huc⟩ := hvs.get hc
    have g2 := hcell off u hu
    refine ⟨fun j hj => (by cases hj), u, ?_, huc⟩
    unfold execOp; rw [ho]
    have g2' : w.cell? ⟨g, off, none⟩ = some u := by simpa [Addr.add_lit] using g2
    simp [hv, Instr.loadAt, Instr.sureAddr, loadVar, run_isAgg ht.h, g2']) next
theorem Go1.loadOAgg {e : TypeId} {b n size off m : Nat} {cells l : List CA} [ht : TAgg P t m] (hd : dstOK dst C.nt = true) (hx : st.ev x = some (.it (.one (.rptr b off)))) (hb : st.hp b = .ent (.row e size n cells)) (hc : (cells.drop off).take m = l) (hl : l.length = m)
    (next : Reg P C ops rest (st.app dst ⟨.agg (l.map Atom.c), []⟩) (([b], []) :: acc) K) : Go1 P C ops dst (.load t x) ty rest st acc K :=
  Go1.pureV [(b, .row e size n cells)] [b] (fun c e' hc => by simp at hc; simp [hc.1]) hd (fun c e' hc => by simp at hc; obtain ⟨rfl, rfl⟩ := hc; exact hb) (fun o ho _ st' E S a w hev hs hrd => by
    obtain ⟨⟨g, n', cap, h1, hv⟩, _⟩ := hs.ev ((hev x (by simp [ho, Op.operands])).trans hx)
    obtain ⟨vs, hown, hvs⟩ := hs.hp b _ (hrd b _ List.mem_cons_self)
    rw [h1] at hown
    have hcell := hown.cells (g := g) rfl
    have hall0 : All2 (CA.has S w) l ((vs.drop off).take m) := by rw [← hc]; exact (hvs.drop off).take m
    obtain ⟨us, hus, hall⟩ : ∃ us, us = (vs.drop off).take m ∧ All2 (CA.has S w) l us := ⟨_, rfl, hall0⟩
    have hlen := hall.length
    have hrun := run_loadCells_list (P := P) w ⟨g, off, none⟩ us (fun j u hj => by
      rw [hus, List.getElem?_take] at hj
      split at hj
      · rw [List.getElem?_drop] at hj
        have := hcell (off + j) u hj
        simpa [Addr.add_lit] using this
      · cases hj)
    have hsz : (P.info? t).map (·.size) = some us.length := by rw [ht.s, ← hlen, hl]
    refine ⟨fun j hj => ?_, .agg us.toArray, ?_, us, rfl, all2_open hall⟩
    · simp only [AV.ids, AV0.ids, List.mem_flatMap] at hj
      obtain ⟨c, hc, hj⟩ := hj
      obtain ⟨c', _, rfl⟩ := List.mem_map.1 hc
      cases hj
    · unfold execOp; rw [ho]
      simp [hv, Instr.loadAt, Instr.sureAddr, loadVar, run_isAgg ht.h, run_sizeOf hsz, hrun]) next
theorem ownsRow_take {w : World} {e : TypeId} {size n i : Nat} {v : Value} {vs : List Value} (h : w.ownsRow 0 e size v n vs) (hi : i ≤ n) :
    ∃ oa cap, v = .slice oa n cap ∧ n ≤ cap ∧ (oa.map (·.add (0 * size)) = oa) ∧ w.ownsRow 0 e size (.slice oa i cap) i (vs.take (i * size)) := by
  have hl : (vs.take (i * size)).length = i * size := by rw [List.length_take, h.1]; exact Nat.min_eq_left (Nat.mul_le_mul_right _ hi)
  rcases h.2 with ⟨rfl, rfl⟩ | ⟨g, cap, cur, rfl, hg0, hg, hn, hm, hcs, htk⟩
  · have : i = 0 := by omega
    subst this
    exact ⟨none, 0, rfl, Nat.le_refl _, rfl, hl, .inl ⟨rfl, rfl⟩⟩
  · refine ⟨some ⟨g, 0, none⟩, cap, rfl, hn, by simp [Addr.add_lit], hl, .inr ⟨g, cap, cur, rfl, hg0, hg, by omega, hm, hcs, ?_⟩⟩
    rw [← htk, List.take_take, Nat.min_eq_left (Nat.mul_le_mul_right _ hi)]
/-- A row's head. -/
theorem Go1.sliceHiO {e : TypeId} {b n size : Nat} {cells : List CA} [ht : TSlice P t e size] (hd : dstOK (some d) C.nt = true) (hx : st.ev x = some (.own b)) (hb : st.hp b = .ent (.row e size n cells)) (hf : st.hp d = .free) (hy : st.ev y = some (.v (.int k i))) (h0 : 0 ≤ i) (h1 : i ≤ (n : Int))
    (next : Reg P C ops rest (st.app (some d) ⟨.own d, [(b, .gone), (d, .ent (.row e size i.toNat (cells.take (i.toNat * size))))]⟩) (([b, d], [b, d]) :: acc) K) : Go1 P C ops (some d) (.slice t x none (some y) none) ty rest st acc K := by
  have hbd : d ≠ b := by rintro rfl; rw [hf] at hb; cases hb
  refine ⟨[b, d], _, fun o h2 h3 h4 => OpOK.eff [] [(b, .row e size n cells)] (fun c hc => ?_) (h2 ▸ dstOK_spec hd) (fun c e hc => by cases hc) (fun c e hc => ?_) (fun c s hc => ?_) (fun c s hc => ?_) (fun st' E S a w hev hhp hs _ hpre => ?_), next⟩
  · rcases hc with ⟨e, hc⟩ | ⟨e, hc⟩ | ⟨s, hc⟩
    · cases hc
    · simp at hc; simp [hc.1]
    · simp at hc; rcases hc with hc | hc <;> simp [hc.1]
  · simp at hc; obtain ⟨rfl, rfl⟩ := hc; exact ⟨hb, _, List.mem_cons_self⟩
  · simp at hc; rcases hc with ⟨rfl, rfl⟩ | ⟨rfl, rfl⟩
    · exact .inl ⟨_, List.mem_cons_self⟩
    · exact .inr hf
  · simp at hc; rcases hc with ⟨rfl, rfl⟩ | ⟨rfl, rfl⟩ <;> rfl
  · obtain ⟨⟨hxv, _⟩, _⟩ := hs.ev ((hev x (by simp [h3, Op.operands])).trans hx)
    have hyv : a.eval y = .int k i := (hs.ev ((hev y (by simp [h3, Op.operands])).trans hy)).1
    have hbe := hpre b _ List.mem_cons_self
    obtain ⟨vs, hown, hvs⟩ := hs.hp b _ hbe
    obtain ⟨oa, cap, hv, hn, hadd, hown'⟩ := ownsRow_take hown (show i.toNat ≤ n by omega)
    refine ⟨⟨fun i hi => ?_, fun c e hc i hi => ?_⟩, fun K Q hK => ?_⟩
    · simp [AV.ids, AV0.ids, Atom.ids] at hi; subst hi; simp [updL, Slot.used]
    · simp at hc
      obtain ⟨rfl, rfl⟩ := hc
      cases hi
    · have hob : ∀ k, (Value.slice oa i.toNat cap).ownBlock = some k → (E.sl b).ownBlock = some k := by
        intro k hk; rw [hv]; cases oa with | none => simp [Value.ownBlock] at hk | some a => exact hk
      have hE := Eff.row (E := E) (S := S) (b := d) (pre := [(b, .row e size n cells)]) (gones := [(b, .gone)]) hs.lt
        (fun c e' k hc hk => by simp at hc; obtain ⟨rfl, rfl⟩ := hc; exact (hs.blk _ _ k hbe hk).1)
        (fun e' hc => by simp at hc; exact hbd hc.1)
        (fun c s hc => by simp at hc; obtain ⟨rfl, rfl⟩ := hc; exact ⟨rfl, _, List.mem_cons_self⟩)
        (Off.refl _ w) hown' (hvs.take (i.toNat * size))
        (fun k hk => .inl ⟨b, _, List.mem_cons_self, hob k hk⟩)
      unfold Oper.wp
      have hrun : (execOp a.eval o).run P w = .ok (.value (.slice oa i.toNat cap)) w := by
        unfold execOp; rw [h3]
        simp only [Option.map_some, Option.map_none, hxv, hv, hyv]
        have hr := run_sliceAt_row (a := oa) ht.h ht.s (bounds_hi (P := P) (w := w) (b := true) (n := n) (cap := cap) (k := k) h0 (by omega))
        rw [hadd, ite_self, Nat.sub_zero, Nat.sub_zero] at hr
        simp [hr]
      rw [hrun]
      exact hK _ _ _ _ hE
end
end SX

import Derived.Test.YtmfadfkjnfdngaaGreatDoorM7
set_option linter.unusedVariables false
set_option linter.unusedSimpArgs false
namespace SX
open Go Go.RowKit
def hdrs (s : Value) : List Value := match s with | .agg a => a.toList | v => [v]
def hdrAt (s : Value) (j : Nat) : Value := (hdrs s).getD j undef
def hdrR (j : Nat) : Nat → Value → Value → Prop := fun _ s v => v = hdrAt s j
def hptrR (j off : Nat) : Nat → Value → Value → Prop := fun _ s v => ∃ g n cap, hdrAt s j = .slice (some ⟨g, 0, none⟩) n cap ∧ v = .pointer (some ⟨g, off, none⟩)
def hsubR (i : Nat) : Nat → Value → Value → Prop := fun _ s v => ∃ a n cap, hdrAt s 0 = .slice a n cap ∧ i ≤ n ∧ v = .slice (if cap = i then a else a.map (·.add (i * 1))) (n - i) (cap - i)
abbrev hdrA (b j : Nat) : Atom := .rel b (hdrR j)
section
variable {α : Type}
structure RowsHas (tO tI : TypeId) (size : Nat) (enc : α → List CA) (js : List Nat) (c : List (List α)) (v : Value) (X S : Nat → Prop) (w : World) : Prop where
  out : w.ownsRow 0 tO 1 (hdrAt v 0) js.length (js.map fun j => hdrAt v (j + 1))
  lt : ∀ j ∈ js, j < c.length
  inn : ∀ j l, c[j]? = some l → ∃ vs, w.ownsRow 0 tI size (hdrAt v (j + 1)) l.length vs ∧ All2 (CA.has S w) (l.flatMap enc) vs
  sep : ∀ i j k, i < c.length + 1 → j < c.length + 1 → i ≠ j → (hdrAt v i).ownBlock = some k → (hdrAt v j).ownBlock ≠ some k
  X : ∀ k, X k ↔ ∃ i, i < c.length + 1 ∧ (hdrAt v i).ownBlock = some k
def rowsE (tO tI : TypeId) (size : Nat) (enc : α → List CA) (js : List Nat) (c : List (List α)) : AEnt where
  has _ v X S w := RowsHas tO tI size enc js c v X S w
  step := fun {b v X S S' w w'} h ho hs hX => by
    refine ⟨ownsRow_block h.out fun k hk => hX k ((h.X k).2 ⟨0, by omega, hk⟩), h.lt, fun j l hj => ?_, h.sep, h.X⟩
    have hjl : j < c.length := by
      rcases Nat.lt_or_ge j c.length with h | h
      · exact h
      · rw [List.getElem?_eq_none h] at hj; cases hj
    obtain ⟨vs, h1, h2⟩ := h.inn j l hj
    exact ⟨vs, ownsRow_block h1 fun k hk => hX k ((h.X k).2 ⟨j + 1, by omega, hk⟩), h2.mono fun a u _ ha => ha.step ho hs⟩
def HasRow (A : AEnt) (i : Nat) (e : TypeId) (size n : Nat) : Prop := ∀ b v X S w, A.has b v X S w → ∃ vs, w.ownsRow 0 e size (hdrAt v i) n vs
theorem HasRow.out {tO tI : TypeId} {size : Nat} {enc : α → List CA} {js : List Nat} {c : List (List α)} : HasRow (rowsE tO tI size enc js c) 0 tO 1 js.length := fun b v X S w h => ⟨_, h.out⟩
theorem HasRow.inn {tO tI : TypeId} {size : Nat} {enc : α → List CA} {js : List Nat} {c : List (List α)} {j : Nat} {l : List α} (hj : c[j]? = some l) : HasRow (rowsE tO tI size enc js c) (j + 1) tI size l.length := fun b v X S w h => let ⟨vs, h1, _⟩ := h.inn j l hj; ⟨vs, h1⟩
theorem own_one {w : World} {e : TypeId} {size n : Nat} {v : Value} {vs : List Value} (h : w.ownsRow 0 e size v n vs) : v.oneCell' = true := by
  rcases h.2 with ⟨rfl, _⟩ | ⟨_, _, _, rfl, _⟩ <;> rfl
theorem own_frz {w : World} {e : TypeId} {size n : Nat} {v : Value} {vs : List Value} {cells : List CA} {S : Nat → Prop} (hown : w.ownsRow 0 e size v n vs) (hvs : All2 (CA.has S w) cells vs) (hS : ∀ k, v.ownBlock = some k → ¬ S k) : (sliceR size n cells).has S w v := by
  have hlen : cells.length = n * size := by rw [hvs.length, hown.1]
  rcases hown.2 with ⟨hv, h0⟩ | ⟨g, cap, cur, hv, _, hg, hn, hm, hcs, htk⟩
  · refine sliceR_iff.2 ⟨none, 0, by rw [hv, h0], by omega, Nat.zero_le _, fun _ => rfl, hlen, fun i c hc => ?_⟩
    have : cells.length = 0 := by rw [hlen, h0, Nat.zero_mul]
    rw [List.eq_nil_of_length_eq_zero this] at hc
    simp at hc
  · refine sliceR_iff.2 ⟨some ⟨g, 0, none⟩, cap, hv, hn, hm, (fun h => by cases h), hlen, fun i c hc => ?_⟩
    obtain ⟨u, hu, huc⟩ := hvs.get hc
    rw [hv] at hown
    have hcell := hown.cells (g := g) rfl i u hu
    exact ⟨g, 0, u, rfl, hS g (by rw [hv]; rfl), by simpa [Addr.add_lit] using hcell, huc⟩
theorem RowsHas.frz {tO tI : TypeId} {size : Nat} {enc : α → List CA} {js : List Nat} {c : List (List α)} {v : Value} {X S S' : Nat → Prop} {w : World} (h : RowsHas tO tI size enc js c v X S w) (hsub : ∀ k, S' k → S k) (hX : ∀ k, X k → ¬ S' k) :
    (sliceR 1 js.length (js.map fun j => .sat (rowR size enc (c.getD j [])))).has S' w (hdrAt v 0) := by
  refine own_frz h.out ?_ fun k hk => hX k ((h.X k).2 ⟨0, by omega, hk⟩)
  have key : ∀ l : List Nat, (∀ j ∈ l, j < c.length) → All2 (CA.has S' w) (l.map fun j => CA.sat (rowR size enc (c.getD j []))) (l.map fun j => hdrAt v (j + 1)) := by
    intro l
    induction l with
    | nil => intro _; trivial
    | cons j l ih =>
      intro hl
      have hj := hl j List.mem_cons_self
      refine ⟨?_, ih fun i hi => hl i (List.mem_cons_of_mem _ hi)⟩
      have hcj : c[j]? = some (c.getD j []) := by rw [List.getD_eq_getElem?_getD, List.getElem?_eq_getElem hj]; rfl
      obtain ⟨vs, h1, h2⟩ := h.inn j _ hcj
      exact own_frz h1 (h2.mono fun a u _ ha => ha.step (Off.refl S w) (fun k hk => .inl (hsub k hk))) fun k hk => hX k ((h.X k).2 ⟨j + 1, by omega, hk⟩)
  exact key js h.lt
end
section
variable {P : Program} {C : Ctx} {st : St} {α : Type}
variable {ops rest : List Oper} {acc : List (List Nat × List Nat)} {K : List (List Nat × List Nat) → St → Prop} {dst : Option Tmp} {d : Tmp} {op : Op} {ty t t' : TypeId} {x y z : Operand} {k : IntKind}
theorem Go1.lenH {A : AEnt} {e : TypeId} {b i n size sz : Nat} [ht : TSlice P t e sz] (hd : dstOK dst C.nt = true) (hx : st.ev x = some (.it (.one (.rel b (hdrR i))))) (hb : st.hp b = .ent (.abs A)) (hA : HasRow A i e size n)
    (next : Reg P C ops rest (st.app dst ⟨.v (.int .i64 (n : Int)), []⟩) (([b], []) :: acc) K) : Go1 P C ops dst (.call ⟨.builtin .len, #[x], #[t]⟩) ty rest st acc K :=
  Go1.pureV [(b, .abs A)] [b] (fun c e' hc => by simp at hc; simp [hc.1]) hd (fun c e' hc => by simp at hc; obtain ⟨rfl, rfl⟩ := hc; exact hb) (fun o ho _ st' E S a w hev hs hrd => by
    obtain ⟨⟨hxv, _⟩, _⟩ := hs.ev ((hev x (by simp [ho, Op.operands, Call.operands])).trans hx)
    obtain ⟨vs, hown⟩ := hA _ _ _ _ _ (hs.hp b _ (hrd b _ List.mem_cons_self))
    have hxv' : a.eval x = hdrAt (E.sl b) i := hxv
    refine ⟨fun i hi => (by cases hi), .int .i64 (n : Int), ?_, rfl⟩
    unfold execOp; rw [ho]
    rcases hown.2 with ⟨hv, rfl⟩ | ⟨g, cap, cur, hv, _⟩
    · simp [resolve, invoke, builtin, Builtin.len_, run_underlying ht.h, hxv', hv, goInt]
    · simp [resolve, invoke, builtin, Builtin.len_, run_underlying ht.h, hxv', hv, goInt]) next
theorem Go1.indexAddrH {A : AEnt} {e : TypeId} {b j n size i : Nat} [ht : TSlice P t e size] (hd : dstOK dst C.nt = true) (hx : st.ev x = some (.it (.one (.rel b (hdrR j))))) (hb : st.hp b = .ent (.abs A)) (hA : HasRow A j e size n) (hy : st.ev y = some (.v (.int k (i : Int)))) (hi : i < n)
    (next : Reg P C ops rest (st.app dst ⟨.it (.one (.rel b (hptrR j (i * size)))), []⟩) (([b], []) :: acc) K) : Go1 P C ops dst (.indexAddr t x y) ty rest st acc K :=
  Go1.pureV [(b, .abs A)] [b] (fun c e' hc => by simp at hc; simp [hc.1]) hd (fun c e' hc => by simp at hc; obtain ⟨rfl, rfl⟩ := hc; exact hb) (fun o ho _ st' E S a w hev hs hrd => by
    obtain ⟨⟨hxv, _⟩, hid⟩ := hs.ev ((hev x (by simp [ho, Op.operands])).trans hx)
    have hxv' : a.eval x = hdrAt (E.sl b) j := hxv
    have hyv : a.eval y = .int k (i : Int) := (hs.ev ((hev y (by simp [ho, Op.operands])).trans hy)).1
    obtain ⟨vs, hown⟩ := hA _ _ _ _ _ (hs.hp b _ (hrd b _ List.mem_cons_self))
    have hsz := run_sizeOf ht.s w
    rcases hown.2 with ⟨_, h0⟩ | ⟨g, cap, cur, hv, _⟩
    · omega
    · refine ⟨hid, .pointer (some ⟨g, i * size, none⟩), ?_, ⟨g, n, cap, hv, rfl⟩, rfl⟩
      unfold execOp; rw [ho]
      simp [hxv', hv, hyv, Instr.indexAt, asIntOf, run_underlying ht.h, hsz, Addr.add_lit, hi]) next
theorem Go1.loadH {tO tI : TypeId} {b size off j : Nat} {enc : α → List CA} {js : List Nat} {c : List (List α)} [ht : TOne P t] (hd : dstOK dst C.nt = true) (hx : st.ev x = some (.it (.one (.rel b (hptrR 0 off))))) (hb : st.hp b = .ent (.abs (rowsE tO tI size enc js c))) (hj : js[off]? = some j)
    (next : Reg P C ops rest (st.app dst ⟨.it (.one (hdrA b (j + 1))), []⟩) (([b], []) :: acc) K) : Go1 P C ops dst (.load t x) ty rest st acc K :=
  Go1.pureV [(b, .abs (rowsE tO tI size enc js c))] [b] (fun c e' hc => by simp at hc; simp [hc.1]) hd (fun c e' hc => by simp at hc; obtain ⟨rfl, rfl⟩ := hc; exact hb) (fun o ho _ st' E S a w hev hs hrd => by
    obtain ⟨⟨⟨g, n', cap, h1, hv⟩, _⟩, hid⟩ := hs.ev ((hev x (by simp [ho, Op.operands])).trans hx)
    have hh : RowsHas tO tI size enc js c (E.sl b) (E.fp b) S w := hs.hp b _ (hrd b _ List.mem_cons_self)
    have hown := hh.out
    rw [h1] at hown
    have hcell := hown.cells (g := g) rfl
    have g2 := hcell off (hdrAt (E.sl b) (j + 1)) (by rw [List.getElem?_map, hj]; rfl)
    have hjl := hh.lt j (List.mem_of_getElem? hj)
    obtain ⟨vs, hi, _⟩ := hh.inn j (c[j]'hjl) (List.getElem?_eq_getElem hjl)
    refine ⟨fun i hi => hid i hi, hdrAt (E.sl b) (j + 1), ?_, rfl, own_one hi⟩
    unfold execOp; rw [ho]
    have g2' : w.cell? ⟨g, off, none⟩ = some (hdrAt (E.sl b) (j + 1)) := by simpa [Addr.add_lit] using g2
    simp [hv, Instr.loadAt, Instr.sureAddr, loadVar, run_isAgg ht.h, g2']) next
theorem Go1.loadHI {tO tI : TypeId} {b size off j m : Nat} {enc : α → List CA} {js : List Nat} {c : List (List α)} {r : List α} {l : List CA} [ht : TAgg P t m] (hd : dstOK dst C.nt = true) (hx : st.ev x = some (.it (.one (.rel b (hptrR (j + 1) off))))) (hb : st.hp b = .ent (.abs (rowsE tO tI size enc js c))) (hj : c[j]? = some r) (hc : ((r.flatMap enc).drop off).take m = l) (hl : l.length = m)
    (next : Reg P C ops rest (st.app dst ⟨.agg (l.map Atom.c), []⟩) (([b], []) :: acc) K) : Go1 P C ops dst (.load t x) ty rest st acc K :=
  Go1.pureV [(b, .abs (rowsE tO tI size enc js c))] [b] (fun c e' hc => by simp at hc; simp [hc.1]) hd (fun c e' hc => by simp at hc; obtain ⟨rfl, rfl⟩ := hc; exact hb) (fun o ho _ st' E S a w hev hs hrd => by
    obtain ⟨⟨⟨g, n', cap, h1, hv⟩, _⟩, _⟩ := hs.ev ((hev x (by simp [ho, Op.operands])).trans hx)
    have hh : RowsHas tO tI size enc js c (E.sl b) (E.fp b) S w := hs.hp b _ (hrd b _ List.mem_cons_self)
    obtain ⟨vs, hown, hvs⟩ := hh.inn j r hj
    rw [h1] at hown
    have hcell := hown.cells (g := g) rfl
    have hall0 : All2 (CA.has S w) l ((vs.drop off).take m) := by rw [← hc]; exact (hvs.drop off).take m
    obtain ⟨us, hus, hall⟩ : ∃ us, us = (vs.drop off).take m ∧ All2 (CA.has S w) l us := ⟨_, rfl, hall0⟩
    have hlen := hall.length
    have hrun := run_loadCells_list (P := P) w ⟨g, off, none⟩ us (fun j u hj => by
      rw [hus, List.getElem?_take] at hj
      split at hj
      · rw [List.getElem?_drop] at hj
        have := hcell (off + j) u hj
        simpa [Addr.add_lit] using this
      · cases hj)
    have hsz : (P.info? t).map (·.size) = some us.length := by rw [ht.s, ← hlen, hl]
    refine ⟨fun j hj => ?_, .agg us.toArray, ?_, us, rfl, all2_open hall⟩
    · simp only [AV.ids, AV0.ids, List.mem_flatMap] at hj
      obtain ⟨c, hc, hj⟩ := hj
      obtain ⟨c', _, rfl⟩ := List.mem_map.1 hc
      cases hj
    · unfold execOp; rw [ho]
      simp [hv, Instr.loadAt, Instr.sureAddr, loadVar, run_isAgg ht.h, run_sizeOf hsz, hrun]) next
theorem own_store {e : TypeId} {m size n off g n' cap : Nat} {v u : Value} {vs us : List Value} {w : World} (hs : (P.info? t).map (·.size) = some m) (hown : w.ownsRow 0 e size v n vs) (hv : v = .slice (some ⟨g, 0, none⟩) n' cap) (hc : u.cells = us.toArray) (hm : us.length = m) (h1 : ∀ x ∈ us, x.oneCell' = true) (hl : off + m ≤ n * size) :
    ∃ cs : Array Value, (storeVar t ⟨g, off, none⟩ u).run P w = .ok () (w.setRow g cs) ∧ (w.setRow g cs).ownsRow 0 e size v n (spl vs off us) ∧ g < w.heap.size := by
  obtain ⟨hxl, ⟨he, _⟩ | ⟨g2, cap2, cur, he, _, hg, hnc, hcm, hcs, htk⟩⟩ := hown
  · rw [hv] at he; cases he
  rw [hv] at he
  cases he
  subst hv
  have hlen : off + us.length ≤ cur.toList.length := by
    have : n * size ≤ cap * size := Nat.mul_le_mul_right _ hnc
    have hcz : cur.toList.length = cur.size := Array.length_toList
    omega
  have hrun := run_store (P := P) (off := off) (n := m) (cs := cur.toList) (T := e) (g := g) hs hc hm w (by simpa using hg) (by omega) h1
  have hsp := spl_eq cur.toList off us hlen
  have hcz : cur.toList.length = cur.size := Array.length_toList
  refine ⟨_, hrun, ?_, ?_⟩
  · have hvl : vs.length = n * size := hxl
    refine ⟨?_, .inr ⟨g, cap, (spl cur.toList off us).toArray, rfl, Nat.zero_le _, ?_, hnc, hcm, ?_, ?_⟩⟩
    · rw [spl_eq _ _ _ (by omega)]; simp; omega
    · exact setRow_heap w g _ _ _ _ hg
    · rw [hsp]; simp; omega
    · rw [spl_eq vs off us (by omega), hsp, ← htk]
      simp only [List.take_append, List.length_take, List.length_append, List.length_drop, Array.length_toList, List.drop_take, List.take_take]
      have e1 : min (n * size) off = off := by omega
      have e2 : min off cur.size = off := by rw [Array.length_toList] at hlen; omega
      have e3 : min off (n * size) = off := by omega
      rw [e1, e2, e3]
      rw [List.take_of_length_le (l := us) (by omega)]
  · rw [Array.getElem?_eq_some_iff] at hg; exact hg.1
theorem Eff.storeAbs {E : Env} {S : Nat → Prop} {w : World} {b g : Nat} {A A' : AEnt} {cs : Array Value} (hl : ∀ k, S k → k < w.heap.size) (hS : ∀ k, E.fp b k → S k) (hg : E.fp b g) (hA : A'.has (E.blk b) (E.sl b) (E.fp b) S (w.setRow g cs)) :
    Eff E S w [(b, .abs A)] ⟨.v undef, [(b, .ent (.abs A'))]⟩ undef (w.setRow g cs) E S := by
  have ho : Off S w (w.setRow g cs) := Off.setRow w _ _ (hS g hg)
  refine
    { env := fun i hi => ⟨rfl, rfl⟩, fpe := fun _ _ => rfl, sub := fun k hk => hk, new := fun k hk => .inl hk, lt := fun k hk => Nat.lt_of_lt_of_le (hl k hk) ho.size, off := Off.setRow w _ _ ⟨b, _, List.mem_cons_self, hg⟩,
      res := rfl, ents := fun i e' hi => ?_, blk := fun i e' k hi hk => ?_, sep := fun i i' e' e2 k hne h1 h2 => ?_ }
  · simp at hi; obtain ⟨rfl, rfl⟩ := hi
    exact hA
  · simp at hi; obtain ⟨rfl, rfl⟩ := hi
    exact ⟨hS k hk, .inl ⟨i, _, List.mem_cons_self, hk⟩⟩
  · simp at h1 h2; exact absurd (h1.1.trans h2.1.symm) hne
theorem Go1.storeAbs {A A' : AEnt} {b i off m : Nat} {v : AV0} (hs : (P.info? t).map (·.size) = some m) (hx : st.ev x = some (.it (.one (.rel b (hptrR i off))))) (hy : st.ev y = some (.it v)) (hb : st.hp b = .ent (.abs A)) (hn : v.cells.length = m) (h1 : v.cells.all Atom.oneB = true)
    (hA : ∀ (E : Env) S w u us g n cap, A.has (E.blk b) (E.sl b) (E.fp b) S w → All2 (Atom.has E S w) v.cells us → u.cells = us.toArray → us.length = m → (∀ x ∈ us, x.oneCell' = true) → hdrAt (E.sl b) i = .slice (some ⟨g, 0, none⟩) n cap → (∀ k, E.fp b k → S k) →
      ∃ cs : Array Value, (storeVar t ⟨g, off, none⟩ u).run P w = .ok () (w.setRow g cs) ∧ A'.has (E.blk b) (E.sl b) (E.fp b) S (w.setRow g cs) ∧ E.fp b g)
    (next : Reg P C ops rest (st.app none ⟨.v undef, [(b, .ent (.abs A'))]⟩) (([b], [b]) :: acc) K) : Go1 P C ops none (.store t x y) ty rest st acc K := by
  refine ⟨[b], ⟨.v undef, [(b, .ent (.abs A'))]⟩, fun o h2 h3 h4 => OpOK.eff [] [(b, .abs A)] (fun i hi => ?_) (h2 ▸ (fun x hx => by cases hx)) (fun b e hb => by cases hb) (fun i e hi => ?_) (fun i s hi => ?_) (fun i s hi => ?_) (fun st' E S a w hev hhp hse _ hpre => ?_), next⟩
  · rcases hi with ⟨e, hi⟩ | ⟨e, hi⟩ | ⟨s, hi⟩
    · cases hi
    · simp at hi; simp [hi.1]
    · simp at hi; simp [hi.1]
  · simp at hi
    obtain ⟨rfl, rfl⟩ := hi
    exact ⟨hb, _, by simp; rfl⟩
  · simp at hi; obtain ⟨rfl, _⟩ := hi; exact .inl ⟨_, by simp; rfl⟩
  · simp at hi; rw [hi.2]; rfl
  · obtain ⟨⟨⟨g, n', cap', hE1, hv⟩, _⟩, _⟩ := hse.ev ((hev x (by simp [h3, Op.operands])).trans hx)
    obtain ⟨hu, hids⟩ := hse.ev ((hev y (by simp [h3, Op.operands])).trans hy)
    have hb' := hpre b (.abs A) (by simp)
    obtain ⟨us, hc', hallu, hone⟩ := AV0.has.cells hu h1
    have hX : ∀ k, E.fp b k → S k := fun k hk => (hse.blk b _ k hb' hk).1
    obtain ⟨cs, hrun, hA', hg⟩ := hA E S w _ us g n' cap' (hse.hp b _ hb') hallu hc' (by rw [← hallu.length, hn]) hone hE1 hX
    refine ⟨⟨fun i hi => (by cases hi), fun i e hi j hj => ?_⟩, fun K Q hK => ?_⟩
    · simp at hi
      obtain ⟨rfl, rfl⟩ := hi
      cases hj
    · unfold Oper.wp execOp
      rw [h3]
      simp only [show a.eval x = _ from hv, Instr.storeAt, Instr.sureAddr, Sem.run_bind, Sem.run_pure, Result.andThen_ok, hrun]
      exact hK undef _ _ _ (Eff.storeAbs hse.lt hX hg hA')
theorem spl_map {β : Type} (f : Nat → β) : ∀ (l : List Nat) (i j : Nat), i < l.length → spl (l.map f) i [f j] = (l.set i j).map f
  | [], i, j, h => by simp at h
  | x :: l, 0, j, h => by cases l <;> simp [spl]
  | x :: l, i + 1, j, h => by simp only [List.map_cons, spl, List.set_cons_succ]; rw [spl_map f l i j (by simpa using h)]
theorem keep_row {w : World} {e : TypeId} {size n g : Nat} {v : Value} {vs : List Value} {cs : Array Value} (h : w.ownsRow 0 e size v n vs) (hne : v.ownBlock ≠ some g) : (w.setRow g cs).ownsRow 0 e size v n vs :=
  ownsRow_block h fun k hk => setRow_other w g k _ fun e => hne (by rw [hk, e])
theorem Go1.storeH {tO tI : TypeId} {b size off j : Nat} {enc : α → List CA} {js : List Nat} {c : List (List α)} (hs : (P.info? t).map (·.size) = some 1) (hx : st.ev x = some (.it (.one (.rel b (hptrR 0 off))))) (hy : st.ev y = some (.it (.one (hdrA b (j + 1))))) (hb : st.hp b = .ent (.abs (rowsE tO tI size enc js c))) (ho : off < js.length) (hj : j < c.length)
    (next : Reg P C ops rest (st.app none ⟨.v undef, [(b, .ent (.abs (rowsE tO tI size enc (js.set off j) c)))]⟩) (([b], [b]) :: acc) K) : Go1 P C ops none (.store t x y) ty rest st acc K := by
  refine Go1.storeAbs (i := 0) (off := off) (v := .one (hdrA b (j + 1))) hs hx hy hb rfl rfl (fun E S w u us g n cap hh hu hc hm h1 hg hX => ?_) next
  have hh : RowsHas tO tI size enc js c (E.sl b) (E.fp b) S w := hh
  have hus : us = [hdrAt (E.sl b) (j + 1)] := by
    match us, hu with
    | [u'], h => exact congrArg (fun x => [x]) h.1.1
  obtain ⟨cs, hrun, hown, hlt⟩ := own_store (P := P) (t := t) (m := 1) (size := 1) (off := off) hs hh.out hg hc hm h1 (by omega)
  have hgX : E.fp b g := (hh.X g).2 ⟨0, by omega, by rw [hg]; rfl⟩
  have ho' : Off S w (w.setRow g cs) := Off.setRow w _ _ (hX g hgX)
  refine ⟨cs, hrun, ?_, hgX⟩
  show RowsHas tO tI size enc (js.set off j) c (E.sl b) (E.fp b) S (w.setRow g cs)
  refine ⟨?_, fun i hi => ?_, fun i l hi => ?_, hh.sep, hh.X⟩
  · rw [hus, spl_map (fun j => hdrAt (E.sl b) (j + 1)) js off j ho] at hown
    rw [List.length_set]; exact hown
  · rcases List.mem_or_eq_of_mem_set hi with h | h
    · exact hh.lt i h
    · rw [h]; exact hj
  · obtain ⟨vs, g1, g2⟩ := hh.inn i l hi
    have hil : i < c.length := by
      rcases Nat.lt_or_ge i c.length with h | h
      · exact h
      · rw [List.getElem?_eq_none h] at hi; cases hi
    exact ⟨vs, keep_row g1 (hh.sep 0 (i + 1) g (by omega) (by omega) (by omega) (by rw [hg]; rfl)), g2.mono fun a u _ ha => ha.step ho' (fun k hk => .inl hk)⟩
theorem Go1.storeHI {tO tI : TypeId} {b size off j m : Nat} {enc : α → List CA} {js : List Nat} {c : List (List α)} {v : AV0} {r r' : List α} {cells2 : List CA} (hs : (P.info? t).map (·.size) = some m) (hx : st.ev x = some (.it (.one (.rel b (hptrR (j + 1) off))))) (hy : st.ev y = some (.it v)) (hb : st.hp b = .ent (.abs (rowsE tO tI size enc js c)))
    (hn : v.cells.length = m) (h1 : v.cells.all Atom.oneB = true) (hcl : closedL v.cells = some cells2) (hj : c[j]? = some r) (hr : r'.length = r.length) (hl : off + m ≤ r.length * size) (hr' : spl (r.flatMap enc) off cells2 = r'.flatMap enc)
    (next : Reg P C ops rest (st.app none ⟨.v undef, [(b, .ent (.abs (rowsE tO tI size enc js (c.set j r'))))]⟩) (([b], [b]) :: acc) K) : Go1 P C ops none (.store t x y) ty rest st acc K := by
  refine Go1.storeAbs (i := j + 1) (off := off) (v := v) hs hx hy hb hn h1 (fun E S w u us g n cap hh hu hc hm h1 hg hX => ?_) next
  have hh : RowsHas tO tI size enc js c (E.sl b) (E.fp b) S w := hh
  have hjl : j < c.length := by
    rcases Nat.lt_or_ge j c.length with h | h
    · exact h
    · rw [List.getElem?_eq_none h] at hj; cases hj
  obtain ⟨vs, hown0, hvs⟩ := hh.inn j r hj
  obtain ⟨cs, hrun, hown, hlt⟩ := own_store (P := P) (t := t) (m := m) (size := size) (off := off) hs hown0 hg hc hm h1 hl
  have hgX : E.fp b g := (hh.X g).2 ⟨j + 1, by omega, by rw [hg]; rfl⟩
  have ho' : Off S w (w.setRow g cs) := Off.setRow w _ _ (hX g hgX)
  rw [closedL_spec hcl] at hu
  have hu' := all2_closed hu
  refine ⟨cs, hrun, ?_, hgX⟩
  show RowsHas tO tI size enc js (c.set j r') (E.sl b) (E.fp b) S (w.setRow g cs)
  refine ⟨keep_row hh.out (hh.sep (j + 1) 0 g (by omega) (by omega) (by omega) (by rw [hg]; rfl)), fun i hi => by rw [List.length_set]; exact hh.lt i hi, fun i l hi => ?_, by rw [List.length_set]; exact hh.sep, by rw [List.length_set]; exact hh.X⟩
  rw [List.getElem?_set] at hi
  by_cases hij : j = i
  · subst hij
    rw [if_pos rfl, if_pos hjl] at hi
    cases hi
    refine ⟨_, by rw [hr]; exact hown, ?_⟩
    rw [← hr']
    exact All2.spl off (hvs.mono fun a u _ ha => ha.step ho' (fun k hk => .inl hk)) (hu'.mono fun a u _ ha => ha.step ho' (fun k hk => .inl hk))
  · rw [if_neg hij] at hi
    have hil : i < c.length := by
      rcases Nat.lt_or_ge i c.length with h | h
      · exact h
      · rw [List.getElem?_eq_none h] at hi; cases hi
    obtain ⟨vs', g1, g2⟩ := hh.inn i l hi
    exact ⟨vs', keep_row g1 (hh.sep (j + 1) (i + 1) g (by omega) (by omega) (by omega) (by rw [hg]; rfl)), g2.mono fun a u _ ha => ha.step ho' (fun k hk => .inl hk)⟩
end
theorem hdrAt_agg {l : List Value} {j : Nat} : hdrAt (.agg l.toArray) j = l.getD j undef := rfl
theorem own_lt {w : World} {e : TypeId} {size n k : Nat} {v : Value} {vs : List Value} (h : w.ownsRow 0 e size v n vs) (hk : v.ownBlock = some k) : k < w.heap.size := by
  rcases h.2 with ⟨rfl, _⟩ | ⟨g, _, _, rfl, _, hg, _⟩
  · cases hk
  · simp [Value.ownBlock] at hk; subst hk
    rw [Array.getElem?_eq_some_iff] at hg; exact hg.1
theorem Eff.newAbs {E : Env} {S X : Nat → Prop} {w w' : World} {b : Nat} {A : AEnt} {sV v : Value} {R : Nat → Value → Value → Prop} {pre : List (Nat × Ent)} {gones : List (Nat × Slot)}
    (hl : ∀ k, S k → k < w.heap.size) (hS : ∀ c e k, (c, e) ∈ pre → e.at E c k → S k) (hnot : ∀ e, (b, e) ∉ pre) (hg : ∀ c s, (c, s) ∈ gones → s = .gone ∧ ∃ e, (c, e) ∈ pre)
    (ho : Off (fun k => ∃ c e, (c, e) ∈ pre ∧ e.at E c k) w w') (hA : A.has (E.blk b) sV X (fun k => S k ∨ X k) w')
    (hX : ∀ k, X k → (∃ c e, (c, e) ∈ pre ∧ e.at E c k) ∨ w.heap.size ≤ k) (hXl : ∀ k, X k → k < w'.heap.size) (hR : R (E.blk b) sV v) (hone : v.oneCell' = true) :
    Eff E S w pre ⟨.it (.one (.rel b R)), gones ++ [(b, .ent (.abs A))]⟩ v w' ⟨E.blk, upd E.sl b sV, upd E.fp b X⟩ (fun k => S k ∨ X k) := by
  have hSS : ∀ k, (S k ∨ X k) → S k ∨ w.heap.size ≤ k := fun k hk => hk.elim .inl fun hk => (hX k hk).imp (fun ⟨c, e, h1, h2⟩ => hS c e k h1 h2) id
  have hoS : Off S w w' := ho.mono fun k ⟨c, e, h1, h2⟩ => hS c e k h1 h2
  have hent : ∀ i e, (i, Slot.ent e) ∈ gones ++ [(b, Slot.ent (Ent.abs A))] → i = b ∧ e = .abs A := by
    intro i e hi
    rcases List.mem_append.1 hi with hi | hi
    · have := (hg _ _ hi).1; cases this
    · simp at hi; exact hi
  refine
    { env := fun i hi => ?_, fpe := fun i hi => ?_, sub := fun k hk => .inl hk, new := hSS, lt := fun k hk => ?_, off := ho, res := ⟨by show R (E.blk b) (upd E.sl b sV b) v; rw [upd_same]; exact hR, hone⟩,
      ents := fun i e hi => ?_, blk := fun i e k hi hk => ?_, sep := fun i i' e e' k hne h1 h2 => ?_ }
  · by_cases e : i = b
    · subst e
      obtain ⟨e, he⟩ := hi ⟨_, by simp; exact .inr rfl⟩
      exact absurd he (hnot e)
    · exact ⟨rfl, upd_ne _ _ e⟩
  · exact upd_ne _ _ fun e => hi (.ent (.abs A)) (by simp [e])
  · rcases hk with hk | hk
    · exact Nat.lt_of_lt_of_le (hl k hk) ho.size
    · exact hXl k hk
  · obtain ⟨rfl, rfl⟩ := hent i e hi
    show A.has (E.blk i) (upd E.sl i sV i) (upd E.fp i X i) _ w'
    rw [upd_same, upd_same]; exact hA
  · obtain ⟨rfl, rfl⟩ := hent i e hi
    have hk' : upd E.fp i X i k := hk
    rw [upd_same] at hk'
    exact ⟨.inr hk', hX k hk'⟩
  · obtain ⟨rfl, _⟩ := hent _ _ h1
    obtain ⟨rfl, _⟩ := hent _ _ h2
    exact absurd rfl hne
section
variable {α : Type}
structure LitHas (tI : TypeId) (size : Nat) (enc : α → List CA) (l : List α) (v : Value) (X S : Nat → Prop) (w : World) : Prop where
  lit : (sliceR 1 1 [.val (hdrAt v 1)]).has S w (hdrAt v 0)
  row : ∃ vs, w.ownsRow 0 tI size (hdrAt v 1) l.length vs ∧ All2 (CA.has S w) (l.flatMap enc) vs
  X : ∀ k, X k ↔ (hdrAt v 1).ownBlock = some k
def litE (tI : TypeId) (size : Nat) (enc : α → List CA) (l : List α) : AEnt where
  has _ v X S w := LitHas tI size enc l v X S w
  step := fun {b v X S S' w w'} h ho hs hX => by
    obtain ⟨vs, h1, h2⟩ := h.row
    exact ⟨(sliceR 1 1 [.val (hdrAt v 1)]).step h.lit ho hs, ⟨vs, ownsRow_block h1 fun k hk => hX k ((h.X k).2 hk), h2.mono fun a u _ ha => ha.step ho hs⟩, h.X⟩
end
theorem SatE.retm {C : Ctx} {st : St} {E : Env} {S : Nat → Prop} {a : Act} {w : World} (hs : SatE C st E S a w) {t : Nat} {v : AV} (hv : v.has E S w (a.tmps.getD t undef)) (hid : ∀ b ∈ v.ids, (st.hp b).used = true) : SatE C ⟨upd st.tm t (some v), st.hp⟩ E S a w :=
  { dfr := hs.dfr, nt := hs.nt, cT := hs.cT, cT0 := hs.cT0, cS := hs.cS, lt := hs.lt
    tm := fun i u hu => by
      have hu' : upd st.tm t (some v) i = some u := hu
      by_cases h : i = t
      · subst h; rw [upd_same] at hu'; cases hu'; exact hv
      · rw [upd_ne _ _ h] at hu'; exact hs.tm i u hu'
    tid := fun i u hu => by
      have hu' : upd st.tm t (some v) i = some u := hu
      by_cases h : i = t
      · subst h; rw [upd_same] at hu'; cases hu'; exact hid
      · rw [upd_ne _ _ h] at hu'; exact hs.tid i u hu'
    hp := hs.hp, hid := hs.hid, blk := hs.blk, sep := hs.sep, off := hs.off, env := hs.env, gl := hs.gl }
section
variable {P : Program} {C : Ctx} {st : St} {α : Type}
variable {ops rest : List Oper} {acc : List (List Nat × List Nat)} {K : List (List Nat × List Nat) → St → Prop} {dst : Option Tmp} {d : Tmp} {op : Op} {ty t t' : TypeId} {x y z : Operand} {k : IntKind}
theorem Go1.litH {e tI : TypeId} {r b n size bytes : Nat} {z0 : Value} {enc : α → List CA} {l : List α} {cells : List CA} [ht : TSlice P t e 1] [he : TElem P e [z0] bytes] (hd : dstOK (some d) C.nt = true) (hx : st.tm r = some (.own b)) (hb : st.hp b = .ent (.row tI size n cells)) (hf : st.hp d = .free) (hn : n = l.length) (hc : cells = l.flatMap enc)
    (next : Reg P C ops rest (st.app (some d) ⟨.it (.one (hdrA d 0)), [(b, .gone), (d, .ent (.abs (litE tI size enc l)))]⟩) (([b, d], [b, d]) :: acc) K) : Go1 P C ops (some d) (.buildSlice t 1 #[(0, .tmp r)]) ty rest st acc K := by
  subst hn hc
  have hbd : d ≠ b := by rintro rfl; rw [hf] at hb; cases hb
  refine ⟨[b, d], _, fun o h2 h3 h4 => OpOK.eff [] [(b, .row tI size l.length (l.flatMap enc))] (fun c hc => ?_) (h2 ▸ dstOK_spec hd) (fun c e hc => by cases hc) (fun c e hc => ?_) (fun c s hc => ?_) (fun c s hc => ?_) (fun st' E S a w hev hhp hs _ hpre => ?_), next⟩
  · rcases hc with ⟨e, hc⟩ | ⟨e, hc⟩ | ⟨s, hc⟩
    · cases hc
    · simp at hc; simp [hc.1]
    · simp at hc; rcases hc with hc | hc <;> simp [hc.1]
  · simp at hc; obtain ⟨rfl, rfl⟩ := hc; exact ⟨hb, _, List.mem_cons_self⟩
  · simp at hc; rcases hc with ⟨rfl, rfl⟩ | ⟨rfl, rfl⟩
    · exact .inl ⟨_, List.mem_cons_self⟩
    · exact .inr hf
  · simp at hc; rcases hc with ⟨rfl, rfl⟩ | ⟨rfl, rfl⟩ <;> rfl
  · have hx' : st'.tm r = some (.own b) := (hev (.tmp r) (by rw [h3]; simp [Op.operands])).trans hx
    obtain ⟨hxv, h1⟩ : AV.has E S w (.own b) (a.tmps.getD r undef) := hs.tm r _ hx'
    have hbe := hpre b _ List.mem_cons_self
    obtain ⟨vs, hown, hvs⟩ := hs.hp b _ hbe
    have hS : ∀ k, (E.sl b).ownBlock = some k → S k := fun k hk => (hs.blk b _ k hbe hk).1
    have hs2 := hs.retm (t := r) (v := .v (E.sl b)) hxv (fun i hi => by cases hi)
    have hp : evp ⟨upd st'.tm r (some (AV.v (E.sl b))), st'.hp⟩ (#[(0, Operand.tmp r)] : Array (Nat × Operand)).toList = some [(0, .one (.c (.val (E.sl b))))] := by
      show (match upd st'.tm r (some (AV.v (E.sl b))) r, some [] with | some (.it v), some ps => some ((0, v) :: ps) | _, _ => none) = _
      rw [upd_same]
    have hone : (E.sl b).oneCell' = true := own_one hown
    obtain ⟨us, hrun, hlen, hall, hmx⟩ := run_parts (P := P) (t := t) (ht := ht) (he := he) (n := 1) (l := [.c (.val (E.sl b))]) (m := [.val (E.sl b)]) hs2 h3 hp (by simp [AV0.cells, Atom.oneB, hone]) (by decide) (by simp [fillA, placesOf, madeCells, AV0.cells, spl]) rfl rfl
    have hus : us = [E.sl b] := by
      match us, hall with
      | [u], h => rw [show u = E.sl b from h.1]
    subst hus
    have hsz : w.heap.size < (w.alloc (.cells #[E.sl b] e)).heap.size := by simp
    refine ⟨⟨fun i hi => ?_, fun c e hc i hi => ?_⟩, fun K Q hK => ?_⟩
    · simp [AV.ids, AV0.ids, Atom.ids] at hi; subst hi; simp [updL, Slot.used]
    · simp at hc
      obtain ⟨rfl, rfl⟩ := hc
      cases hi
    · unfold Oper.wp
      rw [hrun]
      have ho := Off.alloc (fun k => ∃ c e', (c, e') ∈ [(b, Ent.row tI size l.length (l.flatMap enc))] ∧ e'.at E c k) w (.cells #[E.sl b] e)
      refine hK _ _ _ _ (Eff.newAbs (A := litE tI size enc l) (sV := .agg #[.slice (some ⟨w.heap.size, 0, none⟩) 1 1, E.sl b]) (X := fun k => (E.sl b).ownBlock = some k) (R := hdrR 0) (gones := [(b, .gone)]) hs.lt
        (fun c e' k hc hk => by simp at hc; obtain ⟨rfl, rfl⟩ := hc; exact hS k hk) (fun e' hc => by simp at hc; exact hbd hc.1) (fun c s hc => by simp at hc; obtain ⟨rfl, rfl⟩ := hc; exact ⟨rfl, _, List.mem_cons_self⟩) ho ?_ (fun k hk => .inl ⟨b, _, List.mem_cons_self, hk⟩) (fun k hk => Nat.lt_trans (own_lt hown hk) hsz) rfl rfl)
      have ho' := Off.alloc S w (.cells #[E.sl b] e)
      have hsub : ∀ k, (S k ∨ (E.sl b).ownBlock = some k) → S k ∨ w.heap.size ≤ k := fun k hk => .inl (hk.elim id (hS k))
      refine ⟨?_, ⟨vs, ?_, hvs.mono fun a u _ ha => ha.step ho' hsub⟩, fun k => Iff.rfl⟩
      · refine sliceR_iff.2 ⟨_, _, rfl, Nat.le_refl _, hmx, (fun h => by cases h), rfl, fun i c hc => ?_⟩
        have hi : i = 0 := by
          rcases i with _ | i
          · rfl
          · simp at hc
        subst hi
        cases hc
        refine ⟨w.heap.size, 0, E.sl b, rfl, fun hS2 => absurd (hs.lt _ (hS2.elim id (hS _))) (Nat.lt_irrefl _), ?_, rfl⟩
        exact cells_of_block (cs := [E.sl b]) (heap_alloc_new w (.cells #[E.sl b] e)) 0 0 (E.sl b) rfl
      · exact ownsRow_block hown fun k hk => Below.heap_alloc w _ k (own_lt hown hk)
theorem getD_lt {β : Type} {l m : List β} {j : Nat} {u : β} (h : j < l.length) : (l ++ m).getD j u = l.getD j u := by
  rw [List.getD_eq_getElem?_getD, List.getD_eq_getElem?_getD, List.getElem?_append_left h]
theorem Go1.appendH {tO tI : TypeId} {b b2 bytes size : Nat} {z0 : Value} {enc : α → List CA} {js : List Nat} {c : List (List α)} {l : List α} [ht : TSlice P t tO 1] [he : TElem P tO [z0] bytes] (hd : dstOK (some d) C.nt = true) (hx : st.ev x = some (.it (.one (hdrA b 0)))) (hy : st.ev y = some (.it (.one (hdrA b2 0))))
    (hb : st.hp b = .ent (.abs (rowsE tO tI size enc js c))) (hb2 : st.hp b2 = .ent (.abs (litE tI size enc l))) (hbb : b ≠ b2) (hf : st.hp d = .free) (h63 : js.length + 1 ≤ 9223372036854775807) (hbytes : (js.length + 1) * bytes ≤ 140737488355328)
    (next : Reg P C ops rest (st.app (some d) ⟨.it (.one (hdrA d 0)), [(b, .gone), (b2, .gone), (d, .ent (.abs (rowsE tO tI size enc (js ++ [c.length]) (c ++ [l]))))]⟩) (([b, b2, d], [b, b2, d]) :: acc) K) : Go1 P C ops (some d) (.call ⟨.builtin .append, #[x, y], #[t, t]⟩) ty rest st acc K := by
  have hbd : d ≠ b := by rintro rfl; rw [hf] at hb; cases hb
  have hbd2 : d ≠ b2 := by rintro rfl; rw [hf] at hb2; cases hb2
  refine ⟨[b, b2, d], _, fun o h2 h3 h4 => OpOK.eff [] [(b, .abs (rowsE tO tI size enc js c)), (b2, .abs (litE tI size enc l))] (fun i hi => ?_) (h2 ▸ dstOK_spec hd) (fun c e hc => by cases hc) (fun i e hi => ?_) (fun i s hi => ?_) (fun i s hi => ?_) (fun st' E S a w hev hhp hs _ hpre => ?_), next⟩
  · rcases hi with ⟨e, hi⟩ | ⟨e, hi⟩ | ⟨s, hi⟩
    · cases hi
    · simp at hi; rcases hi with hi | hi <;> simp [hi.1]
    · simp at hi; rcases hi with hi | hi | hi <;> simp [hi.1]
  · simp at hi; rcases hi with ⟨rfl, rfl⟩ | ⟨rfl, rfl⟩
    · exact ⟨hb, .gone, by simp⟩
    · exact ⟨hb2, .gone, by simp⟩
  · simp at hi; rcases hi with ⟨rfl, rfl⟩ | ⟨rfl, rfl⟩ | ⟨rfl, rfl⟩
    · exact .inl ⟨_, List.mem_cons_self⟩
    · exact .inl ⟨_, List.mem_cons_of_mem _ List.mem_cons_self⟩
    · exact .inr hf
  · simp at hi; rcases hi with ⟨rfl, rfl⟩ | ⟨rfl, rfl⟩ | ⟨rfl, rfl⟩ <;> rfl
  · obtain ⟨⟨hxv, _⟩, _⟩ := hs.ev ((hev x (by simp [h3, Op.operands, Call.operands])).trans hx)
    obtain ⟨⟨hyv, _⟩, _⟩ := hs.ev ((hev y (by simp [h3, Op.operands, Call.operands])).trans hy)
    have hxv : a.eval x = hdrAt (E.sl b) 0 := hxv
    have hyv : a.eval y = hdrAt (E.sl b2) 0 := hyv
    have hbe := hpre b (.abs (rowsE tO tI size enc js c)) (by simp)
    have hbe2 := hpre b2 (.abs (litE tI size enc l)) (by simp)
    have hR : RowsHas tO tI size enc js c (E.sl b) (E.fp b) S w := hs.hp b _ hbe
    have hL : LitHas tI size enc l (E.sl b2) (E.fp b2) S w := hs.hp b2 _ hbe2
    have hsep : ∀ k, E.fp b k → ¬ E.fp b2 k := fun k hk => hs.sep b b2 _ _ k hbb hbe hbe2 hk
    have hS : ∀ k, E.fp b k → S k := fun k hk => (hs.blk b _ k hbe hk).1
    have hS2 : ∀ k, E.fp b2 k → S k := fun k hk => (hs.blk b2 _ k hbe2 hk).1
    obtain ⟨lvs, hlown, hlvs⟩ := hL.row
    obtain ⟨v', w', news, h5, h6, h7, h8, h9⟩ := run_append_any (P := P) w t o.type tO [z0] 1 bytes ht.h he ht.s rfl (hdrAt (E.sl b) 0) js.length _ hR.out (u := hdrAt (E.sl b2) 0) hL.lit (by simp [CA.oneB, own_one hlown]) (by simp only [maxLen]; omega) hbytes
    have hnews : news = [hdrAt (E.sl b2) 1] := by
      match news, h9 with
      | [u], h => rw [show u = hdrAt (E.sl b2) 1 from h.1]
    subst hnews
    refine ⟨⟨fun i hi => ?_, fun c e hc i hi => ?_⟩, fun K Q hK => ?_⟩
    · simp [AV.ids, AV0.ids, Atom.ids] at hi; subst hi; simp [updL, Slot.used]
    · simp at hc
      obtain ⟨rfl, rfl⟩ := hc
      cases hi
    · have hfp0 : ∀ i k, i < c.length + 1 → (hdrAt (E.sl b) i).ownBlock = some k → E.fp b k := fun i k hi hk => (hR.X k).2 ⟨i, hi, hk⟩
      have hfpL : ∀ k, (hdrAt (E.sl b2) 1).ownBlock = some k → E.fp b2 k := fun k hk => (hL.X k).2 hk
      have hltI : ∀ j k, j < c.length → (hdrAt (E.sl b) (j + 1)).ownBlock = some k → k < w.heap.size := fun j k hj hk => by
        obtain ⟨vs, g1, _⟩ := hR.inn j _ (List.getElem?_eq_getElem hj)
        exact own_lt g1 hk
      generalize hsV : (Value.agg (v' :: ((List.range c.length).map (fun j => hdrAt (E.sl b) (j + 1)) ++ [hdrAt (E.sl b2) 1])).toArray) = sV
      have e0 : hdrAt sV 0 = v' := by rw [← hsV]; rfl
      have e1 : ∀ j, j < c.length → hdrAt sV (j + 1) = hdrAt (E.sl b) (j + 1) := by
        intro j hj
        rw [← hsV, hdrAt_agg, List.getD_cons_succ, getD_lt (by simpa using hj), List.getD_eq_getElem?_getD, List.getElem?_map, List.getElem?_range hj]; rfl
      have e2 : hdrAt sV (c.length + 1) = hdrAt (E.sl b2) 1 := by
        rw [← hsV, hdrAt_agg, List.getD_cons_succ, List.getD_eq_getElem?_getD, List.getElem?_append_right (by simp)]; simp
      have hstay : ∀ {e : TypeId} {size n : Nat} {u : Value} {vs : List Value}, w.ownsRow 0 e size u n vs → (∀ k, u.ownBlock = some k → (hdrAt (E.sl b) 0).ownBlock ≠ some k) → w'.ownsRow 0 e size u n vs := fun hu hne =>
        ownsRow_block hu fun k hk => h7.block k (own_lt hu hk) (fun e => hne k hk e.symm)
      have hneI : ∀ j k, j < c.length → (hdrAt (E.sl b) (j + 1)).ownBlock = some k → (hdrAt (E.sl b) 0).ownBlock ≠ some k := fun j k hj hk => hR.sep (j + 1) 0 k (by omega) (by omega) (by omega) hk
      have hneL : ∀ k, (hdrAt (E.sl b2) 1).ownBlock = some k → (hdrAt (E.sl b) 0).ownBlock ≠ some k := fun k hk h0 => hsep k (hfp0 0 k (by omega) h0) (hfpL k hk)
      have ho : Off (fun k => ∃ i e, (i, e) ∈ [(b, Ent.abs (rowsE tO tI size enc js c)), (b2, Ent.abs (litE tI size enc l))] ∧ e.at E i k) w w' := off_grown h7 (fun k hk => ⟨b, _, List.mem_cons_self, hfp0 0 k (by omega) hk⟩)
      have hoS : Off S w w' := off_grown h7 (fun k hk => hS k (hfp0 0 k (by omega) hk))
      have hXin : ∀ i k, i < c.length + 2 → (hdrAt sV i).ownBlock = some k → E.fp b k ∨ E.fp b2 k ∨ w.heap.size ≤ k := by
        intro i k hi hk
        rcases i with _ | i
        · rw [e0] at hk
          rcases h8 k hk with h | h
          · exact .inl (hfp0 0 k (by omega) h)
          · exact .inr (.inr h)
        · by_cases hic : i < c.length
          · rw [e1 i hic] at hk; exact .inl (hfp0 (i + 1) k (by omega) hk)
          · have : i = c.length := by omega
            subst this
            rw [e2] at hk; exact .inr (.inl (hfpL k hk))
      have hXS : ∀ k, (∃ i, i < c.length + 2 ∧ (hdrAt sV i).ownBlock = some k) → S k ∨ w.heap.size ≤ k := fun k ⟨i, hi, hk⟩ => (hXin i k hi hk).elim (fun h => .inl (hS k h)) (fun h => h.imp (hS2 k) id)
      have hin : ∀ j r, (c ++ [l])[j]? = some r → ∃ vs, w'.ownsRow 0 tI size (hdrAt sV (j + 1)) r.length vs ∧ All2 (CA.has (fun k => S k ∨ ∃ i, i < c.length + 2 ∧ (hdrAt sV i).ownBlock = some k) w') (r.flatMap enc) vs := by
        intro j r hj
        have hsub : ∀ k, (S k ∨ ∃ i, i < c.length + 2 ∧ (hdrAt sV i).ownBlock = some k) → S k ∨ w.heap.size ≤ k := fun k hk => hk.elim .inl (hXS k)
        by_cases hjc : j < c.length
        · rw [List.getElem?_append_left hjc] at hj
          obtain ⟨vs, g1, g2⟩ := hR.inn j r hj
          rw [e1 j hjc]
          exact ⟨vs, hstay g1 (fun k hk => hneI j k hjc hk), g2.mono fun a u _ ha => ha.step hoS hsub⟩
        · have hlt : j < (c ++ [l]).length := by
            rcases Nat.lt_or_ge j (c ++ [l]).length with h | h
            · exact h
            · rw [List.getElem?_eq_none h] at hj; cases hj
          have hjc' : j = c.length := by rw [List.length_append, List.length_singleton] at hlt; omega
          subst hjc'
          rw [List.getElem?_append_right (Nat.le_refl _), Nat.sub_self] at hj
          cases hj
          rw [e2]
          exact ⟨lvs, hstay hlown hneL, hlvs.mono fun a u _ ha => ha.step hoS hsub⟩
      have hltX : ∀ i k, i < c.length + 2 → (hdrAt sV i).ownBlock = some k → k < w'.heap.size := by
        intro i k hi hk
        rcases i with _ | i
        · rw [e0] at hk; exact own_lt h6 hk
        · obtain ⟨vs, g1, _⟩ := hin i ((c ++ [l])[i]'(by simp; omega)) (List.getElem?_eq_getElem (by simp; omega))
          exact own_lt g1 hk
      unfold Oper.wp
      have hrun : (execOp a.eval o).run P w = .ok (.value v') w' := by
        unfold execOp; rw [h3]
        simp [resolve, invoke, builtin, hxv, hyv, h5]
      rw [hrun]
      refine hK _ _ _ _ (Eff.newAbs (A := rowsE tO tI size enc (js ++ [c.length]) (c ++ [l])) (sV := sV) (X := fun k => ∃ i, i < c.length + 2 ∧ (hdrAt sV i).ownBlock = some k) (R := hdrR 0) (gones := [(b, .gone), (b2, .gone)]) hs.lt
        (fun i e k hi hk => ?_) (fun e hi => ?_) (fun i s hi => ?_) ho ?_ (fun k ⟨i, hi, hk⟩ => ?_) (fun k ⟨i, hi, hk⟩ => hltX i k hi hk) e0.symm (own_one h6))
      · simp at hi; rcases hi with ⟨rfl, rfl⟩ | ⟨rfl, rfl⟩
        · exact hS k hk
        · exact hS2 k hk
      · simp at hi; rcases hi with ⟨h, _⟩ | ⟨h, _⟩
        · exact hbd h
        · exact hbd2 h
      · simp at hi; rcases hi with ⟨rfl, rfl⟩ | ⟨rfl, rfl⟩
        · exact ⟨rfl, _, List.mem_cons_self⟩
        · exact ⟨rfl, _, List.mem_cons_of_mem _ List.mem_cons_self⟩
      · refine ⟨?_, fun j hj => ?_, hin, fun i j k hi hj hij h1 h2 => ?_, fun k => by rw [List.length_append, List.length_singleton]⟩
        · rw [e0, List.length_append, List.length_singleton, List.map_append]
          have hm : js.map (fun j => hdrAt sV (j + 1)) = js.map fun j => hdrAt (E.sl b) (j + 1) := List.map_congr_left fun j hj => e1 j (hR.lt j hj)
          rw [hm]
          simpa [e2] using h6
        · rw [List.length_append, List.length_singleton]
          rcases List.mem_append.1 hj with h | h
          · exact Nat.lt_succ_of_lt (hR.lt j h)
          · simp at h; omega
        · rw [List.length_append, List.length_singleton] at hi hj
          have key : ∀ i j, i < c.length + 2 → j < c.length + 2 → i < j → (hdrAt sV i).ownBlock = some k → (hdrAt sV j).ownBlock = some k → False := by
            intro i j hi hj hlt h1 h2
            rcases j with _ | j
            · omega
            have hkl : k < w.heap.size := by
              by_cases hjc : j < c.length
              · rw [e1 j hjc] at h2; exact hltI j k hjc h2
              · have : j = c.length := by omega
                subst this
                rw [e2] at h2; exact own_lt hlown h2
            have g1 : i < c.length + 1 ∧ (hdrAt (E.sl b) i).ownBlock = some k := by
              rcases i with _ | i
              · rw [e0] at h1
                rcases h8 k h1 with h | h
                · exact ⟨by omega, h⟩
                · omega
              · rw [e1 i (by omega)] at h1; exact ⟨by omega, h1⟩
            by_cases hjc : j < c.length
            · rw [e1 j hjc] at h2
              exact hR.sep i (j + 1) k g1.1 (by omega) (by omega) g1.2 h2
            · have : j = c.length := by omega
              subst this
              rw [e2] at h2
              exact hsep k (hfp0 i k g1.1 g1.2) (hfpL k h2)
          rcases Nat.lt_or_gt_of_ne hij with h | h
          · exact key i j (by omega) (by omega) h h1 h2
          · exact key j i (by omega) (by omega) h h2 h1
      · rcases hXin i k hi hk with h | h | h
        · exact .inl ⟨b, _, List.mem_cons_self, h⟩
        · exact .inl ⟨b2, _, List.mem_cons_of_mem _ List.mem_cons_self, h⟩
        · exact .inr h
end
end SX

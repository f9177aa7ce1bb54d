import Derived.Test.YtmfadfkjnfdngaaGreatDoorM8
import Derived.Lib.Builder
import Derived.Lib.AppendStr
import Derived.Lib.UnsafeStr
set_option linter.unusedVariables false
set_option linter.unusedSimpArgs false
namespace SX
open Go Go.RowKit
section
variable {ι : Type}
structure BunHas (φ : ι → Prop) (t : TypeId) (cells : ι → List Atom) (R : ι → List (Nat × Ent)) (bk : Nat) (X S : Nat → Prop) (w : World) (p : ι) (E : Env) : Prop where
  φ : φ p
  box : ∃ cs : List Value, w.heap[bk]? = some (.cells cs.toArray t (0, 0)) ∧ All2 (Atom.has E S w) (cells p) cs
  ents : ∀ i e, (i, e) ∈ R p → e.has E S w i
  sep : ∀ i i' e e' k, i ≠ i' → (i, e) ∈ R p → (i', e') ∈ R p → e.at E i k → ¬ e'.at E i' k
  sepb : ∀ i e, (i, e) ∈ R p → ¬ e.at E i bk
  X : ∀ k, X k ↔ k = bk ∨ ∃ i e, (i, e) ∈ R p ∧ e.at E i k
def bunE (b : Nat) (φ : ι → Prop) (t : TypeId) (cells : ι → List Atom) (R : ι → List (Nat × Ent)) : AEnt where
  has bk v X S w := ∃ p E, (E.blk b = bk ∧ E.sl b = v) ∧ BunHas φ t cells R bk X S w p E
  step := fun {bk v X S S' w w'} ⟨p, E, hself, h⟩ ho hs hX => by
    refine ⟨p, E, hself, h.φ, ?_, fun i e hi => ?_, h.sep, h.sepb, h.X⟩
    · obtain ⟨cs, h1, h2⟩ := h.box
      exact ⟨cs, by rw [hX bk ((h.X bk).2 (.inl rfl))]; exact h1, h2.mono fun a u _ ha => ha.step (fun _ _ => ⟨rfl, rfl⟩) ho hs⟩
    · exact (h.ents i e hi).step (fun _ _ => ⟨rfl, rfl⟩) ⟨rfl, rfl⟩ ho hs (fun k hk => hX k ((h.X k).2 (.inr ⟨i, e, hi, hk⟩))) rfl
def openSt (st : St) (b : Nat) (t : TypeId) (cells : List Atom) (R : List (Nat × Ent)) : St := ⟨st.tm, updL st.hp ((b, .ent (.box t cells)) :: R.map fun q => (q.1, .ent q.2))⟩
theorem mem_open {b c : Nat} {t : TypeId} {cells : List Atom} {R : List (Nat × Ent)} {e : Ent} (h : (c, Slot.ent e) ∈ ((b, Slot.ent (.box t cells)) :: R.map fun q => (q.1, Slot.ent q.2))) : (c = b ∧ e = .box t cells) ∨ (c, e) ∈ R := by
  rcases List.mem_cons.1 h with h | h
  · cases h; exact .inl ⟨rfl, rfl⟩
  · obtain ⟨q, hq, he⟩ := List.mem_map.1 h
    cases he; exact .inr hq
theorem Sat.openB {C : Ctx} {st : St} {a : Act} {w : World} {b : Nat} {φ : ι → Prop} {t : TypeId} {cells : ι → List Atom} {R : ι → List (Nat × Ent)} (ns : List Nat) (h : Sat C st a w) (hb : st.hp b = .ent (.abs (bunE b φ t cells R))) (hns : ∀ p, (R p).map (·.1) = ns) (hfree : ∀ i ∈ ns, st.hp i = .free) (hfix : ∀ i ∈ ns, C.fix i = false)
    (hid : ∀ p, ∀ i ∈ (cells p).flatMap Atom.ids, i ∈ ns ∨ i = b) (hRid : ∀ p i e, (i, e) ∈ R p → e.ids = []) : ∃ p, φ p ∧ Sat C (openSt st b t (cells p) (R p)) a w := by
  obtain ⟨E, S, hs⟩ := h
  obtain ⟨p, Ep, ⟨hself1, hself2⟩, hB⟩ : ∃ (p : ι) (Ep : Env), (Ep.blk b = E.blk b ∧ Ep.sl b = E.sl b) ∧ BunHas φ t cells R (E.blk b) (E.fp b) S w p Ep := hs.hp b _ hb
  refine ⟨p, hB.φ, ?_⟩
  generalize hcp : cells p = cs0 at *
  have hnsR : ∀ i e, (i, e) ∈ R p → i ∈ ns := fun i e hi => by rw [← hns p]; exact List.mem_map.2 ⟨_, hi, rfl⟩
  have hun : ∀ i, (st.hp i).used = true → i ∉ ns := fun i hi hin => by rw [hfree i hin] at hi; cases hi
  have hbn : b ∉ ns := hun b (by rw [hb]; rfl)
  let E' : Env := ⟨fun i => if i ∈ ns then Ep.blk i else E.blk i, fun i => if i ∈ ns then Ep.sl i else E.sl i, fun i => if i ∈ ns then Ep.fp i else E.fp i⟩
  have at1 : ∀ i, i ∉ ns → E.at' E' i := fun i hi => ⟨if_neg hi, if_neg hi⟩
  have fp1 : ∀ i, i ∉ ns → E'.fp i = E.fp i := fun i hi => if_neg hi
  have at2 : ∀ i, i ∈ ns → Ep.at' E' i := fun i hi => ⟨if_pos hi, if_pos hi⟩
  have fp2 : ∀ i, i ∈ ns → E'.fp i = Ep.fp i := fun i hi => if_pos hi
  have at3 : ∀ i, i ∈ ns ∨ i = b → Ep.at' E' i := fun i hi => by
    rcases hi with hi | rfl
    · exact at2 i hi
    · exact ⟨(at1 i hbn).1.trans hself1.symm, (at1 i hbn).2.trans hself2.symm⟩
  have hids : ∀ i ∈ cs0.flatMap Atom.ids, i ∈ ns ∨ i = b := fun i hi => hid p i (by rw [hcp]; exact hi)
  have hbox := hB.box
  rw [hcp] at hbox
  have hused : ∀ i, ((st.hp i).used = true ∨ i ∈ ns) → ((openSt st b t cs0 (R p)).hp i).used = true := by
    intro i hi
    show (updL st.hp _ i).used = true
    rcases updL_cases i ((b, .ent (.box t cs0)) :: (R p).map fun q => (q.1, .ent q.2)) st.hp with ⟨s, g1, g2⟩ | ⟨g1, g2⟩
    · rw [g2]
      rcases List.mem_cons.1 g1 with h | h
      · cases h; rfl
      · obtain ⟨q, _, he⟩ := List.mem_map.1 h; cases he; rfl
    · rw [g2]
      rcases hi with hi | hi
      · exact hi
      · rw [← hns p] at hi
        obtain ⟨q, hq, rfl⟩ := List.mem_map.1 hi
        exact absurd (List.mem_cons_of_mem _ (List.mem_map.2 ⟨q, hq, rfl⟩)) (g1 _)
  have hcase : ∀ c e, (openSt st b t cs0 (R p)).hp c = .ent e → ((c = b ∧ e = .box t cs0) ∨ (c, e) ∈ R p) ∨ (c ≠ b ∧ c ∉ ns ∧ st.hp c = .ent e) := by
    intro c e hc
    rcases updL_cases c ((b, .ent (.box t cs0)) :: (R p).map fun q => (q.1, .ent q.2)) st.hp with ⟨s, g1, g2⟩ | ⟨g1, g2⟩
    · have : s = .ent e := g2.symm.trans hc
      subst this
      exact .inl (mem_open g1)
    · have h3 : st.hp c = .ent e := g2.symm.trans hc
      refine .inr ⟨?_, hun c (by rw [h3]; rfl), h3⟩
      rintro rfl
      exact g1 _ List.mem_cons_self
  have hX : ∀ (c : Nat) (e : Ent) (k : Nat), ((c = b ∧ e = .box t cs0) ∨ (c, e) ∈ R p) → e.at E' c k → E.fp b k := by
    intro c e k hc hk
    rcases hc with ⟨rfl, rfl⟩ | hc
    · have hk' : some (E'.blk c) = some k := hk
      rw [(at1 c hbn).1] at hk'
      exact (hB.X k).2 (.inl (Option.some.inj hk').symm)
    · rw [Ent.at_congr (at2 c (hnsR c e hc)) (fp2 c (hnsR c e hc))] at hk
      exact (hB.X k).2 (.inr ⟨c, e, hc, hk⟩)
  have hother : ∀ (c : Nat) (e : Ent) (k : Nat), c ∉ ns → e.at E' c k → e.at E c k := fun c e k hc hk => by rw [Ent.at_congr (at1 c hc) (fp1 c hc)] at hk; exact hk
  refine ⟨E', S, { dfr := hs.dfr, nt := hs.nt, cT := hs.cT, cT0 := hs.cT0, cS := hs.cS, lt := hs.lt, tm := fun i v hv => ?_, tid := fun i v hv j hj => hused j (.inl (hs.tid i v hv j hj)), hp := fun c e hc => ?_, hid := fun c e hc i hi => ?_, blk := fun c e k hc hk => ?_, sep := fun c c' e e' k hne hc hc' hk hk' => ?_, off := hs.off, env := fun c hc => ?_, gl := hs.gl }⟩
  · exact (hs.tm i v hv).step (fun j hj => at1 j (hun j (hs.tid i v hv j hj))) (Off.refl S w) (fun k hk => .inl hk)
  · rcases hcase c e hc with (⟨rfl, rfl⟩ | hR) | ⟨_, hcn, h3⟩
    · obtain ⟨cs, h1, h2⟩ := hbox
      refine ⟨cs, by rw [(at1 c hbn).1]; exact h1, h2.mono fun x u hx ha => ha.step (fun j hj => at3 j (hids j (List.mem_flatMap.2 ⟨x, hx, hj⟩))) (Off.refl S w) (fun k hk => .inl hk)⟩
    · have hin := hnsR c e hR
      exact (hB.ents c e hR).step (fun j hj => by rw [hRid p c e hR] at hj; cases hj) (at2 c hin) (Off.refl S w) (fun k hk => .inl hk) (fun _ _ => rfl) (fp2 c hin)
    · exact (hs.hp c e h3).step (fun j hj => at1 j (hun j (hs.hid c e h3 j hj))) (at1 c hcn) (Off.refl S w) (fun k hk => .inl hk) (fun _ _ => rfl) (fp1 c hcn)
  · rcases hcase c e hc with (⟨rfl, rfl⟩ | hR) | ⟨_, hcn, h3⟩
    · rcases hids i hi with h | rfl
      · exact hused i (.inr h)
      · exact hused i (.inl (by rw [hb]; rfl))
    · rw [hRid p c e hR] at hi; cases hi
    · exact hused i (.inl (hs.hid c e h3 i hi))
  · rcases hcase c e hc with hL | ⟨_, hcn, h3⟩
    · exact hs.blk b _ k hb (hX c e k hL hk)
    · exact hs.blk c e k h3 (hother c e k hcn hk)
  · rcases hcase c e hc with hL | ⟨hcb, hcn, h3⟩
    · rcases hcase c' e' hc' with hL' | ⟨hcb', hcn', h3'⟩
      · rcases hL with ⟨rfl, rfl⟩ | hR
        · rcases hL' with ⟨rfl, _⟩ | hR'
          · exact hne rfl
          · have hk1 : some (E'.blk c) = some k := hk
            rw [(at1 c hbn).1] at hk1
            cases hk1
            rw [Ent.at_congr (at2 c' (hnsR c' e' hR')) (fp2 c' (hnsR c' e' hR'))] at hk'
            exact hB.sepb c' e' hR' hk'
        · rw [Ent.at_congr (at2 c (hnsR c e hR)) (fp2 c (hnsR c e hR))] at hk
          rcases hL' with ⟨rfl, rfl⟩ | hR'
          · have hk1 : some (E'.blk c') = some k := hk'
            rw [(at1 c' hbn).1] at hk1
            cases hk1
            exact hB.sepb c e hR hk
          · rw [Ent.at_congr (at2 c' (hnsR c' e' hR')) (fp2 c' (hnsR c' e' hR'))] at hk'
            exact hB.sep c c' e e' k hne hR hR' hk hk'
      · exact hs.sep b c' _ e' k (fun e => hcb' e.symm) hb h3' (hX c e k hL hk) (hother c' e' k hcn' hk')
    · rcases hcase c' e' hc' with hL' | ⟨hcb', hcn', h3'⟩
      · exact hs.sep c b e _ k hcb h3 hb (hother c e k hcn hk) (hX c' e' k hL' hk')
      · exact hs.sep c c' e e' k hne h3 h3' (hother c e k hcn hk) (hother c' e' k hcn' hk')
  · obtain ⟨g1, g2, g3⟩ := hs.env c hc
    have hcn : c ∉ ns := fun h => by rw [hfix c h] at hc; cases hc
    exact ⟨(at1 c hcn).1.trans g1, (at1 c hcn).2.trans g2, hused c (.inl g3)⟩
end
def AtomTo (ρ : List (Nat × Option Nat)) (x y : Atom) : Prop := ∀ E S w v, x.has E S w v → y.has (reEnv ρ E) S w v
def AtomsTo (ρ : List (Nat × Option Nat)) : List Atom → List Atom → Prop
  | [], [] => True
  | a :: l, b :: m => AtomTo ρ a b ∧ AtomsTo ρ l m
  | _, _ => False
theorem AtomTo.same {ρ : List (Nat × Option Nat)} {x : Atom} (h : fresh ρ x.ids = true) : AtomTo ρ x x := fun E S w v hv => hv.env (fresh_at h E)
theorem AtomTo.own {ρ : List (Nat × Option Nat)} {o b : Nat} (h : lk ρ b = some (some o)) : AtomTo ρ (.own o) (.own b) := fun E S w v hv => by
  obtain ⟨h1, h2⟩ := hv
  exact ⟨by simp only [reEnv, h]; exact h1, h2⟩
theorem AtomTo.nil {ρ : List (Nat × Option Nat)} {b : Nat} (h : lk ρ b = some none) : AtomTo ρ (.c (.val (.slice none 0 0))) (.own b) := fun E S w v hv => by
  have hv' : v = .slice none 0 0 := hv
  subst hv'
  exact ⟨by simp only [reEnv, h], rfl⟩
theorem AtomTo.int {ρ : List (Nat × Option Nat)} {k : IntKind} {z z' : Int} (e : z = z') : AtomTo ρ (.c (.val (.int k z))) (.c (.val (.int k z'))) := by subst e; exact AtomTo.same rfl
theorem AtomsTo.all {ρ : List (Nat × Option Nat)} {E : Env} {S : Nat → Prop} {w : World} : ∀ {l m : List Atom} {vs : List Value}, AtomsTo ρ l m → All2 (Atom.has E S w) l vs → All2 (Atom.has (reEnv ρ E) S w) m vs
  | [], [], [], _, _ => trivial
  | a :: l, b :: m, v :: vs, h, k => ⟨h.1 E S w v k.1, h.2.all k.2⟩
  | [], [], _ :: _, _, k => k.elim
  | _ :: _, _ :: _, [], _, k => k.elim
  | [], _ :: _, _, h, _ => h.elim
  | _ :: _, [], _, h, _ => h.elim
theorem EntTo.boxTo {st : St} {ρ : List (Nat × Option Nat)} {b : Nat} {t : TypeId} {cells0 cells : List Atom} (h : st.hp b = .ent (.box t cells0)) (hf : fresh ρ [b] = true) (hi : AtomsTo ρ cells0 cells) : EntTo st ρ b (.box t cells) := by
  have ha := fresh_at hf
  refine .old b _ h (.inr ⟨?_, rfl⟩) (fun E S w hh => ?_) (fun E => by funext k; simp only [Ent.at, (ha E b List.mem_cons_self).1])
  · have := List.all_eq_true.1 hf b List.mem_cons_self
    simpa using this
  · obtain ⟨cs, h1, h2⟩ := hh
    exact ⟨cs, by rw [(ha E b List.mem_cons_self).1]; exact h1, hi.all h2⟩
theorem EntTo.nilRows {α : Type} {st : St} {ρ : List (Nat × Option Nat)} {b : Nat} {tO tI : TypeId} {size : Nat} {enc : α → List CA} (hb : lk ρ b = some none) : EntTo st ρ b (.abs (rowsE tO tI size enc [] [])) := by
  have e0 : hdrAt (.slice none 0 0) 0 = .slice none 0 0 := rfl
  refine .nil hb (fun E S w => ?_) (fun E k => ?_)
  · show RowsHas tO tI size enc [] [] ((reEnv ρ E).sl b) ((reEnv ρ E).fp b) S w
    simp only [reEnv, hb]
    refine ⟨World.ownsRow_nil .., (fun j hj => by cases hj), (fun j l hj => by simp at hj), fun i j k hi hj hij h => ?_, fun k => ⟨fun h => h.elim, fun ⟨i, hi, h⟩ => ?_⟩⟩
    · have h0 : i = 0 := by simpa using hi
      subst h0; rw [e0] at h; cases h
    · have h0 : i = 0 := by simpa using hi
      subst h0; rw [e0] at h; cases h
  · simp only [Ent.at, reEnv, hb]; intro h; cases h
structure Hide (p : Prop) : Prop where
  out : p
def closeSt (st : St) (b : Nat) (A : AEnt) (os : List Nat) : St := ⟨st.tm, updL st.hp ((b, .ent (.abs A)) :: os.map fun o => (o, .gone))⟩
theorem St.le_close {ι : Type} {C : Ctx} {st : St} {b : Nat} {φ : ι → Prop} {t : TypeId} {cells : ι → List Atom} {R : ι → List (Nat × Ent)} {cells0 : List Atom} (p : ι) (ρ : List (Nat × Option Nat)) (os : List Nat) (hφ : φ p) (hb : st.hp b = .ent (.box t cells0)) (hc : AtomsTo ρ cells0 (cells p)) (hR : HpTo st ρ (R p))
    (hos : ((R p).all fun q => match SX.src ρ q.1 with | some o => memB os o | none => true) = true) (hbo : memB os b = false) (hdi : ((R p).all fun q => (R p).all fun q' => Nat.beq q.1 q'.1 || !(eqO (SX.src ρ q.1) (SX.src ρ q'.1))) = true) (hfb : lk ρ b = none := by rfl) : St.le C st (closeSt st b (bunE b φ t cells R) os) := by
  intro a w ⟨E, S, hs⟩
  let X : Nat → Prop := fun k => k = E.blk b ∨ ∃ i e, (i, e) ∈ R p ∧ Ent.at e (reEnv ρ E) i k
  have hbox : Ent.has E S w b (.box t cells0) := hs.hp b _ hb
  have hsrc : ∀ i e k, (i, e) ∈ R p → e.at (reEnv ρ E) i k → ∃ o e0, SX.src ρ i = some o ∧ o ∈ os ∧ st.hp o = .ent e0 ∧ e0.at E o k := by
    intro i e k hi hk
    rcases (hR.mem i e hi).src with ⟨o, e0, so, ho, hk0⟩ | hk0
    · have := List.all_eq_true.1 hos _ hi
      simp only [so] at this
      rw [hk0] at hk
      exact ⟨o, e0, so, memB_iff.1 this, ho, hk⟩
    · exact absurd hk (hk0 E k)
  have hbn : b ∉ os := fun h => by rw [memB_iff.2 h] at hbo; cases hbo
  have hB : BunHas φ t cells R (E.blk b) X S w p (reEnv ρ E) := by
    refine ⟨hφ, ?_, fun i e hi => ?_, fun i i' e e' k hne hi hi' hk hk' => ?_, fun i e hi hk => ?_, fun k => Iff.rfl⟩
    · obtain ⟨cs, h1, h2⟩ := hbox
      exact ⟨cs, h1, hc.all h2⟩
    · cases hR.mem i e hi with
      | old o e0 ho _ hh hk => exact hh _ _ _ (hs.hp o e0 ho)
      | nil _ hh _ => exact hh _ _ _
    · obtain ⟨o, e0, so, _, ho, g1⟩ := hsrc i e k hi hk
      obtain ⟨o', e0', so', _, ho', g1'⟩ := hsrc i' e' k hi' hk'
      have := List.all_eq_true.1 (List.all_eq_true.1 hdi _ hi) _ hi'
      rw [so, so'] at this
      have hno : o ≠ o' := by
        intro e
        subst e
        simp [eqO, hne] at this
      exact hs.sep o o' e0 e0' k hno ho ho' g1 g1'
    · obtain ⟨o, e0, so, hoo, ho, g1⟩ := hsrc i e _ hi hk
      exact hs.sep o b e0 _ _ (fun h => hbn (h ▸ hoo)) ho hb g1 rfl
  let E' : Env := ⟨E.blk, E.sl, upd E.fp b X⟩
  have hat : ∀ i, E.at' E' i := fun i => ⟨rfl, rfl⟩
  have hfp : ∀ i, i ≠ b → E'.fp i = E.fp i := fun i hi => upd_ne _ _ hi
  have hcase : ∀ c e, (closeSt st b (bunE b φ t cells R) os).hp c = .ent e → (c = b ∧ e = .abs (bunE b φ t cells R)) ∨ (c ≠ b ∧ c ∉ os ∧ st.hp c = .ent e) := by
    intro c e hc
    rcases updL_cases c ((b, .ent (.abs (bunE b φ t cells R))) :: os.map fun o => (o, .gone)) st.hp with ⟨s, g1, g2⟩ | ⟨g1, g2⟩
    · have : s = .ent e := g2.symm.trans hc
      subst this
      rcases List.mem_cons.1 g1 with h | h
      · cases h; exact .inl ⟨rfl, rfl⟩
      · obtain ⟨q, _, he⟩ := List.mem_map.1 h; cases he
    · refine .inr ⟨?_, fun h => g1 .gone (List.mem_cons_of_mem _ (List.mem_map.2 ⟨c, h, rfl⟩)), g2.symm.trans hc⟩
      rintro rfl
      exact g1 _ List.mem_cons_self
  have hused : ∀ i, (st.hp i).used = true → ((closeSt st b (bunE b φ t cells R) os).hp i).used = true := by
    intro i hi
    show (updL st.hp _ i).used = true
    rcases updL_cases i ((b, .ent (.abs (bunE b φ t cells R))) :: os.map fun o => (o, .gone)) st.hp with ⟨s, g1, g2⟩ | ⟨g1, g2⟩
    · rw [g2]
      rcases List.mem_cons.1 g1 with h | h
      · cases h; rfl
      · obtain ⟨q, _, he⟩ := List.mem_map.1 h; cases he; rfl
    · rw [g2]; exact hi
  have hXS : ∀ k, X k → S k ∧ (C.B k ∨ C.w0.heap.size ≤ k) := by
    intro k hk
    rcases hk with rfl | ⟨i, e, hi, hk⟩
    · exact hs.blk b _ _ hb rfl
    · obtain ⟨o, e0, _, _, ho, g1⟩ := hsrc i e k hi hk
      exact hs.blk o e0 k ho g1
  have hXo : ∀ c e k, c ≠ b → c ∉ os → st.hp c = .ent e → X k → ¬ e.at E c k := by
    intro c e k hcb hco hc hk
    rcases hk with rfl | ⟨i, e', hi, hk⟩
    · exact fun h => hs.sep c b e _ _ hcb hc hb h rfl
    · obtain ⟨o, e0, _, hoo, ho, g1⟩ := hsrc i e' k hi hk
      exact hs.sep o c e0 e k (fun h => hco (h ▸ hoo)) ho hc g1
  have hother : ∀ (c : Nat) (e : Ent) (k : Nat), c ≠ b → e.at E' c k → e.at E c k := fun c e k hc hk => by rw [Ent.at_congr (hat c) (hfp c hc)] at hk; exact hk
  have hmine : ∀ k, (Ent.abs (bunE b φ t cells R)).at E' b k → X k := fun k hk => by
    have hk' : upd E.fp b X b k := hk
    rw [upd_same] at hk'; exact hk'
  refine ⟨E', S, { dfr := hs.dfr, nt := hs.nt, cT := hs.cT, cT0 := hs.cT0, cS := hs.cS, lt := hs.lt, tm := fun i v hv => ?_, tid := fun i v hv j hj => hused j (hs.tid i v hv j hj), hp := fun c e hc => ?_, hid := fun c e hc i hi => ?_, blk := fun c e k hc hk => ?_, sep := fun c c' e e' k hne hc hc' hk hk' => ?_, off := hs.off, env := fun c hc => ?_, gl := hs.gl }⟩
  · exact (hs.tm i v hv).step (fun j hj => hat j) (Off.refl S w) (fun k hk => .inl hk)
  · rcases hcase c e hc with ⟨rfl, rfl⟩ | ⟨hcb, _, h3⟩
    · show ∃ (p' : ι) (Ep : Env), (Ep.blk c = E.blk c ∧ Ep.sl c = E.sl c) ∧ BunHas φ t cells R (E.blk c) (upd E.fp c X c) S w p' Ep
      rw [upd_same]; exact ⟨p, _, ⟨by simp only [reEnv, hfb], by simp only [reEnv, hfb]⟩, hB⟩
    · exact (hs.hp c e h3).step (fun j hj => hat j) (hat c) (Off.refl S w) (fun k hk => .inl hk) (fun _ _ => rfl) (hfp c hcb)
  · rcases hcase c e hc with ⟨rfl, rfl⟩ | ⟨hcb, _, h3⟩
    · cases hi
    · exact hused i (hs.hid c e h3 i hi)
  · rcases hcase c e hc with ⟨rfl, rfl⟩ | ⟨hcb, _, h3⟩
    · exact hXS k (hmine k hk)
    · exact hs.blk c e k h3 (hother c e k hcb hk)
  · rcases hcase c e hc with ⟨rfl, rfl⟩ | ⟨hcb, hco, h3⟩
    · rcases hcase c' e' hc' with ⟨rfl, rfl⟩ | ⟨hcb', hco', h3'⟩
      · exact hne rfl
      · exact hXo c' e' k hcb' hco' h3' (hmine k hk) (hother c' e' k hcb' hk')
    · rcases hcase c' e' hc' with ⟨rfl, rfl⟩ | ⟨hcb', hco', h3'⟩
      · exact hXo c e k hcb hco h3 (hmine k hk') (hother c e k hcb hk)
      · exact hs.sep c c' e e' k hne h3 h3' (hother c e k hcb hk) (hother c' e' k hcb' hk')
  · obtain ⟨g1, g2, g3⟩ := hs.env c hc
    exact ⟨g1, g2, hused c g3⟩
theorem WP.openB {ι : Type} {P : Program} {C : Ctx} {st : St} {Q : Exit → St → Prop} {c : Code} {b : Nat} {φ : ι → Prop} {t : TypeId} {cells : ι → List Atom} {R : ι → List (Nat × Ent)} (ns : List Nat) (hb : st.hp b = .ent (.abs (bunE b φ t cells R))) (hns : ∀ p, (R p).map (·.1) = ns) (hfree : ∀ i ∈ ns, st.hp i = .free) (hfix : ∀ i ∈ ns, C.fix i = false)
    (hid : ∀ p, ∀ i ∈ (cells p).flatMap Atom.ids, i ∈ ns ∨ i = b) (hRid : ∀ p i e, (i, e) ∈ R p → e.ids = []) (h : ∀ p, φ p → WP P C c (openSt st b t (cells p) (R p)) Q) : WP P C c st Q := fun a w hs => by
  obtain ⟨p, hp, hs'⟩ := Sat.openB ns hs hb hns hfree hfix hid hRid
  exact h p hp a w hs'
theorem St.le_bfzA {C : Ctx} {st : St} {b : Nat} {A : AEnt} {m : List CA} (hB : ∀ k, ¬ C.B k) (hb : st.hp b = .ent (.abs A))
    (hA : ∀ bk v X S w, A.has bk v X S w → (∃ (t : TypeId) (cs : List Value), w.heap[bk]? = some (.cells cs.toArray t (0, 0)) ∧ All2 (CA.has (fun k => S k ∧ ¬ X k) w) m cs) ∧ X bk) : St.le C st (st.mp b (bfz b m)) :=
  St.le_mp (bfz_ids b m) hB hb fun E S w hh hS a v ha => by
    have hsub : ∀ k, (fun k => S k ∧ ¬ (Ent.abs A).at E b k) k → S k := fun k hk => hk.1
    have keep : ∀ a : Atom, a.has E S w v → a.has E (fun k => S k ∧ ¬ (Ent.abs A).at E b k) w v := fun a ha => ha.step (fun _ _ => ⟨rfl, rfl⟩) (Off.refl S w) (fun k hk => .inl (hsub k hk))
    cases a with
    | ptr k off =>
      by_cases hk : k = b
      · subst hk
        rw [bfz_ptr]
        obtain ⟨⟨t, cs, h1, h3⟩, hX⟩ := hA _ _ _ _ _ hh
        refine ptrR_iff.2 ⟨E.blk k, off, ha, fun i c hic => ?_⟩
        rw [List.getElem?_drop] at hic
        obtain ⟨u, hu, huc⟩ := h3.get hic
        have hcell := cells_of_block h1 0 (off + i) u (by simpa using hu)
        exact ⟨u, fun h => h.2 hX, by simpa [Addr.add_lit] using hcell, huc⟩
      · rw [bfz_ptr_ne hk]; exact keep _ ha
    | c a => exact keep _ ha
    | own k => exact keep _ ha
    | rptr k off => exact keep _ ha
    | clo f cap => exact keep _ ha
    | bnd f k => exact keep _ ha
    | rel k R => exact keep _ ha
theorem WP.freezeA {P : Program} {C : Ctx} {st : St} {Q : Exit → St → Prop} {c : Code} {A : AEnt} (b : Nat) (m : List CA) (hB : ∀ k, ¬ C.B k) (hb : st.hp b = .ent (.abs A))
    (hA : ∀ bk v X S w, A.has bk v X S w → (∃ (t : TypeId) (cs : List Value), w.heap[bk]? = some (.cells cs.toArray t (0, 0)) ∧ All2 (CA.has (fun k => S k ∧ ¬ X k) w) m cs) ∧ X bk) (h : WP P C c (st.mp b (bfz b m)) Q) : WP P C c st Q := WP.weaken (St.le_bfzA hB hb hA) h
end SX
set_option linter.unusedVariables false
set_option linter.unusedSimpArgs false
namespace SX
open Go Go.RowKit
section
variable {P : Program} {C : Ctx} {st : St} {α : Type}
variable {ops rest : List Oper} {acc : List (List Nat × List Nat)} {K : List (List Nat × List Nat) → St → Prop} {dst : Option Tmp} {d : Tmp} {op : Op} {ty t t' : TypeId} {x y z : Operand} {k : IntKind}
end
end SX
set_option linter.unusedVariables false
set_option linter.unusedSimpArgs false
namespace SX
open Go Go.RowKit
theorem closedL_map : ∀ m : List CA, closedL (m.map Atom.c) = some m
  | [] => rfl
  | c :: m => by simp [closedL, closedL_map m]
theorem map_open {cells : List Atom} {m : List CA} (h : cells = m.map Atom.c) : closedL cells = some m := by rw [h]; exact closedL_map m
section
variable {P : Program} {C : Ctx} {st : St} {α : Type}
variable {ops rest : List Oper} {acc : List (List Nat × List Nat)} {K : List (List Nat × List Nat) → St → Prop} {dst : Option Tmp} {d : Tmp} {op : Op} {ty t t' : TypeId} {x y z : Operand} {k : IntKind}
theorem G.nilCheckR {cells : List CA} (next : Reg P C ops rest (st.app dst ⟨.r (ptrR cells), []⟩) (([], []) :: acc) K) (hd : dstOK dst C.nt = true := by rfl) (hx : st.ev x = some (.r (ptrR cells)) := by rfl) : Go1 P C ops dst (.nilCheck x) ty rest st acc K :=
  Go1.pureV [] [] (by simp) hd (by simp) (fun o ho _ st' E S a w hev hs _ => by
    have hx' := hs.ev ((hev x (by simp [ho, Op.operands])).trans hx)
    obtain ⟨b, o', hv, _⟩ := ptrR_iff.1 (show (ptrR cells).has S w (a.eval x) from hx'.1)
    refine ⟨fun i hi => (by cases hi), a.eval x, ?_, hx'.1⟩
    unfold execOp; rw [ho]
    simp [hv]) next
theorem G.lenH {A : AEnt} {e : TypeId} {b i n size sz : Nat} [ht : TSlice P t e sz] (next : Reg P C ops rest (st.app dst ⟨.v (.int .i64 (n : Int)), []⟩) (([b], []) :: acc) K) (hd : dstOK dst C.nt = true := by rfl) (hx : st.ev x = some (.it (.one (.rel b (hdrR i)))) := by rfl) (hb : st.hp b = .ent (.abs A) := by rfl) (hA : HasRow A i e size n := by first | exact SX.HasRow.out | exact SX.HasRow.inn (by assumption)) : Go1 P C ops dst (.call ⟨.builtin .len, #[x], #[t]⟩) ty rest st acc K :=
  Go1.lenH hd hx hb hA next
theorem G.indexAddrH {A : AEnt} {e : TypeId} {b j n size i : Nat} [ht : TSlice P t e size] (next : Reg P C ops rest (st.app dst ⟨.it (.one (.rel b (hptrR j (i * size)))), []⟩) (([b], []) :: acc) K) (hd : dstOK dst C.nt = true := by rfl) (hx : st.ev x = some (.it (.one (.rel b (hdrR j)))) := by rfl) (hb : st.hp b = .ent (.abs A) := by rfl) (hA : HasRow A j e size n := by first | exact SX.HasRow.out | exact SX.HasRow.inn (by assumption)) (hy : st.ev y = some (.v (.int k (i : Int))) := by rfl) (hi : i < n := by omega) : Go1 P C ops dst (.indexAddr t x y) ty rest st acc K :=
  Go1.indexAddrH hd hx hb hA hy hi next
theorem G.loadH {tO tI : TypeId} {b size i j : Nat} {enc : α → List CA} {js : List Nat} {c : List (List α)} [ht : TOne P t] (next : Reg P C ops rest (st.app dst ⟨.it (.one (hdrA b (j + 1))), []⟩) (([b], []) :: acc) K) (hd : dstOK dst C.nt = true := by rfl) (hx : st.ev x = some (.it (.one (.rel b (hptrR 0 (i * 1))))) := by rfl) (hb : st.hp b = .ent (.abs (rowsE tO tI size enc js c)) := by rfl) (hj : js[i]? = some j := by assumption) : Go1 P C ops dst (.load t x) ty rest st acc K :=
  Go1.loadH hd hx hb (by rw [Nat.mul_one]; exact hj) next
theorem G.storeH {tO tI : TypeId} {b size i j : Nat} {enc : α → List CA} {js : List Nat} {c : List (List α)} (next : Reg P C ops rest (st.app none ⟨.v undef, [(b, .ent (.abs (rowsE tO tI size enc (js.set i j) c)))]⟩) (([b], [b]) :: acc) K) (hs : (P.info? t).map (·.size) = some 1 := by kernel_rfl) (hx : st.ev x = some (.it (.one (.rel b (hptrR 0 (i * 1))))) := by rfl) (hy : st.ev y = some (.it (.one (hdrA b (j + 1)))) := by rfl) (hb : st.hp b = .ent (.abs (rowsE tO tI size enc js c)) := by rfl) (ho : i < js.length := by first | omega | (rw [List.length_set]; omega)) (hj : j < c.length := by first | assumption | omega) : Go1 P C ops none (.store t x y) ty rest st acc K :=
  Go1.storeH hs hx hy hb (off := i * 1) (by rw [Nat.mul_one]; exact ho) hj (by rw [Nat.mul_one]; exact next)
theorem G.storeHI {tO tI : TypeId} {b size i j : Nat} {enc : α → List CA} {js : List Nat} {c : List (List α)} {v : AV0} {r : List α} {a : α} [he : EncLen enc size] (next : Reg P C ops rest (st.app none ⟨.v undef, [(b, .ent (.abs (rowsE tO tI size enc js (c.set j (r.set i a)))))]⟩) (([b], [b]) :: acc) K) (hs : (P.info? t).map (·.size) = some size := by kernel_rfl) (hx : st.ev x = some (.it (.one (.rel b (hptrR (j + 1) (i * size))))) := by rfl) (hy : st.ev y = some (.it v) := by rfl) (hb : st.hp b = .ent (.abs (rowsE tO tI size enc js c)) := by rfl)
    (hv : v.cells = (enc a).map Atom.c := by rfl) (h1 : v.cells.all Atom.oneB = true := by rfl) (hj : c[j]? = some r := by assumption) (hi : i < r.length := by omega) : Go1 P C ops none (.store t x y) ty rest st acc K :=
  Go1.storeHI hs hx hy hb (by rw [hv, List.length_map]; exact he.h a) h1 (map_open hv) hj (List.length_set ..) (by have := Nat.mul_le_mul_right size (show i + 1 ≤ r.length from hi); rw [Nat.succ_mul] at this; exact this) (flat_set r i a hi) next
theorem G.appendH {tO tI : TypeId} {b b2 bytes size : Nat} {z0 : Value} {enc : α → List CA} {js : List Nat} {c : List (List α)} {l : List α} [ht : TSlice P t tO 1] [he : TElem P tO [z0] bytes] (next : Reg P C ops rest (st.app (some d) ⟨.it (.one (hdrA d 0)), [(b, .gone), (b2, .gone), (d, .ent (.abs (rowsE tO tI size enc (js ++ [c.length]) (c ++ [l]))))]⟩) (([b, b2, d], [b, b2, d]) :: acc) K) (hd : dstOK (some d) C.nt = true := by rfl) (hx : st.ev x = some (.it (.one (hdrA b 0))) := by rfl) (hy : st.ev y = some (.it (.one (hdrA b2 0))) := by rfl)
    (hb : st.hp b = .ent (.abs (rowsE tO tI size enc js c)) := by rfl) (hb2 : st.hp b2 = .ent (.abs (litE tI size enc l)) := by rfl) (hbb : b ≠ b2 := by decide) (hf : st.hp d = .free := by rfl) (h63 : js.length + 1 ≤ 9223372036854775807 := by omega) (hbytes : (js.length + 1) * bytes ≤ 140737488355328 := by omega) : Go1 P C ops (some d) (.call ⟨.builtin .append, #[x, y], #[t, t]⟩) ty rest st acc K :=
  Go1.appendH hd hx hy hb hb2 hbb hf h63 hbytes next
end
theorem CallOK.fnA {P : Program} {f : FuncId} {fn : Func} {c : Code} {args : List AV} {pre : List (Nat × Ent)} {out : Out} {nt : Nat} {rs : List ResultVar} (hf : P.funcs[f]? = some fn) (hres : fn.results = rs.toArray) (hnt : fn.ntmps = nt) (hb : fn.body = some c) (hn : (fn.name == "runtime.NumGoroutine") = false) (hna : Nat.ble args.length nt = true)
    (p1 : nodupB (pre.map (·.1)) = true) (p3 : (args.all fun v => v.ids.all (memB (pre.map (·.1)))) = true) (p4 : (pre.all fun p => p.2.ids.all (memB (pre.map (·.1)))) = true) (p5 : ((pre.map (·.1)).all (memB (out.hp.map (·.1)))) = true)
    (p6 : ((out.res.ids ++ out.hp.flatMap fun p => p.2.ids).all fun i => memB (pre.map (·.1)) i || memB (out.hp.map (·.1)) i) = true)
    (h : ∀ (w0 : World) (T B : Nat → Prop) (E0 : Env), (pre = [] → ∀ k, ¬ B k) → WP P ⟨w0, T, B, nt, E0, fun b => (lk pre b).isSome⟩ c ⟨fun t => args[t]?, fun b => match lk pre b with | some e => .ent e | none => .free⟩ (retF ⟨w0, T, B, nt, E0, fun b => (lk pre b).isSome⟩ P rs out)) : CallOK P f args pre out := by
  have e1 : (fun b => (pre.lookup b).isSome) = fun b => (lk pre b).isSome := funext fun b => by rw [lk_lookup]
  have e2 : startSt args pre = ⟨fun t => args[t]?, fun b => match lk pre b with | some e => .ent e | none => .free⟩ := by
    unfold startSt
    congr 1
    funext b
    rw [lk_lookup]
    cases lk pre b <;> rfl
  have key : ∀ i, memB (pre.map (·.1)) i = true → (pre.lookup i).isSome = true := fun i hi => by rw [lk_lookup]; exact lk_some_of_mem (memB_iff.1 hi)
  refine CallOK.fn hf hres hnt hb hn hna (fun b e hb => by rw [lk_lookup]; exact lk_key p1 hb) (fun v hv i hi => key i (List.all_eq_true.1 (List.all_eq_true.1 p3 v hv) i hi)) (fun b e hb i hi => key i (List.all_eq_true.1 (List.all_eq_true.1 p4 (b, e) hb) i hi)) (fun b e hb => ?_) (fun i hi => ?_) (fun w0 T B E0 hB => ?_)
  · have := memB_iff.1 (List.all_eq_true.1 p5 b (List.mem_map.2 ⟨(b, e), hb, rfl⟩))
    obtain ⟨⟨b', s⟩, hs, rfl⟩ := List.mem_map.1 this
    exact ⟨s, hs⟩
  · have hi' : i ∈ out.res.ids ++ out.hp.flatMap fun p => p.2.ids := by
      rw [List.mem_append]
      rcases hi with hi | ⟨b, e, hb, hi⟩
      · exact .inl hi
      · exact .inr (List.mem_flatMap.2 ⟨(b, .ent e), hb, hi⟩)
    have := List.all_eq_true.1 p6 i hi'
    rw [Bool.or_eq_true] at this
    rcases this with h | h
    · exact .inl (key i h)
    · obtain ⟨⟨b', s⟩, hs, rfl⟩ := List.mem_map.1 (memB_iff.1 h)
      exact .inr ⟨s, hs⟩
  · rw [e1, e2]
    refine WP.retF (h w0 T B E0 fun hp k hk => ?_)
    subst hp
    obtain ⟨b, e, hb, _⟩ := hB k hk
    cases hb
theorem RetF.le {C : Ctx} {P : Program} {rs : List ResultVar} {out : Out} {st st' : St} (h : St.le C st st') (k : RetF C P rs out st') : RetF C P rs out st := by
  obtain ⟨s, h1, h2⟩ := k
  exact ⟨s, fun a w hs => h1 a w (h a w hs), h2⟩
structure HeldQ (q : Prop) : Prop where
  out : q
end SX
set_option linter.unusedVariables false
set_option linter.unusedSimpArgs false
namespace SX
open Go Go.RowKit
def mkOne : Op → Bool
  | .makeFunc _ a c => Nat.beq a.size 0 && Nat.beq c.size 0
  | _ => true
def noMk : List Oper → Bool
  | [] => true
  | o :: l => match mkOne o.op with | true => noMk l | false => false
section
variable {P : Program} {C : Ctx} {st : St} {Q : Exit → St → Prop}
theorem WP.regionN {id : Nat} {l : List Oper} (hn : noMk l = true) (h : Reg P C l l st [] (fun _ st' => Q .normal st')) : WP P C (.region id l.toArray false) st Q := WP.regionL h
theorem WP.regionDN {id : Nat} {l : List Oper} (hn : noMk l = true) (hm : P.follows .mixedOrders = true) (h : Reg P C l l st [] (fun feet st' => check l.toArray feet = true ∧ Q .normal st')) : WP P C (.region id l.toArray true) st Q := WP.regionDL hm h
end
section
variable {P : Program} {C : Ctx} {st : St}
variable {ops rest : List Oper} {acc : List (List Nat × List Nat)} {K : List (List Nat × List Nat) → St → Prop} {dst : Option Tmp} {ty t e : TypeId} {x y : Operand} {k : IntKind} {n size : Nat}
end
structure HeldF (q : Prop) : Prop where
  out : q
theorem goF {p q : Prop} (h : q) (k : HeldF q → p := by
    intro h
    (first
      | (refine SX.Go1.is ?_; first
          | (refine SX.Go1.isLoad ?_; first | refine SX.G.load2 ?_ | refine SX.G.load1 ?_ | refine SX.G.loadR1 ?_ | refine SX.G.loadR2 ?_ | refine SX.G.load4 ?_ | refine SX.G.loadR4 ?_ | refine SX.G.load5 ?_ | refine SX.G.loadH ?_ | refine SX.G.loadHI ?_ | refine SX.G.loadOWA ?_ | refine SX.G.load3 ?_ | refine SX.G.loadR3 ?_ | refine SX.G.loadOW ?_ | refine SX.G.loadO1 ?_)
          | (refine SX.Go1.isBin ?_; first | refine SX.G.lss ?_ | refine SX.G.eql ?_ | refine SX.G.neq ?_ | refine SX.G.gtr ?_ | refine SX.G.geq ?_ | refine SX.G.leq ?_ | refine SX.G.addN ?_ | refine SX.G.addNu ?_ | refine SX.G.subN ?_ | refine SX.G.subNu ?_ | refine SX.G.add ?_ | refine SX.G.sub ?_ | refine SX.G.mulN ?_ | refine SX.G.mulNu ?_ | refine SX.G.mul ?_ | refine SX.G.quoN ?_ | refine SX.G.quoNu ?_ | refine SX.G.quo ?_ | refine SX.G.remN ?_ | refine SX.G.remNu ?_ | refine SX.G.rem ?_ | refine SX.G.eqlT ?_ | refine SX.G.neqT ?_ | refine SX.G.eqlB ?_ | refine SX.G.neqB ?_ | refine SX.G.shr ?_ | refine SX.G.shl ?_ | refine SX.G.and ?_ | refine SX.G.addT ?_)
          | (refine SX.Go1.isUn ?_; first | refine SX.G.not ?_ | refine SX.G.neg ?_)
          | (refine SX.Go1.isField ?_; first | refine SX.G.fieldAddr ?_ | refine SX.G.fieldAddrR ?_)
          | (refine SX.Go1.isBuild ?_; first | refine SX.G.buildA ?_ | refine SX.G.build2 ?_ | refine SX.G.build3 ?_ | refine SX.G.build4 ?_ | refine SX.G.build5 ?_ | refine SX.G.build ?_)
          | (refine SX.Go1.isStore ?_; first | refine SX.G.store ?_ | refine SX.G.storeP ?_ | refine SX.G.storeH ?_ | refine SX.G.storeHI ?_ | refine SX.G.storeOWA ?_ | refine SX.G.storeO ?_)
          | (refine SX.Go1.isIx ?_; first | refine SX.G.indexAddrW ?_ | refine SX.G.indexAddrV ?_ | refine SX.G.indexAddrR ?_ | refine SX.G.indexAddrH ?_ | refine SX.G.indexAddrO ?_ | refine SX.G.indexAddrA ?_)
          | (refine SX.Go1.isBuildS ?_; first | refine SX.G.litH ?_ | refine SX.G.litOwn ?_ | refine SX.G.lit2Own ?_ | refine SX.G.lit2 ?_ | refine SX.G.lit3 ?_ | refine SX.G.lit1 ?_)
          | (refine SX.Go1.isCall ?_; first | refine SX.G.minN ?_ | refine SX.G.maxN ?_ | refine SX.G.lenR ?_ | refine SX.G.lenN ?_ | refine SX.G.lenT ?_ | refine SX.G.lenS ?_ | refine SX.G.lenO ?_ | refine SX.G.appendW ?_ | refine SX.G.appendNilW ?_ | refine SX.G.lenH ?_ | refine SX.G.appendH ?_ | refine SX.G.callF ?_ | refine SX.G.callP ?_ | refine SX.G.callB ?_ | refine SX.G.callOwn ?_ | refine SX.G.call ?_)
          | refine SX.G.move ?_ | refine SX.G.assign ?_ | refine SX.G.extract ?_ | refine SX.G.boxN ?_ | refine SX.G.box ?_ | refine SX.G.allocN ?_ | refine SX.G.alloc ?_ | refine SX.G.nilCheckP ?_ | refine SX.G.nilCheckR ?_ | refine SX.G.mkfn ?_ | refine SX.G.mkfnA ?_ | refine SX.G.mkclo ?_ | refine SX.G.mkbnd ?_ | refine SX.G.pick ?_ | refine SX.R.pickT ?_ | refine SX.R.pickF ?_ | refine SX.G.pickB ?_ | refine SX.G.pickV ?_ | refine SX.G.makeN ?_ | refine SX.G.convN ?_ | refine SX.G.conv ?_ | refine SX.G.convBS ?_ | refine SX.G.sliceH ?_ | refine SX.G.sliceHiW ?_ | refine SX.G.sliceLoW ?_ | refine SX.G.sliceHiR ?_ | refine SX.G.sliceLoR ?_ | refine SX.G.sliceHiO ?_ | refine SX.G.sliceHiT ?_ | refine SX.G.sliceLoT ?_ | refine SX.G.sliceLHT ?_ | refine SX.G.indexA ?_ | refine SX.G.indexT ?_ | refine SX.G.sliceHiS ?_ | refine SX.G.sliceLoS ?_ | refine SX.G.sliceLHS ?_ | refine SX.G.indexS ?_)
      | (refine SX.Reg.is ?_; first | refine SX.Reg.go ?_ | refine SX.R.runT ?_ | refine SX.R.runF ?_ | refine SX.R.skipT ?_ | refine SX.R.skipF ?_ | refine SX.R.skipU ?_ | refine SX.Reg.nil ⟨by kernel_rfl, ?_⟩ | refine SX.Reg.nil ?_)
      | (refine SX.WP.is ?_; first | refine SX.WP.seq ?_ | refine SX.WP.regionN (by rfl) ?_ | refine SX.WP.regionDN (by rfl) (by kernel_rfl) ?_ | refine SX.WP.block ?_ | refine SX.WP.skip ?_ | refine SX.WP.exit ?_ | refine SX.WP.ret ?_ | refine SX.WP.label ?_ | refine SX.W.condT ?_ | refine SX.W.condF ?_)
      | refine SX.thenN ?_ | refine SX.thenE ?_ | refine SX.thenR ?_ | refine SX.inBlkN ?_ | refine SX.inBlkR ?_ | refine SX.inBlkE ?_ | refine SX.inBlkO rfl ?_ | refine SX.retR ?_ | refine SX.retN ?_ | refine SX.retFR ?_ | refine SX.retFN ?_)
    repeat (first
      | (refine SX.Go1.is ?_; first
          | (refine SX.Go1.isLoad ?_; first | refine SX.G.load2 ?_ | refine SX.G.load1 ?_ | refine SX.G.loadR1 ?_ | refine SX.G.loadR2 ?_ | refine SX.G.load4 ?_ | refine SX.G.loadR4 ?_ | refine SX.G.load5 ?_ | refine SX.G.loadH ?_ | refine SX.G.loadHI ?_ | refine SX.G.loadOWA ?_ | refine SX.G.load3 ?_ | refine SX.G.loadR3 ?_ | refine SX.G.loadOW ?_ | refine SX.G.loadO1 ?_)
          | (refine SX.Go1.isBin ?_; first | refine SX.G.lss ?_ | refine SX.G.eql ?_ | refine SX.G.neq ?_ | refine SX.G.gtr ?_ | refine SX.G.geq ?_ | refine SX.G.leq ?_ | refine SX.G.addN ?_ | refine SX.G.addNu ?_ | refine SX.G.subN ?_ | refine SX.G.subNu ?_ | refine SX.G.add ?_ | refine SX.G.sub ?_ | refine SX.G.mulN ?_ | refine SX.G.mulNu ?_ | refine SX.G.mul ?_ | refine SX.G.quoN ?_ | refine SX.G.quoNu ?_ | refine SX.G.quo ?_ | refine SX.G.remN ?_ | refine SX.G.remNu ?_ | refine SX.G.rem ?_ | refine SX.G.eqlT ?_ | refine SX.G.neqT ?_ | refine SX.G.eqlB ?_ | refine SX.G.neqB ?_ | refine SX.G.shr ?_ | refine SX.G.shl ?_ | refine SX.G.and ?_ | refine SX.G.addT ?_)
          | (refine SX.Go1.isUn ?_; first | refine SX.G.not ?_ | refine SX.G.neg ?_)
          | (refine SX.Go1.isField ?_; first | refine SX.G.fieldAddr ?_ | refine SX.G.fieldAddrR ?_)
          | (refine SX.Go1.isBuild ?_; first | refine SX.G.buildA ?_ | refine SX.G.build2 ?_ | refine SX.G.build3 ?_ | refine SX.G.build4 ?_ | refine SX.G.build5 ?_ | refine SX.G.build ?_)
          | (refine SX.Go1.isStore ?_; first | refine SX.G.store ?_ | refine SX.G.storeP ?_ | refine SX.G.storeH ?_ | refine SX.G.storeHI ?_ | refine SX.G.storeOWA ?_ | refine SX.G.storeO ?_)
          | (refine SX.Go1.isIx ?_; first | refine SX.G.indexAddrW ?_ | refine SX.G.indexAddrV ?_ | refine SX.G.indexAddrR ?_ | refine SX.G.indexAddrH ?_ | refine SX.G.indexAddrO ?_ | refine SX.G.indexAddrA ?_)
          | (refine SX.Go1.isBuildS ?_; first | refine SX.G.litH ?_ | refine SX.G.litOwn ?_ | refine SX.G.lit2Own ?_ | refine SX.G.lit2 ?_ | refine SX.G.lit3 ?_ | refine SX.G.lit1 ?_)
          | (refine SX.Go1.isCall ?_; first | refine SX.G.minN ?_ | refine SX.G.maxN ?_ | refine SX.G.lenR ?_ | refine SX.G.lenN ?_ | refine SX.G.lenT ?_ | refine SX.G.lenS ?_ | refine SX.G.lenO ?_ | refine SX.G.appendW ?_ | refine SX.G.appendNilW ?_ | refine SX.G.lenH ?_ | refine SX.G.appendH ?_ | refine SX.G.callF ?_ | refine SX.G.callP ?_ | refine SX.G.callB ?_ | refine SX.G.callOwn ?_ | refine SX.G.call ?_)
          | refine SX.G.move ?_ | refine SX.G.assign ?_ | refine SX.G.extract ?_ | refine SX.G.boxN ?_ | refine SX.G.box ?_ | refine SX.G.allocN ?_ | refine SX.G.alloc ?_ | refine SX.G.nilCheckP ?_ | refine SX.G.nilCheckR ?_ | refine SX.G.mkfn ?_ | refine SX.G.mkfnA ?_ | refine SX.G.mkclo ?_ | refine SX.G.mkbnd ?_ | refine SX.G.pick ?_ | refine SX.R.pickT ?_ | refine SX.R.pickF ?_ | refine SX.G.pickB ?_ | refine SX.G.pickV ?_ | refine SX.G.makeN ?_ | refine SX.G.convN ?_ | refine SX.G.conv ?_ | refine SX.G.convBS ?_ | refine SX.G.sliceH ?_ | refine SX.G.sliceHiW ?_ | refine SX.G.sliceLoW ?_ | refine SX.G.sliceHiR ?_ | refine SX.G.sliceLoR ?_ | refine SX.G.sliceHiO ?_ | refine SX.G.sliceHiT ?_ | refine SX.G.sliceLoT ?_ | refine SX.G.sliceLHT ?_ | refine SX.G.indexA ?_ | refine SX.G.indexT ?_ | refine SX.G.sliceHiS ?_ | refine SX.G.sliceLoS ?_ | refine SX.G.sliceLHS ?_ | refine SX.G.indexS ?_)
      | (refine SX.Reg.is ?_; first | refine SX.Reg.go ?_ | refine SX.R.runT ?_ | refine SX.R.runF ?_ | refine SX.R.skipT ?_ | refine SX.R.skipF ?_ | refine SX.R.skipU ?_ | refine SX.Reg.nil ⟨by kernel_rfl, ?_⟩ | refine SX.Reg.nil ?_)
      | (refine SX.WP.is ?_; first | refine SX.WP.seq ?_ | refine SX.WP.regionN (by rfl) ?_ | refine SX.WP.regionDN (by rfl) (by kernel_rfl) ?_ | refine SX.WP.block ?_ | refine SX.WP.skip ?_ | refine SX.WP.exit ?_ | refine SX.WP.ret ?_ | refine SX.WP.label ?_ | refine SX.W.condT ?_ | refine SX.W.condF ?_)
      | refine SX.thenN ?_ | refine SX.thenE ?_ | refine SX.thenR ?_ | refine SX.inBlkN ?_ | refine SX.inBlkR ?_ | refine SX.inBlkE ?_ | refine SX.inBlkO rfl ?_ | refine SX.retR ?_ | refine SX.retN ?_ | refine SX.retFR ?_ | refine SX.retFN ?_)
    exact h.out) : p := k ⟨h⟩
end SX
set_option linter.unusedVariables false
set_option linter.unusedSimpArgs false
namespace SX
open Go Go.RowKit
section
variable {P : Program} {C : Ctx} {st : St}
variable {ops rest : List Oper} {acc : List (List Nat × List Nat)} {K : List (List Nat × List Nat) → St → Prop} {dst : Option Tmp} {d : Tmp} {op : Op} {ty t t' t'' e : TypeId} {x y : Operand} {k : IntKind} {n size : Nat}
def lkG (g : Nat) : List (Nat × List Value) → Option (List Value)
  | [] => none
  | (g', l) :: r => match Nat.beq g g' with | true => some l | false => lkG g r
class TPtr (P : Program) (t : TypeId) (e : outParam TypeId) : Prop where
  h : P.underlying t = some (.pointer e)
  s : (P.info? e).map (fun j => Nat.beq j.size 0) = some false
class TUns (P : Program) (t : TypeId) : Prop where
  h : P.underlying t = some .unsafePointer
class TByte (P : Program) (e : TypeId) : Prop where
  h : (P.info? e).map (fun i => (i.zero, i.size, i.bytes)) = some (some (.int .u8 0), 1, 1)
class TByteC (P : Program) (e : TypeId) : Prop where
  c : P.cellsOf e = 1
end
structure HeldG (q : Prop) : Prop where
  out : q
end SX
set_option linter.unusedVariables false
set_option linter.unusedSimpArgs false
namespace SX
open Go Go.RowKit
section
variable {P : Program} {C : Ctx} {st : St}
variable {ops rest : List Oper} {acc : List (List Nat × List Nat)} {K : List (List Nat × List Nat) → St → Prop} {dst : Option Tmp} {d : Tmp} {op : Op} {ty t t' : TypeId} {x y z : Operand}
end
structure HeldN (q : Prop) : Prop where
  out : q
end SX

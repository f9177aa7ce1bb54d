import Derived.Test.YtfhpmbenldgfnaaGreatDoorR6
import Derived.Lib.Builder
import Derived.Lib.AppendStr
import Derived.Lib.UnsafeStr
set_option linter.unusedVariables false
set_option linter.unusedSimpArgs false
namespace SX
open Go Go.RowKit
def mpL (σ : Atom → Atom) : List Atom → List Atom
  | [] => []
  | a :: l => σ a :: mpL σ l
def AV0.mp (σ : Atom → Atom) : AV0 → AV0
  | .one a => .one (σ a)
  | .agg l => .agg (mpL σ l)
def mpT (σ : Atom → Atom) : List AV0 → List AV0
  | [] => []
  | a :: l => a.mp σ :: mpT σ l
def AV.mp (σ : Atom → Atom) : AV → AV
  | .it x => .it (x.mp σ)
  | .tup l => .tup (mpT σ l)
def Ent.mp (σ : Atom → Atom) : Ent → Ent
  | .abs A => .abs A
  | .box t l => .box t (mpL σ l)
  | .row t s n l => .row t s n l
def Slot.mp (σ : Atom → Atom) : Slot → Slot
  | .ent e => .ent (e.mp σ)
  | .free => .free
  | .gone => .gone
def St.mp (st : St) (b : Nat) (σ : Atom → Atom) : St :=
  ⟨fun t => match st.tm t with | some v => some (v.mp σ) | none => none, upd (fun c => (st.hp c).mp σ) b .gone⟩
section
variable {σ : Atom → Atom}
theorem mpL_ids (hσ : ∀ a, ∀ i ∈ (σ a).ids, i ∈ a.ids) : ∀ (l : List Atom), ∀ i ∈ (mpL σ l).flatMap Atom.ids, i ∈ l.flatMap Atom.ids
  | [], i, hi => hi
  | a :: l, i, hi => by
    simp only [mpL, List.flatMap_cons, List.mem_append] at hi ⊢
    exact hi.imp (hσ a i) (mpL_ids hσ l i)
theorem AV0.mp_ids (hσ : ∀ a, ∀ i ∈ (σ a).ids, i ∈ a.ids) (x : AV0) : ∀ i ∈ (x.mp σ).ids, i ∈ x.ids := by
  cases x with
  | one a => exact hσ a
  | agg l => exact mpL_ids hσ l
theorem mpT_ids (hσ : ∀ a, ∀ i ∈ (σ a).ids, i ∈ a.ids) : ∀ (l : List AV0), ∀ i ∈ (mpT σ l).flatMap AV0.ids, i ∈ l.flatMap AV0.ids
  | [], i, hi => hi
  | a :: l, i, hi => by
    simp only [mpT, List.flatMap_cons, List.mem_append] at hi ⊢
    exact hi.imp (a.mp_ids hσ i) (mpT_ids hσ l i)
theorem AV.mp_ids (hσ : ∀ a, ∀ i ∈ (σ a).ids, i ∈ a.ids) (x : AV) : ∀ i ∈ (x.mp σ).ids, i ∈ x.ids := by
  cases x with
  | it a => exact a.mp_ids hσ
  | tup l => exact mpT_ids hσ l
theorem Ent.mp_ids (hσ : ∀ a, ∀ i ∈ (σ a).ids, i ∈ a.ids) (x : Ent) : ∀ i ∈ (x.mp σ).ids, i ∈ x.ids := by
  cases x with
  | abs A => intro i hi; cases hi
  | box t l => exact mpL_ids hσ l
  | row t s m l => exact fun i h => h
variable {E : Env} {S S' : Nat → Prop} {w : World}
theorem mpL_has (f : ∀ a v, Atom.has E S w a v → (σ a).has E S' w v) : ∀ {l : List Atom} {vs : List Value}, All2 (Atom.has E S w) l vs → All2 (Atom.has E S' w) (mpL σ l) vs
  | [], [], _ => trivial
  | a :: _, v :: _, h => ⟨f a v h.1, mpL_has f h.2⟩
  | [], _ :: _, h => h.elim
  | _ :: _, [], h => h.elim
theorem AV0.has.mp (f : ∀ a v, Atom.has E S w a v → (σ a).has E S' w v) {x : AV0} {v : Value} (h : x.has E S w v) : (x.mp σ).has E S' w v := by
  cases x with
  | one a => exact f a v h
  | agg l => obtain ⟨vs, h1, h2⟩ := h; exact ⟨vs, h1, mpL_has f h2⟩
theorem mpT_has (f : ∀ a v, Atom.has E S w a v → (σ a).has E S' w v) : ∀ {l : List AV0} {vs : List Value}, All2 (AV0.has E S w) l vs → All2 (AV0.has E S' w) (mpT σ l) vs
  | [], [], _ => trivial
  | _ :: _, _ :: _, h => ⟨AV0.has.mp f h.1, mpT_has f h.2⟩
  | [], _ :: _, h => h.elim
  | _ :: _, [], h => h.elim
theorem AV.has.mp (f : ∀ a v, Atom.has E S w a v → (σ a).has E S' w v) {x : AV} {v : Value} (h : x.has E S w v) : (x.mp σ).has E S' w v := by
  cases x with
  | it a => exact AV0.has.mp f h
  | tup l => obtain ⟨vs, h1, h2⟩ := h; exact ⟨vs, h1, mpT_has f h2⟩
theorem Ent.has.mp (f : ∀ a v, Atom.has E S w a v → (σ a).has E S' w v) (hsub : ∀ k, S' k → S k) {e : Ent} {c : Nat} (h : e.has E S w c) : (e.mp σ).has E S' w c := by
  cases e with
  | abs A => exact A.step h (Off.refl S w) (fun k hk => .inl (hsub k hk)) (fun _ _ => rfl)
  | box t l => obtain ⟨cs, h1, h2⟩ := h; exact ⟨cs, h1, mpL_has f h2⟩
  | row t s m l => obtain ⟨vs, h1, h2⟩ := h; exact ⟨vs, h1, h2.mono fun a v _ ha => ha.step (Off.refl S w) (fun k hk => .inl (hsub k hk))⟩
end
theorem St.le_mp {C : Ctx} {st : St} {b : Nat} {e : Ent} {σ : Atom → Atom} (hσi : ∀ a, ∀ i ∈ (σ a).ids, i ∈ a.ids) (hB : ∀ k, ¬ C.B k) (hb : st.hp b = .ent e)
    (hσ : ∀ E S w, e.has E S w b → (∀ k, e.at E b k → S k) → ∀ a v, Atom.has E S w a v → (σ a).has E (fun k => S k ∧ ¬ e.at E b k) w v) : St.le C st (st.mp b σ) := by
  intro a w ⟨E, S, hs⟩
  have f := hσ E S w (hs.hp b e hb) (fun k hk => (hs.blk b e k hb hk).1)
  have hkey : ∀ c e', (st.mp b σ).hp c = .ent e' → c ≠ b ∧ ∃ e0, st.hp c = .ent e0 ∧ e' = e0.mp σ := by
    intro c e' hc
    have hc' : upd (fun c => (st.hp c).mp σ) b .gone c = .ent e' := hc
    by_cases hcb : c = b
    · subst hcb; rw [upd_same] at hc'; cases hc'
    · rw [upd_ne _ _ hcb] at hc'
      refine ⟨hcb, ?_⟩
      cases h1 : st.hp c with
      | ent e0 => rw [h1] at hc'; simp only [Slot.mp] at hc'; cases hc'; exact ⟨e0, rfl, rfl⟩
      | free => rw [h1] at hc'; cases hc'
      | gone => rw [h1] at hc'; cases hc'
  have hused : ∀ c, (st.hp c).used = true → ((st.mp b σ).hp c).used = true := by
    intro c hc
    show (upd (fun c => (st.hp c).mp σ) b .gone c).used = true
    by_cases hcb : c = b
    · subst hcb; rw [upd_same]; rfl
    · rw [upd_ne _ _ hcb]
      cases h1 : st.hp c with
      | ent e0 => rfl
      | free => rw [h1] at hc; cases hc
      | gone => rfl
  have htm : ∀ t v, (st.mp b σ).tm t = some v → ∃ v0, st.tm t = some v0 ∧ v = v0.mp σ := by
    intro t v ht
    have ht' : (match st.tm t with | some v => some (v.mp σ) | none => none) = some v := ht
    cases h1 : st.tm t with
    | none => rw [h1] at ht'; cases ht'
    | some v0 => rw [h1] at ht'; cases ht'; exact ⟨v0, rfl, rfl⟩
  have hblk : ∀ (e0 : Ent) c, (e0.mp σ).at E c = e0.at E c := fun e0 c => by cases e0 <;> rfl
  refine ⟨E, fun k => S k ∧ ¬ e.at E b k, { dfr := hs.dfr, nt := hs.nt, cT := fun k hk => ⟨hs.cT k hk, fun h => ?_⟩, cT0 := hs.cT0, cS := fun k hk => hs.cS k hk.1, lt := fun k hk => hs.lt k hk.1, tm := fun t v ht => ?_, tid := fun t v ht i hi => ?_, hp := fun c e' hc => ?_, hid := fun c e' hc i hi => ?_, blk := fun c e' k hc hk => ?_, sep := fun c c' e1 e2 k hne hc hc' hk => ?_, off := hs.off, env := fun c hc => ?_, gl := hs.gl.sub fun k hk => hk.1 }⟩
  · have h1 := (hs.blk b e k hb h).2.resolve_left (hB k)
    have h2 := hs.cT0 k hk
    omega
  · obtain ⟨v0, h1, rfl⟩ := htm t v ht
    exact AV.has.mp f (hs.tm t v0 h1)
  · obtain ⟨v0, h1, rfl⟩ := htm t v ht
    exact hused i (hs.tid t v0 h1 i (v0.mp_ids hσi i hi))
  · obtain ⟨_, e0, h1, rfl⟩ := hkey c e' hc
    exact Ent.has.mp f (fun k hk => hk.1) (hs.hp c e0 h1)
  · obtain ⟨_, e0, h1, rfl⟩ := hkey c e' hc
    exact hused i (hs.hid c e0 h1 i (e0.mp_ids hσi i hi))
  · obtain ⟨hcb, e0, h1, rfl⟩ := hkey c e' hc
    rw [hblk] at hk
    have h2 := hs.blk c e0 k h1 hk
    exact ⟨⟨h2.1, fun h => hs.sep c b e0 e k hcb h1 hb hk h⟩, h2.2⟩
  · obtain ⟨_, e3, h1, rfl⟩ := hkey c e1 hc
    obtain ⟨_, e4, h2, rfl⟩ := hkey c' e2 hc'
    rw [hblk] at hk ⊢
    exact hs.sep c c' e3 e4 k hne h1 h2 hk
  · obtain ⟨g1, g2, g3⟩ := hs.env c hc
    exact ⟨g1, g2, hused c g3⟩
def bfz (b : Nat) (m : List CA) : Atom → Atom
  | .c a => .c a
  | .ptr k off => match Nat.beq k b with | true => .c (.sat (ptrR (m.drop off))) | false => .ptr k off
  | .own k => .own k
  | .rptr k off => .rptr k off
  | .clo f cap => .clo f cap
  | .bnd f k => .bnd f k
  | .rel k R => .rel k R
theorem bfz_ptr {b off : Nat} {m : List CA} : bfz b m (.ptr b off) = .c (.sat (ptrR (m.drop off))) := by
  simp only [bfz, Nat.beq_refl]
theorem bfz_ptr_ne {b k off : Nat} {m : List CA} (h : k ≠ b) : bfz b m (.ptr k off) = .ptr k off := by
  simp only [bfz, beq_ne h]
theorem bfz_ids (b : Nat) (m : List CA) (a : Atom) : ∀ i ∈ (bfz b m a).ids, i ∈ a.ids := by
  cases a with
  | ptr k off =>
    intro i hi
    by_cases hk : k = b
    · subst hk; rw [bfz_ptr] at hi; cases hi
    · rw [bfz_ptr_ne hk] at hi; exact hi
  | _ => exact fun i hi => hi
theorem St.le_bfz {C : Ctx} {st : St} {b : Nat} {t : TypeId} {cells : List Atom} {m : List CA} (hB : ∀ k, ¬ C.B k) (hb : st.hp b = .ent (.box t cells)) (hc : closedL cells = some m) : St.le C st (st.mp b (bfz b m)) :=
  St.le_mp (bfz_ids b m) hB hb fun E S w hh hS a v ha => by
    have hsub : ∀ k, (fun k => S k ∧ ¬ (Ent.box t cells).at E b k) k → S k := fun k hk => hk.1
    have keep : ∀ a : Atom, a.has E S w v → a.has E (fun k => S k ∧ ¬ (Ent.box t cells).at E b k) w v := fun a ha => ha.step (fun _ _ => ⟨rfl, rfl⟩) (Off.refl S w) (fun k hk => .inl (hsub k hk))
    cases a with
    | ptr k off =>
      by_cases hk : k = b
      · subst hk
        rw [bfz_ptr]
        obtain ⟨cs, h1, h2⟩ := hh
        rw [closedL_spec hc] at h2
        have h3 := all2_closed h2
        refine ptrR_iff.2 ⟨E.blk k, off, ha, fun i c hic => ?_⟩
        rw [List.getElem?_drop] at hic
        obtain ⟨u, hu, huc⟩ := h3.get hic
        have hcell := cells_of_block h1 0 (off + i) u (by simpa using hu)
        exact ⟨u, fun h => h.2 rfl, by simpa [Addr.add_lit] using hcell, huc.step (Off.refl S w) (fun k hk => .inl (hsub k hk))⟩
      · rw [bfz_ptr_ne hk]; exact keep _ ha
    | c a => exact keep _ ha
    | own k => exact keep _ ha
    | rptr k off => exact keep _ ha
    | clo f cap => exact keep _ ha
    | bnd f k => exact keep _ ha
    | rel k R => exact keep _ ha
theorem WP.freezeB {P : Program} {C : Ctx} {st : St} {Q : Exit → St → Prop} {c : Code} {t : TypeId} (b : Nat) {cells : List Atom} {m : List CA} (hB : ∀ k, ¬ C.B k) (hb : st.hp b = .ent (.box t cells)) (hc : closedL cells = some m) (h : WP P C c (st.mp b (bfz b m)) Q) : WP P C c st Q :=
  WP.weaken (St.le_bfz hB hb hc) h
def All2R (S : Nat → Prop) (w : World) : List CA → List Value → Prop := All2 (CA.has S w)
def cloR (f : FuncId) (bs cs : List CA) : Rep where
  has S w v := ∃ us vs : List Value, v = .func (.func f) us.toArray vs.toArray ∧ All2 (CA.has S w) bs us ∧ All2 (CA.has S w) cs vs
  one h := by obtain ⟨us, vs, rfl, _⟩ := h; rfl
  step h ho hs := by
    obtain ⟨us, vs, h1, h2, h3⟩ := h
    exact ⟨us, vs, h1, h2.mono fun a b _ h => h.step ho hs, h3.mono fun a b _ h => h.step ho hs⟩
def caAV (c : CA) : AV := .it (.one (.c c))
theorem caAV_has {E : Env} {S : Nat → Prop} {w : World} : ∀ {l : List CA} {vs : List Value}, All2 (CA.has S w) l vs → All2 (AV.has E S w) (l.map caAV) vs
  | [], [], _ => trivial
  | _ :: _, _ :: _, h => ⟨h.1, caAV_has h.2⟩
  | [], _ :: _, h => h.elim
  | _ :: _, [], h => h.elim
def FnV (P : Program) (x : CA) (args : List AV) (r : AV) : Prop :=
  ∀ S w v, x.has S w v → ∃ (f : FuncId) (us vs : List Value) (bs cs : List AV), v = .func (.func f) (List.toArray us) (List.toArray vs) ∧ (∀ E, All2 (AV.has E S w) bs us) ∧ (∀ E, All2 (AV.has E S w) cs vs) ∧ PureOK P f (bs ++ args ++ cs) r
theorem FnV.clo {P : Program} {f : FuncId} {bs cs : List CA} {args : List AV} {r : AV} (h : PureOK P f (bs.map caAV ++ args ++ cs.map caAV) r) : FnV P (.sat (cloR f bs cs)) args r := by
  rintro S w v ⟨us, vs, h1, h2, h3⟩
  exact ⟨f, us, vs, bs.map caAV, cs.map caAV, h1, fun E => caAV_has h2, fun E => caAV_has h3, h⟩
def cloA (f : FuncId) (m : List CA) : Rep where
  has S w v := ∃ us : List Value, v = .func (.func f) #[.agg us.toArray] #[] ∧ All2 (CA.has S w) m us
  one h := by obtain ⟨us, rfl, _⟩ := h; rfl
  step h ho hs := by
    obtain ⟨us, h1, h2⟩ := h
    exact ⟨us, h1, h2.mono fun a b _ h => h.step ho hs⟩
theorem ca_atoms {E : Env} {S : Nat → Prop} {w : World} : ∀ {m : List CA} {us : List Value}, All2 (CA.has S w) m us → All2 (Atom.has E S w) (m.map Atom.c) us
  | [], [], _ => trivial
  | _ :: _, _ :: _, h => ⟨h.1, ca_atoms h.2⟩
  | [], _ :: _, h => h.elim
  | _ :: _, [], h => h.elim
theorem FnV.bound {P : Program} {f : FuncId} {m : List CA} {args : List AV} {r : AV} (h : PureOK P f (.agg (m.map Atom.c) :: args) r) : FnV P (.sat (cloA f m)) args r := by
  rintro S w v ⟨us, h1, h2⟩
  exact ⟨f, [.agg us.toArray], [], [.agg (m.map Atom.c)], [], h1, fun E => ⟨⟨us, rfl, ca_atoms h2⟩, trivial⟩, fun E => trivial, by simpa using h⟩
theorem has_caAV {E : Env} {S : Nat → Prop} {w : World} : ∀ {l : List CA} {vs : List Value}, All2 (AV.has E S w) (l.map caAV) vs → All2 (CA.has S w) l vs
  | [], [], _ => trivial
  | _ :: _, _ :: _, h => ⟨h.1, has_caAV h.2⟩
  | [], _ :: _, h => h.elim
  | _ :: _, [], h => h.elim
section
variable {P : Program} {C : Ctx} {st : St}
variable {ops rest : List Oper} {acc : List (List Nat × List Nat)} {K : List (List Nat × List Nat) → St → Prop} {dst : Option Tmp} {d : Tmp} {op : Op} {ty t t' : TypeId} {x y z : Operand}
def casOf : List AV → Option (List CA)
  | [] => some []
  | .it (.one (.c c)) :: l => match casOf l with | some m => some (c :: m) | none => none
  | _ :: _ => none
theorem casOf_spec : ∀ {l : List AV} {m : List CA}, casOf l = some m → l = m.map caAV
  | [], m, h => by simp [casOf] at h; subst h; rfl
  | v :: l, m, h => by
    unfold casOf at h
    split at h
    · rename_i heq; cases heq
    · rename_i c l' heq
      cases heq
      split at h
      · rename_i m' hm
        cases h
        rw [List.map_cons, casOf_spec hm]; rfl
      · cases h
    · cases h
theorem G.mkfn {f : FuncId} {bnd caps : Array Operand} {l l' : List AV} {bs cs : List CA} (next : Reg P C ops rest (st.app dst ⟨.r (cloR f bs cs), []⟩) (([], []) :: acc) K) (hd : dstOK dst C.nt = true := by rfl) (ha : evs st bnd.toList = some l := by rfl) (hc : casOf l = some bs := by rfl) (ha' : evs st caps.toList = some l' := by rfl) (hc' : casOf l' = some cs := by rfl) : Go1 P C ops dst (.makeFunc (.func f) bnd caps) ty rest st acc K :=
  Go1.pureV [] [] (by simp) hd (by simp) (fun o ho _ st' E S a w hev hs _ => by
    have hop : o.op.operands = bnd ++ caps := by rw [ho]; simp [Op.operands]
    have h1 : evs st' bnd.toList = some l := by rw [evs_congr (fun x hx => hev x (by rw [hop]; simp at hx ⊢; exact .inl hx))]; exact ha
    have h2 : evs st' caps.toList = some l' := by rw [evs_congr (fun x hx => hev x (by rw [hop]; simp at hx ⊢; exact .inr hx))]; exact ha'
    obtain ⟨g1, _⟩ := evs_has hs h1
    obtain ⟨g2, _⟩ := evs_has hs h2
    rw [casOf_spec hc] at g1
    rw [casOf_spec hc'] at g2
    refine ⟨fun i hi => (by cases hi), _, by unfold execOp; rw [ho]; simp [Instr.makeFunc]; rfl, bnd.toList.map a.eval, caps.toList.map a.eval, ?_, has_caAV g1, has_caAV g2⟩
    congr 1 <;> (apply Array.ext'; simp)) next
theorem G.mkfnA {f : FuncId} {x : Operand} {l : List Atom} {m : List CA} (next : Reg P C ops rest (st.app dst ⟨.r (cloA f m), []⟩) (([], []) :: acc) K) (hd : dstOK dst C.nt = true := by rfl) (ha : st.ev x = some (.agg l) := by rfl) (hc : closedL l = some m := by rfl) : Go1 P C ops dst (.makeFunc (.func f) #[x] #[]) ty rest st acc K :=
  Go1.pureV [] [] (by simp) hd (by simp) (fun o ho _ st' E S a w hev hs _ => by
    obtain ⟨⟨us, hv, hall⟩, _⟩ := hs.ev ((hev x (by simp [ho, Op.operands])).trans ha)
    rw [closedL_spec hc] at hall
    refine ⟨fun i hi => (by cases hi), .func (.func f) #[.agg us.toArray] #[], ?_, us, rfl, all2_closed hall⟩
    unfold execOp; rw [ho]; simp [Instr.makeFunc, hv]) next
theorem run_enterF {o : Oper} {f : FuncId} {as : Array Operand} {tys : Array TypeId} {us vs : Array Value} {fx : Operand} {ρ : Operand → Value} (ho : o.op = .call ⟨.value fx, as, tys⟩) (hf : ρ fx = .func (.func f) us vs)
    (he : ∃ fn, P.funcs[f]? = some fn ∧ (fn.name == "runtime.NumGoroutine") = false ∧ fn.body.isNone = false) (w : World) : (execOp ρ o).run P w = .ok (.enter f (us ++ as.map ρ ++ vs)) w := by
  obtain ⟨fn, h1, h2, h3⟩ := he
  unfold execOp
  rw [ho]
  have h2' : fn.name ≠ "runtime.NumGoroutine" := by simpa using h2
  have h3' : fn.body ≠ none := by intro e; rw [e] at h3; cases h3
  simp [resolve, hf, Deferred.ofValue, invoke, callFunc, h1, h2', h3']
theorem G.callF {fx : Operand} {c : CA} {as : Array Operand} {tys : Array TypeId} {args : List AV} {r : AV} (next : Reg P C ops rest (st.app dst ⟨r, []⟩) (([], []) :: acc) K) (hd : dstOK dst C.nt = true := by rfl) (hf : st.ev fx = some (.it (.one (.c c))) := by rfl) (ha : evs st as.toList = some args := by rfl)
    (hc : FnV P c args r := by assumption) (hr : r.ids = [] := by rfl) : Go1 P C ops dst (.call ⟨.value fx, as, tys⟩) ty rest st acc K := by
  refine ⟨[], ⟨r, []⟩, fun o h2 h3 h4 => OpOK.eff [] [] (fun b hb => ?_) (h2 ▸ dstOK_spec hd) (fun b e hb => by cases hb) (fun b e hb => by cases hb) (fun b s hb => by cases hb) (fun b s hb => by cases hb) (fun st' E S a w hev hhp hs _ _ => ?_), next⟩
  · rcases hb with ⟨e, hb⟩ | ⟨e, hb⟩ | ⟨s, hb⟩ <;> cases hb
  · have hop : o.op.operands = #[fx] ++ as := by rw [h3]; rfl
    have ha' : evs st' as.toList = some args := by rw [evs_congr (fun x hx => hev x (by rw [hop]; simp at hx; simp [hx]))]; exact ha
    obtain ⟨hall, hids⟩ := evs_has hs ha'
    have hcl := (hs.ev ((hev fx (by rw [hop]; simp)).trans hf)).1
    obtain ⟨f, us, vs, bs, cs, hv, g1, g2, hent, hcall⟩ := hc S w _ hcl
    refine ⟨⟨fun i hi => (by rw [hr] at hi; cases hi), fun b e hb => by cases hb⟩, fun K Q hK => ?_⟩
    have hcalls := hcall E S w (us ++ as.toList.map a.eval ++ vs) hs.lt hs.gl (((g1 E).append hall).append (g2 E)) (fun b e hb => by cases hb) (fun b e k hb => by cases hb) (fun b b' e e' k _ hb => by cases hb)
    unfold Oper.wp
    rw [run_enterF h3 hv hent w]
    have harr : us.toArray ++ as.map a.eval ++ vs.toArray = (us ++ as.toList.map a.eval ++ vs).toArray := by
      apply Array.ext'; simp
    show Calls P f _ w _
    rw [harr]
    exact hcalls.mono fun e w' ⟨v, E', S', he, hE⟩ => by subst he; exact hK v w' E' S' hE
end
theorem FnV.const {P : Program} {f : FuncId} {args : List AV} {r : AV} (h : PureOK P f args r) : FnV P (.sat (cloR f [] [])) args r := FnV.clo (by simpa using h)
end SX
set_option linter.unusedVariables false
set_option linter.unusedSimpArgs false
namespace SX
open Go Go.RowKit
def hdrs (s : Value) : List Value := match s with | .agg a => a.toList | v => [v]
def hdrAt (s : Value) (j : Nat) : Value := (hdrs s).getD j undef
def hdrR (j : Nat) : Nat → Value → Value → Prop := fun _ s v => v = hdrAt s j
def hptrR (j off : Nat) : Nat → Value → Value → Prop := fun _ s v => ∃ g n cap, hdrAt s j = .slice (some ⟨g, 0, none⟩) n cap ∧ v = .pointer (some ⟨g, off, none⟩)
def hsubR (i : Nat) : Nat → Value → Value → Prop := fun _ s v => ∃ a n cap, hdrAt s 0 = .slice a n cap ∧ i ≤ n ∧ v = .slice (if cap = i then a else a.map (·.add (i * 1))) (n - i) (cap - i)
abbrev hdrA (b j : Nat) : Atom := .rel b (hdrR j)
section
variable {α : Type}
structure RowsHas (tO tI : TypeId) (size : Nat) (enc : α → List CA) (js : List Nat) (c : List (List α)) (v : Value) (X S : Nat → Prop) (w : World) : Prop where
  out : w.ownsRow 0 tO 1 (hdrAt v 0) js.length (js.map fun j => hdrAt v (j + 1))
  lt : ∀ j ∈ js, j < c.length
  inn : ∀ j l, c[j]? = some l → ∃ vs, w.ownsRow 0 tI size (hdrAt v (j + 1)) l.length vs ∧ All2 (CA.has S w) (l.flatMap enc) vs
  sep : ∀ i j k, i < c.length + 1 → j < c.length + 1 → i ≠ j → (hdrAt v i).ownBlock = some k → (hdrAt v j).ownBlock ≠ some k
  X : ∀ k, X k ↔ ∃ i, i < c.length + 1 ∧ (hdrAt v i).ownBlock = some k
def rowsE (tO tI : TypeId) (size : Nat) (enc : α → List CA) (js : List Nat) (c : List (List α)) : AEnt where
  has _ v X S w := RowsHas tO tI size enc js c v X S w
  step := fun {b v X S S' w w'} h ho hs hX => by
    refine ⟨ownsRow_block h.out fun k hk => hX k ((h.X k).2 ⟨0, by omega, hk⟩), h.lt, fun j l hj => ?_, h.sep, h.X⟩
    have hjl : j < c.length := by
      rcases Nat.lt_or_ge j c.length with h | h
      · exact h
      · rw [List.getElem?_eq_none h] at hj; cases hj
    obtain ⟨vs, h1, h2⟩ := h.inn j l hj
    exact ⟨vs, ownsRow_block h1 fun k hk => hX k ((h.X k).2 ⟨j + 1, by omega, hk⟩), h2.mono fun a u _ ha => ha.step ho hs⟩
def HasRow (A : AEnt) (i : Nat) (e : TypeId) (size n : Nat) : Prop := ∀ b v X S w, A.has b v X S w → ∃ vs, w.ownsRow 0 e size (hdrAt v i) n vs
end
section
variable {P : Program} {C : Ctx} {st : St} {α : Type}
variable {ops rest : List Oper} {acc : List (List Nat × List Nat)} {K : List (List Nat × List Nat) → St → Prop} {dst : Option Tmp} {d : Tmp} {op : Op} {ty t t' : TypeId} {x y z : Operand} {k : IntKind}
theorem spl_map {β : Type} (f : Nat → β) : ∀ (l : List Nat) (i j : Nat), i < l.length → spl (l.map f) i [f j] = (l.set i j).map f
  | [], i, j, h => by simp at h
  | x :: l, 0, j, h => by cases l <;> simp [spl]
  | x :: l, i + 1, j, h => by simp only [List.map_cons, spl, List.set_cons_succ]; rw [spl_map f l i j (by simpa using h)]
end
section
variable {α : Type}
structure LitHas (tI : TypeId) (size : Nat) (enc : α → List CA) (l : List α) (v : Value) (X S : Nat → Prop) (w : World) : Prop where
  lit : (sliceR 1 1 [.val (hdrAt v 1)]).has S w (hdrAt v 0)
  row : ∃ vs, w.ownsRow 0 tI size (hdrAt v 1) l.length vs ∧ All2 (CA.has S w) (l.flatMap enc) vs
  X : ∀ k, X k ↔ (hdrAt v 1).ownBlock = some k
def litE (tI : TypeId) (size : Nat) (enc : α → List CA) (l : List α) : AEnt where
  has _ v X S w := LitHas tI size enc l v X S w
  step := fun {b v X S S' w w'} h ho hs hX => by
    obtain ⟨vs, h1, h2⟩ := h.row
    exact ⟨(sliceR 1 1 [.val (hdrAt v 1)]).step h.lit ho hs, ⟨vs, ownsRow_block h1 fun k hk => hX k ((h.X k).2 hk), h2.mono fun a u _ ha => ha.step ho hs⟩, h.X⟩
end
section
variable {P : Program} {C : Ctx} {st : St} {α : Type}
variable {ops rest : List Oper} {acc : List (List Nat × List Nat)} {K : List (List Nat × List Nat) → St → Prop} {dst : Option Tmp} {d : Tmp} {op : Op} {ty t t' : TypeId} {x y z : Operand} {k : IntKind}
end
end SX
set_option linter.unusedVariables false
set_option linter.unusedSimpArgs false
namespace SX
open Go Go.RowKit
section
variable {ι : Type}
structure BunHas (φ : ι → Prop) (t : TypeId) (cells : ι → List Atom) (R : ι → List (Nat × Ent)) (bk : Nat) (X S : Nat → Prop) (w : World) (p : ι) (E : Env) : Prop where
  φ : φ p
  box : ∃ cs : List Value, w.heap[bk]? = some (.cells cs.toArray t (0, 0)) ∧ All2 (Atom.has E S w) (cells p) cs
  ents : ∀ i e, (i, e) ∈ R p → e.has E S w i
  sep : ∀ i i' e e' k, i ≠ i' → (i, e) ∈ R p → (i', e') ∈ R p → e.at E i k → ¬ e'.at E i' k
  sepb : ∀ i e, (i, e) ∈ R p → ¬ e.at E i bk
  X : ∀ k, X k ↔ k = bk ∨ ∃ i e, (i, e) ∈ R p ∧ e.at E i k
def bunE (b : Nat) (φ : ι → Prop) (t : TypeId) (cells : ι → List Atom) (R : ι → List (Nat × Ent)) : AEnt where
  has bk v X S w := ∃ p E, (E.blk b = bk ∧ E.sl b = v) ∧ BunHas φ t cells R bk X S w p E
  step := fun {bk v X S S' w w'} ⟨p, E, hself, h⟩ ho hs hX => by
    refine ⟨p, E, hself, h.φ, ?_, fun i e hi => ?_, h.sep, h.sepb, h.X⟩
    · obtain ⟨cs, h1, h2⟩ := h.box
      exact ⟨cs, by rw [hX bk ((h.X bk).2 (.inl rfl))]; exact h1, h2.mono fun a u _ ha => ha.step (fun _ _ => ⟨rfl, rfl⟩) ho hs⟩
    · exact (h.ents i e hi).step (fun _ _ => ⟨rfl, rfl⟩) ⟨rfl, rfl⟩ ho hs (fun k hk => hX k ((h.X k).2 (.inr ⟨i, e, hi, hk⟩))) rfl
def openSt (st : St) (b : Nat) (t : TypeId) (cells : List Atom) (R : List (Nat × Ent)) : St := ⟨st.tm, updL st.hp ((b, .ent (.box t cells)) :: R.map fun q => (q.1, .ent q.2))⟩
end
def AtomTo (ρ : List (Nat × Option Nat)) (x y : Atom) : Prop := ∀ E S w v, x.has E S w v → y.has (reEnv ρ E) S w v
def AtomsTo (ρ : List (Nat × Option Nat)) : List Atom → List Atom → Prop
  | [], [] => True
  | a :: l, b :: m => AtomTo ρ a b ∧ AtomsTo ρ l m
  | _, _ => False
theorem AtomTo.same {ρ : List (Nat × Option Nat)} {x : Atom} (h : fresh ρ x.ids = true) : AtomTo ρ x x := fun E S w v hv => hv.env (fresh_at h E)
theorem AtomTo.own {ρ : List (Nat × Option Nat)} {o b : Nat} (h : lk ρ b = some (some o)) : AtomTo ρ (.own o) (.own b) := fun E S w v hv => by
  obtain ⟨h1, h2⟩ := hv
  exact ⟨by simp only [reEnv, h]; exact h1, h2⟩
theorem AtomTo.nil {ρ : List (Nat × Option Nat)} {b : Nat} (h : lk ρ b = some none) : AtomTo ρ (.c (.val (.slice none 0 0))) (.own b) := fun E S w v hv => by
  have hv' : v = .slice none 0 0 := hv
  subst hv'
  exact ⟨by simp only [reEnv, h], rfl⟩
theorem AtomsTo.all {ρ : List (Nat × Option Nat)} {E : Env} {S : Nat → Prop} {w : World} : ∀ {l m : List Atom} {vs : List Value}, AtomsTo ρ l m → All2 (Atom.has E S w) l vs → All2 (Atom.has (reEnv ρ E) S w) m vs
  | [], [], [], _, _ => trivial
  | a :: l, b :: m, v :: vs, h, k => ⟨h.1 E S w v k.1, h.2.all k.2⟩
  | [], [], _ :: _, _, k => k.elim
  | _ :: _, _ :: _, [], _, k => k.elim
  | [], _ :: _, _, h, _ => h.elim
  | _ :: _, [], _, h, _ => h.elim
theorem EntTo.boxTo {st : St} {ρ : List (Nat × Option Nat)} {b : Nat} {t : TypeId} {cells0 cells : List Atom} (h : st.hp b = .ent (.box t cells0)) (hf : fresh ρ [b] = true) (hi : AtomsTo ρ cells0 cells) : EntTo st ρ b (.box t cells) := by
  have ha := fresh_at hf
  refine .old b _ h (.inr ⟨?_, rfl⟩) (fun E S w hh => ?_) (fun E => by funext k; simp only [Ent.at, (ha E b List.mem_cons_self).1])
  · have := List.all_eq_true.1 hf b List.mem_cons_self
    simpa using this
  · obtain ⟨cs, h1, h2⟩ := hh
    exact ⟨cs, by rw [(ha E b List.mem_cons_self).1]; exact h1, hi.all h2⟩
structure Hide (p : Prop) : Prop where
  out : p
def closeSt (st : St) (b : Nat) (A : AEnt) (os : List Nat) : St := ⟨st.tm, updL st.hp ((b, .ent (.abs A)) :: os.map fun o => (o, .gone))⟩
end SX
set_option linter.unusedVariables false
set_option linter.unusedSimpArgs false
namespace SX
open Go Go.RowKit
section
variable {P : Program} {C : Ctx} {st : St} {α : Type}
variable {ops rest : List Oper} {acc : List (List Nat × List Nat)} {K : List (List Nat × List Nat) → St → Prop} {dst : Option Tmp} {d : Tmp} {op : Op} {ty t t' : TypeId} {x y z : Operand} {k : IntKind}
end
end SX
set_option linter.unusedVariables false
set_option linter.unusedSimpArgs false
namespace SX
open Go Go.RowKit
theorem closedL_map : ∀ m : List CA, closedL (m.map Atom.c) = some m
  | [] => rfl
  | c :: m => by simp [closedL, closedL_map m]
theorem map_open {cells : List Atom} {m : List CA} (h : cells = m.map Atom.c) : closedL cells = some m := by rw [h]; exact closedL_map m
section
variable {P : Program} {C : Ctx} {st : St} {α : Type}
variable {ops rest : List Oper} {acc : List (List Nat × List Nat)} {K : List (List Nat × List Nat) → St → Prop} {dst : Option Tmp} {d : Tmp} {op : Op} {ty t t' : TypeId} {x y z : Operand} {k : IntKind}
theorem G.storeOWA {i : Nat} {enc : α → List CA} {l : List α} {a : α} {v : AV0} {e : TypeId} {b n size : Nat} [he : EncLen enc size] (next : Reg P C ops rest (st.app none ⟨.v undef, [(b, .ent (.row e size n ((l.set i a).flatMap enc)))]⟩) (([b], [b]) :: acc) K) (hs : (P.info? t).map (·.size) = some size := by kernel_rfl) (hx : st.ev x = some (.it (.one (.rptr b (i * size)))) := by rfl) (hy : st.ev y = some (.it v) := by rfl) (hb : st.hp b = .ent (.row e size n (l.flatMap enc)) := by rfl) (hv : v.cells = (enc a).map Atom.c := by rfl) (h1 : v.cells.all Atom.oneB = true := by rfl) (hi : i < l.length := by omega) (hn : n = l.length := by first | rfl | omega) : Go1 P C ops none (.store t x y) ty rest st acc K :=
  Go1.storeO hs hx hy hb (by rw [hv, List.length_map]; exact he.h a) (by subst hn; have := Nat.mul_le_mul_right size (show i + 1 ≤ l.length from hi); rw [Nat.succ_mul] at this; exact this) h1 (map_open hv) (flat_set l i a hi) next
end
structure HeldQ (q : Prop) : Prop where
  out : q
theorem goQ {p q : Prop} (h : q) (k : HeldQ q → p := by
    intro h
    (first
      | (refine SX.Go1.is ?_; first
          | (refine SX.Go1.isLoad ?_; first | refine SX.G.load2 ?_ | refine SX.G.load1 ?_ | refine SX.G.loadR1 ?_ | refine SX.G.loadR2 ?_ | refine SX.G.load4 ?_ | refine SX.G.loadR4 ?_ | refine SX.G.load5 ?_ | refine SX.G.loadH ?_ | refine SX.G.loadHI ?_ | refine SX.G.loadOWA ?_ | refine SX.G.load3 ?_ | refine SX.G.loadR3 ?_ | refine SX.G.loadOW ?_ | refine SX.G.loadO1 ?_)
          | (refine SX.Go1.isBin ?_; first | refine SX.G.lss ?_ | refine SX.G.eql ?_ | refine SX.G.neq ?_ | refine SX.G.gtr ?_ | refine SX.G.geq ?_ | refine SX.G.leq ?_ | refine SX.G.addN ?_ | refine SX.G.addNu ?_ | refine SX.G.subN ?_ | refine SX.G.subNu ?_ | refine SX.G.add ?_ | refine SX.G.sub ?_ | refine SX.G.mulN ?_ | refine SX.G.mulNu ?_ | refine SX.G.mul ?_ | refine SX.G.quoN ?_ | refine SX.G.quoNu ?_ | refine SX.G.quo ?_ | refine SX.G.remN ?_ | refine SX.G.remNu ?_ | refine SX.G.rem ?_ | refine SX.G.eqlT ?_ | refine SX.G.neqT ?_ | refine SX.G.eqlB ?_ | refine SX.G.neqB ?_ | refine SX.G.shr ?_ | refine SX.G.shl ?_ | refine SX.G.and ?_ | refine SX.G.addT ?_)
          | (refine SX.Go1.isUn ?_; first | refine SX.G.not ?_ | refine SX.G.neg ?_)
          | (refine SX.Go1.isField ?_; first | refine SX.G.fieldAddr ?_ | refine SX.G.fieldAddrR ?_)
          | (refine SX.Go1.isBuild ?_; first | refine SX.G.buildA ?_ | refine SX.G.build2 ?_ | refine SX.G.build3 ?_ | refine SX.G.build4 ?_ | refine SX.G.build5 ?_ | refine SX.G.build ?_)
          | (refine SX.Go1.isStore ?_; first | refine SX.G.store ?_ | refine SX.G.storeP ?_ | refine SX.G.storeH ?_ | refine SX.G.storeHI ?_ | refine SX.G.storeOWA ?_ | refine SX.G.storeO ?_)
          | (refine SX.Go1.isIx ?_; first | refine SX.G.indexAddrW ?_ | refine SX.G.indexAddrV ?_ | refine SX.G.indexAddrR ?_ | refine SX.G.indexAddrH ?_ | refine SX.G.indexAddrO ?_)
          | (refine SX.Go1.isBuildS ?_; first | refine SX.G.litH ?_ | refine SX.G.litOwn ?_ | refine SX.G.lit2Own ?_ | refine SX.G.lit2 ?_ | refine SX.G.lit3 ?_ | refine SX.G.lit1 ?_)
          | (refine SX.Go1.isCall ?_; first | refine SX.G.minN ?_ | refine SX.G.maxN ?_ | refine SX.G.lenR ?_ | refine SX.G.lenN ?_ | refine SX.G.lenT ?_ | refine SX.G.lenS ?_ | refine SX.G.lenO ?_ | refine SX.G.appendW ?_ | refine SX.G.appendNilW ?_ | refine SX.G.lenH ?_ | refine SX.G.appendH ?_ | refine SX.G.callF ?_ | refine SX.G.callP ?_ | refine SX.G.callB ?_ | refine SX.G.callOwn ?_ | refine SX.G.call ?_)
          | refine SX.G.move ?_ | refine SX.G.assign ?_ | refine SX.G.extract ?_ | refine SX.G.boxN ?_ | refine SX.G.box ?_ | refine SX.G.allocN ?_ | refine SX.G.alloc ?_ | refine SX.G.nilCheckP ?_ | refine SX.G.nilCheckR ?_ | refine SX.G.mkfn ?_ | refine SX.G.mkclo ?_ | refine SX.G.mkbnd ?_ | refine SX.G.pick ?_ | refine SX.R.pickT ?_ | refine SX.R.pickF ?_ | refine SX.G.pickB ?_ | refine SX.G.pickV ?_ | refine SX.G.makeN ?_ | refine SX.G.convN ?_ | refine SX.G.conv ?_ | refine SX.G.convBS ?_ | refine SX.G.sliceH ?_ | refine SX.G.sliceHiW ?_ | refine SX.G.sliceLoW ?_ | refine SX.G.sliceHiR ?_ | refine SX.G.sliceLoR ?_ | refine SX.G.sliceHiO ?_ | refine SX.G.sliceHiT ?_ | refine SX.G.sliceLoT ?_ | refine SX.G.sliceLHT ?_ | refine SX.G.indexA ?_ | refine SX.G.indexT ?_ | refine SX.G.sliceHiS ?_ | refine SX.G.sliceLoS ?_ | refine SX.G.sliceLHS ?_ | refine SX.G.indexS ?_)
      | (refine SX.Reg.is ?_; first | refine SX.Reg.go ?_ | refine SX.R.runT ?_ | refine SX.R.runF ?_ | refine SX.R.skipT ?_ | refine SX.R.skipF ?_ | refine SX.R.skipU ?_ | refine SX.Reg.nil ⟨by kernel_rfl, ?_⟩ | refine SX.Reg.nil ?_)
      | (refine SX.WP.is ?_; first | refine SX.WP.seq ?_ | refine SX.WP.regionL ?_ | refine SX.WP.regionDL (by kernel_rfl) ?_ | refine SX.WP.block ?_ | refine SX.WP.skip ?_ | refine SX.WP.exit ?_ | refine SX.WP.ret ?_ | refine SX.WP.label ?_ | refine SX.W.condT ?_ | refine SX.W.condF ?_)
      | refine SX.thenN ?_ | refine SX.thenE ?_ | refine SX.thenR ?_ | refine SX.inBlkN ?_ | refine SX.inBlkR ?_ | refine SX.inBlkE ?_ | refine SX.inBlkO rfl ?_ | refine SX.retR ?_ | refine SX.retN ?_ | refine SX.retFR ?_ | refine SX.retFN ?_)
    repeat (first
      | (refine SX.Go1.is ?_; first
          | (refine SX.Go1.isLoad ?_; first | refine SX.G.load2 ?_ | refine SX.G.load1 ?_ | refine SX.G.loadR1 ?_ | refine SX.G.loadR2 ?_ | refine SX.G.load4 ?_ | refine SX.G.loadR4 ?_ | refine SX.G.load5 ?_ | refine SX.G.loadH ?_ | refine SX.G.loadHI ?_ | refine SX.G.loadOWA ?_ | refine SX.G.load3 ?_ | refine SX.G.loadR3 ?_ | refine SX.G.loadOW ?_ | refine SX.G.loadO1 ?_)
          | (refine SX.Go1.isBin ?_; first | refine SX.G.lss ?_ | refine SX.G.eql ?_ | refine SX.G.neq ?_ | refine SX.G.gtr ?_ | refine SX.G.geq ?_ | refine SX.G.leq ?_ | refine SX.G.addN ?_ | refine SX.G.addNu ?_ | refine SX.G.subN ?_ | refine SX.G.subNu ?_ | refine SX.G.add ?_ | refine SX.G.sub ?_ | refine SX.G.mulN ?_ | refine SX.G.mulNu ?_ | refine SX.G.mul ?_ | refine SX.G.quoN ?_ | refine SX.G.quoNu ?_ | refine SX.G.quo ?_ | refine SX.G.remN ?_ | refine SX.G.remNu ?_ | refine SX.G.rem ?_ | refine SX.G.eqlT ?_ | refine SX.G.neqT ?_ | refine SX.G.eqlB ?_ | refine SX.G.neqB ?_ | refine SX.G.shr ?_ | refine SX.G.shl ?_ | refine SX.G.and ?_ | refine SX.G.addT ?_)
          | (refine SX.Go1.isUn ?_; first | refine SX.G.not ?_ | refine SX.G.neg ?_)
          | (refine SX.Go1.isField ?_; first | refine SX.G.fieldAddr ?_ | refine SX.G.fieldAddrR ?_)
          | (refine SX.Go1.isBuild ?_; first | refine SX.G.buildA ?_ | refine SX.G.build2 ?_ | refine SX.G.build3 ?_ | refine SX.G.build4 ?_ | refine SX.G.build5 ?_ | refine SX.G.build ?_)
          | (refine SX.Go1.isStore ?_; first | refine SX.G.store ?_ | refine SX.G.storeP ?_ | refine SX.G.storeH ?_ | refine SX.G.storeHI ?_ | refine SX.G.storeOWA ?_ | refine SX.G.storeO ?_)
          | (refine SX.Go1.isIx ?_; first | refine SX.G.indexAddrW ?_ | refine SX.G.indexAddrV ?_ | refine SX.G.indexAddrR ?_ | refine SX.G.indexAddrH ?_ | refine SX.G.indexAddrO ?_)
          | (refine SX.Go1.isBuildS ?_; first | refine SX.G.litH ?_ | refine SX.G.litOwn ?_ | refine SX.G.lit2Own ?_ | refine SX.G.lit2 ?_ | refine SX.G.lit3 ?_ | refine SX.G.lit1 ?_)
          | (refine SX.Go1.isCall ?_; first | refine SX.G.minN ?_ | refine SX.G.maxN ?_ | refine SX.G.lenR ?_ | refine SX.G.lenN ?_ | refine SX.G.lenT ?_ | refine SX.G.lenS ?_ | refine SX.G.lenO ?_ | refine SX.G.appendW ?_ | refine SX.G.appendNilW ?_ | refine SX.G.lenH ?_ | refine SX.G.appendH ?_ | refine SX.G.callF ?_ | refine SX.G.callP ?_ | refine SX.G.callB ?_ | refine SX.G.callOwn ?_ | refine SX.G.call ?_)
          | refine SX.G.move ?_ | refine SX.G.assign ?_ | refine SX.G.extract ?_ | refine SX.G.boxN ?_ | refine SX.G.box ?_ | refine SX.G.allocN ?_ | refine SX.G.alloc ?_ | refine SX.G.nilCheckP ?_ | refine SX.G.nilCheckR ?_ | refine SX.G.mkfn ?_ | refine SX.G.mkclo ?_ | refine SX.G.mkbnd ?_ | refine SX.G.pick ?_ | refine SX.R.pickT ?_ | refine SX.R.pickF ?_ | refine SX.G.pickB ?_ | refine SX.G.pickV ?_ | refine SX.G.makeN ?_ | refine SX.G.convN ?_ | refine SX.G.conv ?_ | refine SX.G.convBS ?_ | refine SX.G.sliceH ?_ | refine SX.G.sliceHiW ?_ | refine SX.G.sliceLoW ?_ | refine SX.G.sliceHiR ?_ | refine SX.G.sliceLoR ?_ | refine SX.G.sliceHiO ?_ | refine SX.G.sliceHiT ?_ | refine SX.G.sliceLoT ?_ | refine SX.G.sliceLHT ?_ | refine SX.G.indexA ?_ | refine SX.G.indexT ?_ | refine SX.G.sliceHiS ?_ | refine SX.G.sliceLoS ?_ | refine SX.G.sliceLHS ?_ | refine SX.G.indexS ?_)
      | (refine SX.Reg.is ?_; first | refine SX.Reg.go ?_ | refine SX.R.runT ?_ | refine SX.R.runF ?_ | refine SX.R.skipT ?_ | refine SX.R.skipF ?_ | refine SX.R.skipU ?_ | refine SX.Reg.nil ⟨by kernel_rfl, ?_⟩ | refine SX.Reg.nil ?_)
      | (refine SX.WP.is ?_; first | refine SX.WP.seq ?_ | refine SX.WP.regionL ?_ | refine SX.WP.regionDL (by kernel_rfl) ?_ | refine SX.WP.block ?_ | refine SX.WP.skip ?_ | refine SX.WP.exit ?_ | refine SX.WP.ret ?_ | refine SX.WP.label ?_ | refine SX.W.condT ?_ | refine SX.W.condF ?_)
      | refine SX.thenN ?_ | refine SX.thenE ?_ | refine SX.thenR ?_ | refine SX.inBlkN ?_ | refine SX.inBlkR ?_ | refine SX.inBlkE ?_ | refine SX.inBlkO rfl ?_ | refine SX.retR ?_ | refine SX.retN ?_ | refine SX.retFR ?_ | refine SX.retFN ?_)
    exact h.out) : p := k ⟨h⟩
end SX
set_option linter.unusedVariables false
set_option linter.unusedSimpArgs false
namespace SX
open Go Go.RowKit
def mkOne : Op → Bool
  | .makeFunc _ a c => Nat.beq a.size 0 && Nat.beq c.size 0
  | _ => true
def noMk : List Oper → Bool
  | [] => true
  | o :: l => match mkOne o.op with | true => noMk l | false => false
section
variable {P : Program} {C : Ctx} {st : St} {Q : Exit → St → Prop}
theorem WP.regionN {id : Nat} {l : List Oper} (hn : noMk l = true) (h : Reg P C l l st [] (fun _ st' => Q .normal st')) : WP P C (.region id l.toArray false) st Q := WP.regionL h
theorem WP.regionDN {id : Nat} {l : List Oper} (hn : noMk l = true) (hm : P.follows .mixedOrders = true) (h : Reg P C l l st [] (fun feet st' => check l.toArray feet = true ∧ Q .normal st')) : WP P C (.region id l.toArray true) st Q := WP.regionDL hm h
end
section
variable {P : Program} {C : Ctx} {st : St}
variable {ops rest : List Oper} {acc : List (List Nat × List Nat)} {K : List (List Nat × List Nat) → St → Prop} {dst : Option Tmp} {ty t e : TypeId} {x y : Operand} {k : IntKind} {n size : Nat}
end
structure HeldF (q : Prop) : Prop where
  out : q
theorem goF {p q : Prop} (h : q) (k : HeldF q → p := by
    intro h
    (first
      | (refine SX.Go1.is ?_; first
          | (refine SX.Go1.isLoad ?_; first | refine SX.G.load2 ?_ | refine SX.G.load1 ?_ | refine SX.G.loadR1 ?_ | refine SX.G.loadR2 ?_ | refine SX.G.load4 ?_ | refine SX.G.loadR4 ?_ | refine SX.G.load5 ?_ | refine SX.G.loadH ?_ | refine SX.G.loadHI ?_ | refine SX.G.loadOWA ?_ | refine SX.G.load3 ?_ | refine SX.G.loadR3 ?_ | refine SX.G.loadOW ?_ | refine SX.G.loadO1 ?_)
          | (refine SX.Go1.isBin ?_; first | refine SX.G.lss ?_ | refine SX.G.eql ?_ | refine SX.G.neq ?_ | refine SX.G.gtr ?_ | refine SX.G.geq ?_ | refine SX.G.leq ?_ | refine SX.G.addN ?_ | refine SX.G.addNu ?_ | refine SX.G.subN ?_ | refine SX.G.subNu ?_ | refine SX.G.add ?_ | refine SX.G.sub ?_ | refine SX.G.mulN ?_ | refine SX.G.mulNu ?_ | refine SX.G.mul ?_ | refine SX.G.quoN ?_ | refine SX.G.quoNu ?_ | refine SX.G.quo ?_ | refine SX.G.remN ?_ | refine SX.G.remNu ?_ | refine SX.G.rem ?_ | refine SX.G.eqlT ?_ | refine SX.G.neqT ?_ | refine SX.G.eqlB ?_ | refine SX.G.neqB ?_ | refine SX.G.shr ?_ | refine SX.G.shl ?_ | refine SX.G.and ?_ | refine SX.G.addT ?_)
          | (refine SX.Go1.isUn ?_; first | refine SX.G.not ?_ | refine SX.G.neg ?_)
          | (refine SX.Go1.isField ?_; first | refine SX.G.fieldAddr ?_ | refine SX.G.fieldAddrR ?_)
          | (refine SX.Go1.isBuild ?_; first | refine SX.G.buildA ?_ | refine SX.G.build2 ?_ | refine SX.G.build3 ?_ | refine SX.G.build4 ?_ | refine SX.G.build5 ?_ | refine SX.G.build ?_)
          | (refine SX.Go1.isStore ?_; first | refine SX.G.store ?_ | refine SX.G.storeP ?_ | refine SX.G.storeH ?_ | refine SX.G.storeHI ?_ | refine SX.G.storeOWA ?_ | refine SX.G.storeO ?_)
          | (refine SX.Go1.isIx ?_; first | refine SX.G.indexAddrW ?_ | refine SX.G.indexAddrV ?_ | refine SX.G.indexAddrR ?_ | refine SX.G.indexAddrH ?_ | refine SX.G.indexAddrO ?_ | refine SX.G.indexAddrA ?_)
          | (refine SX.Go1.isBuildS ?_; first | refine SX.G.litH ?_ | refine SX.G.litOwn ?_ | refine SX.G.lit2Own ?_ | refine SX.G.lit2 ?_ | refine SX.G.lit3 ?_ | refine SX.G.lit1 ?_)
          | (refine SX.Go1.isCall ?_; first | refine SX.G.minN ?_ | refine SX.G.maxN ?_ | refine SX.G.lenR ?_ | refine SX.G.lenN ?_ | refine SX.G.lenT ?_ | refine SX.G.lenS ?_ | refine SX.G.lenO ?_ | refine SX.G.appendW ?_ | refine SX.G.appendNilW ?_ | refine SX.G.lenH ?_ | refine SX.G.appendH ?_ | refine SX.G.callF ?_ | refine SX.G.callP ?_ | refine SX.G.callB ?_ | refine SX.G.callOwn ?_ | refine SX.G.call ?_)
          | refine SX.G.move ?_ | refine SX.G.assign ?_ | refine SX.G.extract ?_ | refine SX.G.boxN ?_ | refine SX.G.box ?_ | refine SX.G.allocN ?_ | refine SX.G.alloc ?_ | refine SX.G.nilCheckP ?_ | refine SX.G.nilCheckR ?_ | refine SX.G.mkfn ?_ | refine SX.G.mkfnA ?_ | refine SX.G.mkclo ?_ | refine SX.G.mkbnd ?_ | refine SX.G.pick ?_ | refine SX.R.pickT ?_ | refine SX.R.pickF ?_ | refine SX.G.pickB ?_ | refine SX.G.pickV ?_ | refine SX.G.makeN ?_ | refine SX.G.convN ?_ | refine SX.G.conv ?_ | refine SX.G.convBS ?_ | refine SX.G.sliceH ?_ | refine SX.G.sliceHiW ?_ | refine SX.G.sliceLoW ?_ | refine SX.G.sliceHiR ?_ | refine SX.G.sliceLoR ?_ | refine SX.G.sliceHiO ?_ | refine SX.G.sliceHiT ?_ | refine SX.G.sliceLoT ?_ | refine SX.G.sliceLHT ?_ | refine SX.G.indexA ?_ | refine SX.G.indexT ?_ | refine SX.G.sliceHiS ?_ | refine SX.G.sliceLoS ?_ | refine SX.G.sliceLHS ?_ | refine SX.G.indexS ?_)
      | (refine SX.Reg.is ?_; first | refine SX.Reg.go ?_ | refine SX.R.runT ?_ | refine SX.R.runF ?_ | refine SX.R.skipT ?_ | refine SX.R.skipF ?_ | refine SX.R.skipU ?_ | refine SX.Reg.nil ⟨by kernel_rfl, ?_⟩ | refine SX.Reg.nil ?_)
      | (refine SX.WP.is ?_; first | refine SX.WP.seq ?_ | refine SX.WP.regionN (by rfl) ?_ | refine SX.WP.regionDN (by rfl) (by kernel_rfl) ?_ | refine SX.WP.block ?_ | refine SX.WP.skip ?_ | refine SX.WP.exit ?_ | refine SX.WP.ret ?_ | refine SX.WP.label ?_ | refine SX.W.condT ?_ | refine SX.W.condF ?_)
      | refine SX.thenN ?_ | refine SX.thenE ?_ | refine SX.thenR ?_ | refine SX.inBlkN ?_ | refine SX.inBlkR ?_ | refine SX.inBlkE ?_ | refine SX.inBlkO rfl ?_ | refine SX.retR ?_ | refine SX.retN ?_ | refine SX.retFR ?_ | refine SX.retFN ?_)
    repeat (first
      | (refine SX.Go1.is ?_; first
          | (refine SX.Go1.isLoad ?_; first | refine SX.G.load2 ?_ | refine SX.G.load1 ?_ | refine SX.G.loadR1 ?_ | refine SX.G.loadR2 ?_ | refine SX.G.load4 ?_ | refine SX.G.loadR4 ?_ | refine SX.G.load5 ?_ | refine SX.G.loadH ?_ | refine SX.G.loadHI ?_ | refine SX.G.loadOWA ?_ | refine SX.G.load3 ?_ | refine SX.G.loadR3 ?_ | refine SX.G.loadOW ?_ | refine SX.G.loadO1 ?_)
          | (refine SX.Go1.isBin ?_; first | refine SX.G.lss ?_ | refine SX.G.eql ?_ | refine SX.G.neq ?_ | refine SX.G.gtr ?_ | refine SX.G.geq ?_ | refine SX.G.leq ?_ | refine SX.G.addN ?_ | refine SX.G.addNu ?_ | refine SX.G.subN ?_ | refine SX.G.subNu ?_ | refine SX.G.add ?_ | refine SX.G.sub ?_ | refine SX.G.mulN ?_ | refine SX.G.mulNu ?_ | refine SX.G.mul ?_ | refine SX.G.quoN ?_ | refine SX.G.quoNu ?_ | refine SX.G.quo ?_ | refine SX.G.remN ?_ | refine SX.G.remNu ?_ | refine SX.G.rem ?_ | refine SX.G.eqlT ?_ | refine SX.G.neqT ?_ | refine SX.G.eqlB ?_ | refine SX.G.neqB ?_ | refine SX.G.shr ?_ | refine SX.G.shl ?_ | refine SX.G.and ?_ | refine SX.G.addT ?_)
          | (refine SX.Go1.isUn ?_; first | refine SX.G.not ?_ | refine SX.G.neg ?_)
          | (refine SX.Go1.isField ?_; first | refine SX.G.fieldAddr ?_ | refine SX.G.fieldAddrR ?_)
          | (refine SX.Go1.isBuild ?_; first | refine SX.G.buildA ?_ | refine SX.G.build2 ?_ | refine SX.G.build3 ?_ | refine SX.G.build4 ?_ | refine SX.G.build5 ?_ | refine SX.G.build ?_)
          | (refine SX.Go1.isStore ?_; first | refine SX.G.store ?_ | refine SX.G.storeP ?_ | refine SX.G.storeH ?_ | refine SX.G.storeHI ?_ | refine SX.G.storeOWA ?_ | refine SX.G.storeO ?_)
          | (refine SX.Go1.isIx ?_; first | refine SX.G.indexAddrW ?_ | refine SX.G.indexAddrV ?_ | refine SX.G.indexAddrR ?_ | refine SX.G.indexAddrH ?_ | refine SX.G.indexAddrO ?_ | refine SX.G.indexAddrA ?_)
          | (refine SX.Go1.isBuildS ?_; first | refine SX.G.litH ?_ | refine SX.G.litOwn ?_ | refine SX.G.lit2Own ?_ | refine SX.G.lit2 ?_ | refine SX.G.lit3 ?_ | refine SX.G.lit1 ?_)
          | (refine SX.Go1.isCall ?_; first | refine SX.G.minN ?_ | refine SX.G.maxN ?_ | refine SX.G.lenR ?_ | refine SX.G.lenN ?_ | refine SX.G.lenT ?_ | refine SX.G.lenS ?_ | refine SX.G.lenO ?_ | refine SX.G.appendW ?_ | refine SX.G.appendNilW ?_ | refine SX.G.lenH ?_ | refine SX.G.appendH ?_ | refine SX.G.callF ?_ | refine SX.G.callP ?_ | refine SX.G.callB ?_ | refine SX.G.callOwn ?_ | refine SX.G.call ?_)
          | refine SX.G.move ?_ | refine SX.G.assign ?_ | refine SX.G.extract ?_ | refine SX.G.boxN ?_ | refine SX.G.box ?_ | refine SX.G.allocN ?_ | refine SX.G.alloc ?_ | refine SX.G.nilCheckP ?_ | refine SX.G.nilCheckR ?_ | refine SX.G.mkfn ?_ | refine SX.G.mkfnA ?_ | refine SX.G.mkclo ?_ | refine SX.G.mkbnd ?_ | refine SX.G.pick ?_ | refine SX.R.pickT ?_ | refine SX.R.pickF ?_ | refine SX.G.pickB ?_ | refine SX.G.pickV ?_ | refine SX.G.makeN ?_ | refine SX.G.convN ?_ | refine SX.G.conv ?_ | refine SX.G.convBS ?_ | refine SX.G.sliceH ?_ | refine SX.G.sliceHiW ?_ | refine SX.G.sliceLoW ?_ | refine SX.G.sliceHiR ?_ | refine SX.G.sliceLoR ?_ | refine SX.G.sliceHiO ?_ | refine SX.G.sliceHiT ?_ | refine SX.G.sliceLoT ?_ | refine SX.G.sliceLHT ?_ | refine SX.G.indexA ?_ | refine SX.G.indexT ?_ | refine SX.G.sliceHiS ?_ | refine SX.G.sliceLoS ?_ | refine SX.G.sliceLHS ?_ | refine SX.G.indexS ?_)
      | (refine SX.Reg.is ?_; first | refine SX.Reg.go ?_ | refine SX.R.runT ?_ | refine SX.R.runF ?_ | refine SX.R.skipT ?_ | refine SX.R.skipF ?_ | refine SX.R.skipU ?_ | refine SX.Reg.nil ⟨by kernel_rfl, ?_⟩ | refine SX.Reg.nil ?_)
      | (refine SX.WP.is ?_; first | refine SX.WP.seq ?_ | refine SX.WP.regionN (by rfl) ?_ | refine SX.WP.regionDN (by rfl) (by kernel_rfl) ?_ | refine SX.WP.block ?_ | refine SX.WP.skip ?_ | refine SX.WP.exit ?_ | refine SX.WP.ret ?_ | refine SX.WP.label ?_ | refine SX.W.condT ?_ | refine SX.W.condF ?_)
      | refine SX.thenN ?_ | refine SX.thenE ?_ | refine SX.thenR ?_ | refine SX.inBlkN ?_ | refine SX.inBlkR ?_ | refine SX.inBlkE ?_ | refine SX.inBlkO rfl ?_ | refine SX.retR ?_ | refine SX.retN ?_ | refine SX.retFR ?_ | refine SX.retFN ?_)
    exact h.out) : p := k ⟨h⟩
end SX
set_option linter.unusedVariables false
set_option linter.unusedSimpArgs false
namespace SX
open Go Go.RowKit
section
variable {P : Program} {C : Ctx} {st : St}
variable {ops rest : List Oper} {acc : List (List Nat × List Nat)} {K : List (List Nat × List Nat) → St → Prop} {dst : Option Tmp} {d : Tmp} {op : Op} {ty t t' t'' e : TypeId} {x y : Operand} {k : IntKind} {n size : Nat}
def lkG (g : Nat) : List (Nat × List Value) → Option (List Value)
  | [] => none
  | (g', l) :: r => match Nat.beq g g' with | true => some l | false => lkG g r
class TPtr (P : Program) (t : TypeId) (e : outParam TypeId) : Prop where
  h : P.underlying t = some (.pointer e)
  s : (P.info? e).map (fun j => Nat.beq j.size 0) = some false
class TUns (P : Program) (t : TypeId) : Prop where
  h : P.underlying t = some .unsafePointer
class TByte (P : Program) (e : TypeId) : Prop where
  h : (P.info? e).map (fun i => (i.zero, i.size, i.bytes)) = some (some (.int .u8 0), 1, 1)
class TByteC (P : Program) (e : TypeId) : Prop where
  c : P.cellsOf e = 1
end
structure HeldG (q : Prop) : Prop where
  out : q
end SX
set_option linter.unusedVariables false
set_option linter.unusedSimpArgs false
namespace SX
open Go Go.RowKit
section
variable {P : Program} {C : Ctx} {st : St}
variable {ops rest : List Oper} {acc : List (List Nat × List Nat)} {K : List (List Nat × List Nat) → St → Prop} {dst : Option Tmp} {d : Tmp} {op : Op} {ty t t' : TypeId} {x y z : Operand}
theorem G.load15 {b off : Nat} {T : TypeId} {cells : List Atom} {a1 a2 a3 a4 a5 a6 a7 a8 a9 a10 a11 a12 a13 a14 a15 : Atom} [ht : TAgg P t 15] (next : Reg P C ops rest (st.app (some d) ⟨.agg [a1, a2, a3, a4, a5, a6, a7, a8, a9, a10, a11, a12, a13, a14, a15], []⟩) (([b], []) :: acc) K) (hd : dstOK (some d) C.nt = true := by rfl) (hx : st.ev x = some (.ptr b off) := by rfl) (hb : st.hp b = .ent (.box T cells) := by rfl) (hr : (cells.drop off).take 15 = [a1, a2, a3, a4, a5, a6, a7, a8, a9, a10, a11, a12, a13, a14, a15] := by rfl) : Go1 P C ops (some d) (.load t x) ty rest st acc K :=
  Go1.loadAgg hd hx hb (by have := congrArg List.length hr; simp at this; rw [Nat.ble_eq]; omega) hr next
theorem G.loadR15 {c1 c2 c3 c4 c5 c6 c7 c8 c9 c10 c11 c12 c13 c14 c15 : CA} {cells : List CA} [ht : TAgg P t 15] (next : Reg P C ops rest (st.app dst ⟨.agg [.c c1, .c c2, .c c3, .c c4, .c c5, .c c6, .c c7, .c c8, .c c9, .c c10, .c c11, .c c12, .c c13, .c c14, .c c15], []⟩) (([], []) :: acc) K) (hd : dstOK dst C.nt = true := by rfl) (hx : st.ev x = some (.r (ptrR cells)) := by rfl) (hl : cells = [c1, c2, c3, c4, c5, c6, c7, c8, c9, c10, c11, c12, c13, c14, c15] := by rfl) : Go1 P C ops dst (.load t x) ty rest st acc K := by
  subst hl; exact Go1.loadRAgg hd hx rfl next
theorem G.build15 {pl : List (Nat × Nat)} {zs : List Value} {parts : Array (Nat × Operand)} {ps : List (Nat × AV0)} {a1 a2 a3 a4 a5 a6 a7 a8 a9 a10 a11 a12 a13 a14 a15 : Atom} [ht : TStruct P t pl] [hz : TZero P t zs] (next : Reg P C ops rest (st.app (some d) ⟨.agg [a1, a2, a3, a4, a5, a6, a7, a8, a9, a10, a11, a12, a13, a14, a15], []⟩) (([], []) :: acc) K) (hd : dstOK (some d) C.nt = true := by rfl) (hp : evp st parts.toList = some ps := by rfl) (h1 : (ps.all fun p => p.2.cells.all Atom.oneB) = true := by rfl) (hf : fillA pl (zs.map fun v => Atom.c (.val v)) ps = some [a1, a2, a3, a4, a5, a6, a7, a8, a9, a10, a11, a12, a13, a14, a15] := by rfl) : Go1 P C ops (some d) (.build t parts) ty rest st acc K :=
  Go1.build hd hp h1 hf next
theorem ResOK.agg15 {t : Tmp} {T T' : TypeId} {b off : Nat} {cells : List Atom} {a1 a2 a3 a4 a5 a6 a7 a8 a9 a10 a11 a12 a13 a14 a15 : Atom} [ht : TAgg P T 15] (h : st.tm t = some (.ptr b off)) (hb : st.hp b = .ent (.box T' cells)) (hr : (cells.drop off).take 15 = [a1, a2, a3, a4, a5, a6, a7, a8, a9, a10, a11, a12, a13, a14, a15]) : ResOK P st (.cell t T) (.agg [a1, a2, a3, a4, a5, a6, a7, a8, a9, a10, a11, a12, a13, a14, a15]) :=
  ResOK.agg h hb (by have := congrArg List.length hr; simp at this; rw [Nat.ble_eq]; omega) hr
end
structure HeldN (q : Prop) : Prop where
  out : q
theorem goN {p q : Prop} (h : q) (k : HeldN q → p := by
    intro h
    (first
      | (refine SX.Go1.is ?_; first
          | (refine SX.Go1.isLoad ?_; first | refine SX.G.load2 ?_ | refine SX.G.load1 ?_ | refine SX.G.loadR1 ?_ | refine SX.G.loadR2 ?_ | refine SX.G.load4 ?_ | refine SX.G.loadR4 ?_ | refine SX.G.load5 ?_ | refine SX.G.load15 ?_ | refine SX.G.loadR15 ?_ | refine SX.G.loadH ?_ | refine SX.G.loadHI ?_ | refine SX.G.loadOWA ?_ | refine SX.G.load3 ?_ | refine SX.G.loadR3 ?_ | refine SX.G.loadOW ?_ | refine SX.G.loadO1 ?_)
          | (refine SX.Go1.isBin ?_; first | refine SX.G.lss ?_ | refine SX.G.eql ?_ | refine SX.G.neq ?_ | refine SX.G.gtr ?_ | refine SX.G.geq ?_ | refine SX.G.leq ?_ | refine SX.G.addN ?_ | refine SX.G.addNu ?_ | refine SX.G.subN ?_ | refine SX.G.subNu ?_ | refine SX.G.add ?_ | refine SX.G.sub ?_ | refine SX.G.mulN ?_ | refine SX.G.mulNu ?_ | refine SX.G.mul ?_ | refine SX.G.quoN ?_ | refine SX.G.quoNu ?_ | refine SX.G.quo ?_ | refine SX.G.remN ?_ | refine SX.G.remNu ?_ | refine SX.G.rem ?_ | refine SX.G.eqlT ?_ | refine SX.G.eqlNN ?_ | refine SX.G.eqlPN ?_ | refine SX.G.neqPP ?_ | refine SX.G.neqT ?_ | refine SX.G.eqlB ?_ | refine SX.G.neqB ?_ | refine SX.G.shr ?_ | refine SX.G.shl ?_ | refine SX.G.and ?_ | refine SX.G.addT ?_)
          | (refine SX.Go1.isUn ?_; first | refine SX.G.not ?_ | refine SX.G.neg ?_)
          | (refine SX.Go1.isField ?_; first | refine SX.G.fieldAddr ?_ | refine SX.G.fieldAddrR ?_)
          | (refine SX.Go1.isBuild ?_; first | refine SX.G.buildA ?_ | refine SX.G.build2 ?_ | refine SX.G.build3 ?_ | refine SX.G.build4 ?_ | refine SX.G.build5 ?_ | refine SX.G.build15 ?_ | refine SX.G.build ?_)
          | (refine SX.Go1.isStore ?_; first | refine SX.G.store ?_ | refine SX.G.storeP ?_ | refine SX.G.storeH ?_ | refine SX.G.storeHI ?_ | refine SX.G.storeOWA ?_ | refine SX.G.storeO ?_)
          | (refine SX.Go1.isIx ?_; first | refine SX.G.indexAddrW ?_ | refine SX.G.indexAddrV ?_ | refine SX.G.indexAddrR ?_ | refine SX.G.indexAddrH ?_ | refine SX.G.indexAddrO ?_ | refine SX.G.indexAddrA ?_ | refine SX.G.indexAddrG ?_)
          | (refine SX.Go1.isBuildS ?_; first | refine SX.G.litH ?_ | refine SX.G.litOwn ?_ | refine SX.G.lit2Own ?_ | refine SX.G.lit2 ?_ | refine SX.G.lit3 ?_ | refine SX.G.lit1 ?_)
          | (refine SX.Go1.isCall ?_; first | refine SX.G.minN ?_ | refine SX.G.maxN ?_ | refine SX.G.lenR ?_ | refine SX.G.lenN ?_ | refine SX.G.lenT ?_ | refine SX.G.lenS ?_ | refine SX.G.lenO ?_ | refine SX.G.appendW ?_ | refine SX.G.appendNilW ?_ | refine SX.G.appendT ?_ | refine SX.G.sliceDataN ?_ | refine SX.G.sliceDataO ?_ | refine SX.G.unsafeStrN ?_ | refine SX.G.unsafeStrO ?_ | refine SX.G.lenH ?_ | refine SX.G.appendH ?_ | refine SX.G.callF ?_ | refine SX.G.callP ?_ | refine SX.G.callB ?_ | refine SX.G.callOwn ?_ | refine SX.G.call ?_)
          | refine SX.G.move ?_ | refine SX.G.assign ?_ | refine SX.G.extract ?_ | refine SX.G.boxN ?_ | refine SX.G.box ?_ | refine SX.G.allocN ?_ | refine SX.G.alloc ?_ | refine SX.G.nilCheckP ?_ | refine SX.G.nilCheckR ?_ | refine SX.G.mkfn ?_ | refine SX.G.mkfnA ?_ | refine SX.G.mkclo ?_ | refine SX.G.mkbnd ?_ | refine SX.G.pick ?_ | refine SX.R.pickT ?_ | refine SX.R.pickF ?_ | refine SX.G.pickB ?_ | refine SX.G.pickV ?_ | refine SX.G.makeN ?_ | refine SX.G.convN ?_ | refine SX.G.conv ?_ | refine SX.G.convBS ?_ | refine SX.G.convPU ?_ | refine SX.G.sliceH ?_ | refine SX.G.sliceHiW ?_ | refine SX.G.sliceLoW ?_ | refine SX.G.sliceHiR ?_ | refine SX.G.sliceLoR ?_ | refine SX.G.sliceHiO ?_ | refine SX.G.sliceHiT ?_ | refine SX.G.sliceLoT ?_ | refine SX.G.sliceLHT ?_ | refine SX.G.indexA ?_ | refine SX.G.indexT ?_ | refine SX.G.sliceHiS ?_ | refine SX.G.sliceLoS ?_ | refine SX.G.sliceLHS ?_ | refine SX.G.indexS ?_)
      | (refine SX.Reg.is ?_; first | refine SX.Reg.go ?_ | refine SX.R.runT ?_ | refine SX.R.runF ?_ | refine SX.R.skipT ?_ | refine SX.R.skipF ?_ | refine SX.R.skipU ?_ | refine SX.Reg.nil ⟨by kernel_rfl, ?_⟩ | refine SX.Reg.nil ?_)
      | (refine SX.WP.is ?_; first | refine SX.WP.seq ?_ | refine SX.WP.regionN (by rfl) ?_ | refine SX.WP.regionDN (by rfl) (by kernel_rfl) ?_ | refine SX.WP.block ?_ | refine SX.WP.skip ?_ | refine SX.WP.exit ?_ | refine SX.WP.ret ?_ | refine SX.WP.label ?_ | refine SX.W.condT ?_ | refine SX.W.condF ?_)
      | refine SX.thenN ?_ | refine SX.thenE ?_ | refine SX.thenR ?_ | refine SX.inBlkN ?_ | refine SX.inBlkR ?_ | refine SX.inBlkE ?_ | refine SX.inBlkO rfl ?_ | refine SX.retR ?_ | refine SX.retN ?_ | refine SX.retFR ?_ | refine SX.retFN ?_)
    repeat (first
      | (refine SX.Go1.is ?_; first
          | (refine SX.Go1.isLoad ?_; first | refine SX.G.load2 ?_ | refine SX.G.load1 ?_ | refine SX.G.loadR1 ?_ | refine SX.G.loadR2 ?_ | refine SX.G.load4 ?_ | refine SX.G.loadR4 ?_ | refine SX.G.load5 ?_ | refine SX.G.load15 ?_ | refine SX.G.loadR15 ?_ | refine SX.G.loadH ?_ | refine SX.G.loadHI ?_ | refine SX.G.loadOWA ?_ | refine SX.G.load3 ?_ | refine SX.G.loadR3 ?_ | refine SX.G.loadOW ?_ | refine SX.G.loadO1 ?_)
          | (refine SX.Go1.isBin ?_; first | refine SX.G.lss ?_ | refine SX.G.eql ?_ | refine SX.G.neq ?_ | refine SX.G.gtr ?_ | refine SX.G.geq ?_ | refine SX.G.leq ?_ | refine SX.G.addN ?_ | refine SX.G.addNu ?_ | refine SX.G.subN ?_ | refine SX.G.subNu ?_ | refine SX.G.add ?_ | refine SX.G.sub ?_ | refine SX.G.mulN ?_ | refine SX.G.mulNu ?_ | refine SX.G.mul ?_ | refine SX.G.quoN ?_ | refine SX.G.quoNu ?_ | refine SX.G.quo ?_ | refine SX.G.remN ?_ | refine SX.G.remNu ?_ | refine SX.G.rem ?_ | refine SX.G.eqlT ?_ | refine SX.G.eqlNN ?_ | refine SX.G.eqlPN ?_ | refine SX.G.neqPP ?_ | refine SX.G.neqT ?_ | refine SX.G.eqlB ?_ | refine SX.G.neqB ?_ | refine SX.G.shr ?_ | refine SX.G.shl ?_ | refine SX.G.and ?_ | refine SX.G.addT ?_)
          | (refine SX.Go1.isUn ?_; first | refine SX.G.not ?_ | refine SX.G.neg ?_)
          | (refine SX.Go1.isField ?_; first | refine SX.G.fieldAddr ?_ | refine SX.G.fieldAddrR ?_)
          | (refine SX.Go1.isBuild ?_; first | refine SX.G.buildA ?_ | refine SX.G.build2 ?_ | refine SX.G.build3 ?_ | refine SX.G.build4 ?_ | refine SX.G.build5 ?_ | refine SX.G.build15 ?_ | refine SX.G.build ?_)
          | (refine SX.Go1.isStore ?_; first | refine SX.G.store ?_ | refine SX.G.storeP ?_ | refine SX.G.storeH ?_ | refine SX.G.storeHI ?_ | refine SX.G.storeOWA ?_ | refine SX.G.storeO ?_)
          | (refine SX.Go1.isIx ?_; first | refine SX.G.indexAddrW ?_ | refine SX.G.indexAddrV ?_ | refine SX.G.indexAddrR ?_ | refine SX.G.indexAddrH ?_ | refine SX.G.indexAddrO ?_ | refine SX.G.indexAddrA ?_ | refine SX.G.indexAddrG ?_)
          | (refine SX.Go1.isBuildS ?_; first | refine SX.G.litH ?_ | refine SX.G.litOwn ?_ | refine SX.G.lit2Own ?_ | refine SX.G.lit2 ?_ | refine SX.G.lit3 ?_ | refine SX.G.lit1 ?_)
          | (refine SX.Go1.isCall ?_; first | refine SX.G.minN ?_ | refine SX.G.maxN ?_ | refine SX.G.lenR ?_ | refine SX.G.lenN ?_ | refine SX.G.lenT ?_ | refine SX.G.lenS ?_ | refine SX.G.lenO ?_ | refine SX.G.appendW ?_ | refine SX.G.appendNilW ?_ | refine SX.G.appendT ?_ | refine SX.G.sliceDataN ?_ | refine SX.G.sliceDataO ?_ | refine SX.G.unsafeStrN ?_ | refine SX.G.unsafeStrO ?_ | refine SX.G.lenH ?_ | refine SX.G.appendH ?_ | refine SX.G.callF ?_ | refine SX.G.callP ?_ | refine SX.G.callB ?_ | refine SX.G.callOwn ?_ | refine SX.G.call ?_)
          | refine SX.G.move ?_ | refine SX.G.assign ?_ | refine SX.G.extract ?_ | refine SX.G.boxN ?_ | refine SX.G.box ?_ | refine SX.G.allocN ?_ | refine SX.G.alloc ?_ | refine SX.G.nilCheckP ?_ | refine SX.G.nilCheckR ?_ | refine SX.G.mkfn ?_ | refine SX.G.mkfnA ?_ | refine SX.G.mkclo ?_ | refine SX.G.mkbnd ?_ | refine SX.G.pick ?_ | refine SX.R.pickT ?_ | refine SX.R.pickF ?_ | refine SX.G.pickB ?_ | refine SX.G.pickV ?_ | refine SX.G.makeN ?_ | refine SX.G.convN ?_ | refine SX.G.conv ?_ | refine SX.G.convBS ?_ | refine SX.G.convPU ?_ | refine SX.G.sliceH ?_ | refine SX.G.sliceHiW ?_ | refine SX.G.sliceLoW ?_ | refine SX.G.sliceHiR ?_ | refine SX.G.sliceLoR ?_ | refine SX.G.sliceHiO ?_ | refine SX.G.sliceHiT ?_ | refine SX.G.sliceLoT ?_ | refine SX.G.sliceLHT ?_ | refine SX.G.indexA ?_ | refine SX.G.indexT ?_ | refine SX.G.sliceHiS ?_ | refine SX.G.sliceLoS ?_ | refine SX.G.sliceLHS ?_ | refine SX.G.indexS ?_)
      | (refine SX.Reg.is ?_; first | refine SX.Reg.go ?_ | refine SX.R.runT ?_ | refine SX.R.runF ?_ | refine SX.R.skipT ?_ | refine SX.R.skipF ?_ | refine SX.R.skipU ?_ | refine SX.Reg.nil ⟨by kernel_rfl, ?_⟩ | refine SX.Reg.nil ?_)
      | (refine SX.WP.is ?_; first | refine SX.WP.seq ?_ | refine SX.WP.regionN (by rfl) ?_ | refine SX.WP.regionDN (by rfl) (by kernel_rfl) ?_ | refine SX.WP.block ?_ | refine SX.WP.skip ?_ | refine SX.WP.exit ?_ | refine SX.WP.ret ?_ | refine SX.WP.label ?_ | refine SX.W.condT ?_ | refine SX.W.condF ?_)
      | refine SX.thenN ?_ | refine SX.thenE ?_ | refine SX.thenR ?_ | refine SX.inBlkN ?_ | refine SX.inBlkR ?_ | refine SX.inBlkE ?_ | refine SX.inBlkO rfl ?_ | refine SX.retR ?_ | refine SX.retN ?_ | refine SX.retFR ?_ | refine SX.retFN ?_)
    exact h.out) : p := k ⟨h⟩
end SX

import Derived.Test.YtmfadfkjnfdngaaGreatDoorM6
set_option linter.unusedVariables false
set_option linter.unusedSimpArgs false
namespace SX
open Go Go.RowKit
def mpL (σ : Atom → Atom) : List Atom → List Atom
  | [] => []
  | a :: l => σ a :: mpL σ l
def AV0.mp (σ : Atom → Atom) : AV0 → AV0
  | .one a => .one (σ a)
  | .agg l => .agg (mpL σ l)
def mpT (σ : Atom → Atom) : List AV0 → List AV0
  | [] => []
  | a :: l => a.mp σ :: mpT σ l
def AV.mp (σ : Atom → Atom) : AV → AV
  | .it x => .it (x.mp σ)
  | .tup l => .tup (mpT σ l)
def Ent.mp (σ : Atom → Atom) : Ent → Ent
  | .abs A => .abs A
  | .box t l => .box t (mpL σ l)
  | .row t s n l => .row t s n l
def Slot.mp (σ : Atom → Atom) : Slot → Slot
  | .ent e => .ent (e.mp σ)
  | .free => .free
  | .gone => .gone
def St.mp (st : St) (b : Nat) (σ : Atom → Atom) : St :=
  ⟨fun t => match st.tm t with | some v => some (v.mp σ) | none => none, upd (fun c => (st.hp c).mp σ) b .gone⟩
section
variable {σ : Atom → Atom}
theorem mpL_ids (hσ : ∀ a, ∀ i ∈ (σ a).ids, i ∈ a.ids) : ∀ (l : List Atom), ∀ i ∈ (mpL σ l).flatMap Atom.ids, i ∈ l.flatMap Atom.ids
  | [], i, hi => hi
  | a :: l, i, hi => by
    simp only [mpL, List.flatMap_cons, List.mem_append] at hi ⊢
    exact hi.imp (hσ a i) (mpL_ids hσ l i)
theorem AV0.mp_ids (hσ : ∀ a, ∀ i ∈ (σ a).ids, i ∈ a.ids) (x : AV0) : ∀ i ∈ (x.mp σ).ids, i ∈ x.ids := by
  cases x with
  | one a => exact hσ a
  | agg l => exact mpL_ids hσ l
theorem mpT_ids (hσ : ∀ a, ∀ i ∈ (σ a).ids, i ∈ a.ids) : ∀ (l : List AV0), ∀ i ∈ (mpT σ l).flatMap AV0.ids, i ∈ l.flatMap AV0.ids
  | [], i, hi => hi
  | a :: l, i, hi => by
    simp only [mpT, List.flatMap_cons, List.mem_append] at hi ⊢
    exact hi.imp (a.mp_ids hσ i) (mpT_ids hσ l i)
theorem AV.mp_ids (hσ : ∀ a, ∀ i ∈ (σ a).ids, i ∈ a.ids) (x : AV) : ∀ i ∈ (x.mp σ).ids, i ∈ x.ids := by
  cases x with
  | it a => exact a.mp_ids hσ
  | tup l => exact mpT_ids hσ l
theorem Ent.mp_ids (hσ : ∀ a, ∀ i ∈ (σ a).ids, i ∈ a.ids) (x : Ent) : ∀ i ∈ (x.mp σ).ids, i ∈ x.ids := by
  cases x with
  | abs A => intro i hi; cases hi
  | box t l => exact mpL_ids hσ l
  | row t s m l => exact fun i h => h
variable {E : Env} {S S' : Nat → Prop} {w : World}
theorem mpL_has (f : ∀ a v, Atom.has E S w a v → (σ a).has E S' w v) : ∀ {l : List Atom} {vs : List Value}, All2 (Atom.has E S w) l vs → All2 (Atom.has E S' w) (mpL σ l) vs
  | [], [], _ => trivial
  | a :: _, v :: _, h => ⟨f a v h.1, mpL_has f h.2⟩
  | [], _ :: _, h => h.elim
  | _ :: _, [], h => h.elim
theorem AV0.has.mp (f : ∀ a v, Atom.has E S w a v → (σ a).has E S' w v) {x : AV0} {v : Value} (h : x.has E S w v) : (x.mp σ).has E S' w v := by
  cases x with
  | one a => exact f a v h
  | agg l => obtain ⟨vs, h1, h2⟩ := h; exact ⟨vs, h1, mpL_has f h2⟩
theorem mpT_has (f : ∀ a v, Atom.has E S w a v → (σ a).has E S' w v) : ∀ {l : List AV0} {vs : List Value}, All2 (AV0.has E S w) l vs → All2 (AV0.has E S' w) (mpT σ l) vs
  | [], [], _ => trivial
  | _ :: _, _ :: _, h => ⟨AV0.has.mp f h.1, mpT_has f h.2⟩
  | [], _ :: _, h => h.elim
  | _ :: _, [], h => h.elim
theorem AV.has.mp (f : ∀ a v, Atom.has E S w a v → (σ a).has E S' w v) {x : AV} {v : Value} (h : x.has E S w v) : (x.mp σ).has E S' w v := by
  cases x with
  | it a => exact AV0.has.mp f h
  | tup l => obtain ⟨vs, h1, h2⟩ := h; exact ⟨vs, h1, mpT_has f h2⟩
theorem Ent.has.mp (f : ∀ a v, Atom.has E S w a v → (σ a).has E S' w v) (hsub : ∀ k, S' k → S k) {e : Ent} {c : Nat} (h : e.has E S w c) : (e.mp σ).has E S' w c := by
  cases e with
  | abs A => exact A.step h (Off.refl S w) (fun k hk => .inl (hsub k hk)) (fun _ _ => rfl)
  | box t l => obtain ⟨cs, h1, h2⟩ := h; exact ⟨cs, h1, mpL_has f h2⟩
  | row t s m l => obtain ⟨vs, h1, h2⟩ := h; exact ⟨vs, h1, h2.mono fun a v _ ha => ha.step (Off.refl S w) (fun k hk => .inl (hsub k hk))⟩
end
theorem St.le_mp {C : Ctx} {st : St} {b : Nat} {e : Ent} {σ : Atom → Atom} (hσi : ∀ a, ∀ i ∈ (σ a).ids, i ∈ a.ids) (hB : ∀ k, ¬ C.B k) (hb : st.hp b = .ent e)
    (hσ : ∀ E S w, e.has E S w b → (∀ k, e.at E b k → S k) → ∀ a v, Atom.has E S w a v → (σ a).has E (fun k => S k ∧ ¬ e.at E b k) w v) : St.le C st (st.mp b σ) := by
  intro a w ⟨E, S, hs⟩
  have f := hσ E S w (hs.hp b e hb) (fun k hk => (hs.blk b e k hb hk).1)
  have hkey : ∀ c e', (st.mp b σ).hp c = .ent e' → c ≠ b ∧ ∃ e0, st.hp c = .ent e0 ∧ e' = e0.mp σ := by
    intro c e' hc
    have hc' : upd (fun c => (st.hp c).mp σ) b .gone c = .ent e' := hc
    by_cases hcb : c = b
    · subst hcb; rw [upd_same] at hc'; cases hc'
    · rw [upd_ne _ _ hcb] at hc'
      refine ⟨hcb, ?_⟩
      cases h1 : st.hp c with
      | ent e0 => rw [h1] at hc'; simp only [Slot.mp] at hc'; cases hc'; exact ⟨e0, rfl, rfl⟩
      | free => rw [h1] at hc'; cases hc'
      | gone => rw [h1] at hc'; cases hc'
  have hused : ∀ c, (st.hp c).used = true → ((st.mp b σ).hp c).used = true := by
    intro c hc
    show (upd (fun c => (st.hp c).mp σ) b .gone c).used = true
    by_cases hcb : c = b
    · subst hcb; rw [upd_same]; rfl
    · rw [upd_ne _ _ hcb]
      cases h1 : st.hp c with
      | ent e0 => rfl
      | free => rw [h1] at hc; cases hc
      | gone => rfl
  have htm : ∀ t v, (st.mp b σ).tm t = some v → ∃ v0, st.tm t = some v0 ∧ v = v0.mp σ := by
    intro t v ht
    have ht' : (match st.tm t with | some v => some (v.mp σ) | none => none) = some v := ht
    cases h1 : st.tm t with
    | none => rw [h1] at ht'; cases ht'
    | some v0 => rw [h1] at ht'; cases ht'; exact ⟨v0, rfl, rfl⟩
  have hblk : ∀ (e0 : Ent) c, (e0.mp σ).at E c = e0.at E c := fun e0 c => by cases e0 <;> rfl
  refine ⟨E, fun k => S k ∧ ¬ e.at E b k, { dfr := hs.dfr, nt := hs.nt, cT := fun k hk => ⟨hs.cT k hk, fun h => ?_⟩, cT0 := hs.cT0, cS := fun k hk => hs.cS k hk.1, lt := fun k hk => hs.lt k hk.1, tm := fun t v ht => ?_, tid := fun t v ht i hi => ?_, hp := fun c e' hc => ?_, hid := fun c e' hc i hi => ?_, blk := fun c e' k hc hk => ?_, sep := fun c c' e1 e2 k hne hc hc' hk => ?_, off := hs.off, env := fun c hc => ?_, gl := hs.gl.sub fun k hk => hk.1 }⟩
  · have h1 := (hs.blk b e k hb h).2.resolve_left (hB k)
    have h2 := hs.cT0 k hk
    omega
  · obtain ⟨v0, h1, rfl⟩ := htm t v ht
    exact AV.has.mp f (hs.tm t v0 h1)
  · obtain ⟨v0, h1, rfl⟩ := htm t v ht
    exact hused i (hs.tid t v0 h1 i (v0.mp_ids hσi i hi))
  · obtain ⟨_, e0, h1, rfl⟩ := hkey c e' hc
    exact Ent.has.mp f (fun k hk => hk.1) (hs.hp c e0 h1)
  · obtain ⟨_, e0, h1, rfl⟩ := hkey c e' hc
    exact hused i (hs.hid c e0 h1 i (e0.mp_ids hσi i hi))
  · obtain ⟨hcb, e0, h1, rfl⟩ := hkey c e' hc
    rw [hblk] at hk
    have h2 := hs.blk c e0 k h1 hk
    exact ⟨⟨h2.1, fun h => hs.sep c b e0 e k hcb h1 hb hk h⟩, h2.2⟩
  · obtain ⟨_, e3, h1, rfl⟩ := hkey c e1 hc
    obtain ⟨_, e4, h2, rfl⟩ := hkey c' e2 hc'
    rw [hblk] at hk ⊢
    exact hs.sep c c' e3 e4 k hne h1 h2 hk
  · obtain ⟨g1, g2, g3⟩ := hs.env c hc
    exact ⟨g1, g2, hused c g3⟩
def bfz (b : Nat) (m : List CA) : Atom → Atom
  | .c a => .c a
  | .ptr k off => match Nat.beq k b with | true => .c (.sat (ptrR (m.drop off))) | false => .ptr k off
  | .own k => .own k
  | .rptr k off => .rptr k off
  | .clo f cap => .clo f cap
  | .bnd f k => .bnd f k
  | .rel k R => .rel k R
theorem bfz_ptr {b off : Nat} {m : List CA} : bfz b m (.ptr b off) = .c (.sat (ptrR (m.drop off))) := by
  simp only [bfz, Nat.beq_refl]
theorem bfz_ptr_ne {b k off : Nat} {m : List CA} (h : k ≠ b) : bfz b m (.ptr k off) = .ptr k off := by
  simp only [bfz, beq_ne h]
theorem bfz_ids (b : Nat) (m : List CA) (a : Atom) : ∀ i ∈ (bfz b m a).ids, i ∈ a.ids := by
  cases a with
  | ptr k off =>
    intro i hi
    by_cases hk : k = b
    · subst hk; rw [bfz_ptr] at hi; cases hi
    · rw [bfz_ptr_ne hk] at hi; exact hi
  | _ => exact fun i hi => hi
theorem St.le_bfz {C : Ctx} {st : St} {b : Nat} {t : TypeId} {cells : List Atom} {m : List CA} (hB : ∀ k, ¬ C.B k) (hb : st.hp b = .ent (.box t cells)) (hc : closedL cells = some m) : St.le C st (st.mp b (bfz b m)) :=
  St.le_mp (bfz_ids b m) hB hb fun E S w hh hS a v ha => by
    have hsub : ∀ k, (fun k => S k ∧ ¬ (Ent.box t cells).at E b k) k → S k := fun k hk => hk.1
    have keep : ∀ a : Atom, a.has E S w v → a.has E (fun k => S k ∧ ¬ (Ent.box t cells).at E b k) w v := fun a ha => ha.step (fun _ _ => ⟨rfl, rfl⟩) (Off.refl S w) (fun k hk => .inl (hsub k hk))
    cases a with
    | ptr k off =>
      by_cases hk : k = b
      · subst hk
        rw [bfz_ptr]
        obtain ⟨cs, h1, h2⟩ := hh
        rw [closedL_spec hc] at h2
        have h3 := all2_closed h2
        refine ptrR_iff.2 ⟨E.blk k, off, ha, fun i c hic => ?_⟩
        rw [List.getElem?_drop] at hic
        obtain ⟨u, hu, huc⟩ := h3.get hic
        have hcell := cells_of_block h1 0 (off + i) u (by simpa using hu)
        exact ⟨u, fun h => h.2 rfl, by simpa [Addr.add_lit] using hcell, huc.step (Off.refl S w) (fun k hk => .inl (hsub k hk))⟩
      · rw [bfz_ptr_ne hk]; exact keep _ ha
    | c a => exact keep _ ha
    | own k => exact keep _ ha
    | rptr k off => exact keep _ ha
    | clo f cap => exact keep _ ha
    | bnd f k => exact keep _ ha
    | rel k R => exact keep _ ha
theorem WP.freezeB {P : Program} {C : Ctx} {st : St} {Q : Exit → St → Prop} {c : Code} {t : TypeId} (b : Nat) {cells : List Atom} {m : List CA} (hB : ∀ k, ¬ C.B k) (hb : st.hp b = .ent (.box t cells)) (hc : closedL cells = some m) (h : WP P C c (st.mp b (bfz b m)) Q) : WP P C c st Q :=
  WP.weaken (St.le_bfz hB hb hc) h
def All2R (S : Nat → Prop) (w : World) : List CA → List Value → Prop := All2 (CA.has S w)
def cloR (f : FuncId) (bs cs : List CA) : Rep where
  has S w v := ∃ us vs : List Value, v = .func (.func f) us.toArray vs.toArray ∧ All2 (CA.has S w) bs us ∧ All2 (CA.has S w) cs vs
  one h := by obtain ⟨us, vs, rfl, _⟩ := h; rfl
  step h ho hs := by
    obtain ⟨us, vs, h1, h2, h3⟩ := h
    exact ⟨us, vs, h1, h2.mono fun a b _ h => h.step ho hs, h3.mono fun a b _ h => h.step ho hs⟩
def caAV (c : CA) : AV := .it (.one (.c c))
theorem caAV_has {E : Env} {S : Nat → Prop} {w : World} : ∀ {l : List CA} {vs : List Value}, All2 (CA.has S w) l vs → All2 (AV.has E S w) (l.map caAV) vs
  | [], [], _ => trivial
  | _ :: _, _ :: _, h => ⟨h.1, caAV_has h.2⟩
  | [], _ :: _, h => h.elim
  | _ :: _, [], h => h.elim
def FnV (P : Program) (x : CA) (args : List AV) (r : AV) : Prop :=
  ∀ S w v, x.has S w v → ∃ (f : FuncId) (us vs : List Value) (bs cs : List AV), v = .func (.func f) (List.toArray us) (List.toArray vs) ∧ (∀ E, All2 (AV.has E S w) bs us) ∧ (∀ E, All2 (AV.has E S w) cs vs) ∧ PureOK P f (bs ++ args ++ cs) r
theorem FnV.clo {P : Program} {f : FuncId} {bs cs : List CA} {args : List AV} {r : AV} (h : PureOK P f (bs.map caAV ++ args ++ cs.map caAV) r) : FnV P (.sat (cloR f bs cs)) args r := by
  rintro S w v ⟨us, vs, h1, h2, h3⟩
  exact ⟨f, us, vs, bs.map caAV, cs.map caAV, h1, fun E => caAV_has h2, fun E => caAV_has h3, h⟩
def cloA (f : FuncId) (m : List CA) : Rep where
  has S w v := ∃ us : List Value, v = .func (.func f) #[.agg us.toArray] #[] ∧ All2 (CA.has S w) m us
  one h := by obtain ⟨us, rfl, _⟩ := h; rfl
  step h ho hs := by
    obtain ⟨us, h1, h2⟩ := h
    exact ⟨us, h1, h2.mono fun a b _ h => h.step ho hs⟩
theorem has_caAV {E : Env} {S : Nat → Prop} {w : World} : ∀ {l : List CA} {vs : List Value}, All2 (AV.has E S w) (l.map caAV) vs → All2 (CA.has S w) l vs
  | [], [], _ => trivial
  | _ :: _, _ :: _, h => ⟨h.1, has_caAV h.2⟩
  | [], _ :: _, h => h.elim
  | _ :: _, [], h => h.elim
section
variable {P : Program} {C : Ctx} {st : St}
variable {ops rest : List Oper} {acc : List (List Nat × List Nat)} {K : List (List Nat × List Nat) → St → Prop} {dst : Option Tmp} {d : Tmp} {op : Op} {ty t t' : TypeId} {x y z : Operand}
def casOf : List AV → Option (List CA)
  | [] => some []
  | .it (.one (.c c)) :: l => match casOf l with | some m => some (c :: m) | none => none
  | _ :: _ => none
theorem casOf_spec : ∀ {l : List AV} {m : List CA}, casOf l = some m → l = m.map caAV
  | [], m, h => by simp [casOf] at h; subst h; rfl
  | v :: l, m, h => by
    unfold casOf at h
    split at h
    · rename_i heq; cases heq
    · rename_i c l' heq
      cases heq
      split at h
      · rename_i m' hm
        cases h
        rw [List.map_cons, casOf_spec hm]; rfl
      · cases h
    · cases h
theorem G.mkfn {f : FuncId} {bnd caps : Array Operand} {l l' : List AV} {bs cs : List CA} (next : Reg P C ops rest (st.app dst ⟨.r (cloR f bs cs), []⟩) (([], []) :: acc) K) (hd : dstOK dst C.nt = true := by rfl) (ha : evs st bnd.toList = some l := by rfl) (hc : casOf l = some bs := by rfl) (ha' : evs st caps.toList = some l' := by rfl) (hc' : casOf l' = some cs := by rfl) : Go1 P C ops dst (.makeFunc (.func f) bnd caps) ty rest st acc K :=
  Go1.pureV [] [] (by simp) hd (by simp) (fun o ho _ st' E S a w hev hs _ => by
    have hop : o.op.operands = bnd ++ caps := by rw [ho]; simp [Op.operands]
    have h1 : evs st' bnd.toList = some l := by rw [evs_congr (fun x hx => hev x (by rw [hop]; simp at hx ⊢; exact .inl hx))]; exact ha
    have h2 : evs st' caps.toList = some l' := by rw [evs_congr (fun x hx => hev x (by rw [hop]; simp at hx ⊢; exact .inr hx))]; exact ha'
    obtain ⟨g1, _⟩ := evs_has hs h1
    obtain ⟨g2, _⟩ := evs_has hs h2
    rw [casOf_spec hc] at g1
    rw [casOf_spec hc'] at g2
    refine ⟨fun i hi => (by cases hi), _, by unfold execOp; rw [ho]; simp [Instr.makeFunc]; rfl, bnd.toList.map a.eval, caps.toList.map a.eval, ?_, has_caAV g1, has_caAV g2⟩
    congr 1 <;> (apply Array.ext'; simp)) next
theorem run_enterF {o : Oper} {f : FuncId} {as : Array Operand} {tys : Array TypeId} {us vs : Array Value} {fx : Operand} {ρ : Operand → Value} (ho : o.op = .call ⟨.value fx, as, tys⟩) (hf : ρ fx = .func (.func f) us vs)
    (he : ∃ fn, P.funcs[f]? = some fn ∧ (fn.name == "runtime.NumGoroutine") = false ∧ fn.body.isNone = false) (w : World) : (execOp ρ o).run P w = .ok (.enter f (us ++ as.map ρ ++ vs)) w := by
  obtain ⟨fn, h1, h2, h3⟩ := he
  unfold execOp
  rw [ho]
  have h2' : fn.name ≠ "runtime.NumGoroutine" := by simpa using h2
  have h3' : fn.body ≠ none := by intro e; rw [e] at h3; cases h3
  simp [resolve, hf, Deferred.ofValue, invoke, callFunc, h1, h2', h3']
theorem G.callF {fx : Operand} {c : CA} {as : Array Operand} {tys : Array TypeId} {args : List AV} {r : AV} (next : Reg P C ops rest (st.app dst ⟨r, []⟩) (([], []) :: acc) K) (hd : dstOK dst C.nt = true := by rfl) (hf : st.ev fx = some (.it (.one (.c c))) := by rfl) (ha : evs st as.toList = some args := by rfl)
    (hc : FnV P c args r := by assumption) (hr : r.ids = [] := by rfl) : Go1 P C ops dst (.call ⟨.value fx, as, tys⟩) ty rest st acc K := by
  refine ⟨[], ⟨r, []⟩, fun o h2 h3 h4 => OpOK.eff [] [] (fun b hb => ?_) (h2 ▸ dstOK_spec hd) (fun b e hb => by cases hb) (fun b e hb => by cases hb) (fun b s hb => by cases hb) (fun b s hb => by cases hb) (fun st' E S a w hev hhp hs _ _ => ?_), next⟩
  · rcases hb with ⟨e, hb⟩ | ⟨e, hb⟩ | ⟨s, hb⟩ <;> cases hb
  · have hop : o.op.operands = #[fx] ++ as := by rw [h3]; rfl
    have ha' : evs st' as.toList = some args := by rw [evs_congr (fun x hx => hev x (by rw [hop]; simp at hx; simp [hx]))]; exact ha
    obtain ⟨hall, hids⟩ := evs_has hs ha'
    have hcl := (hs.ev ((hev fx (by rw [hop]; simp)).trans hf)).1
    obtain ⟨f, us, vs, bs, cs, hv, g1, g2, hent, hcall⟩ := hc S w _ hcl
    refine ⟨⟨fun i hi => (by rw [hr] at hi; cases hi), fun b e hb => by cases hb⟩, fun K Q hK => ?_⟩
    have hcalls := hcall E S w (us ++ as.toList.map a.eval ++ vs) hs.lt hs.gl (((g1 E).append hall).append (g2 E)) (fun b e hb => by cases hb) (fun b e k hb => by cases hb) (fun b b' e e' k _ hb => by cases hb)
    unfold Oper.wp
    rw [run_enterF h3 hv hent w]
    have harr : us.toArray ++ as.map a.eval ++ vs.toArray = (us ++ as.toList.map a.eval ++ vs).toArray := by
      apply Array.ext'; simp
    show Calls P f _ w _
    rw [harr]
    exact hcalls.mono fun e w' ⟨v, E', S', he, hE⟩ => by subst he; exact hK v w' E' S' hE
end
theorem FnV.const {P : Program} {f : FuncId} {args : List AV} {r : AV} (h : PureOK P f args r) : FnV P (.sat (cloR f [] [])) args r := FnV.clo (by simpa using h)
end SX

import Derived.Test.YtkdonndeogihfaaSxg
/- The rules of the symbolic run: calls, entry and return. No program in sight. -/
set_option linter.unusedVariables false
set_option linter.unusedSimpArgs false
namespace SX
open Go Go.RowKit

/-- What a call does: of these arguments, with these blocks of its caller's own before it. -/
def CallOK (P : Program) (f : FuncId) (args : List AV) (pre : List (Nat × Ent)) (out : Out) : Prop :=
  (∃ fn, P.funcs[f]? = some fn ∧ (fn.name == "runtime.NumGoroutine") = false ∧ fn.body.isNone = false) ∧
  ∀ (E : Env) (S : Nat → Prop) (w : World) (vs : List Value), (∀ k, S k → k < w.heap.size) → All2 (AV.has E S w) args vs →
    (∀ b e, (b, e) ∈ pre → e.has E S w b) → (∀ b e k, (b, e) ∈ pre → e.blk E b = some k → S k) → (∀ b b' e e' k, b ≠ b' → (b, e) ∈ pre → (b', e') ∈ pre → e.blk E b = some k → e'.blk E b' ≠ some k) →
    Calls P f vs.toArray w fun e w' => ∃ v E' S', e = .returned v ∧ Eff E S w pre out v w' E' S'
/-- A call that only makes memory. -/
abbrev PureOK (P : Program) (f : FuncId) (args : List AV) (r : AV) : Prop := CallOK P f args [] ⟨r, []⟩
def evs (st : St) : List Operand → Option (List AV)
  | [] => some []
  | x :: xs => match st.ev x, evs st xs with
    | some v, some vs => some (v :: vs)
    | _, _ => none
section
variable {P : Program} {C : Ctx} {st : St}
theorem evs_has {E : Env} {S : Nat → Prop} {a : Act} {w : World} (h : SatE C st E S a w) : ∀ {xs : List Operand} {l : List AV}, evs st xs = some l → All2 (AV.has E S w) l (xs.map a.eval) ∧ ∀ v ∈ l, ∀ b ∈ v.ids, (st.hp b).used = true
  | [], l, hl => by simp [evs] at hl; subst hl; exact ⟨trivial, by simp⟩
  | x :: xs, l, hl => by
    unfold evs at hl
    cases hx : st.ev x with
    | none => simp [hx] at hl
    | some v =>
      cases hxs : evs st xs with
      | none => simp [hx, hxs] at hl
      | some vs =>
        simp [hx, hxs] at hl
        subst hl
        obtain ⟨h1, h2⟩ := h.ev hx
        obtain ⟨h3, h4⟩ := evs_has h hxs
        exact ⟨⟨h1, h3⟩, fun u hu => by
          rcases List.mem_cons.1 hu with rfl | hu
          · exact h2
          · exact h4 u hu⟩
theorem evs_congr {st st' : St} : ∀ {xs : List Operand}, (∀ x ∈ xs, st'.ev x = st.ev x) → evs st' xs = evs st xs
  | [], _ => rfl
  | x :: xs, h => by unfold evs; rw [h x (by simp), evs_congr (fun y hy => h y (by simp [hy]))]
theorem run_enter {o : Oper} {f : FuncId} {as : Array Operand} {tys : Array TypeId} {cap : Array Value} {fx : Operand} {ρ : Operand → Value} (ho : o.op = .call ⟨.value fx, as, tys⟩) (hf : ρ fx = .func (.func f) #[] cap)
    (he : ∃ fn, P.funcs[f]? = some fn ∧ (fn.name == "runtime.NumGoroutine") = false ∧ fn.body.isNone = false) (w : World) : (execOp ρ o).run P w = .ok (.enter f (as.map ρ ++ cap)) w := by
  obtain ⟨fn, h1, h2, h3⟩ := he
  unfold execOp
  rw [ho]
  have h2' : fn.name ≠ "runtime.NumGoroutine" := by simpa using h2
  have h3' : fn.body ≠ none := by intro e; rw [e] at h3; cases h3
  simp [resolve, hf, Deferred.ofValue, invoke, callFunc, h1, h2', h3']
variable {ops rest : List Oper} {acc : List (List Nat × List Nat)} {K : List (List Nat × List Nat) → St → Prop} {dst : Option Tmp} {op : Op} {ty : TypeId}
theorem Go1.callG {fx : Operand} {f : FuncId} {cap : List (Nat × Nat)} {as : Array Operand} {tys : Array TypeId} {args : List AV} {pre : List (Nat × Ent)} {out : Out} {fp : List Nat} (hd : dstOK dst C.nt = true) (hf : st.ev fx = some (.it (.one (.clo f cap)))) (ha : evs st as.toList = some args)
    (hc : CallOK P f (args ++ cap.map fun p => .ptr p.1 p.2) pre out) (hpre : ∀ b e, (b, e) ∈ pre → st.hp b = .ent e ∧ ∃ s, (b, s) ∈ out.hp) (hnew : ∀ b s, (b, s) ∈ out.hp → (∃ e, (b, e) ∈ pre) ∨ st.hp b = .free) (hkeep : ∀ b s, (b, s) ∈ out.hp → s.used = true)
    (hfp : ∀ b s, (b, s) ∈ out.hp → b ∈ fp)
    (hid : ∀ i, (i ∈ out.res.ids ∨ ∃ b e, (b, Slot.ent e) ∈ out.hp ∧ i ∈ e.ids) → (∃ s, (i, s) ∈ out.hp) ∨ (∃ v ∈ args, i ∈ v.ids) ∨ (∃ b e, (b, e) ∈ pre ∧ i ∈ e.ids))
    (next : Reg P C ops rest (st.app dst out) ((fp, out.hp.map (·.1)) :: acc) K) : Go1 P C ops dst (.call ⟨.value fx, as, tys⟩) ty rest st acc K := by
  refine ⟨fp, out, fun o h2 h3 h4 => OpOK.eff [] pre (fun b hb => ?_) (h2 ▸ dstOK_spec hd) (fun b e hb => by cases hb) hpre hnew hkeep (fun st' E S a w hev hhp hs _ hpre' => ?_), next⟩
  · rcases hb with ⟨e, hb⟩ | ⟨e, hb⟩ | ⟨s, hb⟩
    · cases hb
    · obtain ⟨_, s, hs⟩ := hpre b e hb; exact hfp b s hs
    · exact hfp b s hb
  · have hop : o.op.operands = #[fx] ++ as := by rw [h3]; rfl
    have ha' : evs st' as.toList = some args := by rw [evs_congr (fun x hx => hev x (by rw [hop]; simp at hx; simp [hx]))]; exact ha
    obtain ⟨hall, hids⟩ := evs_has hs ha'
    have hcl := hs.ev ((hev fx (by rw [hop]; simp)).trans hf)
    obtain ⟨hent, hcall⟩ := hc
    refine ⟨⟨fun i hi => ?_, fun b e hb i hi => ?_⟩, fun K Q hK => ?_⟩
    · have key : ∀ i, ((∃ s, (i, s) ∈ out.hp) ∨ (∃ v ∈ args, i ∈ v.ids) ∨ (∃ b e, (b, e) ∈ pre ∧ i ∈ e.ids)) → (updL st'.hp out.hp i).used = true := by
        intro i hi
        rcases updL_cases i out.hp st'.hp with ⟨s, g1, g2⟩ | ⟨g1, g2⟩
        · rw [g2]; exact hkeep i s g1
        · rw [g2]
          rcases hi with ⟨s, hi⟩ | ⟨v, hv, hi⟩ | ⟨b, e, hb, hi⟩
          · exact absurd hi (g1 s)
          · exact hids v hv i hi
          · exact hs.hid b e (hpre' b e hb) i hi
      exact key i (hid i (.inl hi))
    · have key : ∀ i, ((∃ s, (i, s) ∈ out.hp) ∨ (∃ v ∈ args, i ∈ v.ids) ∨ (∃ b e, (b, e) ∈ pre ∧ i ∈ e.ids)) → (updL st'.hp out.hp i).used = true := by
        intro i hi
        rcases updL_cases i out.hp st'.hp with ⟨s, g1, g2⟩ | ⟨g1, g2⟩
        · rw [g2]; exact hkeep i s g1
        · rw [g2]
          rcases hi with ⟨s, hi⟩ | ⟨v, hv, hi⟩ | ⟨b, e, hb, hi⟩
          · exact absurd hi (g1 s)
          · exact hids v hv i hi
          · exact hs.hid b e (hpre' b e hb) i hi
      exact key i (hid i (.inr ⟨b, e, hb, hi⟩))
    · have hcap : All2 (AV.has E S w) (cap.map fun p => AV.ptr p.1 p.2) (cap.map fun p => Value.pointer (some ⟨E.blk p.1, p.2, none⟩)) := by
        clear hcl hf hcall
        induction cap with
        | nil => trivial
        | cons p l ih => exact ⟨rfl, ih⟩
      have hcalls := hcall E S w (as.toList.map a.eval ++ cap.map fun p => Value.pointer (some ⟨E.blk p.1, p.2, none⟩)) hs.lt (hall.append hcap) (fun b e hb => hs.hp b e (hpre' b e hb)) (fun b e k hb hk => (hs.blk b e k (hpre' b e hb) hk).1)
        (fun b b' e e' k hne hb hb' => hs.sep b b' e e' k hne (hpre' b e hb) (hpre' b' e' hb'))
      unfold Oper.wp
      rw [run_enter h3 hcl.1 hent w]
      have harr : as.map a.eval ++ (cap.map fun p => Value.pointer (some ⟨E.blk p.1, p.2, none⟩)).toArray = (as.toList.map a.eval ++ cap.map fun p => Value.pointer (some ⟨E.blk p.1, p.2, none⟩)).toArray := by
        apply Array.ext'; simp
      show Calls P f _ w _
      rw [harr]
      exact hcalls.mono fun e w' ⟨v, E', S', he, hE⟩ => by subst he; exact hK v w' E' S' hE
/-- A call by name that only makes memory, and answers what hangs on no variable of the caller's own. -/
theorem Go1.call {f : FuncId} {as : Array Operand} {tys : Array TypeId} {args : List AV} {r : AV} (ha : evs st as.toList = some args) (hc : PureOK P f args r) (hd : dstOK dst C.nt = true) (hid : r.ids = [])
    (next : Reg P C ops rest (st.app dst ⟨r, []⟩) (([], []) :: acc) K) : Go1 P C ops dst (.call ⟨.value (.func f), as, tys⟩) ty rest st acc K :=
  Go1.callG (cap := []) (pre := []) (out := ⟨r, []⟩) (fp := []) hd rfl ha (by simpa using hc) (fun b e hb => by cases hb) (fun b e hb => by cases hb) (fun b e hb => by cases hb) (fun b e hb => by cases hb)
    (fun i hi => by
      rcases hi with hi | ⟨b, e, hb, _⟩
      · rw [hid] at hi; cases hi
      · cases hb) next

/-- One result. -/
def resRun (rv : ResultVar) (tmps : Array Value) : Sem Value :=
  match rv with
  | .tmp t => pure (tmps.getD t undef)
  | .cell a t => do loadVar t (← asAddr (tmps.getD a undef))
def ResOK (P : Program) (st : St) (rv : ResultVar) (x : AV0) : Prop :=
  ∀ C E S a w, SatE C st E S a w → ∃ v, (resRun rv a.tmps).run P w = .ok v w ∧ x.has E S w v
def resAV : List AV0 → AV
  | [x] => .it x
  | xs => .tup xs
theorem ResOK.tmp {t : Tmp} {x : AV0} (h : st.tm t = some (.it x)) : ResOK P st (.tmp t) x := fun C E S a w hs => ⟨_, rfl, hs.tm t _ h⟩
theorem ResOK.agg {t : Tmp} {T T' : TypeId} {n b off : Nat} {cells l : List Atom} [ht : TAgg P T n] (h : st.tm t = some (.ptr b off)) (hb : st.hp b = .ent (.box T' cells)) (hl : Nat.ble (off + n) cells.length = true) (hr : (cells.drop off).take n = l) : ResOK P st (.cell t T) (.agg l) := fun C E S a w hs => by
  have hv : a.tmps.getD t undef = _ := hs.tm t _ h
  obtain ⟨cs, hg, hall⟩ := hs.hp b _ hb
  have hlen := hall.length
  rw [Nat.ble_eq] at hl
  have hrun := run_load_agg (P := P) (n := n) (off := off) ht w hg (by omega)
  refine ⟨.agg ((cs.drop off).take n).toArray, ?_, ?_⟩
  · simp only [resRun, hv, asAddr, pure_bind, hrun]
  · subst hr; exact ⟨_, rfl, (hall.drop off).take n⟩
theorem ResOK.agg2 {t : Tmp} {T T' : TypeId} {b off : Nat} {cells : List Atom} {a1 a2 : Atom} [ht : TAgg P T 2] (h : st.tm t = some (.ptr b off)) (hb : st.hp b = .ent (.box T' cells)) (hr : (cells.drop off).take 2 = [a1, a2]) : ResOK P st (.cell t T) (.agg [a1, a2]) :=
  ResOK.agg h hb (by have := congrArg List.length hr; simp at this; rw [Nat.ble_eq]; omega) hr
theorem ResOK.agg3 {t : Tmp} {T T' : TypeId} {b off : Nat} {cells : List Atom} {a1 a2 a3 : Atom} [ht : TAgg P T 3] (h : st.tm t = some (.ptr b off)) (hb : st.hp b = .ent (.box T' cells)) (hr : (cells.drop off).take 3 = [a1, a2, a3]) : ResOK P st (.cell t T) (.agg [a1, a2, a3]) :=
  ResOK.agg h hb (by have := congrArg List.length hr; simp at this; rw [Nat.ble_eq]; omega) hr
theorem ResOK.agg4 {t : Tmp} {T T' : TypeId} {b off : Nat} {cells : List Atom} {a1 a2 a3 a4 : Atom} [ht : TAgg P T 4] (h : st.tm t = some (.ptr b off)) (hb : st.hp b = .ent (.box T' cells)) (hr : (cells.drop off).take 4 = [a1, a2, a3, a4]) : ResOK P st (.cell t T) (.agg [a1, a2, a3, a4]) :=
  ResOK.agg h hb (by have := congrArg List.length hr; simp at this; rw [Nat.ble_eq]; omega) hr
theorem ResOK.one {t : Tmp} {T T' : TypeId} {b off : Nat} {cells : List Atom} {c : Atom} [ht : TOne P T] (h : st.tm t = some (.ptr b off)) (hb : st.hp b = .ent (.box T' cells)) (hr : cells[off]? = some c) : ResOK P st (.cell t T) (.one c) := fun C E S a w hs => by
  have hv : a.tmps.getD t undef = _ := hs.tm t _ h
  obtain ⟨cs, hg, hall⟩ := hs.hp b _ hb
  obtain ⟨u, hu, hcu⟩ := hall.get hr
  exact ⟨u, by simp only [resRun, hv, asAddr, pure_bind, run_load_one ht w hg hu], hcu⟩
theorem run_results {fn : Func} {st : St} {xs : List AV0} (h : All2 (ResOK P st) fn.results.toList xs) {C : Ctx} {E : Env} {S : Nat → Prop} {a : Act} {w : World} (hs : SatE C st E S a w) :
    ∃ v, (results fn a.tmps).run P w = .ok v w ∧ (resAV xs).has E S w v := by
  have key : ∀ {rs : List ResultVar} {xs : List AV0}, All2 (ResOK P st) rs xs → ∃ vs : List Value, (rs.mapM fun r => resRun r a.tmps).run P w = .ok vs w ∧ All2 (AV0.has E S w) xs vs := by
    intro rs
    induction rs with
    | nil => intro xs h; cases xs with
      | nil => exact ⟨[], rfl, trivial⟩
      | cons x xs => exact h.elim
    | cons r rs ih =>
      intro xs h
      cases xs with
      | nil => exact h.elim
      | cons x xs =>
        obtain ⟨v, h1, h2⟩ := h.1 C E S a w hs
        obtain ⟨vs, h3, h4⟩ := ih h.2
        exact ⟨v :: vs, by simp [List.mapM_cons, h1, h3], h2, h4⟩
  obtain ⟨vs, h1, h2⟩ := key h
  have hr : (fn.results.mapM fun r => resRun r a.tmps).run P w = .ok vs.toArray w := by
    have : fn.results = fn.results.toList.toArray := by simp
    rw [this, List.mapM_toArray, Sem.run_map, h1]
    rfl
  have hrr : (results fn a.tmps).run P w = .ok (if h : vs.toArray.size = 1 then vs.toArray[0] else .tuple vs.toArray) w := by
    unfold results
    show ((fn.results.mapM fun r => resRun r a.tmps) >>= _).run P w = _
    rw [Sem.run_bind, hr]; rfl
  refine ⟨_, hrr, ?_⟩
  match xs, vs, h2 with
  | [], [], _ => exact ⟨[], rfl, trivial⟩
  | [x], [v], h => exact h.1
  | x :: y :: xs, v :: u :: vs, h => exact ⟨v :: u :: vs, by simp, h⟩

def RetOK (P : Program) (rs : List ResultVar) (out : Out) (st : St) : Prop :=
  ∃ xs, All2 (ResOK P st) rs xs ∧ out.res = resAV xs ∧ ∀ b e, (b, Slot.ent e) ∈ out.hp → st.hp b = .ent e
def retQ (P : Program) (rs : List ResultVar) (out : Out) : Exit → St → Prop
  | .ret, st => RetOK P rs out st
  | .normal, st => RetOK P rs out st
  | _, _ => False
theorem RetOK.mk1 {r : ResultVar} {x : AV0} {st : St} (h : ResOK P st r x) : RetOK P [r] ⟨.it x, []⟩ st := ⟨[x], ⟨h, trivial⟩, rfl, fun b e hb => (by cases hb)⟩
theorem RetOK.mk2 {r1 r2 : ResultVar} {x1 x2 : AV0} {st : St} (h1 : ResOK P st r1 x1) (h2 : ResOK P st r2 x2) : RetOK P [r1, r2] ⟨.tup [x1, x2], []⟩ st := ⟨[x1, x2], ⟨h1, h2, trivial⟩, rfl, fun b e hb => (by cases hb)⟩
theorem RetOK.mk3 {r1 r2 r3 : ResultVar} {x1 x2 x3 : AV0} {st : St} (h1 : ResOK P st r1 x1) (h2 : ResOK P st r2 x2) (h3 : ResOK P st r3 x3) : RetOK P [r1, r2, r3] ⟨.tup [x1, x2, x3], []⟩ st := ⟨[x1, x2, x3], ⟨h1, h2, h3, trivial⟩, rfl, fun b e hb => (by cases hb)⟩
def AV0.imp (x y : AV0) : Prop := ∀ E S w v, x.has E S w v → y.has E S w v
theorem AV0.imp.refl (x : AV0) : x.imp x := fun _ _ _ _ h => h
theorem ResOK.imp {r : ResultVar} {x y : AV0} {st : St} (h : ResOK P st r x) (e : x.imp y) : ResOK P st r y := fun C E S a w hs => let ⟨v, h1, h2⟩ := h C E S a w hs; ⟨v, h1, e E S w v h2⟩
theorem RetOK.eq1 {r : ResultVar} {x y : AV0} {st : St} (h : ResOK P st r x) (e : x = y) : RetOK P [r] ⟨.it y, []⟩ st := e ▸ RetOK.mk1 h
theorem RetOK.eq2 {r1 r2 : ResultVar} {x1 x2 y1 y2 : AV0} {st : St} (h1 : ResOK P st r1 x1) (h2 : ResOK P st r2 x2) (e1 : x1 = y1) (e2 : x2 = y2) : RetOK P [r1, r2] ⟨.tup [y1, y2], []⟩ st := e1 ▸ e2 ▸ RetOK.mk2 h1 h2
theorem RetOK.eq3 {r1 r2 r3 : ResultVar} {x1 x2 x3 y1 y2 y3 : AV0} {st : St} (h1 : ResOK P st r1 x1) (h2 : ResOK P st r2 x2) (h3 : ResOK P st r3 x3) (e1 : x1 = y1) (e2 : x2 = y2) (e3 : x3 = y3) : RetOK P [r1, r2, r3] ⟨.tup [y1, y2, y3], []⟩ st := e1 ▸ e2 ▸ e3 ▸ RetOK.mk3 h1 h2 h3
theorem thenN {k : St → Prop} {Q : Exit → St → Prop} {st : St} (h : k st) : thenK k Q .normal st := h
def startSt (args : List AV) (pre : List (Nat × Ent)) : St := ⟨fun t => args[t]?, fun b => match pre.lookup b with | some e => .ent e | none => .free⟩
theorem thenE {k : St → Prop} {Q : Exit → St → Prop} {st : St} {i : Nat} (h : Q (.exit i) st) : thenK k Q (.exit i) st := h
theorem thenR {k : St → Prop} {Q : Exit → St → Prop} {st : St} (h : Q .ret st) : thenK k Q .ret st := h
theorem inBlkN {Q : Exit → St → Prop} {st : St} {i : Nat} (h : Q .normal st) : inBlk i Q .normal st := h
theorem inBlkR {Q : Exit → St → Prop} {st : St} {i : Nat} (h : Q .ret st) : inBlk i Q .ret st := h
theorem inBlkE {Q : Exit → St → Prop} {st : St} {i : Nat} (h : Q .normal st) : inBlk i Q (.exit i) st := by simp [inBlk]; exact h
theorem inBlkO {Q : Exit → St → Prop} {st : St} {i j : Nat} (hn : Nat.beq j i = false) (h : Q (.exit j) st) : inBlk i Q (.exit j) st := by simp only [inBlk, hn]; exact h
theorem retR {rs : List ResultVar} {out : Out} {st : St} (h : RetOK P rs out st) : retQ P rs out .ret st := h
theorem retN {rs : List ResultVar} {out : Out} {st : St} (h : RetOK P rs out st) : retQ P rs out .normal st := h
open Classical in
/-- A function's contract out of its text's run. -/
theorem CallOK.fn {P : Program} {f : FuncId} {fn : Func} {c : Code} {args : List AV} {pre : List (Nat × Ent)} {out : Out} {nt : Nat} {rs : List ResultVar} (hf : P.funcs[f]? = some fn) (hres : fn.results = rs.toArray) (hnt : fn.ntmps = nt) (hb : fn.body = some c) (hn : (fn.name == "runtime.NumGoroutine") = false) (hna : Nat.ble args.length nt = true)
    (hlook : ∀ b e, (b, e) ∈ pre → pre.lookup b = some e) (haid : ∀ v ∈ args, ∀ i ∈ v.ids, (pre.lookup i).isSome = true) (hpid : ∀ b e, (b, e) ∈ pre → ∀ i ∈ e.ids, (pre.lookup i).isSome = true)
    (hkey : ∀ b e, (b, e) ∈ pre → ∃ s, (b, s) ∈ out.hp) (hoid : ∀ i, (i ∈ out.res.ids ∨ ∃ b e, (b, Slot.ent e) ∈ out.hp ∧ i ∈ e.ids) → (pre.lookup i).isSome = true ∨ ∃ s, (i, s) ∈ out.hp)
    (h : ∀ (w0 : World) (T B : Nat → Prop) (E0 : Env), (∀ k, B k → ∃ b e, (b, e) ∈ pre) → WP P ⟨w0, T, B, nt, E0, fun b => (pre.lookup b).isSome⟩ c (startSt args pre) (retQ P rs out)) : CallOK P f args pre out := by
  refine ⟨⟨fn, hf, hn, by rw [hb]; rfl⟩, fun E S w vs hl hall hpre hblk hsep => ?_⟩
  refine calls_of_wp hf hb ?_
  have hlen := hall.length
  rw [Nat.ble_eq] at hna
  have hp : ∀ b e, (startSt args pre).hp b = .ent e → pre.lookup b = some e := by
    intro b e hb
    simp only [startSt] at hb
    cases hlk : pre.lookup b with
    | none => simp [hlk] at hb
    | some e' => simp [hlk] at hb; rw [hb]
  have hmem : ∀ b e, pre.lookup b = some e → (b, e) ∈ pre := by
    intro b e hb
    clear hlook haid hpid hkey hoid h hpre hblk hsep hp
    induction pre with
    | nil => cases hb
    | cons p l ih =>
      rw [List.lookup_cons] at hb
      cases hbe : b == p.1 with
      | true => simp [hbe] at hb; have : b = p.1 := by simpa using hbe
                subst this; simp; left; rw [← hb]
      | false => simp [hbe] at hb; exact List.mem_cons_of_mem _ (ih hb)
  have hused : ∀ b, (pre.lookup b).isSome = true → ((startSt args pre).hp b).used = true := by
    intro b hb
    obtain ⟨e, he⟩ := Option.isSome_iff_exists.1 hb
    simp [startSt, he, Slot.used]
  have hs : SatE ⟨w, S, fun k => ∃ b e, (b, e) ∈ pre ∧ e.blk E b = some k, nt, E, fun b => (pre.lookup b).isSome⟩ (startSt args pre) E S { tmps := vs.toArray ++ Array.replicate (fn.ntmps - vs.toArray.size) undef, defers := [] } w :=
    { dfr := rfl
      nt := by simp [hnt]; omega
      cT := fun k hk => hk
      cT0 := hl
      cS := fun k hk => .inl hk
      lt := hl
      tm := fun t v ht => by
        obtain ⟨u, hu, huv⟩ := hall.get (show args[t]? = some v from ht)
        have hlt : t < vs.length := (List.getElem?_eq_some_iff.1 hu).1
        simp [Array.getElem?_append, hlt]
        have h5 : vs[t] = u := by rw [List.getElem?_eq_getElem hlt] at hu; exact Option.some.inj hu
        rw [h5]; exact huv
      tid := fun t v ht i hi => hused i (haid v (List.mem_of_getElem? (show args[t]? = some v from ht)) i hi)
      hp := fun b e hb => hpre b e (hmem b e (hp b e hb))
      hid := fun b e hb i hi => hused i (hpid b e (hmem b e (hp b e hb)) i hi)
      blk := fun b e k hb hk => ⟨hblk b e k (hmem b e (hp b e hb)) hk, .inl ⟨b, e, hmem b e (hp b e hb), hk⟩⟩
      sep := fun b b' e e' k hne hb hb' => hsep b b' e e' k hne (hmem b e (hp b e hb)) (hmem b' e' (hp b' e' hb'))
      off := Off.refl _ _
      env := fun b hb => ⟨rfl, rfl, hused b hb⟩ }
  refine wp_mono (h w S _ E (fun k ⟨b, e, hb, _⟩ => ⟨b, e, hb⟩) _ w ⟨E, S, hs⟩) fun ex a' w' ⟨st', hq, E', S', hs'⟩ => ?_
  have fin : RetOK P rs out st' → a'.defers = [] ∧ ∃ v, (results fn a'.tmps).run P w' = .ok v w' ∧ ∃ u E' S', Ending.returned v = .returned u ∧ Eff E S w pre out u w' E' S' := by
    rintro ⟨xs, h1, h2, h3⟩
    obtain ⟨v, h4, h5⟩ := run_results (fn := fn) (by rw [hres]; simpa using h1) hs'
    refine ⟨hs'.dfr, v, h4, v, ⟨fun b => if (pre.lookup b).isSome = true ∨ ¬ ∃ s, (b, s) ∈ out.hp then E.blk b else E'.blk b, fun b => if (pre.lookup b).isSome = true ∨ ¬ ∃ s, (b, s) ∈ out.hp then E.sl b else E'.sl b⟩, S', rfl, ?_⟩
    have hat : ∀ b, ((pre.lookup b).isSome = true ∨ ∃ s, (b, s) ∈ out.hp) → E'.at' ⟨fun b => if (pre.lookup b).isSome = true ∨ ¬ ∃ s, (b, s) ∈ out.hp then E.blk b else E'.blk b, fun b => if (pre.lookup b).isSome = true ∨ ¬ ∃ s, (b, s) ∈ out.hp then E.sl b else E'.sl b⟩ b := by
      intro b hb
      by_cases hpb : (pre.lookup b).isSome = true
      · obtain ⟨g1, g2, _⟩ := hs'.env b hpb
        exact ⟨by simp only [hpb, true_or, if_true]; exact g1.symm, by simp only [hpb, true_or, if_true]; exact g2.symm⟩
      · have hk := hb.resolve_left hpb
        exact ⟨by simp [hpb, hk], by simp [hpb, hk]⟩
    refine
      { env := fun b hb => ?_, sub := fun k hk => hs'.cT k hk, new := fun k hk => hs'.cS k hk, lt := hs'.lt, off := hs'.off, res := ?_, ents := fun b e hbe => ?_, blk := fun b e k hbe hk => ?_, sep := fun b b' e e' k hne hb hb' hk hk' => ?_ }
    · by_cases hk : ∃ s, (b, s) ∈ out.hp
      · obtain ⟨e, he⟩ := hb hk
        have := hlook b e he
        exact ⟨by simp [this], by simp [this]⟩
      · exact ⟨by simp [hk], by simp [hk]⟩
    · rw [h2]
      exact AV.has.step h5 (fun b hb => hat b (hoid b (.inl (by rw [h2]; exact hb)))) (Off.refl S' w') (fun k hk => .inl hk)
    · have hst := h3 b e hbe
      exact (hs'.hp b e hst).step (fun i hi => hat i (hoid i (.inr ⟨b, e, hbe, hi⟩))) (hat b (.inr ⟨_, hbe⟩)) (Off.refl S' w') (fun k hk => .inl hk) (fun _ _ => rfl)
    · rw [Ent.blk_congr (hat b (.inr ⟨_, hbe⟩))] at hk
      exact hs'.blk b e k (h3 b e hbe) hk
    · rw [Ent.blk_congr (hat b (.inr ⟨_, hb⟩))] at hk
      rw [Ent.blk_congr (hat b' (.inr ⟨_, hb'⟩))] at hk'
      exact hs'.sep b b' e e' k hne (h3 b e hb) (h3 b' e' hb') hk hk'
  cases ex with
  | normal => exact fin hq
  | ret => exact fin hq
  | _ => exact hq.elim
theorem PureOK.fn {P : Program} {f : FuncId} {fn : Func} {c : Code} {args : List AV} {r : AV} {nt : Nat} {rs : List ResultVar} (hf : P.funcs[f]? = some fn) (hres : fn.results = rs.toArray) (hnt : fn.ntmps = nt) (hb : fn.body = some c) (hn : (fn.name == "runtime.NumGoroutine") = false) (hna : Nat.ble args.length nt = true)
    (haid : ∀ v ∈ args, v.ids = []) (hr : r.ids = []) (h : ∀ (w0 : World) (T B : Nat → Prop) (E0 : Env), (∀ k, ¬ B k) → WP P ⟨w0, T, B, nt, E0, fun _ => false⟩ c ⟨fun t => args[t]?, fun _ => .free⟩ (retQ P rs ⟨r, []⟩)) : PureOK P f args r :=
  CallOK.fn hf hres hnt hb hn hna (fun b e hb => by cases hb) (fun v hv i hi => by rw [haid v hv] at hi; cases hi) (fun b e hb => by cases hb) (fun b e hb => by cases hb)
    (fun i hi => by
      rcases hi with hi | ⟨b, e, hb, _⟩
      · have : i ∈ r.ids := hi
        rw [hr] at this; cases this
      · cases hb) (fun w0 T B E0 hB => h w0 T B E0 fun k hk => let ⟨_, _, hb⟩ := hB k hk; by cases hb)
/-- A contract for arguments of which more is known. -/
theorem PureOK.args {P : Program} {f : FuncId} {args args' : List AV} {r : AV} (h : PureOK P f args' r) (hm : ∀ E S w vs, All2 (AV.has E S w) args vs → All2 (AV.has E S w) args' vs) : PureOK P f args r :=
  ⟨h.1, fun E S w vs hl hv h1 h2 h3 => h.2 E S w vs hl (hm E S w vs hv) h1 h2 h3⟩
/-- What the arguments say may be used. -/
theorem PureOK.fact {P : Program} {f : FuncId} {args args' : List AV} {r : AV} {φ : Prop} (he : ∃ fn, P.funcs[f]? = some fn ∧ (fn.name == "runtime.NumGoroutine") = false ∧ fn.body.isNone = false) (h : φ → PureOK P f args' r) (hm : ∀ E S w vs, All2 (AV.has E S w) args vs → All2 (AV.has E S w) args' vs ∧ φ) : PureOK P f args r :=
  ⟨he, fun E S w vs hl hv h1 h2 h3 => let ⟨a, b⟩ := hm E S w vs hv; (h b).2 E S w vs hl a h1 h2 h3⟩
/-- The contract as a plain one. -/
theorem PureOK.calls {P : Program} {f : FuncId} {args : List AV} {r : AV} (h : PureOK P f args r) {S : Nat → Prop} {w : World} {vs : List Value} (hl : ∀ k, S k → k < w.heap.size) (E : Env) (hv : All2 (AV.has E S w) args vs) :
    Calls P f vs.toArray w fun e w' => ∃ v E' S', e = .returned v ∧ r.has E' S' w' v ∧ Off none' w w' := by
  refine (h.2 E S w vs hl hv (fun b e hb => by cases hb) (fun b e k hb => by cases hb) (fun b b' e e' k _ hb => by cases hb)).mono ?_
  rintro e w' ⟨v, E', S', rfl, hE⟩
  exact ⟨v, E', S', rfl, hE.res, hE.off.mono fun k ⟨b, e, hb, _⟩ => by cases hb⟩
/-- A pure contract out of a plain one. -/
theorem PureOK.of_calls {P : Program} {f : FuncId} {args : List AV} {r : AV} (he : ∃ fn, P.funcs[f]? = some fn ∧ (fn.name == "runtime.NumGoroutine") = false ∧ fn.body.isNone = false) (haid : r.ids = [])
    (h : ∀ (E : Env) (S : Nat → Prop) (w : World) (vs : List Value), (∀ k, S k → k < w.heap.size) → All2 (AV.has E S w) args vs → Calls P f vs.toArray w fun e w' => ∃ v, e = .returned v ∧ r.has E S w' v ∧ Off none' w w') : PureOK P f args r := by
  refine ⟨he, fun E S w vs hl hv _ _ _ => (h E S w vs hl hv).mono ?_⟩
  rintro e w' ⟨v, rfl, hr, ho⟩
  refine ⟨v, E, S, rfl, { env := fun _ _ => ⟨rfl, rfl⟩, sub := fun _ h => h, new := fun _ h => .inl h, lt := fun k hk => Nat.lt_of_lt_of_le (hl k hk) ho.size, off := ho.mono (fun k hk => hk.elim), res := hr, ents := fun _ _ h => (by cases h), blk := fun _ _ _ h => (by cases h), sep := fun _ _ _ _ _ _ h => (by cases h) }⟩
end
end SX

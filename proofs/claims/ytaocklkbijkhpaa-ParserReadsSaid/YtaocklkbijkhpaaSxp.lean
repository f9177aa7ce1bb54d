import Derived.Test.YtaocklkbijkhpaaSxx
/- Calls that read and write their caller's variables; function values. No program in sight. -/
set_option linter.unusedVariables false
set_option linter.unusedSimpArgs false
namespace SX
open Go Go.RowKit
def memB (l : List Nat) (i : Nat) : Bool := l.any (Nat.beq i)
theorem memB_iff {l : List Nat} {i : Nat} : memB l i = true ↔ i ∈ l := by
  unfold memB
  rw [List.any_eq_true]
  constructor
  · rintro ⟨x, hx, he⟩
    have : i = x := by simpa using he
    rw [this]; exact hx
  · intro h; exact ⟨i, h, by simp⟩
def Slot.ids : Slot → List Nat
  | .ent e => e.ids
  | _ => []
def nodupB : List Nat → Bool
  | [] => true
  | a :: l => !memB l a && nodupB l
/-- Is a contract with boxes well made? -/
def preOK (args : List AV) (pre : List (Nat × Ent)) (out : Out) : Bool :=
  nodupB (pre.map (·.1)) && (pre.all fun p => (Slot.ent p.2).isBox) && (args.all fun v => v.ids.all (memB (pre.map (·.1)))) && (pre.all fun p => p.2.ids.all (memB (pre.map (·.1)))) && ((pre.map (·.1)).all (memB (out.hp.map (·.1)))) &&
    ((out.res.ids ++ out.hp.flatMap fun p => p.2.ids).all fun i => memB (pre.map (·.1)) i || memB (out.hp.map (·.1)) i)
theorem lk_lookup : ∀ (l : List (Nat × Ent)) (b : Nat), l.lookup b = lk l b
  | [], _ => rfl
  | (j, v) :: l, b => by
    rw [List.lookup_cons]
    unfold lk
    by_cases h : b = j
    · subst h; simp
    · have h1 : (b == j) = false := by simpa using h
      have h2 : Nat.beq j b = false := by rw [Bool.eq_false_iff]; simp; omega
      simp only [h1, h2]; exact lk_lookup l b
theorem lk_key : ∀ {l : List (Nat × Ent)} {b : Nat} {e : Ent}, nodupB (l.map (·.1)) = true → (b, e) ∈ l → lk l b = some e
  | (j, v) :: l, b, e, hn, h => by
    rw [List.map_cons, nodupB, Bool.and_eq_true] at hn
    unfold lk
    rcases List.mem_cons.1 h with h | h
    · cases h; simp
    · have hne : Nat.beq j b = false := by
        rw [Bool.eq_false_iff]; intro he
        have he' : j = b := by simpa using he
        subst he'
        have : memB (l.map (·.1)) j = true := memB_iff.2 (List.mem_map.2 ⟨(j, e), h, rfl⟩)
        rw [this] at hn; cases hn.1
      simp only [hne]; exact lk_key hn.2 h
theorem lk_some_of_mem {l : List (Nat × Ent)} {b : Nat} (h : b ∈ l.map (·.1)) : (lk l b).isSome = true := by
  induction l with
  | nil => cases h
  | cons p l ih =>
    obtain ⟨j, v⟩ := p
    unfold lk
    cases hj : Nat.beq j b with
    | true => rfl
    | false =>
      simp only
      refine ih ?_
      rw [List.map_cons] at h
      rcases List.mem_cons.1 h with h | h
      · rw [h] at hj; simp at hj
      · exact h
theorem CallOK.fnF {P : Program} {f : FuncId} {fn : Func} {c : Code} {args : List AV} {pre : List (Nat × Ent)} {out : Out} {nt : Nat} {rs : List ResultVar} (hf : P.funcs[f]? = some fn) (hres : fn.results = rs.toArray) (hnt : fn.ntmps = nt) (hb : fn.body = some c) (hn : (fn.name == "runtime.NumGoroutine") = false) (hna : Nat.ble args.length nt = true)
    (hp : preOK args pre out = true)
    (h : ∀ (w0 : World) (T B : Nat → Prop) (E0 : Env), (∀ k, B k → k ∈ (pre.map (·.1)).map E0.blk) → WP P ⟨w0, T, B, nt, E0, fun b => (lk pre b).isSome⟩ c ⟨fun t => args[t]?, fun b => match lk pre b with | some e => .ent e | none => .free⟩ (retF ⟨w0, T, B, nt, E0, fun b => (lk pre b).isSome⟩ P rs out)) : CallOK P f args pre out := by
  unfold preOK at hp
  simp only [Bool.and_eq_true] at hp
  obtain ⟨⟨⟨⟨⟨p1, p2⟩, p3⟩, p4⟩, p5⟩, p6⟩ := hp
  have e1 : (fun b => (pre.lookup b).isSome) = fun b => (lk pre b).isSome := funext fun b => by rw [lk_lookup]
  have e2 : startSt args pre = ⟨fun t => args[t]?, fun b => match lk pre b with | some e => .ent e | none => .free⟩ := by
    unfold startSt
    congr 1
    funext b
    rw [lk_lookup]
    cases lk pre b <;> rfl
  have key : ∀ i, memB (pre.map (·.1)) i = true → (pre.lookup i).isSome = true := fun i hi => by rw [lk_lookup]; exact lk_some_of_mem (memB_iff.1 hi)
  refine CallOK.fn hf hres hnt hb hn hna (fun b e hb => by rw [lk_lookup]; exact lk_key p1 hb) (fun v hv i hi => key i (List.all_eq_true.1 (List.all_eq_true.1 p3 v hv) i hi)) (fun b e hb i hi => key i (List.all_eq_true.1 (List.all_eq_true.1 p4 (b, e) hb) i hi)) (fun b e hb => ?_) (fun i hi => ?_) (fun w0 T B E0 hB => ?_)
  · have := memB_iff.1 (List.all_eq_true.1 p5 b (List.mem_map.2 ⟨(b, e), hb, rfl⟩))
    obtain ⟨⟨b', s⟩, hs, rfl⟩ := List.mem_map.1 this
    exact ⟨s, hs⟩
  · have hi' : i ∈ out.res.ids ++ out.hp.flatMap fun p => p.2.ids := by
      rw [List.mem_append]
      rcases hi with hi | ⟨b, e, hb, hi⟩
      · exact .inl hi
      · exact .inr (List.mem_flatMap.2 ⟨(b, .ent e), hb, hi⟩)
    have := List.all_eq_true.1 p6 i hi'
    rw [Bool.or_eq_true] at this
    rcases this with h | h
    · exact .inl (key i h)
    · obtain ⟨⟨b', s⟩, hs, rfl⟩ := List.mem_map.1 (memB_iff.1 h)
      exact .inr ⟨s, hs⟩
  · rw [e1, e2]
    refine WP.retF (h w0 T B E0 fun k hk => ?_)
    obtain ⟨b, e, hb, hk⟩ := hB k hk
    have h2 := List.all_eq_true.1 p2 (b, e) hb
    cases e with
    | box t cells =>
      have hk' : some (E0.blk b) = some k := hk
      exact List.mem_map.2 ⟨b, List.mem_map.2 ⟨_, hb, rfl⟩, Option.some.inj hk'⟩
    | row _ _ _ _ => cases h2
section
variable {P : Program} {C : Ctx} {st : St}
variable {ops rest : List Oper} {acc : List (List Nat × List Nat)} {K : List (List Nat × List Nat) → St → Prop} {dst : Option Tmp} {d : Tmp} {op : Op} {ty t t' : TypeId} {x y z : Operand}
/-- The variables that a call sees: those of its arguments, and those that they point to. -/
def pnames : List Nat := [29, 81, 82, 83, 84]
def reach (st : St) (args : List AV) (cap : List Nat) : List Nat :=
  let l := cap ++ args.flatMap AV.ids
  l ++ l.flatMap fun b => (st.hp b).ids
def keysOf (l : List Nat) : List Nat := pnames.filter fun k => memB l k
def preOf (st : St) : List Nat → Option (List (Nat × Ent))
  | [] => some []
  | b :: l => match st.hp b, preOf st l with
    | .ent e, some m => some ((b, e) :: m)
    | _, _ => none
theorem preOf_mem {st : St} : ∀ {l : List Nat} {m : List (Nat × Ent)}, preOf st l = some m → ∀ b e, (b, e) ∈ m → st.hp b = .ent e
  | [], m, h, b, e, hb => by cases h; cases hb
  | a :: l, m, h, b, e, hb => by
    unfold preOf at h
    cases h1 : st.hp a with
    | ent e1 =>
      cases h2 : preOf st l with
      | none => simp [h1, h2] at h
      | some m' =>
        simp only [h1, h2] at h
        cases h
        rcases List.mem_cons.1 hb with hb | hb
        · cases hb; exact h1
        · exact preOf_mem h2 b e hb
    | free => simp [h1] at h
    | gone => simp [h1] at h
/-- Is what a call leaves such as it should be? -/
def outOK (args : List AV) (pre : List (Nat × Ent)) (out : Out) : Bool :=
  ((pre.map (·.1)).all (memB (out.hp.map (·.1)))) && ((out.hp.map (·.1)).all (memB (pre.map (·.1)))) && (out.hp.all fun p => p.2.used) && ((out.res.ids ++ out.hp.flatMap fun p => p.2.ids).all fun i => memB (out.hp.map (·.1)) i)
theorem G.callP {fx : Operand} {f : FuncId} {cap : List (Nat × Nat)} {as : Array Operand} {tys : Array TypeId} {args : List AV} {pre : List (Nat × Ent)} {out : Out}
    (next : Reg P C ops rest (st.app dst out) ((out.hp.map (·.1), out.hp.map (·.1)) :: acc) K) (hd : dstOK dst C.nt = true := by rfl) (hf : st.ev fx = some (.it (.one (.clo f cap))) := by rfl) (ha : evs st as.toList = some args := by rfl)
    (hk : preOf st (keysOf (reach st args (cap.map (·.1)))) = some pre := by rfl) (hc : CallOK P f (args ++ cap.map fun p => .ptr p.1 p.2) pre out := by assumption) (ho : outOK args pre out = true := by rfl) : Go1 P C ops dst (.call ⟨.value fx, as, tys⟩) ty rest st acc K := by
  unfold outOK at ho
  simp only [Bool.and_eq_true] at ho
  obtain ⟨⟨⟨o1, o2⟩, o3⟩, o4⟩ := ho
  refine Go1.callG hd hf ha hc (fun b e hb => ⟨preOf_mem hk b e hb, ?_⟩) (fun b s hb => .inl ?_) (fun b s hb => List.all_eq_true.1 o3 (b, s) hb) (fun b s hb => List.mem_map.2 ⟨(b, s), hb, rfl⟩) (fun i hi => .inl ?_) next
  · have := memB_iff.1 (List.all_eq_true.1 o1 b (List.mem_map.2 ⟨(b, e), hb, rfl⟩))
    obtain ⟨⟨b', s⟩, hs, rfl⟩ := List.mem_map.1 this
    exact ⟨s, hs⟩
  · have := memB_iff.1 (List.all_eq_true.1 o2 b (List.mem_map.2 ⟨(b, s), hb, rfl⟩))
    obtain ⟨⟨b', e⟩, hs, rfl⟩ := List.mem_map.1 this
    exact ⟨e, hs⟩
  · have hi' : i ∈ out.res.ids ++ out.hp.flatMap fun p => p.2.ids := by
      rw [List.mem_append]
      rcases hi with hi | ⟨b, e, hb, hi⟩
      · exact .inl hi
      · exact .inr (List.mem_flatMap.2 ⟨(b, .ent e), hb, hi⟩)
    obtain ⟨⟨b', s⟩, hs, rfl⟩ := List.mem_map.1 (memB_iff.1 (List.all_eq_true.1 o4 i hi'))
    exact ⟨s, hs⟩
theorem run_enterB {o : Oper} {f : FuncId} {as : Array Operand} {tys : Array TypeId} {p : Value} {fx : Operand} {ρ : Operand → Value} (ho : o.op = .call ⟨.value fx, as, tys⟩) (hf : ρ fx = .func (.func f) #[p] #[])
    (he : ∃ fn, P.funcs[f]? = some fn ∧ (fn.name == "runtime.NumGoroutine") = false ∧ fn.body.isNone = false) (w : World) : (execOp ρ o).run P w = .ok (.enter f (#[p] ++ as.map ρ)) w := by
  obtain ⟨fn, h1, h2, h3⟩ := he
  unfold execOp
  rw [ho]
  have h2' : fn.name ≠ "runtime.NumGoroutine" := by simpa using h2
  have h3' : fn.body ≠ none := by intro e; rw [e] at h3; cases h3
  simp [resolve, hf, Deferred.ofValue, invoke, callFunc, h1, h2', h3']
theorem Go1.callB {fx : Operand} {f : FuncId} {p : Nat} {as : Array Operand} {tys : Array TypeId} {args : List AV} {pre : List (Nat × Ent)} {out : Out} {fp : List Nat} (hd : dstOK dst C.nt = true) (hf : st.ev fx = some (.it (.one (.bnd f p)))) (ha : evs st as.toList = some args)
    (hc : CallOK P f (.ptr p 0 :: args) pre out) (hpre : ∀ b e, (b, e) ∈ pre → st.hp b = .ent e ∧ ∃ s, (b, s) ∈ out.hp) (hnew : ∀ b s, (b, s) ∈ out.hp → (∃ e, (b, e) ∈ pre) ∨ st.hp b = .free) (hkeep : ∀ b s, (b, s) ∈ out.hp → s.used = true)
    (hfp : ∀ b s, (b, s) ∈ out.hp → b ∈ fp)
    (hid : ∀ i, (i ∈ out.res.ids ∨ ∃ b e, (b, Slot.ent e) ∈ out.hp ∧ i ∈ e.ids) → (∃ s, (i, s) ∈ out.hp))
    (next : Reg P C ops rest (st.app dst out) ((fp, out.hp.map (·.1)) :: acc) K) : Go1 P C ops dst (.call ⟨.value fx, as, tys⟩) ty rest st acc K := by
  refine ⟨fp, out, fun o h2 h3 h4 => OpOK.eff [] pre (fun b hb => ?_) (h2 ▸ dstOK_spec hd) (fun b e hb => by cases hb) hpre hnew hkeep (fun st' E S a w hev hhp hs _ hpre' => ?_), next⟩
  · rcases hb with ⟨e, hb⟩ | ⟨e, hb⟩ | ⟨s, hb⟩
    · cases hb
    · obtain ⟨_, s, hs⟩ := hpre b e hb; exact hfp b s hs
    · exact hfp b s hb
  · have hop : o.op.operands = #[fx] ++ as := by rw [h3]; rfl
    have ha' : evs st' as.toList = some args := by rw [evs_congr (fun x hx => hev x (by rw [hop]; simp at hx; simp [hx]))]; exact ha
    obtain ⟨hall, hids⟩ := evs_has hs ha'
    have hcl := hs.ev ((hev fx (by rw [hop]; simp)).trans hf)
    obtain ⟨hent, hcall⟩ := hc
    have key : ∀ i, (∃ s, (i, s) ∈ out.hp) → (updL st'.hp out.hp i).used = true := by
      intro i hi
      rcases updL_cases i out.hp st'.hp with ⟨s, g1, g2⟩ | ⟨g1, g2⟩
      · rw [g2]; exact hkeep i s g1
      · obtain ⟨s, hi⟩ := hi; exact absurd hi (g1 s)
    refine ⟨⟨fun i hi => key i (hid i (.inl hi)), fun b e hb i hi => key i (hid i (.inr ⟨b, e, hb, hi⟩))⟩, fun K Q hK => ?_⟩
    have hcalls := hcall E S w (.pointer (some ⟨E.blk p, 0, none⟩) :: as.toList.map a.eval) hs.lt ⟨rfl, hall⟩ (fun b e hb => hs.hp b e (hpre' b e hb)) (fun b e k hb hk => (hs.blk b e k (hpre' b e hb) hk).1)
      (fun b b' e e' k hne hb hb' => hs.sep b b' e e' k hne (hpre' b e hb) (hpre' b' e' hb'))
    unfold Oper.wp
    rw [run_enterB h3 hcl.1 hent w]
    have harr : #[Value.pointer (some ⟨E.blk p, 0, none⟩)] ++ as.map a.eval = (Value.pointer (some ⟨E.blk p, 0, none⟩) :: as.toList.map a.eval).toArray := by
      apply Array.ext'; simp
    show Calls P f _ w _
    rw [harr]
    exact hcalls.mono fun e w' ⟨v, E', S', he, hE⟩ => by subst he; exact hK v w' E' S' hE
theorem G.callB {fx : Operand} {f : FuncId} {p : Nat} {as : Array Operand} {tys : Array TypeId} {args : List AV} {pre : List (Nat × Ent)} {out : Out}
    (next : Reg P C ops rest (st.app dst out) ((out.hp.map (·.1), out.hp.map (·.1)) :: acc) K) (hd : dstOK dst C.nt = true := by rfl) (hf : st.ev fx = some (.it (.one (.bnd f p))) := by rfl) (ha : evs st as.toList = some args := by rfl)
    (hk : preOf st (keysOf (reach st args [p])) = some pre := by rfl) (hc : CallOK P f (.ptr p 0 :: args) pre out := by assumption) (ho : outOK args pre out = true := by rfl) : Go1 P C ops dst (.call ⟨.value fx, as, tys⟩) ty rest st acc K := by
  unfold outOK at ho
  simp only [Bool.and_eq_true] at ho
  obtain ⟨⟨⟨o1, o2⟩, o3⟩, o4⟩ := ho
  refine Go1.callB hd hf ha hc (fun b e hb => ⟨preOf_mem hk b e hb, ?_⟩) (fun b s hb => .inl ?_) (fun b s hb => List.all_eq_true.1 o3 (b, s) hb) (fun b s hb => List.mem_map.2 ⟨(b, s), hb, rfl⟩) (fun i hi => ?_) next
  · have := memB_iff.1 (List.all_eq_true.1 o1 b (List.mem_map.2 ⟨(b, e), hb, rfl⟩))
    obtain ⟨⟨b', s⟩, hs, rfl⟩ := List.mem_map.1 this
    exact ⟨s, hs⟩
  · have := memB_iff.1 (List.all_eq_true.1 o2 b (List.mem_map.2 ⟨(b, s), hb, rfl⟩))
    obtain ⟨⟨b', e⟩, hs, rfl⟩ := List.mem_map.1 this
    exact ⟨e, hs⟩
  · have hi' : i ∈ out.res.ids ++ out.hp.flatMap fun p => p.2.ids := by
      rw [List.mem_append]
      rcases hi with hi | ⟨b, e, hb, hi⟩
      · exact .inl hi
      · exact .inr (List.mem_flatMap.2 ⟨(b, .ent e), hb, hi⟩)
    obtain ⟨⟨b', s⟩, hs, rfl⟩ := List.mem_map.1 (memB_iff.1 (List.all_eq_true.1 o4 i hi'))
    exact ⟨s, hs⟩
/-- Function values. -/
def ptrsOf : List AV → Option (List (Nat × Nat))
  | [] => some []
  | .it (.one (.ptr b off)) :: l => match ptrsOf l with | some m => some ((b, off) :: m) | none => none
  | _ :: _ => none
theorem ptrsOf_spec : ∀ {l : List AV} {m : List (Nat × Nat)}, ptrsOf l = some m → l = m.map fun p => AV.ptr p.1 p.2
  | [], m, h => by simp [ptrsOf] at h; subst h; rfl
  | v :: l, m, h => by
    unfold ptrsOf at h
    split at h
    · rename_i heq; cases heq
    · rename_i b off l' heq
      cases heq
      split at h
      · rename_i m' hm
        cases h
        rw [List.map_cons, ptrsOf_spec hm]
      · cases h
    · cases h
theorem ptrs_has {E : Env} {S : Nat → Prop} {w : World} : ∀ {m : List (Nat × Nat)} {vs : List Value}, All2 (AV.has E S w) (m.map fun p => AV.ptr p.1 p.2) vs → vs = m.map fun p => Value.pointer (some ⟨E.blk p.1, p.2, none⟩)
  | [], [], _ => rfl
  | p :: m, v :: vs, h => by rw [List.map_cons, ← ptrs_has h.2, show v = _ from h.1]
  | [], _ :: _, h => h.elim
  | _ :: _, [], h => h.elim
theorem G.mkclo {f : FuncId} {caps : Array Operand} {l : List AV} {cap : List (Nat × Nat)} (next : Reg P C ops rest (st.app dst ⟨.it (.one (.clo f cap)), []⟩) (([], []) :: acc) K) (hd : dstOK dst C.nt = true := by rfl) (ha : evs st caps.toList = some l := by rfl) (hc : ptrsOf l = some cap := by rfl) : Go1 P C ops dst (.makeFunc (.func f) #[] caps) ty rest st acc K :=
  Go1.pureV [] [] (by simp) hd (by simp) (fun o ho _ st' E S a w hev hs _ => by
    have hop : o.op.operands = caps := by rw [ho]; simp [Op.operands]
    have ha' : evs st' caps.toList = some l := by rw [evs_congr (fun x hx => hev x (by rw [hop]; simpa using hx))]; exact ha
    obtain ⟨hall, hids⟩ := evs_has hs ha'
    have hl := ptrsOf_spec hc
    subst hl
    have hv := ptrs_has hall
    have har : caps.map a.eval = (cap.map fun p => Value.pointer (some ⟨E.blk p.1, p.2, none⟩)).toArray := by apply Array.ext'; simpa using hv
    refine ⟨fun i hi => ?_, _, by unfold execOp; rw [ho]; simp [Instr.makeFunc]; rfl, ?_⟩
    · obtain ⟨p, hp, rfl⟩ := List.mem_map.1 (show i ∈ cap.map (·.1) from hi)
      exact hids (AV.ptr p.1 p.2) (List.mem_map.2 ⟨p, hp, rfl⟩) p.1 (by simp [AV.ids, AV0.ids, Atom.ids])
    · show _ = Value.func (.func f) #[] _
      rw [har]) next
theorem G.mkbnd {f : FuncId} {b : Nat} (next : Reg P C ops rest (st.app dst ⟨.it (.one (.bnd f b)), []⟩) (([], []) :: acc) K) (hd : dstOK dst C.nt = true := by rfl) (hx : st.ev x = some (.ptr b 0) := by rfl) : Go1 P C ops dst (.makeFunc (.func f) #[x] #[]) ty rest st acc K :=
  Go1.pureV [] [] (by simp) hd (by simp) (fun o ho _ st' E S a w hev hs _ => by
    have hx' := hs.ev ((hev x (by simp [ho, Op.operands])).trans hx)
    refine ⟨fun i hi => hx'.2 i hi, _, by unfold execOp; rw [ho]; simp [Instr.makeFunc]; rfl, ?_⟩
    show _ = Value.func (.func f) #[_] #[]
    rw [show a.eval x = _ from hx'.1]) next
theorem G.nilCheckP {b off : Nat} (next : Reg P C ops rest (st.app dst ⟨.ptr b off, []⟩) (([], []) :: acc) K) (hd : dstOK dst C.nt = true := by rfl) (hx : st.ev x = some (.ptr b off) := by rfl) : Go1 P C ops dst (.nilCheck x) ty rest st acc K :=
  Go1.pureV [] [] (by simp) hd (by simp) (fun o ho _ st' E S a w hev hs _ => by
    have hx' := hs.ev ((hev x (by simp [ho, Op.operands])).trans hx)
    have hv : a.eval x = .pointer (some ⟨E.blk b, off, none⟩) := hx'.1
    exact ⟨fun i hi => hx'.2 i hi, _, by unfold execOp; rw [ho]; simp [hv], rfl⟩) next
/-- A mark: the variable that this place makes bears this name. -/
structure Named (d b : Nat) : Prop where
theorem OpOK.allocN {o : Oper} {b : Nat} {cells : List Atom} (hd : ∀ d, o.dst = some d → d < C.nt) (hf : st.hp b = .free)
    (h : ∀ st' E S a w, (∀ x ∈ o.op.operands, st'.ev x = st.ev x) → SatE C st' E S a w →
      (∀ i ∈ cells.flatMap Atom.ids, (st'.hp i).used = true) ∧ ∃ cs, (execOp a.eval o).run P w = .ok (.value (.pointer (some ⟨w.heap.size, 0, none⟩))) (w.alloc (.cells cs t)) ∧ All2 (Atom.has E S w) cells cs.toList) :
    OpOK P C o st [b] ⟨.ptr b 0, [(b, .ent (.box t cells))]⟩ := by
  refine OpOK.eff [] [] (fun b hb => ?_) hd (fun b e hb => by cases hb) (fun b e hb => by cases hb) (fun b s hb => ?_) (fun b s hb => ?_) (fun st' E S a w hev hhp hs _ _ => ?_)
  · rcases hb with ⟨e, hb⟩ | ⟨e, hb⟩ | ⟨s, hb⟩
    · cases hb
    · cases hb
    · simp at hb; simp [hb.1]
  · simp at hb; rw [hb.1]; exact .inr hf
  · simp at hb; rw [hb.2]; rfl
  · obtain ⟨hid, cs, hr, hall⟩ := h st' E S a w hev hs
    have hfree : st'.hp b = .free := (hhp b (by simp)).trans hf
    refine ⟨⟨fun i hi => ?_, fun b e hb i hi => ?_⟩, fun K Q hK => ?_⟩
    · simp [AV.ids, AV0.ids, Atom.ids] at hi; subst hi; simp [updL, Slot.used]
    · simp at hb
      obtain ⟨rfl, rfl⟩ := hb
      by_cases e : i = b
      · subst e; simp [updL, Slot.used]
      · simp only [updL]; rw [upd_ne _ _ e]; exact hid i hi
    · have hE := Eff.alloc (E := E) (S := S) (w := w) (b := b) (T := t) (cells := cells) (cs := cs.toList) hs.lt (fun c hc1 hc2 => by
        have := hid b (List.mem_flatMap.2 ⟨c, hc1, hc2⟩)
        rw [hfree] at this; cases this) hall
      unfold Oper.wp
      rw [hr]
      exact hK _ _ _ _ hE
theorem G.boxN {v : AV0} {b : Nat} (next : Reg P C ops rest (st.app (some d) ⟨.ptr b 0, [(b, .ent (.box t v.cells))]⟩) (([b], [b]) :: acc) K) (hm : Named d b := by assumption) (hd : dstOK (some d) C.nt = true := by rfl) (hx : st.ev x = some (.it v) := by rfl) (hf : st.hp b = .free := by rfl) (h1 : v.cells.all Atom.oneB = true := by rfl) : Go1 P C ops (some d) (.box t x) ty rest st acc K :=
  ⟨[b], ⟨.ptr b 0, [(b, .ent (.box t v.cells))]⟩, fun o h2 h3 h4 => OpOK.allocN (h2 ▸ dstOK_spec hd) hf (fun st' E S a w hev hs => by
    obtain ⟨hv, hids⟩ := hs.ev ((hev x (by simp [h3, Op.operands])).trans hx)
    obtain ⟨us, hc, hall, hone⟩ := AV0.has.cells hv h1
    refine ⟨fun i hi => hids i (by rw [AV0.ids_cells] at hi; exact hi), us.toArray, ?_, by simpa using hall⟩
    unfold execOp; rw [h3]; simp [Instr.box, newVar, newRow, hc]), next⟩
theorem G.allocN {cells : List Value} {b : Nat} [hz : TZero P t cells] (next : Reg P C ops rest (st.app (some d) ⟨.ptr b 0, [(b, .ent (.box t (cells.map fun v => Atom.c (.val v))))]⟩) (([b], [b]) :: acc) K) (hm : Named d b := by assumption) (hd : dstOK (some d) C.nt = true := by rfl) (hf : st.hp b = .free := by rfl) : Go1 P C ops (some d) (.alloc t) ty rest st acc K :=
  ⟨[b], ⟨.ptr b 0, [(b, .ent (.box t (cells.map fun v => Atom.c (.val v))))]⟩, fun o h2 h3 h4 => OpOK.allocN (h2 ▸ dstOK_spec hd) hf (fun st' E S a w hev hs => by
    obtain ⟨z, hz1, hz2⟩ := run_zeroCells hz.h w
    refine ⟨fun i hi => ?_, cells.toArray, ?_, by simpa using all2_vals cells⟩
    · obtain ⟨c, hc, hi⟩ := List.mem_flatMap.1 hi
      obtain ⟨v, _, rfl⟩ := List.mem_map.1 hc
      cases hi
    · unfold execOp; rw [h3]; simp [Instr.alloc, newVar, newRow, hz1, hz2]), next⟩
theorem RetF.frzP {rs : List ResultVar} {out : Out} (b : Nat) {size n : Nat} {ps : List Nat} {cells : List CA} (h : RetF C P rs out (st.frz b size n cells)) (hB : ∀ k, C.B k → k ∈ ps.map C.E0.blk := by assumption) (hps : (ps.all fun p => C.fix p && (st.hp p).isBox && !Nat.beq p b) = true := by rfl) (hb : st.hp b = .ent (.row t size n cells) := by rfl) : RetF C P rs out st := by
  obtain ⟨s', hl, hr⟩ := h
  exact ⟨s', fun a w hs => hl a w (St.le_frzP hB hps hb a w hs), hr⟩
/-- Do the boxes stand as they should? -/
def HpIs (st : St) : List (Nat × Slot) → Prop
  | [] => True
  | (b, s) :: l => st.hp b = s ∧ HpIs st l
theorem HpIs.spec {st : St} : ∀ {l : List (Nat × Slot)}, HpIs st l → ∀ b e, (b, Slot.ent e) ∈ l → st.hp b = .ent e
  | [], _, _, _, h => by cases h
  | (b', s) :: l, hh, b, e, h => by
    rcases List.mem_cons.1 h with h | h
    · cases h; exact hh.1
    · exact hh.2.spec b e h
theorem retP {rs : List ResultVar} {xs : List AV0} {l : List (Nat × Slot)} (h : All2 (ResOK P st) rs xs) (hh : HpIs st l) : RetF C P rs ⟨resAV xs, l⟩ st := .ok ⟨xs, h, rfl, hh.spec⟩
end
section
variable {P : Program} {C : Ctx} {st : St}
variable {ops rest : List Oper} {acc : List (List Nat × List Nat)} {K : List (List Nat × List Nat) → St → Prop} {dst : Option Tmp} {d : Tmp} {ty t : TypeId} {x y z : Operand}
theorem spl_mid {A B D X : List Atom} (h : X.length = B.length) : spl (A ++ B ++ D) A.length X = A ++ X ++ D := by
  have e1 : (A ++ B ++ D).drop (A.length + X.length) = D := List.drop_left' (by rw [List.length_append, h])
  have e2 : (A ++ B ++ D).take A.length = A := by rw [List.append_assoc]; exact List.take_left' rfl
  rw [spl_eq _ _ _ (by simp only [List.length_append]; omega), e1, e2]
theorem fillA_step {size n i : Nat} {v : AV0} {ps : List (Nat × AV0)} {A B D : List Atom} (hi : i < n) (hA : A.length = i * size) (hB : B.length = size) (hv : v.cells.length = size) : fillA (placesOf n size) (A ++ B ++ D) ((i, v) :: ps) = fillA (placesOf n size) (A ++ v.cells ++ D) ps := by
  have hpl : (placesOf n size)[i]? = some (i * size, size) := by simp [placesOf, hi]
  have e1 : Nat.beq v.cells.length size = true := by rw [hv]; exact Nat.beq_refl _
  have e2 : Nat.ble (i * size + size) (A ++ B ++ D).length = true := by rw [Nat.ble_eq]; simp only [List.length_append]; omega
  conv => lhs; unfold fillA
  simp only [hpl, e1, e2, Bool.and_self]
  rw [← hA, spl_mid (by omega)]
theorem blocks {n size : Nat} {zs : List Value} (i : Nat) (hi : i < n) : ∃ Z : List Atom, Z.length = size ∧ ∃ R : List Atom, R.length = (n - i - 1) * size ∧ (((madeCells zs.toArray (n * size)).toList.map fun v => Atom.c (.val v)).drop (i * size)) = Z ++ R := by
  have hz : ((madeCells zs.toArray (n * size)).toList.map fun v => Atom.c (.val v)).length = n * size := by simp [size_madeCells]
  generalize ((madeCells zs.toArray (n * size)).toList.map fun v => Atom.c (.val v)) = W at hz
  have h1 : n * size = (n - i - 1) * size + (i * size + size) := by
    rw [← Nat.succ_mul, ← Nat.add_mul]; congr 1; omega
  refine ⟨(W.drop (i * size)).take size, ?_, (W.drop (i * size)).drop size, ?_, (List.take_append_drop _ _).symm⟩
  · rw [List.length_take, List.length_drop]; omega
  · rw [List.length_drop, List.length_drop]; omega
theorem fill2 {size : Nat} {zs : List Value} {v1 v2 : AV0} (h1 : v1.cells.length = size) (h2 : v2.cells.length = size) : fillA (placesOf 2 size) ((madeCells zs.toArray (2 * size)).toList.map fun v => Atom.c (.val v)) [(0, v1), (1, v2)] = some (v1.cells ++ v2.cells) := by
  obtain ⟨Z, hZ, R, hR, e⟩ := blocks (n := 2) (size := size) (zs := zs) 0 (by omega)
  rw [Nat.zero_mul, List.drop_zero] at e
  rw [e, ← List.nil_append Z, fillA_step (by omega) (by simp) hZ h1, List.nil_append]
  have hR' : R.length = size := by omega
  rw [← List.append_nil R, ← List.append_assoc, fillA_step (by omega) (by omega) hR' h2, List.append_nil]; rfl
theorem fill3 {size : Nat} {zs : List Value} {v1 v2 v3 : AV0} (h1 : v1.cells.length = size) (h2 : v2.cells.length = size) (h3 : v3.cells.length = size) : fillA (placesOf 3 size) ((madeCells zs.toArray (3 * size)).toList.map fun v => Atom.c (.val v)) [(0, v1), (1, v2), (2, v3)] = some (v1.cells ++ v2.cells ++ v3.cells) := by
  obtain ⟨Z, hZ, R, hR, e⟩ := blocks (n := 3) (size := size) (zs := zs) 0 (by omega)
  rw [Nat.zero_mul, List.drop_zero] at e
  rw [e, ← List.nil_append Z, fillA_step (by omega) (by simp) hZ h1, List.nil_append]
  have hR' : R.length = size + size := by omega
  obtain ⟨R1, R2, hr1, hr2, rfl⟩ : ∃ R1 R2 : List Atom, R1.length = size ∧ R2.length = size ∧ R = R1 ++ R2 := ⟨R.take size, R.drop size, by rw [List.length_take]; omega, by rw [List.length_drop]; omega, (List.take_append_drop _ _).symm⟩
  rw [← List.append_assoc, fillA_step (by omega) (by omega) hr1 h2]
  rw [← List.append_nil R2, ← List.append_assoc, fillA_step (by omega) (by simp only [List.length_append]; omega) hr2 h3, List.append_nil]; rfl
/-- Slices of two and of three elements, written out. -/
def litB (size : Nat) (v : AV0) (m : List CA) : Bool := Nat.beq m.length size && Nat.ble size 1000 && v.cells.all Atom.oneB
theorem litB_spec {size : Nat} {v : AV0} {m : List CA} (hc : closedL v.cells = some m) (h : litB size v m = true) : m.length = size ∧ size ≤ 1000 ∧ (v.cells.all Atom.oneB) = true ∧ v.cells.length = size := by
  unfold litB at h
  simp only [Bool.and_eq_true] at h
  obtain ⟨⟨h1, h2⟩, h3⟩ := h
  have hl : m.length = size := Nat.eq_of_beq_eq_true h1
  exact ⟨hl, by simpa [Nat.ble_eq] using h2, h3, by rw [← closedL_len hc]; exact hl⟩
theorem closedL_append : ∀ {a b : List Atom} {m k : List CA}, closedL a = some m → closedL b = some k → closedL (a ++ b) = some (m ++ k)
  | [], b, m, k, ha, hb => by simp [closedL] at ha; subst ha; exact hb
  | x :: a, b, m, k, ha, hb => by
    cases x with
    | c x =>
      unfold closedL at ha
      cases h1 : closedL a with
      | none => simp [h1] at ha
      | some m' =>
        simp [h1] at ha; subst ha
        rw [List.cons_append]
        unfold closedL
        rw [closedL_append h1 hb]; rfl
    | ptr _ _ => simp [closedL] at ha
    | own _ => simp [closedL] at ha
    | rptr _ _ => simp [closedL] at ha
    | clo _ _ => simp [closedL] at ha
    | bnd _ _ => simp [closedL] at ha
theorem G.lit2Own {e : TypeId} {size bytes : Nat} {zs : List Value} {v1 v2 : AV0} {m1 m2 : List CA} [ht : TSlice P t e size] [he : TElem P e zs bytes] (next : Reg P C ops rest (st.app (some d) ⟨.own d, [(d, .ent (.row e size 2 (m1 ++ m2)))]⟩) (([d], [d]) :: acc) K) (hown : OwnLit d := by assumption) (hd : dstOK (some d) C.nt = true := by rfl) (hf : st.hp d = .free := by rfl) (hx : st.ev x = some (.it v1) := by rfl) (hy : st.ev y = some (.it v2) := by rfl) (hc1 : closedL v1.cells = some m1 := by rfl) (hc2 : closedL v2.cells = some m2 := by rfl)
    (hm1 : litB size v1 m1 = true := by rfl) (hm2 : litB size v2 m2 = true := by rfl) : Go1 P C ops (some d) (.buildSlice t 2 #[(0, x), (1, y)]) ty rest st acc K := by
  obtain ⟨a1, a2, a3, a4⟩ := litB_spec hc1 hm1
  obtain ⟨b1, b2, b3, b4⟩ := litB_spec hc2 hm2
  refine Go1.buildSlice (ps := [(0, v1), (1, v2)]) (l := v1.cells ++ v2.cells) (m := m1 ++ m2) hd hf (by simp only [evp, hx, hy]) ?_ ?_ (fill2 a4 b4) (closedL_append hc1 hc2) ?_ next
  · simp only [List.all_cons, List.all_nil, Bool.and_true, a3, b3, Bool.true_and]; rfl
  · rw [Nat.ble_eq]; omega
  · rw [List.length_append, a1, b1, Nat.two_mul]; exact Nat.beq_refl _
theorem G.lit2 {e : TypeId} {size bytes : Nat} {zs : List Value} {v1 v2 : AV0} {m1 m2 : List CA} [ht : TSlice P t e size] [he : TElem P e zs bytes] (next : Reg P C ops rest (st.app dst ⟨.r (sliceR size 2 (m1 ++ m2)), []⟩) (([], []) :: acc) K) (hd : dstOK dst C.nt = true := by rfl) (hx : st.ev x = some (.it v1) := by rfl) (hy : st.ev y = some (.it v2) := by rfl) (hc1 : closedL v1.cells = some m1 := by rfl) (hc2 : closedL v2.cells = some m2 := by rfl)
    (hm1 : litB size v1 m1 = true := by rfl) (hm2 : litB size v2 m2 = true := by rfl) : Go1 P C ops dst (.buildSlice t 2 #[(0, x), (1, y)]) ty rest st acc K := by
  obtain ⟨a1, a2, a3, a4⟩ := litB_spec hc1 hm1
  obtain ⟨b1, b2, b3, b4⟩ := litB_spec hc2 hm2
  refine Go1.buildSliceF (ps := [(0, v1), (1, v2)]) (l := v1.cells ++ v2.cells) (m := m1 ++ m2) hd (by simp only [evp, hx, hy]) ?_ ?_ (fill2 a4 b4) (closedL_append hc1 hc2) ?_ next
  · simp only [List.all_cons, List.all_nil, Bool.and_true, a3, b3, Bool.true_and]; rfl
  · rw [Nat.ble_eq]; omega
  · rw [List.length_append, a1, b1, Nat.two_mul]; exact Nat.beq_refl _
theorem G.lit3 {e : TypeId} {size bytes : Nat} {zs : List Value} {v1 v2 v3 : AV0} {m1 m2 m3 : List CA} [ht : TSlice P t e size] [he : TElem P e zs bytes] (next : Reg P C ops rest (st.app dst ⟨.r (sliceR size 3 (m1 ++ m2 ++ m3)), []⟩) (([], []) :: acc) K) (hd : dstOK dst C.nt = true := by rfl) (hx : st.ev x = some (.it v1) := by rfl) (hy : st.ev y = some (.it v2) := by rfl) (hz : st.ev z = some (.it v3) := by rfl) (hc1 : closedL v1.cells = some m1 := by rfl) (hc2 : closedL v2.cells = some m2 := by rfl) (hc3 : closedL v3.cells = some m3 := by rfl)
    (hm1 : litB size v1 m1 = true := by rfl) (hm2 : litB size v2 m2 = true := by rfl) (hm3 : litB size v3 m3 = true := by rfl) : Go1 P C ops dst (.buildSlice t 3 #[(0, x), (1, y), (2, z)]) ty rest st acc K := by
  obtain ⟨a1, a2, a3, a4⟩ := litB_spec hc1 hm1
  obtain ⟨b1, b2, b3, b4⟩ := litB_spec hc2 hm2
  obtain ⟨c1, c2, c3, c4⟩ := litB_spec hc3 hm3
  refine Go1.buildSliceF (ps := [(0, v1), (1, v2), (2, v3)]) (l := v1.cells ++ v2.cells ++ v3.cells) (m := m1 ++ m2 ++ m3) hd (by simp only [evp, hx, hy, hz]) ?_ ?_ (fill3 a4 b4 c4) (closedL_append (closedL_append hc1 hc2) hc3) ?_ next
  · simp only [List.all_cons, List.all_nil, Bool.and_true, a3, b3, c3, Bool.true_and]; rfl
  · rw [Nat.ble_eq]; omega
  · rw [List.length_append, List.length_append, a1, b1, c1, show 3 * size = size + size + size by omega]; exact Nat.beq_refl _
end
section
variable {P : Program} {C : Ctx} {st : St}
variable {ops rest : List Oper} {acc : List (List Nat × List Nat)} {K : List (List Nat × List Nat) → St → Prop} {dst : Option Tmp} {d : Tmp} {ty t e : TypeId} {x y : Operand} {k : IntKind} {i n size : Nat} {zi : Int}
/-- An array's length and its element. -/
class TArr (P : Program) (t : TypeId) (n : outParam Nat) (e : outParam TypeId) (size : outParam Nat) : Prop where
  h : P.underlying t = some (.array n e)
  s : (P.info? e).map (·.size) = some size
theorem closedL_ids {l : List Atom} {m : List CA} (h : closedL l = some m) : l.flatMap Atom.ids = [] := by
  rw [closedL_spec h]
  clear h
  induction m with
  | nil => rfl
  | cons a m ih => rw [List.map_cons, List.flatMap_cons, ih]; rfl
/-- An array, written out. -/
theorem G.buildA {zs : List Value} {parts : Array (Nat × Operand)} {ps : List (Nat × AV0)} {l : List Atom} {m : List CA} [ht : TArr P t n e size] [hz : TZero P t zs] (next : Reg P C ops rest (st.app (some d) ⟨.agg l, []⟩) (([], []) :: acc) K) (hd : dstOK (some d) C.nt = true := by rfl) (hp : evp st parts.toList = some ps := by rfl) (h1 : (ps.all fun p => p.2.cells.all Atom.oneB && Nat.blt p.1 n) = true := by rfl)
    (hf : fillA (placesOf n size) (zs.map fun v => Atom.c (.val v)) ps = some l := by rfl) (hc : closedL l = some m := by rfl) : Go1 P C ops (some d) (.build t parts) ty rest st acc K :=
  Go1.pureV [] [] (by simp) hd (by simp) (fun o ho _ st' E S a w hev hs _ => by
    have hp' : evp st' parts.toList = some ps := by
      rw [evp_congr (fun x hx => hev x.2 (by rw [ho]; simp [Op.operands]; exact ⟨x.1, by simpa using hx⟩))]; exact hp
    obtain ⟨hall, hids⟩ := evp_has hs hp'
    obtain ⟨z, hz1, hz2⟩ := run_zeroCells hz.h w
    have hu := run_underlying ht.h (w := w)
    have hsz := run_sizeOf ht.s w
    rw [List.all_eq_true] at h1
    obtain ⟨us, hfill, hus⟩ := fill_has (w := w) (cs := zs) hall (fun p hp => by have := h1 p hp; rw [Bool.and_eq_true] at this; exact this.1) (all2_vals zs) hf
    have hfill' : Instr.fill (fun i => some (i * size, size)) zs.toArray (parts.toList.map fun x => (x.1, a.eval x.2)) = some us.toArray := by
      rw [← hfill]
      refine fill_congr _ _ fun q hq => ?_
      obtain ⟨j, hj⟩ := List.getElem?_of_mem hq
      obtain ⟨p, hp1, hp2⟩ := All2.get' hall hj
      have := h1 p (List.mem_of_getElem? hp1)
      rw [Bool.and_eq_true] at this
      have hlt : q.1 < n := by rw [← hp2.1]; simpa [Nat.blt_eq] using this.2
      simp [placesOf, hlt]
    refine ⟨fun j hj => ?_, .agg us.toArray, ?_, us, rfl, hus⟩
    · have : j ∈ l.flatMap Atom.ids := hj
      rw [closedL_ids hc] at this; cases this
    · unfold execOp; rw [ho]
      simp only [Instr.build, Sem.run_bind, Sem.run_pure, Result.andThen_ok, hz1, hz2, hu, hsz, Array.toList_map]
      rw [hfill']
      rfl) next
/-- An array's element of one cell. -/
theorem G.indexA {l : List Atom} {a : Atom} [ht : TArr P t n e 1] [ho : TOne P e] (next : Reg P C ops rest (st.app dst ⟨.it (.one a), []⟩) (([], []) :: acc) K) (hd : dstOK dst C.nt = true := by rfl) (hx : st.ev x = some (.agg l) := by rfl) (hy : st.ev y = some (.v (.int k zi)) := by rfl) (hy0 : zi = (i : Int) := by first | with_reducible rfl | exact SX.litN _ | rfl) (hi : i < n := by omega) (ha : l[i]? = some a := by rfl) : Go1 P C ops dst (.index t x y) ty rest st acc K :=
  Go1.pureV [] [] (by simp) hd (by simp) (fun o ho' _ st' E S b w hev hs _ => by
    obtain ⟨⟨vs, hv, hall⟩, hids⟩ := hs.ev ((hev x (by simp [ho', Op.operands])).trans hx)
    have hyv : b.eval y = .int k zi := (hs.ev ((hev y (by simp [ho', Op.operands])).trans hy)).1
    obtain ⟨v, hv1, hv2⟩ := All2.get hall ha
    have hsz := run_sizeOf ho.s w
    have hag := run_isAgg ho.h w
    refine ⟨fun j hj => hids j (List.mem_flatMap.2 ⟨a, List.mem_of_getElem? ha, hj⟩), v, ?_, hv2⟩
    subst hy0
    unfold execOp; rw [ho']
    simp [hv, hyv, Instr.index, asIntOf, run_underlying ht.h, hi, hsz, part, hag, hv1]) next
end
section
variable {P : Program} {C : Ctx} {st : St}
variable {ops rest : List Oper} {acc : List (List Nat × List Nat)} {K : List (List Nat × List Nat) → St → Prop} {dst : Option Tmp} {d : Tmp} {ty t : TypeId} {x y : Operand}
theorem G.load5 {b off : Nat} {T : TypeId} {cells : List Atom} {a1 a2 a3 a4 a5 : Atom} [ht : TAgg P t 5] (next : Reg P C ops rest (st.app (some d) ⟨.agg [a1, a2, a3, a4, a5], []⟩) (([b], []) :: acc) K) (hd : dstOK (some d) C.nt = true := by rfl) (hx : st.ev x = some (.ptr b off) := by rfl) (hb : st.hp b = .ent (.box T cells) := by rfl) (hr : (cells.drop off).take 5 = [a1, a2, a3, a4, a5] := by rfl) : Go1 P C ops (some d) (.load t x) ty rest st acc K :=
  Go1.loadAgg hd hx hb (by have := congrArg List.length hr; simp at this; rw [Nat.ble_eq]; omega) hr next
theorem G.build5 {pl : List (Nat × Nat)} {zs : List Value} {parts : Array (Nat × Operand)} {ps : List (Nat × AV0)} {a1 a2 a3 a4 a5 : Atom} [ht : TStruct P t pl] [hz : TZero P t zs] (next : Reg P C ops rest (st.app (some d) ⟨.agg [a1, a2, a3, a4, a5], []⟩) (([], []) :: acc) K) (hd : dstOK (some d) C.nt = true := by rfl) (hp : evp st parts.toList = some ps := by rfl) (h1 : (ps.all fun p => p.2.cells.all Atom.oneB) = true := by rfl) (hf : fillA pl (zs.map fun v => Atom.c (.val v)) ps = some [a1, a2, a3, a4, a5] := by rfl) : Go1 P C ops (some d) (.build t parts) ty rest st acc K :=
  Go1.build hd hp h1 hf next
theorem ResOK.agg5 {t : Tmp} {T T' : TypeId} {b off : Nat} {cells : List Atom} {a1 a2 a3 a4 a5 : Atom} [ht : TAgg P T 5] (h : st.tm t = some (.ptr b off)) (hb : st.hp b = .ent (.box T' cells)) (hr : (cells.drop off).take 5 = [a1, a2, a3, a4, a5]) : ResOK P st (.cell t T) (.agg [a1, a2, a3, a4, a5]) :=
  ResOK.agg h hb (by have := congrArg List.length hr; simp at this; rw [Nat.ble_eq]; omega) hr
/-- What is not looked at. -/
def junkR : Rep where
  has _ _ v := v.oneCell' = true
  one h := h
  step h _ _ := h
theorem junk_of {a : Atom} {E : Env} {S : Nat → Prop} {w : World} {v : Value} (h : a.has E S w v) (hb : a.oneB = true) : (Atom.c (.sat junkR)).has E S w v := Atom.has.one h hb
end
structure HeldP (q : Prop) : Prop where
  out : q
theorem goP {p q : Prop} (h : q) (k : HeldP q → p := by
    intro h
    (first
      | (refine SX.Go1.is ?_; first
          | (refine SX.Go1.isLoad ?_; first | refine SX.G.load2 ?_ | refine SX.G.load1 ?_ | refine SX.G.loadR1 ?_ | refine SX.G.loadR2 ?_ | refine SX.G.load4 ?_ | refine SX.G.loadR4 ?_ | refine SX.G.load5 ?_ | refine SX.G.load3 ?_ | refine SX.G.loadR3 ?_ | refine SX.G.loadOW ?_ | refine SX.G.loadO1 ?_)
          | (refine SX.Go1.isBin ?_; first | refine SX.G.lss ?_ | refine SX.G.eql ?_ | refine SX.G.neq ?_ | refine SX.G.gtr ?_ | refine SX.G.geq ?_ | refine SX.G.leq ?_ | refine SX.G.addN ?_ | refine SX.G.addNu ?_ | refine SX.G.subN ?_ | refine SX.G.subNu ?_ | refine SX.G.add ?_ | refine SX.G.sub ?_ | refine SX.G.mulN ?_ | refine SX.G.mulNu ?_ | refine SX.G.mul ?_ | refine SX.G.quoN ?_ | refine SX.G.quoNu ?_ | refine SX.G.quo ?_ | refine SX.G.remN ?_ | refine SX.G.remNu ?_ | refine SX.G.rem ?_ | refine SX.G.eqlT ?_ | refine SX.G.neqT ?_ | refine SX.G.eqlB ?_ | refine SX.G.neqB ?_ | refine SX.G.shr ?_ | refine SX.G.shl ?_ | refine SX.G.and ?_ | refine SX.G.addT ?_)
          | (refine SX.Go1.isUn ?_; first | refine SX.G.not ?_ | refine SX.G.neg ?_)
          | (refine SX.Go1.isField ?_; first | refine SX.G.fieldAddr ?_ | refine SX.G.fieldAddrR ?_)
          | (refine SX.Go1.isBuild ?_; first | refine SX.G.buildA ?_ | refine SX.G.build2 ?_ | refine SX.G.build3 ?_ | refine SX.G.build4 ?_ | refine SX.G.build5 ?_ | refine SX.G.build ?_)
          | (refine SX.Go1.isStore ?_; first | refine SX.G.store ?_ | refine SX.G.storeP ?_ | refine SX.G.storeO ?_)
          | (refine SX.Go1.isIx ?_; first | refine SX.G.indexAddrW ?_ | refine SX.G.indexAddrV ?_ | refine SX.G.indexAddrR ?_ | refine SX.G.indexAddrO ?_)
          | (refine SX.Go1.isBuildS ?_; first | refine SX.G.litOwn ?_ | refine SX.G.lit2Own ?_ | refine SX.G.lit2 ?_ | refine SX.G.lit3 ?_ | refine SX.G.lit1 ?_)
          | (refine SX.Go1.isCall ?_; first | refine SX.G.minN ?_ | refine SX.G.maxN ?_ | refine SX.G.lenR ?_ | refine SX.G.lenN ?_ | refine SX.G.lenT ?_ | refine SX.G.lenS ?_ | refine SX.G.lenO ?_ | refine SX.G.appendW ?_ | refine SX.G.appendNilW ?_ | refine SX.G.callP ?_ | refine SX.G.callB ?_ | refine SX.G.callOwn ?_ | refine SX.G.call ?_)
          | refine SX.G.move ?_ | refine SX.G.assign ?_ | refine SX.G.extract ?_ | refine SX.G.boxN ?_ | refine SX.G.box ?_ | refine SX.G.allocN ?_ | refine SX.G.alloc ?_ | refine SX.G.nilCheckP ?_ | refine SX.G.mkclo ?_ | refine SX.G.mkbnd ?_ | refine SX.G.pick ?_ | refine SX.R.pickT ?_ | refine SX.R.pickF ?_ | refine SX.G.pickB ?_ | refine SX.G.pickV ?_ | refine SX.G.makeN ?_ | refine SX.G.convN ?_ | refine SX.G.conv ?_ | refine SX.G.convBS ?_ | refine SX.G.sliceHiW ?_ | refine SX.G.sliceLoW ?_ | refine SX.G.sliceHiR ?_ | refine SX.G.sliceLoR ?_ | refine SX.G.sliceHiO ?_ | refine SX.G.sliceHiT ?_ | refine SX.G.sliceLoT ?_ | refine SX.G.sliceLHT ?_ | refine SX.G.indexA ?_ | refine SX.G.indexT ?_ | refine SX.G.sliceHiS ?_ | refine SX.G.sliceLoS ?_ | refine SX.G.sliceLHS ?_ | refine SX.G.indexS ?_)
      | (refine SX.Reg.is ?_; first | refine SX.Reg.go ?_ | refine SX.R.runT ?_ | refine SX.R.runF ?_ | refine SX.R.skipT ?_ | refine SX.R.skipF ?_ | refine SX.R.skipU ?_ | refine SX.Reg.nil ⟨by kernel_rfl, ?_⟩ | refine SX.Reg.nil ?_)
      | (refine SX.WP.is ?_; first | refine SX.WP.seq ?_ | refine SX.WP.regionL ?_ | refine SX.WP.regionDL (by kernel_rfl) ?_ | refine SX.WP.block ?_ | refine SX.WP.skip ?_ | refine SX.WP.exit ?_ | refine SX.WP.ret ?_ | refine SX.WP.label ?_ | refine SX.W.condT ?_ | refine SX.W.condF ?_)
      | refine SX.thenN ?_ | refine SX.thenE ?_ | refine SX.thenR ?_ | refine SX.inBlkN ?_ | refine SX.inBlkR ?_ | refine SX.inBlkE ?_ | refine SX.inBlkO rfl ?_ | refine SX.retR ?_ | refine SX.retN ?_ | refine SX.retFR ?_ | refine SX.retFN ?_)
    repeat (first
      | (refine SX.Go1.is ?_; first
          | (refine SX.Go1.isLoad ?_; first | refine SX.G.load2 ?_ | refine SX.G.load1 ?_ | refine SX.G.loadR1 ?_ | refine SX.G.loadR2 ?_ | refine SX.G.load4 ?_ | refine SX.G.loadR4 ?_ | refine SX.G.load5 ?_ | refine SX.G.load3 ?_ | refine SX.G.loadR3 ?_ | refine SX.G.loadOW ?_ | refine SX.G.loadO1 ?_)
          | (refine SX.Go1.isBin ?_; first | refine SX.G.lss ?_ | refine SX.G.eql ?_ | refine SX.G.neq ?_ | refine SX.G.gtr ?_ | refine SX.G.geq ?_ | refine SX.G.leq ?_ | refine SX.G.addN ?_ | refine SX.G.addNu ?_ | refine SX.G.subN ?_ | refine SX.G.subNu ?_ | refine SX.G.add ?_ | refine SX.G.sub ?_ | refine SX.G.mulN ?_ | refine SX.G.mulNu ?_ | refine SX.G.mul ?_ | refine SX.G.quoN ?_ | refine SX.G.quoNu ?_ | refine SX.G.quo ?_ | refine SX.G.remN ?_ | refine SX.G.remNu ?_ | refine SX.G.rem ?_ | refine SX.G.eqlT ?_ | refine SX.G.neqT ?_ | refine SX.G.eqlB ?_ | refine SX.G.neqB ?_ | refine SX.G.shr ?_ | refine SX.G.shl ?_ | refine SX.G.and ?_ | refine SX.G.addT ?_)
          | (refine SX.Go1.isUn ?_; first | refine SX.G.not ?_ | refine SX.G.neg ?_)
          | (refine SX.Go1.isField ?_; first | refine SX.G.fieldAddr ?_ | refine SX.G.fieldAddrR ?_)
          | (refine SX.Go1.isBuild ?_; first | refine SX.G.buildA ?_ | refine SX.G.build2 ?_ | refine SX.G.build3 ?_ | refine SX.G.build4 ?_ | refine SX.G.build5 ?_ | refine SX.G.build ?_)
          | (refine SX.Go1.isStore ?_; first | refine SX.G.store ?_ | refine SX.G.storeP ?_ | refine SX.G.storeO ?_)
          | (refine SX.Go1.isIx ?_; first | refine SX.G.indexAddrW ?_ | refine SX.G.indexAddrV ?_ | refine SX.G.indexAddrR ?_ | refine SX.G.indexAddrO ?_)
          | (refine SX.Go1.isBuildS ?_; first | refine SX.G.litOwn ?_ | refine SX.G.lit2Own ?_ | refine SX.G.lit2 ?_ | refine SX.G.lit3 ?_ | refine SX.G.lit1 ?_)
          | (refine SX.Go1.isCall ?_; first | refine SX.G.minN ?_ | refine SX.G.maxN ?_ | refine SX.G.lenR ?_ | refine SX.G.lenN ?_ | refine SX.G.lenT ?_ | refine SX.G.lenS ?_ | refine SX.G.lenO ?_ | refine SX.G.appendW ?_ | refine SX.G.appendNilW ?_ | refine SX.G.callP ?_ | refine SX.G.callB ?_ | refine SX.G.callOwn ?_ | refine SX.G.call ?_)
          | refine SX.G.move ?_ | refine SX.G.assign ?_ | refine SX.G.extract ?_ | refine SX.G.boxN ?_ | refine SX.G.box ?_ | refine SX.G.allocN ?_ | refine SX.G.alloc ?_ | refine SX.G.nilCheckP ?_ | refine SX.G.mkclo ?_ | refine SX.G.mkbnd ?_ | refine SX.G.pick ?_ | refine SX.R.pickT ?_ | refine SX.R.pickF ?_ | refine SX.G.pickB ?_ | refine SX.G.pickV ?_ | refine SX.G.makeN ?_ | refine SX.G.convN ?_ | refine SX.G.conv ?_ | refine SX.G.convBS ?_ | refine SX.G.sliceHiW ?_ | refine SX.G.sliceLoW ?_ | refine SX.G.sliceHiR ?_ | refine SX.G.sliceLoR ?_ | refine SX.G.sliceHiO ?_ | refine SX.G.sliceHiT ?_ | refine SX.G.sliceLoT ?_ | refine SX.G.sliceLHT ?_ | refine SX.G.indexA ?_ | refine SX.G.indexT ?_ | refine SX.G.sliceHiS ?_ | refine SX.G.sliceLoS ?_ | refine SX.G.sliceLHS ?_ | refine SX.G.indexS ?_)
      | (refine SX.Reg.is ?_; first | refine SX.Reg.go ?_ | refine SX.R.runT ?_ | refine SX.R.runF ?_ | refine SX.R.skipT ?_ | refine SX.R.skipF ?_ | refine SX.R.skipU ?_ | refine SX.Reg.nil ⟨by kernel_rfl, ?_⟩ | refine SX.Reg.nil ?_)
      | (refine SX.WP.is ?_; first | refine SX.WP.seq ?_ | refine SX.WP.regionL ?_ | refine SX.WP.regionDL (by kernel_rfl) ?_ | refine SX.WP.block ?_ | refine SX.WP.skip ?_ | refine SX.WP.exit ?_ | refine SX.WP.ret ?_ | refine SX.WP.label ?_ | refine SX.W.condT ?_ | refine SX.W.condF ?_)
      | refine SX.thenN ?_ | refine SX.thenE ?_ | refine SX.thenR ?_ | refine SX.inBlkN ?_ | refine SX.inBlkR ?_ | refine SX.inBlkE ?_ | refine SX.inBlkO rfl ?_ | refine SX.retR ?_ | refine SX.retN ?_ | refine SX.retFR ?_ | refine SX.retFN ?_)
    exact h.out) : p := k ⟨h⟩
end SX

import Derived.Test.YtkdonndeogihfaaSxi
/- A struct's value out of its parts. No program in sight. -/
set_option linter.unusedVariables false
set_option linter.unusedSimpArgs false
namespace SX
open Go Go.RowKit
def fillA (pl : List (Nat × Nat)) : List Atom → List (Nat × AV0) → Option (List Atom)
  | cells, [] => some cells
  | cells, (i, x) :: rest => match pl[i]? with
    | none => none
    | some (off, size) => match Nat.beq x.cells.length size && Nat.ble (off + size) cells.length with
      | true => fillA pl (spl cells off x.cells) rest
      | false => none
def evp (st : St) : List (Nat × Operand) → Option (List (Nat × AV0))
  | [] => some []
  | (i, x) :: xs => match st.ev x, evp st xs with
    | some (.it v), some vs => some ((i, v) :: vs)
    | _, _ => none
section
variable {P : Program} {C : Ctx} {st : St}
theorem evp_congr {st st' : St} : ∀ {xs : List (Nat × Operand)}, (∀ x ∈ xs, st'.ev x.2 = st.ev x.2) → evp st' xs = evp st xs
  | [], _ => rfl
  | (i, x) :: xs, h => by unfold evp; rw [h (i, x) (by simp), evp_congr (fun y hy => h y (by simp [hy]))]
theorem evp_has {E : Env} {S : Nat → Prop} {a : Act} {w : World} (h : SatE C st E S a w) : ∀ {xs : List (Nat × Operand)} {l : List (Nat × AV0)}, evp st xs = some l → All2 (fun p q => p.1 = q.1 ∧ p.2.has E S w q.2) l (xs.map fun x => (x.1, a.eval x.2)) ∧ ∀ p ∈ l, ∀ b ∈ p.2.ids, (st.hp b).used = true
  | [], l, hl => by simp [evp] at hl; subst hl; exact ⟨trivial, by simp⟩
  | (i, x) :: xs, l, hl => by
    unfold evp at hl
    cases hx : st.ev x with
    | none => simp [hx] at hl
    | some v =>
      cases v with
      | tup l' => simp [hx] at hl
      | it v =>
        cases hxs : evp st xs with
        | none => simp [hx, hxs] at hl
        | some vs =>
          simp [hx, hxs] at hl
          subst hl
          obtain ⟨h1, h2⟩ := h.ev hx
          obtain ⟨h3, h4⟩ := evp_has h hxs
          exact ⟨⟨⟨rfl, h1⟩, h3⟩, fun u hu => by
            rcases List.mem_cons.1 hu with rfl | hu
            · exact h2
            · exact h4 u hu⟩
theorem foldl_set : ∀ (us : List Value) (cs : List Value) (off j : Nat), off + j + us.length ≤ cs.length →
    ((us.zipIdx j).foldl (fun (cs : Array Value) (p : Value × Nat) => cs.setIfInBounds (off + p.2) p.1) cs.toArray) = (spl cs (off + j) us).toArray
  | [], cs, off, j, h => by
    rw [spl_eq _ _ _ h]; simp
  | u :: us, cs, off, j, h => by
    simp only [List.zipIdx_cons, List.foldl_cons]
    have h2 : cs.toArray.setIfInBounds (off + j) u = (cs.set (off + j) u).toArray := by simp
    rw [h2, foldl_set us (cs.set (off + j) u) off (j + 1) (by simp at h ⊢; omega)]
    congr 1
    rw [spl_eq _ _ _ (by simp at h ⊢; omega), spl_eq _ _ _ h]
    have := list_seg_step cs (off + j) u us (by simpa using h)
    simpa [Nat.add_assoc] using this
theorem fill_has {E : Env} {S : Nat → Prop} {w : World} {pl : List (Nat × Nat)} : ∀ {ps : List (Nat × AV0)} {qs : List (Nat × Value)} {cells l : List Atom} {cs : List Value}, All2 (fun p q => p.1 = q.1 ∧ p.2.has E S w q.2) ps qs → (∀ p ∈ ps, p.2.cells.all Atom.oneB = true) →
    All2 (Atom.has E S w) cells cs → fillA pl cells ps = some l → ∃ us, Instr.fill (fun i => pl[i]?) cs.toArray qs = some us.toArray ∧ All2 (Atom.has E S w) l us
  | [], [], cells, l, cs, _, _, hc, hf => by simp [fillA] at hf; subst hf; exact ⟨cs, rfl, hc⟩
  | (i, x) :: ps, (j, v) :: qs, cells, l, cs, h, h1, hc, hf => by
    obtain ⟨⟨e, hx⟩, h⟩ := h
    simp only at e hx
    subst e
    obtain ⟨us, hus, hall, _⟩ := AV0.has.cells hx (h1 (i, x) (by simp))
    unfold fillA at hf
    cases hp : pl[i]? with
    | none => simp [hp] at hf
    | some q =>
      obtain ⟨off, size⟩ := q
      simp only [hp] at hf
      cases hb : Nat.beq x.cells.length size && Nat.ble (off + size) cells.length with
      | false => simp [hb] at hf
      | true =>
        simp only [hb] at hf
        rw [Bool.and_eq_true, Nat.ble_eq] at hb
        obtain ⟨hb1, hb2⟩ := hb
        have hb1' : x.cells.length = size := Nat.eq_of_beq_eq_true hb1
        have hl1 := hall.length
        have hl2 := hc.length
        obtain ⟨us', h3, h4⟩ := fill_has h (fun p hp => h1 p (by simp [hp])) (hc.spl off hall) hf
        refine ⟨us', ?_, h4⟩
        unfold Instr.fill
        simp only [hp, hus, List.size_toArray]
        rw [if_neg (by simp; omega)]
        have h5 := foldl_set us cs off 0 (by simp; omega)
        rw [← h3]
        congr 1
        simpa [Array.foldl_toList] using h5
  | [], _ :: _, _, _, _, h, _, _, _ => h.elim
  | _ :: _, [], _, _, _, h, _, _, _ => h.elim
theorem run_places {t : TypeId} {pl : List (Nat × Nat)} (h : TStruct P t pl) (w : World) : ∃ fs, P.underlying t = some (.struct fs) ∧ (fs.mapM fun f => do pure (f.offset, ← Go.sizeOf f.type) : Sem (Array (Nat × Nat))).run P w = .ok pl.toArray w := by
  have h := h.h
  unfold structPl at h
  cases hu : P.underlying t with
  | none => simp [hu] at h
  | some d =>
    cases d <;> simp [hu] at h
    rename_i fs
    refine ⟨fs, rfl, ?_⟩
    have key : ∀ (l : List Field) (m : List (Nat × Nat)), (l.map fun f => (f.offset, (P.info? f.type).map (·.size))) = m.map (fun p => (p.1, some p.2)) → (l.mapM fun f => do pure (f.offset, ← Go.sizeOf f.type) : Sem (List (Nat × Nat))).run P w = .ok m w := by
      intro l
      induction l with
      | nil => intro m hm; cases m with
        | nil => rfl
        | cons _ _ => simp at hm
      | cons f l ih =>
        intro m hm
        cases m with
        | nil => simp at hm
        | cons p m =>
          simp only [List.map_cons, List.cons.injEq, Prod.mk.injEq] at hm
          have hs := run_sizeOf hm.1.2 w
          have := ih m hm.2
          simp only [List.mapM_cons, Sem.run_bind, Sem.run_pure, hs, this, hm.1.1, Result.andThen_ok]
    have : fs = fs.toList.toArray := by simp
    rw [this, List.mapM_toArray, Sem.run_map, key fs.toList pl (by simpa using h)]
    rfl
variable {ops rest : List Oper} {acc : List (List Nat × List Nat)} {K : List (List Nat × List Nat) → St → Prop} {d : Tmp} {ty t : TypeId}
theorem Go1.build {pl : List (Nat × Nat)} {zs : List Value} {parts : Array (Nat × Operand)} {ps : List (Nat × AV0)} {l : List Atom} [ht : TStruct P t pl] [hz : TZero P t zs] (hd : dstOK (some d) C.nt = true) (hp : evp st parts.toList = some ps) (h1 : (ps.all fun p => p.2.cells.all Atom.oneB) = true)
    (hf : fillA pl (zs.map fun v => Atom.c (.val v)) ps = some l) (next : Reg P C ops rest (st.app (some d) ⟨.agg l, []⟩) (([], []) :: acc) K) : Go1 P C ops (some d) (.build t parts) ty rest st acc K :=
  Go1.pureV [] [] (by simp) hd (by simp) (fun o ho _ st' E S a w hev hs _ => by
    have hp' : evp st' parts.toList = some ps := by
      rw [evp_congr (fun x hx => hev x.2 (by rw [ho]; simp [Op.operands]; exact ⟨x.1, by simpa using hx⟩))]; exact hp
    obtain ⟨hall, hids⟩ := evp_has hs hp'
    obtain ⟨z, hz1, hz2⟩ := run_zeroCells hz.h w
    obtain ⟨fs, hu, hpl⟩ := run_places ht w
    obtain ⟨us, hfill, hus⟩ := fill_has (w := w) (cs := zs) hall (fun p hp => by rw [List.all_eq_true] at h1; exact h1 p hp) (all2_vals zs) hf
    have hfill' : Instr.fill (fun i : Nat => pl.toArray[i]?) zs.toArray (parts.toList.map fun x => (x.1, a.eval x.2)) = some us.toArray := by
      have e1 : (fun i : Nat => pl.toArray[i]?) = (fun i : Nat => pl[i]?) := by funext i; simp
      rw [e1]; exact hfill
    refine ⟨?_, .agg us.toArray, ?_, us, rfl, hus⟩
    · -- the ids
      have key : ∀ (ps : List (Nat × AV0)) (cells l : List Atom), fillA pl cells ps = some l → (∀ i ∈ cells.flatMap Atom.ids, (st'.hp i).used = true) → (∀ p ∈ ps, ∀ b ∈ p.2.ids, (st'.hp b).used = true) → ∀ i ∈ l.flatMap Atom.ids, (st'.hp i).used = true := by
        intro ps
        induction ps with
        | nil => intro cells l hf hc _ i hi; simp [fillA] at hf; subst hf; exact hc i hi
        | cons p ps ih =>
          intro cells l hf hc hps i hi
          obtain ⟨j, x⟩ := p
          unfold fillA at hf
          cases hpj : pl[j]? with
          | none => simp [hpj] at hf
          | some q =>
            obtain ⟨off, size⟩ := q
            simp only [hpj] at hf
            cases hb : Nat.beq x.cells.length size && Nat.ble (off + size) cells.length with
            | false => simp [hb] at hf
            | true =>
              simp only [hb] at hf
              rw [Bool.and_eq_true, Nat.ble_eq] at hb
              have hb1' : x.cells.length = size := Nat.eq_of_beq_eq_true hb.1
              refine ih _ l hf (fun i hi => ?_) (fun p hp => hps p (by simp [hp])) i hi
              obtain ⟨c, hc1, hc2⟩ := List.mem_flatMap.1 hi
              rw [spl_eq _ _ _ (by omega)] at hc1
              simp only [List.mem_append] at hc1
              rcases hc1 with (hc1 | hc1) | hc1
              · exact hc i (List.mem_flatMap.2 ⟨c, List.mem_of_mem_take hc1, hc2⟩)
              · refine hps (j, x) (by simp) i ?_
                rw [← AV0.ids_cells]; exact List.mem_flatMap.2 ⟨c, hc1, hc2⟩
              · exact hc i (List.mem_flatMap.2 ⟨c, List.mem_of_mem_drop hc1, hc2⟩)
      exact key ps _ l hf (fun i hi => by
        obtain ⟨c, hc, hi⟩ := List.mem_flatMap.1 hi
        obtain ⟨v, _, rfl⟩ := List.mem_map.1 hc
        cases hi) hids
    · unfold execOp; rw [ho]
      have hparts : (parts.map fun x => (x.1, a.eval x.2)).toList = parts.toList.map fun x => (x.1, a.eval x.2) := by simp
      simp only [Instr.build, Sem.run_bind, hz1, Result.andThen_ok, run_underlying hu, hpl, hz2, hparts]
      simp only [hfill', Sem.run_pure, Result.andThen_ok]) next
theorem Go1.build2 {pl : List (Nat × Nat)} {zs : List Value} {parts : Array (Nat × Operand)} {ps : List (Nat × AV0)} {a1 a2 : Atom} [ht : TStruct P t pl] [hz : TZero P t zs] (hd : dstOK (some d) C.nt = true) (hp : evp st parts.toList = some ps) (h1 : (ps.all fun p => p.2.cells.all Atom.oneB) = true)
    (hf : fillA pl (zs.map fun v => Atom.c (.val v)) ps = some [a1, a2]) (next : Reg P C ops rest (st.app (some d) ⟨.agg [a1, a2], []⟩) (([], []) :: acc) K) : Go1 P C ops (some d) (.build t parts) ty rest st acc K := Go1.build hd hp h1 hf next
theorem Go1.build3 {pl : List (Nat × Nat)} {zs : List Value} {parts : Array (Nat × Operand)} {ps : List (Nat × AV0)} {a1 a2 a3 : Atom} [ht : TStruct P t pl] [hz : TZero P t zs] (hd : dstOK (some d) C.nt = true) (hp : evp st parts.toList = some ps) (h1 : (ps.all fun p => p.2.cells.all Atom.oneB) = true)
    (hf : fillA pl (zs.map fun v => Atom.c (.val v)) ps = some [a1, a2, a3]) (next : Reg P C ops rest (st.app (some d) ⟨.agg [a1, a2, a3], []⟩) (([], []) :: acc) K) : Go1 P C ops (some d) (.build t parts) ty rest st acc K := Go1.build hd hp h1 hf next
theorem Go1.build4 {pl : List (Nat × Nat)} {zs : List Value} {parts : Array (Nat × Operand)} {ps : List (Nat × AV0)} {a1 a2 a3 a4 : Atom} [ht : TStruct P t pl] [hz : TZero P t zs] (hd : dstOK (some d) C.nt = true) (hp : evp st parts.toList = some ps) (h1 : (ps.all fun p => p.2.cells.all Atom.oneB) = true)
    (hf : fillA pl (zs.map fun v => Atom.c (.val v)) ps = some [a1, a2, a3, a4]) (next : Reg P C ops rest (st.app (some d) ⟨.agg [a1, a2, a3, a4], []⟩) (([], []) :: acc) K) : Go1 P C ops (some d) (.build t parts) ty rest st acc K := Go1.build hd hp h1 hf next
end
section
variable {P : Program} {C : Ctx} {st : St} {ops rest : List Oper} {acc : List (List Nat × List Nat)} {K : List (List Nat × List Nat) → St → Prop} {dst : Option Tmp} {op : Op} {ty t t' : TypeId} {x y : Operand} {b : BinOp} {u : UnOp} {cl : Call} {i : Nat} {c : Code} {Q : Exit → St → Prop} {parts : Array (Nat × Operand)} {n : Nat}
theorem WP.condHT {x y : Code} {c : Operand} {t : Bool} (hc : st.ev c = some (.v (.bool t))) (ht : t = true) (h : WP P C x st Q) : WP P C (.cond c x y) st Q := WP.cond hc (fun _ => h) (fun e => by rw [ht] at e; cases e)
theorem WP.condHF {x y : Code} {c : Operand} {t : Bool} (hc : st.ev c = some (.v (.bool t))) (ht : t = false) (h : WP P C y st Q) : WP P C (.cond c x y) st Q := WP.cond hc (fun e => by rw [ht] at e; cases e) (fun _ => h)
theorem Go1.pickHT {c : Operand} {t : Bool} {r : AV} (hd : dstOK dst C.nt = true) (hc : st.ev c = some (.v (.bool t))) (ht : t = true) (hx : st.ev x = some r) (next : Reg P C ops rest (st.app dst ⟨r, []⟩) (([], []) :: acc) K) : Go1 P C ops dst (.pick c x y) ty rest st acc K := by
  subst ht; exact Go1.pick hd hc hx next
theorem Go1.pickHF {c : Operand} {t : Bool} {r : AV} (hd : dstOK dst C.nt = true) (hc : st.ev c = some (.v (.bool t))) (ht : t = false) (hx : st.ev y = some r) (next : Reg P C ops rest (st.app dst ⟨r, []⟩) (([], []) :: acc) K) : Go1 P C ops dst (.pick c x y) ty rest st acc K := by
  subst ht; exact Go1.pick hd hc hx next
theorem Go1.pickB {c : Operand} {t u v : Bool} (hd : dstOK dst C.nt = true) (hc : st.ev c = some (.v (.bool t))) (hx : st.ev x = some (.v (.bool u))) (hy : st.ev y = some (.v (.bool v))) (next : Reg P C ops rest (st.app dst ⟨.v (.bool (bif t then u else v)), []⟩) (([], []) :: acc) K) : Go1 P C ops dst (.pick c x y) ty rest st acc K := by
  cases t
  · exact Go1.pick hd hc hy next
  · exact Go1.pick hd hc hx next
theorem wrapI64 {z : Int} (h1 : -9223372036854775808 ≤ z) (h2 : z ≤ 9223372036854775807) : IntKind.i64.wrap z = z := IntWalk.i64_in z ⟨h1, h2⟩
theorem wrapU64 {z : Int} (h1 : 0 ≤ z) (h2 : z ≤ 18446744073709551615) : IntKind.u64.wrap z = z := by
  simp only [IntKind.wrap, IntKind.bits, IntKind.signed]; simp; omega
/- The same again: for a quick look at what stands next. -/
theorem Go1.is (h : Go1 P C ops dst op ty rest st acc K) : Go1 P C ops dst op ty rest st acc K := h
theorem Reg.is {l : List Oper} (h : Reg P C ops l st acc K) : Reg P C ops l st acc K := h
theorem WP.is (h : WP P C c st Q) : WP P C c st Q := h
theorem Go1.isLoad (h : Go1 P C ops dst (.load t x) ty rest st acc K) : Go1 P C ops dst (.load t x) ty rest st acc K := h
theorem Go1.isBin (h : Go1 P C ops dst (.binOp b t x y t') ty rest st acc K) : Go1 P C ops dst (.binOp b t x y t') ty rest st acc K := h
theorem Go1.isUn (h : Go1 P C ops dst (.unOp u t x) ty rest st acc K) : Go1 P C ops dst (.unOp u t x) ty rest st acc K := h
theorem Go1.isCall (h : Go1 P C ops dst (.call cl) ty rest st acc K) : Go1 P C ops dst (.call cl) ty rest st acc K := h
theorem Go1.isField (h : Go1 P C ops dst (.fieldAddr t x i) ty rest st acc K) : Go1 P C ops dst (.fieldAddr t x i) ty rest st acc K := h
theorem Go1.isBuild (h : Go1 P C ops dst (.build t parts) ty rest st acc K) : Go1 P C ops dst (.build t parts) ty rest st acc K := h
theorem Go1.isBuildS (h : Go1 P C ops dst (.buildSlice t n parts) ty rest st acc K) : Go1 P C ops dst (.buildSlice t n parts) ty rest st acc K := h
theorem Go1.isStore (h : Go1 P C ops dst (.store t x y) ty rest st acc K) : Go1 P C ops dst (.store t x y) ty rest st acc K := h
theorem Go1.isIx (h : Go1 P C ops dst (.indexAddr t x y) ty rest st acc K) : Go1 P C ops dst (.indexAddr t x y) ty rest st acc K := h
end
end SX

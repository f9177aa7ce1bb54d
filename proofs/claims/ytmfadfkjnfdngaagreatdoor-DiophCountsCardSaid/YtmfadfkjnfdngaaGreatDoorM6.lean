import Derived.Test.YtmfadfkjnfdngaaGreatDoorM5
import Derived.Laws.BytesString
set_option linter.unusedVariables false
set_option linter.unusedSimpArgs false
namespace SX
open Go Go.RowKit
section
variable {P : Program}
def OwnOK (P : Program) (f : FuncId) (args : List AV) (t : TypeId) (size n : Nat) (cells : List CA) : Prop := CallOK P f args [] ⟨.own 100, [(100, .ent (.row t size n cells))]⟩
theorem OwnOK.at {f : FuncId} {args : List AV} {t : TypeId} {size n : Nat} {cells : List CA} (h : OwnOK P f args t size n cells) (d : Nat) : CallOK P f args [] ⟨.own d, [(d, .ent (.row t size n cells))]⟩ := by
  refine ⟨h.1, fun E S w vs hl hg hv h1 h2 h3 => (h.2 E S w vs hl hg hv (fun b e hb => by cases hb) (fun b e k hb => by cases hb) (fun b b' e e' k _ hb => by cases hb)).mono ?_⟩
  rintro e w' ⟨v, E', S', rfl, hE⟩
  have hres : v = E'.sl 100 ∧ v.oneCell' = true := hE.res
  obtain ⟨us, hown, hall⟩ := hE.ents 100 (.row t size n cells) (by simp)
  refine ⟨v, ⟨E.blk, upd E.sl d (E'.sl 100), E.fp⟩, S', rfl, { env := fun b hb => ?_, fpe := fun _ _ => rfl, sub := hE.sub, new := hE.new, lt := hE.lt, off := hE.off, res := ?_, ents := fun b e hb => ?_, blk := fun b e k hb hk => ?_, sep := fun b b' e e' k hne hb hb' => ?_ }⟩
  · by_cases hbd : b = d
    · subst hbd
      obtain ⟨e, he⟩ := hb ⟨_, by simp; rfl⟩
      cases he
    · exact ⟨rfl, upd_ne _ _ hbd⟩
  · show v = upd E.sl d (E'.sl 100) d ∧ _
    rw [upd_same]; exact hres
  · simp at hb; obtain ⟨rfl, rfl⟩ := hb
    refine ⟨us, ?_, hall⟩
    show w'.ownsRow 0 t size (upd E.sl b (E'.sl 100) b) n us
    rw [upd_same]; exact hown
  · simp at hb; obtain ⟨rfl, rfl⟩ := hb
    have hk' : (upd E.sl b (E'.sl 100) b).ownBlock = some k := hk
    rw [upd_same] at hk'
    exact hE.blk 100 (.row t size n cells) k (by simp) hk'
  · simp at hb hb'; exact absurd (hb.1.trans hb'.1.symm) hne
theorem OwnOK.pure {f : FuncId} {args : List AV} {t : TypeId} {size n : Nat} {cells : List CA} (h : OwnOK P f args t size n cells) : PureOK P f args (.r (sliceR size n cells)) := by
  refine ⟨h.1, fun E S w vs hl hg hv h1 h2 h3 => (h.2 E S w vs hl hg hv (fun b e hb => by cases hb) (fun b e k hb => by cases hb) (fun b b' e e' k _ hb => by cases hb)).mono ?_⟩
  rintro e w' ⟨v, E', S', rfl, hE⟩
  have hres : v = E'.sl 100 ∧ v.oneCell' = true := hE.res
  obtain ⟨us, hown, hall⟩ := hE.ents 100 (.row t size n cells) (by simp)
  have hnew : ∀ k, (E'.sl 100).ownBlock = some k → w.heap.size ≤ k := fun k hk => by
    rcases (hE.blk 100 (.row t size n cells) k (by simp) hk).2 with ⟨b, e, hb, _⟩ | h
    · cases hb
    · exact h
  have hlen : cells.length = n * size := by rw [hall.length, hown.1]
  refine ⟨v, E, fun k => S' k ∧ (E'.sl 100).ownBlock ≠ some k, rfl, { env := fun b hb => ⟨rfl, rfl⟩, fpe := fun _ _ => rfl, sub := fun k hk => ⟨hE.sub k hk, fun h => ?_⟩, new := fun k hk => hE.new k hk.1, lt := fun k hk => hE.lt k hk.1, off := hE.off, res := ?_, ents := fun b e hb => (by cases hb), blk := fun b e k hb => (by cases hb), sep := fun b b' e e' k _ hb => (by cases hb) }⟩
  · have := hnew k h
    have := hl k hk
    omega
  · show (sliceR size n cells).has _ w' v
    rw [hres.1]
    rcases hown.2 with ⟨hv, h0⟩ | ⟨g, cap, cur, hv, _, hg, hn, hm, hcs, htk⟩
    · refine sliceR_iff.2 ⟨none, 0, by rw [hv, h0], by omega, Nat.zero_le _, fun _ => rfl, hlen, fun i c hc => ?_⟩
      have : cells.length = 0 := by rw [hlen, h0, Nat.zero_mul]
      rw [List.eq_nil_of_length_eq_zero this] at hc
      simp at hc
    · refine sliceR_iff.2 ⟨some ⟨g, 0, none⟩, cap, hv, hn, hm, (fun h => by cases h), hlen, fun i c hc => ?_⟩
      obtain ⟨u, hu, huc⟩ := hall.get hc
      have hown' := hown
      rw [hv] at hown'
      have hcell := hown'.cells (g := g) rfl i u hu
      refine ⟨g, 0, u, rfl, fun h => h.2 (by rw [hv]; rfl), by simpa [Addr.add_lit] using hcell, huc.step (Off.refl S' w') (fun k hk => .inl hk.1)⟩
class ConO (P : Program) (f : FuncId) (args : List AV) (pre : outParam Prop) (t : outParam TypeId) (size n : outParam Nat) (cells : outParam (List CA)) : Prop where
  h : pre → OwnOK P f args t size n cells
open Classical in
theorem OwnOK.fnF {f : FuncId} {fn : Func} {c : Code} {args : List AV} {t : TypeId} {size n : Nat} {cells : List CA} {nt : Nat} {rs : List ResultVar} (hf : P.funcs[f]? = some fn) (hres : fn.results = rs.toArray) (hnt : fn.ntmps = nt) (hb : fn.body = some c) (hn : (fn.name == "runtime.NumGoroutine") = false) (hna : Nat.ble args.length nt = true)
    (haid : ∀ v ∈ args, v.ids = []) (h : ∀ (w0 : World) (T B : Nat → Prop) (E0 : Env), (∀ k, ¬ B k) → WP P ⟨w0, T, B, nt, E0, fun _ => false⟩ c ⟨fun t => args[t]?, fun _ => .free⟩ (SX.retF ⟨w0, T, B, nt, E0, fun _ => false⟩ P rs ⟨.own 100, [(100, .ent (.row t size n cells))]⟩)) : OwnOK P f args t size n cells :=
  CallOK.fn hf hres hnt hb hn hna (fun b e hb => by cases hb) (fun v hv i hi => by rw [haid v hv] at hi; cases hi) (fun b e hb => by cases hb) (fun b e hb => by cases hb)
    (fun i hi => by
      right
      rcases hi with hi | ⟨b, e, hb, hi⟩
      · have : i = 100 := by simpa [AV.ids, AV0.ids, Atom.ids] using hi
        subst this; exact ⟨_, by simp; rfl⟩
      · simp at hb; obtain ⟨rfl, rfl⟩ := hb; cases hi) (fun w0 T B E0 hB => WP.retF (h w0 T B E0 fun k hk => let ⟨_, _, hb, _⟩ := hB k hk; by cases hb))
end
section
variable {P : Program} {C : Ctx} {st : St}
variable {ops rest : List Oper} {acc : List (List Nat × List Nat)} {K : List (List Nat × List Nat) → St → Prop} {dst : Option Tmp} {d : Tmp} {op : Op} {ty t t' : TypeId} {x y z : Operand} {k k' : IntKind} {i j : Nat} {za zb zi zj : Int}
theorem G.callOwn {f : FuncId} {as : Array Operand} {tys : Array TypeId} {args : List AV} {e : TypeId} {size n : Nat} {cells : List CA} (next : Reg P C ops rest (st.app (some d) ⟨.own d, [(d, .ent (.row e size n cells))]⟩) (([d], [d]) :: acc) K) (ha : evs st as.toList = some args := by rfl)
    (hc : OwnOK P f args e size n cells := by first | (with_reducible assumption) | assumption | exact SX.ConO.use (by first | trivial | omega | assumption | (refine ⟨?_, ?_⟩ <;> first | omega | assumption) | (refine ⟨?_, ?_, ?_⟩ <;> first | omega | assumption))) (hd : dstOK (some d) C.nt = true := by rfl) (hf : st.hp d = .free := by rfl) : Go1 P C ops (some d) (.call ⟨.value (.func f), as, tys⟩) ty rest st acc K :=
  Go1.callG (cap := []) (pre := []) (out := ⟨.own d, [(d, .ent (.row e size n cells))]⟩) (fp := [d]) hd rfl ha (by simpa using hc.at d) (fun b e hb => by cases hb) (fun b s hb => by simp at hb; rw [hb.1]; exact .inr hf) (fun b s hb => by simp at hb; rw [hb.2]; rfl) (fun b s hb => by simp at hb; simp [hb.1])
    (fun i hi => by
      left
      rcases hi with hi | ⟨b, e, hb, hi⟩
      · have : i = d := by simpa [AV.ids, AV0.ids, Atom.ids] using hi
        subst this; exact ⟨_, by simp; rfl⟩
      · simp at hb; obtain ⟨rfl, rfl⟩ := hb; cases hi) next
theorem G.makeN {e : TypeId} {n bytes : Nat} {z : Value} [ht : TSlice P t e 1] [he : TElem P e [z] bytes] (next : Reg P C ops rest (st.app (some d) ⟨.own d, [(d, .ent (.row e 1 n (List.replicate n (.val z))))]⟩) (([d], [d]) :: acc) K) (hd : dstOK (some d) C.nt = true := by rfl) (hx : st.ev x = some (.v (.int k zi)) := by rfl) (hx0 : zi = (n : Int) := by first | with_reducible rfl | exact SX.litN _ | rfl) (hy : st.ev y = some (.v (.int k' zj)) := by rfl) (hy0 : zj = (n : Int) := by first | with_reducible rfl | exact SX.litN _ | rfl) (hf : st.hp d = .free := by rfl)
    (hb : n * bytes ≤ 140737488355328 := by omega) (hm : n ≤ 9223372036854775807 := by omega) : Go1 P C ops (some d) (.makeSlice t x y) ty rest st acc K :=
  Go1.make hd (evz hx hx0) (evz hy hy0) hf hb hm next
theorem G.storeP {e : TypeId} {b off n size : Nat} {cells : List CA} {c : CA} [ht : TOne P t] (next : Reg P C ops rest (st.app none ⟨.v undef, [(b, .ent (.row e size n (spl cells off [c])))]⟩) (([b], [b]) :: acc) K) (hx : st.ev x = some (.it (.one (.rptr b off))) := by rfl) (hy : st.ev y = some (.it (.one (.c c))) := by rfl) (hb : st.hp b = .ent (.row e size n cells) := by rfl) (hl : off + 1 ≤ n * size := by omega)
    (h1 : [Atom.c c].all Atom.oneB = true := by rfl) : Go1 P C ops none (.store t x y) ty rest st acc K :=
  Go1.storeO (m := 1) ht.s hx hy hb rfl hl h1 rfl rfl next
theorem Go1.addT {l m : List UInt8} (hd : dstOK dst C.nt = true) (hx : st.ev x = some (.v (str l))) (hy : st.ev y = some (.v (str m))) (hb : l.length + m.length ≤ 9223372036854775807) (next : Reg P C ops rest (st.app dst ⟨.v (str (l ++ m)), []⟩) (([], []) :: acc) K) : Go1 P C ops dst (.binOp .add t x y t') ty rest st acc K :=
  Go1.val2 hd rfl hx hy (fun ρ o w ho h1 h2 => by
    unfold execOp; rw [ho]
    have hap : (⟨⟨l⟩⟩ : ByteArray) ++ ⟨⟨m⟩⟩ = ⟨⟨l ++ m⟩⟩ := by
      apply ByteArray.ext; simp
    have hl2 : (((⟨⟨l⟩⟩ : ByteArray).size : Nat) : Int) + (((⟨⟨m⟩⟩ : ByteArray).size : Nat) : Int) ≤ 9223372036854775807 := by
      show ((l.length : Nat) : Int) + ((m.length : Nat) : Int) ≤ 9223372036854775807
      omega
    simp [h1, h2, eqGuard, binOp, Op.stringOp, hap]
    exact hl2) next
theorem G.addT {l m : List UInt8} (next : Reg P C ops rest (st.app dst ⟨.v (str (l ++ m)), []⟩) (([], []) :: acc) K) (hd : dstOK dst C.nt = true := by rfl) (hx : st.ev x = some (.v (str l)) := by rfl) (hy : st.ev y = some (.v (str m)) := by rfl) (hb : l.length + m.length ≤ 9223372036854775807 := by (try simp only [List.length_cons, List.length_nil, List.length_append]); omega) : Go1 P C ops dst (.binOp .add t x y t') ty rest st acc K :=
  Go1.addT hd hx hy hb next
structure OwnLit (d : Nat) : Prop where
theorem G.litOwn {e : TypeId} {size bytes : Nat} {zs : List Value} {v : AV0} {m : List CA} [ht : TSlice P t e size] [he : TElem P e zs bytes] (next : Reg P C ops rest (st.app (some d) ⟨.own d, [(d, .ent (.row e size 1 m))]⟩) (([d], [d]) :: acc) K) (hown : OwnLit d := by assumption) (hd : dstOK (some d) C.nt = true := by rfl) (hf : st.hp d = .free := by rfl) (hx : st.ev x = some (.it v) := by rfl) (hc : closedL v.cells = some m := by rfl)
    (hm : (Nat.beq m.length size && Nat.ble size 1000 && v.cells.all Atom.oneB) = true := by rfl) : Go1 P C ops (some d) (.buildSlice t 1 #[(0, x)]) ty rest st acc K := by
  simp only [Bool.and_eq_true] at hm
  obtain ⟨⟨h1, h2⟩, h3⟩ := hm
  have hl : m.length = size := Nat.eq_of_beq_eq_true h1
  have h2' : size ≤ 1000 := by simpa [Nat.ble_eq] using h2
  have hvl : v.cells.length = size := by rw [← closedL_len hc]; exact hl
  refine Go1.buildSlice (ps := [(0, v)]) (l := v.cells) (m := m) hd hf (by simp only [evp, hx]) ?_ ?_ ?_ hc ?_ next
  · simp only [List.all_cons, List.all_nil, Bool.and_true, h3, Bool.true_and]; rfl
  · rw [Nat.one_mul, Nat.ble_eq]; omega
  · have hpl : (placesOf 1 size)[0]? = some (0, size) := by simp [placesOf]
    have hz : ((madeCells zs.toArray (1 * size)).toList.map fun v => Atom.c (.val v)).length = size := by simp [size_madeCells]
    have e1 : Nat.beq v.cells.length size = true := by rw [hvl]; exact Nat.beq_refl _
    simp only [fillA, hpl]
    rw [hz, e1, Nat.zero_add, show Nat.ble size size = true by rw [Nat.ble_eq]; exact Nat.le_refl _]
    simp only [Bool.and_self]
    rw [spl_eq _ _ _ (by rw [hz, hvl]; omega), hvl, List.take_zero, List.nil_append, Nat.zero_add, List.drop_of_length_le (by rw [hz]; exact Nat.le_refl _), List.append_nil]
  · rw [hl, Nat.one_mul]; exact Nat.beq_refl _
theorem flat1_get {α : Type} {enc : α → List CA} [EncLen enc 1] {l : List α} {i : Nat} {a : α} {c : CA} (he : enc a = [c]) (ha : l[i]? = some a) : (l.flatMap enc)[i * 1]? = some c := by
  have hf := flat_at (enc := enc) ha
  rw [he] at hf
  have := congrArg (·[0]?) hf
  simpa [List.getElem?_take, List.getElem?_drop] using this
theorem G.loadOW {α : Type} {enc : α → List CA} {l : List α} {a : α} {e : TypeId} {b n size : Nat} {c : CA} [ht : TOne P t] [hz : EncLen enc 1] (next : Reg P C ops rest (st.app dst ⟨.it (.one (.c c)), []⟩) (([b], []) :: acc) K) (hd : dstOK dst C.nt = true := by rfl) (hx : st.ev x = some (.it (.one (.rptr b (i * 1)))) := by rfl) (hb : st.hp b = .ent (.row e size n (l.flatMap enc)) := by rfl) (ha : l[i]? = some a := by assumption) (he : enc a = [c] := by rfl) : Go1 P C ops dst (.load t x) ty rest st acc K :=
  Go1.loadO1 hd hx hb (flat1_get he ha) next
instance : WrapN .u8 255 := ⟨fun m h => by show IntKind.wrap .u8 (m : Int) = m; rw [IntKind.wrap_u8]; omega⟩
theorem G.convN {a b : Nat} [h1 : TInt P t k] [h2 : TInt P t' k'] [hw : WrapN k' b] (next : Reg P C ops rest (st.app dst ⟨.v (.int k' ((a : Nat) : Int)), []⟩) (([], []) :: acc) K) (hd : dstOK dst C.nt = true := by rfl) (hx : st.ev x = some (.v (.int k za)) := by rfl) (hx0 : za = (a : Int) := by first | with_reducible rfl | exact SX.litN _ | rfl) (hb : a ≤ b := by first | omega | assumption) : Go1 P C ops dst (.convert t t' x) ty rest st acc K :=
  Go1.conv hd (evz hx hx0) (hw.h a hb) next
def bytC (b : UInt8) : List CA := [.val (.int .u8 (b.toNat : Int))]
instance : EncLen bytC 1 := ⟨fun _ => rfl⟩
instance : EncOne bytC := ⟨fun _ => rfl⟩
theorem pushes : ∀ (l : List UInt8) (s : ByteArray), ((l.map fun b => (b.toNat : Int)).foldl (fun r n => r.push (UInt8.ofNat n.toNat)) s).data.toList = s.data.toList ++ l
  | [], s => by simp
  | b :: l, s => by
    rw [List.map_cons, List.foldl_cons, pushes l]
    simp
theorem G.convBS {e : TypeId} {l : List UInt8} {r : Rep} [h1 : TSlice P t e 1] [h2 : TInt P e .u8] [h3 : TStr P t'] (next : Reg P C ops rest (st.app dst ⟨.v (str l), []⟩) (([], []) :: acc) K) (hd : dstOK dst C.nt = true := by rfl) (hx : st.ev x = some (.r r) := by rfl) (hr : AsRow r 1 bytC l := by infer_instance) : Go1 P C ops dst (.convert t t' x) ty rest st acc K :=
  Go1.pureV [] [] (by simp) hd (by simp) (fun o ho _ st' E S a w hev hs _ => by
    obtain ⟨h4, _⟩ := hs.ev ((hev x (by simp [ho, Op.operands])).trans hx)
    obtain ⟨oa, cap, hv, hn, hc, h0, hlen, hcell⟩ := sliceR_iff.1 (hr.h _ _ _ h4)
    refine ⟨fun i hi => (by cases hi), .string ⟨⟨l⟩⟩, ?_, rfl⟩
    unfold execOp; rw [ho]
    have hcv : (convert t t' (a.eval x)).run P w = (Conv.bytesToString (a.eval x)).run P w := by
      rw [hv]
      simp [convert, run_underlying h1.h, run_underlying h2.h, run_underlying h3.h]
    have hrun : (Conv.bytesToString (a.eval x)).run P w = .ok (.string ⟨⟨l⟩⟩) w := by
      rw [hv]
      cases oa with
      | none =>
        have h00 := h0 rfl
        have : l = [] := List.eq_nil_of_length_eq_zero (by have := hn; omega)
        subst this; rfl
      | some ad =>
        rw [run_bytesToString w ad l.length cap (l.map fun b => (b.toNat : Int))]
        · congr 2
          exact ByteArray.ext (Array.ext' (by rw [pushes]; rfl))
        · have hl1 : ((l.map fun b => (b.toNat : Int)).map (Value.int .u8)).length = l.length := by simp
          have := run_loadCells_list (P := P) (w := w) ad ((l.map fun b => (b.toNat : Int)).map (Value.int .u8)) (fun j v hj => by
            rw [List.map_map, List.getElem?_map] at hj
            obtain ⟨b, hb, rfl⟩ := Option.map_eq_some_iff.1 hj
            have hf := flat1_get (enc := bytC) (c := .val (.int .u8 (b.toNat : Int))) rfl hb
            rw [Nat.mul_one] at hf
            obtain ⟨bk, off, u, e1, _, e2, e3⟩ := hcell j _ hf
            cases e1
            rw [Addr.add_lit, e2, show u = _ from e3]; rfl)
          rwa [hl1] at this
    simp [hcv, hrun]) next
theorem retO {t : Tmp} {e : TypeId} {size n : Nat} {cells : List CA} (hle : St.le C st (mkSt [(t, .own 100)] [(100, .row e size n cells)]) := by first | (apply SX.St.lt0; (· (intro b h; first | (cases h; done) | exact ⟨rfl, h⟩ | exact SX.fixIs h)); (· (repeat (first | exact trivial | refine ⟨⟨_, rfl, SX.AVto.same rfl⟩, ?_⟩ | refine ⟨⟨_, rfl, SX.AVto.own rfl⟩, ?_⟩ | refine ⟨⟨_, rfl, SX.AVto.nil rfl⟩, ?_⟩ | refine ⟨⟨_, rfl, SX.AVto.int (by first | (with_reducible assumption) | omega | (simp; done) | assumption)⟩, ?_⟩ | refine ⟨⟨_, rfl, SX.AVto.str (by first | (with_reducible assumption) | (simp; done) | assumption)⟩, ?_⟩ | refine ⟨⟨_, rfl, SX.AVto.bool (by first | (with_reducible assumption) | (simp; done) | assumption)⟩, ?_⟩ | refine ⟨⟨_, rfl, SX.AVto.eq (by first | (with_reducible assumption) | (simp [*]; done)) rfl⟩, ?_⟩))); (· (repeat (first | exact trivial | refine ⟨SX.EntTo.row rfl rfl rfl rfl, ?_⟩ | refine ⟨SX.EntTo.row rfl rfl (by first | rfl | (simp; done)) (by first | rfl | assumption | exact SX.flat_snoc rfl | exact SX.flat_one rfl | (simp; done)), ?_⟩ | refine ⟨SX.EntTo.nilRow rfl, ?_⟩ | refine ⟨SX.EntTo.eq rfl rfl rfl, ?_⟩ | refine ⟨SX.EntTo.same rfl rfl, ?_⟩))); (· rfl)) | (apply SX.St.ltn; (· (intro b h; first | (cases h; done) | exact ⟨rfl, h⟩ | exact SX.fixIs h)); (· (repeat (first | exact trivial | refine ⟨⟨_, rfl, SX.AVto.same rfl⟩, ?_⟩ | refine ⟨⟨_, rfl, SX.AVto.own rfl⟩, ?_⟩ | refine ⟨⟨_, rfl, SX.AVto.nil rfl⟩, ?_⟩ | refine ⟨⟨_, rfl, SX.AVto.int (by first | (with_reducible assumption) | omega | (simp; done) | assumption)⟩, ?_⟩ | refine ⟨⟨_, rfl, SX.AVto.str (by first | (with_reducible assumption) | (simp; done) | assumption)⟩, ?_⟩ | refine ⟨⟨_, rfl, SX.AVto.bool (by first | (with_reducible assumption) | (simp; done) | assumption)⟩, ?_⟩ | refine ⟨⟨_, rfl, SX.AVto.eq (by first | (with_reducible assumption) | (simp [*]; done)) rfl⟩, ?_⟩))); (· (repeat (first | exact trivial | refine ⟨SX.EntTo.row rfl rfl rfl rfl, ?_⟩ | refine ⟨SX.EntTo.row rfl rfl (by first | rfl | (simp; done)) (by first | rfl | assumption | exact SX.flat_snoc rfl | exact SX.flat_one rfl | (simp; done)), ?_⟩ | refine ⟨SX.EntTo.nilRow rfl, ?_⟩ | refine ⟨SX.EntTo.eq rfl rfl rfl, ?_⟩ | refine ⟨SX.EntTo.same rfl rfl, ?_⟩))); (· rfl)) | (apply SX.St.lt1; (· (intro b h; first | (cases h; done) | exact ⟨rfl, h⟩ | exact SX.fixIs h)); (· (repeat (first | exact trivial | refine ⟨⟨_, rfl, SX.AVto.same rfl⟩, ?_⟩ | refine ⟨⟨_, rfl, SX.AVto.own rfl⟩, ?_⟩ | refine ⟨⟨_, rfl, SX.AVto.nil rfl⟩, ?_⟩ | refine ⟨⟨_, rfl, SX.AVto.int (by first | (with_reducible assumption) | omega | (simp; done) | assumption)⟩, ?_⟩ | refine ⟨⟨_, rfl, SX.AVto.str (by first | (with_reducible assumption) | (simp; done) | assumption)⟩, ?_⟩ | refine ⟨⟨_, rfl, SX.AVto.bool (by first | (with_reducible assumption) | (simp; done) | assumption)⟩, ?_⟩ | refine ⟨⟨_, rfl, SX.AVto.eq (by first | (with_reducible assumption) | (simp [*]; done)) rfl⟩, ?_⟩))); (· (repeat (first | exact trivial | refine ⟨SX.EntTo.row rfl rfl rfl rfl, ?_⟩ | refine ⟨SX.EntTo.row rfl rfl (by first | rfl | (simp; done)) (by first | rfl | assumption | exact SX.flat_snoc rfl | exact SX.flat_one rfl | (simp; done)), ?_⟩ | refine ⟨SX.EntTo.nilRow rfl, ?_⟩ | refine ⟨SX.EntTo.eq rfl rfl rfl, ?_⟩ | refine ⟨SX.EntTo.same rfl rfl, ?_⟩))); (· rfl)) | (apply SX.St.ltnn; (· (intro b h; first | (cases h; done) | exact ⟨rfl, h⟩ | exact SX.fixIs h)); (· (repeat (first | exact trivial | refine ⟨⟨_, rfl, SX.AVto.same rfl⟩, ?_⟩ | refine ⟨⟨_, rfl, SX.AVto.own rfl⟩, ?_⟩ | refine ⟨⟨_, rfl, SX.AVto.nil rfl⟩, ?_⟩ | refine ⟨⟨_, rfl, SX.AVto.int (by first | (with_reducible assumption) | omega | (simp; done) | assumption)⟩, ?_⟩ | refine ⟨⟨_, rfl, SX.AVto.str (by first | (with_reducible assumption) | (simp; done) | assumption)⟩, ?_⟩ | refine ⟨⟨_, rfl, SX.AVto.bool (by first | (with_reducible assumption) | (simp; done) | assumption)⟩, ?_⟩ | refine ⟨⟨_, rfl, SX.AVto.eq (by first | (with_reducible assumption) | (simp [*]; done)) rfl⟩, ?_⟩))); (· (repeat (first | exact trivial | refine ⟨SX.EntTo.row rfl rfl rfl rfl, ?_⟩ | refine ⟨SX.EntTo.row rfl rfl (by first | rfl | (simp; done)) (by first | rfl | assumption | exact SX.flat_snoc rfl | exact SX.flat_one rfl | (simp; done)), ?_⟩ | refine ⟨SX.EntTo.nilRow rfl, ?_⟩ | refine ⟨SX.EntTo.eq rfl rfl rfl, ?_⟩ | refine ⟨SX.EntTo.same rfl rfl, ?_⟩))); (· rfl)) | (apply SX.St.lt11; (· (intro b h; first | (cases h; done) | exact ⟨rfl, h⟩ | exact SX.fixIs h)); (· (repeat (first | exact trivial | refine ⟨⟨_, rfl, SX.AVto.same rfl⟩, ?_⟩ | refine ⟨⟨_, rfl, SX.AVto.own rfl⟩, ?_⟩ | refine ⟨⟨_, rfl, SX.AVto.nil rfl⟩, ?_⟩ | refine ⟨⟨_, rfl, SX.AVto.int (by first | (with_reducible assumption) | omega | (simp; done) | assumption)⟩, ?_⟩ | refine ⟨⟨_, rfl, SX.AVto.str (by first | (with_reducible assumption) | (simp; done) | assumption)⟩, ?_⟩ | refine ⟨⟨_, rfl, SX.AVto.bool (by first | (with_reducible assumption) | (simp; done) | assumption)⟩, ?_⟩ | refine ⟨⟨_, rfl, SX.AVto.eq (by first | (with_reducible assumption) | (simp [*]; done)) rfl⟩, ?_⟩))); (· (repeat (first | exact trivial | refine ⟨SX.EntTo.row rfl rfl rfl rfl, ?_⟩ | refine ⟨SX.EntTo.row rfl rfl (by first | rfl | (simp; done)) (by first | rfl | assumption | exact SX.flat_snoc rfl | exact SX.flat_one rfl | (simp; done)), ?_⟩ | refine ⟨SX.EntTo.nilRow rfl, ?_⟩ | refine ⟨SX.EntTo.eq rfl rfl rfl, ?_⟩ | refine ⟨SX.EntTo.same rfl rfl, ?_⟩))); (· rfl)) | (apply SX.St.ltn1; (· (intro b h; first | (cases h; done) | exact ⟨rfl, h⟩ | exact SX.fixIs h)); (· (repeat (first | exact trivial | refine ⟨⟨_, rfl, SX.AVto.same rfl⟩, ?_⟩ | refine ⟨⟨_, rfl, SX.AVto.own rfl⟩, ?_⟩ | refine ⟨⟨_, rfl, SX.AVto.nil rfl⟩, ?_⟩ | refine ⟨⟨_, rfl, SX.AVto.int (by first | (with_reducible assumption) | omega | (simp; done) | assumption)⟩, ?_⟩ | refine ⟨⟨_, rfl, SX.AVto.str (by first | (with_reducible assumption) | (simp; done) | assumption)⟩, ?_⟩ | refine ⟨⟨_, rfl, SX.AVto.bool (by first | (with_reducible assumption) | (simp; done) | assumption)⟩, ?_⟩ | refine ⟨⟨_, rfl, SX.AVto.eq (by first | (with_reducible assumption) | (simp [*]; done)) rfl⟩, ?_⟩))); (· (repeat (first | exact trivial | refine ⟨SX.EntTo.row rfl rfl rfl rfl, ?_⟩ | refine ⟨SX.EntTo.row rfl rfl (by first | rfl | (simp; done)) (by first | rfl | assumption | exact SX.flat_snoc rfl | exact SX.flat_one rfl | (simp; done)), ?_⟩ | refine ⟨SX.EntTo.nilRow rfl, ?_⟩ | refine ⟨SX.EntTo.eq rfl rfl rfl, ?_⟩ | refine ⟨SX.EntTo.same rfl rfl, ?_⟩))); (· rfl)) | (apply SX.St.lt1n; (· (intro b h; first | (cases h; done) | exact ⟨rfl, h⟩ | exact SX.fixIs h)); (· (repeat (first | exact trivial | refine ⟨⟨_, rfl, SX.AVto.same rfl⟩, ?_⟩ | refine ⟨⟨_, rfl, SX.AVto.own rfl⟩, ?_⟩ | refine ⟨⟨_, rfl, SX.AVto.nil rfl⟩, ?_⟩ | refine ⟨⟨_, rfl, SX.AVto.int (by first | (with_reducible assumption) | omega | (simp; done) | assumption)⟩, ?_⟩ | refine ⟨⟨_, rfl, SX.AVto.str (by first | (with_reducible assumption) | (simp; done) | assumption)⟩, ?_⟩ | refine ⟨⟨_, rfl, SX.AVto.bool (by first | (with_reducible assumption) | (simp; done) | assumption)⟩, ?_⟩ | refine ⟨⟨_, rfl, SX.AVto.eq (by first | (with_reducible assumption) | (simp [*]; done)) rfl⟩, ?_⟩))); (· (repeat (first | exact trivial | refine ⟨SX.EntTo.row rfl rfl rfl rfl, ?_⟩ | refine ⟨SX.EntTo.row rfl rfl (by first | rfl | (simp; done)) (by first | rfl | assumption | exact SX.flat_snoc rfl | exact SX.flat_one rfl | (simp; done)), ?_⟩ | refine ⟨SX.EntTo.nilRow rfl, ?_⟩ | refine ⟨SX.EntTo.eq rfl rfl rfl, ?_⟩ | refine ⟨SX.EntTo.same rfl rfl, ?_⟩))); (· rfl))) : RetF C P [.tmp t] ⟨.own 100, [(100, .ent (.row e size n cells))]⟩ st :=
  ⟨_, hle, [.one (.own 100)], ⟨ResOK.tmp (by simp [mkSt, lk]), trivial⟩, rfl, fun b e hb => by simp at hb; obtain ⟨rfl, rfl⟩ := hb; simp [mkSt, lk]⟩
end
structure Held2 (q : Prop) : Prop where
  out : q
theorem go2 {p q : Prop} (h : q) (k : Held2 q → p := by
    intro h
    (first
      | (refine SX.Go1.is ?_; first
          | (refine SX.Go1.isLoad ?_; first | refine SX.G.load2 ?_ | refine SX.G.load1 ?_ | refine SX.G.loadR1 ?_ | refine SX.G.loadR2 ?_ | refine SX.G.load4 ?_ | refine SX.G.loadR4 ?_ | refine SX.G.load3 ?_ | refine SX.G.loadR3 ?_ | refine SX.G.loadOW ?_ | refine SX.G.loadO1 ?_)
          | (refine SX.Go1.isBin ?_; first | refine SX.G.lss ?_ | refine SX.G.eql ?_ | refine SX.G.neq ?_ | refine SX.G.gtr ?_ | refine SX.G.geq ?_ | refine SX.G.leq ?_ | refine SX.G.addN ?_ | refine SX.G.addNu ?_ | refine SX.G.subN ?_ | refine SX.G.subNu ?_ | refine SX.G.add ?_ | refine SX.G.sub ?_ | refine SX.G.mulN ?_ | refine SX.G.mulNu ?_ | refine SX.G.mul ?_ | refine SX.G.quoN ?_ | refine SX.G.quoNu ?_ | refine SX.G.quo ?_ | refine SX.G.remN ?_ | refine SX.G.remNu ?_ | refine SX.G.rem ?_ | refine SX.G.eqlT ?_ | refine SX.G.neqT ?_ | refine SX.G.eqlB ?_ | refine SX.G.neqB ?_ | refine SX.G.shr ?_ | refine SX.G.shl ?_ | refine SX.G.and ?_ | refine SX.G.addT ?_)
          | (refine SX.Go1.isUn ?_; first | refine SX.G.not ?_ | refine SX.G.neg ?_)
          | (refine SX.Go1.isField ?_; first | refine SX.G.fieldAddr ?_ | refine SX.G.fieldAddrR ?_)
          | (refine SX.Go1.isBuild ?_; first | refine SX.G.build2 ?_ | refine SX.G.build3 ?_ | refine SX.G.build4 ?_ | refine SX.G.build ?_)
          | (refine SX.Go1.isStore ?_; first | refine SX.G.store ?_ | refine SX.G.storeP ?_ | refine SX.G.storeO ?_)
          | (refine SX.Go1.isIx ?_; first | refine SX.G.indexAddrW ?_ | refine SX.G.indexAddrV ?_ | refine SX.G.indexAddrR ?_ | refine SX.G.indexAddrO ?_)
          | (refine SX.Go1.isBuildS ?_; first | refine SX.G.litOwn ?_ | refine SX.G.lit1 ?_)
          | (refine SX.Go1.isCall ?_; first | refine SX.G.minN ?_ | refine SX.G.maxN ?_ | refine SX.G.lenR ?_ | refine SX.G.lenN ?_ | refine SX.G.lenT ?_ | refine SX.G.lenS ?_ | refine SX.G.lenO ?_ | refine SX.G.appendW ?_ | refine SX.G.appendNilW ?_ | refine SX.G.callOwn ?_ | refine SX.G.call ?_)
          | refine SX.G.move ?_ | refine SX.G.assign ?_ | refine SX.G.extract ?_ | refine SX.G.box ?_ | refine SX.G.alloc ?_ | refine SX.G.pick ?_ | refine SX.R.pickT ?_ | refine SX.R.pickF ?_ | refine SX.G.pickB ?_ | refine SX.G.pickV ?_ | refine SX.G.makeN ?_ | refine SX.G.convN ?_ | refine SX.G.conv ?_ | refine SX.G.convBS ?_ | refine SX.G.sliceHiW ?_ | refine SX.G.sliceLoW ?_ | refine SX.G.sliceHiR ?_ | refine SX.G.sliceLoR ?_ | refine SX.G.sliceHiO ?_ | refine SX.G.sliceHiT ?_ | refine SX.G.sliceLoT ?_ | refine SX.G.sliceLHT ?_ | refine SX.G.indexT ?_ | refine SX.G.sliceHiS ?_ | refine SX.G.sliceLoS ?_ | refine SX.G.sliceLHS ?_ | refine SX.G.indexS ?_)
      | (refine SX.Reg.is ?_; first | refine SX.Reg.go ?_ | refine SX.R.runT ?_ | refine SX.R.runF ?_ | refine SX.R.skipT ?_ | refine SX.R.skipF ?_ | refine SX.R.skipU ?_ | refine SX.Reg.nil ⟨by kernel_rfl, ?_⟩ | refine SX.Reg.nil ?_)
      | (refine SX.WP.is ?_; first | refine SX.WP.seq ?_ | refine SX.WP.regionL ?_ | refine SX.WP.regionDL (by kernel_rfl) ?_ | refine SX.WP.block ?_ | refine SX.WP.skip ?_ | refine SX.WP.exit ?_ | refine SX.WP.ret ?_ | refine SX.WP.label ?_ | refine SX.W.condT ?_ | refine SX.W.condF ?_)
      | refine SX.thenN ?_ | refine SX.thenE ?_ | refine SX.thenR ?_ | refine SX.inBlkN ?_ | refine SX.inBlkR ?_ | refine SX.inBlkE ?_ | refine SX.inBlkO rfl ?_ | refine SX.retR ?_ | refine SX.retN ?_ | refine SX.retFR ?_ | refine SX.retFN ?_)
    repeat (first
      | (refine SX.Go1.is ?_; first
          | (refine SX.Go1.isLoad ?_; first | refine SX.G.load2 ?_ | refine SX.G.load1 ?_ | refine SX.G.loadR1 ?_ | refine SX.G.loadR2 ?_ | refine SX.G.load4 ?_ | refine SX.G.loadR4 ?_ | refine SX.G.load3 ?_ | refine SX.G.loadR3 ?_ | refine SX.G.loadOW ?_ | refine SX.G.loadO1 ?_)
          | (refine SX.Go1.isBin ?_; first | refine SX.G.lss ?_ | refine SX.G.eql ?_ | refine SX.G.neq ?_ | refine SX.G.gtr ?_ | refine SX.G.geq ?_ | refine SX.G.leq ?_ | refine SX.G.addN ?_ | refine SX.G.addNu ?_ | refine SX.G.subN ?_ | refine SX.G.subNu ?_ | refine SX.G.add ?_ | refine SX.G.sub ?_ | refine SX.G.mulN ?_ | refine SX.G.mulNu ?_ | refine SX.G.mul ?_ | refine SX.G.quoN ?_ | refine SX.G.quoNu ?_ | refine SX.G.quo ?_ | refine SX.G.remN ?_ | refine SX.G.remNu ?_ | refine SX.G.rem ?_ | refine SX.G.eqlT ?_ | refine SX.G.neqT ?_ | refine SX.G.eqlB ?_ | refine SX.G.neqB ?_ | refine SX.G.shr ?_ | refine SX.G.shl ?_ | refine SX.G.and ?_ | refine SX.G.addT ?_)
          | (refine SX.Go1.isUn ?_; first | refine SX.G.not ?_ | refine SX.G.neg ?_)
          | (refine SX.Go1.isField ?_; first | refine SX.G.fieldAddr ?_ | refine SX.G.fieldAddrR ?_)
          | (refine SX.Go1.isBuild ?_; first | refine SX.G.build2 ?_ | refine SX.G.build3 ?_ | refine SX.G.build4 ?_ | refine SX.G.build ?_)
          | (refine SX.Go1.isStore ?_; first | refine SX.G.store ?_ | refine SX.G.storeP ?_ | refine SX.G.storeO ?_)
          | (refine SX.Go1.isIx ?_; first | refine SX.G.indexAddrW ?_ | refine SX.G.indexAddrV ?_ | refine SX.G.indexAddrR ?_ | refine SX.G.indexAddrO ?_)
          | (refine SX.Go1.isBuildS ?_; first | refine SX.G.litOwn ?_ | refine SX.G.lit1 ?_)
          | (refine SX.Go1.isCall ?_; first | refine SX.G.minN ?_ | refine SX.G.maxN ?_ | refine SX.G.lenR ?_ | refine SX.G.lenN ?_ | refine SX.G.lenT ?_ | refine SX.G.lenS ?_ | refine SX.G.lenO ?_ | refine SX.G.appendW ?_ | refine SX.G.appendNilW ?_ | refine SX.G.callOwn ?_ | refine SX.G.call ?_)
          | refine SX.G.move ?_ | refine SX.G.assign ?_ | refine SX.G.extract ?_ | refine SX.G.box ?_ | refine SX.G.alloc ?_ | refine SX.G.pick ?_ | refine SX.R.pickT ?_ | refine SX.R.pickF ?_ | refine SX.G.pickB ?_ | refine SX.G.pickV ?_ | refine SX.G.makeN ?_ | refine SX.G.convN ?_ | refine SX.G.conv ?_ | refine SX.G.convBS ?_ | refine SX.G.sliceHiW ?_ | refine SX.G.sliceLoW ?_ | refine SX.G.sliceHiR ?_ | refine SX.G.sliceLoR ?_ | refine SX.G.sliceHiO ?_ | refine SX.G.sliceHiT ?_ | refine SX.G.sliceLoT ?_ | refine SX.G.sliceLHT ?_ | refine SX.G.indexT ?_ | refine SX.G.sliceHiS ?_ | refine SX.G.sliceLoS ?_ | refine SX.G.sliceLHS ?_ | refine SX.G.indexS ?_)
      | (refine SX.Reg.is ?_; first | refine SX.Reg.go ?_ | refine SX.R.runT ?_ | refine SX.R.runF ?_ | refine SX.R.skipT ?_ | refine SX.R.skipF ?_ | refine SX.R.skipU ?_ | refine SX.Reg.nil ⟨by kernel_rfl, ?_⟩ | refine SX.Reg.nil ?_)
      | (refine SX.WP.is ?_; first | refine SX.WP.seq ?_ | refine SX.WP.regionL ?_ | refine SX.WP.regionDL (by kernel_rfl) ?_ | refine SX.WP.block ?_ | refine SX.WP.skip ?_ | refine SX.WP.exit ?_ | refine SX.WP.ret ?_ | refine SX.WP.label ?_ | refine SX.W.condT ?_ | refine SX.W.condF ?_)
      | refine SX.thenN ?_ | refine SX.thenE ?_ | refine SX.thenR ?_ | refine SX.inBlkN ?_ | refine SX.inBlkR ?_ | refine SX.inBlkE ?_ | refine SX.inBlkO rfl ?_ | refine SX.retR ?_ | refine SX.retN ?_ | refine SX.retFR ?_ | refine SX.retFN ?_)
    exact h.out) : p := k ⟨h⟩
end SX
set_option linter.unusedVariables false
set_option linter.unusedSimpArgs false
namespace SX
open Go Go.RowKit
section
variable {P : Program} {C : Ctx} {st : St}
variable {ops rest : List Oper} {acc : List (List Nat × List Nat)} {K : List (List Nat × List Nat) → St → Prop} {dst : Option Tmp} {ty : TypeId}
end
structure HeldR (q : Prop) : Prop where
  out : q
end SX
set_option linter.unusedVariables false
set_option linter.unusedSimpArgs false
namespace SX
open Go Go.RowKit
def memB (l : List Nat) (i : Nat) : Bool := l.any (Nat.beq i)
theorem memB_iff {l : List Nat} {i : Nat} : memB l i = true ↔ i ∈ l := by
  unfold memB
  rw [List.any_eq_true]
  constructor
  · rintro ⟨x, hx, he⟩
    have : i = x := by simpa using he
    rw [this]; exact hx
  · intro h; exact ⟨i, h, by simp⟩
def Slot.ids : Slot → List Nat
  | .ent e => e.ids
  | _ => []
def nodupB : List Nat → Bool
  | [] => true
  | a :: l => !memB l a && nodupB l
def preOK (args : List AV) (pre : List (Nat × Ent)) (out : Out) : Bool :=
  nodupB (pre.map (·.1)) && (pre.all fun p => (Slot.ent p.2).isBox) && (args.all fun v => v.ids.all (memB (pre.map (·.1)))) && (pre.all fun p => p.2.ids.all (memB (pre.map (·.1)))) && ((pre.map (·.1)).all (memB (out.hp.map (·.1)))) &&
    ((out.res.ids ++ out.hp.flatMap fun p => p.2.ids).all fun i => memB (pre.map (·.1)) i || memB (out.hp.map (·.1)) i)
theorem lk_lookup : ∀ (l : List (Nat × Ent)) (b : Nat), l.lookup b = lk l b
  | [], _ => rfl
  | (j, v) :: l, b => by
    rw [List.lookup_cons]
    unfold lk
    by_cases h : b = j
    · subst h; simp
    · have h1 : (b == j) = false := by simpa using h
      have h2 : Nat.beq j b = false := by rw [Bool.eq_false_iff]; simp; omega
      simp only [h1, h2]; exact lk_lookup l b
theorem lk_key : ∀ {l : List (Nat × Ent)} {b : Nat} {e : Ent}, nodupB (l.map (·.1)) = true → (b, e) ∈ l → lk l b = some e
  | (j, v) :: l, b, e, hn, h => by
    rw [List.map_cons, nodupB, Bool.and_eq_true] at hn
    unfold lk
    rcases List.mem_cons.1 h with h | h
    · cases h; simp
    · have hne : Nat.beq j b = false := by
        rw [Bool.eq_false_iff]; intro he
        have he' : j = b := by simpa using he
        subst he'
        have : memB (l.map (·.1)) j = true := memB_iff.2 (List.mem_map.2 ⟨(j, e), h, rfl⟩)
        rw [this] at hn; cases hn.1
      simp only [hne]; exact lk_key hn.2 h
theorem lk_some_of_mem {l : List (Nat × Ent)} {b : Nat} (h : b ∈ l.map (·.1)) : (lk l b).isSome = true := by
  induction l with
  | nil => cases h
  | cons p l ih =>
    obtain ⟨j, v⟩ := p
    unfold lk
    cases hj : Nat.beq j b with
    | true => rfl
    | false =>
      simp only
      refine ih ?_
      rw [List.map_cons] at h
      rcases List.mem_cons.1 h with h | h
      · rw [h] at hj; simp at hj
      · exact h
section
variable {P : Program} {C : Ctx} {st : St}
variable {ops rest : List Oper} {acc : List (List Nat × List Nat)} {K : List (List Nat × List Nat) → St → Prop} {dst : Option Tmp} {d : Tmp} {op : Op} {ty t t' : TypeId} {x y z : Operand}
def pnames : List Nat := [29, 81, 82, 83, 84]
def reach (st : St) (args : List AV) (cap : List Nat) : List Nat :=
  let l := cap ++ args.flatMap AV.ids
  l ++ l.flatMap fun b => (st.hp b).ids
def keysOf (l : List Nat) : List Nat := pnames.filter fun k => memB l k
def preOf (st : St) : List Nat → Option (List (Nat × Ent))
  | [] => some []
  | b :: l => match st.hp b, preOf st l with
    | .ent e, some m => some ((b, e) :: m)
    | _, _ => none
theorem preOf_mem {st : St} : ∀ {l : List Nat} {m : List (Nat × Ent)}, preOf st l = some m → ∀ b e, (b, e) ∈ m → st.hp b = .ent e
  | [], m, h, b, e, hb => by cases h; cases hb
  | a :: l, m, h, b, e, hb => by
    unfold preOf at h
    cases h1 : st.hp a with
    | ent e1 =>
      cases h2 : preOf st l with
      | none => simp [h1, h2] at h
      | some m' =>
        simp only [h1, h2] at h
        cases h
        rcases List.mem_cons.1 hb with hb | hb
        · cases hb; exact h1
        · exact preOf_mem h2 b e hb
    | free => simp [h1] at h
    | gone => simp [h1] at h
def outOK (args : List AV) (pre : List (Nat × Ent)) (out : Out) : Bool :=
  ((pre.map (·.1)).all (memB (out.hp.map (·.1)))) && ((out.hp.map (·.1)).all (memB (pre.map (·.1)))) && (out.hp.all fun p => p.2.used) && ((out.res.ids ++ out.hp.flatMap fun p => p.2.ids).all fun i => memB (out.hp.map (·.1)) i)
theorem G.callP {fx : Operand} {f : FuncId} {cap : List (Nat × Nat)} {as : Array Operand} {tys : Array TypeId} {args : List AV} {pre : List (Nat × Ent)} {out : Out}
    (next : Reg P C ops rest (st.app dst out) ((out.hp.map (·.1), out.hp.map (·.1)) :: acc) K) (hd : dstOK dst C.nt = true := by rfl) (hf : st.ev fx = some (.it (.one (.clo f cap))) := by rfl) (ha : evs st as.toList = some args := by rfl)
    (hk : preOf st (keysOf (reach st args (cap.map (·.1)))) = some pre := by rfl) (hc : CallOK P f (args ++ cap.map fun p => .ptr p.1 p.2) pre out := by assumption) (ho : outOK args pre out = true := by rfl) : Go1 P C ops dst (.call ⟨.value fx, as, tys⟩) ty rest st acc K := by
  unfold outOK at ho
  simp only [Bool.and_eq_true] at ho
  obtain ⟨⟨⟨o1, o2⟩, o3⟩, o4⟩ := ho
  refine Go1.callG hd hf ha hc (fun b e hb => ⟨preOf_mem hk b e hb, ?_⟩) (fun b s hb => .inl ?_) (fun b s hb => List.all_eq_true.1 o3 (b, s) hb) (fun b s hb => List.mem_map.2 ⟨(b, s), hb, rfl⟩) (fun i hi => .inl ?_) next
  · have := memB_iff.1 (List.all_eq_true.1 o1 b (List.mem_map.2 ⟨(b, e), hb, rfl⟩))
    obtain ⟨⟨b', s⟩, hs, rfl⟩ := List.mem_map.1 this
    exact ⟨s, hs⟩
  · have := memB_iff.1 (List.all_eq_true.1 o2 b (List.mem_map.2 ⟨(b, s), hb, rfl⟩))
    obtain ⟨⟨b', e⟩, hs, rfl⟩ := List.mem_map.1 this
    exact ⟨e, hs⟩
  · have hi' : i ∈ out.res.ids ++ out.hp.flatMap fun p => p.2.ids := by
      rw [List.mem_append]
      rcases hi with hi | ⟨b, e, hb, hi⟩
      · exact .inl hi
      · exact .inr (List.mem_flatMap.2 ⟨(b, .ent e), hb, hi⟩)
    obtain ⟨⟨b', s⟩, hs, rfl⟩ := List.mem_map.1 (memB_iff.1 (List.all_eq_true.1 o4 i hi'))
    exact ⟨s, hs⟩
def ptrsOf : List AV → Option (List (Nat × Nat))
  | [] => some []
  | .it (.one (.ptr b off)) :: l => match ptrsOf l with | some m => some ((b, off) :: m) | none => none
  | _ :: _ => none
theorem G.nilCheckP {b off : Nat} (next : Reg P C ops rest (st.app dst ⟨.ptr b off, []⟩) (([], []) :: acc) K) (hd : dstOK dst C.nt = true := by rfl) (hx : st.ev x = some (.ptr b off) := by rfl) : Go1 P C ops dst (.nilCheck x) ty rest st acc K :=
  Go1.pureV [] [] (by simp) hd (by simp) (fun o ho _ st' E S a w hev hs _ => by
    have hx' := hs.ev ((hev x (by simp [ho, Op.operands])).trans hx)
    have hv : a.eval x = .pointer (some ⟨E.blk b, off, none⟩) := hx'.1
    exact ⟨fun i hi => hx'.2 i hi, _, by unfold execOp; rw [ho]; simp [hv], rfl⟩) next
structure Named (d b : Nat) : Prop where
theorem OpOK.allocN {o : Oper} {b : Nat} {cells : List Atom} (hd : ∀ d, o.dst = some d → d < C.nt) (hf : st.hp b = .free)
    (h : ∀ st' E S a w, (∀ x ∈ o.op.operands, st'.ev x = st.ev x) → SatE C st' E S a w →
      (∀ i ∈ cells.flatMap Atom.ids, (st'.hp i).used = true) ∧ ∃ cs, (execOp a.eval o).run P w = .ok (.value (.pointer (some ⟨w.heap.size, 0, none⟩))) (w.alloc (.cells cs t)) ∧ All2 (Atom.has E S w) cells cs.toList) :
    OpOK P C o st [b] ⟨.ptr b 0, [(b, .ent (.box t cells))]⟩ := by
  refine OpOK.eff [] [] (fun b hb => ?_) hd (fun b e hb => by cases hb) (fun b e hb => by cases hb) (fun b s hb => ?_) (fun b s hb => ?_) (fun st' E S a w hev hhp hs _ _ => ?_)
  · rcases hb with ⟨e, hb⟩ | ⟨e, hb⟩ | ⟨s, hb⟩
    · cases hb
    · cases hb
    · simp at hb; simp [hb.1]
  · simp at hb; rw [hb.1]; exact .inr hf
  · simp at hb; rw [hb.2]; rfl
  · obtain ⟨hid, cs, hr, hall⟩ := h st' E S a w hev hs
    have hfree : st'.hp b = .free := (hhp b (by simp)).trans hf
    refine ⟨⟨fun i hi => ?_, fun b e hb i hi => ?_⟩, fun K Q hK => ?_⟩
    · simp [AV.ids, AV0.ids, Atom.ids] at hi; subst hi; simp [updL, Slot.used]
    · simp at hb
      obtain ⟨rfl, rfl⟩ := hb
      by_cases e : i = b
      · subst e; simp [updL, Slot.used]
      · simp only [updL]; rw [upd_ne _ _ e]; exact hid i hi
    · have hE := Eff.alloc (E := E) (S := S) (w := w) (b := b) (T := t) (cells := cells) (cs := cs.toList) hs.lt (fun c hc1 hc2 => by
        have := hid b (List.mem_flatMap.2 ⟨c, hc1, hc2⟩)
        rw [hfree] at this; cases this) hall
      unfold Oper.wp
      rw [hr]
      exact hK _ _ _ _ hE
theorem G.boxN {v : AV0} {b : Nat} (next : Reg P C ops rest (st.app (some d) ⟨.ptr b 0, [(b, .ent (.box t v.cells))]⟩) (([b], [b]) :: acc) K) (hm : Named d b := by assumption) (hd : dstOK (some d) C.nt = true := by rfl) (hx : st.ev x = some (.it v) := by rfl) (hf : st.hp b = .free := by rfl) (h1 : v.cells.all Atom.oneB = true := by rfl) : Go1 P C ops (some d) (.box t x) ty rest st acc K :=
  ⟨[b], ⟨.ptr b 0, [(b, .ent (.box t v.cells))]⟩, fun o h2 h3 h4 => OpOK.allocN (h2 ▸ dstOK_spec hd) hf (fun st' E S a w hev hs => by
    obtain ⟨hv, hids⟩ := hs.ev ((hev x (by simp [h3, Op.operands])).trans hx)
    obtain ⟨us, hc, hall, hone⟩ := AV0.has.cells hv h1
    refine ⟨fun i hi => hids i (by rw [AV0.ids_cells] at hi; exact hi), us.toArray, ?_, by simpa using hall⟩
    unfold execOp; rw [h3]; simp [Instr.box, newVar, newRow, hc]), next⟩
def HpIs (st : St) : List (Nat × Slot) → Prop
  | [] => True
  | (b, s) :: l => st.hp b = s ∧ HpIs st l
theorem HpIs.spec {st : St} : ∀ {l : List (Nat × Slot)}, HpIs st l → ∀ b e, (b, Slot.ent e) ∈ l → st.hp b = .ent e
  | [], _, _, _, h => by cases h
  | (b', s) :: l, hh, b, e, h => by
    rcases List.mem_cons.1 h with h | h
    · cases h; exact hh.1
    · exact hh.2.spec b e h
theorem retP {rs : List ResultVar} {xs : List AV0} {l : List (Nat × Slot)} (h : All2 (ResOK P st) rs xs) (hh : HpIs st l) : RetF C P rs ⟨resAV xs, l⟩ st := .ok ⟨xs, h, rfl, hh.spec⟩
end
section
variable {P : Program} {C : Ctx} {st : St}
variable {ops rest : List Oper} {acc : List (List Nat × List Nat)} {K : List (List Nat × List Nat) → St → Prop} {dst : Option Tmp} {d : Tmp} {ty t : TypeId} {x y z : Operand}
def litB (size : Nat) (v : AV0) (m : List CA) : Bool := Nat.beq m.length size && Nat.ble size 1000 && v.cells.all Atom.oneB
end
section
variable {P : Program} {C : Ctx} {st : St}
variable {ops rest : List Oper} {acc : List (List Nat × List Nat)} {K : List (List Nat × List Nat) → St → Prop} {dst : Option Tmp} {d : Tmp} {ty t e : TypeId} {x y : Operand} {k : IntKind} {i n size : Nat} {zi : Int}
class TArr (P : Program) (t : TypeId) (n : outParam Nat) (e : outParam TypeId) (size : outParam Nat) : Prop where
  h : P.underlying t = some (.array n e)
  s : (P.info? e).map (·.size) = some size
end
section
variable {P : Program} {C : Ctx} {st : St}
variable {ops rest : List Oper} {acc : List (List Nat × List Nat)} {K : List (List Nat × List Nat) → St → Prop} {dst : Option Tmp} {d : Tmp} {ty t : TypeId} {x y : Operand}
def junkR : Rep where
  has _ _ v := v.oneCell' = true
  one h := h
  step h _ _ := h
end
structure HeldP (q : Prop) : Prop where
  out : q
end SX

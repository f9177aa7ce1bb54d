import Derived.Test.YtfhpmbenldgfnaaGreatDoorK5
import Derived.Laws.BytesString
set_option linter.unusedVariables false
set_option linter.unusedSimpArgs false
namespace SX
open Go Go.RowKit
section
variable {P : Program}
def OwnOK (P : Program) (f : FuncId) (args : List AV) (t : TypeId) (size n : Nat) (cells : List CA) : Prop := CallOK P f args [] ⟨.own 100, [(100, .ent (.row t size n cells))]⟩
theorem OwnOK.at {f : FuncId} {args : List AV} {t : TypeId} {size n : Nat} {cells : List CA} (h : OwnOK P f args t size n cells) (d : Nat) : CallOK P f args [] ⟨.own d, [(d, .ent (.row t size n cells))]⟩ := by
  refine ⟨h.1, fun E S w vs hl hg hv h1 h2 h3 => (h.2 E S w vs hl hg hv (fun b e hb => by cases hb) (fun b e k hb => by cases hb) (fun b b' e e' k _ hb => by cases hb)).mono ?_⟩
  rintro e w' ⟨v, E', S', rfl, hE⟩
  have hres : v = E'.sl 100 ∧ v.oneCell' = true := hE.res
  obtain ⟨us, hown, hall⟩ := hE.ents 100 (.row t size n cells) (by simp)
  refine ⟨v, ⟨E.blk, upd E.sl d (E'.sl 100), E.fp⟩, S', rfl, { env := fun b hb => ?_, fpe := fun _ _ => rfl, sub := hE.sub, new := hE.new, lt := hE.lt, off := hE.off, res := ?_, ents := fun b e hb => ?_, blk := fun b e k hb hk => ?_, sep := fun b b' e e' k hne hb hb' => ?_ }⟩
  · by_cases hbd : b = d
    · subst hbd
      obtain ⟨e, he⟩ := hb ⟨_, by simp; rfl⟩
      cases he
    · exact ⟨rfl, upd_ne _ _ hbd⟩
  · show v = upd E.sl d (E'.sl 100) d ∧ _
    rw [upd_same]; exact hres
  · simp at hb; obtain ⟨rfl, rfl⟩ := hb
    refine ⟨us, ?_, hall⟩
    show w'.ownsRow 0 t size (upd E.sl b (E'.sl 100) b) n us
    rw [upd_same]; exact hown
  · simp at hb; obtain ⟨rfl, rfl⟩ := hb
    have hk' : (upd E.sl b (E'.sl 100) b).ownBlock = some k := hk
    rw [upd_same] at hk'
    exact hE.blk 100 (.row t size n cells) k (by simp) hk'
  · simp at hb hb'; exact absurd (hb.1.trans hb'.1.symm) hne
theorem OwnOK.pure {f : FuncId} {args : List AV} {t : TypeId} {size n : Nat} {cells : List CA} (h : OwnOK P f args t size n cells) : PureOK P f args (.r (sliceR size n cells)) := by
  refine ⟨h.1, fun E S w vs hl hg hv h1 h2 h3 => (h.2 E S w vs hl hg hv (fun b e hb => by cases hb) (fun b e k hb => by cases hb) (fun b b' e e' k _ hb => by cases hb)).mono ?_⟩
  rintro e w' ⟨v, E', S', rfl, hE⟩
  have hres : v = E'.sl 100 ∧ v.oneCell' = true := hE.res
  obtain ⟨us, hown, hall⟩ := hE.ents 100 (.row t size n cells) (by simp)
  have hnew : ∀ k, (E'.sl 100).ownBlock = some k → w.heap.size ≤ k := fun k hk => by
    rcases (hE.blk 100 (.row t size n cells) k (by simp) hk).2 with ⟨b, e, hb, _⟩ | h
    · cases hb
    · exact h
  have hlen : cells.length = n * size := by rw [hall.length, hown.1]
  refine ⟨v, E, fun k => S' k ∧ (E'.sl 100).ownBlock ≠ some k, rfl, { env := fun b hb => ⟨rfl, rfl⟩, fpe := fun _ _ => rfl, sub := fun k hk => ⟨hE.sub k hk, fun h => ?_⟩, new := fun k hk => hE.new k hk.1, lt := fun k hk => hE.lt k hk.1, off := hE.off, res := ?_, ents := fun b e hb => (by cases hb), blk := fun b e k hb => (by cases hb), sep := fun b b' e e' k _ hb => (by cases hb) }⟩
  · have := hnew k h
    have := hl k hk
    omega
  · show (sliceR size n cells).has _ w' v
    rw [hres.1]
    rcases hown.2 with ⟨hv, h0⟩ | ⟨g, cap, cur, hv, _, hg, hn, hm, hcs, htk⟩
    · refine sliceR_iff.2 ⟨none, 0, by rw [hv, h0], by omega, Nat.zero_le _, fun _ => rfl, hlen, fun i c hc => ?_⟩
      have : cells.length = 0 := by rw [hlen, h0, Nat.zero_mul]
      rw [List.eq_nil_of_length_eq_zero this] at hc
      simp at hc
    · refine sliceR_iff.2 ⟨some ⟨g, 0, none⟩, cap, hv, hn, hm, (fun h => by cases h), hlen, fun i c hc => ?_⟩
      obtain ⟨u, hu, huc⟩ := hall.get hc
      have hown' := hown
      rw [hv] at hown'
      have hcell := hown'.cells (g := g) rfl i u hu
      refine ⟨g, 0, u, rfl, fun h => h.2 (by rw [hv]; rfl), by simpa [Addr.add_lit] using hcell, huc.step (Off.refl S' w') (fun k hk => .inl hk.1)⟩
class ConO (P : Program) (f : FuncId) (args : List AV) (pre : outParam Prop) (t : outParam TypeId) (size n : outParam Nat) (cells : outParam (List CA)) : Prop where
  h : pre → OwnOK P f args t size n cells
open Classical in
theorem OwnOK.fnF {f : FuncId} {fn : Func} {c : Code} {args : List AV} {t : TypeId} {size n : Nat} {cells : List CA} {nt : Nat} {rs : List ResultVar} (hf : P.funcs[f]? = some fn) (hres : fn.results = rs.toArray) (hnt : fn.ntmps = nt) (hb : fn.body = some c) (hn : (fn.name == "runtime.NumGoroutine") = false) (hna : Nat.ble args.length nt = true)
    (haid : ∀ v ∈ args, v.ids = []) (h : ∀ (w0 : World) (T B : Nat → Prop) (E0 : Env), (∀ k, ¬ B k) → WP P ⟨w0, T, B, nt, E0, fun _ => false⟩ c ⟨fun t => args[t]?, fun _ => .free⟩ (SX.retF ⟨w0, T, B, nt, E0, fun _ => false⟩ P rs ⟨.own 100, [(100, .ent (.row t size n cells))]⟩)) : OwnOK P f args t size n cells :=
  CallOK.fn hf hres hnt hb hn hna (fun b e hb => by cases hb) (fun v hv i hi => by rw [haid v hv] at hi; cases hi) (fun b e hb => by cases hb) (fun b e hb => by cases hb)
    (fun i hi => by
      right
      rcases hi with hi | ⟨b, e, hb, hi⟩
      · have : i = 100 := by simpa [AV.ids, AV0.ids, Atom.ids] using hi
        subst this; exact ⟨_, by simp; rfl⟩
      · simp at hb; obtain ⟨rfl, rfl⟩ := hb; cases hi) (fun w0 T B E0 hB => WP.retF (h w0 T B E0 fun k hk => let ⟨_, _, hb, _⟩ := hB k hk; by cases hb))
end
section
variable {P : Program} {C : Ctx} {st : St}
variable {ops rest : List Oper} {acc : List (List Nat × List Nat)} {K : List (List Nat × List Nat) → St → Prop} {dst : Option Tmp} {d : Tmp} {op : Op} {ty t t' : TypeId} {x y z : Operand} {k k' : IntKind} {i j : Nat} {za zb zi zj : Int}
theorem G.callOwn {f : FuncId} {as : Array Operand} {tys : Array TypeId} {args : List AV} {e : TypeId} {size n : Nat} {cells : List CA} (next : Reg P C ops rest (st.app (some d) ⟨.own d, [(d, .ent (.row e size n cells))]⟩) (([d], [d]) :: acc) K) (ha : evs st as.toList = some args := by rfl)
    (hc : OwnOK P f args e size n cells := by first | (with_reducible assumption) | assumption | exact SX.ConO.use (by first | trivial | omega | assumption | (refine ⟨?_, ?_⟩ <;> first | omega | assumption) | (refine ⟨?_, ?_, ?_⟩ <;> first | omega | assumption))) (hd : dstOK (some d) C.nt = true := by rfl) (hf : st.hp d = .free := by rfl) : Go1 P C ops (some d) (.call ⟨.value (.func f), as, tys⟩) ty rest st acc K :=
  Go1.callG (cap := []) (pre := []) (out := ⟨.own d, [(d, .ent (.row e size n cells))]⟩) (fp := [d]) hd rfl ha (by simpa using hc.at d) (fun b e hb => by cases hb) (fun b s hb => by simp at hb; rw [hb.1]; exact .inr hf) (fun b s hb => by simp at hb; rw [hb.2]; rfl) (fun b s hb => by simp at hb; simp [hb.1])
    (fun i hi => by
      left
      rcases hi with hi | ⟨b, e, hb, hi⟩
      · have : i = d := by simpa [AV.ids, AV0.ids, Atom.ids] using hi
        subst this; exact ⟨_, by simp; rfl⟩
      · simp at hb; obtain ⟨rfl, rfl⟩ := hb; cases hi) next
theorem G.makeN {e : TypeId} {n bytes : Nat} {z : Value} [ht : TSlice P t e 1] [he : TElem P e [z] bytes] (next : Reg P C ops rest (st.app (some d) ⟨.own d, [(d, .ent (.row e 1 n (List.replicate n (.val z))))]⟩) (([d], [d]) :: acc) K) (hd : dstOK (some d) C.nt = true := by rfl) (hx : st.ev x = some (.v (.int k zi)) := by rfl) (hx0 : zi = (n : Int) := by first | with_reducible rfl | exact SX.litN _ | rfl) (hy : st.ev y = some (.v (.int k' zj)) := by rfl) (hy0 : zj = (n : Int) := by first | with_reducible rfl | exact SX.litN _ | rfl) (hf : st.hp d = .free := by rfl)
    (hb : n * bytes ≤ 140737488355328 := by omega) (hm : n ≤ 9223372036854775807 := by omega) : Go1 P C ops (some d) (.makeSlice t x y) ty rest st acc K :=
  Go1.make hd (evz hx hx0) (evz hy hy0) hf hb hm next
theorem G.storeP {e : TypeId} {b off n size : Nat} {cells : List CA} {c : CA} [ht : TOne P t] (next : Reg P C ops rest (st.app none ⟨.v undef, [(b, .ent (.row e size n (spl cells off [c])))]⟩) (([b], [b]) :: acc) K) (hx : st.ev x = some (.it (.one (.rptr b off))) := by rfl) (hy : st.ev y = some (.it (.one (.c c))) := by rfl) (hb : st.hp b = .ent (.row e size n cells) := by rfl) (hl : off + 1 ≤ n * size := by omega)
    (h1 : [Atom.c c].all Atom.oneB = true := by rfl) : Go1 P C ops none (.store t x y) ty rest st acc K :=
  Go1.storeO (m := 1) ht.s hx hy hb rfl hl h1 rfl rfl next
theorem Go1.addT {l m : List UInt8} (hd : dstOK dst C.nt = true) (hx : st.ev x = some (.v (str l))) (hy : st.ev y = some (.v (str m))) (hb : l.length + m.length ≤ 9223372036854775807) (next : Reg P C ops rest (st.app dst ⟨.v (str (l ++ m)), []⟩) (([], []) :: acc) K) : Go1 P C ops dst (.binOp .add t x y t') ty rest st acc K :=
  Go1.val2 hd rfl hx hy (fun ρ o w ho h1 h2 => by
    unfold execOp; rw [ho]
    have hap : (⟨⟨l⟩⟩ : ByteArray) ++ ⟨⟨m⟩⟩ = ⟨⟨l ++ m⟩⟩ := by
      apply ByteArray.ext; simp
    have hl2 : (((⟨⟨l⟩⟩ : ByteArray).size : Nat) : Int) + (((⟨⟨m⟩⟩ : ByteArray).size : Nat) : Int) ≤ 9223372036854775807 := by
      show ((l.length : Nat) : Int) + ((m.length : Nat) : Int) ≤ 9223372036854775807
      omega
    simp [h1, h2, eqGuard, binOp, Op.stringOp, hap]
    exact hl2) next
theorem G.addT {l m : List UInt8} (next : Reg P C ops rest (st.app dst ⟨.v (str (l ++ m)), []⟩) (([], []) :: acc) K) (hd : dstOK dst C.nt = true := by rfl) (hx : st.ev x = some (.v (str l)) := by rfl) (hy : st.ev y = some (.v (str m)) := by rfl) (hb : l.length + m.length ≤ 9223372036854775807 := by (try simp only [List.length_cons, List.length_nil, List.length_append]); omega) : Go1 P C ops dst (.binOp .add t x y t') ty rest st acc K :=
  Go1.addT hd hx hy hb next
structure OwnLit (d : Nat) : Prop where
theorem G.litOwn {e : TypeId} {size bytes : Nat} {zs : List Value} {v : AV0} {m : List CA} [ht : TSlice P t e size] [he : TElem P e zs bytes] (next : Reg P C ops rest (st.app (some d) ⟨.own d, [(d, .ent (.row e size 1 m))]⟩) (([d], [d]) :: acc) K) (hown : OwnLit d := by assumption) (hd : dstOK (some d) C.nt = true := by rfl) (hf : st.hp d = .free := by rfl) (hx : st.ev x = some (.it v) := by rfl) (hc : closedL v.cells = some m := by rfl)
    (hm : (Nat.beq m.length size && Nat.ble size 1000 && v.cells.all Atom.oneB) = true := by rfl) : Go1 P C ops (some d) (.buildSlice t 1 #[(0, x)]) ty rest st acc K := by
  simp only [Bool.and_eq_true] at hm
  obtain ⟨⟨h1, h2⟩, h3⟩ := hm
  have hl : m.length = size := Nat.eq_of_beq_eq_true h1
  have h2' : size ≤ 1000 := by simpa [Nat.ble_eq] using h2
  have hvl : v.cells.length = size := by rw [← closedL_len hc]; exact hl
  refine Go1.buildSlice (ps := [(0, v)]) (l := v.cells) (m := m) hd hf (by simp only [evp, hx]) ?_ ?_ ?_ hc ?_ next
  · simp only [List.all_cons, List.all_nil, Bool.and_true, h3, Bool.true_and]; rfl
  · rw [Nat.one_mul, Nat.ble_eq]; omega
  · have hpl : (placesOf 1 size)[0]? = some (0, size) := by simp [placesOf]
    have hz : ((madeCells zs.toArray (1 * size)).toList.map fun v => Atom.c (.val v)).length = size := by simp [size_madeCells]
    have e1 : Nat.beq v.cells.length size = true := by rw [hvl]; exact Nat.beq_refl _
    simp only [fillA, hpl]
    rw [hz, e1, Nat.zero_add, show Nat.ble size size = true by rw [Nat.ble_eq]; exact Nat.le_refl _]
    simp only [Bool.and_self]
    rw [spl_eq _ _ _ (by rw [hz, hvl]; omega), hvl, List.take_zero, List.nil_append, Nat.zero_add, List.drop_of_length_le (by rw [hz]; exact Nat.le_refl _), List.append_nil]
  · rw [hl, Nat.one_mul]; exact Nat.beq_refl _
theorem flat1_get {α : Type} {enc : α → List CA} [EncLen enc 1] {l : List α} {i : Nat} {a : α} {c : CA} (he : enc a = [c]) (ha : l[i]? = some a) : (l.flatMap enc)[i * 1]? = some c := by
  have hf := flat_at (enc := enc) ha
  rw [he] at hf
  have := congrArg (·[0]?) hf
  simpa [List.getElem?_take, List.getElem?_drop] using this
theorem G.loadOW {α : Type} {enc : α → List CA} {l : List α} {a : α} {e : TypeId} {b n size : Nat} {c : CA} [ht : TOne P t] [hz : EncLen enc 1] (next : Reg P C ops rest (st.app dst ⟨.it (.one (.c c)), []⟩) (([b], []) :: acc) K) (hd : dstOK dst C.nt = true := by rfl) (hx : st.ev x = some (.it (.one (.rptr b (i * 1)))) := by rfl) (hb : st.hp b = .ent (.row e size n (l.flatMap enc)) := by rfl) (ha : l[i]? = some a := by assumption) (he : enc a = [c] := by rfl) : Go1 P C ops dst (.load t x) ty rest st acc K :=
  Go1.loadO1 hd hx hb (flat1_get he ha) next
instance : WrapN .u8 255 := ⟨fun m h => by show IntKind.wrap .u8 (m : Int) = m; rw [IntKind.wrap_u8]; omega⟩
theorem G.convN {a b : Nat} [h1 : TInt P t k] [h2 : TInt P t' k'] [hw : WrapN k' b] (next : Reg P C ops rest (st.app dst ⟨.v (.int k' ((a : Nat) : Int)), []⟩) (([], []) :: acc) K) (hd : dstOK dst C.nt = true := by rfl) (hx : st.ev x = some (.v (.int k za)) := by rfl) (hx0 : za = (a : Int) := by first | with_reducible rfl | exact SX.litN _ | rfl) (hb : a ≤ b := by first | omega | assumption) : Go1 P C ops dst (.convert t t' x) ty rest st acc K :=
  Go1.conv hd (evz hx hx0) (hw.h a hb) next
def bytC (b : UInt8) : List CA := [.val (.int .u8 (b.toNat : Int))]
instance : EncLen bytC 1 := ⟨fun _ => rfl⟩
instance : EncOne bytC := ⟨fun _ => rfl⟩
theorem pushes : ∀ (l : List UInt8) (s : ByteArray), ((l.map fun b => (b.toNat : Int)).foldl (fun r n => r.push (UInt8.ofNat n.toNat)) s).data.toList = s.data.toList ++ l
  | [], s => by simp
  | b :: l, s => by
    rw [List.map_cons, List.foldl_cons, pushes l]
    simp
theorem G.convBS {e : TypeId} {l : List UInt8} {r : Rep} [h1 : TSlice P t e 1] [h2 : TInt P e .u8] [h3 : TStr P t'] (next : Reg P C ops rest (st.app dst ⟨.v (str l), []⟩) (([], []) :: acc) K) (hd : dstOK dst C.nt = true := by rfl) (hx : st.ev x = some (.r r) := by rfl) (hr : AsRow r 1 bytC l := by infer_instance) : Go1 P C ops dst (.convert t t' x) ty rest st acc K :=
  Go1.pureV [] [] (by simp) hd (by simp) (fun o ho _ st' E S a w hev hs _ => by
    obtain ⟨h4, _⟩ := hs.ev ((hev x (by simp [ho, Op.operands])).trans hx)
    obtain ⟨oa, cap, hv, hn, hc, h0, hlen, hcell⟩ := sliceR_iff.1 (hr.h _ _ _ h4)
    refine ⟨fun i hi => (by cases hi), .string ⟨⟨l⟩⟩, ?_, rfl⟩
    unfold execOp; rw [ho]
    have hcv : (convert t t' (a.eval x)).run P w = (Conv.bytesToString (a.eval x)).run P w := by
      rw [hv]
      simp [convert, run_underlying h1.h, run_underlying h2.h, run_underlying h3.h]
    have hrun : (Conv.bytesToString (a.eval x)).run P w = .ok (.string ⟨⟨l⟩⟩) w := by
      rw [hv]
      cases oa with
      | none =>
        have h00 := h0 rfl
        have : l = [] := List.eq_nil_of_length_eq_zero (by have := hn; omega)
        subst this; rfl
      | some ad =>
        rw [run_bytesToString w ad l.length cap (l.map fun b => (b.toNat : Int))]
        · congr 2
          exact ByteArray.ext (Array.ext' (by rw [pushes]; rfl))
        · have hl1 : ((l.map fun b => (b.toNat : Int)).map (Value.int .u8)).length = l.length := by simp
          have := run_loadCells_list (P := P) (w := w) ad ((l.map fun b => (b.toNat : Int)).map (Value.int .u8)) (fun j v hj => by
            rw [List.map_map, List.getElem?_map] at hj
            obtain ⟨b, hb, rfl⟩ := Option.map_eq_some_iff.1 hj
            have hf := flat1_get (enc := bytC) (c := .val (.int .u8 (b.toNat : Int))) rfl hb
            rw [Nat.mul_one] at hf
            obtain ⟨bk, off, u, e1, _, e2, e3⟩ := hcell j _ hf
            cases e1
            rw [Addr.add_lit, e2, show u = _ from e3]; rfl)
          rwa [hl1] at this
    simp [hcv, hrun]) next
theorem retO {t : Tmp} {e : TypeId} {size n : Nat} {cells : List CA} (hle : St.le C st (mkSt [(t, .own 100)] [(100, .row e size n cells)]) := by first | (apply SX.St.lt0; (· (intro b h; first | (cases h; done) | exact ⟨rfl, h⟩ | exact SX.fixIs h)); (· (repeat (first | exact trivial | refine ⟨⟨_, rfl, SX.AVto.same rfl⟩, ?_⟩ | refine ⟨⟨_, rfl, SX.AVto.own rfl⟩, ?_⟩ | refine ⟨⟨_, rfl, SX.AVto.nil rfl⟩, ?_⟩ | refine ⟨⟨_, rfl, SX.AVto.int (by first | (with_reducible assumption) | omega | (simp; done) | assumption)⟩, ?_⟩ | refine ⟨⟨_, rfl, SX.AVto.str (by first | (with_reducible assumption) | (simp; done) | assumption)⟩, ?_⟩ | refine ⟨⟨_, rfl, SX.AVto.bool (by first | (with_reducible assumption) | (simp; done) | assumption)⟩, ?_⟩ | refine ⟨⟨_, rfl, SX.AVto.eq (by first | (with_reducible assumption) | (simp [*]; done)) rfl⟩, ?_⟩))); (· (repeat (first | exact trivial | refine ⟨SX.EntTo.row rfl rfl rfl rfl, ?_⟩ | refine ⟨SX.EntTo.row rfl rfl (by first | rfl | (simp; done)) (by first | rfl | assumption | exact SX.flat_snoc rfl | exact SX.flat_one rfl | (simp; done)), ?_⟩ | refine ⟨SX.EntTo.nilRow rfl, ?_⟩ | refine ⟨SX.EntTo.eq rfl rfl rfl, ?_⟩ | refine ⟨SX.EntTo.same rfl rfl, ?_⟩))); (· rfl)) | (apply SX.St.ltn; (· (intro b h; first | (cases h; done) | exact ⟨rfl, h⟩ | exact SX.fixIs h)); (· (repeat (first | exact trivial | refine ⟨⟨_, rfl, SX.AVto.same rfl⟩, ?_⟩ | refine ⟨⟨_, rfl, SX.AVto.own rfl⟩, ?_⟩ | refine ⟨⟨_, rfl, SX.AVto.nil rfl⟩, ?_⟩ | refine ⟨⟨_, rfl, SX.AVto.int (by first | (with_reducible assumption) | omega | (simp; done) | assumption)⟩, ?_⟩ | refine ⟨⟨_, rfl, SX.AVto.str (by first | (with_reducible assumption) | (simp; done) | assumption)⟩, ?_⟩ | refine ⟨⟨_, rfl, SX.AVto.bool (by first | (with_reducible assumption) | (simp; done) | assumption)⟩, ?_⟩ | refine ⟨⟨_, rfl, SX.AVto.eq (by first | (with_reducible assumption) | (simp [*]; done)) rfl⟩, ?_⟩))); (· (repeat (first | exact trivial | refine ⟨SX.EntTo.row rfl rfl rfl rfl, ?_⟩ | refine ⟨SX.EntTo.row rfl rfl (by first | rfl | (simp; done)) (by first | rfl | assumption | exact SX.flat_snoc rfl | exact SX.flat_one rfl | (simp; done)), ?_⟩ | refine ⟨SX.EntTo.nilRow rfl, ?_⟩ | refine ⟨SX.EntTo.eq rfl rfl rfl, ?_⟩ | refine ⟨SX.EntTo.same rfl rfl, ?_⟩))); (· rfl)) | (apply SX.St.lt1; (· (intro b h; first | (cases h; done) | exact ⟨rfl, h⟩ | exact SX.fixIs h)); (· (repeat (first | exact trivial | refine ⟨⟨_, rfl, SX.AVto.same rfl⟩, ?_⟩ | refine ⟨⟨_, rfl, SX.AVto.own rfl⟩, ?_⟩ | refine ⟨⟨_, rfl, SX.AVto.nil rfl⟩, ?_⟩ | refine ⟨⟨_, rfl, SX.AVto.int (by first | (with_reducible assumption) | omega | (simp; done) | assumption)⟩, ?_⟩ | refine ⟨⟨_, rfl, SX.AVto.str (by first | (with_reducible assumption) | (simp; done) | assumption)⟩, ?_⟩ | refine ⟨⟨_, rfl, SX.AVto.bool (by first | (with_reducible assumption) | (simp; done) | assumption)⟩, ?_⟩ | refine ⟨⟨_, rfl, SX.AVto.eq (by first | (with_reducible assumption) | (simp [*]; done)) rfl⟩, ?_⟩))); (· (repeat (first | exact trivial | refine ⟨SX.EntTo.row rfl rfl rfl rfl, ?_⟩ | refine ⟨SX.EntTo.row rfl rfl (by first | rfl | (simp; done)) (by first | rfl | assumption | exact SX.flat_snoc rfl | exact SX.flat_one rfl | (simp; done)), ?_⟩ | refine ⟨SX.EntTo.nilRow rfl, ?_⟩ | refine ⟨SX.EntTo.eq rfl rfl rfl, ?_⟩ | refine ⟨SX.EntTo.same rfl rfl, ?_⟩))); (· rfl)) | (apply SX.St.ltnn; (· (intro b h; first | (cases h; done) | exact ⟨rfl, h⟩ | exact SX.fixIs h)); (· (repeat (first | exact trivial | refine ⟨⟨_, rfl, SX.AVto.same rfl⟩, ?_⟩ | refine ⟨⟨_, rfl, SX.AVto.own rfl⟩, ?_⟩ | refine ⟨⟨_, rfl, SX.AVto.nil rfl⟩, ?_⟩ | refine ⟨⟨_, rfl, SX.AVto.int (by first | (with_reducible assumption) | omega | (simp; done) | assumption)⟩, ?_⟩ | refine ⟨⟨_, rfl, SX.AVto.str (by first | (with_reducible assumption) | (simp; done) | assumption)⟩, ?_⟩ | refine ⟨⟨_, rfl, SX.AVto.bool (by first | (with_reducible assumption) | (simp; done) | assumption)⟩, ?_⟩ | refine ⟨⟨_, rfl, SX.AVto.eq (by first | (with_reducible assumption) | (simp [*]; done)) rfl⟩, ?_⟩))); (· (repeat (first | exact trivial | refine ⟨SX.EntTo.row rfl rfl rfl rfl, ?_⟩ | refine ⟨SX.EntTo.row rfl rfl (by first | rfl | (simp; done)) (by first | rfl | assumption | exact SX.flat_snoc rfl | exact SX.flat_one rfl | (simp; done)), ?_⟩ | refine ⟨SX.EntTo.nilRow rfl, ?_⟩ | refine ⟨SX.EntTo.eq rfl rfl rfl, ?_⟩ | refine ⟨SX.EntTo.same rfl rfl, ?_⟩))); (· rfl)) | (apply SX.St.lt11; (· (intro b h; first | (cases h; done) | exact ⟨rfl, h⟩ | exact SX.fixIs h)); (· (repeat (first | exact trivial | refine ⟨⟨_, rfl, SX.AVto.same rfl⟩, ?_⟩ | refine ⟨⟨_, rfl, SX.AVto.own rfl⟩, ?_⟩ | refine ⟨⟨_, rfl, SX.AVto.nil rfl⟩, ?_⟩ | refine ⟨⟨_, rfl, SX.AVto.int (by first | (with_reducible assumption) | omega | (simp; done) | assumption)⟩, ?_⟩ | refine ⟨⟨_, rfl, SX.AVto.str (by first | (with_reducible assumption) | (simp; done) | assumption)⟩, ?_⟩ | refine ⟨⟨_, rfl, SX.AVto.bool (by first | (with_reducible assumption) | (simp; done) | assumption)⟩, ?_⟩ | refine ⟨⟨_, rfl, SX.AVto.eq (by first | (with_reducible assumption) | (simp [*]; done)) rfl⟩, ?_⟩))); (· (repeat (first | exact trivial | refine ⟨SX.EntTo.row rfl rfl rfl rfl, ?_⟩ | refine ⟨SX.EntTo.row rfl rfl (by first | rfl | (simp; done)) (by first | rfl | assumption | exact SX.flat_snoc rfl | exact SX.flat_one rfl | (simp; done)), ?_⟩ | refine ⟨SX.EntTo.nilRow rfl, ?_⟩ | refine ⟨SX.EntTo.eq rfl rfl rfl, ?_⟩ | refine ⟨SX.EntTo.same rfl rfl, ?_⟩))); (· rfl)) | (apply SX.St.ltn1; (· (intro b h; first | (cases h; done) | exact ⟨rfl, h⟩ | exact SX.fixIs h)); (· (repeat (first | exact trivial | refine ⟨⟨_, rfl, SX.AVto.same rfl⟩, ?_⟩ | refine ⟨⟨_, rfl, SX.AVto.own rfl⟩, ?_⟩ | refine ⟨⟨_, rfl, SX.AVto.nil rfl⟩, ?_⟩ | refine ⟨⟨_, rfl, SX.AVto.int (by first | (with_reducible assumption) | omega | (simp; done) | assumption)⟩, ?_⟩ | refine ⟨⟨_, rfl, SX.AVto.str (by first | (with_reducible assumption) | (simp; done) | assumption)⟩, ?_⟩ | refine ⟨⟨_, rfl, SX.AVto.bool (by first | (with_reducible assumption) | (simp; done) | assumption)⟩, ?_⟩ | refine ⟨⟨_, rfl, SX.AVto.eq (by first | (with_reducible assumption) | (simp [*]; done)) rfl⟩, ?_⟩))); (· (repeat (first | exact trivial | refine ⟨SX.EntTo.row rfl rfl rfl rfl, ?_⟩ | refine ⟨SX.EntTo.row rfl rfl (by first | rfl | (simp; done)) (by first | rfl | assumption | exact SX.flat_snoc rfl | exact SX.flat_one rfl | (simp; done)), ?_⟩ | refine ⟨SX.EntTo.nilRow rfl, ?_⟩ | refine ⟨SX.EntTo.eq rfl rfl rfl, ?_⟩ | refine ⟨SX.EntTo.same rfl rfl, ?_⟩))); (· rfl)) | (apply SX.St.lt1n; (· (intro b h; first | (cases h; done) | exact ⟨rfl, h⟩ | exact SX.fixIs h)); (· (repeat (first | exact trivial | refine ⟨⟨_, rfl, SX.AVto.same rfl⟩, ?_⟩ | refine ⟨⟨_, rfl, SX.AVto.own rfl⟩, ?_⟩ | refine ⟨⟨_, rfl, SX.AVto.nil rfl⟩, ?_⟩ | refine ⟨⟨_, rfl, SX.AVto.int (by first | (with_reducible assumption) | omega | (simp; done) | assumption)⟩, ?_⟩ | refine ⟨⟨_, rfl, SX.AVto.str (by first | (with_reducible assumption) | (simp; done) | assumption)⟩, ?_⟩ | refine ⟨⟨_, rfl, SX.AVto.bool (by first | (with_reducible assumption) | (simp; done) | assumption)⟩, ?_⟩ | refine ⟨⟨_, rfl, SX.AVto.eq (by first | (with_reducible assumption) | (simp [*]; done)) rfl⟩, ?_⟩))); (· (repeat (first | exact trivial | refine ⟨SX.EntTo.row rfl rfl rfl rfl, ?_⟩ | refine ⟨SX.EntTo.row rfl rfl (by first | rfl | (simp; done)) (by first | rfl | assumption | exact SX.flat_snoc rfl | exact SX.flat_one rfl | (simp; done)), ?_⟩ | refine ⟨SX.EntTo.nilRow rfl, ?_⟩ | refine ⟨SX.EntTo.eq rfl rfl rfl, ?_⟩ | refine ⟨SX.EntTo.same rfl rfl, ?_⟩))); (· rfl))) : RetF C P [.tmp t] ⟨.own 100, [(100, .ent (.row e size n cells))]⟩ st :=
  ⟨_, hle, [.one (.own 100)], ⟨ResOK.tmp (by simp [mkSt, lk]), trivial⟩, rfl, fun b e hb => by simp at hb; obtain ⟨rfl, rfl⟩ := hb; simp [mkSt, lk]⟩
end
structure Held2 (q : Prop) : Prop where
  out : q
theorem go2 {p q : Prop} (h : q) (k : Held2 q → p := by
    intro h
    (first
      | (refine SX.Go1.is ?_; first
          | (refine SX.Go1.isLoad ?_; first | refine SX.G.load2 ?_ | refine SX.G.load1 ?_ | refine SX.G.loadR1 ?_ | refine SX.G.loadR2 ?_ | refine SX.G.load4 ?_ | refine SX.G.loadR4 ?_ | refine SX.G.load3 ?_ | refine SX.G.loadR3 ?_ | refine SX.G.loadOW ?_ | refine SX.G.loadO1 ?_)
          | (refine SX.Go1.isBin ?_; first | refine SX.G.lss ?_ | refine SX.G.eql ?_ | refine SX.G.neq ?_ | refine SX.G.gtr ?_ | refine SX.G.geq ?_ | refine SX.G.leq ?_ | refine SX.G.addN ?_ | refine SX.G.addNu ?_ | refine SX.G.subN ?_ | refine SX.G.subNu ?_ | refine SX.G.add ?_ | refine SX.G.sub ?_ | refine SX.G.mulN ?_ | refine SX.G.mulNu ?_ | refine SX.G.mul ?_ | refine SX.G.quoN ?_ | refine SX.G.quoNu ?_ | refine SX.G.quo ?_ | refine SX.G.remN ?_ | refine SX.G.remNu ?_ | refine SX.G.rem ?_ | refine SX.G.eqlT ?_ | refine SX.G.neqT ?_ | refine SX.G.eqlB ?_ | refine SX.G.neqB ?_ | refine SX.G.shr ?_ | refine SX.G.shl ?_ | refine SX.G.and ?_ | refine SX.G.addT ?_)
          | (refine SX.Go1.isUn ?_; first | refine SX.G.not ?_ | refine SX.G.neg ?_)
          | (refine SX.Go1.isField ?_; first | refine SX.G.fieldAddr ?_ | refine SX.G.fieldAddrR ?_)
          | (refine SX.Go1.isBuild ?_; first | refine SX.G.build2 ?_ | refine SX.G.build3 ?_ | refine SX.G.build4 ?_ | refine SX.G.build ?_)
          | (refine SX.Go1.isStore ?_; first | refine SX.G.store ?_ | refine SX.G.storeP ?_ | refine SX.G.storeO ?_)
          | (refine SX.Go1.isIx ?_; first | refine SX.G.indexAddrW ?_ | refine SX.G.indexAddrV ?_ | refine SX.G.indexAddrR ?_ | refine SX.G.indexAddrO ?_)
          | (refine SX.Go1.isBuildS ?_; first | refine SX.G.litOwn ?_ | refine SX.G.lit1 ?_)
          | (refine SX.Go1.isCall ?_; first | refine SX.G.minN ?_ | refine SX.G.maxN ?_ | refine SX.G.lenR ?_ | refine SX.G.lenN ?_ | refine SX.G.lenT ?_ | refine SX.G.lenS ?_ | refine SX.G.lenO ?_ | refine SX.G.appendW ?_ | refine SX.G.appendNilW ?_ | refine SX.G.callOwn ?_ | refine SX.G.call ?_)
          | refine SX.G.move ?_ | refine SX.G.assign ?_ | refine SX.G.extract ?_ | refine SX.G.box ?_ | refine SX.G.alloc ?_ | refine SX.G.pick ?_ | refine SX.R.pickT ?_ | refine SX.R.pickF ?_ | refine SX.G.pickB ?_ | refine SX.G.pickV ?_ | refine SX.G.makeN ?_ | refine SX.G.convN ?_ | refine SX.G.conv ?_ | refine SX.G.convBS ?_ | refine SX.G.sliceHiW ?_ | refine SX.G.sliceLoW ?_ | refine SX.G.sliceHiR ?_ | refine SX.G.sliceLoR ?_ | refine SX.G.sliceHiO ?_ | refine SX.G.sliceHiT ?_ | refine SX.G.sliceLoT ?_ | refine SX.G.sliceLHT ?_ | refine SX.G.indexT ?_ | refine SX.G.sliceHiS ?_ | refine SX.G.sliceLoS ?_ | refine SX.G.sliceLHS ?_ | refine SX.G.indexS ?_)
      | (refine SX.Reg.is ?_; first | refine SX.Reg.go ?_ | refine SX.R.runT ?_ | refine SX.R.runF ?_ | refine SX.R.skipT ?_ | refine SX.R.skipF ?_ | refine SX.R.skipU ?_ | refine SX.Reg.nil ⟨by kernel_rfl, ?_⟩ | refine SX.Reg.nil ?_)
      | (refine SX.WP.is ?_; first | refine SX.WP.seq ?_ | refine SX.WP.regionL ?_ | refine SX.WP.regionDL (by kernel_rfl) ?_ | refine SX.WP.block ?_ | refine SX.WP.skip ?_ | refine SX.WP.exit ?_ | refine SX.WP.ret ?_ | refine SX.WP.label ?_ | refine SX.W.condT ?_ | refine SX.W.condF ?_)
      | refine SX.thenN ?_ | refine SX.thenE ?_ | refine SX.thenR ?_ | refine SX.inBlkN ?_ | refine SX.inBlkR ?_ | refine SX.inBlkE ?_ | refine SX.inBlkO rfl ?_ | refine SX.retR ?_ | refine SX.retN ?_ | refine SX.retFR ?_ | refine SX.retFN ?_)
    repeat (first
      | (refine SX.Go1.is ?_; first
          | (refine SX.Go1.isLoad ?_; first | refine SX.G.load2 ?_ | refine SX.G.load1 ?_ | refine SX.G.loadR1 ?_ | refine SX.G.loadR2 ?_ | refine SX.G.load4 ?_ | refine SX.G.loadR4 ?_ | refine SX.G.load3 ?_ | refine SX.G.loadR3 ?_ | refine SX.G.loadOW ?_ | refine SX.G.loadO1 ?_)
          | (refine SX.Go1.isBin ?_; first | refine SX.G.lss ?_ | refine SX.G.eql ?_ | refine SX.G.neq ?_ | refine SX.G.gtr ?_ | refine SX.G.geq ?_ | refine SX.G.leq ?_ | refine SX.G.addN ?_ | refine SX.G.addNu ?_ | refine SX.G.subN ?_ | refine SX.G.subNu ?_ | refine SX.G.add ?_ | refine SX.G.sub ?_ | refine SX.G.mulN ?_ | refine SX.G.mulNu ?_ | refine SX.G.mul ?_ | refine SX.G.quoN ?_ | refine SX.G.quoNu ?_ | refine SX.G.quo ?_ | refine SX.G.remN ?_ | refine SX.G.remNu ?_ | refine SX.G.rem ?_ | refine SX.G.eqlT ?_ | refine SX.G.neqT ?_ | refine SX.G.eqlB ?_ | refine SX.G.neqB ?_ | refine SX.G.shr ?_ | refine SX.G.shl ?_ | refine SX.G.and ?_ | refine SX.G.addT ?_)
          | (refine SX.Go1.isUn ?_; first | refine SX.G.not ?_ | refine SX.G.neg ?_)
          | (refine SX.Go1.isField ?_; first | refine SX.G.fieldAddr ?_ | refine SX.G.fieldAddrR ?_)
          | (refine SX.Go1.isBuild ?_; first | refine SX.G.build2 ?_ | refine SX.G.build3 ?_ | refine SX.G.build4 ?_ | refine SX.G.build ?_)
          | (refine SX.Go1.isStore ?_; first | refine SX.G.store ?_ | refine SX.G.storeP ?_ | refine SX.G.storeO ?_)
          | (refine SX.Go1.isIx ?_; first | refine SX.G.indexAddrW ?_ | refine SX.G.indexAddrV ?_ | refine SX.G.indexAddrR ?_ | refine SX.G.indexAddrO ?_)
          | (refine SX.Go1.isBuildS ?_; first | refine SX.G.litOwn ?_ | refine SX.G.lit1 ?_)
          | (refine SX.Go1.isCall ?_; first | refine SX.G.minN ?_ | refine SX.G.maxN ?_ | refine SX.G.lenR ?_ | refine SX.G.lenN ?_ | refine SX.G.lenT ?_ | refine SX.G.lenS ?_ | refine SX.G.lenO ?_ | refine SX.G.appendW ?_ | refine SX.G.appendNilW ?_ | refine SX.G.callOwn ?_ | refine SX.G.call ?_)
          | refine SX.G.move ?_ | refine SX.G.assign ?_ | refine SX.G.extract ?_ | refine SX.G.box ?_ | refine SX.G.alloc ?_ | refine SX.G.pick ?_ | refine SX.R.pickT ?_ | refine SX.R.pickF ?_ | refine SX.G.pickB ?_ | refine SX.G.pickV ?_ | refine SX.G.makeN ?_ | refine SX.G.convN ?_ | refine SX.G.conv ?_ | refine SX.G.convBS ?_ | refine SX.G.sliceHiW ?_ | refine SX.G.sliceLoW ?_ | refine SX.G.sliceHiR ?_ | refine SX.G.sliceLoR ?_ | refine SX.G.sliceHiO ?_ | refine SX.G.sliceHiT ?_ | refine SX.G.sliceLoT ?_ | refine SX.G.sliceLHT ?_ | refine SX.G.indexT ?_ | refine SX.G.sliceHiS ?_ | refine SX.G.sliceLoS ?_ | refine SX.G.sliceLHS ?_ | refine SX.G.indexS ?_)
      | (refine SX.Reg.is ?_; first | refine SX.Reg.go ?_ | refine SX.R.runT ?_ | refine SX.R.runF ?_ | refine SX.R.skipT ?_ | refine SX.R.skipF ?_ | refine SX.R.skipU ?_ | refine SX.Reg.nil ⟨by kernel_rfl, ?_⟩ | refine SX.Reg.nil ?_)
      | (refine SX.WP.is ?_; first | refine SX.WP.seq ?_ | refine SX.WP.regionL ?_ | refine SX.WP.regionDL (by kernel_rfl) ?_ | refine SX.WP.block ?_ | refine SX.WP.skip ?_ | refine SX.WP.exit ?_ | refine SX.WP.ret ?_ | refine SX.WP.label ?_ | refine SX.W.condT ?_ | refine SX.W.condF ?_)
      | refine SX.thenN ?_ | refine SX.thenE ?_ | refine SX.thenR ?_ | refine SX.inBlkN ?_ | refine SX.inBlkR ?_ | refine SX.inBlkE ?_ | refine SX.inBlkO rfl ?_ | refine SX.retR ?_ | refine SX.retN ?_ | refine SX.retFR ?_ | refine SX.retFN ?_)
    exact h.out) : p := k ⟨h⟩
end SX
set_option linter.unusedVariables false
set_option linter.unusedSimpArgs false
namespace SX
open Go Go.RowKit
section
variable {P : Program} {C : Ctx} {st : St}
variable {ops rest : List Oper} {acc : List (List Nat × List Nat)} {K : List (List Nat × List Nat) → St → Prop} {dst : Option Tmp} {ty : TypeId}
end
structure HeldR (q : Prop) : Prop where
  out : q
end SX
set_option linter.unusedVariables false
set_option linter.unusedSimpArgs false
namespace SX
open Go Go.RowKit
def memB (l : List Nat) (i : Nat) : Bool := l.any (Nat.beq i)
theorem memB_iff {l : List Nat} {i : Nat} : memB l i = true ↔ i ∈ l := by
  unfold memB
  rw [List.any_eq_true]
  constructor
  · rintro ⟨x, hx, he⟩
    have : i = x := by simpa using he
    rw [this]; exact hx
  · intro h; exact ⟨i, h, by simp⟩
def Slot.ids : Slot → List Nat
  | .ent e => e.ids
  | _ => []
def nodupB : List Nat → Bool
  | [] => true
  | a :: l => !memB l a && nodupB l
def preOK (args : List AV) (pre : List (Nat × Ent)) (out : Out) : Bool :=
  nodupB (pre.map (·.1)) && (pre.all fun p => (Slot.ent p.2).isBox) && (args.all fun v => v.ids.all (memB (pre.map (·.1)))) && (pre.all fun p => p.2.ids.all (memB (pre.map (·.1)))) && ((pre.map (·.1)).all (memB (out.hp.map (·.1)))) &&
    ((out.res.ids ++ out.hp.flatMap fun p => p.2.ids).all fun i => memB (pre.map (·.1)) i || memB (out.hp.map (·.1)) i)
theorem lk_lookup : ∀ (l : List (Nat × Ent)) (b : Nat), l.lookup b = lk l b
  | [], _ => rfl
  | (j, v) :: l, b => by
    rw [List.lookup_cons]
    unfold lk
    by_cases h : b = j
    · subst h; simp
    · have h1 : (b == j) = false := by simpa using h
      have h2 : Nat.beq j b = false := by rw [Bool.eq_false_iff]; simp; omega
      simp only [h1, h2]; exact lk_lookup l b
theorem lk_key : ∀ {l : List (Nat × Ent)} {b : Nat} {e : Ent}, nodupB (l.map (·.1)) = true → (b, e) ∈ l → lk l b = some e
  | (j, v) :: l, b, e, hn, h => by
    rw [List.map_cons, nodupB, Bool.and_eq_true] at hn
    unfold lk
    rcases List.mem_cons.1 h with h | h
    · cases h; simp
    · have hne : Nat.beq j b = false := by
        rw [Bool.eq_false_iff]; intro he
        have he' : j = b := by simpa using he
        subst he'
        have : memB (l.map (·.1)) j = true := memB_iff.2 (List.mem_map.2 ⟨(j, e), h, rfl⟩)
        rw [this] at hn; cases hn.1
      simp only [hne]; exact lk_key hn.2 h
theorem lk_some_of_mem {l : List (Nat × Ent)} {b : Nat} (h : b ∈ l.map (·.1)) : (lk l b).isSome = true := by
  induction l with
  | nil => cases h
  | cons p l ih =>
    obtain ⟨j, v⟩ := p
    unfold lk
    cases hj : Nat.beq j b with
    | true => rfl
    | false =>
      simp only
      refine ih ?_
      rw [List.map_cons] at h
      rcases List.mem_cons.1 h with h | h
      · rw [h] at hj; simp at hj
      · exact h
section
variable {P : Program} {C : Ctx} {st : St}
variable {ops rest : List Oper} {acc : List (List Nat × List Nat)} {K : List (List Nat × List Nat) → St → Prop} {dst : Option Tmp} {d : Tmp} {op : Op} {ty t t' : TypeId} {x y z : Operand}
def pnames : List Nat := [29, 81, 82, 83, 84]
def reach (st : St) (args : List AV) (cap : List Nat) : List Nat :=
  let l := cap ++ args.flatMap AV.ids
  l ++ l.flatMap fun b => (st.hp b).ids
def keysOf (l : List Nat) : List Nat := pnames.filter fun k => memB l k
def preOf (st : St) : List Nat → Option (List (Nat × Ent))
  | [] => some []
  | b :: l => match st.hp b, preOf st l with
    | .ent e, some m => some ((b, e) :: m)
    | _, _ => none
theorem preOf_mem {st : St} : ∀ {l : List Nat} {m : List (Nat × Ent)}, preOf st l = some m → ∀ b e, (b, e) ∈ m → st.hp b = .ent e
  | [], m, h, b, e, hb => by cases h; cases hb
  | a :: l, m, h, b, e, hb => by
    unfold preOf at h
    cases h1 : st.hp a with
    | ent e1 =>
      cases h2 : preOf st l with
      | none => simp [h1, h2] at h
      | some m' =>
        simp only [h1, h2] at h
        cases h
        rcases List.mem_cons.1 hb with hb | hb
        · cases hb; exact h1
        · exact preOf_mem h2 b e hb
    | free => simp [h1] at h
    | gone => simp [h1] at h
def outOK (args : List AV) (pre : List (Nat × Ent)) (out : Out) : Bool :=
  ((pre.map (·.1)).all (memB (out.hp.map (·.1)))) && ((out.hp.map (·.1)).all (memB (pre.map (·.1)))) && (out.hp.all fun p => p.2.used) && ((out.res.ids ++ out.hp.flatMap fun p => p.2.ids).all fun i => memB (out.hp.map (·.1)) i)
theorem G.callP {fx : Operand} {f : FuncId} {cap : List (Nat × Nat)} {as : Array Operand} {tys : Array TypeId} {args : List AV} {pre : List (Nat × Ent)} {out : Out}
    (next : Reg P C ops rest (st.app dst out) ((out.hp.map (·.1), out.hp.map (·.1)) :: acc) K) (hd : dstOK dst C.nt = true := by rfl) (hf : st.ev fx = some (.it (.one (.clo f cap))) := by rfl) (ha : evs st as.toList = some args := by rfl)
    (hk : preOf st (keysOf (reach st args (cap.map (·.1)))) = some pre := by rfl) (hc : CallOK P f (args ++ cap.map fun p => .ptr p.1 p.2) pre out := by assumption) (ho : outOK args pre out = true := by rfl) : Go1 P C ops dst (.call ⟨.value fx, as, tys⟩) ty rest st acc K := by
  unfold outOK at ho
  simp only [Bool.and_eq_true] at ho
  obtain ⟨⟨⟨o1, o2⟩, o3⟩, o4⟩ := ho
  refine Go1.callG hd hf ha hc (fun b e hb => ⟨preOf_mem hk b e hb, ?_⟩) (fun b s hb => .inl ?_) (fun b s hb => List.all_eq_true.1 o3 (b, s) hb) (fun b s hb => List.mem_map.2 ⟨(b, s), hb, rfl⟩) (fun i hi => .inl ?_) next
  · have := memB_iff.1 (List.all_eq_true.1 o1 b (List.mem_map.2 ⟨(b, e), hb, rfl⟩))
    obtain ⟨⟨b', s⟩, hs, rfl⟩ := List.mem_map.1 this
    exact ⟨s, hs⟩
  · have := memB_iff.1 (List.all_eq_true.1 o2 b (List.mem_map.2 ⟨(b, s), hb, rfl⟩))
    obtain ⟨⟨b', e⟩, hs, rfl⟩ := List.mem_map.1 this
    exact ⟨e, hs⟩
  · have hi' : i ∈ out.res.ids ++ out.hp.flatMap fun p => p.2.ids := by
      rw [List.mem_append]
      rcases hi with hi | ⟨b, e, hb, hi⟩
      · exact .inl hi
      · exact .inr (List.mem_flatMap.2 ⟨(b, .ent e), hb, hi⟩)
    obtain ⟨⟨b', s⟩, hs, rfl⟩ := List.mem_map.1 (memB_iff.1 (List.all_eq_true.1 o4 i hi'))
    exact ⟨s, hs⟩
def ptrsOf : List AV → Option (List (Nat × Nat))
  | [] => some []
  | .it (.one (.ptr b off)) :: l => match ptrsOf l with | some m => some ((b, off) :: m) | none => none
  | _ :: _ => none
theorem ptrsOf_spec : ∀ {l : List AV} {m : List (Nat × Nat)}, ptrsOf l = some m → l = m.map fun p => AV.ptr p.1 p.2
  | [], m, h => by simp [ptrsOf] at h; subst h; rfl
  | v :: l, m, h => by
    unfold ptrsOf at h
    split at h
    · rename_i heq; cases heq
    · rename_i b off l' heq
      cases heq
      split at h
      · rename_i m' hm
        cases h
        rw [List.map_cons, ptrsOf_spec hm]
      · cases h
    · cases h
theorem ptrs_has {E : Env} {S : Nat → Prop} {w : World} : ∀ {m : List (Nat × Nat)} {vs : List Value}, All2 (AV.has E S w) (m.map fun p => AV.ptr p.1 p.2) vs → vs = m.map fun p => Value.pointer (some ⟨E.blk p.1, p.2, none⟩)
  | [], [], _ => rfl
  | p :: m, v :: vs, h => by rw [List.map_cons, ← ptrs_has h.2, show v = _ from h.1]
  | [], _ :: _, h => h.elim
  | _ :: _, [], h => h.elim
theorem G.mkclo {f : FuncId} {caps : Array Operand} {l : List AV} {cap : List (Nat × Nat)} (next : Reg P C ops rest (st.app dst ⟨.it (.one (.clo f cap)), []⟩) (([], []) :: acc) K) (hd : dstOK dst C.nt = true := by rfl) (ha : evs st caps.toList = some l := by rfl) (hc : ptrsOf l = some cap := by rfl) : Go1 P C ops dst (.makeFunc (.func f) #[] caps) ty rest st acc K :=
  Go1.pureV [] [] (by simp) hd (by simp) (fun o ho _ st' E S a w hev hs _ => by
    have hop : o.op.operands = caps := by rw [ho]; simp [Op.operands]
    have ha' : evs st' caps.toList = some l := by rw [evs_congr (fun x hx => hev x (by rw [hop]; simpa using hx))]; exact ha
    obtain ⟨hall, hids⟩ := evs_has hs ha'
    have hl := ptrsOf_spec hc
    subst hl
    have hv := ptrs_has hall
    have har : caps.map a.eval = (cap.map fun p => Value.pointer (some ⟨E.blk p.1, p.2, none⟩)).toArray := by apply Array.ext'; simpa using hv
    refine ⟨fun i hi => ?_, _, by unfold execOp; rw [ho]; simp [Instr.makeFunc]; rfl, ?_⟩
    · obtain ⟨p, hp, rfl⟩ := List.mem_map.1 (show i ∈ cap.map (·.1) from hi)
      exact hids (AV.ptr p.1 p.2) (List.mem_map.2 ⟨p, hp, rfl⟩) p.1 (by simp [AV.ids, AV0.ids, Atom.ids])
    · show _ = Value.func (.func f) #[] _
      rw [har]) next
theorem G.nilCheckP {b off : Nat} (next : Reg P C ops rest (st.app dst ⟨.ptr b off, []⟩) (([], []) :: acc) K) (hd : dstOK dst C.nt = true := by rfl) (hx : st.ev x = some (.ptr b off) := by rfl) : Go1 P C ops dst (.nilCheck x) ty rest st acc K :=
  Go1.pureV [] [] (by simp) hd (by simp) (fun o ho _ st' E S a w hev hs _ => by
    have hx' := hs.ev ((hev x (by simp [ho, Op.operands])).trans hx)
    have hv : a.eval x = .pointer (some ⟨E.blk b, off, none⟩) := hx'.1
    exact ⟨fun i hi => hx'.2 i hi, _, by unfold execOp; rw [ho]; simp [hv], rfl⟩) next
structure Named (d b : Nat) : Prop where
theorem OpOK.allocN {o : Oper} {b : Nat} {cells : List Atom} (hd : ∀ d, o.dst = some d → d < C.nt) (hf : st.hp b = .free)
    (h : ∀ st' E S a w, (∀ x ∈ o.op.operands, st'.ev x = st.ev x) → SatE C st' E S a w →
      (∀ i ∈ cells.flatMap Atom.ids, (st'.hp i).used = true) ∧ ∃ cs, (execOp a.eval o).run P w = .ok (.value (.pointer (some ⟨w.heap.size, 0, none⟩))) (w.alloc (.cells cs t)) ∧ All2 (Atom.has E S w) cells cs.toList) :
    OpOK P C o st [b] ⟨.ptr b 0, [(b, .ent (.box t cells))]⟩ := by
  refine OpOK.eff [] [] (fun b hb => ?_) hd (fun b e hb => by cases hb) (fun b e hb => by cases hb) (fun b s hb => ?_) (fun b s hb => ?_) (fun st' E S a w hev hhp hs _ _ => ?_)
  · rcases hb with ⟨e, hb⟩ | ⟨e, hb⟩ | ⟨s, hb⟩
    · cases hb
    · cases hb
    · simp at hb; simp [hb.1]
  · simp at hb; rw [hb.1]; exact .inr hf
  · simp at hb; rw [hb.2]; rfl
  · obtain ⟨hid, cs, hr, hall⟩ := h st' E S a w hev hs
    have hfree : st'.hp b = .free := (hhp b (by simp)).trans hf
    refine ⟨⟨fun i hi => ?_, fun b e hb i hi => ?_⟩, fun K Q hK => ?_⟩
    · simp [AV.ids, AV0.ids, Atom.ids] at hi; subst hi; simp [updL, Slot.used]
    · simp at hb
      obtain ⟨rfl, rfl⟩ := hb
      by_cases e : i = b
      · subst e; simp [updL, Slot.used]
      · simp only [updL]; rw [upd_ne _ _ e]; exact hid i hi
    · have hE := Eff.alloc (E := E) (S := S) (w := w) (b := b) (T := t) (cells := cells) (cs := cs.toList) hs.lt (fun c hc1 hc2 => by
        have := hid b (List.mem_flatMap.2 ⟨c, hc1, hc2⟩)
        rw [hfree] at this; cases this) hall
      unfold Oper.wp
      rw [hr]
      exact hK _ _ _ _ hE
theorem G.boxN {v : AV0} {b : Nat} (next : Reg P C ops rest (st.app (some d) ⟨.ptr b 0, [(b, .ent (.box t v.cells))]⟩) (([b], [b]) :: acc) K) (hm : Named d b := by assumption) (hd : dstOK (some d) C.nt = true := by rfl) (hx : st.ev x = some (.it v) := by rfl) (hf : st.hp b = .free := by rfl) (h1 : v.cells.all Atom.oneB = true := by rfl) : Go1 P C ops (some d) (.box t x) ty rest st acc K :=
  ⟨[b], ⟨.ptr b 0, [(b, .ent (.box t v.cells))]⟩, fun o h2 h3 h4 => OpOK.allocN (h2 ▸ dstOK_spec hd) hf (fun st' E S a w hev hs => by
    obtain ⟨hv, hids⟩ := hs.ev ((hev x (by simp [h3, Op.operands])).trans hx)
    obtain ⟨us, hc, hall, hone⟩ := AV0.has.cells hv h1
    refine ⟨fun i hi => hids i (by rw [AV0.ids_cells] at hi; exact hi), us.toArray, ?_, by simpa using hall⟩
    unfold execOp; rw [h3]; simp [Instr.box, newVar, newRow, hc]), next⟩
def HpIs (st : St) : List (Nat × Slot) → Prop
  | [] => True
  | (b, s) :: l => st.hp b = s ∧ HpIs st l
theorem HpIs.spec {st : St} : ∀ {l : List (Nat × Slot)}, HpIs st l → ∀ b e, (b, Slot.ent e) ∈ l → st.hp b = .ent e
  | [], _, _, _, h => by cases h
  | (b', s) :: l, hh, b, e, h => by
    rcases List.mem_cons.1 h with h | h
    · cases h; exact hh.1
    · exact hh.2.spec b e h
theorem retP {rs : List ResultVar} {xs : List AV0} {l : List (Nat × Slot)} (h : All2 (ResOK P st) rs xs) (hh : HpIs st l) : RetF C P rs ⟨resAV xs, l⟩ st := .ok ⟨xs, h, rfl, hh.spec⟩
end
section
variable {P : Program} {C : Ctx} {st : St}
variable {ops rest : List Oper} {acc : List (List Nat × List Nat)} {K : List (List Nat × List Nat) → St → Prop} {dst : Option Tmp} {d : Tmp} {ty t : TypeId} {x y z : Operand}
def litB (size : Nat) (v : AV0) (m : List CA) : Bool := Nat.beq m.length size && Nat.ble size 1000 && v.cells.all Atom.oneB
end
section
variable {P : Program} {C : Ctx} {st : St}
variable {ops rest : List Oper} {acc : List (List Nat × List Nat)} {K : List (List Nat × List Nat) → St → Prop} {dst : Option Tmp} {d : Tmp} {ty t e : TypeId} {x y : Operand} {k : IntKind} {i n size : Nat} {zi : Int}
class TArr (P : Program) (t : TypeId) (n : outParam Nat) (e : outParam TypeId) (size : outParam Nat) : Prop where
  h : P.underlying t = some (.array n e)
  s : (P.info? e).map (·.size) = some size
theorem closedL_ids {l : List Atom} {m : List CA} (h : closedL l = some m) : l.flatMap Atom.ids = [] := by
  rw [closedL_spec h]
  clear h
  induction m with
  | nil => rfl
  | cons a m ih => rw [List.map_cons, List.flatMap_cons, ih]; rfl
end
section
variable {P : Program} {C : Ctx} {st : St}
variable {ops rest : List Oper} {acc : List (List Nat × List Nat)} {K : List (List Nat × List Nat) → St → Prop} {dst : Option Tmp} {d : Tmp} {ty t : TypeId} {x y : Operand}
def junkR : Rep where
  has _ _ v := v.oneCell' = true
  one h := h
  step h _ _ := h
end
structure HeldP (q : Prop) : Prop where
  out : q
end SX
set_option linter.unusedVariables false
set_option linter.unusedSimpArgs false
namespace SX
open Go Go.RowKit
def mpL (σ : Atom → Atom) : List Atom → List Atom
  | [] => []
  | a :: l => σ a :: mpL σ l
def AV0.mp (σ : Atom → Atom) : AV0 → AV0
  | .one a => .one (σ a)
  | .agg l => .agg (mpL σ l)
def mpT (σ : Atom → Atom) : List AV0 → List AV0
  | [] => []
  | a :: l => a.mp σ :: mpT σ l
def AV.mp (σ : Atom → Atom) : AV → AV
  | .it x => .it (x.mp σ)
  | .tup l => .tup (mpT σ l)
def Ent.mp (σ : Atom → Atom) : Ent → Ent
  | .abs A => .abs A
  | .box t l => .box t (mpL σ l)
  | .row t s n l => .row t s n l
def Slot.mp (σ : Atom → Atom) : Slot → Slot
  | .ent e => .ent (e.mp σ)
  | .free => .free
  | .gone => .gone
def St.mp (st : St) (b : Nat) (σ : Atom → Atom) : St :=
  ⟨fun t => match st.tm t with | some v => some (v.mp σ) | none => none, upd (fun c => (st.hp c).mp σ) b .gone⟩
section
variable {σ : Atom → Atom}
theorem mpL_ids (hσ : ∀ a, ∀ i ∈ (σ a).ids, i ∈ a.ids) : ∀ (l : List Atom), ∀ i ∈ (mpL σ l).flatMap Atom.ids, i ∈ l.flatMap Atom.ids
  | [], i, hi => hi
  | a :: l, i, hi => by
    simp only [mpL, List.flatMap_cons, List.mem_append] at hi ⊢
    exact hi.imp (hσ a i) (mpL_ids hσ l i)
theorem AV0.mp_ids (hσ : ∀ a, ∀ i ∈ (σ a).ids, i ∈ a.ids) (x : AV0) : ∀ i ∈ (x.mp σ).ids, i ∈ x.ids := by
  cases x with
  | one a => exact hσ a
  | agg l => exact mpL_ids hσ l
theorem mpT_ids (hσ : ∀ a, ∀ i ∈ (σ a).ids, i ∈ a.ids) : ∀ (l : List AV0), ∀ i ∈ (mpT σ l).flatMap AV0.ids, i ∈ l.flatMap AV0.ids
  | [], i, hi => hi
  | a :: l, i, hi => by
    simp only [mpT, List.flatMap_cons, List.mem_append] at hi ⊢
    exact hi.imp (a.mp_ids hσ i) (mpT_ids hσ l i)
theorem AV.mp_ids (hσ : ∀ a, ∀ i ∈ (σ a).ids, i ∈ a.ids) (x : AV) : ∀ i ∈ (x.mp σ).ids, i ∈ x.ids := by
  cases x with
  | it a => exact a.mp_ids hσ
  | tup l => exact mpT_ids hσ l
theorem Ent.mp_ids (hσ : ∀ a, ∀ i ∈ (σ a).ids, i ∈ a.ids) (x : Ent) : ∀ i ∈ (x.mp σ).ids, i ∈ x.ids := by
  cases x with
  | abs A => intro i hi; cases hi
  | box t l => exact mpL_ids hσ l
  | row t s m l => exact fun i h => h
variable {E : Env} {S S' : Nat → Prop} {w : World}
theorem mpL_has (f : ∀ a v, Atom.has E S w a v → (σ a).has E S' w v) : ∀ {l : List Atom} {vs : List Value}, All2 (Atom.has E S w) l vs → All2 (Atom.has E S' w) (mpL σ l) vs
  | [], [], _ => trivial
  | a :: _, v :: _, h => ⟨f a v h.1, mpL_has f h.2⟩
  | [], _ :: _, h => h.elim
  | _ :: _, [], h => h.elim
theorem AV0.has.mp (f : ∀ a v, Atom.has E S w a v → (σ a).has E S' w v) {x : AV0} {v : Value} (h : x.has E S w v) : (x.mp σ).has E S' w v := by
  cases x with
  | one a => exact f a v h
  | agg l => obtain ⟨vs, h1, h2⟩ := h; exact ⟨vs, h1, mpL_has f h2⟩
theorem mpT_has (f : ∀ a v, Atom.has E S w a v → (σ a).has E S' w v) : ∀ {l : List AV0} {vs : List Value}, All2 (AV0.has E S w) l vs → All2 (AV0.has E S' w) (mpT σ l) vs
  | [], [], _ => trivial
  | _ :: _, _ :: _, h => ⟨AV0.has.mp f h.1, mpT_has f h.2⟩
  | [], _ :: _, h => h.elim
  | _ :: _, [], h => h.elim
theorem AV.has.mp (f : ∀ a v, Atom.has E S w a v → (σ a).has E S' w v) {x : AV} {v : Value} (h : x.has E S w v) : (x.mp σ).has E S' w v := by
  cases x with
  | it a => exact AV0.has.mp f h
  | tup l => obtain ⟨vs, h1, h2⟩ := h; exact ⟨vs, h1, mpT_has f h2⟩
theorem Ent.has.mp (f : ∀ a v, Atom.has E S w a v → (σ a).has E S' w v) (hsub : ∀ k, S' k → S k) {e : Ent} {c : Nat} (h : e.has E S w c) : (e.mp σ).has E S' w c := by
  cases e with
  | abs A => exact A.step h (Off.refl S w) (fun k hk => .inl (hsub k hk)) (fun _ _ => rfl)
  | box t l => obtain ⟨cs, h1, h2⟩ := h; exact ⟨cs, h1, mpL_has f h2⟩
  | row t s m l => obtain ⟨vs, h1, h2⟩ := h; exact ⟨vs, h1, h2.mono fun a v _ ha => ha.step (Off.refl S w) (fun k hk => .inl (hsub k hk))⟩
end
theorem St.le_mp {C : Ctx} {st : St} {b : Nat} {e : Ent} {σ : Atom → Atom} (hσi : ∀ a, ∀ i ∈ (σ a).ids, i ∈ a.ids) (hB : ∀ k, ¬ C.B k) (hb : st.hp b = .ent e)
    (hσ : ∀ E S w, e.has E S w b → (∀ k, e.at E b k → S k) → ∀ a v, Atom.has E S w a v → (σ a).has E (fun k => S k ∧ ¬ e.at E b k) w v) : St.le C st (st.mp b σ) := by
  intro a w ⟨E, S, hs⟩
  have f := hσ E S w (hs.hp b e hb) (fun k hk => (hs.blk b e k hb hk).1)
  have hkey : ∀ c e', (st.mp b σ).hp c = .ent e' → c ≠ b ∧ ∃ e0, st.hp c = .ent e0 ∧ e' = e0.mp σ := by
    intro c e' hc
    have hc' : upd (fun c => (st.hp c).mp σ) b .gone c = .ent e' := hc
    by_cases hcb : c = b
    · subst hcb; rw [upd_same] at hc'; cases hc'
    · rw [upd_ne _ _ hcb] at hc'
      refine ⟨hcb, ?_⟩
      cases h1 : st.hp c with
      | ent e0 => rw [h1] at hc'; simp only [Slot.mp] at hc'; cases hc'; exact ⟨e0, rfl, rfl⟩
      | free => rw [h1] at hc'; cases hc'
      | gone => rw [h1] at hc'; cases hc'
  have hused : ∀ c, (st.hp c).used = true → ((st.mp b σ).hp c).used = true := by
    intro c hc
    show (upd (fun c => (st.hp c).mp σ) b .gone c).used = true
    by_cases hcb : c = b
    · subst hcb; rw [upd_same]; rfl
    · rw [upd_ne _ _ hcb]
      cases h1 : st.hp c with
      | ent e0 => rfl
      | free => rw [h1] at hc; cases hc
      | gone => rfl
  have htm : ∀ t v, (st.mp b σ).tm t = some v → ∃ v0, st.tm t = some v0 ∧ v = v0.mp σ := by
    intro t v ht
    have ht' : (match st.tm t with | some v => some (v.mp σ) | none => none) = some v := ht
    cases h1 : st.tm t with
    | none => rw [h1] at ht'; cases ht'
    | some v0 => rw [h1] at ht'; cases ht'; exact ⟨v0, rfl, rfl⟩
  have hblk : ∀ (e0 : Ent) c, (e0.mp σ).at E c = e0.at E c := fun e0 c => by cases e0 <;> rfl
  refine ⟨E, fun k => S k ∧ ¬ e.at E b k, { dfr := hs.dfr, nt := hs.nt, cT := fun k hk => ⟨hs.cT k hk, fun h => ?_⟩, cT0 := hs.cT0, cS := fun k hk => hs.cS k hk.1, lt := fun k hk => hs.lt k hk.1, tm := fun t v ht => ?_, tid := fun t v ht i hi => ?_, hp := fun c e' hc => ?_, hid := fun c e' hc i hi => ?_, blk := fun c e' k hc hk => ?_, sep := fun c c' e1 e2 k hne hc hc' hk => ?_, off := hs.off, env := fun c hc => ?_, gl := hs.gl.sub fun k hk => hk.1 }⟩
  · have h1 := (hs.blk b e k hb h).2.resolve_left (hB k)
    have h2 := hs.cT0 k hk
    omega
  · obtain ⟨v0, h1, rfl⟩ := htm t v ht
    exact AV.has.mp f (hs.tm t v0 h1)
  · obtain ⟨v0, h1, rfl⟩ := htm t v ht
    exact hused i (hs.tid t v0 h1 i (v0.mp_ids hσi i hi))
  · obtain ⟨_, e0, h1, rfl⟩ := hkey c e' hc
    exact Ent.has.mp f (fun k hk => hk.1) (hs.hp c e0 h1)
  · obtain ⟨_, e0, h1, rfl⟩ := hkey c e' hc
    exact hused i (hs.hid c e0 h1 i (e0.mp_ids hσi i hi))
  · obtain ⟨hcb, e0, h1, rfl⟩ := hkey c e' hc
    rw [hblk] at hk
    have h2 := hs.blk c e0 k h1 hk
    exact ⟨⟨h2.1, fun h => hs.sep c b e0 e k hcb h1 hb hk h⟩, h2.2⟩
  · obtain ⟨_, e3, h1, rfl⟩ := hkey c e1 hc
    obtain ⟨_, e4, h2, rfl⟩ := hkey c' e2 hc'
    rw [hblk] at hk ⊢
    exact hs.sep c c' e3 e4 k hne h1 h2 hk
  · obtain ⟨g1, g2, g3⟩ := hs.env c hc
    exact ⟨g1, g2, hused c g3⟩
def bfz (b : Nat) (m : List CA) : Atom → Atom
  | .c a => .c a
  | .ptr k off => match Nat.beq k b with | true => .c (.sat (ptrR (m.drop off))) | false => .ptr k off
  | .own k => .own k
  | .rptr k off => .rptr k off
  | .clo f cap => .clo f cap
  | .bnd f k => .bnd f k
  | .rel k R => .rel k R
theorem bfz_ptr {b off : Nat} {m : List CA} : bfz b m (.ptr b off) = .c (.sat (ptrR (m.drop off))) := by
  simp only [bfz, Nat.beq_refl]
theorem bfz_ptr_ne {b k off : Nat} {m : List CA} (h : k ≠ b) : bfz b m (.ptr k off) = .ptr k off := by
  simp only [bfz, beq_ne h]
theorem bfz_ids (b : Nat) (m : List CA) (a : Atom) : ∀ i ∈ (bfz b m a).ids, i ∈ a.ids := by
  cases a with
  | ptr k off =>
    intro i hi
    by_cases hk : k = b
    · subst hk; rw [bfz_ptr] at hi; cases hi
    · rw [bfz_ptr_ne hk] at hi; exact hi
  | _ => exact fun i hi => hi
theorem St.le_bfz {C : Ctx} {st : St} {b : Nat} {t : TypeId} {cells : List Atom} {m : List CA} (hB : ∀ k, ¬ C.B k) (hb : st.hp b = .ent (.box t cells)) (hc : closedL cells = some m) : St.le C st (st.mp b (bfz b m)) :=
  St.le_mp (bfz_ids b m) hB hb fun E S w hh hS a v ha => by
    have hsub : ∀ k, (fun k => S k ∧ ¬ (Ent.box t cells).at E b k) k → S k := fun k hk => hk.1
    have keep : ∀ a : Atom, a.has E S w v → a.has E (fun k => S k ∧ ¬ (Ent.box t cells).at E b k) w v := fun a ha => ha.step (fun _ _ => ⟨rfl, rfl⟩) (Off.refl S w) (fun k hk => .inl (hsub k hk))
    cases a with
    | ptr k off =>
      by_cases hk : k = b
      · subst hk
        rw [bfz_ptr]
        obtain ⟨cs, h1, h2⟩ := hh
        rw [closedL_spec hc] at h2
        have h3 := all2_closed h2
        refine ptrR_iff.2 ⟨E.blk k, off, ha, fun i c hic => ?_⟩
        rw [List.getElem?_drop] at hic
        obtain ⟨u, hu, huc⟩ := h3.get hic
        have hcell := cells_of_block h1 0 (off + i) u (by simpa using hu)
        exact ⟨u, fun h => h.2 rfl, by simpa [Addr.add_lit] using hcell, huc.step (Off.refl S w) (fun k hk => .inl (hsub k hk))⟩
      · rw [bfz_ptr_ne hk]; exact keep _ ha
    | c a => exact keep _ ha
    | own k => exact keep _ ha
    | rptr k off => exact keep _ ha
    | clo f cap => exact keep _ ha
    | bnd f k => exact keep _ ha
    | rel k R => exact keep _ ha
theorem WP.freezeB {P : Program} {C : Ctx} {st : St} {Q : Exit → St → Prop} {c : Code} {t : TypeId} (b : Nat) {cells : List Atom} {m : List CA} (hB : ∀ k, ¬ C.B k) (hb : st.hp b = .ent (.box t cells)) (hc : closedL cells = some m) (h : WP P C c (st.mp b (bfz b m)) Q) : WP P C c st Q :=
  WP.weaken (St.le_bfz hB hb hc) h
def All2R (S : Nat → Prop) (w : World) : List CA → List Value → Prop := All2 (CA.has S w)
def cloR (f : FuncId) (bs cs : List CA) : Rep where
  has S w v := ∃ us vs : List Value, v = .func (.func f) us.toArray vs.toArray ∧ All2 (CA.has S w) bs us ∧ All2 (CA.has S w) cs vs
  one h := by obtain ⟨us, vs, rfl, _⟩ := h; rfl
  step h ho hs := by
    obtain ⟨us, vs, h1, h2, h3⟩ := h
    exact ⟨us, vs, h1, h2.mono fun a b _ h => h.step ho hs, h3.mono fun a b _ h => h.step ho hs⟩
def caAV (c : CA) : AV := .it (.one (.c c))
theorem caAV_has {E : Env} {S : Nat → Prop} {w : World} : ∀ {l : List CA} {vs : List Value}, All2 (CA.has S w) l vs → All2 (AV.has E S w) (l.map caAV) vs
  | [], [], _ => trivial
  | _ :: _, _ :: _, h => ⟨h.1, caAV_has h.2⟩
  | [], _ :: _, h => h.elim
  | _ :: _, [], h => h.elim
def FnV (P : Program) (x : CA) (args : List AV) (r : AV) : Prop :=
  ∀ S w v, x.has S w v → ∃ (f : FuncId) (us vs : List Value) (bs cs : List AV), v = .func (.func f) (List.toArray us) (List.toArray vs) ∧ (∀ E, All2 (AV.has E S w) bs us) ∧ (∀ E, All2 (AV.has E S w) cs vs) ∧ PureOK P f (bs ++ args ++ cs) r
theorem FnV.clo {P : Program} {f : FuncId} {bs cs : List CA} {args : List AV} {r : AV} (h : PureOK P f (bs.map caAV ++ args ++ cs.map caAV) r) : FnV P (.sat (cloR f bs cs)) args r := by
  rintro S w v ⟨us, vs, h1, h2, h3⟩
  exact ⟨f, us, vs, bs.map caAV, cs.map caAV, h1, fun E => caAV_has h2, fun E => caAV_has h3, h⟩
def cloA (f : FuncId) (m : List CA) : Rep where
  has S w v := ∃ us : List Value, v = .func (.func f) #[.agg us.toArray] #[] ∧ All2 (CA.has S w) m us
  one h := by obtain ⟨us, rfl, _⟩ := h; rfl
  step h ho hs := by
    obtain ⟨us, h1, h2⟩ := h
    exact ⟨us, h1, h2.mono fun a b _ h => h.step ho hs⟩
theorem has_caAV {E : Env} {S : Nat → Prop} {w : World} : ∀ {l : List CA} {vs : List Value}, All2 (AV.has E S w) (l.map caAV) vs → All2 (CA.has S w) l vs
  | [], [], _ => trivial
  | _ :: _, _ :: _, h => ⟨h.1, has_caAV h.2⟩
  | [], _ :: _, h => h.elim
  | _ :: _, [], h => h.elim
section
variable {P : Program} {C : Ctx} {st : St}
variable {ops rest : List Oper} {acc : List (List Nat × List Nat)} {K : List (List Nat × List Nat) → St → Prop} {dst : Option Tmp} {d : Tmp} {op : Op} {ty t t' : TypeId} {x y z : Operand}
def casOf : List AV → Option (List CA)
  | [] => some []
  | .it (.one (.c c)) :: l => match casOf l with | some m => some (c :: m) | none => none
  | _ :: _ => none
theorem casOf_spec : ∀ {l : List AV} {m : List CA}, casOf l = some m → l = m.map caAV
  | [], m, h => by simp [casOf] at h; subst h; rfl
  | v :: l, m, h => by
    unfold casOf at h
    split at h
    · rename_i heq; cases heq
    · rename_i c l' heq
      cases heq
      split at h
      · rename_i m' hm
        cases h
        rw [List.map_cons, casOf_spec hm]; rfl
      · cases h
    · cases h
theorem G.mkfn {f : FuncId} {bnd caps : Array Operand} {l l' : List AV} {bs cs : List CA} (next : Reg P C ops rest (st.app dst ⟨.r (cloR f bs cs), []⟩) (([], []) :: acc) K) (hd : dstOK dst C.nt = true := by rfl) (ha : evs st bnd.toList = some l := by rfl) (hc : casOf l = some bs := by rfl) (ha' : evs st caps.toList = some l' := by rfl) (hc' : casOf l' = some cs := by rfl) : Go1 P C ops dst (.makeFunc (.func f) bnd caps) ty rest st acc K :=
  Go1.pureV [] [] (by simp) hd (by simp) (fun o ho _ st' E S a w hev hs _ => by
    have hop : o.op.operands = bnd ++ caps := by rw [ho]; simp [Op.operands]
    have h1 : evs st' bnd.toList = some l := by rw [evs_congr (fun x hx => hev x (by rw [hop]; simp at hx ⊢; exact .inl hx))]; exact ha
    have h2 : evs st' caps.toList = some l' := by rw [evs_congr (fun x hx => hev x (by rw [hop]; simp at hx ⊢; exact .inr hx))]; exact ha'
    obtain ⟨g1, _⟩ := evs_has hs h1
    obtain ⟨g2, _⟩ := evs_has hs h2
    rw [casOf_spec hc] at g1
    rw [casOf_spec hc'] at g2
    refine ⟨fun i hi => (by cases hi), _, by unfold execOp; rw [ho]; simp [Instr.makeFunc]; rfl, bnd.toList.map a.eval, caps.toList.map a.eval, ?_, has_caAV g1, has_caAV g2⟩
    congr 1 <;> (apply Array.ext'; simp)) next
theorem run_enterF {o : Oper} {f : FuncId} {as : Array Operand} {tys : Array TypeId} {us vs : Array Value} {fx : Operand} {ρ : Operand → Value} (ho : o.op = .call ⟨.value fx, as, tys⟩) (hf : ρ fx = .func (.func f) us vs)
    (he : ∃ fn, P.funcs[f]? = some fn ∧ (fn.name == "runtime.NumGoroutine") = false ∧ fn.body.isNone = false) (w : World) : (execOp ρ o).run P w = .ok (.enter f (us ++ as.map ρ ++ vs)) w := by
  obtain ⟨fn, h1, h2, h3⟩ := he
  unfold execOp
  rw [ho]
  have h2' : fn.name ≠ "runtime.NumGoroutine" := by simpa using h2
  have h3' : fn.body ≠ none := by intro e; rw [e] at h3; cases h3
  simp [resolve, hf, Deferred.ofValue, invoke, callFunc, h1, h2', h3']
theorem G.callF {fx : Operand} {c : CA} {as : Array Operand} {tys : Array TypeId} {args : List AV} {r : AV} (next : Reg P C ops rest (st.app dst ⟨r, []⟩) (([], []) :: acc) K) (hd : dstOK dst C.nt = true := by rfl) (hf : st.ev fx = some (.it (.one (.c c))) := by rfl) (ha : evs st as.toList = some args := by rfl)
    (hc : FnV P c args r := by assumption) (hr : r.ids = [] := by rfl) : Go1 P C ops dst (.call ⟨.value fx, as, tys⟩) ty rest st acc K := by
  refine ⟨[], ⟨r, []⟩, fun o h2 h3 h4 => OpOK.eff [] [] (fun b hb => ?_) (h2 ▸ dstOK_spec hd) (fun b e hb => by cases hb) (fun b e hb => by cases hb) (fun b s hb => by cases hb) (fun b s hb => by cases hb) (fun st' E S a w hev hhp hs _ _ => ?_), next⟩
  · rcases hb with ⟨e, hb⟩ | ⟨e, hb⟩ | ⟨s, hb⟩ <;> cases hb
  · have hop : o.op.operands = #[fx] ++ as := by rw [h3]; rfl
    have ha' : evs st' as.toList = some args := by rw [evs_congr (fun x hx => hev x (by rw [hop]; simp at hx; simp [hx]))]; exact ha
    obtain ⟨hall, hids⟩ := evs_has hs ha'
    have hcl := (hs.ev ((hev fx (by rw [hop]; simp)).trans hf)).1
    obtain ⟨f, us, vs, bs, cs, hv, g1, g2, hent, hcall⟩ := hc S w _ hcl
    refine ⟨⟨fun i hi => (by rw [hr] at hi; cases hi), fun b e hb => by cases hb⟩, fun K Q hK => ?_⟩
    have hcalls := hcall E S w (us ++ as.toList.map a.eval ++ vs) hs.lt hs.gl (((g1 E).append hall).append (g2 E)) (fun b e hb => by cases hb) (fun b e k hb => by cases hb) (fun b b' e e' k _ hb => by cases hb)
    unfold Oper.wp
    rw [run_enterF h3 hv hent w]
    have harr : us.toArray ++ as.map a.eval ++ vs.toArray = (us ++ as.toList.map a.eval ++ vs).toArray := by
      apply Array.ext'; simp
    show Calls P f _ w _
    rw [harr]
    exact hcalls.mono fun e w' ⟨v, E', S', he, hE⟩ => by subst he; exact hK v w' E' S' hE
end
theorem FnV.const {P : Program} {f : FuncId} {args : List AV} {r : AV} (h : PureOK P f args r) : FnV P (.sat (cloR f [] [])) args r := FnV.clo (by simpa using h)
end SX

import Derived.Test.YtkdonndeogihfaaSxm
import Derived.Test.YtkdonndeogihfaaSxn
/- Rows of the call's own: append, parts, places, giving away. No program in sight. -/
set_option linter.unusedVariables false
set_option linter.unusedSimpArgs false
namespace SX
open Go Go.RowKit
section
variable {P : Program}
theorem all2_app {S : Nat → Prop} {w : World} {l l' : List CA} {m m' : List Value} (h : All2 (CA.has S w) l m) (h' : All2 (CA.has S w) l' m') : All2 (CA.has S w) (l ++ l') (m ++ m') := h.append h'
/-- What append does with a row and any slice. -/
theorem run_append_any (w : World) (t ty e : TypeId) (zs : List Value) (size bytes : Nat) (ht : P.underlying t = some (.slice e)) (he : TElem P e zs bytes) (hs : (P.info? e).map (·.size) = some size) (hzs : zs.length = size)
    (v : Value) (n : Nat) (xs : List Value) (hown : w.ownsRow 0 e size v n xs) {S : Nat → Prop} {u : Value} {m : Nat} {cells2 : List CA} (hu : (sliceR size m cells2).has S w u) (h1 : cells2.all CA.oneB = true)
    (h63 : n + m ≤ maxLen) (hbytes : (n + m) * bytes ≤ 140737488355328) :
    ∃ v' w' news, (Builtin.append_ #[t, t] ty #[v, u]).run P w = .ok v' w' ∧ w'.ownsRow 0 e size v' (n + m) (xs ++ news) ∧ w.grownBy w' v.ownBlock ∧ (∀ k, v'.ownBlock = some k → v.ownBlock = some k ∨ w.heap.size ≤ k) ∧ All2 (CA.has S w) cells2 news := by
  obtain ⟨i, z, hi, hz, hc, hsz, hby⟩ := elem_info he hs
  obtain ⟨oa, cap, rfl, hn, _, hnone, hlen, hall⟩ := sliceR_iff.1 hu
  have hz2 : z.cells.size = size := by rw [hc]; simpa using hzs
  cases oa with
  | none =>
    have h0 := hnone rfl
    subst h0
    have hm : m = 0 := by omega
    subst hm
    have hnil : cells2 = [] := List.eq_nil_of_length_eq_zero (by simpa using hlen)
    subst hnil
    have hrun := run_append_owned_none (P := P) (w := w) 0 t ty e i size ht hi v n xs hown
    exact ⟨v, w, [], hrun, by simpa using hown, ⟨rfl, rfl, rfl, Nat.le_refl _, fun _ _ _ => rfl⟩, fun k hk => .inl hk, trivial⟩
  | some a =>
    obtain ⟨news, hnews, hcell⟩ : ∃ us : List Value, All2 (CA.has S w) cells2 us ∧ ∀ j u, us[j]? = some u → w.cell? (a.add j) = some u := by
      by_cases h0 : cells2 = []
      · subst h0; exact ⟨[], trivial, by simp⟩
      · obtain ⟨c, hc0⟩ : ∃ c, cells2[0]? = some c := ⟨cells2[0]'(List.length_pos_iff.2 h0), by simp⟩
        obtain ⟨b, o, _, e1, hSb, _⟩ := hall 0 c hc0
        cases e1
        obtain ⟨us, h2, h3⟩ := ptr_vals (E := ⟨fun _ => 0, fun _ => undef⟩) (S := S) (w := w) (b := b) cells2 o (fun i c hc => by
          obtain ⟨b', o', u, e1, e2, e3, e4⟩ := hall i c hc
          cases e1
          exact ⟨u, e2, e3, e4⟩)
        exact ⟨us, all2_closed h2, h3⟩
    have hl : news.length = m * size := by rw [← hnews.length, hlen]
    obtain ⟨v', w', h2, h3, h4, h5⟩ := run_append_row (P := P) w t ty e i z size bytes ht hi hz hsz hby hz2 v n xs hown a m cap news hl hcell (ca_one hnews h1) h63 hbytes
    exact ⟨v', w', news, h2, h3, h4, h5, hnews⟩
end
section
variable {P : Program} {C : Ctx} {st : St}
variable {ops rest : List Oper} {acc : List (List Nat × List Nat)} {K : List (List Nat × List Nat) → St → Prop} {d : Tmp} {dst : Option Tmp} {op : Op} {ty t : TypeId} {x y : Operand}
class TWide (P : Program) (e : TypeId) (size : Nat) : Prop where
  h : ∃ zs bytes, TElem P e zs bytes ∧ zs.length = size
/-- append to a row of the call's own. -/
theorem Go1.append {e : TypeId} {b n m bytes size : Nat} {zs : List Value} {r : Rep} {cells cells2 : List CA} [ht : TSlice P t e size] [he : TElem P e zs bytes] [hr : AsSlice r size m cells2] (hd : dstOK (some d) C.nt = true) (hx : st.ev x = some (.own b)) (hy : st.ev y = some (.r r))
    (hb : st.hp b = .ent (.row e size n cells)) (hf : st.hp d = .free) (hz : Nat.beq zs.length size = true) (h1 : cells2.all CA.oneB = true) (h63 : n + m ≤ 9223372036854775807) (hbytes : (n + m) * bytes ≤ 140737488355328)
    (next : Reg P C ops rest (st.app (some d) ⟨.own d, [(b, .gone), (d, .ent (.row e size (n + m) (cells ++ cells2)))]⟩) (([b, d], [b, d]) :: acc) K) : Go1 P C ops (some d) (.call ⟨.builtin .append, #[x, y], #[t, t]⟩) ty rest st acc K := by
  have hbd : d ≠ b := by rintro rfl; rw [hf] at hb; cases hb
  refine ⟨[b, d], _, fun o h2 h3 h4 => OpOK.eff [] [(b, .row e size n cells)] (fun c hc => ?_) (h2 ▸ dstOK_spec hd) (fun c e hc => by cases hc) (fun c e hc => ?_) (fun c s hc => ?_) (fun c s hc => ?_) (fun st' E S a w hev hhp hs _ hpre => ?_), next⟩
  · rcases hc with ⟨e, hc⟩ | ⟨e, hc⟩ | ⟨s, hc⟩
    · cases hc
    · simp at hc; simp [hc.1]
    · simp at hc; rcases hc with hc | hc <;> simp [hc.1]
  · simp at hc; obtain ⟨rfl, rfl⟩ := hc; exact ⟨hb, _, List.mem_cons_self⟩
  · simp at hc; rcases hc with ⟨rfl, rfl⟩ | ⟨rfl, rfl⟩
    · exact .inl ⟨_, List.mem_cons_self⟩
    · exact .inr hf
  · simp at hc; rcases hc with ⟨rfl, rfl⟩ | ⟨rfl, rfl⟩ <;> rfl
  · obtain ⟨⟨hxv, _⟩, _⟩ := hs.ev ((hev x (by simp [h3, Op.operands, Call.operands])).trans hx)
    obtain ⟨hyv, _⟩ := hs.ev ((hev y (by simp [h3, Op.operands, Call.operands])).trans hy)
    have hbe := hpre b _ List.mem_cons_self
    obtain ⟨vs, hown, hvs⟩ := hs.hp b _ hbe
    obtain ⟨v', w', news, h5, h6, h7, h8, h9⟩ := run_append_any (P := P) w t o.type e zs size bytes ht.h he ht.s (Nat.eq_of_beq_eq_true hz) (E.sl b) n vs hown (hr.h _ _ _ hyv) h1 (by simp only [maxLen]; omega) hbytes
    refine ⟨⟨fun i hi => ?_, fun c e hc i hi => ?_⟩, fun K Q hK => ?_⟩
    · simp [AV.ids, AV0.ids, Atom.ids] at hi; subst hi; simp [updL, Slot.used]
    · simp at hc
      obtain ⟨rfl, rfl⟩ := hc
      cases hi
    · have hE := Eff.row (E := E) (S := S) (b := d) (pre := [(b, .row e size n cells)]) (gones := [(b, .gone)]) hs.lt
        (fun c e' k hc hk => by simp at hc; obtain ⟨rfl, rfl⟩ := hc; exact (hs.blk _ _ k hbe hk).1)
        (fun e' hc => by simp at hc; exact hbd hc.1)
        (fun c s hc => by simp at hc; obtain ⟨rfl, rfl⟩ := hc; exact ⟨rfl, _, List.mem_cons_self⟩)
        (off_grown h7 (fun k hk => ⟨b, _, List.mem_cons_self, hk⟩)) h6 (all2_app hvs h9)
        (fun k hk => (h8 k hk).imp (fun h => ⟨b, _, List.mem_cons_self, h⟩) id)
      unfold Oper.wp
      have hrun : (execOp a.eval o).run P w = .ok (.value v') w' := by
        unfold execOp; rw [h3]
        simp [resolve, invoke, builtin, hxv, h5]
      rw [hrun]
      exact hK _ _ _ _ hE
/-- append to nil. -/
theorem Go1.appendNil {e : TypeId} {m bytes size : Nat} {zs : List Value} {r : Rep} {cells2 : List CA} [ht : TSlice P t e size] [he : TElem P e zs bytes] [hr : AsSlice r size m cells2] (hd : dstOK (some d) C.nt = true) (hx : st.ev x = some (.v (.slice none 0 0))) (hy : st.ev y = some (.r r))
    (hf : st.hp d = .free) (hz : Nat.beq zs.length size = true) (h1 : cells2.all CA.oneB = true) (h63 : m ≤ 9223372036854775807) (hbytes : m * bytes ≤ 140737488355328)
    (next : Reg P C ops rest (st.app (some d) ⟨.own d, [(d, .ent (.row e size m cells2))]⟩) (([d], [d]) :: acc) K) : Go1 P C ops (some d) (.call ⟨.builtin .append, #[x, y], #[t, t]⟩) ty rest st acc K :=
  ⟨[d], ⟨.own d, [(d, .ent (.row e size m cells2))]⟩, fun o h2 h3 h4 => OpOK.newRow h2 hd hf [] (fun b e hb => by cases hb) (fun st' E S a w hev hs _ => by
    have hxv : a.eval x = .slice none 0 0 := (hs.ev ((hev x (by simp [h3, Op.operands, Call.operands])).trans hx)).1
    obtain ⟨hyv, _⟩ := hs.ev ((hev y (by simp [h3, Op.operands, Call.operands])).trans hy)
    obtain ⟨v', w', news, h5, h6, h7, h8, h9⟩ := run_append_any (P := P) w t o.type e zs size bytes ht.h he ht.s (Nat.eq_of_beq_eq_true hz) (.slice none 0 0) 0 [] (World.ownsRow_nil w 0 e size) (hr.h _ _ _ hyv) h1 (by simp only [maxLen]; omega) (by rw [Nat.zero_add]; exact hbytes)
    rw [Nat.zero_add, List.nil_append] at h6
    refine ⟨v', w', news, ?_, h6, off_grown h7 (fun k hk => by simp [Value.ownBlock] at hk), fun k hk => (h8 k hk).resolve_left (by simp [Value.ownBlock]), h9⟩
    unfold execOp; rw [h3]
    simp [resolve, invoke, builtin, hxv, h5]), next⟩
/-- len of a row of the call's own. -/
theorem Go1.lenO {e : TypeId} {b n size sz : Nat} {cells : List CA} [ht : TSlice P t e sz] (hd : dstOK dst C.nt = true) (hx : st.ev x = some (.own b)) (hb : st.hp b = .ent (.row e size n cells))
    (next : Reg P C ops rest (st.app dst ⟨.v (.int .i64 (n : Int)), []⟩) (([b], []) :: acc) K) : Go1 P C ops dst (.call ⟨.builtin .len, #[x], #[t]⟩) ty rest st acc K :=
  Go1.pureV [(b, .row e size n cells)] [b] (fun c e' hc => by simp at hc; simp [hc.1]) hd (fun c e' hc => by simp at hc; obtain ⟨rfl, rfl⟩ := hc; exact hb) (fun o ho _ st' E S a w hev hs hrd => by
    obtain ⟨⟨hxv, _⟩, _⟩ := hs.ev ((hev x (by simp [ho, Op.operands, Call.operands])).trans hx)
    obtain ⟨vs, hown, _⟩ := hs.hp b _ (hrd b _ List.mem_cons_self)
    refine ⟨fun i hi => (by cases hi), .int .i64 (n : Int), ?_, rfl⟩
    unfold execOp; rw [ho]
    rcases hown.2 with ⟨hv, rfl⟩ | ⟨g, cap, cur, hv, _⟩
    · simp [resolve, invoke, builtin, Builtin.len_, run_underlying ht.h, hxv, hv, goInt]
    · simp [resolve, invoke, builtin, Builtin.len_, run_underlying ht.h, hxv, hv, goInt]) next
end
end SX

import Derived.Test.YtaocklkbijkhpaaHf
import Derived.Test.YtaocklkbijkhpaaE3
/- Reference 28 in the symbolic run: its smallest functions. -/
set_option linter.unusedVariables false
set_option linter.unusedSimpArgs false
namespace Go.Proofs.Ytaocklkbijkhpaa
open Go.RowKit SX
/-- What a rule of the reference answers: a node and the place behind it; or a place. -/
abbrev gok (n : Nd) (a : Nat) : List Atom := [.c (.val (.int .i64 (n.op : Int))), .c (.val (str n.text)), .c (.sat (rowR 3 ndC n.kids)), .c (.val (.int .i64 (a : Int))), .c (.val (.bool true))]
abbrev gbad (p : Nat) : List Atom := [.c (.sat junkR), .c (.sat junkR), .c (.sat junkR), .c (.val (.int .i64 (p : Int))), .c (.val (.bool false))]
def g1 : Res → CA
  | .ok n _ => .val (.int .i64 (n.op : Int))
  | .bad _ _ _ _ _ => .sat junkR
def g2 : Res → CA
  | .ok n _ => .val (str n.text)
  | .bad _ _ _ _ _ => .sat junkR
def g3 : Res → CA
  | .ok n _ => .sat (rowR 3 ndC n.kids)
  | .bad _ _ _ _ _ => .sat junkR
def gpl : Res → Nat
  | .ok _ a => a
  | .bad _ p _ _ _ => p
def gb : Res → Bool
  | .ok _ _ => true
  | .bad _ _ _ _ _ => false
abbrev gat (r : Res) : List Atom := [.c (g1 r), .c (g2 r), .c (g3 r), .c (.val (.int .i64 (gpl r : Int))), .c (.val (.bool (gb r)))]
def RK (f : FuncId) (args : List AV) (r : Res) : Prop := PureOK Try.prog f args (.agg (gat r))
theorem RK.ok {f : FuncId} {args : List AV} {n : Nd} {a : Nat} (h : RK f args (.ok n a)) : PureOK Try.prog f args (.agg (gok n a)) := h
theorem RK.bad {f : FuncId} {args : List AV} {e p : Nat} {n : Nd} {a o : Nat} (h : RK f args (.bad e p n a o)) : PureOK Try.prog f args (.agg (gbad p)) := h
abbrev GZ : Ent := .box 64 [.c (.val (.int .i64 0)), .c (.val (.string ByteArray.empty)), .c (.val (.slice none 0 0)), .c (.val (.int .i64 0)), .c (.val (.bool false))]
/-- A rule's contract from a place on. -/
def ROK (f : FuncId) (l : List Tok) (m : Nat) (g : Gr) : Prop := ∀ a o, m ≤ a → a ≤ l.length → o + (l.length - a) ≤ 600 → RK f [.r (rowR 3 tokC l), .v (.int .i64 (a : Int))] (g a o)
theorem imp_bad {a b c : Atom} {z : Int} {p : Nat} (ha : a.oneB = true) (hb : b.oneB = true) (hc : c.oneB = true) (h : z = (p : Int)) : AV0.imp (.agg [a, b, c, .c (.val (.int .i64 z)), .c (.val (.bool false))]) (.agg (gbad p)) := fun E S w v hv => by
  obtain ⟨vs, rfl, hall⟩ := hv
  subst h
  match vs, hall with
  | [v1, v2, v3, v4, v5], ⟨h1, h2, h3, h4, h5, _⟩ => exact ⟨[v1, v2, v3, v4, v5], rfl, junk_of h1 ha, junk_of h2 hb, junk_of h3 hc, h4, h5, trivial⟩
theorem imp_ok0 {o : Nat} {z za : Int} {s s' : List UInt8} {a : Nat} (h : z = (o : Int)) (hs : s = s') (ha : za = (a : Int)) : AV0.imp (.agg [.c (.val (.int .i64 z)), .c (.val (str s)), .c (.val (.slice none 0 0)), .c (.val (.int .i64 za)), .c (.val (.bool true))]) (.agg (gok (.mk o s' []) a)) := fun E S w v hv => by
  obtain ⟨vs, rfl, hall⟩ := hv
  subst h hs ha
  match vs, hall with
  | [v1, v2, v3, v4, v5], ⟨h1, h2, h3, h4, h5, _⟩ => exact ⟨[v1, v2, v3, v4, v5], rfl, h1, h2, imp_nil (size := 3) E S w v3 h3, h4, h5, trivial⟩
theorem imp_okk {o : Nat} {z za : Int} {s s' : List UInt8} {a n : Nat} {cells : List CA} {ks : List Nd} (h : z = (o : Int)) (hs : s = s') (ha : za = (a : Int)) (hn : n = ks.length) (hc : cells = ks.flatMap ndC) : AV0.imp (.agg [.c (.val (.int .i64 z)), .c (.val (str s)), .c (.sat (sliceR 3 n cells)), .c (.val (.int .i64 za)), .c (.val (.bool true))]) (.agg (gok (.mk o s' ks) a)) := by
  subst h hs hn hc ha; exact AV0.imp.refl _
theorem retG {P : Program} {C : Ctx} {st : St} {r : ResultVar} {x y : AV0} (h : ResOK P st r x) (e : x.imp y) : RetF C P [r] ⟨.it y, []⟩ st := retP (xs := [y]) (l := []) ⟨h.imp e, trivial⟩ trivial
attribute [local irreducible] IntKind.wrap Go1 Reg WP thenK inBlk retQ retF RetF RetOK ResOK CallOK OpOK Sat
instance con_ris (l : List Tok) (a : Nat) (s : List UInt8) : Con Try.prog 55 [.r (rowR 3 tokC l), .v (.int .i64 (a : Int)), .v (str s)] True (.v (.bool (isS l a s))) := ⟨fun _ => by
  by_cases h : a < l.length
  · obtain ⟨t, ht⟩ : ∃ t, l[a]? = some t := ⟨_, List.getElem?_eq_getElem h⟩
    have hv : isS l a s = (!decide (t.kind = 1) && decide (t.text = s)) := by unfold isS; rw [ht]
    rw [hv]
    by_cases hk : t.kind = 1
    · refine PureOK.fnF Try.func55 Try.results55 Try.ntmps55 rfl rfl rfl (by simp [AV.ids, AV0.ids, Atom.ids]) rfl (fun w0 T B E0 hB => ?_)
      refine SX.goP ?_
      refine retB ?_
      simp [hk]
    · refine PureOK.fnF Try.func55 Try.results55 Try.ntmps55 rfl rfl rfl (by simp [AV.ids, AV0.ids, Atom.ids]) rfl (fun w0 T B E0 hB => ?_)
      refine SX.goP ?_
      refine retB ?_
      simp [hk]
  · have hv : isS l a s = false := by unfold isS; rw [List.getElem?_eq_none (by omega)]
    rw [hv]
    refine PureOK.fnF Try.func55 Try.results55 Try.ntmps55 rfl rfl rfl (by simp [AV.ids, AV0.ids, Atom.ids]) rfl (fun w0 T B E0 hB => ?_)
    refine SX.goP ?_
    exact retB rfl⟩
instance con_rnamed (l : List Tok) (a : Nat) : Con Try.prog 58 [.r (rowR 3 tokC l), .v (.int .i64 (a : Int))] True (.v (.bool (isNm l a))) := ⟨fun _ => by
  by_cases h : a < l.length
  · obtain ⟨t, ht⟩ : ∃ t, l[a]? = some t := ⟨_, List.getElem?_eq_getElem h⟩
    have hv : isNm l a = (decide (t.kind = 2) && !ownB t.text) := by unfold isNm; rw [ht]
    rw [hv]
    by_cases hk : t.kind = 2
    · refine PureOK.fnF Try.func58 Try.results58 Try.ntmps58 rfl rfl rfl (by simp [AV.ids, AV0.ids, Atom.ids]) rfl (fun w0 T B E0 hB => ?_)
      repeat' (first | refine SX.goP ?_ | refine SX.W.ite (fun h => ?_) (fun h => ?_) | refine SX.W.iteN (fun h => ?_) (fun h => ?_) | refine SX.W.iteB (fun h => ?_) (fun h => ?_) | refine SX.R.ite (fun h => ?_) (fun h => ?_) | refine SX.R.iteN (fun h => ?_) (fun h => ?_) | refine SX.R.iteB (fun h => ?_) (fun h => ?_))
      all_goals (refine retB ?_; simp [hk, ownB, *])
    · refine PureOK.fnF Try.func58 Try.results58 Try.ntmps58 rfl rfl rfl (by simp [AV.ids, AV0.ids, Atom.ids]) rfl (fun w0 T B E0 hB => ?_)
      refine SX.goP ?_
      refine retB ?_
      simp [hk]
  · have hv : isNm l a = false := by unfold isNm; rw [List.getElem?_eq_none (by omega)]
    rw [hv]
    refine PureOK.fnF Try.func58 Try.results58 Try.ntmps58 rfl rfl rfl (by simp [AV.ids, AV0.ids, Atom.ids]) rfl (fun w0 T B E0 hB => ?_)
    refine SX.goP ?_
    exact retB rfl⟩
instance con_rnone (a : Nat) : Con Try.prog 73 [.v (.int .i64 (a : Int))] True (.agg (gbad a)) := ⟨fun _ => by
  refine PureOK.fnF Try.func73 Try.results73 Try.ntmps73 rfl rfl rfl (by simp [AV.ids, AV0.ids, Atom.ids]) rfl (fun w0 T B E0 hB => ?_)
  refine SX.goP ?_
  exact retG (ResOK.agg5 rfl rfl rfl) (imp_bad rfl rfl rfl rfl)⟩
theorem c_thenT {l : List Tok} {a : Nat} (n : Nd) {s : List UInt8} (hl : l.length ≤ 1000000) (h : isS l a s = true) : PureOK Try.prog 59 [.r (rowR 3 tokC l), .agg (gok n a), .v (str s)] (.agg (gok n (a + 1))) := by
  have hlt := isS_lt h
  have c : PureOK Try.prog 55 [.r (rowR 3 tokC l), .v (.int .i64 (a : Int)), .v (str s)] (.v (.bool true)) := by rw [← h]; exact Con.use trivial
  refine PureOK.fnF Try.func59 Try.results59 Try.ntmps59 rfl rfl rfl (by simp [AV.ids, AV0.ids, Atom.ids]) rfl (fun w0 T B E0 hB => ?_)
  refine SX.goP ?_
  exact retG (ResOK.agg5 rfl rfl rfl) (AV0.imp.refl _)
theorem c_thenF {l : List Tok} {a : Nat} (n : Nd) {s : List UInt8} (h : isS l a s = false) : PureOK Try.prog 59 [.r (rowR 3 tokC l), .agg (gok n a), .v (str s)] (.agg (gbad a)) := by
  have c : PureOK Try.prog 55 [.r (rowR 3 tokC l), .v (.int .i64 (a : Int)), .v (str s)] (.v (.bool false)) := by rw [← h]; exact Con.use trivial
  have c2 : PureOK Try.prog 73 [.v (.int .i64 (a : Int))] (.agg (gbad a)) := Con.use trivial
  refine PureOK.fnF Try.func59 Try.results59 Try.ntmps59 rfl rfl rfl (by simp [AV.ids, AV0.ids, Atom.ids]) rfl (fun w0 T B E0 hB => ?_)
  refine SX.goP ?_
  exact retG (ResOK.agg5 rfl rfl rfl) (AV0.imp.refl _)
theorem c_thenB (l : List Tok) (p : Nat) (s : List UInt8) : PureOK Try.prog 59 [.r (rowR 3 tokC l), .agg (gbad p), .v (str s)] (.agg (gbad p)) := by
  have c2 : PureOK Try.prog 73 [.v (.int .i64 (p : Int))] (.agg (gbad p)) := Con.use trivial
  refine PureOK.fnF Try.func59 Try.results59 Try.ntmps59 rfl rfl rfl (by simp [AV.ids, AV0.ids, Atom.ids]) rfl (fun w0 T B E0 hB => ?_)
  refine SX.goP ?_
  exact retG (ResOK.agg5 rfl rfl rfl) (AV0.imp.refl _)
end Go.Proofs.Ytaocklkbijkhpaa

import Derived.Test.YtaocklkbijkhpaaE2
import Derived.Test.YtaocklkbijkhpaaSxp
/- Package parser in the symbolic run: its smallest functions. -/
set_option linter.unusedVariables false
set_option linter.unusedSimpArgs false
namespace Go.Proofs.Ytaocklkbijkhpaa
open Go.RowKit SX
/-- A node of a program. -/
inductive Nd where
  | mk (op : Nat) (text : List UInt8) (kids : List Nd)
def Nd.op : Nd → Nat | .mk o _ _ => o
def Nd.text : Nd → List UInt8 | .mk _ t _ => t
def Nd.kids : Nd → List Nd | .mk _ _ k => k
mutual
def ndC : Nd → List CA
  | .mk o t ks => [.val (.int .i64 (o : Int)), .val (str t), .sat (sliceR 3 ks.length (ndL ks))]
def ndL : List Nd → List CA
  | [] => []
  | k :: ks => ndC k ++ ndL ks
end
theorem ndL_eq : ∀ ks : List Nd, ndL ks = ks.flatMap ndC
  | [] => by rw [ndL]; rfl
  | k :: ks => by rw [ndL, ndL_eq ks, List.flatMap_cons]
theorem ndC_eq (o : Nat) (t : List UInt8) (ks : List Nd) : ndC (.mk o t ks) = [.val (.int .i64 (o : Int)), .val (str t), .sat (rowR 3 ndC ks)] := by
  rw [ndC, ndL_eq]
theorem ndC_eq' (n : Nd) : ndC n = [.val (.int .i64 (n.op : Int)), .val (str n.text), .sat (rowR 3 ndC n.kids)] := by
  cases n; exact ndC_eq _ _ _
instance : EncLen ndC 3 := ⟨fun n => by rw [ndC_eq']; rfl⟩
instance : EncOne ndC := ⟨fun n => by rw [ndC_eq']; rfl⟩
/-- A node's cells, a text's own words. -/
abbrev ndA (n : Nd) : List Atom := [.c (.val (.int .i64 (n.op : Int))), .c (.val (str n.text)), .c (.sat (rowR 3 ndC n.kids))]
/-- The parser. -/
abbrev PB (l : List Tok) (a o : Nat) (bad : Nat) (has : Bool) (to : Nat) : Ent := .box 61 [.c (.sat (rowR 3 tokC l)), .c (.val (.int .i64 (a : Int))), .c (.val (.int .i64 (o : Int))), .c (.val (.int .i64 (bad : Int))), .c (.val (.bool has)), .c (.val (.int .i64 (to : Int)))]
def ownB (s : List UInt8) : Bool := decide (s = [105, 102]) || decide (s = [101, 108, 115, 101]) || decide (s = [102, 111, 114])
/-- Does a sign stand there? -/
def isS (l : List Tok) (a : Nat) (s : List UInt8) : Bool := match l[a]? with
  | some t => !decide (t.kind = 1) && decide (t.text = s)
  | none => false
def isNm (l : List Tok) (a : Nat) : Bool := match l[a]? with
  | some t => decide (t.kind = 2) && !ownB t.text
  | none => false
attribute [local irreducible] IntKind.wrap Go1 Reg WP thenK inBlk retQ retF RetF RetOK ResOK CallOK OpOK Sat
theorem con_own (s : List UInt8) : PureOK Try.prog 71 [.v (str s)] (.v (.bool (ownB s))) := by
  refine PureOK.fnF Try.func71 Try.results71 Try.ntmps71 rfl rfl rfl (by simp [AV.ids, AV0.ids, Atom.ids]) rfl (fun w0 T B E0 hB => ?_)
  repeat' (first | refine SX.goP ?_ | refine SX.W.ite (fun h => ?_) (fun h => ?_) | refine SX.W.iteN (fun h => ?_) (fun h => ?_) | refine SX.W.iteB (fun h => ?_) (fun h => ?_) | refine SX.R.ite (fun h => ?_) (fun h => ?_) | refine SX.R.iteN (fun h => ?_) (fun h => ?_) | refine SX.R.iteB (fun h => ?_) (fun h => ?_))
  all_goals (refine retB ?_; simp [ownB, *])
/-- The parser in its course; behind an error. -/
abbrev PG (l : List Tok) (a o : Nat) : Ent := PB l a o 0 false 0
abbrev PE (l : List Tok) (a o e p : Nat) : Ent := PB l a o e true p
abbrev nd0 : Nd := .mk 0 [] []
theorem imp_nd {o : Nat} {z : Int} {s s' : List UInt8} (h : z = (o : Int)) (hs : s = s') : AV0.imp (.agg [.c (.val (.int .i64 z)), .c (.val (str s)), .c (.val (.slice none 0 0))]) (.agg (ndA (.mk o s' []))) := fun E S w v hv => by
  obtain ⟨vs, rfl, hall⟩ := hv
  subst h hs
  match vs, hall with
  | [a, b, c], ⟨h1, h2, h3, _⟩ => exact ⟨[a, b, c], rfl, h1, h2, imp_nil (size := 3) E S w c h3, trivial⟩
theorem imp_ndk {o : Nat} {z : Int} {s s' : List UInt8} {n : Nat} {cells : List CA} {ks : List Nd} (h : z = (o : Int)) (hs : s = s') (hn : n = ks.length) (hc : cells = ks.flatMap ndC) : AV0.imp (.agg [.c (.val (.int .i64 z)), .c (.val (str s)), .c (.sat (sliceR 3 n cells))]) (.agg (ndA (.mk o s' ks))) := by
  subst h hs hn hc; exact AV0.imp.refl _
theorem retNd {P : Program} {C : Ctx} {st : St} {r : ResultVar} {x y : AV0} {l : List (Nat × Slot)} (h : ResOK P st r x) (e : x.imp y) (hh : HpIs st l) : RetF C P [r] ⟨.it y, l⟩ st := retP (xs := [y]) ⟨h.imp e, trivial⟩ hh
abbrev X29 (e : Ent) : List (Nat × Ent) := [(29, e)]
abbrev Y29 (e : Ent) : List (Nat × Slot) := [(29, .ent e)]
theorem c_failG (l : List Tok) (a o e p : Nat) : CallOK Try.prog 82 [.ptr 29 0, .v (.int .i64 (e : Int)), .v (.int .i64 (p : Int))] [(29, PG l a o)] ⟨.agg (ndA nd0), [(29, .ent (PE l a o e p))]⟩ := by
  refine CallOK.fnF Try.func82 Try.results82 Try.ntmps82 rfl rfl rfl rfl (fun w0 T B E0 hB => ?_)
  refine SX.goP ?_
  exact retNd (ResOK.agg3 rfl rfl rfl) (imp_nd rfl rfl) ⟨rfl, trivial⟩
theorem c_failE (l : List Tok) (a o e p e' p' : Nat) : CallOK Try.prog 82 [.ptr 29 0, .v (.int .i64 (e' : Int)), .v (.int .i64 (p' : Int))] [(29, PE l a o e p)] ⟨.agg (ndA nd0), [(29, .ent (PE l a o e p))]⟩ := by
  refine CallOK.fnF Try.func82 Try.results82 Try.ntmps82 rfl rfl rfl rfl (fun w0 T B E0 hB => ?_)
  refine SX.goP ?_
  exact retNd (ResOK.agg3 rfl rfl rfl) (imp_nd rfl rfl) ⟨rfl, trivial⟩
theorem c_wrongG (l : List Tok) (a o : Nat) : CallOK Try.prog 70 [.ptr 29 0] [(29, PG l a o)] ⟨.agg (ndA nd0), [(29, .ent (PE l a o 4 a))]⟩ := by
  have c := c_failG l a o 4 a
  refine CallOK.fnF Try.func70 Try.results70 Try.ntmps70 rfl rfl rfl rfl (fun w0 T B E0 hB => ?_)
  refine SX.goP ?_
  exact retNd (ResOK.agg3 rfl rfl rfl) (AV0.imp.refl _) ⟨rfl, trivial⟩
theorem c_wrongE (l : List Tok) (a o e p : Nat) : CallOK Try.prog 70 [.ptr 29 0] [(29, PE l a o e p)] ⟨.agg (ndA nd0), [(29, .ent (PE l a o e p))]⟩ := by
  have c := c_failE l a o e p 4 a
  refine CallOK.fnF Try.func70 Try.results70 Try.ntmps70 rfl rfl rfl rfl (fun w0 T B E0 hB => ?_)
  refine SX.goP ?_
  exact retNd (ResOK.agg3 rfl rfl rfl) (AV0.imp.refl _) ⟨rfl, trivial⟩
theorem retBP {P : Program} {C : Ctx} {st : St} {t : Tmp} {b b' : Bool} {l : List (Nat × Slot)} (e : b = b') (hh : HpIs st l) (h : st.tm t = some (.v (.bool b)) := by rfl) : RetF C P [.tmp t] ⟨.v (.bool b'), l⟩ st := retP (xs := [.one (.c (.val (.bool b')))]) ⟨by rw [← e]; exact ResOK.tmp h, trivial⟩ hh
theorem retSP {P : Program} {C : Ctx} {st : St} {t : Tmp} {b b' : List UInt8} {l : List (Nat × Slot)} (e : b = b') (hh : HpIs st l) (h : st.tm t = some (.v (str b)) := by rfl) : RetF C P [.tmp t] ⟨.v (str b'), l⟩ st := retP (xs := [.one (.c (.val (str b')))]) ⟨by rw [← e]; exact ResOK.tmp h, trivial⟩ hh
theorem retUP {P : Program} {C : Ctx} {st : St} {l : List (Nat × Slot)} (hh : HpIs st l) : RetF C P [] ⟨.tup [], l⟩ st := retP (xs := []) trivial hh
theorem c_isG (l : List Tok) (a o : Nat) (s : List UInt8) : CallOK Try.prog 66 [.ptr 29 0, .v (str s)] [(29, PG l a o)] ⟨.v (.bool (isS l a s)), [(29, .ent (PG l a o))]⟩ := by
  by_cases h : a < l.length
  · obtain ⟨⟨tk, tt, tp⟩, ht⟩ : ∃ t, l[a]? = some t := ⟨_, List.getElem?_eq_getElem h⟩
    have hv : isS l a s = (!decide (tk = 1) && decide (tt = s)) := by unfold isS; rw [ht]
    rw [hv]
    by_cases hk : tk = 1
    · subst hk
      have e1 : decide ((1 : Int) ≠ 1) = false := by decide
      refine CallOK.fnF Try.func66 Try.results66 Try.ntmps66 rfl rfl rfl rfl (fun w0 T B E0 hB => ?_)
      refine SX.goP ?_
      exact retBP rfl ⟨rfl, trivial⟩
    · refine CallOK.fnF Try.func66 Try.results66 Try.ntmps66 rfl rfl rfl rfl (fun w0 T B E0 hB => ?_)
      refine SX.goP ?_
      (refine retBP ?_ ⟨rfl, trivial⟩; simp [hk])
  · have hv : isS l a s = false := by unfold isS; rw [List.getElem?_eq_none (by omega)]
    rw [hv]
    refine CallOK.fnF Try.func66 Try.results66 Try.ntmps66 rfl rfl rfl rfl (fun w0 T B E0 hB => ?_)
    refine SX.goP ?_
    exact retBP rfl ⟨rfl, trivial⟩
theorem c_isE (l : List Tok) (a o e p : Nat) (s : List UInt8) : CallOK Try.prog 66 [.ptr 29 0, .v (str s)] [(29, PE l a o e p)] ⟨.v (.bool false), [(29, .ent (PE l a o e p))]⟩ := by
  refine CallOK.fnF Try.func66 Try.results66 Try.ntmps66 rfl rfl rfl rfl (fun w0 T B E0 hB => ?_)
  refine SX.goP ?_
  exact retBP rfl ⟨rfl, trivial⟩
theorem isS_lt {l : List Tok} {a : Nat} {s : List UInt8} (h : isS l a s = true) : a < l.length := by
  refine Nat.lt_of_not_le fun hn => ?_
  unfold isS at h; rw [List.getElem?_eq_none hn] at h; cases h
theorem c_takeT {l : List Tok} {a : Nat} (o : Nat) {s : List UInt8} (hl : l.length ≤ 1000000) (h : isS l a s = true) : CallOK Try.prog 49 [.ptr 29 0, .v (str s)] [(29, PG l a o)] ⟨.v (.bool true), [(29, .ent (PG l (a + 1) o))]⟩ := by
  have hlt := isS_lt h
  have c := c_isG l a o s
  rw [h] at c
  refine CallOK.fnF Try.func49 Try.results49 Try.ntmps49 rfl rfl rfl rfl (fun w0 T B E0 hB => ?_)
  refine SX.goP ?_
  exact retBP rfl ⟨rfl, trivial⟩
theorem c_takeF {l : List Tok} {a : Nat} (o : Nat) {s : List UInt8} (h : isS l a s = false) : CallOK Try.prog 49 [.ptr 29 0, .v (str s)] [(29, PG l a o)] ⟨.v (.bool false), [(29, .ent (PG l a o))]⟩ := by
  have c := c_isG l a o s
  rw [h] at c
  refine CallOK.fnF Try.func49 Try.results49 Try.ntmps49 rfl rfl rfl rfl (fun w0 T B E0 hB => ?_)
  refine SX.goP ?_
  exact retBP rfl ⟨rfl, trivial⟩
theorem c_takeE (l : List Tok) (a o e p : Nat) (s : List UInt8) : CallOK Try.prog 49 [.ptr 29 0, .v (str s)] [(29, PE l a o e p)] ⟨.v (.bool false), [(29, .ent (PE l a o e p))]⟩ := by
  have c := c_isE l a o e p s
  refine CallOK.fnF Try.func49 Try.results49 Try.ntmps49 rfl rfl rfl rfl (fun w0 T B E0 hB => ?_)
  refine SX.goP ?_
  exact retBP rfl ⟨rfl, trivial⟩
theorem c_mustT {l : List Tok} {a : Nat} (o : Nat) {s : List UInt8} (hl : l.length ≤ 1000000) (h : isS l a s = true) : CallOK Try.prog 53 [.ptr 29 0, .v (str s)] [(29, PG l a o)] ⟨.tup [], [(29, .ent (PG l (a + 1) o))]⟩ := by
  have c := c_takeT o hl h
  refine CallOK.fnF Try.func53 Try.results53 Try.ntmps53 rfl rfl rfl rfl (fun w0 T B E0 hB => ?_)
  refine SX.goP ?_
  exact retUP ⟨rfl, trivial⟩
theorem c_mustF {l : List Tok} {a : Nat} (o : Nat) {s : List UInt8} (h : isS l a s = false) : CallOK Try.prog 53 [.ptr 29 0, .v (str s)] [(29, PG l a o)] ⟨.tup [], [(29, .ent (PE l a o 4 a))]⟩ := by
  have c := c_takeF o h
  have c2 := c_wrongG l a o
  refine CallOK.fnF Try.func53 Try.results53 Try.ntmps53 rfl rfl rfl rfl (fun w0 T B E0 hB => ?_)
  refine SX.goP ?_
  exact retUP ⟨rfl, trivial⟩
theorem c_mustE (l : List Tok) (a o e p : Nat) (s : List UInt8) : CallOK Try.prog 53 [.ptr 29 0, .v (str s)] [(29, PE l a o e p)] ⟨.tup [], [(29, .ent (PE l a o e p))]⟩ := by
  have c := c_takeE l a o e p s
  have c2 := c_wrongE l a o e p
  refine CallOK.fnF Try.func53 Try.results53 Try.ntmps53 rfl rfl rfl rfl (fun w0 T B E0 hB => ?_)
  refine SX.goP ?_
  exact retUP ⟨rfl, trivial⟩
theorem c_enterT (l : List Tok) (a : Nat) {o : Nat} (h : o + 1 ≤ 600) : CallOK Try.prog 81 [.ptr 29 0] [(29, PG l a o)] ⟨.v (.bool true), [(29, .ent (PG l a (o + 1)))]⟩ := by
  refine CallOK.fnF Try.func81 Try.results81 Try.ntmps81 rfl rfl rfl rfl (fun w0 T B E0 hB => ?_)
  refine SX.goP ?_
  exact retBP rfl ⟨rfl, trivial⟩
theorem c_enterF (l : List Tok) (a : Nat) {o : Nat} (h : 600 < o + 1) (ho : o ≤ 1000000) : CallOK Try.prog 81 [.ptr 29 0] [(29, PG l a o)] ⟨.v (.bool false), [(29, .ent (PE l a (o + 1) 8 0))]⟩ := by
  have c := c_failG l a (o + 1) 8 0
  refine CallOK.fnF Try.func81 Try.results81 Try.ntmps81 rfl rfl rfl rfl (fun w0 T B E0 hB => ?_)
  refine SX.goP ?_
  exact retBP rfl ⟨rfl, trivial⟩
theorem c_enterE (l : List Tok) (a : Nat) {o : Nat} (e p : Nat) (ho : o ≤ 1000000) : CallOK Try.prog 81 [.ptr 29 0] [(29, PE l a o e p)] ⟨.v (.bool false), [(29, .ent (PE l a (o + 1) e p))]⟩ := by
  have c := c_failE l a (o + 1) e p 8 0
  by_cases h : 600 < o + 1
  · refine CallOK.fnF Try.func81 Try.results81 Try.ntmps81 rfl rfl rfl rfl (fun w0 T B E0 hB => ?_)
    refine SX.goP ?_
    exact retBP rfl ⟨rfl, trivial⟩
  · refine CallOK.fnF Try.func81 Try.results81 Try.ntmps81 rfl rfl rfl rfl (fun w0 T B E0 hB => ?_)
    refine SX.goP ?_
    exact retBP rfl ⟨rfl, trivial⟩
theorem c_namedG (l : List Tok) (a o : Nat) : CallOK Try.prog 54 [.ptr 29 0] [(29, PG l a o)] ⟨.v (.bool (isNm l a)), [(29, .ent (PG l a o))]⟩ := by
  by_cases h : a < l.length
  · obtain ⟨⟨tk, tt, tp⟩, ht⟩ : ∃ t, l[a]? = some t := ⟨_, List.getElem?_eq_getElem h⟩
    have hv : isNm l a = (decide (tk = 2) && !ownB tt) := by unfold isNm; rw [ht]
    rw [hv]
    have cO := con_own tt
    by_cases hk : tk = 2
    · refine CallOK.fnF Try.func54 Try.results54 Try.ntmps54 rfl rfl rfl rfl (fun w0 T B E0 hB => ?_)
      refine SX.goP ?_
      (refine retBP ?_ ⟨rfl, trivial⟩; simp [hk])
    · refine CallOK.fnF Try.func54 Try.results54 Try.ntmps54 rfl rfl rfl rfl (fun w0 T B E0 hB => ?_)
      refine SX.goP ?_
      (refine retBP ?_ ⟨rfl, trivial⟩; simp [hk])
  · have hv : isNm l a = false := by unfold isNm; rw [List.getElem?_eq_none (by omega)]
    rw [hv]
    refine CallOK.fnF Try.func54 Try.results54 Try.ntmps54 rfl rfl rfl rfl (fun w0 T B E0 hB => ?_)
    refine SX.goP ?_
    exact retBP rfl ⟨rfl, trivial⟩
theorem c_namedE (l : List Tok) (a o e p : Nat) : CallOK Try.prog 54 [.ptr 29 0] [(29, PE l a o e p)] ⟨.v (.bool false), [(29, .ent (PE l a o e p))]⟩ := by
  refine CallOK.fnF Try.func54 Try.results54 Try.ntmps54 rfl rfl rfl rfl (fun w0 T B E0 hB => ?_)
  refine SX.goP ?_
  exact retBP rfl ⟨rfl, trivial⟩
theorem isNm_lt {l : List Tok} {a : Nat} (h : isNm l a = true) : a < l.length := by
  refine Nat.lt_of_not_le fun hn => ?_
  unfold isNm at h; rw [List.getElem?_eq_none hn] at h; cases h
def txt (l : List Tok) (a : Nat) : List UInt8 := match l[a]? with
  | some t => t.text
  | none => []
theorem c_nameT {l : List Tok} {a : Nat} (o : Nat) (hl : l.length ≤ 1000000) (h : isNm l a = true) : CallOK Try.prog 52 [.ptr 29 0] [(29, PG l a o)] ⟨.v (str (txt l a)), [(29, .ent (PG l (a + 1) o))]⟩ := by
  have hlt := isNm_lt h
  have c := c_namedG l a o
  rw [h] at c
  obtain ⟨⟨tk, tt, tp⟩, ht⟩ : ∃ t, l[a]? = some t := ⟨_, List.getElem?_eq_getElem hlt⟩
  have hv : txt l a = tt := by unfold txt; rw [ht]
  rw [hv]
  refine CallOK.fnF Try.func52 Try.results52 Try.ntmps52 rfl rfl rfl rfl (fun w0 T B E0 hB => ?_)
  refine SX.goP ?_
  exact retSP rfl ⟨rfl, trivial⟩
theorem c_nameF {l : List Tok} {a : Nat} (o : Nat) (h : isNm l a = false) : CallOK Try.prog 52 [.ptr 29 0] [(29, PG l a o)] ⟨.v (str []), [(29, .ent (PE l a o 4 a))]⟩ := by
  have c := c_namedG l a o
  rw [h] at c
  have c2 := c_wrongG l a o
  refine CallOK.fnF Try.func52 Try.results52 Try.ntmps52 rfl rfl rfl rfl (fun w0 T B E0 hB => ?_)
  refine SX.goP ?_
  exact retSP rfl ⟨rfl, trivial⟩
end Go.Proofs.Ytaocklkbijkhpaa

import Derived.Test.YtkdonndeogihfaaDoorY5
/- The reference for naturals (package quincunxref01): Trim, at, Carried, Add, Sub, Cmp, Mul, From, To, Same. -/
set_option linter.unusedVariables false
set_option linter.unusedSimpArgs false
namespace Go.Proofs.YtkdonndeogihfaaDoor
open Go.RowKit QM SX
attribute [local irreducible] IntKind.wrap bitLen cmpI nval Go1 Reg WP thenK inBlk retQ RetOK ResOK CallOK OpOK Sat
/-- A digit's cell; digits as a slice. -/
def digC (x : Nat) : CA := .val (.int .i64 (x : Int))
abbrev digR (l : List Nat) : Rep := sliceR 1 l.length (l.map digC)
/-- The digits of a number. -/
def dgs (n : Nat) : List Nat := wdsB 65536 n n
theorem dgs_sm (n : Nat) : Sm 65536 (dgs n) := (wdsB_spec (by decide) n n (Nat.le_refl n)).1
theorem dgs_val (n : Nat) : nval 65536 (dgs n) = n := (wdsB_spec (by decide) n n (Nat.le_refl n)).2.1
theorem dgs_nrm (n : Nat) : Nrm (dgs n) := (wdsB_spec (by decide) n n (Nat.le_refl n)).2.2
theorem dgs_uniq {l : List Nat} (hs : Sm 65536 l) (hn : Nrm l) : l = dgs (nval 65536 l) := nval_inj (by decide) hs (dgs_sm _) hn (dgs_nrm _) (dgs_val _).symm
theorem trim_dgs {l : List Nat} (hs : Sm 65536 l) : l.take (tlen l) = dgs (nval 65536 l) := by
  have := dgs_uniq (hs.take _) (nrm_tlen l)
  rwa [nval_tlen] at this
theorem digR_take {l : List Nat} {n : Nat} (h : n ≤ l.length) : AV0.one (.c (.sat (sliceR 1 ((n : Nat) : Int).toNat ((l.map digC).take (((n : Nat) : Int).toNat * 1))))) = AV0.one (.c (.sat (digR (l.take n)))) := by
  have e : (((n : Nat) : Int).toNat) = n := rfl
  rw [e, Nat.mul_one, ← List.map_take]
  unfold digR
  rw [List.length_take, Nat.min_eq_left h]
set_option maxRecDepth 100000 in
theorem rTrim (l : List Nat) (hl : l.length ≤ 9223372036854775807) : PureOK Tryd.prog 70 [.r (digR l)] (.r (digR (l.take (tlen l)))) := by
  refine PureOK.fn Tryd.func70 Tryd.results70 Tryd.ntmps70 rfl rfl rfl (by simp [AV.ids, AV0.ids, Atom.ids]) rfl (fun w0 T B E0 hB => ?_)
  repeat (first | refine SX.goZ ?_)
  refine WP.loop (ι := {n : Nat // tlen l ≤ n ∧ n ≤ l.length}) (fun i => mkSt [(0, .r (digR l)), (3, .v (.int .i64 (i.val : Int)))] []) (fun i => i.val) ⟨l.length, tlen_le l, Nat.le_refl _⟩
    (St.le_to [] (fun b h => by cases h) ⟨⟨_, rfl, AVto.same rfl⟩, ⟨_, rfl, AVto.same rfl⟩, trivial⟩ trivial rfl) (fun i => ?_)
  obtain ⟨n, h1, h2⟩ := i
  simp only
  by_cases h0 : n = 0
  · have d1 : decide ((0 : Int) < (n : Int)) = false := decide_eq_false (by omega)
    repeat (first | refine SX.goZ ?_)
    have e : n = tlen l := by omega
    exact RetOK.eq1 (ResOK.tmp rfl) (by rw [← e]; exact digR_take h2)
  · obtain ⟨m, rfl⟩ : ∃ m, n = m + 1 := ⟨n - 1, by omega⟩
    have d1 : decide ((0 : Int) < ((m + 1 : Nat) : Int)) = true := decide_eq_true (by omega)
    have d2 : IntKind.i64.wrap (((m + 1 : Nat) : Int) - 1) = (m : Int) := by rw [show ((m + 1 : Nat) : Int) - 1 = (m : Int) by omega]; exact wrapI64 (by omega) (by omega)
    obtain ⟨x, hx⟩ : ∃ x, l[m]? = some x := ⟨l[m]'(by omega), by simp⟩
    have hg : l.getD m 0 = x := by rw [List.getD_eq_getElem?_getD, hx]; rfl
    by_cases ht : tlen l = m + 1
    · have d3 : decide ((x : Int) = 0) = false := by
        refine decide_eq_false fun e => tlen_last (l := l) (by omega) ?_
        rw [ht, show m + 1 - 1 = m by omega, hg]; omega
      repeat (first | refine SX.goZ ?_)
      exact RetOK.eq1 (ResOK.tmp rfl) (by rw [ht]; exact digR_take h2)
    · have d3 : decide ((x : Int) = 0) = true := by
        have := tlen_zero (l := l) (i := m) (by omega)
        exact decide_eq_true (by omega)
      repeat (first | refine SX.goZ ?_)
      exact ⟨⟨m, by omega, by omega⟩, St.le_to [] (fun b h => by cases h) ⟨⟨_, rfl, AVto.same rfl⟩, ⟨_, rfl, AVto.same rfl⟩, trivial⟩ trivial rfl, Nat.lt_succ_self m⟩
/-- at: a digit, nought behind the last. -/
theorem rAt (l : List Nat) (i : Nat) (hl : l.length ≤ 9223372036854775807) : PureOK Tryd.prog 109 [.r (digR l), .v (.int .i64 (i : Int))] (.v (.int .i64 ((l.getD i 0 : Nat) : Int))) := by
  refine PureOK.fn Tryd.func109 Tryd.results109 Tryd.ntmps109 rfl rfl rfl (by simp [AV.ids, AV0.ids, Atom.ids]) rfl (fun w0 T B E0 hB => ?_)
  by_cases h : i < l.length
  · have d1 : decide ((i : Int) < (l.length : Int)) = true := decide_eq_true (by omega)
    obtain ⟨x, hx⟩ : ∃ x, l[i]? = some x := ⟨l[i], by simp [h]⟩
    have hg : l.getD i 0 = x := by rw [List.getD_eq_getElem?_getD, hx]; rfl
    repeat (first | refine SX.goZ ?_)
    exact RetOK.eq1 (ResOK.tmp rfl) (by rw [hg]; rfl)
  · have d1 : decide ((i : Int) < (l.length : Int)) = false := decide_eq_false (by omega)
    have hg : l.getD i 0 = 0 := by simp [List.getD_eq_getElem?_getD, List.getElem?_eq_none (Nat.not_lt.1 h)]
    repeat (first | refine SX.goZ ?_)
    exact RetOK.eq1 (ResOK.tmp rfl) (by rw [hg]; rfl)
/-- Digits of any size on their way to digits. -/
structure CarInv (l r : List Nat) (c : Nat) : Prop where
  sm : Sm 65536 r
  val : nval 65536 r + 65536 ^ r.length * c = nval 65536 (l.take r.length)
  small : c ≤ 4611686018427387903
  cap : c < 65536 ^ (4 - (r.length - l.length))
  len : r.length ≤ l.length + 4
theorem CarInv.start (l : List Nat) : CarInv l [] 0 := ⟨Sm.nil, by simp [nval], by omega, Nat.pow_pos (by omega), by simp⟩
theorem CarInv.step {l r : List Nat} {c : Nat} (h : CarInv l r c) (hl : ∀ x ∈ l, x ≤ 4611686018427387903) (ht : r.length < l.length ∨ 0 < c) :
    CarInv l (r ++ [(c + l.getD r.length 0) % 65536]) ((c + l.getD r.length 0) / 65536) := by
  have hx : l.getD r.length 0 ≤ 4611686018427387903 := by
    by_cases h0 : r.length < l.length
    · rw [List.getD_eq_getElem?_getD, List.getElem?_eq_getElem h0]; exact hl _ (List.getElem_mem h0)
    · simp [List.getD_eq_getElem?_getD, List.getElem?_eq_none (Nat.not_lt.1 h0)]
  have hs := h.small
  refine ⟨h.sm.append (Sm.cons (Nat.mod_lt _ (by omega)) Sm.nil), ?_, by omega, ?_, ?_⟩
  · rw [nval_snoc, List.length_append, List.length_singleton, nval_take_succ, ← h.val]
    generalize l.getD r.length 0 = x
    have e := Nat.div_add_mod (c + x) 65536
    generalize (c + x) / 65536 = q at *
    generalize (c + x) % 65536 = m at *
    rw [Nat.pow_succ]
    generalize 65536 ^ r.length = p at *
    have e2 : p * m + p * 65536 * q = p * (65536 * q + m) := by grind
    rw [Nat.add_assoc, e2, e]; grind
  · rw [List.length_append, List.length_singleton]
    have hc := h.cap
    have hlen := h.len
    by_cases h0 : r.length < l.length
    · rw [show r.length + 1 - l.length = 0 by omega]; omega
    · have hx0 : l.getD r.length 0 = 0 := by simp [List.getD_eq_getElem?_getD, List.getElem?_eq_none (Nat.not_lt.1 h0)]
      rw [hx0, Nat.add_zero]
      have hcp : 0 < c := ht.resolve_left h0
      rcases (show r.length - l.length = 0 ∨ r.length - l.length = 1 ∨ r.length - l.length = 2 ∨ r.length - l.length = 3 ∨ r.length - l.length = 4 by omega) with e | e | e | e | e
      all_goals
        rw [e] at hc
        first
          | (rw [show r.length + 1 - l.length = 1 by omega]; simp at hc ⊢; omega)
          | (rw [show r.length + 1 - l.length = 2 by omega]; simp at hc ⊢; omega)
          | (rw [show r.length + 1 - l.length = 3 by omega]; simp at hc ⊢; omega)
          | (rw [show r.length + 1 - l.length = 4 by omega]; simp at hc ⊢; omega)
          | (simp at hc; omega)
  · rw [List.length_append, List.length_singleton]
    have hc := h.cap
    have hlen := h.len
    by_cases h0 : r.length < l.length
    · omega
    · have hcp : 0 < c := ht.resolve_left h0
      by_cases e : r.length = l.length + 4
      · rw [e, show 4 - (l.length + 4 - l.length) = 0 by omega] at hc; simp at hc; omega
      · omega
theorem CarInv.done {l r : List Nat} {c : Nat} (h : CarInv l r c) (h1 : l.length ≤ r.length) (h2 : c = 0) : r.take (tlen r) = dgs (nval 65536 l) := by
  rw [trim_dgs h.sm]
  have := h.val
  rw [h2, Nat.mul_zero, Nat.add_zero, List.take_of_length_le h1] at this
  rw [this]
theorem digR_snoc (r : List Nat) (x : Nat) : (r.map digC) ++ [CA.val (.int .i64 (x : Int))] = (r ++ [x]).map digC := by simp [digC]
set_option maxRecDepth 100000 in
theorem rCarried (l : List Nat) (hl : l.length ≤ 1000000000000) (hx : ∀ x ∈ l, x ≤ 4611686018427387903) : PureOK Tryd.prog 110 [.r (digR l)] (.r (digR (dgs (nval 65536 l)))) := by
  refine PureOK.fn Tryd.func110 Tryd.results110 Tryd.ntmps110 rfl rfl rfl (by simp [AV.ids, AV0.ids, Atom.ids]) rfl (fun w0 T B E0 hB => ?_)
  repeat (first | refine SX.goZ ?_)
  refine WP.loop (ι := {p : List Nat × Nat // CarInv l p.1 p.2}) (fun i => mkSt [(0, .r (digR l)), (3, .own 100), (4, .v (.int .i64 (i.val.2 : Int))), (5, .v (.int .i64 (i.val.1.length : Int)))] [(100, .row 3 1 i.val.1.length (i.val.1.map digC))])
    (fun i => (l.length - i.val.1.length) * 4611686018427387904 + i.val.2) ⟨([], 0), CarInv.start l⟩
    (St.le_to [(100, none)] (fun b h => by cases h) ⟨⟨_, rfl, AVto.same rfl⟩, ⟨_, rfl, AVto.nil rfl⟩, ⟨_, rfl, AVto.same rfl⟩, ⟨_, rfl, AVto.same rfl⟩, trivial⟩ ⟨.nilRow rfl, trivial⟩ rfl) (fun i => ?_)
  obtain ⟨⟨r, c⟩, hi⟩ := i
  simp only at hi ⊢
  have hlen := hi.len
  have hsm := hi.small
  by_cases ht : r.length < l.length ∨ 0 < c
  · have hn := hi.step hx ht
    have hsm2 := hn.small
    generalize hg : l.getD r.length 0 = x at *
    have hxb : x ≤ 4611686018427387903 := by
      rw [← hg]
      by_cases h0 : r.length < l.length
      · rw [List.getD_eq_getElem?_getD, List.getElem?_eq_getElem h0]; exact hx _ (List.getElem_mem h0)
      · simp [List.getD_eq_getElem?_getD, List.getElem?_eq_none (Nat.not_lt.1 h0)]
    have hat := rAt l r.length (by omega)
    rw [hg] at hat
    have a1 : IntKind.i64.wrap ((c : Int) + (x : Int)) = ((c + x : Nat) : Int) := by rw [← Int.natCast_add]; exact wrapI64 (by omega) (by omega)
    have a2 : ((c + x : Nat) : Int).tmod 65536 = (((c + x) % 65536 : Nat) : Int) := rfl
    have a3 : IntKind.i64.wrap (((c + x : Nat) : Int).tdiv 65536) = (((c + x) / 65536 : Nat) : Int) := by
      rw [show ((c + x : Nat) : Int).tdiv 65536 = (((c + x) / 65536 : Nat) : Int) from rfl]; exact wrapI64 (by omega) (by omega)
    have a4 : IntKind.i64.wrap ((r.length : Int) + 1) = ((r.length + 1 : Nat) : Int) := by rw [← Int.natCast_add_one]; exact wrapI64 (by omega) (by omega)
    have fin : (l.length - (r.length + 1)) * 4611686018427387904 + (c + x) / 65536 < (l.length - r.length) * 4611686018427387904 + c := by
      by_cases h0 : r.length < l.length
      · omega
      · have hx0 : x = 0 := by rw [← hg]; simp [List.getD_eq_getElem?_getD, List.getElem?_eq_none (Nat.not_lt.1 h0)]
        have := ht.resolve_left h0
        subst hx0
        omega
    have out : ∀ (C : Ctx) (st : St), (∀ b, C.fix b = false) → st.tm 0 = some (.r (digR l)) → st.tm 3 = some (.own 25) → st.tm 4 = some (.v (.int .i64 (((c + x) / 65536 : Nat) : Int))) → st.tm 5 = some (.v (.int .i64 ((r.length + 1 : Nat) : Int))) →
        st.hp 25 = .ent (.row 3 1 (r.length + 1) (r.map digC ++ [CA.val (.int .i64 (((c + x) % 65536 : Nat) : Int))])) →
        ∃ j : {p : List Nat × Nat // CarInv l p.1 p.2}, St.le C st (mkSt [(0, .r (digR l)), (3, .own 100), (4, .v (.int .i64 (j.val.2 : Int))), (5, .v (.int .i64 (j.val.1.length : Int)))] [(100, .row 3 1 j.val.1.length (j.val.1.map digC))]) ∧
          (l.length - j.val.1.length) * 4611686018427387904 + j.val.2 < (l.length - r.length) * 4611686018427387904 + c := by
      intro C st hf h0 h3 h4 h5 h6
      have e1 : (r ++ [(c + x) % 65536]).length = r.length + 1 := by simp
      refine ⟨⟨(r ++ [(c + x) % 65536], (c + x) / 65536), hn⟩, ?_, by simp only [e1]; exact fin⟩
      simp only [e1]
      exact St.le_to [(100, some 25)] (fun b h => by rw [hf b] at h; cases h) ⟨⟨_, h0, AVto.same rfl⟩, ⟨_, h3, AVto.own rfl⟩, ⟨_, h4, AVto.same rfl⟩, ⟨_, h5, AVto.same rfl⟩, trivial⟩ ⟨.row h6 rfl rfl (digR_snoc r _), trivial⟩ rfl
    by_cases h0 : r.length < l.length
    · have d1 : decide ((r.length : Int) < (l.length : Int)) = true := decide_eq_true (by omega)
      repeat (first | refine SX.goZ ?_ | (refine SX.Go1.is ?_; refine SX.Go1.isCall ?_; first
            | refine SX.Go1.call rfl (hat) rfl rfl ?_))
      exact out _ _ (fun _ => rfl) rfl rfl rfl rfl rfl
    · have d1 : decide ((r.length : Int) < (l.length : Int)) = false := decide_eq_false (by omega)
      have d2 : decide ((0 : Int) < (c : Int)) = true := decide_eq_true (by have := ht.resolve_left h0; omega)
      repeat (first | refine SX.goZ ?_ | (refine SX.Go1.is ?_; refine SX.Go1.isCall ?_; first
            | refine SX.Go1.call rfl (hat) rfl rfl ?_))
      exact out _ _ (fun _ => rfl) rfl rfl rfl rfl rfl
  · have d1 : decide ((r.length : Int) < (l.length : Int)) = false := decide_eq_false (by omega)
    have d2 : decide ((0 : Int) < (c : Int)) = false := decide_eq_false (by omega)
    have hd := hi.done (by omega) (by omega)
    refine WP.freeze 100 hB rfl ?_
    repeat (first | refine SX.goZ ?_ | (refine SX.Go1.is ?_; refine SX.Go1.isCall ?_; first
          | refine SX.Go1.call rfl (rTrim r (by omega)) rfl rfl ?_))
    exact RetOK.eq1 (ResOK.tmp rfl) (by rw [hd])
end Go.Proofs.YtkdonndeogihfaaDoor
namespace Go.Proofs.YtkdonndeogihfaaDoor
open Go.RowKit QM SX
attribute [local irreducible] IntKind.wrap bitLen cmpI nval Go1 Reg WP thenK inBlk retQ RetOK ResOK CallOK OpOK Sat
/-- A cell that holds digits. -/
class DI (a : CA) (l : outParam (List Nat)) : Prop where
  h : ∀ S w v, a.has S w v → (CA.sat (digR l)).has S w v
instance DI.dig (l : List Nat) : DI (.sat (sliceR 1 l.length (l.map digC))) l := ⟨fun _ _ _ h => h⟩
theorem digR_nil {S : Nat → Prop} {w : World} : (CA.sat (digR [])).has S w (.slice none 0 0) := sliceR_iff.2 ⟨none, 0, rfl, Nat.le_refl _, Nat.zero_le _, fun _ => rfl, rfl, fun i c hc => by simp at hc⟩
instance DI.nil : DI (.val (.slice none 0 0)) [] := ⟨fun S w v h => by
  have h' : v = .slice none 0 0 := h
  subst h'; exact digR_nil⟩
theorem d1 {f : FuncId} {a : CA} {l : List Nat} {rest : List AV} {r : AV} [h : DI a l] (hp : PureOK Tryd.prog f (.r (digR l) :: rest) r) : PureOK Tryd.prog f (.it (.one (.c a)) :: rest) r :=
  hp.args fun E S w vs hv => by
    match vs, hv with
    | x :: ys, ⟨h1, h2⟩ => exact ⟨h.h S w x h1, h2⟩
theorem d2 {f : FuncId} {a b : CA} {l m : List Nat} {rest : List AV} {r : AV} [h : DI a l] [h' : DI b m] (hp : PureOK Tryd.prog f (.r (digR l) :: .r (digR m) :: rest) r) : PureOK Tryd.prog f (.it (.one (.c a)) :: .it (.one (.c b)) :: rest) r :=
  hp.args fun E S w vs hv => by
    match vs, hv with
    | x :: y :: ys, ⟨h1, h2, h3⟩ => exact ⟨h.h S w x h1, h'.h S w y h2, h3⟩
theorem AVto.nilDig (ρ : List (Nat × Option Nat)) : AVto ρ (.v (.slice none 0 0)) (.r (digR [])) := fun E S w v h => by
  have h' : v = .slice none 0 0 := h
  subst h'; exact digR_nil
theorem gd_get {l : List Nat} {i : Nat} (h : i < l.length) : l[i]? = some (l.getD i 0) := by rw [List.getD_eq_getElem?_getD, List.getElem?_eq_getElem h]; rfl
theorem gd_none {l : List Nat} {i : Nat} (h : l.length ≤ i) : l.getD i 0 = 0 := by simp [List.getD_eq_getElem?_getD, List.getElem?_eq_none h]
theorem gd_sm {l : List Nat} (h : Sm 65536 l) (i : Nat) : l.getD i 0 < 65536 := h.getD (by omega) i
/-- Digit by digit. -/
def sums (la lb : List Nat) (i : Nat) : List Nat := (List.range i).map fun k => la.getD k 0 + lb.getD k 0
theorem sums_succ (la lb : List Nat) (i : Nat) : sums la lb (i + 1) = sums la lb i ++ [la.getD i 0 + lb.getD i 0] := by simp [sums, List.range_succ]
theorem sums_len (la lb : List Nat) (i : Nat) : (sums la lb i).length = i := by simp [sums]
theorem sums_val (B : Nat) (la lb : List Nat) : ∀ i, nval B (sums la lb i) = nval B (la.take i) + nval B (lb.take i)
  | 0 => by simp [sums, nval]
  | i + 1 => by
    rw [sums_succ, nval_snoc, sums_len, sums_val B la lb i, nval_take_succ, nval_take_succ, Nat.mul_add]; omega
theorem sums_small {la lb : List Nat} (ha : Sm 65536 la) (hb : Sm 65536 lb) (i : Nat) : ∀ x ∈ sums la lb i, x ≤ 4611686018427387903 := by
  intro x hx
  simp only [sums, List.mem_map] at hx
  obtain ⟨k, _, rfl⟩ := hx
  have := gd_sm ha k
  have := gd_sm hb k
  omega
set_option maxRecDepth 100000 in
theorem rAdd0 (la lb : List Nat) (ha : Sm 65536 la) (hb : Sm 65536 lb) (hl : la.length + lb.length ≤ 1000000000) : PureOK Tryd.prog 75 [.r (digR la), .r (digR lb)] (.r (digR (dgs (nval 65536 la + nval 65536 lb)))) := by
  refine PureOK.fn Tryd.func75 Tryd.results75 Tryd.ntmps75 rfl rfl rfl (by simp [AV.ids, AV0.ids, Atom.ids]) rfl (fun w0 T B E0 hB => ?_)
  repeat (first | refine SX.goZ ?_)
  refine WP.loop (ι := {i : Nat // i ≤ max la.length lb.length}) (fun i => mkSt [(0, .r (digR la)), (1, .r (digR lb)), (5, .own 100), (6, .v (.int .i64 (i.val : Int)))] [(100, .row 3 1 (sums la lb i.val).length ((sums la lb i.val).map digC))])
    (fun i => max la.length lb.length - i.val) ⟨0, Nat.zero_le _⟩
    (St.le_to [(100, none)] (fun b h => by cases h) ⟨⟨_, rfl, AVto.same rfl⟩, ⟨_, rfl, AVto.same rfl⟩, ⟨_, rfl, AVto.nil rfl⟩, ⟨_, rfl, AVto.same rfl⟩, trivial⟩ ⟨.nilRow rfl, trivial⟩ rfl) (fun i => ?_)
  obtain ⟨i, hi⟩ := i
  simp only
  have hlen := sums_len la lb i
  by_cases ht : i < la.length ∨ i < lb.length
  · have h1 := rAt la i (by omega)
    have h2 := rAt lb i (by omega)
    have g1 := gd_sm ha i
    have g2 := gd_sm hb i
    have e := sums_succ la lb i
    generalize la.getD i 0 = x at *
    generalize lb.getD i 0 = y at *
    have a1 : IntKind.i64.wrap ((x : Int) + (y : Int)) = ((x + y : Nat) : Int) := by rw [← Int.natCast_add]; exact wrapI64 (by omega) (by omega)
    have a4 : IntKind.i64.wrap ((i : Int) + 1) = ((i + 1 : Nat) : Int) := by rw [← Int.natCast_add_one]; exact wrapI64 (by omega) (by omega)
    have out : ∀ (C : Ctx) (st : St), (∀ b, C.fix b = false) → st.tm 0 = some (.r (digR la)) → st.tm 1 = some (.r (digR lb)) → st.tm 5 = some (.own 28) → st.tm 6 = some (.v (.int .i64 ((i + 1 : Nat) : Int))) →
        st.hp 28 = .ent (.row 3 1 ((sums la lb i).length + 1) ((sums la lb i).map digC ++ [CA.val (.int .i64 ((x + y : Nat) : Int))])) →
        ∃ j : {i : Nat // i ≤ max la.length lb.length}, St.le C st (mkSt [(0, .r (digR la)), (1, .r (digR lb)), (5, .own 100), (6, .v (.int .i64 (j.val : Int)))] [(100, .row 3 1 (sums la lb j.val).length ((sums la lb j.val).map digC))]) ∧
          max la.length lb.length - j.val < max la.length lb.length - i := by
      intro C st hf h0 h1 h3 h4 h6
      refine ⟨⟨i + 1, by omega⟩, ?_, by simp only; omega⟩
      simp only [e]
      exact St.le_to [(100, some 28)] (fun b h => by rw [hf b] at h; cases h) ⟨⟨_, h0, AVto.same rfl⟩, ⟨_, h1, AVto.same rfl⟩, ⟨_, h3, AVto.own rfl⟩, ⟨_, h4, AVto.same rfl⟩, trivial⟩ ⟨.row h6 rfl (by simp) (digR_snoc _ _), trivial⟩ rfl
    by_cases h0 : i < la.length
    · have d1 : decide ((i : Int) < (la.length : Int)) = true := decide_eq_true (by omega)
      repeat (first | refine SX.goZ ?_ | (refine SX.Go1.is ?_; refine SX.Go1.isCall ?_; first
            | refine SX.Go1.call rfl (h1) rfl rfl ?_
            | refine SX.Go1.call rfl (h2) rfl rfl ?_))
      exact out _ _ (fun _ => rfl) rfl rfl rfl rfl rfl
    · have d1 : decide ((i : Int) < (la.length : Int)) = false := decide_eq_false (by omega)
      have d2 : decide ((i : Int) < (lb.length : Int)) = true := decide_eq_true (by omega)
      repeat (first | refine SX.goZ ?_ | (refine SX.Go1.is ?_; refine SX.Go1.isCall ?_; first
            | refine SX.Go1.call rfl (h1) rfl rfl ?_
            | refine SX.Go1.call rfl (h2) rfl rfl ?_))
      exact out _ _ (fun _ => rfl) rfl rfl rfl rfl rfl
  · have d1 : decide ((i : Int) < (la.length : Int)) = false := decide_eq_false (by omega)
    have d2 : decide ((i : Int) < (lb.length : Int)) = false := decide_eq_false (by omega)
    have hv := sums_val 65536 la lb i
    rw [List.take_of_length_le (show la.length ≤ i by omega), List.take_of_length_le (show lb.length ≤ i by omega)] at hv
    rw [← hv]
    refine WP.freeze 100 hB rfl ?_
    repeat (first | refine SX.goZ ?_ | (refine SX.Go1.is ?_; refine SX.Go1.isCall ?_; first
          | refine SX.Go1.call rfl (rCarried (sums la lb i) (by omega) (sums_small ha hb i)) rfl rfl ?_))
    exact RetOK.eq1 (ResOK.tmp rfl) rfl
theorem take_long {B : Nat} {la lb : List Nat} (hB : 0 < B) (ha : Sm B la) (hb : Sm B lb) (h : nval B lb ≤ nval B la) : nval B (lb.take la.length) = nval B lb := by
  refine nval_take_of_zeros fun i hi => ?_
  rcases Nat.lt_or_ge i lb.length with h1 | h1
  · have h2 := nval_split (B := B) lb i
    have h3 := nval_lt ha
    have h4 : lb.getD i 0 = 0 := by
      rcases Nat.eq_zero_or_pos (lb.getD i 0) with h0 | h0
      · exact h0
      · exfalso
        have h5 := nval_take_succ (B := B) lb i
        have h6 := nval_split (B := B) lb (i + 1)
        have h7 : B ^ la.length ≤ B ^ i := Nat.pow_le_pow_right hB hi
        have h8 : B ^ i * 1 ≤ B ^ i * lb.getD i 0 := Nat.mul_le_mul_left _ h0
        omega
    exact h4
  · exact gd_none h1
end Go.Proofs.YtkdonndeogihfaaDoor

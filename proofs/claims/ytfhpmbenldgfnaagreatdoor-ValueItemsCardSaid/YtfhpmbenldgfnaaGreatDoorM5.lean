import Derived.Test.YtfhpmbenldgfnaaGreatDoorM4
import Derived.Test.YtfhpmbenldgfnaaGreatDoorM2
/- Formed values, told by their kinds. -/
set_option linter.unusedVariables false
set_option linter.unusedSimpArgs false
namespace Go.Proofs.YtfhpmbenldgfnaaGreatDoor
open Go.RowKit QM SX LA
theorem zOk_cz (z : Int) : zOk (cz z) = true := (zOk_iff (cz_sm z)).2 (by rw [cz_val])
theorem lz_iff {zs : List Int} : lz (zs.map cz) = true ↔ pN zs := by
  unfold lz pN
  rw [Bool.or_eq_true, decide_eq_true_iff, decide_eq_true_iff, List.length_map]
  by_cases h : zs.length = 0
  · exact ⟨fun _ => .inl h, fun _ => .inl h⟩
  · have e : rzv ((zs.map cz).getD (zs.length - 1) (false, [])) = zs.getD (zs.length - 1) 0 := by
      rw [List.getD_eq_getElem?_getD, List.getD_eq_getElem?_getD, List.getElem?_map, List.getElem?_eq_getElem (show zs.length - 1 < zs.length by omega)]
      exact cz_val _
    rw [e]
theorem lw_iff {l : List Nat} : lw l = true ↔ wN l := by
  unfold lw wN
  rw [Bool.or_eq_true, decide_eq_true_iff, decide_eq_true_iff]
theorem ltp_all {p : Nat} {l : List Nat} : l.all (ltp p) = true ↔ ∀ x ∈ l, x < p := by
  rw [List.all_eq_true]
  exact ⟨fun h x hx => of_decide_eq_true (h x hx), fun h x hx => decide_eq_true (h x hx)⟩
theorem vP_pol (zs : List Int) : vP (vPol zs) = 0 := (vP0 _).2 ⟨.inr ⟨rfl, rfl, rfl, rfl⟩, .inr ⟨rfl, rfl, rfl⟩, .inl rfl, .inr ⟨rfl, rfl, rfl⟩, .inr rfl, .inr (.inr rfl), .inr rfl⟩
theorem vP_fld (p r c : Nat) (l : List Nat) : vP (vFld p r c l) = 0 := (vP0 _).2 ⟨.inr ⟨rfl, rfl, rfl, rfl⟩, .inr ⟨rfl, rfl, rfl⟩, .inr rfl, .inl rfl, .inr rfl, .inl rfl, .inr rfl⟩
theorem vP_rng (p : Nat) (l : List Nat) : vP (vRng p l) = 0 := (vP0 _).2 ⟨.inr ⟨rfl, rfl, rfl, rfl⟩, .inr ⟨rfl, rfl, rfl⟩, .inr rfl, .inr ⟨rfl, rfl, rfl⟩, .inl rfl, .inr (.inl rfl), .inr rfl⟩
theorem vP_lst (l : List Vl) : vP (vLst l) = 0 := (vP0 _).2 ⟨.inr ⟨rfl, rfl, rfl, rfl⟩, .inr ⟨rfl, rfl, rfl⟩, .inr rfl, .inr ⟨rfl, rfl, rfl⟩, .inr rfl, .inr (.inr rfl), .inl rfl⟩
theorem rq0_sz : (Sm WB rq0.2.1 ∧ Sm WB rq0.2.2.2) ∧ rq0.2.1.length ≤ 100000 ∧ rq0.2.2.2.length ≤ 100000 := ⟨⟨Sm.nil, Sm.nil⟩, Nat.zero_le _, Nat.zero_le _⟩
theorem no_mem {α : Type} {p : α → Prop} : ∀ x ∈ ([] : List α), p x := fun x hx => by cases hx
theorem vZ0_pol {zs : List Int} {K : Nat} (h : ∀ z ∈ zs, z.natAbs < WB ^ K) (hK : K ≤ 100000) (hl : zs.length ≤ 100000) : vZ0 (vPol zs) where
  q := rq0_sz
  a := no_mem
  al := Nat.zero_le _
  po := fun x hx => by obtain ⟨z, hz, rfl⟩ := List.mem_map.1 hx; exact ⟨cz_sm z, Nat.le_trans (wds_len (h z hz)) hK⟩
  pol := by rw [List.length_map]; exact hl
  p := WB_pos
  fa := no_mem
  fal := Nat.zero_le _
  ri := no_mem
  ril := Nat.zero_le _
  lil := Nat.zero_le _
theorem PrP.wb {p : Nat} (h : PrP p) : p < WB := by have := h.2.1; rw [WB_eq]; omega
theorem vZ0_fld {p r c : Nat} {l : List Nat} (hp : PrP p) (h : ∀ x ∈ l, x < p) (hl : l.length ≤ 100000) : vZ0 (vFld p r c l) where
  q := rq0_sz
  a := no_mem
  al := Nat.zero_le _
  po := no_mem
  pol := Nat.zero_le _
  p := hp.wb
  fa := fun x hx => Nat.lt_trans (h x hx) hp.wb
  fal := hl
  ri := no_mem
  ril := Nat.zero_le _
  lil := Nat.zero_le _
theorem vZ0_rng {p : Nat} {l : List Nat} (hp : PrP p) (h : ∀ x ∈ l, x < p) (hl : l.length ≤ 100000) : vZ0 (vRng p l) where
  q := rq0_sz
  a := no_mem
  al := Nat.zero_le _
  po := no_mem
  pol := Nat.zero_le _
  p := hp.wb
  fa := no_mem
  fal := Nat.zero_le _
  ri := fun x hx => Nat.lt_trans (h x hx) hp.wb
  ril := hl
  lil := Nat.zero_le _
theorem vZ0_lst {l : List Vl} (hl : l.length ≤ 100000) : vZ0 (vLst l) where
  q := rq0_sz
  a := no_mem
  al := Nat.zero_le _
  po := no_mem
  pol := Nat.zero_le _
  p := WB_pos
  fa := no_mem
  fal := Nat.zero_le _
  ri := no_mem
  ril := Nat.zero_le _
  lil := hl
theorem Sh.z {K : Nat} {v : Vl} (h : Sh K v) (hK : K ≤ 100000) : vZ0 v ∧ v.li = [] := by
  cases h with
  | num x h => exact ⟨vZ0.num h hK, rfl⟩
  | mat r c vs hl hr hc h => exact ⟨vZ0.mat h hK (by have := Nat.mul_le_mul hr hc; omega), rfl⟩
  | pol zs hl hn h => exact ⟨vZ0_pol h hK (by omega), rfl⟩
  | fld p r c l hp hl hr hc h => exact ⟨vZ0_fld hp h (by have := Nat.mul_le_mul hr hc; omega), rfl⟩
  | rng p l hp hl hn h => exact ⟨vZ0_rng hp h (by omega), rfl⟩
theorem Sh.f {K : Nat} {v : Vl} (h : Sh K v) (d : Nat) : vF d v = true := by
  cases h with
  | num x h => exact vF_num d x
  | mat r c vs hl hr hc h => exact vF_mat d hl hr hc
  | pol zs hl hn h =>
    rw [vF_3 (vP_pol zs) rfl]; unfold pOk
    rw [Bool.and_eq_true]
    exact ⟨List.all_eq_true.2 fun x hx => by obtain ⟨z, _, rfl⟩ := List.mem_map.1 hx; exact zOk_cz z, lz_iff.2 hn⟩
  | fld p r c l hp hl hr hc h =>
    rw [vF_4 (vP_fld p r c l) rfl]; unfold fOk
    rw [Bool.and_eq_true, Bool.and_eq_true]
    exact ⟨decide_eq_true hp, ltp_all.2 h, fp64_nat hr hc hl⟩
  | rng p l hp hl hn h =>
    rw [vF_5 (vP_rng p l) rfl]; unfold rOk
    rw [Bool.and_eq_true, Bool.and_eq_true]
    exact ⟨decide_eq_true hp, ltp_all.2 h, lw_iff.2 hn⟩
theorem Sh.zz {K : Nat} {v : Vl} (h : Sh K v) (hK : K ≤ 100000) : ∀ n, vZ n v
  | 0 => h.z hK
  | n + 1 => ⟨(h.z hK).1, by rw [(h.z hK).2]; exact no_mem⟩
theorem Cv.z {K : Nat} (hK : K ≤ 100000) : ∀ {n : Nat} {v : Vl}, Cv K n v → vZ n v := by
  intro n
  induction n with
  | zero =>
    intro v h
    cases h with
    | one h => exact h.zz hK 0
  | succ n ih =>
    intro v h
    cases h with
    | one h => exact h.zz hK _
    | lst l hl h => exact ⟨vZ0_lst (by omega), fun x hx => ih (h x hx)⟩
theorem Cv.f {K : Nat} : ∀ {n : Nat} {v : Vl}, Cv K n v → ∀ d, n < d → vF d v = true := by
  intro n
  induction n with
  | zero =>
    intro v h d hd
    cases h with
    | one h => exact h.f d
  | succ n ih =>
    intro v h d hd
    cases h with
    | one h => exact h.f d
    | lst l hl h =>
      obtain ⟨e, rfl⟩ : ∃ e, d = e + 1 := ⟨d - 1, by omega⟩
      rw [vF_6 (vP_lst l) rfl]
      exact List.all_eq_true.2 fun x hx => ih (h x hx) e (by omega)
/-- What is small and formed is one of these. -/
theorem map_back {α β : Type} {f : α → β} {g : β → α} : ∀ (l : List β), (∀ x ∈ l, x = f (g x)) → l = (l.map g).map f
  | [], _ => rfl
  | x :: l, h => by rw [List.map_cons, List.map_cons, ← h x (List.mem_cons_self ..), ← map_back l fun y hy => h y (List.mem_cons_of_mem _ hy)]
theorem rqv_b {q : RawQ} (hs : Sm WB q.2.1 ∧ Sm WB q.2.2.2) (h : q.2.1.length ≤ 2 ∧ q.2.2.2.length ≤ 2) : RB (rqv q) 2 := Ra.rb (Ra.rawq hs h) (by decide)
theorem nilL {α : Type} {l : List α} (h : l.length = 0) : l = [] := List.eq_nil_of_length_eq_zero h
theorem small_key {d e : Nat} {v : Vl} (hw : vW1 d v) (hr : rW v) (hf : vF e v = true) : Sh 2 v ∨ (v = vLst v.li ∧ ∃ e', e = e' + 1 ∧ ∀ x ∈ v.li, vF e' x = true) := by
  by_cases hP : vP v = 0
  rotate_left
  · rw [vF_P hP] at hf; cases hf
  have h0 := (vP0 v).1 hP
  obtain ⟨w1, w2, w3, w4, w5, w6, w7, w8⟩ := hw
  obtain ⟨r1, r2, r3, r4, r5, r6, r7⟩ := (rW_iff v).1 hr
  have hk : v.k = 1 ∨ v.k = 2 ∨ v.k = 3 ∨ v.k = 4 ∨ v.k = 5 ∨ v.k = 6 ∨ (v.k ≠ 1 ∧ v.k ≠ 2 ∧ v.k ≠ 3 ∧ v.k ≠ 4 ∧ v.k ≠ 5 ∧ v.k ≠ 6) := by omega
  have q0 : v.k ≠ 1 → v.q = rq0 := fun h => (rq0_iff _).2 (h0.1.resolve_left h)
  have m0 : v.k ≠ 2 → v.r = 0 ∧ v.c = 0 ∧ v.a = [] := fun h => by have := h0.2.1.resolve_left h; exact ⟨this.1, this.2.1, nilL this.2.2⟩
  have p0 : v.k ≠ 3 → v.po = [] := fun h => nilL (h0.2.2.1.resolve_left h)
  have f0 : v.k ≠ 4 → v.fr = 0 ∧ v.fc = 0 ∧ v.fa = [] := fun h => by have := h0.2.2.2.1.resolve_left h; exact ⟨this.1, this.2.1, nilL this.2.2⟩
  have i0 : v.k ≠ 5 → v.ri = [] := fun h => nilL (h0.2.2.2.2.1.resolve_left h)
  have P0 : v.k ≠ 4 → v.k ≠ 5 → v.p = 0 := fun h h' => (h0.2.2.2.2.2.1.resolve_left h).resolve_left h'
  have l0 : v.k ≠ 6 → v.li = [] := fun h => nilL (h0.2.2.2.2.2.2.resolve_left h)
  clear h0
  rcases hk with hk | hk | hk | hk | hk | hk | hk
  · rw [vF_1 hP hk] at hf
    have e1 := (qOk_iff r1).1 hf
    obtain ⟨m1, m2, m3⟩ := m0 (by omega); obtain ⟨f1, f2, f3⟩ := f0 (by omega)
    have p1 := p0 (by omega); have i1 := i0 (by omega); have P1 := P0 (by omega) (by omega); have l1 := l0 (by omega)
    have rb := rqv_b r1 w6
    obtain ⟨k, q, r, c, a, po, p, fr, fc, fa, ri, li⟩ := v
    dsimp only at *
    subst hk m1 m2 m3 f1 f2 f3 p1 i1 P1 l1
    rw [e1]
    exact .inl (.num _ rb)
  · rw [vF_2 hP hk] at hf
    unfold mOk at hf
    rw [Bool.and_eq_true] at hf
    have e1 : ∀ x ∈ v.a, x = cq (rqv x) := fun x hx => (qOk_iff (r2 x hx)).1 (List.all_eq_true.1 hf.1 x hx)
    have e2 := of_decide_eq_true hf.2
    have rb : ∀ y ∈ v.a.map rqv, RB y 2 := fun y hy => by
      obtain ⟨x, hx, rfl⟩ := List.mem_map.1 hy
      exact rqv_b (r2 x hx) (FewP.len (w := 2) w7 x hx)
    have q1 := q0 (by omega); obtain ⟨f1, f2, f3⟩ := f0 (by omega)
    have p1 := p0 (by omega); have i1 := i0 (by omega); have P1 := P0 (by omega) (by omega); have l1 := l0 (by omega)
    obtain ⟨k, q, r, c, a, po, p, fr, fc, fa, ri, li⟩ := v
    dsimp only at *
    subst hk q1 f1 f2 f3 p1 i1 P1 l1
    obtain ⟨n, rfl⟩ : ∃ n : Nat, r = n := ⟨r.toNat, by omega⟩
    obtain ⟨m, rfl⟩ : ∃ m : Nat, c = m := ⟨c.toNat, by omega⟩
    have e3 := map_back (f := cq) (g := rqv) a e1
    have e4 : (a.map rqv).length = n * m := by rw [List.length_map]; have := e2.2.2.2.2; rw [← Int.natCast_mul] at this; omega
    have := Sh.mat n m (a.map rqv) e4 (by omega) (by omega) rb
    unfold vMat at this
    rw [← e3] at this
    exact .inl this
  · rw [vF_3 hP hk] at hf
    unfold pOk at hf
    rw [Bool.and_eq_true] at hf
    have e1 : ∀ x ∈ v.po, x = cz (rzv x) := fun x hx => (zOk_iff (r3 x hx)).1 (List.all_eq_true.1 hf.1 x hx)
    have rb : ∀ y ∈ v.po.map rzv, y.natAbs < WB ^ 2 := fun y hy => by
      obtain ⟨x, hx, rfl⟩ := List.mem_map.1 hy
      exact (ZQ.raw (b := x.1) (r3 x hx) (w1.2 x hx)).b
    have q1 := q0 (by omega); obtain ⟨f1, f2, f3⟩ := f0 (by omega); obtain ⟨m1, m2, m3⟩ := m0 (by omega)
    have i1 := i0 (by omega); have P1 := P0 (by omega) (by omega); have l1 := l0 (by omega)
    obtain ⟨k, q, r, c, a, po, p, fr, fc, fa, ri, li⟩ := v
    dsimp only at *
    subst hk q1 f1 f2 f3 m1 m2 m3 i1 P1 l1
    have e3 := map_back (f := cz) (g := rzv) po e1
    have e4 : pN (po.map rzv) := lz_iff.1 (by rw [← e3]; exact hf.2)
    have := Sh.pol (po.map rzv) (by rw [List.length_map]; omega) e4 rb
    unfold vPol at this
    rw [← e3] at this
    exact .inl this
  · rw [vF_4 hP hk] at hf
    unfold fOk at hf
    rw [Bool.and_eq_true, Bool.and_eq_true, decide_eq_true_iff, ltp_all] at hf
    have e2 := of_decide_eq_true hf.2.2
    have q1 := q0 (by omega); obtain ⟨m1, m2, m3⟩ := m0 (by omega)
    have p1 := p0 (by omega); have i1 := i0 (by omega); have l1 := l0 (by omega)
    obtain ⟨k, q, r, c, a, po, p, fr, fc, fa, ri, li⟩ := v
    dsimp only at *
    subst hk q1 m1 m2 m3 p1 i1 l1
    obtain ⟨n, rfl⟩ : ∃ n : Nat, fr = n := ⟨fr.toNat, by omega⟩
    obtain ⟨m, rfl⟩ : ∃ m : Nat, fc = m := ⟨fc.toNat, by omega⟩
    have e4 : fa.length = n * m := by have := e2.2.2.2.2; rw [← Int.natCast_mul] at this; omega
    exact .inl (.fld p n m fa hf.1 e4 (by omega) (by omega) hf.2.1)
  · rw [vF_5 hP hk] at hf
    unfold rOk at hf
    rw [Bool.and_eq_true, Bool.and_eq_true, decide_eq_true_iff, ltp_all, lw_iff] at hf
    have q1 := q0 (by omega); obtain ⟨m1, m2, m3⟩ := m0 (by omega); obtain ⟨f1, f2, f3⟩ := f0 (by omega)
    have p1 := p0 (by omega); have l1 := l0 (by omega)
    obtain ⟨k, q, r, c, a, po, p, fr, fc, fa, ri, li⟩ := v
    dsimp only at *
    subst hk q1 m1 m2 m3 f1 f2 f3 p1 l1
    exact .inl (.rng p ri hf.1 (by omega) hf.2.2 hf.2.1)
  · have q1 := q0 (by omega); obtain ⟨m1, m2, m3⟩ := m0 (by omega); obtain ⟨f1, f2, f3⟩ := f0 (by omega)
    have p1 := p0 (by omega); have i1 := i0 (by omega); have P1 := P0 (by omega) (by omega)
    cases e with
    | zero => rw [vF_60 hk] at hf; cases hf
    | succ e =>
      rw [vF_6 hP hk, List.all_eq_true] at hf
      obtain ⟨k, q, r, c, a, po, p, fr, fc, fa, ri, li⟩ := v
      dsimp only at *
      subst hk q1 m1 m2 m3 f1 f2 f3 p1 i1 P1
      exact .inr ⟨rfl, e, rfl, hf⟩
  · rw [vF_7 hk] at hf; cases hf
theorem Cv.of : ∀ {d e : Nat} {v : Vl}, vW d v → rW v → vF e v = true → Cv 2 (d + 1) v := by
  intro d
  induction d with
  | zero =>
    intro e v h hr hf
    rcases small_key h.one hr hf with h1 | ⟨h1, e', he, h2⟩
    · exact .one h1
    · rw [h1]; exact .lst v.li (by rw [h.2]; exact Nat.zero_le _) (by rw [h.2]; exact no_mem)
  | succ d ih =>
    intro e v h hr hf
    rcases small_key h.one hr hf with h1 | ⟨h1, e', he, h2⟩
    · exact .one h1
    · rw [h1]
      exact .lst v.li (by have := h.one.2.2.1; omega) fun x hx => ih (h.2 x hx) (((rW_iff v).1 hr).2.2.2.2.2.2 x hx) (h2 x hx)
attribute [local irreducible] IntKind.wrap Go1 Reg WP thenK inBlk retQ retF RetF RetOK ResOK CallOK OpOK Sat
attribute [local irreducible] qsub qmul qquo qcmp qadd qv redS mf PrP qOk zOk vP fp64 lz vF cq rqv plen pNorm
theorem Cv.F {K n : Nat} {v : Vl} (h : Cv K n v) (hK : K ≤ 100000) (hn : n ≤ 15) : PureOK Tryz.prog 28 [.agg (vlA v)] (.v (.bool true)) := by
  have c := con_vFormed (h.z hK)
  rwa [h.f 20 (by omega)] at c
theorem con_Same {K L n m : Nat} {u v : Vl} (hu : Cv K n u) (hv : Cv L m v) (hK : K + L ≤ 100000) (hn : n ≤ 15) (hm : m ≤ 15) : PureOK Tryz.prog 17 [.agg (vlA u), .agg (vlA v)] (.v (.bool (sameV u v))) := by
  have c := con_same hK n m u v hu hv
  have c1 := hu.F (by omega) hn
  have c2 := hv.F (by omega) hm
  refine PureOK.fnF Tryz.func17 Tryz.results17 Tryz.ntmps17 rfl rfl rfl (by simp [AV.ids, AV0.ids, Atom.ids]) rfl (fun w0 T B E0 hB => ?_)
  refine SX.goJ ?_
  exact retB rfl
end Go.Proofs.YtfhpmbenldgfnaaGreatDoor
/- Texts of values: two formed values with the same text are the same. -/
set_option linter.unusedVariables false
set_option linter.unusedSimpArgs false
set_option linter.unusedSectionVars false
namespace Go.Proofs.YtfhpmbenldgfnaaGreatDoor
open Go.RowKit QM SX LA
/-- Texts joined by a sign and a blank. -/
def jn (s : UInt8) : List (List UInt8) → List UInt8
  | [] => []
  | [a] => a
  | a :: b :: l => a ++ (s :: 32 :: jn s (b :: l))
/-- Lists of so many, one behind the other. -/
def chk {α : Type} (c : Nat) : Nat → List α → List (List α)
  | 0, _ => []
  | r + 1, l => l.take c :: chk c r (l.drop c)
/-- A matrix of texts. -/
def tbS (r c : Nat) (l : List (List UInt8)) : List UInt8 :=
  if r = 0 ∨ c = 0 then [122, 101, 114, 111, 40] ++ (decS r ++ ([44, 32] ++ (decS c ++ [41]))) else 91 :: (jn 59 ((chk c r l).map (jn 44)) ++ [93])
def plS (l : List (List UInt8)) : List UInt8 := [112, 111, 108, 121, 40] ++ (jn 44 l ++ [41])
def mdS (s : List UInt8) (p : Nat) : List UInt8 := [109, 111, 100, 40] ++ (s ++ ([44, 32] ++ (decS p ++ [41])))
mutual
/-- A value's text. -/
def tS : Vl → List UInt8
  | ⟨k, q, r, c, a, po, p, fr, fc, fa, ri, li⟩ =>
    if k = 1 then qS (rqv q) else if k = 2 then tbS r.toNat c.toNat (a.map fun x => qS (rqv x)) else if k = 3 then plS (po.map fun x => zS (rzv x))
    else if k = 4 then mdS (tbS fr.toNat fc.toNat (fa.map decS)) p else if k = 5 then mdS (plS (ri.map decS)) p else 123 :: (jn 44 (tL li) ++ [125])
def tL : List Vl → List (List UInt8)
  | [] => []
  | v :: l => tS v :: tL l
end
/-- Numbers' signs. -/
def dgc (c : UInt8) : Prop := 48 ≤ c.toNat ∧ c.toNat ≤ 57
def nmc (c : UInt8) : Prop := c = 45 ∨ c = 47 ∨ dgc c
/-- What may stand behind a text. -/
def Tm (r : List UInt8) : Prop := ∀ c m, r = c :: m → c = 44 ∨ c = 59 ∨ c = 93 ∨ c = 41 ∨ c = 125
/-- Texts that are told apart, whatever stands behind them. -/
def Tell {α : Type} (A : α → Prop) (T : List UInt8 → Prop) (f : α → List UInt8) : Prop := ∀ x y, A x → A y → ∀ r s, T r → T s → f x ++ r = f y ++ s → x = y ∧ r = s
def Cl (c0 : UInt8) (r : List UInt8) : Prop := ∃ m, r = c0 :: m
def Cl2 (r : List UInt8) : Prop := ∃ c m, r = c :: m ∧ (c = 59 ∨ c = 93)
section
variable {α : Type} {f : α → List UInt8} (hf : Tell (fun _ => True) Tm f) (hn : ∀ x, ∃ c m, f x = c :: m ∧ (c = 45 ∨ dgc c))
include hf hn
end
/-- A text's first sign. -/
def kd (v : Vl) (d : UInt8) : Prop := (v.k = 1 ∧ (d = 45 ∨ dgc d)) ∨ (v.k = 2 ∧ (d = 122 ∨ d = 91)) ∨ (v.k = 3 ∧ d = 112) ∨ (v.k = 4 ∧ d = 109) ∨ (v.k = 5 ∧ d = 109) ∨ (v.k = 6 ∧ d = 123)
end Go.Proofs.YtfhpmbenldgfnaaGreatDoor
/- Sums, differences, multiples of numbers, matrices, polynomials; Binary. -/
set_option linter.unusedVariables false
set_option linter.unusedSimpArgs false
namespace Go.Proofs.YtfhpmbenldgfnaaGreatDoor
open Go.RowKit QM SX LA
abbrev mq (vs : List Rat) : List Q4 := (vs.map cq).map rq
abbrev mz (zs : List Int) : List Z2 := (zs.map cz).map rz
theorem mq_len (vs : List Rat) : (mq vs).length = vs.length := by rw [List.length_map, List.length_map]
theorem mz_len (zs : List Int) : (mz zs).length = zs.length := by rw [List.length_map, List.length_map]
attribute [local irreducible] IntKind.wrap Go1 Reg WP thenK inBlk retQ retF RetF RetOK ResOK CallOK OpOK Sat
attribute [local irreducible] qsub qmul qquo qcmp qadd qv redS mf PrP qOk zOk vP fp64 lz vF cq rqv plen pNorm pBoth pScale
/-- Sums and multiples of matrices' numbers. -/
def mAdd (r c : Nat) (vs vs' : List Rat) : List Rat := tabR c (fun i k => vat vs c i k + vat vs' c i k) r
def mScale (r c : Nat) (vs : List Rat) (x : Rat) : List Rat := tabR c (fun i k => vat vs c i k * x) r
def mxMul (r c d : Nat) (vs vs' : List Rat) : List Rat := tabR d (prodV c (vat vs c) (vat vs' d)) r
/-- Of a whole number, its number. -/
theorem con_whl {x : Rat} {K : Nat} (hx : RB x K) (hK : K ≤ 100000) : PureOK Tryz.prog 178 [.agg (q4A (rq (cq x)))] (.tup [.agg (zN (if x.den = 1 then x.num else 0)), .one (.c (.val (.bool (decide (x.den = 1)))))]) := by
  have hl := (vZ0.num hx hK).q.2
  dsimp only at hl
  have h := (con_rWhole (h := ZI.raw (cq x).1 (cq x).2.1) (h' := ZI.raw (cq x).2.2.1 (cq x).2.2.2)).h (by omega)
  unfold rwhole at h
  rw [rmk_q, cq_val'] at h
  have e1 : ((x.den : Int) = 1) ↔ x.den = 1 := by omega
  simp only [e1] at h
  exact h
section
variable {u v w : Vl} {e : Int}
variable (c1 : PureOK Tryz.prog 28 [.agg (vlA u)] (.v (.bool true))) (c2 : PureOK Tryz.prog 28 [.agg (vlA v)] (.v (.bool true)))
include c1 c2
end
end Go.Proofs.YtfhpmbenldgfnaaGreatDoor
/- Comparing numbers; multiples, told by their kinds. -/
set_option linter.unusedVariables false
set_option linter.unusedSimpArgs false
namespace Go.Proofs.YtfhpmbenldgfnaaGreatDoor
open Go.RowKit QM SX LA
theorem RB.nat {n K : Nat} (h : n < WB ^ K) (h1 : 1 ≤ K) : RB ((n : Int) : Rat) K := RB.ofI (z := (n : Int)) (by rw [Int.natAbs_natCast]; exact h) h1
/-- A value that is multiplied. -/
def mulV (i : Int) : Vl → Vl
  | ⟨k, q, r, c, a, po, p, fr, fc, fa, ri, li⟩ => if k = 1 then vNum (i * rqv q) else if k = 2 then vMat r.toNat c.toNat (mScale r.toNat c.toNat (a.map rqv) i) else vPol (pScale (po.map rzv) i)
attribute [local irreducible] IntKind.wrap Go1 Reg WP thenK inBlk retQ retF RetF RetOK ResOK CallOK OpOK Sat
attribute [local irreducible] qsub qmul qquo qcmp qadd qv redS mf PrP qOk zOk vP fp64 lz vF cq rqv plen pNorm pBoth pScale
/-- What the statement asks of a value that may be multiplied. -/
structure Muls (v : Vl) (k : Nat) : Prop where
  a : PureOK Tryz.prog 44 [.agg (vlA (vNum ((k : Int) : Rat))), .agg (vlA v)] (.tup [.agg (vlA (mulV k v)), eNo 0])
  b : PureOK Tryz.prog 44 [.agg (vlA v), .agg (vlA (vNum ((k : Int) : Rat)))] (.tup [.agg (vlA (mulV k v)), eNo 0])
  h : ∃ (w : Vl) (e : Int), PureOK Tryz.prog 44 [.agg (vlA (vNum (1 / 2))), .agg (vlA v)] (.tup [.agg (vlA w), eNo e]) ∧ ((v.k ≠ 3 ∧ e = 0) ∨ (v.k = 3 ∧ e = 5))
  d : PureOK Tryz.prog 48 [.agg (vlA v), .agg (vlA v)] (.tup [.agg (vlA (mulV 0 v)), eNo 0])
  s : ∀ i, i < k → PureOK Tryz.prog 47 [.agg (vlA (mulV (i : Int) v)), .agg (vlA v)] (.tup [.agg (vlA (mulV ((i + 1 : Nat) : Int) v)), eNo 0])
  c : ∀ i, i ≤ k → Cv 4 0 (mulV (i : Int) v)
  kk : ∀ i, (mulV i v).k = v.k
end Go.Proofs.YtfhpmbenldgfnaaGreatDoor
/- The reference's texts of values. -/
set_option linter.unusedVariables false
set_option linter.unusedSimpArgs false
namespace Go.Proofs.YtfhpmbenldgfnaaGreatDoor
open Go.RowKit QM SX LA
def txC (s : List UInt8) : List CA := [.val (str s)]
/-- Texts with signs between them, by their places. -/
def sq (c : Nat) : Nat → List (List UInt8) → List UInt8
  | _, [] => []
  | i, x :: l => (if 0 < i ∧ i % c = 0 then [59, 32] else []) ++ ((if 0 < i % c then [44, 32] else []) ++ (x ++ sq c (i + 1) l))
attribute [local irreducible] IntKind.wrap Go1 Reg WP thenK inBlk retQ retF RetF RetOK ResOK CallOK OpOK Sat
attribute [local irreducible] qsub qmul qquo qcmp qadd qv redS mf PrP qOk zOk vP fp64 lz vF cq rqv plen pNorm pBoth pScale mulV jn sq decS qS zS
theorem wdC_flat (l : List Nat) : l.flatMap wdC = l.map fun x : Nat => CA.val (.int .u64 (x : Int)) := by
  induction l with
  | nil => rfl
  | cons x l ih => rw [List.flatMap_cons, ih]; rfl
theorem rowR_wd (l : List Nat) : rowR 1 wdC l = sliceR 1 l.length (l.map fun x : Nat => CA.val (.int .u64 (x : Int))) := by
  show sliceR 1 l.length (l.flatMap wdC) = _
  rw [wdC_flat]
theorem AtomI.rawrow {l : List Nat} (hs : Sm WB l) : AtomI (.c (.sat (rowR 1 wdC l))) (.c (.sat (rawN l))) := fun E S w v h => by
  rw [rowR_wd] at h; exact rawN_iff.2 ⟨hs, h⟩
theorem AtomI.rowraw {l : List Nat} : AtomI (.c (.sat (rawN l))) (.c (.sat (rowR 1 wdC l))) := fun E S w v h => by
  rw [rowR_wd]; exact (rawN_iff.1 h).2
theorem nval_one (x : Nat) : nval WB [x] = x := by unfold nval nval; omega
end Go.Proofs.YtfhpmbenldgfnaaGreatDoor
/- Values in memory of their own. -/
set_option linter.unusedVariables false
set_option linter.unusedSimpArgs false
namespace Go.Proofs.YtfhpmbenldgfnaaGreatDoor
open Go.RowKit QM SX LA
theorem take_all {α : Type} (l : List α) : l.take l.length = l := List.take_length
theorem flat_step {α β : Type} {enc : β → List CA} {f : α → β} {l : List α} {k : Nat} {x : α} (hx : l[k]? = some x) : ((l.take k).map f).flatMap enc ++ enc (f x) = ((l.take (k + 1)).map f).flatMap enc := by
  rw [take_snoc hx]; simp
theorem AtomI.rowN {α β : Type} {size : Nat} {enc : β → List CA} {f : α → β} {l : List α} : AtomI (.c (.sat (sliceR size l.length ((l.map f).flatMap enc)))) (.c (.sat (rowR size enc (l.map f)))) := by
  show AtomI _ (.c (.sat (sliceR size (l.map f).length _)))
  rw [List.length_map]; exact AtomI.refl _
attribute [local irreducible] IntKind.wrap Go1 Reg WP thenK inBlk retQ retF RetF RetOK ResOK CallOK OpOK Sat
attribute [local irreducible] qsub qmul qquo qcmp qadd qv redS mf PrP qOk zOk vP fp64 lz vF cq rqv plen pNorm pBoth pScale mulV jn sq decS qS zS tS tbS
theorem con_CloneN {l : List Nat} (hs : Sm WB l) (hl : l.length ≤ 1000000) : PureOK Tryz.prog 198 [.it (.one (.c (.sat (rawN l))))] (.it (.one (.c (.sat (rawN l))))) := by
  refine weakArgs (args' := [.r (sliceR 1 l.length (l.flatMap wdC))]) ?_ (fun E S w vs hv => by
    match vs, hv with
    | [u], ⟨h1, _⟩ => exact ⟨AtomI.rowraw E S w u h1, trivial⟩)
  refine PureOK.nilRow (fun h0 => ?_) ?_
  · have : l = [] := List.eq_nil_of_length_eq_zero h0
    subst this
    refine PureOK.fnF Tryz.func198 Tryz.results198 Tryz.ntmps198 rfl rfl rfl (by simp [AV.ids, AV0.ids, Atom.ids]) rfl (fun w0 T B E0 hB => ?_)
    refine SX.goK ?_
    refine ret1' ?_
    exact fun E S w v h => AtomI.nilN E S w v h
  · have mark : OwnLit 5 := ⟨⟩
    refine PureOK.fnF Tryz.func198 Tryz.results198 Tryz.ntmps198 rfl rfl rfl (by simp [AV.ids, AV0.ids, Atom.ids]) rfl (fun w0 T B E0 hB => ?_)
    refine SX.goK ?_
    refine RetF.frz 7 ?_
    refine ret1' ?_
    rw [Nat.zero_add, List.nil_append]
    exact fun E S w v h => AtomI.rawrow hs E S w v h
theorem con_CloneW (l : List Nat) (hl : l.length ≤ 1000000) : PureOK Tryz.prog 182 [.r (rowR 1 wdC l)] (.r (rowR 1 wdC l)) := by
  refine PureOK.nilRow (fun h0 => ?_) ?_
  · have : l = [] := List.eq_nil_of_length_eq_zero h0
    subst this
    refine PureOK.fnF Tryz.func182 Tryz.results182 Tryz.ntmps182 rfl rfl rfl (by simp [AV.ids, AV0.ids, Atom.ids]) rfl (fun w0 T B E0 hB => ?_)
    refine SX.goK ?_
    refine ret1' ?_
    exact fun E S w v h => AtomI.nil E S w v h
  · have mark : OwnLit 5 := ⟨⟩
    refine PureOK.fnF Tryz.func182 Tryz.results182 Tryz.ntmps182 rfl rfl rfl (by simp [AV.ids, AV0.ids, Atom.ids]) rfl (fun w0 T B E0 hB => ?_)
    refine SX.goK ?_
    refine RetF.frz 7 ?_
    refine ret1 ?_
    rw [Nat.zero_add, List.nil_append]
    rfl
theorem con_CloneP (l : List Nat) (hl : l.length ≤ 1000000) : PureOK Tryz.prog 180 [.r (rowR 1 wdC l)] (.r (rowR 1 wdC l)) := by
  refine PureOK.nilRow (fun h0 => ?_) ?_
  · have : l = [] := List.eq_nil_of_length_eq_zero h0
    subst this
    refine PureOK.fnF Tryz.func180 Tryz.results180 Tryz.ntmps180 rfl rfl rfl (by simp [AV.ids, AV0.ids, Atom.ids]) rfl (fun w0 T B E0 hB => ?_)
    refine SX.goK ?_
    refine ret1' ?_
    exact fun E S w v h => AtomI.nil E S w v h
  · have mark : OwnLit 5 := ⟨⟩
    refine PureOK.fnF Tryz.func180 Tryz.results180 Tryz.ntmps180 rfl rfl rfl (by simp [AV.ids, AV0.ids, Atom.ids]) rfl (fun w0 T B E0 hB => ?_)
    refine SX.goK ?_
    refine RetF.frz 7 ?_
    refine ret1 ?_
    rw [Nat.zero_add, List.nil_append]
    rfl
theorem con_alone (b : Bool) {l : List Nat} (hs : Sm WB l) (hl : l.length ≤ 1000000) : PureOK Tryz.prog 181 [.agg [.c (.val (.bool b)), .c (.sat (rawN l))]] (.agg [.c (.val (.bool b)), .c (.sat (rawN l))]) := by
  have c := con_CloneN hs hl
  refine PureOK.fnF Tryz.func181 Tryz.results181 Tryz.ntmps181 rfl rfl rfl (by simp [AV.ids, AV0.ids, Atom.ids]) rfl (fun w0 T B E0 hB => ?_)
  refine SX.goK ?_
  exact retA (ResOK.agg2 rfl rfl rfl) rfl
set_option maxRecDepth 20000 in
set_option maxHeartbeats 4000000 in
theorem con_own1 (v : Vl) (hz : vZ0 v) (hr : ∀ x ∈ v.li, PureOK Tryz.prog 95 [.agg (vlA x)] (.agg (vlA x))) : PureOK Tryz.prog 95 [.agg (vlA v)] (.agg (vlA v)) := by
  have m1 : (v.a.map rq).length = v.a.length := List.length_map _
  have m2 : (v.po.map rz).length = v.po.length := List.length_map _
  have c1 := con_CloneP v.ri (by have := hz.ril; omega)
  have c2 := con_CloneW v.fa (by have := hz.fal; omega)
  have c3 := con_alone v.q.1 hz.q.1.1 (by have := hz.q.2.1; omega)
  have c4 := con_alone v.q.2.2.1 hz.q.1.2 (by have := hz.q.2.2; omega)
  have l1 := hz.al
  have l2 := hz.pol
  have l3 := hz.lil
  rw [vlA_B]
  refine PureOK.fnF Tryz.func95 Tryz.results95 Tryz.ntmps95 rfl rfl rfl (by simp [AV.ids, AV0.ids, Atom.ids]) rfl (fun w0 T B E0 hB => ?_)
  refine SX.goK ?_
  refine W.loop (fun k => k ≤ v.a.length) (fun k => [(1, .ptr 1 0), (2, .ptr 2 0), (3, .ptr 3 0), (38, .r (rowR 4 q4C (v.a.map rq))), (39, .v (.int .i64 (v.a.length : Int))), (40, .v (.int .i64 (k : Int)))]) (fun k => [(1, .box 39 (vlB v)), (2, .box 39 [.c (.val (.int .i64 0)), .c (.val (.bool false)), .c (.val (.slice none 0 0)), .c (.val (.bool false)), .c (.val (.slice none 0 0)), .c (.val (.int .i64 0)), .c (.val (.int .i64 0)), .c (.val (.slice none 0 0)), .c (.val (.slice none 0 0)), .c (.val (.int .u64 0)), .c (.val (.int .i64 0)), .c (.val (.int .i64 0)), .c (.val (.slice none 0 0)), .c (.val (.slice none 0 0)), .c (.val (.slice none 0 0))]), (3, .box 39 [.c (.val (.int .i64 v.k)), .c (.val (.bool v.q.1)), .c (.sat (rawN v.q.2.1)), .c (.val (.bool v.q.2.2.1)), .c (.sat (rawN v.q.2.2.2)), .c (.val (.int .i64 v.r)), .c (.val (.int .i64 v.c)), .own 100, .c (.val (.slice none 0 0)), .c (.val (.int .u64 (v.p : Int))), .c (.val (.int .i64 0)), .c (.val (.int .i64 0)), .c (.val (.slice none 0 0)), .c (.sat (rowR 1 wdC v.ri)), .c (.val (.slice none 0 0))]), (100, .row 27 4 k (((v.a.take k).map rq).flatMap q4C))]) (fun k => v.a.length - k) 0 (Nat.zero_le _) (fun k hk => ?_)
    (by
      refine SX.St.le_to [(100, none)] (by intro b h; cases h) ?_ ?_ rfl
      · repeat (first | exact trivial | refine ⟨⟨_, rfl, SX.AVto.same rfl⟩, ?_⟩ | refine ⟨⟨_, rfl, SX.AVto.int (by omega)⟩, ?_⟩)
      · exact ⟨SX.EntTo.same rfl rfl, SX.EntTo.same rfl rfl, SX.EntTo.boxTo rfl rfl ⟨AtomTo.same rfl, AtomTo.same rfl, AtomTo.same rfl, AtomTo.same rfl, AtomTo.same rfl, AtomTo.same rfl, AtomTo.same rfl, AtomTo.nil rfl, AtomTo.same rfl, AtomTo.same rfl, AtomTo.same rfl, AtomTo.same rfl, AtomTo.same rfl, AtomTo.same rfl, AtomTo.same rfl, trivial⟩, SX.EntTo.nilRow rfl, trivial⟩)
  by_cases h : k < v.a.length
  · obtain ⟨x, hx⟩ : ∃ x, v.a[k]? = some x := ⟨_, List.getElem?_eq_getElem h⟩
    have hx' : (v.a.map rq)[k]? = some (rq x) := by rw [List.getElem?_map, hx]; rfl
    have h' : k < (v.a.map rq).length := by omega
    have hs := hz.a x (List.mem_of_getElem? hx)
    have a1 := con_alone x.1 hs.1.1 (by have := hs.2.1; omega)
    have a2 := con_alone x.2.2.1 hs.1.2 (by have := hs.2.2; omega)
    have e2 := flat_step (enc := q4C) (f := rq) hx
    refine SX.goK ?_
    refine W.next (k + 1) h (by omega) (by
      refine SX.St.le_to [(100, some 55)] (by intro b h; cases h) ?_ ?_ rfl
      · repeat (first | exact trivial | refine ⟨⟨_, rfl, SX.AVto.same rfl⟩, ?_⟩)
      · exact ⟨SX.EntTo.same rfl rfl, SX.EntTo.same rfl rfl, SX.EntTo.boxTo rfl rfl ⟨AtomTo.same rfl, AtomTo.same rfl, AtomTo.same rfl, AtomTo.same rfl, AtomTo.same rfl, AtomTo.same rfl, AtomTo.same rfl, AtomTo.own rfl, AtomTo.same rfl, AtomTo.same rfl, AtomTo.same rfl, AtomTo.same rfl, AtomTo.same rfl, AtomTo.same rfl, AtomTo.same rfl, trivial⟩, SX.EntTo.row rfl rfl rfl e2, trivial⟩)
  obtain rfl : k = v.a.length := by omega
  rw [take_all]
  refine SX.WP.freeze 100 hB rfl ?_
  refine SX.goK ?_
  refine W.loop (fun k => k ≤ v.po.length) (fun k => [(1, .ptr 1 0), (2, .ptr 2 0), (3, .ptr 3 0), (60, .r (rowR 2 z2C (v.po.map rz))), (61, .v (.int .i64 (v.po.length : Int))), (62, .v (.int .i64 (k : Int)))]) (fun k => [(1, .box 39 (vlB v)), (2, .box 39 [.c (.val (.int .i64 0)), .c (.val (.bool false)), .c (.val (.slice none 0 0)), .c (.val (.bool false)), .c (.val (.slice none 0 0)), .c (.val (.int .i64 0)), .c (.val (.int .i64 0)), .c (.val (.slice none 0 0)), .c (.val (.slice none 0 0)), .c (.val (.int .u64 0)), .c (.val (.int .i64 0)), .c (.val (.int .i64 0)), .c (.val (.slice none 0 0)), .c (.val (.slice none 0 0)), .c (.val (.slice none 0 0))]), (3, .box 39 [.c (.val (.int .i64 v.k)), .c (.val (.bool v.q.1)), .c (.sat (rawN v.q.2.1)), .c (.val (.bool v.q.2.2.1)), .c (.sat (rawN v.q.2.2.2)), .c (.val (.int .i64 v.r)), .c (.val (.int .i64 v.c)), .c (.sat (sliceR 4 v.a.length ((v.a.map rq).flatMap q4C))), .own 100, .c (.val (.int .u64 (v.p : Int))), .c (.val (.int .i64 0)), .c (.val (.int .i64 0)), .c (.val (.slice none 0 0)), .c (.sat (rowR 1 wdC v.ri)), .c (.val (.slice none 0 0))]), (100, .row 25 2 k (((v.po.take k).map rz).flatMap z2C))]) (fun k => v.po.length - k) 0 (Nat.zero_le _) (fun k hk => ?_)
    (by
      refine SX.St.le_to [(100, none)] (by intro b h; cases h) ?_ ?_ rfl
      · repeat (first | exact trivial | refine ⟨⟨_, rfl, SX.AVto.same rfl⟩, ?_⟩ | refine ⟨⟨_, rfl, SX.AVto.int (by omega)⟩, ?_⟩)
      · exact ⟨SX.EntTo.same rfl rfl, SX.EntTo.same rfl rfl, SX.EntTo.boxTo rfl rfl ⟨AtomTo.same rfl, AtomTo.same rfl, AtomTo.same rfl, AtomTo.same rfl, AtomTo.same rfl, AtomTo.same rfl, AtomTo.same rfl, AtomTo.same rfl, AtomTo.nil rfl, AtomTo.same rfl, AtomTo.same rfl, AtomTo.same rfl, AtomTo.same rfl, AtomTo.same rfl, AtomTo.same rfl, trivial⟩, SX.EntTo.nilRow rfl, trivial⟩)
  by_cases h : k < v.po.length
  · obtain ⟨x, hx⟩ : ∃ x, v.po[k]? = some x := ⟨_, List.getElem?_eq_getElem h⟩
    have hx' : (v.po.map rz)[k]? = some (rz x) := by rw [List.getElem?_map, hx]; rfl
    have h' : k < (v.po.map rz).length := by omega
    have hs := hz.po x (List.mem_of_getElem? hx)
    have a1 := con_alone x.1 hs.1 (by have := hs.2; omega)
    have e2 := flat_step (enc := z2C) (f := rz) hx
    refine SX.goK ?_
    refine W.next (k + 1) h (by omega) (by
      refine SX.St.le_to [(100, some 71)] (by intro b h; cases h) ?_ ?_ rfl
      · repeat (first | exact trivial | refine ⟨⟨_, rfl, SX.AVto.same rfl⟩, ?_⟩)
      · exact ⟨SX.EntTo.same rfl rfl, SX.EntTo.same rfl rfl, SX.EntTo.boxTo rfl rfl ⟨AtomTo.same rfl, AtomTo.same rfl, AtomTo.same rfl, AtomTo.same rfl, AtomTo.same rfl, AtomTo.same rfl, AtomTo.same rfl, AtomTo.same rfl, AtomTo.own rfl, AtomTo.same rfl, AtomTo.same rfl, AtomTo.same rfl, AtomTo.same rfl, AtomTo.same rfl, AtomTo.same rfl, trivial⟩, SX.EntTo.row rfl rfl rfl e2, trivial⟩)
  obtain rfl : k = v.po.length := by omega
  rw [take_all]
  refine SX.WP.freeze 100 hB rfl ?_
  refine SX.goK ?_
  refine W.loop (fun k => k ≤ v.li.length) (fun k => [(1, .ptr 1 0), (2, .ptr 2 0), (3, .ptr 3 0), (87, .r (rowR 15 vlE v.li)), (88, .v (.int .i64 (v.li.length : Int))), (89, .v (.int .i64 (k : Int)))]) (fun k => [(1, .box 39 (vlB v)), (2, .box 39 [.c (.val (.int .i64 0)), .c (.val (.bool false)), .c (.val (.slice none 0 0)), .c (.val (.bool false)), .c (.val (.slice none 0 0)), .c (.val (.int .i64 0)), .c (.val (.int .i64 0)), .c (.val (.slice none 0 0)), .c (.val (.slice none 0 0)), .c (.val (.int .u64 0)), .c (.val (.int .i64 0)), .c (.val (.int .i64 0)), .c (.val (.slice none 0 0)), .c (.val (.slice none 0 0)), .c (.val (.slice none 0 0))]), (3, .box 39 [.c (.val (.int .i64 v.k)), .c (.val (.bool v.q.1)), .c (.sat (rawN v.q.2.1)), .c (.val (.bool v.q.2.2.1)), .c (.sat (rawN v.q.2.2.2)), .c (.val (.int .i64 v.r)), .c (.val (.int .i64 v.c)), .c (.sat (sliceR 4 v.a.length ((v.a.map rq).flatMap q4C))), .c (.sat (sliceR 2 v.po.length ((v.po.map rz).flatMap z2C))), .c (.val (.int .u64 (v.p : Int))), .c (.val (.int .i64 v.fr)), .c (.val (.int .i64 v.fc)), .c (.sat (rowR 1 wdC v.fa)), .c (.sat (rowR 1 wdC v.ri)), .own 100]), (100, .row 39 15 k ((v.li.take k).flatMap vlE))]) (fun k => v.li.length - k) 0 (Nat.zero_le _) (fun k hk => ?_)
    (by
      refine SX.St.le_to [(100, none)] (by intro b h; cases h) ?_ ?_ rfl
      · repeat (first | exact trivial | refine ⟨⟨_, rfl, SX.AVto.same rfl⟩, ?_⟩ | refine ⟨⟨_, rfl, SX.AVto.int (by omega)⟩, ?_⟩)
      · exact ⟨SX.EntTo.same rfl rfl, SX.EntTo.same rfl rfl, SX.EntTo.boxTo rfl rfl ⟨AtomTo.same rfl, AtomTo.same rfl, AtomTo.same rfl, AtomTo.same rfl, AtomTo.same rfl, AtomTo.same rfl, AtomTo.same rfl, AtomTo.same rfl, AtomTo.same rfl, AtomTo.same rfl, AtomTo.same rfl, AtomTo.same rfl, AtomTo.same rfl, AtomTo.same rfl, AtomTo.nil rfl, trivial⟩, SX.EntTo.nilRow rfl, trivial⟩)
  by_cases h : k < v.li.length
  · obtain ⟨x, hx⟩ : ∃ x, v.li[k]? = some x := ⟨_, List.getElem?_eq_getElem h⟩
    have a1 := hr x (List.mem_of_getElem? hx)
    have e2 : (v.li.take k).flatMap vlE ++ vlE x = (v.li.take (k + 1)).flatMap vlE := by rw [take_snoc hx]; simp
    refine SX.goK ?_
    refine W.next (k + 1) h (by omega) (by
      refine SX.St.le_to [(100, some 98)] (by intro b h; cases h) ?_ ?_ rfl
      · repeat (first | exact trivial | refine ⟨⟨_, rfl, SX.AVto.same rfl⟩, ?_⟩)
      · exact ⟨SX.EntTo.same rfl rfl, SX.EntTo.same rfl rfl, SX.EntTo.boxTo rfl rfl ⟨AtomTo.same rfl, AtomTo.same rfl, AtomTo.same rfl, AtomTo.same rfl, AtomTo.same rfl, AtomTo.same rfl, AtomTo.same rfl, AtomTo.same rfl, AtomTo.same rfl, AtomTo.same rfl, AtomTo.same rfl, AtomTo.same rfl, AtomTo.same rfl, AtomTo.same rfl, AtomTo.own rfl, trivial⟩, SX.EntTo.row rfl rfl rfl e2, trivial⟩)
  obtain rfl : k = v.li.length := by omega
  rw [take_all]
  refine SX.WP.freeze 100 hB rfl ?_
  refine SX.goK ?_
  refine retAi (ResOK.agg15 rfl rfl rfl) ?_
  exact imp_agg ⟨AtomI.refl _, AtomI.refl _, AtomI.refl _, AtomI.refl _, AtomI.refl _, AtomI.refl _, AtomI.refl _, AtomI.rowN, AtomI.rowN, AtomI.refl _, AtomI.refl _, AtomI.refl _, AtomI.refl _, AtomI.refl _, AtomI.refl _, trivial⟩
theorem con_own : ∀ (n : Nat) (v : Vl), vZ n v → PureOK Tryz.prog 95 [.agg (vlA v)] (.agg (vlA v)) := by
  intro n
  induction n with
  | zero => intro v hv; exact con_own1 v hv.z fun x hx => by rw [hv.2] at hx; cases hx
  | succ n ih => intro v hv; exact con_own1 v hv.z fun x hx => ih x (hv.2 x hx)
end Go.Proofs.YtfhpmbenldgfnaaGreatDoor
/- The statement ValueMultiples answers true. -/
set_option linter.unusedVariables false
set_option linter.unusedSimpArgs false
namespace Go.Proofs.YtfhpmbenldgfnaaGreatDoor
open Go.RowKit QM SX LA
attribute [local irreducible] IntKind.wrap Go1 Reg WP thenK inBlk retQ retF RetF RetOK ResOK CallOK OpOK Sat
attribute [local irreducible] qsub qmul qquo qcmp qadd qv redS mf PrP qOk zOk vP fp64 lz vF cq rqv plen pNorm pBoth pScale mulV vW
theorem con_fewT {u v : Vl} (hu : vW 3 u) (hv : vW 3 v) : PureOK Tryz.prog 12 [.agg (vlA u), .agg (vlA v)] (.v (.bool true)) := by
  have c1 := (con_Few29 3 u (by decide)).1 hu
  have c2 := (con_Few29 3 v (by decide)).1 hv
  refine PureOK.fnF Tryz.func12 Tryz.results12 Tryz.ntmps12 rfl rfl rfl (by simp [AV.ids, AV0.ids, Atom.ids]) rfl (fun w0 T B E0 hB => ?_)
  refine SX.goJ ?_
  exact retB rfl
theorem con_fewF {u v : Vl} (h : ¬ (vW 3 u ∧ vW 3 v)) : PureOK Tryz.prog 12 [.agg (vlA u), .agg (vlA v)] (.v (.bool false)) := by
  by_cases hu : vW 3 u
  · have c1 := (con_Few29 3 u (by decide)).1 hu
    have c2 := (con_Few29 3 v (by decide)).2 fun hv => h ⟨hu, hv⟩
    refine PureOK.fnF Tryz.func12 Tryz.results12 Tryz.ntmps12 rfl rfl rfl (by simp [AV.ids, AV0.ids, Atom.ids]) rfl (fun w0 T B E0 hB => ?_)
    refine SX.goJ ?_
    exact retB rfl
  · have c1 := (con_Few29 3 u (by decide)).2 hu
    refine PureOK.fnF Tryz.func12 Tryz.results12 Tryz.ntmps12 rfl rfl rfl (by simp [AV.ids, AV0.ids, Atom.ids]) rfl (fun w0 T B E0 hB => ?_)
    refine SX.goJ ?_
    exact retB rfl
theorem of_nat (k : Nat) (hk : k ≤ 4611686018427387903) : PureOK Tryz.prog 23 [.v (.int .i64 (k : Int))] (.agg (zN (k : Int))) := con_zOf.h ⟨by omega, by omega⟩
theorem whole_nat (k : Nat) (hk : k ≤ 4611686018427387903) : PureOK Tryz.prog 22 [.agg (zN (k : Int))] (.agg (vlA (vNum ((k : Int) : Rat)))) := con_Whole (K := 1) (z := (k : Int)) (ZQ.made (by rw [Nat.pow_one, WB_eq, Int.natAbs_natCast]; omega)) (by decide) (by decide)
section
variable (n : Int) {k : Nat} (hn : n.tmod 7 = (k : Int)) (hk : k ≤ 6) {v : Vl}
include hn hk
end
end Go.Proofs.YtfhpmbenldgfnaaGreatDoor
/- Parts of values. -/
set_option linter.unusedVariables false
set_option linter.unusedSimpArgs false
set_option linter.unusedSectionVars false
namespace Go.Proofs.YtfhpmbenldgfnaaGreatDoor
open Go.RowKit QM SX LA
/-- Whole numbers as values. -/
abbrev nL (zs : List Int) : List Vl := zs.map fun z => vNum ((z : Int) : Rat)
def Sml (zs : List Int) : Prop := ∀ z ∈ zs, -1000 ≤ z ∧ z ≤ 1000
theorem sml_bd {z : Int} (h : -1000 ≤ z ∧ z ≤ 1000) : z.natAbs < WB ^ 1 := by rw [Nat.pow_one, WB_eq]; omega
theorem sml_RB {z : Int} (h : -1000 ≤ z ∧ z ≤ 1000) : RB (z : Rat) 1 := RB.ofI (sml_bd h) (Nat.le_refl 1)
attribute [local irreducible] IntKind.wrap Go1 Reg WP thenK inBlk retQ retF RetF RetOK ResOK CallOK OpOK Sat
attribute [local irreducible] qsub qmul qquo qcmp qadd qv redS mf PrP qOk zOk vP fp64 lz vF cq rqv plen pNorm pBoth pScale mulV jn sq decS qS zS tS tbS
theorem con_places {zs : List Int} (hz : Sml zs) (hl : zs.length ≤ 1000) : PureOK Tryz.prog 90 [.r (rowR 15 vlE (nL zs))] (.tup [.one (.c (.sat (rowR 1 i64C zs))), .one (.c (.val (.bool true)))]) := by
  have hlen : (nL zs).length = zs.length := List.length_map _
  refine PureOK.fnF Tryz.func90 Tryz.results90 Tryz.ntmps90 rfl rfl rfl (by simp [AV.ids, AV0.ids, Atom.ids]) rfl (fun w0 T B E0 hB => ?_)
  refine SX.goK ?_
  refine W.loop (fun k => k ≤ zs.length) (fun k => [(4, .own 100), (11, .r (rowR 15 vlE (nL zs))), (12, .v (.int .i64 (zs.length : Int))), (13, .v (.int .i64 (k : Int)))]) (fun k => [(100, .row 3 1 k ((zs.take k).flatMap i64C))]) (fun k => zs.length - k) 0 (Nat.zero_le _) (fun k hk => ?_)
    (by
      refine SX.St.le_to [(100, none)] (by intro b h; cases h) ?_ ?_ rfl
      · repeat (first | exact trivial | refine ⟨⟨_, rfl, SX.AVto.same rfl⟩, ?_⟩ | refine ⟨⟨_, rfl, SX.AVto.nil rfl⟩, ?_⟩ | refine ⟨⟨_, rfl, SX.AVto.int (by omega)⟩, ?_⟩)
      · exact ⟨SX.EntTo.nilRow rfl, trivial⟩)
  by_cases h : k < zs.length
  · obtain ⟨x, hx⟩ : ∃ x, zs[k]? = some x := ⟨_, List.getElem?_eq_getElem h⟩
    have hs := hz x (List.mem_of_getElem? hx)
    have hx' : (nL zs)[k]? = some (vNum (x : Rat)) := by rw [List.getElem?_map, hx]; rfl
    have h' : k < (nL zs).length := by omega
    have cw := con_whl (sml_RB hs) (by decide)
    rw [if_pos (Rat.den_intCast x), decide_eq_true (Rat.den_intCast x), Rat.num_intCast] at cw
    have ok : i64ok x = true := by unfold i64ok; rw [Bool.and_eq_true, decide_eq_true_iff, decide_eq_true_iff]; omega
    have cS := zSmall (l := zN x) (h := (ZQ.made (sml_bd hs)).zi) (by decide)
    unfold i64of at cS
    rw [ok] at cS
    have e2 : (zs.take k).flatMap i64C ++ i64C x = (zs.take (k + 1)).flatMap i64C := by rw [take_snoc hx]; simp
    refine SX.goK ?_
    refine W.next (k + 1) h (by omega) (by
      refine SX.St.le_to [(100, some 43)] (by intro b h; cases h) ?_ ?_ rfl
      · repeat (first | exact trivial | refine ⟨⟨_, rfl, SX.AVto.same rfl⟩, ?_⟩ | refine ⟨⟨_, rfl, SX.AVto.own rfl⟩, ?_⟩)
      · exact ⟨SX.EntTo.row rfl rfl rfl e2, trivial⟩)
  · obtain rfl : k = zs.length := by omega
    rw [take_all]
    refine SX.goK ?_
    refine RetF.frz 100 ?_
    exact .ok (RetOK.mk2 (ResOK.tmp rfl) (ResOK.tmp rfl))
/-- How many places a value's items have. -/
def wtd (k : Int) : Nat := if k = 2 ∨ k = 4 then 2 else if k = 3 ∨ k = 5 ∨ k = 6 then 1 else 0
theorem con_wanted (v : Vl) : PureOK Tryz.prog 91 [.agg (vlA v)] (.v (.int .i64 (wtd v.k : Int))) := by
  unfold wtd
  refine PureOK.fnF Tryz.func91 Tryz.results91 Tryz.ntmps91 rfl rfl rfl (by simp [AV.ids, AV0.ids, Atom.ids]) rfl (fun w0 T B E0 hB => ?_)
  by_cases h1 : v.k = 2
  · rw [if_pos (.inl h1)]
    refine SX.goK ?_
    exact retI rfl
  by_cases h2 : v.k = 4
  · rw [if_pos (.inr h2)]
    refine SX.goK ?_
    exact retI rfl
  rw [if_neg (by omega)]
  by_cases h3 : v.k = 3
  · rw [if_pos (.inl h3)]
    refine SX.goK ?_
    exact retI rfl
  by_cases h4 : v.k = 5
  · rw [if_pos (.inr (.inl h4))]
    refine SX.goK ?_
    exact retI rfl
  by_cases h5 : v.k = 6
  · rw [if_pos (.inr (.inr h5))]
    refine SX.goK ?_
    exact retI rfl
  rw [if_neg (by omega)]
  refine SX.goK ?_
  exact retI rfl
theorem con_in2 (v : Vl) (h : v.k = 2) (i k : Int) : PureOK Tryz.prog 92 [.agg (vlA v), .r (rowR 1 i64C [i, k])] (.v (.bool (decide (1 ≤ i ∧ i ≤ v.r ∧ 1 ≤ k ∧ k ≤ v.c)))) := by
  have i0 : ([i, k] : List Int)[0]? = some i := rfl
  have i1 : ([i, k] : List Int)[1]? = some k := rfl
  have il : ([i, k] : List Int).length = 2 := rfl
  refine PureOK.fnF Tryz.func92 Tryz.results92 Tryz.ntmps92 rfl rfl rfl (by simp [AV.ids, AV0.ids, Atom.ids]) rfl (fun w0 T B E0 hB => ?_)
  by_cases h1 : i ≥ 1
  · by_cases h2 : i ≤ v.r
    · by_cases h3 : k ≥ 1
      · refine SX.goK ?_
        refine retB ?_; rw [decide_eq_decide]; omega
      · refine SX.goK ?_
        refine retB ?_; exact (decide_eq_false fun h => h3 h.2.2.1).symm
    · refine SX.goK ?_
      refine retB ?_; exact (decide_eq_false fun h => h2 h.2.1).symm
  · refine SX.goK ?_
    refine retB ?_; exact (decide_eq_false fun h => h1 h.1).symm
theorem con_in4 (v : Vl) (h : v.k = 4) (i k : Int) : PureOK Tryz.prog 92 [.agg (vlA v), .r (rowR 1 i64C [i, k])] (.v (.bool (decide (1 ≤ i ∧ i ≤ v.fr ∧ 1 ≤ k ∧ k ≤ v.fc)))) := by
  have i0 : ([i, k] : List Int)[0]? = some i := rfl
  have i1 : ([i, k] : List Int)[1]? = some k := rfl
  have il : ([i, k] : List Int).length = 2 := rfl
  refine PureOK.fnF Tryz.func92 Tryz.results92 Tryz.ntmps92 rfl rfl rfl (by simp [AV.ids, AV0.ids, Atom.ids]) rfl (fun w0 T B E0 hB => ?_)
  by_cases h1 : i ≥ 1
  · by_cases h2 : i ≤ v.fr
    · by_cases h3 : k ≥ 1
      · refine SX.goK ?_
        refine retB ?_; rw [decide_eq_decide]; omega
      · refine SX.goK ?_
        refine retB ?_; exact (decide_eq_false fun h => h3 h.2.2.1).symm
    · refine SX.goK ?_
      refine retB ?_; exact (decide_eq_false fun h => h2 h.2.1).symm
  · refine SX.goK ?_
    refine retB ?_; exact (decide_eq_false fun h => h1 h.1).symm
theorem con_in6 (v : Vl) (h : v.k = 6) (i : Int) : PureOK Tryz.prog 92 [.agg (vlA v), .r (rowR 1 i64C [i])] (.v (.bool (decide (1 ≤ i ∧ i ≤ (v.li.length : Int))))) := by
  have i0 : ([i] : List Int)[0]? = some i := rfl
  have il : ([i] : List Int).length = 1 := rfl
  refine PureOK.fnF Tryz.func92 Tryz.results92 Tryz.ntmps92 rfl rfl rfl (by simp [AV.ids, AV0.ids, Atom.ids]) rfl (fun w0 T B E0 hB => ?_)
  by_cases h1 : i ≥ 1
  · refine SX.goK ?_
    refine retB ?_; rw [decide_eq_decide]; omega
  · refine SX.goK ?_
    refine retB ?_; exact (decide_eq_false fun h => h1 h.1).symm
theorem con_in3 (v : Vl) (h : v.k = 3 ∨ v.k = 5) (i : Int) : PureOK Tryz.prog 92 [.agg (vlA v), .r (rowR 1 i64C [i])] (.v (.bool (decide (0 ≤ i)))) := by
  have i0 : ([i] : List Int)[0]? = some i := rfl
  have il : ([i] : List Int).length = 1 := rfl
  have h2 : v.k ≠ 2 ∧ v.k ≠ 4 ∧ v.k ≠ 6 := by omega
  refine PureOK.fnF Tryz.func92 Tryz.results92 Tryz.ntmps92 rfl rfl rfl (by simp [AV.ids, AV0.ids, Atom.ids]) rfl (fun w0 T B E0 hB => ?_)
  refine SX.goK ?_
  refine retB ?_; rw [decide_eq_decide]
theorem con_vword {x : Nat} (hx : x < WB) : PureOK Tryz.prog 94 [.v (.int .u64 (x : Int))] (.agg (vlA (vNum ((x : Int) : Rat)))) := by
  have hs : Sm WB [x] := Sm.cons hx Sm.nil
  have c0 := con_Whole (ZQ.raw (b := false) (l := [x]) (K := 1) hs (Nat.le_refl 1)) (Nat.le_refl 1) (by decide)
  rw [show sgn false (nval WB [x]) = (x : Int) by rw [nval_one]; rfl] at c0
  have c := args_agg (l := [.c (.val (.bool false)), .c (.sat (rowR 1 wdC [x]))]) c0 ⟨AtomI.refl _, AtomI.rawrow hs, trivial⟩
  refine PureOK.fnF Tryz.func94 Tryz.results94 Tryz.ntmps94 rfl rfl rfl (by simp [AV.ids, AV0.ids, Atom.ids]) rfl (fun w0 T B E0 hB => ?_)
  refine SX.goK ?_
  refine retAi (ResOK.agg15 rfl rfl rfl) ?_
  exact AV0.imp.refl _
section
variable {v : Vl} {zs : List Int} (hF : PureOK Tryz.prog 28 [.agg (vlA v)] (.v (.bool true))) (hN : ∀ z ∈ zs, PureOK Tryz.prog 28 [.agg (vlA (vNum ((z : Int) : Rat)))] (.v (.bool true)))
  (hP : PureOK Tryz.prog 90 [.r (rowR 15 vlE (nL zs))] (.tup [.one (.c (.sat (rowR 1 i64C zs))), .one (.c (.val (.bool true)))])) (hl : zs.length ≤ 1000) {n : Nat} (hw : PureOK Tryz.prog 91 [.agg (vlA v)] (.v (.int .i64 (n : Int))))
include hF hN hP hl hw
theorem itm_type (h0 : zs.length = 0 ∨ zs.length ≠ n) : PureOK Tryz.prog 40 [.agg (vlA v), .r (rowR 15 vlE (nL zs))] (.tup [.agg (vlA v0), eNo 5]) := by
  have hlen : (nL zs).length = zs.length := List.length_map _
  rw [vlA_B v] at hF hw
  rw [vlA_B v]
  refine PureOK.fnF Tryz.func40 Tryz.results40 Tryz.ntmps40 rfl rfl rfl (by simp [AV.ids, AV0.ids, Atom.ids]) rfl (fun w0 T B E0 hB => ?_)
  refine SX.goK ?_
  refine W.loop (fun k => k ≤ zs.length) (fun k => [(1, .r (rowR 15 vlE (nL zs))), (2, .ptr 2 0), (4, .ptr 4 0), (5, .v (.int .i64 0)), (14, .r (rowR 15 vlE (nL zs))), (15, .v (.int .i64 (zs.length : Int))), (16, .v (.int .i64 (k : Int)))]) (fun k => [(2, .box 39 (vlB v)), (4, .box 39 [.c (.val (.int .i64 0)), .c (.val (.bool false)), .c (.val (.slice none 0 0)), .c (.val (.bool false)), .c (.val (.slice none 0 0)), .c (.val (.int .i64 0)), .c (.val (.int .i64 0)), .c (.val (.slice none 0 0)), .c (.val (.slice none 0 0)), .c (.val (.int .u64 0)), .c (.val (.int .i64 0)), .c (.val (.int .i64 0)), .c (.val (.slice none 0 0)), .c (.val (.slice none 0 0)), .c (.val (.slice none 0 0))])]) (fun k => zs.length - k) 0 (Nat.zero_le _) (fun k hk => ?_)
    (by
      refine SX.St.le_to [] (by intro b h; cases h) ?_ ?_ rfl
      · repeat (first | exact trivial | refine ⟨⟨_, rfl, SX.AVto.same rfl⟩, ?_⟩ | refine ⟨⟨_, rfl, SX.AVto.int (by omega)⟩, ?_⟩)
      · exact ⟨SX.EntTo.same rfl rfl, SX.EntTo.same rfl rfl, trivial⟩)
  by_cases h : k < zs.length
  · obtain ⟨x, hx⟩ : ∃ x, zs[k]? = some x := ⟨_, List.getElem?_eq_getElem h⟩
    have hx' : (nL zs)[k]? = some (vNum (x : Rat)) := by rw [List.getElem?_map, hx]; rfl
    have h' : k < (nL zs).length := by omega
    have cx := hN x (List.mem_of_getElem? hx)
    refine SX.goK ?_
    exact W.next (k + 1) h (by omega)
  obtain rfl : k = zs.length := by omega
  clear hN
  by_cases h1 : zs.length = 0
  · refine SX.goK ?_
    refine .ok (RetOK.mk2 ((ResOK.agg15 rfl rfl rfl).imp ?_) (ResOK.tmp rfl))
    exact imp_none
  · have h2 := h0.resolve_left h1
    refine SX.goK ?_
    refine .ok (RetOK.mk2 ((ResOK.agg15 rfl rfl rfl).imp ?_) (ResOK.tmp rfl))
    exact imp_none
theorem itm_dom (h1 : zs.length ≠ 0) (h2 : zs.length = n) (hI : PureOK Tryz.prog 92 [.agg (vlA v), .r (rowR 1 i64C zs)] (.v (.bool false))) : PureOK Tryz.prog 40 [.agg (vlA v), .r (rowR 15 vlE (nL zs))] (.tup [.agg (vlA v0), eNo 3]) := by
  rw [vlA_B v] at hI
  have hlen : (nL zs).length = zs.length := List.length_map _
  rw [vlA_B v] at hF hw
  rw [vlA_B v]
  refine PureOK.fnF Tryz.func40 Tryz.results40 Tryz.ntmps40 rfl rfl rfl (by simp [AV.ids, AV0.ids, Atom.ids]) rfl (fun w0 T B E0 hB => ?_)
  refine SX.goK ?_
  refine W.loop (fun k => k ≤ zs.length) (fun k => [(1, .r (rowR 15 vlE (nL zs))), (2, .ptr 2 0), (4, .ptr 4 0), (5, .v (.int .i64 0)), (14, .r (rowR 15 vlE (nL zs))), (15, .v (.int .i64 (zs.length : Int))), (16, .v (.int .i64 (k : Int)))]) (fun k => [(2, .box 39 (vlB v)), (4, .box 39 [.c (.val (.int .i64 0)), .c (.val (.bool false)), .c (.val (.slice none 0 0)), .c (.val (.bool false)), .c (.val (.slice none 0 0)), .c (.val (.int .i64 0)), .c (.val (.int .i64 0)), .c (.val (.slice none 0 0)), .c (.val (.slice none 0 0)), .c (.val (.int .u64 0)), .c (.val (.int .i64 0)), .c (.val (.int .i64 0)), .c (.val (.slice none 0 0)), .c (.val (.slice none 0 0)), .c (.val (.slice none 0 0))])]) (fun k => zs.length - k) 0 (Nat.zero_le _) (fun k hk => ?_)
    (by
      refine SX.St.le_to [] (by intro b h; cases h) ?_ ?_ rfl
      · repeat (first | exact trivial | refine ⟨⟨_, rfl, SX.AVto.same rfl⟩, ?_⟩ | refine ⟨⟨_, rfl, SX.AVto.int (by omega)⟩, ?_⟩)
      · exact ⟨SX.EntTo.same rfl rfl, SX.EntTo.same rfl rfl, trivial⟩)
  by_cases h : k < zs.length
  · obtain ⟨x, hx⟩ : ∃ x, zs[k]? = some x := ⟨_, List.getElem?_eq_getElem h⟩
    have hx' : (nL zs)[k]? = some (vNum (x : Rat)) := by rw [List.getElem?_map, hx]; rfl
    have h' : k < (nL zs).length := by omega
    have cx := hN x (List.mem_of_getElem? hx)
    refine SX.goK ?_
    exact W.next (k + 1) h (by omega)
  obtain rfl : k = zs.length := by omega
  clear hN
  refine SX.goK ?_
  refine .ok (RetOK.mk2 ((ResOK.agg15 rfl rfl rfl).imp ?_) (ResOK.tmp rfl))
  exact imp_none
end
theorem Sml.fm {zs : List Int} (h : Sml zs) : ∀ z ∈ zs, PureOK Tryz.prog 28 [.agg (vlA (vNum ((z : Int) : Rat)))] (.v (.bool true)) := fun z hz => (Cv.one (n := 0) (.num _ (sml_RB (h z hz)) : Sh 1 (vNum (z : Rat)))).F (by decide) (by decide)
theorem Sml.two {i k : Int} (hi : -1000 ≤ i ∧ i ≤ 1000) (hk : -1000 ≤ k ∧ k ≤ 1000) : Sml [i, k] := fun z hz => by
  rw [List.mem_cons, List.mem_singleton] at hz
  rcases hz with rfl | rfl
  · exact hi
  · exact hk
theorem Sml.one {i : Int} (hi : -1000 ≤ i ∧ i ≤ 1000) : Sml [i] := fun z hz => by
  rw [List.mem_singleton] at hz; rw [hz]; exact hi
section
variable {K n m : Nat} (hK : 1 ≤ K) (hK2 : K ≤ 100000) (hn : 1 ≤ n) (hm : 1 ≤ m)
include hK hK2 hn hm
theorem itm2 {r c : Nat} {vs : List Rat} (hv : ∀ v ∈ vs, RB v K) (hl : vs.length = r * c) (hr : r ≤ 64) (hc : c ≤ 64) (hnr : n ≤ r) (hmc : m ≤ c) : PureOK Tryz.prog 40 [.agg (vlA (vMat r c vs)), .r (rowR 15 vlE (nL [(n : Int), (m : Int)]))] (.tup [.agg (vlA (vNum (vat vs c (n - 1) (m - 1)))), eNo 0]) := by
  obtain ⟨v, hv'⟩ : ∃ v, v = vMat r c vs := ⟨_, rfl⟩
  have hs : Sml [(n : Int), (m : Int)] := Sml.two (by omega) (by omega)
  have hF := (Cv.one (n := 0) (.mat r c vs hl hr hc hv : Sh K (vMat r c vs))).F hK2 (by decide)
  have hN := hs.fm
  have hP := con_places hs (by show 2 ≤ 1000; decide)
  have hw : PureOK Tryz.prog 91 [.agg (vlA (vMat r c vs))] (.v (.int .i64 2)) := con_wanted (vMat r c vs)
  have hI := con_in2 (vMat r c vs) rfl (n : Int) (m : Int)
  rw [decide_eq_true (show _ ∧ _ ∧ _ ∧ _ from ⟨by omega, by show (n : Int) ≤ (r : Int); omega, by omega, by show (m : Int) ≤ (c : Int); omega⟩)] at hI
  have cA := cA_at (r := r) (c := c) (MV.cq hv) (by rw [mq_len]; exact hl) hr hc (by omega) (n - 1) (m - 1) (by omega) (by omega)
  have cN := con_Number (q := q4v (vat vs c (n - 1) (m - 1))) (vat_RB hv hK c (n - 1) (m - 1)).ra hK2
  have i0 : ([(n : Int), (m : Int)] : List Int)[0]? = some (n : Int) := rfl
  have i1 : ([(n : Int), (m : Int)] : List Int)[1]? = some (m : Int) := rfl
  have il : ([(n : Int), (m : Int)] : List Int).length = 2 := rfl
  rw [← hv'] at hF hw hI ⊢
  rw [vlA_B v] at hI
  obtain ⟨zs, hzs⟩ : ∃ zs, zs = [(n : Int), (m : Int)] := ⟨_, rfl⟩
  rw [← hzs] at hN hP hI i0 i1 il hs ⊢
  have hlen : (nL zs).length = zs.length := List.length_map _
  rw [vlA_B v] at hF hw
  rw [vlA_B v]
  refine PureOK.fnF Tryz.func40 Tryz.results40 Tryz.ntmps40 rfl rfl rfl (by simp [AV.ids, AV0.ids, Atom.ids]) rfl (fun w0 T B E0 hB => ?_)
  refine SX.goK ?_
  refine W.loop (fun k => k ≤ zs.length) (fun k => [(1, .r (rowR 15 vlE (nL zs))), (2, .ptr 2 0), (4, .ptr 4 0), (5, .v (.int .i64 0)), (14, .r (rowR 15 vlE (nL zs))), (15, .v (.int .i64 (zs.length : Int))), (16, .v (.int .i64 (k : Int)))]) (fun k => [(2, .box 39 (vlB v)), (4, .box 39 [.c (.val (.int .i64 0)), .c (.val (.bool false)), .c (.val (.slice none 0 0)), .c (.val (.bool false)), .c (.val (.slice none 0 0)), .c (.val (.int .i64 0)), .c (.val (.int .i64 0)), .c (.val (.slice none 0 0)), .c (.val (.slice none 0 0)), .c (.val (.int .u64 0)), .c (.val (.int .i64 0)), .c (.val (.int .i64 0)), .c (.val (.slice none 0 0)), .c (.val (.slice none 0 0)), .c (.val (.slice none 0 0))])]) (fun k => zs.length - k) 0 (Nat.zero_le _) (fun k hk => ?_)
    (by
      refine SX.St.le_to [] (by intro b h; cases h) ?_ ?_ rfl
      · repeat (first | exact trivial | refine ⟨⟨_, rfl, SX.AVto.same rfl⟩, ?_⟩ | refine ⟨⟨_, rfl, SX.AVto.int (by omega)⟩, ?_⟩)
      · exact ⟨SX.EntTo.same rfl rfl, SX.EntTo.same rfl rfl, trivial⟩)
  by_cases h : k < zs.length
  · obtain ⟨x, hx⟩ : ∃ x, zs[k]? = some x := ⟨_, List.getElem?_eq_getElem h⟩
    have hx' : (nL zs)[k]? = some (vNum (x : Rat)) := by rw [List.getElem?_map, hx]; rfl
    have h' : k < (nL zs).length := by omega
    have cx := hN x (List.mem_of_getElem? hx)
    refine SX.goK ?_
    exact W.next (k + 1) h (by omega)
  obtain rfl : k = zs.length := by omega
  clear hN
  subst hv'
  refine SX.goK ?_
  refine .ok (RetOK.mk2 (ResOK.agg15 rfl rfl rfl) (ResOK.tmp rfl))
theorem itm4 {p r c : Nat} {l : List Nat} {x : Nat} (hp : PrP p) (hl : l.length = r * c) (hr : r ≤ 64) (hc : c ≤ 64) (hx : ∀ x ∈ l, x < p) (hnr : n ≤ r) (hmc : m ≤ c) (he : l[(n - 1) * c + m - 1]? = some x) : PureOK Tryz.prog 40 [.agg (vlA (vFld p r c l)), .r (rowR 15 vlE (nL [(n : Int), (m : Int)]))] (.tup [.agg (vlA (vNum ((x : Int) : Rat))), eNo 0]) := by
  obtain ⟨v, hv'⟩ : ∃ v, v = vFld p r c l := ⟨_, rfl⟩
  have hs : Sml [(n : Int), (m : Int)] := Sml.two (by omega) (by omega)
  have hF := (Cv.one (n := 0) (.fld p r c l hp hl hr hc hx : Sh K (vFld p r c l))).F hK2 (by decide)
  have hN := hs.fm
  have hP := con_places hs (by show 2 ≤ 1000; decide)
  have hw : PureOK Tryz.prog 91 [.agg (vlA (vFld p r c l))] (.v (.int .i64 2)) := con_wanted (vFld p r c l)
  have hI := con_in4 (vFld p r c l) rfl (n : Int) (m : Int)
  rw [decide_eq_true (show _ ∧ _ ∧ _ ∧ _ from ⟨by omega, by show (n : Int) ≤ (r : Int); omega, by omega, by show (m : Int) ≤ (c : Int); omega⟩)] at hI
  have cW := con_vword (x := x) (Nat.lt_trans (hx x (List.mem_of_getElem? he)) hp.wb)
  have hb := Nat.mul_le_mul (show n - 1 ≤ 64 by omega) hc
  have hlt := at_lt he
  have i0 : ([(n : Int), (m : Int)] : List Int)[0]? = some (n : Int) := rfl
  have i1 : ([(n : Int), (m : Int)] : List Int)[1]? = some (m : Int) := rfl
  have il : ([(n : Int), (m : Int)] : List Int).length = 2 := rfl
  rw [← hv'] at hF hw hI ⊢
  rw [vlA_B v] at hI
  obtain ⟨zs, hzs⟩ : ∃ zs, zs = [(n : Int), (m : Int)] := ⟨_, rfl⟩
  rw [← hzs] at hN hP hI i0 i1 il hs ⊢
  have hlen : (nL zs).length = zs.length := List.length_map _
  rw [vlA_B v] at hF hw
  rw [vlA_B v]
  refine PureOK.fnF Tryz.func40 Tryz.results40 Tryz.ntmps40 rfl rfl rfl (by simp [AV.ids, AV0.ids, Atom.ids]) rfl (fun w0 T B E0 hB => ?_)
  refine SX.goK ?_
  refine W.loop (fun k => k ≤ zs.length) (fun k => [(1, .r (rowR 15 vlE (nL zs))), (2, .ptr 2 0), (4, .ptr 4 0), (5, .v (.int .i64 0)), (14, .r (rowR 15 vlE (nL zs))), (15, .v (.int .i64 (zs.length : Int))), (16, .v (.int .i64 (k : Int)))]) (fun k => [(2, .box 39 (vlB v)), (4, .box 39 [.c (.val (.int .i64 0)), .c (.val (.bool false)), .c (.val (.slice none 0 0)), .c (.val (.bool false)), .c (.val (.slice none 0 0)), .c (.val (.int .i64 0)), .c (.val (.int .i64 0)), .c (.val (.slice none 0 0)), .c (.val (.slice none 0 0)), .c (.val (.int .u64 0)), .c (.val (.int .i64 0)), .c (.val (.int .i64 0)), .c (.val (.slice none 0 0)), .c (.val (.slice none 0 0)), .c (.val (.slice none 0 0))])]) (fun k => zs.length - k) 0 (Nat.zero_le _) (fun k hk => ?_)
    (by
      refine SX.St.le_to [] (by intro b h; cases h) ?_ ?_ rfl
      · repeat (first | exact trivial | refine ⟨⟨_, rfl, SX.AVto.same rfl⟩, ?_⟩ | refine ⟨⟨_, rfl, SX.AVto.int (by omega)⟩, ?_⟩)
      · exact ⟨SX.EntTo.same rfl rfl, SX.EntTo.same rfl rfl, trivial⟩)
  by_cases h : k < zs.length
  · obtain ⟨x, hx⟩ : ∃ x, zs[k]? = some x := ⟨_, List.getElem?_eq_getElem h⟩
    have hx' : (nL zs)[k]? = some (vNum (x : Rat)) := by rw [List.getElem?_map, hx]; rfl
    have h' : k < (nL zs).length := by omega
    have cx := hN x (List.mem_of_getElem? hx)
    refine SX.goK ?_
    exact W.next (k + 1) h (by omega)
  obtain rfl : k = zs.length := by omega
  clear hN
  subst hv'
  refine SX.goK ?_
  refine .ok (RetOK.mk2 (ResOK.agg15 rfl rfl rfl) (ResOK.tmp rfl))
end
section
variable {K n : Nat} (hK2 : K ≤ 100000) (hn2 : n ≤ 1000)
include hK2 hn2
theorem itm6 {N : Nat} {l : List Vl} {x : Vl} (hC : Cv K N (vLst l)) (hN15 : N ≤ 15) (hl : l.length ≤ 10000) (hn : 1 ≤ n) (hx : l[n - 1]? = some x) (cO : PureOK Tryz.prog 95 [.agg (vlA x)] (.agg (vlA x))) : PureOK Tryz.prog 40 [.agg (vlA (vLst l)), .r (rowR 15 vlE (nL [(n : Int)]))] (.tup [.agg (vlA x), eNo 0]) := by
  obtain ⟨v, hv'⟩ : ∃ v, v = vLst l := ⟨_, rfl⟩
  have hs : Sml [(n : Int)] := Sml.one (by omega)
  have hF := hC.F hK2 hN15
  have hN := hs.fm
  have hP := con_places hs (by show 1 ≤ 1000; decide)
  have hw : PureOK Tryz.prog 91 [.agg (vlA (vLst l))] (.v (.int .i64 1)) := con_wanted (vLst l)
  have hI := con_in6 (vLst l) rfl (n : Int)
  have hlt := at_lt hx
  rw [decide_eq_true (show _ ∧ _ from ⟨by omega, by show (n : Int) ≤ (l.length : Int); omega⟩)] at hI
  have i0 : ([(n : Int)] : List Int)[0]? = some (n : Int) := rfl
  have il : ([(n : Int)] : List Int).length = 1 := rfl
  rw [← hv'] at hF hw hI ⊢
  rw [vlA_B v] at hI
  obtain ⟨zs, hzs⟩ : ∃ zs, zs = [(n : Int)] := ⟨_, rfl⟩
  rw [← hzs] at hN hP hI i0 il hs ⊢
  have hlen : (nL zs).length = zs.length := List.length_map _
  rw [vlA_B v] at hF hw
  rw [vlA_B v]
  refine PureOK.fnF Tryz.func40 Tryz.results40 Tryz.ntmps40 rfl rfl rfl (by simp [AV.ids, AV0.ids, Atom.ids]) rfl (fun w0 T B E0 hB => ?_)
  refine SX.goK ?_
  refine W.loop (fun k => k ≤ zs.length) (fun k => [(1, .r (rowR 15 vlE (nL zs))), (2, .ptr 2 0), (4, .ptr 4 0), (5, .v (.int .i64 0)), (14, .r (rowR 15 vlE (nL zs))), (15, .v (.int .i64 (zs.length : Int))), (16, .v (.int .i64 (k : Int)))]) (fun k => [(2, .box 39 (vlB v)), (4, .box 39 [.c (.val (.int .i64 0)), .c (.val (.bool false)), .c (.val (.slice none 0 0)), .c (.val (.bool false)), .c (.val (.slice none 0 0)), .c (.val (.int .i64 0)), .c (.val (.int .i64 0)), .c (.val (.slice none 0 0)), .c (.val (.slice none 0 0)), .c (.val (.int .u64 0)), .c (.val (.int .i64 0)), .c (.val (.int .i64 0)), .c (.val (.slice none 0 0)), .c (.val (.slice none 0 0)), .c (.val (.slice none 0 0))])]) (fun k => zs.length - k) 0 (Nat.zero_le _) (fun k hk => ?_)
    (by
      refine SX.St.le_to [] (by intro b h; cases h) ?_ ?_ rfl
      · repeat (first | exact trivial | refine ⟨⟨_, rfl, SX.AVto.same rfl⟩, ?_⟩ | refine ⟨⟨_, rfl, SX.AVto.int (by omega)⟩, ?_⟩)
      · exact ⟨SX.EntTo.same rfl rfl, SX.EntTo.same rfl rfl, trivial⟩)
  by_cases h : k < zs.length
  · obtain ⟨x, hx⟩ : ∃ x, zs[k]? = some x := ⟨_, List.getElem?_eq_getElem h⟩
    have hx' : (nL zs)[k]? = some (vNum (x : Rat)) := by rw [List.getElem?_map, hx]; rfl
    have h' : k < (nL zs).length := by omega
    have cx := hN x (List.mem_of_getElem? hx)
    refine SX.goK ?_
    exact W.next (k + 1) h (by omega)
  obtain rfl : k = zs.length := by omega
  clear hN
  subst hv'
  refine SX.goK ?_
  refine .ok (RetOK.mk2 (ResOK.agg15 rfl rfl rfl) (ResOK.tmp rfl))
theorem itm3 {ps : List Int} (hl : ps.length ≤ 10000) (hpn : pN ps) (hb : ∀ z ∈ ps, z.natAbs < WB ^ K) (hK : 1 ≤ K) : PureOK Tryz.prog 40 [.agg (vlA (vPol ps)), .r (rowR 15 vlE (nL [(n : Int)]))] (.tup [.agg (vlA (vNum ((ps.getD n 0 : Int) : Rat))), eNo 0]) := by
  obtain ⟨v, hv'⟩ : ∃ v, v = vPol ps := ⟨_, rfl⟩
  have hs : Sml [(n : Int)] := Sml.one (by omega)
  have hF := (Cv.one (n := 0) (.pol ps hl hpn hb : Sh K (vPol ps))).F hK2 (by decide)
  have hN := hs.fm
  have hP := con_places hs (by show 1 ≤ 1000; decide)
  have hw : PureOK Tryz.prog 91 [.agg (vlA (vPol ps))] (.v (.int .i64 1)) := con_wanted (vPol ps)
  have hI := con_in3 (vPol ps) (.inl rfl) (n : Int)
  rw [decide_eq_true (by omega)] at hI
  have i0 : ([(n : Int)] : List Int)[0]? = some (n : Int) := rfl
  have il : ([(n : Int)] : List Int).length = 1 := rfl
  have t0 : PureOK Tryz.prog 18 [.v (.bool false)] (.agg (vlA (vNum 0))) := con_Truth false
  have ml : ((ps.map cz).map rz).length = ps.length := mz_len ps
  have ml2 : ((vPol ps).po.map rz).length = ps.length := mz_len ps
  rw [← hv'] at hF hw hI ⊢
  rw [vlA_B v] at hI
  obtain ⟨zs, hzs⟩ : ∃ zs, zs = [(n : Int)] := ⟨_, rfl⟩
  rw [← hzs] at hN hP hI i0 il hs ⊢
  rw [List.getD_eq_getElem?_getD]
  have hlen : (nL zs).length = zs.length := List.length_map _
  rw [vlA_B v] at hF hw
  rw [vlA_B v]
  refine PureOK.fnF Tryz.func40 Tryz.results40 Tryz.ntmps40 rfl rfl rfl (by simp [AV.ids, AV0.ids, Atom.ids]) rfl (fun w0 T B E0 hB => ?_)
  refine SX.goK ?_
  refine W.loop (fun k => k ≤ zs.length) (fun k => [(1, .r (rowR 15 vlE (nL zs))), (2, .ptr 2 0), (4, .ptr 4 0), (5, .v (.int .i64 0)), (14, .r (rowR 15 vlE (nL zs))), (15, .v (.int .i64 (zs.length : Int))), (16, .v (.int .i64 (k : Int)))]) (fun k => [(2, .box 39 (vlB v)), (4, .box 39 [.c (.val (.int .i64 0)), .c (.val (.bool false)), .c (.val (.slice none 0 0)), .c (.val (.bool false)), .c (.val (.slice none 0 0)), .c (.val (.int .i64 0)), .c (.val (.int .i64 0)), .c (.val (.slice none 0 0)), .c (.val (.slice none 0 0)), .c (.val (.int .u64 0)), .c (.val (.int .i64 0)), .c (.val (.int .i64 0)), .c (.val (.slice none 0 0)), .c (.val (.slice none 0 0)), .c (.val (.slice none 0 0))])]) (fun k => zs.length - k) 0 (Nat.zero_le _) (fun k hk => ?_)
    (by
      refine SX.St.le_to [] (by intro b h; cases h) ?_ ?_ rfl
      · repeat (first | exact trivial | refine ⟨⟨_, rfl, SX.AVto.same rfl⟩, ?_⟩ | refine ⟨⟨_, rfl, SX.AVto.int (by omega)⟩, ?_⟩)
      · exact ⟨SX.EntTo.same rfl rfl, SX.EntTo.same rfl rfl, trivial⟩)
  by_cases h : k < zs.length
  · obtain ⟨x, hx⟩ : ∃ x, zs[k]? = some x := ⟨_, List.getElem?_eq_getElem h⟩
    have hx' : (nL zs)[k]? = some (vNum (x : Rat)) := by rw [List.getElem?_map, hx]; rfl
    have h' : k < (nL zs).length := by omega
    have cx := hN x (List.mem_of_getElem? hx)
    refine SX.goK ?_
    exact W.next (k + 1) h (by omega)
  obtain rfl : k = zs.length := by omega
  clear hN
  subst hv'
  by_cases h1 : n < ps.length
  · obtain ⟨z, hz⟩ : ∃ z, ps[n]? = some z := ⟨_, List.getElem?_eq_getElem h1⟩
    have hz' : ((ps.map cz).map rz)[n]? = some (rz (cz z)) := by rw [List.getElem?_map, List.getElem?_map, hz]; rfl
    have hz2 : ((vPol ps).po.map rz)[n]? = some (rz (cz z)) := hz'
    have cW := con_Whole (q := rz (cz z)) (z := rzv (cz z)) (K := K) (ZQ.raw (cz_sm z) (wds_len (hb z (List.mem_of_getElem? hz)))) hK hK2
    rw [cz_val] at cW
    rw [hz]
    refine SX.goK ?_
    refine .ok (RetOK.mk2 (ResOK.agg15 rfl rfl rfl) (ResOK.tmp rfl))
  · rw [List.getElem?_eq_none (by omega)]
    refine SX.goK ?_
    refine .ok (RetOK.mk2 (ResOK.agg15 rfl rfl rfl) (ResOK.tmp rfl))
theorem itm5 {p : Nat} {l : List Nat} (hp : PrP p) (hl : l.length ≤ 10000) (hwn : wN l) (hx : ∀ x ∈ l, x < p) : PureOK Tryz.prog 40 [.agg (vlA (vRng p l)), .r (rowR 15 vlE (nL [(n : Int)]))] (.tup [.agg (vlA (vNum (((l.getD n 0 : Nat) : Int) : Rat))), eNo 0]) := by
  obtain ⟨v, hv'⟩ : ∃ v, v = vRng p l := ⟨_, rfl⟩
  have hs : Sml [(n : Int)] := Sml.one (by omega)
  have hF := (Cv.one (n := 0) (.rng p l hp hl hwn hx : Sh K (vRng p l))).F hK2 (by decide)
  have hN := hs.fm
  have hP := con_places hs (by show 1 ≤ 1000; decide)
  have hw : PureOK Tryz.prog 91 [.agg (vlA (vRng p l))] (.v (.int .i64 1)) := con_wanted (vRng p l)
  have hI := con_in3 (vRng p l) (.inr rfl) (n : Int)
  rw [decide_eq_true (by omega)] at hI
  have i0 : ([(n : Int)] : List Int)[0]? = some (n : Int) := rfl
  have il : ([(n : Int)] : List Int).length = 1 := rfl
  have ml2 : (vRng p l).ri.length = l.length := rfl
  have t0 : PureOK Tryz.prog 18 [.v (.bool false)] (.agg (vlA (vNum 0))) := con_Truth false
  rw [← hv'] at hF hw hI ⊢
  rw [vlA_B v] at hI
  obtain ⟨zs, hzs⟩ : ∃ zs, zs = [(n : Int)] := ⟨_, rfl⟩
  rw [← hzs] at hN hP hI i0 il hs ⊢
  rw [List.getD_eq_getElem?_getD]
  have hlen : (nL zs).length = zs.length := List.length_map _
  rw [vlA_B v] at hF hw
  rw [vlA_B v]
  refine PureOK.fnF Tryz.func40 Tryz.results40 Tryz.ntmps40 rfl rfl rfl (by simp [AV.ids, AV0.ids, Atom.ids]) rfl (fun w0 T B E0 hB => ?_)
  refine SX.goK ?_
  refine W.loop (fun k => k ≤ zs.length) (fun k => [(1, .r (rowR 15 vlE (nL zs))), (2, .ptr 2 0), (4, .ptr 4 0), (5, .v (.int .i64 0)), (14, .r (rowR 15 vlE (nL zs))), (15, .v (.int .i64 (zs.length : Int))), (16, .v (.int .i64 (k : Int)))]) (fun k => [(2, .box 39 (vlB v)), (4, .box 39 [.c (.val (.int .i64 0)), .c (.val (.bool false)), .c (.val (.slice none 0 0)), .c (.val (.bool false)), .c (.val (.slice none 0 0)), .c (.val (.int .i64 0)), .c (.val (.int .i64 0)), .c (.val (.slice none 0 0)), .c (.val (.slice none 0 0)), .c (.val (.int .u64 0)), .c (.val (.int .i64 0)), .c (.val (.int .i64 0)), .c (.val (.slice none 0 0)), .c (.val (.slice none 0 0)), .c (.val (.slice none 0 0))])]) (fun k => zs.length - k) 0 (Nat.zero_le _) (fun k hk => ?_)
    (by
      refine SX.St.le_to [] (by intro b h; cases h) ?_ ?_ rfl
      · repeat (first | exact trivial | refine ⟨⟨_, rfl, SX.AVto.same rfl⟩, ?_⟩ | refine ⟨⟨_, rfl, SX.AVto.int (by omega)⟩, ?_⟩)
      · exact ⟨SX.EntTo.same rfl rfl, SX.EntTo.same rfl rfl, trivial⟩)
  by_cases h : k < zs.length
  · obtain ⟨x, hx⟩ : ∃ x, zs[k]? = some x := ⟨_, List.getElem?_eq_getElem h⟩
    have hx' : (nL zs)[k]? = some (vNum (x : Rat)) := by rw [List.getElem?_map, hx]; rfl
    have h' : k < (nL zs).length := by omega
    have cx := hN x (List.mem_of_getElem? hx)
    refine SX.goK ?_
    exact W.next (k + 1) h (by omega)
  obtain rfl : k = zs.length := by omega
  clear hN
  subst hv'
  by_cases h1 : n < l.length
  · obtain ⟨x, hx'⟩ : ∃ x, l[n]? = some x := ⟨_, List.getElem?_eq_getElem h1⟩
    have hx2 : (vRng p l).ri[n]? = some x := hx'
    have cW := con_vword (x := x) (Nat.lt_trans (hx x (List.mem_of_getElem? hx')) hp.wb)
    rw [hx']
    refine SX.goK ?_
    refine .ok (RetOK.mk2 (ResOK.agg15 rfl rfl rfl) (ResOK.tmp rfl))
  · rw [List.getElem?_eq_none (by omega)]
    refine SX.goK ?_
    refine .ok (RetOK.mk2 (ResOK.agg15 rfl rfl rfl) (ResOK.tmp rfl))
end
theorem itm_form {v : Vl} {x : Rep} (hF : PureOK Tryz.prog 28 [.agg (vlA v)] (.v (.bool false))) : PureOK Tryz.prog 40 [.agg (vlA v), .r x] (.tup [.agg (vlA v0), eNo 1]) := by
  refine PureOK.fnF Tryz.func40 Tryz.results40 Tryz.ntmps40 rfl rfl rfl (by simp [AV.ids, AV0.ids, Atom.ids]) rfl (fun w0 T B E0 hB => ?_)
  refine SX.goK ?_
  refine .ok (RetOK.mk2 ((ResOK.agg15 rfl rfl rfl).imp ?_) (ResOK.tmp rfl))
  exact imp_none
theorem itm_form0 {v : Vl} (hF : PureOK Tryz.prog 28 [.agg (vlA v)] (.v (.bool false))) : PureOK Tryz.prog 40 [.agg (vlA v), .v (.slice none 0 0)] (.tup [.agg (vlA v0), eNo 1]) := by
  refine PureOK.fnF Tryz.func40 Tryz.results40 Tryz.ntmps40 rfl rfl rfl (by simp [AV.ids, AV0.ids, Atom.ids]) rfl (fun w0 T B E0 hB => ?_)
  refine SX.goK ?_
  refine .ok (RetOK.mk2 ((ResOK.agg15 rfl rfl rfl).imp ?_) (ResOK.tmp rfl))
  exact imp_none
theorem itm_nil {v w : Vl} {e : Int} (h : PureOK Tryz.prog 40 [.agg (vlA v), .r (rowR 15 vlE (nL []))] (.tup [.agg (vlA w), eNo e])) : PureOK Tryz.prog 40 [.agg (vlA v), .v (.slice none 0 0)] (.tup [.agg (vlA w), eNo e]) :=
  weakArgs h fun E S w vs hv => by
    match vs, hv with
    | [u1, u2], ⟨h1, h2, _⟩ => exact ⟨h1, AtomI.nil (α := Vl) (enc := vlE) (size := 15) E S w u2 h2, trivial⟩
end Go.Proofs.YtfhpmbenldgfnaaGreatDoor
/- The statement ValueItems answers true. -/
set_option linter.unusedVariables false
set_option linter.unusedSimpArgs false
set_option linter.unusedSectionVars false
namespace Go.Proofs.YtfhpmbenldgfnaaGreatDoor
open Go.RowKit QM SX LA
attribute [local irreducible] IntKind.wrap Go1 Reg WP thenK inBlk retQ retF RetF RetOK ResOK CallOK OpOK Sat
attribute [local irreducible] qsub qmul qquo qcmp qadd qv redS mf PrP qOk zOk vP fp64 lz vF cq rqv plen pNorm pBoth pScale mulV jn sq decS qS zS tS tbS vW sameV
theorem of_int (z : Int) (h : -1000 ≤ z ∧ z ≤ 1000) : PureOK Tryz.prog 23 [.v (.int .i64 z)] (.agg (zN z)) := con_zOf.h ⟨by omega, by omega⟩
theorem whole_int (z : Int) (h : -1000 ≤ z ∧ z ≤ 1000) : PureOK Tryz.prog 22 [.agg (zN z)] (.agg (vlA (vNum (z : Rat)))) := con_Whole (K := 1) (z := z) (ZQ.made (sml_bd h)) (by decide) (by decide)
theorem make_zero (z : Int) (h : -1000 ≤ z ∧ z ≤ 1000) : PureOK Tryz.prog 24 [.agg (zN z), .agg (zN 0)] (.tup [.agg (qA ((0 : Int) : Rat)), .one (.c (.val (.bool false)))]) := by
  haveI z1 : ZI (zN z) z 1 := (ZQ.made (z := z) (K := 1) (sml_bd h)).zi
  haveI z2 : ZI (zN 0) 0 1 := (ZQ.made (z := 0) (K := 1) (by rw [WB_eq]; decide)).zi
  have c := (con_rMake (l := zN z) (l' := zN 0) (x := z) (y := 0)).h (by decide)
  rw [show rmk z 0 = (((0 : Int) : Rat).num, (((0 : Int) : Rat).den : Int)) by unfold rmk; rw [if_pos rfl]; rfl] at c
  exact c
theorem zero_num : PureOK Tryz.prog 25 [.agg (qA ((0 : Int) : Rat))] (.agg (vlA (vNum ((0 : Int) : Rat)))) := con_Number (q := q4v ((0 : Int) : Rat)) (sml_RB (z := 0) (by decide)).ra (by decide)
theorem true_num : PureOK Tryz.prog 18 [.v (.bool true)] (.agg (vlA (vNum ((1 : Int) : Rat)))) := by
  rw [Rat.intCast_one]; exact con_Truth true
/-- What the statement asks. -/
structure Itm (u : Vl) (i k : Int) (w1 : Vl) (e1 : Int) (w2 : Vl) (e2 g h : Int) : Prop where
  a : PureOK Tryz.prog 40 [.agg (vlA u), .r (rowR 15 vlE (nL [i]))] (.tup [.agg (vlA w1), eNo e1])
  b : PureOK Tryz.prog 40 [.agg (vlA u), .r (rowR 15 vlE (nL [i, k]))] (.tup [.agg (vlA w2), eNo e2])
  g : PureOK Tryz.prog 40 [.agg (vlA u), .v (.slice none 0 0)] (.tup [.agg (vlA v0), eNo g])
  h : PureOK Tryz.prog 40 [.agg (vlA u), .r (rowR 15 vlE (nL [0, 1, i]))] (.tup [.agg (vlA v0), eNo h])
section
variable {u w1 w2 : Vl} {i k : Int} (hi : -1000 ≤ i ∧ i ≤ 1000) (hk : -1000 ≤ k ∧ k ≤ 1000) (hf : PureOK Tryz.prog 12 [.agg (vlA u), .agg (vlA u)] (.v (.bool true)))
include hi hk hf
theorem Itm_bad (M : Itm u i k v0 1 v0 1 1 1) (is : PureOK Tryz.prog 14 [.agg (vlA u)] (.v (.bool false))) : PureOK Tryz.prog 10 [.agg (vlA u), .v (.int .i8 i), .v (.int .i8 k)] (.v (.bool true)) := by
  have cW := con_awake29
  have c0 := con_none0
  have oi := of_int _ hi
  have ok := of_int _ hk
  have wi := whole_int _ hi
  have wk := whole_int _ hk
  have o0 := of_0
  have mz := make_zero _ hi
  have nz := zero_num
  have t1 := true_num
  obtain ⟨m1, m2, m3, m4⟩ := M
  refine PureOK.fnF Tryz.func10 Tryz.results10 Tryz.ntmps10 rfl rfl rfl (by simp [AV.ids, AV0.ids, Atom.ids]) rfl (fun w0 T B E0 hB => ?_)
  refine SX.goK ?_
  exact retB rfl
set_option maxRecDepth 20000 in
set_option maxHeartbeats 4000000 in
theorem Itm_1 (M : Itm u i k v0 5 v0 5 5 5) (is : PureOK Tryz.prog 14 [.agg (vlA u)] (.v (.bool true))) (h1 : u.k = 1) : PureOK Tryz.prog 10 [.agg (vlA u), .v (.int .i8 i), .v (.int .i8 k)] (.v (.bool true)) := by
  have cW := con_awake29
  have c0 := con_none0
  have oi := of_int _ hi
  have ok := of_int _ hk
  have wi := whole_int _ hi
  have wk := whole_int _ hk
  have o0 := of_0
  have mz := make_zero _ hi
  have nz := zero_num
  have t1 := true_num
  obtain ⟨m1, m2, m3, m4⟩ := M
  refine PureOK.fnF Tryz.func10 Tryz.results10 Tryz.ntmps10 rfl rfl rfl (by simp [AV.ids, AV0.ids, Atom.ids]) rfl (fun w0 T B E0 hB => ?_)
  refine SX.goK ?_
  exact retB rfl
set_option maxRecDepth 20000 in
set_option maxHeartbeats 4000000 in
theorem Itm_2a (M : Itm u i k v0 5 v0 3 5 5) (is : PureOK Tryz.prog 14 [.agg (vlA u)] (.v (.bool true))) (h1 : u.k = 2) (h2 : ¬ (1 ≤ i ∧ i ≤ u.r ∧ 1 ≤ k ∧ k ≤ u.c)) : PureOK Tryz.prog 10 [.agg (vlA u), .v (.int .i8 i), .v (.int .i8 k)] (.v (.bool true)) := by
  have cW := con_awake29
  have c0 := con_none0
  have oi := of_int _ hi
  have ok := of_int _ hk
  have wi := whole_int _ hi
  have wk := whole_int _ hk
  have o0 := of_0
  have mz := make_zero _ hi
  have nz := zero_num
  have t1 := true_num
  obtain ⟨m1, m2, m3, m4⟩ := M
  refine PureOK.fnF Tryz.func10 Tryz.results10 Tryz.ntmps10 rfl rfl rfl (by simp [AV.ids, AV0.ids, Atom.ids]) rfl (fun w0 T B E0 hB => ?_)
  by_cases h3 : i < 1
  · refine SX.goK ?_
    exact retB rfl
  by_cases h4 : i > u.r
  · refine SX.goK ?_
    exact retB rfl
  by_cases h5 : k < 1
  · refine SX.goK ?_
    exact retB rfl
  have h6 : k > u.c := by omega
  refine SX.goK ?_
  exact retB rfl
set_option maxRecDepth 20000 in
set_option maxHeartbeats 4000000 in
theorem Itm_4a (M : Itm u i k v0 5 v0 3 5 5) (is : PureOK Tryz.prog 14 [.agg (vlA u)] (.v (.bool true))) (h1 : u.k = 4) (h2 : ¬ (1 ≤ i ∧ i ≤ u.fr ∧ 1 ≤ k ∧ k ≤ u.fc)) : PureOK Tryz.prog 10 [.agg (vlA u), .v (.int .i8 i), .v (.int .i8 k)] (.v (.bool true)) := by
  have cW := con_awake29
  have c0 := con_none0
  have oi := of_int _ hi
  have ok := of_int _ hk
  have wi := whole_int _ hi
  have wk := whole_int _ hk
  have o0 := of_0
  have mz := make_zero _ hi
  have nz := zero_num
  have t1 := true_num
  obtain ⟨m1, m2, m3, m4⟩ := M
  refine PureOK.fnF Tryz.func10 Tryz.results10 Tryz.ntmps10 rfl rfl rfl (by simp [AV.ids, AV0.ids, Atom.ids]) rfl (fun w0 T B E0 hB => ?_)
  by_cases h3 : i < 1
  · refine SX.goK ?_
    exact retB rfl
  by_cases h4 : i > u.fr
  · refine SX.goK ?_
    exact retB rfl
  by_cases h5 : k < 1
  · refine SX.goK ?_
    exact retB rfl
  have h6 : k > u.fc := by omega
  refine SX.goK ?_
  exact retB rfl
set_option maxRecDepth 20000 in
set_option maxHeartbeats 4000000 in
theorem Itm_6a (M : Itm u i k v0 3 v0 5 5 5) (is : PureOK Tryz.prog 14 [.agg (vlA u)] (.v (.bool true))) (h1 : u.k = 6) (h2 : ¬ (1 ≤ i ∧ i ≤ (u.li.length : Int))) : PureOK Tryz.prog 10 [.agg (vlA u), .v (.int .i8 i), .v (.int .i8 k)] (.v (.bool true)) := by
  have cW := con_awake29
  have c0 := con_none0
  have oi := of_int _ hi
  have ok := of_int _ hk
  have wi := whole_int _ hi
  have wk := whole_int _ hk
  have o0 := of_0
  have mz := make_zero _ hi
  have nz := zero_num
  have t1 := true_num
  obtain ⟨m1, m2, m3, m4⟩ := M
  refine PureOK.fnF Tryz.func10 Tryz.results10 Tryz.ntmps10 rfl rfl rfl (by simp [AV.ids, AV0.ids, Atom.ids]) rfl (fun w0 T B E0 hB => ?_)
  by_cases h3 : i < 1
  · refine SX.goK ?_
    exact retB rfl
  have h6 : i > (u.li.length : Int) := by omega
  refine SX.goK ?_
  exact retB rfl
set_option maxRecDepth 20000 in
set_option maxHeartbeats 4000000 in
theorem Itm_3a (M : Itm u i k v0 3 v0 5 5 5) (is : PureOK Tryz.prog 14 [.agg (vlA u)] (.v (.bool true))) (h1 : u.k = 3 ∨ u.k = 5) (h2 : i < 0) : PureOK Tryz.prog 10 [.agg (vlA u), .v (.int .i8 i), .v (.int .i8 k)] (.v (.bool true)) := by
  have cW := con_awake29
  have c0 := con_none0
  have oi := of_int _ hi
  have ok := of_int _ hk
  have wi := whole_int _ hi
  have wk := whole_int _ hk
  have o0 := of_0
  have mz := make_zero _ hi
  have nz := zero_num
  have t1 := true_num
  obtain ⟨m1, m2, m3, m4⟩ := M
  have h3 : u.k ≠ 1 ∧ u.k ≠ 2 ∧ u.k ≠ 4 ∧ u.k ≠ 6 := by omega
  refine PureOK.fnF Tryz.func10 Tryz.results10 Tryz.ntmps10 rfl rfl rfl (by simp [AV.ids, AV0.ids, Atom.ids]) rfl (fun w0 T B E0 hB => ?_)
  refine SX.goK ?_
  exact retB rfl
end
theorem sameT {K n : Nat} {v : Vl} (h : Cv K n v) (hK : K ≤ 50000) (hn : n ≤ 15) : PureOK Tryz.prog 17 [.agg (vlA v), .agg (vlA v)] (.v (.bool true)) := by
  have c := con_Same h h (by omega) hn hn
  rwa [sameV_self] at c
section
variable {u w1 w2 : Vl} {n m : Nat} (hi : -1000 ≤ (n : Int) ∧ (n : Int) ≤ 1000) (hk : -1000 ≤ (m : Int) ∧ (m : Int) ≤ 1000)
include hi hk
set_option maxRecDepth 20000 in
set_option maxHeartbeats 4000000 in
theorem Itm_2b {r c : Nat} {vs : List Rat} {x : Rat} (hf : PureOK Tryz.prog 12 [.agg (vlA (vMat r c vs)), .agg (vlA (vMat r c vs))] (.v (.bool true))) (M : Itm (vMat r c vs) (n : Int) (m : Int) v0 5 (vNum x) 0 5 5) (is : PureOK Tryz.prog 14 [.agg (vlA (vMat r c vs))] (.v (.bool true)))
    (h1 : 1 ≤ n) (h2 : n ≤ r) (h3 : 1 ≤ m) (h4 : m ≤ c) (hx : vs[(n - 1) * c + m - 1]? = some x) (hb : RB x 2) (hc : c ≤ 64) (hr : r ≤ 64) : PureOK Tryz.prog 10 [.agg (vlA (vMat r c vs)), .v (.int .i8 (n : Int)), .v (.int .i8 (m : Int))] (.v (.bool true)) := by
  have cW := con_awake29
  have c0 := con_none0
  have oi := of_int _ hi
  have ok := of_int _ hk
  have wi := whole_int _ hi
  have wk := whole_int _ hk
  have o0 := of_0
  have mz := make_zero _ hi
  have nz := zero_num
  have t1 := true_num
  obtain ⟨m1, m2, m3, m4⟩ := M
  have hx2 : ((vMat r c vs).a.map rq)[(n - 1) * c + m - 1]? = some (rq (cq x)) := by
    show ((vs.map cq).map rq)[(n - 1) * c + m - 1]? = _
    rw [List.getElem?_map, List.getElem?_map, hx]; rfl
  have hl := at_lt hx2
  have cN := con_Number (q := rq (cq x)) (Ra.cq hb) (by decide)
  have cS := sameT (n := 0) (.one (.num x hb)) (by decide) (by decide)
  have hm := Nat.mul_le_mul (show n - 1 ≤ 64 by omega) hc
  have k1 : ¬ (n : Int) > (vMat r c vs).r := by show ¬ (n : Int) > (r : Int); omega
  have k2 : ¬ (m : Int) > (vMat r c vs).c := by show ¬ (m : Int) > (c : Int); omega
  refine PureOK.fnF Tryz.func10 Tryz.results10 Tryz.ntmps10 rfl rfl rfl (by simp [AV.ids, AV0.ids, Atom.ids]) rfl (fun w0 T B E0 hB => ?_)
  refine SX.goK ?_
  exact retB rfl
set_option maxRecDepth 20000 in
set_option maxHeartbeats 4000000 in
theorem Itm_4b {p r c : Nat} {l : List Nat} {x : Nat} (hf : PureOK Tryz.prog 12 [.agg (vlA (vFld p r c l)), .agg (vlA (vFld p r c l))] (.v (.bool true))) (M : Itm (vFld p r c l) (n : Int) (m : Int) v0 5 (vNum ((x : Int) : Rat)) 0 5 5) (is : PureOK Tryz.prog 14 [.agg (vlA (vFld p r c l))] (.v (.bool true)))
    (h1 : 1 ≤ n) (h2 : n ≤ r) (h3 : 1 ≤ m) (h4 : m ≤ c) (hx : l[(n - 1) * c + m - 1]? = some x) (hb : x < 2147483648) (hc : c ≤ 64) (hr : r ≤ 64) : PureOK Tryz.prog 10 [.agg (vlA (vFld p r c l)), .v (.int .i8 (n : Int)), .v (.int .i8 (m : Int))] (.v (.bool true)) := by
  have cW := con_awake29
  have c0 := con_none0
  have oi := of_int _ hi
  have ok := of_int _ hk
  have wi := whole_int _ hi
  have wk := whole_int _ hk
  have o0 := of_0
  have mz := make_zero _ hi
  have nz := zero_num
  have t1 := true_num
  obtain ⟨m1, m2, m3, m4⟩ := M
  have hx2 : (vFld p r c l).fa[(n - 1) * c + m - 1]? = some x := hx
  have hl := at_lt hx2
  have cx := of_nat x (by omega)
  have cN := whole_nat x (by omega)
  have cS := sameT (n := 0) (.one (.num _ (RB.nat (K := 1) (by rw [Nat.pow_one, WB_eq]; omega) (by decide) : RB ((x : Int) : Rat) 1))) (by decide) (by decide)
  have hm := Nat.mul_le_mul (show n - 1 ≤ 64 by omega) hc
  have k1 : ¬ (n : Int) > (vFld p r c l).fr := by show ¬ (n : Int) > (r : Int); omega
  have k2 : ¬ (m : Int) > (vFld p r c l).fc := by show ¬ (m : Int) > (c : Int); omega
  refine PureOK.fnF Tryz.func10 Tryz.results10 Tryz.ntmps10 rfl rfl rfl (by simp [AV.ids, AV0.ids, Atom.ids]) rfl (fun w0 T B E0 hB => ?_)
  refine SX.goK ?_
  exact retB rfl
omit hk in
set_option maxRecDepth 20000 in
set_option maxHeartbeats 4000000 in
theorem Itm_6b {k : Int} (hk : -1000 ≤ k ∧ k ≤ 1000) {l : List Vl} {x : Vl} {N : Nat} (hf : PureOK Tryz.prog 12 [.agg (vlA (vLst l)), .agg (vlA (vLst l))] (.v (.bool true))) (M : Itm (vLst l) (n : Int) k x 0 v0 5 5 5) (is : PureOK Tryz.prog 14 [.agg (vlA (vLst l))] (.v (.bool true)))
    (h1 : 1 ≤ n) (hx : l[n - 1]? = some x) (hC : Cv 2 N x) (hN : N ≤ 15) (hl : l.length ≤ 10000) : PureOK Tryz.prog 10 [.agg (vlA (vLst l)), .v (.int .i8 (n : Int)), .v (.int .i8 k)] (.v (.bool true)) := by
  have cW := con_awake29
  have c0 := con_none0
  have oi := of_int _ hi
  have ok := of_int _ hk
  have wi := whole_int _ hi
  have wk := whole_int _ hk
  have o0 := of_0
  have mz := make_zero _ hi
  have nz := zero_num
  have t1 := true_num
  obtain ⟨m1, m2, m3, m4⟩ := M
  rw [vlA_B (vLst l)] at hf m1 m2 m3 m4 is ⊢
  have hx2 : (vLst l).li[n - 1]? = some x := hx
  have hlt := at_lt hx2
  have cS := sameT hC (by decide) hN
  refine PureOK.fnF Tryz.func10 Tryz.results10 Tryz.ntmps10 rfl rfl rfl (by simp [AV.ids, AV0.ids, Atom.ids]) rfl (fun w0 T B E0 hB => ?_)
  refine SX.goK ?_
  exact retB rfl
omit hk in
set_option maxRecDepth 20000 in
set_option maxHeartbeats 4000000 in
theorem Itm_3b {k : Int} (hk : -1000 ≤ k ∧ k ≤ 1000) {ps : List Int} (hf : PureOK Tryz.prog 12 [.agg (vlA (vPol ps)), .agg (vlA (vPol ps))] (.v (.bool true))) (M : Itm (vPol ps) (n : Int) k (vNum ((ps.getD n 0 : Int) : Rat)) 0 v0 5 5 5) (is : PureOK Tryz.prog 14 [.agg (vlA (vPol ps))] (.v (.bool true)))
    (hb : ∀ z ∈ ps, z.natAbs < WB ^ 2) (hl : ps.length ≤ 10000) : PureOK Tryz.prog 10 [.agg (vlA (vPol ps)), .v (.int .i8 (n : Int)), .v (.int .i8 k)] (.v (.bool true)) := by
  have cW := con_awake29
  have c0 := con_none0
  have oi := of_int _ hi
  have ok := of_int _ hk
  have wi := whole_int _ hi
  have wk := whole_int _ hk
  have o0 := of_0
  have mz := make_zero _ hi
  have nz := zero_num
  have t1 := true_num
  obtain ⟨m1, m2, m3, m4⟩ := M
  have w0 : PureOK Tryz.prog 22 [.agg (zN 0)] (.agg (vlA (vNum ((0 : Int) : Rat)))) := whole_int 0 (by decide)
  have ml2 : ((vPol ps).po.map rz).length = ps.length := mz_len ps
  have cS := sameT (n := 0) (.one (.num ((ps.getD n 0 : Int) : Rat) (RB.ofI (zat_b hb n) (by decide)))) (by decide) (by decide)
  rw [List.getD_eq_getElem?_getD] at cS m1
  refine PureOK.fnF Tryz.func10 Tryz.results10 Tryz.ntmps10 rfl rfl rfl (by simp [AV.ids, AV0.ids, Atom.ids]) rfl (fun w0 T B E0 hB => ?_)
  by_cases h1 : n < ps.length
  · obtain ⟨z, hz⟩ : ∃ z, ps[n]? = some z := ⟨_, List.getElem?_eq_getElem h1⟩
    have hz2 : ((vPol ps).po.map rz)[n]? = some (rz (cz z)) := by
      show ((ps.map cz).map rz)[n]? = _
      rw [List.getElem?_map, List.getElem?_map, hz]; rfl
    have cW := con_Whole (q := rz (cz z)) (z := rzv (cz z)) (K := 2) (ZQ.raw (cz_sm z) (wds_len (hb z (List.mem_of_getElem? hz)))) (by decide) (by decide)
    rw [cz_val] at cW
    rw [hz] at cS m1
    refine SX.goK ?_
    exact retB rfl
  · rw [List.getElem?_eq_none (by omega)] at cS m1
    refine SX.goK ?_
    exact retB rfl
omit hk in
set_option maxRecDepth 20000 in
set_option maxHeartbeats 4000000 in
theorem Itm_5b {k : Int} (hk : -1000 ≤ k ∧ k ≤ 1000) {p : Nat} {l : List Nat} (hf : PureOK Tryz.prog 12 [.agg (vlA (vRng p l)), .agg (vlA (vRng p l))] (.v (.bool true))) (M : Itm (vRng p l) (n : Int) k (vNum (((l.getD n 0 : Nat) : Int) : Rat)) 0 v0 5 5 5) (is : PureOK Tryz.prog 14 [.agg (vlA (vRng p l))] (.v (.bool true)))
    (hb : ∀ x ∈ l, x < 2147483648) (hl : l.length ≤ 10000) : PureOK Tryz.prog 10 [.agg (vlA (vRng p l)), .v (.int .i8 (n : Int)), .v (.int .i8 k)] (.v (.bool true)) := by
  have cW := con_awake29
  have c0 := con_none0
  have oi := of_int _ hi
  have ok := of_int _ hk
  have wi := whole_int _ hi
  have wk := whole_int _ hk
  have o0 := of_0
  have mz := make_zero _ hi
  have nz := zero_num
  have t1 := true_num
  obtain ⟨m1, m2, m3, m4⟩ := M
  have w0 : PureOK Tryz.prog 22 [.agg (zN 0)] (.agg (vlA (vNum ((0 : Int) : Rat)))) := whole_int 0 (by decide)
  have ml2 : (vRng p l).ri.length = l.length := rfl
  have hg : l.getD n 0 < 2147483648 := by
    rw [List.getD_eq_getElem?_getD]
    by_cases h1 : n < l.length
    · rw [List.getElem?_eq_getElem h1]; exact hb _ (List.getElem_mem h1)
    · rw [List.getElem?_eq_none (by omega)]; decide
  have cS := sameT (n := 0) (.one (.num (((l.getD n 0 : Nat) : Int) : Rat) (RB.nat (K := 1) (by rw [Nat.pow_one, WB_eq]; omega) (by decide)))) (by decide) (by decide)
  rw [List.getD_eq_getElem?_getD] at cS m1
  refine PureOK.fnF Tryz.func10 Tryz.results10 Tryz.ntmps10 rfl rfl rfl (by simp [AV.ids, AV0.ids, Atom.ids]) rfl (fun w0 T B E0 hB => ?_)
  by_cases h1 : n < l.length
  · obtain ⟨x, hx⟩ : ∃ x, l[n]? = some x := ⟨_, List.getElem?_eq_getElem h1⟩
    have hx2 : (vRng p l).ri[n]? = some x := hx
    have hxb := hb x (List.mem_of_getElem? hx)
    have cx := of_nat x (by omega)
    have cN := whole_nat x (by omega)
    rw [hx] at cS m1
    refine SX.goK ?_
    exact retB rfl
  · rw [List.getElem?_eq_none (by omega)] at cS m1
    refine SX.goK ?_
    exact retB rfl
end
end Go.Proofs.YtfhpmbenldgfnaaGreatDoor
/- The statement ValueItems answers true: the cases together. -/
set_option linter.unusedVariables false
set_option linter.unusedSimpArgs false
namespace Go.Proofs.YtfhpmbenldgfnaaGreatDoor
open Go.RowKit QM SX LA
attribute [local irreducible] IntKind.wrap Go1 Reg WP thenK inBlk retQ retF RetF RetOK ResOK CallOK OpOK Sat
attribute [local irreducible] qsub qmul qquo qcmp qadd qv redS mf PrP qOk zOk vP fp64 lz vF cq rqv plen pNorm pBoth pScale mulV jn sq decS qS zS tS tbS vW sameV
theorem wtd_le (k : Int) : wtd k ≤ 2 := by unfold wtd; (repeat' split) <;> omega
theorem Sml.three {i : Int} (hi : -1000 ≤ i ∧ i ≤ 1000) : Sml [0, 1, i] := fun z hz => by
  rw [List.mem_cons, List.mem_cons, List.mem_singleton] at hz
  rcases hz with rfl | rfl | rfl
  · decide
  · decide
  · exact hi
section
variable {u : Vl} (F : PureOK Tryz.prog 28 [.agg (vlA u)] (.v (.bool true)))
include F
theorem ty_of {zs : List Int} (hs : Sml zs) (hl : zs.length ≤ 1000) (h : zs.length = 0 ∨ zs.length ≠ wtd u.k) : PureOK Tryz.prog 40 [.agg (vlA u), .r (rowR 15 vlE (nL zs))] (.tup [.agg (vlA v0), eNo 5]) :=
  itm_type F hs.fm (con_places hs hl) hl (con_wanted u) h
theorem dom_of {zs : List Int} (hs : Sml zs) (hl : zs.length ≤ 1000) (h : zs.length ≠ 0) (h2 : zs.length = wtd u.k) (hI : PureOK Tryz.prog 92 [.agg (vlA u), .r (rowR 1 i64C zs)] (.v (.bool false))) : PureOK Tryz.prog 40 [.agg (vlA u), .r (rowR 15 vlE (nL zs))] (.tup [.agg (vlA v0), eNo 3]) :=
  itm_dom F hs.fm (con_places hs hl) hl (con_wanted u) h h2 hI
theorem Itm.of {i k : Int} (hi : -1000 ≤ i ∧ i ≤ 1000) {w1 w2 : Vl} {e1 e2 : Int} (a : PureOK Tryz.prog 40 [.agg (vlA u), .r (rowR 15 vlE (nL [i]))] (.tup [.agg (vlA w1), eNo e1])) (b : PureOK Tryz.prog 40 [.agg (vlA u), .r (rowR 15 vlE (nL [i, k]))] (.tup [.agg (vlA w2), eNo e2])) : Itm u i k w1 e1 w2 e2 5 5 where
  a := a
  b := b
  g := itm_nil (ty_of F (zs := []) no_mem (by decide) (.inl rfl))
  h := ty_of F (Sml.three hi) (by show 3 ≤ 1000; decide) (.inr (by have := wtd_le u.k; show 3 ≠ wtd u.k; omega))
end
theorem ValueItems_ok (v : Vl) (hrW : rW v) (i : Int) (hi : -128 ≤ i ∧ i ≤ 127) (k : Int) (hk : -128 ≤ k ∧ k ≤ 127) : PureOK Tryz.prog 10 [.agg (vlA v), .v (.int .i8 i), .v (.int .i8 k)] (.v (.bool true)) := by
  have hi' : -1000 ≤ i ∧ i ≤ 1000 := by omega
  have hk' : -1000 ≤ k ∧ k ≤ 1000 := by omega
  by_cases hw : vW 3 v
  · have hf := con_fewT hw hw
    have hZ := vZ.few hw hrW
    have cF := con_vFormed hZ
    have ci := con_is hZ
    by_cases hF : vF 20 v = true
    · rw [hF] at cF ci
      have hC := Cv.of hw hrW hF
      have s1 : Sml [i] := Sml.one hi'
      have s2 : Sml [i, k] := Sml.two hi' hk'
      cases hC with
      | one h =>
        cases h with
        | num x h =>
          exact Itm_1 hi' hk' hf (Itm.of cF hi' (ty_of cF s1 (by show 1 ≤ 1000; decide) (.inr (by show 1 ≠ 0; decide))) (ty_of cF s2 (by show 2 ≤ 1000; decide) (.inr (by show 2 ≠ 0; decide)))) ci rfl
        | mat r c vs hl hr hc h =>
          have a := ty_of cF s1 (by show 1 ≤ 1000; decide) (.inr (by show 1 ≠ 2; decide))
          by_cases hin : 1 ≤ i ∧ i ≤ (r : Int) ∧ 1 ≤ k ∧ k ≤ (c : Int)
          · obtain ⟨n, rfl⟩ : ∃ n : Nat, i = n := ⟨i.toNat, by omega⟩
            obtain ⟨m, rfl⟩ : ∃ m : Nat, k = m := ⟨k.toNat, by omega⟩
            have hx := vat_at hl (show n - 1 < r by omega) (show m - 1 < c by omega)
            have b := itm2 (K := 2) (n := n) (m := m) (by decide) (by decide) (by omega) (by omega) h hl hr hc (by omega) (by omega)
            refine Itm_2b hi' hk' hf (Itm.of cF hi' a b) ci (by omega) (by omega) (by omega) (by omega) ?_ (vat_RB h (by decide) c (n - 1) (m - 1)) hc hr
            rw [show (n - 1) * c + m - 1 = (n - 1) * c + (m - 1) by omega]; exact hx
          · have hI := con_in2 (vMat r c vs) rfl i k
            rw [decide_eq_false hin] at hI
            exact Itm_2a hi' hk' hf (Itm.of cF hi' a (dom_of cF s2 (by show 2 ≤ 1000; decide) (by show 2 ≠ 0; decide) rfl hI)) ci rfl hin
        | pol zs hl hn' h =>
          have b := ty_of cF s2 (by show 2 ≤ 1000; decide) (.inr (by show 2 ≠ 1; decide))
          by_cases h0 : 0 ≤ i
          · obtain ⟨n, rfl⟩ : ∃ n : Nat, i = n := ⟨i.toNat, by omega⟩
            exact Itm_3b hi' hk' hf (Itm.of cF hi' (itm3 (K := 2) (by decide) (by omega) hl hn' h (by decide)) b) ci h hl
          · have hI := con_in3 (vPol zs) (.inl rfl) i
            rw [decide_eq_false h0] at hI
            exact Itm_3a hi' hk' hf (Itm.of cF hi' (dom_of cF s1 (by show 1 ≤ 1000; decide) (by show 1 ≠ 0; decide) rfl hI) b) ci (.inl rfl) (by omega)
        | fld p r c l hp hl hr hc h =>
          have a := ty_of cF s1 (by show 1 ≤ 1000; decide) (.inr (by show 1 ≠ 2; decide))
          by_cases hin : 1 ≤ i ∧ i ≤ (r : Int) ∧ 1 ≤ k ∧ k ≤ (c : Int)
          · obtain ⟨n, rfl⟩ : ∃ n : Nat, i = n := ⟨i.toNat, by omega⟩
            obtain ⟨m, rfl⟩ : ∃ m : Nat, k = m := ⟨k.toNat, by omega⟩
            have hlt := idx_lt (show n - 1 < r by omega) (show m - 1 < c by omega)
            obtain ⟨x, hx⟩ : ∃ x, l[(n - 1) * c + m - 1]? = some x := ⟨_, List.getElem?_eq_getElem (by omega)⟩
            have hxp := h x (List.mem_of_getElem? hx)
            have b := itm4 (K := 2) (n := n) (m := m) (by decide) (by decide) (by omega) (by omega) hp hl hr hc h (by omega) (by omega) hx
            exact Itm_4b hi' hk' hf (Itm.of cF hi' a b) ci (by omega) (by omega) (by omega) (by omega) hx (by have := hp.lt.2; omega) hc hr
          · have hI := con_in4 (vFld p r c l) rfl i k
            rw [decide_eq_false hin] at hI
            exact Itm_4a hi' hk' hf (Itm.of cF hi' a (dom_of cF s2 (by show 2 ≤ 1000; decide) (by show 2 ≠ 0; decide) rfl hI)) ci rfl hin
        | rng p l hp hl hn' h =>
          have b := ty_of cF s2 (by show 2 ≤ 1000; decide) (.inr (by show 2 ≠ 1; decide))
          by_cases h0 : 0 ≤ i
          · obtain ⟨n, rfl⟩ : ∃ n : Nat, i = n := ⟨i.toNat, by omega⟩
            exact Itm_5b hi' hk' hf (Itm.of cF hi' (itm5 (K := 2) (by decide) (by omega) hp hl hn' h) b) ci (fun x hx => by have := hp.lt.2; have := h x hx; omega) hl
          · have hI := con_in3 (vRng p l) (.inr rfl) i
            rw [decide_eq_false h0] at hI
            exact Itm_3a hi' hk' hf (Itm.of cF hi' (dom_of cF s1 (by show 1 ≤ 1000; decide) (by show 1 ≠ 0; decide) rfl hI) b) ci (.inr rfl) (by omega)
      | lst l hl h =>
        have b := ty_of cF s2 (by show 2 ≤ 1000; decide) (.inr (by show 2 ≠ 1; decide))
        by_cases hin : 1 ≤ i ∧ i ≤ (l.length : Int)
        · obtain ⟨n, rfl⟩ : ∃ n : Nat, i = n := ⟨i.toNat, by omega⟩
          obtain ⟨x, hx⟩ : ∃ x, l[n - 1]? = some x := ⟨_, List.getElem?_eq_getElem (by omega)⟩
          have hCx := h x (List.mem_of_getElem? hx)
          have a := itm6 (K := 2) (by decide) (by omega) (.lst l hl h) (by decide) hl (by omega) hx (con_own _ x (hCx.z (by decide)))
          exact Itm_6b hi' hk' hf (Itm.of cF hi' a b) ci (by omega) hx hCx (by decide) hl
        · have hI := con_in6 (vLst l) rfl i
          rw [decide_eq_false hin] at hI
          exact Itm_6a hi' hk' hf (Itm.of cF hi' (dom_of cF s1 (by show 1 ≤ 1000; decide) (by show 1 ≠ 0; decide) rfl hI) b) ci rfl hin
    · rw [Bool.eq_false_iff.2 hF] at cF ci
      exact Itm_bad hi' hk' hf ⟨itm_form cF, itm_form cF, itm_form0 cF, itm_form cF⟩ ci
  · have cW := con_awake29
    have hf := con_fewF (u := v) (v := v) fun h => hw h.1
    refine PureOK.fnF Tryz.func10 Tryz.results10 Tryz.ntmps10 rfl rfl rfl (by simp [AV.ids, AV0.ids, Atom.ids]) rfl (fun w0 T B E0 hB => ?_)
    refine SX.goK ?_
    exact retB rfl
end Go.Proofs.YtfhpmbenldgfnaaGreatDoor

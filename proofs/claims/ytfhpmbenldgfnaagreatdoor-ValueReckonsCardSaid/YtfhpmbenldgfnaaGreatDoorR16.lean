import Derived.Test.YtfhpmbenldgfnaaGreatDoorR15
import Derived.Test.YtfhpmbenldgfnaaGreatDoorR8
set_option linter.unusedVariables false
set_option linter.unusedSimpArgs false
namespace Go.Proofs.YtfhpmbenldgfnaaGreatDoor
open Go.RowKit QM SX LA
theorem zOk_cz (z : Int) : zOk (cz z) = true := (zOk_iff (cz_sm z)).2 (by rw [cz_val])
theorem lz_iff {zs : List Int} : lz (zs.map cz) = true ↔ pN zs := by
  unfold lz pN
  rw [Bool.or_eq_true, decide_eq_true_iff, decide_eq_true_iff, List.length_map]
  by_cases h : zs.length = 0
  · exact ⟨fun _ => .inl h, fun _ => .inl h⟩
  · have e : rzv ((zs.map cz).getD (zs.length - 1) (false, [])) = zs.getD (zs.length - 1) 0 := by
      rw [List.getD_eq_getElem?_getD, List.getD_eq_getElem?_getD, List.getElem?_map, List.getElem?_eq_getElem (show zs.length - 1 < zs.length by omega)]
      exact cz_val _
    rw [e]
theorem lw_iff {l : List Nat} : lw l = true ↔ wN l := by
  unfold lw wN
  rw [Bool.or_eq_true, decide_eq_true_iff, decide_eq_true_iff]
theorem ltp_all {p : Nat} {l : List Nat} : l.all (ltp p) = true ↔ ∀ x ∈ l, x < p := by
  rw [List.all_eq_true]
  exact ⟨fun h x hx => of_decide_eq_true (h x hx), fun h x hx => decide_eq_true (h x hx)⟩
theorem vP_pol (zs : List Int) : vP (vPol zs) = 0 := (vP0 _).2 ⟨.inr ⟨rfl, rfl, rfl, rfl⟩, .inr ⟨rfl, rfl, rfl⟩, .inl rfl, .inr ⟨rfl, rfl, rfl⟩, .inr rfl, .inr (.inr rfl), .inr rfl⟩
theorem vP_fld (p r c : Nat) (l : List Nat) : vP (vFld p r c l) = 0 := (vP0 _).2 ⟨.inr ⟨rfl, rfl, rfl, rfl⟩, .inr ⟨rfl, rfl, rfl⟩, .inr rfl, .inl rfl, .inr rfl, .inl rfl, .inr rfl⟩
theorem vP_rng (p : Nat) (l : List Nat) : vP (vRng p l) = 0 := (vP0 _).2 ⟨.inr ⟨rfl, rfl, rfl, rfl⟩, .inr ⟨rfl, rfl, rfl⟩, .inr rfl, .inr ⟨rfl, rfl, rfl⟩, .inl rfl, .inr (.inl rfl), .inr rfl⟩
theorem vP_lst (l : List Vl) : vP (vLst l) = 0 := (vP0 _).2 ⟨.inr ⟨rfl, rfl, rfl, rfl⟩, .inr ⟨rfl, rfl, rfl⟩, .inr rfl, .inr ⟨rfl, rfl, rfl⟩, .inr rfl, .inr (.inr rfl), .inl rfl⟩
theorem rq0_sz : (Sm WB rq0.2.1 ∧ Sm WB rq0.2.2.2) ∧ rq0.2.1.length ≤ 100000 ∧ rq0.2.2.2.length ≤ 100000 := ⟨⟨Sm.nil, Sm.nil⟩, Nat.zero_le _, Nat.zero_le _⟩
theorem no_mem {α : Type} {p : α → Prop} : ∀ x ∈ ([] : List α), p x := fun x hx => by cases hx
theorem vZ0_pol {zs : List Int} {K : Nat} (h : ∀ z ∈ zs, z.natAbs < WB ^ K) (hK : K ≤ 100000) (hl : zs.length ≤ 100000) : vZ0 (vPol zs) where
  q := rq0_sz
  a := no_mem
  al := Nat.zero_le _
  po := fun x hx => by obtain ⟨z, hz, rfl⟩ := List.mem_map.1 hx; exact ⟨cz_sm z, Nat.le_trans (wds_len (h z hz)) hK⟩
  pol := by rw [List.length_map]; exact hl
  p := WB_pos
  fa := no_mem
  fal := Nat.zero_le _
  ri := no_mem
  ril := Nat.zero_le _
  lil := Nat.zero_le _
theorem PrP.wb {p : Nat} (h : PrP p) : p < WB := by have := h.2.1; rw [WB_eq]; omega
theorem vZ0_fld {p r c : Nat} {l : List Nat} (hp : PrP p) (h : ∀ x ∈ l, x < p) (hl : l.length ≤ 100000) : vZ0 (vFld p r c l) where
  q := rq0_sz
  a := no_mem
  al := Nat.zero_le _
  po := no_mem
  pol := Nat.zero_le _
  p := hp.wb
  fa := fun x hx => Nat.lt_trans (h x hx) hp.wb
  fal := hl
  ri := no_mem
  ril := Nat.zero_le _
  lil := Nat.zero_le _
theorem vZ0_rng {p : Nat} {l : List Nat} (hp : PrP p) (h : ∀ x ∈ l, x < p) (hl : l.length ≤ 100000) : vZ0 (vRng p l) where
  q := rq0_sz
  a := no_mem
  al := Nat.zero_le _
  po := no_mem
  pol := Nat.zero_le _
  p := hp.wb
  fa := no_mem
  fal := Nat.zero_le _
  ri := fun x hx => Nat.lt_trans (h x hx) hp.wb
  ril := hl
  lil := Nat.zero_le _
theorem vZ0_lst {l : List Vl} (hl : l.length ≤ 100000) : vZ0 (vLst l) where
  q := rq0_sz
  a := no_mem
  al := Nat.zero_le _
  po := no_mem
  pol := Nat.zero_le _
  p := WB_pos
  fa := no_mem
  fal := Nat.zero_le _
  ri := no_mem
  ril := Nat.zero_le _
  lil := hl
theorem Sh.z {K : Nat} {v : Vl} (h : Sh K v) (hK : K ≤ 100000) : vZ0 v ∧ v.li = [] := by
  cases h with
  | num x h => exact ⟨vZ0.num h hK, rfl⟩
  | mat r c vs hl hr hc h => exact ⟨vZ0.mat h hK (by have := Nat.mul_le_mul hr hc; omega), rfl⟩
  | pol zs hl hn h => exact ⟨vZ0_pol h hK (by omega), rfl⟩
  | fld p r c l hp hl hr hc h => exact ⟨vZ0_fld hp h (by have := Nat.mul_le_mul hr hc; omega), rfl⟩
  | rng p l hp hl hn h => exact ⟨vZ0_rng hp h (by omega), rfl⟩
theorem Sh.f {K : Nat} {v : Vl} (h : Sh K v) (d : Nat) : vF d v = true := by
  cases h with
  | num x h => exact vF_num d x
  | mat r c vs hl hr hc h => exact vF_mat d hl hr hc
  | pol zs hl hn h =>
    rw [vF_3 (vP_pol zs) rfl]; unfold pOk
    rw [Bool.and_eq_true]
    exact ⟨List.all_eq_true.2 fun x hx => by obtain ⟨z, _, rfl⟩ := List.mem_map.1 hx; exact zOk_cz z, lz_iff.2 hn⟩
  | fld p r c l hp hl hr hc h =>
    rw [vF_4 (vP_fld p r c l) rfl]; unfold fOk
    rw [Bool.and_eq_true, Bool.and_eq_true]
    exact ⟨decide_eq_true hp, ltp_all.2 h, fp64_nat hr hc hl⟩
  | rng p l hp hl hn h =>
    rw [vF_5 (vP_rng p l) rfl]; unfold rOk
    rw [Bool.and_eq_true, Bool.and_eq_true]
    exact ⟨decide_eq_true hp, ltp_all.2 h, lw_iff.2 hn⟩
theorem Sh.zz {K : Nat} {v : Vl} (h : Sh K v) (hK : K ≤ 100000) : ∀ n, vZ n v
  | 0 => h.z hK
  | n + 1 => ⟨(h.z hK).1, by rw [(h.z hK).2]; exact no_mem⟩
theorem Cv.z {K : Nat} (hK : K ≤ 100000) : ∀ {n : Nat} {v : Vl}, Cv K n v → vZ n v := by
  intro n
  induction n with
  | zero =>
    intro v h
    cases h with
    | one h => exact h.zz hK 0
  | succ n ih =>
    intro v h
    cases h with
    | one h => exact h.zz hK _
    | lst l hl h => exact ⟨vZ0_lst (by omega), fun x hx => ih (h x hx)⟩
theorem Cv.f {K : Nat} : ∀ {n : Nat} {v : Vl}, Cv K n v → ∀ d, n < d → vF d v = true := by
  intro n
  induction n with
  | zero =>
    intro v h d hd
    cases h with
    | one h => exact h.f d
  | succ n ih =>
    intro v h d hd
    cases h with
    | one h => exact h.f d
    | lst l hl h =>
      obtain ⟨e, rfl⟩ : ∃ e, d = e + 1 := ⟨d - 1, by omega⟩
      rw [vF_6 (vP_lst l) rfl]
      exact List.all_eq_true.2 fun x hx => ih (h x hx) e (by omega)
theorem map_back {α β : Type} {f : α → β} {g : β → α} : ∀ (l : List β), (∀ x ∈ l, x = f (g x)) → l = (l.map g).map f
  | [], _ => rfl
  | x :: l, h => by rw [List.map_cons, List.map_cons, ← h x (List.mem_cons_self ..), ← map_back l fun y hy => h y (List.mem_cons_of_mem _ hy)]
theorem rqv_b {q : RawQ} (hs : Sm WB q.2.1 ∧ Sm WB q.2.2.2) (h : q.2.1.length ≤ 2 ∧ q.2.2.2.length ≤ 2) : RB (rqv q) 2 := Ra.rb (Ra.rawq hs h) (by decide)
theorem nilL {α : Type} {l : List α} (h : l.length = 0) : l = [] := List.eq_nil_of_length_eq_zero h
theorem small_key {d e : Nat} {v : Vl} (hw : vW1 d v) (hr : rW v) (hf : vF e v = true) : Sh 2 v ∨ (v = vLst v.li ∧ ∃ e', e = e' + 1 ∧ ∀ x ∈ v.li, vF e' x = true) := by
  by_cases hP : vP v = 0
  rotate_left
  · rw [vF_P hP] at hf; cases hf
  have h0 := (vP0 v).1 hP
  obtain ⟨w1, w2, w3, w4, w5, w6, w7, w8⟩ := hw
  obtain ⟨r1, r2, r3, r4, r5, r6, r7⟩ := (rW_iff v).1 hr
  have hk : v.k = 1 ∨ v.k = 2 ∨ v.k = 3 ∨ v.k = 4 ∨ v.k = 5 ∨ v.k = 6 ∨ (v.k ≠ 1 ∧ v.k ≠ 2 ∧ v.k ≠ 3 ∧ v.k ≠ 4 ∧ v.k ≠ 5 ∧ v.k ≠ 6) := by omega
  have q0 : v.k ≠ 1 → v.q = rq0 := fun h => (rq0_iff _).2 (h0.1.resolve_left h)
  have m0 : v.k ≠ 2 → v.r = 0 ∧ v.c = 0 ∧ v.a = [] := fun h => by have := h0.2.1.resolve_left h; exact ⟨this.1, this.2.1, nilL this.2.2⟩
  have p0 : v.k ≠ 3 → v.po = [] := fun h => nilL (h0.2.2.1.resolve_left h)
  have f0 : v.k ≠ 4 → v.fr = 0 ∧ v.fc = 0 ∧ v.fa = [] := fun h => by have := h0.2.2.2.1.resolve_left h; exact ⟨this.1, this.2.1, nilL this.2.2⟩
  have i0 : v.k ≠ 5 → v.ri = [] := fun h => nilL (h0.2.2.2.2.1.resolve_left h)
  have P0 : v.k ≠ 4 → v.k ≠ 5 → v.p = 0 := fun h h' => (h0.2.2.2.2.2.1.resolve_left h).resolve_left h'
  have l0 : v.k ≠ 6 → v.li = [] := fun h => nilL (h0.2.2.2.2.2.2.resolve_left h)
  clear h0
  rcases hk with hk | hk | hk | hk | hk | hk | hk
  · rw [vF_1 hP hk] at hf
    have e1 := (qOk_iff r1).1 hf
    obtain ⟨m1, m2, m3⟩ := m0 (by omega); obtain ⟨f1, f2, f3⟩ := f0 (by omega)
    have p1 := p0 (by omega); have i1 := i0 (by omega); have P1 := P0 (by omega) (by omega); have l1 := l0 (by omega)
    have rb := rqv_b r1 w6
    obtain ⟨k, q, r, c, a, po, p, fr, fc, fa, ri, li⟩ := v
    dsimp only at *
    subst hk m1 m2 m3 f1 f2 f3 p1 i1 P1 l1
    rw [e1]
    exact .inl (.num _ rb)
  · rw [vF_2 hP hk] at hf
    unfold mOk at hf
    rw [Bool.and_eq_true] at hf
    have e1 : ∀ x ∈ v.a, x = cq (rqv x) := fun x hx => (qOk_iff (r2 x hx)).1 (List.all_eq_true.1 hf.1 x hx)
    have e2 := of_decide_eq_true hf.2
    have rb : ∀ y ∈ v.a.map rqv, RB y 2 := fun y hy => by
      obtain ⟨x, hx, rfl⟩ := List.mem_map.1 hy
      exact rqv_b (r2 x hx) (FewP.len (w := 2) w7 x hx)
    have q1 := q0 (by omega); obtain ⟨f1, f2, f3⟩ := f0 (by omega)
    have p1 := p0 (by omega); have i1 := i0 (by omega); have P1 := P0 (by omega) (by omega); have l1 := l0 (by omega)
    obtain ⟨k, q, r, c, a, po, p, fr, fc, fa, ri, li⟩ := v
    dsimp only at *
    subst hk q1 f1 f2 f3 p1 i1 P1 l1
    obtain ⟨n, rfl⟩ : ∃ n : Nat, r = n := ⟨r.toNat, by omega⟩
    obtain ⟨m, rfl⟩ : ∃ m : Nat, c = m := ⟨c.toNat, by omega⟩
    have e3 := map_back (f := cq) (g := rqv) a e1
    have e4 : (a.map rqv).length = n * m := by rw [List.length_map]; have := e2.2.2.2.2; rw [← Int.natCast_mul] at this; omega
    have := Sh.mat n m (a.map rqv) e4 (by omega) (by omega) rb
    unfold vMat at this
    rw [← e3] at this
    exact .inl this
  · rw [vF_3 hP hk] at hf
    unfold pOk at hf
    rw [Bool.and_eq_true] at hf
    have e1 : ∀ x ∈ v.po, x = cz (rzv x) := fun x hx => (zOk_iff (r3 x hx)).1 (List.all_eq_true.1 hf.1 x hx)
    have rb : ∀ y ∈ v.po.map rzv, y.natAbs < WB ^ 2 := fun y hy => by
      obtain ⟨x, hx, rfl⟩ := List.mem_map.1 hy
      exact (ZQ.raw (b := x.1) (r3 x hx) (w1.2 x hx)).b
    have q1 := q0 (by omega); obtain ⟨f1, f2, f3⟩ := f0 (by omega); obtain ⟨m1, m2, m3⟩ := m0 (by omega)
    have i1 := i0 (by omega); have P1 := P0 (by omega) (by omega); have l1 := l0 (by omega)
    obtain ⟨k, q, r, c, a, po, p, fr, fc, fa, ri, li⟩ := v
    dsimp only at *
    subst hk q1 f1 f2 f3 m1 m2 m3 i1 P1 l1
    have e3 := map_back (f := cz) (g := rzv) po e1
    have e4 : pN (po.map rzv) := lz_iff.1 (by rw [← e3]; exact hf.2)
    have := Sh.pol (po.map rzv) (by rw [List.length_map]; omega) e4 rb
    unfold vPol at this
    rw [← e3] at this
    exact .inl this
  · rw [vF_4 hP hk] at hf
    unfold fOk at hf
    rw [Bool.and_eq_true, Bool.and_eq_true, decide_eq_true_iff, ltp_all] at hf
    have e2 := of_decide_eq_true hf.2.2
    have q1 := q0 (by omega); obtain ⟨m1, m2, m3⟩ := m0 (by omega)
    have p1 := p0 (by omega); have i1 := i0 (by omega); have l1 := l0 (by omega)
    obtain ⟨k, q, r, c, a, po, p, fr, fc, fa, ri, li⟩ := v
    dsimp only at *
    subst hk q1 m1 m2 m3 p1 i1 l1
    obtain ⟨n, rfl⟩ : ∃ n : Nat, fr = n := ⟨fr.toNat, by omega⟩
    obtain ⟨m, rfl⟩ : ∃ m : Nat, fc = m := ⟨fc.toNat, by omega⟩
    have e4 : fa.length = n * m := by have := e2.2.2.2.2; rw [← Int.natCast_mul] at this; omega
    exact .inl (.fld p n m fa hf.1 e4 (by omega) (by omega) hf.2.1)
  · rw [vF_5 hP hk] at hf
    unfold rOk at hf
    rw [Bool.and_eq_true, Bool.and_eq_true, decide_eq_true_iff, ltp_all, lw_iff] at hf
    have q1 := q0 (by omega); obtain ⟨m1, m2, m3⟩ := m0 (by omega); obtain ⟨f1, f2, f3⟩ := f0 (by omega)
    have p1 := p0 (by omega); have l1 := l0 (by omega)
    obtain ⟨k, q, r, c, a, po, p, fr, fc, fa, ri, li⟩ := v
    dsimp only at *
    subst hk q1 m1 m2 m3 f1 f2 f3 p1 l1
    exact .inl (.rng p ri hf.1 (by omega) hf.2.2 hf.2.1)
  · have q1 := q0 (by omega); obtain ⟨m1, m2, m3⟩ := m0 (by omega); obtain ⟨f1, f2, f3⟩ := f0 (by omega)
    have p1 := p0 (by omega); have i1 := i0 (by omega); have P1 := P0 (by omega) (by omega)
    cases e with
    | zero => rw [vF_60 hk] at hf; cases hf
    | succ e =>
      rw [vF_6 hP hk, List.all_eq_true] at hf
      obtain ⟨k, q, r, c, a, po, p, fr, fc, fa, ri, li⟩ := v
      dsimp only at *
      subst hk q1 m1 m2 m3 f1 f2 f3 p1 i1 P1
      exact .inr ⟨rfl, e, rfl, hf⟩
  · rw [vF_7 hk] at hf; cases hf
theorem Cv.of : ∀ {d e : Nat} {v : Vl}, vW d v → rW v → vF e v = true → Cv 2 (d + 1) v := by
  intro d
  induction d with
  | zero =>
    intro e v h hr hf
    rcases small_key h.one hr hf with h1 | ⟨h1, e', he, h2⟩
    · exact .one h1
    · rw [h1]; exact .lst v.li (by rw [h.2]; exact Nat.zero_le _) (by rw [h.2]; exact no_mem)
  | succ d ih =>
    intro e v h hr hf
    rcases small_key h.one hr hf with h1 | ⟨h1, e', he, h2⟩
    · exact .one h1
    · rw [h1]
      exact .lst v.li (by have := h.one.2.2.1; omega) fun x hx => ih (h.2 x hx) (((rW_iff v).1 hr).2.2.2.2.2.2 x hx) (h2 x hx)
attribute [local irreducible] IntKind.wrap Go1 Reg WP thenK inBlk retQ retF RetF RetOK ResOK CallOK OpOK Sat
attribute [local irreducible] qsub qmul qquo qcmp qadd qv redS mf PrP qOk zOk vP fp64 lz vF cq rqv plen pNorm
theorem Cv.F {K n : Nat} {v : Vl} (h : Cv K n v) (hK : K ≤ 100000) (hn : n ≤ 15) : PureOK Tryz.prog 28 [.agg (vlA v)] (.v (.bool true)) := by
  have c := con_vFormed (h.z hK)
  rwa [h.f 20 (by omega)] at c
theorem Cv.is {K n : Nat} {v : Vl} (h : Cv K n v) (hK : K ≤ 100000) (hn : n ≤ 15) : PureOK Tryz.prog 14 [.agg (vlA v)] (.v (.bool true)) := by
  have c := con_is (h.z hK)
  rwa [h.f 20 (by omega)] at c
theorem con_Same {K L n m : Nat} {u v : Vl} (hu : Cv K n u) (hv : Cv L m v) (hK : K + L ≤ 100000) (hn : n ≤ 15) (hm : m ≤ 15) : PureOK Tryz.prog 17 [.agg (vlA u), .agg (vlA v)] (.v (.bool (sameV u v))) := by
  have c := con_same hK n m u v hu hv
  have c1 := hu.F (by omega) hn
  have c2 := hv.F (by omega) hm
  refine PureOK.fnF Tryz.func17 Tryz.results17 Tryz.ntmps17 rfl rfl rfl (by simp [AV.ids, AV0.ids, Atom.ids]) rfl (fun w0 T B E0 hB => ?_)
  refine SX.goJ ?_
  exact retB rfl
end Go.Proofs.YtfhpmbenldgfnaaGreatDoor
set_option linter.unusedVariables false
set_option linter.unusedSimpArgs false
namespace Go.Proofs.YtfhpmbenldgfnaaGreatDoor
open Go.RowKit QM SX LA
abbrev mq (vs : List Rat) : List Q4 := (vs.map cq).map rq
abbrev mz (zs : List Int) : List Z2 := (zs.map cz).map rz
theorem mq_len (vs : List Rat) : (mq vs).length = vs.length := by rw [List.length_map, List.length_map]
theorem mz_len (zs : List Int) : (mz zs).length = zs.length := by rw [List.length_map, List.length_map]
theorem imp_mat {r c : Nat} {vs : List Rat} : AV0.imp (.agg [.c (.val (.int .i64 2)), .c (.val (.bool false)), .c (.val (.slice none 0 0)), .c (.val (.bool false)), .c (.val (.slice none 0 0)), .c (.val (.int .i64 (r : Int))), .c (.val (.int .i64 (c : Int))), .c (.sat (rowR 4 q4C (vs.map q4v))), .c (.val (.slice none 0 0)), .c (.val (.int .u64 0)), .c (.val (.int .i64 0)), .c (.val (.int .i64 0)), .c (.val (.slice none 0 0)), .c (.val (.slice none 0 0)), .c (.val (.slice none 0 0))]) (.agg (vlA (vMat r c vs))) :=
  imp_agg ⟨AtomI.refl _, AtomI.refl _, AtomI.nilN, AtomI.refl _, AtomI.nilN, AtomI.refl _, AtomI.refl _, AtomI.rats vs, AtomI.nil, AtomI.refl _, AtomI.refl _, AtomI.refl _, AtomI.nil, AtomI.nil, AtomI.nil, trivial⟩
theorem imp_pol {zs : List Int} : AV0.imp (.agg [.c (.val (.int .i64 3)), .c (.val (.bool false)), .c (.val (.slice none 0 0)), .c (.val (.bool false)), .c (.val (.slice none 0 0)), .c (.val (.int .i64 0)), .c (.val (.int .i64 0)), .c (.val (.slice none 0 0)), .c (.sat (rowR 2 z2C (zs.map z2v))), .c (.val (.int .u64 0)), .c (.val (.int .i64 0)), .c (.val (.int .i64 0)), .c (.val (.slice none 0 0)), .c (.val (.slice none 0 0)), .c (.val (.slice none 0 0))]) (.agg (vlA (vPol zs))) :=
  imp_agg ⟨AtomI.refl _, AtomI.refl _, AtomI.nilN, AtomI.refl _, AtomI.nilN, AtomI.refl _, AtomI.refl _, AtomI.nil, AtomI.ints zs, AtomI.refl _, AtomI.refl _, AtomI.refl _, AtomI.nil, AtomI.nil, AtomI.nil, trivial⟩
attribute [local irreducible] IntKind.wrap Go1 Reg WP thenK inBlk retQ retF RetF RetOK ResOK CallOK OpOK Sat
attribute [local irreducible] qsub qmul qquo qcmp qadd qv redS mf PrP qOk zOk vP fp64 lz vF cq rqv plen pNorm pBoth pScale
theorem con_matT (r c : Nat) (vs : List Rat) : PureOK Tryz.prog 108 [.agg (matQ r c (vs.map q4v)), .v (.int .i64 0)] (.tup [.agg (vlA (vMat r c vs)), eNo 0]) := by
  refine PureOK.fnF Tryz.func108 Tryz.results108 Tryz.ntmps108 rfl rfl rfl (by simp [AV.ids, AV0.ids, Atom.ids]) rfl (fun w0 T B E0 hB => ?_)
  refine SX.goJ ?_
  refine .ok (RetOK.mk2 ((ResOK.agg15 rfl rfl rfl).imp ?_) (ResOK.tmp rfl))
  exact imp_mat
theorem con_matF {r c : Int} {x : Rep} {e : Int} (he : e ≠ 0) : PureOK Tryz.prog 108 [.agg [.c (.val (.int .i64 r)), .c (.val (.int .i64 c)), .c (.sat x)], .v (.int .i64 e)] (.tup [.agg (vlA v0), eNo e]) := by
  refine PureOK.fnF Tryz.func108 Tryz.results108 Tryz.ntmps108 rfl rfl rfl (by simp [AV.ids, AV0.ids, Atom.ids]) rfl (fun w0 T B E0 hB => ?_)
  refine SX.goJ ?_
  refine .ok (RetOK.mk2 ((ResOK.agg15 rfl rfl rfl).imp ?_) (ResOK.tmp rfl))
  exact imp_none
def mAdd (r c : Nat) (vs vs' : List Rat) : List Rat := tabR c (fun i k => vat vs c i k + vat vs' c i k) r
def mScale (r c : Nat) (vs : List Rat) (x : Rat) : List Rat := tabR c (fun i k => vat vs c i k * x) r
def mxMul (r c d : Nat) (vs vs' : List Rat) : List Rat := tabR d (prodV c (vat vs c) (vat vs' d)) r
theorem mAdd_len (r c : Nat) (vs vs' : List Rat) : (mAdd r c vs vs').length = r * c := tabR_len r
theorem mScale_len (r c : Nat) (vs : List Rat) (x : Rat) : (mScale r c vs x).length = r * c := tabR_len r
theorem mxMul_len (r c d : Nat) (vs vs' : List Rat) : (mxMul r c d vs vs').length = r * d := tabR_len r
theorem mAdd_RB {r c : Nat} {vs vs' : List Rat} {K L : Nat} (h : ∀ v ∈ vs, RB v K) (h' : ∀ v ∈ vs', RB v L) (h1 : 1 ≤ K) (h1' : 1 ≤ L) : ∀ v ∈ mAdd r c vs vs', RB v (K + L + 1) := tabR_RB fun i k _ _ => (vat_RB h h1 c i k).add (vat_RB h' h1' c i k)
theorem mScale_RB {r c : Nat} {vs : List Rat} {x : Rat} {K L : Nat} (h : ∀ v ∈ vs, RB v K) (h' : RB x L) (h1 : 1 ≤ K) : ∀ v ∈ mScale r c vs x, RB v (K + L) := tabR_RB fun i k _ _ => (vat_RB h h1 c i k).mul h'
theorem con_qmAddV {r c : Nat} {vs vs' : List Rat} {K L : Nat} (h : ∀ v ∈ vs, RB v K) (h' : ∀ v ∈ vs', RB v L) (hl : vs.length = r * c) (hl' : vs'.length = r * c) (hr : r ≤ 64) (hc : c ≤ 64) (h1 : 1 ≤ K) (h1' : 1 ≤ L) (hK : K + L ≤ 300000) :
    PureOK Tryz.prog 77 [.agg (matQ r c (mq vs)), .agg (matQ r c (mq vs'))] (.tup [.agg (matQ r c ((mAdd r c vs vs').map q4v)), eNo 0]) := by
  have c1 := con_qmAdd (MV.cq h) (by rw [mq_len]; exact hl) (MV.cq h') (by rw [mq_len]; exact hl') hr hc h1 h1' hK
  rw [matA_matQ] at c1
  exact c1
theorem con_sum2 {r c : Nat} {vs vs' : List Rat} {K L : Nat} (h : ∀ v ∈ vs, RB v K) (h' : ∀ v ∈ vs', RB v L) (hl : vs.length = r * c) (hl' : vs'.length = r * c) (hr : r ≤ 64) (hc : c ≤ 64) (h1 : 1 ≤ K) (h1' : 1 ≤ L) (hK : K + L ≤ 300000) :
    PureOK Tryz.prog 47 [.agg (vlA (vMat r c vs)), .agg (vlA (vMat r c vs'))] (.tup [.agg (vlA (vMat r c (mAdd r c vs vs'))), eNo 0]) := by
  have c1 := con_qmAddV h h' hl hl' hr hc h1 h1' hK
  have c2 := con_matT r c (mAdd r c vs vs')
  refine PureOK.fnF Tryz.func47 Tryz.results47 Tryz.ntmps47 rfl rfl rfl (by simp [AV.ids, AV0.ids, Atom.ids]) rfl (fun w0 T B E0 hB => ?_)
  refine SX.goJ ?_
  refine .ok (RetOK.mk2 (ResOK.agg15 rfl rfl rfl) (ResOK.tmp rfl))
theorem con_sum3 {a b : List Int} {K L : Nat} (h : ∀ z ∈ a, z.natAbs < WB ^ K) (h' : ∀ z ∈ b, z.natAbs < WB ^ L) (hl : a.length ≤ 10000) (hl' : b.length ≤ 10000) (hK : K + L ≤ 100000) :
    PureOK Tryz.prog 47 [.agg (vlA (vPol a)), .agg (vlA (vPol b))] (.tup [.agg (vlA (vPol (pAdd a b))), eNo 0]) := by
  have c1 := con_pAdd (MZ.ofz h) (MZ.ofz h') (by rw [mz_len]; exact hl) (by rw [mz_len]; exact hl') hK
  refine PureOK.fnF Tryz.func47 Tryz.results47 Tryz.ntmps47 rfl rfl rfl (by simp [AV.ids, AV0.ids, Atom.ids]) rfl (fun w0 T B E0 hB => ?_)
  refine SX.goJ ?_
  refine .ok (RetOK.mk2 ((ResOK.agg15 rfl rfl rfl).imp ?_) (ResOK.tmp rfl))
  exact imp_pol
theorem con_neg1 {x : Rat} {K : Nat} (hx : RB x K) (hK : K ≤ 100000) : PureOK Tryz.prog 87 [.agg (vlA (vNum x))] (.tup [.agg (vlA (vNum (-x))), eNo 0]) := by
  haveI := Ra.cq hx
  obtain ⟨X, cA, hX⟩ := eNeg (q4A (rq (cq x))) (K := K) (by omega)
  have e := hX.nf
  subst e
  have cN := con_numT (-x) 0
  refine PureOK.fnF Tryz.func87 Tryz.results87 Tryz.ntmps87 rfl rfl rfl (by simp [AV.ids, AV0.ids, Atom.ids]) rfl (fun w0 T B E0 hB => ?_)
  refine SX.goJ ?_
  refine .ok (RetOK.mk2 (ResOK.agg15 rfl rfl rfl) (ResOK.tmp rfl))
theorem con_neg2 {r c : Nat} {vs : List Rat} {K : Nat} (h : ∀ v ∈ vs, RB v K) (hl : vs.length = r * c) (hr : r ≤ 64) (hc : c ≤ 64) (h1 : 1 ≤ K) (hK : K ≤ 100000) :
    PureOK Tryz.prog 87 [.agg (vlA (vMat r c vs))] (.tup [.agg (vlA (vMat r c (mScale r c vs (-1)))), eNo 0]) := by
  have o1 : PureOK Tryz.prog 23 [.v (.int .i64 (-1))] (.agg (zN (-1))) := con_zOf.h ⟨by decide, by decide⟩
  haveI b1 : Bd (-1) 1 := ⟨by rw [WB_eq]; decide⟩
  have o2 : PureOK Tryz.prog 36 [.agg (zN (-1))] (.agg (qA (-1))) := con_rOf.h (by decide)
  have c1 := con_qmScale (d := q4v (-1)) (v := -1) (K' := 1) (MV.cq h) (by rw [mq_len]; exact hl) (RB.ofI (z := -1) b1.h (by decide)).ra hr hc h1 (by decide) (by omega)
  rw [matA_matQ] at c1
  have c2 := con_matT r c (mScale r c vs (-1))
  refine PureOK.fnF Tryz.func87 Tryz.results87 Tryz.ntmps87 rfl rfl rfl (by simp [AV.ids, AV0.ids, Atom.ids]) rfl (fun w0 T B E0 hB => ?_)
  refine SX.goJ ?_
  refine .ok (RetOK.mk2 (ResOK.agg15 rfl rfl rfl) (ResOK.tmp rfl))
theorem con_pSub0 {b : List Int} {L : Nat} (h' : ∀ z ∈ b, z.natAbs < WB ^ L) (hl' : b.length ≤ 10000) (hK : L ≤ 90000) :
    PureOK Tryz.prog 60 [.v (.slice none 0 0), .r (rowR 2 z2C (mz b))] (.r (rowR 2 z2C ((pSub [] b).map z2v))) :=
  weakArgs (con_pSub (l := []) (zs := []) (K := 1) ⟨rfl, fun i q z h => by simp at h⟩ (MZ.ofz h') (Nat.zero_le _) (by rw [mz_len]; exact hl') (by omega)) fun E S w vs hv => by
    match vs, hv with
    | [u1, u2], ⟨h1, h2, _⟩ => exact ⟨AtomI.nil (α := Z2) (enc := z2C) (size := 2) E S w u1 h1, h2, trivial⟩
theorem con_neg3 {b : List Int} {L : Nat} (h' : ∀ z ∈ b, z.natAbs < WB ^ L) (hl' : b.length ≤ 10000) (hK : L ≤ 90000) :
    PureOK Tryz.prog 87 [.agg (vlA (vPol b))] (.tup [.agg (vlA (vPol (pSub [] b))), eNo 0]) := by
  have c1 := con_pSub0 h' hl' hK
  refine PureOK.fnF Tryz.func87 Tryz.results87 Tryz.ntmps87 rfl rfl rfl (by simp [AV.ids, AV0.ids, Atom.ids]) rfl (fun w0 T B E0 hB => ?_)
  refine SX.goJ ?_
  refine .ok (RetOK.mk2 ((ResOK.agg15 rfl rfl rfl).imp ?_) (ResOK.tmp rfl))
  exact imp_pol
theorem con_diff {u v w x : Vl} {e : Int} (c1 : PureOK Tryz.prog 87 [.agg (vlA v)] (.tup [.agg (vlA w), eNo 0])) (c2 : PureOK Tryz.prog 47 [.agg (vlA u), .agg (vlA w)] (.tup [.agg (vlA x), eNo e])) :
    PureOK Tryz.prog 48 [.agg (vlA u), .agg (vlA v)] (.tup [.agg (vlA x), eNo e]) := by
  refine PureOK.fnF Tryz.func48 Tryz.results48 Tryz.ntmps48 rfl rfl rfl (by simp [AV.ids, AV0.ids, Atom.ids]) rfl (fun w0 T B E0 hB => ?_)
  refine SX.goJ ?_
  refine .ok (RetOK.mk2 (ResOK.agg15 rfl rfl rfl) (ResOK.tmp rfl))
theorem con_diffE {u v : Vl} {e : Int} (he : e ≠ 0) (c1 : PureOK Tryz.prog 87 [.agg (vlA v)] (.tup [.agg (vlA v0), eNo e])) :
    PureOK Tryz.prog 48 [.agg (vlA u), .agg (vlA v)] (.tup [.agg (vlA v0), eNo e]) := by
  refine PureOK.fnF Tryz.func48 Tryz.results48 Tryz.ntmps48 rfl rfl rfl (by simp [AV.ids, AV0.ids, Atom.ids]) rfl (fun w0 T B E0 hB => ?_)
  refine SX.goJ ?_
  refine .ok (RetOK.mk2 ((ResOK.agg15 rfl rfl rfl).imp ?_) (ResOK.tmp rfl))
  exact imp_none
theorem con_prod1 {x y : Rat} {K L : Nat} (hx : RB x K) (hy : RB y L) (hK : K + L ≤ 1000000) : PureOK Tryz.prog 104 [.agg (vlA (vNum x)), .agg (vlA (vNum y))] (.tup [.agg (vlA (vNum (x * y))), eNo 0]) := by
  haveI := Ra.cq hx
  haveI := Ra.cq hy
  obtain ⟨X, cA, hX⟩ := eMul (q4A (rq (cq x))) (q4A (rq (cq y))) (K := K) (K' := L) (by omega)
  have e := hX.nf
  subst e
  have cN := con_numT (x * y) 0
  refine PureOK.fnF Tryz.func104 Tryz.results104 Tryz.ntmps104 rfl rfl rfl (by simp [AV.ids, AV0.ids, Atom.ids]) rfl (fun w0 T B E0 hB => ?_)
  refine SX.goJ ?_
  refine .ok (RetOK.mk2 (ResOK.agg15 rfl rfl rfl) (ResOK.tmp rfl))
theorem con_prod2 {r c d : Nat} {vs vs' : List Rat} {K L : Nat} (h : ∀ v ∈ vs, RB v K) (h' : ∀ v ∈ vs', RB v L) (hl : vs.length = r * c) (hl' : vs'.length = c * d) (hr : r ≤ 64) (hc : c ≤ 64) (hd : d ≤ 64) (h1 : 1 ≤ K) (h1' : 1 ≤ L) (hB : 1 + (c + 1) * (K + L + 1) ≤ 400000) :
    PureOK Tryz.prog 104 [.agg (vlA (vMat r c vs)), .agg (vlA (vMat c d vs'))] (.tup [.agg (vlA (vMat r d (mxMul r c d vs vs'))), eNo 0]) := by
  have c1 := con_qmMul (MV.cq h) (by rw [mq_len]; exact hl) (MV.cq h') (by rw [mq_len]; exact hl') hr hc hd h1 h1' hB
  rw [matA_matQ] at c1
  have c2 := con_matT r d (mxMul r c d vs vs')
  refine PureOK.fnF Tryz.func104 Tryz.results104 Tryz.ntmps104 rfl rfl rfl (by simp [AV.ids, AV0.ids, Atom.ids]) rfl (fun w0 T B E0 hB => ?_)
  refine SX.goJ ?_
  refine .ok (RetOK.mk2 (ResOK.agg15 rfl rfl rfl) (ResOK.tmp rfl))
section
variable {u v w : Vl} {e : Int}
theorem con_times0 (hk : u.k = v.k) (c : PureOK Tryz.prog 104 [.agg (vlA u), .agg (vlA v)] (.tup [.agg (vlA w), eNo e])) : PureOK Tryz.prog 44 [.agg (vlA u), .agg (vlA v)] (.tup [.agg (vlA w), eNo e]) := by
  refine PureOK.fnF Tryz.func44 Tryz.results44 Tryz.ntmps44 rfl rfl rfl (by simp [AV.ids, AV0.ids, Atom.ids]) rfl (fun w0 T B E0 hB => ?_)
  refine SX.goJ ?_
  refine .ok (RetOK.mk2 (ResOK.agg15 rfl rfl rfl) (ResOK.tmp rfl))
theorem con_BinF1 (op : Int) (c1 : PureOK Tryz.prog 28 [.agg (vlA u)] (.v (.bool false))) : PureOK Tryz.prog 13 [.v (.int .i64 op), .agg (vlA u), .agg (vlA v)] (.tup [.agg (vlA v0), eNo 1]) := by
  refine PureOK.fnF Tryz.func13 Tryz.results13 Tryz.ntmps13 rfl rfl rfl (by simp [AV.ids, AV0.ids, Atom.ids]) rfl (fun w0 T B E0 hB => ?_)
  refine SX.goJ ?_
  refine .ok (RetOK.mk2 ((ResOK.agg15 rfl rfl rfl).imp ?_) (ResOK.tmp rfl))
  exact imp_none
theorem con_BinF2 (op : Int) {b : Bool} (c1 : PureOK Tryz.prog 28 [.agg (vlA u)] (.v (.bool b))) (c2 : PureOK Tryz.prog 28 [.agg (vlA v)] (.v (.bool false))) : PureOK Tryz.prog 13 [.v (.int .i64 op), .agg (vlA u), .agg (vlA v)] (.tup [.agg (vlA v0), eNo 1]) := by
  cases b
  · exact con_BinF1 op c1
  · refine PureOK.fnF Tryz.func13 Tryz.results13 Tryz.ntmps13 rfl rfl rfl (by simp [AV.ids, AV0.ids, Atom.ids]) rfl (fun w0 T B E0 hB => ?_)
    refine SX.goJ ?_
    refine .ok (RetOK.mk2 ((ResOK.agg15 rfl rfl rfl).imp ?_) (ResOK.tmp rfl))
    exact imp_none
variable (c1 : PureOK Tryz.prog 28 [.agg (vlA u)] (.v (.bool true))) (c2 : PureOK Tryz.prog 28 [.agg (vlA v)] (.v (.bool true)))
include c1 c2
theorem con_Bin4 (hk : u.k = v.k) (c : PureOK Tryz.prog 47 [.agg (vlA u), .agg (vlA v)] (.tup [.agg (vlA w), eNo e])) : PureOK Tryz.prog 13 [.v (.int .i64 4), .agg (vlA u), .agg (vlA v)] (.tup [.agg (vlA w), eNo e]) := by
  refine PureOK.fnF Tryz.func13 Tryz.results13 Tryz.ntmps13 rfl rfl rfl (by simp [AV.ids, AV0.ids, Atom.ids]) rfl (fun w0 T B E0 hB => ?_)
  refine SX.goJ ?_
  refine .ok (RetOK.mk2 (ResOK.agg15 rfl rfl rfl) (ResOK.tmp rfl))
theorem con_Bin5 (hk : u.k = v.k) (c : PureOK Tryz.prog 48 [.agg (vlA u), .agg (vlA v)] (.tup [.agg (vlA w), eNo e])) : PureOK Tryz.prog 13 [.v (.int .i64 5), .agg (vlA u), .agg (vlA v)] (.tup [.agg (vlA w), eNo e]) := by
  refine PureOK.fnF Tryz.func13 Tryz.results13 Tryz.ntmps13 rfl rfl rfl (by simp [AV.ids, AV0.ids, Atom.ids]) rfl (fun w0 T B E0 hB => ?_)
  refine SX.goJ ?_
  refine .ok (RetOK.mk2 (ResOK.agg15 rfl rfl rfl) (ResOK.tmp rfl))
theorem con_Bin6 (c : PureOK Tryz.prog 44 [.agg (vlA u), .agg (vlA v)] (.tup [.agg (vlA w), eNo e])) : PureOK Tryz.prog 13 [.v (.int .i64 6), .agg (vlA u), .agg (vlA v)] (.tup [.agg (vlA w), eNo e]) := by
  refine PureOK.fnF Tryz.func13 Tryz.results13 Tryz.ntmps13 rfl rfl rfl (by simp [AV.ids, AV0.ids, Atom.ids]) rfl (fun w0 T B E0 hB => ?_)
  refine SX.goJ ?_
  refine .ok (RetOK.mk2 (ResOK.agg15 rfl rfl rfl) (ResOK.tmp rfl))
end
end Go.Proofs.YtfhpmbenldgfnaaGreatDoor
set_option linter.unusedVariables false
set_option linter.unusedSimpArgs false
namespace Go.Proofs.YtfhpmbenldgfnaaGreatDoor
open Go.RowKit QM SX LA
theorem pBoth_len {op : Int → Int → Int} (a b : List Int) : (pBoth op a b).length ≤ max a.length b.length := by
  unfold pBoth; rw [pNorm_len]; exact Nat.le_trans (plen_le _) (by rw [tabP_len]; exact Nat.le_refl _)
theorem mem_getD {zs : List Int} {z : Int} (h : z ∈ zs) : ∃ j, zs.getD j 0 = z := by
  obtain ⟨j, hj⟩ := List.mem_iff_getElem?.1 h
  exact ⟨j, by rw [List.getD_eq_getElem?_getD, hj]; rfl⟩
theorem pAdd_bd {a b : List Int} {K L : Nat} (h : ∀ z ∈ a, z.natAbs < WB ^ K) (h' : ∀ z ∈ b, z.natAbs < WB ^ L) : ∀ z ∈ pAdd a b, z.natAbs < WB ^ (K + L + 1) := fun z hz => by
  obtain ⟨j, rfl⟩ := mem_getD hz
  rw [pAdd_at]
  exact bd_add (zat_b h j) (zat_b h' j)
def mulV (i : Int) : Vl → Vl
  | ⟨k, q, r, c, a, po, p, fr, fc, fa, ri, li⟩ => if k = 1 then vNum (i * rqv q) else if k = 2 then vMat r.toNat c.toNat (mScale r.toNat c.toNat (a.map rqv) i) else vPol (pScale (po.map rzv) i)
attribute [local irreducible] IntKind.wrap Go1 Reg WP thenK inBlk retQ retF RetF RetOK ResOK CallOK OpOK Sat
attribute [local irreducible] qsub qmul qquo qcmp qadd qv redS mf PrP qOk zOk vP fp64 lz vF cq rqv plen pNorm pBoth pScale
structure Muls (v : Vl) (k : Nat) : Prop where
  a : PureOK Tryz.prog 44 [.agg (vlA (vNum ((k : Int) : Rat))), .agg (vlA v)] (.tup [.agg (vlA (mulV k v)), eNo 0])
  b : PureOK Tryz.prog 44 [.agg (vlA v), .agg (vlA (vNum ((k : Int) : Rat)))] (.tup [.agg (vlA (mulV k v)), eNo 0])
  h : ∃ (w : Vl) (e : Int), PureOK Tryz.prog 44 [.agg (vlA (vNum (1 / 2))), .agg (vlA v)] (.tup [.agg (vlA w), eNo e]) ∧ ((v.k ≠ 3 ∧ e = 0) ∨ (v.k = 3 ∧ e = 5))
  d : PureOK Tryz.prog 48 [.agg (vlA v), .agg (vlA v)] (.tup [.agg (vlA (mulV 0 v)), eNo 0])
  s : ∀ i, i < k → PureOK Tryz.prog 47 [.agg (vlA (mulV (i : Int) v)), .agg (vlA v)] (.tup [.agg (vlA (mulV ((i + 1 : Nat) : Int) v)), eNo 0])
  c : ∀ i, i ≤ k → Cv 4 0 (mulV (i : Int) v)
  kk : ∀ i, (mulV i v).k = v.k
end Go.Proofs.YtfhpmbenldgfnaaGreatDoor
set_option linter.unusedVariables false
set_option linter.unusedSimpArgs false
namespace Go.Proofs.YtfhpmbenldgfnaaGreatDoor
open Go.RowKit QM SX LA
def fA (p x y : Nat) : Nat := (x % p + y % p) % p
def fS (p x y : Nat) : Nat := (x % p + p - y % p) % p
def fM (p x y : Nat) : Nat := (x % p * (y % p)) % p
theorem fA_lt {p : Nat} (h : PrP p) (x y : Nat) : fA p x y < p := Nat.mod_lt _ (by have := h.lt; omega)
theorem fS_lt {p : Nat} (h : PrP p) (x y : Nat) : fS p x y < p := Nat.mod_lt _ (by have := h.lt; omega)
theorem fM_lt {p : Nat} (h : PrP p) (x y : Nat) : fM p x y < p := Nat.mod_lt _ (by have := h.lt; omega)
def tabW (c : Nat) (val : Nat → Nat → Nat) (i : Nat) : List Nat := (List.range i).flatMap fun i => (List.range c).map (val i)
theorem tabW_zero {c : Nat} {val : Nat → Nat → Nat} : tabW c val 0 = [] := rfl
theorem tabW_succ {c i : Nat} {val : Nat → Nat → Nat} : tabW c val (i + 1) = tabW c val i ++ (List.range c).map (val i) := by
  unfold tabW; rw [List.range_succ, List.flatMap_append]; simp
theorem tabW_len {c : Nat} {val : Nat → Nat → Nat} : ∀ i, (tabW c val i).length = i * c
  | 0 => by simp [tabW_zero]
  | i + 1 => by rw [tabW_succ, List.length_append, tabW_len i]; simp [Nat.succ_mul]
theorem tabW_lt {c r p : Nat} {val : Nat → Nat → Nat} (h : ∀ i k, val i k < p) : ∀ v ∈ tabW c val r, v < p := by
  intro v hv
  unfold tabW at hv
  obtain ⟨i, hi, hv⟩ := List.mem_flatMap.1 hv
  obtain ⟨k, hk, rfl⟩ := List.mem_map.1 hv
  exact h i k
def rowWd (val : Nat → Nat → Nat) (i k : Nat) : List Nat := (List.range k).map (val i)
theorem rowWd_succ {val : Nat → Nat → Nat} {i k : Nat} : rowWd val i (k + 1) = rowWd val i k ++ [val i k] := by
  unfold rowWd; rw [List.range_succ, List.map_append]; rfl
def fat (l : List Nat) (c i k : Nat) : Nat := l.getD (i * c + k) 0
theorem fat_at {l : List Nat} {r c i k : Nat} (hl : l.length = r * c) (hi : i < r) (hk : k < c) : l[i * c + k]? = some (fat l c i k) := by
  unfold fat
  have h := idx_lt hi hk
  rw [List.getD_eq_getElem?_getD, List.getElem?_eq_getElem (by omega)]; rfl
theorem fat_lt {l : List Nat} {B : Nat} (h : ∀ x ∈ l, x < B) (hB : 0 < B) (c i k : Nat) : fat l c i k < B := by
  unfold fat
  rw [List.getD_eq_getElem?_getD]
  by_cases hi : i * c + k < l.length
  · rw [List.getElem?_eq_getElem hi]; exact h _ (List.getElem_mem hi)
  · rw [List.getElem?_eq_none (by omega)]; exact hB
abbrev ptrF (r c : Nat) (l : List Nat) : AV := .r (ptrR [.val (.int .i64 (r : Int)), .val (.int .i64 (c : Int)), .sat (rowR 1 wdC l)])
abbrev ptrP (p : Nat) : AV := .r (ptrR [.val (.int .u64 (p : Int))])
attribute [local irreducible] IntKind.wrap Go1 Reg WP thenK inBlk retQ retF RetF RetOK ResOK CallOK OpOK Sat
attribute [local irreducible] qsub qmul qquo qcmp qadd qv redS mf PrP qOk zOk vP fp64 lz vF cq rqv plen pNorm pBoth pScale mulV fA fS fM
theorem con_gfA {p : Nat} (h : PrP p) (x y : Nat) (hx : x < 18446744073709551616) (hy : y < 18446744073709551616) : PureOK Tryz.prog 171 [.agg (gfA p), .v (.int .u64 (x : Int)), .v (.int .u64 (y : Int))] (.v (.int .u64 ((fA p x y : Nat) : Int))) := by
  have hp := h.lt
  have m1 : x % p < p := Nat.mod_lt _ (by omega)
  have m2 : y % p < p := Nat.mod_lt _ (by omega)
  have c := con_gfP h
  have c1 := con_gfNorm h x hx
  have c2 := con_gfNorm h y hy
  have hr : IntKind.u64.wrap (((x % p + y % p : Nat) : Int).tmod (p : Int)) = ((fA p x y : Nat) : Int) := by unfold fA; rw [tmod_nat]; exact wrapN (Nat.lt_of_le_of_lt (Nat.mod_le _ p) (by omega))
  unfold fA
  refine PureOK.fnF Tryz.func171 Tryz.results171 Tryz.ntmps171 rfl rfl rfl (by simp [AV.ids, AV0.ids, Atom.ids]) rfl (fun w0 T B E0 hB => ?_)
  refine SX.goJ ?_
  exact retI rfl
theorem con_gfS {p : Nat} (h : PrP p) (x y : Nat) (hx : x < 18446744073709551616) (hy : y < 18446744073709551616) : PureOK Tryz.prog 174 [.agg (gfA p), .v (.int .u64 (x : Int)), .v (.int .u64 (y : Int))] (.v (.int .u64 ((fS p x y : Nat) : Int))) := by
  have hp := h.lt
  have m1 : x % p < p := Nat.mod_lt _ (by omega)
  have m2 : y % p < p := Nat.mod_lt _ (by omega)
  have c := con_gfP h
  have c1 := con_gfNorm h x hx
  have c2 := con_gfNorm h y hy
  have hr : IntKind.u64.wrap (((x % p + p - y % p : Nat) : Int).tmod (p : Int)) = ((fS p x y : Nat) : Int) := by unfold fS; rw [tmod_nat]; exact wrapN (Nat.lt_of_le_of_lt (Nat.mod_le _ p) (by omega))
  unfold fS
  refine PureOK.fnF Tryz.func174 Tryz.results174 Tryz.ntmps174 rfl rfl rfl (by simp [AV.ids, AV0.ids, Atom.ids]) rfl (fun w0 T B E0 hB => ?_)
  refine SX.goJ ?_
  exact retI rfl
theorem con_gfM {p : Nat} (h : PrP p) (x y : Nat) (hx : x < 18446744073709551616) (hy : y < 18446744073709551616) : PureOK Tryz.prog 167 [.agg (gfA p), .v (.int .u64 (x : Int)), .v (.int .u64 (y : Int))] (.v (.int .u64 ((fM p x y : Nat) : Int))) := by
  have hp := h.lt
  have m1 : x % p < p := Nat.mod_lt _ (by omega)
  have m2 : y % p < p := Nat.mod_lt _ (by omega)
  have c := con_gfP h
  have c1 := con_gfNorm h x hx
  have c2 := con_gfNorm h y hy
  have hb : x % p * (y % p) ≤ 2147483648 * 2147483648 := Nat.mul_le_mul (by omega) (by omega)
  have hm : IntKind.u64.wrap (((x % p : Nat) : Int) * ((y % p : Nat) : Int)) = ((x % p * (y % p) : Nat) : Int) := by rw [← Int.natCast_mul]; exact wrapN (by omega)
  have hr : IntKind.u64.wrap (((x % p * (y % p) : Nat) : Int).tmod (p : Int)) = ((fM p x y : Nat) : Int) := by unfold fM; rw [tmod_nat]; exact wrapN (Nat.lt_of_le_of_lt (Nat.mod_le _ p) (by omega))
  unfold fM
  refine PureOK.fnF Tryz.func167 Tryz.results167 Tryz.ntmps167 rfl rfl rfl (by simp [AV.ids, AV0.ids, Atom.ids]) rfl (fun w0 T B E0 hB => ?_)
  refine SX.goJ ?_
  exact retI rfl
theorem con_fget {r c i k : Nat} {l : List Nat} {x : Nat} (hq : l[i * c + k]? = some x) (hi : i ≤ 100) (hc : c ≤ 100) (hk : k ≤ 100) :
    PureOK Tryz.prog 168 [.agg (fmA r c l), .v (.int .i64 (i : Int)), .v (.int .i64 (k : Int))] (.v (.int .u64 (x : Int))) := by
  have hb := Nat.mul_le_mul hi hc
  have hlt := at_lt hq
  refine PureOK.fnF Tryz.func168 Tryz.results168 Tryz.ntmps168 rfl rfl rfl (by simp [AV.ids, AV0.ids, Atom.ids]) rfl (fun w0 T B E0 hB => ?_)
  refine SX.goL ?_
  exact retI rfl
theorem con_fmade {p : Nat} (hp : PrP p) (r c : Nat) (x : CA) (val : Nat → Nat → Nat) (hr : r ≤ 100) (hc : c ≤ 100)
    (hx : ∀ i k, i < r → k < c → FnV Tryz.prog x [.v (.int .i64 (i : Int)), .v (.int .i64 (k : Int))] (.v (.int .u64 (val i k : Int)))) (hL : ∀ i k, i < r → k < c → val i k < p) (hx1 : x.oneB = true) :
    PureOK Tryz.prog 165 [.agg (gfA p), .v (.int .i64 (r : Int)), .v (.int .i64 (c : Int)), .it (.one (.c x))] (.agg (fmA r c (tabW c val r))) := by
  have hpl := hp.lt
  refine PureOK.fnF Tryz.func165 Tryz.results165 Tryz.ntmps165 rfl rfl rfl (by simp [AV.ids, AV0.ids, Atom.ids]) rfl (fun w0 T B E0 hB => ?_)
  refine SX.goL ?_
  refine W.loop (fun i => i ≤ r) (fun i => [(2, .v (.int .i64 (c : Int))), (3, .it (.one (.c x))), (4, .ptr 4 0), (8, .ptr 8 0), (9, .ptr 9 0), (15, .v (.int .i64 (r : Int))), (16, .v (.int .i64 (i : Int)))]) (fun i => [(4, .box 100 (gfA p)), (8, .box 35 [.c (.val (.int .i64 0)), .c (.val (.int .i64 0)), .c (.val (.slice none 0 0))]), (9, .box 35 [.c (.val (.int .i64 (r : Int))), .c (.val (.int .i64 (c : Int))), .own 100]), (100, .row 33 1 (i * c) ((tabW c val i).flatMap wdC))]) (fun i => r - i) 0 (Nat.zero_le _) (fun i hi => ?_)
    (by
      refine SX.St.le_to [(100, none)] (by intro b h; cases h) ?_ ?_ rfl
      · repeat (first | exact trivial | refine ⟨⟨_, rfl, SX.AVto.same rfl⟩, ?_⟩)
      · exact ⟨SX.EntTo.same rfl rfl, SX.EntTo.same rfl rfl, SX.EntTo.boxTo rfl rfl ⟨AtomTo.same rfl, AtomTo.same rfl, AtomTo.nil rfl, trivial⟩, by rw [Nat.zero_mul]; exact SX.EntTo.nilRow rfl, trivial⟩)
  by_cases h : i < r
  · refine SX.goL ?_
    refine W.loop (fun k => k ≤ c) (fun k => [(2, .v (.int .i64 (c : Int))), (3, .it (.one (.c x))), (4, .ptr 4 0), (8, .ptr 8 0), (9, .ptr 9 0), (10, .v (.int .i64 (i : Int))), (15, .v (.int .i64 (r : Int))), (16, .v (.int .i64 (i : Int))), (19, .v (.int .i64 (c : Int))), (20, .v (.int .i64 (k : Int)))]) (fun k => [(4, .box 100 (gfA p)), (8, .box 35 [.c (.val (.int .i64 0)), .c (.val (.int .i64 0)), .c (.val (.slice none 0 0))]), (9, .box 35 [.c (.val (.int .i64 (r : Int))), .c (.val (.int .i64 (c : Int))), .own 100]), (100, .row 33 1 (i * c + k) ((tabW c val i ++ rowWd val i k).flatMap wdC))]) (fun k => c - k) 0 (Nat.zero_le _) (fun k hk => ?_)
      (by
        have e : Ent.row 33 1 (i * c) ((tabW c val i).flatMap wdC) = Ent.row 33 1 (i * c + 0) ((tabW c val i ++ rowWd val i 0).flatMap wdC) := by simp [rowWd]
        refine SX.St.le_to [] (by intro b h; cases h) ?_ ?_ rfl
        · repeat (first | exact trivial | refine ⟨⟨_, rfl, SX.AVto.same rfl⟩, ?_⟩)
        · exact ⟨SX.EntTo.same rfl rfl, SX.EntTo.same rfl rfl, SX.EntTo.same rfl rfl, SX.EntTo.eq rfl e rfl, trivial⟩)
    by_cases h2 : k < c
    · have hf := hx i k h h2
      have hl := hL i k h h2
      have cR := con_gfNorm hp (val i k) (by omega)
      rw [Nat.mod_eq_of_lt hl] at cR
      have hlen : i * c + k ≤ 20000 := by
        have := Nat.mul_le_mul (show i ≤ 100 by omega) hc
        omega
      refine SX.goL ?_
      refine W.next (k + 1) h2 (by omega) (by
        have e2 : (tabW c val i ++ rowWd val i k).flatMap wdC ++ wdC (val i k) = (tabW c val i ++ rowWd val i (k + 1)).flatMap wdC := by
          rw [rowWd_succ, ← List.append_assoc, List.flatMap_append (xs := tabW c val i ++ rowWd val i k)]; simp
        refine SX.St.le_to [(100, some 32)] (by intro b h; cases h) ?_ ?_ rfl
        · repeat (first | exact trivial | refine ⟨⟨_, rfl, SX.AVto.same rfl⟩, ?_⟩)
        · exact ⟨SX.EntTo.same rfl rfl, SX.EntTo.same rfl rfl, SX.EntTo.boxTo rfl rfl ⟨AtomTo.same rfl, AtomTo.same rfl, AtomTo.own rfl, trivial⟩, SX.EntTo.row rfl rfl (by omega) e2, trivial⟩)
    · obtain rfl : k = c := by omega
      refine SX.goL ?_
      refine W.next (i + 1) h (by omega) (by
        have e2 : Ent.row 33 1 (i * k + k) ((tabW k val i ++ rowWd val i k).flatMap wdC) = Ent.row 33 1 ((i + 1) * k) ((tabW k val (i + 1)).flatMap wdC) := by rw [Nat.succ_mul, tabW_succ]; rfl
        refine SX.St.le_to [] (by intro b h; cases h) ?_ ?_ rfl
        · repeat (first | exact trivial | refine ⟨⟨_, rfl, SX.AVto.same rfl⟩, ?_⟩)
        · exact ⟨SX.EntTo.same rfl rfl, SX.EntTo.same rfl rfl, SX.EntTo.same rfl rfl, SX.EntTo.eq rfl e2 rfl, trivial⟩)
  · obtain rfl : i = r := by omega
    refine SX.goL ?_
    have hm : fmA i c (tabW c val i) = [.c (.val (.int .i64 (i : Int))), .c (.val (.int .i64 (c : Int))), .c (.sat (sliceR 1 (i * c) ((tabW c val i).flatMap wdC)))] := by
      show [_, _, Atom.c (.sat (sliceR 1 (tabW c val i).length _))] = _
      rw [tabW_len]
    rw [hm]
    refine RetF.frz 100 ?_
    exact retA (ResOK.agg3 rfl rfl rfl) rfl
theorem con_fA1 {p r c i k : Nat} (hp : PrP p) {l l' : List Nat} {x y : Nat} (hq : l[i * c + k]? = some x) (hq' : l'[i * c + k]? = some y) (hx : x < 18446744073709551616) (hy : y < 18446744073709551616) (hi : i ≤ 100) (hc : c ≤ 100) (hk : k ≤ 100) :
    PureOK Tryz.prog 170 [.v (.int .i64 (i : Int)), .v (.int .i64 (k : Int)), ptrP p, ptrF r c l, ptrF r c l'] (.v (.int .u64 ((fA p x y : Nat) : Int))) := by
  have cG := con_fget (r := r) hq hi hc hk
  have cG' := con_fget (r := r) hq' hi hc hk
  have cA := con_gfA hp x y hx hy
  refine PureOK.fnF Tryz.func170 Tryz.results170 Tryz.ntmps170 rfl rfl rfl (by simp [AV.ids, AV0.ids, Atom.ids]) rfl (fun w0 T B E0 hB => ?_)
  refine SX.goL ?_
  exact retI rfl
theorem con_fS1 {p r c i k : Nat} (hp : PrP p) {l : List Nat} {x y : Nat} (hq : l[i * c + k]? = some x) (hx : x < 18446744073709551616) (hy : y < 18446744073709551616) (hi : i ≤ 100) (hc : c ≤ 100) (hk : k ≤ 100) :
    PureOK Tryz.prog 166 [.v (.int .i64 (i : Int)), .v (.int .i64 (k : Int)), ptrP p, ptrF r c l, ptrP y] (.v (.int .u64 ((fM p x y : Nat) : Int))) := by
  have cG := con_fget (r := r) hq hi hc hk
  have cA := con_gfM hp x y hx hy
  refine PureOK.fnF Tryz.func166 Tryz.results166 Tryz.ntmps166 rfl rfl rfl (by simp [AV.ids, AV0.ids, Atom.ids]) rfl (fun w0 T B E0 hB => ?_)
  refine SX.goL ?_
  exact retI rfl
def fDot (p : Nat) (f g : Nat → Nat) : Nat → Nat
  | 0 => 0
  | j + 1 => fA p (fDot p f g j) (fM p (f j) (g j))
theorem fDot_lt {p : Nat} (h : PrP p) (f g : Nat → Nat) : ∀ j, fDot p f g j < p
  | 0 => by have := h.lt; show 0 < p; omega
  | j + 1 => fA_lt h _ _
theorem con_fM1 {p r c d i k : Nat} (hp : PrP p) {l l' : List Nat} (hl : l.length = r * c) (hl' : l'.length = c * d) (hb : ∀ x ∈ l, x < 18446744073709551616) (hb' : ∀ x ∈ l', x < 18446744073709551616) (hi : i < r) (hk : k < d) (hr : r ≤ 100) (hc : c ≤ 100) (hd : d ≤ 100) :
    PureOK Tryz.prog 172 [.v (.int .i64 (i : Int)), .v (.int .i64 (k : Int)), ptrF r c l, ptrP p, ptrF c d l'] (.v (.int .u64 ((fDot p (fat l c i) (fun j => fat l' d j k) c : Nat) : Int))) := by
  have hpl := hp.lt
  refine PureOK.fnF Tryz.func172 Tryz.results172 Tryz.ntmps172 rfl rfl rfl (by simp [AV.ids, AV0.ids, Atom.ids]) rfl (fun w0 T B E0 hB => ?_)
  refine SX.goL ?_
  refine W.loop (fun j => j ≤ c) (fun j => [(0, .v (.int .i64 (i : Int))), (1, .v (.int .i64 (k : Int))), (2, ptrF r c l), (3, ptrP p), (4, ptrF c d l'), (8, .v (.int .u64 ((fDot p (fat l c i) (fun j => fat l' d j k) j : Nat) : Int))), (11, .v (.int .i64 (c : Int))), (12, .v (.int .i64 (j : Int)))]) (fun j => []) (fun j => c - j) 0 (Nat.zero_le _) (fun j hj => ?_)
  by_cases hj2 : j < c
  · have cA := con_fget (r := r) (fat_at hl hi hj2) (by omega) (by omega) (by omega)
    have cA' := con_fget (r := c) (fat_at hl' hj2 hk) (by omega) (by omega) (by omega)
    have hlt := fDot_lt hp (fat l c i) (fun j => fat l' d j k) j
    have cM := con_gfM hp (fat l c i j) (fat l' d j k) (fat_lt hb (by decide) _ _ _) (fat_lt hb' (by decide) _ _ _)
    have hlm := fM_lt hp (fat l c i j) (fat l' d j k)
    have cD := con_gfA hp (fDot p (fat l c i) (fun j => fat l' d j k) j) (fM p (fat l c i j) (fat l' d j k)) (by omega) (by omega)
    refine SX.goL ?_
    exact W.next (j + 1) hj2 (by omega)
  · obtain rfl : j = c := by omega
    refine SX.goL ?_
    exact retI rfl
def fmAdd (p r c : Nat) (l l' : List Nat) : List Nat := tabW c (fun i k => fA p (fat l c i k) (fat l' c i k)) r
def fmScale (p r c : Nat) (l : List Nat) (x : Nat) : List Nat := tabW c (fun i k => fM p (fat l c i k) x) r
def fmMul (p r c d : Nat) (l l' : List Nat) : List Nat := tabW d (fun i k => fDot p (fat l c i) (fun j => fat l' d j k) c) r
section
variable {p r c : Nat} (hp : PrP p) {l l' : List Nat} (hl : l.length = r * c) (hr : r ≤ 64) (hc : c ≤ 64) (hb : ∀ x ∈ l, x < 18446744073709551616)
include hp hl hr hc hb
theorem con_fmAdd (hl' : l'.length = r * c) (hb' : ∀ x ∈ l', x < 18446744073709551616) :
    PureOK Tryz.prog 82 [.agg (gfA p), .agg (fmA r c l), .agg (fmA r c l')] (.tup [.agg (fmA r c (fmAdd p r c l l')), eNo 0]) := by
  have cF := con_falike hl hl' hr hc hr hc
  rw [decide_eq_true (show r = r ∧ c = c from ⟨rfl, rfl⟩)] at cF
  have cM := con_fmade hp r c (.sat (cloR 170 [] [.sat (ptrR [.val (.int .u64 (p : Int))]), .sat (ptrR [.val (.int .i64 (r : Int)), .val (.int .i64 (c : Int)), .sat (rowR 1 wdC l)]), .sat (ptrR [.val (.int .i64 (r : Int)), .val (.int .i64 (c : Int)), .sat (rowR 1 wdC l')])])) (fun i k => fA p (fat l c i k) (fat l' c i k)) (by omega) (by omega)
    (fun i k hi hk => FnV.clo (con_fA1 hp (fat_at hl hi hk) (fat_at hl' hi hk) (fat_lt hb (by decide) _ _ _) (fat_lt hb' (by decide) _ _ _) (by omega) (by omega) (by omega)))
    (fun i k _ _ => fA_lt hp _ _) rfl
  refine PureOK.fnF Tryz.func82 Tryz.results82 Tryz.ntmps82 rfl rfl rfl (by simp [AV.ids, AV0.ids, Atom.ids]) rfl (fun w0 T B E0 hB => ?_)
  refine SX.goL ?_
  refine SX.WP.freezeB 3 hB rfl rfl ?_
  refine SX.WP.freezeB 4 hB rfl rfl ?_
  refine SX.WP.freezeB 5 hB rfl rfl ?_
  refine SX.WP.regionL ?_
  refine SX.goL ?_
  exact .ok (RetOK.mk2 (ResOK.agg3 rfl rfl rfl) (ResOK.tmp rfl))
theorem con_fmScale {x : Nat} (hx : x < 18446744073709551616) :
    PureOK Tryz.prog 81 [.agg (gfA p), .agg (fmA r c l), .v (.int .u64 (x : Int))] (.tup [.agg (fmA r c (fmScale p r c l x)), eNo 0]) := by
  have cF := con_fF hl hr hc
  have cM := con_fmade hp r c (.sat (cloR 166 [] [.sat (ptrR [.val (.int .u64 (p : Int))]), .sat (ptrR [.val (.int .i64 (r : Int)), .val (.int .i64 (c : Int)), .sat (rowR 1 wdC l)]), .sat (ptrR [.val (.int .u64 (x : Int))])])) (fun i k => fM p (fat l c i k) x) (by omega) (by omega)
    (fun i k hi hk => FnV.clo (con_fS1 hp (fat_at hl hi hk) (fat_lt hb (by decide) _ _ _) hx (by omega) (by omega) (by omega)))
    (fun i k _ _ => fM_lt hp _ _) rfl
  refine PureOK.fnF Tryz.func81 Tryz.results81 Tryz.ntmps81 rfl rfl rfl (by simp [AV.ids, AV0.ids, Atom.ids]) rfl (fun w0 T B E0 hB => ?_)
  refine SX.goL ?_
  refine SX.WP.freezeB 3 hB rfl rfl ?_
  refine SX.WP.freezeB 4 hB rfl rfl ?_
  refine SX.WP.freezeB 5 hB rfl rfl ?_
  refine SX.WP.regionL ?_
  refine SX.goL ?_
  exact .ok (RetOK.mk2 (ResOK.agg3 rfl rfl rfl) (ResOK.tmp rfl))
theorem con_fmMul {d : Nat} (hl' : l'.length = c * d) (hd : d ≤ 64) (hb' : ∀ x ∈ l', x < 18446744073709551616) :
    PureOK Tryz.prog 83 [.agg (gfA p), .agg (fmA r c l), .agg (fmA c d l')] (.tup [.agg (fmA r d (fmMul p r c d l l')), eNo 0]) := by
  have cF := con_fF hl hr hc
  have cF' := con_fF hl' hc hd
  have cM := con_fmade hp r d (.sat (cloR 172 [] [.sat (ptrR [.val (.int .i64 (r : Int)), .val (.int .i64 (c : Int)), .sat (rowR 1 wdC l)]), .sat (ptrR [.val (.int .u64 (p : Int))]), .sat (ptrR [.val (.int .i64 (c : Int)), .val (.int .i64 (d : Int)), .sat (rowR 1 wdC l')])])) (fun i k => fDot p (fat l c i) (fun j => fat l' d j k) c) (by omega) (by omega)
    (fun i k hi hk => FnV.clo (con_fM1 hp hl hl' hb hb' hi hk (by omega) (by omega) (by omega)))
    (fun i k _ _ => fDot_lt hp _ _ _) rfl
  refine PureOK.fnF Tryz.func83 Tryz.results83 Tryz.ntmps83 rfl rfl rfl (by simp [AV.ids, AV0.ids, Atom.ids]) rfl (fun w0 T B E0 hB => ?_)
  refine SX.goL ?_
  refine SX.WP.freezeB 3 hB rfl rfl ?_
  refine SX.WP.freezeB 4 hB rfl rfl ?_
  refine SX.WP.freezeB 5 hB rfl rfl ?_
  refine SX.WP.regionL ?_
  refine SX.goL ?_
  exact .ok (RetOK.mk2 (ResOK.agg3 rfl rfl rfl) (ResOK.tmp rfl))
end
theorem con_fmAdd0 {r c r' c' : Nat} {l l' : List Nat} {p : Nat} (hl : l.length = r * c) (hr : r ≤ 64) (hc : c ≤ 64) (hl' : l'.length = r' * c') (hr' : r' ≤ 64) (hc' : c' ≤ 64) (h : ¬ (r = r' ∧ c = c')) :
    PureOK Tryz.prog 82 [.agg (gfA p), .agg (fmA r c l), .agg (fmA r' c' l')] (.tup [.agg (fmA 0 0 []), eNo 2]) := by
  have cF := con_falike hl hl' hr hc hr' hc'
  rw [decide_eq_false h] at cF
  refine PureOK.fnF Tryz.func82 Tryz.results82 Tryz.ntmps82 rfl rfl rfl (by simp [AV.ids, AV0.ids, Atom.ids]) rfl (fun w0 T B E0 hB => ?_)
  refine SX.goL ?_
  refine .ok (RetOK.mk2 ((ResOK.agg3 rfl rfl rfl).imp ?_) (ResOK.tmp rfl))
  exact imp_agg ⟨AtomI.refl _, AtomI.refl _, AtomI.nil, trivial⟩
theorem con_fmMul0 {r c c' d : Nat} {l l' : List Nat} {p : Nat} (hl : l.length = r * c) (hr : r ≤ 64) (hc : c ≤ 64) (hl' : l'.length = c' * d) (hc' : c' ≤ 64) (hd : d ≤ 64) (h : c ≠ c') :
    PureOK Tryz.prog 83 [.agg (gfA p), .agg (fmA r c l), .agg (fmA c' d l')] (.tup [.agg (fmA 0 0 []), eNo 2]) := by
  have cF := con_fF hl hr hc
  have cF' := con_fF hl' hc' hd
  have hn : ¬ ((c : Int) = (c' : Int)) := by omega
  refine PureOK.fnF Tryz.func83 Tryz.results83 Tryz.ntmps83 rfl rfl rfl (by simp [AV.ids, AV0.ids, Atom.ids]) rfl (fun w0 T B E0 hB => ?_)
  refine SX.goL ?_
  refine .ok (RetOK.mk2 ((ResOK.agg3 rfl rfl rfl).imp ?_) (ResOK.tmp rfl))
  exact imp_agg ⟨AtomI.refl _, AtomI.refl _, AtomI.nil, trivial⟩
end Go.Proofs.YtfhpmbenldgfnaaGreatDoor

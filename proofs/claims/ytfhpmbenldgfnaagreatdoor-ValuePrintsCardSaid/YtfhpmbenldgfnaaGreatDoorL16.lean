import Derived.Test.YtfhpmbenldgfnaaGreatDoorL15
set_option linter.unusedVariables false
set_option linter.unusedSimpArgs false
set_option linter.unusedSectionVars false
namespace Go.Proofs.YtfhpmbenldgfnaaGreatDoor
open Go.RowKit QM SX LA
def jn (s : UInt8) : List (List UInt8) → List UInt8
  | [] => []
  | [a] => a
  | a :: b :: l => a ++ (s :: 32 :: jn s (b :: l))
def chk {α : Type} (c : Nat) : Nat → List α → List (List α)
  | 0, _ => []
  | r + 1, l => l.take c :: chk c r (l.drop c)
def tbS (r c : Nat) (l : List (List UInt8)) : List UInt8 :=
  if r = 0 ∨ c = 0 then [122, 101, 114, 111, 40] ++ (decS r ++ ([44, 32] ++ (decS c ++ [41]))) else 91 :: (jn 59 ((chk c r l).map (jn 44)) ++ [93])
def plS (l : List (List UInt8)) : List UInt8 := [112, 111, 108, 121, 40] ++ (jn 44 l ++ [41])
def mdS (s : List UInt8) (p : Nat) : List UInt8 := [109, 111, 100, 40] ++ (s ++ ([44, 32] ++ (decS p ++ [41])))
mutual
def tS : Vl → List UInt8
  | ⟨k, q, r, c, a, po, p, fr, fc, fa, ri, li⟩ =>
    if k = 1 then qS (rqv q) else if k = 2 then tbS r.toNat c.toNat (a.map fun x => qS (rqv x)) else if k = 3 then plS (po.map fun x => zS (rzv x))
    else if k = 4 then mdS (tbS fr.toNat fc.toNat (fa.map decS)) p else if k = 5 then mdS (plS (ri.map decS)) p else 123 :: (jn 44 (tL li) ++ [125])
def tL : List Vl → List (List UInt8)
  | [] => []
  | v :: l => tS v :: tL l
end
theorem tL_eq : ∀ l : List Vl, tL l = l.map tS
  | [] => by rw [tL]; rfl
  | v :: l => by rw [tL, tL_eq l]; rfl
theorem tS_num (x : Rat) : tS (vNum x) = qS x := by
  show tS ⟨1, cq x, 0, 0, [], [], 0, 0, 0, [], [], []⟩ = _
  rw [tS, if_pos rfl, cq_val]
theorem tS_mat (r c : Nat) (vs : List Rat) : tS (vMat r c vs) = tbS r c (vs.map qS) := by
  show tS ⟨2, rq0, (r : Int), (c : Int), vs.map cq, [], 0, 0, 0, [], [], []⟩ = _
  rw [tS, if_neg (by decide), if_pos rfl, List.map_map, Int.toNat_natCast, Int.toNat_natCast, show (fun x => qS (rqv x)) ∘ cq = qS from funext fun x => congrArg qS (cq_val x)]
theorem tS_pol (zs : List Int) : tS (vPol zs) = plS (zs.map zS) := by
  show tS ⟨3, rq0, 0, 0, [], zs.map cz, 0, 0, 0, [], [], []⟩ = _
  rw [tS, if_neg (by decide), if_neg (by decide), if_pos rfl, List.map_map, show (fun x => zS (rzv x)) ∘ cz = zS from funext fun x => congrArg zS (cz_val x)]
theorem tS_fld (p r c : Nat) (l : List Nat) : tS (vFld p r c l) = mdS (tbS r c (l.map decS)) p := by
  show tS ⟨4, rq0, 0, 0, [], [], p, (r : Int), (c : Int), l, [], []⟩ = _
  rw [tS, if_neg (by decide), if_neg (by decide), if_neg (by decide), if_pos rfl, Int.toNat_natCast, Int.toNat_natCast]
theorem tS_rng (p : Nat) (l : List Nat) : tS (vRng p l) = mdS (plS (l.map decS)) p := by
  show tS ⟨5, rq0, 0, 0, [], [], p, 0, 0, [], l, []⟩ = _
  rw [tS, if_neg (by decide), if_neg (by decide), if_neg (by decide), if_neg (by decide), if_pos rfl]
theorem tS_lst (l : List Vl) : tS (vLst l) = 123 :: (jn 44 (l.map tS) ++ [125]) := by
  show tS ⟨6, rq0, 0, 0, [], [], 0, 0, 0, [], [], l⟩ = _
  rw [tS, if_neg (by decide), if_neg (by decide), if_neg (by decide), if_neg (by decide), if_neg (by decide), tL_eq]
def dgc (c : UInt8) : Prop := 48 ≤ c.toNat ∧ c.toNat ≤ 57
def nmc (c : UInt8) : Prop := c = 45 ∨ c = 47 ∨ dgc c
theorem dg_of {d : Nat} (h : d < 10) : dgc (UInt8.ofNat (48 + d)) ∧ (UInt8.ofNat (48 + d)).toNat = 48 + d := by
  have : (UInt8.ofNat (48 + d)).toNat = 48 + d := by rw [UInt8.toNat_ofNat']; omega
  unfold dgc; omega
theorem dig_dg : ∀ (n x : Nat), x ≤ n → ∀ c ∈ dig x, dgc c := by
  intro n
  induction n with
  | zero => intro x hx c hc; rw [show x = 0 by omega, dig_zero] at hc; cases hc
  | succ n ih =>
    intro x hx c hc
    by_cases h0 : x = 0
    · rw [h0, dig_zero] at hc; cases hc
    · rw [dig_succ h0, List.mem_append, List.mem_singleton] at hc
      rcases hc with hc | rfl
      · exact ih (x / 10) (by omega) c hc
      · exact (dg_of (Nat.mod_lt x (by decide))).1
theorem decS_dg (x : Nat) : ∀ c ∈ decS x, dgc c := by
  intro c hc
  unfold decS at hc
  split at hc
  · rw [List.mem_singleton] at hc; subst hc; unfold dgc; decide
  · exact dig_dg x x (Nat.le_refl _) c hc
theorem dig_inj : ∀ (n x y : Nat), x ≤ n → dig x = dig y → x = y := by
  intro n
  induction n with
  | zero =>
    intro x y hx h
    rw [show x = 0 by omega, dig_zero] at h
    by_cases hy : y = 0
    · omega
    · exact absurd h.symm (dig_ne hy)
  | succ n ih =>
    intro x y hx h
    by_cases h0 : x = 0
    · rw [h0, dig_zero] at h
      by_cases hy : y = 0
      · omega
      · exact absurd h.symm (dig_ne hy)
    · by_cases hy : y = 0
      · rw [hy, dig_zero] at h; exact absurd h (dig_ne h0)
      · rw [dig_succ h0, dig_succ hy] at h
        obtain ⟨h1, h2⟩ := List.append_inj' h rfl
        have e1 := ih (x / 10) (y / 10) (by omega) h1
        have e2 := congrArg UInt8.toNat (List.cons.inj h2).1
        rw [(dg_of (Nat.mod_lt x (by decide))).2, (dg_of (Nat.mod_lt y (by decide))).2] at e2
        omega
theorem dig_48 {y : Nat} (hy : y ≠ 0) : dig y ≠ [48] := fun h => by
  rw [dig_succ hy] at h
  obtain ⟨h1, h2⟩ := List.append_inj' (s₂ := []) h rfl
  have e2 := congrArg UInt8.toNat (List.cons.inj h2).1
  rw [(dg_of (Nat.mod_lt y (by decide))).2] at e2
  have e3 : y % 10 = 0 := by
    have : (48 : UInt8).toNat = 48 := rfl
    omega
  by_cases h3 : y / 10 = 0
  · omega
  · exact dig_ne h3 h1
theorem decS_inj {x y : Nat} (h : decS x = decS y) : x = y := by
  unfold decS at h
  split at h <;> split at h
  · omega
  · next h1 h2 => exact absurd h.symm (dig_48 h2)
  · next h1 h2 => exact absurd h (dig_48 h1)
  · exact dig_inj x x y (Nat.le_refl _) h
theorem decS_ne (x : Nat) : ∃ c m, decS x = c :: m ∧ dgc c := by
  cases h : decS x with
  | nil =>
    unfold decS at h
    split at h
    · cases h
    · next h0 => exact absurd h (dig_ne h0)
  | cons c m => exact ⟨c, m, rfl, decS_dg x c (by rw [h]; exact List.mem_cons_self ..)⟩
theorem dgc_no {c : UInt8} (h : dgc c) : c ≠ 45 ∧ c ≠ 47 := by
  unfold dgc at h
  constructor <;> (rintro rfl; revert h; decide)
theorem zS_ch (z : Int) : ∀ c ∈ zS z, c = 45 ∨ dgc c := by
  intro c hc
  unfold zS at hc
  split at hc
  · rw [List.mem_cons] at hc
    exact hc.imp id (decS_dg _ c)
  · exact .inr (decS_dg _ c hc)
theorem zS_ne (z : Int) : ∃ c m, zS z = c :: m ∧ (c = 45 ∨ dgc c) := by
  cases h : zS z with
  | nil =>
    unfold zS at h
    split at h
    · cases h
    · obtain ⟨c, m, e, _⟩ := decS_ne z.natAbs
      rw [e] at h; cases h
  | cons c m => exact ⟨c, m, rfl, zS_ch z c (by rw [h]; exact List.mem_cons_self ..)⟩
theorem zS_47 (z : Int) : (47 : UInt8) ∉ zS z := fun h => by
  rcases zS_ch z 47 h with h | h
  · cases h
  · exact (dgc_no h).2 rfl
theorem zS_inj {x y : Int} (h : zS x = zS y) : x = y := by
  have key : ∀ (a b : Nat), (45 : UInt8) :: decS a ≠ decS b := fun a b h => by
    obtain ⟨c, m, e, hc⟩ := decS_ne b
    rw [e] at h
    have := (List.cons.inj h).1
    exact (dgc_no hc).1 this.symm
  unfold zS at h
  split at h <;> split at h
  · have := decS_inj (List.cons.inj h).2; omega
  · exact absurd h (key _ _)
  · exact absurd h.symm (key _ _)
  · have := decS_inj h; omega
theorem span_inj {p : UInt8 → Prop} : ∀ {a b r s : List UInt8}, (∀ c ∈ a, p c) → (∀ c ∈ b, p c) → (∀ c m, r = c :: m → ¬ p c) → (∀ c m, s = c :: m → ¬ p c) → a ++ r = b ++ s → a = b ∧ r = s
  | [], [], _, _, _, _, _, _, h => ⟨rfl, h⟩
  | [], d :: b, r, s, _, hb, hr, _, h => absurd (hb d (List.mem_cons_self ..)) (hr d _ h)
  | d :: a, [], r, s, ha, _, _, hs, h => absurd (ha d (List.mem_cons_self ..)) (hs d _ h.symm)
  | d :: a, e :: b, r, s, ha, hb, hr, hs, h => by
    injection h with h1 h2
    obtain ⟨h3, h4⟩ := span_inj (fun c hc => ha c (List.mem_cons_of_mem _ hc)) (fun c hc => hb c (List.mem_cons_of_mem _ hc)) hr hs h2
    exact ⟨by rw [h1, h3], h4⟩
theorem qS_eq (x : Rat) : qS x = if x.den = 1 then zS x.num else zS x.num ++ 47 :: zS (x.den : Int) := by
  unfold qS rS
  dsimp only
  by_cases h : x.den = 1
  · rw [if_pos (show (x.den : Int) = 1 by omega), if_pos h]
  · rw [if_neg (show ¬ (x.den : Int) = 1 by omega), if_neg h, List.append_assoc]; rfl
theorem qS_ch (x : Rat) : ∀ c ∈ qS x, nmc c := by
  intro c hc
  rw [qS_eq] at hc
  split at hc
  · exact (zS_ch _ c hc).imp id .inr
  · rw [List.mem_append, List.mem_cons] at hc
    rcases hc with hc | rfl | hc
    · exact (zS_ch _ c hc).imp id .inr
    · exact .inr (.inl rfl)
    · exact (zS_ch _ c hc).imp id .inr
theorem qS_ne (x : Rat) : ∃ c m, qS x = c :: m ∧ (c = 45 ∨ dgc c) := by
  obtain ⟨c, m, e, h⟩ := zS_ne x.num
  rw [qS_eq, e]
  split
  · exact ⟨c, m, rfl, h⟩
  · exact ⟨c, _, rfl, h⟩
theorem rat_ext {x y : Rat} (h1 : x.num = y.num) (h2 : x.den = y.den) : x = y := by
  cases x; cases y; simp_all
theorem qS_inj {x y : Rat} (h : qS x = qS y) : x = y := by
  have h47 : ∀ z, ∀ c ∈ zS z, c ≠ 47 := fun z c hc e => zS_47 z (e ▸ hc)
  rw [qS_eq, qS_eq] at h
  split at h <;> split at h
  · next h1 h2 => exact rat_ext (zS_inj h) (by rw [h1, h2])
  · next h1 h2 => exact absurd (by rw [h]; simp) (zS_47 x.num)
  · next h1 h2 => exact absurd (by rw [← h]; simp) (zS_47 y.num)
  · next h1 h2 =>
    obtain ⟨h3, h4⟩ := span_inj (p := fun c => c ≠ 47) (h47 _) (h47 _) (fun c m e => by injection e with e _; rw [← e]; exact fun h => h rfl) (fun c m e => by injection e with e _; rw [← e]; exact fun h => h rfl) h
    have := zS_inj (List.cons.inj h4).2
    exact rat_ext (zS_inj h3) (by omega)
def Tm (r : List UInt8) : Prop := ∀ c m, r = c :: m → c = 44 ∨ c = 59 ∨ c = 93 ∨ c = 41 ∨ c = 125
theorem tm_nm {c : UInt8} (h : c = 44 ∨ c = 59 ∨ c = 93 ∨ c = 41 ∨ c = 125) : ¬ nmc c := by
  rcases h with rfl | rfl | rfl | rfl | rfl <;> (unfold nmc dgc; decide)
theorem nm_first {c : UInt8} (h : c = 45 ∨ dgc c) : nmc c := h.imp id .inr
def Tell {α : Type} (A : α → Prop) (T : List UInt8 → Prop) (f : α → List UInt8) : Prop := ∀ x y, A x → A y → ∀ r s, T r → T s → f x ++ r = f y ++ s → x = y ∧ r = s
theorem tell_q : Tell (fun _ => True) Tm qS := fun x y _ _ r s hr hs h => by
  obtain ⟨h1, h2⟩ := span_inj (p := nmc) (qS_ch x) (qS_ch y) (fun c m e => tm_nm (hr c m e)) (fun c m e => tm_nm (hs c m e)) h
  exact ⟨qS_inj h1, h2⟩
theorem tell_z : Tell (fun _ => True) Tm zS := fun x y _ _ r s hr hs h => by
  obtain ⟨h1, h2⟩ := span_inj (p := nmc) (fun c hc => nm_first (zS_ch x c hc)) (fun c hc => nm_first (zS_ch y c hc)) (fun c m e => tm_nm (hr c m e)) (fun c m e => tm_nm (hs c m e)) h
  exact ⟨zS_inj h1, h2⟩
theorem tell_d : Tell (fun _ => True) Tm decS := fun x y _ _ r s hr hs h => by
  obtain ⟨h1, h2⟩ := span_inj (p := nmc) (fun c hc => .inr (.inr (decS_dg x c hc))) (fun c hc => .inr (.inr (decS_dg y c hc))) (fun c m e => tm_nm (hr c m e)) (fun c m e => tm_nm (hs c m e)) h
  exact ⟨decS_inj h1, h2⟩
theorem tell_jn {α : Type} {A : α → Prop} {T C : List UInt8 → Prop} {f : α → List UInt8} {s0 : UInt8} (hf : Tell A T f) (hT : ∀ r, C r → T r) (hT0 : ∀ m, T (s0 :: m)) (hC0 : ∀ m, ¬ C (s0 :: m)) (hh : ∀ x, A x → ∀ m, ¬ C (f x ++ m)) :
    ∀ l l' : List α, (∀ x ∈ l, A x) → (∀ x ∈ l', A x) → ∀ r s, C r → C s → jn s0 (l.map f) ++ r = jn s0 (l'.map f) ++ s → l = l' ∧ r = s := by
  have cons : ∀ (x : α) (l : List α) (r : List UInt8), ∃ m, jn s0 ((x :: l).map f) ++ r = f x ++ m ∧ (l = [] → m = r) ∧ (∀ y t, l = y :: t → m = s0 :: 32 :: (jn s0 (l.map f) ++ r)) := fun x l r => by
    cases l with
    | nil => exact ⟨r, rfl, fun _ => rfl, fun y t h => by cases h⟩
    | cons y t =>
      refine ⟨s0 :: 32 :: (jn s0 ((y :: t).map f) ++ r), ?_, (fun h => by cases h), fun _ _ _ => rfl⟩
      show (f x ++ (s0 :: 32 :: jn s0 ((y :: t).map f))) ++ r = _
      rw [List.append_assoc]; rfl
  intro l
  induction l with
  | nil =>
    intro l' _ hl' r s hr hs h
    cases l' with
    | nil => exact ⟨rfl, h⟩
    | cons x t =>
      obtain ⟨m, e, _⟩ := cons x t s
      rw [e] at h
      exact absurd (by rw [← h]; exact hr) (hh x (hl' x (List.mem_cons_self ..)) m)
  | cons x l ih =>
    intro l' hl hl' r s hr hs h
    cases l' with
    | nil =>
      obtain ⟨m, e, _⟩ := cons x l r
      rw [e] at h
      exact absurd (by rw [h]; exact hs) (hh x (hl x (List.mem_cons_self ..)) m)
    | cons x' t =>
      obtain ⟨m, e, e1, e2⟩ := cons x l r
      obtain ⟨m', e', e1', e2'⟩ := cons x' t s
      rw [e, e'] at h
      have hm : T m := by
        cases l with
        | nil => rw [e1 rfl]; exact hT r hr
        | cons y u => rw [e2 y u rfl]; exact hT0 _
      have hm' : T m' := by
        cases t with
        | nil => rw [e1' rfl]; exact hT s hs
        | cons y u => rw [e2' y u rfl]; exact hT0 _
      obtain ⟨h1, h2⟩ := hf x x' (hl x (List.mem_cons_self ..)) (hl' x' (List.mem_cons_self ..)) m m' hm hm' h
      cases l with
      | nil =>
        cases t with
        | nil => rw [e1 rfl, e1' rfl] at h2; exact ⟨by rw [h1], h2⟩
        | cons y u =>
          rw [e1 rfl, e2' y u rfl] at h2
          exact absurd (by rw [← h2]; exact hr) (hC0 _)
      | cons y u =>
        cases t with
        | nil =>
          rw [e2 y u rfl, e1' rfl] at h2
          exact absurd (by rw [h2]; exact hs) (hC0 _)
        | cons z w =>
          rw [e2 y u rfl, e2' z w rfl] at h2
          obtain ⟨h3, h4⟩ := ih (z :: w) (fun a ha => hl a (List.mem_cons_of_mem _ ha)) (fun a ha => hl' a (List.mem_cons_of_mem _ ha)) r s hr hs (List.cons.inj (List.cons.inj h2).2).2
          exact ⟨by rw [h1, h3], h4⟩
def Cl (c0 : UInt8) (r : List UInt8) : Prop := ∃ m, r = c0 :: m
def Cl2 (r : List UInt8) : Prop := ∃ c m, r = c :: m ∧ (c = 59 ∨ c = 93)
theorem Tm.cons {c : UInt8} {m : List UInt8} (h : c = 44 ∨ c = 59 ∨ c = 93 ∨ c = 41 ∨ c = 125) : Tm (c :: m) := fun d n e => by injection e with e _; rw [← e]; exact h
theorem Cl2.tm {r : List UInt8} (h : Cl2 r) : Tm r := by
  obtain ⟨c, m, rfl, h⟩ := h
  exact Tm.cons (h.elim (fun h => .inr (.inl h)) fun h => .inr (.inr (.inl h)))
theorem num_no {c : UInt8} (h : c = 45 ∨ dgc c) : c ≠ 44 ∧ c ≠ 59 ∧ c ≠ 93 ∧ c ≠ 41 ∧ c ≠ 125 ∧ c ≠ 122 ∧ c ≠ 91 ∧ c ≠ 112 ∧ c ≠ 109 ∧ c ≠ 123 := by
  have h2 : c.toNat = 45 ∨ (48 ≤ c.toNat ∧ c.toNat ≤ 57) := h.imp (fun h => by rw [h]; rfl) id
  refine ⟨?_, ?_, ?_, ?_, ?_, ?_, ?_, ?_, ?_, ?_⟩ <;> (rintro rfl; revert h2; decide)
section
variable {α : Type} {f : α → List UInt8} (hf : Tell (fun _ => True) Tm f) (hn : ∀ x, ∃ c m, f x = c :: m ∧ (c = 45 ∨ dgc c))
include hf hn
theorem tell_row (c0 : UInt8) (h0 : c0 = 93 ∨ c0 = 41 ∨ c0 = 59) (l l' : List α) (r s : List UInt8) (hr : Cl c0 r) (hs : Cl c0 s) (h : jn 44 (l.map f) ++ r = jn 44 (l'.map f) ++ s) : l = l' ∧ r = s := by
  refine tell_jn (A := fun _ => True) (T := Tm) (C := Cl c0) hf ?_ (fun m => Tm.cons (.inl rfl)) ?_ ?_ l l' (fun _ _ => trivial) (fun _ _ => trivial) r s hr hs h
  · rintro r ⟨m, rfl⟩; exact Tm.cons (by rcases h0 with h | h | h <;> simp [h])
  · rintro m ⟨m', e⟩
    injection e with e _
    rcases h0 with h | h | h <;> (rw [← e] at h; revert h; decide)
  · rintro x _ m ⟨m', e⟩
    obtain ⟨c, m2, e2, h2⟩ := hn x
    rw [e2] at e
    injection e with e _
    have := num_no h2
    rcases h0 with h | h | h <;> (rw [h] at e; simp_all)
theorem tell_rows2 : Tell (fun l : List α => l ≠ []) Cl2 (fun l => jn 44 (l.map f)) := fun l l' hl hl' r s hr hs h => by
  refine tell_jn (A := fun _ => True) (T := Tm) (C := Cl2) hf (fun r hr => hr.tm) (fun m => Tm.cons (.inl rfl)) ?_ ?_ l l' (fun _ _ => trivial) (fun _ _ => trivial) r s hr hs h
  · rintro m ⟨c, m', e, h⟩
    injection e with e _
    rw [← e] at h; revert h; decide
  · rintro x _ m ⟨c, m', e, h⟩
    obtain ⟨d, m2, e2, h2⟩ := hn x
    rw [e2] at e
    injection e with e _
    have := num_no h2
    rw [e] at this
    rcases h with h | h <;> simp_all
theorem jn_first {l : List α} (hl : l ≠ []) : ∃ c m, jn 44 (l.map f) = c :: m ∧ (c = 45 ∨ dgc c) := by
  cases l with
  | nil => exact absurd rfl hl
  | cons x t =>
    obtain ⟨c, m, e, h⟩ := hn x
    cases t with
    | nil => exact ⟨c, m, e, h⟩
    | cons y u => exact ⟨c, _, (by show f x ++ _ = _; rw [e]; rfl), h⟩
theorem tell_mat (L L' : List (List α)) (hL : ∀ l ∈ L, l ≠ []) (hL' : ∀ l ∈ L', l ≠ []) (r s : List UInt8) (h : jn 59 ((L.map (·.map f)).map (jn 44)) ++ 93 :: r = jn 59 ((L'.map (·.map f)).map (jn 44)) ++ 93 :: s) : L = L' ∧ r = s := by
  rw [List.map_map, List.map_map] at h
  obtain ⟨h1, h2⟩ := tell_jn (A := fun l : List α => l ≠ []) (T := Cl2) (C := Cl 93) (s0 := 59) (tell_rows2 hf hn) (fun r ⟨m, e⟩ => ⟨93, m, e, .inr rfl⟩) (fun m => ⟨59, m, rfl, .inl rfl⟩) (fun m ⟨m', e⟩ => by injection e with e _; revert e; decide)
    (fun l hl m ⟨m', e⟩ => by
      obtain ⟨c, m2, e2, h2⟩ := jn_first hf hn hl
      rw [e2] at e
      injection e with e _
      exact (num_no h2).2.2.1 e) L L' hL hL' (93 :: r) (93 :: s) ⟨r, rfl⟩ ⟨s, rfl⟩ h
  exact ⟨h1, (List.cons.inj h2).2⟩
omit hf hn in
theorem chk_map {c : Nat} (g : α → List UInt8) : ∀ (r : Nat) (l : List α), chk c r (l.map g) = (chk c r l).map (·.map g)
  | 0, _ => rfl
  | r + 1, l => by rw [chk, chk, List.map_cons, ← List.map_take, ← List.map_drop, chk_map g r]
omit hf hn in
theorem chk_len {c : Nat} : ∀ (r : Nat) (l : List α), (chk c r l).length = r
  | 0, _ => rfl
  | r + 1, l => by rw [chk, List.length_cons, chk_len r]
omit hf hn in
theorem chk_mem {c : Nat} : ∀ (r : Nat) (l : List α), l.length = r * c → ∀ t ∈ chk c r l, t.length = c
  | 0, _, _, t, h => by cases h
  | r + 1, l, hl, t, h => by
    rw [chk, List.mem_cons] at h
    rw [Nat.add_mul] at hl
    rcases h with rfl | h
    · rw [List.length_take]; omega
    · exact chk_mem r _ (by rw [List.length_drop]; omega) t h
omit hf hn in
theorem chk_flat {c : Nat} : ∀ (r : Nat) (l : List α), l.length = r * c → (chk c r l).flatten = l
  | 0, l, hl => (List.eq_nil_of_length_eq_zero (by omega)).symm
  | r + 1, l, hl => by
    rw [Nat.add_mul] at hl
    rw [chk, List.flatten_cons, chk_flat r _ (by rw [List.length_drop]; omega), List.take_append_drop]
theorem tell_tb {r c r' c' : Nat} {l l' : List α} (hl : l.length = r * c) (hl' : l'.length = r' * c') (u v : List UInt8) (h : tbS r c (l.map f) ++ u = tbS r' c' (l'.map f) ++ v) : (r = r' ∧ c = c' ∧ l = l') ∧ u = v := by
  have hz : ∀ m n : List UInt8, (122 : UInt8) :: m ≠ 91 :: n := fun m n h => by injection h with h _; revert h; decide
  unfold tbS at h
  split at h <;> split at h
  · next h1 h2 =>
    simp only [List.append_assoc, List.cons_append, List.nil_append, List.cons.injEq, true_and] at h
    obtain ⟨e1, e2⟩ := tell_d r r' trivial trivial _ _ (Tm.cons (.inl rfl)) (Tm.cons (.inl rfl)) h
    simp only [List.append_assoc, List.cons_append, List.nil_append, List.cons.injEq, true_and] at e2
    obtain ⟨e3, e4⟩ := tell_d c c' trivial trivial _ _ (Tm.cons (.inr (.inr (.inr (.inl rfl))))) (Tm.cons (.inr (.inr (.inr (.inl rfl))))) e2
    have z1 : l = [] := List.eq_nil_of_length_eq_zero (by rw [hl]; rcases h1 with h | h <;> simp [h])
    have z2 : l' = [] := List.eq_nil_of_length_eq_zero (by rw [hl']; rcases h2 with h | h <;> simp [h])
    exact ⟨⟨e1, e3, by rw [z1, z2]⟩, (List.cons.inj e4).2⟩
  · exact absurd h (hz _ _)
  · exact absurd h.symm (hz _ _)
  · next h1 h2 =>
    have h3 := h
    simp only [List.append_assoc, List.cons_append, List.nil_append, List.cons.injEq, true_and] at h3
    rw [chk_map, chk_map] at h3
    have c0 : 0 < c := by omega
    have c0' : 0 < c' := by omega
    obtain ⟨e1, e2⟩ := tell_mat hf hn (chk c r l) (chk c' r' l') (fun t ht e => by have := chk_mem r l hl t ht; rw [e] at this; simp at this; omega) (fun t ht e => by have := chk_mem r' l' hl' t ht; rw [e] at this; simp at this; omega) u v h3
    have er : r = r' := by rw [← chk_len (c := c) r l, e1, chk_len]
    have el : l = l' := by rw [← chk_flat r l hl, e1, chk_flat r' l' hl']
    subst er; subst el
    have : c = c' := by
      have : r * c = r * c' := by omega
      exact Nat.eq_of_mul_eq_mul_left (by omega) this
    exact ⟨⟨rfl, this, rfl⟩, e2⟩
theorem tell_pl {l l' : List α} (u v : List UInt8) (h : plS (l.map f) ++ u = plS (l'.map f) ++ v) : l = l' ∧ u = v := by
  unfold plS at h
  simp only [List.append_assoc, List.cons_append, List.nil_append, List.cons.injEq, true_and] at h
  obtain ⟨h4, h5⟩ := tell_row hf hn 41 (.inr (.inl rfl)) l l' _ _ ⟨u, rfl⟩ ⟨v, rfl⟩ h
  exact ⟨h4, (List.cons.inj h5).2⟩
end
theorem dec_ne (x : Nat) : ∃ c m, decS x = c :: m ∧ (c = 45 ∨ dgc c) := by
  obtain ⟨c, m, e, h⟩ := decS_ne x
  exact ⟨c, m, e, .inr h⟩
theorem md_split {s s' : List UInt8} {p p' : Nat} {u v : List UInt8} (h : mdS s p ++ u = mdS s' p' ++ v) : s ++ (44 :: 32 :: (decS p ++ 41 :: u)) = s' ++ (44 :: 32 :: (decS p' ++ 41 :: v)) := by
  unfold mdS at h
  simp only [List.append_assoc, List.cons_append, List.nil_append, List.cons.injEq, true_and] at h
  exact h
theorem md_tail {p p' : Nat} {u v : List UInt8} (h : 44 :: 32 :: (decS p ++ 41 :: u) = 44 :: 32 :: (decS p' ++ 41 :: v)) : p = p' ∧ u = v := by
  simp only [List.append_assoc, List.cons_append, List.nil_append, List.cons.injEq, true_and] at h
  obtain ⟨e3, e4⟩ := tell_d p p' trivial trivial _ _ (Tm.cons (.inr (.inr (.inr (.inl rfl))))) (Tm.cons (.inr (.inr (.inr (.inl rfl))))) h
  exact ⟨e3, (List.cons.inj e4).2⟩
theorem tb_first (r c : Nat) (l : List (List UInt8)) : ∃ d m, tbS r c l = d :: m ∧ (d = 122 ∨ d = 91) := by
  unfold tbS
  split
  · exact ⟨122, _, rfl, .inl rfl⟩
  · exact ⟨91, _, rfl, .inr rfl⟩
theorem tell_lst {l l' : List Vl} (h : ∀ x ∈ l, ∀ y ∈ l', ∀ r s, Tm r → Tm s → tS x ++ r = tS y ++ s → x = y ∧ r = s) (hf : ∀ x : Vl, x ∈ l ∨ x ∈ l' → ∃ d m, tS x = d :: m ∧ d ≠ 125) (u v : List UInt8) (e : jn 44 (l.map tS) ++ 125 :: u = jn 44 (l'.map tS) ++ 125 :: v) : l = l' ∧ u = v := by
  revert l'
  induction l with
  | nil =>
    intro l' h hf e
    cases l' with
    | nil => exact ⟨rfl, (List.cons.inj e).2⟩
    | cons y t =>
      obtain ⟨d, m, e1, e2⟩ := hf y (.inr (List.mem_cons_self ..))
      exfalso
      cases t with
      | nil =>
        change (125 : UInt8) :: u = tS y ++ _ at e
        rw [e1] at e; injection e with e _; exact e2 e.symm
      | cons z w =>
        change (125 : UInt8) :: u = (tS y ++ _) ++ _ at e
        rw [e1] at e; injection e with e _; exact e2 e.symm
  | cons x l ih =>
    intro l' h hf e
    cases l' with
    | nil =>
      obtain ⟨d, m, e1, e2⟩ := hf x (.inl (List.mem_cons_self ..))
      exfalso
      cases l with
      | nil =>
        change tS x ++ _ = (125 : UInt8) :: v at e
        rw [e1] at e; injection e with e _; exact e2 e
      | cons z w =>
        change (tS x ++ _) ++ _ = (125 : UInt8) :: v at e
        rw [e1] at e; injection e with e _; exact e2 e
    | cons y t =>
      have hxy := h x (List.mem_cons_self ..) y (List.mem_cons_self ..)
      cases l with
      | nil =>
        cases t with
        | nil =>
          obtain ⟨h1, h2⟩ := hxy (125 :: u) (125 :: v) (Tm.cons (by simp)) (Tm.cons (by simp)) e
          exact ⟨by rw [h1], (List.cons.inj h2).2⟩
        | cons z w =>
          change tS x ++ _ = (tS y ++ _) ++ _ at e
          rw [List.append_assoc] at e
          obtain ⟨h1, h2⟩ := hxy _ _ (Tm.cons (by simp)) (Tm.cons (by simp)) e
          injection h2 with h2 _
          exact absurd h2 (by decide)
      | cons z w =>
        cases t with
        | nil =>
          change (tS x ++ _) ++ _ = tS y ++ _ at e
          rw [List.append_assoc] at e
          obtain ⟨h1, h2⟩ := hxy _ _ (Tm.cons (by simp)) (Tm.cons (by simp)) e
          injection h2 with h2 _
          exact absurd h2 (by decide)
        | cons z' w' =>
          change (tS x ++ _) ++ _ = (tS y ++ _) ++ _ at e
          rw [List.append_assoc, List.append_assoc] at e
          obtain ⟨h1, h2⟩ := hxy _ _ (Tm.cons (by simp)) (Tm.cons (by simp)) e
          have h3 := (List.cons.inj (List.cons.inj h2).2).2
          obtain ⟨h4, h5⟩ := ih (fun a ha b hb => h a (List.mem_cons_of_mem _ ha) b (List.mem_cons_of_mem _ hb)) (fun a ha => hf a (ha.imp (List.mem_cons_of_mem _) (List.mem_cons_of_mem _))) h3
          exact ⟨by rw [h1, h4], h5⟩
def kd (v : Vl) (d : UInt8) : Prop := (v.k = 1 ∧ (d = 45 ∨ dgc d)) ∨ (v.k = 2 ∧ (d = 122 ∨ d = 91)) ∨ (v.k = 3 ∧ d = 112) ∨ (v.k = 4 ∧ d = 109) ∨ (v.k = 5 ∧ d = 109) ∨ (v.k = 6 ∧ d = 123)
theorem Sh.first {K : Nat} {v : Vl} (h : Sh K v) : ∃ d m, tS v = d :: m ∧ kd v d := by
  cases h with
  | num x h => rw [tS_num]; obtain ⟨c, m, e, h⟩ := qS_ne x; exact ⟨c, m, e, .inl ⟨rfl, h⟩⟩
  | mat r c vs hl hr hc h => rw [tS_mat]; obtain ⟨d, m, e, h⟩ := tb_first r c (vs.map qS); exact ⟨d, m, e, .inr (.inl ⟨rfl, h⟩)⟩
  | pol zs hl hn h => rw [tS_pol]; exact ⟨112, _, rfl, .inr (.inr (.inl ⟨rfl, rfl⟩))⟩
  | fld p r c l hp hl hr hc h => rw [tS_fld]; exact ⟨109, _, rfl, .inr (.inr (.inr (.inl ⟨rfl, rfl⟩)))⟩
  | rng p l hp hl hn h => rw [tS_rng]; exact ⟨109, _, rfl, .inr (.inr (.inr (.inr (.inl ⟨rfl, rfl⟩))))⟩
theorem Cv.first {K n : Nat} {v : Vl} (h : Cv K n v) : ∃ d m, tS v = d :: m ∧ kd v d := by
  cases h with
  | one h => exact h.first
  | lst l hl h => rw [tS_lst]; exact ⟨123, _, rfl, .inr (.inr (.inr (.inr (.inr ⟨rfl, rfl⟩))))⟩
theorem kd_no {v : Vl} {d : UInt8} (h : kd v d) : d ≠ 125 := by
  rcases h with ⟨_, h⟩ | ⟨_, rfl | rfl⟩ | ⟨_, rfl⟩ | ⟨_, rfl⟩ | ⟨_, rfl⟩ | ⟨_, rfl⟩
  · exact (num_no h).2.2.2.2.1
  all_goals decide
theorem kd_eq {v w : Vl} {d : UInt8} (h : kd v d) (h' : kd w d) : v.k = w.k ∨ (v.k = 4 ∧ w.k = 5) ∨ (v.k = 5 ∧ w.k = 4) := by
  have no : (d = 45 ∨ dgc d) → d ≠ 122 ∧ d ≠ 91 ∧ d ≠ 112 ∧ d ≠ 109 ∧ d ≠ 123 := fun h => (num_no h).2.2.2.2.2
  rcases h with ⟨k1, h⟩ | ⟨k1, h⟩ | ⟨k1, h⟩ | ⟨k1, h⟩ | ⟨k1, h⟩ | ⟨k1, h⟩ <;> rcases h' with ⟨k2, h'⟩ | ⟨k2, h'⟩ | ⟨k2, h'⟩ | ⟨k2, h'⟩ | ⟨k2, h'⟩ | ⟨k2, h'⟩
  all_goals first
    | exact .inl (k1.trans k2.symm)
    | exact .inr (.inl ⟨k1, k2⟩)
    | exact .inr (.inr ⟨k1, k2⟩)
    | (exfalso; have := no h; simp_all; done)
    | (exfalso; have := no h'; simp_all; done)
    | (exfalso; rcases h with rfl | rfl <;> revert h' <;> decide)
    | (exfalso; rcases h' with rfl | rfl <;> revert h <;> decide)
    | (exfalso; rw [h] at h'; revert h'; decide)
theorem pl_tb {l : List (List UInt8)} {r c : Nat} {l' : List (List UInt8)} {u v : List UInt8} (h : plS l ++ u = tbS r c l' ++ v) : False := by
  obtain ⟨d, m, e, hd⟩ := tb_first r c l'
  rw [e] at h
  unfold plS at h
  injection h with h _
  rcases hd with rfl | rfl <;> (revert h; decide)
theorem tell_Sh {K L : Nat} {v w : Vl} (hv : Sh K v) (hw : Sh L w) (r s : List UInt8) (hr : Tm r) (hs : Tm s) (h : tS v ++ r = tS w ++ s) : v = w ∧ r = s := by
  obtain ⟨d, m, e, k1⟩ := hv.first
  obtain ⟨d', m', e', k2⟩ := hw.first
  have hd : d = d' := by rw [e, e'] at h; injection h
  subst hd
  have hk := kd_eq k1 k2
  clear k1 k2 e e'
  cases hv with
  | num x _ => cases hw with
    | num y _ =>
      rw [tS_num, tS_num] at h
      obtain ⟨h1, h2⟩ := tell_q x y trivial trivial r s hr hs h
      exact ⟨by rw [h1], h2⟩
    | _ => exfalso; simp at hk
  | mat a b vs hl _ _ _ => cases hw with
    | mat a' b' vs' hl' _ _ _ =>
      rw [tS_mat, tS_mat] at h
      obtain ⟨⟨h1, h2, h3⟩, h4⟩ := tell_tb tell_q qS_ne hl hl' r s h
      exact ⟨by rw [h1, h2, h3], h4⟩
    | _ => exfalso; simp at hk
  | pol zs _ _ _ => cases hw with
    | pol zs' _ _ _ =>
      rw [tS_pol, tS_pol] at h
      obtain ⟨h1, h2⟩ := tell_pl tell_z zS_ne r s h
      exact ⟨by rw [h1], h2⟩
    | _ => exfalso; simp at hk
  | fld p a b l _ hl _ _ _ => cases hw with
    | fld p' a' b' l' _ hl' _ _ _ =>
      rw [tS_fld, tS_fld] at h
      obtain ⟨⟨h1, h2, h3⟩, h4⟩ := tell_tb tell_d dec_ne hl hl' _ _ (md_split h)
      obtain ⟨h5, h6⟩ := md_tail h4
      exact ⟨by rw [h1, h2, h3, h5], h6⟩
    | rng p' l' _ _ _ _ =>
      rw [tS_fld, tS_rng] at h
      exact (pl_tb (md_split h).symm).elim
    | _ => exfalso; simp at hk
  | rng p l _ _ _ _ => cases hw with
    | rng p' l' _ _ _ _ =>
      rw [tS_rng, tS_rng] at h
      obtain ⟨h1, h4⟩ := tell_pl tell_d dec_ne _ _ (md_split h)
      obtain ⟨h5, h6⟩ := md_tail h4
      exact ⟨by rw [h1, h5], h6⟩
    | fld p' a' b' l' _ hl' _ _ _ =>
      rw [tS_rng, tS_fld] at h
      exact (pl_tb (md_split h)).elim
    | _ => exfalso; simp at hk
theorem Sh.k6 {K : Nat} {v : Vl} (h : Sh K v) : v.k ≠ 6 := by cases h <;> simp
theorem tell_Cv {K L : Nat} : ∀ (n m : Nat) (v w : Vl), Cv K n v → Cv L m w → ∀ r s, Tm r → Tm s → tS v ++ r = tS w ++ s → v = w ∧ r = s := by
  intro n
  induction n with
  | zero =>
    intro m v w hv hw r s hr hs h
    obtain ⟨d, u, e, k1⟩ := hv.first
    obtain ⟨d', u', e', k2⟩ := hw.first
    have hd : d = d' := by rw [e, e'] at h; injection h
    subst hd
    have hk := kd_eq k1 k2
    cases hv with
    | one hv => cases hw with
      | one hw => exact tell_Sh hv hw r s hr hs h
      | lst l hl h => exfalso; have := hv.k6; simp at hk; omega
  | succ n ih =>
    intro m v w hv hw r s hr hs h
    obtain ⟨d, u, e, k1⟩ := hv.first
    obtain ⟨d', u', e', k2⟩ := hw.first
    have hd : d = d' := by rw [e, e'] at h; injection h
    subst hd
    have hk := kd_eq k1 k2
    cases hv with
    | one hv => cases hw with
      | one hw => exact tell_Sh hv hw r s hr hs h
      | lst l hl h => exfalso; have := hv.k6; simp at hk; omega
    | lst l hl h1 => cases hw with
      | one hw => exfalso; have := hw.k6; simp at hk; omega
      | lst l' hl' h1' =>
        rw [tS_lst, tS_lst] at h
        have h3 := h
        simp only [List.append_assoc, List.cons_append, List.nil_append, List.cons.injEq, true_and] at h3
        obtain ⟨h4, h5⟩ := tell_lst (fun x hx y hy r s hr hs => ih _ x y (h1 x hx) (h1' y hy) r s hr hs) (fun x hx => by
          rcases hx with hx | hx
          · obtain ⟨d, m, e, k⟩ := (h1 x hx).first; exact ⟨d, m, e, kd_no k⟩
          · obtain ⟨d, m, e, k⟩ := (h1' x hx).first; exact ⟨d, m, e, kd_no k⟩) r s h3
        exact ⟨by rw [h4], h5⟩
theorem tS_inj {K L n m : Nat} {v w : Vl} (hv : Cv K n v) (hw : Cv L m w) : tS v = tS w ↔ v = w := by
  constructor
  · intro h
    exact (tell_Cv n m v w hv hw [] [] (fun c m e => by cases e) (fun c m e => by cases e) (by rw [h])).1
  · rintro rfl; rfl
end Go.Proofs.YtfhpmbenldgfnaaGreatDoor
set_option linter.unusedVariables false
set_option linter.unusedSimpArgs false
namespace Go.Proofs.YtfhpmbenldgfnaaGreatDoor
open Go.RowKit QM SX LA
abbrev mq (vs : List Rat) : List Q4 := (vs.map cq).map rq
abbrev mz (zs : List Int) : List Z2 := (zs.map cz).map rz
attribute [local irreducible] IntKind.wrap Go1 Reg WP thenK inBlk retQ retF RetF RetOK ResOK CallOK OpOK Sat
attribute [local irreducible] qsub qmul qquo qcmp qadd qv redS mf PrP qOk zOk vP fp64 lz vF cq rqv plen pNorm pBoth pScale
def mAdd (r c : Nat) (vs vs' : List Rat) : List Rat := tabR c (fun i k => vat vs c i k + vat vs' c i k) r
def mScale (r c : Nat) (vs : List Rat) (x : Rat) : List Rat := tabR c (fun i k => vat vs c i k * x) r
def mxMul (r c d : Nat) (vs vs' : List Rat) : List Rat := tabR d (prodV c (vat vs c) (vat vs' d)) r
section
variable {u v w : Vl} {e : Int}
variable (c1 : PureOK Tryz.prog 28 [.agg (vlA u)] (.v (.bool true))) (c2 : PureOK Tryz.prog 28 [.agg (vlA v)] (.v (.bool true)))
include c1 c2
end
end Go.Proofs.YtfhpmbenldgfnaaGreatDoor
set_option linter.unusedVariables false
set_option linter.unusedSimpArgs false
namespace Go.Proofs.YtfhpmbenldgfnaaGreatDoor
open Go.RowKit QM SX LA
def mulV (i : Int) : Vl → Vl
  | ⟨k, q, r, c, a, po, p, fr, fc, fa, ri, li⟩ => if k = 1 then vNum (i * rqv q) else if k = 2 then vMat r.toNat c.toNat (mScale r.toNat c.toNat (a.map rqv) i) else vPol (pScale (po.map rzv) i)
attribute [local irreducible] IntKind.wrap Go1 Reg WP thenK inBlk retQ retF RetF RetOK ResOK CallOK OpOK Sat
attribute [local irreducible] qsub qmul qquo qcmp qadd qv redS mf PrP qOk zOk vP fp64 lz vF cq rqv plen pNorm pBoth pScale
structure Muls (v : Vl) (k : Nat) : Prop where
  a : PureOK Tryz.prog 44 [.agg (vlA (vNum ((k : Int) : Rat))), .agg (vlA v)] (.tup [.agg (vlA (mulV k v)), eNo 0])
  b : PureOK Tryz.prog 44 [.agg (vlA v), .agg (vlA (vNum ((k : Int) : Rat)))] (.tup [.agg (vlA (mulV k v)), eNo 0])
  h : ∃ (w : Vl) (e : Int), PureOK Tryz.prog 44 [.agg (vlA (vNum (1 / 2))), .agg (vlA v)] (.tup [.agg (vlA w), eNo e]) ∧ ((v.k ≠ 3 ∧ e = 0) ∨ (v.k = 3 ∧ e = 5))
  d : PureOK Tryz.prog 48 [.agg (vlA v), .agg (vlA v)] (.tup [.agg (vlA (mulV 0 v)), eNo 0])
  s : ∀ i, i < k → PureOK Tryz.prog 47 [.agg (vlA (mulV (i : Int) v)), .agg (vlA v)] (.tup [.agg (vlA (mulV ((i + 1 : Nat) : Int) v)), eNo 0])
  c : ∀ i, i ≤ k → Cv 4 0 (mulV (i : Int) v)
  kk : ∀ i, (mulV i v).k = v.k
end Go.Proofs.YtfhpmbenldgfnaaGreatDoor
set_option linter.unusedVariables false
set_option linter.unusedSimpArgs false
namespace Go.Proofs.YtfhpmbenldgfnaaGreatDoor
open Go.RowKit QM SX LA
def txC (s : List UInt8) : List CA := [.val (str s)]
instance : EncLen txC 1 := ⟨fun _ => rfl⟩
theorem jn_snoc (s : UInt8) : ∀ (l : List (List UInt8)) (x : List UInt8), l ≠ [] → jn s (l ++ [x]) = jn s l ++ [s, 32] ++ x
  | [], x, h => absurd rfl h
  | [a], x, _ => by show a ++ (s :: 32 :: x) = _; simp [jn]
  | a :: b :: l, x, _ => by
    show a ++ (s :: 32 :: jn s (b :: l ++ [x])) = (a ++ (s :: 32 :: jn s (b :: l))) ++ [s, 32] ++ x
    rw [jn_snoc s (b :: l) x (by simp)]
    simp [List.append_assoc]
theorem jn_take (s : UInt8) (l : List (List UInt8)) (k : Nat) : (jn s (l.take k)).length ≤ (jn s l).length := by
  induction l generalizing k with
  | nil => simp
  | cons a l ih =>
    cases k with
    | zero => exact Nat.zero_le _
    | succ k =>
      cases l with
      | nil => simp
      | cons b l =>
        cases k with
        | zero => show a.length ≤ (a ++ _).length; rw [List.length_append]; omega
        | succ k =>
          have := ih (k + 1)
          show (a ++ (s :: 32 :: jn s ((b :: l).take (k + 1)))).length ≤ (a ++ (s :: 32 :: jn s (b :: l))).length
          rw [List.length_append, List.length_append, List.length_cons, List.length_cons, List.length_cons, List.length_cons]; omega
def sq (c : Nat) : Nat → List (List UInt8) → List UInt8
  | _, [] => []
  | i, x :: l => (if 0 < i ∧ i % c = 0 then [59, 32] else []) ++ ((if 0 < i % c then [44, 32] else []) ++ (x ++ sq c (i + 1) l))
theorem sq_snoc (c : Nat) : ∀ (i : Nat) (l : List (List UInt8)) (x : List UInt8), sq c i (l ++ [x]) = sq c i l ++ ((if 0 < i + l.length ∧ (i + l.length) % c = 0 then [59, 32] else []) ++ ((if 0 < (i + l.length) % c then [44, 32] else []) ++ x))
  | i, [], x => by simp [sq]
  | i, a :: l, x => by
    show sq c i (a :: (l ++ [x])) = _
    rw [sq, sq_snoc c (i + 1) l x, sq, List.length_cons, show i + 1 + l.length = i + (l.length + 1) by omega]
    simp only [List.append_assoc]
theorem sq_app (c : Nat) : ∀ (i : Nat) (l m : List (List UInt8)), sq c i (l ++ m) = sq c i l ++ sq c (i + l.length) m
  | i, [], m => rfl
  | i, a :: l, m => by
    show sq c i (a :: (l ++ m)) = _
    rw [sq, sq_app c (i + 1) l m, sq, List.length_cons, show i + 1 + l.length = i + (l.length + 1) by omega]
    simp only [List.append_assoc]
theorem sq_in (c : Nat) : ∀ (l : List (List UInt8)) (i k : Nat), 0 < k → k + l.length ≤ c → sq c (i * c + k) l = (l.map fun x => [44, 32] ++ x).flatten
  | [], _, _, _, _ => rfl
  | a :: l, i, k, h0, hk => by
    rw [List.length_cons] at hk
    have hm : (i * c + k) % c = k := by rw [Nat.mul_comm, Nat.mul_add_mod, Nat.mod_eq_of_lt (by omega)]
    rw [sq, hm, if_neg (by omega), if_pos h0, Nat.add_assoc, sq_in c l i (k + 1) (by omega) (by omega)]
    simp
theorem jn_flat (s : UInt8) : ∀ (a : List UInt8) (l : List (List UInt8)), jn s (a :: l) = a ++ (l.map fun x => [s, 32] ++ x).flatten
  | a, [] => by simp [jn]
  | a, b :: l => by rw [jn, jn_flat s b l]; simp
theorem sq_row (c : Nat) {l : List (List UInt8)} (hl : l.length = c) (h0 : 0 < c) (i : Nat) : sq c (i * c) l = (if 0 < i then [59, 32] else []) ++ jn 44 l := by
  cases l with
  | nil => simp at hl; omega
  | cons a l =>
    rw [List.length_cons] at hl
    rw [sq, Nat.mul_mod_left, jn_flat, sq_in c l i 1 (by decide) (by omega), if_neg (show ¬ 0 < 0 by decide)]
    by_cases hi : 0 < i
    · rw [if_pos hi, if_pos ⟨Nat.mul_pos hi h0, rfl⟩]; rfl
    · rw [if_neg hi, if_neg (fun h => hi (by rcases Nat.eq_zero_or_pos i with h1 | h1; (subst h1; simp at h); exact h1))]; rfl
theorem sq_rows (c : Nat) (h0 : 0 < c) : ∀ (r i : Nat) (l : List (List UInt8)), l.length = r * c → sq c (i * c) l = if r = 0 then [] else (if 0 < i then [59, 32] else []) ++ jn 59 ((chk c r l).map (jn 44))
  | 0, i, l, hl => by
    have : l = [] := List.eq_nil_of_length_eq_zero (by omega)
    subst this; rfl
  | r + 1, i, l, hl => by
    rw [Nat.add_mul] at hl
    have h1 : (l.take c).length = c := by rw [List.length_take]; omega
    have h2 : (l.drop c).length = r * c := by rw [List.length_drop]; omega
    have e : sq c (i * c) l = sq c (i * c) (l.take c) ++ sq c ((i + 1) * c) (l.drop c) := by
      have := sq_app c (i * c) (l.take c) (l.drop c)
      rw [List.take_append_drop, h1] at this
      rw [this, Nat.add_mul, Nat.one_mul]
    rw [e, sq_row c h1 h0, sq_rows c h0 r (i + 1) _ h2, if_neg (show ¬ r + 1 = 0 by omega), chk, List.map_cons]
    cases r with
    | zero => rw [if_pos rfl, chk, List.map_nil, jn, List.append_nil]
    | succ r =>
      rw [if_neg (show ¬ r + 1 = 0 by omega), if_pos (show 0 < i + 1 by omega), chk, List.map_cons, jn]
      simp [List.append_assoc]
theorem sq_all {c r : Nat} {l : List (List UInt8)} (hl : l.length = r * c) (hr : r ≠ 0) (hc : c ≠ 0) : sq c 0 l = jn 59 ((chk c r l).map (jn 44)) := by
  have := sq_rows c (by omega) r 0 l hl
  rw [Nat.zero_mul, if_neg hr, if_neg (by omega)] at this
  exact this
theorem sq_take (c : Nat) (l : List (List UInt8)) (k : Nat) : (sq c 0 (l.take k)).length ≤ (sq c 0 l).length := by
  have := sq_app c 0 (l.take k) (l.drop k)
  rw [List.take_append_drop] at this
  rw [this, List.length_append]; omega
theorem lenA (a b : List UInt8) : (a ++ b).length = a.length + b.length := List.length_append
attribute [local irreducible] IntKind.wrap Go1 Reg WP thenK inBlk retQ retF RetF RetOK ResOK CallOK OpOK Sat
attribute [local irreducible] qsub qmul qquo qcmp qadd qv redS mf PrP qOk zOk vP fp64 lz vF cq rqv plen pNorm pBoth pScale mulV jn sq decS qS zS
theorem jn_step {l : List (List UInt8)} {k : Nat} {x : List UInt8} (hx : l[k]? = some x) (h0 : 0 < k) : jn 44 (l.take k) ++ [44, 32] ++ x = jn 44 (l.take (k + 1)) := by
  have hk := at_lt hx
  rw [take_snoc hx, jn_snoc 44 _ x (fun e => by have := congrArg List.length e; rw [List.length_take, List.length_nil] at this; omega)]
theorem jn_nil : jn 44 [] = [] := by unfold jn; rfl
theorem jn_one (s : UInt8) (x : List UInt8) : jn s [x] = x := by unfold jn; rfl
theorem con_rRow (l : List (List UInt8)) (hl : (jn 44 l).length ≤ 1000000000000) (hn : l.length ≤ 1000000) : PureOK Tryz.prog 55 [.r (rowR 1 txC l)] (.v (str (jn 44 l))) := by
  refine PureOK.fnF Tryz.func55 Tryz.results55 Tryz.ntmps55 rfl rfl rfl (by simp [AV.ids, AV0.ids, Atom.ids]) rfl (fun w0 T B E0 hB => ?_)
  refine SX.goJ ?_
  refine W.loop (fun k => k ≤ l.length) (fun k => [(0, .r (rowR 1 txC l)), (3, .v (str (jn 44 (l.take k)))), (4, .v (.int .i64 (k : Int)))]) (fun _ => []) (fun k => l.length - k) 0 (Nat.zero_le _) (fun k hk => ?_)
    (by
      refine SX.St.le_to [] (by intro b h; cases h) ?_ ?_ rfl
      · exact ⟨⟨_, rfl, SX.AVto.same rfl⟩, ⟨_, rfl, SX.AVto.str (by rw [List.take_zero, jn_nil])⟩, ⟨_, rfl, SX.AVto.same rfl⟩, trivial⟩
      · exact trivial)
  by_cases h : k < l.length
  · obtain ⟨x, hx⟩ : ∃ x, l[k]? = some x := ⟨_, List.getElem?_eq_getElem h⟩
    have hb := jn_take 44 l (k + 1)
    by_cases h0 : 0 < k
    · have e2 := jn_step hx h0
      rw [← e2, lenA, lenA] at hb
      have h2 : ([44, 32] : List UInt8).length = 2 := rfl
      refine SX.goJ ?_
      exact W.next (k + 1) h (by omega)
    · obtain rfl : k = 0 := by omega
      have e3 : jn 44 (l.take 0) = [] := by rw [List.take_zero, jn_nil]
      have e2 : jn 44 (l.take 0) ++ x = jn 44 (l.take (0 + 1)) := by rw [take_snoc hx, e3, List.take_zero, List.nil_append, List.nil_append, jn_one]
      rw [← e2, lenA] at hb
      refine SX.goJ ?_
      exact W.next (0 + 1) h (by omega)
  · obtain rfl : k = l.length := by omega
    refine SX.goJ ?_
    refine retS ?_; rw [List.take_length]
theorem wdC_flat (l : List Nat) : l.flatMap wdC = l.map fun x : Nat => CA.val (.int .u64 (x : Int)) := by
  induction l with
  | nil => rfl
  | cons x l ih => rw [List.flatMap_cons, ih]; rfl
theorem rowR_wd (l : List Nat) : rowR 1 wdC l = sliceR 1 l.length (l.map fun x : Nat => CA.val (.int .u64 (x : Int))) := by
  show sliceR 1 l.length (l.flatMap wdC) = _
  rw [wdC_flat]
theorem AtomI.rawrow {l : List Nat} (hs : Sm WB l) : AtomI (.c (.sat (rowR 1 wdC l))) (.c (.sat (rawN l))) := fun E S w v h => by
  rw [rowR_wd] at h; exact rawN_iff.2 ⟨hs, h⟩
theorem nval_one (x : Nat) : nval WB [x] = x := by unfold nval nval; omega
theorem zS_nat (n : Nat) : zS (n : Int) = decS n := by unfold zS; rw [if_neg (by omega), Int.natAbs_natCast]
theorem con_rWord (x : Nat) (hx : x < WB) : PureOK Tryz.prog 53 [.v (.int .u64 (x : Int))] (.v (str (decS x))) := by
  have hs : Sm WB [x] := Sm.cons hx Sm.nil
  have cP := args_agg (l := [.c (.val (.bool false)), .c (.sat (rowR 1 wdC [x]))]) (con_zPrint (h := (ZQ.raw (b := false) (l := [x]) (K := 1) hs (Nat.le_refl 1)).zi).h (by decide)) ⟨AtomI.refl _, AtomI.rawrow hs, trivial⟩
  rw [show zS (sgn false (nval WB [x])) = decS x by rw [nval_one]; exact zS_nat x] at cP
  refine PureOK.fnF Tryz.func53 Tryz.results53 Tryz.ntmps53 rfl rfl rfl (by simp [AV.ids, AV0.ids, Atom.ids]) rfl (fun w0 T B E0 hB => ?_)
  refine SX.goJ ?_
  exact retS rfl
theorem decS_w {x : Nat} (h : x < WB) : (decS x).length ≤ 21 := decS_len (k := 1) (by rw [Nat.pow_one]; exact h)
theorem con_rTable0 {r c : Nat} (h : r = 0 ∨ c = 0) (hr : r ≤ 1000) (hc : c ≤ 1000) (l : List (List UInt8)) (y : AV) : PureOK Tryz.prog 54 [.v (.int .i64 (r : Int)), .v (.int .i64 (c : Int)), .r (rowR 1 txC l)] (.v (str (tbS r c l))) := by
  have w1 := con_rWord r (by rw [WB_eq]; omega)
  have w2 := con_rWord c (by rw [WB_eq]; omega)
  have b1 := decS_w (x := r) (by rw [WB_eq]; omega)
  have b2 := decS_w (x := c) (by rw [WB_eq]; omega)
  have e1 : IntKind.u64.wrap (r : Int) = (r : Int) := wrapN (by omega)
  have e2 : IntKind.u64.wrap (c : Int) = (c : Int) := wrapN (by omega)
  unfold tbS
  rw [if_pos h]
  refine PureOK.fnF Tryz.func54 Tryz.results54 Tryz.ntmps54 rfl rfl rfl (by simp [AV.ids, AV0.ids, Atom.ids]) rfl (fun w0 T B E0 hB => ?_)
  by_cases h1 : r = 0
  · refine SX.goJ ?_
    refine retS ?_; simp [List.append_assoc]
  · have h2 : c = 0 := h.resolve_left h1
    refine SX.goJ ?_
    refine retS ?_; simp [List.append_assoc]
theorem con_rTable {r c : Nat} (h1 : r ≠ 0) (h2 : c ≠ 0) {l : List (List UInt8)} (hl : l.length = r * c) (hr : r ≤ 1000) (hc : c ≤ 1000) (hb : (tbS r c l).length ≤ 1000000000000) : PureOK Tryz.prog 54 [.v (.int .i64 (r : Int)), .v (.int .i64 (c : Int)), .r (rowR 1 txC l)] (.v (str (tbS r c l))) := by
  have hm := Nat.mul_le_mul hr hc
  unfold tbS at hb ⊢
  rw [if_neg (by omega)] at hb ⊢
  rw [← sq_all hl h1 h2] at hb ⊢
  rw [List.length_cons, lenA] at hb
  refine PureOK.fnF Tryz.func54 Tryz.results54 Tryz.ntmps54 rfl rfl rfl (by simp [AV.ids, AV0.ids, Atom.ids]) rfl (fun w0 T B E0 hB => ?_)
  refine SX.goJ ?_
  refine W.loop (fun k => k ≤ l.length) (fun k => [(1, .v (.int .i64 (c : Int))), (2, .r (rowR 1 txC l)), (7, .v (str (91 :: sq c 0 (l.take k)))), (8, .v (.int .i64 (k : Int)))]) (fun _ => []) (fun k => l.length - k) 0 (Nat.zero_le _) (fun k hk => ?_)
    (by
      refine SX.St.le_to [] (by intro b h; cases h) ?_ ?_ rfl
      · exact ⟨⟨_, rfl, SX.AVto.same rfl⟩, ⟨_, rfl, SX.AVto.same rfl⟩, ⟨_, rfl, SX.AVto.str (by rw [List.take_zero]; unfold sq; rfl)⟩, ⟨_, rfl, SX.AVto.same rfl⟩, trivial⟩
      · exact trivial)
  have h91 : ([59, 32] : List UInt8).length = 2 ∧ ([44, 32] : List UInt8).length = 2 := ⟨rfl, rfl⟩
  by_cases h : k < l.length
  · obtain ⟨x, hx⟩ : ∃ x, l[k]? = some x := ⟨_, List.getElem?_eq_getElem h⟩
    have ht := sq_take c l (k + 1)
    have e := sq_snoc c 0 (l.take k) x
    rw [← take_snoc hx, Nat.zero_add, List.length_take, Nat.min_eq_left hk] at e
    by_cases h0 : k % c = 0
    · by_cases h3 : 0 < k
      · rw [if_pos ⟨h3, h0⟩, if_neg (by omega), List.nil_append] at e
        have e2 : (91 :: sq c 0 (l.take k)) ++ [59, 32] ++ x = 91 :: sq c 0 (l.take (k + 1)) := by rw [e]; simp [List.append_assoc]
        rw [e, lenA, lenA] at ht
        refine SX.goJ ?_
        exact W.next (k + 1) h (by omega)
      · rw [if_neg (fun h => h3 h.1), if_neg (by omega), List.nil_append, List.nil_append] at e
        have e2 : (91 :: sq c 0 (l.take k)) ++ x = 91 :: sq c 0 (l.take (k + 1)) := by rw [e]; rfl
        rw [e, lenA] at ht
        refine SX.goJ ?_
        exact W.next (k + 1) h (by omega)
    · rw [if_neg (fun h => h0 h.2), if_pos (by omega), List.nil_append] at e
      have e2 : (91 :: sq c 0 (l.take k)) ++ [44, 32] ++ x = 91 :: sq c 0 (l.take (k + 1)) := by rw [e]; simp [List.append_assoc]
      rw [e, lenA, lenA] at ht
      have h4 : 0 < k % c := by omega
      have h5 : 0 < k := by have := Nat.mod_le k c; omega
      refine SX.goJ ?_
      exact W.next (k + 1) h (by omega)
  · obtain rfl : k = l.length := by omega
    rw [List.take_length]
    refine SX.goJ ?_
    refine retS ?_; rfl
end Go.Proofs.YtfhpmbenldgfnaaGreatDoor
set_option linter.unusedVariables false
set_option linter.unusedSimpArgs false
namespace Go.Proofs.YtfhpmbenldgfnaaGreatDoor
open Go.RowKit QM SX LA
def txA (v : Vl) : List (List UInt8) := v.a.map fun x => qS (rqv x)
def txP (v : Vl) : List (List UInt8) := v.po.map fun x => zS (rzv x)
def txL (v : Vl) : List (List UInt8) := txA v ++ txP v ++ v.fa.map decS ++ v.ri.map decS ++ v.li.map tS
def txN (v : Vl) : Nat := v.a.length + v.po.length + v.fa.length + v.ri.length + v.li.length
theorem txL_len (v : Vl) : (txL v).length = txN v := by
  unfold txL txN txA txP
  simp only [List.length_append, List.length_map]
theorem tx_step {X l : List (List UInt8)} {k : Nat} {x : List UInt8} (hx : l[k]? = some x) : (X ++ l.take k).flatMap txC ++ txC x = (X ++ l.take (k + 1)).flatMap txC := by
  rw [take_snoc hx, ← List.append_assoc, List.flatMap_append, List.flatMap_append (ys := [x])]
  simp
theorem tx_row {v : Vl} : rowR 1 txC (txL v) = sliceR 1 (txN v) ((txL v).flatMap txC) := by
  show sliceR 1 (txL v).length _ = _
  rw [txL_len]
attribute [local irreducible] IntKind.wrap Go1 Reg WP thenK inBlk retQ retF RetF RetOK ResOK CallOK OpOK Sat
attribute [local irreducible] qsub qmul qquo qcmp qadd qv redS mf PrP qOk zOk vP fp64 lz vF cq rqv plen pNorm pBoth pScale mulV jn sq decS qS zS tS tbS
def TxEnd (v : Vl) (T : List UInt8) : Prop :=
  (v.k = 1 ∧ PureOK Tryz.prog 51 [.agg (q4A (rq v.q))] (.v (str T)))
  ∨ (v.k = 2 ∧ PureOK Tryz.prog 54 [.v (.int .i64 v.r), .v (.int .i64 v.c), .r (sliceR 1 (txN v) ((txL v).flatMap txC))] (.v (str T)))
  ∨ (v.k = 3 ∧ ∃ R, PureOK Tryz.prog 55 [.r (sliceR 1 (txN v) ((txL v).flatMap txC))] (.v (str R)) ∧ T = [112, 111, 108, 121, 40] ++ R ++ [41])
  ∨ (v.k = 4 ∧ ∃ R D, PureOK Tryz.prog 54 [.v (.int .i64 v.fr), .v (.int .i64 v.fc), .r (sliceR 1 (txN v) ((txL v).flatMap txC))] (.v (str R)) ∧ PureOK Tryz.prog 53 [.v (.int .u64 (v.p : Int))] (.v (str D)) ∧ T = [109, 111, 100, 40] ++ R ++ [44, 32] ++ D ++ [41])
  ∨ (v.k = 5 ∧ ∃ R D, PureOK Tryz.prog 55 [.r (sliceR 1 (txN v) ((txL v).flatMap txC))] (.v (str R)) ∧ PureOK Tryz.prog 53 [.v (.int .u64 (v.p : Int))] (.v (str D)) ∧ T = [109, 111, 100, 40, 112, 111, 108, 121, 40] ++ R ++ [41, 44, 32] ++ D ++ [41])
  ∨ (v.k = 6 ∧ ∃ R, PureOK Tryz.prog 55 [.r (sliceR 1 (txN v) ((txL v).flatMap txC))] (.v (str R)) ∧ T = [123] ++ R ++ [125])
set_option maxRecDepth 20000 in
set_option maxHeartbeats 2000000 in
theorem con_rPrintL (v : Vl) (T : List UInt8) (hT : T.length ≤ 1000000000000)
    (l1 : v.a.length ≤ 100000) (l2 : v.po.length ≤ 100000) (l3 : v.fa.length ≤ 100000) (l4 : v.ri.length ≤ 100000) (l5 : v.li.length ≤ 100000)
    (c1 : ∀ x ∈ v.a, PureOK Tryz.prog 51 [.agg (q4A (rq x))] (.v (str (qS (rqv x)))))
    (c2 : ∀ x ∈ v.po, PureOK Tryz.prog 52 [.agg (z2A (rz x))] (.v (str (zS (rzv x)))))
    (c3 : ∀ x ∈ v.fa, PureOK Tryz.prog 53 [.v (.int .u64 (x : Int))] (.v (str (decS x))))
    (c4 : ∀ x ∈ v.ri, PureOK Tryz.prog 53 [.v (.int .u64 (x : Int))] (.v (str (decS x))))
    (c5 : ∀ x ∈ v.li, PureOK Tryz.prog 16 [.agg (vlA x)] (.v (str (tS x))))
    (hE : TxEnd v T) : PureOK Tryz.prog 16 [.agg (vlA v)] (.v (str T)) := by
  have m1 : (v.a.map rq).length = v.a.length := List.length_map _
  have m2 : (v.po.map rz).length = v.po.length := List.length_map _
  have n1 : (txA v).length = v.a.length := List.length_map _
  have n2 : (txP v).length = v.po.length := List.length_map _
  have n3 : (v.fa.map decS).length = v.fa.length := List.length_map _
  have n4 : (v.ri.map decS).length = v.ri.length := List.length_map _
  have n5 : (v.li.map tS).length = v.li.length := List.length_map _
  rw [vlA_B]
  refine PureOK.fnF Tryz.func16 Tryz.results16 Tryz.ntmps16 rfl rfl rfl (by simp [AV.ids, AV0.ids, Atom.ids]) rfl (fun w0 T B E0 hB => ?_)
  refine SX.goJ ?_
  refine W.loop (fun k => k ≤ v.a.length) (fun k => [(1, .ptr 1 0), (3, .own 100), (4, .v (.int .i64 (k : Int)))]) (fun k => [(1, .box 39 (vlB v)), (100, .row 9 1 k (([] ++ (txA v).take k).flatMap txC))]) (fun k => v.a.length - k) 0 (Nat.zero_le _) (fun k hk => ?_)
    (by
      refine SX.St.le_to [(100, none)] (by intro b h; cases h) ?_ ?_ rfl
      · repeat (first | exact trivial | refine ⟨⟨_, rfl, SX.AVto.same rfl⟩, ?_⟩ | refine ⟨⟨_, rfl, SX.AVto.nil rfl⟩, ?_⟩ | refine ⟨⟨_, rfl, SX.AVto.own rfl⟩, ?_⟩)
      · exact ⟨SX.EntTo.same rfl rfl, SX.EntTo.nilRow rfl, trivial⟩)
  by_cases h : k < v.a.length
  · obtain ⟨x, hx⟩ : ∃ x, v.a[k]? = some x := ⟨_, List.getElem?_eq_getElem h⟩
    have h' : k < (v.a.map rq).length := by omega
    have hx' : (v.a.map rq)[k]? = some (rq x) := by rw [List.getElem?_map, hx]; rfl
    have hc := c1 x (List.mem_of_getElem? hx)
    have e2 := tx_step (X := []) (l := txA v) (k := k) (by show (v.a.map _)[k]? = _; rw [List.getElem?_map, hx]; rfl)
    refine SX.goJ ?_
    refine W.next (k + 1) h (by omega) (by
      refine SX.St.le_to [(100, some 26)] (by intro b h; cases h) ?_ ?_ rfl
      · repeat (first | exact trivial | refine ⟨⟨_, rfl, SX.AVto.same rfl⟩, ?_⟩ | refine ⟨⟨_, rfl, SX.AVto.own rfl⟩, ?_⟩)
      · exact ⟨SX.EntTo.same rfl rfl, SX.EntTo.row rfl rfl rfl e2, trivial⟩)
  obtain rfl : k = v.a.length := by omega
  have h' : ¬ v.a.length < (v.a.map rq).length := by omega
  have e3 : ((([] : List (List UInt8)) ++ (txA v).take v.a.length).flatMap txC) = (txA v).flatMap txC := by rw [List.nil_append, List.take_of_length_le (by omega)]
  rw [e3]
  refine SX.goJ ?_
  refine W.loop (fun k => k ≤ v.po.length) (fun k => [(1, .ptr 1 0), (3, .own 100), (5, .v (.int .i64 (k : Int)))]) (fun k => [(1, .box 39 (vlB v)), (100, .row 9 1 (v.a.length + k) ((txA v ++ (txP v).take k).flatMap txC))]) (fun k => v.po.length - k) 0 (Nat.zero_le _) (fun k hk => ?_)
    (by
      refine SX.St.le_to [(100, some 100)] (by intro b h; cases h) ?_ ?_ rfl
      · repeat (first | exact trivial | refine ⟨⟨_, rfl, SX.AVto.same rfl⟩, ?_⟩ | refine ⟨⟨_, rfl, SX.AVto.nil rfl⟩, ?_⟩ | refine ⟨⟨_, rfl, SX.AVto.own rfl⟩, ?_⟩)
      · exact ⟨SX.EntTo.same rfl rfl, SX.EntTo.row rfl rfl rfl (by rw [List.take_zero, List.append_nil]), trivial⟩)
  by_cases h : k < v.po.length
  · obtain ⟨x, hx⟩ : ∃ x, v.po[k]? = some x := ⟨_, List.getElem?_eq_getElem h⟩
    have h' : k < (v.po.map rz).length := by omega
    have hx' : (v.po.map rz)[k]? = some (rz x) := by rw [List.getElem?_map, hx]; rfl
    have hc := c2 x (List.mem_of_getElem? hx)
    have e2 := tx_step (X := txA v) (l := txP v) (k := k) (by show (v.po.map _)[k]? = _; rw [List.getElem?_map, hx]; rfl)
    refine SX.goJ ?_
    refine W.next (k + 1) h (by omega) (by
      refine SX.St.le_to [(100, some 42)] (by intro b h; cases h) ?_ ?_ rfl
      · repeat (first | exact trivial | refine ⟨⟨_, rfl, SX.AVto.same rfl⟩, ?_⟩ | refine ⟨⟨_, rfl, SX.AVto.own rfl⟩, ?_⟩)
      · exact ⟨SX.EntTo.same rfl rfl, SX.EntTo.row rfl rfl rfl e2, trivial⟩)
  obtain rfl : k = v.po.length := by omega
  have h' : ¬ v.po.length < (v.po.map rz).length := by omega
  have e3 : ((txA v ++ (txP v).take v.po.length).flatMap txC) = ((txA v ++ txP v).flatMap txC) := by rw [List.take_of_length_le (by omega)]
  rw [e3]
  refine SX.goJ ?_
  refine W.loop (fun k => k ≤ v.fa.length) (fun k => [(1, .ptr 1 0), (3, .own 100), (6, .v (.int .i64 (k : Int)))]) (fun k => [(1, .box 39 (vlB v)), (100, .row 9 1 (v.a.length + v.po.length + k) (((txA v ++ txP v) ++ (v.fa.map decS).take k).flatMap txC))]) (fun k => v.fa.length - k) 0 (Nat.zero_le _) (fun k hk => ?_)
    (by
      refine SX.St.le_to [(100, some 100)] (by intro b h; cases h) ?_ ?_ rfl
      · repeat (first | exact trivial | refine ⟨⟨_, rfl, SX.AVto.same rfl⟩, ?_⟩ | refine ⟨⟨_, rfl, SX.AVto.nil rfl⟩, ?_⟩ | refine ⟨⟨_, rfl, SX.AVto.own rfl⟩, ?_⟩)
      · exact ⟨SX.EntTo.same rfl rfl, SX.EntTo.row rfl rfl rfl (by rw [List.take_zero, List.append_nil]), trivial⟩)
  by_cases h : k < v.fa.length
  · obtain ⟨x, hx⟩ : ∃ x, v.fa[k]? = some x := ⟨_, List.getElem?_eq_getElem h⟩
    have hc := c3 x (List.mem_of_getElem? hx)
    have e2 := tx_step (X := (txA v ++ txP v)) (l := v.fa.map decS) (k := k) (by show (v.fa.map _)[k]? = _; rw [List.getElem?_map, hx]; rfl)
    refine SX.goJ ?_
    refine W.next (k + 1) h (by omega) (by
      refine SX.St.le_to [(100, some 60)] (by intro b h; cases h) ?_ ?_ rfl
      · repeat (first | exact trivial | refine ⟨⟨_, rfl, SX.AVto.same rfl⟩, ?_⟩ | refine ⟨⟨_, rfl, SX.AVto.own rfl⟩, ?_⟩)
      · exact ⟨SX.EntTo.same rfl rfl, SX.EntTo.row rfl rfl rfl e2, trivial⟩)
  obtain rfl : k = v.fa.length := by omega
  have e3 : (((txA v ++ txP v) ++ (v.fa.map decS).take v.fa.length).flatMap txC) = (((txA v ++ txP v) ++ v.fa.map decS).flatMap txC) := by rw [List.take_of_length_le (by omega)]
  rw [e3]
  refine SX.goJ ?_
  refine W.loop (fun k => k ≤ v.ri.length) (fun k => [(1, .ptr 1 0), (3, .own 100), (7, .v (.int .i64 (k : Int)))]) (fun k => [(1, .box 39 (vlB v)), (100, .row 9 1 (v.a.length + v.po.length + v.fa.length + k) (((txA v ++ txP v ++ v.fa.map decS) ++ (v.ri.map decS).take k).flatMap txC))]) (fun k => v.ri.length - k) 0 (Nat.zero_le _) (fun k hk => ?_)
    (by
      refine SX.St.le_to [(100, some 100)] (by intro b h; cases h) ?_ ?_ rfl
      · repeat (first | exact trivial | refine ⟨⟨_, rfl, SX.AVto.same rfl⟩, ?_⟩ | refine ⟨⟨_, rfl, SX.AVto.nil rfl⟩, ?_⟩ | refine ⟨⟨_, rfl, SX.AVto.own rfl⟩, ?_⟩)
      · exact ⟨SX.EntTo.same rfl rfl, SX.EntTo.row rfl rfl rfl (by rw [List.take_zero, List.append_nil]), trivial⟩)
  by_cases h : k < v.ri.length
  · obtain ⟨x, hx⟩ : ∃ x, v.ri[k]? = some x := ⟨_, List.getElem?_eq_getElem h⟩
    have hc := c4 x (List.mem_of_getElem? hx)
    have e2 := tx_step (X := (txA v ++ txP v ++ v.fa.map decS)) (l := v.ri.map decS) (k := k) (by show (v.ri.map _)[k]? = _; rw [List.getElem?_map, hx]; rfl)
    refine SX.goJ ?_
    refine W.next (k + 1) h (by omega) (by
      refine SX.St.le_to [(100, some 76)] (by intro b h; cases h) ?_ ?_ rfl
      · repeat (first | exact trivial | refine ⟨⟨_, rfl, SX.AVto.same rfl⟩, ?_⟩ | refine ⟨⟨_, rfl, SX.AVto.own rfl⟩, ?_⟩)
      · exact ⟨SX.EntTo.same rfl rfl, SX.EntTo.row rfl rfl rfl e2, trivial⟩)
  obtain rfl : k = v.ri.length := by omega
  have e3 : (((txA v ++ txP v ++ v.fa.map decS) ++ (v.ri.map decS).take v.ri.length).flatMap txC) = (((txA v ++ txP v ++ v.fa.map decS) ++ v.ri.map decS).flatMap txC) := by rw [List.take_of_length_le (by omega)]
  rw [e3]
  refine SX.goJ ?_
  refine W.loop (fun k => k ≤ v.li.length) (fun k => [(1, .ptr 1 0), (3, .own 100), (8, .v (.int .i64 (k : Int)))]) (fun k => [(1, .box 39 (vlB v)), (100, .row 9 1 (v.a.length + v.po.length + v.fa.length + v.ri.length + k) (((txA v ++ txP v ++ v.fa.map decS ++ v.ri.map decS) ++ (v.li.map tS).take k).flatMap txC))]) (fun k => v.li.length - k) 0 (Nat.zero_le _) (fun k hk => ?_)
    (by
      refine SX.St.le_to [(100, some 100)] (by intro b h; cases h) ?_ ?_ rfl
      · repeat (first | exact trivial | refine ⟨⟨_, rfl, SX.AVto.same rfl⟩, ?_⟩ | refine ⟨⟨_, rfl, SX.AVto.nil rfl⟩, ?_⟩ | refine ⟨⟨_, rfl, SX.AVto.own rfl⟩, ?_⟩)
      · exact ⟨SX.EntTo.same rfl rfl, SX.EntTo.row rfl rfl rfl (by rw [List.take_zero, List.append_nil]), trivial⟩)
  by_cases h : k < v.li.length
  · obtain ⟨x, hx⟩ : ∃ x, v.li[k]? = some x := ⟨_, List.getElem?_eq_getElem h⟩
    have hc := c5 x (List.mem_of_getElem? hx)
    have e2 := tx_step (X := (txA v ++ txP v ++ v.fa.map decS ++ v.ri.map decS)) (l := v.li.map tS) (k := k) (by show (v.li.map _)[k]? = _; rw [List.getElem?_map, hx]; rfl)
    refine SX.goJ ?_
    refine W.next (k + 1) h (by omega) (by
      refine SX.St.le_to [(100, some 92)] (by intro b h; cases h) ?_ ?_ rfl
      · repeat (first | exact trivial | refine ⟨⟨_, rfl, SX.AVto.same rfl⟩, ?_⟩ | refine ⟨⟨_, rfl, SX.AVto.own rfl⟩, ?_⟩)
      · exact ⟨SX.EntTo.same rfl rfl, SX.EntTo.row rfl rfl rfl e2, trivial⟩)
  obtain rfl : k = v.li.length := by omega
  have e3 : (((txA v ++ txP v ++ v.fa.map decS ++ v.ri.map decS) ++ (v.li.map tS).take v.li.length).flatMap txC) = (((txA v ++ txP v ++ v.fa.map decS ++ v.ri.map decS) ++ v.li.map tS).flatMap txC) := by rw [List.take_of_length_le (by omega)]
  rw [e3]
  clear c1 c2 c3 c4 c5
  change WP _ _ _ (mkSt [(1, .ptr 1 0), (3, .own 100), (8, .v (.int .i64 (v.li.length : Int)))] [(1, .box 39 (vlB v)), (100, .row 9 1 (txN v) ((txL v).flatMap txC))]) _
  refine SX.WP.freeze 100 hB rfl ?_
  rcases hE with ⟨hk, hc⟩ | ⟨hk, hc⟩ | ⟨hk, R, hc, rfl⟩ | ⟨hk, R, D, hc, hd, rfl⟩ | ⟨hk, R, D, hc, hd, rfl⟩ | ⟨hk, R, hc, rfl⟩
  · refine SX.goJ ?_
    exact retS rfl
  · refine SX.goJ ?_
    exact retS rfl
  · simp only [lenA, List.length_cons, List.length_nil] at hT
    refine SX.goJ ?_
    exact retS rfl
  · simp only [lenA, List.length_cons, List.length_nil] at hT
    refine SX.goJ ?_
    exact retS rfl
  · simp only [lenA, List.length_cons, List.length_nil] at hT
    refine SX.goJ ?_
    exact retS rfl
  · simp only [lenA, List.length_cons, List.length_nil] at hT
    refine SX.goJ ?_
    exact retS rfl
end Go.Proofs.YtfhpmbenldgfnaaGreatDoor
set_option linter.unusedVariables false
set_option linter.unusedSimpArgs false
namespace Go.Proofs.YtfhpmbenldgfnaaGreatDoor
open Go.RowKit QM SX LA
attribute [local irreducible] IntKind.wrap Go1 Reg WP thenK inBlk retQ retF RetF RetOK ResOK CallOK OpOK Sat
attribute [local irreducible] qsub qmul qquo qcmp qadd qv redS mf PrP qOk zOk vP fp64 lz vF cq rqv plen pNorm pBoth pScale mulV vW
theorem con_fewT {u v : Vl} (hu : vW 3 u) (hv : vW 3 v) : PureOK Tryz.prog 12 [.agg (vlA u), .agg (vlA v)] (.v (.bool true)) := by
  have c1 := (con_Few29 3 u (by decide)).1 hu
  have c2 := (con_Few29 3 v (by decide)).1 hv
  refine PureOK.fnF Tryz.func12 Tryz.results12 Tryz.ntmps12 rfl rfl rfl (by simp [AV.ids, AV0.ids, Atom.ids]) rfl (fun w0 T B E0 hB => ?_)
  refine SX.goJ ?_
  exact retB rfl
theorem con_fewF {u v : Vl} (h : ¬ (vW 3 u ∧ vW 3 v)) : PureOK Tryz.prog 12 [.agg (vlA u), .agg (vlA v)] (.v (.bool false)) := by
  by_cases hu : vW 3 u
  · have c1 := (con_Few29 3 u (by decide)).1 hu
    have c2 := (con_Few29 3 v (by decide)).2 fun hv => h ⟨hu, hv⟩
    refine PureOK.fnF Tryz.func12 Tryz.results12 Tryz.ntmps12 rfl rfl rfl (by simp [AV.ids, AV0.ids, Atom.ids]) rfl (fun w0 T B E0 hB => ?_)
    refine SX.goJ ?_
    exact retB rfl
  · have c1 := (con_Few29 3 u (by decide)).2 hu
    refine PureOK.fnF Tryz.func12 Tryz.results12 Tryz.ntmps12 rfl rfl rfl (by simp [AV.ids, AV0.ids, Atom.ids]) rfl (fun w0 T B E0 hB => ?_)
    refine SX.goJ ?_
    exact retB rfl
section
variable (n : Int) {k : Nat} (hn : n.tmod 7 = (k : Int)) (hk : k ≤ 6) {v : Vl}
include hn hk
end
end Go.Proofs.YtfhpmbenldgfnaaGreatDoor

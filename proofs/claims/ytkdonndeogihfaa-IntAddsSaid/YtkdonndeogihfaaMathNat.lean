/- Plain facts on natural numbers as lists of words (base B), the least first. No program in sight. -/
set_option linter.unusedVariables false
set_option linter.unusedSimpArgs false
namespace QM
/-- A list of digits' number, the least first, by a base. -/
def nval (B : Nat) : List Nat → Nat
  | [] => 0
  | x :: l => x + B * nval B l
/-- All are digits of a base. -/
def Sm (B : Nat) (l : List Nat) : Prop := ∀ x ∈ l, x < B
section
variable {B : Nat}
theorem Sm.nil : Sm B [] := by intro x h; cases h
theorem Sm.cons {x : Nat} {l : List Nat} (hx : x < B) (h : Sm B l) : Sm B (x :: l) := by
  intro y hy; cases hy with
  | head => exact hx
  | tail _ h' => exact h y h'
theorem Sm.tail {x : Nat} {l : List Nat} (h : Sm B (x :: l)) : Sm B l := fun y hy => h y (List.mem_cons_of_mem _ hy)
theorem Sm.head {x : Nat} {l : List Nat} (h : Sm B (x :: l)) : x < B := h x (List.mem_cons_self)
theorem Sm.take {l : List Nat} (h : Sm B l) (n : Nat) : Sm B (l.take n) := fun x hx => h x (List.mem_of_mem_take hx)
theorem Sm.drop {l : List Nat} (h : Sm B l) (n : Nat) : Sm B (l.drop n) := fun x hx => h x (List.mem_of_mem_drop hx)
theorem Sm.append {a b : List Nat} (ha : Sm B a) (hb : Sm B b) : Sm B (a ++ b) := by
  intro x hx; rcases List.mem_append.1 hx with h | h
  · exact ha x h
  · exact hb x h
theorem Sm.get {l : List Nat} (h : Sm B l) {i : Nat} (hi : i < l.length) : l[i] < B := h _ (List.getElem_mem hi)
theorem Sm.getD (hB : 0 < B) {l : List Nat} (h : Sm B l) (i : Nat) : l.getD i 0 < B := by
  rw [List.getD_eq_getElem?_getD]
  cases hh : l[i]? with
  | none => simpa using hB
  | some x => simpa using h x (List.mem_of_getElem? hh)
theorem Sm.set {l : List Nat} (h : Sm B l) (i : Nat) {x : Nat} (hx : x < B) : Sm B (l.set i x) := by
  intro y hy
  rcases List.mem_or_eq_of_mem_set hy with h' | h'
  · exact h y h'
  · exact h' ▸ hx
theorem Sm.replicate (hB : 0 < B) (n : Nat) : Sm B (List.replicate n 0) := by
  intro x hx; rw [List.eq_of_mem_replicate hx]; exact hB
theorem nval_append (a b : List Nat) : nval B (a ++ b) = nval B a + B ^ a.length * nval B b := by
  induction a with
  | nil => simp [nval]
  | cons x l ih => simp only [List.cons_append, nval, List.length_cons, Nat.pow_succ, ih]; grind
theorem nval_lt {l : List Nat} (h : Sm B l) : nval B l < B ^ l.length := by
  induction l with
  | nil => simp [nval]
  | cons x l ih =>
    have h1 := ih h.tail
    have h2 := h.head
    simp only [nval, List.length_cons, Nat.pow_succ]
    have : B * (nval B l + 1) ≤ B * B ^ l.length := Nat.mul_le_mul_left _ h1
    grind
theorem nval_split (l : List Nat) (i : Nat) : nval B l = nval B (l.take i) + B ^ i * nval B (l.drop i) := by
  rcases Nat.lt_or_ge i l.length with h | h
  · conv => lhs; rw [← List.take_append_drop i l, nval_append]
    rw [List.length_take, Nat.min_eq_left (by omega)]
  · rw [List.take_of_length_le h, List.drop_eq_nil_of_le h]; simp [nval]
theorem nval_take_succ (l : List Nat) (i : Nat) : nval B (l.take (i + 1)) = nval B (l.take i) + B ^ i * l.getD i 0 := by
  rcases Nat.lt_or_ge i l.length with h | h
  · rw [List.take_succ_eq_append_getElem h, nval_append, List.length_take, Nat.min_eq_left (by omega)]
    simp [nval, List.getD_eq_getElem?_getD, h]
  · rw [List.take_of_length_le (by omega), List.take_of_length_le h]
    simp [List.getD_eq_getElem?_getD, h]
theorem nval_zeros {l : List Nat} (h : ∀ x ∈ l, x = 0) : nval B l = 0 := by
  induction l with
  | nil => rfl
  | cons x l ih => simp [nval, h x (by simp), ih (fun y hy => h y (by simp [hy]))]
theorem nval_replicate (n : Nat) : nval B (List.replicate n 0) = 0 := nval_zeros fun _ hx => List.eq_of_mem_replicate hx
theorem nval_take_of_zeros {l : List Nat} {n : Nat} (h : ∀ i, n ≤ i → l.getD i 0 = 0) : nval B (l.take n) = nval B l := by
  rw [nval_split l n, nval_zeros (l := l.drop n)]
  · simp
  · intro x hx
    obtain ⟨i, hi, rfl⟩ := List.getElem_of_mem hx
    have := h (n + i) (by omega)
    rw [List.length_drop] at hi
    simpa [List.getD_eq_getElem?_getD, List.getElem?_eq_getElem (show n + i < l.length by omega)] using this
/-- How long a list is without its last noughts. -/
def tlen : List Nat → Nat
  | [] => 0
  | x :: l => if tlen l = 0 ∧ x = 0 then 0 else tlen l + 1
theorem tlen_le (l : List Nat) : tlen l ≤ l.length := by
  induction l with
  | nil => simp [tlen]
  | cons x l ih => simp only [tlen, List.length_cons]; split <;> omega
theorem tlen_zero {l : List Nat} {i : Nat} (h : tlen l ≤ i) : l.getD i 0 = 0 := by
  induction l generalizing i with
  | nil => simp
  | cons x l ih =>
    simp only [tlen] at h
    cases i with
    | zero => split at h
              · rename_i h1; simp [h1.2]
              · omega
    | succ i =>
      simp only [List.getD_cons_succ]
      exact ih (by split at h <;> omega)
theorem tlen_last {l : List Nat} (h : tlen l ≠ 0) : l.getD (tlen l - 1) 0 ≠ 0 := by
  induction l with
  | nil => simp [tlen] at h
  | cons x l ih =>
    simp only [tlen] at h ⊢
    split
    · simp_all
    · rename_i h1
      by_cases h2 : tlen l = 0
      · simp only [h2, Nat.zero_add, Nat.sub_self, List.getD_cons_zero]; exact fun e => h1 ⟨h2, e⟩
      · have := ih h2
        have e : tlen l + 1 - 1 = (tlen l - 1) + 1 := by omega
        rw [e, List.getD_cons_succ]; exact this
theorem tlen_uniq {l : List Nat} {n : Nat} (h1 : ∀ i, n ≤ i → l.getD i 0 = 0) (h2 : n = 0 ∨ l.getD (n - 1) 0 ≠ 0) : n = tlen l := by
  rcases Nat.lt_trichotomy n (tlen l) with h | h | h
  · exact absurd (h1 (tlen l - 1) (by omega)) (tlen_last (by omega))
  · exact h
  · rcases h2 with h2 | h2
    · omega
    · exact absurd (tlen_zero (l := l) (i := n - 1) (by omega)) h2
theorem nval_tlen (l : List Nat) : nval B (l.take (tlen l)) = nval B l := nval_take_of_zeros fun _ h => tlen_zero h
/-- Without last noughts. -/
def Nrm (l : List Nat) : Prop := l = [] ∨ l.getD (l.length - 1) 0 ≠ 0
theorem Nrm.nil : Nrm [] := .inl rfl
theorem nrm_tlen (l : List Nat) : Nrm (l.take (tlen l)) := by
  by_cases h : tlen l = 0
  · left; simp [h]
  · right
    have := tlen_last h
    have hl := tlen_le l
    rw [List.length_take, Nat.min_eq_left hl]
    simpa [List.getD_eq_getElem?_getD, List.getElem?_take, show tlen l - 1 < tlen l by omega] using this
theorem Nrm.tlen {l : List Nat} (h : Nrm l) : tlen l = l.length := by
  refine (tlen_uniq (fun i hi => ?_) ?_).symm
  · simp [List.getD_eq_getElem?_getD, hi]
  · rcases h with rfl | h
    · left; rfl
    · right; exact h
theorem Nrm.cons {x : Nat} {l : List Nat} (h : Nrm (x :: l)) : Nrm l := by
  cases l with
  | nil => exact .nil
  | cons y l =>
    right
    rcases h with h | h
    · cases h
    · simpa using h
theorem Nrm.pos {l : List Nat} (h : Nrm l) (h0 : l ≠ []) : B ^ (l.length - 1) ≤ nval B l := by
  induction l with
  | nil => exact absurd rfl h0
  | cons x l ih =>
    cases l with
    | nil =>
      rcases h with h | h
      · cases h
      · simp at h; simp [nval]; omega
    | cons y l =>
      have := ih h.cons (by simp)
      simp only [List.length_cons, Nat.add_sub_cancel] at this ⊢
      rw [nval, Nat.pow_succ, Nat.mul_comm]
      have := Nat.mul_le_mul_left B this
      omega
theorem Nrm.zero (hB : 0 < B) {l : List Nat} (h : Nrm l) (h0 : nval B l = 0) : l = [] := by
  rcases Classical.em (l = []) with h1 | h1
  · exact h1
  · have := h.pos (B := B) h1; have : 0 < B ^ (l.length - 1) := Nat.pow_pos hB; omega
theorem Nrm.len_le (hB : 0 < B) {l : List Nat} (h : Nrm l) {k : Nat} (hk : nval B l < B ^ k) : l.length ≤ k := by
  rcases Classical.em (l = []) with h1 | h1
  · simp [h1]
  · have h2 := h.pos (B := B) h1
    rcases Nat.lt_or_ge k l.length with h3 | h3
    · have : B ^ k ≤ B ^ (l.length - 1) := Nat.pow_le_pow_right hB (by omega)
      omega
    · exact h3
theorem nval_inj (hB : 0 < B) {a b : List Nat} (ha : Sm B a) (hb : Sm B b) (na : Nrm a) (nb : Nrm b) (h : nval B a = nval B b) : a = b := by
  induction a generalizing b with
  | nil => exact (nb.zero hB (by rw [← h]; rfl)).symm
  | cons x a ih =>
    cases b with
    | nil => exact na.zero hB h
    | cons y b =>
      simp only [nval] at h
      have hx := ha.head
      have hy := hb.head
      have e1 : x = y := by
        have := congrArg (· % B) h
        simpa [Nat.add_mul_mod_self_left, Nat.mod_eq_of_lt hx, Nat.mod_eq_of_lt hy] using this
      subst e1
      have e2 : nval B a = nval B b := Nat.eq_of_mul_eq_mul_left (by omega) (by omega)
      rw [ih ha.tail hb.tail na.cons nb.cons e2]
theorem nval_eq_zero (hB : 0 < B) {l : List Nat} : nval B l = 0 ↔ tlen l = 0 := by
  constructor
  · intro h
    have h1 := nrm_tlen l
    have h2 := nval_tlen (B := B) l
    have := h1.zero hB (by omega)
    have h3 := congrArg List.length this
    rw [List.length_take, Nat.min_eq_left (tlen_le l)] at h3
    simpa using h3
  · intro h
    rw [← nval_tlen, h]; rfl
/-- Two lists of one length: where the highest words are the same, and then one is less. -/
theorem nval_lt_of {a b : List Nat} (ha : Sm B a) (_hb : Sm B b) {i : Nat} (hs : a.drop (i + 1) = b.drop (i + 1)) (hia : i < a.length) (h : a.getD i 0 < b.getD i 0) : nval B a < nval B b := by
  have ea := nval_split (B := B) a (i + 1)
  have eb := nval_split (B := B) b (i + 1)
  have ta := nval_take_succ (B := B) a i
  have tb := nval_take_succ (B := B) b i
  have h1 := nval_lt (ha.take i)
  rw [List.length_take, Nat.min_eq_left (by omega)] at h1
  have h3 : B ^ i * (a.getD i 0 + 1) ≤ B ^ i * b.getD i 0 := Nat.mul_le_mul_left _ h
  rw [hs] at ea
  rw [Nat.mul_add, Nat.mul_one] at h3
  omega
theorem nval_len_lt (hB : 0 < B) {a b : List Nat} (ha : Sm B a) (nb : Nrm b) (h : a.length < b.length) : nval B a < nval B b := by
  have h1 := nval_lt ha
  have h2 := nb.pos (B := B) (by intro e; simp [e] at h)
  have h3 : B ^ a.length ≤ B ^ (b.length - 1) := Nat.pow_le_pow_right hB (by omega)
  omega
end
/-- A list's digit at a place. -/
def gd (l : List Nat) (i : Nat) : Nat := l.getD i 0
theorem nval_take_gd (B : Nat) (l : List Nat) (k : Nat) : nval B (l.take (k + 1)) = nval B (l.take k) + B ^ k * gd l k := nval_take_succ l k
theorem nval_snoc (B : Nat) (r : List Nat) (x : Nat) : nval B (r ++ [x]) = nval B r + B ^ r.length * x := by
  rw [nval_append]; simp [nval]
theorem add_step {b p r c x y u v g h : Nat} (h4 : r + p * c = u + v) (e3 : x + b * y = g + h + c) : r + p * x + p * b * y = u + p * g + (v + p * h) := by grind
theorem sub_step {b p r c x y u v g h : Nat} (h4 : r + v = u + p * c) (e3 : x + h + c = g + b * y) : r + p * x + (v + p * h) = u + p * g + p * b * y := by grind
/-- A sum's first digits. -/
def AddInvB (B : Nat) (la lb : List Nat) (k : Nat) (r : List Nat) (c : Nat) : Prop :=
  r.length = k ∧ Sm B r ∧ c ≤ 1 ∧ nval B r + B ^ k * c = nval B (la.take k) + nval B (lb.take k)
theorem AddInvB.start (B : Nat) (la lb : List Nat) : AddInvB B la lb 0 [] 0 := ⟨rfl, Sm.nil, by omega, by simp [nval]⟩
theorem AddInvB.step {B : Nat} {la lb : List Nat} {k c x y : Nat} {r : List Nat} (h : AddInvB B la lb k r c) (hx : x < B) (hy : y ≤ 1) (e : x + B * y = gd la k + gd lb k + c) :
    AddInvB B la lb (k + 1) (r ++ [x]) y := by
  obtain ⟨h1, h2, h3, h4⟩ := h
  refine ⟨by simp [h1], h2.append (Sm.nil.cons hx), hy, ?_⟩
  rw [nval_snoc, h1, nval_take_gd, nval_take_gd, Nat.pow_succ]
  exact add_step h4 e
theorem AddInvB.done {B : Nat} {la lb : List Nat} {n c : Nat} {r : List Nat} (h : AddInvB B la lb n r c) (hB : 1 < B) (ha : nval B (la.take n) = nval B la) (hb : nval B (lb.take n) = nval B lb) :
    Sm B (r ++ [c]) ∧ nval B (r ++ [c]) = nval B la + nval B lb := by
  obtain ⟨h1, h2, h3, h4⟩ := h
  refine ⟨h2.append (Sm.nil.cons (by omega)), ?_⟩
  rw [nval_snoc, h1]
  omega
/-- A difference's first digits. -/
def SubInvB (B : Nat) (la lb : List Nat) (k : Nat) (r : List Nat) (c : Nat) : Prop :=
  r.length = k ∧ Sm B r ∧ c ≤ 1 ∧ nval B r + nval B (lb.take k) = nval B (la.take k) + B ^ k * c
theorem SubInvB.start (B : Nat) (la lb : List Nat) : SubInvB B la lb 0 [] 0 := ⟨rfl, Sm.nil, by omega, by simp [nval]⟩
theorem SubInvB.step {B : Nat} {la lb : List Nat} {k c x y : Nat} {r : List Nat} (h : SubInvB B la lb k r c) (hx : x < B) (hy : y ≤ 1) (e : x + gd lb k + c = gd la k + B * y) :
    SubInvB B la lb (k + 1) (r ++ [x]) y := by
  obtain ⟨h1, h2, h3, h4⟩ := h
  refine ⟨by simp [h1], h2.append (Sm.nil.cons hx), hy, ?_⟩
  rw [nval_snoc, h1, nval_take_gd, nval_take_gd, Nat.pow_succ]
  exact sub_step h4 e
theorem SubInvB.done {B : Nat} {la lb : List Nat} {n c : Nat} {r : List Nat} (h : SubInvB B la lb n r c) (ha : nval B (la.take n) = nval B la) (hb : nval B (lb.take n) = nval B lb) (hle : nval B lb ≤ nval B la) :
    nval B r = nval B la - nval B lb := by
  obtain ⟨h1, h2, h3, h4⟩ := h
  have h5 := nval_lt h2
  rw [h1] at h5
  rw [ha, hb] at h4
  have : c = 0 ∨ c = 1 := by omega
  rcases this with rfl | rfl
  · omega
  · omega
/-- A sum of a number and a multiple: the first digits. -/
def MacInvB (B : Nat) (ol la : List Nat) (x k : Nat) (r : List Nat) (c : Nat) : Prop :=
  r.length = k ∧ Sm B r ∧ c < B ∧ nval B r + B ^ k * c = nval B (ol.take k) + x * nval B (la.take k)
theorem MacInvB.start {B : Nat} (hB : 0 < B) (ol la : List Nat) (x : Nat) : MacInvB B ol la x 0 [] 0 := ⟨rfl, Sm.nil, hB, by simp [nval]⟩
theorem mac_step {b p r c x y u v g h m : Nat} (h4 : r + p * c = u + m * v) (e3 : x + b * y = g + m * h + c) : r + p * x + p * b * y = u + p * g + m * (v + p * h) := by grind
theorem MacInvB.step {B : Nat} {ol la : List Nat} {m k c x y : Nat} {r : List Nat} (h : MacInvB B ol la m k r c) (hx : x < B) (hy : y < B) (e : x + B * y = gd ol k + m * gd la k + c) :
    MacInvB B ol la m (k + 1) (r ++ [x]) y := by
  obtain ⟨h1, h2, h3, h4⟩ := h
  refine ⟨by simp [h1], h2.append (Sm.nil.cons hx), hy, ?_⟩
  rw [nval_snoc, h1, nval_take_gd, nval_take_gd, Nat.pow_succ]
  exact mac_step h4 e
theorem gd_drop' (l : List Nat) (n i : Nat) : gd (l.drop n) i = gd l (n + i) := by
  simp [gd, List.getD_eq_getElem?_getD, List.getElem?_drop]
theorem gd_append_right {a b : List Nat} {i : Nat} (h : a.length ≤ i) : gd (a ++ b) i = gd b (i - a.length) := by
  simp [gd, List.getD_eq_getElem?_getD, List.getElem?_append_right h]
theorem gd_append_left {a b : List Nat} {i : Nat} (h : i < a.length) : gd (a ++ b) i = gd a i := by
  simp [gd, List.getD_eq_getElem?_getD, List.getElem?_append_left h]
/-- A list whose part from o on has been written anew up to there. -/
def patch (L : List Nat) (o : Nat) (r : List Nat) : List Nat := L.take o ++ (r ++ L.drop (o + r.length))
theorem patch_nil (L : List Nat) (o : Nat) : patch L o [] = L := by simp [patch]
theorem patch_length {L : List Nat} {o : Nat} {r : List Nat} (h : o + r.length ≤ L.length) : (patch L o r).length = L.length := by
  simp [patch]; omega
theorem patch_gd {L : List Nat} {o : Nat} {r : List Nat} (h : o ≤ L.length) {i : Nat} (hi : o + r.length ≤ i) : gd (patch L o r) i = gd L i := by
  have h1 : (L.take o).length = o := by rw [List.length_take]; omega
  unfold patch
  rw [gd_append_right (by omega), h1, gd_append_right (by omega), gd_drop']
  congr 1; omega
theorem patch_set {L : List Nat} {o x : Nat} {r : List Nat} (h : o + r.length < L.length) : (patch L o r).set (o + r.length) x = patch L o (r ++ [x]) := by
  have h1 : (L.take o).length = o := by rw [List.length_take]; omega
  unfold patch
  rw [List.set_append_right _ _ (by omega), h1, List.set_append_right _ _ (by omega)]
  have e : o + r.length - o - r.length = 0 := by omega
  rw [e, List.drop_eq_getElem_cons h, List.set_cons_zero, List.length_append, List.append_assoc]
  rfl
theorem patch_sm {B : Nat} {L : List Nat} {o : Nat} {r : List Nat} (h : Sm B L) (hr : Sm B r) : Sm B (patch L o r) := (h.take _).append (hr.append (h.drop _))
theorem patch_drop {L : List Nat} {o k : Nat} {r : List Nat} (h : o ≤ L.length) (hk : o + r.length ≤ k) : (patch L o r).drop k = L.drop k := by
  have h1 : (L.take o).length = o := by rw [List.length_take]; omega
  unfold patch
  rw [List.drop_append, List.drop_eq_nil_of_le (by omega), List.nil_append, h1, List.drop_append, List.drop_eq_nil_of_le (by omega), List.nil_append, List.drop_drop]
  congr 1; omega
theorem patch_val {B : Nat} {L : List Nat} {o : Nat} {r : List Nat} (h : o ≤ L.length) :
    nval B (patch L o r) = nval B (L.take o) + B ^ o * (nval B r + B ^ r.length * nval B (L.drop (o + r.length))) := by
  have h1 : (L.take o).length = o := by rw [List.length_take]; omega
  unfold patch
  rw [nval_append, nval_append, h1]
theorem mac_val {p q t d x v n1 b1 : Nat} : t + p * (n1 + x * v + q * b1 * d) = t + p * (n1 + q * 0 + q * b1 * d) + p * (x * v) := by grind
/-- What a row of a product makes of a number, whose digit behind the row was 0. -/
theorem mac_done {B : Nat} {L la : List Nat} {o x c n : Nat} {r : List Nat} (hB : 1 < B) (hL : Sm B L) (hn : la.length ≤ n) (ho : o + n < L.length) (h0 : gd L (o + n) = 0) (h : MacInvB B (L.drop o) la x n r c) :
    Sm B (patch L o (r ++ [c])) ∧ nval B (patch L o (r ++ [c])) = nval B L + B ^ o * (x * nval B la) := by
  obtain ⟨h1, h2, h3, h4⟩ := h
  refine ⟨patch_sm hL (h2.append (Sm.nil.cons h3)), ?_⟩
  rw [patch_val (by omega), nval_snoc, h1, List.length_append, h1]
  rw [List.take_of_length_le hn] at h4
  have e1 := nval_split (B := B) L o
  have e2 := nval_split (B := B) (L.drop o) (n + 1)
  rw [nval_take_gd, gd_drop', h0, List.drop_drop] at e2
  simp only [List.length_cons, List.length_nil, Nat.zero_add, Nat.mul_zero, Nat.add_zero, Nat.pow_succ] at *
  rw [h4, e1, e2]
  exact mac_val
/-- A word's product with one, and two words more, are two words. -/
theorem mac_bound {B x y g c : Nat} (hx : x < B) (hy : y < B) (hg : g < B) (hc : c < B) : g + x * y + c < B * B := by
  have h1 : x * y ≤ (B - 1) * (B - 1) := Nat.mul_le_mul (by omega) (by omega)
  obtain ⟨b, rfl⟩ : ∃ b, B = b + 1 := ⟨B - 1, by omega⟩
  simp only [Nat.add_sub_cancel] at h1
  grind
/-- A word shifted up, with what came over from below. -/
theorem shl_word {x c b : Nat} (hx : x < 2 ^ 64) (hc : c < 2 ^ b) (hb : b < 64) :
    (c ||| (x * 2 ^ b % 2 ^ 64)) < 2 ^ 64 ∧ x / 2 ^ (64 - b) < 2 ^ b ∧ (c ||| (x * 2 ^ b % 2 ^ 64)) + 2 ^ 64 * (x / 2 ^ (64 - b)) = c + 2 ^ b * x := by
  have e : (2 : Nat) ^ 64 = 2 ^ b * 2 ^ (64 - b) := by rw [← Nat.pow_add]; congr 1; omega
  have h1 : x * 2 ^ b % 2 ^ 64 = 2 ^ b * (x % 2 ^ (64 - b)) := by
    rw [e, Nat.mul_comm x, Nat.mul_mod_mul_left]
  have h2 : (c ||| (x * 2 ^ b % 2 ^ 64)) = 2 ^ b * (x % 2 ^ (64 - b)) + c := by
    rw [h1, Nat.or_comm, Nat.two_pow_add_eq_or_of_lt hc]
  have h3 := Nat.div_add_mod x (2 ^ (64 - b))
  have h4 : x / 2 ^ (64 - b) < 2 ^ b := by
    rw [Nat.div_lt_iff_lt_mul (Nat.two_pow_pos _)]; rw [← e]; exact hx
  refine ⟨Nat.or_lt_two_pow ?_ (Nat.mod_lt _ (Nat.two_pow_pos _)), h4, ?_⟩
  · exact Nat.lt_of_lt_of_le hc (Nat.pow_le_pow_right (by omega) (by omega))
  · rw [h2, e]
    generalize x / 2 ^ (64 - b) = d at *
    generalize x % 2 ^ (64 - b) = m at *
    generalize 2 ^ (64 - b) = p at *
    generalize 2 ^ b = t at *
    rw [← h3]; grind
/-- A word shifted down, with what comes over from above. -/
theorem shr_word {x y b : Nat} (hx : x < 2 ^ 64) (hb : 0 < b) (hb2 : b < 64) :
    ((x / 2 ^ b) ||| (y * 2 ^ (64 - b) % 2 ^ 64)) = x / 2 ^ b + 2 ^ (64 - b) * (y % 2 ^ b) := by
  have e : (2 : Nat) ^ 64 = 2 ^ (64 - b) * 2 ^ b := by rw [← Nat.pow_add]; congr 1; omega
  have h1 : y * 2 ^ (64 - b) % 2 ^ 64 = 2 ^ (64 - b) * (y % 2 ^ b) := by rw [e, Nat.mul_comm y, Nat.mul_mod_mul_left]
  have h2 : x / 2 ^ b < 2 ^ (64 - b) := by rw [Nat.div_lt_iff_lt_mul (Nat.two_pow_pos _), ← e]; exact hx
  rw [h1, Nat.or_comm, ← Nat.two_pow_add_eq_or_of_lt h2, Nat.add_comm]
theorem patch_append {L : List Nat} {o : Nat} {r s : List Nat} {i : Nat} (h : o ≤ L.length) (hi : r.length ≤ i) (hi2 : i < r.length + s.length) : gd (patch L o (r ++ s)) (o + i) = gd s (i - r.length) := by
  have h1 : (L.take o).length = o := by rw [List.length_take]; omega
  unfold patch
  rw [gd_append_right (by omega), h1, gd_append_left (by simp; omega), gd_append_right (by omega)]
  congr 1; omega
theorem patch_set_in {L : List Nat} {o x y : Nat} {r : List Nat} (h : o ≤ L.length) : (patch L o (r ++ [y])).set (o + r.length) x = patch L o (r ++ [x]) := by
  have h1 : (L.take o).length = o := by rw [List.length_take]; omega
  unfold patch
  rw [List.set_append_right _ _ (by omega), h1, List.set_append_left _ _ (by simp), List.set_append_right _ _ (by omega)]
  have e : o + r.length - o - r.length = 0 := by omega
  rw [e, List.set_cons_zero]; simp
theorem gd_replicate (n i : Nat) : gd (List.replicate n 0) i = 0 := by
  by_cases h : i < n <;> simp [gd, List.getD_eq_getElem?_getD, List.getElem?_replicate, h]
theorem patch_zeros {N o : Nat} (h : o < N) : patch (List.replicate N 0) o [0] = List.replicate N 0 := by
  unfold patch
  have e : N = o + (1 + (N - o - 1)) := by omega
  apply List.ext_getElem
  · simp; omega
  · intro i h1 h2
    simp only [List.getElem_append, List.length_take, List.length_replicate, List.getElem_replicate]
    split
    · simp
    · split <;> simp
theorem nval_zeros_drop {B n k : Nat} : nval B ((List.replicate n 0).drop k) = 0 := by
  apply nval_zeros; intro x hx; exact List.eq_of_mem_replicate (List.mem_of_mem_drop hx)
theorem nval_zeros_take {B n k : Nat} : nval B ((List.replicate n 0).take k) = 0 := by
  apply nval_zeros; intro x hx; exact List.eq_of_mem_replicate (List.mem_of_mem_take hx)
theorem patch_zeros_val {B N o : Nat} {r : List Nat} (h : o ≤ N) : nval B (patch (List.replicate N 0) o r) = B ^ o * nval B r := by
  rw [patch_val (by simpa using h), nval_zeros_drop, nval_zeros_take]; simp
theorem patch_pad {L : List Nat} {o : Nat} {r : List Nat} (h : o + r.length < L.length) (h0 : gd L (o + r.length) = 0) : patch L o (r ++ [0]) = patch L o r := by
  rw [← patch_set h]
  have hl : (patch L o r).length = L.length := patch_length (by omega)
  have hg : (patch L o r)[o + r.length]'(by omega) = 0 := by
    have := patch_gd (L := L) (o := o) (r := r) (by omega) (Nat.le_refl _)
    rw [h0] at this
    simpa [gd, List.getD_eq_getElem?_getD, List.getElem?_eq_getElem (show o + r.length < (patch L o r).length by omega)] using this
  conv => lhs; rw [← hg]
  exact List.set_getElem_self _
/-- A number shifted down: the first digits; p * t is the base. -/
def ShrInvB (B t : Nat) (la : List Nat) (k : Nat) (r : List Nat) : Prop :=
  r.length = k ∧ Sm B r ∧ t * nval B r + gd la 0 % t = nval B (la.take k) + B ^ k * (gd la k % t)
theorem ShrInvB.start (B t : Nat) (la : List Nat) : ShrInvB B t la 0 [] := ⟨rfl, Sm.nil, by simp [nval]⟩
theorem shr_step {t b r u p x g m h q : Nat} (h4 : t * r + u = h + p * m) (e : t * x + m = g + b * q) : t * (r + p * x) + u = h + p * g + p * b * q := by grind
theorem ShrInvB.step {B t p : Nat} {la : List Nat} {k : Nat} {r : List Nat} (h : ShrInvB B t la k r) (hB : t * p = B) (hx : gd la k / t + p * (gd la (k + 1) % t) < B) :
    ShrInvB B t la (k + 1) (r ++ [gd la k / t + p * (gd la (k + 1) % t)]) := by
  obtain ⟨h1, h2, h4⟩ := h
  refine ⟨by simp [h1], h2.append (Sm.nil.cons hx), ?_⟩
  rw [nval_snoc, h1, nval_take_gd, Nat.pow_succ]
  refine shr_step h4 ?_
  have := Nat.div_add_mod (gd la k) t
  rw [Nat.mul_add, ← Nat.mul_assoc, hB]
  omega
theorem ShrInvB.done {B t : Nat} {la : List Nat} {n : Nat} {r : List Nat} (h : ShrInvB B t la n r) (ht : 0 < t) (hn : la.length ≤ n) : nval B r = nval B la / t := by
  obtain ⟨h1, h2, h4⟩ := h
  rw [List.take_of_length_le hn, show gd la n = 0 from by simp [gd, hn]] at h4
  simp only [Nat.zero_mod, Nat.mul_zero, Nat.add_zero] at h4
  rw [← h4, Nat.mul_add_div ht, Nat.div_eq_of_lt (Nat.mod_lt _ ht), Nat.add_zero]
theorem shr_bound {x y b : Nat} (hx : x < 2 ^ 64) (hb2 : b < 64) : x / 2 ^ b + 2 ^ (64 - b) * (y % 2 ^ b) < 2 ^ 64 := by
  have e : (2 : Nat) ^ 64 = 2 ^ (64 - b) * 2 ^ b := by rw [← Nat.pow_add]; congr 1; omega
  have h2 : x / 2 ^ b < 2 ^ (64 - b) := by rw [Nat.div_lt_iff_lt_mul (Nat.two_pow_pos _), ← e]; exact hx
  have h3 : y % 2 ^ b + 1 ≤ 2 ^ b := Nat.mod_lt _ (Nat.two_pow_pos _)
  have h4 := Nat.mul_le_mul_left (2 ^ (64 - b)) h3
  rw [e]
  rw [Nat.mul_add] at h4
  omega
theorem nval_drop_div {B : Nat} (l : List Nat) (q : Nat) (hB : 0 < B) (h : Sm B l) : nval B (l.drop q) = nval B l / B ^ q := by
  have h1 := nval_split (B := B) l q
  have h2 : nval B (l.take q) < B ^ q := by
    have := nval_lt (h.take q)
    refine Nat.lt_of_lt_of_le this (Nat.pow_le_pow_right hB ?_)
    rw [List.length_take]; omega
  rw [h1, Nat.add_mul_div_left _ _ (Nat.pow_pos hB), Nat.div_eq_of_lt h2, Nat.zero_add]
theorem len_add {B : Nat} (hB : 2 ≤ B) {la lb r : List Nat} {k : Nat} (ha : Sm B la) (hb : Sm B lb) (hr : Nrm r) (h : nval B r = nval B la + nval B lb) (h1 : la.length ≤ k) (h2 : lb.length ≤ k) : r.length ≤ k + 1 := by
  refine hr.len_le (B := B) (by omega) ?_
  have a1 := nval_lt ha
  have a2 := nval_lt hb
  have a3 : B ^ la.length ≤ B ^ k := Nat.pow_le_pow_right (by omega) h1
  have a4 : B ^ lb.length ≤ B ^ k := Nat.pow_le_pow_right (by omega) h2
  have := Nat.mul_le_mul_left (B ^ k) hB
  rw [h, Nat.pow_succ]
  omega
theorem len_mul {B : Nat} (hB : 2 ≤ B) {la lb r : List Nat} (ha : Sm B la) (hb : Sm B lb) (hr : Nrm r) (h : nval B r = nval B la * nval B lb) : r.length ≤ la.length + lb.length := by
  refine hr.len_le (B := B) (by omega) ?_
  rw [h, Nat.pow_add]
  exact Nat.mul_lt_mul'' (nval_lt ha) (nval_lt hb)
theorem len_le_of {B : Nat} (hB : 2 ≤ B) {la r : List Nat} (ha : Sm B la) (hr : Nrm r) (h : nval B r ≤ nval B la) : r.length ≤ la.length :=
  hr.len_le (B := B) (by omega) (Nat.lt_of_le_of_lt h (nval_lt ha))
end QM

set_option linter.unusedVariables false
set_option linter.unusedSimpArgs false
namespace QM
def nval (B : Nat) : List Nat → Nat
  | [] => 0
  | x :: l => x + B * nval B l
def Sm (B : Nat) (l : List Nat) : Prop := ∀ x ∈ l, x < B
section
variable {B : Nat}
theorem Sm.nil : Sm B [] := by intro x h; cases h
theorem Sm.cons {x : Nat} {l : List Nat} (hx : x < B) (h : Sm B l) : Sm B (x :: l) := by
  intro y hy; cases hy with
  | head => exact hx
  | tail _ h' => exact h y h'
theorem Sm.tail {x : Nat} {l : List Nat} (h : Sm B (x :: l)) : Sm B l := fun y hy => h y (List.mem_cons_of_mem _ hy)
theorem Sm.head {x : Nat} {l : List Nat} (h : Sm B (x :: l)) : x < B := h x (List.mem_cons_self)
theorem Sm.take {l : List Nat} (h : Sm B l) (n : Nat) : Sm B (l.take n) := fun x hx => h x (List.mem_of_mem_take hx)
theorem Sm.drop {l : List Nat} (h : Sm B l) (n : Nat) : Sm B (l.drop n) := fun x hx => h x (List.mem_of_mem_drop hx)
theorem Sm.append {a b : List Nat} (ha : Sm B a) (hb : Sm B b) : Sm B (a ++ b) := by
  intro x hx; rcases List.mem_append.1 hx with h | h
  · exact ha x h
  · exact hb x h
theorem Sm.getD (hB : 0 < B) {l : List Nat} (h : Sm B l) (i : Nat) : l.getD i 0 < B := by
  rw [List.getD_eq_getElem?_getD]
  cases hh : l[i]? with
  | none => simpa using hB
  | some x => simpa using h x (List.mem_of_getElem? hh)
theorem Sm.set {l : List Nat} (h : Sm B l) (i : Nat) {x : Nat} (hx : x < B) : Sm B (l.set i x) := by
  intro y hy
  rcases List.mem_or_eq_of_mem_set hy with h' | h'
  · exact h y h'
  · exact h' ▸ hx
theorem Sm.replicate (hB : 0 < B) (n : Nat) : Sm B (List.replicate n 0) := by
  intro x hx; rw [List.eq_of_mem_replicate hx]; exact hB
theorem nval_append (a b : List Nat) : nval B (a ++ b) = nval B a + B ^ a.length * nval B b := by
  induction a with
  | nil => simp [nval]
  | cons x l ih => simp only [List.cons_append, nval, List.length_cons, Nat.pow_succ, ih]; grind
theorem nval_lt {l : List Nat} (h : Sm B l) : nval B l < B ^ l.length := by
  induction l with
  | nil => simp [nval]
  | cons x l ih =>
    have h1 := ih h.tail
    have h2 := h.head
    simp only [nval, List.length_cons, Nat.pow_succ]
    have : B * (nval B l + 1) ≤ B * B ^ l.length := Nat.mul_le_mul_left _ h1
    grind
theorem nval_split (l : List Nat) (i : Nat) : nval B l = nval B (l.take i) + B ^ i * nval B (l.drop i) := by
  rcases Nat.lt_or_ge i l.length with h | h
  · conv => lhs; rw [← List.take_append_drop i l, nval_append]
    rw [List.length_take, Nat.min_eq_left (by omega)]
  · rw [List.take_of_length_le h, List.drop_eq_nil_of_le h]; simp [nval]
theorem nval_take_succ (l : List Nat) (i : Nat) : nval B (l.take (i + 1)) = nval B (l.take i) + B ^ i * l.getD i 0 := by
  rcases Nat.lt_or_ge i l.length with h | h
  · rw [List.take_succ_eq_append_getElem h, nval_append, List.length_take, Nat.min_eq_left (by omega)]
    simp [nval, List.getD_eq_getElem?_getD, h]
  · rw [List.take_of_length_le (by omega), List.take_of_length_le h]
    simp [List.getD_eq_getElem?_getD, h]
theorem nval_zeros {l : List Nat} (h : ∀ x ∈ l, x = 0) : nval B l = 0 := by
  induction l with
  | nil => rfl
  | cons x l ih => simp [nval, h x (by simp), ih (fun y hy => h y (by simp [hy]))]
theorem nval_replicate (n : Nat) : nval B (List.replicate n 0) = 0 := nval_zeros fun _ hx => List.eq_of_mem_replicate hx
theorem nval_take_of_zeros {l : List Nat} {n : Nat} (h : ∀ i, n ≤ i → l.getD i 0 = 0) : nval B (l.take n) = nval B l := by
  rw [nval_split l n, nval_zeros (l := l.drop n)]
  · simp
  · intro x hx
    obtain ⟨i, hi, rfl⟩ := List.getElem_of_mem hx
    have := h (n + i) (by omega)
    rw [List.length_drop] at hi
    simpa [List.getD_eq_getElem?_getD, List.getElem?_eq_getElem (show n + i < l.length by omega)] using this
def tlen : List Nat → Nat
  | [] => 0
  | x :: l => if tlen l = 0 ∧ x = 0 then 0 else tlen l + 1
theorem tlen_le (l : List Nat) : tlen l ≤ l.length := by
  induction l with
  | nil => simp [tlen]
  | cons x l ih => simp only [tlen, List.length_cons]; split <;> omega
theorem tlen_zero {l : List Nat} {i : Nat} (h : tlen l ≤ i) : l.getD i 0 = 0 := by
  induction l generalizing i with
  | nil => simp
  | cons x l ih =>
    simp only [tlen] at h
    cases i with
    | zero => split at h
              · rename_i h1; simp [h1.2]
              · omega
    | succ i =>
      simp only [List.getD_cons_succ]
      exact ih (by split at h <;> omega)
theorem tlen_last {l : List Nat} (h : tlen l ≠ 0) : l.getD (tlen l - 1) 0 ≠ 0 := by
  induction l with
  | nil => simp [tlen] at h
  | cons x l ih =>
    simp only [tlen] at h ⊢
    split
    · simp_all
    · rename_i h1
      by_cases h2 : tlen l = 0
      · simp only [h2, Nat.zero_add, Nat.sub_self, List.getD_cons_zero]; exact fun e => h1 ⟨h2, e⟩
      · have := ih h2
        have e : tlen l + 1 - 1 = (tlen l - 1) + 1 := by omega
        rw [e, List.getD_cons_succ]; exact this
theorem tlen_uniq {l : List Nat} {n : Nat} (h1 : ∀ i, n ≤ i → l.getD i 0 = 0) (h2 : n = 0 ∨ l.getD (n - 1) 0 ≠ 0) : n = tlen l := by
  rcases Nat.lt_trichotomy n (tlen l) with h | h | h
  · exact absurd (h1 (tlen l - 1) (by omega)) (tlen_last (by omega))
  · exact h
  · rcases h2 with h2 | h2
    · omega
    · exact absurd (tlen_zero (l := l) (i := n - 1) (by omega)) h2
theorem nval_tlen (l : List Nat) : nval B (l.take (tlen l)) = nval B l := nval_take_of_zeros fun _ h => tlen_zero h
def Nrm (l : List Nat) : Prop := l = [] ∨ l.getD (l.length - 1) 0 ≠ 0
theorem Nrm.nil : Nrm [] := .inl rfl
theorem nrm_tlen (l : List Nat) : Nrm (l.take (tlen l)) := by
  by_cases h : tlen l = 0
  · left; simp [h]
  · right
    have := tlen_last h
    have hl := tlen_le l
    rw [List.length_take, Nat.min_eq_left hl]
    simpa [List.getD_eq_getElem?_getD, List.getElem?_take, show tlen l - 1 < tlen l by omega] using this
theorem Nrm.cons {x : Nat} {l : List Nat} (h : Nrm (x :: l)) : Nrm l := by
  cases l with
  | nil => exact .nil
  | cons y l =>
    right
    rcases h with h | h
    · cases h
    · simpa using h
theorem Nrm.pos {l : List Nat} (h : Nrm l) (h0 : l ≠ []) : B ^ (l.length - 1) ≤ nval B l := by
  induction l with
  | nil => exact absurd rfl h0
  | cons x l ih =>
    cases l with
    | nil =>
      rcases h with h | h
      · cases h
      · simp at h; simp [nval]; omega
    | cons y l =>
      have := ih h.cons (by simp)
      simp only [List.length_cons, Nat.add_sub_cancel] at this ⊢
      rw [nval, Nat.pow_succ, Nat.mul_comm]
      have := Nat.mul_le_mul_left B this
      omega
theorem Nrm.zero (hB : 0 < B) {l : List Nat} (h : Nrm l) (h0 : nval B l = 0) : l = [] := by
  rcases Classical.em (l = []) with h1 | h1
  · exact h1
  · have := h.pos (B := B) h1; have : 0 < B ^ (l.length - 1) := Nat.pow_pos hB; omega
theorem Nrm.len_le (hB : 0 < B) {l : List Nat} (h : Nrm l) {k : Nat} (hk : nval B l < B ^ k) : l.length ≤ k := by
  rcases Classical.em (l = []) with h1 | h1
  · simp [h1]
  · have h2 := h.pos (B := B) h1
    rcases Nat.lt_or_ge k l.length with h3 | h3
    · have : B ^ k ≤ B ^ (l.length - 1) := Nat.pow_le_pow_right hB (by omega)
      omega
    · exact h3
theorem nval_inj (hB : 0 < B) {a b : List Nat} (ha : Sm B a) (hb : Sm B b) (na : Nrm a) (nb : Nrm b) (h : nval B a = nval B b) : a = b := by
  induction a generalizing b with
  | nil => exact (nb.zero hB (by rw [← h]; rfl)).symm
  | cons x a ih =>
    cases b with
    | nil => exact na.zero hB h
    | cons y b =>
      simp only [nval] at h
      have hx := ha.head
      have hy := hb.head
      have e1 : x = y := by
        have := congrArg (· % B) h
        simpa [Nat.add_mul_mod_self_left, Nat.mod_eq_of_lt hx, Nat.mod_eq_of_lt hy] using this
      subst e1
      have e2 : nval B a = nval B b := Nat.eq_of_mul_eq_mul_left (by omega) (by omega)
      rw [ih ha.tail hb.tail na.cons nb.cons e2]
theorem nval_eq_zero (hB : 0 < B) {l : List Nat} : nval B l = 0 ↔ tlen l = 0 := by
  constructor
  · intro h
    have h1 := nrm_tlen l
    have h2 := nval_tlen (B := B) l
    have := h1.zero hB (by omega)
    have h3 := congrArg List.length this
    rw [List.length_take, Nat.min_eq_left (tlen_le l)] at h3
    simpa using h3
  · intro h
    rw [← nval_tlen, h]; rfl
theorem nval_lt_of {a b : List Nat} (ha : Sm B a) (_hb : Sm B b) {i : Nat} (hs : a.drop (i + 1) = b.drop (i + 1)) (hia : i < a.length) (h : a.getD i 0 < b.getD i 0) : nval B a < nval B b := by
  have ea := nval_split (B := B) a (i + 1)
  have eb := nval_split (B := B) b (i + 1)
  have ta := nval_take_succ (B := B) a i
  have tb := nval_take_succ (B := B) b i
  have h1 := nval_lt (ha.take i)
  rw [List.length_take, Nat.min_eq_left (by omega)] at h1
  have h3 : B ^ i * (a.getD i 0 + 1) ≤ B ^ i * b.getD i 0 := Nat.mul_le_mul_left _ h
  rw [hs] at ea
  rw [Nat.mul_add, Nat.mul_one] at h3
  omega
theorem nval_len_lt (hB : 0 < B) {a b : List Nat} (ha : Sm B a) (nb : Nrm b) (h : a.length < b.length) : nval B a < nval B b := by
  have h1 := nval_lt ha
  have h2 := nb.pos (B := B) (by intro e; simp [e] at h)
  have h3 : B ^ a.length ≤ B ^ (b.length - 1) := Nat.pow_le_pow_right hB (by omega)
  omega
end
def gd (l : List Nat) (i : Nat) : Nat := l.getD i 0
theorem nval_take_gd (B : Nat) (l : List Nat) (k : Nat) : nval B (l.take (k + 1)) = nval B (l.take k) + B ^ k * gd l k := nval_take_succ l k
theorem nval_snoc (B : Nat) (r : List Nat) (x : Nat) : nval B (r ++ [x]) = nval B r + B ^ r.length * x := by
  rw [nval_append]; simp [nval]
theorem add_step {b p r c x y u v g h : Nat} (h4 : r + p * c = u + v) (e3 : x + b * y = g + h + c) : r + p * x + p * b * y = u + p * g + (v + p * h) := by grind
theorem sub_step {b p r c x y u v g h : Nat} (h4 : r + v = u + p * c) (e3 : x + h + c = g + b * y) : r + p * x + (v + p * h) = u + p * g + p * b * y := by grind
def AddInvB (B : Nat) (la lb : List Nat) (k : Nat) (r : List Nat) (c : Nat) : Prop :=
  r.length = k ∧ Sm B r ∧ c ≤ 1 ∧ nval B r + B ^ k * c = nval B (la.take k) + nval B (lb.take k)
theorem AddInvB.start (B : Nat) (la lb : List Nat) : AddInvB B la lb 0 [] 0 := ⟨rfl, Sm.nil, by omega, by simp [nval]⟩
theorem AddInvB.step {B : Nat} {la lb : List Nat} {k c x y : Nat} {r : List Nat} (h : AddInvB B la lb k r c) (hx : x < B) (hy : y ≤ 1) (e : x + B * y = gd la k + gd lb k + c) :
    AddInvB B la lb (k + 1) (r ++ [x]) y := by
  obtain ⟨h1, h2, h3, h4⟩ := h
  refine ⟨by simp [h1], h2.append (Sm.nil.cons hx), hy, ?_⟩
  rw [nval_snoc, h1, nval_take_gd, nval_take_gd, Nat.pow_succ]
  exact add_step h4 e
theorem AddInvB.done {B : Nat} {la lb : List Nat} {n c : Nat} {r : List Nat} (h : AddInvB B la lb n r c) (hB : 1 < B) (ha : nval B (la.take n) = nval B la) (hb : nval B (lb.take n) = nval B lb) :
    Sm B (r ++ [c]) ∧ nval B (r ++ [c]) = nval B la + nval B lb := by
  obtain ⟨h1, h2, h3, h4⟩ := h
  refine ⟨h2.append (Sm.nil.cons (by omega)), ?_⟩
  rw [nval_snoc, h1]
  omega
def SubInvB (B : Nat) (la lb : List Nat) (k : Nat) (r : List Nat) (c : Nat) : Prop :=
  r.length = k ∧ Sm B r ∧ c ≤ 1 ∧ nval B r + nval B (lb.take k) = nval B (la.take k) + B ^ k * c
theorem SubInvB.start (B : Nat) (la lb : List Nat) : SubInvB B la lb 0 [] 0 := ⟨rfl, Sm.nil, by omega, by simp [nval]⟩
theorem SubInvB.step {B : Nat} {la lb : List Nat} {k c x y : Nat} {r : List Nat} (h : SubInvB B la lb k r c) (hx : x < B) (hy : y ≤ 1) (e : x + gd lb k + c = gd la k + B * y) :
    SubInvB B la lb (k + 1) (r ++ [x]) y := by
  obtain ⟨h1, h2, h3, h4⟩ := h
  refine ⟨by simp [h1], h2.append (Sm.nil.cons hx), hy, ?_⟩
  rw [nval_snoc, h1, nval_take_gd, nval_take_gd, Nat.pow_succ]
  exact sub_step h4 e
theorem SubInvB.done {B : Nat} {la lb : List Nat} {n c : Nat} {r : List Nat} (h : SubInvB B la lb n r c) (ha : nval B (la.take n) = nval B la) (hb : nval B (lb.take n) = nval B lb) (hle : nval B lb ≤ nval B la) :
    nval B r = nval B la - nval B lb := by
  obtain ⟨h1, h2, h3, h4⟩ := h
  have h5 := nval_lt h2
  rw [h1] at h5
  rw [ha, hb] at h4
  have : c = 0 ∨ c = 1 := by omega
  rcases this with rfl | rfl
  · omega
  · omega
def MacInvB (B : Nat) (ol la : List Nat) (x k : Nat) (r : List Nat) (c : Nat) : Prop :=
  r.length = k ∧ Sm B r ∧ c < B ∧ nval B r + B ^ k * c = nval B (ol.take k) + x * nval B (la.take k)
theorem MacInvB.start {B : Nat} (hB : 0 < B) (ol la : List Nat) (x : Nat) : MacInvB B ol la x 0 [] 0 := ⟨rfl, Sm.nil, hB, by simp [nval]⟩
theorem mac_step {b p r c x y u v g h m : Nat} (h4 : r + p * c = u + m * v) (e3 : x + b * y = g + m * h + c) : r + p * x + p * b * y = u + p * g + m * (v + p * h) := by grind
theorem MacInvB.step {B : Nat} {ol la : List Nat} {m k c x y : Nat} {r : List Nat} (h : MacInvB B ol la m k r c) (hx : x < B) (hy : y < B) (e : x + B * y = gd ol k + m * gd la k + c) :
    MacInvB B ol la m (k + 1) (r ++ [x]) y := by
  obtain ⟨h1, h2, h3, h4⟩ := h
  refine ⟨by simp [h1], h2.append (Sm.nil.cons hx), hy, ?_⟩
  rw [nval_snoc, h1, nval_take_gd, nval_take_gd, Nat.pow_succ]
  exact mac_step h4 e
theorem gd_drop' (l : List Nat) (n i : Nat) : gd (l.drop n) i = gd l (n + i) := by
  simp [gd, List.getD_eq_getElem?_getD, List.getElem?_drop]
theorem gd_append_right {a b : List Nat} {i : Nat} (h : a.length ≤ i) : gd (a ++ b) i = gd b (i - a.length) := by
  simp [gd, List.getD_eq_getElem?_getD, List.getElem?_append_right h]
theorem gd_append_left {a b : List Nat} {i : Nat} (h : i < a.length) : gd (a ++ b) i = gd a i := by
  simp [gd, List.getD_eq_getElem?_getD, List.getElem?_append_left h]
def patch (L : List Nat) (o : Nat) (r : List Nat) : List Nat := L.take o ++ (r ++ L.drop (o + r.length))
theorem patch_nil (L : List Nat) (o : Nat) : patch L o [] = L := by simp [patch]
theorem patch_length {L : List Nat} {o : Nat} {r : List Nat} (h : o + r.length ≤ L.length) : (patch L o r).length = L.length := by
  simp [patch]; omega
theorem patch_gd {L : List Nat} {o : Nat} {r : List Nat} (h : o ≤ L.length) {i : Nat} (hi : o + r.length ≤ i) : gd (patch L o r) i = gd L i := by
  have h1 : (L.take o).length = o := by rw [List.length_take]; omega
  unfold patch
  rw [gd_append_right (by omega), h1, gd_append_right (by omega), gd_drop']
  congr 1; omega
theorem patch_set {L : List Nat} {o x : Nat} {r : List Nat} (h : o + r.length < L.length) : (patch L o r).set (o + r.length) x = patch L o (r ++ [x]) := by
  have h1 : (L.take o).length = o := by rw [List.length_take]; omega
  unfold patch
  rw [List.set_append_right _ _ (by omega), h1, List.set_append_right _ _ (by omega)]
  have e : o + r.length - o - r.length = 0 := by omega
  rw [e, List.drop_eq_getElem_cons h, List.set_cons_zero, List.length_append, List.append_assoc]
  rfl
theorem patch_sm {B : Nat} {L : List Nat} {o : Nat} {r : List Nat} (h : Sm B L) (hr : Sm B r) : Sm B (patch L o r) := (h.take _).append (hr.append (h.drop _))
theorem patch_drop {L : List Nat} {o k : Nat} {r : List Nat} (h : o ≤ L.length) (hk : o + r.length ≤ k) : (patch L o r).drop k = L.drop k := by
  have h1 : (L.take o).length = o := by rw [List.length_take]; omega
  unfold patch
  rw [List.drop_append, List.drop_eq_nil_of_le (by omega), List.nil_append, h1, List.drop_append, List.drop_eq_nil_of_le (by omega), List.nil_append, List.drop_drop]
  congr 1; omega
theorem patch_val {B : Nat} {L : List Nat} {o : Nat} {r : List Nat} (h : o ≤ L.length) :
    nval B (patch L o r) = nval B (L.take o) + B ^ o * (nval B r + B ^ r.length * nval B (L.drop (o + r.length))) := by
  have h1 : (L.take o).length = o := by rw [List.length_take]; omega
  unfold patch
  rw [nval_append, nval_append, h1]
theorem mac_val {p q t d x v n1 b1 : Nat} : t + p * (n1 + x * v + q * b1 * d) = t + p * (n1 + q * 0 + q * b1 * d) + p * (x * v) := by grind
theorem mac_done {B : Nat} {L la : List Nat} {o x c n : Nat} {r : List Nat} (hB : 1 < B) (hL : Sm B L) (hn : la.length ≤ n) (ho : o + n < L.length) (h0 : gd L (o + n) = 0) (h : MacInvB B (L.drop o) la x n r c) :
    Sm B (patch L o (r ++ [c])) ∧ nval B (patch L o (r ++ [c])) = nval B L + B ^ o * (x * nval B la) := by
  obtain ⟨h1, h2, h3, h4⟩ := h
  refine ⟨patch_sm hL (h2.append (Sm.nil.cons h3)), ?_⟩
  rw [patch_val (by omega), nval_snoc, h1, List.length_append, h1]
  rw [List.take_of_length_le hn] at h4
  have e1 := nval_split (B := B) L o
  have e2 := nval_split (B := B) (L.drop o) (n + 1)
  rw [nval_take_gd, gd_drop', h0, List.drop_drop] at e2
  simp only [List.length_cons, List.length_nil, Nat.zero_add, Nat.mul_zero, Nat.add_zero, Nat.pow_succ] at *
  rw [h4, e1, e2]
  exact mac_val
theorem mac_bound {B x y g c : Nat} (hx : x < B) (hy : y < B) (hg : g < B) (hc : c < B) : g + x * y + c < B * B := by
  have h1 : x * y ≤ (B - 1) * (B - 1) := Nat.mul_le_mul (by omega) (by omega)
  obtain ⟨b, rfl⟩ : ∃ b, B = b + 1 := ⟨B - 1, by omega⟩
  simp only [Nat.add_sub_cancel] at h1
  grind
theorem shl_word {x c b : Nat} (hx : x < 2 ^ 64) (hc : c < 2 ^ b) (hb : b < 64) :
    (c ||| (x * 2 ^ b % 2 ^ 64)) < 2 ^ 64 ∧ x / 2 ^ (64 - b) < 2 ^ b ∧ (c ||| (x * 2 ^ b % 2 ^ 64)) + 2 ^ 64 * (x / 2 ^ (64 - b)) = c + 2 ^ b * x := by
  have e : (2 : Nat) ^ 64 = 2 ^ b * 2 ^ (64 - b) := by rw [← Nat.pow_add]; congr 1; omega
  have h1 : x * 2 ^ b % 2 ^ 64 = 2 ^ b * (x % 2 ^ (64 - b)) := by
    rw [e, Nat.mul_comm x, Nat.mul_mod_mul_left]
  have h2 : (c ||| (x * 2 ^ b % 2 ^ 64)) = 2 ^ b * (x % 2 ^ (64 - b)) + c := by
    rw [h1, Nat.or_comm, Nat.two_pow_add_eq_or_of_lt hc]
  have h3 := Nat.div_add_mod x (2 ^ (64 - b))
  have h4 : x / 2 ^ (64 - b) < 2 ^ b := by
    rw [Nat.div_lt_iff_lt_mul (Nat.two_pow_pos _)]; rw [← e]; exact hx
  refine ⟨Nat.or_lt_two_pow ?_ (Nat.mod_lt _ (Nat.two_pow_pos _)), h4, ?_⟩
  · exact Nat.lt_of_lt_of_le hc (Nat.pow_le_pow_right (by omega) (by omega))
  · rw [h2, e]
    generalize x / 2 ^ (64 - b) = d at *
    generalize x % 2 ^ (64 - b) = m at *
    generalize 2 ^ (64 - b) = p at *
    generalize 2 ^ b = t at *
    rw [← h3]; grind
theorem shr_word {x y b : Nat} (hx : x < 2 ^ 64) (hb : 0 < b) (hb2 : b < 64) :
    ((x / 2 ^ b) ||| (y * 2 ^ (64 - b) % 2 ^ 64)) = x / 2 ^ b + 2 ^ (64 - b) * (y % 2 ^ b) := by
  have e : (2 : Nat) ^ 64 = 2 ^ (64 - b) * 2 ^ b := by rw [← Nat.pow_add]; congr 1; omega
  have h1 : y * 2 ^ (64 - b) % 2 ^ 64 = 2 ^ (64 - b) * (y % 2 ^ b) := by rw [e, Nat.mul_comm y, Nat.mul_mod_mul_left]
  have h2 : x / 2 ^ b < 2 ^ (64 - b) := by rw [Nat.div_lt_iff_lt_mul (Nat.two_pow_pos _), ← e]; exact hx
  rw [h1, Nat.or_comm, ← Nat.two_pow_add_eq_or_of_lt h2, Nat.add_comm]
theorem patch_append {L : List Nat} {o : Nat} {r s : List Nat} {i : Nat} (h : o ≤ L.length) (hi : r.length ≤ i) (hi2 : i < r.length + s.length) : gd (patch L o (r ++ s)) (o + i) = gd s (i - r.length) := by
  have h1 : (L.take o).length = o := by rw [List.length_take]; omega
  unfold patch
  rw [gd_append_right (by omega), h1, gd_append_left (by simp; omega), gd_append_right (by omega)]
  congr 1; omega
theorem patch_set_in {L : List Nat} {o x y : Nat} {r : List Nat} (h : o ≤ L.length) : (patch L o (r ++ [y])).set (o + r.length) x = patch L o (r ++ [x]) := by
  have h1 : (L.take o).length = o := by rw [List.length_take]; omega
  unfold patch
  rw [List.set_append_right _ _ (by omega), h1, List.set_append_left _ _ (by simp), List.set_append_right _ _ (by omega)]
  have e : o + r.length - o - r.length = 0 := by omega
  rw [e, List.set_cons_zero]; simp
theorem gd_replicate (n i : Nat) : gd (List.replicate n 0) i = 0 := by
  by_cases h : i < n <;> simp [gd, List.getD_eq_getElem?_getD, List.getElem?_replicate, h]
theorem patch_zeros {N o : Nat} (h : o < N) : patch (List.replicate N 0) o [0] = List.replicate N 0 := by
  unfold patch
  have e : N = o + (1 + (N - o - 1)) := by omega
  apply List.ext_getElem
  · simp; omega
  · intro i h1 h2
    simp only [List.getElem_append, List.length_take, List.length_replicate, List.getElem_replicate]
    split
    · simp
    · split <;> simp
theorem nval_zeros_drop {B n k : Nat} : nval B ((List.replicate n 0).drop k) = 0 := by
  apply nval_zeros; intro x hx; exact List.eq_of_mem_replicate (List.mem_of_mem_drop hx)
theorem nval_zeros_take {B n k : Nat} : nval B ((List.replicate n 0).take k) = 0 := by
  apply nval_zeros; intro x hx; exact List.eq_of_mem_replicate (List.mem_of_mem_take hx)
theorem patch_zeros_val {B N o : Nat} {r : List Nat} (h : o ≤ N) : nval B (patch (List.replicate N 0) o r) = B ^ o * nval B r := by
  rw [patch_val (by simpa using h), nval_zeros_drop, nval_zeros_take]; simp
theorem patch_pad {L : List Nat} {o : Nat} {r : List Nat} (h : o + r.length < L.length) (h0 : gd L (o + r.length) = 0) : patch L o (r ++ [0]) = patch L o r := by
  rw [← patch_set h]
  have hl : (patch L o r).length = L.length := patch_length (by omega)
  have hg : (patch L o r)[o + r.length]'(by omega) = 0 := by
    have := patch_gd (L := L) (o := o) (r := r) (by omega) (Nat.le_refl _)
    rw [h0] at this
    simpa [gd, List.getD_eq_getElem?_getD, List.getElem?_eq_getElem (show o + r.length < (patch L o r).length by omega)] using this
  conv => lhs; rw [← hg]
  exact List.set_getElem_self _
def ShrInvB (B t : Nat) (la : List Nat) (k : Nat) (r : List Nat) : Prop :=
  r.length = k ∧ Sm B r ∧ t * nval B r + gd la 0 % t = nval B (la.take k) + B ^ k * (gd la k % t)
theorem ShrInvB.start (B t : Nat) (la : List Nat) : ShrInvB B t la 0 [] := ⟨rfl, Sm.nil, by simp [nval]⟩
theorem shr_step {t b r u p x g m h q : Nat} (h4 : t * r + u = h + p * m) (e : t * x + m = g + b * q) : t * (r + p * x) + u = h + p * g + p * b * q := by grind
theorem ShrInvB.step {B t p : Nat} {la : List Nat} {k : Nat} {r : List Nat} (h : ShrInvB B t la k r) (hB : t * p = B) (hx : gd la k / t + p * (gd la (k + 1) % t) < B) :
    ShrInvB B t la (k + 1) (r ++ [gd la k / t + p * (gd la (k + 1) % t)]) := by
  obtain ⟨h1, h2, h4⟩ := h
  refine ⟨by simp [h1], h2.append (Sm.nil.cons hx), ?_⟩
  rw [nval_snoc, h1, nval_take_gd, Nat.pow_succ]
  refine shr_step h4 ?_
  have := Nat.div_add_mod (gd la k) t
  rw [Nat.mul_add, ← Nat.mul_assoc, hB]
  omega
theorem ShrInvB.done {B t : Nat} {la : List Nat} {n : Nat} {r : List Nat} (h : ShrInvB B t la n r) (ht : 0 < t) (hn : la.length ≤ n) : nval B r = nval B la / t := by
  obtain ⟨h1, h2, h4⟩ := h
  rw [List.take_of_length_le hn, show gd la n = 0 from by simp [gd, hn]] at h4
  simp only [Nat.zero_mod, Nat.mul_zero, Nat.add_zero] at h4
  rw [← h4, Nat.mul_add_div ht, Nat.div_eq_of_lt (Nat.mod_lt _ ht), Nat.add_zero]
theorem shr_bound {x y b : Nat} (hx : x < 2 ^ 64) (hb2 : b < 64) : x / 2 ^ b + 2 ^ (64 - b) * (y % 2 ^ b) < 2 ^ 64 := by
  have e : (2 : Nat) ^ 64 = 2 ^ (64 - b) * 2 ^ b := by rw [← Nat.pow_add]; congr 1; omega
  have h2 : x / 2 ^ b < 2 ^ (64 - b) := by rw [Nat.div_lt_iff_lt_mul (Nat.two_pow_pos _), ← e]; exact hx
  have h3 : y % 2 ^ b + 1 ≤ 2 ^ b := Nat.mod_lt _ (Nat.two_pow_pos _)
  have h4 := Nat.mul_le_mul_left (2 ^ (64 - b)) h3
  rw [e]
  rw [Nat.mul_add] at h4
  omega
theorem nval_drop_div {B : Nat} (l : List Nat) (q : Nat) (hB : 0 < B) (h : Sm B l) : nval B (l.drop q) = nval B l / B ^ q := by
  have h1 := nval_split (B := B) l q
  have h2 : nval B (l.take q) < B ^ q := by
    have := nval_lt (h.take q)
    refine Nat.lt_of_lt_of_le this (Nat.pow_le_pow_right hB ?_)
    rw [List.length_take]; omega
  rw [h1, Nat.add_mul_div_left _ _ (Nat.pow_pos hB), Nat.div_eq_of_lt h2, Nat.zero_add]
theorem len_add {B : Nat} (hB : 2 ≤ B) {la lb r : List Nat} {k : Nat} (ha : Sm B la) (hb : Sm B lb) (hr : Nrm r) (h : nval B r = nval B la + nval B lb) (h1 : la.length ≤ k) (h2 : lb.length ≤ k) : r.length ≤ k + 1 := by
  refine hr.len_le (B := B) (by omega) ?_
  have a1 := nval_lt ha
  have a2 := nval_lt hb
  have a3 : B ^ la.length ≤ B ^ k := Nat.pow_le_pow_right (by omega) h1
  have a4 : B ^ lb.length ≤ B ^ k := Nat.pow_le_pow_right (by omega) h2
  have := Nat.mul_le_mul_left (B ^ k) hB
  rw [h, Nat.pow_succ]
  omega
theorem len_mul {B : Nat} (hB : 2 ≤ B) {la lb r : List Nat} (ha : Sm B la) (hb : Sm B lb) (hr : Nrm r) (h : nval B r = nval B la * nval B lb) : r.length ≤ la.length + lb.length := by
  refine hr.len_le (B := B) (by omega) ?_
  rw [h, Nat.pow_add]
  exact Nat.mul_lt_mul'' (nval_lt ha) (nval_lt hb)
theorem len_le_of {B : Nat} (hB : 2 ≤ B) {la r : List Nat} (ha : Sm B la) (hr : Nrm r) (h : nval B r ≤ nval B la) : r.length ≤ la.length :=
  hr.len_le (B := B) (by omega) (Nat.lt_of_le_of_lt h (nval_lt ha))
end QM
set_option linter.unusedVariables false
set_option linter.unusedSimpArgs false
namespace QM
theorem guess_ge {U V U3 V2 M q t : Nat} {B : Nat} (hU : U < (U3 + 1) * M) (hV : V2 * M ≤ V) (ht : t * V ≤ U) (htB : t < B) (hq : q + 1 = B ∨ U3 < (q + 1) * V2) : t ≤ q := by
  rcases hq with hq | hq
  · omega
  · refine Nat.le_of_not_lt fun hlt => ?_
    have h1 : (q + 1) * V2 * M ≤ t * V := by
      rw [Nat.mul_assoc]; exact Nat.mul_le_mul hlt hV
    have h2 : (q + 1) * V2 * M < (U3 + 1) * M := Nat.lt_of_le_of_lt (Nat.le_trans h1 ht) hU
    have h3 := Nat.lt_of_mul_lt_mul_right h2
    omega
theorem guess_le {U V U3 V2 M q : Nat} {B : Nat} (hM : 0 < M) (hU : U3 * M ≤ U) (hV : V < (V2 + 1) * M) (hV' : B * M ≤ V) (hq : q * V2 ≤ U3) (hqB : q < B) : q * V < U + V := by
  rcases Nat.eq_zero_or_pos q with h0 | h0
  · have : 0 < B * M := Nat.mul_pos (by omega) hM
    rw [h0]; omega
  have h1 : q * V < q * ((V2 + 1) * M) := Nat.mul_lt_mul_of_pos_left hV h0
  have h2 : q * ((V2 + 1) * M) = q * V2 * M + q * M := by grind
  have h3 : q * V2 * M ≤ U3 * M := Nat.mul_le_mul_right _ hq
  have h4 : q * M ≤ B * M := Nat.mul_le_mul_right _ (by omega)
  omega
def HInv (b y1 y0 U u q r : Nat) : Prop := r + q * y1 = U ∧ U * b + u < (q + 1) * (y1 * b + y0)
theorem HInv.start {b y1 y0 U u : Nat} (hy : 0 < y1) (hu : u < b) : HInv b y1 y0 U u (U / y1) (U - U / y1 * y1) := by
  have h1 := Nat.div_add_mod U y1
  have h2 := Nat.mod_lt U hy
  have h3 := Nat.mul_comm y1 (U / y1)
  refine ⟨by omega, ?_⟩
  have h4 : U + 1 ≤ (U / y1 + 1) * y1 := by rw [Nat.add_mul]; omega
  have h5 := Nat.mul_le_mul_right b h4
  have h6 : (U / y1 + 1) * (y1 * b + y0) = (U / y1 + 1) * y1 * b + (U / y1 + 1) * y0 := by grind
  rw [h6]
  rw [Nat.add_mul] at h5
  omega
theorem HInv.great {b y1 y0 U u q r : Nat} (h : HInv b y1 y0 U u q r) (hU : U < y1 * b + y0) (hu : u < b) (ht : b ≤ q ∨ b * r + u < q * y0) : 1 ≤ q ∧ HInv b y1 y0 U u (q - 1) (r + y1) := by
  obtain ⟨h1, h2⟩ := h
  have hq : U * b + u < q * (y1 * b + y0) := by
    rcases ht with ht | ht
    · have := Nat.mul_le_mul_right (y1 * b + y0) ht
      have h3 := Nat.mul_le_mul_left b (show U + 1 ≤ y1 * b + y0 from hU)
      have h4 : b * (U + 1) = U * b + b := by grind
      omega
    · have h3 : q * (y1 * b + y0) = q * y1 * b + q * y0 := by grind
      have h4 : U * b = r * b + q * y1 * b := by rw [← h1]; grind
      have h5 := Nat.mul_comm b r
      omega
  have hq1 : 1 ≤ q := by
    rcases Nat.eq_zero_or_pos q with h0 | h0
    · rw [h0] at hq; omega
    · exact h0
  obtain ⟨k, rfl⟩ : ∃ k, q = k + 1 := ⟨q - 1, by omega⟩
  refine ⟨hq1, ?_, by simpa using hq⟩
  rw [Nat.add_sub_cancel, ← h1, Nat.add_mul]; omega
theorem HInv.small {b y1 y0 U u q r : Nat} (h : HInv b y1 y0 U u q r) (hU : U < y1 * b + y0) (hy0 : y0 < b) (ht : b ≤ r) : q < b := by
  obtain ⟨h1, h2⟩ := h
  refine Nat.lt_of_not_le fun hq => ?_
  have := Nat.mul_le_mul_right y1 hq
  have := Nat.mul_comm b y1
  omega
theorem HInv.right {b y1 y0 U u q r : Nat} (h : HInv b y1 y0 U u q r) (hy0 : y0 < b) (hq : q < b) (ht : b ≤ r ∨ q * y0 ≤ b * r + u) : q = (U * b + u) / (y1 * b + y0) := by
  obtain ⟨h1, h2⟩ := h
  have h3 : q * (y1 * b + y0) = q * y1 * b + q * y0 := by grind
  have h4 : U * b = r * b + q * y1 * b := by rw [← h1]; grind
  have h5 := Nat.mul_comm b r
  have h6 : q * y0 ≤ b * r + u := by
    rcases ht with ht | ht
    · have a1 : q * y0 ≤ b * b := Nat.mul_le_mul (by omega) (by omega)
      have a2 := Nat.mul_le_mul_left b ht
      omega
    · exact ht
  exact (Nat.div_eq_of_lt_le (by omega) h2).symm
theorem two_digits {b y A u q1 q0 : Nat} (hq1 : q1 = A / y) (hq0 : q0 = (A % y * b + u) / y) : q1 * b + q0 = (A * b + u) / y ∧ (A % y * b + u) % y = (A * b + u) % y := by
  have h := Nat.div_add_mod A y
  have e : A * b + u = (A % y * b + u) + y * (q1 * b) := by
    rw [hq1]
    have : A * b = y * (A / y) * b + A % y * b := by rw [← Nat.add_mul, h]
    rw [this]; grind
  rcases Nat.eq_zero_or_pos y with h0 | h0
  · subst h0; simp at hq1 hq0; subst hq1 hq0; simp
  · rw [e, Nat.add_mul_div_left _ _ h0, Nat.add_mul_mod_self_left, hq0]
    exact ⟨by omega, rfl⟩
def GInv (W u2 u1 u0 v1 v0 q R : Nat) : Prop := R + q * v1 = u2 * W + u1 ∧ q < W ∧ (q + 1 = W ∨ (u2 * W + u1) * W + u0 < (q + 1) * (v1 * W + v0))
theorem GInv.top {W u1 u0 v1 v0 : Nat} (hW : 0 < W) : GInv W v1 u1 u0 v1 v0 (W - 1) (u1 + v1) := by
  obtain ⟨k, rfl⟩ : ∃ k, W = k + 1 := ⟨W - 1, by omega⟩
  refine ⟨?_, by omega, .inl (by omega)⟩
  rw [Nat.add_sub_cancel]; grind
theorem GInv.start {W u2 u1 u0 v1 v0 : Nat} (hlt : u2 < v1) (hu1 : u1 < W) (hu0 : u0 < W) : GInv W u2 u1 u0 v1 v0 ((u2 * W + u1) / v1) ((u2 * W + u1) % v1) := by
  have h1 := Nat.div_add_mod (u2 * W + u1) v1
  have h2 := Nat.mod_lt (u2 * W + u1) (show 0 < v1 by omega)
  have h3 := Nat.mul_comm v1 ((u2 * W + u1) / v1)
  refine ⟨by omega, ?_, .inr ?_⟩
  · rw [Nat.div_lt_iff_lt_mul (by omega)]
    have := Nat.mul_le_mul_right W (show u2 + 1 ≤ v1 from hlt)
    rw [Nat.add_mul] at this
    have := Nat.mul_comm v1 W
    omega
  · generalize (u2 * W + u1) / v1 = q at *
    generalize (u2 * W + u1) % v1 = r at *
    generalize u2 * W + u1 = A at *
    have h4 : A + 1 ≤ (q + 1) * v1 := by rw [Nat.add_mul]; omega
    have h5 := Nat.mul_le_mul_right W h4
    have h6 : (q + 1) * (v1 * W + v0) = (q + 1) * v1 * W + (q + 1) * v0 := by grind
    rw [h6]
    rw [Nat.add_mul] at h5
    omega
theorem GInv.down {W u2 u1 u0 v1 v0 q R : Nat} (h : GInv W u2 u1 u0 v1 v0 q R) (ht : R * W + u0 < q * v0) : 1 ≤ q ∧ GInv W u2 u1 u0 v1 v0 (q - 1) (R + v1) := by
  obtain ⟨h1, h2, h3⟩ := h
  have hq1 : 1 ≤ q := by
    rcases Nat.eq_zero_or_pos q with h0 | h0
    · rw [h0] at ht; omega
    · exact h0
  obtain ⟨k, rfl⟩ : ∃ k, q = k + 1 := ⟨q - 1, by omega⟩
  refine ⟨hq1, ?_, by omega, .inr ?_⟩
  · rw [Nat.add_sub_cancel, ← h1, Nat.add_mul]; omega
  · rw [Nat.add_sub_cancel, ← h1]
    have : (k + 1) * (v1 * W + v0) = (k + 1) * v1 * W + (k + 1) * v0 := by grind
    rw [this, Nat.add_mul R]; omega
theorem GInv.fits {W u2 u1 u0 v1 v0 q R : Nat} (h : GInv W u2 u1 u0 v1 v0 q R) (hv0 : v0 < W) (ht : W ≤ R ∨ q * v0 ≤ R * W + u0) : q * (v1 * W + v0) ≤ (u2 * W + u1) * W + u0 := by
  obtain ⟨h1, h2, h3⟩ := h
  have h4 : q * v0 ≤ R * W + u0 := by
    rcases ht with ht | ht
    · have a1 : q * v0 ≤ W * W := Nat.mul_le_mul (by omega) (by omega)
      have a2 := Nat.mul_le_mul_right W ht
      omega
    · exact ht
  have : q * (v1 * W + v0) = q * v1 * W + q * v0 := by grind
  rw [this, ← h1, Nat.add_mul]; omega
def TakeInvB (B q : Nat) (ol lv : List Nat) (k : Nat) (r : List Nat) (c b : Nat) : Prop :=
  r.length = k ∧ Sm B r ∧ c < B ∧ b ≤ 1 ∧ nval B r + q * nval B (lv.take k) = nval B (ol.take k) + B ^ k * (c + b)
theorem TakeInvB.start {B q : Nat} (hB : 0 < B) (ol lv : List Nat) : TakeInvB B q ol lv 0 [] 0 0 := ⟨rfl, Sm.nil, hB, by omega, by simp [nval]⟩
theorem take_step {r q v u p cb d x g B c' : Nat} (h : r + q * v = u + p * cb) (e : d + q * x + cb = g + B * c') : r + p * d + q * (v + p * x) = u + p * g + p * B * c' := by grind
theorem TakeInvB.step {B q : Nat} {ol lv : List Nat} {k c b l d c' b' : Nat} {r : List Nat} (h : TakeInvB B q ol lv k r c b) (hd : d < B) (hc : c' < B) (hb : b' ≤ 1) (e1 : l + B * c' = q * gd lv k + c) (e2 : d + l + b = gd ol k + B * b') :
    TakeInvB B q ol lv (k + 1) (r ++ [d]) c' b' := by
  obtain ⟨h1, h2, h3, h4, h5⟩ := h
  refine ⟨by simp [h1], h2.append (Sm.nil.cons hd), hc, hb, ?_⟩
  rw [nval_snoc, h1, nval_take_gd, nval_take_gd, Nat.pow_succ]
  refine take_step h5 ?_
  rw [Nat.mul_add]; omega
theorem take_end {r q v u p cb d g B b' : Nat} (h : r + q * v = u + p * cb) (e : d + cb = g + B * b') : r + p * d + q * v = u + p * g + p * B * b' := by grind
theorem TakeInvB.done {B q : Nat} {ol lv : List Nat} {n c b d b' : Nat} {r : List Nat} (h : TakeInvB B q ol lv n r c b) (hn : lv.length ≤ n) (hd : d < B) (e : d + c + b = gd ol n + B * b') :
    Sm B (r ++ [d]) ∧ (r ++ [d]).length = n + 1 ∧ nval B (r ++ [d]) + q * nval B lv = nval B (ol.take (n + 1)) + B ^ (n + 1) * b' := by
  obtain ⟨h1, h2, h3, h4, h5⟩ := h
  refine ⟨h2.append (Sm.nil.cons hd), by simp [h1], ?_⟩
  rw [List.take_of_length_le hn] at h5
  rw [nval_snoc, h1, nval_take_gd, Nat.pow_succ]
  exact take_end h5 (by omega)
theorem back_end {r p c u v d g B o : Nat} (h : r + p * c = u + v) (e : d + B * o = g + c) : r + p * d + p * B * o = u + p * g + v := by grind
theorem AddInvB.back {B : Nat} {ol lv : List Nat} {n c d o : Nat} {r : List Nat} (h : AddInvB B ol lv n r c) (hn : lv.length ≤ n) (hd : d < B) (e : d + B * o = gd ol n + c) :
    Sm B (r ++ [d]) ∧ (r ++ [d]).length = n + 1 ∧ nval B (r ++ [d]) + B ^ (n + 1) * o = nval B (ol.take (n + 1)) + nval B lv := by
  obtain ⟨h1, h2, h3, h4⟩ := h
  refine ⟨h2.append (Sm.nil.cons hd), by simp [h1], ?_⟩
  rw [List.take_of_length_le hn] at h4
  rw [nval_snoc, h1, nval_take_gd, Nat.pow_succ]
  exact back_end h4 e
theorem nval_gd_drop {B : Nat} (l : List Nat) (i : Nat) : nval B (l.drop i) = gd l i + B * nval B (l.drop (i + 1)) := by
  rcases Nat.lt_or_ge i l.length with h | h
  · rw [List.drop_eq_getElem_cons h, nval]
    simp [gd, List.getD_eq_getElem?_getD, List.getElem?_eq_getElem h]
  · rw [List.drop_eq_nil_of_le h, List.drop_eq_nil_of_le (by omega)]
    simp [nval, gd, h]
theorem nval_drop_top {B : Nat} (hB : 0 < B) {l : List Nat} {n : Nat} (h : nval B l < B ^ n) : nval B (l.drop n) = 0 := by
  have h1 := nval_split (B := B) l n
  rcases Nat.eq_zero_or_pos (nval B (l.drop n)) with h0 | h0
  · exact h0
  · have := Nat.mul_le_mul_left (B ^ n) h0
    omega
theorem long_digit {B : Nat} (hB : 1 < B) {L lv : List Nat} {j n q : Nat} (hL : Sm B L) (hv : Sm B lv) (hn : lv.length = n) (hn2 : 2 ≤ n) (htop : 1 ≤ gd lv (n - 1)) (hrem : nval B (L.drop (j + 1)) < nval B lv)
    (hq1 : q < B) (hq2 : q * (gd lv (n - 1) * B + gd lv (n - 2)) ≤ (gd L (j + n) * B + gd L (j + n - 1)) * B + gd L (j + n - 2))
    (hq3 : q + 1 = B ∨ (gd L (j + n) * B + gd L (j + n - 1)) * B + gd L (j + n - 2) < (q + 1) * (gd lv (n - 1) * B + gd lv (n - 2))) :
    nval B (L.drop (j + n + 1)) = 0 ∧ nval B ((L.drop j).take (n + 1)) = nval B (L.drop j) ∧ nval B (L.drop j) < (q + 1) * nval B lv ∧ q * nval B lv < nval B (L.drop j) + nval B lv := by
  have hvlt := nval_lt hv
  rw [hn] at hvlt
  have hz : nval B (L.drop (j + n + 1)) = 0 := by
    have := nval_drop_top (B := B) (by omega) (l := L.drop (j + 1)) (n := n) (by omega)
    rwa [List.drop_drop, show j + 1 + n = j + n + 1 from by omega] at this
  have hD : nval B ((L.drop j).take (n + 1)) = nval B (L.drop j) := by
    have := nval_split (B := B) (L.drop j) (n + 1)
    rw [List.drop_drop, show j + (n + 1) = j + n + 1 from by omega, hz] at this
    omega
  obtain ⟨m, rfl⟩ : ∃ m, n = m + 2 := ⟨n - 2, by omega⟩
  have e1 : m + 2 - 1 = m + 1 := by omega
  have e2 : m + 2 - 2 = m := by omega
  have e3 : j + (m + 2) - 1 = j + m + 1 := by omega
  have e4 : j + (m + 2) - 2 = j + m := by omega
  have e5 : j + (m + 2) = j + m + 2 := by omega
  rw [e1, e2, e3, e4, e5] at hq2 hq3
  rw [e1] at htop
  -- the divisor's two top digits
  have v1 := nval_split (B := B) lv m
  rw [nval_gd_drop, nval_gd_drop, List.drop_eq_nil_of_le (show lv.length ≤ m + 1 + 1 by omega)] at v1
  have v2 := nval_lt (hv.take m)
  have v3 : B ^ (lv.take m).length ≤ B ^ m := Nat.pow_le_pow_right (by omega) (List.length_take_le _ _)
  -- the number's three top digits
  have u1 := nval_split (B := B) (L.drop j) m
  rw [List.drop_drop, nval_gd_drop L (j + m), nval_gd_drop L (j + m + 1), nval_gd_drop L (j + m + 1 + 1), show nval B (L.drop (j + m + 1 + 1 + 1)) = 0 from hz] at u1
  change nval B (L.drop j) = _ + B ^ m * (gd L (j + m) + B * (gd L (j + m + 1) + B * (gd L (j + m + 2) + B * 0))) at u1
  have u2 := nval_lt ((hL.drop j).take m)
  have u3 : B ^ ((L.drop j).take m).length ≤ B ^ m := Nat.pow_le_pow_right (by omega) (List.length_take_le _ _)
  have hM : 0 < B ^ m := Nat.pow_pos (by omega)
  simp only [nval, Nat.mul_zero, Nat.add_zero] at v1 u1
  generalize nval B (lv.take m) = vl at *
  generalize nval B ((L.drop j).take m) = ul at *
  generalize gd lv (m + 1) = a1 at *
  generalize gd lv m = a0 at *
  generalize gd L (j + m + 2) = c2 at *
  generalize gd L (j + m + 1) = c1 at *
  generalize gd L (j + m) = c0 at *
  generalize hM' : B ^ m = M at *
  have hvl : vl < M := Nat.lt_of_lt_of_le v2 v3
  have hul : ul < M := Nat.lt_of_lt_of_le u2 u3
  have vv : nval B lv = (a1 * B + a0) * M + vl := by rw [v1]; grind
  have uu : nval B (L.drop j) = ((c2 * B + c1) * B + c0) * M + ul := by rw [u1]; grind
  refine ⟨hz, hD, ?_, ?_⟩
  · -- not too small
    generalize (c2 * B + c1) * B + c0 = U3 at *
    generalize a1 * B + a0 = V2 at *
    have hdm := Nat.div_add_mod (nval B (L.drop j)) (nval B lv)
    have hml := Nat.mod_lt (nval B (L.drop j)) (show 0 < nval B lv by omega)
    have hDv : nval B (L.drop j) < B * nval B lv := by
      have h1 := nval_gd_drop (B := B) L j
      have h2 : gd L j < B := hL.getD (by omega) j
      have h3 := Nat.mul_le_mul_left B (show nval B (L.drop (j + 1)) + 1 ≤ nval B lv from hrem)
      rw [Nat.mul_add] at h3
      omega
    have htB : nval B (L.drop j) / nval B lv < B := by rw [Nat.div_lt_iff_lt_mul (by omega)]; exact hDv
    have ht := guess_ge (U := nval B (L.drop j)) (V := nval B lv) (U3 := U3) (V2 := V2) (M := M) (q := q) (t := nval B (L.drop j) / nval B lv) (B := B)
      (by rw [uu, Nat.add_mul]; omega) (by rw [vv]; omega) (Nat.div_mul_le_self _ _) htB hq3
    have h5 := Nat.mul_le_mul_right (nval B lv) (Nat.succ_le_succ ht)
    have h6 := Nat.mul_comm (nval B lv) (nval B (L.drop j) / nval B lv)
    rw [Nat.succ_mul] at h5
    change _ ≤ (q + 1) * _ at h5
    omega
  · refine guess_le (U3 := (c2 * B + c1) * B + c0) (V2 := a1 * B + a0) (M := M) (B := B) hM (by rw [uu]; omega) (by rw [vv, Nat.add_mul _ 1]; omega) ?_ hq2 hq1
    rw [vv]
    have h1 : B * M ≤ a1 * B * M := Nat.mul_le_mul_right M (Nat.le_mul_of_pos_left B htop)
    rw [Nat.add_mul]
    omega
theorem long_right {D v q r : Nat} (h : r + q * v = D) (hlt : D < (q + 1) * v) : r < v ∧ D = r + q * v := by
  rw [Nat.add_mul] at hlt; omega
theorem long_back {D v q r1 r2 P ov : Nat} (h : r1 + q * v = D + P) (hr1 : r1 < P) (hr2 : r2 < P) (hqv : q * v < D + v) (hvP : v ≤ P) (hb : r2 + P * ov = r1 + v) : 1 ≤ q ∧ r2 < v ∧ D = r2 + (q - 1) * v := by
  have hq : 1 ≤ q := by
    rcases Nat.eq_zero_or_pos q with h0 | h0
    · rw [h0] at h; omega
    · exact h0
  obtain ⟨k, rfl⟩ : ∃ k, q = k + 1 := ⟨q - 1, by omega⟩
  rw [Nat.add_mul] at h hqv
  have hov : ov = 1 := by
    rcases Nat.lt_trichotomy ov 1 with h1 | h1 | h1
    · have : ov = 0 := by omega
      subst this; omega
    · exact h1
    · have := Nat.mul_le_mul_left P (show 2 ≤ ov from h1); omega
  subst hov
  rw [Nat.add_sub_cancel]
  omega
theorem long_patch {B : Nat} {L r O : List Nat} {j n q v : Nat} (hr : r.length = n + 1) (hj : j + n < L.length) (hz : nval B (L.drop (j + n + 1)) = 0) (hD : nval B (L.drop j) = nval B r + q * v) (hO : j < O.length) :
    nval B ((patch L j r).drop j) = nval B r ∧ nval B L + v * (B ^ (j + 1) * nval B (O.drop (j + 1))) = nval B (patch L j r) + v * (B ^ j * nval B ((O.set j q).drop j)) := by
  have e1 := nval_split (B := B) L j
  have e2 : nval B (patch L j r) = nval B (L.take j) + B ^ j * nval B r := by
    rw [patch_val (by omega), hr, show j + (n + 1) = j + n + 1 from rfl, hz]; simp
  have e3 : nval B ((patch L j r).drop j) = nval B r := by
    have h1 : (L.take j).length = j := by rw [List.length_take]; omega
    unfold patch
    rw [List.drop_append, List.drop_eq_nil_of_le (by omega), h1, Nat.sub_self, List.drop_zero, List.nil_append, nval_append, hr, show j + (n + 1) = j + n + 1 from rfl, hz]
    simp
  have e4 : nval B ((O.set j q).drop j) = q + B * nval B (O.drop (j + 1)) := by
    rw [nval_gd_drop, List.drop_set_of_lt (by omega)]
    simp [gd, List.getD_eq_getElem?_getD, List.getElem?_set, hO]
  refine ⟨e3, ?_⟩
  rw [e2, e4, e1, hD, Nat.pow_succ]
  grind
theorem top_le {B : Nat} (hB : 0 < B) {L lv : List Nat} {j n : Nat} (hv : Sm B lv) (hn : lv.length = n) (hn1 : 1 ≤ n) (hrem : nval B (L.drop (j + 1)) < nval B lv) : gd L (j + n) ≤ gd lv (n - 1) := by
  obtain ⟨m, rfl⟩ : ∃ m, n = m + 1 := ⟨n - 1, by omega⟩
  rw [Nat.add_sub_cancel]
  have v1 := nval_split (B := B) lv m
  rw [nval_gd_drop lv m, List.drop_eq_nil_of_le (show lv.length ≤ m + 1 by omega)] at v1
  have v2 := nval_lt (hv.take m)
  have v3 : B ^ (lv.take m).length ≤ B ^ m := Nat.pow_le_pow_right hB (List.length_take_le _ _)
  have u1 := nval_split (B := B) (L.drop (j + 1)) m
  rw [List.drop_drop, nval_gd_drop L (j + 1 + m), show j + 1 + m = j + (m + 1) from by omega] at u1
  simp only [nval, Nat.mul_zero, Nat.add_zero] at v1
  refine Nat.le_of_not_lt fun hlt => ?_
  have h1 := Nat.mul_le_mul_left (B ^ m) (show gd lv m + 1 ≤ gd L (j + (m + 1)) from hlt)
  rw [Nat.mul_add] at h1 u1
  omega
theorem patch_drop_take {L : List Nat} {j : Nat} {r : List Nat} (h : j ≤ L.length) : ((patch L j r).drop j).take r.length = r := by
  have h1 : (L.take j).length = j := by rw [List.length_take]; omega
  unfold patch
  rw [List.drop_append, List.drop_eq_nil_of_le (by omega), h1, Nat.sub_self, List.drop_zero, List.nil_append, List.take_left]
theorem patch_patch {L : List Nat} {j : Nat} {r s : List Nat} (h : j ≤ L.length) (hs : s.length = r.length) : patch (patch L j r) j s = patch L j s := by
  have h1 : (L.take j).length = j := by rw [List.length_take]; omega
  have e1 : (patch L j r).take j = L.take j := by
    unfold patch; rw [List.take_append, List.take_of_length_le (by omega), h1, Nat.sub_self, List.take_zero, List.append_nil]
  have e2 : (patch L j r).drop (j + s.length) = L.drop (j + s.length) := patch_drop h (by omega)
  show (patch L j r).take j ++ (s ++ (patch L j r).drop (j + s.length)) = patch L j s
  rw [e1, e2]; rfl
theorem long_right0 {D v q r P : Nat} (h : r + q * v = D + P * 0) (hlt : D < (q + 1) * v) : r < v ∧ D = r + q * v := long_right (by simpa using h) hlt
theorem long_one {B D v q m : Nat} {r : List Nat} (h : nval B r + q * v = D + B ^ m * 1) (hr : Sm B r) (hm : r.length = m) : 1 ≤ q := by
  have h1 := nval_lt hr
  rw [hm] at h1
  rcases Nat.eq_zero_or_pos q with h0 | h0
  · rw [h0] at h; omega
  · exact h0
theorem long_back1 {B D q n ov : Nat} {r1 r2 lv : List Nat} (hB : 1 < B) (h : nval B r1 + q * nval B lv = D + B ^ (n + 1) * 1) (s1 : Sm B r1) (s2 : Sm B r2) (sv : Sm B lv) (l1 : r1.length = n + 1) (l2 : r2.length = n + 1) (lv' : lv.length = n)
    (hqv : q * nval B lv < D + nval B lv) (hb : nval B r2 + B ^ (n + 1) * ov = nval B r1 + nval B lv) : 1 ≤ q ∧ nval B r2 < nval B lv ∧ D = nval B r2 + (q - 1) * nval B lv := by
  have h1 := nval_lt s1
  have h2 := nval_lt s2
  have h3 := nval_lt sv
  rw [l1] at h1
  rw [l2] at h2
  rw [lv'] at h3
  have h4 : B ^ n ≤ B ^ (n + 1) := Nat.pow_le_pow_right (by omega) (by omega)
  exact long_back (by simpa using h) h1 h2 hqv (by omega) hb
def SmallInv (B x : Nat) (A L : List Nat) (k r : Nat) : Prop :=
  L.length = A.length ∧ Sm B L ∧ r < x ∧ (∀ j, j < k → gd L j = gd A j) ∧ nval B (A.drop k) = nval B (L.drop k) * x + r
theorem SmallInv.start {B x : Nat} {A : List Nat} (hA : Sm B A) (hx : 0 < x) : SmallInv B x A A A.length 0 := ⟨rfl, hA, hx, fun _ _ => rfl, by simp [nval]⟩
theorem small_step {B g r x q d m : Nat} (h : x * d + m = r * B + g) : g + B * (q * x + r) = (d + B * q) * x + m := by grind
theorem SmallInv.step {B x : Nat} {A L : List Nat} {j r : Nat} (h : SmallInv B x A L (j + 1) r) (hB : 0 < B) (hA : Sm B A) (hj : j < A.length) :
    SmallInv B x A (L.set j ((r * B + gd A j) / x)) j ((r * B + gd A j) % x) := by
  obtain ⟨h1, h2, h3, h4, h5⟩ := h
  have hg : gd A j < B := hA.getD hB j
  have hd : (r * B + gd A j) / x < B := by
    rw [Nat.div_lt_iff_lt_mul (by omega)]
    have := Nat.mul_le_mul_right B (show r + 1 ≤ x from h3)
    rw [Nat.add_mul] at this
    have := Nat.mul_comm x B
    omega
  refine ⟨by rw [List.length_set]; exact h1, h2.set j hd, Nat.mod_lt _ (by omega), fun i hi => ?_, ?_⟩
  · rw [← h4 i (by omega)]
    simp [gd, List.getD_eq_getElem?_getD, List.getElem?_set_ne (show j ≠ i by omega)]
  · rw [nval_gd_drop A j, h5, nval_gd_drop (L.set j _) j, List.drop_set_of_lt (by omega)]
    have e : gd (L.set j ((r * B + gd A j) / x)) j = (r * B + gd A j) / x := by
      simp [gd, List.getD_eq_getElem?_getD, List.getElem?_set, h1, hj]
    rw [e]
    exact small_step (Nat.div_add_mod _ _)
theorem SmallInv.done {B x : Nat} {A L : List Nat} {r : Nat} (h : SmallInv B x A L 0 r) : nval B L = nval B A / x ∧ r = nval B A % x := by
  obtain ⟨h1, h2, h3, h4, h5⟩ := h
  simp only [List.drop_zero] at h5
  rw [h5, Nat.mul_comm, Nat.mul_add_div (by omega), Nat.div_eq_of_lt h3, Nat.mul_add_mod, Nat.mod_eq_of_lt h3]
  exact ⟨by omega, rfl⟩
theorem top_split {B : Nat} (l : List Nat) {n : Nat} (hl : l.length = n + 1) : nval B l = nval B (l.take n) + B ^ n * gd l n := by
  have := nval_take_gd B l n
  rwa [List.take_of_length_le (by omega)] at this
theorem take_lt_pow {B : Nat} (hB : 0 < B) {l : List Nat} (h : Sm B l) (n : Nat) : nval B (l.take n) < B ^ n :=
  Nat.lt_of_lt_of_le (nval_lt (h.take n)) (Nat.pow_le_pow_right hB (List.length_take_le _ _))
theorem norm_len {B t H n : Nat} {l2 lv : List Nat} (hB : 0 < B) (s2 : Sm B l2) (sv : Sm B lv) (nv : Nrm lv) (h2 : l2.length = n + 1) (hv : nval B lv = nval B l2 * t) (ht : (gd l2 n + 1) * t ≤ B) (hH : H ≤ gd l2 n * t) (hH0 : 0 < H) :
    lv.length = n + 1 ∧ H ≤ gd lv n := by
  have e2 := top_split (B := B) l2 h2
  have u2 := take_lt_pow hB s2 n
  have hlt : nval B lv < B ^ (n + 1) := by
    have h1 : nval B l2 < B ^ n * (gd l2 n + 1) := by rw [Nat.mul_add]; omega
    have ht0 : 0 < t := by
      rcases Nat.eq_zero_or_pos t with h0 | h0
      · rw [h0] at hH; omega
      · exact h0
    have h3 := Nat.mul_lt_mul_of_pos_right h1 ht0
    have h4 := Nat.mul_le_mul_left (B ^ n) ht
    rw [← Nat.mul_assoc] at h4
    rw [hv, Nat.pow_succ]; omega
  have hge : B ^ n * H ≤ nval B lv := by
    have h1 : B ^ n * gd l2 n ≤ nval B l2 := by omega
    have h3 := Nat.mul_le_mul_right t h1
    have h4 := Nat.mul_le_mul_left (B ^ n) hH
    rw [← Nat.mul_assoc] at h4
    rw [hv]; omega
  have hl1 := nv.len_le hB hlt
  have hl2 : n + 1 ≤ lv.length := by
    refine Nat.le_of_not_lt fun h => ?_
    have h1 := nval_lt sv
    have h3 : B ^ lv.length ≤ B ^ n := Nat.pow_le_pow_right hB (by omega)
    have h4 : B ^ n * 1 ≤ B ^ n * H := Nat.mul_le_mul_left _ hH0
    omega
  have hl : lv.length = n + 1 := by omega
  refine ⟨hl, ?_⟩
  have ev := top_split (B := B) lv hl
  have uv := take_lt_pow hB sv n
  refine Nat.le_of_not_lt fun h => ?_
  have h1 := Nat.mul_le_mul_left (B ^ n) (show gd lv n + 1 ≤ H from h)
  rw [Nat.mul_add] at h1
  omega
theorem shift_len {B t : Nat} {l1 lw : List Nat} (hB : 0 < B) (s1 : Sm B l1) (nw : Nrm lw) (hw : nval B lw = nval B l1 * t) (ht : t ≤ B) (ht0 : 0 < t) : lw.length ≤ l1.length + 1 := by
  refine nw.len_le hB ?_
  have h1 := Nat.mul_lt_mul_of_pos_right (nval_lt s1) ht0
  have h2 := Nat.mul_le_mul_left (B ^ l1.length) ht
  rw [hw, Nat.pow_succ]; omega
theorem high_lt {B t H n m : Nat} {l1 L lv : List Nat} (hB : 0 < B) (s1 : Sm B l1) (hL : nval B L = nval B l1 * t) (hm : m + n = l1.length) (hv : B ^ n * H ≤ nval B lv) (ht : t ≤ H) (ht0 : 0 < t) : nval B (L.drop m) < nval B lv := by
  have h1 := nval_split (B := B) L m
  have h2 := Nat.mul_lt_mul_of_pos_right (nval_lt s1) ht0
  have h3 := Nat.mul_le_mul_left (B ^ m) hv
  have h4 : B ^ l1.length * t ≤ B ^ m * (B ^ n * H) := by
    rw [← hm, Nat.pow_add, Nat.mul_assoc]
    exact Nat.mul_le_mul_left _ (Nat.mul_le_mul_left _ ht)
  refine Nat.lt_of_mul_lt_mul_left (a := B ^ m) ?_
  omega
theorem divmod_shift {x y t q r : Nat} (ht : 0 < t) (h : x * t = r + y * t * q) (hr : r < y * t) : q = x / y ∧ r / t = x % y := by
  have h1 : x * t / (y * t) = q := by
    rw [h, Nat.add_mul_div_left _ _ (by omega), Nat.div_eq_of_lt hr, Nat.zero_add]
  have h2 : x * t % (y * t) = r := by
    rw [h, Nat.add_mul_mod_self_left, Nat.mod_eq_of_lt hr]
  rw [Nat.mul_div_mul_right _ _ ht] at h1
  rw [Nat.mul_mod_mul_right] at h2
  exact ⟨h1.symm, by rw [← h2, Nat.mul_div_cancel _ ht]⟩
theorem top_ge {B n H : Nat} {lv : List Nat} (hl : lv.length = n + 1) (h : H ≤ gd lv n) : B ^ n * H ≤ nval B lv := by
  rw [top_split (B := B) lv hl]
  have := Nat.mul_le_mul_left (B ^ n) h
  omega
end QM

import Derived.Test.YtaocklkbijkhpaaH1
/- The language's grammar, and package parser's brackets. -/
set_option linter.unusedVariables false
set_option linter.unusedSimpArgs false
namespace Go.Proofs.Ytaocklkbijkhpaa
open Go.RowKit SX
/-- What a rule comes to: a node and the place behind it, or an error, its place, and what is left (a node, a place, how much is open). -/
inductive Res where
  | ok (n : Nd) (a : Nat)
  | bad (e p : Nat) (n : Nd) (a o : Nat)
abbrev Gr := Nat → Nat → Res
def mapR (f : Nd → Nd) : Res → Res
  | .ok n a => .ok (f n) a
  | .bad e p n a o => .bad e p (f n) a o
section
variable (K : Nat) (l : List Tok)
def thenS (r : Res) (o : Nat) (s : List UInt8) : Res := match r with
  | .ok n a => if isS l a s then .ok n (a + 1) else .bad 4 a n a o
  | .bad e p n a o' => .bad e p n a o'
def ins (k : Gr) : Gr := fun a o => if K < o + 1 then .bad 8 0 nd0 a (o + 1) else match k a (o + 1) with
  | .ok n a' => .ok n a'
  | .bad e p n a' o' => .bad e p n a' (o' - 1)
def listG (X : Gr) (e : List UInt8) : Nat → List Nd → Gr
  | 0, _ => fun a o => .bad 4 a nd0 a o
  | m + 1, ks => fun a o => match X a o with
    | .bad c p n a' o' => .bad c p (.mk 0 [] (ks ++ [n])) a' o'
    | .ok n a' => if isS l a' e then .ok (.mk 0 [] (ks ++ [n])) (a' + 1) else if isS l a' [44] then listG X e m (ks ++ [n]) (a' + 1) o else .bad 4 a' (.mk 0 [] (ks ++ [n])) a' o
def listE (X : Gr) (e : List UInt8) : Gr := fun a o => if isS l a e then .ok (.mk 0 [] []) (a + 1) else listG l X e (l.length + 1) [] a o
def matG (X : Gr) : Nat → List Nd → List Nd → Gr
  | 0, _, _ => fun a o => .bad 4 a nd0 a o
  | m + 1, rs, r => fun a o => match X a o with
    | .bad c p n a' o' => .bad c p (.mk 14 [] (rs ++ [.mk 15 [] (r ++ [n])])) a' o'
    | .ok n a' => if isS l a' [44] then matG X m rs (r ++ [n]) (a' + 1) o else if isS l a' [59] then matG X m (rs ++ [.mk 15 [] (r ++ [n])]) [] (a' + 1) o
      else if isS l a' [93] then .ok (.mk 14 [] (rs ++ [.mk 15 [] (r ++ [n])])) (a' + 1) else .bad 4 a' (.mk 14 [] (rs ++ [.mk 15 [] (r ++ [n])])) a' o
def primG (X : Gr) : Gr := fun a o => match l[a]? with
  | none => .bad 4 a nd0 a o
  | some t => if t.kind = 1 then .ok (.mk 1 t.text []) (a + 1)
    else if isNm l a then (if isS l (a + 1) [40] then ins K (fun a o => mapR (fun n => .mk 13 t.text n.kids) (listE l X [41] a o)) (a + 2) o else .ok (.mk 2 t.text []) (a + 1))
    else if isS l a [40] then ins K (fun a o => thenS l (X a o) o [41]) (a + 1) o
    else if isS l a [91] then ins K (fun a o => matG l X (l.length + 1) [] [] a o) (a + 1) o
    else if isS l a [123] then ins K (fun a o => mapR (fun n => .mk 16 [] n.kids) (listE l X [125] a o)) (a + 1) o
    else .bad 4 a nd0 a o
def itemG (X : Gr) (n : Nd) : Gr := fun a o => match X a o with
  | .bad e p m a' o' => .bad e p (.mk 17 [] [n, m]) a' o'
  | .ok m a' => if isS l a' [44] then thenS l (mapR (fun m2 => .mk 17 [] [n, m, m2]) (X (a' + 1) o)) o [93]
    else thenS l (.ok (.mk 17 [] [n, m]) a') o [93]
def postG (X : Gr) : Nat → Nd → Gr
  | 0, _ => fun a o => .bad 4 a nd0 a o
  | k + 1, n => fun a o => if isS l a [91] then (match ins K (itemG l X n) (a + 1) o with
      | .bad e p n' a' o' => .bad e p n' a' o'
      | .ok n' a' => postG X k n' a' o)
    else .ok n a
def postF (X : Gr) : Gr := fun a o => match primG K l X a o with
  | .bad e p n a' o' => .bad e p n a' o'
  | .ok n a' => postG K l X (l.length + 1) n a' o
def powG (X U : Gr) : Gr := fun a o => match postF K l X a o with
  | .bad e p n a' o' => .bad e p n a' o'
  | .ok n a' => if isS l a' [94] then mapR (fun m => .mk 8 [] [n, m]) (U (a' + 1) o) else .ok n a'
def unG (X U : Gr) : Gr := fun a o => if isS l a [45] then ins K (fun a o => mapR (fun m => .mk 3 [] [m]) (U a o)) (a + 1) o else powG K l X U a o
def chainG (S : Gr) (s1 : List UInt8) (x : Nat) (s2 : List UInt8) (y : Nat) : Nat → Nd → Gr
  | 0, _ => fun a o => .bad 4 a nd0 a o
  | m + 1, n => fun a o => if isS l a s1 then (match S (a + 1) o with
      | .bad e p k a' o' => .bad e p (.mk x [] [n, k]) a' o'
      | .ok k a' => chainG S s1 x s2 y m (.mk x [] [n, k]) a' o)
    else if isS l a s2 then (match S (a + 1) o with
      | .bad e p k a' o' => .bad e p (.mk y [] [n, k]) a' o'
      | .ok k a' => chainG S s1 x s2 y m (.mk y [] [n, k]) a' o)
    else .ok n a
def chnF (S : Gr) (s1 : List UInt8) (x : Nat) (s2 : List UInt8) (y : Nat) : Gr := fun a o => match S a o with
  | .bad e p n a' o' => .bad e p n a' o'
  | .ok n a' => chainG l S s1 x s2 y (l.length + 1) n a' o
def prodG (U : Gr) : Gr := chnF l U [42] 6 [47] 7
def sumG (U : Gr) : Gr := chnF l (prodG l U) [43] 4 [45] 5
def expG (U : Gr) : Gr := fun a o => match sumG l U a o with
  | .bad e p n a' o' => .bad e p n a' o'
  | .ok n a' => if isS l a' [61, 61] then mapR (fun m => .mk 9 [] [n, m]) (sumG l U (a' + 1) o) else if isS l a' [33, 61] then mapR (fun m => .mk 10 [] [n, m]) (sumG l U (a' + 1) o)
    else if isS l a' [60] then mapR (fun m => .mk 11 [] [n, m]) (sumG l U (a' + 1) o) else if isS l a' [60, 61] then mapR (fun m => .mk 12 [] [n, m]) (sumG l U (a' + 1) o) else .ok n a'
/-- Expressions, and what may bear a minus, so many levels deep. -/
def lev : Nat → Gr × Gr
  | 0 => (fun a o => .bad 4 a nd0 a o, fun a o => .bad 4 a nd0 a o)
  | n + 1 => (expG l (unG K l (lev n).1 (lev n).2), unG K l (lev n).1 (lev n).2)
end
/-- A call's contract by what a rule comes to; 'res': how the node is told, 'ex': the variables that a closure sees. -/
def CR (res : Nd → AV) (f : FuncId) (args : List AV) (ex : List (Nat × Ent)) (l : List Tok) (a o : Nat) : Res → Prop
  | .ok n a' => CallOK Try.prog f args ((29, PG l a o) :: ex) ⟨res n, (29, .ent (PG l a' o)) :: ex.map fun p => (p.1, .ent p.2)⟩
  | .bad e p n a' o' => CallOK Try.prog f args ((29, PG l a o) :: ex) ⟨res n, (29, .ent (PE l a' o' e p)) :: ex.map fun p => (p.1, .ent p.2)⟩

mutual
def cnt : Nd → Nat
  | .mk _ _ ks => 1 + cntL ks
def cntL : List Nd → Nat
  | [] => 0
  | k :: ks => cnt k + cntL ks
end
theorem cntL_append : ∀ ks ms : List Nd, cntL (ks ++ ms) = cntL ks + cntL ms
  | [], ms => by simp [cntL]
  | k :: ks, ms => by simp [cntL, cntL_append ks ms]; omega
theorem cnt_pos : ∀ n : Nd, 1 ≤ cnt n
  | .mk _ _ _ => by rw [cnt]; omega
theorem cnt_mk (x : Nat) (t : List UInt8) (ks : List Nd) : cnt (.mk x t ks) = 1 + cntL ks := by rw [cnt]
theorem cntL_cons (k : Nd) (ks : List Nd) : cntL (k :: ks) = cnt k + cntL ks := by rw [cntL]
theorem cntL_nil : cntL [] = 0 := by rw [cntL]
theorem len_cntL : ∀ ks : List Nd, ks.length ≤ cntL ks
  | [] => by simp [cntL]
  | k :: ks => by have := len_cntL ks; have := cnt_pos k; simp [cntL]; omega
/-- How far a rule comes: c tokens more than there are new nodes, s nodes are old; what is open behind an error. -/
def AdvR (s c k : Nat) (l : List Tok) (a o : Nat) : Res → Prop
  | .ok n a' => a + cnt n + c ≤ a' + s ∧ a ≤ a' ∧ a' ≤ l.length
  | .bad _ _ _ _ o' => o ≤ o' ∧ o' ≤ o + k
/-- What is open behind an error. -/
def AdvO (k o : Nat) : Res → Prop
  | .ok _ _ => True
  | .bad _ _ _ _ o' => o ≤ o' ∧ o' ≤ o + k
def Adv (k : Nat) (l : List Tok) (m : Nat) (g : Gr) : Prop := ∀ a o, m ≤ a → a ≤ l.length → AdvR 0 0 k l a o (g a o)
abbrev rNd (n : Nd) : AV := .agg (ndA n)
abbrev rKs (n : Nd) : AV := .r (rowR 3 ndC n.kids)
abbrev PP : Ent := .box 59 [.ptr 29 0]
abbrev NB (n : Nd) : Ent := .box 58 (ndA n)
abbrev KB (t : Tok) : Ent := .box 28 (tokA t)
abbrev fnA (f : FuncId) (cap : List (Nat × Nat)) : AV := .it (.one (.clo f cap))
abbrev bnA (f : FuncId) : AV := .it (.one (.bnd f 29))
attribute [local irreducible] IntKind.wrap Go1 Reg WP thenK inBlk retQ retF RetF RetOK ResOK CallOK OpOK Sat
theorem c_insA {f : FuncId} {l : List Tok} {a o : Nat} {k : Gr} (ho : o ≤ 600) (hk : o + 1 ≤ 600 → CR rNd f [.ptr 81 0] [(81, PP)] l a (o + 1) (k a (o + 1)) ∧ AdvO 2 (o + 1) (k a (o + 1))) :
    CR rNd 68 [.ptr 29 0, fnA f [(81, 0)]] [(81, PP)] l a o (ins 600 k a o) := by
  unfold ins
  by_cases h : 600 < o + 1
  · rw [if_pos h]
    have c := c_enterF l a h (by omega)
    show CallOK _ _ _ _ _
    refine CallOK.fnF Try.func68 Try.results68 Try.ntmps68 rfl rfl rfl rfl (fun w0 T B E0 hB => ?_)
    refine SX.goP ?_
    exact retNd (ResOK.agg3 rfl rfl rfl) (imp_nd rfl rfl) ⟨rfl, rfl, trivial⟩
  · rw [if_neg h]
    have c := c_enterT l a (o := o) (by omega)
    obtain ⟨hk, hb⟩ := hk (by omega)
    cases hr : k a (o + 1) with
    | ok n a' =>
      rw [hr] at hk
      unfold CR at hk
      show CallOK _ _ _ _ _
      refine CallOK.fnF Try.func68 Try.results68 Try.ntmps68 rfl rfl rfl rfl (fun w0 T B E0 hB => ?_)
      refine SX.goP ?_
      exact retNd (ResOK.agg3 rfl rfl rfl) (AV0.imp.refl _) ⟨rfl, rfl, trivial⟩
    | bad e p n a' o' =>
      rw [hr] at hk hb
      unfold CR at hk
      unfold AdvO at hb
      show CallOK _ _ _ _ _
      refine CallOK.fnF Try.func68 Try.results68 Try.ntmps68 rfl rfl rfl rfl (fun w0 T B E0 hB => ?_)
      refine SX.goP ?_
      exact retNd (ResOK.agg3 rfl rfl rfl) (AV0.imp.refl _) ⟨rfl, rfl, trivial⟩
theorem c_insB {f : FuncId} {l : List Tok} {a o : Nat} {k : Gr} {N : Nd} (ho : o ≤ 600) (hk : o + 1 ≤ 600 → CR rNd f [.ptr 83 0, .ptr 81 0] [(81, PP), (83, NB N)] l a (o + 1) (k a (o + 1)) ∧ AdvO 2 (o + 1) (k a (o + 1))) :
    CR rNd 68 [.ptr 29 0, fnA f [(83, 0), (81, 0)]] [(81, PP), (83, NB N)] l a o (ins 600 k a o) := by
  unfold ins
  by_cases h : 600 < o + 1
  · rw [if_pos h]
    have c := c_enterF l a h (by omega)
    show CallOK _ _ _ _ _
    refine CallOK.fnF Try.func68 Try.results68 Try.ntmps68 rfl rfl rfl rfl (fun w0 T B E0 hB => ?_)
    refine SX.goP ?_
    exact retNd (ResOK.agg3 rfl rfl rfl) (imp_nd rfl rfl) ⟨rfl, rfl, rfl, trivial⟩
  · rw [if_neg h]
    have c := c_enterT l a (o := o) (by omega)
    obtain ⟨hk, hb⟩ := hk (by omega)
    cases hr : k a (o + 1) with
    | ok n a' =>
      rw [hr] at hk
      unfold CR at hk
      show CallOK _ _ _ _ _
      refine CallOK.fnF Try.func68 Try.results68 Try.ntmps68 rfl rfl rfl rfl (fun w0 T B E0 hB => ?_)
      refine SX.goP ?_
      exact retNd (ResOK.agg3 rfl rfl rfl) (AV0.imp.refl _) ⟨rfl, rfl, rfl, trivial⟩
    | bad e p n a' o' =>
      rw [hr] at hk hb
      unfold CR at hk
      unfold AdvO at hb
      show CallOK _ _ _ _ _
      refine CallOK.fnF Try.func68 Try.results68 Try.ntmps68 rfl rfl rfl rfl (fun w0 T B E0 hB => ?_)
      refine SX.goP ?_
      exact retNd (ResOK.agg3 rfl rfl rfl) (AV0.imp.refl _) ⟨rfl, rfl, rfl, trivial⟩
theorem c_insC {f : FuncId} {l : List Tok} {a o : Nat} {k : Gr} {t : Tok} (ho : o ≤ 600) (hk : o + 1 ≤ 600 → CR rNd f [.ptr 82 0, .ptr 81 0] [(81, PP), (82, KB t)] l a (o + 1) (k a (o + 1)) ∧ AdvO 2 (o + 1) (k a (o + 1))) :
    CR rNd 68 [.ptr 29 0, fnA f [(82, 0), (81, 0)]] [(81, PP), (82, KB t)] l a o (ins 600 k a o) := by
  unfold ins
  by_cases h : 600 < o + 1
  · rw [if_pos h]
    have c := c_enterF l a h (by omega)
    show CallOK _ _ _ _ _
    refine CallOK.fnF Try.func68 Try.results68 Try.ntmps68 rfl rfl rfl rfl (fun w0 T B E0 hB => ?_)
    refine SX.goP ?_
    exact retNd (ResOK.agg3 rfl rfl rfl) (imp_nd rfl rfl) ⟨rfl, rfl, rfl, trivial⟩
  · rw [if_neg h]
    have c := c_enterT l a (o := o) (by omega)
    obtain ⟨hk, hb⟩ := hk (by omega)
    cases hr : k a (o + 1) with
    | ok n a' =>
      rw [hr] at hk
      unfold CR at hk
      show CallOK _ _ _ _ _
      refine CallOK.fnF Try.func68 Try.results68 Try.ntmps68 rfl rfl rfl rfl (fun w0 T B E0 hB => ?_)
      refine SX.goP ?_
      exact retNd (ResOK.agg3 rfl rfl rfl) (AV0.imp.refl _) ⟨rfl, rfl, rfl, trivial⟩
    | bad e p n a' o' =>
      rw [hr] at hk hb
      unfold CR at hk
      unfold AdvO at hb
      show CallOK _ _ _ _ _
      refine CallOK.fnF Try.func68 Try.results68 Try.ntmps68 rfl rfl rfl rfl (fun w0 T B E0 hB => ?_)
      refine SX.goP ?_
      exact retNd (ResOK.agg3 rfl rfl rfl) (AV0.imp.refl _) ⟨rfl, rfl, rfl, trivial⟩
theorem c_insD {f : FuncId} {l : List Tok} {a o : Nat} {k : Gr} (ho : o ≤ 600) (hk : o + 1 ≤ 600 → CR rNd f [.ptr 29 0] [] l a (o + 1) (k a (o + 1)) ∧ AdvO 2 (o + 1) (k a (o + 1))) :
    CR rNd 68 [.ptr 29 0, bnA f] [] l a o (ins 600 k a o) := by
  unfold ins
  by_cases h : 600 < o + 1
  · rw [if_pos h]
    have c := c_enterF l a h (by omega)
    show CallOK _ _ _ _ _
    refine CallOK.fnF Try.func68 Try.results68 Try.ntmps68 rfl rfl rfl rfl (fun w0 T B E0 hB => ?_)
    refine SX.goP ?_
    exact retNd (ResOK.agg3 rfl rfl rfl) (imp_nd rfl rfl) ⟨rfl, trivial⟩
  · rw [if_neg h]
    have c := c_enterT l a (o := o) (by omega)
    obtain ⟨hk, hb⟩ := hk (by omega)
    cases hr : k a (o + 1) with
    | ok n a' =>
      rw [hr] at hk
      unfold CR at hk
      show CallOK _ _ _ _ _
      refine CallOK.fnF Try.func68 Try.results68 Try.ntmps68 rfl rfl rfl rfl (fun w0 T B E0 hB => ?_)
      refine SX.goP ?_
      exact retNd (ResOK.agg3 rfl rfl rfl) (AV0.imp.refl _) ⟨rfl, trivial⟩
    | bad e p n a' o' =>
      rw [hr] at hk hb
      unfold CR at hk
      unfold AdvO at hb
      show CallOK _ _ _ _ _
      refine CallOK.fnF Try.func68 Try.results68 Try.ntmps68 rfl rfl rfl rfl (fun w0 T B E0 hB => ?_)
      refine SX.goP ?_
      exact retNd (ResOK.agg3 rfl rfl rfl) (AV0.imp.refl _) ⟨rfl, trivial⟩
theorem c_insE {f : FuncId} {l : List Tok} {a o e p : Nat} (ho : o ≤ 1000000) :
    CallOK Try.prog 68 [.ptr 29 0, fnA f [(81, 0)]] [(29, PE l a o e p), (81, PP)] ⟨rNd nd0, [(29, .ent (PE l a (o + 1) e p)), (81, .ent PP)]⟩ := by
  have c := c_enterE l a e p ho
  refine CallOK.fnF Try.func68 Try.results68 Try.ntmps68 rfl rfl rfl rfl (fun w0 T B E0 hB => ?_)
  refine SX.goP ?_
  exact retNd (ResOK.agg3 rfl rfl rfl) (imp_nd rfl rfl) ⟨rfl, rfl, trivial⟩
/-- A rule's contract from a place on. -/
def GOK (f : FuncId) (l : List Tok) (m : Nat) (g : Gr) : Prop := ∀ a o, m ≤ a → a ≤ l.length → o ≤ 600 → CR rNd f [.ptr 29 0] [] l a o (g a o)
/-- The same call behind an error. -/
def GE (f : FuncId) (l : List Tok) : Prop := ∀ a o e p, CallOK Try.prog f [.ptr 29 0] [(29, PE l a o e p)] ⟨rNd nd0, [(29, .ent (PE l a o e p))]⟩
theorem CR.ok {res : Nd → AV} {f : FuncId} {args : List AV} {ex : List (Nat × Ent)} {l : List Tok} {a o : Nat} {n : Nd} {a' : Nat} (h : CR res f args ex l a o (.ok n a')) : CallOK Try.prog f args ((29, PG l a o) :: ex) ⟨res n, (29, .ent (PG l a' o)) :: ex.map fun p => (p.1, .ent p.2)⟩ := h
theorem CR.bad {res : Nd → AV} {f : FuncId} {args : List AV} {ex : List (Nat × Ent)} {l : List Tok} {a o : Nat} {n : Nd} {e p a' o' : Nat} (h : CR res f args ex l a o (.bad e p n a' o')) : CallOK Try.prog f args ((29, PG l a o) :: ex) ⟨res n, (29, .ent (PE l a' o' e p)) :: ex.map fun p => (p.1, .ent p.2)⟩ := h
/-- The rules come forward. -/
theorem AdvR.open {s c k : Nat} {l : List Tok} {a o : Nat} {r : Res} (h : AdvR s c k l a o r) : AdvO k o r := by
  cases r with
  | ok n a' => trivial
  | bad e p n a' o' => exact h
theorem AdvO.mono {k k' o : Nat} {r : Res} (h : AdvO k o r) (hk : k ≤ k') : AdvO k' o r := by
  cases r with
  | ok n a' => trivial
  | bad e p n a' o' => exact ⟨h.1, by have := h.2; omega⟩
theorem AdvR.mono {s c k s' c' k' : Nat} {l : List Tok} {a o a2 : Nat} {r : Res} (h : AdvR s c k l a2 o r) (hk : k ≤ k') (ha : a ≤ a2) (hc : a + c' + s ≤ a2 + c + s') : AdvR s' c' k' l a o r := by
  cases r with
  | ok n a' => exact ⟨by have := h.1; omega, by have := h.2.1; omega, h.2.2⟩
  | bad e p n a' o' => exact ⟨h.1, by have := h.2; omega⟩
theorem adv_map {f : Nd → Nd} {s s' c c' k : Nat} {l : List Tok} {a o : Nat} {r : Res} (h : AdvR s c k l a o r) (hf : ∀ n, cnt (f n) + c' + s ≤ cnt n + c + s') : AdvR s' c' k l a o (mapR f r) := by
  cases r with
  | ok n a' => exact ⟨by have := h.1; have := hf n; omega, h.2⟩
  | bad e p n a' o' => exact h
theorem adv_then {s c k : Nat} {l : List Tok} {a o : Nat} {r : Res} {t : List UInt8} (h : AdvR s c k l a o r) : AdvR s (c + 1) k l a o (thenS l r o t) := by
  cases r with
  | ok n a' =>
    unfold thenS
    dsimp only
    split
    · rename_i hs; exact ⟨by have := h.1; omega, by have := h.2.1; omega, isS_lt hs⟩
    · exact ⟨Nat.le_refl _, by omega⟩
  | bad e p n a' o' => exact h
theorem adv_ins {K s c k : Nat} {l : List Tok} {a o : Nat} {g : Gr} (hk : 1 ≤ k) (h : AdvR s c k l a (o + 1) (g a (o + 1))) : AdvR s c k l a o (ins K g a o) := by
  unfold ins
  split
  · exact ⟨by omega, by omega⟩
  · cases hr : g a (o + 1) with
    | ok n a' => rw [hr] at h; exact h
    | bad e p n a' o' => rw [hr] at h; exact ⟨by have := h.1; omega, by have := h.2; omega⟩
end Go.Proofs.Ytaocklkbijkhpaa

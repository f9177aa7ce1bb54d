import Derived.Test.YtlojipipibebaaaDoorM5
import Derived.Test.YtlojipipibebaaaDoorM9
import Derived.Test.YtlojipipibebaaaDoorRows
import Derived.Lib.LaidIn
import Derived.Lib.LaidU8
import Derived.Test.YtlojipipibebaaaDoorM4
/- What is parsed may be printed, and is not much longer then. Plain Lean, over the grammar. -/
set_option linter.unusedVariables false
set_option linter.unusedSimpArgs false
namespace Go.Proofs.YtlojipipibebaaaDoor
open Go.RowKit SX
def pl (n : Nd) : Nat := (txtW (prE n)).length
def sl (n : Nd) : Nat := (txtW (sideW n)).length
def tl (n : Nd) : Nat := (txtW (pnS n)).length
def wl : List Nd → Nat
  | [] => 0
  | k :: ks => pl k + 2 + wl ks
def rl : List Nd → Nat
  | [] => 0
  | r :: rs => wl r.kids + rl rs
def fl : List Nd → Nat
  | [] => 0
  | k :: ks => tl k + fl ks
theorem wl_app : ∀ ks ms : List Nd, wl (ks ++ ms) = wl ks + wl ms
  | [], ms => by simp [wl]
  | k :: ks, ms => by simp [wl, wl_app ks ms]; omega
theorem rl_app : ∀ ks ms : List Nd, rl (ks ++ ms) = rl ks + rl ms
  | [], ms => by simp [rl]
  | k :: ks, ms => by simp [rl, rl_app ks ms]; omega
theorem fl_app : ∀ ks ms : List Nd, fl (ks ++ ms) = fl ks + fl ms
  | [], ms => by simp [fl]
  | k :: ks, ms => by simp [fl, fl_app ks ms]; omega
theorem sl_pl (n : Nd) : pl n ≤ sl n ∧ sl n ≤ pl n + 4 ∧ (atm n.op = true → sl n = pl n) := by
  unfold sl pl sideW
  cases h : atm n.op with
  | true => simp
  | false =>
    rw [if_neg (by decide), txtW_cons, txtW_app]
    simp only [List.length_append, List.length_cons]
    have h1 : (txtW [sg [41]]).length = 2 := rfl
    rw [h1]
    refine ⟨by omega, by simp; omega, fun h => by cases h⟩
theorem jl_wl : ∀ ks : List Nd, (txtW (jE ks)).length ≤ wl ks ∧ (ks ≠ [] → (txtW (jE ks)).length + 2 ≤ wl ks)
  | [] => ⟨by simp [jE, joinW, txtW, wl], fun h => absurd rfl h⟩
  | [k] => by
    have : (txtW (jE [k])).length = pl k := rfl
    rw [this]; simp [wl]
  | k :: k2 :: ks => by
    have h := (jl_wl (k2 :: ks)).2 (by simp)
    have e : jE (k :: k2 :: ks) = prE k ++ sg [44] :: jE (k2 :: ks) := rfl
    rw [e, txtW_app, txtW_cons]
    have e2 : wl (k :: k2 :: ks) = pl k + 2 + wl (k2 :: ks) := rfl
    rw [e2]
    have e3 : (txtW (prE k)).length = pl k := rfl
    simp only [List.length_append, List.length_cons, List.length_nil]
    omega
theorem ml_rl : ∀ rs : List Nd, (∀ r ∈ rs, okR r = true) → (txtW (joinW (sg [59]) (rs.map prE))).length ≤ rl rs ∧ (rs ≠ [] → (txtW (joinW (sg [59]) (rs.map prE))).length + 2 ≤ rl rs)
  | [], _ => ⟨by simp [joinW, txtW, rl], fun h => absurd rfl h⟩
  | [r], h => by
    obtain ⟨ks, rfl, h0, _⟩ := okR_mk (h r (by simp))
    have e : joinW (sg [59]) ([Nd.mk 15 [] ks].map prE) = jE ks := by rw [List.map_cons, List.map_nil, joinW_one, prE_row]
    rw [e]
    have h1 := (jl_wl ks).2 h0
    have e2 : rl [Nd.mk 15 [] ks] = wl ks + 0 := rfl
    rw [e2]
    exact ⟨by omega, fun _ => by omega⟩
  | r :: r2 :: rs, h => by
    obtain ⟨ks, rfl, h0, _⟩ := okR_mk (h r (by simp))
    have h2 := (ml_rl (r2 :: rs) (fun x hx => h x (by simp at hx ⊢; exact .inr hx))).2 (by simp)
    have e : joinW (sg [59]) ((Nd.mk 15 [] ks :: r2 :: rs).map prE) = jE ks ++ sg [59] :: joinW (sg [59]) ((r2 :: rs).map prE) := by rw [List.map_cons, List.map_cons, joinW_cons2, prE_row]
    rw [e, txtW_app, txtW_cons]
    have h1 := (jl_wl ks).2 h0
    have e2 : rl (Nd.mk 15 [] ks :: r2 :: rs) = wl ks + rl (r2 :: rs) := rfl
    rw [e2]
    simp only [List.length_append, List.length_cons, List.length_nil]
    exact ⟨by omega, fun _ => by omega⟩
theorem num_own {s : List UInt8} (h : num s = true) : ownB s = false := by
  cases ho : ownB s with
  | false => rfl
  | true =>
    rcases own_cases ho with rfl | rfl | rfl
    all_goals (revert h; decide +kernel)
theorem tx1 {t : Tok} (ht : isTok t = true) (hk : t.kind = 1) : tx 1 t.text = true := by
  unfold tx
  rw [isTok_eq] at ht ⊢
  rw [if_pos hk] at ht
  rw [if_pos rfl]
  show (num t.text && !ownB t.text) = true
  rw [ht, num_own ht]; rfl
theorem tx2 {t : Tok} (ht : isTok t = true) (hk : t.kind = 2) (ho : ownB t.text = false) : tx 2 t.text = true := by
  unfold tx
  rw [isTok_eq] at ht ⊢
  rw [if_neg (by omega), if_pos hk] at ht
  rw [if_neg (show ¬ (2 : Int) = 1 by decide), if_pos rfl]
  show (nam t.text && !ownB t.text) = true
  rw [ht, ho]; rfl
/-- An expression that was read from a place to another. -/
def EQ (a a' : Nat) (n : Nd) : Prop := (okE n = true ∧ txN n = true) ∧ a ≤ a' ∧ sl n + 54 * a ≤ 54 * a' + 47
def GQ (X : Gr) : Prop := ∀ a o n a', X a o = .ok n a' → EQ a a' n
def AQ (ks : List Nd) : Prop := ∀ k ∈ ks, okE k = true ∧ txN k = true
theorem AQ.snoc {ks : List Nd} {n : Nd} (h : AQ ks) (hn : okE n = true ∧ txN n = true) : AQ (ks ++ [n]) := fun k hk => by
  rcases List.mem_append.1 hk with hk | hk
  · exact h k hk
  · simp at hk; subst hk; exact hn
theorem AQ.tx {ks : List Nd} (h : AQ ks) : ks.all txN = true := List.all_eq_true.2 fun k hk => (h k hk).2
theorem AQ.ok {ks : List Nd} (h : AQ ks) : ks.all okE = true := List.all_eq_true.2 fun k hk => (h k hk).1
theorem wl1 (n : Nd) : wl [n] = pl n + 2 := rfl
section
variable {l : List Tok}
theorem gq_list {X : Gr} {e : List UInt8} (h : GQ X) : ∀ (m : Nat) (ks : List Nd) (a o : Nat) (n : Nd) (a' : Nat), AQ ks → listG l X e m ks a o = .ok n a' → ∃ ks', n = .mk 0 [] ks' ∧ AQ ks' ∧ a ≤ a' ∧ wl ks' + 54 * a ≤ wl ks + 54 * a'
  | 0, ks, a, o, n, a', _, hr => by cases hr
  | m + 1, ks, a, o, n, a', hk, hr => by
    unfold listG at hr
    cases hx : X a o with
    | bad c p n' b o' => rw [hx] at hr; cases hr
    | ok n1 a1 =>
      rw [hx] at hr
      obtain ⟨h1, h2, h3⟩ := h a o n1 a1 hx
      have h4 := (sl_pl n1).1
      have hr : (if isS l a1 e then Res.ok (.mk 0 [] (ks ++ [n1])) (a1 + 1) else if isS l a1 [44] then listG l X e m (ks ++ [n1]) (a1 + 1) o else .bad 4 a1 (.mk 0 [] (ks ++ [n1])) a1 o) = .ok n a' := hr
      split at hr
      · cases hr
        exact ⟨ks ++ [n1], rfl, hk.snoc h1, by omega, by rw [wl_app, wl1]; omega⟩
      · split at hr
        · obtain ⟨ks', g1, g2, g3, g4⟩ := gq_list h m (ks ++ [n1]) (a1 + 1) o n a' (hk.snoc h1) hr
          rw [wl_app, wl1] at g4
          exact ⟨ks', g1, g2, by omega, by omega⟩
        · cases hr
theorem gq_listE {X : Gr} {e : List UInt8} (h : GQ X) {a o : Nat} {n : Nd} {a' : Nat} (hr : listE l X e a o = .ok n a') : ∃ ks', n = .mk 0 [] ks' ∧ AQ ks' ∧ a ≤ a' ∧ wl ks' + 54 * a ≤ 54 * a' := by
  unfold listE at hr
  split at hr
  · cases hr
    exact ⟨[], rfl, (fun k hk => by cases hk), by omega, by show 0 + _ ≤ _; omega⟩
  · obtain ⟨ks', g1, g2, g3, g4⟩ := gq_list h _ [] a o n a' (fun k hk => by cases hk) hr
    exact ⟨ks', g1, g2, g3, by simp [wl] at g4; omega⟩
theorem okR_of {ks : List Nd} (h : AQ ks) (h0 : ks ≠ []) : okR (.mk 15 [] ks) = true ∧ txN (.mk 15 [] ks) = true := by
  refine ⟨?_, by rw [txN_mk, h.tx]; rfl⟩
  rw [okR, okEL_all, h.ok]
  cases ks with
  | nil => exact absurd rfl h0
  | cons => rfl
theorem gq_mat {X : Gr} (h : GQ X) : ∀ (m : Nat) (rs ks : List Nd) (a o : Nat) (n : Nd) (a' : Nat), (∀ r ∈ rs, okR r = true ∧ txN r = true) → AQ ks → matG l X m rs ks a o = .ok n a' → ∃ rs', n = .mk 14 [] rs' ∧ rs' ≠ [] ∧ (∀ r ∈ rs', okR r = true ∧ txN r = true) ∧ a ≤ a' ∧ rl rs' + 54 * a ≤ rl rs + wl ks + 54 * a'
  | 0, rs, ks, a, o, n, a', _, _, hr => by cases hr
  | m + 1, rs, ks, a, o, n, a', hrs, hk, hr => by
    rw [matG] at hr
    dsimp only at hr
    cases hx : X a o with
    | bad c p n' b o' => rw [hx] at hr; cases hr
    | ok n1 a1 =>
      rw [hx] at hr
      obtain ⟨h1, h2, h3⟩ := h a o n1 a1 hx
      have h4 := (sl_pl n1).1
      have hrow := okR_of (hk.snoc h1) (by simp)
      have hsn : ∀ r ∈ rs ++ [Nd.mk 15 [] (ks ++ [n1])], okR r = true ∧ txN r = true := fun r hr => by
        rcases List.mem_append.1 hr with hr | hr
        · exact hrs r hr
        · simp at hr; subst hr; exact hrow
      have e1 : rl [Nd.mk 15 [] (ks ++ [n1])] = wl (ks ++ [n1]) + 0 := rfl
      have hr : (if isS l a1 [44] then matG l X m rs (ks ++ [n1]) (a1 + 1) o else if isS l a1 [59] then matG l X m (rs ++ [Nd.mk 15 [] (ks ++ [n1])]) [] (a1 + 1) o
        else if isS l a1 [93] then Res.ok (.mk 14 [] (rs ++ [Nd.mk 15 [] (ks ++ [n1])])) (a1 + 1) else .bad 4 a1 (.mk 14 [] (rs ++ [Nd.mk 15 [] (ks ++ [n1])])) a1 o) = .ok n a' := hr
      split at hr
      · obtain ⟨rs', g1, g0, g2, g3, g4⟩ := gq_mat h m rs (ks ++ [n1]) (a1 + 1) o n a' hrs (hk.snoc h1) hr
        rw [wl_app, wl1] at g4
        exact ⟨rs', g1, g0, g2, by omega, by omega⟩
      · split at hr
        · obtain ⟨rs', g1, g0, g2, g3, g4⟩ := gq_mat h m (rs ++ [Nd.mk 15 [] (ks ++ [n1])]) [] (a1 + 1) o n a' hsn (fun k hk => by cases hk) hr
          rw [rl_app, e1, wl_app, wl1] at g4
          simp only [wl] at g4
          exact ⟨rs', g1, g0, g2, by omega, by omega⟩
        · split at hr
          · cases hr
            refine ⟨_, rfl, by simp, hsn, by omega, ?_⟩
            rw [rl_app, e1, wl_app, wl1]; omega
          · cases hr
theorem ins_inv {K : Nat} {k : Gr} {a o : Nat} {n : Nd} {a' : Nat} (h : ins K k a o = .ok n a') : k a (o + 1) = .ok n a' := by
  unfold ins at h
  split at h
  · cases h
  · cases hk : k a (o + 1) with
    | ok n1 a1 => rw [hk] at h; cases h; rfl
    | bad e p n1 a1 o1 => rw [hk] at h; cases h
theorem map_inv {f : Nd → Nd} {r : Res} {n : Nd} {a' : Nat} (h : mapR f r = .ok n a') : ∃ m, r = .ok m a' ∧ n = f m := by
  cases r with
  | ok m a1 => cases h; exact ⟨m, rfl, rfl⟩
  | bad e p m a1 o1 => cases h
theorem then_inv {r : Res} {o : Nat} {s : List UInt8} {n : Nd} {a' : Nat} (h : thenS l r o s = .ok n a') : ∃ a1, r = .ok n a1 ∧ a' = a1 + 1 := by
  cases r with
  | ok m a1 =>
    have h : (if isS l a1 s then Res.ok m (a1 + 1) else .bad 4 a1 m a1 o) = .ok n a' := h
    split at h
    · cases h; exact ⟨a1, rfl, rfl⟩
    · cases h
  | bad e p m a1 o1 => cases h
/-- Made nodes. -/
theorem mkE2 {o : Int} (ho : 4 ≤ o ∧ o ≤ 12) {n m : Nd} (hn : okE n = true ∧ txN n = true) (hm : okE m = true ∧ txN m = true) : (okE (.mk o [] [n, m]) = true ∧ txN (.mk o [] [n, m]) = true) ∧ sl (.mk o [] [n, m]) ≤ sl n + sl m + 7 := by
  refine ⟨⟨?_, by rw [txN_mk]; simp [hn.2, hm.2]⟩, ?_⟩
  · rw [okE_mk, if_neg (by omega), if_neg (by omega), if_neg (by omega)]
    unfold manyB
    rw [if_neg (by omega), if_neg (by omega), if_neg (by omega), show decide (4 ≤ o ∧ o ≤ 12) = true from decide_eq_true ho]
    simp [hn.1, hm.1]
  · have h1 := (sl_pl (.mk o [] [n, m])).2.1
    have h2 : pl (.mk o [] [n, m]) = sl n + ((sgnO o).length + 1 + sl m) := by
      unfold pl sl
      rw [prE_op ho, txtW_app, txtW_cons]
      simp only [List.length_append, List.length_cons]; omega
    obtain ⟨i, _, _, _, h3⟩ := sgn_at ho
    omega
theorem prim_q (hT : l.all isTok = true) (hL : ∀ t ∈ l, t.text.length ≤ 100) {K : Nat} {X : Gr} (h : GQ X) : GQ (primG K l X) := by
  intro a o n a' hr
  unfold primG at hr
  cases hl : l[a]? with
  | none => rw [hl] at hr; cases hr
  | some t =>
    rw [hl] at hr
    have hmem := List.mem_of_getElem? hl
    have ht := List.all_eq_true.1 hT t hmem
    have htl := hL t hmem
    have one : ∀ (i : Int) (s : List UInt8), (txtW [(i, s)]).length = s.length + 1 := fun i s => by simp [txtW]
    have hr : (if t.kind = 1 then Res.ok (.mk 1 t.text []) (a + 1)
      else if isNm l a then (if isS l (a + 1) [40] then ins K (fun a o => mapR (fun n => .mk 13 t.text n.kids) (listE l X [41] a o)) (a + 2) o else .ok (.mk 2 t.text []) (a + 1))
      else if isS l a [40] then ins K (fun a o => thenS l (X a o) o [41]) (a + 1) o
      else if isS l a [91] then ins K (fun a o => matG l X (l.length + 1) [] [] a o) (a + 1) o
      else if isS l a [123] then ins K (fun a o => mapR (fun n => .mk 16 [] n.kids) (listE l X [125] a o)) (a + 1) o
      else .bad 4 a nd0 a o) = .ok n a' := hr
    split at hr
    · rename_i hk
      cases hr
      have h1 := tx1 ht hk
      refine ⟨⟨by rw [okE_mk, if_pos (.inl rfl), h1]; rfl, by rw [txN_mk]; simp [htl]⟩, by omega, ?_⟩
      have h2 := (sl_pl (.mk 1 t.text [])).2.2 rfl
      have h3 : pl (.mk 1 t.text []) = t.text.length + 1 := by unfold pl; rw [prE_num, one]
      omega
    split at hr
    · rename_i hk hnm
      have hnm' : t.kind = 2 ∧ ownB t.text = false := by
        unfold isNm at hnm; rw [hl] at hnm
        simpa using hnm
      have h1 := tx2 ht hnm'.1 hnm'.2
      split at hr
      · obtain ⟨m, hm, rfl⟩ := map_inv (ins_inv hr)
        obtain ⟨ks, rfl, g2, g3, g4⟩ := gq_listE h hm
        show EQ a a' (.mk 13 t.text ks)
        refine ⟨⟨by rw [okE_mk, if_neg (by decide), if_neg (by decide), if_pos rfl, h1, g2.ok]; rfl, by rw [txN_mk, g2.tx]; simp [htl]⟩, by omega, ?_⟩
        have h2 := (sl_pl (.mk 13 t.text ks)).2.2 rfl
        have h5 := (jl_wl ks).1
        have h3 : pl (.mk 13 t.text ks) = t.text.length + 1 + (2 + ((txtW (jE ks)).length + 2)) := by
          unfold pl
          rw [prE_call, txtW_cons, txtW_cons, txtW_app]
          simp only [List.length_append, List.length_cons, one, List.length_nil]; omega
        omega
      · cases hr
        refine ⟨⟨by rw [okE_mk, if_pos (.inr rfl), h1]; rfl, by rw [txN_mk]; simp [htl]⟩, by omega, ?_⟩
        have h2 := (sl_pl (.mk 2 t.text [])).2.2 rfl
        have h3 : pl (.mk 2 t.text []) = t.text.length + 1 := by unfold pl; rw [prE_nam, one]
        omega
    split at hr
    · obtain ⟨a1, hx, rfl⟩ := then_inv (ins_inv hr)
      obtain ⟨h1, h2, h3⟩ := h _ _ _ _ hx
      exact ⟨h1, by omega, by omega⟩
    split at hr
    · obtain ⟨rs, rfl, g0, g2, g3, g4⟩ := gq_mat h _ [] [] _ _ _ _ (fun r hr => by cases hr) (fun k hk => by cases hk) (ins_inv hr)
      have hok : rs.all okR = true := List.all_eq_true.2 fun r hr => (g2 r hr).1
      have htx : rs.all txN = true := List.all_eq_true.2 fun r hr => (g2 r hr).2
      have he : rs.isEmpty = false := by simpa using g0
      refine ⟨⟨by rw [okE_mk, if_neg (by decide), if_pos rfl, he, hok]; rfl, by rw [txN_mk, htx]; rfl⟩, by omega, ?_⟩
      have h2 := (sl_pl (.mk 14 [] rs)).2.1
      have h5 := (ml_rl rs (fun r hr => (g2 r hr).1)).1
      have h3 : pl (.mk 14 [] rs) = 2 + ((txtW (joinW (sg [59]) (rs.map prE))).length + 2) := by
        unfold pl
        rw [prE_mat, txtW_cons, txtW_app]
        simp only [List.length_append, List.length_cons, one, List.length_nil]; omega
      simp only [rl, wl] at g4
      omega
    split at hr
    · obtain ⟨m, hm, rfl⟩ := map_inv (ins_inv hr)
      obtain ⟨ks, rfl, g2, g3, g4⟩ := gq_listE h hm
      show EQ a a' (.mk 16 [] ks)
      refine ⟨⟨by rw [okE_mk, if_neg (by decide), if_neg (by decide), if_neg (by decide), g2.ok]; rfl, by rw [txN_mk, g2.tx]; rfl⟩, by omega, ?_⟩
      have h2 := (sl_pl (.mk 16 [] ks)).2.1
      have h5 := (jl_wl ks).1
      have h3 : pl (.mk 16 [] ks) = 2 + ((txtW (jE ks)).length + 2) := by
        unfold pl
        rw [prE_list, txtW_cons, txtW_app]
        simp only [List.length_append, List.length_cons, one, List.length_nil]; omega
      omega
    · cases hr
theorem mkI {ks : List Nd} {n : Nd} (hn : okE n = true ∧ txN n = true) (hk : AQ ks) (hl : ks.length = 1 ∨ ks.length = 2) : (okE (.mk 17 [] (n :: ks)) = true ∧ txN (.mk 17 [] (n :: ks)) = true) ∧ sl (.mk 17 [] (n :: ks)) ≤ sl n + wl ks + 6 := by
  refine ⟨⟨?_, by rw [txN_mk, List.all_cons, hn.2, hk.tx]; rfl⟩, ?_⟩
  · rw [okE_mk, if_neg (by decide), if_neg (by decide), if_neg (by decide), List.all_cons, hn.1, hk.ok]
    unfold manyB
    rw [if_neg (by decide), if_pos rfl, List.length_cons]
    rw [show decide (ks.length + 1 = 2 ∨ ks.length + 1 = 3) = true from decide_eq_true (by omega)]; rfl
  · have h1 := (sl_pl (.mk 17 [] (n :: ks))).2.1
    have h5 := (jl_wl ks).2 (by intro e; subst e; simp at hl)
    have one : ∀ (i : Int) (s : List UInt8), (txtW [(i, s)]).length = s.length + 1 := fun i s => by simp [txtW]
    have h3 : pl (.mk 17 [] (n :: ks)) = sl n + (2 + ((txtW (jE ks)).length + 2)) := by
      unfold pl sl
      rw [prE_item, txtW_app, txtW_cons, txtW_app]
      simp only [List.length_append, List.length_cons, one, List.length_nil]; omega
    omega
theorem item_q {X : Gr} (h : GQ X) {n : Nd} (hn : okE n = true ∧ txN n = true) {a o : Nat} {r : Nd} {a' : Nat} (hr : itemG l X n a o = .ok r a') : (okE r = true ∧ txN r = true) ∧ a ≤ a' ∧ sl r + 54 * a ≤ sl n + 54 * a' + 1 := by
  unfold itemG at hr
  cases hx : X a o with
  | bad e p m a1 o1 => rw [hx] at hr; cases hr
  | ok m a1 =>
    rw [hx] at hr
    obtain ⟨h1, h2, h3⟩ := h _ _ _ _ hx
    have h4 := (sl_pl m).1
    have hr : (if isS l a1 [44] then thenS l (mapR (fun m2 => .mk 17 [] [n, m, m2]) (X (a1 + 1) o)) o [93] else thenS l (.ok (.mk 17 [] [n, m]) a1) o [93]) = .ok r a' := hr
    split at hr
    · obtain ⟨a2, hm, rfl⟩ := then_inv hr
      obtain ⟨m2, hx2, rfl⟩ := map_inv hm
      obtain ⟨k1, k2, k3⟩ := h _ _ _ _ hx2
      have k4 := (sl_pl m2).1
      obtain ⟨q1, q2⟩ := mkI (ks := [m, m2]) hn (fun k hk => by simp at hk; rcases hk with rfl | rfl <;> assumption) (by simp)
      simp only [wl] at q2
      exact ⟨q1, by omega, by omega⟩
    · obtain ⟨a2, hm, rfl⟩ := then_inv hr
      cases hm
      obtain ⟨q1, q2⟩ := mkI (ks := [m]) hn (fun k hk => by simp at hk; subst hk; exact h1) (by simp)
      simp only [wl] at q2
      exact ⟨q1, by omega, by omega⟩
theorem post_q {K : Nat} {X : Gr} (h : GQ X) : ∀ (f : Nat) (n : Nd) (a0 a o : Nat) (r : Nd) (a' : Nat), EQ a0 a n → postG K l X f n a o = .ok r a' → EQ a0 a' r
  | 0, n, a0, a, o, r, a', _, hr => by cases hr
  | f + 1, n, a0, a, o, r, a', hn, hr => by
    unfold postG at hr
    split at hr
    · cases hx : ins K (itemG l X n) (a + 1) o with
      | bad e p m a1 o1 => rw [hx] at hr; cases hr
      | ok m a1 =>
        rw [hx] at hr
        obtain ⟨h1, h2, h3⟩ := item_q h hn.1 (ins_inv hx)
        exact post_q h f m a0 a1 o r a' ⟨h1, by have := hn.2.1; omega, by have := hn.2.2; omega⟩ hr
    · cases hr; exact hn
theorem postF_q {K : Nat} {X : Gr} (h : GQ X) (hp : GQ (primG K l X)) : GQ (postF K l X) := by
  intro a o r a' hr
  unfold postF at hr
  cases hx : primG K l X a o with
  | bad e p m a1 o1 => rw [hx] at hr; cases hr
  | ok m a1 => rw [hx] at hr; exact post_q h _ m a a1 o r a' (hp _ _ _ _ hx) hr
theorem two_q {x : Int} (hx : 4 ≤ x ∧ x ≤ 12) {a a1 a' : Nat} {n m : Nd} (hn : EQ a a1 n) (hm : EQ (a1 + 1) a' m) : EQ a a' (.mk x [] [n, m]) := by
  obtain ⟨h1, h2, h3⟩ := hn
  obtain ⟨k1, k2, k3⟩ := hm
  obtain ⟨q1, q2⟩ := mkE2 hx h1 k1
  exact ⟨q1, by omega, by omega⟩
theorem pow_q {K : Nat} {X U : Gr} (hp : GQ (postF K l X)) (hU : GQ U) : GQ (powG K l X U) := by
  intro a o r a' hr
  unfold powG at hr
  cases hx : postF K l X a o with
  | bad e p m a1 o1 => rw [hx] at hr; cases hr
  | ok n a1 =>
    rw [hx] at hr
    have h1 := hp _ _ _ _ hx
    have hr : (if isS l a1 [94] then mapR (fun m => .mk 8 [] [n, m]) (U (a1 + 1) o) else .ok n a1) = .ok r a' := hr
    split at hr
    · obtain ⟨m, hm, rfl⟩ := map_inv hr
      exact two_q (by omega) h1 (hU _ _ _ _ hm)
    · cases hr; exact h1
theorem un_q {K : Nat} {X U : Gr} (hp : GQ (powG K l X U)) (hU : GQ U) : GQ (unG K l X U) := by
  intro a o r a' hr
  unfold unG at hr
  split at hr
  · obtain ⟨m, hm, rfl⟩ := map_inv (ins_inv hr)
    obtain ⟨h1, h2, h3⟩ := hU _ _ _ _ hm
    refine ⟨⟨by rw [okE_mk, if_neg (by decide), if_neg (by decide), if_neg (by decide)]; simp [manyB, h1.1], by rw [txN_mk]; simp [h1.2]⟩, by omega, ?_⟩
    have g1 := (sl_pl (.mk 3 [] [m])).2.1
    have g2 : pl (.mk 3 [] [m]) = 2 + sl m := by
      unfold pl sl
      rw [prE_minus, txtW_cons]
      simp only [List.length_append, List.length_cons, List.length_nil]; omega
    omega
  · exact hp _ _ _ _ hr
theorem chain_q {S : Gr} {s1 s2 : List UInt8} {x y : Nat} (h : GQ S) (hx : 4 ≤ x ∧ x ≤ 12) (hy : 4 ≤ y ∧ y ≤ 12) : ∀ (f : Nat) (n : Nd) (a0 a o : Nat) (r : Nd) (a' : Nat), EQ a0 a n → chainG l S s1 x s2 y f n a o = .ok r a' → EQ a0 a' r
  | 0, n, a0, a, o, r, a', _, hr => by cases hr
  | f + 1, n, a0, a, o, r, a', hn, hr => by
    unfold chainG at hr
    split at hr
    · cases hs : S (a + 1) o with
      | bad e p m a1 o1 => rw [hs] at hr; cases hr
      | ok m a1 =>
        rw [hs] at hr
        exact chain_q h hx hy f _ a0 a1 o r a' (two_q (by omega) hn (h _ _ _ _ hs)) hr
    · split at hr
      · cases hs : S (a + 1) o with
        | bad e p m a1 o1 => rw [hs] at hr; cases hr
        | ok m a1 =>
          rw [hs] at hr
          exact chain_q h hx hy f _ a0 a1 o r a' (two_q (by omega) hn (h _ _ _ _ hs)) hr
      · cases hr; exact hn
theorem chn_q {S : Gr} {s1 s2 : List UInt8} {x y : Nat} (h : GQ S) (hx : 4 ≤ x ∧ x ≤ 12) (hy : 4 ≤ y ∧ y ≤ 12) : GQ (chnF l S s1 x s2 y) := by
  intro a o r a' hr
  unfold chnF at hr
  cases hs : S a o with
  | bad e p m a1 o1 => rw [hs] at hr; cases hr
  | ok m a1 => rw [hs] at hr; exact chain_q h hx hy _ m a a1 o r a' (h _ _ _ _ hs) hr
theorem exp_q {U : Gr} (h : GQ U) : GQ (expG l U) := by
  have hS : GQ (sumG l U) := chn_q (chn_q h (by omega) (by omega)) (by omega) (by omega)
  intro a o r a' hr
  unfold expG at hr
  cases hs : sumG l U a o with
  | bad e p m a1 o1 => rw [hs] at hr; cases hr
  | ok n a1 =>
    rw [hs] at hr
    have h1 := hS _ _ _ _ hs
    have hr : (if isS l a1 [61, 61] then mapR (fun m => .mk 9 [] [n, m]) (sumG l U (a1 + 1) o) else if isS l a1 [33, 61] then mapR (fun m => .mk 10 [] [n, m]) (sumG l U (a1 + 1) o)
      else if isS l a1 [60] then mapR (fun m => .mk 11 [] [n, m]) (sumG l U (a1 + 1) o) else if isS l a1 [60, 61] then mapR (fun m => .mk 12 [] [n, m]) (sumG l U (a1 + 1) o) else .ok n a1) = .ok r a' := hr
    split at hr
    · obtain ⟨m, hm, rfl⟩ := map_inv hr; exact two_q (by omega) h1 (hS _ _ _ _ hm)
    split at hr
    · obtain ⟨m, hm, rfl⟩ := map_inv hr; exact two_q (by omega) h1 (hS _ _ _ _ hm)
    split at hr
    · obtain ⟨m, hm, rfl⟩ := map_inv hr; exact two_q (by omega) h1 (hS _ _ _ _ hm)
    split at hr
    · obtain ⟨m, hm, rfl⟩ := map_inv hr; exact two_q (by omega) h1 (hS _ _ _ _ hm)
    · cases hr; exact h1
theorem lev_q (hT : l.all isTok = true) (hL : ∀ t ∈ l, t.text.length ≤ 100) {K : Nat} : ∀ f, GQ (lev K l f).1 ∧ GQ (lev K l f).2
  | 0 => ⟨fun a o n a' hr => (by cases hr), fun a o n a' hr => (by cases hr)⟩
  | f + 1 => by
    obtain ⟨h1, h2⟩ := lev_q hT hL (K := K) f
    have hu : GQ (unG K l (lev K l f).1 (lev K l f).2) := un_q (pow_q (postF_q h1 (prim_q hT hL h1)) h2) h2
    exact ⟨exp_q hu, hu⟩
/-- A statement, a block. -/
def SQ (a a' : Nat) (n : Nd) : Prop := (okS n = true ∧ txN n = true) ∧ n.op ≠ 22 ∧ a ≤ a' ∧ tl n + 54 * a ≤ 54 * a'
def BQ (a a' : Nat) (n : Nd) : Prop := (okS n = true ∧ txN n = true) ∧ n.op = 22 ∧ a ≤ a' ∧ tl n + 54 * a ≤ 54 * a'
def SG (S : Gr) : Prop := ∀ a o n a', S a o = .ok n a' → SQ a a' n
def BG (S : Gr) : Prop := ∀ a o n a', S a o = .ok n a' → BQ a a' n
def KQ (ks : List Nd) : Prop := ∀ k ∈ ks, (okS k = true ∧ txN k = true) ∧ k.op ≠ 22
theorem KQ.snoc {ks : List Nd} {n : Nd} (h : KQ ks) (hn : (okS n = true ∧ txN n = true) ∧ n.op ≠ 22) : KQ (ks ++ [n]) := fun k hk => by
  rcases List.mem_append.1 hk with hk | hk
  · exact h k hk
  · simp at hk; subst hk; exact hn
theorem KQ.tx {ks : List Nd} (h : KQ ks) : ks.all txN = true := List.all_eq_true.2 fun k hk => (h k hk).1.2
theorem fl1 (n : Nd) : fl [n] = tl n + 0 := rfl
theorem fl_flat : ∀ ks : List Nd, (txtW (ks.map pnS).flatten).length = fl ks
  | [] => rfl
  | k :: ks => by rw [List.map_cons, List.flatten_cons, txtW_app, List.length_append, fl_flat ks]; rfl
theorem body_q {S : Gr} (h : SG S) : ∀ (f : Nat) (ks : List Nd) (a o : Nat) (n : Nd) (a' : Nat), KQ ks → bodyG l S f ks a o = .ok n a' → ∃ ks', n = .mk 22 [] ks' ∧ KQ ks' ∧ a ≤ a' ∧ fl ks' + 54 * a + 54 ≤ fl ks + 54 * a'
  | 0, ks, a, o, n, a', _, hr => by cases hr
  | f + 1, ks, a, o, n, a', hk, hr => by
    unfold bodyG at hr
    split at hr
    · cases hr; exact ⟨ks, rfl, hk, by omega, by omega⟩
    · cases hx : S a o with
      | bad e p m a1 o1 => rw [hx] at hr; cases hr
      | ok m a1 =>
        rw [hx] at hr
        obtain ⟨h1, h2, h3, h4⟩ := h _ _ _ _ hx
        obtain ⟨ks', g1, g2, g3, g4⟩ := body_q h f (ks ++ [m]) a1 o n a' (hk.snoc ⟨h1, h2⟩) hr
        rw [fl_app, fl1] at g4
        exact ⟨ks', g1, g2, by omega, by omega⟩
theorem okS_blk {ks : List Nd} (h : KQ ks) : okS (.mk 22 [] ks) = true := by
  rw [okS_mk, if_pos rfl]
  simp only [decide_true, Bool.true_and, List.all_eq_true]
  intro k hk
  obtain ⟨⟨h1, _⟩, h2⟩ := h k hk
  simp [h1, h2]
theorem blk_q {K : Nat} {S : Gr} (h : SG S) : BG (blkG K l S) := by
  intro a o n a' hr
  unfold blkG at hr
  split at hr
  · obtain ⟨ks, rfl, g2, g3, g4⟩ := body_q h _ [] _ _ _ _ (fun k hk => by cases hk) (ins_inv hr)
    refine ⟨⟨okS_blk g2, by rw [txN_mk, g2.tx]; rfl⟩, rfl, by omega, ?_⟩
    have e : tl (.mk 22 [] ks) = 2 + (fl ks + 2) := by
      unfold tl
      have one : (txtW [sg [125]]).length = 2 := rfl
      rw [pnS_block, txtW_cons, txtW_app]
      simp only [List.length_append, List.length_cons, one, List.length_nil, fl_flat]; omega
    simp only [fl] at g4
    omega
  · cases hr
theorem srtA2 {e b : Nd} (he : okE e = true) (hb : b.op = 22 ∧ okS b = true) : srt3' [e, b] [101, 98] = true := by
  rw [srt_e, srt_b, srt_nil, he, hb.1, hb.2]; rfl
theorem srtA3 {e b c : Nd} (he : okE e = true) (hb : b.op = 22 ∧ okS b = true) (hc : c.op = 22 ∧ okS c = true) : srt3' [e, b, c] [101, 98, 98] = true := by
  rw [srt_e, srt_b, srt_b, srt_nil, he, hb.1, hb.2, hc.1, hc.2]; rfl
theorem srtAf {e e2 b : Nd} (he : okE e = true) (he2 : okE e2 = true) (hb : b.op = 22 ∧ okS b = true) : srt3' [e, e2, b] [101, 101, 98] = true := by
  rw [srt_e, srt_e, srt_b, srt_nil, he, he2, hb.1, hb.2]; rfl
theorem srtA1 {e : Nd} (he : okE e = true) : srt3' [e] [101] = true := by
  rw [srt_e, srt_nil, he]; rfl
theorem nm_tx (hT : l.all isTok = true) (hL : ∀ t ∈ l, t.text.length ≤ 100) {a : Nat} (h : isNm l a = true) : tx 2 (txt l a) = true ∧ (txt l a).length ≤ 100 := by
  unfold isNm at h
  cases hl : l[a]? with
  | none => rw [hl] at h; cases h
  | some t =>
    rw [hl] at h
    have hmem := List.mem_of_getElem? hl
    have h : t.kind = 2 ∧ ownB t.text = false := by simpa using h
    have e : txt l a = t.text := by unfold txt; rw [hl]
    rw [e]
    exact ⟨tx2 (List.all_eq_true.1 hT t hmem) h.1 h.2, hL t hmem⟩
theorem st_q (hT : l.all isTok = true) (hL : ∀ t ∈ l, t.text.length ≤ 100) {E B : Gr} (hE : GQ E) (hB : BG B) : SG (stG l E B) := by
  intro a o r a' hr
  have one : (txtW [sg [59]]).length = 2 := rfl
  unfold stG at hr
  split at hr
  · unfold ifG at hr
    cases hx : E (a + 1) o with
    | bad e p m a1 o1 => rw [hx] at hr; cases hr
    | ok e a1 =>
      rw [hx] at hr
      obtain ⟨h1, h2, h3⟩ := hE _ _ _ _ hx
      have h4 := (sl_pl e).1
      dsimp only at hr
      cases hy : B a1 o with
      | bad e' p m a2 o2 => rw [hy] at hr; cases hr
      | ok b a2 =>
        rw [hy] at hr
        obtain ⟨k1, k2, k3, k4⟩ := hB _ _ _ _ hy
        have hr : (if isS l a2 [101, 108, 115, 101] then mapR (fun c => .mk 20 [] [e, b, c]) (B (a2 + 1) o) else .ok (.mk 20 [] [e, b]) a2) = .ok r a' := hr
        split at hr
        · obtain ⟨c, hc, rfl⟩ := map_inv hr
          obtain ⟨j1, j2, j3, j4⟩ := hB _ _ _ _ hc
          refine ⟨⟨by rw [okS_mk, if_neg (by decide), if_pos rfl, srtA3 h1.1 ⟨k2, k1.1⟩ ⟨j2, j1.1⟩]; simp, by rw [txN_mk]; simp [h1.2, k1.2, j1.2]⟩, by show ¬ (20 : Int) = 22; decide, by omega, ?_⟩
          have e5 : tl (.mk 20 [] [e, b, c]) = 3 + (pl e + (tl b + (5 + tl c))) := by
            unfold tl pl
            rw [pnS_else, txtW_cons, txtW_app, txtW_app, txtW_cons]
            simp only [List.length_append, List.length_cons, List.length_nil]; omega
          omega
        · cases hr
          refine ⟨⟨by rw [okS_mk, if_neg (by decide), if_pos rfl, srtA2 h1.1 ⟨k2, k1.1⟩]; simp, by rw [txN_mk]; simp [h1.2, k1.2]⟩, by show ¬ (20 : Int) = 22; decide, by omega, ?_⟩
          have e5 : tl (.mk 20 [] [e, b]) = 3 + (pl e + tl b) := by
            unfold tl pl
            rw [pnS_if, txtW_cons, txtW_app]
            simp only [List.length_append, List.length_cons, List.length_nil]; omega
          omega
  split at hr
  · unfold forG at hr
    split at hr
    · rename_i hnm
      obtain ⟨t1, t2⟩ := nm_tx hT hL hnm
      split at hr
      · cases hx : E (a + 1 + 2) o with
        | bad e p m a1 o1 => rw [hx] at hr; cases hr
        | ok e a1 =>
          rw [hx] at hr
          obtain ⟨h1, h2, h3⟩ := hE _ _ _ _ hx
          have h4 := (sl_pl e).1
          dsimp only at hr
          split at hr
          · cases hy : E (a1 + 1) o with
            | bad e' p m a2 o2 => rw [hy] at hr; cases hr
            | ok e2 a2 =>
              rw [hy] at hr
              obtain ⟨k1, k2, k3⟩ := hE _ _ _ _ hy
              have k4 := (sl_pl e2).1
              obtain ⟨b, hb, rfl⟩ := map_inv hr
              obtain ⟨j1, j2, j3, j4⟩ := hB _ _ _ _ hb
              refine ⟨⟨by rw [okS_mk, if_neg (by decide), if_neg (by decide), if_neg (by decide), if_pos rfl, t1, srtAf h1.1 k1.1 ⟨j2, j1.1⟩]; rfl, by rw [txN_mk]; simp [h1.2, k1.2, j1.2, t2]⟩, by show ¬ (21 : Int) = 22; decide, by omega, ?_⟩
              have e5 : tl (.mk 21 (txt l (a + 1)) [e, e2, b]) = 4 + ((txt l (a + 1)).length + 1 + (2 + (pl e + (3 + (pl e2 + tl b))))) := by
                unfold tl pl
                rw [pnS_for, txtW_cons, txtW_cons, txtW_cons, txtW_app, txtW_cons, txtW_app]
                simp only [List.length_append, List.length_cons, List.length_nil]; omega
              omega
          · cases hr
      · cases hr
    · cases hr
  split at hr
  · rename_i hnm
    rw [Bool.and_eq_true] at hnm
    obtain ⟨t1, t2⟩ := nm_tx hT hL hnm.1
    obtain ⟨a1, hm, rfl⟩ := then_inv hr
    obtain ⟨e, hx, rfl⟩ := map_inv hm
    obtain ⟨h1, h2, h3⟩ := hE _ _ _ _ hx
    have h4 := (sl_pl e).1
    refine ⟨⟨by rw [okS_mk, if_neg (by decide), if_neg (by decide), if_pos rfl, t1, srtA1 h1.1]; rfl, by rw [txN_mk]; simp [h1.2, t2]⟩, by show ¬ (18 : Int) = 22; decide, by omega, ?_⟩
    have e5 : tl (.mk 18 (txt l a) [e]) = (txt l a).length + 1 + (2 + (pl e + 2)) := by
      unfold tl pl
      rw [pnS_set, txtW_cons, txtW_cons, txtW_app]
      simp only [List.length_append, List.length_cons, List.length_nil, one]; omega
    omega
  · obtain ⟨a1, hm, rfl⟩ := then_inv hr
    obtain ⟨e, hx, rfl⟩ := map_inv hm
    obtain ⟨h1, h2, h3⟩ := hE _ _ _ _ hx
    have h4 := (sl_pl e).1
    refine ⟨⟨by rw [okS_mk, if_neg (by decide), if_neg (by decide), if_neg (by decide), if_neg (by decide), srtA1 h1.1]; rfl, by rw [txN_mk]; simp [h1.2]⟩, by show ¬ (19 : Int) = 22; decide, by omega, ?_⟩
    have e5 : tl (.mk 19 [] [e]) = pl e + 2 := by
      unfold tl pl
      rw [pnS_show, txtW_app]
      simp only [List.length_append, one]
    omega
theorem slev_q (hT : l.all isTok = true) (hL : ∀ t ∈ l, t.text.length ≤ 100) {K : Nat} : ∀ f, SG (slev K l f)
  | 0 => fun a o n a' hr => (by cases hr)
  | f + 1 => st_q hT hL (lev_q hT hL _).1 (blk_q (slev_q hT hL f))
theorem prog_q {S : Gr} (h : SG S) : ∀ (f : Nat) (ks : List Nd) (a o : Nat) (n : Nd) (a' : Nat), KQ ks → progG l S f ks a o = .ok n a' → ∃ ks', n = .mk 0 [] ks' ∧ KQ ks' ∧ a ≤ a' ∧ (a ≤ l.length → a' ≤ a ∨ True) ∧ fl ks' + 54 * a ≤ fl ks + 54 * a'
  | 0, ks, a, o, n, a', _, hr => by cases hr
  | f + 1, ks, a, o, n, a', hk, hr => by
    unfold progG at hr
    split at hr
    · cases hx : S a o with
      | bad e p m a1 o1 => rw [hx] at hr; cases hr
      | ok m a1 =>
        rw [hx] at hr
        obtain ⟨h1, h2, h3, h4⟩ := h _ _ _ _ hx
        obtain ⟨ks', g1, g2, g3, _, g4⟩ := prog_q h f (ks ++ [m]) a1 o n a' (hk.snoc ⟨h1, h2⟩) hr
        rw [fl_app, fl1] at g4
        exact ⟨ks', g1, g2, by omega, fun _ => .inr trivial, by omega⟩
    · cases hr; exact ⟨ks, rfl, hk, by omega, fun _ => .inr trivial, by omega⟩
end
end Go.Proofs.YtlojipipibebaaaDoor
/- The statement ParserBack answers true. -/
set_option linter.unusedVariables false
set_option linter.unusedSimpArgs false
namespace Go.Proofs.YtlojipipibebaaaDoor
open Go.RowKit SX
theorem prog_end {l : List Tok} {S : Gr} (h : Adv 2 l 0 S) : ∀ (f : Nat) (ks : List Nd) (a o : Nat) (n : Nd) (a' : Nat), a ≤ l.length → progG l S f ks a o = .ok n a' → a' ≤ l.length
  | 0, ks, a, o, n, a', _, hr => by cases hr
  | f + 1, ks, a, o, n, a', ha, hr => by
    unfold progG at hr
    split at hr
    · cases hx : S a o with
      | bad e p m a1 o1 => rw [hx] at hr; cases hr
      | ok m a1 =>
        rw [hx] at hr
        have h1 := h a o (Nat.zero_le _) ha
        rw [hx] at h1
        exact prog_end h f _ a1 o n a' h1.2.2 hr
    · cases hr; omega
/-- What is parsed may be printed. -/
theorem parse_q {l : List Tok} {ks : List Nd} {p e : Nat} (hL : ∀ t ∈ l, t.text.length ≤ 100) (h : parseR l 200 = (ks, p, e)) : (e ≠ 0 ∧ ks = []) ∨ (e = 0 ∧ okPr ks = true ∧ ks.all txN = true ∧ (txtW (wP ks)).length ≤ 54 * l.length ∧ depL ks ≤ 200 ∧ cntL ks ≤ l.length) := by
  unfold parseR at h
  rw [if_neg (by omega)] at h
  split at h
  · rename_i hT
    cases hp : progR l with
    | bad c q n a o =>
      rw [hp] at h
      have h : ([], q, c) = (ks, p, e) := h
      cases h
      by_cases he : e = 0
      · exact .inr ⟨he, rfl, rfl, by show (txtW []).length ≤ _; simp [txtW], by rw [depL_nil]; omega, by rw [cntL_nil]; omega⟩
      · exact .inl ⟨he, rfl⟩
    | ok n a =>
      rw [hp] at h
      have h : finR n.kids 200 = (ks, p, e) := h
      have hp' := hp
      unfold progR at hp
      obtain ⟨ks', rfl, g2, g3, _, g4⟩ := prog_q (slev_q hT hL (l.length + 1)) _ [] 0 0 n a (fun k hk => by cases hk) hp
      have hend := prog_end (adv_slev 600 l (l.length + 1) 0 (by omega)) _ _ _ _ _ _ (by omega) hp
      unfold finR at h
      have hc := progR_cnt hp'
      split at h
      · cases h; exact .inl ⟨by decide, rfl⟩
      · rename_i hd
        cases h
        have hd : ¬ ((200 : Int) < (depL ks' : Int)) := hd
        refine .inr ⟨rfl, ?_, g2.tx, ?_, by show depL ks' ≤ 200; omega, hc⟩
        · show okPr ks' = true
          unfold okPr
          rw [List.all_eq_true]
          intro k hk
          obtain ⟨⟨h1, _⟩, h2⟩ := g2 k hk
          simp [h1, h2]
        · show (txtW (wP ks')).length ≤ _
          have e : (txtW (wP ks')).length = fl ks' := fl_flat ks'
          rw [e]
          simp only [fl] at g4
          omega
  · cases h; exact .inl ⟨by decide, rfl⟩
attribute [local irreducible] IntKind.wrap Go1 Reg WP thenK inBlk retQ retF RetF RetOK ResOK CallOK OpOK Sat
/-- The parser's own comparing. -/
theorem c_EqN (a b : List Nd) (x : CA) (hx : ∀ (k : Nat) (n m : Nd), a[k]? = some n → b[k]? = some m → FnV Tryd.prog x [.agg (ndA n), .agg (ndA m)] (.v (.bool (sameN n m)))) (ha : a.length ≤ 1000000) (hx1 : x.oneB = true) :
    PureOK Tryd.prog 22 [.r (rowR 3 ndE a), .r (rowR 3 ndE b), .it (.one (.c x))] (.v (.bool (sameL a b))) := by
  by_cases hl : a.length = b.length
  · refine PureOK.fnF Tryd.func22 Tryd.results22 Tryd.ntmps22 rfl rfl rfl (by simp [AV.ids, AV0.ids, Atom.ids]) rfl (fun w0 T B E0 hB => ?_)
    refine SX.goG ?_
    refine W.loop (fun k : Nat => k ≤ a.length ∧ sameL (a.drop k) (b.drop k) = sameL a b) (fun k => [(0, .r (rowR 3 ndE a)), (1, .r (rowR 3 ndE b)), (2, .it (.one (.c x))), (15, .r (rowR 3 ndE a)), (16, .v (.int .i64 (a.length : Int))), (17, .v (.int .i64 (k : Int)))]) (fun _ => []) (fun k => a.length - k) 0 ⟨Nat.zero_le _, rfl⟩ (fun k ⟨hk, he⟩ => ?_)
    by_cases hlt : k < a.length
    · obtain ⟨n, hn⟩ : ∃ n, a[k]? = some n := ⟨_, List.getElem?_eq_getElem hlt⟩
      obtain ⟨m, hm⟩ : ∃ m, b[k]? = some m := ⟨_, List.getElem?_eq_getElem (by omega)⟩
      have hf := hx k n m hn hm
      rw [sameL_step hn hm] at he
      cases hs : sameN n m with
      | true =>
        rw [hs] at hf he
        refine SX.goG ?_
        exact W.next (k + 1) ⟨hlt, by rw [← he]; rfl⟩ (by omega)
      | false =>
        rw [hs] at hf he
        refine SX.goG ?_
        refine retB ?_
        rw [← he]; rfl
    · obtain rfl : k = a.length := by omega
      rw [List.drop_length, List.drop_eq_nil_of_le (by omega)] at he
      refine SX.goG ?_
      refine retB ?_
      rw [← he, sameL_nil]
  · rw [sameL_len _ _ hl]
    refine PureOK.fnF Tryd.func22 Tryd.results22 Tryd.ntmps22 rfl rfl rfl (by simp [AV.ids, AV0.ids, Atom.ids]) rfl (fun w0 T B E0 hB => ?_)
    refine SX.goG ?_
    exact retB rfl
def SameOK (n m : Nd) : Prop := PureOK Tryd.prog 23 [.agg (ndA n), .agg (ndA m)] (.v (.bool (sameN n m)))
theorem c_EqNF (a b : List Nd) (hx : ∀ n ∈ a, ∀ m, SameOK n m) (ha : a.length ≤ 1000000) :
    PureOK Tryd.prog 22 [.r (rowR 3 ndE a), .r (rowR 3 ndE b), .it (.one (.clo 23 []))] (.v (.bool (sameL a b))) :=
  weakArgs (c_EqN a b (.sat (cloR 23 [] [])) (fun k n m hn hm => FnV.const (hx n (List.mem_of_getElem? hn) m)) ha rfl) fun E S w vs hv => by
    match vs, hv with
    | [u1, u2, u3], ⟨h1, h2, h3, _⟩ => exact ⟨h1, h2, fnArg h3, trivial⟩
theorem c_sameN : ∀ (N : Nat) (n m : Nd), cnt n < N → cnt n ≤ 1000000 → SameOK n m := by
  intro N
  induction N with
  | zero => intro n m hn; omega
  | succ N ih =>
    intro n m hn hb
    have hk := kids_cntN n
    have c := c_EqNF n.kids m.kids (fun k hkm m' => ih k m' (by have := cnt_kidN hkm; omega) (by have := cnt_kidN hkm; omega)) (by omega)
    unfold SameOK
    rw [sameN_eq, ndA_B, ndA_B]
    by_cases ho : n.op = m.op
    · by_cases ht : n.text = m.text
      · have y2 : decide (n.text = m.text) = true := decide_eq_true ht
        refine PureOK.fnF Tryd.func23 Tryd.results23 Tryd.ntmps23 rfl rfl rfl (by simp [AV.ids, AV0.ids, Atom.ids]) rfl (fun w0 T B E0 hB => ?_)
        refine SX.goG ?_
        refine retB ?_
        rw [decide_eq_true ho, y2]; rfl
      · have y2 : decide (n.text = m.text) = false := decide_eq_false ht
        refine PureOK.fnF Tryd.func23 Tryd.results23 Tryd.ntmps23 rfl rfl rfl (by simp [AV.ids, AV0.ids, Atom.ids]) rfl (fun w0 T B E0 hB => ?_)
        refine SX.goG ?_
        refine retB ?_
        rw [y2]; simp
    · refine PureOK.fnF Tryd.func23 Tryd.results23 Tryd.ntmps23 rfl rfl rfl (by simp [AV.ids, AV0.ids, Atom.ids]) rfl (fun w0 T B E0 hB => ?_)
      refine SX.goG ?_
      refine retB ?_
      rw [decide_eq_false ho]; rfl
theorem c_SameP (a b : List Nd) (ha : cntL a ≤ 1000000) : PureOK Tryd.prog 13 [.r (rowR 3 ndC a), .r (rowR 3 ndC b)] (.v (.bool (sameL a b))) := by
  have hl := len_cntL a
  have c := c_EqNF a b (fun k hk m => c_sameN (cnt k + 1) k m (by omega) (by have := cntL_memb hk; omega)) (by omega)
  rw [row_ndE, row_ndE]
  refine PureOK.fnF Tryd.func13 Tryd.results13 Tryd.ntmps13 rfl rfl rfl (by simp [AV.ids, AV0.ids, Atom.ids]) rfl (fun w0 T B E0 hB => ?_)
  refine SX.goG ?_
  exact retB rfl
theorem ParserBack_ok (l : List Tok) (f : l.length ≤ maxLen ∧ ∀ a ∈ l, a.text.length ≤ maxLen) : PureOK Tryd.prog 4 [.r (rowR 3 tokC l)] (.v (.bool true)) := by
  have cA := con_pawake.h trivial
  have hm : maxLen = 9223372036854775807 := rfl
  by_cases h200 : 200 < l.length
  · refine PureOK.fnF Tryd.func4 Tryd.results4 Tryd.ntmps4 rfl rfl rfl (by simp [AV.ids, AV0.ids, Atom.ids]) rfl (fun w0 T B E0 hB => ?_)
    refine SX.goG ?_
    exact retB rfl
  · have cL := (con_plong l).h (by omega)
    cases hlo : longT l with
    | true =>
      rw [hlo] at cL
      refine PureOK.fnF Tryd.func4 Tryd.results4 Tryd.ntmps4 rfl rfl rfl (by simp [AV.ids, AV0.ids, Atom.ids]) rfl (fun w0 T B E0 hB => ?_)
      refine SX.goG ?_
      exact retB rfl
    | false =>
      rw [hlo] at cL
      have hL : ∀ t ∈ l, t.text.length ≤ 100 := fun t ht => by
        unfold longT at hlo
        have := List.any_eq_false.1 hlo t ht
        simp at this; omega
      obtain ⟨ks, p, e, hp⟩ : ∃ ks p e, parseR l 200 = (ks, p, e) := ⟨_, _, _, rfl⟩
      have cP := call_Parse (by omega) (fun t ht => by have := f.2 t ht; omega) hp
      unfold tupQ at cP
      rcases parse_q hL hp with ⟨he, rfl⟩ | ⟨rfl, hok, htx, hlen, hd, hc⟩
      · have he' : ¬ ((e : Nat) : Int) = 0 := by omega
        refine PureOK.fnF Tryd.func4 Tryd.results4 Tryd.ntmps4 rfl rfl rfl (by simp [AV.ids, AV0.ids, Atom.ids]) rfl (fun w0 T B E0 hB => ?_)
        refine SX.goG ?_
        exact retB rfl
      · have cR := c_Print ks (by omega) htx
        have e : prR ks = (txtW (wP ks), 0) := by unfold prR; rw [hok]; rfl
        rw [e, ← row_ndE] at cR
        obtain ⟨ts, hlx, hkt⟩ := lexR_words (w_prog hok) (by omega)
        have hts := kt_isTok hkt (w_prog hok)
        have hp2 := parse_back hkt hts hok hd
        have cX := (con_Lex (txtW (wP ks))).h (by omega)
        rw [hlx] at cX
        have hsame := c_Same (cntL ks + 1) ks ks (by omega) (by omega)
        have hsame2 := c_SameP ks ks (by omega)
        rw [sameL_refl] at hsame hsame2
        have hwl := words_le (wP ks)
        have hts2 : ts.length = (wP ks).length := by rw [← hkt, List.length_map]
        have hpc := call_Parse (l := ts) (d := 200) (by omega) (fun t ht' => by
          have h1 := word_len (ws := wP ks) (w := kt t) (by rw [← hkt]; exact List.mem_map.2 ⟨t, ht', rfl⟩)
          have h2 : t.text.length ≤ (txtW (wP ks)).length := h1
          omega) hp2
        unfold tupQ at hpc
        refine PureOK.fnF Tryd.func4 Tryd.results4 Tryd.ntmps4 rfl rfl rfl (by simp [AV.ids, AV0.ids, Atom.ids]) rfl (fun w0 T B E0 hB => ?_)
        refine SX.goG ?_
        exact retB rfl
end Go.Proofs.YtlojipipibebaaaDoor
/- Nodes that come in. -/
set_option linter.unusedVariables false
set_option linter.unusedSimpArgs false
namespace Go.Proofs.YtlojipipibebaaaDoor
open Go Go.RowKit SX Go.ChangeShapes Go.WideShapes Go.ChangeAt Go.Joins
variable {H : Type} {enc : TypeId × Value → H} {W : World} {base : Nat} {sp : Nat → Bool} {hd : Bool}
theorem decNode2 : ∀ n : Nat, DecF enc Tryd.prog W base sp hd n 40 ndC (fun _ => True) ∧ DecF enc Tryd.prog W base sp hd (n + 1) 22 (fun l : List Nd => [.sat (rowR 3 ndC l)]) (fun _ => True)
  | 0 => ⟨DecF.zero, (dec_slice Tryd.underlying22 (by kernel_rfl) (DecF.zero (φ := fun _ => True))).conv id (fun _ _ => trivial) (fun _ => rfl)⟩
  | n + 1 => by
    obtain ⟨h1, h2⟩ := decNode2 n
    have hs : DecF enc Tryd.prog W base sp hd n 22 (fun l : List Nd => [.sat (rowR 3 ndC l)]) (fun _ => True) := by
      cases n with
      | zero => exact DecF.zero
      | succ m => exact (decNode2 m).2
    have hn : DecF enc Tryd.prog W base sp hd (n + 1) 40 ndC (fun _ => True) :=
      (dec_struct3 Tryd.underlying40 rfl (by kernel_rfl) (by kernel_rfl) (by kernel_rfl) (dec_int Tryd.underlying3) (dec_str Tryd.underlying9) hs).conv (fun p => Nd.mk p.1 p.2.1 p.2.2) (fun _ _ => trivial) (fun p => ndC_eq _ _ _)
    exact ⟨hn, (dec_slice Tryd.underlying22 (by kernel_rfl) hn).conv id (fun _ _ => trivial) (fun _ => rfl)⟩
theorem decNodes (n : Nat) : DecF enc Tryd.prog W base sp hd n 22 (fun l : List Nd => [.sat (rowR 3 ndC l)]) (fun _ => True) := by
  cases n with
  | zero => exact DecF.zero
  | succ n => exact (decNode2 n).2
end Go.Proofs.YtlojipipibebaaaDoor
/- What the package's variables hold, out of the row. -/
set_option linter.unusedVariables false
set_option linter.unusedSimpArgs false
namespace Go.Proofs.YtlojipipibebaaaDoor
open Go Go.RowKit SX
theorem strs_laid {P : Program} {w : World} {name : String} {ss : List (List UInt8)} {g : Nat} {t e : TypeId} {n : Nat} (h : Lib.VarReads P w name (.agg (ss.map fun s => .lit (.string s)))) (hg : P.globalNamed name = some g) (hty : (P.globals[g]?).map (·.type) = some t)
    (ht : P.underlying t = some (.array n e)) (he : P.underlying e = some .string) (hc : P.cellsOf e = 1) (hn : ss.length = n) : ∀ (i : Nat) (u : Value), (ss.map str)[i]? = some u → w.cell? ⟨g, i, none⟩ = some u := by
  intro i u hi
  obtain ⟨g', t', cs, fuel, p, hg', hty', hvar, hd⟩ := h
  obtain rfl := Option.some.inj (hg.symm.trans hg')
  obtain rfl := Option.some.inj (hty.symm.trans hty')
  have hlt : i < n := by
    have := (List.getElem?_eq_some_iff.1 hi).1
    simp at this; omega
  obtain ⟨fuel', d, q, hdi, hel⟩ := Lib.array_elem ht hd i hlt
  rw [hc, Nat.mul_one] at hel
  obtain ⟨s, hcs, hx, _⟩ := DataW.trod_string he hel
  rw [List.getElem?_map] at hi hdi
  obtain ⟨a, ha, rfl⟩ := Option.map_eq_some_iff.1 hi
  rw [ha, Option.map_some] at hdi
  have hd1 : d = .lit (.string a) := (Option.some.inj hdi).symm
  have hd2 : d = .lit (.string s.data.toList) := by
    have := congrArg Prod.fst hx
    simpa using this
  have hs : a = s.data.toList := by
    rw [hd1] at hd2
    injection hd2 with h1
    injection h1
  rw [World.var?_cell hg hvar i, ← Array.getElem?_toList]
  have h0 := congrArg (·[0]?) hcs
  simp only [List.getElem?_take, List.getElem?_drop] at h0
  have h1 : cs.toList[i]? = some (.string s) := by simpa using h0
  rw [h1, hs]
theorem glob_ok {w : World} (h : laidMet Tryd.prog [("quincunx/parser.signs", Rows.laid_quincunx_parser_signs), ("quincunx/parser.sides", Rows.laid_quincunx_parser_sides)] w) : GlobOK none' w := by
  have h1 := Lib.laidMet.reads h (n := "quincunx/parser.signs") (d := Rows.laid_quincunx_parser_signs) (by simp)
  have h2 := Lib.laidMet.reads h (n := "quincunx/parser.sides") (d := Rows.laid_quincunx_parser_sides) (by simp)
  have k1 := strs_laid (ss := [[], [], [], [], [43], [45], [42], [47], [94], [61, 61], [33, 61], [60], [60, 61]]) (g := 1) (t := 78) h1 (by kernel_rfl) (by kernel_rfl) Tryd.underlying78 Tryd.underlying9 (by kernel_rfl) rfl
  have k2 := strs_laid (ss := [[], [], [], [101], [101, 101], [101, 101], [101, 101], [101, 101], [101, 101], [101, 101], [101, 101], [101, 101], [101, 101], [], [], [], [], [], [101], [101], [101, 98], [101, 101, 98], []]) (g := 0) (t := 63) h2 (by kernel_rfl) (by kernel_rfl) Tryd.underlying63 Tryd.underlying9 (by kernel_rfl) rfl
  have lt : ∀ {g : Nat} {u : Value}, w.cell? ⟨g, 0, none⟩ = some u → g < w.heap.size := fun {g u} hc => by
    rcases Nat.lt_or_ge g w.heap.size with h | h
    · exact h
    · rw [World.cell?] at hc
      simp [Array.getElem?_eq_none h] at hc
  intro g l hm
  unfold glob at hm
  simp only [List.mem_cons, List.not_mem_nil, or_false, Prod.mk.injEq] at hm
  rcases hm with ⟨rfl, rfl⟩ | ⟨rfl, rfl⟩
  · exact ⟨fun h => h, lt (k1 0 _ rfl), fun i u hu => k1 i u hu⟩
  · exact ⟨fun h => h, lt (k2 0 _ rfl), fun i u hu => k2 i u hu⟩
end Go.Proofs.YtlojipipibebaaaDoor
/- Tokens that come in. -/
set_option linter.unusedVariables false
set_option linter.unusedSimpArgs false
namespace Go.Proofs.YtlojipipibebaaaDoor
open Go.RowKit SX
open Go.ChangeShapes Go.WideShapes Go.ChangeAt Go.Joins
section
variable {H : Type} {enc : TypeId × Value → H} {W : World} {base : Nat} {sp : Nat → Bool} {hd : Bool}
theorem decTok (n : Nat) : DecF enc Tryd.prog W base sp hd n 38 tokC (fun t => t.text.length ≤ maxLen) :=
  DecF.all (fun n => DecF.conv (dec_struct3 Tryd.underlying38 rfl (by kernel_rfl) (by kernel_rfl) (by kernel_rfl) (dec_int Tryd.underlying3) (dec_str Tryd.underlying9) (dec_int Tryd.underlying3)) (fun p => (⟨p.1, p.2.1, p.2.2⟩ : Tok)) (fun p h => h.2.1) (fun p => rfl)) n
theorem decToks (n : Nat) : DecF enc Tryd.prog W base sp hd n 29 (fun l : List Tok => [.sat (rowR 3 tokC l)]) (fun l => l.length ≤ maxLen ∧ ∀ a ∈ l, a.text.length ≤ maxLen) :=
  DecF.all (fun n => dec_slice Tryd.underlying29 (by kernel_rfl) (decTok n)) n
end
end Go.Proofs.YtlojipipibebaaaDoor

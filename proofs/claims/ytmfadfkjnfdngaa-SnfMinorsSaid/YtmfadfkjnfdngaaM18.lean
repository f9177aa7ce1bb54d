import Derived.Test.YtmfadfkjnfdngaaM14
import Derived.Test.YtmfadfkjnfdngaaM9
set_option linter.unusedVariables false
set_option linter.unusedSimpArgs false
namespace Go.Proofs.Ytmfadfkjnfdngaa
open Go.RowKit QM SX
def tabG {α : Type} (c : Nat) (f : Nat → Nat → α) (i : Nat) : List α := (List.range i).flatMap fun i => (List.range c).map (f i)
def rowG {α : Type} (f : Nat → Nat → α) (i k : Nat) : List α := (List.range k).map (f i)
section
variable {α : Type} {c : Nat} {f : Nat → Nat → α}
theorem tabG_zero : tabG c f 0 = [] := rfl
theorem tabG_succ {i : Nat} : tabG c f (i + 1) = tabG c f i ++ (List.range c).map (f i) := by
  unfold tabG; rw [List.range_succ, List.flatMap_append]; simp
theorem tabG_len : ∀ i, (tabG c f i).length = i * c
  | 0 => by simp [tabG_zero]
  | i + 1 => by rw [tabG_succ, List.length_append, tabG_len i]; simp [Nat.succ_mul]
theorem tabG_at {k : Nat} (hk : k < c) : ∀ {r i : Nat}, i < r → (tabG c f r)[i * c + k]? = some (f i k)
  | 0, i, h => absurd h (Nat.not_lt_zero _)
  | r + 1, i, h => by
    rw [tabG_succ]
    by_cases hi : i < r
    · rw [List.getElem?_append_left (by rw [tabG_len]; exact idx_lt hi hk)]
      exact tabG_at hk hi
    · obtain rfl : i = r := by omega
      rw [List.getElem?_append_right (by rw [tabG_len]; omega), tabG_len, Nat.add_sub_cancel_left, List.getElem?_map, List.getElem?_range hk]; rfl
theorem rowG_succ {i k : Nat} : rowG f i (k + 1) = rowG f i k ++ [f i k] := by
  unfold rowG; rw [List.range_succ, List.map_append]; rfl
end
def skp (k y : Nat) : Nat := if y < k then y else y + 1
def cnS (k j : Nat) : Nat := if j ≤ k then j else j - 1
def dsF (h : Nat → Int) : Nat → Int
  | 0 => 0
  | k + 1 => dsF h k + (if k % 2 = 1 then -(h k) else h k)
def dtF : Nat → (Nat → Nat → Int) → Int
  | 0, _ => 1
  | n + 1, g => dsF (fun k => g 0 k * dtF n (fun x y => g (x + 1) (skp k y))) (n + 1)
def bdD (K : Nat) : Nat → Nat
  | 0 => 1
  | n + 1 => K + bdD K n + (n + 1)
theorem pwD {K L : Nat} (h : K ≤ L) : WB ^ K ≤ WB ^ L := Nat.pow_le_pow_right WB_pos h
theorem dsF_lt {h : Nat → Int} {K : Nat} : ∀ n, (∀ k, k < n → (h k).natAbs < WB ^ K) → (dsF h n).natAbs < WB ^ (K + n)
  | 0, _ => Nat.pow_pos WB_pos
  | n + 1, hh => by
    have h1 := dsF_lt n fun k hk => hh k (by omega)
    have h2 := Nat.lt_of_lt_of_le (hh n (Nat.lt_succ_self n)) (pwD (show K ≤ K + n by omega))
    have h3 : 2 * WB ^ (K + n) ≤ WB ^ (K + (n + 1)) := by
      rw [← Nat.add_assoc, Nat.pow_succ, Nat.mul_comm 2]
      exact Nat.mul_le_mul_left _ (by rw [WB_eq]; decide)
    unfold dsF
    split <;> omega
theorem dtF_lt {K : Nat} : ∀ (n : Nat) (g : Nat → Nat → Int), (∀ x y, x < n → y < n → (g x y).natAbs < WB ^ K) → (dtF n g).natAbs < WB ^ bdD K n
  | 0, g, _ => by
    show (1 : Int).natAbs < WB ^ 1
    rw [Nat.pow_one, WB_eq]; decide
  | n + 1, g, hg => by
    unfold dtF bdD
    refine dsF_lt (n + 1) fun k hk => ?_
    rw [Int.natAbs_mul, Nat.pow_add]
    refine Nat.mul_lt_mul'' (hg 0 k (by omega) hk) (dtF_lt n _ fun x y hx hy => hg (x + 1) (skp k y) (by omega) ?_)
    unfold skp
    split <;> omega
abbrev matG (n m : Nat) (f : Nat → Nat → Z2) : List Atom := matY n m (tabG m f n)
attribute [local irreducible] IntKind.wrap Go1 Reg WP thenK inBlk retQ retF RetF RetOK ResOK CallOK OpOK Sat
attribute [local irreducible] dtF dsF tabG rowG
theorem con_r11At {r c i k : Nat} {l : List Z2} {q : Z2} (hq : l[i * c + k]? = some q) (hi : i ≤ 1000) (hc : c ≤ 1000) (hk : k ≤ 1000) :
    PureOK Try.prog 50 [.agg (matY r c l), .v (.int .i64 (i : Int)), .v (.int .i64 (k : Int))] (.agg (z2A q)) := by
  have hb := Nat.mul_le_mul hi hc
  have hlt := at_lt hq
  refine PureOK.fnF Try.func50 Try.results50 Try.ntmps50 rfl rfl rfl (by simp [AV.ids, AV0.ids, Atom.ids]) rfl (fun w0 T B E0 hB => ?_)
  refine SX.goF ?_
  exact retA (ResOK.agg2 rfl rfl rfl) rfl
theorem cnS_lt {k j : Nat} (h : j < k) : cnS k (j + 1) = cnS k j + 1 ∧ cnS k j = j ∧ skp k j = j := by
  unfold cnS skp
  rw [if_pos (by omega), if_pos (by omega), if_pos h]; exact ⟨rfl, rfl, rfl⟩
theorem cnS_eq {k : Nat} : cnS k (k + 1) = cnS k k := by
  unfold cnS
  rw [if_neg (by omega), if_pos (by omega)]; omega
theorem cnS_gt {k j : Nat} (h : k < j) : cnS k (j + 1) = cnS k j + 1 ∧ skp k (cnS k j) = j := by
  unfold cnS skp
  rw [if_neg (by omega), if_neg (by omega), if_neg (by omega)]; omega
set_option maxRecDepth 20000 in
theorem con_Without {n k : Nat} {f : Nat → Nat → Z2} (hn : n ≤ 60) (hk : k < n + 1) : PureOK Try.prog 51 [.agg (matG (n + 1) (n + 1) f), .v (.int .i64 0), .v (.int .i64 (k : Int))] (.agg (matG n n (fun x y => f (x + 1) (skp k y)))) := by
  refine PureOK.fnF Try.func51 Try.results51 Try.ntmps51 rfl rfl rfl (by simp [AV.ids, AV0.ids, Atom.ids]) rfl (fun w0 T B E0 hB => ?_)
  refine SX.goF ?_
  refine W.loop (fun r => r ≤ n + 1) (fun r => [(1, .v (.int .i64 0)), (2, .v (.int .i64 (k : Int))), (3, .ptr 3 0), (6, .ptr 6 0), (7, .ptr 7 0), (8, .v (.int .i64 (r : Int)))]) (fun r => [(3, .box 24 (matG (n + 1) (n + 1) f)), (6, .box 24 [.c (.val (.int .i64 0)), .c (.val (.int .i64 0)), .c (.val (.slice none 0 0))]), (7, .box 24 [.c (.val (.int .i64 (n : Int))), .c (.val (.int .i64 (n : Int))), .own 100]), (100, .row 34 2 ((r - 1) * n) ((tabG n (fun x y => f (x + 1) (skp k y)) (r - 1)).flatMap z2C))]) (fun r => n + 1 - r) 0 (Nat.zero_le _) (fun r hr => ?_)
    (by
      refine SX.St.le_to [(100, none)] (by intro b h; cases h) ?_ ?_ rfl
      · repeat (first | exact trivial | refine ⟨⟨_, rfl, SX.AVto.same rfl⟩, ?_⟩)
      · exact ⟨SX.EntTo.same rfl rfl, SX.EntTo.same rfl rfl, SX.EntTo.boxTo rfl rfl ⟨AtomTo.int (by omega), AtomTo.int (by omega), AtomTo.nil rfl, trivial⟩, by rw [show (0 - 1) * n = 0 by rw [show (0 : Nat) - 1 = 0 from rfl, Nat.zero_mul], show tabG n (fun x y => f (x + 1) (skp k y)) (0 - 1) = [] from tabG_zero]; exact SX.EntTo.nilRow rfl, trivial⟩)
  by_cases h : r < n + 1
  · cases r with
    | zero =>
      refine SX.goF ?_
      refine W.loop (fun j => j ≤ n + 1) (fun j => [(1, .v (.int .i64 0)), (2, .v (.int .i64 (k : Int))), (3, .ptr 3 0), (6, .ptr 6 0), (7, .ptr 7 0), (8, .v (.int .i64 ((0 : Nat) : Int))), (9, .v (.int .i64 (j : Int)))]) (fun j => [(3, .box 24 (matG (n + 1) (n + 1) f)), (6, .box 24 [.c (.val (.int .i64 0)), .c (.val (.int .i64 0)), .c (.val (.slice none 0 0))]), (7, .box 24 [.c (.val (.int .i64 (n : Int))), .c (.val (.int .i64 (n : Int))), .own 100]), (100, .row 34 2 ((0 - 1) * n) ((tabG n (fun x y => f (x + 1) (skp k y)) (0 - 1)).flatMap z2C))]) (fun j => n + 1 - j) 0 (Nat.zero_le _) (fun j hj => ?_)
      by_cases h2 : j < n + 1
      · refine SX.goF ?_
        exact W.next (j + 1) h2 (by omega)
      · refine SX.goF ?_
        exact W.next (0 + 1) (by omega) (by omega)
    | succ r =>
      have hrn := Nat.mul_le_mul (show r ≤ 60 by omega) hn
      refine SX.goF ?_
      refine W.loop (fun j => j ≤ n + 1) (fun j => [(1, .v (.int .i64 0)), (2, .v (.int .i64 (k : Int))), (3, .ptr 3 0), (6, .ptr 6 0), (7, .ptr 7 0), (8, .v (.int .i64 ((r + 1 : Nat) : Int))), (9, .v (.int .i64 (j : Int)))]) (fun j => [(3, .box 24 (matG (n + 1) (n + 1) f)), (6, .box 24 [.c (.val (.int .i64 0)), .c (.val (.int .i64 0)), .c (.val (.slice none 0 0))]), (7, .box 24 [.c (.val (.int .i64 (n : Int))), .c (.val (.int .i64 (n : Int))), .own 100]), (100, .row 34 2 (r * n + cnS k j) ((tabG n (fun x y => f (x + 1) (skp k y)) r ++ rowG (fun x y => f (x + 1) (skp k y)) r (cnS k j)).flatMap z2C))]) (fun j => n + 1 - j) 0 (Nat.zero_le _) (fun j hj => ?_)
        (by
          have e0 : cnS k 0 = 0 := if_pos (Nat.zero_le _)
          have e : Ent.row 34 2 ((r + 1 - 1) * n) ((tabG n (fun x y => f (x + 1) (skp k y)) (r + 1 - 1)).flatMap z2C) = Ent.row 34 2 (r * n + cnS k 0) ((tabG n (fun x y => f (x + 1) (skp k y)) r ++ rowG (fun x y => f (x + 1) (skp k y)) r (cnS k 0)).flatMap z2C) := by rw [e0]; simp [rowG]
          refine SX.St.le_to [] (by intro b h; cases h) ?_ ?_ rfl
          · repeat (first | exact trivial | refine ⟨⟨_, rfl, SX.AVto.same rfl⟩, ?_⟩)
          · exact ⟨SX.EntTo.same rfl rfl, SX.EntTo.same rfl rfl, SX.EntTo.same rfl rfl, SX.EntTo.eq rfl e rfl, trivial⟩)
      by_cases h2 : j < n + 1
      · by_cases hjk : j = k
        · subst hjk
          have hjj : (j : Int) = (j : Int) := rfl
          have e := cnS_eq (k := j)
          refine SX.goF ?_
          refine W.next (j + 1) h2 (by omega) (by
            refine SX.St.le_to [] (by intro b h; cases h) ?_ ?_ rfl
            · repeat (first | exact trivial | refine ⟨⟨_, rfl, SX.AVto.same rfl⟩, ?_⟩ | refine ⟨⟨_, rfl, SX.AVto.int (by omega)⟩, ?_⟩)
            · exact ⟨SX.EntTo.same rfl rfl, SX.EntTo.same rfl rfl, SX.EntTo.same rfl rfl, by rw [e]; exact SX.EntTo.same rfl rfl, trivial⟩)
        · have e : cnS k (j + 1) = cnS k j + 1 ∧ skp k (cnS k j) = j := by
            by_cases hl : j < k
            · obtain ⟨g1, g2, g3⟩ := cnS_lt hl
              exact ⟨g1, by rw [g2]; exact g3⟩
            · exact cnS_gt (by omega)
          have hne : ¬ (j : Int) = (k : Int) := by omega
          have hcn : cnS k j ≤ j := by unfold cnS; split <;> omega
          have cA := con_r11At (r := n + 1) (c := n + 1) (i := r + 1) (k := j) (tabG_at (f := f) h2 (show r + 1 < n + 1 from h)) (by omega) (by omega) (by omega)
          refine SX.goF ?_
          refine W.next (j + 1) h2 (by omega) (by
            have e2 : (tabG n (fun x y => f (x + 1) (skp k y)) r ++ rowG (fun x y => f (x + 1) (skp k y)) r (cnS k j)).flatMap z2C ++ z2C (f (r + 1) j) = (tabG n (fun x y => f (x + 1) (skp k y)) r ++ rowG (fun x y => f (x + 1) (skp k y)) r (cnS k (j + 1))).flatMap z2C := by
              rw [e.1, rowG_succ, ← List.append_assoc, List.flatMap_append (xs := tabG n (fun x y => f (x + 1) (skp k y)) r ++ rowG (fun x y => f (x + 1) (skp k y)) r (cnS k j)), e.2]; simp
            refine SX.St.le_to [(100, some 44)] (by intro b h; cases h) ?_ ?_ rfl
            · repeat (first | exact trivial | refine ⟨⟨_, rfl, SX.AVto.same rfl⟩, ?_⟩ | refine ⟨⟨_, rfl, SX.AVto.int (by omega)⟩, ?_⟩)
            · exact ⟨SX.EntTo.same rfl rfl, SX.EntTo.same rfl rfl, SX.EntTo.boxTo rfl rfl ⟨AtomTo.same rfl, AtomTo.same rfl, AtomTo.own rfl, trivial⟩, SX.EntTo.row rfl rfl (by omega) e2, trivial⟩)
      · obtain rfl : j = n + 1 := by omega
        have ec : cnS k (n + 1) = n := by unfold cnS; rw [if_neg (by omega)]; omega
        refine SX.goF ?_
        refine W.next (r + 1 + 1) (by omega) (by omega) (by
          have e2 : Ent.row 34 2 (r * n + cnS k (n + 1)) ((tabG n (fun x y => f (x + 1) (skp k y)) r ++ rowG (fun x y => f (x + 1) (skp k y)) r (cnS k (n + 1))).flatMap z2C) = Ent.row 34 2 ((r + 1 + 1 - 1) * n) ((tabG n (fun x y => f (x + 1) (skp k y)) (r + 1 + 1 - 1)).flatMap z2C) := by
            rw [ec, show r + 1 + 1 - 1 = r + 1 by omega, Nat.succ_mul, tabG_succ]
            unfold rowG; rfl
          refine SX.St.le_to [] (by intro b h; cases h) ?_ ?_ rfl
          · repeat (first | exact trivial | refine ⟨⟨_, rfl, SX.AVto.same rfl⟩, ?_⟩ | refine ⟨⟨_, rfl, SX.AVto.int (by omega)⟩, ?_⟩)
          · exact ⟨SX.EntTo.same rfl rfl, SX.EntTo.same rfl rfl, SX.EntTo.same rfl rfl, SX.EntTo.eq rfl e2 rfl, trivial⟩)
  · obtain rfl : r = n + 1 := by omega
    refine SX.goF ?_
    have hm : matG n n (fun x y => f (x + 1) (skp k y)) = [.c (.val (.int .i64 (n : Int))), .c (.val (.int .i64 (n : Int))), .c (.sat (sliceR 2 ((n + 1 - 1) * n) ((tabG n (fun x y => f (x + 1) (skp k y)) (n + 1 - 1)).flatMap z2C)))] := by
      show [_, _, Atom.c (.sat (sliceR 2 (tabG n (fun x y => f (x + 1) (skp k y)) n).length _))] = _
      rw [tabG_len, Nat.add_sub_cancel]
    rw [hm]
    refine RetF.frz 100 ?_
    exact retA (ResOK.agg3 rfl rfl rfl) rfl
end Go.Proofs.Ytmfadfkjnfdngaa
set_option linter.unusedVariables false
set_option linter.unusedSimpArgs false
namespace Go.Proofs.Ytmfadfkjnfdngaa
open Go.RowKit QM SX
def pnC (n : Nat) : List CA := [.val (.int .i64 (n : Int))]
instance : EncLen pnC 1 := ⟨fun _ => rfl⟩
instance : EncOne pnC := ⟨fun _ => rfl⟩
def zG (zs : Nat → Nat → Int) (x y : Nat) : Int := zs x y
attribute [local irreducible] IntKind.wrap Go1 Reg WP thenK inBlk retQ retF RetF RetOK ResOK CallOK OpOK Sat
attribute [local irreducible] tabG rowG isign
structure GV (n m : Nat) (f : Nat → Nat → Z2) (g : Nat → Nat → Int) (K : Nat) : Prop where
  z : ∀ x y, x < n → y < m → ZQ (f x y) (g x y) K
set_option maxRecDepth 20000 in
theorem con_Det12 {K : Nat} : ∀ (n : Nat) (f : Nat → Nat → Z2) (g : Nat → Nat → Int), GV n n f g K → n ≤ 60 → bdD K n ≤ 1000000 → PureOK Try.prog 28 [.agg (matG n n f)] (.agg (zN (dtF n g)))
  | 0, f, g, hv, hn, hK => by
    have e : dtF 0 g = 1 := by unfold dtF; rfl
    rw [e]
    have o1 := of_1
    refine PureOK.fnF Try.func28 Try.results28 Try.ntmps28 rfl rfl rfl (by simp [AV.ids, AV0.ids, Atom.ids]) rfl (fun w0 T B E0 hB => ?_)
    refine SX.goB ?_
    exact retA (ResOK.agg2 rfl rfl rfl) rfl
  | n + 1, f, g, hv, hn, hK => by
    have o0 := of_0
    have eK : bdD K (n + 1) = K + bdD K n + (n + 1) := rfl
    have e : dtF (n + 1) g = dsF (fun k => g 0 k * dtF n (fun x y => g (x + 1) (skp k y))) (n + 1) := by conv => lhs; unfold dtF
    rw [e]
    have hg : ∀ x y, x < n + 1 → y < n + 1 → (g x y).natAbs < WB ^ K := fun x y hx hy => (hv.z x y hx hy).b
    have hm : ∀ k, k < n + 1 → (dtF n (fun x y => g (x + 1) (skp k y))).natAbs < WB ^ bdD K n := fun k hk => dtF_lt n _ fun x y hx hy => hg (x + 1) (skp k y) (by omega) (by unfold skp; split <;> omega)
    have hh : ∀ k, k < n + 1 → (g 0 k * dtF n (fun x y => g (x + 1) (skp k y))).natAbs < WB ^ (K + bdD K n) := fun k hk => by
      rw [Int.natAbs_mul, Nat.pow_add]
      exact Nat.mul_lt_mul'' (hg 0 k (by omega) hk) (hm k hk)
    generalize hHd : (fun k => g 0 k * dtF n (fun x y => g (x + 1) (skp k y))) = H at *
    have hH : ∀ k, H k = g 0 k * dtF n (fun x y => g (x + 1) (skp k y)) := fun k => by rw [← hHd]
    have hh : ∀ k, k < n + 1 → (H k).natAbs < WB ^ (K + bdD K n) := fun k hk => by rw [hH]; exact hh k hk
    refine PureOK.fnF Try.func28 Try.results28 Try.ntmps28 rfl rfl rfl (by simp [AV.ids, AV0.ids, Atom.ids]) rfl (fun w0 T B E0 hB => ?_)
    refine SX.goB ?_
    refine W.loop (fun k => k ≤ n + 1) (fun k => [(1, .ptr 1 0), (2, .ptr 2 0), (3, .ptr 3 0), (4, .v (.int .i64 (k : Int)))]) (fun k => [(1, .box 24 (matG (n + 1) (n + 1) f)), (2, .box 34 [.c (.val (.bool false)), .c (.val (.slice none 0 0))]), (3, .box 34 (zN (dsF H k)))]) (fun k => n + 1 - k) 0 (Nat.zero_le _) (fun k hk => ?_)
      (by
        have e0 : dsF H 0 = 0 := by unfold dsF; rfl
        refine SX.St.le_to [] (by intro b h; cases h) ?_ ?_ rfl
        · repeat (first | exact trivial | refine ⟨⟨_, rfl, SX.AVto.same rfl⟩, ?_⟩)
        · exact ⟨SX.EntTo.same rfl rfl, SX.EntTo.same rfl rfl, by rw [e0]; exact SX.EntTo.same rfl rfl, trivial⟩)
    by_cases h : k < n + 1
    · have cA := con_r11At (r := n + 1) (c := n + 1) (i := 0) (k := k) (tabG_at (f := f) h (show 0 < n + 1 by omega)) (by omega) (by omega) (by omega)
      have cW := con_Without (n := n) (k := k) (f := f) (by omega) h
      have cD := con_Det12 n (fun x y => f (x + 1) (skp k y)) (fun x y => g (x + 1) (skp k y)) ⟨fun x y hx hy => hv.z (x + 1) (skp k y) (by omega) (by unfold skp; split <;> omega)⟩ (by omega) (by omega)
      haveI i1 := (hv.z 0 k (by omega) h).zi
      haveI i2 : Bd (dtF n (fun x y => g (x + 1) (skp k y))) (bdD K n) := ⟨hm k h⟩
      haveI i3 : Bd (dsF H k) (K + bdD K n + k) := ⟨dsF_lt k fun j hj => hh j (by omega)⟩
      haveI i4 : Bd (H k) (K + bdD K n) := ⟨hh k h⟩
      have cM : PureOK Try.prog 9 [.agg (z2A (f 0 k)), .agg (zN (dtF n (fun x y => g (x + 1) (skp k y))))] (.agg (zN (H k))) := by
        rw [hH]
        exact con_zMul.h (by omega)
      by_cases hodd : k % 2 = 1
      · have e2 : dsF H (k + 1) = dsF H k + -(H k) := by
          conv => lhs; unfold dsF
          rw [if_pos hodd]
        have ho : ((k : Int)).tmod 2 = 1 := by rw [Int.tmod_eq_emod_of_nonneg (by omega)]; omega
        refine SX.goB ?_
        refine W.next (k + 1) h (by omega) (by
          refine SX.St.le_to [] (by intro b h; cases h) ?_ ?_ rfl
          · repeat (first | exact trivial | refine ⟨⟨_, rfl, SX.AVto.same rfl⟩, ?_⟩ | refine ⟨⟨_, rfl, SX.AVto.int (by omega)⟩, ?_⟩)
          · exact ⟨SX.EntTo.same rfl rfl, SX.EntTo.same rfl rfl, by rw [e2]; exact SX.EntTo.same rfl rfl, trivial⟩)
      · have e2 : dsF H (k + 1) = dsF H k + H k := by
          conv => lhs; unfold dsF
          rw [if_neg hodd]
        have ho : ((k : Int)).tmod 2 = 0 := by rw [Int.tmod_eq_emod_of_nonneg (by omega)]; omega
        refine SX.goB ?_
        refine W.next (k + 1) h (by omega) (by
          refine SX.St.le_to [] (by intro b h; cases h) ?_ ?_ rfl
          · repeat (first | exact trivial | refine ⟨⟨_, rfl, SX.AVto.same rfl⟩, ?_⟩ | refine ⟨⟨_, rfl, SX.AVto.int (by omega)⟩, ?_⟩)
          · exact ⟨SX.EntTo.same rfl rfl, SX.EntTo.same rfl rfl, by rw [e2]; exact SX.EntTo.same rfl rfl, trivial⟩)
    · obtain rfl : k = n + 1 := by omega
      refine SX.goB ?_
      exact retA (ResOK.agg2 rfl rfl rfl) rfl
set_option maxRecDepth 20000 in
theorem con_Part {r c : Nat} {l : List Z2} (R C : List Nat) (hl : l.length = r * c) (hr : r ≤ 60) (hc : c ≤ 60) (hR : R.length ≤ 60) (hC : C.length ≤ 60) (hRr : ∀ i ∈ R, i < r) (hCc : ∀ k ∈ C, k < c) :
    PureOK Try.prog 29 [.agg (matY r c l), .r (rowR 1 pnC R), .r (rowR 1 pnC C)] (.agg (matG R.length C.length (fun x y => l.getD (R.getD x 0 * c + C.getD y 0) (z2v 0)))) := by
  refine PureOK.fnF Try.func29 Try.results29 Try.ntmps29 rfl rfl rfl (by simp [AV.ids, AV0.ids, Atom.ids]) rfl (fun w0 T B E0 hB => ?_)
  refine SX.goB ?_
  refine W.loop (fun i => i ≤ R.length) (fun i => [(1, .r (rowR 1 pnC R)), (2, .r (rowR 1 pnC C)), (3, .ptr 3 0), (6, .ptr 6 0), (7, .ptr 7 0), (8, .v (.int .i64 (i : Int)))]) (fun i => [(3, .box 24 (matY r c l)), (6, .box 24 [.c (.val (.int .i64 0)), .c (.val (.int .i64 0)), .c (.val (.slice none 0 0))]), (7, .box 24 [.c (.val (.int .i64 (R.length : Int))), .c (.val (.int .i64 (C.length : Int))), .own 100]), (100, .row 34 2 (i * C.length) ((tabG C.length (fun x y => l.getD (R.getD x 0 * c + C.getD y 0) (z2v 0)) i).flatMap z2C))]) (fun i => R.length - i) 0 (Nat.zero_le _) (fun i hi => ?_)
    (by
      refine SX.St.le_to [(100, none)] (by intro b h; cases h) ?_ ?_ rfl
      · repeat (first | exact trivial | refine ⟨⟨_, rfl, SX.AVto.same rfl⟩, ?_⟩)
      · exact ⟨SX.EntTo.same rfl rfl, SX.EntTo.same rfl rfl, SX.EntTo.boxTo rfl rfl ⟨AtomTo.same rfl, AtomTo.same rfl, AtomTo.nil rfl, trivial⟩, by rw [Nat.zero_mul, tabG_zero]; exact SX.EntTo.nilRow rfl, trivial⟩)
  by_cases h : i < R.length
  · refine SX.goB ?_
    refine W.loop (fun k => k ≤ C.length) (fun k => [(1, .r (rowR 1 pnC R)), (2, .r (rowR 1 pnC C)), (3, .ptr 3 0), (6, .ptr 6 0), (7, .ptr 7 0), (8, .v (.int .i64 (i : Int))), (9, .v (.int .i64 (k : Int)))]) (fun k => [(3, .box 24 (matY r c l)), (6, .box 24 [.c (.val (.int .i64 0)), .c (.val (.int .i64 0)), .c (.val (.slice none 0 0))]), (7, .box 24 [.c (.val (.int .i64 (R.length : Int))), .c (.val (.int .i64 (C.length : Int))), .own 100]), (100, .row 34 2 (i * C.length + k) ((tabG C.length (fun x y => l.getD (R.getD x 0 * c + C.getD y 0) (z2v 0)) i ++ rowG (fun x y => l.getD (R.getD x 0 * c + C.getD y 0) (z2v 0)) i k).flatMap z2C))]) (fun k => C.length - k) 0 (Nat.zero_le _) (fun k hk => ?_)
      (by
        have e : Ent.row 34 2 (i * C.length) ((tabG C.length (fun x y => l.getD (R.getD x 0 * c + C.getD y 0) (z2v 0)) i).flatMap z2C) = Ent.row 34 2 (i * C.length + 0) ((tabG C.length (fun x y => l.getD (R.getD x 0 * c + C.getD y 0) (z2v 0)) i ++ rowG (fun x y => l.getD (R.getD x 0 * c + C.getD y 0) (z2v 0)) i 0).flatMap z2C) := by simp [rowG]
        refine SX.St.le_to [] (by intro b h; cases h) ?_ ?_ rfl
        · repeat (first | exact trivial | refine ⟨⟨_, rfl, SX.AVto.same rfl⟩, ?_⟩)
        · exact ⟨SX.EntTo.same rfl rfl, SX.EntTo.same rfl rfl, SX.EntTo.same rfl rfl, SX.EntTo.eq rfl e rfl, trivial⟩)
    by_cases h2 : k < C.length
    · obtain ⟨a, ha⟩ : ∃ a, R[i]? = some a := ⟨_, List.getElem?_eq_getElem h⟩
      obtain ⟨b, hb⟩ : ∃ b, C[k]? = some b := ⟨_, List.getElem?_eq_getElem h2⟩
      have har := hRr a (List.mem_of_getElem? ha)
      have hbc := hCc b (List.mem_of_getElem? hb)
      have hlt := idx_lt har hbc
      have hq : l[a * c + b]? = some (l.getD (R.getD i 0 * c + C.getD k 0) (z2v 0)) := by
        rw [List.getD_eq_getElem?_getD (l := R), ha, List.getD_eq_getElem?_getD (l := C), hb]
        show _ = some (l.getD (a * c + b) (z2v 0))
        rw [List.getD_eq_getElem?_getD, List.getElem?_eq_getElem (by omega)]; rfl
      have cA := con_r11At (r := r) (c := c) hq (by omega) (by omega) (by omega)
      have hik := Nat.mul_le_mul (show i ≤ 60 by omega) hC
      refine SX.goB ?_
      refine W.next (k + 1) h2 (by omega) (by
        have e2 : (tabG C.length (fun x y => l.getD (R.getD x 0 * c + C.getD y 0) (z2v 0)) i ++ rowG (fun x y => l.getD (R.getD x 0 * c + C.getD y 0) (z2v 0)) i k).flatMap z2C ++ z2C (l.getD (R.getD i 0 * c + C.getD k 0) (z2v 0)) = (tabG C.length (fun x y => l.getD (R.getD x 0 * c + C.getD y 0) (z2v 0)) i ++ rowG (fun x y => l.getD (R.getD x 0 * c + C.getD y 0) (z2v 0)) i (k + 1)).flatMap z2C := by
          rw [rowG_succ, ← List.append_assoc, List.flatMap_append (xs := tabG C.length (fun x y => l.getD (R.getD x 0 * c + C.getD y 0) (z2v 0)) i ++ rowG (fun x y => l.getD (R.getD x 0 * c + C.getD y 0) (z2v 0)) i k)]; simp
        refine SX.St.le_to [(100, some 40)] (by intro b h; cases h) ?_ ?_ rfl
        · repeat (first | exact trivial | refine ⟨⟨_, rfl, SX.AVto.same rfl⟩, ?_⟩ | refine ⟨⟨_, rfl, SX.AVto.int (by omega)⟩, ?_⟩)
        · exact ⟨SX.EntTo.same rfl rfl, SX.EntTo.same rfl rfl, SX.EntTo.boxTo rfl rfl ⟨AtomTo.same rfl, AtomTo.same rfl, AtomTo.own rfl, trivial⟩, SX.EntTo.row rfl rfl (by omega) e2, trivial⟩)
    · obtain rfl : k = C.length := by omega
      refine SX.goB ?_
      refine W.next (i + 1) h (by omega) (by
        have e2 : Ent.row 34 2 (i * C.length + C.length) ((tabG C.length (fun x y => l.getD (R.getD x 0 * c + C.getD y 0) (z2v 0)) i ++ rowG (fun x y => l.getD (R.getD x 0 * c + C.getD y 0) (z2v 0)) i C.length).flatMap z2C) = Ent.row 34 2 ((i + 1) * C.length) ((tabG C.length (fun x y => l.getD (R.getD x 0 * c + C.getD y 0) (z2v 0)) (i + 1)).flatMap z2C) := by
          rw [Nat.succ_mul, tabG_succ]
          unfold rowG; rfl
        refine SX.St.le_to [] (by intro b h; cases h) ?_ ?_ rfl
        · repeat (first | exact trivial | refine ⟨⟨_, rfl, SX.AVto.same rfl⟩, ?_⟩ | refine ⟨⟨_, rfl, SX.AVto.int (by omega)⟩, ?_⟩)
        · exact ⟨SX.EntTo.same rfl rfl, SX.EntTo.same rfl rfl, SX.EntTo.same rfl rfl, SX.EntTo.eq rfl e2 rfl, trivial⟩)
  · obtain rfl : i = R.length := by omega
    refine SX.goB ?_
    have hm : matG R.length C.length (fun x y => l.getD (R.getD x 0 * c + C.getD y 0) (z2v 0)) = [.c (.val (.int .i64 (R.length : Int))), .c (.val (.int .i64 (C.length : Int))), .c (.sat (sliceR 2 (R.length * C.length) ((tabG C.length (fun x y => l.getD (R.getD x 0 * c + C.getD y 0) (z2v 0)) R.length).flatMap z2C)))] := by
      show [_, _, Atom.c (.sat (sliceR 2 (tabG C.length _ R.length).length _))] = _
      rw [tabG_len]
    rw [hm]
    refine RetF.frz 100 ?_
    exact retA (ResOK.agg3 rfl rfl rfl) rfl
end Go.Proofs.Ytmfadfkjnfdngaa
set_option linter.unusedVariables false
set_option linter.unusedSimpArgs false
namespace Go.Proofs.Ytmfadfkjnfdngaa
open Go.RowKit QM SX
def chs : Nat → Nat → List (List Nat)
  | _, 0 => [[]]
  | 0, _ + 1 => []
  | m + 1, n + 1 => chs m (n + 1) ++ (chs m n).map (· ++ [m])
theorem chs_nil : ∀ {m n : Nat}, m < n → chs m n = []
  | m, 0, h => absurd h (Nat.not_lt_zero _)
  | 0, n + 1, h => rfl
  | m + 1, n + 1, h => by
    unfold chs
    rw [chs_nil (show m < n + 1 by omega), chs_nil (show m < n by omega)]; rfl
theorem chs_len : ∀ {m n : Nat} {l : List Nat}, l ∈ chs m n → l.length = n
  | m, 0, l, h => by
    have h : l ∈ [[]] := by cases m <;> exact h
    rw [List.mem_singleton] at h; subst h; rfl
  | 0, n + 1, l, h => by
    have h : l ∈ ([] : List (List Nat)) := h
    cases h
  | m + 1, n + 1, l, h => by
    unfold chs at h
    rcases List.mem_append.1 h with h | h
    · exact chs_len h
    · obtain ⟨a, ha, rfl⟩ := List.mem_map.1 h
      rw [List.length_append, chs_len ha]; rfl
theorem chs_lt : ∀ {m n : Nat} {l : List Nat}, l ∈ chs m n → ∀ i ∈ l, i < m
  | m, 0, l, h => by
    have h : l ∈ [[]] := by cases m <;> exact h
    rw [List.mem_singleton] at h; subst h
    intro i hi; cases hi
  | 0, n + 1, l, h => by
    have h : l ∈ ([] : List (List Nat)) := h
    cases h
  | m + 1, n + 1, l, h => by
    unfold chs at h
    rcases List.mem_append.1 h with h | h
    · exact fun i hi => Nat.lt_succ_of_lt (chs_lt h i hi)
    · obtain ⟨a, ha, rfl⟩ := List.mem_map.1 h
      intro i hi
      rcases List.mem_append.1 hi with hi | hi
      · exact Nat.lt_succ_of_lt (chs_lt ha i hi)
      · rw [List.mem_singleton.1 hi]; exact Nat.lt_succ_self _
theorem chs_cnt : ∀ (m n : Nat), (chs m n).length ≤ 2 ^ m
  | m, 0 => by
    have : (chs m 0).length = 1 := by cases m <;> rfl
    rw [this]; exact Nat.pow_pos (by decide)
  | 0, n + 1 => Nat.zero_le _
  | m + 1, n + 1 => by
    unfold chs
    rw [List.length_append, List.length_map, Nat.pow_succ]
    have := chs_cnt m (n + 1)
    have := chs_cnt m n
    omega
def lnC (l : List Nat) : List CA := [.sat (rowR 1 pnC l)]
instance : EncLen lnC 1 := ⟨fun _ => rfl⟩
theorem lnC_map (M : List (List Nat)) : M.flatMap lnC = M.map fun r => CA.sat (rowR 1 pnC r) := by
  induction M with
  | nil => rfl
  | cons a l ih => rw [List.flatMap_cons, ih]; rfl
abbrev RowsI (js : List Nat) (c : List (List Nat)) : AEnt := rowsE 62 3 1 pnC js c
abbrev RowsN (L : List (List Nat)) : AEnt := RowsI (List.range L.length) L
theorem one_nil {E : Env} {S : Nat → Prop} {w : World} {v : Value} (h : (AV0.one (.c (.sat (sliceR 1 1 [.val (.slice none 0 0)])))).has E S w v) : (AV0.one (.c (.sat (rowR 1 lnC [[]])))).has E S w v := by
  have h : (sliceR 1 1 [CA.val (.slice none 0 0)]).has S w v := h
  show (sliceR 1 1 [CA.sat (rowR 1 pnC [])]).has S w v
  obtain ⟨a, cap, g1, g2, g3, g4, g5, g6⟩ := sliceR_iff.1 h
  refine sliceR_iff.2 ⟨a, cap, g1, g2, g3, g4, rfl, fun i c hc => ?_⟩
  match i, hc with
  | 0, hc =>
    cases hc
    obtain ⟨g, o, u, k1, k2, k3, k4⟩ := g6 0 _ rfl
    refine ⟨g, o, u, k1, k2, k3, ?_⟩
    rw [show u = .slice none 0 0 from k4]
    exact nil_row
  | i + 1, hc => simp at hc
theorem rowsN_snoc (X : List (List Nat)) (y : List Nat) : RowsI (List.range X.length ++ [X.length]) (X ++ [y]) = RowsN (X ++ [y]) := by
  show _ = RowsI (List.range (X ++ [y]).length) (X ++ [y])
  rw [List.length_append, List.length_singleton, List.range_succ]
theorem CallOK.frzN {P : Program} {f : FuncId} {args : List AV} {s : Nat} {L : List (List Nat)} (h : CallOK P f args [] ⟨.it (.one (hdrA s 0)), [(s, .ent (.abs (RowsN L)))]⟩) : PureOK P f args (.r (rowR 1 lnC L)) := by
  refine ⟨h.1, fun E S w vs hl hg hv h1 h2 h3 => (h.2 E S w vs hl hg hv (fun b e hb => by cases hb) (fun b e k hb => by cases hb) (fun b b' e e' k _ hb => by cases hb)).mono ?_⟩
  rintro e w' ⟨v, E', S', rfl, hE⟩
  obtain ⟨r1, r2⟩ : v = hdrAt (E'.sl s) 0 ∧ v.oneCell' = true := hE.res
  have hR : RowsHas 62 3 1 pnC (List.range L.length) L (E'.sl s) (E'.fp s) S' w' := hE.ents s (.abs (RowsN L)) (by simp)
  have hX : ∀ k, E'.fp s k → w.heap.size ≤ k := fun k hk => ((hE.blk s (.abs (RowsN L)) k (by simp) hk).2).resolve_left fun ⟨b, e, hb, _⟩ => by cases hb
  refine ⟨v, E, fun k => S' k ∧ ¬ E'.fp s k, rfl, { env := fun b hb => ⟨rfl, rfl⟩, fpe := fun b hb => rfl, sub := fun k hk => ⟨hE.sub k hk, fun hf => by have := hX k hf; have := hl k hk; omega⟩, new := fun k hk => hE.new k hk.1, lt := fun k hk => hE.lt k hk.1, off := hE.off, res := ?_, ents := fun b e hb => (by cases hb), blk := fun b e k hb => (by cases hb), sep := fun b b' e e' k _ hb => (by cases hb) }⟩
  have hf := hR.frz (S' := fun k => S' k ∧ ¬ E'.fp s k) (fun k hk => hk.1) (fun k hk hS => hS.2 hk)
  rw [← r1] at hf
  have ec : (List.range L.length).map (fun j => CA.sat (rowR 1 pnC (L.getD j []))) = L.flatMap lnC := by
    rw [lnC_map]
    apply List.ext_getElem?
    intro i
    rw [List.getElem?_map, List.getElem?_map]
    by_cases hi : i < L.length
    · rw [List.getElem?_range hi, List.getElem?_eq_getElem hi]
      show some (CA.sat (rowR 1 pnC (L.getD i []))) = _
      rw [List.getD_eq_getElem?_getD, List.getElem?_eq_getElem hi]; rfl
    · rw [List.getElem?_eq_none (by rw [List.length_range]; omega), List.getElem?_eq_none (by omega)]; rfl
  rw [ec, List.length_range] at hf
  exact hf
attribute [local irreducible] IntKind.wrap Go1 Reg WP thenK inBlk retQ retF RetF RetOK ResOK CallOK OpOK Sat
attribute [local irreducible] tabG rowG isign chs
theorem con_Ch0 (m : Nat) : PureOK Try.prog 26 [.v (.int .i64 (m : Int)), .v (.int .i64 ((0 : Nat) : Int))] (.r (rowR 1 lnC (chs m 0))) := by
  have e : chs m 0 = [[]] := by unfold chs; cases m <;> rfl
  rw [e]
  refine PureOK.fnF Try.func26 Try.results26 Try.ntmps26 rfl rfl rfl (by simp [AV.ids, AV0.ids, Atom.ids]) rfl (fun w0 T B E0 hB => ?_)
  refine SX.goB ?_
  refine ret1' (fun E S w v h => ?_)
  exact one_nil h
theorem con_ChO : ∀ (m n : Nat), m ≤ 10 → CallOK Try.prog 26 [.v (.int .i64 (m : Int)), .v (.int .i64 ((n + 1 : Nat) : Int))] [] ⟨.it (.one (hdrA 82 0)), [(82, .ent (.abs (RowsN (chs m (n + 1)))))]⟩ := by
  intro m
  induction m with
  | zero =>
    intro n hm
    have e : chs 0 (n + 1) = [] := by unfold chs; rfl
    rw [e]
    refine CallOK.fnA Try.func26 Try.results26 Try.ntmps26 rfl rfl rfl rfl rfl rfl rfl rfl (fun w0 T B E0 hB => ?_)
    refine SX.goB ?_
    refine RetF.le (SX.St.le_to (l := [(4, .it (.one (hdrA 82 0)))]) (m := [(82, .abs (RowsN []))]) [(82, none)] (by intro b h; cases h) ⟨⟨_, rfl, SX.AVto.nilRel rfl⟩, trivial⟩ ⟨SX.EntTo.nilRows rfl, trivial⟩ rfl) ?_
    exact retP (xs := [.one (hdrA 82 0)]) ⟨ResOK.tmp rfl, trivial⟩ ⟨rfl, trivial⟩
  | succ m ih =>
    intro n hm
    by_cases hmn : m + 1 < n + 1
    · rw [chs_nil hmn]
      refine CallOK.fnA Try.func26 Try.results26 Try.ntmps26 rfl rfl rfl rfl rfl rfl rfl rfl (fun w0 T B E0 hB => ?_)
      refine SX.goB ?_
      refine RetF.le (SX.St.le_to (l := [(4, .it (.one (hdrA 82 0)))]) (m := [(82, .abs (RowsN []))]) [(82, none)] (by intro b h; cases h) ⟨⟨_, rfl, SX.AVto.nilRel rfl⟩, trivial⟩ ⟨SX.EntTo.nilRows rfl, trivial⟩ rfl) ?_
      exact retP (xs := [.one (hdrA 82 0)]) ⟨ResOK.tmp rfl, trivial⟩ ⟨rfl, trivial⟩
    · have cO : CallOK Try.prog 26 [.v (.int .i64 ((m + 1 - 1 : Nat) : Int)), .v (.int .i64 ((n + 1 : Nat) : Int))] [] ⟨.it (.one (hdrA 82 0)), [(82, .ent (.abs (RowsN (chs m (n + 1)))))]⟩ := ih n (by omega)
      have cP : PureOK Try.prog 26 [.v (.int .i64 ((m + 1 - 1 : Nat) : Int)), .v (.int .i64 ((n + 1 - 1 : Nat) : Int))] (.r (rowR 1 lnC (chs m n))) := by
        cases n with
        | zero => exact con_Ch0 m
        | succ n => exact CallOK.frzN (ih n (by omega))
      have en : chs (m + 1) (n + 1) = chs m (n + 1) ++ (chs m n).map (· ++ [m]) := by conv => lhs; unfold chs
      rw [en]
      have l1 := chs_cnt m (n + 1)
      have l2 := chs_cnt m n
      have l3 : 2 ^ m ≤ 1024 := Nat.le_trans (Nat.pow_le_pow_right (by decide) (show m ≤ 10 by omega)) (by decide)
      have hmem := fun (i : Nat) a (h : (chs m n)[i]? = some a) => chs_len (List.mem_of_getElem? h)
      generalize chs m (n + 1) = O at *
      generalize chs m n = Q at *
      refine CallOK.fnA Try.func26 Try.results26 Try.ntmps26 rfl rfl rfl rfl rfl rfl rfl rfl (fun w0 T B E0 hB => ?_)
      refine SX.goB ?_
      refine callNewA cO rfl rfl rfl rfl ?_
      refine SX.goB ?_
      refine W.loop (fun i => i ≤ Q.length) (fun i => [(0, .v (.int .i64 ((m + 1 : Nat) : Int))), (5, .it (.one (hdrA 82 0))), (6, .r (rowR 1 lnC Q)), (7, .v (.int .i64 (i : Int)))]) (fun i => [(82, .abs (RowsN (O ++ (Q.take i).map (· ++ [m]))))]) (fun i => Q.length - i) 0 (Nat.zero_le _) (fun i hi => ?_)
        (by
          have e : RowsN O = RowsN (O ++ (Q.take 0).map (· ++ [m])) := by rw [List.take_zero, List.map_nil, List.append_nil]
          refine SX.St.le_to [] (by intro b h; cases h) ?_ ?_ rfl
          · repeat (first | exact trivial | refine ⟨⟨_, rfl, SX.AVto.same rfl⟩, ?_⟩)
          · exact ⟨SX.EntTo.eq rfl (congrArg Ent.abs e) rfl, trivial⟩)
      by_cases h : i < Q.length
      · obtain ⟨a, ha⟩ : ∃ a, Q[i]? = some a := ⟨_, List.getElem?_eq_getElem h⟩
        have hal := hmem i a ha
        have hlen : a.length + 1 = (a ++ [m]).length := by rw [List.length_append]; rfl
        have hcell : a.flatMap pnC ++ [CA.val (.int .i64 ((m : Nat) : Int))] = (a ++ [m]).flatMap pnC := by rw [List.flatMap_append]; rfl
        have hjs : (List.range (O ++ (Q.take i).map (· ++ [m])).length).length = (O ++ (Q.take i).map (· ++ [m])).length := List.length_range
        have hot : (O ++ (Q.take i).map (· ++ [m])).length ≤ 3000 := by rw [List.length_append, List.length_map, List.length_take]; omega
        have e2 : RowsI (List.range (O ++ (Q.take i).map (· ++ [m])).length ++ [(O ++ (Q.take i).map (· ++ [m])).length]) ((O ++ (Q.take i).map (· ++ [m])) ++ [a ++ [m]]) = RowsN (O ++ (Q.take (i + 1)).map (· ++ [m])) := by
          have e3 : O ++ (Q.take (i + 1)).map (· ++ [m]) = (O ++ (Q.take i).map (· ++ [m])) ++ [a ++ [m]] := by
            rw [List.take_add_one, ha, List.map_append, ← List.append_assoc]; rfl
          rw [e3]
          exact rowsN_snoc _ _
        generalize O ++ (Q.take i).map (· ++ [m]) = T0 at *
        refine SX.goB ?_
        refine SX.Go1.litH (l := a ++ [m]) (enc := pnC) rfl rfl rfl rfl hlen hcell ?_
        refine SX.goB ?_
        refine W.next (i + 1) h (by omega) (by
          refine SX.St.le_to [(82, some 44)] (by intro b h; cases h) ?_ ?_ rfl
          · repeat (first | exact trivial | refine ⟨⟨_, rfl, SX.AVto.same rfl⟩, ?_⟩ | refine ⟨⟨_, rfl, SX.AVto.rel rfl⟩, ?_⟩ | refine ⟨⟨_, rfl, SX.AVto.int (by omega)⟩, ?_⟩)
          · exact ⟨SX.EntTo.abs rfl rfl e2, trivial⟩)
      · obtain rfl : i = Q.length := by omega
        rw [List.take_length]
        refine SX.goB ?_
        exact retP (xs := [.one (hdrA 82 0)]) ⟨ResOK.tmp rfl, trivial⟩ ⟨rfl, trivial⟩
theorem con_ChP (m n : Nat) (hm : m ≤ 10) : PureOK Try.prog 26 [.v (.int .i64 (m : Int)), .v (.int .i64 (n : Int))] (.r (rowR 1 lnC (chs m n))) := by
  cases n with
  | zero => exact con_Ch0 m
  | succ n => exact CallOK.frzN (con_ChO m n hm)
end Go.Proofs.Ytmfadfkjnfdngaa
set_option linter.unusedVariables false
set_option linter.unusedSimpArgs false
namespace Go.Proofs.Ytmfadfkjnfdngaa
open Go.RowKit QM SX
def mnD (A : Nat → Nat → Int) (k : Nat) (R C : List Nat) : Int := dtF k (fun x y => A (R.getD x 0) (C.getD y 0))
def gcL (A : Nat → Nat → Int) (k : Nat) (R : List Nat) (Cs : List (List Nat)) (o : Int) : Int := Cs.foldl (fun o C => ((Int.gcd o (mnD A k R C) : Nat) : Int)) o
def gcM (A : Nat → Nat → Int) (k : Nat) (Rs Cs : List (List Nat)) : Int := Rs.foldl (fun o R => gcL A k R Cs o) 0
theorem gcd_lt {a b : Int} {M : Nat} (h : a.natAbs < M) (h' : b.natAbs < M) : (((Int.gcd a b : Nat) : Int)).natAbs < M := by
  rw [Int.natAbs_natCast]
  by_cases e : b = 0
  · subst e
    rw [Int.gcd_zero_right]; exact h
  · exact Nat.lt_of_le_of_lt (Nat.gcd_le_right _ (Int.natAbs_pos.2 e)) h'
theorem gcL_lt {A : Nat → Nat → Int} {k M : Nat} {R : List Nat} : ∀ (Cs : List (List Nat)) (o : Int), o.natAbs < M → (∀ C ∈ Cs, (mnD A k R C).natAbs < M) → (gcL A k R Cs o).natAbs < M
  | [], o, h, _ => h
  | C :: Cs, o, h, hh => gcL_lt Cs _ (gcd_lt h (hh C List.mem_cons_self)) fun D hD => hh D (List.mem_cons_of_mem _ hD)
theorem gcM_lt {A : Nat → Nat → Int} {k M : Nat} {Cs : List (List Nat)} : ∀ (Rs : List (List Nat)) (o : Int), o.natAbs < M → (∀ R ∈ Rs, ∀ C ∈ Cs, (mnD A k R C).natAbs < M) → (Rs.foldl (fun o R => gcL A k R Cs o) o).natAbs < M
  | [], o, h, _ => h
  | R :: Rs, o, h, hh => gcM_lt Rs _ (gcL_lt Cs o h (hh R List.mem_cons_self)) fun D hD => hh D (List.mem_cons_of_mem _ hD)
theorem gcL_dvd {A : Nat → Nat → Int} {k : Nat} {R : List Nat} {e : Int} : ∀ (Cs : List (List Nat)) (o : Int), e ∣ gcL A k R Cs o ↔ e ∣ o ∧ ∀ C ∈ Cs, e ∣ mnD A k R C
  | [], o => ⟨fun h => ⟨h, fun C hC => by cases hC⟩, fun h => h.1⟩
  | C :: Cs, o => by
    show e ∣ gcL A k R Cs _ ↔ _
    rw [gcL_dvd Cs, Int.dvd_coe_gcd_iff, List.forall_mem_cons, and_assoc]
theorem gcM_dvd' {A : Nat → Nat → Int} {k : Nat} {Cs : List (List Nat)} {e : Int} : ∀ (Rs : List (List Nat)) (o : Int), e ∣ Rs.foldl (fun o R => gcL A k R Cs o) o ↔ e ∣ o ∧ ∀ R ∈ Rs, ∀ C ∈ Cs, e ∣ mnD A k R C
  | [], o => ⟨fun h => ⟨h, fun C hC => by cases hC⟩, fun h => h.1⟩
  | R :: Rs, o => by
    show e ∣ Rs.foldl _ (gcL A k R Cs o) ↔ _
    rw [gcM_dvd' Rs, gcL_dvd, List.forall_mem_cons, and_assoc]
theorem gcM_dvd {A : Nat → Nat → Int} {k : Nat} {Rs Cs : List (List Nat)} {e : Int} : e ∣ gcM A k Rs Cs ↔ ∀ R ∈ Rs, ∀ C ∈ Cs, e ∣ mnD A k R C := by
  unfold gcM
  rw [gcM_dvd']
  exact ⟨fun h => h.2, fun h => ⟨Int.dvd_zero e, h⟩⟩
theorem gcL_nn {A : Nat → Nat → Int} {k : Nat} {R : List Nat} : ∀ (Cs : List (List Nat)) (o : Int), 0 ≤ o → 0 ≤ gcL A k R Cs o
  | [], o, h => h
  | C :: Cs, o, h => gcL_nn Cs _ (Int.natCast_nonneg _)
theorem gcM_nn {A : Nat → Nat → Int} {k : Nat} {Cs : List (List Nat)} : ∀ (Rs : List (List Nat)) (o : Int), 0 ≤ o → 0 ≤ Rs.foldl (fun o R => gcL A k R Cs o) o
  | [], o, h => h
  | R :: Rs, o, h => gcM_nn Rs _ (gcL_nn Cs o h)
theorem gcL_snoc {A : Nat → Nat → Int} {k j : Nat} {R C : List Nat} {Cs : List (List Nat)} {o : Int} (h : Cs[j]? = some C) : gcL A k R (Cs.take (j + 1)) o = ((Int.gcd (gcL A k R (Cs.take j) o) (mnD A k R C) : Nat) : Int) := by
  unfold gcL
  rw [List.take_add_one, h, List.foldl_append]; rfl
theorem gcM_snoc {A : Nat → Nat → Int} {k j : Nat} {R : List Nat} {Rs Cs : List (List Nat)} {o : Int} (h : Rs[j]? = some R) : (Rs.take (j + 1)).foldl (fun o R => gcL A k R Cs o) o = gcL A k R Cs ((Rs.take j).foldl (fun o R => gcL A k R Cs o) o) := by
  rw [List.take_add_one, h, List.foldl_append]; rfl
theorem mnD_lt {A : Nat → Nat → Int} {r c k K : Nat} (hA : ∀ x y, x < r → y < c → (A x y).natAbs < WB ^ K) {R C : List Nat} (hR : R ∈ chs r k) (hC : C ∈ chs c k) : (mnD A k R C).natAbs < WB ^ bdD K k := by
  refine dtF_lt k _ fun x y hx hy => hA _ _ ?_ ?_
  · refine chs_lt hR _ ?_
    rw [List.getD_eq_getElem?_getD, List.getElem?_eq_getElem (by rw [chs_len hR]; exact hx)]
    exact List.getElem_mem _
  · refine chs_lt hC _ ?_
    rw [List.getD_eq_getElem?_getD, List.getElem?_eq_getElem (by rw [chs_len hC]; exact hy)]
    exact List.getElem_mem _
attribute [local irreducible] IntKind.wrap Go1 Reg WP thenK inBlk retQ retF RetF RetOK ResOK CallOK OpOK Sat
attribute [local irreducible] tabG rowG isign chs mnD gcL dtF
set_option maxRecDepth 20000 in
theorem con_Minors {r c k K : Nat} {l : List Z2} {zs : List Int} (hM : MZ l zs K) (hl : l.length = r * c) (hr : r ≤ 10) (hc : c ≤ 10) (hk : k ≤ 10) (hK : bdD K k ≤ 100000) :
    PureOK Try.prog 12 [.agg (matY r c l), .v (.int .i64 (k : Int))] (.agg (zN (gcM (zat zs c) k (chs r k) (chs c k)))) := by
  have o0 := of_0
  have c1 := con_ChP r k hr
  have c2 := con_ChP c k hc
  have n1 := chs_cnt r k
  have n2 := chs_cnt c k
  have p1 : 2 ^ r ≤ 1024 := Nat.le_trans (Nat.pow_le_pow_right (by decide) (show r ≤ 10 by omega)) (by decide)
  have p2 : 2 ^ c ≤ 1024 := Nat.le_trans (Nat.pow_le_pow_right (by decide) (show c ≤ 10 by omega)) (by decide)
  have hA : ∀ x y, x < r → y < c → (zat zs c x y).natAbs < WB ^ K := fun x y hx hy => by
    obtain ⟨q, _, hq⟩ := hM.at hl hx hy
    exact hq.b
  have hb := fun R C (hR : R ∈ chs r k) (hC : C ∈ chs c k) => mnD_lt hA hR hC
  have hRl := fun R (hR : R ∈ chs r k) => chs_len hR
  have hCl := fun C (hC : C ∈ chs c k) => chs_len hC
  have hRr := fun R (hR : R ∈ chs r k) => chs_lt hR
  have hCc := fun C (hC : C ∈ chs c k) => chs_lt hC
  have h0 : (0 : Int).natAbs < WB ^ bdD K k := Nat.pow_pos WB_pos
  unfold gcM
  generalize chs r k = Rs at *
  generalize chs c k = Cs at *
  refine PureOK.fnF Try.func12 Try.results12 Try.ntmps12 rfl rfl rfl (by simp [AV.ids, AV0.ids, Atom.ids]) rfl (fun w0 T B E0 hB => ?_)
  refine SX.goB ?_
  refine W.loop (fun i => i ≤ Rs.length) (fun i => [(1, .v (.int .i64 (k : Int))), (2, .ptr 2 0), (4, .ptr 4 0), (5, .ptr 5 0), (6, .r (rowR 1 lnC Rs)), (7, .r (rowR 1 lnC Cs)), (8, .v (.int .i64 (i : Int)))]) (fun i => [(2, .box 24 (matY r c l)), (4, .box 34 [.c (.val (.bool false)), .c (.val (.slice none 0 0))]), (5, .box 34 (zN ((Rs.take i).foldl (fun o R => gcL (zat zs c) k R Cs o) 0)))]) (fun i => Rs.length - i) 0 (Nat.zero_le _) (fun i hi => ?_)
  by_cases h : i < Rs.length
  · obtain ⟨R, hR⟩ : ∃ R, Rs[i]? = some R := ⟨_, List.getElem?_eq_getElem h⟩
    have hRm := List.mem_of_getElem? hR
    have hoi : ((Rs.take i).foldl (fun o R => gcL (zat zs c) k R Cs o) 0).natAbs < WB ^ bdD K k := gcM_lt _ 0 h0 fun R hR C hC => hb R C (List.mem_of_mem_take hR) hC
    have enx := gcM_snoc (A := zat zs c) (k := k) (Cs := Cs) (o := 0) hR
    generalize (Rs.take i).foldl (fun o R => gcL (zat zs c) k R Cs o) 0 = o at *
    refine SX.goB ?_
    refine W.loop (fun j => j ≤ Cs.length) (fun j => [(1, .v (.int .i64 (k : Int))), (2, .ptr 2 0), (4, .ptr 4 0), (5, .ptr 5 0), (6, .r (rowR 1 lnC Rs)), (7, .r (rowR 1 lnC Cs)), (8, .v (.int .i64 (i : Int))), (9, .v (.int .i64 (j : Int)))]) (fun j => [(2, .box 24 (matY r c l)), (4, .box 34 [.c (.val (.bool false)), .c (.val (.slice none 0 0))]), (5, .box 34 (zN (gcL (zat zs c) k R (Cs.take j) o)))]) (fun j => Cs.length - j) 0 (Nat.zero_le _) (fun j hj => ?_)
      (by
        have e0 : gcL (zat zs c) k R (Cs.take 0) o = o := by rw [List.take_zero]; unfold gcL; rfl
        refine SX.St.le_to [] (by intro b h; cases h) ?_ ?_ rfl
        · repeat (first | exact trivial | refine ⟨⟨_, rfl, SX.AVto.same rfl⟩, ?_⟩)
        · exact ⟨SX.EntTo.same rfl rfl, SX.EntTo.same rfl rfl, by rw [e0]; exact SX.EntTo.same rfl rfl, trivial⟩)
    by_cases h2 : j < Cs.length
    · obtain ⟨C, hC⟩ : ∃ C, Cs[j]? = some C := ⟨_, List.getElem?_eq_getElem h2⟩
      have hCm := List.mem_of_getElem? hC
      have lR := hRl R hRm
      have lC := hCl C hCm
      have cP := con_Part R C hl (by omega) (by omega) (by omega) (by omega) (hRr R hRm) (hCc C hCm)
      have cD := con_Det12 k (fun x y => l.getD (R.getD x 0 * c + C.getD y 0) (z2v 0)) (fun x y => zat zs c (R.getD x 0) (C.getD y 0)) (K := K) ⟨fun x y hx hy => by
        have hx' : R.getD x 0 < r := hRr R hRm _ (by rw [List.getD_eq_getElem?_getD, List.getElem?_eq_getElem (show x < R.length by omega)]; exact List.getElem_mem _)
        have hy' : C.getD y 0 < c := hCc C hCm _ (by rw [List.getD_eq_getElem?_getD, List.getElem?_eq_getElem (show y < C.length by omega)]; exact List.getElem_mem _)
        obtain ⟨q, h1, h2⟩ := hM.at hl hx' hy'
        rw [List.getD_eq_getElem?_getD, h1]; exact h2⟩ (by omega) (by omega)
      have cD : PureOK Try.prog 28 [.agg (matG k k (fun x y => l.getD (R.getD x 0 * c + C.getD y 0) (z2v 0)))] (.agg (zN (mnD (zat zs c) k R C))) := by unfold mnD; exact cD
      rw [lR, lC] at cP
      have hoj : (gcL (zat zs c) k R (Cs.take j) o).natAbs < WB ^ bdD K k := gcL_lt _ _ hoi fun D hD => hb R D hRm (List.mem_of_mem_take hD)
      haveI i1 : Bd (gcL (zat zs c) k R (Cs.take j) o) (bdD K k) := ⟨hoj⟩
      haveI i2 : Bd (mnD (zat zs c) k R C) (bdD K k) := ⟨hb R C hRm hCm⟩
      have e2 := gcL_snoc (A := zat zs c) (k := k) (R := R) (o := o) hC
      refine SX.goB ?_
      refine W.next (j + 1) h2 (by omega) (by
        refine SX.St.le_to [] (by intro b h; cases h) ?_ ?_ rfl
        · repeat (first | exact trivial | refine ⟨⟨_, rfl, SX.AVto.same rfl⟩, ?_⟩ | refine ⟨⟨_, rfl, SX.AVto.int (by omega)⟩, ?_⟩)
        · exact ⟨SX.EntTo.same rfl rfl, SX.EntTo.same rfl rfl, by rw [e2]; exact SX.EntTo.same rfl rfl, trivial⟩)
    · obtain rfl : j = Cs.length := by omega
      have et : gcL (zat zs c) k R (Cs.take Cs.length) o = gcL (zat zs c) k R Cs o := by rw [List.take_length]
      refine SX.goB ?_
      refine W.next (i + 1) h (by omega) (by
        refine SX.St.le_to [] (by intro b h; cases h) ?_ ?_ rfl
        · repeat (first | exact trivial | refine ⟨⟨_, rfl, SX.AVto.same rfl⟩, ?_⟩ | refine ⟨⟨_, rfl, SX.AVto.int (by omega)⟩, ?_⟩)
        · exact ⟨SX.EntTo.same rfl rfl, SX.EntTo.same rfl rfl, by rw [enx, ← et]; exact SX.EntTo.same rfl rfl, trivial⟩)
  · obtain rfl : i = Rs.length := by omega
    rw [List.take_length]
    refine SX.goB ?_
    exact retA (ResOK.agg2 rfl rfl rfl) rfl
end Go.Proofs.Ytmfadfkjnfdngaa

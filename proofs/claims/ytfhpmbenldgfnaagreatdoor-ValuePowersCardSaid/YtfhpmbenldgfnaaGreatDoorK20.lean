import Derived.Test.YtfhpmbenldgfnaaGreatDoorK19
import Derived.Test.YtfhpmbenldgfnaaGreatDoorK9
set_option linter.unusedVariables false
set_option linter.unusedSimpArgs false
set_option linter.unusedSectionVars false
namespace Go.Proofs.YtfhpmbenldgfnaaGreatDoor
open Go.RowKit QM SX LA
attribute [local irreducible] IntKind.wrap Go1 Reg WP thenK inBlk retQ retF RetF RetOK ResOK CallOK OpOK Sat
attribute [local irreducible] qsub qmul qquo qcmp qadd qv redS mf PrP qOk zOk vP fp64 lz vF cq rqv plen pNorm pBoth pScale mulV cvR cvP pMul pShift zexq zexok exF vW sameV
section
variable {a b : List Int} {K L : Nat} (h : ∀ z ∈ a, z.natAbs < WB ^ K) (h' : ∀ z ∈ b, z.natAbs < WB ^ L) (hn : pN a) (hn' : pN b) (hl : a.length ≤ 4000) (hl' : b.length ≤ 4000) (hK : K + (a.length + 1) * (L + 1) ≤ 30000) (hL : L ≤ 30000)
include h h' hn hn' hl hl' hK hL
end
def quoT (u v : Vl) : Prop := v.k = 1 ∧ (u.k = 1 ∨ u.k = 2) ∨ u.k = 3 ∧ v.k = 3
section
variable {u v q : Vl} (hf : PureOK Tryz.prog 12 [.agg (vlA u), .agg (vlA v)] (.v (.bool true)))
include hf
variable (hi : PureOK Tryz.prog 14 [.agg (vlA u)] (.v (.bool true))) (hi' : PureOK Tryz.prog 14 [.agg (vlA v)] (.v (.bool true)))
include hi hi'
end
end Go.Proofs.YtfhpmbenldgfnaaGreatDoor
set_option linter.unusedVariables false
set_option linter.unusedSimpArgs false
set_option linter.unusedSectionVars false
namespace Go.Proofs.YtfhpmbenldgfnaaGreatDoor
open Go.RowKit QM SX LA
abbrev idL (n : Nat) : List Rat := tabR n idv n
def mpw (n : Nat) (vs : List Rat) : Nat → List Rat
  | 0 => idL n
  | k + 1 => mxMul n n n (mpw n vs k) vs
theorem mpw_len (n : Nat) (vs : List Rat) (k : Nat) : (mpw n vs k).length = n * n := by cases k <;> exact tabR_len n
theorem mx_ext {n : Nat} {a b : List Rat} (ha : a.length = n * n) (hb : b.length = n * n) (h : ∀ i k, i < n → k < n → vat a n i k = vat b n i k) : a = b := by
  rw [← tab_vat (r := n) (c := n) ha, ← tab_vat (r := n) (c := n) hb]
  exact tabR_ext fun i hi k hk => h i k hi hk
theorem mx_at {n : Nat} {a b : List Rat} {i k : Nat} (hi : i < n) (hk : k < n) : vat (mxMul n n n a b) n i k = prodV n (vat a n) (vat b n) i k := vat_tab hi hk
theorem mx_assoc (n : Nat) (a b c : List Rat) : mxMul n n n (mxMul n n n a b) c = mxMul n n n a (mxMul n n n b c) := by
  refine tabR_ext fun i hi k hk => ?_
  show sm n (fun j => vat (mxMul n n n a b) n i j * vat c n j k) = sm n (fun j => vat a n i j * vat (mxMul n n n b c) n j k)
  have e1 : sm n (fun j => vat (mxMul n n n a b) n i j * vat c n j k) = sm n (fun j => sm n (fun l => vat a n i l * vat b n l j * vat c n j k)) :=
    sm_congr fun j hj => by rw [mx_at hi hj, ← sm_mulR]
  have e2 : sm n (fun j => vat a n i j * vat (mxMul n n n b c) n j k) = sm n (fun j => sm n (fun l => vat a n i j * (vat b n j l * vat c n l k))) :=
    sm_congr fun j hj => by rw [mx_at hj hk, ← sm_mulL]
  rw [e1, e2, sm_swap]
  exact sm_congr fun j hj => sm_congr fun l hl => by rw [Rat.mul_assoc]
theorem mx_idl {n : Nat} {a : List Rat} (ha : a.length = n * n) : mxMul n n n (idL n) a = a := by
  refine mx_ext (tabR_len n) ha fun i k hi hk => ?_
  rw [mx_at hi hk]
  show sm n (fun j => vat (idL n) n i j * vat a n j k) = _
  rw [sm_one hi fun j hj hne => by rw [vat_tab hi hj]; unfold idv; rw [if_neg (fun e => hne e.symm), Rat.zero_mul]]
  rw [vat_tab hi hi]; unfold idv; rw [if_pos rfl, Rat.one_mul]
theorem mx_idr {n : Nat} {a : List Rat} (ha : a.length = n * n) : mxMul n n n a (idL n) = a := by
  refine mx_ext (tabR_len n) ha fun i k hi hk => ?_
  rw [mx_at hi hk]
  show sm n (fun j => vat a n i j * vat (idL n) n j k) = _
  rw [sm_one hk fun j hj hne => by rw [vat_tab hj hk]; unfold idv; rw [if_neg hne, Rat.mul_zero]]
  rw [vat_tab hk hk]; unfold idv; rw [if_pos rfl, Rat.mul_one]
theorem mpw_one {n : Nat} {vs : List Rat} (h : vs.length = n * n) : mpw n vs 1 = vs := mx_idl h
theorem mpw_add (n : Nat) {vs : List Rat} (h : vs.length = n * n) (a : Nat) : ∀ b, mxMul n n n (mpw n vs a) (mpw n vs b) = mpw n vs (a + b)
  | 0 => mx_idr (mpw_len n vs a)
  | b + 1 => by
    show mxMul n n n (mpw n vs a) (mxMul n n n (mpw n vs b) vs) = mxMul n n n (mpw n vs (a + b)) vs
    rw [← mx_assoc, mpw_add n h a b]
theorem mpw_inv (n : Nat) {a b : List Rat} (ha : a.length = n * n) (hb : b.length = n * n) (h : mxMul n n n a b = idL n) : ∀ k, mxMul n n n (mpw n a k) (mpw n b k) = idL n
  | 0 => mx_idl (tabR_len n)
  | k + 1 => by
    have e : mpw n b (k + 1) = mxMul n n n b (mpw n b k) := by
      have := mpw_add n hb 1 k
      rw [mpw_one hb, Nat.add_comm] at this; exact this.symm
    rw [e]
    show mxMul n n n (mxMul n n n (mpw n a k) a) (mxMul n n n b (mpw n b k)) = _
    rw [mx_assoc, ← mx_assoc n a, h, mx_idl (mpw_len n b k)]
    exact mpw_inv n ha hb h k
structure CD (vs : List Rat) (d m : Nat) : Prop where
  h : ∃ D : Nat, D ≠ 0 ∧ D < WB ^ d ∧ ∀ v ∈ vs, ∃ z : Int, v * (D : Rat) = z ∧ z.natAbs < WB ^ m
theorem castR {D : Nat} (h : D ≠ 0) : ((D : Int) : Rat) ≠ 0 := c0 (by omega)
theorem CD.rb {vs : List Rat} {d m : Nat} (h : CD vs d m) : ∀ v ∈ vs, RB v (max d m) := fun v hv => by
  obtain ⟨D, h0, h1, h2⟩ := h.h
  obtain ⟨z, hz, hb⟩ := h2 v hv
  refine RB.of (p := z) (q := (D : Int)) (by omega) ?_ (bd_up hb (Nat.le_max_right d m)) (by rw [Int.natAbs_natCast]; exact bd_up h1 (Nat.le_max_left d m))
  unfold qv
  rw [← hz]
  exact Rat.mul_div_cancel (castR h0)
theorem dens {K : Nat} : ∀ (vs : List Rat), (∀ v ∈ vs, RB v K) → CD vs (K * vs.length + 1) (K * vs.length + 1)
  | [], _ => ⟨1, by decide, by show 1 < WB ^ (K * 0 + 1); rw [Nat.mul_zero, Nat.zero_add, Nat.pow_one, WB_eq]; decide, fun v h => by cases h⟩
  | v :: vs, h => by
    obtain ⟨D, h0, h1, h2⟩ := (dens vs fun u hu => h u (List.mem_cons_of_mem _ hu)).h
    have hv := h v (List.mem_cons_self ..)
    have e : K * (v :: vs).length + 1 = K + (K * vs.length + 1) := by rw [List.length_cons, Nat.mul_add]; omega
    refine ⟨v.den * D, Nat.mul_ne_zero v.den_nz h0, ?_, fun u hu => ?_⟩
    · rw [e]; exact mul_lt_pow hv.d h1
    · rw [List.mem_cons] at hu
      rcases hu with rfl | hu
      · refine ⟨u.num * (D : Int), ?_, ?_⟩
        · have hd : ((u.den : Int) : Rat) ≠ 0 := castR u.den_nz
          have hs : (u.num : Rat) / ((u.den : Int) : Rat) = u := qv_self u
          have hn : u * ((u.den : Int) : Rat) = (u.num : Rat) := by
            have h3 : (u.num : Rat) / ((u.den : Int) : Rat) * ((u.den : Int) : Rat) = (u.num : Rat) := Rat.div_mul_cancel hd
            rwa [hs] at h3
          rw [Rat.intCast_mul, ← hn]
          show u * (((u.den * D : Nat) : Int) : Rat) = _
          rw [Int.natCast_mul, Rat.intCast_mul, Rat.mul_assoc]
        · rw [e, Int.natAbs_mul, Int.natAbs_natCast]; exact mul_lt_pow hv.n h1
      · obtain ⟨z, hz, hb⟩ := h2 u hu
        refine ⟨(v.den : Int) * z, ?_, ?_⟩
        · rw [Rat.intCast_mul, ← hz]
          show u * (((v.den * D : Nat) : Int) : Rat) = _
          rw [Int.natCast_mul, Rat.intCast_mul, ← Rat.mul_assoc, ← Rat.mul_assoc, Rat.mul_comm u]
          rfl
        · rw [e, Int.natAbs_mul, Int.natAbs_natCast]; exact mul_lt_pow hv.d hb
theorem tabR_all {p : Rat → Prop} {r c : Nat} {val : Nat → Nat → Rat} (h : ∀ i k, i < r → k < c → p (val i k)) : ∀ v ∈ tabR c val r, p v := fun v hv => by
  unfold tabR at hv
  rw [List.mem_flatMap] at hv
  obtain ⟨i, hi, hv⟩ := hv
  obtain ⟨k, hk, rfl⟩ := List.mem_map.1 hv
  exact h i k (List.mem_range.1 hi) (List.mem_range.1 hk)
theorem vat_mem {vs : List Rat} {r c i k : Nat} (hl : vs.length = r * c) (hi : i < r) (hk : k < c) : vat vs c i k ∈ vs := List.mem_of_getElem? (vat_at hl hi hk)
theorem sm_int {f : Nat → Rat} {D : Rat} {M : Nat} : ∀ (n : Nat), (∀ j, j < n → ∃ z : Int, f j * D = z ∧ z.natAbs < WB ^ M) → ∃ z : Int, sm n f * D = z ∧ z.natAbs ≤ n * WB ^ M
  | 0, _ => ⟨0, by show (0 : Rat) * D = _; rw [Rat.zero_mul]; rfl, by simp⟩
  | n + 1, h => by
    obtain ⟨z, h1, h2⟩ := sm_int n fun j hj => h j (by omega)
    obtain ⟨y, h3, h4⟩ := h n (by omega)
    refine ⟨z + y, ?_, ?_⟩
    · show (sm n f + f n) * D = _
      rw [Rat.add_mul, h1, h3, Rat.intCast_add]
    · rw [Nat.add_mul, Nat.one_mul]
      have := Int.natAbs_add_le z y
      omega
theorem CD.mul {n d m d' m' : Nat} {a b : List Rat} (ha : a.length = n * n) (hb : b.length = n * n) (hn : n ≤ 64) (h : CD a d m) (h' : CD b d' m') : CD (mxMul n n n a b) (d + d') (m + m' + 1) := by
  obtain ⟨D, h0, h1, h2⟩ := h.h
  obtain ⟨D', h0', h1', h2'⟩ := h'.h
  refine ⟨D * D', Nat.mul_ne_zero h0 h0', mul_lt_pow h1 h1', tabR_all fun i k hi hk => ?_⟩
  obtain ⟨z, hz, hb⟩ := sm_int (f := fun j => vat a n i j * vat b n j k) (D := ((D * D' : Nat) : Rat)) (M := m + m') n fun j hj => by
    obtain ⟨x, hx, hxb⟩ := h2 _ (vat_mem ha hi hj)
    obtain ⟨y, hy, hyb⟩ := h2' _ (vat_mem hb hj hk)
    refine ⟨x * y, ?_, by rw [Int.natAbs_mul]; exact mul_lt_pow hxb hyb⟩
    rw [Rat.intCast_mul, ← hx, ← hy]
    show _ * (((D * D' : Nat) : Int) : Rat) = vat a n i j * ((D : Int) : Rat) * (vat b n j k * ((D' : Int) : Rat))
    rw [Int.natCast_mul, Rat.intCast_mul]
    grind
  refine ⟨z, hz, Nat.lt_of_le_of_lt hb ?_⟩
  rw [Nat.pow_succ, Nat.mul_comm n]
  exact Nat.mul_lt_mul_of_pos_left (by rw [WB_eq]; omega) (Nat.pow_pos WB_pos)
theorem CD.id (n : Nat) : CD (idL n) 1 1 := ⟨1, by decide, by rw [WB_eq]; decide, tabR_all fun i k _ _ => by
  unfold idv
  split
  · exact ⟨1, (Rat.one_mul _).trans rfl, by rw [WB_eq]; decide⟩
  · exact ⟨0, (Rat.zero_mul _).trans rfl, by rw [WB_eq]; decide⟩⟩
theorem CD.mono {vs : List Rat} {d m d' m' : Nat} (h : CD vs d m) (hd : d ≤ d') (hm : m ≤ m') : CD vs d' m' := by
  obtain ⟨D, h0, h1, h2⟩ := h.h
  exact ⟨D, h0, bd_up h1 hd, fun v hv => by obtain ⟨z, hz, hb⟩ := h2 v hv; exact ⟨z, hz, bd_up hb hm⟩⟩
theorem CD.pow {n d m : Nat} {vs : List Rat} (hl : vs.length = n * n) (hn : n ≤ 64) (h : CD vs d m) : ∀ k, CD (mpw n vs k) (k * d + 1) (k * (m + 1) + 1)
  | 0 => (CD.id n).mono (by omega) (by omega)
  | k + 1 => (CD.mul (mpw_len n vs k) hl hn (CD.pow hl hn h k) h).mono (by rw [Nat.add_mul]; omega) (by rw [Nat.add_mul]; omega)
end Go.Proofs.YtfhpmbenldgfnaaGreatDoor
set_option linter.unusedVariables false
set_option linter.unusedSimpArgs false
set_option linter.unusedSectionVars false
namespace Go.Proofs.YtfhpmbenldgfnaaGreatDoor
open Go.RowKit QM SX LA
def jn (s : UInt8) : List (List UInt8) → List UInt8
  | [] => []
  | [a] => a
  | a :: b :: l => a ++ (s :: 32 :: jn s (b :: l))
def chk {α : Type} (c : Nat) : Nat → List α → List (List α)
  | 0, _ => []
  | r + 1, l => l.take c :: chk c r (l.drop c)
def tbS (r c : Nat) (l : List (List UInt8)) : List UInt8 :=
  if r = 0 ∨ c = 0 then [122, 101, 114, 111, 40] ++ (decS r ++ ([44, 32] ++ (decS c ++ [41]))) else 91 :: (jn 59 ((chk c r l).map (jn 44)) ++ [93])
def plS (l : List (List UInt8)) : List UInt8 := [112, 111, 108, 121, 40] ++ (jn 44 l ++ [41])
def mdS (s : List UInt8) (p : Nat) : List UInt8 := [109, 111, 100, 40] ++ (s ++ ([44, 32] ++ (decS p ++ [41])))
mutual
def tS : Vl → List UInt8
  | ⟨k, q, r, c, a, po, p, fr, fc, fa, ri, li⟩ =>
    if k = 1 then qS (rqv q) else if k = 2 then tbS r.toNat c.toNat (a.map fun x => qS (rqv x)) else if k = 3 then plS (po.map fun x => zS (rzv x))
    else if k = 4 then mdS (tbS fr.toNat fc.toNat (fa.map decS)) p else if k = 5 then mdS (plS (ri.map decS)) p else 123 :: (jn 44 (tL li) ++ [125])
def tL : List Vl → List (List UInt8)
  | [] => []
  | v :: l => tS v :: tL l
end
def dgc (c : UInt8) : Prop := 48 ≤ c.toNat ∧ c.toNat ≤ 57
def nmc (c : UInt8) : Prop := c = 45 ∨ c = 47 ∨ dgc c
def Tm (r : List UInt8) : Prop := ∀ c m, r = c :: m → c = 44 ∨ c = 59 ∨ c = 93 ∨ c = 41 ∨ c = 125
def Tell {α : Type} (A : α → Prop) (T : List UInt8 → Prop) (f : α → List UInt8) : Prop := ∀ x y, A x → A y → ∀ r s, T r → T s → f x ++ r = f y ++ s → x = y ∧ r = s
def Cl (c0 : UInt8) (r : List UInt8) : Prop := ∃ m, r = c0 :: m
def Cl2 (r : List UInt8) : Prop := ∃ c m, r = c :: m ∧ (c = 59 ∨ c = 93)
section
variable {α : Type} {f : α → List UInt8} (hf : Tell (fun _ => True) Tm f) (hn : ∀ x, ∃ c m, f x = c :: m ∧ (c = 45 ∨ dgc c))
include hf hn
end
def kd (v : Vl) (d : UInt8) : Prop := (v.k = 1 ∧ (d = 45 ∨ dgc d)) ∨ (v.k = 2 ∧ (d = 122 ∨ d = 91)) ∨ (v.k = 3 ∧ d = 112) ∨ (v.k = 4 ∧ d = 109) ∨ (v.k = 5 ∧ d = 109) ∨ (v.k = 6 ∧ d = 123)
end Go.Proofs.YtfhpmbenldgfnaaGreatDoor
set_option linter.unusedVariables false
set_option linter.unusedSimpArgs false
namespace Go.Proofs.YtfhpmbenldgfnaaGreatDoor
open Go.RowKit QM SX LA
def txC (s : List UInt8) : List CA := [.val (str s)]
def sq (c : Nat) : Nat → List (List UInt8) → List UInt8
  | _, [] => []
  | i, x :: l => (if 0 < i ∧ i % c = 0 then [59, 32] else []) ++ ((if 0 < i % c then [44, 32] else []) ++ (x ++ sq c (i + 1) l))
attribute [local irreducible] IntKind.wrap Go1 Reg WP thenK inBlk retQ retF RetF RetOK ResOK CallOK OpOK Sat
attribute [local irreducible] qsub qmul qquo qcmp qadd qv redS mf PrP qOk zOk vP fp64 lz vF cq rqv plen pNorm pBoth pScale mulV jn sq decS qS zS
end Go.Proofs.YtfhpmbenldgfnaaGreatDoor
set_option linter.unusedVariables false
set_option linter.unusedSimpArgs false
namespace Go.Proofs.YtfhpmbenldgfnaaGreatDoor
open Go.RowKit QM SX LA
theorem take_all {α : Type} (l : List α) : l.take l.length = l := List.take_length
attribute [local irreducible] IntKind.wrap Go1 Reg WP thenK inBlk retQ retF RetF RetOK ResOK CallOK OpOK Sat
attribute [local irreducible] qsub qmul qquo qcmp qadd qv redS mf PrP qOk zOk vP fp64 lz vF cq rqv plen pNorm pBoth pScale mulV jn sq decS qS zS tS tbS
end Go.Proofs.YtfhpmbenldgfnaaGreatDoor
set_option linter.unusedVariables false
set_option linter.unusedSimpArgs false
set_option linter.unusedSectionVars false
namespace Go.Proofs.YtfhpmbenldgfnaaGreatDoor
open Go.RowKit QM SX LA
abbrev nL (zs : List Int) : List Vl := zs.map fun z => vNum ((z : Int) : Rat)
def Sml (zs : List Int) : Prop := ∀ z ∈ zs, -1000 ≤ z ∧ z ≤ 1000
theorem sml_bd {z : Int} (h : -1000 ≤ z ∧ z ≤ 1000) : z.natAbs < WB ^ 1 := by rw [Nat.pow_one, WB_eq]; omega
theorem sml_RB {z : Int} (h : -1000 ≤ z ∧ z ≤ 1000) : RB (z : Rat) 1 := RB.ofI (sml_bd h) (Nat.le_refl 1)
attribute [local irreducible] IntKind.wrap Go1 Reg WP thenK inBlk retQ retF RetF RetOK ResOK CallOK OpOK Sat
attribute [local irreducible] qsub qmul qquo qcmp qadd qv redS mf PrP qOk zOk vP fp64 lz vF cq rqv plen pNorm pBoth pScale mulV jn sq decS qS zS tS tbS
def wtd (k : Int) : Nat := if k = 2 ∨ k = 4 then 2 else if k = 3 ∨ k = 5 ∨ k = 6 then 1 else 0
section
variable {v : Vl} {zs : List Int} (hF : PureOK Tryz.prog 28 [.agg (vlA v)] (.v (.bool true))) (hN : ∀ z ∈ zs, PureOK Tryz.prog 28 [.agg (vlA (vNum ((z : Int) : Rat)))] (.v (.bool true)))
  (hP : PureOK Tryz.prog 90 [.r (rowR 15 vlE (nL zs))] (.tup [.one (.c (.sat (rowR 1 i64C zs))), .one (.c (.val (.bool true)))])) (hl : zs.length ≤ 1000) {n : Nat} (hw : PureOK Tryz.prog 91 [.agg (vlA v)] (.v (.int .i64 (n : Int))))
include hF hN hP hl hw
end
section
variable {K n m : Nat} (hK : 1 ≤ K) (hK2 : K ≤ 100000) (hn : 1 ≤ n) (hm : 1 ≤ m)
include hK hK2 hn hm
end
section
variable {K n : Nat} (hK2 : K ≤ 100000) (hn2 : n ≤ 1000)
include hK2 hn2
end
end Go.Proofs.YtfhpmbenldgfnaaGreatDoor
set_option linter.unusedVariables false
set_option linter.unusedSimpArgs false
set_option linter.unusedSectionVars false
namespace Go.Proofs.YtfhpmbenldgfnaaGreatDoor
open Go.RowKit QM SX LA
def idr (n i k : Nat) : List CA := ((tabR n idv i ++ (List.range k).map (idv i)).map q4v).flatMap q4C
theorem idr_step (n i k : Nat) : idr n i k ++ q4C (q4v (idv i k)) = idr n i (k + 1) := by
  unfold idr; rw [List.range_succ]; simp
theorem idr_full (n i : Nat) : idr n i n = idr n (i + 1) 0 := by
  unfold idr; rw [tabR_succ]; simp
theorem idr_end (n : Nat) : sliceR 4 (n * n) (idr n n 0) = rowR 4 q4C ((idL n).map q4v) := by
  unfold idr
  show sliceR 4 (n * n) (((tabR n idv n ++ []).map q4v).flatMap q4C) = sliceR 4 ((idL n).map q4v).length (((idL n).map q4v).flatMap q4C)
  rw [List.append_nil, List.length_map, tabR_len]
theorem bl_lt {x K : Nat} (h : x < 2 ^ K) : bitLen x ≤ K := by
  by_cases h0 : x = 0
  · rw [bitLen_zero.2 h0]; omega
  · have h1 := (bitLen_spec x).2 h0
    have h2 : 2 ^ (bitLen x - 1) < 2 ^ K := Nat.lt_of_le_of_lt h1 h
    have := (Nat.pow_lt_pow_iff_right (a := 2) (by omega)).1 h2
    omega
theorem bl_len {x k : Nat} (h : x < WB ^ k) : bitLen x ≤ 64 * k := by
  refine bl_lt (Nat.lt_of_lt_of_le h ?_)
  rw [WB_pow, ← Nat.pow_mul]
  exact Nat.le_refl _
theorem qB_le {x : Rat} {K : Nat} (h : RB x K) : qB x ≤ 64 * K := by
  have h1 := bl_len h.n
  have h2 := bl_len h.d
  unfold qB; omega
def mxb (vs : List Rat) : Nat := vs.foldl (fun b v => max b (qB v)) 0
theorem mxb_snoc (vs : List Rat) (v : Rat) : mxb (vs ++ [v]) = max (mxb vs) (qB v) := by unfold mxb; rw [List.foldl_append]; rfl
theorem mxb_le {K : Nat} {vs : List Rat} (h : ∀ v ∈ vs, RB v K) : mxb vs ≤ 64 * K := by
  unfold mxb
  have key : ∀ (l : List Rat) (b : Nat), (∀ v ∈ l, RB v K) → b ≤ 64 * K → l.foldl (fun b v => max b (qB v)) b ≤ 64 * K := by
    intro l
    induction l with
    | nil => intro b _ hb; exact hb
    | cons v l ih =>
      intro b hl hb
      refine ih _ (fun u hu => hl u (List.mem_cons_of_mem _ hu)) ?_
      have := qB_le (hl v (List.mem_cons_self ..))
      show max b (qB v) ≤ _
      omega
  exact key vs 0 h (Nat.zero_le _)
attribute [local irreducible] IntKind.wrap Go1 Reg WP thenK inBlk retQ retF RetF RetOK ResOK CallOK OpOK Sat
attribute [local irreducible] qsub qmul qquo qcmp qadd qv redS mf PrP qOk zOk vP fp64 lz vF cq rqv plen pNorm pBoth pScale mulV mpw mxMul idr mxb qB
def lmF (n : Nat) (vs : List Rat) (lm0 : List Q4) (b : Nat) : List Q4 := if b = 1 then lm0 else (mpw n vs b).map q4v
set_option maxRecDepth 20000 in
set_option maxHeartbeats 4000000 in
theorem con_raised {n k : Nat} {vs : List Rat} {lm0 : List Q4} {L : Nat → Nat} (hl : vs.length = n * n) (hn : n ≤ 64) (hk : k ≤ 5) (h0 : MV lm0 (mpw n vs 1) (L 1)) (hl0 : lm0.length = n * n) (hL : ∀ e, e ≤ 5 → ∀ v ∈ mpw n vs e, RB v (L e)) (hL1 : ∀ e, 1 ≤ L e) (hB : ∀ a b, a + b ≤ 5 → 1 + (n + 1) * (L a + L b + 1) ≤ 400000) :
    PureOK Tryz.prog 111 [.agg (matQ n n lm0), .v (.int .i64 (k : Int))] (.agg (matQ n n ((mpw n vs k).map q4v))) := by
  have hnn := Nat.mul_le_mul hn hn
  have cO : PureOK Tryz.prog 36 [.agg [.c (.val (.bool false)), .c (.val (.slice none 0 0))]] (.agg (qA 0)) := con_rOf.h (by decide)
  have o1 := of_1
  have o2 := rof_1
  have mF : ∀ b, b ≤ 5 → MV (lmF n vs lm0 b) (mpw n vs b) (L b) := fun b hb => by
    unfold lmF
    by_cases h : b = 1
    · subst h; rw [if_pos rfl]; exact h0
    · rw [if_neg h]; exact MV.made (hL b hb)
  have lF : ∀ b, (lmF n vs lm0 b).length = n * n := fun b => by
    unfold lmF
    by_cases h : b = 1
    · rw [if_pos h]; exact hl0
    · rw [if_neg h, List.length_map]; exact mpw_len n vs b
  have cM : ∀ a b, a + b ≤ 5 → PureOK Tryz.prog 78 [.agg (matQ n n ((mpw n vs a).map q4v)), .agg (matQ n n (lmF n vs lm0 b))] (.tup [.agg (matQ n n ((mpw n vs (a + b)).map q4v)), eNo 0]) := fun a b h => by
    have c := con_qmMul (MV.made (hL a (by omega))) (by rw [List.length_map]; exact mpw_len n vs a) (mF b (by omega)) (lF b) hn hn hn (hL1 a) (hL1 b) (hB a b h)
    rw [matA_matQ] at c
    rw [← mpw_add n hl a b]
    unfold mxMul
    exact c
  have cM2 : ∀ b, b + b ≤ 5 → 1 ≤ b → PureOK Tryz.prog 78 [.agg (matQ n n (lmF n vs lm0 b)), .agg (matQ n n (lmF n vs lm0 b))] (.tup [.agg (matQ n n (lmF n vs lm0 (b + b))), eNo 0]) := fun b h h1 => by
    have c := con_qmMul (mF b (by omega)) (lF b) (mF b (by omega)) (lF b) hn hn hn (hL1 b) (hL1 b) (hB b b h)
    rw [matA_matQ] at c
    have e : lmF n vs lm0 (b + b) = (mpw n vs (b + b)).map q4v := by unfold lmF; rw [if_neg (by omega)]
    rw [e, ← mpw_add n hl b b]
    unfold mxMul
    exact c
  have e1 : lmF n vs lm0 1 = lm0 := by unfold lmF; rw [if_pos rfl]
  clear h0 hL hL1 hB mF lF
  refine PureOK.fnF Tryz.func111 Tryz.results111 Tryz.ntmps111 rfl rfl rfl (by simp [AV.ids, AV0.ids, Atom.ids]) rfl (fun w0 T B E0 hB => ?_)
  refine SX.goL ?_
  refine W.loop (fun i => i ≤ n) (fun i => [(1, .v (.int .i64 (k : Int))), (2, .ptr 2 0), (4, .ptr 4 0), (5, .ptr 5 0), (15, .v (.int .i64 (n : Int))), (16, .v (.int .i64 (i : Int)))]) (fun i => [(2, .box 30 (matQ n n lm0)), (4, .box 30 [.c (.val (.int .i64 0)), .c (.val (.int .i64 0)), .c (.val (.slice none 0 0))]), (5, .box 30 [.c (.val (.int .i64 (n : Int))), .c (.val (.int .i64 (n : Int))), .own 100]), (100, .row 27 4 (i * n) (idr n i 0))]) (fun i => n - i) 0 (Nat.zero_le _) (fun i hi => ?_)
    (by
      refine SX.St.le_to [(100, none)] (by intro b h; cases h) ?_ ?_ rfl
      · repeat (first | exact trivial | refine ⟨⟨_, rfl, SX.AVto.same rfl⟩, ?_⟩)
      · exact ⟨SX.EntTo.same rfl rfl, SX.EntTo.same rfl rfl, SX.EntTo.boxTo rfl rfl ⟨AtomTo.same rfl, AtomTo.same rfl, AtomTo.nil rfl, trivial⟩, (by rw [Nat.zero_mul, show idr n 0 0 = [] by unfold idr; rfl]; exact SX.EntTo.nilRow rfl), trivial⟩)
  by_cases h : i < n
  · have hin : i * n + n ≤ n * n := by rw [← Nat.succ_mul]; exact Nat.mul_le_mul_right _ h
    refine SX.goL ?_
    refine W.loop (fun j => j ≤ n) (fun j => [(1, .v (.int .i64 (k : Int))), (2, .ptr 2 0), (4, .ptr 4 0), (5, .ptr 5 0), (6, .v (.int .i64 (i : Int))), (15, .v (.int .i64 (n : Int))), (16, .v (.int .i64 (i : Int))), (20, .v (.int .i64 (n : Int))), (21, .v (.int .i64 (j : Int)))]) (fun j => [(2, .box 30 (matQ n n lm0)), (4, .box 30 [.c (.val (.int .i64 0)), .c (.val (.int .i64 0)), .c (.val (.slice none 0 0))]), (5, .box 30 [.c (.val (.int .i64 (n : Int))), .c (.val (.int .i64 (n : Int))), .own 100]), (100, .row 27 4 (i * n + j) (idr n i j))]) (fun j => n - j) 0 (Nat.zero_le _) (fun j hj => ?_)
      (by
        refine SX.St.le_to [(100, some 100)] (by intro b h; cases h) ?_ ?_ rfl
        · repeat (first | exact trivial | refine ⟨⟨_, rfl, SX.AVto.same rfl⟩, ?_⟩)
        · exact ⟨SX.EntTo.same rfl rfl, SX.EntTo.same rfl rfl, SX.EntTo.boxTo rfl rfl ⟨AtomTo.same rfl, AtomTo.same rfl, AtomTo.own rfl, trivial⟩, SX.EntTo.row rfl rfl rfl rfl, trivial⟩)
    by_cases hj2 : j < n
    · have e2 := idr_step n i j
      by_cases hij : i = j
      · rw [show idv i j = 1 by unfold idv; rw [if_pos hij]] at e2
        refine SX.goL ?_
        refine W.next (j + 1) hj2 (by omega) (by
          refine SX.St.le_to [(100, some 35)] (by intro b h; cases h) ?_ ?_ rfl
          · repeat (first | exact trivial | refine ⟨⟨_, rfl, SX.AVto.same rfl⟩, ?_⟩)
          · exact ⟨SX.EntTo.same rfl rfl, SX.EntTo.same rfl rfl, SX.EntTo.boxTo rfl rfl ⟨AtomTo.same rfl, AtomTo.same rfl, AtomTo.own rfl, trivial⟩, SX.EntTo.row rfl rfl rfl e2, trivial⟩)
      · rw [show idv i j = 0 by unfold idv; rw [if_neg hij]] at e2
        refine SX.goL ?_
        refine W.next (j + 1) hj2 (by omega) (by
          refine SX.St.le_to [(100, some 35)] (by intro b h; cases h) ?_ ?_ rfl
          · repeat (first | exact trivial | refine ⟨⟨_, rfl, SX.AVto.same rfl⟩, ?_⟩)
          · exact ⟨SX.EntTo.same rfl rfl, SX.EntTo.same rfl rfl, SX.EntTo.boxTo rfl rfl ⟨AtomTo.same rfl, AtomTo.same rfl, AtomTo.own rfl, trivial⟩, SX.EntTo.row rfl rfl rfl e2, trivial⟩)
    · obtain rfl : j = n := by omega
      have e3 := idr_full j i
      refine SX.goL ?_
      refine W.next (i + 1) h (by omega) (by
        refine SX.St.le_to [(100, some 100)] (by intro b h; cases h) ?_ ?_ rfl
        · repeat (first | exact trivial | refine ⟨⟨_, rfl, SX.AVto.same rfl⟩, ?_⟩)
        · exact ⟨SX.EntTo.same rfl rfl, SX.EntTo.same rfl rfl, SX.EntTo.boxTo rfl rfl ⟨AtomTo.same rfl, AtomTo.same rfl, AtomTo.own rfl, trivial⟩, SX.EntTo.row rfl rfl (by rw [Nat.add_mul, Nat.one_mul]) e3, trivial⟩)
  obtain rfl : i = n := by omega
  refine SX.WP.freeze 100 hB rfl ?_
  refine SX.goL ?_
  refine W.loop3 (fun x a b => a + b * x = k ∧ x ≤ k ∧ 1 ≤ b) (fun x a b => [(1, .v (.int .i64 (x : Int))), (2, .ptr 2 0), (4, .ptr 4 0), (5, .ptr 5 0)]) (fun x a b => [(2, .box 30 (matQ i i (lmF i vs lm0 b))), (4, .box 30 [.c (.val (.int .i64 0)), .c (.val (.int .i64 0)), .c (.val (.slice none 0 0))]), (5, .box 30 (matQ i i ((mpw i vs a).map q4v)))]) (fun x _ _ => x) k 0 1 ⟨by omega, Nat.le_refl _, Nat.le_refl _⟩ (fun x a b ⟨p1, p2, p3⟩ => ?_)
    (by
      rw [e1, show mpw i vs 0 = idL i by unfold mpw; rfl]
      refine SX.St.le_to [] (by intro b h; cases h) ?_ ?_ rfl
      · repeat (first | exact trivial | refine ⟨⟨_, rfl, SX.AVto.same rfl⟩, ?_⟩)
      · have e4 := idr_end i
        exact ⟨SX.EntTo.same rfl rfl, SX.EntTo.same rfl rfl, SX.EntTo.eq rfl (by show Ent.box _ [_, _, .c (.sat (sliceR 4 (i * i) (idr i i 0)))] = _; rw [e4]; rfl) rfl, trivial⟩)
  by_cases hx0 : x = 0
  · subst hx0
    obtain rfl : a = k := by omega
    refine SX.goL ?_
    exact retA (ResOK.agg3 rfl rfl rfl) rfl
  have hb1 : b * 1 ≤ b * x := Nat.mul_le_mul_left b (by omega)
  have m1 := cM a b (by omega)
  obtain ⟨y, hy⟩ : ∃ y, y = x / 2 := ⟨_, rfl⟩
  have ey : (b + b) * y = 2 * (b * y) := by rw [Nat.add_mul]; omega
  by_cases hodd : x % 2 = 1
  · have ex : x = 2 * y + 1 := by omega
    have eb : b * x = 2 * (b * y) + b := by rw [ex, Nat.mul_add, Nat.mul_one, ← Nat.mul_assoc, Nat.mul_comm b 2, Nat.mul_assoc]
    by_cases hx1 : x > 1
    · have hb2 : b * 1 ≤ b * y := Nat.mul_le_mul_left b (by omega)
      have m2 := cM2 b (by omega) p3
      refine SX.goL ?_
      exact W.next3 (x / 2) (a + b) (b + b) ⟨by rw [← hy, ey]; omega, by omega, by omega⟩ (by omega)
    · have hy0 : y = 0 := by omega
      refine SX.goL ?_
      exact W.next3 (x / 2) (a + b) b ⟨by rw [← hy, hy0, Nat.mul_zero]; rw [hy0] at eb; omega, by omega, p3⟩ (by omega)
  · have ex : x = 2 * y := by omega
    have eb : b * x = 2 * (b * y) := by rw [ex, ← Nat.mul_assoc, Nat.mul_comm b 2, Nat.mul_assoc]
    have hb2 : b * 1 ≤ b * y := Nat.mul_le_mul_left b (by omega)
    have m2 := cM2 b (by omega) p3
    have hx1 : x > 1 := by omega
    refine SX.goL ?_
    exact W.next3 (x / 2) a (b + b) ⟨by rw [← hy, ey]; omega, by omega, by omega⟩ (by omega)
theorem con_bits2 {r c : Nat} {vs : List Rat} {K : Nat} (h : ∀ v ∈ vs, RB v K) (hK : K ≤ 100000) (hl : vs.length ≤ 100000) : PureOK Tryz.prog 73 [.agg (vlA (vMat r c vs))] (.v (.int .i64 (mxb vs : Int))) := by
  have cO := nOf' 0 (by decide) (by decide)
  have cB : PureOK Tryz.prog 89 [.r (nrmN (0 : Int).natAbs)] (.v (.int .i64 0)) := by
    haveI : BdN 0 1 := ⟨by rw [WB_eq]; decide⟩
    exact (con_nBits (a := .sat (nrmN 0))).h (by decide)
  have m1 : ((vs.map cq).map rq).length = vs.length := mq_len vs
  have m2 : ((vMat r c vs).a.map rq).length = vs.length := mq_len vs
  refine PureOK.fnF Tryz.func73 Tryz.results73 Tryz.ntmps73 rfl rfl rfl (by simp [AV.ids, AV0.ids, Atom.ids]) rfl (fun w0 T B E0 hB => ?_)
  refine SX.goL ?_
  refine W.loop (fun k => k ≤ vs.length) (fun k => [(1, .ptr 1 0), (3, .v (.int .i64 (mxb (vs.take k) : Int))), (25, .r (rowR 4 q4C (mq vs))), (26, .v (.int .i64 (vs.length : Int))), (27, .v (.int .i64 (k : Int)))]) (fun k => [(1, .box 39 (vlA (vMat r c vs)))]) (fun k => vs.length - k) 0 (Nat.zero_le _) (fun k hk => ?_)
    (by
      refine SX.St.le_to [] (by intro b h; cases h) ?_ ?_ rfl
      · rw [List.take_zero, show mxb [] = 0 by unfold mxb; rfl]
        repeat (first | exact trivial | refine ⟨⟨_, rfl, SX.AVto.same rfl⟩, ?_⟩ | refine ⟨⟨_, rfl, SX.AVto.int (by omega)⟩, ?_⟩)
      · exact ⟨SX.EntTo.same rfl rfl, trivial⟩)
  by_cases hk2 : k < vs.length
  · obtain ⟨x, hx⟩ : ∃ x, vs[k]? = some x := ⟨_, List.getElem?_eq_getElem hk2⟩
    have hx' : (mq vs)[k]? = some (rq (cq x)) := by rw [List.getElem?_map, List.getElem?_map, hx]; rfl
    have h' : k < (mq vs).length := by rw [mq_len]; exact hk2
    have hb := h x (List.mem_of_getElem? hx)
    have cx := con_rBits (q := cq x) (by have := (vZ0.num hb hK).q.2; dsimp only at this; omega)
    rw [cq_val] at cx
    have e2 : max (mxb (vs.take k)) (qB x) = mxb (vs.take (k + 1)) := by rw [take_snoc hx, mxb_snoc]
    refine SX.goL ?_
    refine W.next (k + 1) hk2 (by omega) (by
      refine SX.St.le_to [] (by intro b h; cases h) ?_ ?_ rfl
      · rw [← e2]
        repeat (first | exact trivial | refine ⟨⟨_, rfl, SX.AVto.same rfl⟩, ?_⟩ | refine ⟨⟨_, rfl, SX.AVto.int (by omega)⟩, ?_⟩)
      · exact ⟨SX.EntTo.same rfl rfl, trivial⟩)
  · obtain rfl : k = vs.length := by omega
    rw [take_all]
    refine SX.goL ?_
    exact retI rfl
theorem con_exp {u : Vl} {z : Int} {B k : Nat} (hu : u.k = 1 ∨ u.k = 2) (hz : z = k ∨ z = -(k : Int)) (hk : k ≤ 5) (hB : PureOK Tryz.prog 73 [.agg (vlA u)] (.v (.int .i64 (B : Int)))) (hBb : B ≤ 1000) :
    PureOK Tryz.prog 109 [.agg (vlA u), .agg (vlA (vNum (z : Rat)))] (.tup [.one (.c (.val (.int .i64 z))), eNo 0]) := by
  have hs : -1000 ≤ z ∧ z ≤ 1000 := by omega
  have cw := con_whl (sml_RB hs) (by decide)
  rw [if_pos (Rat.den_intCast z), decide_eq_true (Rat.den_intCast z), Rat.num_intCast] at cw
  have ok : i64ok z = true := by unfold i64ok; rw [Bool.and_eq_true, decide_eq_true_iff, decide_eq_true_iff]; omega
  have cS := zSmall (l := zN z) (h := (ZQ.made (sml_bd hs)).zi) (by decide)
  unfold i64of at cS
  rw [ok, if_pos rfl] at cS
  have hm := Nat.mul_le_mul hk (show max 1 B ≤ 1000 by omega)
  have hneg : IntKind.i64.wrap (0 - -(k : Int)) = (k : Int) := by rw [show (0 - -(k : Int)) = (k : Int) by omega]; exact wrapI64 (by omega) (by omega)
  refine PureOK.fnF Tryz.func109 Tryz.results109 Tryz.ntmps109 rfl rfl rfl (by simp [AV.ids, AV0.ids, Atom.ids]) rfl (fun w0 T B E0 hB => ?_)
  rcases hz with rfl | rfl
  · by_cases h1 : u.k = 1
    · refine SX.goL ?_
      exact .ok (RetOK.mk2 (ResOK.tmp rfl) (ResOK.tmp rfl))
    · have h2 : u.k = 2 := by omega
      refine SX.goL ?_
      exact .ok (RetOK.mk2 (ResOK.tmp rfl) (ResOK.tmp rfl))
  · by_cases h1 : u.k = 1
    · refine SX.goL ?_
      exact .ok (RetOK.mk2 (ResOK.tmp rfl) (ResOK.tmp rfl))
    · have h2 : u.k = 2 := by omega
      refine SX.goL ?_
      exact .ok (RetOK.mk2 (ResOK.tmp rfl) (ResOK.tmp rfl))
theorem con_expE {u : Vl} {z : Int} (hu : u.k ≠ 1 ∧ u.k ≠ 2) (hs : -10000 ≤ z ∧ z ≤ 10000) :
    PureOK Tryz.prog 109 [.agg (vlA u), .agg (vlA (vNum (z : Rat)))] (.tup [.one (.c (.val (.int .i64 0))), eNo 5]) := by
  have cw := con_whl (RB.ofI (z := z) (K := 1) (by rw [Nat.pow_one, WB_eq]; omega) (by decide)) (by decide)
  rw [if_pos (Rat.den_intCast z), decide_eq_true (Rat.den_intCast z), Rat.num_intCast] at cw
  refine PureOK.fnF Tryz.func109 Tryz.results109 Tryz.ntmps109 rfl rfl rfl (by simp [AV.ids, AV0.ids, Atom.ids]) rfl (fun w0 T B E0 hB => ?_)
  refine SX.goL ?_
  exact .ok (RetOK.mk2 (ResOK.tmp rfl) (ResOK.tmp rfl))
theorem con_expF {u : Vl} {z : Int} (hu : u.k = 1 ∨ u.k = 2) (hs : 4096 < z ∧ z ≤ 10000) :
    PureOK Tryz.prog 109 [.agg (vlA u), .agg (vlA (vNum (z : Rat)))] (.tup [.one (.c (.val (.int .i64 0))), eNo 7]) := by
  have hb : z.natAbs < WB ^ 1 := by rw [Nat.pow_one, WB_eq]; omega
  have cw := con_whl (RB.ofI (z := z) (K := 1) hb (by decide)) (by decide)
  rw [if_pos (Rat.den_intCast z), decide_eq_true (Rat.den_intCast z), Rat.num_intCast] at cw
  have ok : i64ok z = true := by unfold i64ok; rw [Bool.and_eq_true, decide_eq_true_iff, decide_eq_true_iff]; omega
  have cS := zSmall (l := zN z) (h := (ZQ.made hb).zi) (by decide)
  unfold i64of at cS
  rw [ok, if_pos rfl] at cS
  refine PureOK.fnF Tryz.func109 Tryz.results109 Tryz.ntmps109 rfl rfl rfl (by simp [AV.ids, AV0.ids, Atom.ids]) rfl (fun w0 T B E0 hB => ?_)
  by_cases h1 : u.k = 1
  · refine SX.goL ?_
    exact .ok (RetOK.mk2 (ResOK.tmp rfl) (ResOK.tmp rfl))
  · have h2 : u.k = 2 := by omega
    refine SX.goL ?_
    exact .ok (RetOK.mk2 (ResOK.tmp rfl) (ResOK.tmp rfl))
end Go.Proofs.YtfhpmbenldgfnaaGreatDoor
set_option linter.unusedVariables false
set_option linter.unusedSimpArgs false
set_option linter.unusedSectionVars false
namespace Go.Proofs.YtfhpmbenldgfnaaGreatDoor
open Go.RowKit QM SX LA
attribute [local irreducible] IntKind.wrap Go1 Reg WP thenK inBlk retQ retF RetF RetOK ResOK CallOK OpOK Sat
attribute [local irreducible] qsub qmul qquo qcmp qadd qv redS mf PrP qOk zOk vP fp64 lz vF cq rqv plen pNorm pBoth pScale mulV jn sq decS qS zS tS tbS vW sameV
theorem of_int (z : Int) (h : -1000 ≤ z ∧ z ≤ 1000) : PureOK Tryz.prog 23 [.v (.int .i64 z)] (.agg (zN z)) := con_zOf.h ⟨by omega, by omega⟩
theorem whole_int (z : Int) (h : -1000 ≤ z ∧ z ≤ 1000) : PureOK Tryz.prog 22 [.agg (zN z)] (.agg (vlA (vNum (z : Rat)))) := con_Whole (K := 1) (z := z) (ZQ.made (sml_bd h)) (by decide) (by decide)
structure Itm (u : Vl) (i k : Int) (w1 : Vl) (e1 : Int) (w2 : Vl) (e2 g h : Int) : Prop where
  a : PureOK Tryz.prog 40 [.agg (vlA u), .r (rowR 15 vlE (nL [i]))] (.tup [.agg (vlA w1), eNo e1])
  b : PureOK Tryz.prog 40 [.agg (vlA u), .r (rowR 15 vlE (nL [i, k]))] (.tup [.agg (vlA w2), eNo e2])
  g : PureOK Tryz.prog 40 [.agg (vlA u), .v (.slice none 0 0)] (.tup [.agg (vlA v0), eNo g])
  h : PureOK Tryz.prog 40 [.agg (vlA u), .r (rowR 15 vlE (nL [0, 1, i]))] (.tup [.agg (vlA v0), eNo h])
section
variable {u w1 w2 : Vl} {i k : Int} (hi : -1000 ≤ i ∧ i ≤ 1000) (hk : -1000 ≤ k ∧ k ≤ 1000) (hf : PureOK Tryz.prog 12 [.agg (vlA u), .agg (vlA u)] (.v (.bool true)))
include hi hk hf
end
section
variable {u w1 w2 : Vl} {n m : Nat} (hi : -1000 ≤ (n : Int) ∧ (n : Int) ≤ 1000) (hk : -1000 ≤ (m : Int) ∧ (m : Int) ≤ 1000)
include hi hk
end
end Go.Proofs.YtfhpmbenldgfnaaGreatDoor
set_option linter.unusedVariables false
set_option linter.unusedSimpArgs false
set_option linter.unusedSectionVars false
namespace Go.Proofs.YtfhpmbenldgfnaaGreatDoor
open Go.RowKit QM SX LA
def pwv (x : Rat) (z : Int) : Rat := if z < 0 then (1 / x) ^ z.natAbs else x ^ z.natAbs
theorem Rd.rb {X : Int × Int} {v : Rat} {K : Nat} (h : Rd X v K) : RB v K := by
  have e := h.nf
  have b1 := h.b1.h
  have b2 := h.b2.h
  rw [e] at b1 b2
  exact ⟨b1, by rw [Int.natAbs_natCast] at b2; exact b2⟩
attribute [local irreducible] IntKind.wrap Go1 Reg WP thenK inBlk retQ retF RetF RetOK ResOK CallOK OpOK Sat
attribute [local irreducible] qsub qmul qquo qcmp qadd qv redS mf PrP qOk zOk vP fp64 lz vF cq rqv plen pNorm pBoth pScale mulV mpw mxMul mxb qB pwv vW sameV
theorem con_pwE {u v : Vl} {z e : Int} (he : e ≠ 0) (c : PureOK Tryz.prog 109 [.agg (vlA u), .agg (vlA v)] (.tup [.one (.c (.val (.int .i64 z))), eNo e])) : PureOK Tryz.prog 46 [.agg (vlA u), .agg (vlA v)] (.tup [.agg (vlA v0), eNo e]) := by
  refine PureOK.fnF Tryz.func46 Tryz.results46 Tryz.ntmps46 rfl rfl rfl (by simp [AV.ids, AV0.ids, Atom.ids]) rfl (fun w0 T B E0 hB => ?_)
  refine SX.goL ?_
  refine .ok (RetOK.mk2 ((ResOK.agg15 rfl rfl rfl).imp ?_) (ResOK.tmp rfl))
  exact imp_none
theorem pow_rb {x : Rat} (hx : RB x 2) {z : Int} (h1 : -5 ≤ z) (h2 : z ≤ 5) : RB (pwv x z) 1000 := by
  haveI := Ra.cq hx
  obtain ⟨X, ok, cP, hX, _⟩ := ePow (q4A (rq (cq x))) (K := 2) (by decide) z (by omega) (by omega)
  unfold pwv
  exact hX.rb
theorem con_pw1 {x : Rat} (hx : RB x 2) {z : Int} {k : Nat} (hz : z = k ∨ z = -(k : Int)) (hk : k ≤ 5) (hv : 0 ≤ z ∨ x ≠ 0) : PureOK Tryz.prog 46 [.agg (vlA (vNum x)), .agg (vlA (vNum (z : Rat)))] (.tup [.agg (vlA (vNum (pwv x z))), eNo 0]) := by
  haveI := Ra.cq hx
  obtain ⟨X, ok, cP, hX, hok⟩ := ePow (q4A (rq (cq x))) (K := 2) (by decide) z (by omega) (by omega)
  have e := hX.nf
  subst e
  have ho : ok = true := hok.2 hv
  subst ho
  have cE := con_exp (u := vNum x) (.inl rfl) hz hk (con_bits1 hx (by decide)) (by have := qB_le hx; omega)
  have cN := con_numT (pwv x z) 3
  unfold pwv at cN ⊢
  refine PureOK.fnF Tryz.func46 Tryz.results46 Tryz.ntmps46 rfl rfl rfl (by simp [AV.ids, AV0.ids, Atom.ids]) rfl (fun w0 T B E0 hB => ?_)
  refine SX.goL ?_
  refine .ok (RetOK.mk2 (ResOK.agg15 rfl rfl rfl) (ResOK.tmp rfl))
theorem con_pw10 {x : Rat} (hx : RB x 2) {z : Int} {k : Nat} (hz : z = k ∨ z = -(k : Int)) (hk : k ≤ 5) (hv : ¬ (0 ≤ z ∨ x ≠ 0)) : PureOK Tryz.prog 46 [.agg (vlA (vNum x)), .agg (vlA (vNum (z : Rat)))] (.tup [.agg (vlA v0), eNo 3]) := by
  haveI := Ra.cq hx
  obtain ⟨X, ok, cP, hX, hok⟩ := ePow (q4A (rq (cq x))) (K := 2) (by decide) z (by omega) (by omega)
  have e := hX.nf
  subst e
  have ho : ok = false := Bool.eq_false_iff.2 fun h => hv (hok.1 h)
  subst ho
  have cE := con_exp (u := vNum x) (.inl rfl) hz hk (con_bits1 hx (by decide)) (by have := qB_le hx; omega)
  have cN := con_numF (pwv x z) 3
  unfold pwv at cN
  refine PureOK.fnF Tryz.func46 Tryz.results46 Tryz.ntmps46 rfl rfl rfl (by simp [AV.ids, AV0.ids, Atom.ids]) rfl (fun w0 T B E0 hB => ?_)
  refine SX.goL ?_
  refine .ok (RetOK.mk2 ((ResOK.agg15 rfl rfl rfl).imp ?_) (ResOK.tmp rfl))
  exact AV0.imp.refl _
theorem con_pw2s {r c : Nat} {vs : List Rat} {v : Vl} {z : Int} (cE : PureOK Tryz.prog 109 [.agg (vlA (vMat r c vs)), .agg (vlA v)] (.tup [.one (.c (.val (.int .i64 z))), eNo 0])) (h : r ≠ c) : PureOK Tryz.prog 46 [.agg (vlA (vMat r c vs)), .agg (vlA v)] (.tup [.agg (vlA v0), eNo 2]) := by
  have h2 : (vMat r c vs).r ≠ (vMat r c vs).c := by show (r : Int) ≠ (c : Int); omega
  refine PureOK.fnF Tryz.func46 Tryz.results46 Tryz.ntmps46 rfl rfl rfl (by simp [AV.ids, AV0.ids, Atom.ids]) rfl (fun w0 T B E0 hB => ?_)
  refine SX.goL ?_
  refine .ok (RetOK.mk2 ((ResOK.agg15 rfl rfl rfl).imp ?_) (ResOK.tmp rfl))
  exact imp_none
theorem con_pw2 {n k : Nat} {vs : List Rat} {v : Vl} (cE : PureOK Tryz.prog 109 [.agg (vlA (vMat n n vs)), .agg (vlA v)] (.tup [.one (.c (.val (.int .i64 (k : Int)))), eNo 0])) (hk : k ≤ 5) (cR : PureOK Tryz.prog 111 [.agg (matQ n n (mq vs)), .v (.int .i64 (k : Int))] (.agg (matQ n n ((mpw n vs k).map q4v)))) : PureOK Tryz.prog 46 [.agg (vlA (vMat n n vs)), .agg (vlA v)] (.tup [.agg (vlA (vMat n n (mpw n vs k))), eNo 0]) := by
  have c2 := con_matT n n (mpw n vs k)
  have h2 : (vMat n n vs).r = (vMat n n vs).c := rfl
  refine PureOK.fnF Tryz.func46 Tryz.results46 Tryz.ntmps46 rfl rfl rfl (by simp [AV.ids, AV0.ids, Atom.ids]) rfl (fun w0 T B E0 hB => ?_)
  refine SX.goL ?_
  refine .ok (RetOK.mk2 (ResOK.agg15 rfl rfl rfl) (ResOK.tmp rfl))
theorem con_pw2n {n k : Nat} {vs ts : List Rat} {v : Vl} (cE : PureOK Tryz.prog 109 [.agg (vlA (vMat n n vs)), .agg (vlA v)] (.tup [.one (.c (.val (.int .i64 (-(k : Int))))), eNo 0])) (hk : k ≤ 5) (hk1 : 1 ≤ k) (cI : PureOK Tryz.prog 70 [.agg (matQ n n (mq vs))] (.tup [.agg (matQ n n (ts.map q4v)), eNo 0])) (cR : PureOK Tryz.prog 111 [.agg (matQ n n (ts.map q4v)), .v (.int .i64 (k : Int))] (.agg (matQ n n ((mpw n ts k).map q4v)))) : PureOK Tryz.prog 46 [.agg (vlA (vMat n n vs)), .agg (vlA v)] (.tup [.agg (vlA (vMat n n (mpw n ts k))), eNo 0]) := by
  have c2 := con_matT n n (mpw n ts k)
  have h2 : (vMat n n vs).r = (vMat n n vs).c := rfl
  have hneg : IntKind.i64.wrap (0 - -(k : Int)) = (k : Int) := by rw [show (0 - -(k : Int)) = (k : Int) by omega]; exact wrapI64 (by omega) (by omega)
  refine PureOK.fnF Tryz.func46 Tryz.results46 Tryz.ntmps46 rfl rfl rfl (by simp [AV.ids, AV0.ids, Atom.ids]) rfl (fun w0 T B E0 hB => ?_)
  refine SX.goL ?_
  refine .ok (RetOK.mk2 (ResOK.agg15 rfl rfl rfl) (ResOK.tmp rfl))
theorem con_pw2f {n k : Nat} {vs : List Rat} {v : Vl} (cE : PureOK Tryz.prog 109 [.agg (vlA (vMat n n vs)), .agg (vlA v)] (.tup [.one (.c (.val (.int .i64 (-(k : Int))))), eNo 0])) (hk : k ≤ 5) (hk1 : 1 ≤ k) (cI : PureOK Tryz.prog 70 [.agg (matQ n n (mq vs))] (.tup [.agg mat0, eNo 3])) : PureOK Tryz.prog 46 [.agg (vlA (vMat n n vs)), .agg (vlA v)] (.tup [.agg (vlA v0), eNo 3]) := by
  have h2 : (vMat n n vs).r = (vMat n n vs).c := rfl
  refine PureOK.fnF Tryz.func46 Tryz.results46 Tryz.ntmps46 rfl rfl rfl (by simp [AV.ids, AV0.ids, Atom.ids]) rfl (fun w0 T B E0 hB => ?_)
  refine SX.goL ?_
  refine .ok (RetOK.mk2 ((ResOK.agg15 rfl rfl rfl).imp ?_) (ResOK.tmp rfl))
  exact imp_none
section
variable {u p : Vl} {n z : Int} (hn : n.tmod 6 = z) (hz1 : -5 ≤ z) (hz2 : z ≤ 5) (hf : PureOK Tryz.prog 12 [.agg (vlA u), .agg (vlA u)] (.v (.bool true)))
include hn hz1 hz2 hf
set_option maxRecDepth 20000 in
set_option maxHeartbeats 4000000 in
theorem Pw_bad (b1 : PureOK Tryz.prog 13 [.v (.int .i64 8), .agg (vlA u), .agg (vlA (vNum (z : Rat)))] (.tup [.agg (vlA v0), eNo 1])) (b2 : PureOK Tryz.prog 13 [.v (.int .i64 8), .agg (vlA u), .agg (vlA (vNum ((4097 : Int) : Rat)))] (.tup [.agg (vlA v0), eNo 1])) (is : PureOK Tryz.prog 14 [.agg (vlA u)] (.v (.bool false))) :
    PureOK Tryz.prog 6 [.v (.int .i8 n), .agg (vlA u)] (.v (.bool true)) := by
  have cW := con_awake29
  have c0 := con_none0
  have oz := of_int z ⟨by omega, by omega⟩
  have wz := whole_int z ⟨by omega, by omega⟩
  have of : PureOK Tryz.prog 23 [.v (.int .i64 4097)] (.agg (zN 4097)) := con_zOf.h ⟨by decide, by decide⟩
  have wf : PureOK Tryz.prog 22 [.agg (zN 4097)] (.agg (vlA (vNum ((4097 : Int) : Rat)))) := con_Whole (K := 1) (z := 4097) (ZQ.made (by rw [WB_eq]; decide)) (by decide) (by decide)
  refine PureOK.fnF Tryz.func6 Tryz.results6 Tryz.ntmps6 rfl rfl rfl (by simp [AV.ids, AV0.ids, Atom.ids]) rfl (fun w0 T B E0 hB => ?_)
  refine SX.goL ?_
  exact retB rfl
variable (is : PureOK Tryz.prog 14 [.agg (vlA u)] (.v (.bool true)))
include is
set_option maxRecDepth 20000 in
set_option maxHeartbeats 4000000 in
theorem Pw_ty (b1 : PureOK Tryz.prog 13 [.v (.int .i64 8), .agg (vlA u), .agg (vlA (vNum (z : Rat)))] (.tup [.agg (vlA v0), eNo 5])) (b2 : PureOK Tryz.prog 13 [.v (.int .i64 8), .agg (vlA u), .agg (vlA (vNum ((4097 : Int) : Rat)))] (.tup [.agg (vlA v0), eNo 5])) (hk : u.k > 2) :
    PureOK Tryz.prog 6 [.v (.int .i8 n), .agg (vlA u)] (.v (.bool true)) := by
  have cW := con_awake29
  have c0 := con_none0
  have oz := of_int z ⟨by omega, by omega⟩
  have wz := whole_int z ⟨by omega, by omega⟩
  have of : PureOK Tryz.prog 23 [.v (.int .i64 4097)] (.agg (zN 4097)) := con_zOf.h ⟨by decide, by decide⟩
  have wf : PureOK Tryz.prog 22 [.agg (zN 4097)] (.agg (vlA (vNum ((4097 : Int) : Rat)))) := con_Whole (K := 1) (z := 4097) (ZQ.made (by rw [WB_eq]; decide)) (by decide) (by decide)
  refine PureOK.fnF Tryz.func6 Tryz.results6 Tryz.ntmps6 rfl rfl rfl (by simp [AV.ids, AV0.ids, Atom.ids]) rfl (fun w0 T B E0 hB => ?_)
  refine SX.goL ?_
  exact retB rfl
set_option maxRecDepth 20000 in
set_option maxHeartbeats 4000000 in
theorem Pw_sq (b1 : PureOK Tryz.prog 13 [.v (.int .i64 8), .agg (vlA u), .agg (vlA (vNum (z : Rat)))] (.tup [.agg (vlA v0), eNo 2])) (b2 : PureOK Tryz.prog 13 [.v (.int .i64 8), .agg (vlA u), .agg (vlA (vNum ((4097 : Int) : Rat)))] (.tup [.agg (vlA v0), eNo 7])) (hk : u.k = 2) (hr : u.r ≠ u.c) :
    PureOK Tryz.prog 6 [.v (.int .i8 n), .agg (vlA u)] (.v (.bool true)) := by
  have cW := con_awake29
  have c0 := con_none0
  have oz := of_int z ⟨by omega, by omega⟩
  have wz := whole_int z ⟨by omega, by omega⟩
  have of : PureOK Tryz.prog 23 [.v (.int .i64 4097)] (.agg (zN 4097)) := con_zOf.h ⟨by decide, by decide⟩
  have wf : PureOK Tryz.prog 22 [.agg (zN 4097)] (.agg (vlA (vNum ((4097 : Int) : Rat)))) := con_Whole (K := 1) (z := 4097) (ZQ.made (by rw [WB_eq]; decide)) (by decide) (by decide)
  refine PureOK.fnF Tryz.func6 Tryz.results6 Tryz.ntmps6 rfl rfl rfl (by simp [AV.ids, AV0.ids, Atom.ids]) rfl (fun w0 T B E0 hB => ?_)
  refine SX.goL ?_
  exact retB rfl
variable (b1 : PureOK Tryz.prog 13 [.v (.int .i64 8), .agg (vlA u), .agg (vlA (vNum (z : Rat)))] (.tup [.agg (vlA p), eNo 0])) (b2 : PureOK Tryz.prog 13 [.v (.int .i64 8), .agg (vlA u), .agg (vlA (vNum ((4097 : Int) : Rat)))] (.tup [.agg (vlA v0), eNo 7])) (ip : PureOK Tryz.prog 14 [.agg (vlA p)] (.v (.bool true))) (hk : u.k = 1 ∨ u.k = 2 ∧ u.r = u.c)
include b1 b2 hk
set_option maxRecDepth 20000 in
set_option maxHeartbeats 4000000 in
include ip in
theorem Pw_zero (h0 : z = 0) (b3 : PureOK Tryz.prog 13 [.v (.int .i64 6), .agg (vlA p), .agg (vlA u)] (.tup [.agg (vlA u), eNo 0])) (s : PureOK Tryz.prog 17 [.agg (vlA u), .agg (vlA u)] (.v (.bool true))) :
    PureOK Tryz.prog 6 [.v (.int .i8 n), .agg (vlA u)] (.v (.bool true)) := by
  have cW := con_awake29
  have c0 := con_none0
  have oz := of_int z ⟨by omega, by omega⟩
  have wz := whole_int z ⟨by omega, by omega⟩
  have of : PureOK Tryz.prog 23 [.v (.int .i64 4097)] (.agg (zN 4097)) := con_zOf.h ⟨by decide, by decide⟩
  have wf : PureOK Tryz.prog 22 [.agg (zN 4097)] (.agg (vlA (vNum ((4097 : Int) : Rat)))) := con_Whole (K := 1) (z := 4097) (ZQ.made (by rw [WB_eq]; decide)) (by decide) (by decide)
  refine PureOK.fnF Tryz.func6 Tryz.results6 Tryz.ntmps6 rfl rfl rfl (by simp [AV.ids, AV0.ids, Atom.ids]) rfl (fun w0 T B E0 hB => ?_)
  by_cases h1 : u.k = 1
  · refine SX.goL ?_
    exact retB rfl
  · have h2 : u.k = 2 ∧ u.r = u.c := hk.resolve_left h1
    obtain ⟨h3, h4⟩ := h2
    refine SX.goL ?_
    exact retB rfl
set_option maxRecDepth 20000 in
set_option maxHeartbeats 4000000 in
include ip in
theorem Pw_pos {l : Vl} (h0 : 0 < z) (b4 : PureOK Tryz.prog 13 [.v (.int .i64 8), .agg (vlA u), .agg (vlA (vNum ((z - 1 : Int) : Rat)))] (.tup [.agg (vlA l), eNo 0])) (b5 : PureOK Tryz.prog 13 [.v (.int .i64 6), .agg (vlA l), .agg (vlA u)] (.tup [.agg (vlA p), eNo 0])) (s : PureOK Tryz.prog 17 [.agg (vlA p), .agg (vlA p)] (.v (.bool true))) :
    PureOK Tryz.prog 6 [.v (.int .i8 n), .agg (vlA u)] (.v (.bool true)) := by
  have cW := con_awake29
  have c0 := con_none0
  have oz := of_int z ⟨by omega, by omega⟩
  have wz := whole_int z ⟨by omega, by omega⟩
  have of : PureOK Tryz.prog 23 [.v (.int .i64 4097)] (.agg (zN 4097)) := con_zOf.h ⟨by decide, by decide⟩
  have wf : PureOK Tryz.prog 22 [.agg (zN 4097)] (.agg (vlA (vNum ((4097 : Int) : Rat)))) := con_Whole (K := 1) (z := 4097) (ZQ.made (by rw [WB_eq]; decide)) (by decide) (by decide)
  have oz' := of_int (z - 1) ⟨by omega, by omega⟩
  have wz' := whole_int (z - 1) ⟨by omega, by omega⟩
  refine PureOK.fnF Tryz.func6 Tryz.results6 Tryz.ntmps6 rfl rfl rfl (by simp [AV.ids, AV0.ids, Atom.ids]) rfl (fun w0 T B E0 hB => ?_)
  by_cases h1 : u.k = 1
  · refine SX.goL ?_
    exact retB rfl
  · have h2 : u.k = 2 ∧ u.r = u.c := hk.resolve_left h1
    obtain ⟨h3, h4⟩ := h2
    refine SX.goL ?_
    exact retB rfl
set_option maxRecDepth 20000 in
set_option maxHeartbeats 4000000 in
theorem Pw_neg {l o : Vl} (h0 : z < 0) (b6 : PureOK Tryz.prog 13 [.v (.int .i64 8), .agg (vlA u), .agg (vlA (vNum ((0 - z : Int) : Rat)))] (.tup [.agg (vlA l), eNo 0])) (b7 : PureOK Tryz.prog 13 [.v (.int .i64 8), .agg (vlA u), .agg (vlA (vNum ((0 : Int) : Rat)))] (.tup [.agg (vlA o), eNo 0])) (b8 : PureOK Tryz.prog 13 [.v (.int .i64 6), .agg (vlA p), .agg (vlA l)] (.tup [.agg (vlA o), eNo 0])) (s : PureOK Tryz.prog 17 [.agg (vlA o), .agg (vlA o)] (.v (.bool true))) :
    PureOK Tryz.prog 6 [.v (.int .i8 n), .agg (vlA u)] (.v (.bool true)) := by
  have cW := con_awake29
  have c0 := con_none0
  have oz := of_int z ⟨by omega, by omega⟩
  have wz := whole_int z ⟨by omega, by omega⟩
  have of : PureOK Tryz.prog 23 [.v (.int .i64 4097)] (.agg (zN 4097)) := con_zOf.h ⟨by decide, by decide⟩
  have wf : PureOK Tryz.prog 22 [.agg (zN 4097)] (.agg (vlA (vNum ((4097 : Int) : Rat)))) := con_Whole (K := 1) (z := 4097) (ZQ.made (by rw [WB_eq]; decide)) (by decide) (by decide)
  have oz' := of_int (0 - z) ⟨by omega, by omega⟩
  have wz' := whole_int (0 - z) ⟨by omega, by omega⟩
  have o0 := of_0
  have w0' := whole_int 0 (by decide)
  refine PureOK.fnF Tryz.func6 Tryz.results6 Tryz.ntmps6 rfl rfl rfl (by simp [AV.ids, AV0.ids, Atom.ids]) rfl (fun w0 T B E0 hB => ?_)
  by_cases h1 : u.k = 1
  · refine SX.goL ?_
    exact retB rfl
  · have h2 : u.k = 2 ∧ u.r = u.c := hk.resolve_left h1
    obtain ⟨h3, h4⟩ := h2
    refine SX.goL ?_
    exact retB rfl
end
section
variable {u p : Vl} {n z : Int} (hn : n.tmod 6 = z) (hz1 : -5 ≤ z) (hz2 : z ≤ 5) (hf : PureOK Tryz.prog 12 [.agg (vlA u), .agg (vlA u)] (.v (.bool true))) (is : PureOK Tryz.prog 14 [.agg (vlA u)] (.v (.bool true)))
  (b1 : PureOK Tryz.prog 13 [.v (.int .i64 8), .agg (vlA u), .agg (vlA (vNum (z : Rat)))] (.tup [.agg (vlA v0), eNo 3])) (b2 : PureOK Tryz.prog 13 [.v (.int .i64 8), .agg (vlA u), .agg (vlA (vNum ((4097 : Int) : Rat)))] (.tup [.agg (vlA v0), eNo 7])) (hk : u.k = 1 ∨ u.k = 2 ∧ u.r = u.c)
include hn hz1 hz2 hf is b1 b2 hk
set_option maxRecDepth 20000 in
set_option maxHeartbeats 4000000 in
theorem Pw_negE {l o : Vl} (h0 : z < 0) (b6 : PureOK Tryz.prog 13 [.v (.int .i64 8), .agg (vlA u), .agg (vlA (vNum ((0 - z : Int) : Rat)))] (.tup [.agg (vlA l), eNo 0])) (b7 : PureOK Tryz.prog 13 [.v (.int .i64 8), .agg (vlA u), .agg (vlA (vNum ((0 : Int) : Rat)))] (.tup [.agg (vlA o), eNo 0])) (sg : PureOK Tryz.prog 26 [.agg (vlA u)] (.v (.bool true))) :
    PureOK Tryz.prog 6 [.v (.int .i8 n), .agg (vlA u)] (.v (.bool true)) := by
  have cW := con_awake29
  have c0 := con_none0
  have oz := of_int z ⟨by omega, by omega⟩
  have wz := whole_int z ⟨by omega, by omega⟩
  have of : PureOK Tryz.prog 23 [.v (.int .i64 4097)] (.agg (zN 4097)) := con_zOf.h ⟨by decide, by decide⟩
  have wf : PureOK Tryz.prog 22 [.agg (zN 4097)] (.agg (vlA (vNum ((4097 : Int) : Rat)))) := con_Whole (K := 1) (z := 4097) (ZQ.made (by rw [WB_eq]; decide)) (by decide) (by decide)
  have oz' := of_int (0 - z) ⟨by omega, by omega⟩
  have wz' := whole_int (0 - z) ⟨by omega, by omega⟩
  have o0 := of_0
  have w0' := whole_int 0 (by decide)
  refine PureOK.fnF Tryz.func6 Tryz.results6 Tryz.ntmps6 rfl rfl rfl (by simp [AV.ids, AV0.ids, Atom.ids]) rfl (fun w0 T B E0 hB => ?_)
  by_cases h1 : u.k = 1
  · refine SX.goL ?_
    exact retB rfl
  · have h2 : u.k = 2 ∧ u.r = u.c := hk.resolve_left h1
    obtain ⟨h3, h4⟩ := h2
    refine SX.goL ?_
    exact retB rfl
end
theorem con_sing1 : PureOK Tryz.prog 26 [.agg (vlA (vNum 0))] (.v (.bool true)) := by
  haveI := Ra.cq (RB.zero (Nat.le_refl 1))
  have c : PureOK Tryz.prog 21 [.agg (q4A (rq (cq 0)))] (.v (.int .i64 0)) := sign_0 (K := 1) (by decide)
  refine PureOK.fnF Tryz.func26 Tryz.results26 Tryz.ntmps26 rfl rfl rfl (by simp [AV.ids, AV0.ids, Atom.ids]) rfl (fun w0 T B E0 hB => ?_)
  refine SX.goL ?_
  exact retB rfl
theorem con_sing2 {n : Nat} {vs : List Rat} (cI : PureOK Tryz.prog 70 [.agg (matQ n n (mq vs))] (.tup [.agg mat0, eNo 3])) : PureOK Tryz.prog 26 [.agg (vlA (vMat n n vs))] (.v (.bool true)) := by
  refine PureOK.fnF Tryz.func26 Tryz.results26 Tryz.ntmps26 rfl rfl rfl (by simp [AV.ids, AV0.ids, Atom.ids]) rfl (fun w0 T B E0 hB => ?_)
  refine SX.goL ?_
  exact retB rfl
end Go.Proofs.YtfhpmbenldgfnaaGreatDoor
set_option linter.unusedVariables false
set_option linter.unusedSimpArgs false
namespace Go.Proofs.YtfhpmbenldgfnaaGreatDoor
open Go.RowKit QM SX LA
attribute [local irreducible] IntKind.wrap Go1 Reg WP thenK inBlk retQ retF RetF RetOK ResOK CallOK OpOK Sat
attribute [local irreducible] qsub qmul qquo qcmp qadd qv redS mf PrP qOk zOk vP fp64 lz vF cq rqv plen pNorm pBoth pScale mulV cvR cvP pMul pShift zexq zexok exF vW sameV
theorem sameU {K n : Nat} {v : Vl} (h : Cv K n v) (hK : K ≤ 50000) (hn : n ≤ 15) : PureOK Tryz.prog 17 [.agg (vlA v), .agg (vlA v)] (.v (.bool true)) := by
  have c := con_Same h h (by omega) hn hn
  rwa [sameV_self] at c
theorem Cv.kind1 {K n : Nat} {v : Vl} (h : Cv K n v) (hk : v.k = 1) : ∃ x, v = vNum x ∧ RB x K := by
  cases h with
  | one h => cases h with
    | num x h => exact ⟨x, rfl, h⟩
    | _ => exact absurd hk (by simp)
  | lst l hl h => exact absurd hk (by simp)
end Go.Proofs.YtfhpmbenldgfnaaGreatDoor

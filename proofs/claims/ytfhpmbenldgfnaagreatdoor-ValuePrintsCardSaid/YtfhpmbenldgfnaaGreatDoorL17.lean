import Derived.Test.YtfhpmbenldgfnaaGreatDoorL16
import Derived.Test.YtfhpmbenldgfnaaGreatDoorL18
import Derived.Test.YtfhpmbenldgfnaaGreatDoorL8
set_option linter.unusedVariables false
set_option linter.unusedSimpArgs false
namespace Go.Proofs.YtfhpmbenldgfnaaGreatDoor
open Go.RowKit QM SX LA
theorem jn_mem (s : UInt8) : ∀ {l : List (List UInt8)} {x : List UInt8}, x ∈ l → x.length ≤ (jn s l).length
  | [a], x, h => by rw [List.mem_singleton] at h; subst h; exact Nat.le_refl _
  | a :: b :: l, x, h => by
    show x.length ≤ (a ++ (s :: 32 :: jn s (b :: l))).length
    rw [List.length_append, List.length_cons, List.length_cons]
    rw [List.mem_cons] at h
    rcases h with rfl | h
    · omega
    · have := jn_mem s h; omega
theorem jn_le (s : UInt8) {m : Nat} : ∀ {l : List (List UInt8)}, (∀ x ∈ l, x.length ≤ m) → (jn s l).length ≤ l.length * (m + 2)
  | [], _ => Nat.zero_le _
  | [a], h => by have := h a (List.mem_singleton.2 rfl); show a.length ≤ 1 * (m + 2); omega
  | a :: b :: l, h => by
    have h1 := h a (List.mem_cons_self ..)
    have h2 := jn_le s (l := b :: l) fun x hx => h x (List.mem_cons_of_mem _ hx)
    show (a ++ (s :: 32 :: jn s (b :: l))).length ≤ (l.length + 1 + 1) * (m + 2)
    rw [List.length_append, List.length_cons, List.length_cons, Nat.add_mul _ 1 (m + 2)]
    rw [List.length_cons] at h2
    omega
theorem sq_le (c : Nat) {m : Nat} : ∀ (i : Nat) {l : List (List UInt8)}, (∀ x ∈ l, x.length ≤ m) → (sq c i l).length ≤ l.length * (m + 4)
  | _, [], _ => Nat.zero_le _
  | i, a :: l, h => by
    have h1 := h a (List.mem_cons_self ..)
    have h2 := sq_le c (i + 1) (l := l) fun x hx => h x (List.mem_cons_of_mem _ hx)
    show ((if 0 < i ∧ i % c = 0 then [59, 32] else []) ++ ((if 0 < i % c then [44, 32] else []) ++ (a ++ sq c (i + 1) l))).length ≤ (l.length + 1) * (m + 4)
    have e1 : (if 0 < i ∧ i % c = 0 then [59, 32] else [] : List UInt8).length ≤ 2 := by split <;> simp
    have e2 : (if 0 < i % c then [44, 32] else [] : List UInt8).length ≤ 2 := by split <;> simp
    rw [List.length_append, List.length_append, List.length_append, Nat.add_mul _ 1 (m + 4)]
    omega
theorem tb_le {r c m : Nat} {l : List (List UInt8)} (hl : l.length = r * c) (hr : r < WB) (hc : c < WB) (h : ∀ x ∈ l, x.length ≤ m) : (tbS r c l).length ≤ l.length * (m + 4) + 50 := by
  unfold tbS
  split
  · next h0 =>
    have b1 := decS_w hr
    have b2 := decS_w hc
    simp only [List.length_append, List.length_cons, List.length_nil]
    omega
  · next h0 =>
    rw [← sq_all hl (by omega) (by omega), List.length_cons, List.length_append]
    have := sq_le c 0 h
    simp only [List.length_cons, List.length_nil]
    omega
theorem pl_le' {m : Nat} {l : List (List UInt8)} (h : ∀ x ∈ l, x.length ≤ m) : (plS l).length ≤ l.length * (m + 2) + 6 := by
  have := jn_le 44 h
  unfold plS
  simp only [List.length_append, List.length_cons, List.length_nil]
  omega
theorem md_le {s : List UInt8} {p : Nat} (hp : p < WB) : (mdS s p).length ≤ s.length + 28 := by
  have := decS_w hp
  unfold mdS
  simp only [List.length_append, List.length_cons, List.length_nil]
  omega
theorem zS_le {z : Int} {K : Nat} (h : z.natAbs < WB ^ K) : (zS z).length ≤ 20 * K + 2 := zS_len (h := ⟨h⟩)
theorem qS_le {x : Rat} {K : Nat} (h : RB x K) : (qS x).length ≤ 40 * K + 5 := by
  have h1 := zS_le h.n
  have h2 : (zS (x.den : Int)).length ≤ 20 * K + 2 := zS_le (by rw [Int.natAbs_natCast]; exact h.d)
  rw [qS_eq]
  split
  · omega
  · rw [List.length_append, List.length_cons]; omega
theorem map_le {α : Type} {f : α → List UInt8} {m : Nat} {l : List α} (h : ∀ x ∈ l, (f x).length ≤ m) : ∀ x ∈ l.map f, x.length ≤ m := fun x hx => by
  obtain ⟨y, hy, rfl⟩ := List.mem_map.1 hx; exact h y hy
theorem Sh.le {d : Nat} {v : Vl} (h : Sh 2 v) (hw : vW1 d v) : (tS v).length ≤ 20000 := by
  obtain ⟨w1, w2, w3, w4, w5, w6, w7, w8⟩ := hw
  cases h with
  | num x h => rw [tS_num]; have := qS_le h; omega
  | mat r c vs hl hr hc h =>
    have h1 : vs.length ≤ 100 := by have := w7.2.2.2; simpa using this
    rw [tS_mat]
    have := tb_le (m := 85) (l := vs.map qS) (by rw [List.length_map]; exact hl) (by rw [WB_eq]; omega) (by rw [WB_eq]; omega) (map_le fun x hx => by have := qS_le (h x hx); omega)
    rw [List.length_map] at this
    have h2 := Nat.mul_le_mul_right (85 + 4) h1
    omega
  | pol zs hl hn h =>
    have h1 : zs.length ≤ 5 := by have := w1.1; simpa using this
    rw [tS_pol]
    have := pl_le' (m := 42) (l := zs.map zS) (map_le fun x hx => zS_le (h x hx))
    rw [List.length_map] at this
    have h2 := Nat.mul_le_mul_right (42 + 2) h1
    omega
  | fld p r c l hp hl hr hc h =>
    have h1 : l.length ≤ 100 := w8.2.2
    rw [tS_fld]
    have := tb_le (m := 21) (l := l.map decS) (by rw [List.length_map]; exact hl) (by rw [WB_eq]; omega) (by rw [WB_eq]; omega) (map_le fun x hx => decS_w (Nat.lt_trans (h x hx) hp.wb))
    rw [List.length_map] at this
    have h2 := Nat.mul_le_mul_right (21 + 4) h1
    have h3 := md_le (s := tbS r c (l.map decS)) hp.wb
    omega
  | rng p l hp hl hn h =>
    have h1 : l.length ≤ 5 := w2
    rw [tS_rng]
    have := pl_le' (m := 21) (l := l.map decS) (map_le fun x hx => decS_w (Nat.lt_trans (h x hx) hp.wb))
    rw [List.length_map] at this
    have h2 := Nat.mul_le_mul_right (21 + 2) h1
    have h3 := md_le (s := plS (l.map decS)) hp.wb
    omega
def tB : Nat → Nat
  | 0 => 20000
  | d + 1 => 4 * tB d + 20000
theorem tS_le : ∀ (d : Nat) {n : Nat} {v : Vl}, vW d v → Cv 2 n v → (tS v).length ≤ tB d := by
  intro d
  induction d with
  | zero =>
    intro n v hw hv
    cases hv with
    | one h => exact h.le hw.1
    | lst l hl h =>
      have : l = [] := hw.2
      subst this
      rw [tS_lst]; decide
  | succ d ih =>
    intro n v hw hv
    cases hv with
    | one h => have := h.le hw.1; show _ ≤ 4 * tB d + 20000; omega
    | lst l hl h =>
      have h1 : l.length ≤ 4 := hw.1.2.2.1
      have h2 := jn_le 44 (m := tB d) (l := l.map tS) (map_le fun x hx => ih (hw.2 x hx) (h x hx))
      rw [tS_lst]
      rw [List.length_map] at h2
      have h3 := Nat.mul_le_mul_right (tB d + 2) h1
      show (123 :: (jn 44 (l.map tS) ++ [125])).length ≤ 4 * tB d + 20000
      rw [List.length_cons, List.length_append, List.length_cons, List.length_nil]
      omega
attribute [local irreducible] IntKind.wrap Go1 Reg WP thenK inBlk retQ retF RetF RetOK ResOK CallOK OpOK Sat
attribute [local irreducible] qsub qmul qquo qcmp qadd qv redS mf PrP qOk zOk vP fp64 lz vF cq rqv plen pNorm pBoth pScale mulV jn sq decS qS zS tS tbS plS mdS
theorem con_rTab {r c : Nat} {l : List (List UInt8)} (hl : l.length = r * c) (hr : r ≤ 64) (hc : c ≤ 64) (hb : (tbS r c l).length ≤ 1000000000000) : PureOK Tryz.prog 54 [.v (.int .i64 (r : Int)), .v (.int .i64 (c : Int)), .r (rowR 1 txC l)] (.v (str (tbS r c l))) := by
  by_cases h : r = 0 ∨ c = 0
  · exact con_rTable0 h (by omega) (by omega) l (.v (.bool true))
  · exact con_rTable (by omega) (by omega) hl (by omega) (by omega) hb
theorem map_rq (vs : List Rat) : (vs.map cq).map (fun x => qS (rqv x)) = vs.map qS := by
  rw [List.map_map]; exact List.map_congr_left fun x _ => congrArg qS (cq_val x)
theorem map_rz (zs : List Int) : (zs.map cz).map (fun x => zS (rzv x)) = zs.map zS := by
  rw [List.map_map]; exact List.map_congr_left fun x _ => congrArg zS (cz_val x)
theorem txL_mat (r c : Nat) (vs : List Rat) : txL (vMat r c vs) = vs.map qS := by
  show (vs.map cq).map (fun x => qS (rqv x)) ++ [] ++ [] ++ [] ++ [] = _
  rw [map_rq]; simp
theorem txL_pol (zs : List Int) : txL (vPol zs) = zs.map zS := by
  show [] ++ (zs.map cz).map (fun x => zS (rzv x)) ++ [] ++ [] ++ [] = _
  rw [map_rz]; simp
theorem txL_fld (p r c : Nat) (l : List Nat) : txL (vFld p r c l) = l.map decS := by
  show [] ++ [] ++ l.map decS ++ [] ++ [] = _; simp
theorem txL_rng (p : Nat) (l : List Nat) : txL (vRng p l) = l.map decS := by
  show [] ++ [] ++ [] ++ l.map decS ++ [] = _; simp
theorem txL_lst (l : List Vl) : txL (vLst l) = l.map tS := by
  show [] ++ [] ++ [] ++ [] ++ l.map tS = _; simp
theorem con_zPr {z : Int} {K : Nat} (h : z.natAbs < WB ^ K) (hK : K ≤ 100000) : PureOK Tryz.prog 52 [.agg (z2A (rz (cz z)))] (.v (str (zS (rzv (cz z))))) := by
  have hl : (cz z).2.length ≤ K := wds_len h
  exact con_zPrint (h := (ZQ.raw (b := (cz z).1) (cz_sm z) hl).zi).h (by omega)
theorem con_rPrS {x : Rat} {K : Nat} (hx : RB x K) (hK : K ≤ 100000) : PureOK Tryz.prog 51 [.agg (q4A (rq (cq x)))] (.v (str (qS (rqv (cq x))))) := by
  rw [cq_val]; exact con_rPr hx hK
theorem con_rPrintSh {K : Nat} {v : Vl} (h : Sh K v) (hK : K ≤ 100000) (hb : (tS v).length ≤ 1000000000000) : PureOK Tryz.prog 16 [.agg (vlA v)] (.v (str (tS v))) := by
  cases h with
  | num x h =>
    refine con_rPrintL _ _ hb (Nat.zero_le _) (Nat.zero_le _) (Nat.zero_le _) (Nat.zero_le _) (Nat.zero_le _) no_mem no_mem no_mem no_mem no_mem (.inl ⟨rfl, ?_⟩)
    rw [tS_num]; exact con_rPr h hK
  | mat r c vs hl hr hc h =>
    have hm := Nat.mul_le_mul hr hc
    refine con_rPrintL _ _ hb (by rw [List.length_map]; omega) (Nat.zero_le _) (Nat.zero_le _) (Nat.zero_le _) (Nat.zero_le _) (fun x hx => ?_) no_mem no_mem no_mem no_mem (.inr (.inl ⟨rfl, ?_⟩))
    · obtain ⟨y, hy, rfl⟩ := List.mem_map.1 hx
      exact con_rPrS (h y hy) hK
    · rw [← tx_row, txL_mat, tS_mat]
      rw [tS_mat] at hb
      exact con_rTab (by rw [List.length_map]; exact hl) hr hc hb
  | pol zs hl hn h =>
    rw [tS_pol] at hb ⊢
    refine con_rPrintL _ _ hb (Nat.zero_le _) (by rw [List.length_map]; omega) (Nat.zero_le _) (Nat.zero_le _) (Nat.zero_le _) no_mem (fun x hx => ?_) no_mem no_mem no_mem (.inr (.inr (.inl ⟨rfl, jn 44 (zs.map zS), ?_, ?_⟩)))
    · obtain ⟨y, hy, rfl⟩ := List.mem_map.1 hx
      exact con_zPr (h y hy) hK
    · rw [← tx_row, txL_pol]
      unfold plS at hb
      simp only [List.length_append] at hb
      exact con_rRow _ (by omega) (by rw [List.length_map]; omega)
    · unfold plS; rw [List.append_assoc]
  | fld p r c l hp hl hr hc h =>
    have hm := Nat.mul_le_mul hr hc
    rw [tS_fld] at hb ⊢
    refine con_rPrintL _ _ hb (Nat.zero_le _) (Nat.zero_le _) (show l.length ≤ 100000 by omega) (Nat.zero_le _) (Nat.zero_le _) no_mem no_mem (fun x hx => con_rWord x (Nat.lt_trans (h x hx) hp.wb)) no_mem no_mem (.inr (.inr (.inr (.inl ⟨rfl, tbS r c (l.map decS), decS p, ?_, con_rWord p hp.wb, ?_⟩))))
    · rw [← tx_row, txL_fld]
      unfold mdS at hb
      simp only [List.length_append] at hb
      exact con_rTab (by rw [List.length_map]; exact hl) hr hc (by omega)
    · unfold mdS; simp only [List.append_assoc]
  | rng p l hp hl hn h =>
    rw [tS_rng] at hb ⊢
    refine con_rPrintL _ _ hb (Nat.zero_le _) (Nat.zero_le _) (Nat.zero_le _) (show l.length ≤ 100000 by omega) (Nat.zero_le _) no_mem no_mem no_mem (fun x hx => con_rWord x (Nat.lt_trans (h x hx) hp.wb)) no_mem (.inr (.inr (.inr (.inr (.inl ⟨rfl, jn 44 (l.map decS), decS p, ?_, con_rWord p hp.wb, ?_⟩)))))
    · rw [← tx_row, txL_rng]
      unfold mdS plS at hb
      simp only [List.length_append] at hb
      exact con_rRow _ (by omega) (by rw [List.length_map]; omega)
    · unfold mdS plS; simp only [List.append_assoc, List.cons_append, List.nil_append]
theorem con_rPrint29 : ∀ {K : Nat} (n : Nat) {v : Vl}, Cv K n v → K ≤ 100000 → (tS v).length ≤ 1000000000000 → PureOK Tryz.prog 16 [.agg (vlA v)] (.v (str (tS v))) := by
  intro K n
  induction n with
  | zero =>
    intro v hv hK hb
    cases hv with
    | one h => exact con_rPrintSh h hK hb
  | succ n ih =>
    intro v hv hK hb
    cases hv with
    | one h => exact con_rPrintSh h hK hb
    | lst l hl h =>
      rw [tS_lst] at hb ⊢
      rw [List.length_cons, List.length_append] at hb
      have hx : ∀ x ∈ l, (tS x).length ≤ 1000000000000 := fun x hx => by
        have := jn_mem 44 (List.mem_map_of_mem (f := tS) hx); omega
      refine con_rPrintL _ _ (by rw [List.length_cons, List.length_append]; exact hb) (Nat.zero_le _) (Nat.zero_le _) (Nat.zero_le _) (Nat.zero_le _) (show l.length ≤ 100000 by omega) no_mem no_mem no_mem no_mem (fun x hx2 => ih (h x hx2) hK (hx x hx2)) (.inr (.inr (.inr (.inr (.inr ⟨rfl, jn 44 (l.map tS), ?_, ?_⟩)))))
      · rw [← tx_row, txL_lst]
        exact con_rRow _ (by omega) (by rw [List.length_map]; omega)
      · rfl
end Go.Proofs.YtfhpmbenldgfnaaGreatDoor
set_option linter.unusedVariables false
set_option linter.unusedSimpArgs false
namespace Go.Proofs.YtfhpmbenldgfnaaGreatDoor
open Go.RowKit QM SX LA
theorem join_jn (s : UInt8) : ∀ ws : List (List UInt8), Go.Lib.join ws [s, 32] = jn s ws
  | [] => rfl
  | a :: l => by rw [Go.Lib.join_cons, jn_flat]; rfl
theorem tx_at : ∀ {ws : List (List UInt8)} {j : Nat} {s : List UInt8}, ws[j]? = some s → (ws.flatMap txC)[j]? = some (.val (str s))
  | [], j, s, h => by simp at h
  | a :: l, 0, s, h => by
    simp at h; subst h; rfl
  | a :: l, j + 1, s, h => by
    rw [List.flatMap_cons]
    show ([CA.val (str a)] ++ l.flatMap txC)[j + 1]? = _
    simp at h
    simpa using tx_at h
theorem rowt_len {n : Nat} {l : List (List UInt8)} (h : l.length = n) : rowR 1 txC l = sliceR 1 n (l.flatMap txC) := by subst h; rfl
theorem tx_snoc {ws : List (List UInt8)} {k : Nat} {s : List UInt8} (h : ws[k]? = some s) : (ws.take k).flatMap txC ++ [.val (str s)] = (ws.take (k + 1)).flatMap txC := by
  rw [List.take_add_one, h]; simp [txC]
attribute [local irreducible] IntKind.wrap Go1 Reg WP thenK inBlk retQ retF RetF RetOK ResOK CallOK OpOK Sat
attribute [local irreducible] qsub qmul qquo qcmp qadd qv redS mf PrP qOk zOk vP fp64 lz vF cq rqv plen pNorm pBoth pScale mulV decS
theorem con_join (s : UInt8) (ws : List (List UInt8)) (hn : ws.length ≤ 1000000) (hl : (jn s ws).length ≤ 1000000000000) :
    PureOK Tryz.prog 146 [.r (rowR 1 txC ws), .v (str [s, 32])] (.v (str (jn s ws))) :=
  PureOK.of_calls ⟨_, Tryz.func146, rfl, rfl⟩ rfl fun E S w vs hl2 hv => by
    match vs, hv with
    | [v1, v2], ⟨h1, h2, _⟩ =>
      have h1 : (sliceR 1 ws.length (ws.flatMap txC)).has S w v1 := h1
      have h2 : v2 = str [s, 32] := h2
      subst h2
      obtain ⟨oa, cap, rfl, hcap, _, _, _, hcells⟩ := sliceR_iff.1 h1
      by_cases h0 : ws = []
      · subst h0
        refine (Tryz.strings_Join_none oa cap ⟨⟨[s, 32]⟩⟩ w).mono fun e w' ⟨g1, g2⟩ => ⟨str [], ?_, rfl, ?_⟩
        · rw [g1]
        · subst g2; exact Off.of_below (Below.refl _ _)
      · obtain ⟨a, ha⟩ : ∃ a, ws[0]? = some a := by
          cases ws with
          | nil => exact absurd rfl h0
          | cons a l => exact ⟨a, rfl⟩
        obtain ⟨b, o, u, rfl, hb, hc, hu⟩ := hcells 0 _ (tx_at ha)
        have hmap : (ws.map fun x => (⟨⟨x⟩⟩ : ByteArray)).map (·.data.toList) = ws := by
          rw [List.map_map]
          exact List.map_id _
        have hjl : (Go.Lib.join ((ws.map fun x => (⟨⟨x⟩⟩ : ByteArray)).map (·.data.toList)) (⟨⟨[s, 32]⟩⟩ : ByteArray).data.toList) = jn s ws := by
          rw [hmap]; exact join_jn s ws
        have hbk := World.block_lt_of_cell? _ _ hc
        have J := Tryz.strings_Join b o cap (ws.map fun x => ⟨⟨x⟩⟩) ⟨⟨[s, 32]⟩⟩ w (fun j x hx => by
          rw [List.getElem?_map] at hx
          obtain ⟨t, ht, rfl⟩ := Option.map_eq_some_iff.1 hx
          obtain ⟨b', o', u', e, _, hc', hu'⟩ := hcells j _ (tx_at ht)
          cases e
          have hu2 : u' = str t := hu'
          rw [hc', hu2]) hbk (by rw [List.length_map]; omega) (by rw [List.length_map]; exact hcap) (by rw [hjl]; omega)
        rw [List.length_map] at J
        refine J.mono fun e w' ⟨g1, g2⟩ => ⟨str (jn s ws), ?_, rfl, Off.of_below g2⟩
        rw [g1, hjl]
theorem con_number (x : Nat) (hx : x < 18446744073709551616) : PureOK Tryz.prog 144 [.v (.int .u64 (x : Int))] (.v (str (decS x))) := by
  have c1 := nOf' (x : Int) (by omega) (by omega)
  rw [Int.natAbs_natCast] at c1
  have hx2 : x < WB ^ 1 := by rw [Nat.pow_one, WB_eq]; omega
  haveI : NI (.sat (nrmN x)) x 1 := NI.nrm' hx2
  have c2 := con_Print (a := .sat (nrmN x)) (x := x) (k := 1) hx2 (by decide)
  refine PureOK.fnF Tryz.func144 Tryz.results144 Tryz.ntmps144 rfl rfl rfl (by simp [AV.ids, AV0.ids, Atom.ids]) rfl (fun w0 T B E0 hB => ?_)
  refine SX.goL ?_
  exact retS rfl
theorem con_vpoly (ws : List (List UInt8)) (x : CA) (hx1 : x.oneB = true) (hn : ws.length ≤ 10000) (hl : (jn 44 ws).length ≤ 100000000000) (hx : ∀ (i : Nat) (s : List UInt8), ws[i]? = some s → FnV Tryz.prog x [.v (.int .i64 (i : Int))] (.v (str s))) :
    PureOK Tryz.prog 140 [.v (.int .i64 (ws.length : Int)), .it (.one (.c x))] (.v (str (plS ws))) := by
  have cJ := con_join 44 ws (by omega) (by omega)
  unfold plS
  refine PureOK.fnF Tryz.func140 Tryz.results140 Tryz.ntmps140 rfl rfl rfl (by simp [AV.ids, AV0.ids, Atom.ids]) rfl (fun w0 T B E0 hB => ?_)
  refine SX.goL ?_
  refine W.loop (fun k => k ≤ ws.length) (fun k => [(1, .it (.one (.c x))), (5, .own 100), (7, .v (.int .i64 (ws.length : Int))), (8, .v (.int .i64 (k : Int)))]) (fun k => [(100, .row 9 1 k ((ws.take k).flatMap txC))]) (fun k => ws.length - k) 0 (Nat.zero_le _) (fun k hk => ?_)
    (by
      refine SX.St.le_to [(100, none)] (by intro b h; cases h) ?_ ?_ rfl
      · repeat (first | exact trivial | refine ⟨⟨_, rfl, SX.AVto.same rfl⟩, ?_⟩ | refine ⟨⟨_, rfl, SX.AVto.nil rfl⟩, ?_⟩)
      · exact ⟨SX.EntTo.nilRow rfl, trivial⟩)
  by_cases h : k < ws.length
  · obtain ⟨s, hs⟩ : ∃ s, ws[k]? = some s := ⟨_, List.getElem?_eq_getElem h⟩
    have c := hx k s hs
    refine SX.goL ?_
    refine W.next (k + 1) h (by omega) (by
      refine SX.St.le_to [(100, some 16)] (by intro b h; cases h) ?_ ?_ rfl
      · repeat (first | exact trivial | refine ⟨⟨_, rfl, SX.AVto.same rfl⟩, ?_⟩ | refine ⟨⟨_, rfl, SX.AVto.own rfl⟩, ?_⟩)
      · exact ⟨SX.EntTo.row rfl rfl rfl (tx_snoc hs), trivial⟩)
  · obtain rfl : k = ws.length := by omega
    rw [List.take_length]
    refine SX.WP.freeze 100 hB rfl ?_
    refine SX.goL ?_
    refine retS ?_
    simp
end Go.Proofs.YtfhpmbenldgfnaaGreatDoor
set_option linter.unusedVariables false
set_option linter.unusedSimpArgs false
namespace Go.Proofs.YtfhpmbenldgfnaaGreatDoor
open Go.RowKit QM SX LA
theorem chk_at {α : Type} (c : Nat) : ∀ (r : Nat) (l : List α) (i : Nat), i < r → (chk c r l)[i]? = some ((l.drop (i * c)).take c)
  | 0, l, i, h => absurd h (Nat.not_lt_zero _)
  | r + 1, l, 0, h => by rw [Nat.zero_mul]; rfl
  | r + 1, l, i + 1, h => by
    show (chk c r (l.drop c))[i]? = _
    rw [chk_at c r (l.drop c) i (by omega), List.drop_drop, Nat.succ_mul, Nat.add_comm]
theorem chk_length {α : Type} (c : Nat) : ∀ (r : Nat) (l : List α), (chk c r l).length = r
  | 0, l => rfl
  | r + 1, l => by show (chk c r (l.drop c)).length + 1 = _; rw [chk_length c r]
theorem part_at {α : Type} {l : List α} {a c k : Nat} (hk : k < c) : ((l.drop a).take c)[k]? = l[a + k]? := by
  rw [List.getElem?_take, if_pos hk, List.getElem?_drop]
attribute [local irreducible] IntKind.wrap Go1 Reg WP thenK inBlk retQ retF RetF RetOK ResOK CallOK OpOK Sat
attribute [local irreducible] qsub qmul qquo qcmp qadd qv redS mf PrP qOk zOk vP fp64 lz vF cq rqv plen pNorm pBoth pScale mulV decS jn qS zS
set_option maxRecDepth 20000 in
set_option maxHeartbeats 2000000 in
theorem con_vtable {r c : Nat} (l : List (List UInt8)) (x : CA) (hx1 : x.oneB = true) (hl : l.length = r * c) (hr : r ≤ 64) (hc : c ≤ 64) (hb : (tbS r c l).length ≤ 10000000000) (hx : ∀ (i : Nat) (s : List UInt8), l[i]? = some s → FnV Tryz.prog x [.v (.int .i64 (i : Int))] (.v (str s))) :
    PureOK Tryz.prog 138 [.v (.int .i64 (r : Int)), .v (.int .i64 (c : Int)), .it (.one (.c x))] (.v (str (tbS r c l))) := by
  have n1 := con_number r (by omega)
  have n2 := con_number c (by omega)
  unfold tbS at hb ⊢
  by_cases h0 : r = 0 ∨ c = 0
  · rw [if_pos h0] at hb ⊢
    simp only [List.length_append] at hb
    refine PureOK.fnF Tryz.func138 Tryz.results138 Tryz.ntmps138 rfl rfl rfl (by simp [AV.ids, AV0.ids, Atom.ids]) rfl (fun w0 T B E0 hB => ?_)
    by_cases h1 : r = 0
    · subst h1
      refine SX.goL ?_
      refine retS ?_
      simp
    · have h2 := h0.resolve_left h1
      subst h2
      refine SX.goL ?_
      refine retS ?_
      simp
  rw [if_neg h0] at hb ⊢
  rw [List.length_cons, List.length_append] at hb
  have h1 : ¬ r = 0 := fun e => h0 (.inl e)
  have h2 : ¬ c = 0 := fun e => h0 (.inr e)
  obtain ⟨R, hR⟩ : ∃ R, R = (chk c r l).map (jn 44) := ⟨_, rfl⟩
  rw [← hR] at hb ⊢
  have hRl : R.length = r := by rw [hR, List.length_map, chk_length]
  have cJ := con_join 59 R (by omega) (by omega)
  rw [rowt_len hRl] at cJ
  refine PureOK.fnF Tryz.func138 Tryz.results138 Tryz.ntmps138 rfl rfl rfl (by simp [AV.ids, AV0.ids, Atom.ids]) rfl (fun w0 T B E0 hB => ?_)
  refine SX.goL ?_
  refine W.loop (fun i => i ≤ r) (fun i => [(1, .v (.int .i64 (c : Int))), (2, .it (.one (.c x))), (7, .own 101), (27, .v (.int .i64 (r : Int))), (28, .v (.int .i64 (i : Int)))]) (fun i => [(101, .row 9 1 i ((R.take i).flatMap txC))]) (fun i => r - i) 0 (Nat.zero_le _) (fun i hi => ?_)
    (by
      refine SX.St.le_to [(101, none)] (by intro b h; cases h) ?_ ?_ rfl
      · repeat (first | exact trivial | refine ⟨⟨_, rfl, SX.AVto.same rfl⟩, ?_⟩ | refine ⟨⟨_, rfl, SX.AVto.nil rfl⟩, ?_⟩)
      · exact ⟨SX.EntTo.nilRow rfl, trivial⟩)
  by_cases h : i < r
  · obtain ⟨ri, hri⟩ : ∃ ri, ri = (l.drop (i * c)).take c := ⟨_, rfl⟩
    have hRi : R[i]? = some (jn 44 ri) := by rw [hR, List.getElem?_map, chk_at c r l i h, hri]; rfl
    have hm := jn_mem 59 (List.mem_of_getElem? hRi)
    have hil : i * c + c ≤ r * c := by rw [← Nat.succ_mul]; exact Nat.mul_le_mul_right c h
    have hrl : ri.length = c := by rw [hri, List.length_take, List.length_drop]; omega
    have cI := con_join 44 ri (by omega) (by omega)
    rw [rowt_len hrl] at cI
    have hic := Nat.mul_le_mul (show i ≤ 64 by omega) hc
    refine SX.goL ?_
    refine W.loop (fun k => k ≤ c) (fun k => [(1, .v (.int .i64 (c : Int))), (2, .it (.one (.c x))), (7, .own 101), (8, .v (.int .i64 (i : Int))), (9, .own 100), (27, .v (.int .i64 (r : Int))), (28, .v (.int .i64 (i : Int))), (31, .v (.int .i64 (c : Int))), (32, .v (.int .i64 (k : Int)))]) (fun k => [(101, .row 9 1 i ((R.take i).flatMap txC)), (100, .row 9 1 k ((ri.take k).flatMap txC))]) (fun k => c - k) 0 (Nat.zero_le _) (fun k hk => ?_)
      (by
        refine SX.St.le_to [(101, some 101), (100, none)] (by intro b h; cases h) ?_ ?_ rfl
        · repeat (first | exact trivial | refine ⟨⟨_, rfl, SX.AVto.same rfl⟩, ?_⟩ | refine ⟨⟨_, rfl, SX.AVto.nil rfl⟩, ?_⟩ | refine ⟨⟨_, rfl, SX.AVto.own rfl⟩, ?_⟩)
        · exact ⟨SX.EntTo.row rfl rfl rfl rfl, SX.EntTo.nilRow rfl, trivial⟩)
    by_cases h3 : k < c
    · obtain ⟨s, hs⟩ : ∃ s, ri[k]? = some s := ⟨_, List.getElem?_eq_getElem (by omega)⟩
      have hs2 : l[i * c + k]? = some s := by rw [← part_at (c := c) h3, ← hri]; exact hs
      have cx := hx (i * c + k) s hs2
      refine SX.goL ?_
      refine W.next (k + 1) h3 (by omega) (by
        refine SX.St.le_to [(101, some 101), (100, some 44)] (by intro b h; cases h) ?_ ?_ rfl
        · repeat (first | exact trivial | refine ⟨⟨_, rfl, SX.AVto.same rfl⟩, ?_⟩ | refine ⟨⟨_, rfl, SX.AVto.own rfl⟩, ?_⟩)
        · exact ⟨SX.EntTo.row rfl rfl rfl rfl, SX.EntTo.row rfl rfl rfl (tx_snoc hs), trivial⟩)
    · obtain rfl : k = c := by omega
      have e4 : ri.take k = ri := List.take_of_length_le (by omega)
      rw [e4]
      refine SX.WP.freeze 100 hB rfl ?_
      refine SX.goL ?_
      refine W.next (i + 1) h (by omega) (by
        refine SX.St.le_to [(101, some 50)] (by intro b h; cases h) ?_ ?_ rfl
        · repeat (first | exact trivial | refine ⟨⟨_, rfl, SX.AVto.same rfl⟩, ?_⟩ | refine ⟨⟨_, rfl, SX.AVto.own rfl⟩, ?_⟩)
        · exact ⟨SX.EntTo.row rfl rfl rfl (tx_snoc hRi), trivial⟩)
  · obtain rfl : i = r := by omega
    have e4 : R.take i = R := List.take_of_length_le (by omega)
    rw [e4]
    refine SX.WP.freeze 101 hB rfl ?_
    refine SX.goL ?_
    refine retS ?_
    simp
theorem con_vmod (v : Vl) (hp : v.p < 18446744073709551616) (s : List UInt8) (hs : s.length ≤ 10000000000) (hd : (decS v.p).length ≤ 1000) : PureOK Tryz.prog 142 [.agg (vlA v), .v (str s)] (.v (str (mdS s v.p))) := by
  have n1 := con_number v.p hp
  unfold mdS
  refine PureOK.fnF Tryz.func142 Tryz.results142 Tryz.ntmps142 rfl rfl rfl (by simp [AV.ids, AV0.ids, Atom.ids]) rfl (fun w0 T B E0 hB => ?_)
  refine SX.goL ?_
  refine retS ?_
  simp
section
variable (v : Vl) {i : Nat}
theorem con_vtx1 {x : RawQ} {s : List UInt8} (hx : (v.a.map rq)[i]? = some (rq x)) (hl : v.a.length ≤ 100000) (c : PureOK Tryz.prog 51 [.agg (q4A (rq x))] (.v (str s))) :
    PureOK Tryz.prog 139 [.v (.int .i64 (i : Int)), .r (ptrR (vlK v))] (.v (str s)) := by
  have h1 := at_lt hx
  refine PureOK.fnF Tryz.func139 Tryz.results139 Tryz.ntmps139 rfl rfl rfl (by simp [AV.ids, AV0.ids, Atom.ids]) rfl (fun w0 T B E0 hB => ?_)
  refine SX.goL ?_
  exact retS rfl
theorem con_vtx2 {x : RawZ} {s : List UInt8} (hx : (v.po.map rz)[i]? = some (rz x)) (hl : v.po.length ≤ 100000) (c : PureOK Tryz.prog 52 [.agg (z2A (rz x))] (.v (str s))) :
    PureOK Tryz.prog 141 [.v (.int .i64 (i : Int)), .r (ptrR (vlK v))] (.v (str s)) := by
  have h1 := at_lt hx
  refine PureOK.fnF Tryz.func141 Tryz.results141 Tryz.ntmps141 rfl rfl rfl (by simp [AV.ids, AV0.ids, Atom.ids]) rfl (fun w0 T B E0 hB => ?_)
  refine SX.goL ?_
  exact retS rfl
theorem con_vtx3 {x : Nat} (hx : v.fa[i]? = some x) (hb : x < 18446744073709551616) (hl : v.fa.length ≤ 100000) :
    PureOK Tryz.prog 143 [.v (.int .i64 (i : Int)), .r (ptrR (vlK v))] (.v (str (decS x))) := by
  have h1 := at_lt hx
  have c := con_number x hb
  refine PureOK.fnF Tryz.func143 Tryz.results143 Tryz.ntmps143 rfl rfl rfl (by simp [AV.ids, AV0.ids, Atom.ids]) rfl (fun w0 T B E0 hB => ?_)
  refine SX.goL ?_
  exact retS rfl
theorem con_vtx4 {x : Nat} (hx : v.ri[i]? = some x) (hb : x < 18446744073709551616) (hl : v.ri.length ≤ 100000) :
    PureOK Tryz.prog 145 [.v (.int .i64 (i : Int)), .r (ptrR (vlK v))] (.v (str (decS x))) := by
  have h1 := at_lt hx
  have c := con_number x hb
  refine PureOK.fnF Tryz.func145 Tryz.results145 Tryz.ntmps145 rfl rfl rfl (by simp [AV.ids, AV0.ids, Atom.ids]) rfl (fun w0 T B E0 hB => ?_)
  refine SX.goL ?_
  exact retS rfl
end
end Go.Proofs.YtfhpmbenldgfnaaGreatDoor
set_option linter.unusedVariables false
set_option linter.unusedSimpArgs false
namespace Go.Proofs.YtfhpmbenldgfnaaGreatDoor
open Go.RowKit QM SX LA
theorem decS_le {p : Nat} (h : p < WB) : (decS p).length ≤ 21 := decS_w h
attribute [local irreducible] IntKind.wrap Go1 Reg WP thenK inBlk retQ retF RetF RetOK ResOK CallOK OpOK Sat
attribute [local irreducible] qsub qmul qquo qcmp qadd qv redS mf PrP qOk zOk vP fp64 lz vF cq rqv plen pNorm pBoth pScale mulV jn sq decS qS zS tS tbS plS mdS
theorem con_textSh {K : Nat} {v : Vl} (h : Sh K v) (hK : K ≤ 100000) (hb : (tS v).length ≤ 10000000000) : PureOK Tryz.prog 71 [.agg (vlA v)] (.v (str (tS v))) := by
  cases h with
  | num x h =>
    rw [tS_num]
    have c := con_rPr h hK
    refine PureOK.fnF Tryz.func71 Tryz.results71 Tryz.ntmps71 rfl rfl rfl (by simp [AV.ids, AV0.ids, Atom.ids]) rfl (fun w0 T B E0 hB => ?_)
    refine SX.goL ?_
    exact retS rfl
  | mat r c vs hl hr hc h =>
    rw [tS_mat] at hb ⊢
    have hm := Nat.mul_le_mul hr hc
    have ml : (vMat r c vs).a.length = vs.length := List.length_map _
    have cT := con_vtable (vs.map qS) (.sat (cloR 139 [] [.sat (ptrR (vlK (vMat r c vs)))])) rfl (by rw [List.length_map]; exact hl) hr hc hb (fun i s hs => by
      rw [List.getElem?_map] at hs
      obtain ⟨x, hx, rfl⟩ := Option.map_eq_some_iff.1 hs
      have cc := con_rPrS (h x (List.mem_of_getElem? hx)) hK
      rw [cq_val] at cc
      exact FnV.clo (con_vtx1 (vMat r c vs) (x := cq x) (by show ((vs.map cq).map rq)[i]? = _; rw [List.getElem?_map, List.getElem?_map, hx]; rfl) (by rw [ml]; omega) cc))
    refine PureOK.fnF Tryz.func71 Tryz.results71 Tryz.ntmps71 rfl rfl rfl (by simp [AV.ids, AV0.ids, Atom.ids]) rfl (fun w0 T B E0 hB => ?_)
    refine SX.goL ?_
    refine SX.WP.freezeB 1 hB rfl rfl ?_
    refine SX.WP.regionL ?_
    refine SX.goL ?_
    exact retS rfl
  | pol zs hl hn h =>
    rw [tS_pol] at hb ⊢
    have ml : (vPol zs).po.length = zs.length := List.length_map _
    have hb2 : (jn 44 (zs.map zS)).length ≤ 100000000000 := by
      unfold plS at hb
      simp only [List.length_append] at hb
      omega
    have cT := con_vpoly (zs.map zS) (.sat (cloR 141 [] [.sat (ptrR (vlK (vPol zs)))])) rfl (by rw [List.length_map]; exact hl) hb2 (fun i s hs => by
      rw [List.getElem?_map] at hs
      obtain ⟨x, hx, rfl⟩ := Option.map_eq_some_iff.1 hs
      have cc := con_zPr (h x (List.mem_of_getElem? hx)) hK
      rw [cz_val] at cc
      exact FnV.clo (con_vtx2 (vPol zs) (x := cz x) (by show ((zs.map cz).map rz)[i]? = _; rw [List.getElem?_map, List.getElem?_map, hx]; rfl) (by rw [ml]; omega) cc))
    have e1 : (zs.map zS).length = ((vPol zs).po.map rz).length := by rw [List.length_map, List.length_map, ml]
    rw [e1] at cT
    refine PureOK.fnF Tryz.func71 Tryz.results71 Tryz.ntmps71 rfl rfl rfl (by simp [AV.ids, AV0.ids, Atom.ids]) rfl (fun w0 T B E0 hB => ?_)
    refine SX.goL ?_
    refine SX.WP.freezeB 1 hB rfl rfl ?_
    refine SX.WP.regionL ?_
    refine SX.goL ?_
    exact retS rfl
  | fld p r c l hp hl hr hc h =>
    rw [tS_fld] at hb ⊢
    have hm := Nat.mul_le_mul hr hc
    have hpb := hp.wb
    have hd := decS_le hpb
    rw [WB_eq] at hpb
    have hb2 : (tbS r c (l.map decS)).length ≤ 10000000000 := by
      unfold mdS at hb
      simp only [List.length_append] at hb
      omega
    have cT := con_vtable (l.map decS) (.sat (cloR 143 [] [.sat (ptrR (vlK (vFld p r c l)))])) rfl (by rw [List.length_map]; exact hl) hr hc hb2 (fun i s hs => by
      rw [List.getElem?_map] at hs
      obtain ⟨x, hx, rfl⟩ := Option.map_eq_some_iff.1 hs
      have hxp := h x (List.mem_of_getElem? hx)
      exact FnV.clo (con_vtx3 (vFld p r c l) hx (by omega) (by show l.length ≤ _; omega)))
    have cM := con_vmod (vFld p r c l) hpb (tbS r c (l.map decS)) hb2 (by show (decS p).length ≤ _; omega)
    refine PureOK.fnF Tryz.func71 Tryz.results71 Tryz.ntmps71 rfl rfl rfl (by simp [AV.ids, AV0.ids, Atom.ids]) rfl (fun w0 T B E0 hB => ?_)
    refine SX.goL ?_
    refine SX.WP.freezeB 1 hB rfl rfl ?_
    refine SX.WP.regionDL (by kernel_rfl) ?_
    refine SX.goL ?_
    exact retS rfl
  | rng p l hp hl hn h =>
    rw [tS_rng] at hb ⊢
    have hpb := hp.wb
    have hd := decS_le hpb
    rw [WB_eq] at hpb
    have hb2 : (plS (l.map decS)).length ≤ 10000000000 := by
      unfold mdS at hb
      simp only [List.length_append] at hb
      omega
    have hb3 : (jn 44 (l.map decS)).length ≤ 100000000000 := by
      unfold plS at hb2
      simp only [List.length_append] at hb2
      omega
    have cT := con_vpoly (l.map decS) (.sat (cloR 145 [] [.sat (ptrR (vlK (vRng p l)))])) rfl (by rw [List.length_map]; exact hl) hb3 (fun i s hs => by
      rw [List.getElem?_map] at hs
      obtain ⟨x, hx, rfl⟩ := Option.map_eq_some_iff.1 hs
      have hxp := h x (List.mem_of_getElem? hx)
      exact FnV.clo (con_vtx4 (vRng p l) hx (by omega) (by show l.length ≤ _; omega)))
    have e1 : (l.map decS).length = (vRng p l).ri.length := List.length_map _
    rw [e1] at cT
    have cM := con_vmod (vRng p l) hpb (plS (l.map decS)) hb2 (by show (decS p).length ≤ _; omega)
    refine PureOK.fnF Tryz.func71 Tryz.results71 Tryz.ntmps71 rfl rfl rfl (by simp [AV.ids, AV0.ids, Atom.ids]) rfl (fun w0 T B E0 hB => ?_)
    refine SX.goL ?_
    refine SX.WP.freezeB 1 hB rfl rfl ?_
    refine SX.WP.regionDL (by kernel_rfl) ?_
    refine SX.goL ?_
    exact retS rfl
theorem con_textL (l : List Vl) (hl : l.length ≤ 10000) (hb : (jn 44 (l.map tS)).length ≤ 10000000000) (hx : ∀ x ∈ l, PureOK Tryz.prog 71 [.agg (vlA x)] (.v (str (tS x)))) : PureOK Tryz.prog 71 [.agg (vlA (vLst l))] (.v (str (123 :: (jn 44 (l.map tS) ++ [125])))) := by
  have hml : (l.map tS).length = l.length := List.length_map _
  have ml : (vLst l).li.length = l.length := rfl
  have cJ := con_join 44 (l.map tS) (by omega) (by omega)
  rw [rowt_len hml] at cJ
  rw [vlA_B]
  refine PureOK.fnF Tryz.func71 Tryz.results71 Tryz.ntmps71 rfl rfl rfl (by simp [AV.ids, AV0.ids, Atom.ids]) rfl (fun w0 T B E0 hB => ?_)
  refine SX.goL ?_
  refine W.loop (fun k => k ≤ l.length) (fun k => [(3, .own 100), (52, .r (rowR 15 vlE (vLst l).li)), (53, .v (.int .i64 (l.length : Int))), (54, .v (.int .i64 (k : Int)))]) (fun k => [(100, .row 9 1 k (((l.map tS).take k).flatMap txC))]) (fun k => l.length - k) 0 (Nat.zero_le _) (fun k hk => ?_)
    (by
      refine SX.St.le_to [(100, none)] (by intro b h; cases h) ?_ ?_ rfl
      · repeat (first | exact trivial | refine ⟨⟨_, rfl, SX.AVto.same rfl⟩, ?_⟩ | refine ⟨⟨_, rfl, SX.AVto.nil rfl⟩, ?_⟩)
      · exact ⟨SX.EntTo.nilRow rfl, trivial⟩)
  by_cases h : k < l.length
  · obtain ⟨x, hx'⟩ : ∃ x, l[k]? = some x := ⟨_, List.getElem?_eq_getElem h⟩
    have hx2 : (vLst l).li[k]? = some x := hx'
    have c := hx x (List.mem_of_getElem? hx')
    have hs : (l.map tS)[k]? = some (tS x) := by rw [List.getElem?_map, hx']; rfl
    refine SX.goL ?_
    refine W.next (k + 1) h (by omega) (by
      refine SX.St.le_to [(100, some 62)] (by intro b h; cases h) ?_ ?_ rfl
      · repeat (first | exact trivial | refine ⟨⟨_, rfl, SX.AVto.same rfl⟩, ?_⟩ | refine ⟨⟨_, rfl, SX.AVto.own rfl⟩, ?_⟩)
      · exact ⟨SX.EntTo.row rfl rfl rfl (tx_snoc hs), trivial⟩)
  · obtain rfl : k = l.length := by omega
    rw [List.take_of_length_le (by omega : (l.map tS).length ≤ l.length)]
    refine SX.WP.freeze 100 hB rfl ?_
    refine SX.goL ?_
    refine retS ?_
    simp
theorem con_text : ∀ {K : Nat} (n : Nat) {v : Vl}, Cv K n v → K ≤ 100000 → (tS v).length ≤ 10000000000 → PureOK Tryz.prog 71 [.agg (vlA v)] (.v (str (tS v))) := by
  intro K n
  induction n with
  | zero =>
    intro v hv hK hb
    cases hv with
    | one h => exact con_textSh h hK hb
  | succ n ih =>
    intro v hv hK hb
    cases hv with
    | one h => exact con_textSh h hK hb
    | lst l hl h =>
      rw [tS_lst] at hb ⊢
      rw [List.length_cons, List.length_append] at hb
      exact con_textL l hl (by omega) fun x hx => ih (h x hx) hK (by
        have := jn_mem 44 (List.mem_map_of_mem (f := tS) hx); omega)
end Go.Proofs.YtfhpmbenldgfnaaGreatDoor
set_option linter.unusedVariables false
set_option linter.unusedSimpArgs false
namespace Go.Proofs.YtfhpmbenldgfnaaGreatDoor
open Go.RowKit QM SX LA
attribute [local irreducible] IntKind.wrap Go1 Reg WP thenK inBlk retQ retF RetF RetOK ResOK CallOK OpOK Sat
attribute [local irreducible] qsub qmul qquo qcmp qadd qv redS mf PrP qOk zOk vP fp64 lz vF cq rqv plen pNorm pBoth pScale mulV jn sq decS qS zS tS tbS plS mdS vW sameV
theorem con_vPrint {v : Vl} (hF : PureOK Tryz.prog 28 [.agg (vlA v)] (.v (.bool true))) {s : List UInt8} (c : PureOK Tryz.prog 71 [.agg (vlA v)] (.v (str s))) :
    PureOK Tryz.prog 27 [.agg (vlA v)] (.tup [.one (.c (.val (str s))), eNo 0]) := by
  refine PureOK.fnF Tryz.func27 Tryz.results27 Tryz.ntmps27 rfl rfl rfl (by simp [AV.ids, AV0.ids, Atom.ids]) rfl (fun w0 T B E0 hB => ?_)
  refine SX.goL ?_
  exact .ok (RetOK.mk2 (ResOK.tmp rfl) (ResOK.tmp rfl))
theorem con_vPrint0 {v : Vl} (hF : PureOK Tryz.prog 28 [.agg (vlA v)] (.v (.bool false))) :
    PureOK Tryz.prog 27 [.agg (vlA v)] (.tup [.one (.c (.val (str []))), eNo 1]) := by
  refine PureOK.fnF Tryz.func27 Tryz.results27 Tryz.ntmps27 rfl rfl rfl (by simp [AV.ids, AV0.ids, Atom.ids]) rfl (fun w0 T B E0 hB => ?_)
  refine SX.goL ?_
  exact .ok (RetOK.mk2 (ResOK.tmp rfl) (ResOK.tmp rfl))
theorem con_vBits0 {v : Vl} (hF : PureOK Tryz.prog 28 [.agg (vlA v)] (.v (.bool false))) :
    PureOK Tryz.prog 29 [.agg (vlA v)] (.v (.int .i64 0)) := by
  refine PureOK.fnF Tryz.func29 Tryz.results29 Tryz.ntmps29 rfl rfl rfl (by simp [AV.ids, AV0.ids, Atom.ids]) rfl (fun w0 T B E0 hB => ?_)
  refine SX.goL ?_
  exact retI rfl
theorem Prt_few {u v : Vl} (hf : PureOK Tryz.prog 12 [.agg (vlA u), .agg (vlA v)] (.v (.bool false))) : PureOK Tryz.prog 7 [.agg (vlA u), .agg (vlA v)] (.v (.bool true)) := by
  have cW := con_awake29
  refine PureOK.fnF Tryz.func7 Tryz.results7 Tryz.ntmps7 rfl rfl rfl (by simp [AV.ids, AV0.ids, Atom.ids]) rfl (fun w0 T B E0 hB => ?_)
  refine SX.goL ?_
  exact retB rfl
section
variable {u v : Vl} (hf : PureOK Tryz.prog 12 [.agg (vlA u), .agg (vlA v)] (.v (.bool true)))
include hf
set_option maxRecDepth 20000 in
set_option maxHeartbeats 4000000 in
theorem Prt_bad {b : Bool} (F1 : PureOK Tryz.prog 28 [.agg (vlA u)] (.v (.bool false))) (F2 : PureOK Tryz.prog 28 [.agg (vlA v)] (.v (.bool b)))
    (i1 : PureOK Tryz.prog 14 [.agg (vlA u)] (.v (.bool false))) : PureOK Tryz.prog 7 [.agg (vlA u), .agg (vlA v)] (.v (.bool true)) := by
  have cW := con_awake29
  have p1 := con_vPrint0 F1
  have b1 := con_vBits0 F1
  have s1 := con_Same0 (v := u) (b := true) F1
  have s2 := con_Same0 (v := v) (b := true) F1
  have s3 := con_Same0' F1 F2
  clear F2
  refine PureOK.fnF Tryz.func7 Tryz.results7 Tryz.ntmps7 rfl rfl rfl (by simp [AV.ids, AV0.ids, Atom.ids]) rfl (fun w0 T B E0 hB => ?_)
  refine SX.goL ?_
  exact retB rfl
set_option maxRecDepth 20000 in
set_option maxHeartbeats 4000000 in
theorem Prt_one (hu : Cv 2 4 u) (lu : (tS u).length ≤ 10000000000) (F2 : PureOK Tryz.prog 28 [.agg (vlA v)] (.v (.bool false)))
    (i1 : PureOK Tryz.prog 14 [.agg (vlA u)] (.v (.bool true))) : PureOK Tryz.prog 7 [.agg (vlA u), .agg (vlA v)] (.v (.bool true)) := by
  have cW := con_awake29
  have F1 := hu.F (by decide) (by decide)
  have p1 := con_vPrint F1 (con_text 4 hu (by decide) lu)
  have p2 := con_vPrint0 F2
  have e0 : tS u = tS u := rfl
  have r1 := con_rPrint29 4 hu (by decide) (by omega)
  have s1 := con_Same hu hu (by decide) (by decide) (by decide)
  rw [sameV_self] at s1
  clear F2
  refine PureOK.fnF Tryz.func7 Tryz.results7 Tryz.ntmps7 rfl rfl rfl (by simp [AV.ids, AV0.ids, Atom.ids]) rfl (fun w0 T B E0 hB => ?_)
  refine SX.goL ?_
  exact retB rfl
set_option maxRecDepth 20000 in
set_option maxHeartbeats 4000000 in
theorem Prt_ok (hu : Cv 2 4 u) (hv : Cv 2 4 v) (lu : (tS u).length ≤ 10000000000) (lv : (tS v).length ≤ 10000000000)
    (i1 : PureOK Tryz.prog 14 [.agg (vlA u)] (.v (.bool true))) : PureOK Tryz.prog 7 [.agg (vlA u), .agg (vlA v)] (.v (.bool true)) := by
  have cW := con_awake29
  have F1 := hu.F (by decide) (by decide)
  have F2 := hv.F (by decide) (by decide)
  have p1 := con_vPrint F1 (con_text 4 hu (by decide) lu)
  have p2 := con_vPrint F2 (con_text 4 hv (by decide) lv)
  have e0 : tS u = tS u := rfl
  have r1 := con_rPrint29 4 hu (by decide) (by omega)
  have s1 := con_Same hu hu (by decide) (by decide) (by decide)
  rw [sameV_self] at s1
  have s2 := con_Same hu hv (by decide) (by decide) (by decide)
  rw [show sameV u v = decide (tS u = tS v) from sameV_of (tS_inj hu hv).symm] at s2
  have hq : (decide (tS u = tS v) == decide (tS u = tS v)) = true := by cases decide (tS u = tS v) <;> rfl
  clear F2
  refine PureOK.fnF Tryz.func7 Tryz.results7 Tryz.ntmps7 rfl rfl rfl (by simp [AV.ids, AV0.ids, Atom.ids]) rfl (fun w0 T B E0 hB => ?_)
  refine SX.goL ?_
  exact retB hq
end
theorem ValuePrints_ok (u : Vl) (hu : rW u) (v : Vl) (hv : rW v) : PureOK Tryz.prog 7 [.agg (vlA u), .agg (vlA v)] (.v (.bool true)) := by
  by_cases hw : vW 3 u ∧ vW 3 v
  · have hf := con_fewT hw.1 hw.2
    have z1 := vZ.few hw.1 hu
    have z2 := vZ.few hw.2 hv
    have F1 := con_vFormed z1
    have F2 := con_vFormed z2
    have i1 := con_is z1
    cases h1 : vF 20 u with
    | false =>
      rw [h1] at F1 i1
      exact Prt_bad hf F1 F2 i1
    | true =>
      rw [h1] at i1
      have C1 := Cv.of hw.1 hu h1
      have l1 := Nat.le_trans (tS_le 3 hw.1 C1) (show tB 3 ≤ 10000000000 by decide)
      cases h2 : vF 20 v with
      | false =>
        rw [h2] at F2
        exact Prt_one hf C1 l1 F2 i1
      | true =>
        have C2 := Cv.of hw.2 hv h2
        exact Prt_ok hf C1 C2 l1 (Nat.le_trans (tS_le 3 hw.2 C2) (by decide)) i1
  · have hf := con_fewF hw
    exact Prt_few hf
end Go.Proofs.YtfhpmbenldgfnaaGreatDoor

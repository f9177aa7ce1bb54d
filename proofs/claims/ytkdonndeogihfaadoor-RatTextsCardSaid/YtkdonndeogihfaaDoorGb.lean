import Derived.Test.YtkdonndeogihfaaDoorG9
import Derived.Test.YtkdonndeogihfaaDoorD8
import Derived.Test.YtkdonndeogihfaaDoorD6
/- The statement RatTexts answers true. -/
set_option linter.unusedVariables false
set_option linter.unusedSimpArgs false
namespace Go.Proofs.YtkdonndeogihfaaDoor
open Go.RowKit QM SX
abbrev ixb (l : List UInt8) (c : UInt8) : Int := Lib.indexByte l c
theorem ixb_cons (b : UInt8) (l : List UInt8) (c : UInt8) : ixb (b :: l) c = if b = c then 0 else if ixb l c = -1 then -1 else ixb l c + 1 := by
  have e : ixb (b :: l) c = if b == c then 0 else if ixb l c == -1 then -1 else ixb l c + 1 := rfl
  rw [e]; simp only [beq_iff_eq]
theorem ixb_ge (l : List UInt8) (c : UInt8) : -1 ≤ ixb l c := Lib.indexByte_ge l c
theorem ixb_lt (l : List UInt8) (c : UInt8) : ixb l c < l.length := by
  induction l with
  | nil => simp [ixb, Lib.indexByte]
  | cons b l ih =>
    rw [ixb_cons, List.length_cons]
    repeat' split
    all_goals omega
theorem ixb_none : ∀ {l : List UInt8} {c : UInt8}, c ∉ l → ixb l c = -1
  | [], _, _ => rfl
  | b :: l, c, h => by
    rw [List.mem_cons, not_or] at h
    rw [ixb_cons, if_neg (fun e => h.1 e.symm), if_pos (ixb_none h.2)]
theorem ixb_app : ∀ {l : List UInt8} {c : UInt8} (m : List UInt8), c ∉ l → ixb (l ++ c :: m) c = l.length
  | [], c, m, _ => by rw [List.nil_append, ixb_cons, if_pos rfl]; rfl
  | b :: l, c, m, h => by
    rw [List.mem_cons, not_or] at h
    have ih := ixb_app m h.2
    rw [List.cons_append, ixb_cons, if_neg (fun e => h.1 e.symm), if_neg (by omega), ih, List.length_cons]; omega
/-- What stands before a stroke, and behind it. -/
def cutN (l : List UInt8) : List UInt8 := if 0 ≤ ixb l 47 then l.take (ixb l 47).toNat else l
def cutD (l : List UInt8) : List UInt8 := if 0 ≤ ixb l 47 then l.drop ((ixb l 47).toNat + 1) else [49]
theorem cutN_len (l : List UInt8) : (cutN l).length ≤ l.length := by
  unfold cutN; split
  · rw [List.length_take]; omega
  · exact Nat.le_refl _
theorem cutD_len (l : List UInt8) : (cutD l).length ≤ l.length + 1 := by
  unfold cutD; split
  · rw [List.length_drop]; omega
  · simp
def rPok (l : List UInt8) : Bool := zPok (cutN l) && zPok (cutD l) && !decide (zPv (cutD l) = 0) && decide (rS (rmk (rmk (zPv (cutN l)) (zPv (cutD l))).1 (rmk (zPv (cutN l)) (zPv (cutD l))).2) = l)
def rPv (l : List UInt8) : Int × Int := if rPok l then rmk (zPv (cutN l)) (zPv (cutD l)) else (0, 1)
theorem zS_no (z : Int) : (47 : UInt8) ∉ zS z := by
  have hd : ∀ x : Nat, (47 : UInt8) ∉ decS x := by
    intro x h
    unfold decS at h
    split at h
    · simp at h
    · have := List.all_eq_true.1 (dig_facts x).1 _ h
      exact absurd (of_decide_eq_true this) (by decide)
  unfold zS
  split
  · rw [List.mem_cons, not_or]; exact ⟨by decide, hd _⟩
  · exact hd _
theorem one_txt : ([49] : List UInt8) = zS 1 := by
  unfold zS decS
  rw [if_neg (by decide), if_neg (by decide), show (1 : Int).natAbs = 1 from rfl, dig1 (by decide) (by decide)]; rfl
theorem rmk_norm {Y : Int × Int} (hd : 0 < Y.2) (hg : Int.gcd Y.1 Y.2 = 1) : rmk Y.1 Y.2 = Y := by
  have := Rd.uniq (rmk_pos Y.1 Y.2) (rmk_gcd Y.1 Y.2) hd hg (rmk_val Y.1 Y.2)
  exact Prod.ext this.1 this.2
/-- What is printed is read. -/
theorem rP_print {Y : Int × Int} {k : Nat} (hd : 0 < Y.2) (hg : Int.gcd Y.1 Y.2 = 1) (b1 : Bd Y.1 k) (b2 : Bd Y.2 k) (hk : k ≤ 900) : rPok (rS Y) = true ∧ rPv (rS Y) = Y := by
  have key : cutN (rS Y) = zS Y.1 ∧ cutD (rS Y) = zS Y.2 := by
    unfold rS
    by_cases h1 : Y.2 = 1
    · rw [if_pos h1, h1, ← one_txt]
      have hx := ixb_none (zS_no Y.1)
      unfold cutN cutD
      rw [hx, if_neg (by decide), if_neg (by decide)]
      exact ⟨rfl, rfl⟩
    · rw [if_neg h1, List.append_assoc, List.singleton_append]
      have hx := ixb_app (zS Y.2) (zS_no Y.1)
      unfold cutN cutD
      rw [hx, if_pos (by omega), if_pos (by omega), Int.toNat_natCast]
      exact ⟨List.take_left' rfl, by rw [← List.drop_drop, List.drop_left' rfl]; rfl⟩
  have p1 := zP_print b1 hk
  have p2 := zP_print b2 hk
  have hok : rPok (rS Y) = true := by
    unfold rPok
    rw [key.1, key.2, p1.1, p2.1, p1.2, p2.2, rmk_norm hd hg, rmk_norm hd hg, decide_eq_false (by omega), decide_eq_true rfl]; rfl
  refine ⟨hok, ?_⟩
  unfold rPv
  rw [if_pos hok, key.1, key.2, p1.2, p2.2, rmk_norm hd hg]
theorem rPv_facts (l : List UInt8) : 0 < (rPv l).2 ∧ Int.gcd (rPv l).1 (rPv l).2 = 1 ∧ Bd (rPv l).1 (2 * l.length + 2) ∧ Bd (rPv l).2 (2 * l.length + 2) := by
  have h1 := cutN_len l
  have h2 := cutD_len l
  have b1 := zPv_bd (cutN l)
  have b2 := zPv_bd (cutD l)
  unfold rPv
  split
  · exact ⟨rmk_pos _ _, rmk_gcd _ _, ⟨Bd.mono (Bd.rmk1 _ _ (cutN l).length (cutD l).length).h (by omega)⟩, ⟨Bd.mono (Bd.rmk2 _ _ (cutN l).length (cutD l).length).h (by omega)⟩⟩
  · exact ⟨by decide, by decide, bd0 _, bd1 (by omega)⟩
theorem rPok_txt {l : List UInt8} (h : rPok l = true) : rS (rmk (rPv l).1 (rPv l).2) = l := by
  unfold rPv; rw [if_pos h]
  unfold rPok at h
  rw [Bool.and_eq_true] at h
  exact of_decide_eq_true h.2
attribute [local irreducible] IntKind.wrap Go1 Reg WP thenK inBlk retQ retF RetF RetOK ResOK CallOK OpOK Sat
attribute [local irreducible] isN dval decS zS sgn isign rS zPok zPv qv
theorem con_CutS (l : List UInt8) (hl : l.length ≤ 1000000000) : PureOK Tryd.prog 125 [.v (str l), .v (str [47])] (.tup [.one (.c (.val (str (cutN l)))), .one (.c (.val (str (if 0 ≤ ixb l 47 then cutD l else [])))), .one (.c (.val (.bool (decide (0 ≤ ixb l 47)))))]) := by
  have cI : PureOK Tryd.prog 136 [.v (str l), .v (str [47])] (.v (.int .i64 (ixb l 47))) :=
    pureS (args := [str l, str [47]]) ⟨_, Tryd.func136, rfl, rfl⟩ fun w => (Tryd.stringslite_Index_one ⟨⟨l⟩⟩ 47 w).mono fun e w' ⟨h1, h2⟩ => ⟨h1, h2⟩
  have hge := ixb_ge l 47
  have hlt := ixb_lt l 47
  have hN : cutN l = if 0 ≤ ixb l 47 then l.take (ixb l 47).toNat else l := by unfold cutN; rfl
  have hD : cutD l = if 0 ≤ ixb l 47 then l.drop ((ixb l 47).toNat + 1) else [49] := by unfold cutD; rfl
  by_cases h0 : 0 ≤ ixb l 47
  · rw [if_pos h0] at hN hD
    rw [if_pos h0, decide_eq_true h0, hN, hD]
    obtain ⟨n, hn⟩ : ∃ n : Nat, ixb l 47 = n := ⟨(ixb l 47).toNat, by omega⟩
    rw [hn] at cI hlt ⊢
    rw [Int.toNat_natCast]
    have h1 : ([47] : List UInt8).length = 1 := rfl
    refine PureOK.fnF Tryd.func125 Tryd.results125 Tryd.ntmps125 rfl rfl rfl (by simp [AV.ids, AV0.ids, Atom.ids]) rfl (fun w0 T B E0 hB => ?_)
    refine SX.go2 ?_
    exact ret3 rfl rfl rfl
  · rw [if_neg h0] at hN hD
    rw [if_neg h0, decide_eq_false h0, hN]
    refine PureOK.fnF Tryd.func125 Tryd.results125 Tryd.ntmps125 rfl rfl rfl (by simp [AV.ids, AV0.ids, Atom.ids]) rfl (fun w0 T B E0 hB => ?_)
    refine SX.go2 ?_
    exact ret3 rfl rfl rfl
theorem con_Cut (l : List UInt8) (hl : l.length ≤ 1000000000) : PureOK Tryd.prog 101 [.v (str l), .v (str [47])] (.tup [.one (.c (.val (str (cutN l)))), .one (.c (.val (str (if 0 ≤ ixb l 47 then cutD l else [])))), .one (.c (.val (.bool (decide (0 ≤ ixb l 47)))))]) := by
  have cC := con_CutS l hl
  refine PureOK.fnF Tryd.func101 Tryd.results101 Tryd.ntmps101 rfl rfl rfl (by simp [AV.ids, AV0.ids, Atom.ids]) rfl (fun w0 T B E0 hB => ?_)
  refine SX.go2 ?_
  exact ret3 rfl rfl rfl
theorem con_rParse (l : List UInt8) (hl : l.length ≤ 20000) : PureOK Tryd.prog 67 [.v (str l)] (.tup [.agg (ratA (rPv l)), .one (.c (.val (.bool (rPok l))))]) := by
  have h1 := cutN_len l
  have h2 := cutD_len l
  have b1 := zPv_bd (cutN l)
  have b2 := zPv_bd (cutD l)
  have cC := con_Cut l (by omega)
  have cN := con_zParse (cutN l) (by omega)
  have cD := con_zParse (cutD l) (by omega)
  have hp : rPok l = (zPok (cutN l) && zPok (cutD l) && !decide (zPv (cutD l) = 0) && decide (rS (rmk (rmk (zPv (cutN l)) (zPv (cutD l))).1 (rmk (zPv (cutN l)) (zPv (cutD l))).2) = l)) := by unfold rPok; rfl
  have hv : rPv l = if rPok l then rmk (zPv (cutN l)) (zPv (cutD l)) else (0, 1) := by unfold rPv; rfl
  have hs := isign0 (zPv (cutD l))
  have hD1 : ¬ 0 ≤ ixb l 47 → cutD l = [49] := fun h => by unfold cutD; rw [if_neg h]
  generalize cutN l = u at *
  generalize cutD l = w at *
  have cM := (con_rMake (l := zN (zPv u)) (l' := zN (zPv w))).h (show u.length + w.length ≤ 1000000000 by omega)
  have i1 : Bd (rmk (zPv u) (zPv w)).1 (u.length + w.length + 1) := inferInstance
  have i2 : Bd (rmk (zPv u) (zPv w)).2 (u.length + w.length + 1) := inferInstance
  refine PureOK.fnF Tryd.func67 Tryd.results67 Tryd.ntmps67 rfl rfl rfl (by simp [AV.ids, AV0.ids, Atom.ids]) rfl (fun w0 T B E0 hB => ?_)
  by_cases h0 : 0 ≤ ixb l 47
  · rw [if_pos h0, decide_eq_true h0] at cC
    cases o1 : zPok u with
    | false =>
      rw [o1] at cN hp
      rw [Bool.false_and, Bool.false_and, Bool.false_and] at hp
      rw [hp, if_neg (by simp)] at hv
      refine SX.go2 ?_
      rw [hp, hv]
      exact ret2' (ResOK.agg4 rfl rfl rfl) (ResOK.tmp rfl) (AV0.imp.refl _) (AV0.imp.refl _)
    | true =>
      rw [o1] at cN hp
      cases o2 : zPok w with
      | false =>
        rw [o2] at cD hp
        rw [Bool.and_false, Bool.false_and, Bool.false_and] at hp
        rw [hp, if_neg (by simp)] at hv
        refine SX.go2 ?_
        rw [hp, hv]
        exact ret2' (ResOK.agg4 rfl rfl rfl) (ResOK.tmp rfl) (AV0.imp.refl _) (AV0.imp.refl _)
      | true =>
        rw [o2] at cD hp
        by_cases hz : zPv w = 0
        · rw [decide_eq_true hz, Bool.not_true, Bool.and_false, Bool.false_and] at hp
          rw [hp, if_neg (by simp)] at hv
          refine SX.go2 ?_
          rw [hp, hv]
          exact ret2' (ResOK.agg4 rfl rfl rfl) (ResOK.tmp rfl) (AV0.imp.refl _) (AV0.imp.refl _)
        · rw [decide_eq_false hz] at hp
          have cP := (con_rPrint (h := (haveI := i1; inferInstance)) (h' := (haveI := i2; inferInstance)) (p := (rmk (zPv u) (zPv w)).1) (q := (rmk (zPv u) (zPv w)).2) (x0 := .c (.val (.bool (decide ((rmk (zPv u) (zPv w)).1 < 0))))) (x1 := .c (.sat (nrmN (rmk (zPv u) (zPv w)).1.natAbs))) (x2 := .c (.val (.bool (decide ((rmk (zPv u) (zPv w)).2 < 0))))) (x3 := .c (.sat (nrmN (rmk (zPv u) (zPv w)).2.natAbs)))).h (by omega)
          by_cases he : rS (rmk (rmk (zPv u) (zPv w)).1 (rmk (zPv u) (zPv w)).2) = l
          · have hd : decide (rS (rmk (rmk (zPv u) (zPv w)).1 (rmk (zPv u) (zPv w)).2) = l) = true := decide_eq_true he
            rw [hd] at hp
            have hp' : rPok l = true := hp
            rw [hp', if_pos rfl] at hv
            refine SX.go2 ?_
            rw [hp', hv]
            exact ret2' (ResOK.agg4 rfl rfl rfl) (ResOK.tmp rfl) (AV0.imp.refl _) (AV0.imp.refl _)
          · have hd : decide (rS (rmk (rmk (zPv u) (zPv w)).1 (rmk (zPv u) (zPv w)).2) = l) = false := decide_eq_false he
            rw [hd] at hp
            have hp' : rPok l = false := hp
            rw [hp', if_neg (by simp)] at hv
            refine SX.go2 ?_
            rw [hp', hv]
            exact ret2' (ResOK.agg4 rfl rfl rfl) (ResOK.tmp rfl) (AV0.imp.refl _) (AV0.imp.refl _)
  · rw [if_neg h0, decide_eq_false h0] at cC
    have hw := hD1 h0
    subst hw
    cases o1 : zPok u with
    | false =>
      rw [o1] at cN hp
      rw [Bool.false_and, Bool.false_and, Bool.false_and] at hp
      rw [hp, if_neg (by simp)] at hv
      refine SX.go2 ?_
      rw [hp, hv]
      exact ret2' (ResOK.agg4 rfl rfl rfl) (ResOK.tmp rfl) (AV0.imp.refl _) (AV0.imp.refl _)
    | true =>
      rw [o1] at cN hp
      cases o2 : zPok [49] with
      | false =>
        rw [o2] at cD hp
        rw [Bool.and_false, Bool.false_and, Bool.false_and] at hp
        rw [hp, if_neg (by simp)] at hv
        refine SX.go2 ?_
        rw [hp, hv]
        exact ret2' (ResOK.agg4 rfl rfl rfl) (ResOK.tmp rfl) (AV0.imp.refl _) (AV0.imp.refl _)
      | true =>
        rw [o2] at cD hp
        by_cases hz : zPv [49] = 0
        · rw [decide_eq_true hz, Bool.not_true, Bool.and_false, Bool.false_and] at hp
          rw [hp, if_neg (by simp)] at hv
          refine SX.go2 ?_
          rw [hp, hv]
          exact ret2' (ResOK.agg4 rfl rfl rfl) (ResOK.tmp rfl) (AV0.imp.refl _) (AV0.imp.refl _)
        · rw [decide_eq_false hz] at hp
          have cP := (con_rPrint (h := (haveI := i1; inferInstance)) (h' := (haveI := i2; inferInstance)) (p := (rmk (zPv u) (zPv [49])).1) (q := (rmk (zPv u) (zPv [49])).2) (x0 := .c (.val (.bool (decide ((rmk (zPv u) (zPv [49])).1 < 0))))) (x1 := .c (.sat (nrmN (rmk (zPv u) (zPv [49])).1.natAbs))) (x2 := .c (.val (.bool (decide ((rmk (zPv u) (zPv [49])).2 < 0))))) (x3 := .c (.sat (nrmN (rmk (zPv u) (zPv [49])).2.natAbs)))).h (by omega)
          by_cases he : rS (rmk (rmk (zPv u) (zPv [49])).1 (rmk (zPv u) (zPv [49])).2) = l
          · have hd : decide (rS (rmk (rmk (zPv u) (zPv [49])).1 (rmk (zPv u) (zPv [49])).2) = l) = true := decide_eq_true he
            rw [hd] at hp
            have hp' : rPok l = true := hp
            rw [hp', if_pos rfl] at hv
            refine SX.go2 ?_
            rw [hp', hv]
            exact ret2' (ResOK.agg4 rfl rfl rfl) (ResOK.tmp rfl) (AV0.imp.refl _) (AV0.imp.refl _)
          · have hd : decide (rS (rmk (rmk (zPv u) (zPv [49])).1 (rmk (zPv u) (zPv [49])).2) = l) = false := decide_eq_false he
            rw [hd] at hp
            have hp' : rPok l = false := hp
            rw [hp', if_neg (by simp)] at hv
            refine SX.go2 ?_
            rw [hp', hv]
            exact ret2' (ResOK.agg4 rfl rfl rfl) (ResOK.tmp rfl) (AV0.imp.refl _) (AV0.imp.refl _)
theorem con_rBits {x0 x1 x2 x3 : Atom} {p q : Int} {k m : Nat} [h : ZI [x0, x1] p k] [h' : ZI [x2, x3] q m] (hk : k + m ≤ 1000000) : PureOK Tryd.prog 68 [.agg [x0, x1, x2, x3]] (.v (.int .i64 ((max (bitLen (rmk p q).1.natAbs) (bitLen (rmk p q).2.natAbs) : Nat) : Int))) := by
  refine q1 ⟨_, Tryd.func68, rfl, rfl⟩ fun neg n neg2 n2 hz hz2 hn hn2 => ?_
  subst hz; subst hz2
  refine PureOK.fnF Tryd.func68 Tryd.results68 Tryd.ntmps68 rfl rfl rfl (by simp [AV.ids, AV0.ids, Atom.ids]) rfl (fun w0 T B E0 hB => ?_)
  refine SX.go2 ?_
  exact retI rfl
set_option maxRecDepth 20000 in
theorem RatTexts_ok (b1 : Bool) (l1 : List Nat) (c1 : Bool) (m1 : List Nat) (l : List UInt8) (h : l.length ≤ maxLen) : PureOK Tryd.prog 14 [.agg (qW b1 l1 c1 m1), .v (str l)] (.v (.bool true)) := by
  refine lawQ ⟨_, Tryd.func14, rfl, rfl⟩ fun i1 i2 => ?_
  by_cases f1 : l1.length ≤ 5 ∧ m1.length ≤ 5
  · by_cases hl : l.length ≤ 200
    · have bp : Bd (sgn b1 (nval WB l1)) l1.length := inferInstance
      have bq : Bd (sgn c1 (nval WB m1)) m1.length := inferInstance
      have cP := (con_rPrint (h := ZI.raw b1 l1) (h' := ZI.raw c1 m1)).h (show l1.length + m1.length ≤ 1000000 by omega)
      have cB := con_rBits (h := ZI.raw b1 l1) (h' := ZI.raw c1 m1) (show l1.length + m1.length ≤ 1000000 by omega)
      have ra : Ra (qW b1 l1 c1 m1) (qv (sgn b1 (nval WB l1)) (sgn c1 (nval WB m1))) 5 := Ra.raw i1 i2 f1.1 f1.2
      have hv := rmk_val (sgn b1 (nval WB l1)) (sgn c1 (nval WB m1))
      have hd := rmk_pos (sgn b1 (nval WB l1)) (sgn c1 (nval WB m1))
      have hg := rmk_gcd (sgn b1 (nval WB l1)) (sgn c1 (nval WB m1))
      have y1 : Bd (rmk (sgn b1 (nval WB l1)) (sgn c1 (nval WB m1))).1 11 := ⟨Bd.mono (Bd.rmk1 _ _ l1.length m1.length).h (by omega)⟩
      have y2 : Bd (rmk (sgn b1 (nval WB l1)) (sgn c1 (nval WB m1))).2 11 := ⟨Bd.mono (Bd.rmk2 _ _ l1.length m1.length).h (by omega)⟩
      generalize rmk (sgn b1 (nval WB l1)) (sgn c1 (nval WB m1)) = Y at *
      have hpp := rP_print hd hg y1 y2 (by omega)
      have hlen : (rS Y).length ≤ 20000 := by
        have z1 := zS_len (z := Y.1) (k := 11)
        have z2 := zS_len (z := Y.2) (k := 11)
        unfold rS; split
        · omega
        · rw [List.length_append, List.length_append]; simp only [List.length_cons, List.length_nil]; omega
      have cQ := con_rParse (rS Y) hlen
      rw [hpp.1, hpp.2] at cQ
      have rY : Rd Y (qv (sgn b1 (nval WB l1)) (sgn c1 (nval WB m1))) 11 := ⟨hv, hd, hg, y1, y2⟩
      have iY := rY.ra
      obtain ⟨zc, cC, hzc, _⟩ := eCmp (qW b1 l1 c1 m1) (ratA Y) (by omega)
      have e0 : zc = 0 := hzc.2 rfl
      have hN : decide (0 < Y.2 ∧ (Int.gcd Y.1 Y.2 : Int) = 1) = true := decide_eq_true ⟨hd, by rw [hg]; rfl⟩
      have cR := con_rParse l (by omega)
      have hf := rPv_facts l
      obtain ⟨g1, g2, g3, g4⟩ := hf
      have hN2 : decide (0 < (rPv l).2 ∧ (Int.gcd (rPv l).1 (rPv l).2 : Int) = 1) = true := decide_eq_true ⟨g1, by rw [g2]; rfl⟩
      have cP2 := (con_rPrint (h := (haveI := g3; inferInstance)) (h' := (haveI := g4; inferInstance)) (p := (rPv l).1) (q := (rPv l).2) (x0 := .c (.val (.bool (decide ((rPv l).1 < 0))))) (x1 := .c (.sat (nrmN (rPv l).1.natAbs))) (x2 := .c (.val (.bool (decide ((rPv l).2 < 0))))) (x3 := .c (.sat (nrmN (rPv l).2.natAbs)))).h (by omega)
      have hs0 := isign0 ((rPv l).1 * (rPv l).2)
      cases ok : rPok l with
      | true =>
        rw [ok] at cR
        rw [rPok_txt ok] at cP2
        have hdd : decide (l = l) = true := decide_eq_true rfl
        refine PureOK.fnF Tryd.func14 Tryd.results14 Tryd.ntmps14 rfl rfl rfl (by simp [AV.ids, AV0.ids, Atom.ids]) rfl (fun w0 T B E0 hB => ?_)
        refine SX.go2 ?_
        refine retB ?_; exact decide_eq_true rfl
      | false =>
        rw [ok] at cR
        have hz : rPv l = (0, 1) := by unfold rPv; rw [ok, if_neg (by simp)]
        rw [hz] at hs0
        have hs1 : isign ((rPv l).1 * (rPv l).2) = 0 := by rw [hz]; exact hs0.2 rfl
        refine PureOK.fnF Tryd.func14 Tryd.results14 Tryd.ntmps14 rfl rfl rfl (by simp [AV.ids, AV0.ids, Atom.ids]) rfl (fun w0 T B E0 hB => ?_)
        refine SX.go2 ?_
        refine retB ?_; exact decide_eq_true rfl
    · refine PureOK.fnF Tryd.func14 Tryd.results14 Tryd.ntmps14 rfl rfl rfl (by simp [AV.ids, AV0.ids, Atom.ids]) rfl (fun w0 T B E0 hB => ?_)
      refine SX.go2 ?_
      exact retB rfl
  · refine PureOK.fnF Tryd.func14 Tryd.results14 Tryd.ntmps14 rfl rfl rfl (by simp [AV.ids, AV0.ids, Atom.ids]) rfl (fun w0 T B E0 hB => ?_)
    refine SX.go2 ?_
    exact retB rfl
end Go.Proofs.YtkdonndeogihfaaDoor

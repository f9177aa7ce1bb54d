import Derived.Test.YtfhpmbenldgfnaaGreatDoorK17
import Derived.Test.YtfhpmbenldgfnaaGreatDoorK16
import Derived.Test.YtfhpmbenldgfnaaGreatDoorK10
import Derived.Test.YtfhpmbenldgfnaaGreatDoorK9
set_option linter.unusedVariables false
set_option linter.unusedSimpArgs false
namespace Go.Proofs.YtfhpmbenldgfnaaGreatDoor
open Go.RowKit QM SX LA
attribute [local irreducible] IntKind.wrap Go1 Reg WP thenK inBlk retQ retF RetF RetOK ResOK CallOK OpOK Sat
attribute [local irreducible] qsub qmul qquo qcmp qadd qv redS mf PrP qOk zOk vP fp64 lz
theorem con_formed1 (q : RawQ) (hq : (Sm WB q.2.1 ∧ Sm WB q.2.2.2) ∧ q.2.1.length ≤ 100000 ∧ q.2.2.2.length ≤ 100000) : PureOK Tryz.prog 150 [.agg (q4A (rq q))] (.v (.bool (!qOk q))) := by
  have c := con_Frac q hq.1 (by omega)
  refine PureOK.fnF Tryz.func150 Tryz.results150 Tryz.ntmps150 rfl rfl rfl (by simp [AV.ids, AV0.ids, Atom.ids]) rfl (fun w0 T B E0 hB => ?_)
  refine SX.goN ?_
  exact retB rfl
theorem con_formed2 (z : RawZ) (hz : Sm WB z.2 ∧ z.2.length ≤ 100000) : PureOK Tryz.prog 152 [.agg (z2A (rz z))] (.v (.bool (!zOk z))) := by
  have c := con_vWhole z (by omega)
  refine PureOK.fnF Tryz.func152 Tryz.results152 Tryz.ntmps152 rfl rfl rfl (by simp [AV.ids, AV0.ids, Atom.ids]) rfl (fun w0 T B E0 hB => ?_)
  refine SX.goN ?_
  exact retB rfl
theorem con_formed3 (v : Vl) (d : Int) (b : Bool) (hd : 0 < d) (hd2 : d ≤ 100) (c : PureOK Tryz.prog 72 [.agg (vlA v), .v (.int .i64 (d - 1))] (.v (.bool b))) : PureOK Tryz.prog 157 [.agg (vlA v), .r (ptrR [.val (.int .i64 d)])] (.v (.bool (!b))) := by
  refine PureOK.fnF Tryz.func157 Tryz.results157 Tryz.ntmps157 rfl rfl rfl (by simp [AV.ids, AV0.ids, Atom.ids]) rfl (fun w0 T B E0 hB => ?_)
  refine SX.goN ?_
  exact retB rfl
theorem qmF (r c : Int) {n : Nat} {cells : List CA} : PureOK Tryz.prog 88 [.agg [.c (.val (.int .i64 r)), .c (.val (.int .i64 c)), .c (.sat (sliceR 4 n cells))]] (.v (.bool (fp64 r c n))) := by
  unfold fp64
  exact (con_Formed r c).h trivial
section
variable (v : Vl) (d : Nat) (hz : vZ0 v)
include hz
theorem blank_c : PureOK Tryz.prog 147 [.agg (vlA v), .r (sliceR 1 1 [.val (.int .i64 v.k)])] (.v (.bool (decide (vP v = 0)))) := con_blank v hz
theorem con_formedP (hP : vP v ≠ 0) : PureOK Tryz.prog 72 [.agg (vlA v), .v (.int .i64 (d : Int))] (.v (.bool (vF d v))) := by
  have c := blank_c v hz
  rw [decide_eq_false hP] at c
  rw [vF_P hP]
  refine PureOK.fnF Tryz.func72 Tryz.results72 Tryz.ntmps72 rfl rfl rfl (by simp [AV.ids, AV0.ids, Atom.ids]) rfl (fun w0 T B E0 hB => ?_)
  refine SX.goN ?_
  exact retB rfl
theorem con_formedk1 (hP : vP v = 0) (hk : v.k = 1) : PureOK Tryz.prog 72 [.agg (vlA v), .v (.int .i64 (d : Int))] (.v (.bool (vF d v))) := by
  have c := blank_c v hz
  rw [decide_eq_true hP] at c
  rw [vF_1 hP hk]
  have cF := con_Frac v.q hz.q.1 (by have := hz.q.2; omega)
  refine PureOK.fnF Tryz.func72 Tryz.results72 Tryz.ntmps72 rfl rfl rfl (by simp [AV.ids, AV0.ids, Atom.ids]) rfl (fun w0 T B E0 hB => ?_)
  refine SX.goN ?_
  exact retB rfl
theorem con_formedk2 (hP : vP v = 0) (hk : v.k = 2) : PureOK Tryz.prog 72 [.agg (vlA v), .v (.int .i64 (d : Int))] (.v (.bool (vF d v))) := by
  have c := blank_c v hz
  rw [decide_eq_true hP] at c
  rw [vF_2 hP hk]
  have cA := con_AnyfQ v.a 150 (fun x => !qOk x) (fun x hx => con_formed1 x (hz.a x hx)) hz.al
  have cF := qmF v.r v.c (n := (v.a.map rq).length) (cells := (v.a.map rq).flatMap q4C)
  have hl : (v.a.map rq).length = v.a.length := List.length_map _
  unfold mOk
  rw [← hl, ← any_not]
  cases h : fp64 v.r v.c (v.a.map rq).length
  · rw [h] at cF
    refine PureOK.fnF Tryz.func72 Tryz.results72 Tryz.ntmps72 rfl rfl rfl (by simp [AV.ids, AV0.ids, Atom.ids]) rfl (fun w0 T B E0 hB => ?_)
    refine SX.goN ?_
    refine retB ?_; rw [Bool.and_false]
  · rw [h] at cF
    refine PureOK.fnF Tryz.func72 Tryz.results72 Tryz.ntmps72 rfl rfl rfl (by simp [AV.ids, AV0.ids, Atom.ids]) rfl (fun w0 T B E0 hB => ?_)
    refine SX.goN ?_
    refine retB ?_; rw [Bool.and_true]
theorem con_formedk3 (hP : vP v = 0) (hk : v.k = 3) : PureOK Tryz.prog 72 [.agg (vlA v), .v (.int .i64 (d : Int))] (.v (.bool (vF d v))) := by
  have c := blank_c v hz
  rw [decide_eq_true hP] at c
  rw [vF_3 hP hk]
  have cA := con_AnyfZ v.po 152 (fun x => !zOk x) (fun x hx => con_formed2 x (hz.po x hx)) hz.pol
  have hl : (v.po.map rz).length = v.po.length := List.length_map _
  have hb := hz.pol
  unfold pOk lz
  rw [← any_not]
  by_cases h0 : v.po.length = 0
  · rw [decide_eq_true h0, Bool.true_or, Bool.and_true]
    refine PureOK.fnF Tryz.func72 Tryz.results72 Tryz.ntmps72 rfl rfl rfl (by simp [AV.ids, AV0.ids, Atom.ids]) rfl (fun w0 T B E0 hB => ?_)
    refine SX.goN ?_
    exact retB rfl
  · obtain ⟨x, hx⟩ : ∃ x, v.po[v.po.length - 1]? = some x := ⟨_, List.getElem?_eq_getElem (by omega)⟩
    have hq : (v.po.map rz)[(v.po.map rz).length - 1]? = some (rz x) := by rw [hl, List.getElem?_map, hx]; rfl
    have hg : v.po.getD (v.po.length - 1) (false, []) = x := by rw [List.getD_eq_getElem?_getD, hx]; rfl
    have hax := hz.po x (List.mem_of_getElem? hx)
    have cS := (con_zSign (h := ZI.raw x.1 x.2)).h (show x.2.length ≤ 1099511627775 by omega)
    have hs0 : isign (rzv x) = 0 ↔ rzv x = 0 := by unfold isign; (repeat' split) <;> omega
    change PureOK _ _ _ (.v (.int .i64 (isign (rzv x)))) at cS
    rw [hg, decide_eq_false h0, Bool.false_or]
    by_cases h1 : rzv x = 0
    · have h2 : isign (rzv x) = 0 := hs0.2 h1
      rw [decide_eq_false (fun e => e h1), Bool.and_false]
      refine PureOK.fnF Tryz.func72 Tryz.results72 Tryz.ntmps72 rfl rfl rfl (by simp [AV.ids, AV0.ids, Atom.ids]) rfl (fun w0 T B E0 hB => ?_)
      refine SX.goN ?_
      exact retB rfl
    · have h2 : ¬ isign (rzv x) = 0 := fun e => h1 (hs0.1 e)
      rw [decide_eq_true h1, Bool.and_true]
      refine PureOK.fnF Tryz.func72 Tryz.results72 Tryz.ntmps72 rfl rfl rfl (by simp [AV.ids, AV0.ids, Atom.ids]) rfl (fun w0 T B E0 hB => ?_)
      refine SX.goN ?_
      exact retB rfl
theorem con_formedk4 (hP : vP v = 0) (hk : v.k = 4) : PureOK Tryz.prog 72 [.agg (vlA v), .v (.int .i64 (d : Int))] (.v (.bool (vF d v))) := by
  have c := blank_c v hz
  rw [decide_eq_true hP] at c
  rw [vF_4 hP hk]
  have cB := con_below v v.fa hz.p hz.fal
  have cF : PureOK Tryz.prog 154 [.agg [.c (.val (.int .i64 v.fr)), .c (.val (.int .i64 v.fc)), .c (.sat (rowR 1 wdC v.fa))]] (.v (.bool (fp64 v.fr v.fc v.fa.length))) := con_fFormed v.fr v.fc
  unfold fOk
  cases h : fp64 v.fr v.fc v.fa.length
  · rw [h] at cF
    refine PureOK.fnF Tryz.func72 Tryz.results72 Tryz.ntmps72 rfl rfl rfl (by simp [AV.ids, AV0.ids, Atom.ids]) rfl (fun w0 T B E0 hB => ?_)
    refine SX.goN ?_
    refine retB ?_; rw [Bool.and_false, Bool.and_false]
  · rw [h] at cF
    refine PureOK.fnF Tryz.func72 Tryz.results72 Tryz.ntmps72 rfl rfl rfl (by simp [AV.ids, AV0.ids, Atom.ids]) rfl (fun w0 T B E0 hB => ?_)
    refine SX.goN ?_
    refine retB ?_; rw [Bool.and_true]
theorem con_formedk5 (hP : vP v = 0) (hk : v.k = 5) : PureOK Tryz.prog 72 [.agg (vlA v), .v (.int .i64 (d : Int))] (.v (.bool (vF d v))) := by
  have c := blank_c v hz
  rw [decide_eq_true hP] at c
  rw [vF_5 hP hk]
  have cB := con_below v v.ri hz.p hz.ril
  have hb := hz.ril
  unfold rOk lw
  rw [← Bool.and_assoc]
  generalize (decide (PrP v.p) && v.ri.all (ltp v.p)) = b at cB ⊢
  cases b
  · refine PureOK.fnF Tryz.func72 Tryz.results72 Tryz.ntmps72 rfl rfl rfl (by simp [AV.ids, AV0.ids, Atom.ids]) rfl (fun w0 T B E0 hB => ?_)
    refine SX.goN ?_
    exact retB rfl
  · by_cases h0 : v.ri.length = 0
    · rw [decide_eq_true h0]
      refine PureOK.fnF Tryz.func72 Tryz.results72 Tryz.ntmps72 rfl rfl rfl (by simp [AV.ids, AV0.ids, Atom.ids]) rfl (fun w0 T B E0 hB => ?_)
      refine SX.goN ?_
      exact retB rfl
    · obtain ⟨x, hx⟩ : ∃ x, v.ri[v.ri.length - 1]? = some x := ⟨_, List.getElem?_eq_getElem (by omega)⟩
      have hg : v.ri.getD (v.ri.length - 1) 0 = x := by rw [List.getD_eq_getElem?_getD, hx]; rfl
      rw [hg, decide_eq_false h0, Bool.false_or, Bool.true_and]
      refine PureOK.fnF Tryz.func72 Tryz.results72 Tryz.ntmps72 rfl rfl rfl (by simp [AV.ids, AV0.ids, Atom.ids]) rfl (fun w0 T B E0 hB => ?_)
      refine SX.goN ?_
      refine retB ?_; rw [decide_eq_decide]; omega
theorem con_formedk6 (hP : vP v = 0) (hk : v.k = 6) (hd : d ≤ 20) (hr : ∀ e, d = e + 1 → ∀ x ∈ v.li, PureOK Tryz.prog 72 [.agg (vlA x), .v (.int .i64 (e : Int))] (.v (.bool (vF e x)))) : PureOK Tryz.prog 72 [.agg (vlA v), .v (.int .i64 (d : Int))] (.v (.bool (vF d v))) := by
  have c := blank_c v hz
  rw [decide_eq_true hP] at c
  cases d with
  | zero =>
    rw [vF_60 hk]
    refine PureOK.fnF Tryz.func72 Tryz.results72 Tryz.ntmps72 rfl rfl rfl (by simp [AV.ids, AV0.ids, Atom.ids]) rfl (fun w0 T B E0 hB => ?_)
    refine SX.goN ?_
    refine SX.WP.freezeB 3 hB rfl rfl ?_
    refine SX.WP.regionL ?_
    refine SX.goN ?_
    exact retB rfl
  | succ e =>
    rw [vF_6 hP hk, ← any_not]
    have cA := con_AnyV v.li (.sat (cloR 157 [] [.sat (ptrR [.val (.int .i64 ((e + 1 : Nat) : Int))])])) (fun x => !vF e x) (fun x hx => FnV.clo (con_formed3 x ((e + 1 : Nat) : Int) (vF e x) (by omega) (by omega) (by
      rw [show ((e + 1 : Nat) : Int) - 1 = (e : Int) by omega]; exact hr e rfl x hx))) hz.lil rfl
    refine PureOK.fnF Tryz.func72 Tryz.results72 Tryz.ntmps72 rfl rfl rfl (by simp [AV.ids, AV0.ids, Atom.ids]) rfl (fun w0 T B E0 hB => ?_)
    refine SX.goN ?_
    refine SX.WP.freezeB 3 hB rfl rfl ?_
    refine SX.WP.regionL ?_
    refine SX.goN ?_
    exact retB rfl
theorem con_formedk7 (hP : vP v = 0) (hk : v.k ≠ 1 ∧ v.k ≠ 2 ∧ v.k ≠ 3 ∧ v.k ≠ 4 ∧ v.k ≠ 5 ∧ v.k ≠ 6) : PureOK Tryz.prog 72 [.agg (vlA v), .v (.int .i64 (d : Int))] (.v (.bool (vF d v))) := by
  have c := blank_c v hz
  rw [decide_eq_true hP] at c
  rw [vF_7 hk]
  refine PureOK.fnF Tryz.func72 Tryz.results72 Tryz.ntmps72 rfl rfl rfl (by simp [AV.ids, AV0.ids, Atom.ids]) rfl (fun w0 T B E0 hB => ?_)
  refine SX.goN ?_
  exact retB rfl
end
theorem con_formed : ∀ (n d : Nat) (v : Vl), vZ n v → d ≤ 20 → PureOK Tryz.prog 72 [.agg (vlA v), .v (.int .i64 (d : Int))] (.v (.bool (vF d v))) := by
  intro n
  induction n with
  | zero =>
    intro d v hv hd
    by_cases hP : vP v = 0
    · have hk : v.k = 1 ∨ v.k = 2 ∨ v.k = 3 ∨ v.k = 4 ∨ v.k = 5 ∨ v.k = 6 ∨ (v.k ≠ 1 ∧ v.k ≠ 2 ∧ v.k ≠ 3 ∧ v.k ≠ 4 ∧ v.k ≠ 5 ∧ v.k ≠ 6) := by omega
      rcases hk with hk | hk | hk | hk | hk | hk | hk
      · exact con_formedk1 v d hv.z hP hk
      · exact con_formedk2 v d hv.z hP hk
      · exact con_formedk3 v d hv.z hP hk
      · exact con_formedk4 v d hv.z hP hk
      · exact con_formedk5 v d hv.z hP hk
      · exact con_formedk6 v d hv.z hP hk hd fun e _ x hx => by rw [hv.2] at hx; cases hx
      · exact con_formedk7 v d hv.z hP hk
    · exact con_formedP v d hv.z hP
  | succ n ih =>
    intro d v hv hd
    by_cases hP : vP v = 0
    · have hk : v.k = 1 ∨ v.k = 2 ∨ v.k = 3 ∨ v.k = 4 ∨ v.k = 5 ∨ v.k = 6 ∨ (v.k ≠ 1 ∧ v.k ≠ 2 ∧ v.k ≠ 3 ∧ v.k ≠ 4 ∧ v.k ≠ 5 ∧ v.k ≠ 6) := by omega
      rcases hk with hk | hk | hk | hk | hk | hk | hk
      · exact con_formedk1 v d hv.z hP hk
      · exact con_formedk2 v d hv.z hP hk
      · exact con_formedk3 v d hv.z hP hk
      · exact con_formedk4 v d hv.z hP hk
      · exact con_formedk5 v d hv.z hP hk
      · exact con_formedk6 v d hv.z hP hk hd fun e he x hx => ih e x (hv.2 x hx) (by omega)
      · exact con_formedk7 v d hv.z hP hk
    · exact con_formedP v d hv.z hP
theorem con_vFormed {n : Nat} {v : Vl} (hv : vZ n v) : PureOK Tryz.prog 28 [.agg (vlA v)] (.v (.bool (vF 20 v))) := by
  have c := con_formed n 20 v hv (Nat.le_refl _)
  refine PureOK.fnF Tryz.func28 Tryz.results28 Tryz.ntmps28 rfl rfl rfl (by simp [AV.ids, AV0.ids, Atom.ids]) rfl (fun w0 T B E0 hB => ?_)
  refine SX.goN ?_
  exact retB rfl
end Go.Proofs.YtfhpmbenldgfnaaGreatDoor
set_option linter.unusedVariables false
set_option linter.unusedSimpArgs false
namespace Go.Proofs.YtfhpmbenldgfnaaGreatDoor
open Go.RowKit QM SX LA
abbrev vlB (v : Vl) : List Atom := [.c (.val (.int .i64 v.k)), .c (.val (.bool v.q.1)), .c (.sat (rawN v.q.2.1)), .c (.val (.bool v.q.2.2.1)), .c (.sat (rawN v.q.2.2.2)), .c (.val (.int .i64 v.r)), .c (.val (.int .i64 v.c)), .c (.sat (rowR 4 q4C (v.a.map rq))), .c (.sat (rowR 2 z2C (v.po.map rz))), .c (.val (.int .u64 (v.p : Int))), .c (.val (.int .i64 v.fr)), .c (.val (.int .i64 v.fc)), .c (.sat (rowR 1 wdC v.fa)), .c (.sat (rowR 1 wdC v.ri)), .c (.sat (rowR 15 vlE v.li))]
theorem vlA_B (v : Vl) : vlA v = vlB v := by unfold vlA vlB; rw [row_vlE]
attribute [local irreducible] IntKind.wrap Go1 Reg WP thenK inBlk retQ retF RetF RetOK ResOK CallOK OpOK Sat
attribute [local irreducible] qsub qmul qquo qcmp qadd qv redS mf PrP qOk zOk vP fp64 lz
section
variable (v : Vl) (d : Nat) (hz : vZ0 v)
include hz
omit hz in
theorem con_rFP (hP : vP v ≠ 0) : PureOK Tryz.prog 49 [.agg (vlA v), .v (.int .i64 (d : Int))] (.v (.bool (vF d v))) := by
  have c := con_Parts v
  rw [vF_P hP]
  refine PureOK.fnF Tryz.func49 Tryz.results49 Tryz.ntmps49 rfl rfl rfl (by simp [AV.ids, AV0.ids, Atom.ids]) rfl (fun w0 T B E0 hB => ?_)
  refine SX.goN ?_
  exact retB rfl
theorem con_rFk1 (hP : vP v = 0) (hk : v.k = 1) : PureOK Tryz.prog 49 [.agg (vlA v), .v (.int .i64 (d : Int))] (.v (.bool (vF d v))) := by
  have c := con_Parts v
  rw [hP] at c
  rw [vF_1 hP hk]
  have cF := con_Nrm v.q hz.q.1 (by have := hz.q.2; omega)
  refine PureOK.fnF Tryz.func49 Tryz.results49 Tryz.ntmps49 rfl rfl rfl (by simp [AV.ids, AV0.ids, Atom.ids]) rfl (fun w0 T B E0 hB => ?_)
  refine SX.goN ?_
  exact retB rfl
theorem con_rFk2 (hP : vP v = 0) (hk : v.k = 2) : PureOK Tryz.prog 49 [.agg (vlA v), .v (.int .i64 (d : Int))] (.v (.bool (vF d v))) := by
  have c := con_Parts v
  rw [hP] at c
  rw [vF_2 hP hk]
  have cF := con_Normal13 v.r v.c v.a hz.al hz.a
  refine PureOK.fnF Tryz.func49 Tryz.results49 Tryz.ntmps49 rfl rfl rfl (by simp [AV.ids, AV0.ids, Atom.ids]) rfl (fun w0 T B E0 hB => ?_)
  refine SX.goN ?_
  exact retB rfl
theorem con_rFk3 (hP : vP v = 0) (hk : v.k = 3) : PureOK Tryz.prog 49 [.agg (vlA v), .v (.int .i64 (d : Int))] (.v (.bool (vF d v))) := by
  have c := con_Parts v
  rw [hP] at c
  rw [vF_3 hP hk]
  have cF := con_Normal10 v.po hz.pol hz.po
  refine PureOK.fnF Tryz.func49 Tryz.results49 Tryz.ntmps49 rfl rfl rfl (by simp [AV.ids, AV0.ids, Atom.ids]) rfl (fun w0 T B E0 hB => ?_)
  refine SX.goN ?_
  exact retB rfl
theorem con_rFk4 (hP : vP v = 0) (hk : v.k = 4) : PureOK Tryz.prog 49 [.agg (vlA v), .v (.int .i64 (d : Int))] (.v (.bool (vF d v))) := by
  have c := con_Parts v
  rw [hP] at c
  rw [vF_4 hP hk]
  have cF := con_Normal21 v.fr v.fc v.fa v.p hz.fal
  have cP := con_PrimeR v.p (by have := hz.p; rw [WB_eq] at this; exact this)
  by_cases h : PrP v.p
  · rw [decide_eq_true h] at cP ⊢
    refine PureOK.fnF Tryz.func49 Tryz.results49 Tryz.ntmps49 rfl rfl rfl (by simp [AV.ids, AV0.ids, Atom.ids]) rfl (fun w0 T B E0 hB => ?_)
    refine SX.goN ?_
    exact retB rfl
  · rw [decide_eq_false h] at cP ⊢
    refine PureOK.fnF Tryz.func49 Tryz.results49 Tryz.ntmps49 rfl rfl rfl (by simp [AV.ids, AV0.ids, Atom.ids]) rfl (fun w0 T B E0 hB => ?_)
    refine SX.goN ?_
    exact retB rfl
theorem con_rFk5 (hP : vP v = 0) (hk : v.k = 5) : PureOK Tryz.prog 49 [.agg (vlA v), .v (.int .i64 (d : Int))] (.v (.bool (vF d v))) := by
  have c := con_Parts v
  rw [hP] at c
  rw [vF_5 hP hk]
  have cP := con_PrimeR v.p (by have := hz.p; rw [WB_eq] at this; exact this)
  have hb := hz.ril
  unfold rOk
  refine PureOK.fnF Tryz.func49 Tryz.results49 Tryz.ntmps49 rfl rfl rfl (by simp [AV.ids, AV0.ids, Atom.ids]) rfl (fun w0 T B E0 hB => ?_)
  refine SX.goN ?_
  refine W.loop (fun k => k ≤ v.ri.length ∧ ∀ (j : Nat) x, j < k → v.ri[j]? = some x → ltp v.p x = true) (fun k => [(2, .ptr 2 0), (5, .v (.int .i64 (k : Int)))]) (fun k => [(2, .box 39 (vlA v))]) (fun k => v.ri.length - k) 0 ⟨Nat.zero_le _, fun j x h => by omega⟩ (fun k ⟨hk, he⟩ => ?_)
  by_cases h : k < v.ri.length
  · obtain ⟨x, hx⟩ : ∃ x, v.ri[k]? = some x := ⟨_, List.getElem?_eq_getElem h⟩
    by_cases ho : x < v.p
    · refine SX.goN ?_
      refine W.next (k + 1) ⟨h, fun j y hj hy => ?_⟩ (by omega)
      by_cases hjk : j < k
      · exact he j y hjk hy
      · obtain rfl : j = k := by omega
        rw [hx] at hy; rw [← Option.some.inj hy]; exact decide_eq_true ho
    · refine SX.goN ?_
      refine retB ?_; rw [all_no hx (decide_eq_false ho), Bool.false_and, Bool.and_false]
  · obtain rfl : k = v.ri.length := by omega
    rw [all_yes he, Bool.true_and]
    by_cases hp : PrP v.p
    · rw [decide_eq_true hp] at cP ⊢
      unfold lw
      by_cases h0 : v.ri.length = 0
      · rw [decide_eq_true h0]
        refine SX.goN ?_
        exact retB rfl
      · obtain ⟨x, hx⟩ : ∃ x, v.ri[v.ri.length - 1]? = some x := ⟨_, List.getElem?_eq_getElem (by omega)⟩
        have hg : v.ri.getD (v.ri.length - 1) 0 = x := by rw [List.getD_eq_getElem?_getD, hx]; rfl
        rw [hg, decide_eq_false h0, Bool.false_or, Bool.true_and]
        refine SX.goN ?_
        refine retB ?_; rw [decide_eq_decide]; omega
    · rw [decide_eq_false hp] at cP ⊢
      refine SX.goN ?_
      exact retB rfl
theorem con_rFk6 (hP : vP v = 0) (hk : v.k = 6) (hd : d ≤ 20) (hr : ∀ e, d = e + 1 → ∀ x ∈ v.li, PureOK Tryz.prog 49 [.agg (vlA x), .v (.int .i64 (e : Int))] (.v (.bool (vF e x)))) : PureOK Tryz.prog 49 [.agg (vlA v), .v (.int .i64 (d : Int))] (.v (.bool (vF d v))) := by
  have c := con_Parts v
  rw [hP] at c
  have hb := hz.lil
  rw [vlA_B] at c ⊢
  cases d with
  | zero =>
    rw [vF_60 hk]
    refine PureOK.fnF Tryz.func49 Tryz.results49 Tryz.ntmps49 rfl rfl rfl (by simp [AV.ids, AV0.ids, Atom.ids]) rfl (fun w0 T B E0 hB => ?_)
    refine SX.goN ?_
    refine W.loop (fun k : Nat => k = 0) (fun k => [(1, .v (.int .i64 0)), (2, .ptr 2 0), (6, .v (.int .i64 (k : Int)))]) (fun k => [(2, .box 39 (vlB v))]) (fun k => k) 0 rfl (fun k hk => ?_)
    subst hk
    by_cases h : 0 < v.li.length
    · refine SX.goN ?_
      exact retB rfl
    · refine SX.goN ?_
      exact retB rfl
  | succ e =>
    rw [vF_6 hP hk]
    refine PureOK.fnF Tryz.func49 Tryz.results49 Tryz.ntmps49 rfl rfl rfl (by simp [AV.ids, AV0.ids, Atom.ids]) rfl (fun w0 T B E0 hB => ?_)
    refine SX.goN ?_
    refine W.loop (fun k => k ≤ v.li.length ∧ ∀ (j : Nat) x, j < k → v.li[j]? = some x → vF e x = true) (fun k => [(1, .v (.int .i64 ((e + 1 : Nat) : Int))), (2, .ptr 2 0), (6, .v (.int .i64 (k : Int)))]) (fun k => [(2, .box 39 (vlB v))]) (fun k => v.li.length - k) 0 ⟨Nat.zero_le _, fun j x h => by omega⟩ (fun k ⟨hk, he⟩ => ?_)
    by_cases h : k < v.li.length
    · obtain ⟨x, hx⟩ : ∃ x, v.li[k]? = some x := ⟨_, List.getElem?_eq_getElem h⟩
      have cE := hr e rfl x (List.mem_of_getElem? hx)
      rw [show (e : Int) = ((e + 1 - 1 : Nat) : Int) by omega] at cE
      cases ho : vF e x with
      | true =>
        rw [ho] at cE
        refine SX.goN ?_
        refine W.next (k + 1) ⟨h, fun j y hj hy => ?_⟩ (by omega)
        by_cases hjk : j < k
        · exact he j y hjk hy
        · obtain rfl : j = k := by omega
          rw [hx] at hy; rw [← Option.some.inj hy]; exact ho
      | false =>
        rw [ho] at cE
        refine SX.goN ?_
        refine retB ?_; rw [all_no hx ho]
    · obtain rfl : k = v.li.length := by omega
      rw [all_yes he]
      refine SX.goN ?_
      refine retB ?_; exact decide_eq_true (by omega)
omit hz in
theorem con_rFk7 (hP : vP v = 0) (hk : v.k ≠ 1 ∧ v.k ≠ 2 ∧ v.k ≠ 3 ∧ v.k ≠ 4 ∧ v.k ≠ 5 ∧ v.k ≠ 6) : PureOK Tryz.prog 49 [.agg (vlA v), .v (.int .i64 (d : Int))] (.v (.bool (vF d v))) := by
  have c := con_Parts v
  rw [hP] at c
  rw [vF_7 hk]
  refine PureOK.fnF Tryz.func49 Tryz.results49 Tryz.ntmps49 rfl rfl rfl (by simp [AV.ids, AV0.ids, Atom.ids]) rfl (fun w0 T B E0 hB => ?_)
  refine SX.goN ?_
  exact retB rfl
end
theorem con_rFormed29 : ∀ (n d : Nat) (v : Vl), vZ n v → d ≤ 20 → PureOK Tryz.prog 49 [.agg (vlA v), .v (.int .i64 (d : Int))] (.v (.bool (vF d v))) := by
  intro n
  induction n with
  | zero =>
    intro d v hv hd
    by_cases hP : vP v = 0
    · have hk : v.k = 1 ∨ v.k = 2 ∨ v.k = 3 ∨ v.k = 4 ∨ v.k = 5 ∨ v.k = 6 ∨ (v.k ≠ 1 ∧ v.k ≠ 2 ∧ v.k ≠ 3 ∧ v.k ≠ 4 ∧ v.k ≠ 5 ∧ v.k ≠ 6) := by omega
      rcases hk with hk | hk | hk | hk | hk | hk | hk
      · exact con_rFk1 v d hv.z hP hk
      · exact con_rFk2 v d hv.z hP hk
      · exact con_rFk3 v d hv.z hP hk
      · exact con_rFk4 v d hv.z hP hk
      · exact con_rFk5 v d hv.z hP hk
      · exact con_rFk6 v d hv.z hP hk hd fun e _ x hx => by rw [hv.2] at hx; cases hx
      · exact con_rFk7 v d hP hk
    · exact con_rFP v d hP
  | succ n ih =>
    intro d v hv hd
    by_cases hP : vP v = 0
    · have hk : v.k = 1 ∨ v.k = 2 ∨ v.k = 3 ∨ v.k = 4 ∨ v.k = 5 ∨ v.k = 6 ∨ (v.k ≠ 1 ∧ v.k ≠ 2 ∧ v.k ≠ 3 ∧ v.k ≠ 4 ∧ v.k ≠ 5 ∧ v.k ≠ 6) := by omega
      rcases hk with hk | hk | hk | hk | hk | hk | hk
      · exact con_rFk1 v d hv.z hP hk
      · exact con_rFk2 v d hv.z hP hk
      · exact con_rFk3 v d hv.z hP hk
      · exact con_rFk4 v d hv.z hP hk
      · exact con_rFk5 v d hv.z hP hk
      · exact con_rFk6 v d hv.z hP hk hd fun e he x hx => ih e x (hv.2 x hx) (by omega)
      · exact con_rFk7 v d hP hk
    · exact con_rFP v d hP
theorem con_is {n : Nat} {v : Vl} (hv : vZ n v) : PureOK Tryz.prog 14 [.agg (vlA v)] (.v (.bool (vF 20 v))) := by
  have c := con_rFormed29 n 20 v hv (Nat.le_refl _)
  refine PureOK.fnF Tryz.func14 Tryz.results14 Tryz.ntmps14 rfl rfl rfl (by simp [AV.ids, AV0.ids, Atom.ids]) rfl (fun w0 T B E0 hB => ?_)
  refine SX.goN ?_
  exact retB rfl
theorem con_none0 : PureOK Tryz.prog 15 [.agg (vlA v0)] (.v (.bool true)) := by
  have c := con_Parts v0
  rw [show vP v0 = 0 by decide +kernel] at c
  refine PureOK.fnF Tryz.func15 Tryz.results15 Tryz.ntmps15 rfl rfl rfl (by simp [AV.ids, AV0.ids, Atom.ids]) rfl (fun w0 T B E0 hB => ?_)
  refine SX.goN ?_
  exact retB rfl
end Go.Proofs.YtfhpmbenldgfnaaGreatDoor
set_option linter.unusedVariables false
set_option linter.unusedSimpArgs false
namespace Go.Proofs.YtfhpmbenldgfnaaGreatDoor
open Go.RowKit QM SX LA
theorem vZ0.num {v : Rat} {K : Nat} (h : RB v K) (hK : K ≤ 100000) : vZ0 (vNum v) where
  q := ⟨cq_sm v, Nat.le_trans (wds_len h.n) hK, Nat.le_trans (wds_len (by rw [Int.natAbs_natCast]; exact h.d)) hK⟩
  a := by intro x hx; cases hx
  al := Nat.zero_le _
  po := by intro x hx; cases hx
  pol := Nat.zero_le _
  p := WB_pos
  fa := by intro x hx; cases hx
  fal := Nat.zero_le _
  ri := by intro x hx; cases hx
  ril := Nat.zero_le _
  lil := Nat.zero_le _
theorem vZ.num {v : Rat} {K : Nat} (h : RB v K) (hK : K ≤ 100000) : vZ 0 (vNum v) := ⟨vZ0.num h hK, rfl⟩
theorem vP_num (v : Rat) : vP (vNum v) = 0 := (vP0 _).2 ⟨.inl rfl, .inr ⟨rfl, rfl, rfl⟩, .inr rfl, .inr ⟨rfl, rfl, rfl⟩, .inr rfl, .inr (.inr rfl), .inr rfl⟩
theorem vF_num (d : Nat) (v : Rat) : vF d (vNum v) = true := by
  rw [vF_1 (vP_num v) rfl]
  exact (qOk_iff (cq_sm v)).2 (by rw [cq_val])
theorem rmk_q (p q : Int) : rmk p q = ((qv p q).num, ((qv p q).den : Int)) := by
  have h2 : Nat.Coprime (qv p q).num.natAbs (qv p q).den := (qv p q).reduced
  have hd := (qv p q).den_nz
  have := Rd.uniq (rmk_pos p q) (rmk_gcd p q) (r := (qv p q).num) (s := ((qv p q).den : Int)) (by omega) (by unfold Int.gcd; rw [Int.natAbs_natCast]; exact h2) (by rw [rmk_val, qv_self])
  exact Prod.ext this.1 this.2
theorem cq_val' (x : Rat) : qv (sgn (cq x).1 (nval WB (cq x).2.1)) (sgn (cq x).2.2.1 (nval WB (cq x).2.2.2)) = x := cq_val x
def qS (v : Rat) : List UInt8 := rS (v.num, (v.den : Int))
def qB (v : Rat) : Nat := max (bitLen v.num.natAbs) (bitLen v.den)
attribute [local irreducible] IntKind.wrap Go1 Reg WP thenK inBlk retQ retF RetF RetOK ResOK CallOK OpOK Sat
attribute [local irreducible] qsub qmul qquo qcmp qadd qv redS mf PrP qOk zOk vP fp64 lz vF cq rqv
theorem con_rBits' {x0 x1 x2 x3 : Atom} {p q : Int} {k m : Nat} [h : ZI [x0, x1] p k] [h' : ZI [x2, x3] q m] (hk : k + m ≤ 1000000) : PureOK Tryz.prog 158 [.agg [x0, x1, x2, x3]] (.v (.int .i64 ((max (bitLen (rmk p q).1.natAbs) (bitLen (rmk p q).2.natAbs) : Nat) : Int))) := by
  refine q1 ⟨_, Tryz.func158, rfl, rfl⟩ fun neg n neg2 n2 hz hz2 hn hn2 => ?_
  subst hz; subst hz2
  refine PureOK.fnF Tryz.func158 Tryz.results158 Tryz.ntmps158 rfl rfl rfl (by simp [AV.ids, AV0.ids, Atom.ids]) rfl (fun w0 T B E0 hB => ?_)
  refine SX.go2 ?_
  exact retI rfl
theorem con_rBits {q : RawQ} (hk : q.2.1.length + q.2.2.2.length ≤ 1000000) : PureOK Tryz.prog 158 [.agg (q4A (rq q))] (.v (.int .i64 (qB (rqv q) : Int))) := by
  have h := con_rBits' (h := ZI.raw q.1 q.2.1) (h' := ZI.raw q.2.2.1 q.2.2.2) hk
  rw [rmk_q] at h
  dsimp only at h
  rw [Int.natAbs_natCast] at h
  unfold rqv qB
  exact h
theorem con_numT (v : Rat) (e : Int) : PureOK Tryz.prog 107 [.agg (qA v), .v (.bool true), .v (.int .i64 e)] (.tup [.agg (vlA (vNum v)), eNo 0]) := by
  refine PureOK.fnF Tryz.func107 Tryz.results107 Tryz.ntmps107 rfl rfl rfl (by simp [AV.ids, AV0.ids, Atom.ids]) rfl (fun w0 T B E0 hB => ?_)
  refine SX.goN ?_
  refine .ok (RetOK.mk2 ((ResOK.agg15 rfl rfl rfl).imp ?_) (ResOK.tmp rfl))
  exact imp_num
theorem con_numF (v : Rat) (e : Int) : PureOK Tryz.prog 107 [.agg (qA v), .v (.bool false), .v (.int .i64 e)] (.tup [.agg (vlA v0), eNo e]) := by
  refine PureOK.fnF Tryz.func107 Tryz.results107 Tryz.ntmps107 rfl rfl rfl (by simp [AV.ids, AV0.ids, Atom.ids]) rfl (fun w0 T B E0 hB => ?_)
  refine SX.goN ?_
  refine .ok (RetOK.mk2 ((ResOK.agg15 rfl rfl rfl).imp ?_) (ResOK.tmp rfl))
  exact imp_none
theorem con_sum1 {x y : Rat} {K L : Nat} (hx : RB x K) (hy : RB y L) (hK : K + L ≤ 1000000) : PureOK Tryz.prog 47 [.agg (vlA (vNum x)), .agg (vlA (vNum y))] (.tup [.agg (vlA (vNum (x + y))), eNo 0]) := by
  haveI := Ra.cq hx
  haveI := Ra.cq hy
  obtain ⟨X, cA, hX⟩ := eAdd (q4A (rq (cq x))) (q4A (rq (cq y))) (K := K) (K' := L) (by omega)
  have e := hX.nf
  subst e
  have cN := con_numT (x + y) 0
  refine PureOK.fnF Tryz.func47 Tryz.results47 Tryz.ntmps47 rfl rfl rfl (by simp [AV.ids, AV0.ids, Atom.ids]) rfl (fun w0 T B E0 hB => ?_)
  refine SX.goN ?_
  exact .ok (RetOK.mk2 (ResOK.agg15 rfl rfl rfl) (ResOK.tmp rfl))
theorem con_vsame1 {x y : Rat} {K L : Nat} (hx : RB x K) (hy : RB y L) (hK : K + L ≤ 400000) : PureOK Tryz.prog 42 [.agg (vlA (vNum x)), .agg (vlA (vNum y))] (.v (.bool (decide (x = y)))) := by
  haveI := Ra.cq hx
  haveI := Ra.cq hy
  obtain ⟨z, cA, hz, _⟩ := eCmp (q4A (rq (cq x))) (q4A (rq (cq y))) (K := K) (K' := L) (by omega)
  rw [← decide_eq_decide.2 hz]
  refine PureOK.fnF Tryz.func42 Tryz.results42 Tryz.ntmps42 rfl rfl rfl (by simp [AV.ids, AV0.ids, Atom.ids]) rfl (fun w0 T B E0 hB => ?_)
  refine SX.goN ?_
  exact retB rfl
theorem con_Bin41 {x y : Rat} {K L : Nat} (hx : RB x K) (hy : RB y L) (hK : K + L ≤ 100000) : PureOK Tryz.prog 13 [.v (.int .i64 4), .agg (vlA (vNum x)), .agg (vlA (vNum y))] (.tup [.agg (vlA (vNum (x + y))), eNo 0]) := by
  have c := con_sum1 hx hy (by omega)
  have c1 := con_vFormed (vZ.num hx (by omega))
  have c2 := con_vFormed (vZ.num hy (by omega))
  rw [vF_num] at c1 c2
  refine PureOK.fnF Tryz.func13 Tryz.results13 Tryz.ntmps13 rfl rfl rfl (by simp [AV.ids, AV0.ids, Atom.ids]) rfl (fun w0 T B E0 hB => ?_)
  refine SX.goN ?_
  exact .ok (RetOK.mk2 (ResOK.agg15 rfl rfl rfl) (ResOK.tmp rfl))
theorem con_rPr {x : Rat} {K : Nat} (hx : RB x K) (hK : K ≤ 100000) : PureOK Tryz.prog 51 [.agg (q4A (rq (cq x)))] (.v (str (qS x))) := by
  have hl := (vZ0.num hx hK).q.2
  dsimp only at hl
  have h := (con_rPrint (h := ZI.raw (cq x).1 (cq x).2.1) (h' := ZI.raw (cq x).2.2.1 (cq x).2.2.2)).h (by omega)
  rw [rmk_q] at h
  rw [cq_val'] at h
  exact h
theorem con_text1 {x : Rat} {K : Nat} (hx : RB x K) (hK : K ≤ 100000) : PureOK Tryz.prog 71 [.agg (vlA (vNum x))] (.v (str (qS x))) := by
  have c := con_rPr hx hK
  refine PureOK.fnF Tryz.func71 Tryz.results71 Tryz.ntmps71 rfl rfl rfl (by simp [AV.ids, AV0.ids, Atom.ids]) rfl (fun w0 T B E0 hB => ?_)
  refine SX.goN ?_
  exact retS rfl
theorem con_Print1 {x : Rat} {K : Nat} (hx : RB x K) (hK : K ≤ 100000) : PureOK Tryz.prog 27 [.agg (vlA (vNum x))] (.tup [.one (.c (.val (str (qS x)))), eNo 0]) := by
  have c := con_text1 hx hK
  have c1 := con_vFormed (vZ.num hx hK)
  rw [vF_num] at c1
  refine PureOK.fnF Tryz.func27 Tryz.results27 Tryz.ntmps27 rfl rfl rfl (by simp [AV.ids, AV0.ids, Atom.ids]) rfl (fun w0 T B E0 hB => ?_)
  refine SX.goN ?_
  exact .ok (RetOK.mk2 (ResOK.tmp rfl) (ResOK.tmp rfl))
theorem con_bits1 {x : Rat} {K : Nat} (hx : RB x K) (hK : K ≤ 100000) : PureOK Tryz.prog 73 [.agg (vlA (vNum x))] (.v (.int .i64 (qB x : Int))) := by
  have cO := nOf' 0 (by decide) (by decide)
  have cB : PureOK Tryz.prog 89 [.r (nrmN (0 : Int).natAbs)] (.v (.int .i64 0)) := by
    haveI : BdN 0 1 := ⟨by rw [WB_eq]; decide⟩
    exact (con_nBits (a := .sat (nrmN 0))).h (by decide)
  have c := con_rBits (q := cq x) (by have := (vZ0.num hx hK).q.2; dsimp only at this; omega)
  rw [cq_val] at c
  refine PureOK.fnF Tryz.func73 Tryz.results73 Tryz.ntmps73 rfl rfl rfl (by simp [AV.ids, AV0.ids, Atom.ids]) rfl (fun w0 T B E0 hB => ?_)
  refine SX.goN ?_
  exact retI rfl
theorem con_awake29 : PureOK Tryz.prog 11 [] (.v (.bool true)) := by
  have o2 : PureOK Tryz.prog 23 [.v (.int .i64 2)] (.agg (zN 2)) := con_zOf.h ⟨by decide, by decide⟩
  have o3 : PureOK Tryz.prog 23 [.v (.int .i64 3)] (.agg (zN 3)) := con_zOf.h ⟨by decide, by decide⟩
  have w2 : PureOK Tryz.prog 22 [.agg (zN 2)] (.agg (vlA (vNum 2))) := con_Whole (K := 1) (z := 2) (ZQ.made (by rw [WB_eq]; decide)) (by decide) (by decide)
  have w3 : PureOK Tryz.prog 22 [.agg (zN 3)] (.agg (vlA (vNum 3))) := con_Whole (K := 1) (z := 3) (ZQ.made (by rw [WB_eq]; decide)) (by decide) (by decide)
  have h2 : RB 2 1 := RB.ofI (z := 2) (by rw [WB_eq]; decide) (by decide)
  have h3 : RB 3 1 := RB.ofI (z := 3) (by rw [WB_eq]; decide) (by decide)
  have h5 : RB 5 1 := RB.ofI (z := 5) (by rw [WB_eq]; decide) (by decide)
  have cB := con_Bin41 h2 h3 (by decide)
  rw [show (2 : Rat) + 3 = 5 by decide +kernel] at cB
  have cP := con_Print1 h5 (by decide)
  rw [show qS 5 = [53] by
    show rS (5, 1) = [53]
    unfold rS zS decS
    rw [show ((5 : Int).natAbs) = 5 from rfl, dig1 (by decide) (by decide)]
    decide] at cP
  refine PureOK.fnF Tryz.func11 Tryz.results11 Tryz.ntmps11 rfl rfl rfl (by simp [AV.ids, AV0.ids, Atom.ids]) rfl (fun w0 T B E0 hB => ?_)
  refine SX.goN ?_
  refine retB ?_; decide
end Go.Proofs.YtfhpmbenldgfnaaGreatDoor
set_option linter.unusedVariables false
set_option linter.unusedSimpArgs false
namespace Go.Proofs.YtfhpmbenldgfnaaGreatDoor
open Go.RowKit QM SX LA
theorem cqm_len {vs : List Rat} {K : Nat} (h : ∀ v ∈ vs, RB v K) (hK : K ≤ 100000) : ∀ x ∈ vs.map cq, (Sm WB x.2.1 ∧ Sm WB x.2.2.2) ∧ x.2.1.length ≤ 100000 ∧ x.2.2.2.length ≤ 100000 := fun x hx => by
  obtain ⟨v, hv, rfl⟩ := List.mem_map.1 hx
  exact (vZ0.num (h v hv) hK).q
theorem vZ0.mat {r c : Nat} {vs : List Rat} {K : Nat} (h : ∀ v ∈ vs, RB v K) (hK : K ≤ 100000) (hl : vs.length ≤ 100000) : vZ0 (vMat r c vs) where
  q := ⟨⟨Sm.nil, Sm.nil⟩, Nat.zero_le _, Nat.zero_le _⟩
  a := cqm_len h hK
  al := by rw [List.length_map]; exact hl
  po := by intro x hx; cases hx
  pol := Nat.zero_le _
  p := WB_pos
  fa := by intro x hx; cases hx
  fal := Nat.zero_le _
  ri := by intro x hx; cases hx
  ril := Nat.zero_le _
  lil := Nat.zero_le _
theorem vP_mat (r c : Nat) (vs : List Rat) : vP (vMat r c vs) = 0 := (vP0 _).2 ⟨.inr ⟨rfl, rfl, rfl, rfl⟩, .inl rfl, .inr rfl, .inr ⟨rfl, rfl, rfl⟩, .inr rfl, .inr (.inr rfl), .inr rfl⟩
theorem qOk_cq (v : Rat) : qOk (cq v) = true := (qOk_iff (cq_sm v)).2 (by rw [cq_val])
theorem fp64_nat {r c n : Nat} (hr : r ≤ 64) (hc : c ≤ 64) (hl : n = r * c) : fp64 (r : Int) (c : Int) n = true := decide_eq_true ⟨by omega, by omega, by omega, by omega, by rw [hl]; simp⟩
theorem vF_mat (d : Nat) {r c : Nat} {vs : List Rat} (hl : vs.length = r * c) (hr : r ≤ 64) (hc : c ≤ 64) : vF d (vMat r c vs) = true := by
  rw [vF_2 (vP_mat r c vs) rfl]
  unfold mOk
  rw [Bool.and_eq_true]
  refine ⟨List.all_eq_true.2 fun x hx => ?_, fp64_nat hr hc (by rw [List.length_map]; exact hl)⟩
  obtain ⟨v, _, rfl⟩ := List.mem_map.1 hx
  exact qOk_cq v
theorem Ra.rawq {q : RawQ} (hs : Sm WB q.2.1 ∧ Sm WB q.2.2.2) {K : Nat} (h : q.2.1.length ≤ K ∧ q.2.2.2.length ≤ K) : Ra (q4A (rq q)) (rqv q) K :=
  Ra.raw ⟨nn_lt hs.1 (Nat.le_refl _)⟩ ⟨nn_lt hs.2 (Nat.le_refl _)⟩ h.1 h.2
attribute [local irreducible] IntKind.wrap Go1 Reg WP thenK inBlk retQ retF RetF RetOK ResOK CallOK OpOK Sat
attribute [local irreducible] qsub qmul qquo qcmp qadd qv redS mf PrP qOk zOk vP fp64 lz vF cq rqv
end Go.Proofs.YtfhpmbenldgfnaaGreatDoor
set_option linter.unusedVariables false
set_option linter.unusedSimpArgs false
namespace Go.Proofs.YtfhpmbenldgfnaaGreatDoor
open Go.RowKit QM SX LA
open Go.ChangeShapes Go.WideShapes Go.ChangeAt Go.Joins
mutual
def rW : Vl → Prop
  | ⟨k, q, r, c, a, po, p, fr, fc, fa, ri, li⟩ => (Sm WB q.2.1 ∧ Sm WB q.2.2.2) ∧ RSm a ∧ (∀ x ∈ po, Sm WB x.2) ∧ p < WB ∧ (∀ x ∈ fa, x < WB) ∧ (∀ x ∈ ri, x < WB) ∧ rWL li
def rWL : List Vl → Prop
  | [] => True
  | v :: l => rW v ∧ rWL l
end
theorem rWL_iff : ∀ l : List Vl, rWL l ↔ ∀ v ∈ l, rW v
  | [] => by rw [rWL]; simp
  | v :: l => by rw [rWL, rWL_iff l]; simp
theorem rW_iff (v : Vl) : rW v ↔ (Sm WB v.q.2.1 ∧ Sm WB v.q.2.2.2) ∧ RSm v.a ∧ (∀ x ∈ v.po, Sm WB x.2) ∧ v.p < WB ∧ (∀ x ∈ v.fa, x < WB) ∧ (∀ x ∈ v.ri, x < WB) ∧ ∀ x ∈ v.li, rW x := by
  cases v; rw [rW, rWL_iff]
section
variable {H : Type} {enc : TypeId × Value → H} {W : World} {base : Nat} {sp : Nat → Bool} {hd : Bool}
theorem decWd (n : Nat) : DecF enc Tryz.prog W base sp hd n 33 wdC (fun w => w < WB) :=
  DecF.imp (dec_int Tryz.underlying33) Int.toNat (fun z hz => by have := bounds_u64 hz; rw [WB_eq]; omega) (fun z cs hz h => by
    have := bounds_u64 hz
    show All2 _ [CA.val (.int .u64 ((z.toNat : Nat) : Int))] cs
    rw [show ((z.toNat : Nat) : Int) = z by omega]; exact h)
theorem decWds (n : Nat) : DecF enc Tryz.prog W base sp hd n 22 (fun l : List Nat => [.sat (rowR 1 wdC l)]) (fun l => ∀ x ∈ l, x < WB) :=
  DecF.all (fun n => (dec_slice Tryz.underlying22 (by kernel_rfl) (decWd n)).conv id (fun _ h => h.2) (fun _ => rfl)) n
theorem decRing (n : Nat) : DecF enc Tryz.prog W base sp hd n 36 (fun l : List Nat => [.sat (rowR 1 wdC l)]) (fun l => ∀ x ∈ l, x < WB) :=
  DecF.all (fun n => (dec_slice Tryz.underlying36 (by kernel_rfl) (decWd n)).conv id (fun _ h => h.2) (fun _ => rfl)) n
theorem decFM (n : Nat) : DecF enc Tryz.prog W base sp hd n 35 (fun p : Int × Int × List Nat => [.val (.int .i64 p.1), .val (.int .i64 p.2.1), .sat (rowR 1 wdC p.2.2)]) (fun p => ∀ x ∈ p.2.2, x < WB) :=
  DecF.all (fun n => DecF.conv (dec_struct3 Tryz.underlying35 rfl (by kernel_rfl) (by kernel_rfl) (by kernel_rfl) (dec_int Tryz.underlying3) (dec_int Tryz.underlying3) (decWds n)) id (fun p h => h.2.2) (fun p => rfl)) n
def vzC (p : RawZ) : List CA := z2C (rz p)
instance : EncLen vzC 2 := ⟨fun _ => rfl⟩
theorem vz_row (l : List RawZ) : rowR 2 vzC l = rowR 2 z2C (l.map rz) := by
  show sliceR 2 l.length (l.flatMap vzC) = sliceR 2 (l.map rz).length ((l.map rz).flatMap z2C)
  rw [List.length_map, List.flatMap_map]; rfl
theorem decPoly (n : Nat) : DecF enc Tryz.prog W base sp hd n 32 (fun l : List RawZ => [.sat (rowR 2 z2C (l.map rz))]) (fun l => ∀ x ∈ l, Sm WB x.2) :=
  DecF.all (fun n => (dec_slice (enc' := vzC) Tryz.underlying32 (by kernel_rfl) ((decZS n).conv (e' := vzC) (ψ := fun p => Sm WB p.2) id (fun _ h => h) (fun _ => rfl))).conv id (fun _ h => h.2) (fun l => by
    show [CA.sat (rowR 2 z2C (l.map rz))] = [CA.sat (rowR 2 vzC l)]
    rw [vz_row])) n
theorem decVl2 : ∀ n : Nat, DecF enc Tryz.prog W base sp hd n 39 vlC rW ∧ DecF enc Tryz.prog W base sp hd (n + 1) 37 (fun l : List Vl => [.sat (rowR 15 vlC l)]) (fun l => ∀ x ∈ l, rW x)
  | 0 => ⟨DecF.zero, (dec_slice Tryz.underlying37 (by kernel_rfl) (DecF.zero (e := vlC) (φ := rW))).conv id (fun _ h => h.2) (fun _ => rfl)⟩
  | n + 1 => by
    obtain ⟨h1, h2⟩ := decVl2 n
    have hs : DecF enc Tryz.prog W base sp hd n 37 (fun l : List Vl => [.sat (rowR 15 vlC l)]) (fun l => ∀ x ∈ l, rW x) := by
      cases n with
      | zero => exact DecF.zero
      | succ m => exact (decVl2 m).2
    have hn : DecF enc Tryz.prog W base sp hd (n + 1) 39 vlC rW :=
      (dec_struct8 Tryz.underlying39 rfl (by kernel_rfl) (by kernel_rfl) (by kernel_rfl) (by kernel_rfl) (by kernel_rfl) (by kernel_rfl) (by kernel_rfl) (by kernel_rfl)
        (dec_int Tryz.underlying3) (decRatS n) (decMat n) (decPoly n) (decWd n) (decFM n) (decRing n) hs).conv (fun p => (⟨p.1, p.2.1, p.2.2.1.1, p.2.2.1.2.1, p.2.2.1.2.2, p.2.2.2.1, p.2.2.2.2.1, p.2.2.2.2.2.1.1, p.2.2.2.2.2.1.2.1, p.2.2.2.2.2.1.2.2, p.2.2.2.2.2.2.1, p.2.2.2.2.2.2.2⟩ : Vl))
        (fun p h => (rW_iff _).2 ⟨h.2.1, h.2.2.1, h.2.2.2.1, h.2.2.2.2.1, h.2.2.2.2.2.1, h.2.2.2.2.2.2.1, h.2.2.2.2.2.2.2⟩) (fun p => by rw [vlC_eq]; rfl)
    exact ⟨hn, (dec_slice Tryz.underlying37 (by kernel_rfl) hn).conv id (fun _ h => h.2) (fun _ => rfl)⟩
theorem decVal (n : Nat) : DecF enc Tryz.prog W base sp hd n 39 vlE rW := (decVl2 n).1.conv id (fun _ h => h) (fun v => (vlC_eq v).symm)
end
def vW1 (d : Nat) (v : Vl) : Prop := (v.po.length ≤ 5 ∧ ∀ x ∈ v.po, x.2.length ≤ 2) ∧ v.ri.length ≤ 5 ∧ v.li.length ≤ 4 ∧ (v.li.length = 0 ∨ d ≠ 0) ∧ v.p ≤ 4294967296 ∧ (v.q.2.1.length ≤ 2 ∧ v.q.2.2.2.length ≤ 2) ∧ FewP v.r v.c v.a 4 2 ∧ (v.fr ≤ 4 ∧ v.fc ≤ 4 ∧ v.fa.length ≤ 100)
def vW : Nat → Vl → Prop
  | 0, v => vW1 0 v ∧ v.li = []
  | d + 1, v => vW1 (d + 1) v ∧ ∀ x ∈ v.li, vW d x
theorem vW.one {d : Nat} {v : Vl} (h : vW d v) : vW1 d v := by cases d <;> exact h.1
theorem vZ.few : ∀ {d : Nat} {v : Vl}, vW d v → rW v → vZ d v := by
  have key : ∀ (d : Nat) (v : Vl), vW1 d v → rW v → vZ0 v := fun d v h hr => by
    obtain ⟨h1, h2, h3, h4, h5, h6, h7, h8⟩ := h
    obtain ⟨r1, r2, r3, r4, r5, r6, r7⟩ := (rW_iff v).1 hr
    exact ⟨⟨r1, by omega, by omega⟩, fun x hx => ⟨r2 x hx, by have := FewP.len (w := 2) h7 x hx; omega⟩, by have := h7.2.2.2; omega, fun x hx => ⟨r3 x hx, by have := h1.2 x hx; omega⟩, by omega, r4, r5, by omega, r6, by omega, by omega⟩
  intro d
  induction d with
  | zero => intro v h hr; exact ⟨key 0 v h.1 hr, h.2⟩
  | succ d ih => intro v h hr; exact ⟨key _ v h.1 hr, fun x hx => ih (h.2 x hx) (((rW_iff v).1 hr).2.2.2.2.2.2 x hx)⟩
end Go.Proofs.YtfhpmbenldgfnaaGreatDoor
set_option linter.unusedVariables false
set_option linter.unusedSimpArgs false
namespace Go.Proofs.YtfhpmbenldgfnaaGreatDoor
open Go.RowKit QM SX LA
attribute [local irreducible] IntKind.wrap Go1 Reg WP thenK inBlk retQ retF RetF RetOK ResOK CallOK OpOK Sat
attribute [local irreducible] qsub qmul qquo qcmp qadd qv redS mf PrP qOk zOk vP fp64 lz vF cq rqv
theorem con_few10 (l : List RawZ) (goal : Bool) (hl : l.length ≤ 5) (hg : goal = true ↔ ∀ x ∈ l, x.2.length ≤ 2) :
    PureOK Tryz.prog 96 [.r (rowR 2 z2C (l.map rz)), .v (.int .i64 5), .v (.int .i64 2)] (.v (.bool goal)) := by
  have hlen : (l.map rz).length = l.length := List.length_map _
  refine PureOK.fnF Tryz.func96 Tryz.results96 Tryz.ntmps96 rfl rfl rfl (by simp [AV.ids, AV0.ids, Atom.ids]) rfl (fun w0 T B E0 hB => ?_)
  refine SX.goN ?_
  refine W.loop (fun k => k ≤ l.length ∧ ∀ (j : Nat) x, j < k → l[j]? = some x → x.2.length ≤ 2) (fun k => [(0, .r (rowR 2 z2C (l.map rz))), (1, .v (.int .i64 5)), (2, .v (.int .i64 2)), (7, .v (.int .i64 (k : Int)))]) (fun _ => []) (fun k => l.length - k) 0 ⟨Nat.zero_le _, fun j x h => absurd h (Nat.not_lt_zero _)⟩ (fun k ⟨hk, he⟩ => ?_)
  by_cases h : k < l.length
  · have h' : k < (l.map rz).length := by omega
    obtain ⟨x, hx⟩ : ∃ x, l[k]? = some x := ⟨_, List.getElem?_eq_getElem h⟩
    have hq : (l.map rz)[k]? = some (rz x) := by rw [List.getElem?_map, hx]; rfl
    by_cases h3 : x.2.length ≤ 2
    · refine SX.goN ?_
      refine W.next (k + 1) ⟨h, fun j b hj hb => ?_⟩ (by omega)
      by_cases hjk : j < k
      · exact he j b hjk hb
      · obtain rfl : j = k := by omega
        rw [hx] at hb; rw [← Option.some.inj hb]; exact h3
    · refine SX.goN ?_
      refine retB ?_
      exact (Bool.eq_false_iff.2 fun ht => h3 (hg.1 ht x (List.mem_of_getElem? hx))).symm
  · obtain rfl : k = l.length := by omega
    have h' : ¬ l.length < (l.map rz).length := by omega
    have ht : goal = true := hg.2 fun x hx => by
      obtain ⟨i, hi⟩ := List.mem_iff_getElem?.1 hx
      exact he i x (at_lt hi) hi
    subst ht
    refine SX.goN ?_
    refine retB ?_
    exact decide_eq_true (by omega)
theorem con_few21 (r c : Int) (l : List Nat) : PureOK Tryz.prog 97 [.agg [.c (.val (.int .i64 r)), .c (.val (.int .i64 c)), .c (.sat (rowR 1 wdC l))], .v (.int .i64 4)] (.v (.bool (decide (r ≤ 4 ∧ c ≤ 4 ∧ l.length ≤ 100)))) := by
  refine PureOK.fnF Tryz.func97 Tryz.results97 Tryz.ntmps97 rfl rfl rfl (by simp [AV.ids, AV0.ids, Atom.ids]) rfl (fun w0 T B E0 hB => ?_)
  by_cases h1 : r ≤ 4
  · by_cases h2 : c ≤ 4
    · refine SX.goN ?_
      refine retB ?_; rw [decide_eq_decide]; omega
    · refine SX.goN ?_
      refine retB ?_; exact (decide_eq_false fun h => h2 h.2.1).symm
  · refine SX.goN ?_
    refine retB ?_; exact (decide_eq_false fun h => h1 h.1).symm
theorem con_few07 (q : RawQ) : PureOK Tryz.prog 33 [.agg (q4A (rq q)), .v (.int .i64 2)] (.v (.bool (decide (q.2.1.length ≤ 2 ∧ q.2.2.2.length ≤ 2)))) := by
  have h := (con_Few q.1 q.2.1 q.2.2.1 q.2.2.2 2).h trivial
  rw [show decide ((q.2.1.length : Int) ≤ 2 ∧ (q.2.2.2.length : Int) ≤ 2) = decide (q.2.1.length ≤ 2 ∧ q.2.2.2.length ≤ 2) from decide_eq_decide.2 (by omega)] at h
  exact h
set_option maxRecDepth 20000 in
set_option maxHeartbeats 2000000 in
theorem con_Few1 (v : Vl) (d : Nat) (hd : d ≤ 20) (goal : Bool) (b : Vl → Prop) (hr : ∀ e, d = e + 1 → ∀ x ∈ v.li, (b x → PureOK Tryz.prog 41 [.agg (vlA x), .v (.int .i64 (e : Int))] (.v (.bool true))) ∧ (¬ b x → PureOK Tryz.prog 41 [.agg (vlA x), .v (.int .i64 (e : Int))] (.v (.bool false))))
    (hg : goal = true ↔ vW1 d v ∧ ∀ x ∈ v.li, b x) : PureOK Tryz.prog 41 [.agg (vlA v), .v (.int .i64 (d : Int))] (.v (.bool goal)) := by
  have l2 : (v.po.map rz).length = v.po.length := List.length_map _
  have cq := con_few07 v.q
  have cm := con_rFew v.r v.c v.a 4 2
  have cf := con_few21 v.fr v.fc v.fa
  have no : ∀ {p : Prop}, ¬ p → (vW1 d v ∧ (∀ x ∈ v.li, b x) → p) → false = goal := fun hn hp => (Bool.eq_false_iff.2 fun ht => hn (hp (hg.1 ht))).symm
  rw [vlA_B]
  refine PureOK.fnF Tryz.func41 Tryz.results41 Tryz.ntmps41 rfl rfl rfl (by simp [AV.ids, AV0.ids, Atom.ids]) rfl (fun w0 T B E0 hB => ?_)
  by_cases h1 : v.po.length ≤ 5
  rotate_left
  · refine SX.goN ?_
    refine retB (no h1 fun h => ?_); exact h.1.1.1
  by_cases h2 : ∀ x ∈ v.po, x.2.length ≤ 2
  rotate_left
  · have c1 := con_few10 v.po false h1 ⟨fun h => (by cases h), fun h => absurd h h2⟩
    refine SX.goN ?_
    refine retB (no h2 fun h => ?_); exact h.1.1.2
  have c1 := con_few10 v.po true h1 ⟨fun _ => h2, fun _ => rfl⟩
  by_cases h3 : v.ri.length ≤ 5
  rotate_left
  · refine SX.goN ?_
    refine retB (no h3 fun h => ?_); exact h.1.2.1
  by_cases h4 : v.li.length ≤ 4
  rotate_left
  · refine SX.goN ?_
    refine retB (no h4 fun h => ?_); exact h.1.2.2.1
  by_cases h5 : v.li.length = 0 ∨ d ≠ 0
  rotate_left
  · have h6 : v.li.length > 0 := by omega
    have h7 : d = 0 := by omega
    refine SX.goN ?_
    refine retB (no h5 fun h => ?_); exact h.1.2.2.2.1
  by_cases h8 : v.p ≤ 4294967296
  rotate_left
  · by_cases h6 : v.li.length > 0
    · have h7 : d ≠ 0 := by omega
      refine SX.goN ?_
      refine retB (no h8 fun h => ?_); exact h.1.2.2.2.2.1
    · refine SX.goN ?_
      refine retB (no h8 fun h => ?_); exact h.1.2.2.2.2.1
  refine W.meet [(1, .v (.int .i64 (d : Int))), (2, .ptr 2 0)] [(2, .box 39 (vlB v))] ?_ ?_
  · refine SX.goN ?_
    exact W.le
  refine W.meet [(1, .v (.int .i64 (d : Int))), (2, .ptr 2 0)] [(2, .box 39 (vlB v))] ?_ ?_
  · by_cases h6 : v.li.length > 0
    · have h7 : d ≠ 0 := by omega
      refine SX.goN ?_
      exact W.le
    · refine SX.goN ?_
      exact W.le
  refine SX.goN ?_
  refine W.loop (fun k => k ≤ v.li.length ∧ ∀ (j : Nat) x, j < k → v.li[j]? = some x → b x) (fun k => [(1, .v (.int .i64 (d : Int))), (2, .ptr 2 0), (5, .v (.int .i64 (k : Int)))]) (fun k => [(2, .box 39 (vlB v))]) (fun k => v.li.length - k) 0 ⟨Nat.zero_le _, fun j x h => absurd h (Nat.not_lt_zero _)⟩ (fun k ⟨hk, he⟩ => ?_)
  by_cases h : k < v.li.length
  · obtain ⟨e, rfl⟩ : ∃ e, d = e + 1 := ⟨d - 1, by omega⟩
    obtain ⟨x, hx⟩ : ∃ x, v.li[k]? = some x := ⟨_, List.getElem?_eq_getElem h⟩
    have hr2 := hr e rfl x (List.mem_of_getElem? hx)
    rw [show (e : Int) = ((e + 1 - 1 : Nat) : Int) by omega] at hr2
    by_cases hb : b x
    · have cE := hr2.1 hb
      refine SX.goN ?_
      refine W.next (k + 1) ⟨h, fun j y hj hy => ?_⟩ (by omega)
      by_cases hjk : j < k
      · exact he j y hjk hy
      · obtain rfl : j = k := by omega
        rw [hx] at hy; rw [← Option.some.inj hy]; exact hb
    · have cE := hr2.2 hb
      refine SX.goN ?_
      refine retB (no hb fun h => ?_); exact h.2 x (List.mem_of_getElem? hx)
  · obtain rfl : k = v.li.length := by omega
    have hall : ∀ x ∈ v.li, b x := fun x hx => by
      obtain ⟨i, hi⟩ := List.mem_iff_getElem?.1 hx
      exact he i x (at_lt hi) hi
    by_cases g1 : v.q.2.1.length ≤ 2 ∧ v.q.2.2.2.length ≤ 2
    · rw [decide_eq_true g1] at cq
      by_cases g2 : FewP v.r v.c v.a 4 2
      · have cm := cm.1 g2
        by_cases g3 : v.fr ≤ 4 ∧ v.fc ≤ 4 ∧ v.fa.length ≤ 100
        · rw [decide_eq_true g3] at cf
          have ht : goal = true := hg.2 ⟨⟨⟨h1, h2⟩, h3, h4, h5, h8, g1, g2, g3⟩, hall⟩
          subst ht
          refine SX.goN ?_
          exact retB rfl
        · rw [decide_eq_false g3] at cf
          refine SX.goN ?_
          refine retB (no g3 fun h => ?_); exact h.1.2.2.2.2.2.2.2
      · have cm := cm.2 g2
        refine SX.goN ?_
        refine retB (no g2 fun h => ?_); exact h.1.2.2.2.2.2.2.1
    · rw [decide_eq_false g1] at cq
      refine SX.goN ?_
      refine retB (no g1 fun h => ?_); exact h.1.2.2.2.2.2.1
theorem con_Few29 : ∀ (d : Nat) (v : Vl), d ≤ 20 → (vW d v → PureOK Tryz.prog 41 [.agg (vlA v), .v (.int .i64 (d : Int))] (.v (.bool true))) ∧ (¬ vW d v → PureOK Tryz.prog 41 [.agg (vlA v), .v (.int .i64 (d : Int))] (.v (.bool false))) := by
  intro d
  induction d with
  | zero =>
    intro v hd
    have e : vW 0 v ↔ vW1 0 v ∧ ∀ x ∈ v.li, False := by
      constructor
      · intro h; exact ⟨h.1, fun x hx => by rw [h.2] at hx; cases hx⟩
      · intro h
        refine ⟨h.1, ?_⟩
        cases hl : v.li with
        | nil => rfl
        | cons x l => exact (h.2 x (by rw [hl]; exact List.mem_cons_self ..)).elim
    exact ⟨fun h => con_Few1 v 0 hd true (fun _ => False) (fun e he => by omega) ⟨fun _ => e.1 h, fun _ => rfl⟩, fun h => con_Few1 v 0 hd false (fun _ => False) (fun e he => by omega) ⟨fun h2 => (by cases h2), fun h2 => absurd (e.2 h2) h⟩⟩
  | succ d ih =>
    intro v hd
    have hr : ∀ e, d + 1 = e + 1 → ∀ x ∈ v.li, (vW d x → PureOK Tryz.prog 41 [.agg (vlA x), .v (.int .i64 (e : Int))] (.v (.bool true))) ∧ (¬ vW d x → PureOK Tryz.prog 41 [.agg (vlA x), .v (.int .i64 (e : Int))] (.v (.bool false))) := fun e he x _ => by
      obtain rfl : d = e := by omega
      exact ih x (by omega)
    exact ⟨fun h => con_Few1 v (d + 1) hd true (vW d) hr ⟨fun _ => h, fun _ => rfl⟩, fun h => con_Few1 v (d + 1) hd false (vW d) hr ⟨fun h2 => (by cases h2), fun h2 => absurd h2 h⟩⟩
end Go.Proofs.YtfhpmbenldgfnaaGreatDoor
set_option linter.unusedVariables false
set_option linter.unusedSimpArgs false
namespace Go.Proofs.YtfhpmbenldgfnaaGreatDoor
open Go.RowKit QM SX LA
instance zeroZ : AsZero [.bool false, .slice none 0 0] (z2C (z2v 0)) := ⟨fun S w => ⟨rfl, nrmN.zero, trivial⟩⟩
def pl (zs : List Int) : Nat → Nat
  | 0 => 0
  | k + 1 => if zs.getD k 0 = 0 then pl zs k else k + 1
def plen (zs : List Int) : Nat := pl zs zs.length
def pNorm (zs : List Int) : List Int := zs.take (plen zs)
def pN (zs : List Int) : Prop := zs.length = 0 ∨ zs.getD (zs.length - 1) 0 ≠ 0
theorem pl_le (zs : List Int) : ∀ k, pl zs k ≤ k
  | 0 => Nat.le_refl _
  | k + 1 => by unfold pl; split; exact Nat.le_succ_of_le (pl_le zs k); exact Nat.le_refl _
theorem pl_top (zs : List Int) : ∀ k, pl zs k = 0 ∨ zs.getD (pl zs k - 1) 0 ≠ 0
  | 0 => .inl rfl
  | k + 1 => by
    unfold pl; split
    · exact pl_top zs k
    · next h => exact .inr h
theorem pl_zero (zs : List Int) : ∀ (k j : Nat), pl zs k ≤ j → j < k → zs.getD j 0 = 0
  | 0, j, _, h => absurd h (Nat.not_lt_zero _)
  | k + 1, j, h1, h2 => by
    unfold pl at h1
    split at h1
    · next h =>
      by_cases hj : j = k
      · subst hj; exact h
      · exact pl_zero zs k j h1 (by omega)
    · omega
theorem plen_le (zs : List Int) : plen zs ≤ zs.length := pl_le zs _
theorem pNorm_len (zs : List Int) : (pNorm zs).length = plen zs := by unfold pNorm; rw [List.length_take]; exact Nat.min_eq_left (plen_le zs)
theorem getD_ge {zs : List Int} {j : Nat} (h : zs.length ≤ j) : zs.getD j 0 = 0 := by rw [List.getD_eq_getElem?_getD, List.getElem?_eq_none h]; rfl
theorem pNorm_at (zs : List Int) (j : Nat) : (pNorm zs).getD j 0 = zs.getD j 0 := by
  by_cases h : j < plen zs
  · unfold pNorm; rw [List.getD_eq_getElem?_getD, List.getElem?_take, if_pos h, ← List.getD_eq_getElem?_getD]
  · rw [getD_ge (by rw [pNorm_len]; omega)]
    by_cases h2 : j < zs.length
    · exact (pl_zero zs _ j (by unfold plen at h; omega) h2).symm
    · exact (getD_ge (by omega)).symm
theorem pNorm_pN (zs : List Int) : pN (pNorm zs) := by
  rcases pl_top zs zs.length with h | h
  · exact .inl (by rw [pNorm_len]; exact h)
  · exact .inr (by rw [pNorm_len, pNorm_at]; exact h)
theorem pN_ext {a b : List Int} (ha : pN a) (hb : pN b) (h : ∀ j, a.getD j 0 = b.getD j 0) : a = b := by
  have key : ∀ {a b : List Int}, pN a → (∀ j, a.getD j 0 = b.getD j 0) → a.length ≤ b.length := fun {a b} ha h => by
    rcases ha with h0 | h0
    · omega
    · rcases Nat.lt_or_ge b.length a.length with h1 | h1
      · rw [h, getD_ge (by omega)] at h0; exact absurd rfl h0
      · exact h1
  have hl : a.length = b.length := Nat.le_antisymm (key ha h) (key hb fun j => (h j).symm)
  apply List.ext_getElem? ; intro j
  by_cases hj : j < a.length
  · have := h j
    rw [List.getD_eq_getElem?_getD, List.getD_eq_getElem?_getD, List.getElem?_eq_getElem hj, List.getElem?_eq_getElem (by omega)] at this
    rw [List.getElem?_eq_getElem hj, List.getElem?_eq_getElem (by omega)]
    exact congrArg some this
  · rw [List.getElem?_eq_none (by omega), List.getElem?_eq_none (by omega)]
def tabP (n : Nat) (f : Nat → Int) : List Int := (List.range n).map f
theorem tabP_len (n : Nat) (f : Nat → Int) : (tabP n f).length = n := by unfold tabP; rw [List.length_map, List.length_range]
theorem tabP_at {n : Nat} {f : Nat → Int} {j : Nat} (h : j < n) : (tabP n f).getD j 0 = f j := by
  unfold tabP; rw [List.getD_eq_getElem?_getD, List.getElem?_map, List.getElem?_range h]; rfl
def pBoth (op : Int → Int → Int) (a b : List Int) : List Int := pNorm (tabP (max a.length b.length) fun i => op (a.getD i 0) (b.getD i 0))
theorem pBoth_at {op : Int → Int → Int} (h0 : op 0 0 = 0) (a b : List Int) (j : Nat) : (pBoth op a b).getD j 0 = op (a.getD j 0) (b.getD j 0) := by
  unfold pBoth
  rw [pNorm_at]
  by_cases h : j < max a.length b.length
  · exact tabP_at h
  · rw [getD_ge (by rw [tabP_len]; omega), getD_ge (zs := a) (by omega), getD_ge (zs := b) (by omega), h0]
def patq (l : List Z2) (i : Nat) : Z2 := l.getD i (z2v 0)
theorem ZQ.zero (K : Nat) : ZQ (z2v 0) 0 K := ZQ.made (z := 0) (by rw [show (0 : Int).natAbs = 0 from rfl]; exact WB_one_le K)
theorem MZ.pat {l : List Z2} {zs : List Int} {K : Nat} (h : MZ l zs K) (i : Nat) : ZQ (patq l i) (zs.getD i 0) K := by
  unfold patq
  rw [List.getD_eq_getElem?_getD, List.getD_eq_getElem?_getD]
  have hl := h.len
  by_cases hi : i < l.length
  · rw [List.getElem?_eq_getElem hi, List.getElem?_eq_getElem (by omega)]
    exact h.z i _ _ (List.getElem?_eq_getElem hi) (List.getElem?_eq_getElem (by omega))
  · rw [List.getElem?_eq_none (by omega), List.getElem?_eq_none (by omega)]
    exact ZQ.zero K
theorem set_tab {f : Nat → Z2} {z : Z2} {n k : Nat} (hk : k < n) : ((List.range n).map fun i => if i < k then f i else z).set k (f k) = (List.range n).map fun i => if i < k + 1 then f i else z := by
  apply List.ext_getElem?
  intro j
  rw [List.getElem?_set]
  by_cases hj : k = j
  · subst hj
    rw [if_pos rfl, if_pos (by rw [List.length_map, List.length_range]; exact hk), List.getElem?_map, List.getElem?_range hk]
    simp
  · rw [if_neg hj, List.getElem?_map, List.getElem?_map]
    by_cases hjn : j < n
    · rw [List.getElem?_range hjn]
      simp only [Option.map_some]
      by_cases h1 : j < k
      · rw [if_pos h1, if_pos (by omega)]
      · rw [if_neg h1, if_neg (by omega)]
    · rw [List.getElem?_eq_none (by rw [List.length_range]; omega)]; rfl
theorem tab_all {f : Nat → Z2} {z : Z2} {n : Nat} : ((List.range n).map fun i => if i < n then f i else z) = (List.range n).map f := by
  refine List.map_congr_left fun i hi => ?_
  rw [if_pos (List.mem_range.1 hi)]
theorem tab_none {f : Nat → Z2} {z : Z2} {n : Nat} : (List.replicate n (z2C z)).flatten = ((List.range n).map fun i => if i < 0 then f i else z).flatMap z2C := by
  have : ((List.range n).map fun i => if i < 0 then f i else z) = List.replicate n z := by
    apply List.ext_getElem?; intro j
    rw [List.getElem?_map, List.getElem?_replicate]
    by_cases hj : j < n
    · rw [List.getElem?_range hj, if_pos hj]; simp
    · rw [List.getElem?_eq_none (by rw [List.length_range]; omega), if_neg hj]; rfl
  rw [this, List.flatMap, List.map_replicate]
attribute [local irreducible] IntKind.wrap Go1 Reg WP thenK inBlk retQ retF RetF RetOK ResOK CallOK OpOK Sat
attribute [local irreducible] qsub qmul qquo qcmp qadd qv redS mf PrP qOk zOk vP fp64 lz vF cq rqv plen
theorem con_pat (l : List Z2) (i : Nat) (hl : l.length ≤ 1000000) : PureOK Tryz.prog 59 [.r (rowR 2 z2C l), .v (.int .i64 (i : Int))] (.agg (z2A (patq l i))) := by
  unfold patq
  rw [List.getD_eq_getElem?_getD]
  refine PureOK.fnF Tryz.func59 Tryz.results59 Tryz.ntmps59 rfl rfl rfl (by simp [AV.ids, AV0.ids, Atom.ids]) rfl (fun w0 T B E0 hB => ?_)
  by_cases h : i < l.length
  · obtain ⟨q, hq⟩ : ∃ q, l[i]? = some q := ⟨_, List.getElem?_eq_getElem h⟩
    rw [hq]
    refine SX.goJ ?_
    exact retA (ResOK.agg2 rfl rfl rfl) rfl
  · rw [List.getElem?_eq_none (by omega)]
    refine SX.goJ ?_
    refine retAi (ResOK.agg2 rfl rfl rfl) ?_
    exact imp_zero
theorem con_pNorm {l : List Z2} {zs : List Int} {K : Nat} (hM : MZ l zs K) (hK : K ≤ 1000000) (hl : l.length ≤ 100000) : PureOK Tryz.prog 57 [.r (rowR 2 z2C l)] (.r (rowR 2 z2C ((pNorm zs).map z2v))) := by
  have hlen := hM.len
  have hle := plen_le zs
  refine PureOK.fnF Tryz.func57 Tryz.results57 Tryz.ntmps57 rfl rfl rfl (by simp [AV.ids, AV0.ids, Atom.ids]) rfl (fun w0 T B E0 hB => ?_)
  refine SX.goJ ?_
  refine W.loop (fun k => k ≤ l.length ∧ pl zs k = plen zs) (fun k => [(0, .r (rowR 2 z2C l)), (3, .v (.int .i64 (k : Int)))]) (fun _ => []) (fun k => k) l.length ⟨Nat.le_refl _, by rw [hlen]; unfold plen; rfl⟩ (fun k ⟨hk, he⟩ => ?_)
  by_cases h0 : 0 < k
  · obtain ⟨m, rfl⟩ : ∃ m, k = m + 1 := ⟨k - 1, by omega⟩
    obtain ⟨q, hq⟩ : ∃ q, l[m + 1 - 1]? = some q := ⟨_, List.getElem?_eq_getElem (by omega)⟩
    have hq' : l[m]? = some q := hq
    obtain ⟨z, hz⟩ : ∃ z, zs[m]? = some z := ⟨_, List.getElem?_eq_getElem (by omega)⟩
    have hg : zs.getD m 0 = z := by rw [List.getD_eq_getElem?_getD, hz]; rfl
    have zq := hM.z m q z hq' hz
    have cS := (con_zSign (h := zq.zi)).h (by omega)
    have hs0 : isign z = 0 ↔ z = 0 := by unfold isign; (repeat' split) <;> omega
    unfold pl at he
    rw [hg] at he
    by_cases hz0 : z = 0
    · rw [if_pos hz0] at he
      have h1 := hs0.2 hz0
      refine SX.goJ ?_
      exact W.next m ⟨by omega, he⟩ (by omega)
    · rw [if_neg hz0] at he
      have h1 : ¬ isign z = 0 := fun e => hz0 (hs0.1 e)
      rw [← he] at hle
      have e3 : (l.take (m + 1)).length = m + 1 := by rw [List.length_take]; omega
      refine SX.goJ ?_
      refine W.loop (fun j => j ≤ m + 1) (fun j => [(4, .own 100), (24, .r (rowR 2 z2C (l.take (m + 1)))), (25, .v (.int .i64 ((m + 1 : Nat) : Int))), (26, .v (.int .i64 (j : Int)))]) (fun j => [(100, .row 25 2 j (((zs.take j).map z2v).flatMap z2C))]) (fun j => m + 1 - j) 0 (Nat.zero_le _) (fun j hj => ?_)
        (by
          refine SX.St.le_to [(100, none)] (by intro b h; cases h) ?_ ?_ rfl
          · repeat (first | exact trivial | refine ⟨⟨_, rfl, SX.AVto.same rfl⟩, ?_⟩ | refine ⟨⟨_, rfl, SX.AVto.nil rfl⟩, ?_⟩ | refine ⟨⟨_, rfl, SX.AVto.int (by rw [e3])⟩, ?_⟩)
          · exact ⟨SX.EntTo.nilRow rfl, trivial⟩)
      by_cases h2 : j < m + 1
      · obtain ⟨q2, hq2⟩ : ∃ q2, l[j]? = some q2 := ⟨_, List.getElem?_eq_getElem (by omega)⟩
        have hq3 : (l.take (m + 1))[j]? = some q2 := by rw [List.getElem?_take, if_pos h2]; exact hq2
        have h3 : j < (l.take (m + 1)).length := by omega
        obtain ⟨z2, hz2⟩ : ∃ z2, zs[j]? = some z2 := ⟨_, List.getElem?_eq_getElem (by omega)⟩
        have cF := from_z (hM.z j q2 z2 hq2 hz2) hK
        have e2 : ((zs.take j).map z2v).flatMap z2C ++ z2C (z2v z2) = ((zs.take (j + 1)).map z2v).flatMap z2C := by rw [List.take_add_one, hz2]; simp
        refine SX.goJ ?_
        refine W.next (j + 1) h2 (by omega) (by
          refine SX.St.le_to [(100, some 37)] (by intro b h; cases h) ?_ ?_ rfl
          · repeat (first | exact trivial | refine ⟨⟨_, rfl, SX.AVto.same rfl⟩, ?_⟩ | refine ⟨⟨_, rfl, SX.AVto.own rfl⟩, ?_⟩)
          · exact ⟨SX.EntTo.row rfl rfl rfl e2, trivial⟩)
      · obtain rfl : j = m + 1 := by omega
        refine SX.goJ ?_
        refine RetF.frz 100 ?_
        refine ret1 ?_
        unfold pNorm; rw [← he]
        show AV0.one (.c (.sat (sliceR 2 (m + 1) _))) = .one (.c (.sat (sliceR 2 ((zs.take (m + 1)).map z2v).length _)))
        rw [List.length_map, List.length_take, Nat.min_eq_left (by omega)]
  · obtain rfl : k = 0 := by omega
    have he' : plen zs = 0 := he.symm
    refine SX.goJ ?_
    refine W.loop (fun j : Nat => j = 0) (fun j => [(4, .v (.slice none 0 0)), (25, .v (.int .i64 0)), (26, .v (.int .i64 (j : Int)))]) (fun _ => []) (fun j => j) 0 rfl (fun j hj => ?_)
    subst hj
    refine SX.goJ ?_
    refine ret1' ?_
    unfold pNorm; rw [he']
    exact fun E S w v h => (AtomI.nil (α := Z2) (enc := z2C) (size := 2)) E S w v h
end Go.Proofs.YtfhpmbenldgfnaaGreatDoor

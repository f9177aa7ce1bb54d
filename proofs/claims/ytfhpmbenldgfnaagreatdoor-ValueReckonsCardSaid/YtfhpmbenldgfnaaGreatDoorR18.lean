import Derived.Test.YtfhpmbenldgfnaaGreatDoorR17
set_option linter.unusedVariables false
set_option linter.unusedSimpArgs false
namespace SX
open Go Go.RowKit
section
variable {P : Program} {C : Ctx} {st : St}
variable {ops rest : List Oper} {acc : List (List Nat × List Nat)} {K : List (List Nat × List Nat) → St → Prop} {dst : Option Tmp} {ty t e : TypeId} {x y : Operand} {k : IntKind} {i n : Nat} {zi : Int}
theorem G.indexA4 {l l4 : List Atom} [ht : TArr P t n e 4] [ho : TAgg P e 4] (next : Reg P C ops rest (st.app dst ⟨.agg l4, []⟩) (([], []) :: acc) K) (hd : dstOK dst C.nt = true := by rfl) (hx : st.ev x = some (.agg l) := by rfl) (hy : st.ev y = some (.v (.int k zi)) := by rfl) (hy0 : zi = (i : Int) := by first | with_reducible rfl | exact SX.litN _ | rfl) (hi : i < n := by omega) (ha : (l.drop (i * 4)).take 4 = l4 := by rfl) : Go1 P C ops dst (.index t x y) ty rest st acc K :=
  Go1.pureV [] [] (by simp) hd (by simp) (fun o ho' _ st' E S b w hev hs _ => by
    obtain ⟨⟨vs, hv, hall⟩, hids⟩ := hs.ev ((hev x (by simp [ho', Op.operands])).trans hx)
    have hyv : b.eval y = .int k zi := (hs.ev ((hev y (by simp [ho', Op.operands])).trans hy)).1
    have hsz := run_sizeOf ho.s w
    have hag := run_isAgg ho.h w
    subst hy0
    subst ha
    refine ⟨fun j hj => hids j ?_, .agg ((vs.drop (i * 4)).take 4).toArray, ?_, ⟨_, rfl, (hall.drop _).take 4⟩⟩
    · simp only [AV.ids, AV0.ids, List.mem_flatMap] at hj ⊢
      obtain ⟨c, hc, hj⟩ := hj
      exact ⟨c, List.mem_of_mem_drop (List.mem_of_mem_take hc), hj⟩
    · unfold execOp; rw [ho']
      simp [hv, hyv, Instr.index, asIntOf, run_underlying ht.h, hi, hsz, part, hag]) next
end
end SX
namespace Go.Proofs.YtfhpmbenldgfnaaGreatDoor
open Go.RowKit QM SX LA
theorem imp_fld {p r c : Nat} {l : List Nat} : AV0.imp (.agg [.c (.val (.int .i64 4)), .c (.val (.bool false)), .c (.val (.slice none 0 0)), .c (.val (.bool false)), .c (.val (.slice none 0 0)), .c (.val (.int .i64 0)), .c (.val (.int .i64 0)), .c (.val (.slice none 0 0)), .c (.val (.slice none 0 0)), .c (.val (.int .u64 (p : Int))), .c (.val (.int .i64 (r : Int))), .c (.val (.int .i64 (c : Int))), .c (.sat (rowR 1 wdC l)), .c (.val (.slice none 0 0)), .c (.val (.slice none 0 0))]) (.agg (vlA (vFld p r c l))) :=
  imp_agg ⟨AtomI.refl _, AtomI.refl _, AtomI.nilN, AtomI.refl _, AtomI.nilN, AtomI.refl _, AtomI.refl _, AtomI.nil, AtomI.nil, AtomI.refl _, AtomI.refl _, AtomI.refl _, AtomI.refl _, AtomI.nil, AtomI.nil, trivial⟩
theorem imp_rng {p : Nat} {l : List Nat} : AV0.imp (.agg [.c (.val (.int .i64 5)), .c (.val (.bool false)), .c (.val (.slice none 0 0)), .c (.val (.bool false)), .c (.val (.slice none 0 0)), .c (.val (.int .i64 0)), .c (.val (.int .i64 0)), .c (.val (.slice none 0 0)), .c (.val (.slice none 0 0)), .c (.val (.int .u64 (p : Int))), .c (.val (.int .i64 0)), .c (.val (.int .i64 0)), .c (.val (.slice none 0 0)), .c (.sat (rowR 1 wdC l)), .c (.val (.slice none 0 0))]) (.agg (vlA (vRng p l))) :=
  imp_agg ⟨AtomI.refl _, AtomI.refl _, AtomI.nilN, AtomI.refl _, AtomI.nilN, AtomI.refl _, AtomI.refl _, AtomI.nil, AtomI.nil, AtomI.refl _, AtomI.refl _, AtomI.refl _, AtomI.nil, AtomI.refl _, AtomI.nil, trivial⟩
theorem lt64 {p : Nat} (hp : PrP p) {l : List Nat} (h : ∀ x ∈ l, x < p) : ∀ x ∈ l, x < 18446744073709551616 := fun x hx => by
  have h1 := h x hx
  have h2 := hp.lt
  omega
attribute [local irreducible] IntKind.wrap Go1 Reg WP thenK inBlk retQ retF RetF RetOK ResOK CallOK OpOK Sat
attribute [local irreducible] qsub qmul qquo qcmp qadd qv redS mf PrP qOk zOk vP fp64 lz vF cq rqv plen pNorm pBoth pScale mulV fA fS fM wlen wNorm wRest fNorm wvR wvP fmAdd fmScale fmMul fBoth fMul pMul mAdd mScale mxMul
theorem con_fieldsT (v : Vl) (r c : Nat) (l : List Nat) : PureOK Tryz.prog 112 [.agg (vlA v), .agg (fmA r c l), .v (.int .i64 0)] (.tup [.agg (vlA (vFld v.p r c l)), eNo 0]) := by
  refine PureOK.fnF Tryz.func112 Tryz.results112 Tryz.ntmps112 rfl rfl rfl (by simp [AV.ids, AV0.ids, Atom.ids]) rfl (fun w0 T B E0 hB => ?_)
  refine SX.goL ?_
  refine .ok (RetOK.mk2 ((ResOK.agg15 rfl rfl rfl).imp ?_) (ResOK.tmp rfl))
  exact imp_fld
theorem con_fieldsF (v : Vl) {r c : Int} {x : Rep} {e : Int} (he : e ≠ 0) : PureOK Tryz.prog 112 [.agg (vlA v), .agg [.c (.val (.int .i64 r)), .c (.val (.int .i64 c)), .c (.sat x)], .v (.int .i64 e)] (.tup [.agg (vlA v0), eNo e]) := by
  refine PureOK.fnF Tryz.func112 Tryz.results112 Tryz.ntmps112 rfl rfl rfl (by simp [AV.ids, AV0.ids, Atom.ids]) rfl (fun w0 T B E0 hB => ?_)
  refine SX.goL ?_
  refine .ok (RetOK.mk2 ((ResOK.agg15 rfl rfl rfl).imp ?_) (ResOK.tmp rfl))
  exact imp_none
section
variable {p r c : Nat} {l l' : List Nat} (hp : PrP p)
include hp
theorem con_neg4 (hl : l.length = r * c) (hr : r ≤ 64) (hc : c ≤ 64) (h : ∀ x ∈ l, x < p) : PureOK Tryz.prog 87 [.agg (vlA (vFld p r c l))] (.tup [.agg (vlA (vFld p r c (fmScale p r c l (p - 1)))), eNo 0]) := by
  have hpl := hp.lt
  have c0 := con_field (vFld p r c l) hp
  have c1 := con_fmScale hp hl hr hc (lt64 hp h) (x := p - 1) (by omega)
  have c2 := con_fieldsT (vFld p r c l) r c (fmScale p r c l (p - 1))
  have hw : IntKind.u64.wrap (((vFld p r c l).p : Int) - 1) = ((p - 1 : Nat) : Int) := by
    rw [show ((vFld p r c l).p : Int) - 1 = ((p - 1 : Nat) : Int) by show (p : Int) - 1 = _; omega]
    exact wrapN (by omega)
  refine PureOK.fnF Tryz.func87 Tryz.results87 Tryz.ntmps87 rfl rfl rfl (by simp [AV.ids, AV0.ids, Atom.ids]) rfl (fun w0 T B E0 hB => ?_)
  refine SX.goL ?_
  refine .ok (RetOK.mk2 (ResOK.agg15 rfl rfl rfl) (ResOK.tmp rfl))
theorem con_neg5 (hl : l.length ≤ 10000) (h : ∀ x ∈ l, x < p) : PureOK Tryz.prog 87 [.agg (vlA (vRng p l))] (.tup [.agg (vlA (vRng p (fSub p [] l))), eNo 0]) := by
  have c0 := con_field (vRng p l) hp
  have c1 := con_fSub0 hp hl (lt64 hp h)
  refine PureOK.fnF Tryz.func87 Tryz.results87 Tryz.ntmps87 rfl rfl rfl (by simp [AV.ids, AV0.ids, Atom.ids]) rfl (fun w0 T B E0 hB => ?_)
  refine SX.goL ?_
  refine .ok (RetOK.mk2 ((ResOK.agg15 rfl rfl rfl).imp ?_) (ResOK.tmp rfl))
  exact imp_rng
theorem con_sum4 (hl : l.length = r * c) (hl' : l'.length = r * c) (hr : r ≤ 64) (hc : c ≤ 64) (h : ∀ x ∈ l, x < p) (h' : ∀ x ∈ l', x < p) : PureOK Tryz.prog 47 [.agg (vlA (vFld p r c l)), .agg (vlA (vFld p r c l'))] (.tup [.agg (vlA (vFld p r c (fmAdd p r c l l'))), eNo 0]) := by
  have e0 : ((vFld p r c l).p : Int) = ((vFld p r c l').p : Int) := rfl
  have c0 := con_field (vFld p r c l) hp
  have c1 := con_fmAdd hp hl hr hc (lt64 hp h) hl' (lt64 hp h')
  have c2 := con_fieldsT (vFld p r c l) r c (fmAdd p r c l l')
  refine PureOK.fnF Tryz.func47 Tryz.results47 Tryz.ntmps47 rfl rfl rfl (by simp [AV.ids, AV0.ids, Atom.ids]) rfl (fun w0 T B E0 hB => ?_)
  refine SX.goL ?_
  refine .ok (RetOK.mk2 (ResOK.agg15 rfl rfl rfl) (ResOK.tmp rfl))
theorem con_sum4n {r' c' : Nat} (hl : l.length = r * c) (hl' : l'.length = r' * c') (hr : r ≤ 64) (hc : c ≤ 64) (hr' : r' ≤ 64) (hc' : c' ≤ 64) (hn : ¬ (r = r' ∧ c = c')) : PureOK Tryz.prog 47 [.agg (vlA (vFld p r c l)), .agg (vlA (vFld p r' c' l'))] (.tup [.agg (vlA v0), eNo 2]) := by
  have e0 : ((vFld p r c l).p : Int) = ((vFld p r' c' l').p : Int) := rfl
  have c0 := con_field (vFld p r c l) hp
  have c1 := con_fmAdd0 (p := p) hl hr hc hl' hr' hc' hn
  have c2 := con_fieldsF (vFld p r c l) (r := ((0 : Nat) : Int)) (c := ((0 : Nat) : Int)) (x := rowR 1 wdC []) (e := 2) (by decide)
  refine PureOK.fnF Tryz.func47 Tryz.results47 Tryz.ntmps47 rfl rfl rfl (by simp [AV.ids, AV0.ids, Atom.ids]) rfl (fun w0 T B E0 hB => ?_)
  refine SX.goL ?_
  refine .ok (RetOK.mk2 (ResOK.agg15 rfl rfl rfl) (ResOK.tmp rfl))
theorem con_sum5 (hl : l.length ≤ 10000) (hl' : l'.length ≤ 10000) (h : ∀ x ∈ l, x < p) (h' : ∀ x ∈ l', x < p) : PureOK Tryz.prog 47 [.agg (vlA (vRng p l)), .agg (vlA (vRng p l'))] (.tup [.agg (vlA (vRng p (fAdd p l l'))), eNo 0]) := by
  have e0 : ((vRng p l).p : Int) = ((vRng p l').p : Int) := rfl
  have c0 := con_field (vRng p l) hp
  have c1 := con_fAdd hp hl hl' (lt64 hp h) (lt64 hp h')
  refine PureOK.fnF Tryz.func47 Tryz.results47 Tryz.ntmps47 rfl rfl rfl (by simp [AV.ids, AV0.ids, Atom.ids]) rfl (fun w0 T B E0 hB => ?_)
  refine SX.goL ?_
  refine .ok (RetOK.mk2 ((ResOK.agg15 rfl rfl rfl).imp ?_) (ResOK.tmp rfl))
  exact imp_rng
theorem con_prod4 {d : Nat} (hl : l.length = r * c) (hl' : l'.length = c * d) (hr : r ≤ 64) (hc : c ≤ 64) (hd : d ≤ 64) (h : ∀ x ∈ l, x < p) (h' : ∀ x ∈ l', x < p) : PureOK Tryz.prog 104 [.agg (vlA (vFld p r c l)), .agg (vlA (vFld p c d l'))] (.tup [.agg (vlA (vFld p r d (fmMul p r c d l l'))), eNo 0]) := by
  have e0 : ((vFld p r c l).p : Int) = ((vFld p c d l').p : Int) := rfl
  have c0 := con_field (vFld p r c l) hp
  have c1 := con_fmMul hp hl hr hc (lt64 hp h) hl' hd (lt64 hp h')
  have c2 := con_fieldsT (vFld p r c l) r d (fmMul p r c d l l')
  refine PureOK.fnF Tryz.func104 Tryz.results104 Tryz.ntmps104 rfl rfl rfl (by simp [AV.ids, AV0.ids, Atom.ids]) rfl (fun w0 T B E0 hB => ?_)
  refine SX.goL ?_
  refine .ok (RetOK.mk2 (ResOK.agg15 rfl rfl rfl) (ResOK.tmp rfl))
theorem con_prod4n {c' d : Nat} (hl : l.length = r * c) (hl' : l'.length = c' * d) (hr : r ≤ 64) (hc : c ≤ 64) (hc' : c' ≤ 64) (hd : d ≤ 64) (hn : c ≠ c') : PureOK Tryz.prog 104 [.agg (vlA (vFld p r c l)), .agg (vlA (vFld p c' d l'))] (.tup [.agg (vlA v0), eNo 2]) := by
  have e0 : ((vFld p r c l).p : Int) = ((vFld p c' d l').p : Int) := rfl
  have c0 := con_field (vFld p r c l) hp
  have c1 := con_fmMul0 (p := p) hl hr hc hl' hc' hd hn
  have c2 := con_fieldsF (vFld p r c l) (r := ((0 : Nat) : Int)) (c := ((0 : Nat) : Int)) (x := rowR 1 wdC []) (e := 2) (by decide)
  refine PureOK.fnF Tryz.func104 Tryz.results104 Tryz.ntmps104 rfl rfl rfl (by simp [AV.ids, AV0.ids, Atom.ids]) rfl (fun w0 T B E0 hB => ?_)
  refine SX.goL ?_
  refine .ok (RetOK.mk2 (ResOK.agg15 rfl rfl rfl) (ResOK.tmp rfl))
theorem con_prod5 (hl : l.length ≤ 10000) (hl' : l'.length ≤ 10000) (h : ∀ x ∈ l, x < p) (h' : ∀ x ∈ l', x < p) : PureOK Tryz.prog 104 [.agg (vlA (vRng p l)), .agg (vlA (vRng p l'))] (.tup [.agg (vlA (vRng p (fMul p l l'))), eNo 0]) := by
  have e0 : ((vRng p l).p : Int) = ((vRng p l').p : Int) := rfl
  have c0 := con_field (vRng p l) hp
  have c1 := con_fMul hp hl hl' (lt64 hp h) (lt64 hp h')
  refine PureOK.fnF Tryz.func104 Tryz.results104 Tryz.ntmps104 rfl rfl rfl (by simp [AV.ids, AV0.ids, Atom.ids]) rfl (fun w0 T B E0 hB => ?_)
  refine SX.goL ?_
  refine .ok (RetOK.mk2 ((ResOK.agg15 rfl rfl rfl).imp ?_) (ResOK.tmp rfl))
  exact imp_rng
end
theorem con_sum2n {r c r' c' : Nat} {vs vs' : List Rat} (hl : vs.length = r * c) (hl' : vs'.length = r' * c') (hr : r ≤ 64) (hc : c ≤ 64) (hr' : r' ≤ 64) (hc' : c' ≤ 64) (hn : ¬ (r = r' ∧ c = c')) : PureOK Tryz.prog 47 [.agg (vlA (vMat r c vs)), .agg (vlA (vMat r' c' vs'))] (.tup [.agg (vlA v0), eNo 2]) := by
  have c1 := con_qmAdd0 (l := mq vs) (l' := mq vs') (by rw [mq_len]; exact hl) (by rw [mq_len]; exact hl') hr hc hr' hc' hn
  have c2 := con_matF (r := ((0 : Nat) : Int)) (c := ((0 : Nat) : Int)) (x := rowR 4 q4C []) (e := 2) (by decide)
  refine PureOK.fnF Tryz.func47 Tryz.results47 Tryz.ntmps47 rfl rfl rfl (by simp [AV.ids, AV0.ids, Atom.ids]) rfl (fun w0 T B E0 hB => ?_)
  refine SX.goL ?_
  refine .ok (RetOK.mk2 (ResOK.agg15 rfl rfl rfl) (ResOK.tmp rfl))
theorem con_prod2n {r c c' d : Nat} {vs vs' : List Rat} (hl : vs.length = r * c) (hl' : vs'.length = c' * d) (hr : r ≤ 64) (hc : c ≤ 64) (hc' : c' ≤ 64) (hd : d ≤ 64) (hn : ¬ c = c') : PureOK Tryz.prog 104 [.agg (vlA (vMat r c vs)), .agg (vlA (vMat c' d vs'))] (.tup [.agg (vlA v0), eNo 2]) := by
  have c1 := con_qmMul0 (l := mq vs) (l' := mq vs') (by rw [mq_len]; exact hl) (by rw [mq_len]; exact hl') hr hc hc' hd hn
  have c2 := con_matF (r := ((0 : Nat) : Int)) (c := ((0 : Nat) : Int)) (x := rowR 4 q4C []) (e := 2) (by decide)
  refine PureOK.fnF Tryz.func104 Tryz.results104 Tryz.ntmps104 rfl rfl rfl (by simp [AV.ids, AV0.ids, Atom.ids]) rfl (fun w0 T B E0 hB => ?_)
  refine SX.goL ?_
  refine .ok (RetOK.mk2 (ResOK.agg15 rfl rfl rfl) (ResOK.tmp rfl))
theorem con_sumP {u v : Vl} (h : u.p ≠ v.p) : PureOK Tryz.prog 47 [.agg (vlA u), .agg (vlA v)] (.tup [.agg (vlA v0), eNo 3]) := by
  have hn : ¬ ((u.p : Int) = (v.p : Int)) := by omega
  refine PureOK.fnF Tryz.func47 Tryz.results47 Tryz.ntmps47 rfl rfl rfl (by simp [AV.ids, AV0.ids, Atom.ids]) rfl (fun w0 T B E0 hB => ?_)
  refine SX.goL ?_
  refine .ok (RetOK.mk2 ((ResOK.agg15 rfl rfl rfl).imp ?_) (ResOK.tmp rfl))
  exact imp_none
theorem con_prodP {u v : Vl} (h : u.p ≠ v.p) : PureOK Tryz.prog 104 [.agg (vlA u), .agg (vlA v)] (.tup [.agg (vlA v0), eNo 3]) := by
  have hn : ¬ ((u.p : Int) = (v.p : Int)) := by omega
  refine PureOK.fnF Tryz.func104 Tryz.results104 Tryz.ntmps104 rfl rfl rfl (by simp [AV.ids, AV0.ids, Atom.ids]) rfl (fun w0 T B E0 hB => ?_)
  refine SX.goL ?_
  refine .ok (RetOK.mk2 ((ResOK.agg15 rfl rfl rfl).imp ?_) (ResOK.tmp rfl))
  exact imp_none
theorem con_neg6 (l : List Vl) : PureOK Tryz.prog 87 [.agg (vlA (vLst l))] (.tup [.agg (vlA v0), eNo 5]) := by
  refine PureOK.fnF Tryz.func87 Tryz.results87 Tryz.ntmps87 rfl rfl rfl (by simp [AV.ids, AV0.ids, Atom.ids]) rfl (fun w0 T B E0 hB => ?_)
  refine SX.goL ?_
  refine .ok (RetOK.mk2 ((ResOK.agg15 rfl rfl rfl).imp ?_) (ResOK.tmp rfl))
  exact imp_none
theorem con_sum6 (l l' : List Vl) : PureOK Tryz.prog 47 [.agg (vlA (vLst l)), .agg (vlA (vLst l'))] (.tup [.agg (vlA v0), eNo 5]) := by
  refine PureOK.fnF Tryz.func47 Tryz.results47 Tryz.ntmps47 rfl rfl rfl (by simp [AV.ids, AV0.ids, Atom.ids]) rfl (fun w0 T B E0 hB => ?_)
  refine SX.goL ?_
  refine .ok (RetOK.mk2 ((ResOK.agg15 rfl rfl rfl).imp ?_) (ResOK.tmp rfl))
  exact imp_none
theorem con_prod6 (l l' : List Vl) : PureOK Tryz.prog 104 [.agg (vlA (vLst l)), .agg (vlA (vLst l'))] (.tup [.agg (vlA v0), eNo 5]) := by
  refine PureOK.fnF Tryz.func104 Tryz.results104 Tryz.ntmps104 rfl rfl rfl (by simp [AV.ids, AV0.ids, Atom.ids]) rfl (fun w0 T B E0 hB => ?_)
  refine SX.goL ?_
  refine .ok (RetOK.mk2 ((ResOK.agg15 rfl rfl rfl).imp ?_) (ResOK.tmp rfl))
  exact imp_none
end Go.Proofs.YtfhpmbenldgfnaaGreatDoor
set_option linter.unusedVariables false
set_option linter.unusedSimpArgs false
namespace Go.Proofs.YtfhpmbenldgfnaaGreatDoor
open Go.RowKit QM SX LA
theorem not_prime0 : ¬ PrP 0 := fun h => by have := h.lt; omega
attribute [local irreducible] IntKind.wrap Go1 Reg WP thenK inBlk retQ retF RetF RetOK ResOK CallOK OpOK Sat
attribute [local irreducible] qsub qmul qquo qcmp qadd qv redS mf PrP qOk zOk vP fp64 lz vF cq rqv plen pNorm pBoth pScale mulV fA fS fM wlen wNorm wRest fNorm wvR wvP fmAdd fmScale fmMul fBoth fMul pMul mAdd mScale mxMul
theorem con_gfNew0 : PureOK Tryz.prog 74 [.v (.int .u64 0)] (.tup [.agg (gfA 0), .one (.c (.val (.bool false)))]) := by
  have c : PureOK Tryz.prog 159 [.v (.int .u64 0)] (.v (.bool (decide (PrP 0)))) := con_PrimeM 0 (by decide)
  rw [decide_eq_false not_prime0] at c
  refine PureOK.fnF Tryz.func74 Tryz.results74 Tryz.ntmps74 rfl rfl rfl (by simp [AV.ids, AV0.ids, Atom.ids]) rfl (fun w0 T B E0 hB => ?_)
  refine SX.goL ?_
  exact .ok (RetOK.mk2 (ResOK.agg1 rfl rfl rfl) (ResOK.tmp rfl))

set_option maxRecDepth 20000 in
set_option maxHeartbeats 2000000 in
theorem con_want1_4 {x y : Rat} {K L : Nat} (hx : RB x K) (hy : RB y L) (hK : K + L ≤ 300000) : PureOK Tryz.prog 30 [.v (.int .i64 4), .agg (vlA (vNum x)), .agg (vlA (vNum y))] (.tup [.agg (vlA (vNum (x + y))), eNo 0]) := by
  have c0 := con_gfNew0
  haveI := Ra.cq hx
  haveI := Ra.cq hy
  obtain ⟨X, cA, hX⟩ := eAdd (q4A (rq (cq x))) (q4A (rq (cq y))) (K := K) (K' := L) (by omega)
  have e := hX.nf
  subst e
  obtain ⟨X, cS, hX⟩ := eSub (q4A (rq (cq x))) (q4A (rq (cq y))) (K := K) (K' := L) (by omega)
  have e := hX.nf
  subst e
  obtain ⟨X, cM, hX⟩ := eMul (q4A (rq (cq x))) (q4A (rq (cq y))) (K := K) (K' := L) (by omega)
  have e := hX.nf
  subst e
  refine PureOK.fnF Tryz.func30 Tryz.results30 Tryz.ntmps30 rfl rfl rfl (by simp [AV.ids, AV0.ids, Atom.ids]) rfl (fun w0 T B E0 hB => ?_)
  refine SX.goL ?_
  refine SX.G.indexA4 (i := 0) ?_
  refine SX.goL ?_
  refine .ok (RetOK.mk2 ((ResOK.agg15 rfl rfl rfl).imp ?_) (ResOK.tmp rfl))
  exact imp_num
set_option maxRecDepth 20000 in
set_option maxHeartbeats 2000000 in
theorem con_want1_5 {x y : Rat} {K L : Nat} (hx : RB x K) (hy : RB y L) (hK : K + L ≤ 300000) : PureOK Tryz.prog 30 [.v (.int .i64 5), .agg (vlA (vNum x)), .agg (vlA (vNum y))] (.tup [.agg (vlA (vNum (x - y))), eNo 0]) := by
  have c0 := con_gfNew0
  haveI := Ra.cq hx
  haveI := Ra.cq hy
  obtain ⟨X, cA, hX⟩ := eAdd (q4A (rq (cq x))) (q4A (rq (cq y))) (K := K) (K' := L) (by omega)
  have e := hX.nf
  subst e
  obtain ⟨X, cS, hX⟩ := eSub (q4A (rq (cq x))) (q4A (rq (cq y))) (K := K) (K' := L) (by omega)
  have e := hX.nf
  subst e
  obtain ⟨X, cM, hX⟩ := eMul (q4A (rq (cq x))) (q4A (rq (cq y))) (K := K) (K' := L) (by omega)
  have e := hX.nf
  subst e
  refine PureOK.fnF Tryz.func30 Tryz.results30 Tryz.ntmps30 rfl rfl rfl (by simp [AV.ids, AV0.ids, Atom.ids]) rfl (fun w0 T B E0 hB => ?_)
  refine SX.goL ?_
  refine SX.G.indexA4 (i := 1) ?_
  refine SX.goL ?_
  refine .ok (RetOK.mk2 ((ResOK.agg15 rfl rfl rfl).imp ?_) (ResOK.tmp rfl))
  exact imp_num
set_option maxRecDepth 20000 in
set_option maxHeartbeats 2000000 in
theorem con_want1_6 {x y : Rat} {K L : Nat} (hx : RB x K) (hy : RB y L) (hK : K + L ≤ 300000) : PureOK Tryz.prog 30 [.v (.int .i64 6), .agg (vlA (vNum x)), .agg (vlA (vNum y))] (.tup [.agg (vlA (vNum (x * y))), eNo 0]) := by
  have c0 := con_gfNew0
  haveI := Ra.cq hx
  haveI := Ra.cq hy
  obtain ⟨X, cA, hX⟩ := eAdd (q4A (rq (cq x))) (q4A (rq (cq y))) (K := K) (K' := L) (by omega)
  have e := hX.nf
  subst e
  obtain ⟨X, cS, hX⟩ := eSub (q4A (rq (cq x))) (q4A (rq (cq y))) (K := K) (K' := L) (by omega)
  have e := hX.nf
  subst e
  obtain ⟨X, cM, hX⟩ := eMul (q4A (rq (cq x))) (q4A (rq (cq y))) (K := K) (K' := L) (by omega)
  have e := hX.nf
  subst e
  refine PureOK.fnF Tryz.func30 Tryz.results30 Tryz.ntmps30 rfl rfl rfl (by simp [AV.ids, AV0.ids, Atom.ids]) rfl (fun w0 T B E0 hB => ?_)
  refine SX.goL ?_
  refine SX.G.indexA4 (i := 2) ?_
  refine SX.goL ?_
  refine .ok (RetOK.mk2 ((ResOK.agg15 rfl rfl rfl).imp ?_) (ResOK.tmp rfl))
  exact imp_num
set_option maxRecDepth 20000 in
set_option maxHeartbeats 2000000 in
theorem con_want3_4 {a b : List Int} {K L : Nat} (h : ∀ z ∈ a, z.natAbs < WB ^ K) (h' : ∀ z ∈ b, z.natAbs < WB ^ L) (hn : pN a) (hn' : pN b) (hl : a.length ≤ 4000) (hl' : b.length ≤ 4000) (hK : K + L ≤ 90000) : PureOK Tryz.prog 30 [.v (.int .i64 4), .agg (vlA (vPol a)), .agg (vlA (vPol b))] (.tup [.agg (vlA (vPol (pAdd a b))), eNo 0]) := by
  have c0 := con_gfNew0
  have cA := con_pAdd (MZ.ofz h) (MZ.ofz h') (by rw [mz_len]; omega) (by rw [mz_len]; omega) (by omega)
  have cS := con_pSub (MZ.ofz h) (MZ.ofz h') (by rw [mz_len]; omega) (by rw [mz_len]; omega) (by omega)
  have cM := con_pMul (MZ.ofz h) (MZ.ofz h') hn hn' (by rw [mz_len]; omega) (by rw [mz_len]; omega) (by rw [mz_len]; omega) h h'
  refine PureOK.fnF Tryz.func30 Tryz.results30 Tryz.ntmps30 rfl rfl rfl (by simp [AV.ids, AV0.ids, Atom.ids]) rfl (fun w0 T B E0 hB => ?_)
  refine SX.goL ?_
  refine .ok (RetOK.mk2 ((ResOK.agg15 rfl rfl rfl).imp ?_) (ResOK.tmp rfl))
  exact imp_pol
set_option maxRecDepth 20000 in
set_option maxHeartbeats 2000000 in
theorem con_want3_5 {a b : List Int} {K L : Nat} (h : ∀ z ∈ a, z.natAbs < WB ^ K) (h' : ∀ z ∈ b, z.natAbs < WB ^ L) (hn : pN a) (hn' : pN b) (hl : a.length ≤ 4000) (hl' : b.length ≤ 4000) (hK : K + L ≤ 90000) : PureOK Tryz.prog 30 [.v (.int .i64 5), .agg (vlA (vPol a)), .agg (vlA (vPol b))] (.tup [.agg (vlA (vPol (pSub a b))), eNo 0]) := by
  have c0 := con_gfNew0
  have cA := con_pAdd (MZ.ofz h) (MZ.ofz h') (by rw [mz_len]; omega) (by rw [mz_len]; omega) (by omega)
  have cS := con_pSub (MZ.ofz h) (MZ.ofz h') (by rw [mz_len]; omega) (by rw [mz_len]; omega) (by omega)
  have cM := con_pMul (MZ.ofz h) (MZ.ofz h') hn hn' (by rw [mz_len]; omega) (by rw [mz_len]; omega) (by rw [mz_len]; omega) h h'
  refine PureOK.fnF Tryz.func30 Tryz.results30 Tryz.ntmps30 rfl rfl rfl (by simp [AV.ids, AV0.ids, Atom.ids]) rfl (fun w0 T B E0 hB => ?_)
  refine SX.goL ?_
  refine .ok (RetOK.mk2 ((ResOK.agg15 rfl rfl rfl).imp ?_) (ResOK.tmp rfl))
  exact imp_pol
set_option maxRecDepth 20000 in
set_option maxHeartbeats 2000000 in
theorem con_want3_6 {a b : List Int} {K L : Nat} (h : ∀ z ∈ a, z.natAbs < WB ^ K) (h' : ∀ z ∈ b, z.natAbs < WB ^ L) (hn : pN a) (hn' : pN b) (hl : a.length ≤ 4000) (hl' : b.length ≤ 4000) (hK : K + L ≤ 90000) : PureOK Tryz.prog 30 [.v (.int .i64 6), .agg (vlA (vPol a)), .agg (vlA (vPol b))] (.tup [.agg (vlA (vPol (pMul a b))), eNo 0]) := by
  have c0 := con_gfNew0
  have cA := con_pAdd (MZ.ofz h) (MZ.ofz h') (by rw [mz_len]; omega) (by rw [mz_len]; omega) (by omega)
  have cS := con_pSub (MZ.ofz h) (MZ.ofz h') (by rw [mz_len]; omega) (by rw [mz_len]; omega) (by omega)
  have cM := con_pMul (MZ.ofz h) (MZ.ofz h') hn hn' (by rw [mz_len]; omega) (by rw [mz_len]; omega) (by rw [mz_len]; omega) h h'
  refine PureOK.fnF Tryz.func30 Tryz.results30 Tryz.ntmps30 rfl rfl rfl (by simp [AV.ids, AV0.ids, Atom.ids]) rfl (fun w0 T B E0 hB => ?_)
  refine SX.goL ?_
  refine .ok (RetOK.mk2 ((ResOK.agg15 rfl rfl rfl).imp ?_) (ResOK.tmp rfl))
  exact imp_pol
set_option maxRecDepth 20000 in
set_option maxHeartbeats 2000000 in
theorem con_want5_4 {p : Nat} {a b : List Nat} (hp : PrP p) (h : ∀ z ∈ a, z < p) (h' : ∀ z ∈ b, z < p) (hl : a.length ≤ 10000) (hl' : b.length ≤ 10000) : PureOK Tryz.prog 30 [.v (.int .i64 4), .agg (vlA (vRng p a)), .agg (vlA (vRng p b))] (.tup [.agg (vlA (vRng p (fAdd p a b))), eNo 0]) := by
  have c0 := con_gfNew hp
  have cA := con_fAdd hp hl hl' (lt64 hp h) (lt64 hp h')
  have cS := con_fSub hp hl hl' (lt64 hp h) (lt64 hp h')
  have cM := con_fMul hp hl hl' (lt64 hp h) (lt64 hp h')
  have e0 : ((vRng p a).p : Int) = ((vRng p b).p : Int) := rfl
  refine PureOK.fnF Tryz.func30 Tryz.results30 Tryz.ntmps30 rfl rfl rfl (by simp [AV.ids, AV0.ids, Atom.ids]) rfl (fun w0 T B E0 hB => ?_)
  refine SX.goL ?_
  refine .ok (RetOK.mk2 ((ResOK.agg15 rfl rfl rfl).imp ?_) (ResOK.tmp rfl))
  exact imp_rng
set_option maxRecDepth 20000 in
set_option maxHeartbeats 2000000 in
theorem con_want5P_4 {p q : Nat} {a b : List Nat} (hp : PrP p) (hq : PrP q) (hpq : p ≠ q) (h : ∀ z ∈ a, z < p) (h' : ∀ z ∈ b, z < q) (hl : a.length ≤ 10000) (hl' : b.length ≤ 10000) : PureOK Tryz.prog 30 [.v (.int .i64 4), .agg (vlA (vRng p a)), .agg (vlA (vRng q b))] (.tup [.agg (vlA v0), eNo 3]) := by
  have c0 := con_gfNew hp
  have cA := con_fAdd hp hl hl' (lt64 hp h) (lt64 hq h')
  have cS := con_fSub hp hl hl' (lt64 hp h) (lt64 hq h')
  have cM := con_fMul hp hl hl' (lt64 hp h) (lt64 hq h')
  have e0 : ¬ ((vRng p a).p : Int) = ((vRng q b).p : Int) := fun e => hpq (Int.ofNat_inj.1 e)
  refine PureOK.fnF Tryz.func30 Tryz.results30 Tryz.ntmps30 rfl rfl rfl (by simp [AV.ids, AV0.ids, Atom.ids]) rfl (fun w0 T B E0 hB => ?_)
  refine SX.goL ?_
  refine .ok (RetOK.mk2 ((ResOK.agg15 rfl rfl rfl).imp ?_) (ResOK.tmp rfl))
  exact imp_none
set_option maxRecDepth 20000 in
set_option maxHeartbeats 2000000 in
theorem con_want5_5 {p : Nat} {a b : List Nat} (hp : PrP p) (h : ∀ z ∈ a, z < p) (h' : ∀ z ∈ b, z < p) (hl : a.length ≤ 10000) (hl' : b.length ≤ 10000) : PureOK Tryz.prog 30 [.v (.int .i64 5), .agg (vlA (vRng p a)), .agg (vlA (vRng p b))] (.tup [.agg (vlA (vRng p (fSub p a b))), eNo 0]) := by
  have c0 := con_gfNew hp
  have cA := con_fAdd hp hl hl' (lt64 hp h) (lt64 hp h')
  have cS := con_fSub hp hl hl' (lt64 hp h) (lt64 hp h')
  have cM := con_fMul hp hl hl' (lt64 hp h) (lt64 hp h')
  have e0 : ((vRng p a).p : Int) = ((vRng p b).p : Int) := rfl
  refine PureOK.fnF Tryz.func30 Tryz.results30 Tryz.ntmps30 rfl rfl rfl (by simp [AV.ids, AV0.ids, Atom.ids]) rfl (fun w0 T B E0 hB => ?_)
  refine SX.goL ?_
  refine .ok (RetOK.mk2 ((ResOK.agg15 rfl rfl rfl).imp ?_) (ResOK.tmp rfl))
  exact imp_rng
set_option maxRecDepth 20000 in
set_option maxHeartbeats 2000000 in
theorem con_want5P_5 {p q : Nat} {a b : List Nat} (hp : PrP p) (hq : PrP q) (hpq : p ≠ q) (h : ∀ z ∈ a, z < p) (h' : ∀ z ∈ b, z < q) (hl : a.length ≤ 10000) (hl' : b.length ≤ 10000) : PureOK Tryz.prog 30 [.v (.int .i64 5), .agg (vlA (vRng p a)), .agg (vlA (vRng q b))] (.tup [.agg (vlA v0), eNo 3]) := by
  have c0 := con_gfNew hp
  have cA := con_fAdd hp hl hl' (lt64 hp h) (lt64 hq h')
  have cS := con_fSub hp hl hl' (lt64 hp h) (lt64 hq h')
  have cM := con_fMul hp hl hl' (lt64 hp h) (lt64 hq h')
  have e0 : ¬ ((vRng p a).p : Int) = ((vRng q b).p : Int) := fun e => hpq (Int.ofNat_inj.1 e)
  refine PureOK.fnF Tryz.func30 Tryz.results30 Tryz.ntmps30 rfl rfl rfl (by simp [AV.ids, AV0.ids, Atom.ids]) rfl (fun w0 T B E0 hB => ?_)
  refine SX.goL ?_
  refine .ok (RetOK.mk2 ((ResOK.agg15 rfl rfl rfl).imp ?_) (ResOK.tmp rfl))
  exact imp_none
set_option maxRecDepth 20000 in
set_option maxHeartbeats 2000000 in
theorem con_want5_6 {p : Nat} {a b : List Nat} (hp : PrP p) (h : ∀ z ∈ a, z < p) (h' : ∀ z ∈ b, z < p) (hl : a.length ≤ 10000) (hl' : b.length ≤ 10000) : PureOK Tryz.prog 30 [.v (.int .i64 6), .agg (vlA (vRng p a)), .agg (vlA (vRng p b))] (.tup [.agg (vlA (vRng p (fMul p a b))), eNo 0]) := by
  have c0 := con_gfNew hp
  have cA := con_fAdd hp hl hl' (lt64 hp h) (lt64 hp h')
  have cS := con_fSub hp hl hl' (lt64 hp h) (lt64 hp h')
  have cM := con_fMul hp hl hl' (lt64 hp h) (lt64 hp h')
  have e0 : ((vRng p a).p : Int) = ((vRng p b).p : Int) := rfl
  refine PureOK.fnF Tryz.func30 Tryz.results30 Tryz.ntmps30 rfl rfl rfl (by simp [AV.ids, AV0.ids, Atom.ids]) rfl (fun w0 T B E0 hB => ?_)
  refine SX.goL ?_
  refine .ok (RetOK.mk2 ((ResOK.agg15 rfl rfl rfl).imp ?_) (ResOK.tmp rfl))
  exact imp_rng
set_option maxRecDepth 20000 in
set_option maxHeartbeats 2000000 in
theorem con_want5P_6 {p q : Nat} {a b : List Nat} (hp : PrP p) (hq : PrP q) (hpq : p ≠ q) (h : ∀ z ∈ a, z < p) (h' : ∀ z ∈ b, z < q) (hl : a.length ≤ 10000) (hl' : b.length ≤ 10000) : PureOK Tryz.prog 30 [.v (.int .i64 6), .agg (vlA (vRng p a)), .agg (vlA (vRng q b))] (.tup [.agg (vlA v0), eNo 3]) := by
  have c0 := con_gfNew hp
  have cA := con_fAdd hp hl hl' (lt64 hp h) (lt64 hq h')
  have cS := con_fSub hp hl hl' (lt64 hp h) (lt64 hq h')
  have cM := con_fMul hp hl hl' (lt64 hp h) (lt64 hq h')
  have e0 : ¬ ((vRng p a).p : Int) = ((vRng q b).p : Int) := fun e => hpq (Int.ofNat_inj.1 e)
  refine PureOK.fnF Tryz.func30 Tryz.results30 Tryz.ntmps30 rfl rfl rfl (by simp [AV.ids, AV0.ids, Atom.ids]) rfl (fun w0 T B E0 hB => ?_)
  refine SX.goL ?_
  refine .ok (RetOK.mk2 ((ResOK.agg15 rfl rfl rfl).imp ?_) (ResOK.tmp rfl))
  exact imp_none
set_option maxRecDepth 20000 in
set_option maxHeartbeats 2000000 in
theorem con_want2_4 {r c r' c' : Nat} {vs vs' : List Rat} {K L r1 c1 r2 c2 r3 c3 : Nat} {l1 l2 l3 : List Rat} {e1 e2 e3 : Int} (h : ∀ v ∈ vs, RB v K) (h' : ∀ v ∈ vs', RB v L) (hl : vs.length = r * c) (hl' : vs'.length = r' * c') (hr : r' ≤ 64) (hc : c' ≤ 64) (h1 : 1 ≤ L) (hL : L ≤ 100000) (cA : PureOK Tryz.prog 77 [.agg (matQ r c (mq vs)), .agg (matQ r' c' (mq vs'))] (.tup [.agg (matQ r1 c1 (l1.map q4v)), eNo e1])) (he : e1 = 0) : PureOK Tryz.prog 30 [.v (.int .i64 4), .agg (vlA (vMat r c vs)), .agg (vlA (vMat r' c' vs'))] (.tup [.agg (vlA (vMat r1 c1 l1)), eNo 0]) := by
  have c0 := con_gfNew0
  have o1 : PureOK Tryz.prog 23 [.v (.int .i64 (-1))] (.agg (zN (-1))) := con_zOf.h ⟨by decide, by decide⟩
  haveI b1 : Bd (-1) 1 := ⟨by rw [WB_eq]; decide⟩
  have o2 : PureOK Tryz.prog 36 [.agg (zN (-1))] (.agg (qA (-1))) := con_rOf.h (by decide)
  have cm := con_qmScale (d := q4v (-1)) (v := -1) (K' := 1) (MV.cq h') (by rw [mq_len]; exact hl') (RB.ofI (z := -1) b1.h (by decide)).ra hr hc h1 (by decide) (by omega)
  rw [matA_matQ] at cm
  subst he
  refine PureOK.fnF Tryz.func30 Tryz.results30 Tryz.ntmps30 rfl rfl rfl (by simp [AV.ids, AV0.ids, Atom.ids]) rfl (fun w0 T B E0 hB => ?_)
  refine SX.goL ?_
  refine .ok (RetOK.mk2 ((ResOK.agg15 rfl rfl rfl).imp ?_) (ResOK.tmp rfl))
  exact imp_mat
set_option maxRecDepth 20000 in
set_option maxHeartbeats 2000000 in
theorem con_want2e_4 {r c r' c' : Nat} {vs vs' : List Rat} {K L r1 c1 r2 c2 r3 c3 : Nat} {l1 l2 l3 : List Rat} {e1 e2 e3 : Int} (h : ∀ v ∈ vs, RB v K) (h' : ∀ v ∈ vs', RB v L) (hl : vs.length = r * c) (hl' : vs'.length = r' * c') (hr : r' ≤ 64) (hc : c' ≤ 64) (h1 : 1 ≤ L) (hL : L ≤ 100000) (cA : PureOK Tryz.prog 77 [.agg (matQ r c (mq vs)), .agg (matQ r' c' (mq vs'))] (.tup [.agg (matQ r1 c1 (l1.map q4v)), eNo e1])) (he : e1 ≠ 0) : PureOK Tryz.prog 30 [.v (.int .i64 4), .agg (vlA (vMat r c vs)), .agg (vlA (vMat r' c' vs'))] (.tup [.agg (vlA v0), eNo e1]) := by
  have c0 := con_gfNew0
  have o1 : PureOK Tryz.prog 23 [.v (.int .i64 (-1))] (.agg (zN (-1))) := con_zOf.h ⟨by decide, by decide⟩
  haveI b1 : Bd (-1) 1 := ⟨by rw [WB_eq]; decide⟩
  have o2 : PureOK Tryz.prog 36 [.agg (zN (-1))] (.agg (qA (-1))) := con_rOf.h (by decide)
  have cm := con_qmScale (d := q4v (-1)) (v := -1) (K' := 1) (MV.cq h') (by rw [mq_len]; exact hl') (RB.ofI (z := -1) b1.h (by decide)).ra hr hc h1 (by decide) (by omega)
  rw [matA_matQ] at cm
  refine PureOK.fnF Tryz.func30 Tryz.results30 Tryz.ntmps30 rfl rfl rfl (by simp [AV.ids, AV0.ids, Atom.ids]) rfl (fun w0 T B E0 hB => ?_)
  refine SX.goL ?_
  refine .ok (RetOK.mk2 ((ResOK.agg15 rfl rfl rfl).imp ?_) (ResOK.tmp rfl))
  exact imp_none
set_option maxRecDepth 20000 in
set_option maxHeartbeats 2000000 in
theorem con_want2_5 {r c r' c' : Nat} {vs vs' : List Rat} {K L r1 c1 r2 c2 r3 c3 : Nat} {l1 l2 l3 : List Rat} {e1 e2 e3 : Int} (h : ∀ v ∈ vs, RB v K) (h' : ∀ v ∈ vs', RB v L) (hl : vs.length = r * c) (hl' : vs'.length = r' * c') (hr : r' ≤ 64) (hc : c' ≤ 64) (h1 : 1 ≤ L) (hL : L ≤ 100000) (cA : PureOK Tryz.prog 77 [.agg (matQ r c (mq vs)), .agg (matQ r' c' (mq vs'))] (.tup [.agg (matQ r1 c1 (l1.map q4v)), eNo e1])) (cS : PureOK Tryz.prog 77 [.agg (matQ r c (mq vs)), .agg (matQ r' c' ((mScale r' c' vs' (-1)).map q4v))] (.tup [.agg (matQ r2 c2 (l2.map q4v)), eNo e2])) (he : e2 = 0) : PureOK Tryz.prog 30 [.v (.int .i64 5), .agg (vlA (vMat r c vs)), .agg (vlA (vMat r' c' vs'))] (.tup [.agg (vlA (vMat r2 c2 l2)), eNo 0]) := by
  have c0 := con_gfNew0
  have o1 : PureOK Tryz.prog 23 [.v (.int .i64 (-1))] (.agg (zN (-1))) := con_zOf.h ⟨by decide, by decide⟩
  haveI b1 : Bd (-1) 1 := ⟨by rw [WB_eq]; decide⟩
  have o2 : PureOK Tryz.prog 36 [.agg (zN (-1))] (.agg (qA (-1))) := con_rOf.h (by decide)
  have cm := con_qmScale (d := q4v (-1)) (v := -1) (K' := 1) (MV.cq h') (by rw [mq_len]; exact hl') (RB.ofI (z := -1) b1.h (by decide)).ra hr hc h1 (by decide) (by omega)
  rw [matA_matQ] at cm
  subst he
  unfold mScale at cS
  refine PureOK.fnF Tryz.func30 Tryz.results30 Tryz.ntmps30 rfl rfl rfl (by simp [AV.ids, AV0.ids, Atom.ids]) rfl (fun w0 T B E0 hB => ?_)
  refine SX.goL ?_
  refine .ok (RetOK.mk2 ((ResOK.agg15 rfl rfl rfl).imp ?_) (ResOK.tmp rfl))
  exact imp_mat
set_option maxRecDepth 20000 in
set_option maxHeartbeats 2000000 in
theorem con_want2e_5 {r c r' c' : Nat} {vs vs' : List Rat} {K L r1 c1 r2 c2 r3 c3 : Nat} {l1 l2 l3 : List Rat} {e1 e2 e3 : Int} (h : ∀ v ∈ vs, RB v K) (h' : ∀ v ∈ vs', RB v L) (hl : vs.length = r * c) (hl' : vs'.length = r' * c') (hr : r' ≤ 64) (hc : c' ≤ 64) (h1 : 1 ≤ L) (hL : L ≤ 100000) (cA : PureOK Tryz.prog 77 [.agg (matQ r c (mq vs)), .agg (matQ r' c' (mq vs'))] (.tup [.agg (matQ r1 c1 (l1.map q4v)), eNo e1])) (cS : PureOK Tryz.prog 77 [.agg (matQ r c (mq vs)), .agg (matQ r' c' ((mScale r' c' vs' (-1)).map q4v))] (.tup [.agg (matQ r2 c2 (l2.map q4v)), eNo e2])) (he : e2 ≠ 0) : PureOK Tryz.prog 30 [.v (.int .i64 5), .agg (vlA (vMat r c vs)), .agg (vlA (vMat r' c' vs'))] (.tup [.agg (vlA v0), eNo e2]) := by
  have c0 := con_gfNew0
  have o1 : PureOK Tryz.prog 23 [.v (.int .i64 (-1))] (.agg (zN (-1))) := con_zOf.h ⟨by decide, by decide⟩
  haveI b1 : Bd (-1) 1 := ⟨by rw [WB_eq]; decide⟩
  have o2 : PureOK Tryz.prog 36 [.agg (zN (-1))] (.agg (qA (-1))) := con_rOf.h (by decide)
  have cm := con_qmScale (d := q4v (-1)) (v := -1) (K' := 1) (MV.cq h') (by rw [mq_len]; exact hl') (RB.ofI (z := -1) b1.h (by decide)).ra hr hc h1 (by decide) (by omega)
  rw [matA_matQ] at cm
  unfold mScale at cS
  refine PureOK.fnF Tryz.func30 Tryz.results30 Tryz.ntmps30 rfl rfl rfl (by simp [AV.ids, AV0.ids, Atom.ids]) rfl (fun w0 T B E0 hB => ?_)
  refine SX.goL ?_
  refine .ok (RetOK.mk2 ((ResOK.agg15 rfl rfl rfl).imp ?_) (ResOK.tmp rfl))
  exact imp_none
set_option maxRecDepth 20000 in
set_option maxHeartbeats 2000000 in
theorem con_want2_6 {r c r' c' : Nat} {vs vs' : List Rat} {K L r1 c1 r2 c2 r3 c3 : Nat} {l1 l2 l3 : List Rat} {e1 e2 e3 : Int} (h : ∀ v ∈ vs, RB v K) (h' : ∀ v ∈ vs', RB v L) (hl : vs.length = r * c) (hl' : vs'.length = r' * c') (hr : r' ≤ 64) (hc : c' ≤ 64) (h1 : 1 ≤ L) (hL : L ≤ 100000) (cA : PureOK Tryz.prog 77 [.agg (matQ r c (mq vs)), .agg (matQ r' c' (mq vs'))] (.tup [.agg (matQ r1 c1 (l1.map q4v)), eNo e1])) (cM : PureOK Tryz.prog 78 [.agg (matQ r c (mq vs)), .agg (matQ r' c' (mq vs'))] (.tup [.agg (matQ r3 c3 (l3.map q4v)), eNo e3])) (he : e3 = 0) : PureOK Tryz.prog 30 [.v (.int .i64 6), .agg (vlA (vMat r c vs)), .agg (vlA (vMat r' c' vs'))] (.tup [.agg (vlA (vMat r3 c3 l3)), eNo 0]) := by
  have c0 := con_gfNew0
  have o1 : PureOK Tryz.prog 23 [.v (.int .i64 (-1))] (.agg (zN (-1))) := con_zOf.h ⟨by decide, by decide⟩
  haveI b1 : Bd (-1) 1 := ⟨by rw [WB_eq]; decide⟩
  have o2 : PureOK Tryz.prog 36 [.agg (zN (-1))] (.agg (qA (-1))) := con_rOf.h (by decide)
  have cm := con_qmScale (d := q4v (-1)) (v := -1) (K' := 1) (MV.cq h') (by rw [mq_len]; exact hl') (RB.ofI (z := -1) b1.h (by decide)).ra hr hc h1 (by decide) (by omega)
  rw [matA_matQ] at cm
  subst he
  refine PureOK.fnF Tryz.func30 Tryz.results30 Tryz.ntmps30 rfl rfl rfl (by simp [AV.ids, AV0.ids, Atom.ids]) rfl (fun w0 T B E0 hB => ?_)
  refine SX.goL ?_
  refine .ok (RetOK.mk2 ((ResOK.agg15 rfl rfl rfl).imp ?_) (ResOK.tmp rfl))
  exact imp_mat
set_option maxRecDepth 20000 in
set_option maxHeartbeats 2000000 in
theorem con_want2e_6 {r c r' c' : Nat} {vs vs' : List Rat} {K L r1 c1 r2 c2 r3 c3 : Nat} {l1 l2 l3 : List Rat} {e1 e2 e3 : Int} (h : ∀ v ∈ vs, RB v K) (h' : ∀ v ∈ vs', RB v L) (hl : vs.length = r * c) (hl' : vs'.length = r' * c') (hr : r' ≤ 64) (hc : c' ≤ 64) (h1 : 1 ≤ L) (hL : L ≤ 100000) (cA : PureOK Tryz.prog 77 [.agg (matQ r c (mq vs)), .agg (matQ r' c' (mq vs'))] (.tup [.agg (matQ r1 c1 (l1.map q4v)), eNo e1])) (cM : PureOK Tryz.prog 78 [.agg (matQ r c (mq vs)), .agg (matQ r' c' (mq vs'))] (.tup [.agg (matQ r3 c3 (l3.map q4v)), eNo e3])) (he : e3 ≠ 0) : PureOK Tryz.prog 30 [.v (.int .i64 6), .agg (vlA (vMat r c vs)), .agg (vlA (vMat r' c' vs'))] (.tup [.agg (vlA v0), eNo e3]) := by
  have c0 := con_gfNew0
  have o1 : PureOK Tryz.prog 23 [.v (.int .i64 (-1))] (.agg (zN (-1))) := con_zOf.h ⟨by decide, by decide⟩
  haveI b1 : Bd (-1) 1 := ⟨by rw [WB_eq]; decide⟩
  have o2 : PureOK Tryz.prog 36 [.agg (zN (-1))] (.agg (qA (-1))) := con_rOf.h (by decide)
  have cm := con_qmScale (d := q4v (-1)) (v := -1) (K' := 1) (MV.cq h') (by rw [mq_len]; exact hl') (RB.ofI (z := -1) b1.h (by decide)).ra hr hc h1 (by decide) (by omega)
  rw [matA_matQ] at cm
  refine PureOK.fnF Tryz.func30 Tryz.results30 Tryz.ntmps30 rfl rfl rfl (by simp [AV.ids, AV0.ids, Atom.ids]) rfl (fun w0 T B E0 hB => ?_)
  refine SX.goL ?_
  refine .ok (RetOK.mk2 ((ResOK.agg15 rfl rfl rfl).imp ?_) (ResOK.tmp rfl))
  exact imp_none
set_option maxRecDepth 20000 in
set_option maxHeartbeats 2000000 in
theorem con_want4_4 {p q r c r' c' : Nat} {l l' : List Nat} {r1 c1 r2 c2 r3 c3 : Nat} {l1 l2 l3 : List Nat} {e1 e2 e3 : Int} (hp : PrP p) (h' : ∀ v ∈ l', v < p) (hl' : l'.length = r' * c') (hr : r' ≤ 64) (hc : c' ≤ 64) (cA : PureOK Tryz.prog 82 [.agg (gfA p), .agg (fmA r c l), .agg (fmA r' c' l')] (.tup [.agg (fmA r1 c1 l1), eNo e1])) (he : e1 = 0) : PureOK Tryz.prog 30 [.v (.int .i64 4), .agg (vlA (vFld p r c l)), .agg (vlA (vFld p r' c' l'))] (.tup [.agg (vlA (vFld p r1 c1 l1)), eNo 0]) := by
  have hpl := hp.lt
  have c0 := con_gfNew hp
  have cm := con_fmScale hp hl' hr hc (lt64 hp h') (x := p - 1) (by omega)
  have hw : IntKind.u64.wrap (((vFld p r c l).p : Int) - 1) = ((p - 1 : Nat) : Int) := by
    rw [show ((vFld p r c l).p : Int) - 1 = ((p - 1 : Nat) : Int) by show (p : Int) - 1 = _; omega]
    exact wrapN (by omega)
  have e0 : ((vFld p r c l).p : Int) = ((vFld p r' c' l').p : Int) := rfl
  subst he
  refine PureOK.fnF Tryz.func30 Tryz.results30 Tryz.ntmps30 rfl rfl rfl (by simp [AV.ids, AV0.ids, Atom.ids]) rfl (fun w0 T B E0 hB => ?_)
  refine SX.goL ?_
  refine .ok (RetOK.mk2 ((ResOK.agg15 rfl rfl rfl).imp ?_) (ResOK.tmp rfl))
  exact imp_fld
set_option maxRecDepth 20000 in
set_option maxHeartbeats 2000000 in
theorem con_want4e_4 {p q r c r' c' : Nat} {l l' : List Nat} {r1 c1 r2 c2 r3 c3 : Nat} {l1 l2 l3 : List Nat} {e1 e2 e3 : Int} (hp : PrP p) (h' : ∀ v ∈ l', v < p) (hl' : l'.length = r' * c') (hr : r' ≤ 64) (hc : c' ≤ 64) (cA : PureOK Tryz.prog 82 [.agg (gfA p), .agg (fmA r c l), .agg (fmA r' c' l')] (.tup [.agg (fmA r1 c1 l1), eNo e1])) (he : e1 ≠ 0) : PureOK Tryz.prog 30 [.v (.int .i64 4), .agg (vlA (vFld p r c l)), .agg (vlA (vFld p r' c' l'))] (.tup [.agg (vlA v0), eNo e1]) := by
  have hpl := hp.lt
  have c0 := con_gfNew hp
  have cm := con_fmScale hp hl' hr hc (lt64 hp h') (x := p - 1) (by omega)
  have hw : IntKind.u64.wrap (((vFld p r c l).p : Int) - 1) = ((p - 1 : Nat) : Int) := by
    rw [show ((vFld p r c l).p : Int) - 1 = ((p - 1 : Nat) : Int) by show (p : Int) - 1 = _; omega]
    exact wrapN (by omega)
  have e0 : ((vFld p r c l).p : Int) = ((vFld p r' c' l').p : Int) := rfl
  refine PureOK.fnF Tryz.func30 Tryz.results30 Tryz.ntmps30 rfl rfl rfl (by simp [AV.ids, AV0.ids, Atom.ids]) rfl (fun w0 T B E0 hB => ?_)
  refine SX.goL ?_
  refine .ok (RetOK.mk2 ((ResOK.agg15 rfl rfl rfl).imp ?_) (ResOK.tmp rfl))
  exact imp_none
set_option maxRecDepth 20000 in
set_option maxHeartbeats 2000000 in
theorem con_want4P_4 {p q r c r' c' : Nat} {l l' : List Nat} {r1 c1 r2 c2 r3 c3 : Nat} {l1 l2 l3 : List Nat} {e1 e2 e3 : Int} (hp : PrP p) (hq : PrP q) (hpq : p ≠ q) (h' : ∀ v ∈ l', v < q) (hl' : l'.length = r' * c') (hr : r' ≤ 64) (hc : c' ≤ 64) (cA : PureOK Tryz.prog 82 [.agg (gfA p), .agg (fmA r c l), .agg (fmA r' c' l')] (.tup [.agg (fmA r1 c1 l1), eNo e1]))  : PureOK Tryz.prog 30 [.v (.int .i64 4), .agg (vlA (vFld p r c l)), .agg (vlA (vFld q r' c' l'))] (.tup [.agg (vlA v0), eNo 3]) := by
  have hpl := hp.lt
  have c0 := con_gfNew hp
  have cm := con_fmScale hp hl' hr hc (lt64 hq h') (x := p - 1) (by omega)
  have hw : IntKind.u64.wrap (((vFld p r c l).p : Int) - 1) = ((p - 1 : Nat) : Int) := by
    rw [show ((vFld p r c l).p : Int) - 1 = ((p - 1 : Nat) : Int) by show (p : Int) - 1 = _; omega]
    exact wrapN (by omega)
  have e0 : ¬ ((vFld p r c l).p : Int) = ((vFld q r' c' l').p : Int) := fun e => hpq (Int.ofNat_inj.1 e)
  refine PureOK.fnF Tryz.func30 Tryz.results30 Tryz.ntmps30 rfl rfl rfl (by simp [AV.ids, AV0.ids, Atom.ids]) rfl (fun w0 T B E0 hB => ?_)
  refine SX.goL ?_
  refine .ok (RetOK.mk2 ((ResOK.agg15 rfl rfl rfl).imp ?_) (ResOK.tmp rfl))
  exact imp_none
set_option maxRecDepth 20000 in
set_option maxHeartbeats 2000000 in
theorem con_want4_5 {p q r c r' c' : Nat} {l l' : List Nat} {r1 c1 r2 c2 r3 c3 : Nat} {l1 l2 l3 : List Nat} {e1 e2 e3 : Int} (hp : PrP p) (h' : ∀ v ∈ l', v < p) (hl' : l'.length = r' * c') (hr : r' ≤ 64) (hc : c' ≤ 64) (cA : PureOK Tryz.prog 82 [.agg (gfA p), .agg (fmA r c l), .agg (fmA r' c' l')] (.tup [.agg (fmA r1 c1 l1), eNo e1])) (cS : PureOK Tryz.prog 82 [.agg (gfA p), .agg (fmA r c l), .agg (fmA r' c' (fmScale p r' c' l' (p - 1)))] (.tup [.agg (fmA r2 c2 l2), eNo e2])) (he : e2 = 0) : PureOK Tryz.prog 30 [.v (.int .i64 5), .agg (vlA (vFld p r c l)), .agg (vlA (vFld p r' c' l'))] (.tup [.agg (vlA (vFld p r2 c2 l2)), eNo 0]) := by
  have hpl := hp.lt
  have c0 := con_gfNew hp
  have cm := con_fmScale hp hl' hr hc (lt64 hp h') (x := p - 1) (by omega)
  have hw : IntKind.u64.wrap (((vFld p r c l).p : Int) - 1) = ((p - 1 : Nat) : Int) := by
    rw [show ((vFld p r c l).p : Int) - 1 = ((p - 1 : Nat) : Int) by show (p : Int) - 1 = _; omega]
    exact wrapN (by omega)
  have e0 : ((vFld p r c l).p : Int) = ((vFld p r' c' l').p : Int) := rfl
  subst he
  refine PureOK.fnF Tryz.func30 Tryz.results30 Tryz.ntmps30 rfl rfl rfl (by simp [AV.ids, AV0.ids, Atom.ids]) rfl (fun w0 T B E0 hB => ?_)
  refine SX.goL ?_
  refine .ok (RetOK.mk2 ((ResOK.agg15 rfl rfl rfl).imp ?_) (ResOK.tmp rfl))
  exact imp_fld
set_option maxRecDepth 20000 in
set_option maxHeartbeats 2000000 in
theorem con_want4e_5 {p q r c r' c' : Nat} {l l' : List Nat} {r1 c1 r2 c2 r3 c3 : Nat} {l1 l2 l3 : List Nat} {e1 e2 e3 : Int} (hp : PrP p) (h' : ∀ v ∈ l', v < p) (hl' : l'.length = r' * c') (hr : r' ≤ 64) (hc : c' ≤ 64) (cA : PureOK Tryz.prog 82 [.agg (gfA p), .agg (fmA r c l), .agg (fmA r' c' l')] (.tup [.agg (fmA r1 c1 l1), eNo e1])) (cS : PureOK Tryz.prog 82 [.agg (gfA p), .agg (fmA r c l), .agg (fmA r' c' (fmScale p r' c' l' (p - 1)))] (.tup [.agg (fmA r2 c2 l2), eNo e2])) (he : e2 ≠ 0) : PureOK Tryz.prog 30 [.v (.int .i64 5), .agg (vlA (vFld p r c l)), .agg (vlA (vFld p r' c' l'))] (.tup [.agg (vlA v0), eNo e2]) := by
  have hpl := hp.lt
  have c0 := con_gfNew hp
  have cm := con_fmScale hp hl' hr hc (lt64 hp h') (x := p - 1) (by omega)
  have hw : IntKind.u64.wrap (((vFld p r c l).p : Int) - 1) = ((p - 1 : Nat) : Int) := by
    rw [show ((vFld p r c l).p : Int) - 1 = ((p - 1 : Nat) : Int) by show (p : Int) - 1 = _; omega]
    exact wrapN (by omega)
  have e0 : ((vFld p r c l).p : Int) = ((vFld p r' c' l').p : Int) := rfl
  refine PureOK.fnF Tryz.func30 Tryz.results30 Tryz.ntmps30 rfl rfl rfl (by simp [AV.ids, AV0.ids, Atom.ids]) rfl (fun w0 T B E0 hB => ?_)
  refine SX.goL ?_
  refine .ok (RetOK.mk2 ((ResOK.agg15 rfl rfl rfl).imp ?_) (ResOK.tmp rfl))
  exact imp_none
set_option maxRecDepth 20000 in
set_option maxHeartbeats 2000000 in
theorem con_want4P_5 {p q r c r' c' : Nat} {l l' : List Nat} {r1 c1 r2 c2 r3 c3 : Nat} {l1 l2 l3 : List Nat} {e1 e2 e3 : Int} (hp : PrP p) (hq : PrP q) (hpq : p ≠ q) (h' : ∀ v ∈ l', v < q) (hl' : l'.length = r' * c') (hr : r' ≤ 64) (hc : c' ≤ 64) (cA : PureOK Tryz.prog 82 [.agg (gfA p), .agg (fmA r c l), .agg (fmA r' c' l')] (.tup [.agg (fmA r1 c1 l1), eNo e1])) (cS : PureOK Tryz.prog 82 [.agg (gfA p), .agg (fmA r c l), .agg (fmA r' c' (fmScale p r' c' l' (p - 1)))] (.tup [.agg (fmA r2 c2 l2), eNo e2]))  : PureOK Tryz.prog 30 [.v (.int .i64 5), .agg (vlA (vFld p r c l)), .agg (vlA (vFld q r' c' l'))] (.tup [.agg (vlA v0), eNo 3]) := by
  have hpl := hp.lt
  have c0 := con_gfNew hp
  have cm := con_fmScale hp hl' hr hc (lt64 hq h') (x := p - 1) (by omega)
  have hw : IntKind.u64.wrap (((vFld p r c l).p : Int) - 1) = ((p - 1 : Nat) : Int) := by
    rw [show ((vFld p r c l).p : Int) - 1 = ((p - 1 : Nat) : Int) by show (p : Int) - 1 = _; omega]
    exact wrapN (by omega)
  have e0 : ¬ ((vFld p r c l).p : Int) = ((vFld q r' c' l').p : Int) := fun e => hpq (Int.ofNat_inj.1 e)
  refine PureOK.fnF Tryz.func30 Tryz.results30 Tryz.ntmps30 rfl rfl rfl (by simp [AV.ids, AV0.ids, Atom.ids]) rfl (fun w0 T B E0 hB => ?_)
  refine SX.goL ?_
  refine .ok (RetOK.mk2 ((ResOK.agg15 rfl rfl rfl).imp ?_) (ResOK.tmp rfl))
  exact imp_none
set_option maxRecDepth 20000 in
set_option maxHeartbeats 2000000 in
theorem con_want4_6 {p q r c r' c' : Nat} {l l' : List Nat} {r1 c1 r2 c2 r3 c3 : Nat} {l1 l2 l3 : List Nat} {e1 e2 e3 : Int} (hp : PrP p) (h' : ∀ v ∈ l', v < p) (hl' : l'.length = r' * c') (hr : r' ≤ 64) (hc : c' ≤ 64) (cA : PureOK Tryz.prog 82 [.agg (gfA p), .agg (fmA r c l), .agg (fmA r' c' l')] (.tup [.agg (fmA r1 c1 l1), eNo e1])) (cM : PureOK Tryz.prog 83 [.agg (gfA p), .agg (fmA r c l), .agg (fmA r' c' l')] (.tup [.agg (fmA r3 c3 l3), eNo e3])) (he : e3 = 0) : PureOK Tryz.prog 30 [.v (.int .i64 6), .agg (vlA (vFld p r c l)), .agg (vlA (vFld p r' c' l'))] (.tup [.agg (vlA (vFld p r3 c3 l3)), eNo 0]) := by
  have hpl := hp.lt
  have c0 := con_gfNew hp
  have cm := con_fmScale hp hl' hr hc (lt64 hp h') (x := p - 1) (by omega)
  have hw : IntKind.u64.wrap (((vFld p r c l).p : Int) - 1) = ((p - 1 : Nat) : Int) := by
    rw [show ((vFld p r c l).p : Int) - 1 = ((p - 1 : Nat) : Int) by show (p : Int) - 1 = _; omega]
    exact wrapN (by omega)
  have e0 : ((vFld p r c l).p : Int) = ((vFld p r' c' l').p : Int) := rfl
  subst he
  refine PureOK.fnF Tryz.func30 Tryz.results30 Tryz.ntmps30 rfl rfl rfl (by simp [AV.ids, AV0.ids, Atom.ids]) rfl (fun w0 T B E0 hB => ?_)
  refine SX.goL ?_
  refine .ok (RetOK.mk2 ((ResOK.agg15 rfl rfl rfl).imp ?_) (ResOK.tmp rfl))
  exact imp_fld
set_option maxRecDepth 20000 in
set_option maxHeartbeats 2000000 in
theorem con_want4e_6 {p q r c r' c' : Nat} {l l' : List Nat} {r1 c1 r2 c2 r3 c3 : Nat} {l1 l2 l3 : List Nat} {e1 e2 e3 : Int} (hp : PrP p) (h' : ∀ v ∈ l', v < p) (hl' : l'.length = r' * c') (hr : r' ≤ 64) (hc : c' ≤ 64) (cA : PureOK Tryz.prog 82 [.agg (gfA p), .agg (fmA r c l), .agg (fmA r' c' l')] (.tup [.agg (fmA r1 c1 l1), eNo e1])) (cM : PureOK Tryz.prog 83 [.agg (gfA p), .agg (fmA r c l), .agg (fmA r' c' l')] (.tup [.agg (fmA r3 c3 l3), eNo e3])) (he : e3 ≠ 0) : PureOK Tryz.prog 30 [.v (.int .i64 6), .agg (vlA (vFld p r c l)), .agg (vlA (vFld p r' c' l'))] (.tup [.agg (vlA v0), eNo e3]) := by
  have hpl := hp.lt
  have c0 := con_gfNew hp
  have cm := con_fmScale hp hl' hr hc (lt64 hp h') (x := p - 1) (by omega)
  have hw : IntKind.u64.wrap (((vFld p r c l).p : Int) - 1) = ((p - 1 : Nat) : Int) := by
    rw [show ((vFld p r c l).p : Int) - 1 = ((p - 1 : Nat) : Int) by show (p : Int) - 1 = _; omega]
    exact wrapN (by omega)
  have e0 : ((vFld p r c l).p : Int) = ((vFld p r' c' l').p : Int) := rfl
  refine PureOK.fnF Tryz.func30 Tryz.results30 Tryz.ntmps30 rfl rfl rfl (by simp [AV.ids, AV0.ids, Atom.ids]) rfl (fun w0 T B E0 hB => ?_)
  refine SX.goL ?_
  refine .ok (RetOK.mk2 ((ResOK.agg15 rfl rfl rfl).imp ?_) (ResOK.tmp rfl))
  exact imp_none
set_option maxRecDepth 20000 in
set_option maxHeartbeats 2000000 in
theorem con_want4P_6 {p q r c r' c' : Nat} {l l' : List Nat} {r1 c1 r2 c2 r3 c3 : Nat} {l1 l2 l3 : List Nat} {e1 e2 e3 : Int} (hp : PrP p) (hq : PrP q) (hpq : p ≠ q) (h' : ∀ v ∈ l', v < q) (hl' : l'.length = r' * c') (hr : r' ≤ 64) (hc : c' ≤ 64) (cA : PureOK Tryz.prog 82 [.agg (gfA p), .agg (fmA r c l), .agg (fmA r' c' l')] (.tup [.agg (fmA r1 c1 l1), eNo e1])) (cM : PureOK Tryz.prog 83 [.agg (gfA p), .agg (fmA r c l), .agg (fmA r' c' l')] (.tup [.agg (fmA r3 c3 l3), eNo e3]))  : PureOK Tryz.prog 30 [.v (.int .i64 6), .agg (vlA (vFld p r c l)), .agg (vlA (vFld q r' c' l'))] (.tup [.agg (vlA v0), eNo 3]) := by
  have hpl := hp.lt
  have c0 := con_gfNew hp
  have cm := con_fmScale hp hl' hr hc (lt64 hq h') (x := p - 1) (by omega)
  have hw : IntKind.u64.wrap (((vFld p r c l).p : Int) - 1) = ((p - 1 : Nat) : Int) := by
    rw [show ((vFld p r c l).p : Int) - 1 = ((p - 1 : Nat) : Int) by show (p : Int) - 1 = _; omega]
    exact wrapN (by omega)
  have e0 : ¬ ((vFld p r c l).p : Int) = ((vFld q r' c' l').p : Int) := fun e => hpq (Int.ofNat_inj.1 e)
  refine PureOK.fnF Tryz.func30 Tryz.results30 Tryz.ntmps30 rfl rfl rfl (by simp [AV.ids, AV0.ids, Atom.ids]) rfl (fun w0 T B E0 hB => ?_)
  refine SX.goL ?_
  refine .ok (RetOK.mk2 ((ResOK.agg15 rfl rfl rfl).imp ?_) (ResOK.tmp rfl))
  exact imp_none
theorem con_want6 (op : Int) (l l' : List Vl) : PureOK Tryz.prog 30 [.v (.int .i64 op), .agg (vlA (vLst l)), .agg (vlA (vLst l'))] (.tup [.agg (vlA v0), eNo 5]) := by
  have c0 := con_gfNew0
  refine PureOK.fnF Tryz.func30 Tryz.results30 Tryz.ntmps30 rfl rfl rfl (by simp [AV.ids, AV0.ids, Atom.ids]) rfl (fun w0 T B E0 hB => ?_)
  refine SX.goL ?_
  refine .ok (RetOK.mk2 ((ResOK.agg15 rfl rfl rfl).imp ?_) (ResOK.tmp rfl))
  exact imp_none
end Go.Proofs.YtfhpmbenldgfnaaGreatDoor
set_option linter.unusedVariables false
set_option linter.unusedSimpArgs false
namespace Go.Proofs.YtfhpmbenldgfnaaGreatDoor
open Go.RowKit QM SX LA
attribute [local irreducible] IntKind.wrap Go1 Reg WP thenK inBlk retQ retF RetF RetOK ResOK CallOK OpOK Sat
attribute [local irreducible] qsub qmul qquo qcmp qadd qv redS mf PrP qOk zOk vP fp64 lz vF cq rqv plen pNorm pBoth pScale mulV cvR cvP pMul pShift zexq zexok exF vW sameV
theorem isT {K n : Nat} {v : Vl} (h : Cv K n v) (hK : K ≤ 50000) (hn : n ≤ 15) : PureOK Tryz.prog 14 [.agg (vlA v)] (.v (.bool true)) := h.is (by omega) hn
theorem sameU {K n : Nat} {v : Vl} (h : Cv K n v) (hK : K ≤ 50000) (hn : n ≤ 15) : PureOK Tryz.prog 17 [.agg (vlA v), .agg (vlA v)] (.v (.bool true)) := by
  have c := con_Same h h (by omega) hn hn
  rwa [sameV_self] at c
theorem vW_pol {d : Nat} {zs : List Int} (h : vW d (vPol zs)) : zs.length ≤ 5 := by
  have := h.one.1.1
  simpa using this
end Go.Proofs.YtfhpmbenldgfnaaGreatDoor
set_option linter.unusedVariables false
set_option linter.unusedSimpArgs false
set_option linter.unusedSectionVars false
namespace Go.Proofs.YtfhpmbenldgfnaaGreatDoor
open Go.RowKit QM SX LA
attribute [local irreducible] IntKind.wrap Go1 Reg WP thenK inBlk retQ retF RetF RetOK ResOK CallOK OpOK Sat
attribute [local irreducible] qsub qmul qquo qcmp qadd qv redS mf PrP qOk zOk vP fp64 lz vF cq rqv plen pNorm pBoth pScale mulV fA fS fM wlen wNorm wRest fNorm wvR wvP fmAdd fmScale fmMul fBoth fMul pMul mAdd mScale mxMul vW sameV
theorem con_Una3 {v n : Vl} {e : Int} (hF : PureOK Tryz.prog 28 [.agg (vlA v)] (.v (.bool true))) (h : PureOK Tryz.prog 87 [.agg (vlA v)] (.tup [.agg (vlA n), eNo e])) :
    PureOK Tryz.prog 31 [.v (.int .i64 3), .agg (vlA v)] (.tup [.agg (vlA n), eNo e]) := by
  refine PureOK.fnF Tryz.func31 Tryz.results31 Tryz.ntmps31 rfl rfl rfl (by simp [AV.ids, AV0.ids, Atom.ids]) rfl (fun w0 T B E0 hB => ?_)
  refine SX.goL ?_
  exact .ok (RetOK.mk2 (ResOK.agg15 rfl rfl rfl) (ResOK.tmp rfl))
theorem con_UnaE {v : Vl} {q : Int} (hF : PureOK Tryz.prog 28 [.agg (vlA v)] (.v (.bool true))) (hq : ¬ q = 3) :
    PureOK Tryz.prog 31 [.v (.int .i64 q), .agg (vlA v)] (.tup [.agg (vlA v0), eNo 5]) := by
  refine PureOK.fnF Tryz.func31 Tryz.results31 Tryz.ntmps31 rfl rfl rfl (by simp [AV.ids, AV0.ids, Atom.ids]) rfl (fun w0 T B E0 hB => ?_)
  refine SX.goL ?_
  refine .ok (RetOK.mk2 ((ResOK.agg15 rfl rfl rfl).imp ?_) (ResOK.tmp rfl))
  exact imp_none
theorem con_op2 (m : Nat) (hm : m < 256) : PureOK Tryz.prog 32 [.v (.int .u8 (m : Int))] (.v (.int .i64 ((m / 3 : Nat) : Int))) := by
  have hr : IntKind.u8.wrap ((m : Int).tdiv 3) = ((m / 3 : Nat) : Int) := by
    have h1 : (m : Int).tdiv 3 = ((m / 3 : Nat) : Int) := by rw [Int.tdiv_eq_ediv_of_nonneg (by omega)]; omega
    rw [h1, IntKind.wrap_u8]; omega
  refine PureOK.fnF Tryz.func32 Tryz.results32 Tryz.ntmps32 rfl rfl rfl (by simp [AV.ids, AV0.ids, Atom.ids]) rfl (fun w0 T B E0 hB => ?_)
  refine SX.goL ?_
  exact retI rfl
section
variable {m : Nat} (hm : m < 256) {j : Nat} (hj : (m : Int).tmod 3 = (j : Int)) (hj3 : j < 3) {u v : Vl}
include hm hj hj3
theorem Reck_skip (hf : PureOK Tryz.prog 12 [.agg (vlA u), .agg (vlA v)] (.v (.bool true))) (hk : ¬ u.k = v.k) :
    PureOK Tryz.prog 8 [.v (.int .u8 (m : Int)), .agg (vlA u), .agg (vlA v)] (.v (.bool true)) := by
  have cW := con_awake29
  refine PureOK.fnF Tryz.func8 Tryz.results8 Tryz.ntmps8 rfl rfl rfl (by simp [AV.ids, AV0.ids, Atom.ids]) rfl (fun w0 T B E0 hB => ?_)
  refine SX.goL ?_
  exact retB rfl
theorem Reck_bad {b1 b2 : Bool} (hf : PureOK Tryz.prog 12 [.agg (vlA u), .agg (vlA v)] (.v (.bool true))) (hk : u.k = v.k) (hb : b1 = false ∨ b2 = false)
    (F1 : PureOK Tryz.prog 28 [.agg (vlA u)] (.v (.bool b1))) (F2 : PureOK Tryz.prog 28 [.agg (vlA v)] (.v (.bool b2)))
    (i1 : PureOK Tryz.prog 14 [.agg (vlA u)] (.v (.bool b1))) (i2 : PureOK Tryz.prog 14 [.agg (vlA v)] (.v (.bool b2))) :
    PureOK Tryz.prog 8 [.v (.int .u8 (m : Int)), .agg (vlA u), .agg (vlA v)] (.v (.bool true)) := by
  have cW := con_awake29
  have c0 := con_none0
  cases b1
  · have b := con_BinF1 (v := v) (((4 + j : Nat) : Nat) : Int) F1
    clear F1 F2
    refine PureOK.fnF Tryz.func8 Tryz.results8 Tryz.ntmps8 rfl rfl rfl (by simp [AV.ids, AV0.ids, Atom.ids]) rfl (fun w0 T B E0 hB => ?_)
    refine SX.goL ?_
    exact retB rfl
  · have hb2 : b2 = false := hb.resolve_left (by decide)
    subst hb2
    have b := con_BinF2 (((4 + j : Nat) : Nat) : Int) F1 F2
    clear F1 F2
    refine PureOK.fnF Tryz.func8 Tryz.results8 Tryz.ntmps8 rfl rfl rfl (by simp [AV.ids, AV0.ids, Atom.ids]) rfl (fun w0 T B E0 hB => ?_)
    refine SX.goL ?_
    exact retB rfl
variable {x n s : Vl} {e i : Int}
  (hf : PureOK Tryz.prog 12 [.agg (vlA u), .agg (vlA v)] (.v (.bool true))) (hk : u.k = v.k)
  (i1 : PureOK Tryz.prog 14 [.agg (vlA u)] (.v (.bool true))) (i2 : PureOK Tryz.prog 14 [.agg (vlA v)] (.v (.bool true)))
include hf hk i1 i2
theorem Reck_err (he : ¬ e = 0) (hb : PureOK Tryz.prog 13 [.v (.int .i64 ((4 + j : Nat) : Int)), .agg (vlA u), .agg (vlA v)] (.tup [.agg (vlA v0), eNo e])) (hw : PureOK Tryz.prog 30 [.v (.int .i64 ((4 + j : Nat) : Int)), .agg (vlA u), .agg (vlA v)] (.tup [.agg (vlA v0), eNo e])) :
    PureOK Tryz.prog 8 [.v (.int .u8 (m : Int)), .agg (vlA u), .agg (vlA v)] (.v (.bool true)) := by
  have cW := con_awake29
  have c0 := con_none0
  refine PureOK.fnF Tryz.func8 Tryz.results8 Tryz.ntmps8 rfl rfl rfl (by simp [AV.ids, AV0.ids, Atom.ids]) rfl (fun w0 T B E0 hB => ?_)
  refine SX.goL ?_
  exact retB rfl
variable (hb : PureOK Tryz.prog 13 [.v (.int .i64 ((4 + j : Nat) : Int)), .agg (vlA u), .agg (vlA v)] (.tup [.agg (vlA x), eNo 0])) (hw : PureOK Tryz.prog 30 [.v (.int .i64 ((4 + j : Nat) : Int)), .agg (vlA u), .agg (vlA v)] (.tup [.agg (vlA x), eNo 0]))
  (hx : PureOK Tryz.prog 14 [.agg (vlA x)] (.v (.bool true))) (hxx : PureOK Tryz.prog 17 [.agg (vlA x), .agg (vlA x)] (.v (.bool true)))
  (hF : PureOK Tryz.prog 28 [.agg (vlA v)] (.v (.bool true))) (hn : PureOK Tryz.prog 87 [.agg (vlA v)] (.tup [.agg (vlA n), eNo 0]))
  (hs : PureOK Tryz.prog 13 [.v (.int .i64 4), .agg (vlA u), .agg (vlA n)] (.tup [.agg (vlA s), eNo i])) (hd : PureOK Tryz.prog 13 [.v (.int .i64 5), .agg (vlA u), .agg (vlA v)] (.tup [.agg (vlA s), eNo i]))
include hb hw hx hxx hF hn hs hd
set_option maxRecDepth 20000 in
set_option maxHeartbeats 4000000 in
theorem Reck_ok (hi : i = 0 → PureOK Tryz.prog 17 [.agg (vlA s), .agg (vlA s)] (.v (.bool true))) :
    PureOK Tryz.prog 8 [.v (.int .u8 (m : Int)), .agg (vlA u), .agg (vlA v)] (.v (.bool true)) := by
  have cW := con_awake29
  have c0 := con_none0
  have c2 := con_op2 m hm
  have U := con_Una3 hF hn
  by_cases hq : m / 3 = 3
  · rw [hq] at c2
    by_cases h0 : i = 0
    · have hi := hi h0
      subst h0
      clear hF hn
      refine PureOK.fnF Tryz.func8 Tryz.results8 Tryz.ntmps8 rfl rfl rfl (by simp [AV.ids, AV0.ids, Atom.ids]) rfl (fun w0 T B E0 hB => ?_)
      refine SX.goL ?_
      exact retB rfl
    · clear hF hn
      refine PureOK.fnF Tryz.func8 Tryz.results8 Tryz.ntmps8 rfl rfl rfl (by simp [AV.ids, AV0.ids, Atom.ids]) rfl (fun w0 T B E0 hB => ?_)
      refine SX.goL ?_
      exact retB rfl
  · have hq2 : ¬ ((m / 3 : Nat) : Int) = 3 := by omega
    have U2 := con_UnaE hF hq2
    by_cases h0 : i = 0
    · have hi := hi h0
      subst h0
      clear hF hn
      refine PureOK.fnF Tryz.func8 Tryz.results8 Tryz.ntmps8 rfl rfl rfl (by simp [AV.ids, AV0.ids, Atom.ids]) rfl (fun w0 T B E0 hB => ?_)
      refine SX.goL ?_
      exact retB rfl
    · clear hF hn
      refine PureOK.fnF Tryz.func8 Tryz.results8 Tryz.ntmps8 rfl rfl rfl (by simp [AV.ids, AV0.ids, Atom.ids]) rfl (fun w0 T B E0 hB => ?_)
      refine SX.goL ?_
      exact retB rfl
end
end Go.Proofs.YtfhpmbenldgfnaaGreatDoor

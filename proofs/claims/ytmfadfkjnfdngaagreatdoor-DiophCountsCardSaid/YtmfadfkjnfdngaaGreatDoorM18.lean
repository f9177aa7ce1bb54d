import Derived.Test.YtmfadfkjnfdngaaGreatDoorM17
import Derived.Test.YtmfadfkjnfdngaaGreatDoorM12
set_option linter.unusedVariables false
set_option linter.unusedSimpArgs false
namespace Go.Proofs.YtmfadfkjnfdngaaGreatDoor
open Go.RowKit QM SX
abbrev wsC (c : Nat) : List Atom := [hdrA 82 0, hdrA 83 0, hdrA 84 0, .c (.val (.int .i64 (c : Int)))]
abbrev wsL (r c : Nat) (A U V : Nat → Nat → Int) : List (Nat × Ent) := [(82, .abs (RL r c A)), (83, .abs (RL r r U)), (84, .abs (RL c c V))]
def wkS (r c : Nat) (A U V : Nat → Nat → Int) : AEnt := bunE 81 (fun _ : Unit => True) 86 (fun _ => wsC c) (fun _ => wsL r c A U V)
theorem ws_open {P : Program} {C : Ctx} {st : St} {Q : Exit → St → Prop} {cd : Code} {r c : Nat} {A U V : Nat → Nat → Int} (hb : st.hp 81 = .ent (.abs (wkS r c A U V))) (h1 : st.hp 82 = .free) (h2 : st.hp 83 = .free) (h3 : st.hp 84 = .free) (f1 : C.fix 82 = false) (f2 : C.fix 83 = false) (f3 : C.fix 84 = false)
    (h : WP P C cd (openSt st 81 86 (wsC c) (wsL r c A U V)) Q) : WP P C cd st Q :=
  WP.openB (ι := Unit) (b := 81) [82, 83, 84] hb (fun p => rfl) (by intro i hi; simp at hi; rcases hi with rfl | rfl | rfl <;> assumption) (by intro i hi; simp at hi; rcases hi with rfl | rfl | rfl <;> assumption)
    (by intro p i hi; exact .inl (by simpa [Atom.ids] using hi)) (by intro p i e he; simp at he; rcases he with ⟨rfl, rfl⟩ | ⟨rfl, rfl⟩ | ⟨rfl, rfl⟩ <;> rfl) (fun p hp => h)
theorem ws_close {C : Ctx} {st : St} {r c : Nat} {A U V : Nat → Nat → Int} {cells0 : List Atom} (ρ : List (Nat × Option Nat)) (os : List Nat) (hb : st.hp 81 = .ent (.box 86 cells0))
    (hc : AtomsTo ρ cells0 (wsC c)) (hR : HpTo st ρ (wsL r c A U V))
    (hos : ((wsL r c A U V).all fun q => match SX.src ρ q.1 with | some o => memB os o | none => true) = true) (hbo : memB os 81 = false) (hdi : ((wsL r c A U V).all fun q => (wsL r c A U V).all fun q' => Nat.beq q.1 q'.1 || !(eqO (SX.src ρ q.1) (SX.src ρ q'.1))) = true) (hfb : lk ρ 81 = none := by rfl) :
    St.le C st (closeSt st 81 (wkS r c A U V) os) :=
  St.le_close (ι := Unit) (b := 81) () ρ os trivial hb hc hR hos hbo hdi hfb
theorem zgM_ok (r c : Nat) (va : Nat → Nat → Int) : ZOk r c va (List.range r, zgM va c r) := by
  refine ⟨List.length_range, List.nodup_range, fun j hj => ?_, fun i j hj => ?_⟩
  · show j < (zgM va c r).length
    rw [zgM_len]; exact List.mem_range.1 hj
  · have hj : (List.range r)[i]? = some j := hj
    have hi := lt_someZ hj
    rw [List.length_range] at hi
    rw [List.getElem?_range hi] at hj
    cases hj
    show (zgM va c r)[i]? = _
    unfold zgM
    rw [List.getElem?_map, List.getElem?_range hi]; rfl
theorem zgM_at {va : Nat → Nat → Int} {c r i : Nat} (h : i < r) : (zgM va c r)[i]? = some (zrK va i c) := by
  unfold zgM
  rw [List.getElem?_map, List.getElem?_range h]; rfl
def rowZC (l : List Int) : List CA := [.sat (rowR 2 zC l)]
instance : EncLen rowZC 1 := ⟨fun _ => rfl⟩
theorem rowZC_map (M : List (List Int)) : M.flatMap rowZC = M.map fun r => CA.sat (rowR 2 zC r) := by
  induction M with
  | nil => rfl
  | cons a l ih => rw [List.flatMap_cons, ih]; rfl
theorem ZOk.rows {r w : Nat} {A : Nat → Nat → Int} {q : ZQs} (z : ZOk r w A q) : q.1.map (fun j => q.2.getD j []) = zgM A w r := by
  apply List.ext_getElem?
  intro i
  rw [List.getElem?_map]
  by_cases hi : i < r
  · obtain ⟨j, h1, h2, h3⟩ := z.get hi
    rw [h1, zgM_at hi]
    show some (q.2.getD j []) = _
    rw [List.getD_eq_getElem?_getD, h3]; rfl
  · rw [List.getElem?_eq_none (by rw [z.len]; omega), List.getElem?_eq_none (by rw [zgM_len]; omega)]; rfl
theorem RL.frz {r w : Nat} {A : Nat → Nat → Int} {bk : Nat} {v : Value} {X S S' : Nat → Prop} {wd : World} (h : (RL r w A).has bk v X S wd) (hsub : ∀ k, S' k → S k) (hX : ∀ k, X k → ¬ S' k) : (rowR 1 rowZC (zgM A w r)).has S' wd (hdrAt v 0) := by
  obtain ⟨q, z, hR⟩ := h
  have hR : RowsHas 22 30 2 zC q.1 q.2 v X S wd := hR
  have hf := hR.frz hsub hX
  have ec : q.1.map (fun j => CA.sat (rowR 2 zC (q.2.getD j []))) = (zgM A w r).flatMap rowZC := by rw [rowZC_map, ← z.rows, List.map_map]; rfl
  rw [ec, show q.1.length = (zgM A w r).length by rw [zgM_len, z.len]] at hf
  exact hf
abbrev wsP (r c : Nat) (A U V : Nat → Nat → Int) : List CA := [.sat (rowR 1 rowZC (zgM A c r)), .sat (rowR 1 rowZC (zgM U r r)), .sat (rowR 1 rowZC (zgM V c c)), .val (.int .i64 (c : Int))]
theorem ws_frz {r c : Nat} {A U V : Nat → Nat → Int} : ∀ bk v X S w, (wkS r c A U V).has bk v X S w → (∃ (t : TypeId) (cs : List Value), w.heap[bk]? = some (.cells cs.toArray t (0, 0)) ∧ All2 (CA.has (fun k => S k ∧ ¬ X k) w) (wsP r c A U V) cs) ∧ X bk := by
  rintro bk v X S w ⟨_, E, _, hB⟩
  obtain ⟨cs, g1, g2⟩ := hB.box
  have hA : (RL r c A).has (E.blk 82) (E.sl 82) (E.fp 82) S w := hB.ents 82 (.abs (RL r c A)) (by simp)
  have hU : (RL r r U).has (E.blk 83) (E.sl 83) (E.fp 83) S w := hB.ents 83 (.abs (RL r r U)) (by simp)
  have hV : (RL c c V).has (E.blk 84) (E.sl 84) (E.fp 84) S w := hB.ents 84 (.abs (RL c c V)) (by simp)
  refine ⟨⟨_, cs, g1, ?_⟩, (hB.X bk).2 (.inl rfl)⟩
  match cs, g2 with
  | [u1, u2, u3, u4], ⟨k1, k2, k3, k4, _⟩ =>
    refine ⟨?_, ?_, ?_, k4, trivial⟩
    · rw [show u1 = hdrAt (E.sl 82) 0 from k1.1]
      exact RL.frz hA (fun k hk => hk.1) (fun k hX hk => hk.2 ((hB.X k).2 (.inr ⟨82, .abs (RL r c A), by simp, hX⟩)))
    · rw [show u2 = hdrAt (E.sl 83) 0 from k2.1]
      exact RL.frz hU (fun k hk => hk.1) (fun k hX hk => hk.2 ((hB.X k).2 (.inr ⟨83, .abs (RL r r U), by simp, hX⟩)))
    · rw [show u3 = hdrAt (E.sl 84) 0 from k3.1]
      exact RL.frz hV (fun k hk => hk.1) (fun k hX hk => hk.2 ((hB.X k).2 (.inr ⟨84, .abs (RL c c V), by simp, hX⟩)))
attribute [local irreducible] IntKind.wrap Go1 Reg WP thenK inBlk retQ retF RetF RetOK ResOK CallOK OpOK Sat
attribute [local irreducible] adK ngK RL
theorem con_sRows (r c : Nat) (x : Rep) (va : Nat → Nat → Int) (hr : r ≤ 100) (hc : c ≤ 100)
    (hA : ∀ i k, i < r → k < c → PureOK Tryz.prog 35 [.agg (matR r c x), .v (.int .i64 (i : Int)), .v (.int .i64 (k : Int))] (.agg (zN (va i k)))) :
    CallOK Tryz.prog 76 [.agg (matR r c x)] [] ⟨.it (.one (hdrA 82 0)), [(82, .ent (.abs (RL r c va)))]⟩ := by
  refine CallOK.fnA Tryz.func76 Tryz.results76 Tryz.ntmps76 rfl rfl rfl rfl rfl rfl rfl rfl (fun w0 T B E0 hB => ?_)
  refine SX.goB ?_
  refine W.loop (fun i => i ≤ r) (fun i => [(1, .ptr 1 0), (3, .it (.one (hdrA 82 0))), (8, .v (.int .i64 (r : Int))), (9, .v (.int .i64 (i : Int)))]) (fun i => [(1, .box 24 (matR r c x)), (82, .abs (RowsB (List.range i) (zgM va c i)))]) (fun i => r - i) 0 (Nat.zero_le _) (fun i hi => ?_)
    (by
      refine SX.St.le_to [(82, none)] (by intro b h; cases h) ?_ ?_ rfl
      · repeat (first | exact trivial | refine ⟨⟨_, rfl, SX.AVto.same rfl⟩, ?_⟩ | refine ⟨⟨_, rfl, SX.AVto.nilRel rfl⟩, ?_⟩)
      · exact ⟨SX.EntTo.same rfl rfl, SX.EntTo.nilRows rfl, trivial⟩)
  by_cases h : i < r
  · refine SX.goB ?_
    refine W.loop (fun k => k ≤ c) (fun k => [(1, .ptr 1 0), (3, .it (.one (hdrA 82 0))), (4, .v (.int .i64 (i : Int))), (5, .own 100), (8, .v (.int .i64 (r : Int))), (9, .v (.int .i64 (i : Int))), (13, .v (.int .i64 (c : Int))), (14, .v (.int .i64 (k : Int)))]) (fun k => [(1, .box 24 (matR r c x)), (82, .abs (RowsB (List.range i) (zgM va c i))), (100, .row 30 2 k ((zrK va i k).flatMap zC))]) (fun k => c - k) 0 (Nat.zero_le _) (fun k hk => ?_)
      (by
        refine SX.St.le_to [(100, none)] (by intro b h; cases h) ?_ ?_ rfl
        · repeat (first | exact trivial | refine ⟨⟨_, rfl, SX.AVto.same rfl⟩, ?_⟩ | refine ⟨⟨_, rfl, SX.AVto.nil rfl⟩, ?_⟩)
        · exact ⟨SX.EntTo.same rfl rfl, SX.EntTo.same rfl rfl, SX.EntTo.nilRow rfl, trivial⟩)
    by_cases h2 : k < c
    · have hf := hA i k h h2
      refine SX.goB ?_
      refine W.next (k + 1) h2 (by omega) (by
        have e2 : (zrK va i k).flatMap zC ++ zC (va i k) = (zrK va i (k + 1)).flatMap zC := by rw [zrK_succ, List.flatMap_append]; simp
        refine SX.St.le_to [(100, some 23)] (by intro b h; cases h) ?_ ?_ rfl
        · repeat (first | exact trivial | refine ⟨⟨_, rfl, SX.AVto.same rfl⟩, ?_⟩ | refine ⟨⟨_, rfl, SX.AVto.own rfl⟩, ?_⟩)
        · exact ⟨SX.EntTo.same rfl rfl, SX.EntTo.same rfl rfl, SX.EntTo.row rfl rfl rfl e2, trivial⟩)
    · obtain rfl : k = c := by omega
      have hlen : k = (zrK va i k).length := zrK_len.symm
      have hjs : (List.range i).length = i := List.length_range
      refine SX.goB ?_
      refine SX.Go1.litH (l := zrK va i k) (enc := zC) rfl rfl rfl rfl hlen rfl ?_
      refine SX.goB ?_
      refine W.next (i + 1) h (by omega) (by
        refine SX.St.le_to [(82, some 28)] (by intro b h; cases h) ?_ ?_ rfl
        · repeat (first | exact trivial | refine ⟨⟨_, rfl, SX.AVto.same rfl⟩, ?_⟩ | refine ⟨⟨_, rfl, SX.AVto.rel rfl⟩, ?_⟩)
        · exact ⟨SX.EntTo.same rfl rfl, SX.EntTo.abs rfl rfl rowsB_next, trivial⟩)
  · obtain rfl : i = r := by omega
    refine SX.goB ?_
    refine RetF.le (rl_le 82 rfl (zgM_ok i c va)) ?_
    exact retP (xs := [.one (hdrA 82 0)]) ⟨ResOK.tmp rfl, trivial⟩ ⟨rfl, trivial⟩
abbrev idS (i k : Nat) : Int := if i = k then 1 else 0
theorem idS_lt (i k : Nat) : (idS i k).natAbs < WB ^ 1 := by
  unfold idS
  rw [Nat.pow_one, WB_eq]
  split <;> decide
theorem con_sId1 {i k : Nat} (hi : i ≤ 100) (hk : k ≤ 100) : PureOK Tryz.prog 103 [.v (.int .i64 (i : Int)), .v (.int .i64 (k : Int))] (.agg (z2A (z2v (idS i k)))) := by
  by_cases h : i = k
  · have e : idS i k = 1 := if_pos h
    rw [e]
    have o1 : PureOK Tryz.prog 7 [.v (.int .i64 1)] (.agg (zN 1)) := con_zOf.h ⟨by omega, by omega⟩
    have h' : (i : Int) = (k : Int) := by omega
    refine PureOK.fnF Tryz.func103 Tryz.results103 Tryz.ntmps103 rfl rfl rfl (by simp [AV.ids, AV0.ids, Atom.ids]) rfl (fun w0 T B E0 hB => ?_)
    refine SX.goB ?_
    exact retA (ResOK.agg2 rfl rfl rfl) rfl
  · have e : idS i k = 0 := if_neg h
    rw [e]
    have h' : ¬ (i : Int) = (k : Int) := by omega
    refine PureOK.fnF Tryz.func103 Tryz.results103 Tryz.ntmps103 rfl rfl rfl (by simp [AV.ids, AV0.ids, Atom.ids]) rfl (fun w0 T B E0 hB => ?_)
    refine SX.goB ?_
    exact .ok (RetOK.mk1 (ResOK.imp (ResOK.agg2 rfl rfl rfl) zN0))
theorem cloArgS {P : Program} {f g : FuncId} {a b r : AV} (h : PureOK P f [a, b, .it (.one (.c (.sat (cloR g [] []))))] r) : PureOK P f [a, b, .it (.one (.clo g []))] r :=
  weakArgs h fun E S w vs hv => by
    match vs, hv with
    | [u1, u2, u3], ⟨h1, h2, h3, _⟩ => exact ⟨h1, h2, fnArg h3, trivial⟩
theorem con_sId {n : Nat} (hn : n ≤ 64) : PureOK Tryz.prog 75 [.v (.int .i64 (n : Int))] (.tup [.agg (matN n n (tabZ n idS n)), eNo 0]) := by
  have s1 := (con_zside (n : Int)).h trivial
  rw [decide_eq_true (show 0 ≤ (n : Int) ∧ (n : Int) ≤ 64 by omega)] at s1
  have cM := cloArgS (con_zmade n n (.sat (cloR 103 [] [])) (fun i k => z2v (idS i k)) idS 1 (by omega) (by omega) (by decide) (fun i k hi hk => FnV.const (con_sId1 (by omega) (by omega))) (fun i k hi hk => ZQ.made (idS_lt i k)) rfl)
  refine PureOK.fnF Tryz.func75 Tryz.results75 Tryz.ntmps75 rfl rfl rfl (by simp [AV.ids, AV0.ids, Atom.ids]) rfl (fun w0 T B E0 hB => ?_)
  refine SX.goB ?_
  exact .ok (RetOK.mk2 (ResOK.agg3 rfl rfl rfl) (ResOK.tmp rfl))
abbrev mxR (r c : Nat) (A : Nat → Nat → Int) : Rep := rowR 2 zC (tabZ c A r)
theorem tabZ_zat {c r i k : Nat} {A : Nat → Nat → Int} (hi : i < r) (hk : k < c) : zat (tabZ c A r) c i k = A i k := by
  unfold zat
  rw [List.getD_eq_getElem?_getD, tabZ_at hk hi]; rfl
theorem con_mxAt {r c i k K : Nat} {A : Nat → Nat → Int} (hr : r ≤ 64) (hc : c ≤ 64) (hA : ∀ i k, i < r → k < c → (A i k).natAbs < WB ^ K) (hi : i < r) (hk : k < c) (hK : K ≤ 1000000) :
    PureOK Tryz.prog 35 [.agg (matR r c (mxR r c A)), .v (.int .i64 (i : Int)), .v (.int .i64 (k : Int))] (.agg (zN (A i k))) := by
  have hM := MZ.made (tabZ_bd hA)
  have h := con_zAt hM (by rw [List.length_map, tabZ_len]) hr hc hi hk hK
  rw [tabZ_zat hi hk] at h
  rw [← matN_matY] at h
  exact h
theorem con_sBegun (r c : Nat) (x : Rep) (va : Nat → Nat → Int) (hr : r ≤ 64) (hc : c ≤ 64)
    (hA : ∀ i k, i < r → k < c → PureOK Tryz.prog 35 [.agg (matR r c x), .v (.int .i64 (i : Int)), .v (.int .i64 (k : Int))] (.agg (zN (va i k)))) :
    CallOK Tryz.prog 45 [.agg (matR r c x)] [] ⟨.ptr 81 0, [(81, .ent (.abs (wkS r c va idS idS)))]⟩ := by
  have n81 : Named 28 81 := ⟨⟩
  have cU := con_sId hr
  have cV := con_sId hc
  have cA := con_sRows r c x va (by omega) (by omega) hA
  have c2 := CallOK.newTo (con_sRows r r (mxR r r idS) idS (by omega) (by omega) fun i k hi hk => con_mxAt hr hr (fun i k _ _ => idS_lt i k) hi hk (by decide)) 83
  have c3 := CallOK.newTo (con_sRows c c (mxR c c idS) idS (by omega) (by omega) fun i k hi hk => con_mxAt hc hc (fun i k _ _ => idS_lt i k) hi hk (by decide)) 84
  refine CallOK.fnA Tryz.func45 Tryz.results45 Tryz.ntmps45 rfl rfl rfl rfl rfl rfl rfl rfl (fun w0 T B E0 hB => ?_)
  refine SX.goB ?_
  refine callNewA cA rfl rfl rfl rfl ?_
  refine SX.goB ?_
  refine callNewA c2 rfl rfl rfl rfl ?_
  refine SX.goB ?_
  refine callNewA c3 rfl rfl rfl rfl ?_
  refine SX.goB ?_
  refine RetF.le (ws_close [] [82, 83, 84] rfl ⟨AtomTo.same rfl, AtomTo.same rfl, AtomTo.same rfl, AtomTo.same rfl, trivial⟩ ⟨SX.EntTo.same rfl rfl, SX.EntTo.same rfl rfl, SX.EntTo.same rfl rfl, trivial⟩ rfl rfl rfl) ?_
  exact retP (xs := [.one (.ptr 81 0)]) ⟨ResOK.tmp rfl, trivial⟩ ⟨rfl, trivial⟩
theorem con_sMatrix {r w : Nat} {A : Nat → Nat → Int} (hr : r ≤ 64) (hw : w ≤ 64) : PureOK Tryz.prog 47 [.r (rowR 1 rowZC (zgM A w r)), .v (.int .i64 (w : Int))] (.agg (matN r w (tabZ w A r))) := by
  have hml : (zgM A w r).length = r := zgM_len
  have hrw := Nat.mul_le_mul hr hw
  refine PureOK.fnF Tryz.func47 Tryz.results47 Tryz.ntmps47 rfl rfl rfl (by simp [AV.ids, AV0.ids, Atom.ids]) rfl (fun w0 T B E0 hB => ?_)
  refine SX.goB ?_
  refine W.loop (fun n => n ≤ r) (fun n => [(4, .ptr 4 0), (5, .ptr 5 0), (12, .r (rowR 1 rowZC (zgM A w r))), (13, .v (.int .i64 ((zgM A w r).length : Int))), (14, .v (.int .i64 (n : Int)))]) (fun n => [(4, .box 24 [.c (.val (.int .i64 0)), .c (.val (.int .i64 0)), .c (.val (.slice none 0 0))]), (5, .box 24 [.c (.val (.int .i64 (r : Int))), .c (.val (.int .i64 (w : Int))), .own 100]), (100, .row 30 2 (n * w) ((tabZ w A n).flatMap zC))]) (fun n => r - n) 0 (Nat.zero_le _) (fun n hn => ?_)
    (by
      refine SX.St.le_to [(100, none)] (by intro b h; cases h) ?_ ?_ rfl
      · repeat (first | exact trivial | refine ⟨⟨_, rfl, SX.AVto.same rfl⟩, ?_⟩)
      · exact ⟨SX.EntTo.same rfl rfl, SX.EntTo.boxTo rfl rfl ⟨AtomTo.int (by rw [zgM_len]), AtomTo.same rfl, AtomTo.nil rfl, trivial⟩, by rw [Nat.zero_mul]; exact SX.EntTo.nilRow rfl, trivial⟩)
  by_cases h : n < r
  · have hrow := zgM_at (va := A) (c := w) h
    have hwl : (zrK A n w).length = w := zrK_len
    have hnw := Nat.mul_le_mul (show n ≤ 64 by omega) hw
    refine SX.goB ?_
    refine W.next (n + 1) h (by omega) (by
      have e2 : (tabZ w A n).flatMap zC ++ (zrK A n w).flatMap zC = (tabZ w A (n + 1)).flatMap zC := by rw [tabZ_succ, List.flatMap_append]; unfold zrK; rfl
      refine SX.St.le_to [(100, some 21)] (by intro b h; cases h) ?_ ?_ rfl
      · repeat (first | exact trivial | refine ⟨⟨_, rfl, SX.AVto.same rfl⟩, ?_⟩)
      · exact ⟨SX.EntTo.same rfl rfl, SX.EntTo.boxTo rfl rfl ⟨AtomTo.same rfl, AtomTo.same rfl, AtomTo.own rfl, trivial⟩, SX.EntTo.row rfl rfl (by rw [hwl, Nat.succ_mul]) e2, trivial⟩)
  · obtain rfl : n = r := by omega
    refine SX.goB ?_
    have hm : matN n w (tabZ w A n) = [.c (.val (.int .i64 (n : Int))), .c (.val (.int .i64 (w : Int))), .c (.sat (sliceR 2 (n * w) ((tabZ w A n).flatMap zC)))] := by
      show [_, _, Atom.c (.sat (sliceR 2 (tabZ w A n).length _))] = _
      rw [tabZ_len]
    rw [hm]
    refine RetF.frz 100 ?_
    exact retA (ResOK.agg3 rfl rfl rfl) rfl
end Go.Proofs.YtmfadfkjnfdngaaGreatDoor
set_option linter.unusedVariables false
set_option linter.unusedSimpArgs false
namespace Go.Proofs.YtmfadfkjnfdngaaGreatDoor
open Go.RowKit QM SX
abbrev Pt := Option (Nat × Nat)
def lsT (A : Nat → Nat → Int) (o : Pt) (i k : Nat) : Bool := decide (A i k ≠ 0) && (match o with | none => true | some q => decide ((A i k).natAbs < (A q.1 q.2).natAbs))
def lsB (A : Nat → Nat → Int) (o : Pt) (i k : Nat) : Pt := if lsT A o i k then some (i, k) else o
def lsRow (A : Nat → Nat → Int) (i t : Nat) : Nat → Pt → Pt
  | 0, o => o
  | n + 1, o => lsB A (lsRow A i t n o) i (t + n)
def lsAll (A : Nat → Nat → Int) (t m : Nat) : Nat → Pt
  | 0 => none
  | n + 1 => lsRow A (t + n) t m (lsAll A t m n)
structure LsOK (A : Nat → Nat → Int) (P : Nat → Nat → Prop) (o : Pt) : Prop where
  no : o = none → ∀ i k, P i k → A i k = 0
  so : ∀ q, o = some q → P q.1 q.2 ∧ A q.1 q.2 ≠ 0 ∧ (∀ i k, P i k → A i k = 0 ∨ (A q.1 q.2).natAbs ≤ (A i k).natAbs) ∧ (∀ i k, P i k → (i < q.1 ∨ i = q.1 ∧ k < q.2) → A i k = 0 ∨ (A q.1 q.2).natAbs < (A i k).natAbs)
theorem LsOK.congr {A : Nat → Nat → Int} {P Q : Nat → Nat → Prop} {o : Pt} (h : LsOK A P o) (e : ∀ i k, P i k ↔ Q i k) : LsOK A Q o := by
  have : P = Q := by funext i k; exact propext (e i k)
  exact this ▸ h
theorem lsB_ok {A : Nat → Nat → Int} {P : Nat → Nat → Prop} {o : Pt} {i k : Nat} (h : LsOK A P o) (hb : ∀ a b, P a b → a < i ∨ a = i ∧ b < k) : LsOK A (fun a b => P a b ∨ (a = i ∧ b = k)) (lsB A o i k) := by
  unfold lsB lsT
  cases o with
  | none =>
    have h0 := h.no rfl
    by_cases hz : A i k = 0
    · rw [hz]
      refine ⟨fun _ a b hab => ?_, fun q hq => ?_⟩
      · rcases hab with hab | ⟨rfl, rfl⟩
        · exact h0 a b hab
        · exact hz
      · simp at hq
    · rw [decide_eq_true hz]
      refine ⟨fun hq => by simp at hq, fun q hq => ?_⟩
      simp at hq
      subst hq
      refine ⟨.inr ⟨rfl, rfl⟩, hz, fun a b hab => ?_, fun a b hab hl => ?_⟩
      · rcases hab with hab | ⟨rfl, rfl⟩
        · exact .inl (h0 a b hab)
        · exact .inr (Nat.le_refl _)
      · rcases hab with hab | ⟨rfl, rfl⟩
        · exact .inl (h0 a b hab)
        · dsimp only at hl; omega
  | some p =>
    obtain ⟨h1, h2, h3, h4⟩ := h.so p rfl
    by_cases hc : A i k ≠ 0 ∧ (A i k).natAbs < (A p.1 p.2).natAbs
    · have e : (decide (A i k ≠ 0) && decide ((A i k).natAbs < (A p.1 p.2).natAbs)) = true := by
        rw [Bool.and_eq_true, decide_eq_true_iff, decide_eq_true_iff]; exact hc
      dsimp only
      rw [e]
      refine ⟨fun hq => by simp at hq, fun q hq => ?_⟩
      simp at hq
      subst hq
      refine ⟨.inr ⟨rfl, rfl⟩, hc.1, fun a b hab => ?_, fun a b hab hl => ?_⟩
      · rcases hab with hab | ⟨rfl, rfl⟩
        · rcases h3 a b hab with g | g
          · exact .inl g
          · exact .inr (by dsimp only; omega)
        · exact .inr (Nat.le_refl _)
      · rcases hab with hab | ⟨rfl, rfl⟩
        · rcases h3 a b hab with g | g
          · exact .inl g
          · exact .inr (by dsimp only; omega)
        · dsimp only at hl; omega
    · have e : (decide (A i k ≠ 0) && decide ((A i k).natAbs < (A p.1 p.2).natAbs)) = false := by
        rw [Bool.eq_false_iff]
        intro ht
        rw [Bool.and_eq_true, decide_eq_true_iff, decide_eq_true_iff] at ht
        exact hc ht
      dsimp only
      rw [e]
      refine ⟨fun hq => by simp at hq, fun q hq => ?_⟩
      have hq : p = q := by simpa using hq
      subst hq
      refine ⟨.inl h1, h2, fun a b hab => ?_, fun a b hab hl => ?_⟩
      · rcases hab with hab | ⟨rfl, rfl⟩
        · exact h3 a b hab
        · by_cases hz : A a b = 0
          · exact .inl hz
          · exact .inr (Nat.not_lt.1 fun hl => hc ⟨hz, hl⟩)
      · rcases hab with hab | ⟨rfl, rfl⟩
        · exact h4 a b hab hl
        · have := hb p.1 p.2 h1
          omega
theorem lsRow_ok {A : Nat → Nat → Int} {t c i : Nat} {o : Pt} (h : LsOK A (fun a b => t ≤ a ∧ a < i ∧ t ≤ b ∧ b < c) o) : ∀ k, LsOK A (fun a b => (t ≤ a ∧ a < i ∧ t ≤ b ∧ b < c) ∨ (a = i ∧ t ≤ b ∧ b < t + k)) (lsRow A i t k o)
  | 0 => h.congr fun a b => by omega
  | k + 1 => (lsB_ok (lsRow_ok h k) (i := i) (k := t + k) fun a b hab => by omega).congr fun a b => by omega
theorem lsAll_ok {A : Nat → Nat → Int} {t c m : Nat} (hm : t + m = c) : ∀ n, LsOK A (fun a b => t ≤ a ∧ a < t + n ∧ t ≤ b ∧ b < c) (lsAll A t m n)
  | 0 => ⟨fun _ a b hab => by omega, fun q hq => by cases hq⟩
  | n + 1 => (lsRow_ok (lsAll_ok hm n) m).congr fun a b => by omega
def oA (o : Pt) : Int := match o with | none => -1 | some q => (q.1 : Int)
def oC (o : Pt) : Int := match o with | none => -1 | some q => (q.2 : Int)
def lsW (r c t : Nat) (A U V : Nat → Nat → Int) : Pt → AEnt
  | none => wkS r c A U V
  | some q => wkS r c (swF (srF A t q.1) t q.2) (srF U t q.1) (swF V t q.2)
theorem lsB_t {A : Nat → Nat → Int} {o : Pt} {i k : Nat} (h : lsT A o i k = true) : lsB A o i k = some (i, k) := if_pos h
theorem lsB_f {A : Nat → Nat → Int} {o : Pt} {i k : Nat} (h : lsT A o i k = false) : lsB A o i k = o := by unfold lsB; rw [h]; rfl
theorem isign_0 : isign 0 = 0 := rfl
theorem isign_nz {z : Int} (h : z ≠ 0) : isign z ≠ 0 := fun e => h (isign_ne.1 e)
theorem icmp_lt {x y : Int} (h : x < y) : icmp x y = -1 := if_pos h
theorem icmp_ge {x y : Int} (h : ¬ x < y) : 0 ≤ icmp x y := by
  unfold icmp
  rw [if_neg h]
  split <;> decide
attribute [local irreducible] IntKind.wrap Go1 Reg WP thenK inBlk retQ retF RetF RetOK ResOK CallOK OpOK Sat
attribute [local irreducible] adK ngK zrK RL isign icmp oA oC lsRow lsAll swF srF
set_option maxRecDepth 20000 in
theorem con_sLeast {r c t K : Nat} {A U V : Nat → Nat → Int} (ht : t < r) (htc : t < c) (hr : r ≤ 64) (hc : c ≤ 64) (hA : ∀ x y, x < r → y < c → (A x y).natAbs < WB ^ K) (hK : K ≤ 270000000000) (o : Pt) (ho : lsAll A t (c - t) (r - t) = o) :
    CallOK Tryz.prog 77 [.ptr 81 0, .v (.int .i64 (t : Int))] [(81, .abs (wkS r c A U V))] ⟨.v (.bool o.isSome), [(81, .ent (.abs (lsW r c t A U V o)))]⟩ := by
  obtain ⟨m, hm⟩ : ∃ m, t + m = c := ⟨c - t, by omega⟩
  have hm1 : c - t = m := by omega
  rw [hm1] at ho
  refine CallOK.fnA Tryz.func77 Tryz.results77 Tryz.ntmps77 rfl rfl rfl rfl rfl rfl rfl rfl (fun w0 T B E0 hB => ?_)
  refine ws_open rfl rfl rfl rfl rfl rfl rfl ?_
  refine rl_open 82 rfl fun js cc q => ?_
  refine rl_open 83 rfl fun js2 cc2 q2 => ?_
  have hjl : js.length = r := q.len
  have hjl2 : js2.length = r := q2.len
  refine SX.goB ?_
  refine W.loop (fun i => t + i ≤ r) (fun i => [(0, .ptr 81 0), (1, .v (.int .i64 (t : Int))), (5, .v (.int .i64 (oA (lsAll A t m i)))), (6, .v (.int .i64 (oC (lsAll A t m i)))), (7, .v (.int .i64 ((t + i : Nat) : Int)))]) (fun i => [(81, .box 86 (wsC c)), (82, .abs (RowsB js cc)), (83, .abs (RowsB js2 cc2)), (84, .abs (RL c c V))]) (fun i => r - (t + i)) 0 (by omega) (fun i hi => ?_)
    (by
      refine SX.St.le_to [] (by intro b h; exact SX.fixIs h rfl) ?_ ?_ rfl
      · repeat (first | exact trivial | refine ⟨⟨_, rfl, SX.AVto.same rfl⟩, ?_⟩ | refine ⟨⟨_, rfl, SX.AVto.int (by unfold lsAll oA; rfl)⟩, ?_⟩ | refine ⟨⟨_, rfl, SX.AVto.int (by unfold lsAll oC; rfl)⟩, ?_⟩ | refine ⟨⟨_, rfl, SX.AVto.int (by omega)⟩, ?_⟩)
      · exact ⟨SX.EntTo.same rfl rfl, SX.EntTo.same rfl rfl, SX.EntTo.same rfl rfl, SX.EntTo.same rfl rfl, trivial⟩)
  by_cases h : t + i < r
  · obtain ⟨ji, hji, lji, cji⟩ := q.get h
    have hji : js[t + i]? = some ji := hji
    have lji : ji < cc.length := lji
    have cji : cc[ji]? = some (zrK A (t + i) c) := cji
    have hwi : (zrK A (t + i) c).length = c := zrK_len
    have hoki := lsAll_ok (A := A) hm i
    have hnx : lsAll A t m (i + 1) = lsRow A (t + i) t m (lsAll A t m i) := by conv => lhs; unfold lsAll
    refine SX.goB ?_
    refine W.loop (fun k => t + k ≤ c) (fun k => [(0, .ptr 81 0), (1, .v (.int .i64 (t : Int))), (5, .v (.int .i64 (oA (lsRow A (t + i) t k (lsAll A t m i))))), (6, .v (.int .i64 (oC (lsRow A (t + i) t k (lsAll A t m i))))), (7, .v (.int .i64 ((t + i : Nat) : Int))), (8, .v (.int .i64 ((t + k : Nat) : Int)))]) (fun k => [(81, .box 86 (wsC c)), (82, .abs (RowsB js cc)), (83, .abs (RowsB js2 cc2)), (84, .abs (RL c c V))]) (fun k => c - (t + k)) 0 (by omega) (fun k hk => ?_)
      (by
        have e0 : lsRow A (t + i) t 0 (lsAll A t m i) = lsAll A t m i := by unfold lsRow; rfl
        refine SX.St.le_to [] (by intro b h; exact SX.fixIs h rfl) ?_ ?_ rfl
        · repeat (first | exact trivial | refine ⟨⟨_, rfl, SX.AVto.same rfl⟩, ?_⟩ | refine ⟨⟨_, rfl, SX.AVto.int (by rw [e0])⟩, ?_⟩ | refine ⟨⟨_, rfl, SX.AVto.int (by omega)⟩, ?_⟩)
        · exact ⟨SX.EntTo.same rfl rfl, SX.EntTo.same rfl rfl, SX.EntTo.same rfl rfl, SX.EntTo.same rfl rfl, trivial⟩)
    by_cases h2 : t + k < c
    · have g1 := zrK_at (A := A) (i := t + i) h2
      haveI iX : Bd (A (t + i) (t + k)) K := ⟨hA _ _ h h2⟩
      have hrk := lsRow_ok hoki k
      have hn1 : lsRow A (t + i) t (k + 1) (lsAll A t m i) = lsB A (lsRow A (t + i) t k (lsAll A t m i)) (t + i) (t + k) := by conv => lhs; unfold lsRow
      generalize lsRow A (t + i) t k (lsAll A t m i) = o1 at *
      by_cases hz : A (t + i) (t + k) = 0
      · have hs : isign (A (t + i) (t + k)) = 0 := by rw [hz]; exact isign_0
        have hf : lsT A o1 (t + i) (t + k) = false := by unfold lsT; rw [hz]; rfl
        rw [lsB_f hf] at hn1
        refine SX.goB ?_
        refine W.next (k + 1) (by omega) (by omega) (by
          refine SX.St.le_to [] (by intro b h; exact SX.fixIs h rfl) ?_ ?_ rfl
          · repeat (first | exact trivial | refine ⟨⟨_, rfl, SX.AVto.same rfl⟩, ?_⟩ | refine ⟨⟨_, rfl, SX.AVto.int (by rw [hn1])⟩, ?_⟩ | refine ⟨⟨_, rfl, SX.AVto.int (by omega)⟩, ?_⟩)
          · exact ⟨SX.EntTo.same rfl rfl, SX.EntTo.same rfl rfl, SX.EntTo.same rfl rfl, SX.EntTo.same rfl rfl, trivial⟩)
      · have hs := isign_nz hz
        cases o1 with
        | none =>
          have ha : oA none = -1 := by unfold oA; rfl
          have hcN : oC none = -1 := by unfold oC; rfl
          have hf : lsT A none (t + i) (t + k) = true := by unfold lsT; rw [decide_eq_true hz]; rfl
          rw [lsB_t hf] at hn1
          rw [ha, hcN]
          have ha2 : oA (some (t + i, t + k)) = ((t + i : Nat) : Int) := by unfold oA; rfl
          have hc2 : oC (some (t + i, t + k)) = ((t + k : Nat) : Int) := by unfold oC; rfl
          refine SX.goB ?_
          refine W.next (k + 1) (by omega) (by omega) (by
            refine SX.St.le_to [] (by intro b h; exact SX.fixIs h rfl) ?_ ?_ rfl
            · repeat (first | exact trivial | refine ⟨⟨_, rfl, SX.AVto.same rfl⟩, ?_⟩ | refine ⟨⟨_, rfl, SX.AVto.int (by rw [hn1, ha2])⟩, ?_⟩ | refine ⟨⟨_, rfl, SX.AVto.int (by rw [hn1, hc2])⟩, ?_⟩ | refine ⟨⟨_, rfl, SX.AVto.int (by omega)⟩, ?_⟩)
            · exact ⟨SX.EntTo.same rfl rfl, SX.EntTo.same rfl rfl, SX.EntTo.same rfl rfl, SX.EntTo.same rfl rfl, trivial⟩)
        | some p =>
          obtain ⟨hp1, hp2, _, _⟩ := hrk.so p rfl
          have p1 : p.1 < r := by omega
          have p2 : p.2 < c := by omega
          have ha : oA (some p) = ((p.1 : Nat) : Int) := by unfold oA; rfl
          have hcN : oC (some p) = ((p.2 : Nat) : Int) := by unfold oC; rfl
          obtain ⟨jp, hjp, ljp, cjp⟩ := q.get p1
          have hjp : js[p.1]? = some jp := hjp
          have ljp : jp < cc.length := ljp
          have cjp : cc[jp]? = some (zrK A p.1 c) := cjp
          have hwp : (zrK A p.1 c).length = c := zrK_len
          have gp := zrK_at (A := A) (i := p.1) p2
          haveI iP : Bd (A p.1 p.2) K := ⟨hA _ _ p1 p2⟩
          haveI iXa : Bd ((A (t + i) (t + k)).natAbs : Int) K := ⟨by rw [Int.natAbs_natCast]; exact hA _ _ h h2⟩
          haveI iPa : Bd ((A p.1 p.2).natAbs : Int) K := ⟨by rw [Int.natAbs_natCast]; exact hA _ _ p1 p2⟩
          by_cases hlt : (A (t + i) (t + k)).natAbs < (A p.1 p.2).natAbs
          · have hcm := icmp_lt (show ((A (t + i) (t + k)).natAbs : Int) < ((A p.1 p.2).natAbs : Int) by omega)
            have hf : lsT A (some p) (t + i) (t + k) = true := by unfold lsT; dsimp only; rw [decide_eq_true hz, decide_eq_true hlt]; rfl
            rw [lsB_t hf] at hn1
            rw [ha, hcN]
            have ha2 : oA (some (t + i, t + k)) = ((t + i : Nat) : Int) := by unfold oA; rfl
            have hc2 : oC (some (t + i, t + k)) = ((t + k : Nat) : Int) := by unfold oC; rfl
            refine SX.goB ?_
            refine W.next (k + 1) (by omega) (by omega) (by
              refine SX.St.le_to [] (by intro b h; exact SX.fixIs h rfl) ?_ ?_ rfl
              · repeat (first | exact trivial | refine ⟨⟨_, rfl, SX.AVto.same rfl⟩, ?_⟩ | refine ⟨⟨_, rfl, SX.AVto.int (by rw [hn1, ha2])⟩, ?_⟩ | refine ⟨⟨_, rfl, SX.AVto.int (by rw [hn1, hc2])⟩, ?_⟩ | refine ⟨⟨_, rfl, SX.AVto.int (by omega)⟩, ?_⟩)
              · exact ⟨SX.EntTo.same rfl rfl, SX.EntTo.same rfl rfl, SX.EntTo.same rfl rfl, SX.EntTo.same rfl rfl, trivial⟩)
          · have hcm := icmp_ge (show ¬ ((A (t + i) (t + k)).natAbs : Int) < ((A p.1 p.2).natAbs : Int) by omega)
            have hf : lsT A (some p) (t + i) (t + k) = false := by unfold lsT; dsimp only; rw [decide_eq_false hlt, Bool.and_false]
            rw [lsB_f hf] at hn1
            rw [ha, hcN]
            refine SX.goB ?_
            refine W.next (k + 1) (by omega) (by omega) (by
              refine SX.St.le_to [] (by intro b h; exact SX.fixIs h rfl) ?_ ?_ rfl
              · repeat (first | exact trivial | refine ⟨⟨_, rfl, SX.AVto.same rfl⟩, ?_⟩ | refine ⟨⟨_, rfl, SX.AVto.int (by rw [hn1, ha])⟩, ?_⟩ | refine ⟨⟨_, rfl, SX.AVto.int (by rw [hn1, hcN])⟩, ?_⟩ | refine ⟨⟨_, rfl, SX.AVto.int (by omega)⟩, ?_⟩)
              · exact ⟨SX.EntTo.same rfl rfl, SX.EntTo.same rfl rfl, SX.EntTo.same rfl rfl, SX.EntTo.same rfl rfl, trivial⟩)
    · obtain rfl : k = m := by omega
      refine SX.goB ?_
      refine W.next (i + 1) (by omega) (by omega) (by
        refine SX.St.le_to [] (by intro b h; exact SX.fixIs h rfl) ?_ ?_ rfl
        · repeat (first | exact trivial | refine ⟨⟨_, rfl, SX.AVto.same rfl⟩, ?_⟩ | refine ⟨⟨_, rfl, SX.AVto.int (by rw [hnx])⟩, ?_⟩ | refine ⟨⟨_, rfl, SX.AVto.int (by omega)⟩, ?_⟩)
        · exact ⟨SX.EntTo.same rfl rfl, SX.EntTo.same rfl rfl, SX.EntTo.same rfl rfl, SX.EntTo.same rfl rfl, trivial⟩)
  · obtain rfl : i = r - t := by omega
    have hall := lsAll_ok (A := A) hm (r - t)
    rw [ho] at hall ⊢
    cases o with
    | none =>
      have ha : oA none = -1 := by unfold oA; rfl
      rw [ha]
      refine SX.goB ?_
      refine RetF.le (ws_close [] [82, 83, 84] rfl ⟨AtomTo.same rfl, AtomTo.same rfl, AtomTo.same rfl, AtomTo.same rfl, trivial⟩ ⟨rl_to rfl q rfl, rl_to rfl q2 rfl, SX.EntTo.same rfl rfl, trivial⟩ rfl rfl rfl) ?_
      exact retP (xs := [.one (.c (.val (.bool false)))]) ⟨ResOK.tmp rfl, trivial⟩ ⟨rfl, trivial⟩
    | some p =>
      obtain ⟨hp1, hp2, _, _⟩ := hall.so p rfl
      have p1 : p.1 < r := by omega
      have p2 : p.2 < c := by omega
      have ha : oA (some p) = ((p.1 : Nat) : Int) := by unfold oA; rfl
      have hcN : oC (some p) = ((p.2 : Nat) : Int) := by unfold oC; rfl
      rw [ha, hcN]
      obtain ⟨jt, hjt, ljt, cjt⟩ := q.get ht
      obtain ⟨jp, hjp, ljp, cjp⟩ := q.get p1
      have hjt : js[t]? = some jt := hjt
      have hjp : js[p.1]? = some jp := hjp
      have ljt : jt < cc.length := ljt
      have ljp : jp < cc.length := ljp
      obtain ⟨kt, hkt, lkt, ckt⟩ := q2.get ht
      obtain ⟨kp, hkp, lkp, ckp⟩ := q2.get p1
      have hkt : js2[t]? = some kt := hkt
      have hkp : js2[p.1]? = some kp := hkp
      have lkt : kt < cc2.length := lkt
      have lkp : kp < cc2.length := lkp
      have hl3 : (js.set t jp).length = r := by rw [List.length_set]; exact hjl
      have hl4 : (js2.set t kp).length = r := by rw [List.length_set]; exact hjl2
      have qs : ZOk r c (srF A t p.1) ((js.set t jp).set p.1 jt, cc) := by
        have := q.swap hjt hjp
        unfold srF; exact this
      have qs2 : ZOk r r (srF U t p.1) ((js2.set t kp).set p.1 kt, cc2) := by
        have := q2.swap hkt hkp
        unfold srF; exact this
      have cA := rl_pre (con_swapCols (A := srF A t p.1) htc p2 (show r ≤ 100 by omega) (show c ≤ 100 by omega)) qs
      have cV := CallOK.relTo (con_swapCols (A := V) htc p2 (show c ≤ 100 by omega) (show c ≤ 100 by omega)) (by intro a ha; simp at ha; rcases ha with rfl | rfl <;> rfl) 84
      refine SX.goB ?_
      refine RetF.le (ws_close [] [82, 83, 84] rfl ⟨AtomTo.same rfl, AtomTo.same rfl, AtomTo.same rfl, AtomTo.same rfl, trivial⟩ ⟨SX.EntTo.same rfl rfl, rl_to rfl qs2 rfl, SX.EntTo.same rfl rfl, trivial⟩ rfl rfl rfl) ?_
      exact retP (xs := [.one (.c (.val (.bool true)))]) ⟨ResOK.tmp rfl, trivial⟩ ⟨rfl, trivial⟩
end Go.Proofs.YtmfadfkjnfdngaaGreatDoor
set_option linter.unusedVariables false
set_option linter.unusedSimpArgs false
namespace Go.Proofs.YtmfadfkjnfdngaaGreatDoor
open Go.RowKit QM SX
theorem fdiv_le_pos {x p : Int} (hp : 0 < p) : (x.fdiv p).natAbs ≤ x.natAbs := by
  obtain ⟨e, e1, _⟩ := SNW.fm_of x (show p ≠ 0 by omega)
  obtain ⟨m1, m2⟩ := e1 hp
  generalize x.fdiv p = q at *
  generalize x.fmod p = m at *
  by_cases hq : 0 ≤ q
  · have := Int.mul_le_mul_of_nonneg_right (show 1 ≤ p by omega) hq
    omega
  · have h := Int.mul_le_mul_of_nonneg_left (a := 1) (b := p) (c := -(q + 1)) (by omega) (by omega)
    have e2 : -(q + 1) * p = -(p * q) - p := by rw [Int.neg_mul, Int.add_mul, Int.mul_comm q p]; omega
    rw [e2] at h
    omega
theorem zfq_le (x p : Int) : (zfq x p).natAbs ≤ x.natAbs := by
  unfold zfq
  by_cases h : p = 0
  · rw [if_pos h]; omega
  · rw [if_neg h]
    rcases Int.lt_or_gt_of_ne h with q | q
    · have := fdiv_le_pos (x := -x) (p := -p) (by omega)
      rw [(SNW.fm_neg x h).1] at this
      omega
    · exact fdiv_le_pos q
theorem zfq_lt {x p : Int} {K : Nat} (h : x.natAbs < WB ^ K) : (zfq x p).natAbs < WB ^ K := Nat.lt_of_le_of_lt (zfq_le x p) h
theorem ngz_lt {x : Int} {K : Nat} (h : x.natAbs < WB ^ K) : (-x).natAbs < WB ^ K := by rw [Int.natAbs_neg]; exact h
theorem pw_le {K L : Nat} (h : K ≤ L) : WB ^ K ≤ WB ^ L := Nat.pow_le_pow_right WB_pos h
theorem upz_lt {x : Int} {K L : Nat} (h : x.natAbs < WB ^ K) (hK : K ≤ L) : x.natAbs < WB ^ L := Nat.lt_of_lt_of_le h (pw_le hK)
theorem mulz_lt {x y : Int} {K L : Nat} (h : x.natAbs < WB ^ K) (h' : y.natAbs < WB ^ L) : (x * y).natAbs < WB ^ (K + L) := by
  rw [Int.natAbs_mul, Nat.pow_add]
  exact Nat.mul_lt_mul'' h h'
theorem dblz (K : Nat) : 2 * WB ^ K ≤ WB ^ (K + 1) := by
  rw [Nat.pow_succ, Nat.mul_comm 2]
  exact Nat.mul_le_mul_left _ (by rw [WB_eq]; decide)
theorem addz_lt {x y : Int} {K : Nat} (h : x.natAbs < WB ^ K) (h' : y.natAbs < WB ^ K) : (x + y).natAbs < WB ^ (K + 1) := by
  have := dblz K
  omega
theorem stepz_lt {x q y : Int} {K L M : Nat} (h : x.natAbs < WB ^ M) (hq : q.natAbs < WB ^ K) (hy : y.natAbs < WB ^ L) (hM : K + L ≤ M) : (x + -q * y).natAbs < WB ^ (M + 1) :=
  addz_lt h (upz_lt (mulz_lt (ngz_lt hq) hy) hM)
def clR (A : Nat → Nat → Int) (t n x y : Nat) : Int := if t < x ∧ x < n then A x y + -(zfq (A x t) (A t t)) * A t y else A x y
def clU (A U : Nat → Nat → Int) (t n x y : Nat) : Int := if t < x ∧ x < n then U x y + -(zfq (A x t) (A t t)) * U t y else U x y
def clC (A : Nat → Nat → Int) (t n x y : Nat) : Int := if t < y ∧ y < n then A x y + -(zfq (A t y) (A t t)) * A x t else A x y
def clV (A V : Nat → Nat → Int) (t n x y : Nat) : Int := if t < y ∧ y < n then V x y + -(zfq (A t y) (A t t)) * V x t else V x y
def flR (A : Nat → Nat → Int) (t : Nat) : Nat → Bool
  | 0 => true
  | n + 1 => flR A t n && (decide (n ≤ t) || decide (isign (zfr (A n t) (A t t)) = 0))
def flC (A : Nat → Nat → Int) (t : Nat) (b : Bool) : Nat → Bool
  | 0 => b
  | n + 1 => flC A t b n && (decide (n ≤ t) || decide (isign (zfr (A t n) (A t t)) = 0))
section
variable {A U V : Nat → Nat → Int} {t n r c K L : Nat} {b : Bool}
theorem flR_start : ∀ n, n ≤ t + 1 → flR A t n = true
  | 0, _ => rfl
  | n + 1, h => by unfold flR; rw [flR_start n (by omega), decide_eq_true (show n ≤ t by omega)]; rfl
theorem flC_start : ∀ n, n ≤ t + 1 → flC A t b n = b
  | 0, _ => rfl
  | n + 1, h => by unfold flC; rw [flC_start n (by omega), decide_eq_true (show n ≤ t by omega)]; simp
theorem flR_next (h : t < n) : flR A t (n + 1) = (flR A t n && decide (isign (zfr (A n t) (A t t)) = 0)) := by
  conv => lhs; unfold flR
  rw [decide_eq_false (show ¬ n ≤ t by omega), Bool.false_or]
theorem flC_next (h : t < n) : flC A t b (n + 1) = (flC A t b n && decide (isign (zfr (A t n) (A t t)) = 0)) := by
  conv => lhs; unfold flC
  rw [decide_eq_false (show ¬ n ≤ t by omega), Bool.false_or]
theorem clR_0 (x y : Nat) : clR A t (t + 1) x y = A x y := if_neg (by omega)
theorem clU_0 (x y : Nat) : clU A U t (t + 1) x y = U x y := if_neg (by omega)
theorem clC_0 (x y : Nat) : clC A t (t + 1) x y = A x y := if_neg (by omega)
theorem clV_0 (x y : Nat) : clV A V t (t + 1) x y = V x y := if_neg (by omega)
theorem clR_row (y : Nat) : clR A t n t y = A t y := if_neg (by omega)
theorem clC_col (x : Nat) : clC A t n x t = A x t := if_neg (by omega)
theorem clR_next (h : t < n) (x y : Nat) : adF (clR A t n) n t (-(zfq (A n t) (A t t))) x y = clR A t (n + 1) x y := by
  unfold adF
  by_cases e : x = n
  · subst e
    rw [if_pos rfl, clR_row]
    unfold clR
    rw [if_neg (by omega), if_pos (by omega)]
  · rw [if_neg e]
    unfold clR
    by_cases e2 : t < x ∧ x < n
    · rw [if_pos e2, if_pos (by omega)]
    · rw [if_neg e2, if_neg (by omega)]
theorem clU_next (h : t < n) (x y : Nat) : adF (clU A U t n) n t (-(zfq (A n t) (A t t))) x y = clU A U t (n + 1) x y := by
  unfold adF
  by_cases e : x = n
  · subst e
    rw [if_pos rfl]
    unfold clU
    rw [if_neg (by omega), if_neg (by omega), if_pos (by omega)]
  · rw [if_neg e]
    unfold clU
    by_cases e2 : t < x ∧ x < n
    · rw [if_pos e2, if_pos (by omega)]
    · rw [if_neg e2, if_neg (by omega)]
theorem clC_next (h : t < n) (x y : Nat) : acF (clC A t n) n t (-(zfq (A t n) (A t t))) x y = clC A t (n + 1) x y := by
  unfold acF
  by_cases e : y = n
  · subst e
    rw [if_pos rfl, clC_col]
    unfold clC
    rw [if_neg (by omega), if_pos (by omega)]
  · rw [if_neg e]
    unfold clC
    by_cases e2 : t < y ∧ y < n
    · rw [if_pos e2, if_pos (by omega)]
    · rw [if_neg e2, if_neg (by omega)]
theorem clV_next (h : t < n) (x y : Nat) : acF (clV A V t n) n t (-(zfq (A t n) (A t t))) x y = clV A V t (n + 1) x y := by
  unfold acF
  by_cases e : y = n
  · subst e
    rw [if_pos rfl]
    unfold clV
    rw [if_neg (by omega), if_neg (by omega), if_pos (by omega)]
  · rw [if_neg e]
    unfold clV
    by_cases e2 : t < y ∧ y < n
    · rw [if_pos e2, if_pos (by omega)]
    · rw [if_neg e2, if_neg (by omega)]
theorem clR_lt (hA : ∀ x y, x < r → y < c → (A x y).natAbs < WB ^ K) (ht : t < r) (htc : t < c) (x y : Nat) (hx : x < r) (hy : y < c) : (clR A t n x y).natAbs < WB ^ (2 * K + 1) := by
  unfold clR
  split
  · exact stepz_lt (upz_lt (hA x y hx hy) (by omega)) (zfq_lt (hA x t hx htc)) (hA t y ht hy) (by omega)
  · exact upz_lt (hA x y hx hy) (by omega)
theorem clU_lt {w : Nat} (hA : ∀ x y, x < r → y < c → (A x y).natAbs < WB ^ K) (hU : ∀ x y, x < r → y < w → (U x y).natAbs < WB ^ L) (ht : t < r) (htc : t < c) (x y : Nat) (hx : x < r) (hy : y < w) : (clU A U t n x y).natAbs < WB ^ (K + L + 1) := by
  unfold clU
  split
  · exact stepz_lt (upz_lt (hU x y hx hy) (by omega)) (zfq_lt (hA x t hx htc)) (hU t y ht hy) (by omega)
  · exact upz_lt (hU x y hx hy) (by omega)
theorem zfr_le {x p : Int} (h : p ≠ 0) : (x + -(zfq x p) * p).natAbs ≤ p.natAbs := by
  unfold zfq
  rw [if_neg h]
  obtain ⟨e, _⟩ := SNW.fm_of x h
  have e2 : x + -(x.fdiv p) * p = x.fmod p := by rw [Int.neg_mul, Int.mul_comm]; omega
  rw [e2]; exact SNW.fmod_abs x h
theorem clR_col_lt (hA : ∀ x y, x < r → y < c → (A x y).natAbs < WB ^ K) (h0 : A t t ≠ 0) (ht : t < r) (htc : t < c) (x : Nat) (hx : x < r) : (clR A t n x t).natAbs < WB ^ K := by
  unfold clR
  split
  · exact Nat.lt_of_le_of_lt (zfr_le h0) (hA t t ht htc)
  · exact hA x t hx htc
theorem clC_lt (hA : ∀ x y, x < r → y < c → (A x y).natAbs < WB ^ L) (hT : ∀ x, x < r → (A x t).natAbs < WB ^ K) (hR : ∀ y, y < c → (A t y).natAbs < WB ^ K) (hL : K + K ≤ L) (x y : Nat) (hx : x < r) (hy : y < c) : (clC A t n x y).natAbs < WB ^ (L + 1) := by
  unfold clC
  split
  · exact stepz_lt (hA x y hx hy) (zfq_lt (hR y hy)) (hT x hx) hL
  · exact upz_lt (hA x y hx hy) (by omega)
theorem clV_lt {w : Nat} (hR : ∀ y, y < c → (A t y).natAbs < WB ^ K) (hV : ∀ x y, x < w → y < c → (V x y).natAbs < WB ^ L) (htc : t < c) (x y : Nat) (hx : x < w) (hy : y < c) : (clV A V t n x y).natAbs < WB ^ (K + L + 1) := by
  unfold clV
  split
  · exact stepz_lt (upz_lt (hV x y hx hy) (by omega)) (zfq_lt (hR y hy)) (hV x t hx htc) (by omega)
  · exact upz_lt (hV x y hx hy) (by omega)
end
abbrev cA (A : Nat → Nat → Int) (t r c : Nat) : Nat → Nat → Int := clC (clR A t r) t c
abbrev cV (A V : Nat → Nat → Int) (t r c : Nat) : Nat → Nat → Int := clV (clR A t r) V t c
abbrev cF (A : Nat → Nat → Int) (t r c : Nat) : Bool := flC (clR A t r) t (flR A t r) c
end Go.Proofs.YtmfadfkjnfdngaaGreatDoor

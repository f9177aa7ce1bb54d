import Derived.Test.YtkdonndeogihfaaDoorD1
import Derived.Test.YtkdonndeogihfaaDoorSxx
/- nat.MulAdd in the symbolic run. -/
set_option linter.unusedVariables false
set_option linter.unusedSimpArgs false
namespace Go.Proofs.YtkdonndeogihfaaDoor
open Go.RowKit QM SX
theorem PureOK.exR {ι : Type} {P : Program} {f : FuncId} {args : List AV} {r : AV} (args' : ι → List AV) (he : ∃ fn, P.funcs[f]? = some fn ∧ (fn.name == "runtime.NumGoroutine") = false ∧ fn.body.isNone = false) (h : ∀ i, PureOK P f (args' i) r)
    (hm : ∀ E S w vs, All2 (AV.has E S w) args vs → ∃ i, All2 (AV.has E S w) (args' i) vs) : PureOK P f args r :=
  ⟨he, fun E S w vs hl hv h1 h2 h3 => let ⟨i, hi⟩ := hm E S w vs hv; (h i).2 E S w vs hl hi h1 h2 h3⟩
attribute [local irreducible] IntKind.wrap Go1 Reg WP thenK inBlk retQ retF RetF RetOK ResOK CallOK OpOK Sat
/-- A word. -/
def wC (w : Nat) : List CA := [.val (.int .u64 (w : Int))]
instance : EncLen wC 1 := ⟨fun _ => rfl⟩
instance : EncOne wC := ⟨fun _ => rfl⟩
theorem wC_map (l : List Nat) : (l.map fun x : Nat => CA.val (.int .u64 (x : Int))) = l.flatMap wC := by
  induction l with
  | nil => rfl
  | cons x l ih => rw [List.map_cons, List.flatMap_cons, ih]; rfl
instance AsRow.raw (l : List Nat) : AsRow (rawN l) 1 wC l := ⟨fun S w v h => by
  have := (rawN_iff.1 h).2
  rw [wC_map] at this; exact this⟩
theorem raw_of_row {l : List Nat} (hs : Sm WB l) {S : Nat → Prop} {w : World} {v : Value} (h : (rowR 1 wC l).has S w v) : (rawN l).has S w v :=
  rawN_iff.2 ⟨hs, by rw [wC_map]; exact h⟩
theorem imp_raw {l : List Nat} (hs : Sm WB l) : AV0.imp (.one (.c (.sat (rowR 1 wC l)))) (.one (.c (.sat (rawN l)))) := fun E S w v h => raw_of_row hs h
theorem lawN {f : FuncId} {l : List Nat} {args : List AV} {r : AV} (he : ∃ fn, Tryd.prog.funcs[f]? = some fn ∧ (fn.name == "runtime.NumGoroutine") = false ∧ fn.body.isNone = false)
    (hf : Sm WB l → PureOK Tryd.prog f (.r (rawN l) :: args) r) : PureOK Tryd.prog f (.r (rawN l) :: args) r := by
  refine PureOK.fact (φ := Sm WB l) he hf fun E S w vs hv => ?_
  match vs, hv with
  | x :: xs, ⟨h1, h2⟩ => exact ⟨⟨h1, h2⟩, (rawN.rn h1).sm⟩
theorem con_trimR (l : List Nat) (hl : l.length ≤ 4398046511104) : PureOK Tryd.prog 79 [.r (rawN l)] (.r (rawN (l.take (tlen l)))) := by
  refine lawN ⟨_, Tryd.func79, rfl, rfl⟩ fun hs => ?_
  refine PureOK.fnF Tryd.func79 Tryd.results79 Tryd.ntmps79 rfl rfl rfl (by simp [AV.ids, AV0.ids, Atom.ids]) rfl (fun w0 T B E0 hB => ?_)
  refine SX.go2 ?_
  refine W.loop (fun n => tlen l ≤ n ∧ n ≤ l.length) (fun n => [(0, .r (rawN l)), (3, .v (.int .i64 (n : Int)))]) (fun _ => []) (fun n => n) l.length ⟨tlen_le l, Nat.le_refl _⟩ (fun n ⟨h1, h2⟩ => ?_)
  have fin : n = tlen l → AV0.imp (.one (.c (.sat (rowR 1 wC (l.take n))))) (.one (.c (.sat (rawN (l.take (tlen l)))))) := fun e => by rw [e]; exact imp_raw (hs.take _)
  cases n with
  | zero =>
    refine SX.go2 ?_
    exact ret1' (fin (by omega))
  | succ m =>
    obtain ⟨w, hw⟩ : ∃ w, l[m]? = some w := ⟨_, List.getElem?_eq_getElem (by omega)⟩
    have hg : l.getD m 0 = w := by rw [List.getD_eq_getElem?_getD, hw]; rfl
    have hw' : l[m + 1 - 1]? = some w := hw
    by_cases hz : tlen l = m + 1
    · have hw0 : w ≠ 0 := by
        have := tlen_last (l := l) (by omega)
        rw [hz, show m + 1 - 1 = m by omega, hg] at this; exact this
      refine SX.go2 ?_
      exact ret1' (fin hz.symm)
    · have hw0 : w = 0 := by rw [← hg]; exact tlen_zero (by omega)
      refine SX.go2 ?_
      exact W.next m ⟨by omega, by omega⟩ (by omega)
theorem wds_take {l : List Nat} (hs : Sm WB l) : l.take (tlen l) = wds (nval WB l) := by
  have := wds_uniq (hs.take (tlen l)) (nrm_tlen l)
  rw [nval_tlen] at this; exact this
theorem con_normalR (l : List Nat) (hl : l.length ≤ 4398046511104) : PureOK Tryd.prog 77 [.r (rawN l)] (.r (nrmN (nval WB l))) := by
  refine lawN ⟨_, Tryd.func77, rfl, rfl⟩ fun hs => ?_
  have cT := con_trimR l hl
  rw [wds_take hs] at cT
  have hn := wds_nrm (nval WB l)
  have hv := wds_val (nval WB l)
  refine PureOK.fnF Tryd.func77 Tryd.results77 Tryd.ntmps77 rfl rfl rfl (by simp [AV.ids, AV0.ids, Atom.ids]) rfl (fun w0 T B E0 hB => ?_)
  by_cases h0 : (wds (nval WB l)).length = 0
  · refine SX.go2 ?_
    exact RetF.ok (RetOK.mk1 ((ResOK.tmp rfl).imp (fun E S w v h => by
      rw [show v = _ from h, show nval WB l = 0 from (wds_zero _).1 h0]; exact nrmN.zero)))
  · refine SX.go2 ?_
    exact RetF.ok (RetOK.mk1 (ResOK.imp (x := .one (.c (.sat (rawN (wds (nval WB l)))))) (ResOK.tmp rfl) (fun E S w v h => nrmN_iff.2 ⟨_, hn, hv, fun e => absurd (by rw [e]; rfl) h0, h⟩)))
theorem mac1 {y w c : Nat} (hy : y < WB) (hw : w < WB) (hc : c < WB) :
    hi64 (y * w) + hi64 (lo64 (y * w) + c) < WB ∧ y * w + c = lo64 (lo64 (y * w) + c) + WB * (hi64 (y * w) + hi64 (lo64 (y * w) + c)) := by
  have h1 := lohi (y * w)
  have h2 := lohi (lo64 (y * w) + c)
  have hm : y * w ≤ (WB - 1) * (WB - 1) := Nat.mul_le_mul (by omega) (by omega)
  refine ⟨?_, ?_⟩
  · rw [WB_eq] at *
    omega
  · rw [Nat.mul_add]; omega
theorem con_Mul64 (x y : Nat) (hx : x < WB) (hy : y < WB) : PureOK Tryd.prog 81 [.v (.int .u64 (x : Int)), .v (.int .u64 (y : Int))] (.tup [.one (.c (.val (.int .u64 ((hi64 (x * y) : Nat) : Int)))), .one (.c (.val (.int .u64 ((lo64 (x * y) : Nat) : Int))))]) :=
  PureOK.of_calls ⟨_, Tryd.func81, rfl, rfl⟩ rfl fun E S w vs hl hv => by
    have hvs := SX.vals_has (args := [.int .u64 (x : Int), .int .u64 (y : Int)]) hv
    subst hvs
    exact (Mul64_any x y hx hy w).mono fun e w' ⟨h1, h2⟩ => ⟨_, h1, ⟨_, rfl, rfl, rfl, trivial⟩, by subst h2; exact Off.refl _ _⟩
theorem rep_zero (n : Nat) : List.replicate n (CA.val (.int .u64 0)) = (([] : List Nat) ++ List.replicate (n - 0) 0).flatMap wC := by
  rw [List.nil_append, Nat.sub_zero]
  induction n with
  | zero => rfl
  | succ n ih => rw [List.replicate_succ, List.replicate_succ, List.flatMap_cons, ih]; rfl
attribute [local irreducible] hi64 lo64
theorem con_MulAddR (l : List Nat) (hl : l.length ≤ 1000000000) (y z : Nat) (hy : y < WB) (hz : z < WB) : PureOK Tryd.prog 28 [.r (rawN l), .v (.int .u64 (y : Int)), .v (.int .u64 (z : Int))] (.r (nrmN (nval WB l * y + z))) := by
  refine lawN ⟨_, Tryd.func28, rfl, rfl⟩ fun hs0 => ?_
  have cT := con_trimR l (by omega)
  have hs := hs0.take (tlen l)
  have hv := nval_tlen (B := WB) l
  have hUl : (l.take (tlen l)).length ≤ 1000000000 := by rw [List.length_take]; omega
  rw [← hv]
  generalize l.take (tlen l) = U at *
  clear hv hs0
  have e0 := rep_zero (U.length + 1)
  refine PureOK.fnF Tryd.func28 Tryd.results28 Tryd.ntmps28 rfl rfl rfl (by simp [AV.ids, AV0.ids, Atom.ids]) rfl (fun w0 T B E0 hB => ?_)
  refine SX.go2 ?_
  refine W.loop3 (fun (k c : Nat) (ws : List Nat) => k ≤ U.length ∧ ws.length = k ∧ c < WB ∧ Sm WB ws ∧ nval WB ws + WB ^ k * c = nval WB (U.take k) * y + z)
    (fun k c ws => [(0, .r (rawN U)), (1, .v (.int .u64 (y : Int))), (7, .own 100), (8, .v (.int .u64 (c : Int))), (21, .r (rawN U)), (22, .v (.int .i64 (U.length : Int))), (23, .v (.int .i64 (k : Int)))])
    (fun k c ws => [(100, .row 41 1 (U.length + 1) ((ws ++ List.replicate (U.length + 1 - k) 0).flatMap wC))]) (fun k _ _ => U.length - k) 0 z [] ⟨Nat.zero_le _, rfl, hz, Sm.nil, by simp [nval]⟩ (fun k c ws ⟨hk, hw, hc, hsm, hval⟩ => ?_)
  by_cases hlt : k < U.length
  · obtain ⟨w, hw'⟩ : ∃ w, U[k]? = some w := ⟨_, List.getElem?_eq_getElem hlt⟩
    have hwb : w < WB := hs w (List.mem_of_getElem? hw')
    have hm := mac1 hy hwb hc
    have hm1 := hm.1
    rw [WB_eq] at hm1
    have cM := con_Mul64 y w hy hwb
    have e : spl ((ws ++ List.replicate (U.length + 1 - k) 0).flatMap wC) (k * 1) [.val (.int .u64 ((lo64 (lo64 (y * w) + c) : Nat) : Int))] = ((ws ++ [lo64 (lo64 (y * w) + c)]) ++ List.replicate (U.length + 1 - (k + 1)) 0).flatMap wC := by
      rw [show [CA.val (.int .u64 ((lo64 (lo64 (y * w) + c) : Nat) : Int))] = wC (lo64 (lo64 (y * w) + c)) from rfl, flat_set _ _ _ (by simp; omega)]
      congr 1
      rw [List.set_append_right _ _ (by omega), hw, Nat.sub_self, show U.length + 1 - k = (U.length + 1 - (k + 1)) + 1 by omega, List.replicate_succ]
      simp
    refine SX.go2 ?_
    refine SX.Go1.callE (args := [.int .u64 ((lo64 (y * w) : Nat) : Int), .int .u64 (c : Int), .int .u64 0]) (vs := [.int .u64 ((lo64 (lo64 (y * w) + c) : Nat) : Int), .int .u64 ((hi64 (lo64 (y * w) + c) : Nat) : Int)]) rfl (fun w => Add64_runc _ _ w) rfl ?_
    refine SX.go2 ?_
    refine W.next3 (k + 1) (hi64 (y * w) + hi64 (lo64 (y * w) + c)) (ws ++ [lo64 (lo64 (y * w) + c)]) ⟨by omega, by simp; omega, hm.1, hsm.append (Sm.cons (by unfold lo64 WB; exact Nat.mod_lt _ (by decide)) Sm.nil), ?_⟩ (by omega)
    have hg : U.getD k 0 = w := by rw [List.getD_eq_getElem?_getD, hw']; rfl
    rw [nval_snoc, nval_take_succ, hg, hw, Nat.add_mul]
    have hm2 := hm.2
    generalize lo64 (lo64 (y * w) + c) = s at *
    generalize hi64 (y * w) + hi64 (lo64 (y * w) + c) = c' at *
    rw [Nat.pow_succ]
    generalize WB ^ k = p at *
    generalize nval WB ws = a at *
    generalize nval WB (U.take k) = b at *
    grind
  · obtain rfl : k = U.length := by omega
    rw [List.take_length] at hval
    have hlen : (ws ++ [c]).length = U.length + 1 := by simp; omega
    have hsm' : Sm WB (ws ++ [c]) := hsm.append (Sm.cons hc Sm.nil)
    have hvn : nval WB (ws ++ [c]) = nval WB U * y + z := by rw [nval_snoc, hw]; exact hval
    have cN := con_normalR (ws ++ [c]) (by omega)
    rw [hvn] at cN
    have cN' : PureOK Tryd.prog 77 [.r (sliceR 1 (U.length + 1) ((ws ++ [c]).flatMap wC))] (.r (nrmN (nval WB U * y + z))) := by
      refine PureOK.args cN fun E S w vs hv => ?_
      match vs, hv with
      | [v], ⟨h1, _⟩ => exact ⟨raw_of_row hsm' (by show (sliceR 1 (ws ++ [c]).length _).has S w v; rw [hlen]; exact h1), trivial⟩
    have e : spl ((ws ++ List.replicate (U.length + 1 - U.length) 0).flatMap wC) (U.length * 1) [.val (.int .u64 (c : Int))] = (ws ++ [c]).flatMap wC := by
      rw [show [CA.val (.int .u64 (c : Int))] = wC c from rfl, flat_set _ _ _ (by simp; omega)]
      congr 1
      rw [List.set_append_right _ _ (by omega), hw, Nat.sub_self, show U.length + 1 - U.length = 1 by omega]
      rfl
    refine SX.WP.seq ?_
    refine SX.WP.regionL ?_
    refine SX.goR ?_
    first | refine SX.Reg.nil ⟨by kernel_rfl, ?_⟩ | refine SX.Reg.nil ?_
    refine SX.thenN ?_
    refine SX.WP.seq ?_
    refine SX.W.condF ?_
    refine SX.WP.exit ?_
    repeat (first | refine SX.thenE ?_ | refine SX.thenN ?_ | refine SX.inBlkE ?_)
    refine SX.WP.seq ?_
    refine SX.WP.regionL ?_
    refine SX.goR ?_
    first | refine SX.Reg.nil ⟨by kernel_rfl, ?_⟩ | refine SX.Reg.nil ?_
    refine SX.thenN ?_
    rw [← e] at cN'
    refine SX.WP.freeze 100 hB rfl ?_
    refine SX.go2 ?_
    exact ret1' (AV0.imp.refl _)
/-- The product with a word, and a word more. -/
instance con_MulAdd {a : CA} {x k : Nat} [ha : NI a x k] (y z : Nat) : Con Tryd.prog 28 [.it (.one (.c a)), .v (.int .u64 (y : Int)), .v (.int .u64 (z : Int))] (k ≤ 1000000000 ∧ y < WB ∧ z < WB) (.r (nrmN (x * y + z))) := ⟨fun ⟨hk, hy, hz⟩ =>
  PureOK.exR (ι := {l : List Nat // nval WB l = x ∧ l.length ≤ k}) (fun i => [.r (rawN i.1), .v (.int .u64 (y : Int)), .v (.int .u64 (z : Int))]) ⟨_, Tryd.func28, rfl, rfl⟩
    (fun i => by
      have := con_MulAddR i.1 (Nat.le_trans i.2.2 hk) y z hy hz
      rw [i.2.1] at this; exact this)
    (fun E S w vs hv => by
      match vs, hv with
      | u :: us, ⟨h1, h2⟩ =>
        obtain ⟨l, e1, e2, e3⟩ := natR_iff.1 (ha.p S w u h1)
        exact ⟨⟨l, e1, e2⟩, e3, h2⟩)⟩
end Go.Proofs.YtkdonndeogihfaaDoor

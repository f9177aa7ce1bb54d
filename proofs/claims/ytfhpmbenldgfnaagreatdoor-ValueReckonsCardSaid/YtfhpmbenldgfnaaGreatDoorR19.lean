import Derived.Test.YtfhpmbenldgfnaaGreatDoorR18
set_option linter.unusedVariables false
set_option linter.unusedSimpArgs false
set_option linter.unusedSectionVars false
namespace Go.Proofs.YtfhpmbenldgfnaaGreatDoor
open Go.RowKit QM SX LA
def Gd (x : Vl) (e : Int) : Prop := (e = 0 ∧ ∃ K n, Cv K n x ∧ K ≤ 50000 ∧ n ≤ 15) ∨ (e ≠ 0 ∧ x = v0)
theorem Gd.of {K n : Nat} {x : Vl} (h : Cv K n x) (hK : K ≤ 50000) (hn : n ≤ 15) : Gd x 0 := .inl ⟨rfl, K, n, h, hK, hn⟩
theorem Gd.no {e : Int} (h : e ≠ 0) : Gd v0 e := .inr ⟨h, rfl⟩
theorem fS_fA {p : Nat} (hp : PrP p) (x y : Nat) : fS p x y = fA p x (fS p 0 y) := by
  have hpl := hp.lt
  have h1 : y % p < p := Nat.mod_lt _ (by omega)
  unfold fS fA
  rw [Nat.zero_mod, Nat.zero_add, Nat.mod_mod, Nat.add_mod_mod, Nat.add_sub_assoc (by omega)]
theorem fS_00 (p : Nat) : fS p 0 0 = 0 := by unfold fS; rw [Nat.zero_mod, Nat.zero_add, Nat.sub_zero, Nat.mod_self]
theorem fA_00 (p : Nat) : fA p 0 0 = 0 := by unfold fA; rw [Nat.zero_mod, Nat.add_zero, Nat.zero_mod]
theorem fSub_fAdd {p : Nat} (hp : PrP p) (a b : List Nat) : fSub p a b = fAdd p a (fSub p [] b) :=
  gN_ext (fBoth_gN ..) (fBoth_gN ..) fun j => by
    rw [fBoth_at (p := p) (fS_00 p) (fS_lt hp), fBoth_at (p := p) (fA_00 p) (fA_lt hp), fBoth_at (p := p) (fS_00 p) (fS_lt hp), fS_fA hp]
    rfl
attribute [local irreducible] IntKind.wrap Go1 Reg WP thenK inBlk retQ retF RetF RetOK ResOK CallOK OpOK Sat
attribute [local irreducible] qsub qmul qquo qcmp qadd qv redS mf PrP qOk zOk vP fp64 lz vF cq rqv plen pNorm pBoth pScale mulV fA fS fM wlen wNorm wRest fNorm wvR wvP fmAdd fmScale fmMul fBoth fMul pMul mAdd mScale mxMul vW sameV
theorem Reck_few (m : Int) {u v : Vl} (hf : PureOK Tryz.prog 12 [.agg (vlA u), .agg (vlA v)] (.v (.bool false))) : PureOK Tryz.prog 8 [.v (.int .u8 m), .agg (vlA u), .agg (vlA v)] (.v (.bool true)) := by
  have cW := con_awake29
  refine PureOK.fnF Tryz.func8 Tryz.results8 Tryz.ntmps8 rfl rfl rfl (by simp [AV.ids, AV0.ids, Atom.ids]) rfl (fun w0 T B E0 hB => ?_)
  refine SX.goL ?_
  exact retB rfl
structure Rk (u v n s1 s2 s3 : Vl) (e1 e2 e3 : Int) : Prop where
  neg : PureOK Tryz.prog 87 [.agg (vlA v)] (.tup [.agg (vlA n), eNo 0])
  fn : PureOK Tryz.prog 28 [.agg (vlA n)] (.v (.bool true))
  kn : n.k = v.k
  a : PureOK Tryz.prog 47 [.agg (vlA u), .agg (vlA v)] (.tup [.agg (vlA s1), eNo e1])
  d : PureOK Tryz.prog 47 [.agg (vlA u), .agg (vlA n)] (.tup [.agg (vlA s2), eNo e2])
  m : PureOK Tryz.prog 104 [.agg (vlA u), .agg (vlA v)] (.tup [.agg (vlA s3), eNo e3])
  w4 : PureOK Tryz.prog 30 [.v (.int .i64 4), .agg (vlA u), .agg (vlA v)] (.tup [.agg (vlA s1), eNo e1])
  w5 : PureOK Tryz.prog 30 [.v (.int .i64 5), .agg (vlA u), .agg (vlA v)] (.tup [.agg (vlA s2), eNo e2])
  w6 : PureOK Tryz.prog 30 [.v (.int .i64 6), .agg (vlA u), .agg (vlA v)] (.tup [.agg (vlA s3), eNo e3])
  g1 : Gd s1 e1
  g2 : Gd s2 e2
  g3 : Gd s3 e3
section
variable {u v : Vl}
def RkP (u v : Vl) : Prop := ∃ n s1 s2 s3 e1 e2 e3, Rk u v n s1 s2 s3 e1 e2 e3
theorem RkP.ok (h : RkP u v) {m j : Nat} (hm : m < 256) (hj : (m : Int).tmod 3 = (j : Int)) (hj3 : j < 3)
    (hf : PureOK Tryz.prog 12 [.agg (vlA u), .agg (vlA v)] (.v (.bool true))) (hk : u.k = v.k)
    (i1 : PureOK Tryz.prog 14 [.agg (vlA u)] (.v (.bool true))) (i2 : PureOK Tryz.prog 14 [.agg (vlA v)] (.v (.bool true)))
    (F1 : PureOK Tryz.prog 28 [.agg (vlA u)] (.v (.bool true))) (F2 : PureOK Tryz.prog 28 [.agg (vlA v)] (.v (.bool true))) :
    PureOK Tryz.prog 8 [.v (.int .u8 (m : Int)), .agg (vlA u), .agg (vlA v)] (.v (.bool true)) := by
  obtain ⟨n, s1, s2, s3, e1, e2, e3, r⟩ := h
  have key : ∀ (x : Vl) (e : Int), Gd x e → PureOK Tryz.prog 13 [.v (.int .i64 ((4 + j : Nat) : Int)), .agg (vlA u), .agg (vlA v)] (.tup [.agg (vlA x), eNo e]) →
      PureOK Tryz.prog 30 [.v (.int .i64 ((4 + j : Nat) : Int)), .agg (vlA u), .agg (vlA v)] (.tup [.agg (vlA x), eNo e]) →
      PureOK Tryz.prog 8 [.v (.int .u8 (m : Int)), .agg (vlA u), .agg (vlA v)] (.v (.bool true)) := fun x e g hb hw => by
    rcases g with ⟨rfl, K, k, hC, hK, hn⟩ | ⟨he, rfl⟩
    · refine Reck_ok hm hj hj3 hf hk i1 i2 hb hw (isT hC hK hn) (sameU hC hK hn) F2 r.neg (con_Bin4 F1 r.fn (hk.trans r.kn.symm) r.d) (con_Bin5 F1 F2 hk (con_diff r.neg r.d)) fun h0 => ?_
      rcases r.g2 with ⟨_, K, k, hC, hK, hn⟩ | ⟨he, _⟩
      · exact sameU hC hK hn
      · exact absurd h0 he
    · exact Reck_err hm hj hj3 hf hk i1 i2 he hb hw
  match j, hj3, key with
  | 0, _, key => exact key s1 e1 r.g1 (con_Bin4 F1 F2 hk r.a) r.w4
  | 1, _, key => exact key s2 e2 r.g2 (con_Bin5 F1 F2 hk (con_diff r.neg r.d)) r.w5
  | 2, _, key => exact key s3 e3 r.g3 (con_Bin6 F1 F2 (con_times0 hk r.m)) r.w6
end
theorem Rk_1 {x y : Rat} (hx : RB x 2) (hy : RB y 2) : RkP (vNum x) (vNum y) := by
  have w5 := con_want1_5 hx hy (by decide)
  rw [Rat.sub_eq_add_neg] at w5
  have hn : Cv 2 0 (vNum (-y)) := .one (.num _ hy.neg)
  exact ⟨_, _, _, _, _, _, _, con_neg1 hy (by decide), hn.F (by decide) (by decide), rfl, con_sum1 hx hy (by decide), con_sum1 hx hy.neg (by decide), con_prod1 hx hy (by decide), con_want1_4 hx hy (by decide), w5, con_want1_6 hx hy (by decide),
    Gd.of (n := 0) (.one (.num _ (hx.add hy))) (by decide) (by decide), Gd.of (n := 0) (.one (.num _ (hx.add hy.neg))) (by decide) (by decide), Gd.of (n := 0) (.one (.num _ (hx.mul hy))) (by decide) (by decide)⟩
theorem pSub_add (a b : List Int) : pSub a b = pAdd a (pSub [] b) :=
  pN_ext (pBoth_pN ..) (pBoth_pN ..) fun j => by
    rw [pSub_at, pAdd_at, pSub_at]
    show _ = _ + (0 - _)
    omega
theorem Rk_3 {a b : List Int} (h : ∀ z ∈ a, z.natAbs < WB ^ 2) (h' : ∀ z ∈ b, z.natAbs < WB ^ 2) (hn : pN a) (hn' : pN b) (hl : a.length ≤ 5) (hl' : b.length ≤ 5) : RkP (vPol a) (vPol b) := by
  have w5 := con_want3_5 h h' hn hn' (by omega) (by omega) (by decide)
  rw [pSub_add] at w5
  have l1 : (pSub [] b).length ≤ max ([] : List Int).length b.length := pBoth_len (op := (· - ·)) ([] : List Int) b
  have l2 : (pAdd a b).length ≤ max a.length b.length := pBoth_len (op := (· + ·)) a b
  have l3 : (pAdd a (pSub [] b)).length ≤ max a.length (pSub [] b).length := pBoth_len (op := (· + ·)) a (pSub [] b)
  have l4 := pMul_len a b
  have l0 : ([] : List Int).length = 0 := rfl
  have b1 : ∀ z ∈ pSub [] b, z.natAbs < WB ^ 3 := pSub_bd1 (K := 2) (fun z hz => by cases hz) h'
  have hN : Cv 3 0 (vPol (pSub [] b)) := .one (.pol _ (by omega) (pBoth_pN ..) b1)
  have b4 : ∀ z ∈ pMul a b, z.natAbs < WB ^ 10 := fun z hz => bd_up (pMul_bd h h' z hz) (by omega)
  exact ⟨_, _, _, _, _, _, _, con_neg3 h' (by omega) (by decide), hN.F (by decide) (by decide), rfl, con_sum3 h h' (by omega) (by omega) (by decide), con_sum3 h b1 (by omega) (by omega) (by decide), con_prod3 h h' hn hn' (by omega) (by omega) (by decide), con_want3_4 h h' hn hn' (by omega) (by omega) (by decide), w5, con_want3_6 h h' hn hn' (by omega) (by omega) (by decide),
    Gd.of (n := 0) (.one (.pol _ (by omega) (pBoth_pN ..) (pAdd_bd h h'))) (by decide) (by decide), Gd.of (n := 0) (.one (.pol _ (by omega) (pBoth_pN ..) (pAdd_bd h b1))) (by decide) (by decide), Gd.of (n := 0) (.one (.pol _ (by omega) (pMul_pN ..) b4)) (by decide) (by decide)⟩
theorem Rk_5 {p q : Nat} {a b : List Nat} (hp : PrP p) (hq : PrP q) (h : ∀ z ∈ a, z < p) (h' : ∀ z ∈ b, z < q) (hl : a.length ≤ 5) (hl' : b.length ≤ 5) : RkP (vRng p a) (vRng q b) := by
  have l1 : (fSub q [] b).length ≤ max ([] : List Nat).length b.length := fBoth_len q (fS q) [] b
  have l0 : ([] : List Nat).length = 0 := rfl
  have hN : Cv 1 0 (vRng q (fSub q [] b)) := .one (.rng _ _ hq (by omega) (fBoth_gN ..) (fBoth_lt hq _ _ _))
  by_cases e : p = q
  · subst e
    have w5 := con_want5_5 hp h h' (by omega) (by omega)
    rw [fSub_fAdd hp] at w5
    have l2 : (fAdd p a b).length ≤ max a.length b.length := fBoth_len p (fA p) a b
    have l3 : (fAdd p a (fSub p [] b)).length ≤ max a.length (fSub p [] b).length := fBoth_len p (fA p) a (fSub p [] b)
    have l4 := fMul_len p a b
    exact ⟨_, _, _, _, _, _, _, con_neg5 hp (by omega) h', hN.F (by decide) (by decide), rfl, con_sum5 hp (by omega) (by omega) h h', con_sum5 hp (by omega) (by omega) h (fBoth_lt hp _ _ _), con_prod5 hp (by omega) (by omega) h h', con_want5_4 hp h h' (by omega) (by omega), w5, con_want5_6 hp h h' (by omega) (by omega),
      Gd.of (K := 1) (n := 0) (.one (.rng _ _ hp (by omega) (fBoth_gN ..) (fBoth_lt hp _ _ _))) (by decide) (by decide), Gd.of (K := 1) (n := 0) (.one (.rng _ _ hp (by omega) (fBoth_gN ..) (fBoth_lt hp _ _ _))) (by decide) (by decide), Gd.of (K := 1) (n := 0) (.one (.rng _ _ hp (by omega) (fMul_gN ..) (fMul_lt hp _ _))) (by decide) (by decide)⟩
  · exact ⟨_, _, _, _, _, _, _, con_neg5 hq (by omega) h', hN.F (by decide) (by decide), rfl, con_sumP (u := vRng p a) (v := vRng q b) e, con_sumP (u := vRng p a) (v := vRng q (fSub q [] b)) e, con_prodP (u := vRng p a) (v := vRng q b) e, con_want5P_4 hp hq e h h' (by omega) (by omega), con_want5P_5 hp hq e h h' (by omega) (by omega), con_want5P_6 hp hq e h h' (by omega) (by omega), Gd.no (by decide), Gd.no (by decide), Gd.no (by decide)⟩
end Go.Proofs.YtfhpmbenldgfnaaGreatDoor
set_option linter.unusedVariables false
set_option linter.unusedSimpArgs false
set_option linter.unusedSectionVars false
namespace Go.Proofs.YtfhpmbenldgfnaaGreatDoor
open Go.RowKit QM SX LA
theorem fmAdd_len (p r c : Nat) (l l' : List Nat) : (fmAdd p r c l l').length = r * c := tabW_len r
theorem fmScale_len (p r c : Nat) (l : List Nat) (x : Nat) : (fmScale p r c l x).length = r * c := tabW_len r
theorem fmMul_len (p r c d : Nat) (l l' : List Nat) : (fmMul p r c d l l').length = r * d := tabW_len r
theorem fmAdd_lt {p : Nat} (hp : PrP p) (r c : Nat) (l l' : List Nat) : ∀ z ∈ fmAdd p r c l l', z < p := tabW_lt fun _ _ => fA_lt hp _ _
theorem fmScale_lt {p : Nat} (hp : PrP p) (r c : Nat) (l : List Nat) (x : Nat) : ∀ z ∈ fmScale p r c l x, z < p := tabW_lt fun _ _ => fM_lt hp _ _
theorem fmMul_lt {p : Nat} (hp : PrP p) (r c d : Nat) (l l' : List Nat) : ∀ z ∈ fmMul p r c d l l', z < p := tabW_lt fun _ _ => fDot_lt hp _ _ _
theorem mxMul_RB {r c d : Nat} {vs vs' : List Rat} {K L : Nat} (h : ∀ v ∈ vs, RB v K) (h' : ∀ v ∈ vs', RB v L) (h1 : 1 ≤ K) (h1' : 1 ≤ L) : ∀ v ∈ mxMul r c d vs vs', RB v (1 + c * (K + L + 1)) := tabR_RB fun i k _ _ => prod_RB (fun j _ => vat_RB h h1 c i j) (fun j _ => vat_RB h' h1' d j k)
section
variable {r c r' c' : Nat} {vs vs' : List Rat} {K L : Nat} {l' : List Q4} (h : ∀ v ∈ vs, RB v K) (h' : ∀ v ∈ vs', RB v L) (hl : vs.length = r * c) (hl' : vs'.length = r' * c') (hr : r ≤ 64) (hc : c ≤ 64) (hr' : r' ≤ 64) (hc' : c' ≤ 64) (h1 : 1 ≤ K) (h1' : 1 ≤ L)
include h h' hl hl' hr hc hr' hc' h1 h1'
theorem mat_add (hK : K + L ≤ 1000) (hM : MV l' vs' L) (hl2 : l'.length = r' * c') : ∃ (r1 c1 : Nat) (l1 : List Rat) (e1 : Int) (s : Vl), PureOK Tryz.prog 77 [.agg (matQ r c (mq vs)), .agg (matQ r' c' l')] (.tup [.agg (matQ r1 c1 (l1.map q4v)), eNo e1]) ∧
    PureOK Tryz.prog 47 [.agg (vlA (vMat r c vs)), .agg (vlA (vMat r' c' vs'))] (.tup [.agg (vlA s), eNo e1]) ∧ ((e1 = 0 ∧ s = vMat r1 c1 l1) ∨ (e1 ≠ 0 ∧ s = v0)) ∧ Gd s e1 := by
  by_cases he : r = r' ∧ c = c'
  · obtain ⟨rfl, rfl⟩ := he
    have c1 := con_qmAdd (MV.cq h) (by rw [mq_len]; exact hl) hM hl2 hr hc h1 h1' (by omega)
    rw [matA_matQ] at c1
    exact ⟨_, _, _, _, _, c1, con_sum2 h h' hl hl' hr hc h1 h1' (by omega), .inl ⟨rfl, rfl⟩, Gd.of (n := 0) (.one (.mat r c _ (mAdd_len r c vs vs') hr hc (mAdd_RB h h' h1 h1'))) (by omega) (by decide)⟩
  · exact ⟨0, 0, [], 2, v0, con_qmAdd0 (by rw [mq_len]; exact hl) hl2 hr hc hr' hc' he, con_sum2n hl hl' hr hc hr' hc' he, .inr ⟨by decide, rfl⟩, Gd.no (by decide)⟩
theorem mat_mul (hK : K + L ≤ 1000) : ∃ (r1 c1 : Nat) (l1 : List Rat) (e1 : Int) (s : Vl), PureOK Tryz.prog 78 [.agg (matQ r c (mq vs)), .agg (matQ r' c' (mq vs'))] (.tup [.agg (matQ r1 c1 (l1.map q4v)), eNo e1]) ∧
    PureOK Tryz.prog 104 [.agg (vlA (vMat r c vs)), .agg (vlA (vMat r' c' vs'))] (.tup [.agg (vlA s), eNo e1]) ∧ ((e1 = 0 ∧ s = vMat r1 c1 l1) ∨ (e1 ≠ 0 ∧ s = v0)) ∧ (c * (K + L + 1) ≤ 40000 → Gd s e1) := by
  by_cases he : c = r'
  · subst he
    have hb : 1 + (c + 1) * (K + L + 1) ≤ 400000 := by
      have := Nat.mul_le_mul (show c + 1 ≤ 65 by omega) (show K + L + 1 ≤ 1001 by omega)
      omega
    have c1 := con_qmMul (MV.cq h) (by rw [mq_len]; exact hl) (MV.cq h') (by rw [mq_len]; exact hl') hr hc hc' h1 h1' hb
    rw [matA_matQ] at c1
    exact ⟨_, _, _, _, _, c1, con_prod2 h h' hl hl' hr hc hc' h1 h1' hb, .inl ⟨rfl, rfl⟩, fun hKc => Gd.of (n := 0) (.one (.mat r c' _ (mxMul_len r c c' vs vs') hr hc' (mxMul_RB h h' h1 h1'))) (by omega) (by decide)⟩
  · exact ⟨0, 0, [], 2, v0, con_qmMul0 (by rw [mq_len]; exact hl) (by rw [mq_len]; exact hl') hr hc hr' hc' he, con_prod2n hl hl' hr hc hr' hc' he, .inr ⟨by decide, rfl⟩, fun _ => Gd.no (by decide)⟩
end
theorem Rk_2 {r c r' c' : Nat} {vs vs' : List Rat} (h : ∀ v ∈ vs, RB v 2) (h' : ∀ v ∈ vs', RB v 2) (hl : vs.length = r * c) (hl' : vs'.length = r' * c') (hr : r ≤ 64) (hc : c ≤ 64) (hr' : r' ≤ 64) (hc' : c' ≤ 64) : RkP (vMat r c vs) (vMat r' c' vs') := by
  haveI b1 : Bd (-1) 1 := ⟨by rw [WB_eq]; decide⟩
  have hM1 : RB (-1 : Rat) 1 := RB.ofI (z := -1) b1.h (by decide)
  have bn := mScale_RB h' hM1 (by decide) (r := r') (c := c')
  have ln := mScale_len r' c' vs' (-1)
  have hN : Cv 3 0 (vMat r' c' (mScale r' c' vs' (-1))) := .one (.mat r' c' _ ln hr' hc' bn)
  obtain ⟨r1, c1, l1, e1, s1, A1, S1, D1, G1⟩ := mat_add (l' := mq vs') h h' hl hl' hr hc hr' hc' (by decide) (by decide) (by decide) (MV.cq h') (by rw [mq_len]; exact hl')
  obtain ⟨r2, c2, l2, e2, s2, A2, S2, D2, G2⟩ := mat_add (l' := (mScale r' c' vs' (-1)).map q4v) h bn hl ln hr hc hr' hc' (by decide) (by decide) (by decide) (MV.made bn) (by rw [List.length_map]; exact ln)
  obtain ⟨r3, c3, l3, e3, s3, A3, S3, D3, G3⟩ := mat_mul h h' hl hl' hr hc hr' hc' (by decide) (by decide) (by decide)
  refine ⟨_, s1, s2, s3, e1, e2, e3, con_neg2 h' hl' hr' hc' (by decide) (by decide), hN.F (by decide) (by decide), rfl, S1, S2, S3, ?_, ?_, ?_, G1, G2, G3 (by omega)⟩
  · rcases D1 with ⟨he, rfl⟩ | ⟨he, rfl⟩
    · have w := con_want2_4 (r2 := 0) (c2 := 0) (r3 := 0) (c3 := 0) (l2 := []) (l3 := []) (e2 := 0) (e3 := 0) h h' hl hl' hr' hc' (by decide) (by decide) A1 he
      rw [he]; exact w
    · exact con_want2e_4 (r2 := 0) (c2 := 0) (r3 := 0) (c3 := 0) (l2 := []) (l3 := []) (e2 := 0) (e3 := 0) h h' hl hl' hr' hc' (by decide) (by decide) A1 he
  · rcases D2 with ⟨he, rfl⟩ | ⟨he, rfl⟩
    · have w := con_want2_5 (r3 := 0) (c3 := 0) (l3 := []) (e3 := 0) h h' hl hl' hr' hc' (by decide) (by decide) A1 A2 he
      rw [he]; exact w
    · exact con_want2e_5 (r3 := 0) (c3 := 0) (l3 := []) (e3 := 0) h h' hl hl' hr' hc' (by decide) (by decide) A1 A2 he
  · rcases D3 with ⟨he, rfl⟩ | ⟨he, rfl⟩
    · have w := con_want2_6 (r2 := 0) (c2 := 0) (l2 := []) (e2 := 0) h h' hl hl' hr' hc' (by decide) (by decide) A1 A3 he
      rw [he]; exact w
    · exact con_want2e_6 (r2 := 0) (c2 := 0) (l2 := []) (e2 := 0) h h' hl hl' hr' hc' (by decide) (by decide) A1 A3 he
section
variable {p r c r' c' : Nat} {l l' : List Nat} (hp : PrP p) (hl : l.length = r * c) (hl' : l'.length = r' * c') (hr : r ≤ 64) (hc : c ≤ 64) (hr' : r' ≤ 64) (hc' : c' ≤ 64)
include hp hl hl' hr hc hr' hc'
theorem fadd_ex (h : ∀ x ∈ l, x < 18446744073709551616) (h' : ∀ x ∈ l', x < 18446744073709551616) : ∃ (r1 c1 : Nat) (l1 : List Nat) (e1 : Int), PureOK Tryz.prog 82 [.agg (gfA p), .agg (fmA r c l), .agg (fmA r' c' l')] (.tup [.agg (fmA r1 c1 l1), eNo e1]) := by
  by_cases he : r = r' ∧ c = c'
  · obtain ⟨rfl, rfl⟩ := he
    exact ⟨_, _, _, _, con_fmAdd hp hl hr hc h hl' h'⟩
  · exact ⟨_, _, _, _, con_fmAdd0 hl hr hc hl' hr' hc' he⟩
theorem fmul_ex (h : ∀ x ∈ l, x < 18446744073709551616) (h' : ∀ x ∈ l', x < 18446744073709551616) : ∃ (r1 c1 : Nat) (l1 : List Nat) (e1 : Int), PureOK Tryz.prog 83 [.agg (gfA p), .agg (fmA r c l), .agg (fmA r' c' l')] (.tup [.agg (fmA r1 c1 l1), eNo e1]) := by
  by_cases he : c = r'
  · subst he
    exact ⟨_, _, _, _, con_fmMul hp hl hr hc h hl' hc' h'⟩
  · exact ⟨_, _, _, _, con_fmMul0 hl hr hc hl' hr' hc' he⟩
variable (h : ∀ x ∈ l, x < p) (h' : ∀ x ∈ l', x < p)
include h h'
theorem fld_add : ∃ (r1 c1 : Nat) (l1 : List Nat) (e1 : Int) (s : Vl), PureOK Tryz.prog 82 [.agg (gfA p), .agg (fmA r c l), .agg (fmA r' c' l')] (.tup [.agg (fmA r1 c1 l1), eNo e1]) ∧
    PureOK Tryz.prog 47 [.agg (vlA (vFld p r c l)), .agg (vlA (vFld p r' c' l'))] (.tup [.agg (vlA s), eNo e1]) ∧ ((e1 = 0 ∧ s = vFld p r1 c1 l1) ∨ (e1 ≠ 0 ∧ s = v0)) ∧ Gd s e1 := by
  by_cases he : r = r' ∧ c = c'
  · obtain ⟨rfl, rfl⟩ := he
    exact ⟨_, _, _, _, _, con_fmAdd hp hl hr hc (lt64 hp h) hl' (lt64 hp h'), con_sum4 hp hl hl' hr hc h h', .inl ⟨rfl, rfl⟩, Gd.of (K := 1) (n := 0) (.one (.fld p r c _ hp (fmAdd_len ..) hr hc (fmAdd_lt hp r c l l'))) (by decide) (by decide)⟩
  · exact ⟨0, 0, [], 2, v0, con_fmAdd0 hl hr hc hl' hr' hc' he, con_sum4n hp hl hl' hr hc hr' hc' he, .inr ⟨by decide, rfl⟩, Gd.no (by decide)⟩
theorem fld_mul : ∃ (r1 c1 : Nat) (l1 : List Nat) (e1 : Int) (s : Vl), PureOK Tryz.prog 83 [.agg (gfA p), .agg (fmA r c l), .agg (fmA r' c' l')] (.tup [.agg (fmA r1 c1 l1), eNo e1]) ∧
    PureOK Tryz.prog 104 [.agg (vlA (vFld p r c l)), .agg (vlA (vFld p r' c' l'))] (.tup [.agg (vlA s), eNo e1]) ∧ ((e1 = 0 ∧ s = vFld p r1 c1 l1) ∨ (e1 ≠ 0 ∧ s = v0)) ∧ Gd s e1 := by
  by_cases he : c = r'
  · subst he
    exact ⟨_, _, _, _, _, con_fmMul hp hl hr hc (lt64 hp h) hl' hc' (lt64 hp h'), con_prod4 hp hl hl' hr hc hc' h h', .inl ⟨rfl, rfl⟩, Gd.of (K := 1) (n := 0) (.one (.fld p r c' _ hp (fmMul_len ..) hr hc' (fmMul_lt hp r c c' l l'))) (by decide) (by decide)⟩
  · exact ⟨0, 0, [], 2, v0, con_fmMul0 hl hr hc hl' hr' hc' he, con_prod4n hp hl hl' hr hc hr' hc' he, .inr ⟨by decide, rfl⟩, Gd.no (by decide)⟩
end
theorem Rk_4 {p q r c r' c' : Nat} {l l' : List Nat} (hp : PrP p) (hq : PrP q) (h : ∀ x ∈ l, x < p) (h' : ∀ x ∈ l', x < q) (hl : l.length = r * c) (hl' : l'.length = r' * c') (hr : r ≤ 64) (hc : c ≤ 64) (hr' : r' ≤ 64) (hc' : c' ≤ 64) : RkP (vFld p r c l) (vFld q r' c' l') := by
  have bn := fmScale_lt hq r' c' l' (q - 1)
  have ln := fmScale_len q r' c' l' (q - 1)
  have hN : Cv 1 0 (vFld q r' c' (fmScale q r' c' l' (q - 1))) := .one (.fld q r' c' _ hq ln hr' hc' bn)
  by_cases e : p = q
  · subst e
    obtain ⟨r1, c1, l1, e1, s1, A1, S1, D1, G1⟩ := fld_add hp hl hl' hr hc hr' hc' h h'
    obtain ⟨r2, c2, l2, e2, s2, A2, S2, D2, G2⟩ := fld_add hp hl ln hr hc hr' hc' h bn
    obtain ⟨r3, c3, l3, e3, s3, A3, S3, D3, G3⟩ := fld_mul hp hl hl' hr hc hr' hc' h h'
    refine ⟨_, s1, s2, s3, e1, e2, e3, con_neg4 hp hl' hr' hc' h', hN.F (by decide) (by decide), rfl, S1, S2, S3, ?_, ?_, ?_, G1, G2, G3⟩
    · rcases D1 with ⟨he, rfl⟩ | ⟨he, rfl⟩
      · have w := con_want4_4 (q := 0) (r2 := 0) (c2 := 0) (r3 := 0) (c3 := 0) (l2 := []) (l3 := []) (e2 := 0) (e3 := 0) hp h' hl' hr' hc' A1 he
        rw [he]; exact w
      · exact con_want4e_4 (q := 0) (r2 := 0) (c2 := 0) (r3 := 0) (c3 := 0) (l2 := []) (l3 := []) (e2 := 0) (e3 := 0) hp h' hl' hr' hc' A1 he
    · rcases D2 with ⟨he, rfl⟩ | ⟨he, rfl⟩
      · have w := con_want4_5 (q := 0) (r3 := 0) (c3 := 0) (l3 := []) (e3 := 0) hp h' hl' hr' hc' A1 A2 he
        rw [he]; exact w
      · exact con_want4e_5 (q := 0) (r3 := 0) (c3 := 0) (l3 := []) (e3 := 0) hp h' hl' hr' hc' A1 A2 he
    · rcases D3 with ⟨he, rfl⟩ | ⟨he, rfl⟩
      · have w := con_want4_6 (q := 0) (r2 := 0) (c2 := 0) (l2 := []) (e2 := 0) hp h' hl' hr' hc' A1 A3 he
        rw [he]; exact w
      · exact con_want4e_6 (q := 0) (r2 := 0) (c2 := 0) (l2 := []) (e2 := 0) hp h' hl' hr' hc' A1 A3 he
  · have h64 := lt64 hp h
    have h64' := lt64 hq h'
    have ls := fmScale_len p r' c' l' (p - 1)
    have bs := lt64 hp (fmScale_lt hp r' c' l' (p - 1))
    obtain ⟨r1, c1, l1, e1, A1⟩ := fadd_ex hp hl hl' hr hc hr' hc' h64 h64'
    obtain ⟨r2, c2, l2, e2, A2⟩ := fadd_ex hp hl ls hr hc hr' hc' h64 bs
    obtain ⟨r3, c3, l3, e3, A3⟩ := fmul_ex hp hl hl' hr hc hr' hc' h64 h64'
    exact ⟨_, _, _, _, _, _, _, con_neg4 hq hl' hr' hc' h', hN.F (by decide) (by decide), rfl, con_sumP (u := vFld p r c l) (v := vFld q r' c' l') e, con_sumP (u := vFld p r c l) (v := vFld q r' c' (fmScale q r' c' l' (q - 1))) e, con_prodP (u := vFld p r c l) (v := vFld q r' c' l') e,
      con_want4P_4 (r2 := 0) (c2 := 0) (r3 := 0) (c3 := 0) (l2 := []) (l3 := []) (e2 := 0) (e3 := 0) hp hq e h' hl' hr' hc' A1, con_want4P_5 (r3 := 0) (c3 := 0) (l3 := []) (e3 := 0) hp hq e h' hl' hr' hc' A1 A2, con_want4P_6 (r2 := 0) (c2 := 0) (l2 := []) (e2 := 0) hp hq e h' hl' hr' hc' A1 A3, Gd.no (by decide), Gd.no (by decide), Gd.no (by decide)⟩
theorem vW_rng {d p : Nat} {l : List Nat} (h : vW d (vRng p l)) : l.length ≤ 5 := by
  have := h.one.2.1
  simpa using this
theorem ValueReckons_ok (n : Int) (hz : IntKind.u8.wrap n = n) (u : Vl) (hu : rW u) (v : Vl) (hv : rW v) : PureOK Tryz.prog 8 [.v (.int .u8 n), .agg (vlA u), .agg (vlA v)] (.v (.bool true)) := by
  obtain ⟨m, rfl⟩ : ∃ m : Nat, n = m := ⟨n.toNat, by rw [IntKind.wrap_u8] at hz; omega⟩
  have hm : m < 256 := by rw [IntKind.wrap_u8] at hz; omega
  have hj : (m : Int).tmod 3 = ((m % 3 : Nat) : Int) := by
    rw [show (3 : Int) = ((3 : Nat) : Int) from rfl, tmod_nat]
  have hj3 : m % 3 < 3 := Nat.mod_lt _ (by decide)
  by_cases hw : vW 3 u ∧ vW 3 v
  · have hf := con_fewT hw.1 hw.2
    have z1 := vZ.few hw.1 hu
    have z2 := vZ.few hw.2 hv
    have F1 := con_vFormed z1
    have F2 := con_vFormed z2
    have i1 := con_is z1
    have i2 := con_is z2
    by_cases hk : u.k = v.k
    · by_cases h : vF 20 u = true ∧ vF 20 v = true
      · have C1 := Cv.of hw.1 hu h.1
        have C2 := Cv.of hw.2 hv h.2
        rw [h.1] at i1 F1
        rw [h.2] at i2 F2
        have fin : RkP u v → PureOK Tryz.prog 8 [.v (.int .u8 (m : Int)), .agg (vlA u), .agg (vlA v)] (.v (.bool true)) := fun r => r.ok hm hj hj3 hf hk i1 i2 F1 F2
        cases C1 with
        | one a => cases C2 with
          | one b =>
            cases a with
            | num x hx => cases b with
              | num y hy => exact fin (Rk_1 hx hy)
              | _ => exact absurd hk (by simp)
            | mat r c vs hl hr hc ha => cases b with
              | mat r' c' vs' hl' hr' hc' hb => exact fin (Rk_2 ha hb hl hl' hr hc hr' hc')
              | _ => exact absurd hk (by simp)
            | pol a hl hn ha => cases b with
              | pol b hl' hn' hb => exact fin (Rk_3 ha hb hn hn' (vW_pol hw.1) (vW_pol hw.2))
              | _ => exact absurd hk (by simp)
            | fld p r c l hp hl hr hc ha => cases b with
              | fld q r' c' l' hq hl' hr' hc' hb => exact fin (Rk_4 hp hq ha hb hl hl' hr hc hr' hc')
              | _ => exact absurd hk (by simp)
            | rng p l hp hl hn ha => cases b with
              | rng q l' hq hl' hn' hb => exact fin (Rk_5 hp hq ha hb (vW_rng hw.1) (vW_rng hw.2))
              | _ => exact absurd hk (by simp)
          | lst l hl h => cases a <;> exact absurd hk (by simp)
        | lst l hl ha => cases C2 with
          | one b => cases b <;> exact absurd hk (by simp)
          | lst l' hl' hb =>
            have key : ∀ j : Nat, (m : Int).tmod 3 = (j : Int) → j < 3 → PureOK Tryz.prog 8 [.v (.int .u8 (m : Int)), .agg (vlA (vLst l)), .agg (vlA (vLst l'))] (.v (.bool true)) := fun j hj hj3 =>
              match j, hj, hj3 with
              | 0, hj, hj3 => Reck_err hm hj hj3 hf hk i1 i2 (e := 5) (by decide) (con_Bin4 F1 F2 hk (con_sum6 l l')) (con_want6 4 l l')
              | 1, hj, hj3 => Reck_err hm hj hj3 hf hk i1 i2 (e := 5) (by decide) (con_Bin5 F1 F2 hk (con_diffE (by decide) (con_neg6 l'))) (con_want6 5 l l')
              | 2, hj, hj3 => Reck_err hm hj hj3 hf hk i1 i2 (e := 5) (by decide) (con_Bin6 F1 F2 (con_times0 hk (con_prod6 l l'))) (con_want6 6 l l')
            exact key _ hj hj3
      · refine Reck_bad hm hj hj3 hf hk ?_ F1 F2 i1 i2
        cases h1 : vF 20 u with
        | false => exact .inl rfl
        | true => exact .inr (Bool.eq_false_iff.2 fun h2 => h ⟨h1, h2⟩)
    · exact Reck_skip hm hj hj3 hf hk
  · exact Reck_few _ (con_fewF hw)
end Go.Proofs.YtfhpmbenldgfnaaGreatDoor

import Derived.Test.YtfhpmbenldgfnaaGreatDoorK20
set_option linter.unusedVariables false
set_option linter.unusedSimpArgs false
set_option linter.unusedSectionVars false
namespace Go.Proofs.YtfhpmbenldgfnaaGreatDoor
open Go.RowKit QM SX LA
theorem tmod6 {n : Int} (h : -128 ≤ n ∧ n ≤ 127) : ∃ k : Nat, k ≤ 5 ∧ (n.tmod 6 = k ∨ n.tmod 6 = -(k : Int)) := by
  rcases Int.le_total 0 n with h0 | h0
  · obtain ⟨m, rfl⟩ : ∃ m : Nat, n = m := ⟨n.toNat, by omega⟩
    refine ⟨m % 6, by omega, .inl ?_⟩
    rw [show (6 : Int) = ((6 : Nat) : Int) from rfl, tmod_nat]
  · obtain ⟨m, rfl⟩ : ∃ m : Nat, n = -(m : Int) := ⟨(-n).toNat, by omega⟩
    refine ⟨m % 6, by omega, .inr ?_⟩
    rw [Int.neg_tmod, show (6 : Int) = ((6 : Nat) : Int) from rfl, tmod_nat]
theorem pwv_nat (x : Rat) (k : Nat) : pwv x (k : Int) = x ^ k := by unfold pwv; rw [if_neg (by omega), Int.natAbs_natCast]
theorem pwv_neg (x : Rat) {k : Nat} (h : 1 ≤ k) : pwv x (-(k : Int)) = (1 / x) ^ k := by unfold pwv; rw [if_pos (by omega), Int.natAbs_neg, Int.natAbs_natCast]
theorem pow_inv {x : Rat} (h : x ≠ 0) : ∀ k : Nat, (1 / x) ^ k * x ^ k = 1
  | 0 => by rw [Rat.pow_zero, Rat.pow_zero, Rat.mul_one]
  | k + 1 => by
    have := pow_inv h k
    have h2 : 1 / x * x = 1 := Rat.div_mul_cancel h
    rw [Rat.pow_succ, Rat.pow_succ]
    grind
attribute [local irreducible] IntKind.wrap Go1 Reg WP thenK inBlk retQ retF RetF RetOK ResOK CallOK OpOK Sat
attribute [local irreducible] qsub qmul qquo qcmp qadd qv redS mf PrP qOk zOk vP fp64 lz vF cq rqv plen pNorm pBoth pScale mulV mpw mxMul mxb qB pwv vW sameV
section
variable {n : Nat} {vs : List Rat} (hl : vs.length = n * n) (hn : n ≤ 4) (hb : ∀ v ∈ vs, RB v 2)
include hl hn hb
theorem mpw_RB (k : Nat) : ∀ v ∈ mpw n vs k, RB v (34 * k + 1) := fun v hv => by
  have h16 := Nat.mul_le_mul hn hn
  have c := ((dens vs hb).mono (d' := 33) (m' := 33) (by omega) (by omega)).pow hl (by omega) k
  exact (c.rb v hv).mono (by omega)
theorem con_rs (k : Nat) (hk : k ≤ 5) : PureOK Tryz.prog 111 [.agg (matQ n n (mq vs)), .v (.int .i64 (k : Int))] (.agg (matQ n n ((mpw n vs k).map q4v))) :=
  con_raised (L := fun e => 34 * e + 1) hl (by omega) hk (by rw [mpw_one hl]; exact (MV.cq hb).mono (by decide)) (by rw [mq_len]; exact hl) (fun e _ => mpw_RB hl hn hb e) (fun e => by omega) (fun a b h => by
    have := Nat.mul_le_mul (show n + 1 ≤ 5 by omega) (show 34 * a + 1 + (34 * b + 1) + 1 ≤ 173 by omega)
    show 1 + (n + 1) * (34 * a + 1 + (34 * b + 1) + 1) ≤ 400000
    omega)
theorem con_Bm (k : Nat) (hk : k ≤ 5) : PureOK Tryz.prog 13 [.v (.int .i64 8), .agg (vlA (vMat n n vs)), .agg (vlA (vNum ((k : Int) : Rat)))] (.tup [.agg (vlA (vMat n n (mpw n vs k))), eNo 0]) := by
  have h16 := Nat.mul_le_mul hn hn
  have C : Cv 2 0 (vMat n n vs) := .one (.mat n n vs hl (by omega) (by omega) hb)
  have Cz : Cv 1 0 (vNum ((k : Int) : Rat)) := .one (.num _ (sml_RB ⟨by omega, by omega⟩))
  have cE := con_exp (u := vMat n n vs) (.inr rfl) (z := (k : Int)) (.inl rfl) hk (con_bits2 hb (by decide) (by omega)) (by have := mxb_le hb; omega)
  exact con_Bin8 (C.F (by decide) (by decide)) (Cz.F (by decide) (by decide)) (con_pw2 cE hk (con_rs hl hn hb k hk))
theorem mpw_Cv (k : Nat) (hk : k ≤ 5) : Cv 200 0 (vMat n n (mpw n vs k)) := .one (.mat n n _ (mpw_len n vs k) (by omega) (by omega) fun v hv => (mpw_RB hl hn hb k v hv).mono (by omega))
end
theorem ValuePowers_ok (n : Int) (hn8 : -128 ≤ n ∧ n ≤ 127) (v : Vl) (hrW : rW v) : PureOK Tryz.prog 6 [.v (.int .i8 n), .agg (vlA v)] (.v (.bool true)) := by
  obtain ⟨k, hk, hz⟩ := tmod6 hn8
  obtain ⟨z, hn⟩ : ∃ z, n.tmod 6 = z := ⟨_, rfl⟩
  rw [hn] at hz
  have hz1 : -5 ≤ z := by omega
  have hz2 : z ≤ 5 := by omega
  by_cases hw : vW 3 v
  · have hf := con_fewT hw hw
    have hZ := vZ.few hw hrW
    have cF := con_vFormed hZ
    have ci := con_is hZ
    have Fz := (Cv.one (n := 0) (.num _ (sml_RB (z := z) ⟨by omega, by omega⟩) : Sh 1 (vNum (z : Rat)))).F (by decide) (by decide)
    have Ff := (Cv.one (n := 0) (.num _ (RB.ofI (z := 4097) (K := 1) (by rw [WB_eq]; decide) (by decide)) : Sh 1 (vNum ((4097 : Int) : Rat)))).F (by decide) (by decide)
    by_cases hF : vF 20 v = true
    · rw [hF] at cF ci
      have hC := Cv.of hw hrW hF
      by_cases hk2 : v.k = 1 ∨ v.k = 2
      · have b2 := con_Bin8 cF Ff (con_pwE (by decide) (con_expF hk2 (z := 4097) (by decide)))
        rcases hk2 with hk2 | hk2
        · obtain ⟨x, rfl, hx⟩ := hC.kind1 hk2
          have Fn : ∀ y : Int, -5 ≤ y → y ≤ 5 → Cv 1000 0 (vNum (pwv x y)) := fun y h1 h2 => .one (.num _ (pow_rb hx h1 h2))
          have Fi : ∀ y : Int, -5 ≤ y → y ≤ 5 → PureOK Tryz.prog 28 [.agg (vlA (vNum (y : Rat)))] (.v (.bool true)) := fun y h1 h2 => (Cv.one (n := 0) (.num _ (sml_RB (z := y) ⟨by omega, by omega⟩) : Sh 1 (vNum (y : Rat)))).F (by decide) (by decide)
          have Bn : ∀ (y : Int), -5 ≤ y → y ≤ 5 → (0 ≤ y ∨ x ≠ 0) → PureOK Tryz.prog 13 [.v (.int .i64 8), .agg (vlA (vNum x)), .agg (vlA (vNum (y : Rat)))] (.tup [.agg (vlA (vNum (pwv x y))), eNo 0]) := fun y h1 h2 h3 => con_Bin8 cF (Fi y h1 h2) (con_pw1 hx (k := y.natAbs) (by omega) (by omega) h3)
          by_cases hv : 0 ≤ z ∨ x ≠ 0
          · have b1 := Bn z hz1 hz2 hv
            have ip := (Fn z hz1 hz2).is (by decide) (by decide)
            by_cases h0 : z = 0
            · subst h0
              refine Pw_zero hn hz1 hz2 hf ci b1 b2 ip (.inl rfl) rfl ?_ (sameU hC (by decide) (by decide))
              have c := con_prod1 (pow_rb hx hz1 hz2) hx (by decide)
              rw [show pwv x 0 * x = x by rw [show pwv x 0 = 1 from (pwv_nat x 0).trans (Rat.pow_zero x), Rat.one_mul]] at c
              exact con_Bin6 ((Fn 0 hz1 hz2).F (by decide) (by decide)) cF (con_times0 rfl c)
            · by_cases h1 : 0 < z
              · refine Pw_pos hn hz1 hz2 hf ci b1 b2 ip (.inl rfl) h1 (Bn (z - 1) (by omega) (by omega) (.inl (by omega))) ?_ (sameU (Fn z hz1 hz2) (by decide) (by decide))
                have c := con_prod1 (pow_rb hx (show -5 ≤ z - 1 by omega) (by omega)) hx (by decide)
                rw [show pwv x (z - 1) * x = pwv x z by
                  obtain ⟨j, rfl⟩ : ∃ j : Nat, z = ((j + 1 : Nat) : Int) := ⟨(z - 1).toNat, by omega⟩
                  rw [show (((j + 1 : Nat) : Int) - 1) = (j : Int) by omega, pwv_nat, pwv_nat, Rat.pow_succ]] at c
                exact con_Bin6 ((Fn (z - 1) (by omega) (by omega)).F (by decide) (by decide)) cF (con_times0 rfl c)
              · have hx0 : x ≠ 0 := hv.resolve_left (by omega)
                refine Pw_neg hn hz1 hz2 hf ci b1 b2 (.inl rfl) (by omega) (Bn (0 - z) (by omega) (by omega) (.inl (by omega))) (Bn 0 (by decide) (by decide) (.inl (by decide))) ?_ (sameU (Fn 0 (by decide) (by decide)) (by decide) (by decide))
                have c := con_prod1 (pow_rb hx hz1 hz2) (pow_rb hx (show -5 ≤ 0 - z by omega) (by omega)) (by decide)
                rw [show pwv x z * pwv x (0 - z) = pwv x 0 by
                  obtain ⟨j, hj, rfl⟩ : ∃ j : Nat, 1 ≤ j ∧ z = -(j : Int) := ⟨(-z).toNat, by omega, by omega⟩
                  rw [show (0 - -(j : Int)) = (j : Int) by omega, pwv_neg x hj, pwv_nat, pow_inv hx0, show pwv x 0 = 1 from (pwv_nat x 0).trans (Rat.pow_zero x)]] at c
                exact con_Bin6 ((Fn z hz1 hz2).F (by decide) (by decide)) ((Fn (0 - z) (by omega) (by omega)).F (by decide) (by decide)) (con_times0 rfl c)
          · have hx0 : x = 0 := Decidable.byContradiction fun h => hv (.inr h)
            have h0 : z < 0 := by
              rcases Int.lt_or_le z 0 with h | h
              · exact h
              · exact absurd (.inl h) hv
            have b1 := con_Bin8 cF Fz (con_pw10 hx hz hk hv)
            subst hx0
            exact Pw_negE hn hz1 hz2 hf ci b1 b2 (.inl rfl) h0 (Bn (0 - z) (by omega) (by omega) (.inl (by omega))) (Bn 0 (by decide) (by decide) (.inl (by decide))) con_sing1
        · cases hC with
          | lst l hl h => exact absurd hk2 (by simp)
          | one hc => cases hc with
            | mat r c vs hl hr hc hb =>
              have hFP := hw.one.2.2.2.2.2.2.1
              have hr4 : r ≤ 4 := by have := hFP.2.1; simp at this; omega
              have hc4 : c ≤ 4 := by have := hFP.2.2.1; simp at this; omega
              have h16 := Nat.mul_le_mul hr4 hc4
              by_cases hrc : r = c
              · subst hrc
                have hsq : (vMat r r vs).k = 2 ∧ (vMat r r vs).r = (vMat r r vs).c := ⟨rfl, rfl⟩
                have Bm := fun j hj => con_Bm hl hr4 hb j hj
                by_cases h0 : 0 ≤ z
                · obtain ⟨j, rfl⟩ : ∃ j : Nat, z = j := ⟨z.toNat, by omega⟩
                  have b1 := Bm j (by omega)
                  have Cj := mpw_Cv hl hr4 hb j (by omega)
                  have ip := Cj.is (by decide) (by decide)
                  cases j with
                  | zero =>
                    refine Pw_zero hn hz1 hz2 hf ci b1 b2 ip (.inr hsq) rfl ?_ (sameU (Cv.one (n := 0) (.mat r r vs hl hr hc hb)) (by decide) (by decide))
                    have c := con_prod2 (mpw_RB hl hr4 hb 0) hb (mpw_len r vs 0) hl hr hc hc (by decide) (by decide) (by have := Nat.mul_le_mul_right (34 * 0 + 1 + 2 + 1) (show r + 1 ≤ 5 by omega); omega)
                    rw [show mxMul r r r (mpw r vs 0) vs = vs by rw [show mpw r vs 0 = idL r by unfold mpw; rfl]; exact mx_idl hl] at c
                    exact con_Bin6 (Cj.F (by decide) (by decide)) cF (con_times0 rfl c)
                  | succ j =>
                    have b4 := Bm j (by omega)
                    rw [show ((j : Int) : Rat) = ((((j + 1 : Nat) : Int) - 1 : Int) : Rat) by rw [show (((j + 1 : Nat) : Int) - 1) = (j : Int) by omega]] at b4
                    refine Pw_pos hn hz1 hz2 hf ci b1 b2 ip (.inr hsq) (by omega) b4 ?_ (sameU Cj (by decide) (by decide))
                    have c := con_prod2 (mpw_RB hl hr4 hb j) hb (mpw_len r vs j) hl hr hc hc (by omega) (by decide) (by have := Nat.mul_le_mul (show r + 1 ≤ 5 by omega) (show 34 * j + 1 + 2 + 1 ≤ 174 by omega); omega)
                    rw [show mxMul r r r (mpw r vs j) vs = mpw r vs (j + 1) by conv => rhs; unfold mpw] at c
                    exact con_Bin6 ((mpw_Cv hl hr4 hb j (by omega)).F (by decide) (by decide)) cF (con_times0 rfl c)
                · obtain ⟨j, hj1, rfl⟩ : ∃ j : Nat, 1 ≤ j ∧ z = -(j : Int) := ⟨(-z).toNat, by omega, by omega⟩
                  have cE := con_exp (u := vMat r r vs) (.inr rfl) (z := -(j : Int)) (.inr rfl) (by omega) (con_bits2 hb (by decide) (by omega)) (by have := mxb_le hb; omega)
                  have b6 := Bm j (by omega)
                  rw [show ((j : Int) : Rat) = ((0 - -(j : Int) : Int) : Rat) by rw [show (0 - -(j : Int)) = (j : Int) by omega]] at b6
                  have b7 : PureOK Tryz.prog 13 [.v (.int .i64 8), .agg (vlA (vMat r r vs)), .agg (vlA (vNum ((0 : Int) : Rat)))] (.tup [.agg (vlA (vMat r r (mpw r vs 0))), eNo 0]) := Bm 0 (by decide)
                  have hRBv := vat_RB hb (by decide) r
                  have cI := con_Inverse (MV.cq hb) (by rw [mq_len]; exact hl) hr (by decide) (fun k hk => Nat.le_trans (kb_2 k (by omega)) (by decide)) (Nat.le_trans (kb_2 r (by omega)) (by decide))
                  have hlen := (red_rref (r := r) (c := r) (d := r) (va := vat vs r) (vb := idv)).len
                  have hRW : RW (bgM r r (vat vs r) idv r) (r + r) 2 := bgM_RW (fun i k _ _ => hRBv i k) (fun i k _ _ => (idv_RB i k).mono (by decide))
                  by_cases hp : (rdP r r r (vat vs r) idv).length < r
                  · rw [if_pos hp] at cI
                    have b1 := con_Bin8 cF Fz (con_pw2f cE (by omega) hj1 cI)
                    exact Pw_negE hn hz1 hz2 hf ci b1 b2 (.inr hsq) (by omega) b6 b7 (con_sing2 cI)
                  · rw [if_neg hp, matA_matQ] at cI
                    have hinv := red_inv (n := r) (va := vat vs r) (by omega)
                    have hTB : ∀ i k, i < r → k < r → RB (rdM r r r (vat vs r) idv i (r + k)) 682 := fun i k hi hk => (red_RB hRW hi (by omega)).mono (kb_2 r (by omega))
                    have hTR : ∀ v ∈ tabR r (fun i k => rdM r r r (vat vs r) idv i (r + k)) r, RB v 682 := tabR_RB hTB
                    have hTl : (tabR r (fun i k => rdM r r r (vat vs r) idv i (r + k)) r).length = r * r := tabR_len r
                    have hTI : mxMul r r r (tabR r (fun i k => rdM r r r (vat vs r) idv i (r + k)) r) vs = idL r := by
                      unfold mxMul
                      refine tabR_ext fun i hi k hk => ?_
                      rw [← hinv.2 i hi k hk]; exact sm_congr fun j hj => by rw [vat_tab hi hj]
                    generalize tabR r (fun i k => rdM r r r (vat vs r) idv i (r + k)) r = ts at *
                    have hTD : CD ts 10913 10913 := (dens ts hTR).mono (by rw [hTl]; omega) (by rw [hTl]; omega)
                    have hTp : ∀ e, ∀ v ∈ mpw r ts e, RB v (10914 * e + 1) := fun e v hv => ((hTD.pow hTl (by omega) e).rb v hv).mono (by omega)
                    have cR := con_raised (lm0 := ts.map q4v) (L := fun e => 10914 * e + 1) (k := j) hTl (by omega) (by omega) (by rw [mpw_one hTl]; exact (MV.made hTR).mono (by decide)) (by rw [List.length_map]; exact hTl) (fun e _ => hTp e) (fun e => by omega) (fun a b h => by
                      have := Nat.mul_le_mul (show r + 1 ≤ 5 by omega) (show 10914 * a + 1 + (10914 * b + 1) + 1 ≤ 54573 by omega)
                      show 1 + (r + 1) * (10914 * a + 1 + (10914 * b + 1) + 1) ≤ 400000
                      omega)
                    have b1 := con_Bin8 cF Fz (con_pw2n cE (by omega) hj1 cI cR)
                    have Cp : Cv 54571 0 (vMat r r (mpw r ts j)) := .one (.mat r r _ (mpw_len r ts j) hr hc fun v hv => (hTp j v hv).mono (by omega))
                    refine Pw_neg hn hz1 hz2 hf ci b1 b2 (.inr hsq) (by omega) b6 b7 ?_ (sameU (mpw_Cv hl hr4 hb 0 (by decide)) (by decide) (by decide))
                    have c := con_prod2 (hTp j) (mpw_RB hl hr4 hb j) (mpw_len r ts j) (mpw_len r vs j) hr hc hc (by omega) (by omega) (by have := Nat.mul_le_mul (show r + 1 ≤ 5 by omega) (show 10914 * j + 1 + (34 * j + 1) + 1 ≤ 54743 by omega); omega)
                    rw [mpw_inv r hTl hl hTI, show idL r = mpw r vs 0 by unfold mpw; rfl] at c
                    exact con_Bin6 (Cp.F (by decide) (by decide)) ((mpw_Cv hl hr4 hb j (by omega)).F (by decide) (by decide)) (con_times0 rfl c)
              · have cE := con_exp (u := vMat r c vs) (.inr rfl) hz hk (con_bits2 hb (by decide) (by omega)) (by have := mxb_le hb; omega)
                exact Pw_sq hn hz1 hz2 hf ci (con_Bin8 cF Fz (con_pw2s cE hrc)) b2 rfl (by show (r : Int) ≠ (c : Int); omega)
            | _ => exact absurd hk2 (by simp)
      · have hk3 : v.k > 2 := by
          cases hC with
          | one h => cases h <;> first | (exfalso; exact hk2 (.inl rfl)) | (exfalso; exact hk2 (.inr rfl)) | simp
          | lst l hl h => simp
        exact Pw_ty hn hz1 hz2 hf ci (con_Bin8 cF Fz (con_pwE (by decide) (con_expE (by omega) ⟨by omega, by omega⟩))) (con_Bin8 cF Ff (con_pwE (by decide) (con_expE (z := 4097) (by omega) (by decide)))) hk3
    · rw [Bool.eq_false_iff.2 hF] at cF ci
      exact Pw_bad hn hz1 hz2 hf (con_BinF1 8 cF) (con_BinF1 8 cF) ci
  · have cW := con_awake29
    have hf := con_fewF (u := v) (v := v) fun h => hw h.1
    refine PureOK.fnF Tryz.func6 Tryz.results6 Tryz.ntmps6 rfl rfl rfl (by simp [AV.ids, AV0.ids, Atom.ids]) rfl (fun w0 T B E0 hB => ?_)
    refine SX.goL ?_
    exact retB rfl
end Go.Proofs.YtfhpmbenldgfnaaGreatDoor

import Derived.Test.YtmfadfkjnfdngaaGreatDoorM21
set_option linter.unusedVariables false
set_option linter.unusedSimpArgs false
namespace Go.Proofs.YtmfadfkjnfdngaaGreatDoor
open Go.RowKit QM SX SNW
def cnP (L : List Int) (m : Nat) : Nat → Int
  | 0 => 1
  | i + 1 => cnP L m i * (match L[i]? with | some d => ((Int.gcd d m : Nat) : Int) | none => (m : Int))
theorem cnP_some {L : List Int} {m i : Nat} {d : Int} (h : L[i]? = some d) : cnP L m (i + 1) = cnP L m i * ((Int.gcd d m : Nat) : Int) := by
  conv => lhs; unfold cnP
  rw [h]
theorem cnP_none {L : List Int} {m i : Nat} (h : L[i]? = none) : cnP L m (i + 1) = cnP L m i * (m : Int) := by
  conv => lhs; unfold cnP
  rw [h]
theorem cnP_lt {L : List Int} {m : Nat} (h1 : 0 < m) (hm : m ≤ 6) : ∀ i, (cnP L m i).natAbs ≤ 6 ^ i
  | 0 => by unfold cnP; decide
  | i + 1 => by
    have h := cnP_lt (L := L) h1 hm i
    cases e : L[i]? with
    | none =>
      rw [cnP_none e, Int.natAbs_mul, Nat.pow_succ]
      exact Nat.mul_le_mul h (by omega)
    | some d =>
      rw [cnP_some e, Int.natAbs_mul, Nat.pow_succ]
      refine Nat.mul_le_mul h ?_
      rw [Int.natAbs_natCast]
      have : Int.gcd d m ≤ m := Nat.le_of_dvd h1 (by
        have := Int.gcd_dvd_right (a := d) (b := m)
        exact Int.natCast_dvd_natCast.1 this)
      omega
theorem cnP_bd {L : List Int} {m i : Nat} (h1 : 0 < m) (hm : m ≤ 6) (hi : i ≤ 3) : (cnP L m i).natAbs < WB ^ 1 := by
  refine Nat.lt_of_le_of_lt (cnP_lt h1 hm i) ?_
  rw [Nat.pow_one, WB_eq]
  exact Nat.lt_of_le_of_lt (Nat.pow_le_pow_right (by decide) hi) (by decide)
abbrev zNil : List Atom := [.c (.val (.bool false)), .c (.val (.slice none 0 0))]
abbrev mNil : List Atom := [.c (.val (.int .i64 0)), .c (.val (.int .i64 0)), .c (.val (.slice none 0 0))]
theorem zNil_imp : AV0.imp (.agg zNil) (.agg (zN 0)) := fun E S w v ⟨us, hu, h2⟩ => by
  match us, h2 with
  | [u1, u2], ⟨h3, h4, _⟩ => exact ⟨[u1, u2], hu, h3, by rw [show u2 = .slice none 0 0 from h4]; exact nrmN.zero, trivial⟩
attribute [local irreducible] IntKind.wrap Go1 Reg WP thenK inBlk retQ retF RetF RetOK ResOK CallOK OpOK Sat
attribute [local irreducible] isign cnP
theorem con_SmithE {r c : Int} {x : Rep} (hF : PureOK Tryz.prog 27 [.agg [.c (.val (.int .i64 r)), .c (.val (.int .i64 c)), .c (.sat x)]] (.v (.bool false))) :
    PureOK Tryz.prog 28 [.agg [.c (.val (.int .i64 r)), .c (.val (.int .i64 c)), .c (.sat x)]] (.tup [.agg mNil, .agg mNil, .agg mNil, eNo 2]) := by
  refine PureOK.fnF Tryz.func28 Tryz.results28 Tryz.ntmps28 rfl rfl rfl (by simp [AV.ids, AV0.ids, Atom.ids]) rfl (fun w0 T B E0 hB => ?_)
  refine SX.goB ?_
  exact retP (xs := [.agg _, .agg _, .agg _, eNo 2]) ⟨ResOK.agg3 rfl rfl rfl, ResOK.agg3 rfl rfl rfl, ResOK.agg3 rfl rfl rfl, ResOK.tmp rfl, trivial⟩ trivial
theorem con_FactorsE {r c : Int} {x : Rep} (hF : PureOK Tryz.prog 27 [.agg [.c (.val (.int .i64 r)), .c (.val (.int .i64 c)), .c (.sat x)]] (.v (.bool false))) :
    PureOK Tryz.prog 16 [.agg [.c (.val (.int .i64 r)), .c (.val (.int .i64 c)), .c (.sat x)]] (.tup [.one (.c (.val (.slice none 0 0))), eNo 2]) := by
  have cS := con_SmithE hF
  refine PureOK.fnF Tryz.func16 Tryz.results16 Tryz.ntmps16 rfl rfl rfl (by simp [AV.ids, AV0.ids, Atom.ids]) rfl (fun w0 T B E0 hB => ?_)
  refine SX.goB ?_
  exact .ok (RetOK.mk2 (ResOK.tmp rfl) (ResOK.tmp rfl))
theorem con_DCountE {r c z : Int} {x : Rep} (hF : PureOK Tryz.prog 27 [.agg [.c (.val (.int .i64 r)), .c (.val (.int .i64 c)), .c (.sat x)]] (.v (.bool false))) :
    PureOK Tryz.prog 6 [.agg [.c (.val (.int .i64 r)), .c (.val (.int .i64 c)), .c (.sat x)], .agg (zN z)] (.tup [.agg (zN 0), eNo 2]) := by
  have cS := con_FactorsE hF
  refine PureOK.fnF Tryz.func6 Tryz.results6 Tryz.ntmps6 rfl rfl rfl (by simp [AV.ids, AV0.ids, Atom.ids]) rfl (fun w0 T B E0 hB => ?_)
  refine SX.goB ?_
  exact .ok (RetOK.mk2 (ResOK.imp (ResOK.agg2 rfl rfl rfl) zNil_imp) (ResOK.tmp rfl))
theorem con_DCountA {r c z : Int} {x : Rep} {L : List Int} (hS : PureOK Tryz.prog 16 [.agg [.c (.val (.int .i64 r)), .c (.val (.int .i64 c)), .c (.sat x)]] (.tup [.one (.c (.sat (rowR 2 zC L))), eNo 0])) (hz : z < 0) (hb : z.natAbs < WB ^ 1) :
    PureOK Tryz.prog 6 [.agg [.c (.val (.int .i64 r)), .c (.val (.int .i64 c)), .c (.sat x)], .agg (zN z)] (.tup [.agg (zN 0), eNo 1]) := by
  haveI b1 : Bd z 1 := ⟨hb⟩
  have hs : isign z ≤ 0 := by unfold isign; split <;> omega
  refine PureOK.fnF Tryz.func6 Tryz.results6 Tryz.ntmps6 rfl rfl rfl (by simp [AV.ids, AV0.ids, Atom.ids]) rfl (fun w0 T B E0 hB => ?_)
  refine SX.goB ?_
  exact .ok (RetOK.mk2 (ResOK.imp (ResOK.agg2 rfl rfl rfl) zNil_imp) (ResOK.tmp rfl))
theorem con_DCount {r C m K : Nat} {x : Rep} {L : List Int} (hS : PureOK Tryz.prog 16 [.agg (matR r C x)] (.tup [.one (.c (.sat (rowR 2 zC L))), eNo 0])) (h1 : 0 < m) (hm : m ≤ 6) (hC : C ≤ 3) (hL : ∀ d ∈ L, d.natAbs < WB ^ K) (hK : K ≤ 100000) :
    PureOK Tryz.prog 6 [.agg (matR r C x), .agg (zN (m : Int))] (.tup [.agg (zN (cnP L m C)), eNo 0]) := by
  have hmb : ((m : Int)).natAbs < WB ^ 1 := by rw [Nat.pow_one, WB_eq]; omega
  haveI b1 : Bd (m : Int) 1 := ⟨hmb⟩
  have o1 := of_1
  have hs : ¬ isign (m : Int) ≤ 0 := by unfold isign; split <;> (try split) <;> omega
  refine PureOK.fnF Tryz.func6 Tryz.results6 Tryz.ntmps6 rfl rfl rfl (by simp [AV.ids, AV0.ids, Atom.ids]) rfl (fun w0 T B E0 hB => ?_)
  refine SX.goB ?_
  refine W.loop (fun i => i ≤ C) (fun i => [(2, .ptr 2 0), (3, .ptr 3 0), (4, .ptr 4 0), (6, .r (rowR 2 zC L)), (8, .ptr 8 0), (28, .v (.int .i64 (C : Int))), (29, .v (.int .i64 (i : Int)))]) (fun i => [(2, .box 24 (matR r C x)), (3, .box 30 (zN (m : Int))), (4, .box 30 zNil), (8, .box 30 (zN (cnP L m i)))]) (fun i => C - i) 0 (Nat.zero_le _) (fun i hi => ?_)
    (by
      have e : cnP L m 0 = 1 := by unfold cnP; rfl
      refine SX.St.le_to [] (by intro b h; cases h) ?_ ?_ rfl
      · repeat (first | exact trivial | refine ⟨⟨_, rfl, SX.AVto.same rfl⟩, ?_⟩ | refine ⟨⟨_, rfl, SX.AVto.int (by omega)⟩, ?_⟩)
      · exact ⟨SX.EntTo.same rfl rfl, SX.EntTo.same rfl rfl, SX.EntTo.same rfl rfl, by rw [e]; exact SX.EntTo.same rfl rfl, trivial⟩)
  by_cases h : i < C
  · haveI iP : Bd (cnP L m i) 1 := ⟨cnP_bd h1 hm (by omega)⟩
    by_cases hl : i < L.length
    · obtain ⟨d, hd⟩ : ∃ d, L[i]? = some d := ⟨_, List.getElem?_eq_getElem hl⟩
      haveI iD : Bd d K := ⟨hL d (List.mem_of_getElem? hd)⟩
      haveI iG : Bd ((Int.gcd d m : Nat) : Int) 1 := ⟨by
        rw [Int.natAbs_natCast]
        have : Int.gcd d m ≤ m := Nat.le_of_dvd h1 (Int.natCast_dvd_natCast.1 (Int.gcd_dvd_right (a := d) (b := m)))
        rw [Nat.pow_one, WB_eq]; omega⟩
      have cM : PureOK Tryz.prog 18 [.agg (zN (cnP L m i)), .agg (zN ((Int.gcd d m : Nat) : Int))] (.agg (zN (cnP L m (i + 1)))) := by
        rw [cnP_some hd]; exact con_zMul.h (by omega)
      refine SX.goB ?_
      exact W.next (i + 1) h (by omega)
    · have hd : L[i]? = none := List.getElem?_eq_none (by omega)
      have cM : PureOK Tryz.prog 18 [.agg (zN (cnP L m i)), .agg (zN (m : Int))] (.agg (zN (cnP L m (i + 1)))) := by
        rw [cnP_none hd]; exact con_zMul.h (by omega)
      refine SX.goB ?_
      exact W.next (i + 1) h (by omega)
  · obtain rfl : i = C := by omega
    refine SX.goB ?_
    exact .ok (RetOK.mk2 (ResOK.agg2 rfl rfl rfl) (ResOK.tmp rfl))
end Go.Proofs.YtmfadfkjnfdngaaGreatDoor
set_option linter.unusedVariables false
set_option linter.unusedSimpArgs false
namespace Go.Proofs.YtmfadfkjnfdngaaGreatDoor
open Go.RowKit QM SX SNW
def rsD (j m : Nat) : Nat → Nat
  | 0 => j
  | k + 1 => rsD j m k / m
def bsS (A : Nat → Nat → Int) (j m i : Nat) : Nat → Int
  | 0 => 0
  | k + 1 => bsS A j m i k + A i k * ((rsD j m k % m : Nat) : Int)
def bcP (A : Nat → Nat → Int) (R C m j : Nat) : Bool := decide (∀ i, i < R → (m : Int) ∣ bsS A j m i C)
def cnF (p : Nat → Bool) : Nat → Nat
  | 0 => 0
  | j + 1 => match p j with | true => cnF p j + 1 | false => cnF p j
theorem rsD_le {j m : Nat} : ∀ k, rsD j m k ≤ j
  | 0 => Nat.le_refl _
  | k + 1 => Nat.le_trans (Nat.div_le_self ..) (rsD_le k)
theorem cnF_le {p : Nat → Bool} : ∀ j, cnF p j ≤ j
  | 0 => Nat.le_refl _
  | j + 1 => by
    have := cnF_le (p := p) j
    unfold cnF
    split <;> omega
theorem cnF_t {p : Nat → Bool} {j : Nat} (h : p j = true) : cnF p (j + 1) = cnF p j + 1 := by conv => lhs; unfold cnF; rw [h]
theorem cnF_f {p : Nat → Bool} {j : Nat} (h : p j = false) : cnF p (j + 1) = cnF p j := by conv => lhs; unfold cnF; rw [h]
theorem dig_lt {x : Int} {r m : Nat} (hx : x.natAbs < WB ^ 1) (h1 : 0 < m) (hm : m ≤ 6) : (x * ((r % m : Nat) : Int)).natAbs ≤ 6 * WB := by
  rw [Int.natAbs_mul, Int.natAbs_natCast, Nat.mul_comm]
  rw [Nat.pow_one] at hx
  exact Nat.mul_le_mul (by have := Nat.mod_lt r h1; omega) (Nat.le_of_lt hx)
theorem bsS_le {A : Nat → Nat → Int} {j m i C : Nat} (hA : ∀ k, k < C → (A i k).natAbs < WB ^ 1) (h1 : 0 < m) (hm : m ≤ 6) : ∀ k, k ≤ C → (bsS A j m i k).natAbs ≤ k * (6 * WB)
  | 0, _ => by unfold bsS; omega
  | k + 1, h => by
    have h2 := bsS_le (A := A) (j := j) (i := i) hA h1 hm k (by omega)
    have h3 := dig_lt (r := rsD j m k) (hA k (by omega)) h1 hm
    unfold bsS
    rw [Nat.succ_mul]
    have := Int.natAbs_add_le (bsS A j m i k) (A i k * ((rsD j m k % m : Nat) : Int))
    omega
theorem six_lt {k : Nat} (h : k ≤ 3) : k * (6 * WB) < WB ^ 2 := by
  rw [WB_eq]
  have : k * (6 * 18446744073709551616) ≤ 3 * (6 * 18446744073709551616) := Nat.mul_le_mul_right _ h
  have e : 18446744073709551616 ^ 2 = 340282366920938463463374607431768211456 := by decide
  omega
theorem bsS_bd {A : Nat → Nat → Int} {j m i C k : Nat} (hA : ∀ k, k < C → (A i k).natAbs < WB ^ 1) (h1 : 0 < m) (hm : m ≤ 6) (hk : k ≤ C) (hC : C ≤ 3) : (bsS A j m i k).natAbs < WB ^ 2 := Nat.lt_of_le_of_lt (bsS_le hA h1 hm k hk) (six_lt (by omega))
theorem dig_bd {x : Int} {r m : Nat} (hx : x.natAbs < WB ^ 1) (h1 : 0 < m) (hm : m ≤ 6) : (x * ((r % m : Nat) : Int)).natAbs < WB ^ 2 := by
  have := dig_lt (r := r) hx h1 hm
  have := six_lt (show 1 ≤ 3 by decide)
  omega
attribute [local irreducible] IntKind.wrap Go1 Reg WP thenK inBlk retQ retF RetF RetOK ResOK CallOK OpOK Sat
attribute [local irreducible] isign bsS rsD cnF zrem
set_option maxRecDepth 20000 in
theorem con_becomes {R C j m : Nat} {l : List Z2} {zs : List Int} (hM : MZ l zs 1) (hl : l.length = R * C) (hR : R ≤ 3) (hC : C ≤ 3) (h1 : 0 < m) (hm : m ≤ 6) (hj : j ≤ 1000) (goal : Bool) (hg : goal = true ↔ ∀ i, i < R → (m : Int) ∣ bsS (zat zs C) j m i C) :
    PureOK Tryz.prog 23 [.agg (matY R C l), .v (.int .i64 (j : Int)), .v (.int .i64 (m : Int))] (.v (.bool goal)) := by
  have o0 := of_0
  have hA : ∀ i, i < R → ∀ k, k < C → (zat zs C i k).natAbs < WB ^ 1 := fun i hi k hk => by
    obtain ⟨q, _, hq⟩ := hM.at hl hi hk
    exact hq.b
  haveI bm : Bd (m : Int) 1 := ⟨by rw [Nat.pow_one, WB_eq]; omega⟩
  have om : PureOK Tryz.prog 7 [.v (.int .i64 (m : Int))] (.agg (zN (m : Int))) := con_zOf.h ⟨by omega, by omega⟩
  refine PureOK.fnF Tryz.func23 Tryz.results23 Tryz.ntmps23 rfl rfl rfl (by simp [AV.ids, AV0.ids, Atom.ids]) rfl (fun w0 T B E0 hB => ?_)
  refine SX.goB ?_
  refine W.loop (fun i => i ≤ R ∧ ∀ x, x < i → (m : Int) ∣ bsS (zat zs C) j m x C) (fun i => [(1, .v (.int .i64 (j : Int))), (2, .v (.int .i64 (m : Int))), (3, .ptr 3 0), (7, .v (.int .i64 (i : Int)))]) (fun i => [(3, .box 24 (matY R C l))]) (fun i => R - i) 0 ⟨Nat.zero_le _, fun x h => absurd h (Nat.not_lt_zero _)⟩ (fun i ⟨hi, hx⟩ => ?_)
  by_cases h : i < R
  · refine SX.goB ?_
    refine W.loop (fun k => k ≤ C) (fun k => [(1, .v (.int .i64 (j : Int))), (2, .v (.int .i64 (m : Int))), (3, .ptr 3 0), (7, .v (.int .i64 (i : Int))), (8, .ptr 8 0), (9, .v (.int .i64 ((rsD j m k : Nat) : Int))), (10, .v (.int .i64 (k : Int)))]) (fun k => [(3, .box 24 (matY R C l)), (8, .box 30 (zN (bsS (zat zs C) j m i k)))]) (fun k => C - k) 0 (Nat.zero_le _) (fun k hk => ?_)
      (by
        have e : bsS (zat zs C) j m i 0 = 0 := by unfold bsS; rfl
        have e2 : rsD j m 0 = j := by unfold rsD; rfl
        refine SX.St.le_to [] (by intro b h; cases h) ?_ ?_ rfl
        · repeat (first | exact trivial | refine ⟨⟨_, rfl, SX.AVto.same rfl⟩, ?_⟩ | refine ⟨⟨_, rfl, SX.AVto.int (by omega)⟩, ?_⟩)
        · exact ⟨SX.EntTo.same rfl rfl, by rw [e]; exact SX.EntTo.same rfl rfl, trivial⟩)
    by_cases h2 : k < C
    · obtain ⟨q, hq, hz⟩ := hM.at hl h h2
      haveI i1 := hz.zi
      have hr := rsD_le (j := j) (m := m) k
      have hd := Nat.mod_lt (rsD j m k) h1
      have cA := con_r11At (r := R) (c := C) (i := i) (k := k) hq (by omega) (by omega) (by omega)
      have cO : PureOK Tryz.prog 7 [.v (.int .i64 ((rsD j m k % m : Nat) : Int))] (.agg (zN ((rsD j m k % m : Nat) : Int))) := con_zOf.h ⟨by omega, by omega⟩
      haveI i2 : Bd ((rsD j m k % m : Nat) : Int) 1 := ⟨by rw [Nat.pow_one, WB_eq, Int.natAbs_natCast]; omega⟩
      haveI i3 : Bd (bsS (zat zs C) j m i k) 2 := ⟨bsS_bd (hA i h) h1 hm (by omega) hC⟩
      haveI i4 : Bd (zat zs C i k * ((rsD j m k % m : Nat) : Int)) 2 := ⟨dig_bd (hA i h k h2) h1 hm⟩
      have cM : PureOK Tryz.prog 18 [.agg (z2A q), .agg (zN ((rsD j m k % m : Nat) : Int))] (.agg (zN (zat zs C i k * ((rsD j m k % m : Nat) : Int)))) := con_zMul.h (by omega)
      have cD : PureOK Tryz.prog 42 [.agg (zN (bsS (zat zs C) j m i k)), .agg (zN (zat zs C i k * ((rsD j m k % m : Nat) : Int)))] (.agg (zN (bsS (zat zs C) j m i (k + 1)))) := by
        have e : bsS (zat zs C) j m i (k + 1) = bsS (zat zs C) j m i k + zat zs C i k * ((rsD j m k % m : Nat) : Int) := by conv => lhs; unfold bsS
        rw [e]; exact con_zAdd.h (by omega)
      have e : rsD j m k / m = rsD j m (k + 1) := by conv => rhs; unfold rsD
      refine SX.goB ?_
      refine W.next (k + 1) h2 (by omega) (by
        refine SX.St.le_to [] (by intro b h; cases h) ?_ ?_ rfl
        · repeat (first | exact trivial | refine ⟨⟨_, rfl, SX.AVto.same rfl⟩, ?_⟩ | refine ⟨⟨_, rfl, SX.AVto.int (by rw [e])⟩, ?_⟩ | refine ⟨⟨_, rfl, SX.AVto.int (by omega)⟩, ?_⟩)
        · exact ⟨SX.EntTo.same rfl rfl, SX.EntTo.same rfl rfl, trivial⟩)
    · obtain rfl : k = C := by omega
      haveI i3 : Bd (bsS (zat zs k) j m i k) 2 := ⟨bsS_bd (hA i h) h1 hm (by omega) hC⟩
      have cQ : PureOK Tryz.prog 44 [.agg (zN (bsS (zat zs k) j m i k)), .agg (zN (m : Int))] (.tup [.agg (zN ((bsS (zat zs k) j m i k).tdiv m)), .agg (zN (zrem (bsS (zat zs k) j m i k) m)), .one (.c (.val (.bool (decide ((m : Int) ≠ 0)))))]) := con_zQuo.h (by omega)
      have hm0 : (m : Int) ≠ 0 := by omega
      by_cases hd : (m : Int) ∣ bsS (zat zs k) j m i k
      · have hs : isign (zrem (bsS (zat zs k) j m i k) m) = 0 := isign_ne.2 ((zrem_dvd hm0).2 hd)
        refine SX.goB ?_
        refine W.next (i + 1) ⟨h, fun x hx2 => ?_⟩ (by omega)
        by_cases e : x = i
        · subst e; exact hd
        · exact hx x (by omega)
      · have hs : isign (zrem (bsS (zat zs k) j m i k) m) ≠ 0 := fun e => hd ((zrem_dvd hm0).1 (isign_ne.1 e))
        refine SX.goB ?_
        refine retB ?_
        exact (Bool.eq_false_iff.2 fun ht => hd (hg.1 ht i h)).symm
  · obtain rfl : i = R := by omega
    refine SX.goB ?_
    refine retB ?_
    exact (hg.2 hx).symm
theorem con_r18Count {R C m : Nat} {l : List Z2} {zs : List Int} (hM : MZ l zs 1) (hl : l.length = R * C) (hR : R ≤ 3) (hC : C ≤ 3) (h1 : 0 < m) (hm : m ≤ 6) :
    PureOK Tryz.prog 11 [.agg (matY R C l), .v (.int .i64 (m : Int))] (.v (.int .i64 ((cnF (bcP (zat zs C) R C m) (m ^ C) : Nat) : Int))) := by
  have hp : ∀ k, k ≤ 3 → m ^ k ≤ 216 := fun k hk => Nat.le_trans (Nat.pow_le_pow_left hm k) (Nat.le_trans (Nat.pow_le_pow_right (by decide) hk) (by decide))
  have cB := fun j (hj : j ≤ 1000) => con_becomes (j := j) hM hl hR hC h1 hm hj (bcP (zat zs C) R C m j) (by unfold bcP; rw [decide_eq_true_iff])
  generalize bcP (zat zs C) R C m = p at *
  refine PureOK.fnF Tryz.func11 Tryz.results11 Tryz.ntmps11 rfl rfl rfl (by simp [AV.ids, AV0.ids, Atom.ids]) rfl (fun w0 T B E0 hB => ?_)
  refine SX.goB ?_
  refine W.loop (fun k => k ≤ C) (fun k => [(1, .v (.int .i64 (m : Int))), (2, .ptr 2 0), (5, .v (.int .i64 ((m ^ k : Nat) : Int))), (6, .v (.int .i64 (k : Int)))]) (fun k => [(2, .box 24 (matY R C l))]) (fun k => C - k) 0 (Nat.zero_le _) (fun k hk => ?_)
    (by
      refine SX.St.le_to [] (by intro b h; cases h) ?_ ?_ rfl
      · repeat (first | exact trivial | refine ⟨⟨_, rfl, SX.AVto.same rfl⟩, ?_⟩ | refine ⟨⟨_, rfl, SX.AVto.int (by rw [Nat.pow_zero]; rfl)⟩, ?_⟩)
      · exact ⟨SX.EntTo.same rfl rfl, trivial⟩)
  by_cases h : k < C
  · have hb := hp (k + 1) (by omega)
    rw [Nat.pow_succ] at hb
    have hb : m ^ k * m ≤ 9223372036854775807 := by omega
    refine SX.goB ?_
    refine W.next (k + 1) h (by omega) (by
        refine SX.St.le_to [] (by intro b h; cases h) ?_ ?_ rfl
        · repeat (first | exact trivial | refine ⟨⟨_, rfl, SX.AVto.same rfl⟩, ?_⟩ | refine ⟨⟨_, rfl, SX.AVto.int (by rw [Nat.pow_succ])⟩, ?_⟩)
        · exact ⟨SX.EntTo.same rfl rfl, trivial⟩)
  · obtain rfl : k = C := by omega
    have hb := hp k hC
    generalize m ^ k = n at *
    refine SX.goB ?_
    refine W.loop (fun j => j ≤ n) (fun j => [(1, .v (.int .i64 (m : Int))), (2, .ptr 2 0), (5, .v (.int .i64 (n : Int))), (7, .v (.int .i64 ((cnF p j : Nat) : Int))), (8, .v (.int .i64 (j : Int)))]) (fun j => [(2, .box 24 (matY R k l))]) (fun j => n - j) 0 (Nat.zero_le _) (fun j hj => ?_)
      (by
        have e : cnF p 0 = 0 := by unfold cnF; rfl
        refine SX.St.le_to [] (by intro b h; cases h) ?_ ?_ rfl
        · repeat (first | exact trivial | refine ⟨⟨_, rfl, SX.AVto.same rfl⟩, ?_⟩ | refine ⟨⟨_, rfl, SX.AVto.int (by rw [e]; rfl)⟩, ?_⟩)
        · exact ⟨SX.EntTo.same rfl rfl, trivial⟩)
    by_cases h : j < n
    · have cP := cB j (by omega)
      have hle := cnF_le (p := p) j
      cases hpj : p j with
      | true =>
        rw [hpj] at cP
        have e : cnF p (j + 1) = cnF p j + 1 := cnF_t hpj
        refine SX.goB ?_
        refine W.next (j + 1) h (by omega) (by
          refine SX.St.le_to [] (by intro b h; cases h) ?_ ?_ rfl
          · repeat (first | exact trivial | refine ⟨⟨_, rfl, SX.AVto.same rfl⟩, ?_⟩ | refine ⟨⟨_, rfl, SX.AVto.int (by rw [e])⟩, ?_⟩)
          · exact ⟨SX.EntTo.same rfl rfl, trivial⟩)
      | false =>
        rw [hpj] at cP
        have e : cnF p (j + 1) = cnF p j := cnF_f hpj
        refine SX.goB ?_
        refine W.next (j + 1) h (by omega) (by
          refine SX.St.le_to [] (by intro b h; cases h) ?_ ?_ rfl
          · repeat (first | exact trivial | refine ⟨⟨_, rfl, SX.AVto.same rfl⟩, ?_⟩ | refine ⟨⟨_, rfl, SX.AVto.int (by rw [e])⟩, ?_⟩)
          · exact ⟨SX.EntTo.same rfl rfl, trivial⟩)
    · obtain rfl : j = n := by omega
      refine SX.goB ?_
      exact ret1 rfl
end Go.Proofs.YtmfadfkjnfdngaaGreatDoor
set_option linter.unusedVariables false
set_option linter.unusedSimpArgs false
namespace SNW
theorem sm_app {f : Int → Nat} {a : Nat} : ∀ b, sm f (a + b) = sm f a + sm (fun x => f (a + x)) b
  | 0 => rfl
  | b + 1 => by
    show sm f (a + b) + f ((a + b : Nat) : Int) = sm f a + (sm (fun x => f (a + x)) b + f (a + (b : Int)))
    rw [sm_app b, show ((a + b : Nat) : Int) = (a : Int) + b by omega]; omega
theorem sm_split {f : Int → Nat} {m : Nat} : ∀ n, sm f (n * m) = sm (fun y => sm (fun x => f (y * m + x)) m) n
  | 0 => by rw [Nat.zero_mul]; rfl
  | n + 1 => by
    rw [Nat.succ_mul, sm_app, sm_split n, Int.natCast_mul]; rfl
theorem sm_const {a : Nat} : ∀ n, sm (fun _ => a) n = n * a
  | 0 => by rw [Nat.zero_mul]; rfl
  | n + 1 => by unfold sm; rw [sm_const n, Nat.succ_mul]
theorem N3_zyx {m : Nat} {A : Mx} : N3 m A = sm (fun z => sm (fun y => sm (fun x => pt m A x y z) m) m) m := by
  rw [N3_x, sm_swap]
end SNW
namespace Go.Proofs.YtmfadfkjnfdngaaGreatDoor
open QM SX SNW
theorem cnF_sm {p : Nat → Bool} : ∀ n, cnF p n = sm (fun x => if p x.toNat = true then 1 else 0) n
  | 0 => by unfold cnF; rfl
  | n + 1 => by
    have e : sm (fun x => if p x.toNat = true then 1 else 0) (n + 1) = sm (fun x => if p x.toNat = true then 1 else 0) n + (if p ((n : Int)).toNat = true then 1 else 0) := rfl
    rw [e, ← cnF_sm n, Int.toNat_natCast]
    cases h : p n with
    | true => rw [cnF_t h]; rfl
    | false => rw [cnF_f h]; rfl
theorem bsS_1 {A : Nat → Nat → Int} {j m i : Nat} : bsS A j m i 1 = A i 0 * ((j % m : Nat) : Int) := by
  show 0 + A i 0 * ((j % m : Nat) : Int) = _
  omega
theorem bsS_2 {A : Nat → Nat → Int} {j m i : Nat} : bsS A j m i 2 = A i 0 * ((j % m : Nat) : Int) + A i 1 * ((j / m % m : Nat) : Int) := by
  rw [← bsS_1 (A := A)]; rfl
theorem bsS_3 {A : Nat → Nat → Int} {j m i : Nat} : bsS A j m i 3 = A i 0 * ((j % m : Nat) : Int) + A i 1 * ((j / m % m : Nat) : Int) + A i 2 * ((j / m / m % m : Nat) : Int) := by
  rw [← bsS_2 (A := A)]; rfl
section
variable {Z A : Nat → Nat → Int} {R C m : Nat}
theorem bc_pt {j : Nat} {x y z : Int} (hZ : ∀ i j, i < R → j < C → A i j = Z i j) (h0 : ∀ i j, R ≤ i ∨ C ≤ j → A i j = 0) (h : ∀ i, i < R → bsS Z j m i C = A i 0 * x + A i 1 * y + A i 2 * z) : (if bcP Z R C m j = true then 1 else 0) = pt m A x y z := by
  have hi : bcP Z R C m j = true ↔ zs m A x y z := by
    unfold bcP
    rw [decide_eq_true_iff]
    refine ⟨fun k i => ?_, fun k i hi => by rw [h i hi]; exact k i⟩
    by_cases hi : i < R
    · rw [← h i hi]; exact k i hi
    · rw [h0 i 0 (.inl (by omega)), h0 i 1 (.inl (by omega)), h0 i 2 (.inl (by omega))]
      simp
  unfold pt
  by_cases k : zs m A x y z
  · rw [if_pos k, if_pos (hi.2 k)]
  · rw [if_neg k, if_neg fun g => k (hi.1 g)]
theorem dg0 {y x : Nat} (hx : x < m) : (y * m + x) % m = x ∧ (y * m + x) / m = y := by
  rw [Nat.mul_comm, Nat.mul_add_mod, Nat.mod_eq_of_lt hx, Nat.mul_add_div (by omega), Nat.div_eq_of_lt hx]; exact ⟨rfl, rfl⟩
theorem count3 {Z : Nat → Nat → Int} (hC : C = 3) (hZ : ∀ i j, i < R → j < C → A i j = Z i j) (h0 : ∀ i j, R ≤ i ∨ C ≤ j → A i j = 0) : cnF (bcP Z R C m) (m ^ C) = N3 m A := by
  subst hC
  rw [N3_zyx, cnF_sm, show m ^ 3 = m * m * m by rw [Nat.pow_succ, Nat.pow_succ, Nat.pow_one], sm_split, sm_split]
  refine sm_congr fun z hz => sm_congr fun y hy => sm_congr fun x hx => ?_
  have e : (((z : Int) * m + y) * m + x).toNat = (z * m + y) * m + x := by
    have : ((z : Int) * m + y) * m + x = (((z * m + y) * m + x : Nat) : Int) := by simp
    rw [this, Int.toNat_natCast]
  show (if bcP Z R 3 m (((z : Int) * m + y) * m + x).toNat = true then 1 else 0) = _
  rw [e]
  obtain ⟨d1, d2⟩ := dg0 (y := z * m + y) hx
  obtain ⟨d3, d4⟩ := dg0 (y := z) hy
  exact bc_pt hZ h0 fun i hi => by rw [bsS_3, d1, d2, d3, d4, Nat.mod_eq_of_lt hz, hZ i 0 hi (by omega), hZ i 1 hi (by omega), hZ i 2 hi (by omega)]
theorem count2 {Z : Nat → Nat → Int} (hC : C = 2) (hZ : ∀ i j, i < R → j < C → A i j = Z i j) (h0 : ∀ i j, R ≤ i ∨ C ≤ j → A i j = 0) : m * cnF (bcP Z R C m) (m ^ C) = N3 m A := by
  subst hC
  rw [N3_zyx, cnF_sm, show m ^ 2 = m * m by rw [Nat.pow_succ, Nat.pow_one], sm_split, ← sm_const]
  refine sm_congr fun z hz => sm_congr fun y hy => sm_congr fun x hx => ?_
  have e : ((y : Int) * m + x).toNat = y * m + x := by
    have : (y : Int) * m + x = ((y * m + x : Nat) : Int) := by simp
    rw [this, Int.toNat_natCast]
  show (if bcP Z R 2 m ((y : Int) * m + x).toNat = true then 1 else 0) = _
  rw [e]
  obtain ⟨d1, d2⟩ := dg0 (y := y) hx
  exact bc_pt hZ h0 fun i hi => by rw [bsS_2, d1, d2, Nat.mod_eq_of_lt hy, hZ i 0 hi (by omega), hZ i 1 hi (by omega), h0 i 2 (.inr (by omega)), Int.zero_mul, Int.add_zero]
theorem count1 {Z : Nat → Nat → Int} (hC : C = 1) (hZ : ∀ i j, i < R → j < C → A i j = Z i j) (h0 : ∀ i j, R ≤ i ∨ C ≤ j → A i j = 0) : m * (m * cnF (bcP Z R C m) (m ^ C)) = N3 m A := by
  subst hC
  rw [N3_zyx, cnF_sm, Nat.pow_one, ← sm_const, ← sm_const]
  refine sm_congr fun z hz => sm_congr fun y hy => sm_congr fun x hx => ?_
  show (if bcP Z R 1 m (x : Int).toNat = true then 1 else 0) = _
  rw [Int.toNat_natCast]
  exact bc_pt hZ h0 fun i hi => by rw [bsS_1, Nat.mod_eq_of_lt hx, hZ i 0 hi (by omega), h0 i 1 (.inr (by omega)), h0 i 2 (.inr (by omega)), Int.zero_mul, Int.zero_mul, Int.add_zero, Int.add_zero]
theorem count0 {Z : Nat → Nat → Int} (hC : C = 0) (hZ : ∀ i j, i < R → j < C → A i j = Z i j) (h0 : ∀ i j, R ≤ i ∨ C ≤ j → A i j = 0) : m * (m * (m * cnF (bcP Z R C m) (m ^ C))) = N3 m A := by
  subst hC
  have e1 : cnF (bcP Z R 0 m) (m ^ 0) = 1 := by
    rw [Nat.pow_zero]
    have : bcP Z R 0 m 0 = true := by
      unfold bcP
      rw [decide_eq_true_iff]
      exact fun i hi => by show (m : Int) ∣ 0; exact Int.dvd_zero _
    rw [show (1 : Nat) = 0 + 1 from rfl, cnF_t this]; rfl
  rw [N3_zyx, e1, ← sm_const, ← sm_const, ← sm_const]
  refine sm_congr fun z hz => sm_congr fun y hy => sm_congr fun x hx => ?_
  unfold pt
  rw [if_pos]
  intro i
  rw [h0 i 0 (.inr (by omega)), h0 i 1 (.inr (by omega)), h0 i 2 (.inr (by omega))]
  simp
end
theorem Fin.down {r c K : Nat} {D : Mx} (h : Fin r c K D) {i : Nat} (hn : D (i + 1) (i + 1) ≠ 0) : D i i ≠ 0 := fun e => hn (by
  have := h.ch i
  rw [e] at this
  exact Int.zero_dvd.1 this)
theorem Fin.fclen {r c K : Nat} {D : Mx} (h : Fin r c K D) : ∀ n, D n n ≠ 0 → (fcL D n).length = n
  | 0, _ => rfl
  | n + 1, hn => by
    have h1 := h.down hn
    have h2 := h.fclen n h1
    conv => lhs; unfold fcL
    rw [if_neg h1, List.length_append, h2]; rfl
theorem Fin.fcat {r c K : Nat} {D : Mx} (h : Fin r c K D) : ∀ n i, (fcL D n)[i]? = if i < n ∧ D i i ≠ 0 then some (D i i) else none
  | 0, i => by
    rw [if_neg (by omega)]; rfl
  | n + 1, i => by
    by_cases hz : D n n = 0
    · have e : fcL D (n + 1) = fcL D n := by
        conv => lhs; unfold fcL
        rw [if_pos hz]
      rw [e, h.fcat n i]
      by_cases hi : i < n
      · by_cases hd : D i i = 0
        · rw [if_neg (fun g => g.2 hd), if_neg (fun g => g.2 hd)]
        · rw [if_pos ⟨hi, hd⟩, if_pos ⟨by omega, hd⟩]
      · rw [if_neg (fun g => hi g.1), if_neg]
        intro g
        obtain rfl : i = n := by omega
        exact g.2 hz
    · have e : fcL D (n + 1) = fcL D n ++ [D n n] := by
        conv => lhs; unfold fcL
        rw [if_neg hz]
      have hl := h.fclen n hz
      rw [e]
      by_cases hi : i < n
      · rw [List.getElem?_append_left (by omega), h.fcat n i]
        by_cases hd : D i i = 0
        · rw [if_neg (fun g => g.2 hd), if_neg (fun g => g.2 hd)]
        · rw [if_pos ⟨hi, hd⟩, if_pos ⟨by omega, hd⟩]
      · rw [List.getElem?_append_right (by omega), hl]
        by_cases h2 : i = n
        · subst h2
          rw [if_pos ⟨by omega, hz⟩, Nat.sub_self]; rfl
        · rw [if_neg (fun g => by omega)]
          exact List.getElem?_eq_none (by simp; omega)
theorem gcd_0 (m : Nat) : Int.gcd 0 m = m := by rw [Int.gcd_zero_left]; rfl
section
variable {r c K m : Nat} {D : Mx}
theorem cnP_D (h : Fin r c K D) {i : Nat} (hi : i < c) : cnP (fcL D (min r c)) m (i + 1) = cnP (fcL D (min r c)) m i * ((Int.gcd (D i i) m : Nat) : Int) := by
  have e := h.fcat (min r c) i
  by_cases hd : D i i = 0
  · rw [if_neg (fun g => g.2 hd)] at e
    rw [cnP_none e, hd, gcd_0]
  · by_cases h2 : i < min r c
    · rw [if_pos ⟨h2, hd⟩] at e
      rw [cnP_some e]
    · exact absurd (h.out i i (.inl (by omega))) hd
theorem count_law {Z A : Nat → Nat → Int} (h : Fin r c K D) (hr : r ≤ 3) (hc : c ≤ 3) (hZ : ∀ i j, i < r → j < c → A i j = Z i j) (h0 : ∀ i j, r ≤ i ∨ c ≤ j → A i j = 0) (he : Rel c A D) (h1 : 0 < m) (hm : m ≤ 6) :
    cnP (fcL D (min r c)) m c = ((cnF (bcP Z r c m) (m ^ c) : Nat) : Int) := by
  have hN := (he.n hc m h1).trans (N3_diag h.off)
  rw [gk_gcd h1 (by omega), gk_gcd h1 (by omega), gk_gcd h1 (by omega)] at hN
  have hP := fun i hi => cnP_D (m := m) h (i := i) hi
  have hcz : ∀ i, c ≤ i → Int.gcd (D i i) m = m := fun i hi => by rw [h.out i i (.inr hi), gcd_0]
  have p0 : cnP (fcL D (min r c)) m 0 = 1 := rfl
  generalize fcL D (min r c) = L at *
  have hc' : c = 0 ∨ c = 1 ∨ c = 2 ∨ c = 3 := by omega
  rcases hc' with e | e | e | e
  · have k := count0 (m := m) e hZ h0
    rw [hN, hcz 0 (by omega), hcz 1 (by omega), hcz 2 (by omega)] at k
    have k := Nat.eq_of_mul_eq_mul_left h1 k
    have k := Nat.eq_of_mul_eq_mul_left h1 k
    have k : m * cnF (bcP Z r c m) (m ^ c) = m * 1 := by rw [k, Nat.mul_one]
    have k := Nat.eq_of_mul_eq_mul_left h1 k
    rw [k, e, p0]; rfl
  · have k := count1 (m := m) e hZ h0
    rw [hN, hcz 1 (by omega), hcz 2 (by omega)] at k
    have k : m * (m * cnF (bcP Z r c m) (m ^ c)) = m * (m * Int.gcd (D 0 0) m) := by rw [k]; ac_rfl
    have k := Nat.eq_of_mul_eq_mul_left h1 k
    have k := Nat.eq_of_mul_eq_mul_left h1 k
    rw [k, e, hP 0 (by omega), p0, Int.one_mul]
  · have k := count2 (m := m) e hZ h0
    rw [hN, hcz 2 (by omega), ← Nat.mul_assoc, Nat.mul_comm _ m] at k
    have k := Nat.eq_of_mul_eq_mul_left h1 k
    rw [k, e, hP 1 (by omega), hP 0 (by omega), p0, Int.one_mul, Int.natCast_mul]
  · have k := count3 (m := m) e hZ h0
    rw [k, hN, e, hP 2 (by omega), hP 1 (by omega), hP 0 (by omega), p0, Int.one_mul, Int.natCast_mul, Int.natCast_mul, Int.mul_assoc]
end
end Go.Proofs.YtmfadfkjnfdngaaGreatDoor
set_option linter.unusedVariables false
set_option linter.unusedSimpArgs false
namespace Go.Proofs.YtmfadfkjnfdngaaGreatDoor
open Go.RowKit QM SX SNW
attribute [local irreducible] IntKind.wrap Go1 Reg WP thenK inBlk retQ retF RetF RetOK ResOK CallOK OpOK Sat
attribute [local irreducible] smS fcL cnP cnF bcP zO isign
theorem fc_bd {D : Nat → Nat → Int} {K : Nat} (h : ∀ i j, (D i j).natAbs < WB ^ K) : ∀ n, ∀ d ∈ fcL D n, d.natAbs < WB ^ K
  | 0, d, hd => by
    unfold fcL at hd; cases hd
  | n + 1, d, hd => by
    unfold fcL at hd
    split at hd
    · exact fc_bd h n d hd
    · rcases List.mem_append.1 hd with k | k
      · exact fc_bd h n d k
      · rw [List.mem_singleton.1 k]; exact h n n
theorem DiophCounts_ok (q : RawW) (hw : ∀ a ∈ q.2.2, Sm WB a.2) (n : Int) (hn : 0 ≤ n ∧ n ≤ 255) : PureOK Tryz.prog 3 [.agg (matW q.1 q.2.1 (q.2.2.map rz)), .v (.int .u8 n)] (.v (.bool true)) := by
  obtain ⟨r, c, l⟩ := q
  have hw : ∀ a ∈ l, Sm WB a.2 := hw
  show PureOK Tryz.prog 3 [.agg (matW r c (l.map rz)), .v (.int .u8 n)] (.v (.bool true))
  have aw := con_awake18
  have hlen : (l.map rz).length = l.length := List.length_map _
  obtain ⟨k, rfl⟩ := Int.eq_ofNat_of_zero_le hn.1
  have hm6 : k % 6 < 6 := Nat.mod_lt k (by decide)
  have h6 : (k : Int).tmod 6 = ((k % 6 : Nat) : Int) := rfl
  have hneg : IntKind.i64.wrap (0 - ((1 + k % 6 : Nat) : Int)) = -((1 + k % 6 : Nat) : Int) := by
    rw [Int.zero_sub]; exact wrapI64 (by omega) (by omega)
  have oP : PureOK Tryz.prog 7 [.v (.int .i64 ((1 + k % 6 : Nat) : Int))] (.agg (zN ((1 + k % 6 : Nat) : Int))) := con_zOf.h ⟨by omega, by omega⟩
  have oN : PureOK Tryz.prog 7 [.v (.int .i64 (-((1 + k % 6 : Nat) : Int)))] (.agg (zN (-((1 + k % 6 : Nat) : Int)))) := con_zOf.h ⟨by omega, by omega⟩
  by_cases hf : FewZ r c l 3 1
  · have cFew := con_r11Few r c l 3 1 true ⟨fun _ => hf, fun _ => rfl⟩
    by_cases hF : FormedP r c (l.map rz).length
    · have cFo := con_r11Formed r c (cells := (l.map rz).flatMap z2C) true ⟨fun _ => hF, fun _ => rfl⟩
      obtain ⟨f1, f2, f3, f4, f5⟩ := hF
      obtain ⟨⟨hwd, hl1⟩, hr4, hc4⟩ := hf
      obtain ⟨R, rfl⟩ := Int.eq_ofNat_of_zero_le f1
      obtain ⟨C, rfl⟩ := Int.eq_ofNat_of_zero_le f3
      have hR : R ≤ 3 := by omega
      have hC : C ≤ 3 := by omega
      have hlc : (l.map rz).length = R * C := by
        have : (((l.map rz).length : Nat) : Int) = ((R * C : Nat) : Int) := by rw [f5]; simp
        omega
      have hM : MZ (l.map rz) (l.map rzv) 1 := MZ.raw hw fun a ha => by
        obtain ⟨i, hi⟩ := List.mem_iff_getElem?.1 ha
        have hil := at_lt hi
        have hRC := Nat.mul_le_mul hR hC
        have := hwd i a (by omega) hi
        omega
      have hZ : ∀ i j, i < R → j < C → (zat (l.map rzv) C i j).natAbs < 2 ^ 64 := fun i j hi hj => by
        obtain ⟨q, _, hq⟩ := hM.at hlc hi hj
        have := hq.b
        rw [WB_p2] at this; exact this
      have cS := con_Factors (r := R) (c := C) (K := 17978) (x := rowR 2 z2C (l.map rz)) (A0 := zO R C (zat (l.map rzv) C)) hR (by omega) rfl (con_zF (FormedP.nat (by omega) (by omega) hlc))
        (fun i k hi hk => by rw [zO_in i k hi hk]; exact con_zAt hM hlc (by omega) (by omega) hi hk (by decide)) zO_out (zO_lt hZ)
      obtain ⟨hfin, hrel⟩ := StI.fin (K := 17978) hR (show C ≤ 4 by omega) rfl (min R C) 0 _ _ (StI.start (r := R) (c := C) (K := 17978) zO_out (zO_lt hZ)) (by omega)
      have claw := count_law (m := 1 + k % 6) hfin hR hC zO_in zO_out hrel (by omega) (by omega)
      have cC := con_r18Count (m := 1 + k % 6) hM hlc hR hC (by omega) (by omega)
      have hfb := fc_bd hfin.all (min R C)
      unfold smF at cS
      have cD := con_DCount (m := 1 + k % 6) (K := 17978) cS (by omega) (by omega) hC hfb (by decide)
      have cE := con_DCountA (z := -((1 + k % 6 : Nat) : Int)) cS (by omega) (by rw [Nat.pow_one, WB_eq]; omega)
      rw [claw] at cD
      have hcn := cnF_le (p := bcP (zat (l.map rzv) C) R C (1 + k % 6)) ((1 + k % 6) ^ C)
      have hpw : (1 + k % 6) ^ C ≤ 216 := Nat.le_trans (Nat.pow_le_pow_left (show 1 + k % 6 ≤ 6 by omega) C) (Nat.le_trans (Nat.pow_le_pow_right (by decide) hC) (by decide))
      generalize cnF (bcP (zat (l.map rzv) C) R C (1 + k % 6)) ((1 + k % 6) ^ C) = N at *
      have oC : PureOK Tryz.prog 7 [.v (.int .i64 ((N : Nat) : Int))] (.agg (zN ((N : Nat) : Int))) := con_zOf.h ⟨by omega, by omega⟩
      have cSame : PureOK Tryz.prog 10 [.agg (zN (N : Int)), .agg (zN (N : Int))] (.v (.bool true)) := by
        haveI : Bd (N : Int) 1 := ⟨by rw [Nat.pow_one, WB_eq]; omega⟩
        have := con_zSame (l := zN (N : Int)) (l' := zN (N : Int)) |>.h (by decide)
        rw [decide_eq_true rfl] at this; exact this
      have cSg : PureOK Tryz.prog 9 [.agg (zN 0)] (.v (.int .i64 0)) := by
        haveI : Bd 0 1 := b_of (by decide)
        have h := con_zSign (l := zN 0) |>.h (by decide)
        rw [isign_0] at h; exact h
      refine PureOK.fnF Tryz.func3 Tryz.results3 Tryz.ntmps3 rfl rfl rfl (by simp [AV.ids, AV0.ids, Atom.ids]) rfl (fun w0 T B E0 hB => ?_)
      refine SX.goB ?_
      exact retB rfl
    · have cFo := con_r11Formed r c (cells := (l.map rz).flatMap z2C) false ⟨fun h => (by cases h), fun h => absurd h hF⟩
      have cF0 : PureOK Tryz.prog 27 [.agg [.c (.val (.int .i64 r)), .c (.val (.int .i64 c)), .c (.sat (rowR 2 z2C (l.map rz)))]] (.v (.bool false)) := con_zF0 hF
      have c1 := con_DCountE (z := ((1 + k % 6 : Nat) : Int)) cF0
      have c2 := con_DCountE (z := -((1 + k % 6 : Nat) : Int)) cF0
      have cSg : PureOK Tryz.prog 9 [.agg (zN 0)] (.v (.int .i64 0)) := by
        haveI : Bd 0 1 := b_of (by decide)
        have h := con_zSign (l := zN 0) |>.h (by decide)
        rw [isign_0] at h; exact h
      refine PureOK.fnF Tryz.func3 Tryz.results3 Tryz.ntmps3 rfl rfl rfl (by simp [AV.ids, AV0.ids, Atom.ids]) rfl (fun w0 T B E0 hB => ?_)
      refine SX.goB ?_
      exact retB rfl
  · have cFew := con_r11Few r c l 3 1 false ⟨fun h => (by cases h), fun h => absurd h hf⟩
    refine PureOK.fnF Tryz.func3 Tryz.results3 Tryz.ntmps3 rfl rfl rfl (by simp [AV.ids, AV0.ids, Atom.ids]) rfl (fun w0 T B E0 hB => ?_)
    refine SX.goB ?_
    exact retB rfl
end Go.Proofs.YtmfadfkjnfdngaaGreatDoor

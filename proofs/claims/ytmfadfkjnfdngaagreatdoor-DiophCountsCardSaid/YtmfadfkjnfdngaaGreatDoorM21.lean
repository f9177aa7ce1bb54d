import Derived.Test.YtmfadfkjnfdngaaGreatDoorM20
import Derived.Test.YtmfadfkjnfdngaaGreatDoorM17
import Derived.Test.YtmfadfkjnfdngaaGreatDoorM10
import Derived.Test.YtmfadfkjnfdngaaGreatDoorM16
set_option linter.unusedVariables false
set_option linter.unusedSimpArgs false
namespace Go.Proofs.YtmfadfkjnfdngaaGreatDoor
open Go.RowKit QM SX SNW
attribute [local irreducible] IntKind.wrap Go1 Reg WP thenK inBlk retQ retF RetF RetOK ResOK CallOK OpOK Sat
attribute [local irreducible] adK ngK zrK RL isign icmp zfq zfr zexok zexq wkS odF lsAll flR flC clR clU clC clV smS plS pbT zbT rT lT rdMax
abbrev smF (r c : Nat) (A : Nat → Nat → Int) : SW := smS r c (min r c) 0 ⟨A, idS, idS⟩
theorem con_sStep {r c K t : Nat} {D : Nat → Int} {A0 : Mx} {s : SW} {res : Bool × SW} (h : StI r c K t D A0 s) (ht : t < r) (htc : t < c) (hr : r ≤ 3) (hc : c ≤ 4) (hK : K = 17978) (hp : plS r c t (rdMax (r - t) (c - t) (pbT t) + 1) s = some res) :
    CallOK Tryz.prog 46 [.ptr 81 0, .v (.int .i64 (t : Int))] [(81, .abs (swE r c s))] ⟨.v (.bool res.1), [(81, .ent (.abs (swE r c res.2)))]⟩ := by
  have S := h.stg ht htc hr hc hK
  have l1 := StI.lBd_le (K := K) (c := c) ht hr
  have l2 := lT_mono K (show t + 1 ≤ 3 by omega)
  have l3 := lT_3 hK
  exact con_sPlace (L := lBd r c t (pbT t) K (lT K t)) ht htc (by omega) (by omega) (fun s => ∃ n, IV r c t (pbT t) (zbT t) K (lT K t) D A0 n s) (fun s ⟨n, hn⟩ => (hn.ok S).imp (fun s' h' => ⟨n + 1, h'⟩) (Nat.le_refl _)) (by omega) (by omega) _ s res ⟨0, h.iv⟩ hp
set_option maxRecDepth 20000 in
set_option maxHeartbeats 1000000 in
theorem con_Smith {r c K : Nat} {x : Rep} {A0 : Nat → Nat → Int} (hr : r ≤ 3) (hc : c ≤ 4) (hK : K = 17978) (hF : PureOK Tryz.prog 27 [.agg (matR r c x)] (.v (.bool true)))
    (hA : ∀ i k, i < r → k < c → PureOK Tryz.prog 35 [.agg (matR r c x), .v (.int .i64 (i : Int)), .v (.int .i64 (k : Int))] (.agg (zN (A0 i k)))) (h0 : ∀ i j, r ≤ i ∨ c ≤ j → A0 i j = 0) (hb : ∀ i j, (A0 i j).natAbs < 2 ^ 64) :
    PureOK Tryz.prog 28 [.agg (matR r c x)] (.tup [.agg (matN r c (tabZ c (smF r c A0).a r)), .agg (matN r r (tabZ r (smF r c A0).u r)), .agg (matN c c (tabZ c (smF r c A0).v c)), eNo 0]) := by
  have cb := con_sBegun r c x A0 (by omega) (by omega) hA
  have hs0 := StI.start (K := K) h0 hb
  unfold smF
  generalize hS : smS r c (min r c) 0 ⟨A0, idS, idS⟩ = S
  have m1 := con_sMatrix (A := S.a) (show r ≤ 64 by omega) (show c ≤ 64 by omega)
  have m2 := con_sMatrix (A := S.u) (show r ≤ 64 by omega) (show r ≤ 64 by omega)
  have m3 := con_sMatrix (A := S.v) (show c ≤ 64 by omega) (show c ≤ 64 by omega)
  refine PureOK.fnF Tryz.func28 Tryz.results28 Tryz.ntmps28 rfl rfl rfl (by simp [AV.ids, AV0.ids, Atom.ids]) rfl (fun w0 T B E0 hB => ?_)
  refine SX.goB ?_
  refine callNewA (b := 81) cb rfl rfl rfl rfl ?_
  refine SX.goB ?_
  refine W.loop2 (fun (t : Nat) (s : SW) => t ≤ min r c ∧ (∃ D, StI r c K t D A0 s) ∧ smS r c (min r c - t) t s = S) (fun t s => [(1, .ptr 1 0), (2, .ptr 2 0), (3, .ptr 3 0), (4, .ptr 4 0), (6, .ptr 81 0), (7, .v (.int .i64 (t : Int)))]) (fun t s => [(1, .box 24 (matR r c x)), (2, .box 24 [.c (.val (.int .i64 0)), .c (.val (.int .i64 0)), .c (.val (.slice none 0 0))]), (3, .box 24 [.c (.val (.int .i64 0)), .c (.val (.int .i64 0)), .c (.val (.slice none 0 0))]), (4, .box 24 [.c (.val (.int .i64 0)), .c (.val (.int .i64 0)), .c (.val (.slice none 0 0))]), (81, .abs (swE r c s))]) (fun t s => min r c - t) 0 ⟨A0, idS, idS⟩ ⟨Nat.zero_le _, ⟨_, hs0⟩, hS⟩ (fun t s ⟨ht, ⟨D, hD⟩, hs⟩ => ?_)
    (by
      refine SX.St.le_to [] (by intro b h; cases h) ?_ ?_ rfl
      · repeat (first | exact trivial | refine ⟨⟨_, rfl, SX.AVto.same rfl⟩, ?_⟩)
      · exact ⟨SX.EntTo.same rfl rfl, SX.EntTo.same rfl rfl, SX.EntTo.same rfl rfl, SX.EntTo.same rfl rfl, SX.EntTo.same rfl rfl, trivial⟩)
  by_cases h : t < min r c
  · have h1 : t < r := by omega
    have h2 : t < c := by omega
    obtain ⟨⟨b, s'⟩, hp, ha⟩ := hD.aft h1 h2 hr hc hK
    have cP := con_sStep hD h1 h2 hr hc hK hp
    obtain ⟨n, hn⟩ : ∃ n, min r c - t = n + 1 := ⟨min r c - t - 1, by omega⟩
    rw [hn] at hs
    cases b with
    | true =>
      obtain ⟨D', hD'⟩ := hD.next h1 h2 hr hc hK ha
      have e : smS r c (n + 1) t s = smS r c n (t + 1) s' := by
        conv => lhs; unfold smS
        rw [hp]
      rw [e] at hs
      have cP : CallOK Tryz.prog 46 [.ptr 81 0, .v (.int .i64 (t : Int))] [(81, .abs (swE r c s))] ⟨.v (.bool true), [(81, .ent (.abs (swE r c s')))]⟩ := cP
      refine SX.goB ?_
      exact W.next2 (t + 1) s' ⟨h, ⟨D', hD'⟩, by rw [show min r c - (t + 1) = n by omega]; exact hs⟩ (by omega)
    | false =>
      have e : smS r c (n + 1) t s = s' := by
        conv => lhs; unfold smS
        rw [hp]
      rw [e] at hs
      subst hs
      obtain ⟨b, hb'⟩ : ∃ b : Bool, Hide (b = false) := ⟨_, ⟨rfl⟩⟩
      have cP : CallOK Tryz.prog 46 [.ptr 81 0, .v (.int .i64 (t : Int))] [(81, .abs (swE r c s))] ⟨.v (.bool b), [(81, .ent (.abs (swE r c s')))]⟩ := by rw [hb'.out]; exact cP
      refine SX.goB ?_
      have hb' := hb'.out
      subst hb'
      refine SX.WP.freezeA 81 _ hB rfl ws_frz ?_
      refine SX.goB ?_
      exact retP (xs := [.agg _, .agg _, .agg _, eNo 0]) ⟨ResOK.agg3 rfl rfl rfl, ResOK.agg3 rfl rfl rfl, ResOK.agg3 rfl rfl rfl, ResOK.tmp rfl, trivial⟩ trivial
  · have ht' : t = min r c := by omega
    rw [ht', Nat.sub_self] at hs
    have e : smS r c 0 (min r c) s = s := by unfold smS; rfl
    rw [e] at hs
    subst hs
    refine SX.WP.freezeA 81 _ hB rfl ws_frz ?_
    refine SX.goB ?_
    exact retP (xs := [.agg _, .agg _, .agg _, eNo 0]) ⟨ResOK.agg3 rfl rfl rfl, ResOK.agg3 rfl rfl rfl, ResOK.agg3 rfl rfl rfl, ResOK.tmp rfl, trivial⟩ trivial
end Go.Proofs.YtmfadfkjnfdngaaGreatDoor
set_option linter.unusedVariables false
set_option linter.unusedSimpArgs false
namespace Go.Proofs.YtmfadfkjnfdngaaGreatDoor
open Go.RowKit QM SX SNW
def fcL (A : Nat → Nat → Int) : Nat → List Int
  | 0 => []
  | i + 1 => if A i i = 0 then fcL A i else fcL A i ++ [A i i]
theorem fcL_len {A : Nat → Nat → Int} : ∀ n, (fcL A n).length ≤ n
  | 0 => Nat.le_refl _
  | n + 1 => by
    unfold fcL
    split
    · have := fcL_len (A := A) n; omega
    · have := fcL_len (A := A) n; rw [List.length_append]; simp; omega
theorem Fin.all {r c K : Nat} {A : Mx} (h : Fin r c K A) (i j : Nat) : (A i j).natAbs < WB ^ K := by
  by_cases e : i = j
  · subst e; exact h.bd i
  · rw [h.off i j e]; exact Nat.pow_pos WB_pos
attribute [local irreducible] IntKind.wrap Go1 Reg WP thenK inBlk retQ retF RetF RetOK ResOK CallOK OpOK Sat
attribute [local irreducible] isign smS fcL
theorem con_Factors {r c K : Nat} {x : Rep} {A0 : Nat → Nat → Int} (hr : r ≤ 3) (hc : c ≤ 4) (hK : K = 17978) (hF : PureOK Tryz.prog 27 [.agg (matR r c x)] (.v (.bool true)))
    (hA : ∀ i k, i < r → k < c → PureOK Tryz.prog 35 [.agg (matR r c x), .v (.int .i64 (i : Int)), .v (.int .i64 (k : Int))] (.agg (zN (A0 i k)))) (h0 : ∀ i j, r ≤ i ∨ c ≤ j → A0 i j = 0) (hb : ∀ i j, (A0 i j).natAbs < 2 ^ 64) :
    PureOK Tryz.prog 16 [.agg (matR r c x)] (.tup [.one (.c (.sat (rowR 2 zC (fcL (smF r c A0).a (min r c))))), eNo 0]) := by
  have cS := con_Smith hr hc hK hF hA h0 hb
  have hfin := (StI.fin hr hc hK (min r c) 0 _ _ (StI.start (K := K) h0 hb) (by omega)).1
  unfold smF at *
  generalize smS r c (min r c) 0 ⟨A0, idS, idS⟩ = S at *
  have hD := hfin.all
  refine PureOK.fnF Tryz.func16 Tryz.results16 Tryz.ntmps16 rfl rfl rfl (by simp [AV.ids, AV0.ids, Atom.ids]) rfl (fun w0 T B E0 hB => ?_)
  refine SX.goB ?_
  refine W.loop (fun i => i ≤ min r c) (fun i => [(4, .ptr 4 0), (7, .it (eNo 0)), (8, .own 100), (25, .v (.int .i64 ((min r c : Nat) : Int))), (26, .v (.int .i64 (i : Int)))]) (fun i => [(4, .box 24 (matN r c (tabZ c S.a r))), (100, .row 30 2 (fcL S.a i).length ((fcL S.a i).flatMap zC))]) (fun i => min r c - i) 0 (Nat.zero_le _) (fun i hi => ?_)
    (by
      have e : fcL S.a 0 = [] := by unfold fcL; rfl
      refine SX.St.le_to [(100, none)] (by intro b h; cases h) ?_ ?_ rfl
      · repeat (first | exact trivial | refine ⟨⟨_, rfl, SX.AVto.same rfl⟩, ?_⟩ | refine ⟨⟨_, rfl, SX.AVto.nil rfl⟩, ?_⟩ | refine ⟨⟨_, rfl, SX.AVto.int (by omega)⟩, ?_⟩)
      · exact ⟨SX.EntTo.same rfl rfl, by rw [e]; exact SX.EntTo.nilRow rfl, trivial⟩)
  by_cases h : i < min r c
  · have cA := con_mxAt (r := r) (c := c) (A := S.a) (i := i) (k := i) (by omega) (by omega) (fun i k _ _ => hD i k) (by omega) (by omega) (show K ≤ 1000000 by omega)
    haveI iD : Bd (S.a i i) K := ⟨hD i i⟩
    have hl := fcL_len (A := S.a) i
    by_cases hz : S.a i i = 0
    · have hs : isign (S.a i i) = 0 := isign_ne.2 hz
      have e : fcL S.a (i + 1) = fcL S.a i := by
        conv => lhs; unfold fcL
        rw [if_pos hz]
      refine SX.goB ?_
      refine W.next (i + 1) h (by omega) (by
        refine SX.St.le_to [] (by intro b h; cases h) ?_ ?_ rfl
        · repeat (first | exact trivial | refine ⟨⟨_, rfl, SX.AVto.same rfl⟩, ?_⟩ | refine ⟨⟨_, rfl, SX.AVto.int (by omega)⟩, ?_⟩)
        · exact ⟨SX.EntTo.same rfl rfl, by rw [e]; exact SX.EntTo.same rfl rfl, trivial⟩)
    · have hs : isign (S.a i i) ≠ 0 := fun e => hz (isign_ne.1 e)
      have e : fcL S.a (i + 1) = fcL S.a i ++ [S.a i i] := by
        conv => lhs; unfold fcL
        rw [if_neg hz]
      refine SX.goB ?_
      refine W.next (i + 1) h (by omega) (by
        refine SX.St.le_to [(100, some 39)] (by intro b h; cases h) ?_ ?_ rfl
        · repeat (first | exact trivial | refine ⟨⟨_, rfl, SX.AVto.same rfl⟩, ?_⟩ | refine ⟨⟨_, rfl, SX.AVto.own rfl⟩, ?_⟩ | refine ⟨⟨_, rfl, SX.AVto.int (by omega)⟩, ?_⟩)
        · exact ⟨SX.EntTo.same rfl rfl, SX.EntTo.row rfl rfl (by rw [e, List.length_append]; rfl) (by rw [e, List.flatMap_append]; rfl), trivial⟩)
  · obtain rfl : i = min r c := by omega
    refine SX.goB ?_
    refine RetF.frz 100 ?_
    exact .ok (RetOK.mk2 (ResOK.tmp rfl) (ResOK.tmp rfl))
end Go.Proofs.YtmfadfkjnfdngaaGreatDoor
set_option linter.unusedVariables false
set_option linter.unusedSimpArgs false
namespace Go.Proofs.YtmfadfkjnfdngaaGreatDoor
open Go.RowKit QM SX
def tabG {α : Type} (c : Nat) (f : Nat → Nat → α) (i : Nat) : List α := (List.range i).flatMap fun i => (List.range c).map (f i)
def rowG {α : Type} (f : Nat → Nat → α) (i k : Nat) : List α := (List.range k).map (f i)
section
variable {α : Type} {c : Nat} {f : Nat → Nat → α}
end
def skp (k y : Nat) : Nat := if y < k then y else y + 1
def cnS (k j : Nat) : Nat := if j ≤ k then j else j - 1
def dsF (h : Nat → Int) : Nat → Int
  | 0 => 0
  | k + 1 => dsF h k + (if k % 2 = 1 then -(h k) else h k)
def dtF : Nat → (Nat → Nat → Int) → Int
  | 0, _ => 1
  | n + 1, g => dsF (fun k => g 0 k * dtF n (fun x y => g (x + 1) (skp k y))) (n + 1)
def bdD (K : Nat) : Nat → Nat
  | 0 => 1
  | n + 1 => K + bdD K n + (n + 1)
abbrev matG (n m : Nat) (f : Nat → Nat → Z2) : List Atom := matY n m (tabG m f n)
attribute [local irreducible] IntKind.wrap Go1 Reg WP thenK inBlk retQ retF RetF RetOK ResOK CallOK OpOK Sat
attribute [local irreducible] dtF dsF tabG rowG
theorem con_r11At {r c i k : Nat} {l : List Z2} {q : Z2} (hq : l[i * c + k]? = some q) (hi : i ≤ 1000) (hc : c ≤ 1000) (hk : k ≤ 1000) :
    PureOK Tryz.prog 43 [.agg (matY r c l), .v (.int .i64 (i : Int)), .v (.int .i64 (k : Int))] (.agg (z2A q)) := by
  have hb := Nat.mul_le_mul hi hc
  have hlt := at_lt hq
  refine PureOK.fnF Tryz.func43 Tryz.results43 Tryz.ntmps43 rfl rfl rfl (by simp [AV.ids, AV0.ids, Atom.ids]) rfl (fun w0 T B E0 hB => ?_)
  refine SX.goF ?_
  exact retA (ResOK.agg2 rfl rfl rfl) rfl
end Go.Proofs.YtmfadfkjnfdngaaGreatDoor
set_option linter.unusedVariables false
set_option linter.unusedSimpArgs false
namespace Go.Proofs.YtmfadfkjnfdngaaGreatDoor
open Go.RowKit QM SX
def pnC (n : Nat) : List CA := [.val (.int .i64 (n : Int))]
def zG (zs : Nat → Nat → Int) (x y : Nat) : Int := zs x y
attribute [local irreducible] IntKind.wrap Go1 Reg WP thenK inBlk retQ retF RetF RetOK ResOK CallOK OpOK Sat
attribute [local irreducible] tabG rowG isign
structure GV (n m : Nat) (f : Nat → Nat → Z2) (g : Nat → Nat → Int) (K : Nat) : Prop where
  z : ∀ x y, x < n → y < m → ZQ (f x y) (g x y) K
end Go.Proofs.YtmfadfkjnfdngaaGreatDoor
set_option linter.unusedVariables false
set_option linter.unusedSimpArgs false
namespace Go.Proofs.YtmfadfkjnfdngaaGreatDoor
open Go.RowKit QM SX
def chs : Nat → Nat → List (List Nat)
  | _, 0 => [[]]
  | 0, _ + 1 => []
  | m + 1, n + 1 => chs m (n + 1) ++ (chs m n).map (· ++ [m])
def lnC (l : List Nat) : List CA := [.sat (rowR 1 pnC l)]
abbrev RowsI (js : List Nat) (c : List (List Nat)) : AEnt := rowsE 114 3 1 pnC js c
abbrev RowsN (L : List (List Nat)) : AEnt := RowsI (List.range L.length) L
attribute [local irreducible] IntKind.wrap Go1 Reg WP thenK inBlk retQ retF RetF RetOK ResOK CallOK OpOK Sat
attribute [local irreducible] tabG rowG isign chs
end Go.Proofs.YtmfadfkjnfdngaaGreatDoor
set_option linter.unusedVariables false
set_option linter.unusedSimpArgs false
namespace Go.Proofs.YtmfadfkjnfdngaaGreatDoor
open Go.RowKit QM SX
def mnD (A : Nat → Nat → Int) (k : Nat) (R C : List Nat) : Int := dtF k (fun x y => A (R.getD x 0) (C.getD y 0))
def gcL (A : Nat → Nat → Int) (k : Nat) (R : List Nat) (Cs : List (List Nat)) (o : Int) : Int := Cs.foldl (fun o C => ((Int.gcd o (mnD A k R C) : Nat) : Int)) o
def gcM (A : Nat → Nat → Int) (k : Nat) (Rs Cs : List (List Nat)) : Int := Rs.foldl (fun o R => gcL A k R Cs o) 0
attribute [local irreducible] IntKind.wrap Go1 Reg WP thenK inBlk retQ retF RetF RetOK ResOK CallOK OpOK Sat
attribute [local irreducible] tabG rowG isign chs mnD gcL dtF
end Go.Proofs.YtmfadfkjnfdngaaGreatDoor
set_option linter.unusedVariables false
set_option linter.unusedSimpArgs false
namespace Go.Proofs.YtmfadfkjnfdngaaGreatDoor
open QM SNW
section
variable {r c : Nat} {Z A : Nat → Nat → Int} {e : Int}
section
variable (hr : r ≤ 4) (hc : c ≤ 4) (hZ : ∀ i j, i < r → j < c → A i j = Z i j) (h0 : ∀ i j, r ≤ i ∨ c ≤ j → A i j = 0)
include hr hc hZ h0
end
end
def prP (D : Nat → Nat → Int) : Nat → Int
  | 0 => 1
  | k + 1 => prP D k * D k k
end Go.Proofs.YtmfadfkjnfdngaaGreatDoor
set_option linter.unusedVariables false
set_option linter.unusedSimpArgs false
namespace Go.Proofs.YtmfadfkjnfdngaaGreatDoor
open Go.RowKit QM SX SNW
open Go.ChangeShapes Go.WideShapes Go.ChangeAt Go.Joins
section
variable {H : Type} {enc : TypeId × Value → H} {W : World} {base : Nat} {sp : Nat → Bool} {hd : Bool}
theorem sm_of {l : List Nat} : ∀ {cs : List Value}, All2 (CA.has none' W) [.sat (rawN l)] cs → Sm WB l
  | [v], h => (rawN_iff.1 h.1).1
theorem decNatS (n : Nat) : DecF enc Tryz.prog W base sp hd n 28 (fun l : List Nat => [.sat (rawN l)]) (fun l => Sm WB l) :=
  fun cs x hx => let ⟨l, _, h2⟩ := decNat n cs x hx; ⟨l, sm_of h2, h2⟩
theorem decZS (n : Nat) : DecF enc Tryz.prog W base sp hd n 30 (fun p : Bool × List Nat => [.val (.bool p.1), .sat (rawN p.2)]) (fun p => Sm WB p.2) :=
  DecF.all (fun n => DecF.conv (dec_struct2 Tryz.underlying30 rfl (by kernel_rfl) (by kernel_rfl) (dec_bool Tryz.underlying4) (decNatS n)) id (fun _ h => h.2) (fun _ => rfl)) n
end
abbrev RawZ := Bool × List Nat
abbrev rz (x : RawZ) : Z2 := (x.1, rawN x.2)
def rzv (x : RawZ) : Int := sgn x.1 (nval WB x.2)
def rzC (p : RawZ) : List CA := z2C (rz p)
instance : EncLen rzC 2 := ⟨fun _ => rfl⟩
abbrev RawW := Int × Int × List RawZ
section
variable {H : Type} {enc : TypeId × Value → H} {W : World} {base : Nat} {sp : Nat → Bool} {hd : Bool}
theorem rz_row (l : List RawZ) : rowR 2 rzC l = rowR 2 z2C (l.map rz) := by
  show sliceR 2 l.length (l.flatMap rzC) = sliceR 2 (l.map rz).length ((l.map rz).flatMap z2C)
  rw [List.length_map, List.flatMap_map]; rfl
theorem decZsS (n : Nat) : DecF enc Tryz.prog W base sp hd n 22 (fun l : List RawZ => [.sat (rowR 2 rzC l)]) (fun l => l.length ≤ maxLen ∧ ∀ a ∈ l, Sm WB a.2) :=
  DecF.all (fun n => dec_slice (enc' := rzC) Tryz.underlying22 (by kernel_rfl) (DecF.conv (decZS n) id (fun _ h => h) (fun _ => rfl))) n
theorem decZMat (n : Nat) : DecF enc Tryz.prog W base sp hd n 24 (fun p : RawW => [.val (.int .i64 p.1), .val (.int .i64 p.2.1), .sat (rowR 2 z2C (p.2.2.map rz))]) (fun p => ∀ a ∈ p.2.2, Sm WB a.2) :=
  DecF.all (fun n => DecF.conv (dec_struct3 Tryz.underlying24 rfl (by kernel_rfl) (by kernel_rfl) (by kernel_rfl) (dec_int Tryz.underlying3) (dec_int Tryz.underlying3) (decZsS n)) id (fun p h => h.2.2.2) (fun p => by
    show [CA.val (.int .i64 p.1), CA.val (.int .i64 p.2.1), CA.sat (rowR 2 z2C (p.2.2.map rz))] = [CA.val (.int .i64 p.1), CA.val (.int .i64 p.2.1), CA.sat (rowR 2 rzC p.2.2)]
    rw [rz_row])) n
end
attribute [local irreducible] IntKind.wrap Go1 Reg WP thenK inBlk retQ retF RetF RetOK ResOK CallOK OpOK Sat
theorem MZ.raw {l : List RawZ} {K : Nat} (hs : ∀ a ∈ l, Sm WB a.2) (hl : ∀ a ∈ l, a.2.length ≤ K) : MZ (l.map rz) (l.map rzv) K := by
  refine ⟨by rw [List.length_map, List.length_map], fun i q z hq hz => ?_⟩
  rw [List.getElem?_map] at hq hz
  cases hx : l[i]? with
  | none => rw [hx] at hq; cases hq
  | some x =>
    rw [hx] at hq hz
    cases hq; cases hz
    exact ZQ.raw (hs x (List.mem_of_getElem? hx)) (hl x (List.mem_of_getElem? hx))
theorem con_r11Formed (r c : Int) {n : Nat} {cells : List CA} (goal : Bool) (hg : goal = true ↔ FormedP r c n) : PureOK Tryz.prog 8 [.agg [.c (.val (.int .i64 r)), .c (.val (.int .i64 c)), .c (.sat (sliceR 2 n cells))]] (.v (.bool goal)) := by
  refine PureOK.fnF Tryz.func8 Tryz.results8 Tryz.ntmps8 rfl rfl rfl (by simp [AV.ids, AV0.ids, Atom.ids]) rfl (fun w0 T B E0 hB => ?_)
  by_cases h1 : r ≥ 0
  · by_cases h2 : r ≤ 64
    · by_cases h3 : c ≥ 0
      · by_cases h4 : c ≤ 64
        · have hp : 0 ≤ r * c := Int.mul_nonneg h1 h3
          have hp2 : r * c ≤ 64 * 64 := Int.mul_le_mul h2 h4 h3 (by decide)
          refine SX.goF ?_
          refine retB ?_
          rw [Bool.eq_iff_iff, hg, decide_eq_true_iff]
          exact ⟨fun h => ⟨h1, h2, h3, h4, h⟩, fun h => h.2.2.2.2⟩
        · refine SX.goF ?_
          refine retB ?_; exact (Bool.eq_false_iff.2 fun ht => h4 (hg.1 ht).2.2.2.1).symm
      · refine SX.goF ?_
        refine retB ?_; exact (Bool.eq_false_iff.2 fun ht => h3 (hg.1 ht).2.2.1).symm
    · refine SX.goF ?_
      refine retB ?_; exact (Bool.eq_false_iff.2 fun ht => h2 (hg.1 ht).2.1).symm
  · refine SX.goF ?_
    refine retB ?_; exact (Bool.eq_false_iff.2 fun ht => h1 (hg.1 ht).1).symm
def FewZ (r c : Int) (l : List RawZ) (s w : Int) : Prop := ((∀ k x, k < 100 → l[k]? = some x → (x.2.length : Int) ≤ w) ∧ l.length ≤ 100) ∧ r ≤ s ∧ c ≤ s
theorem con_r10Few (l : List RawZ) (w : Int) (goal : Bool) (hg : goal = true ↔ (∀ k x, k < 100 → l[k]? = some x → (x.2.length : Int) ≤ w) ∧ l.length ≤ 100) :
    PureOK Tryz.prog 15 [.r (rowR 2 z2C (l.map rz)), .v (.int .i64 100), .v (.int .i64 w)] (.v (.bool goal)) := by
  have hlen : (l.map rz).length = l.length := List.length_map _
  refine PureOK.fnF Tryz.func15 Tryz.results15 Tryz.ntmps15 rfl rfl rfl (by simp [AV.ids, AV0.ids, Atom.ids]) rfl (fun w0 T B E0 hB => ?_)
  refine SX.goF ?_
  refine W.loop (fun k => k ≤ l.length ∧ k ≤ 100 ∧ ∀ j x, j < k → l[j]? = some x → (x.2.length : Int) ≤ w) (fun k => [(0, .r (rowR 2 z2C (l.map rz))), (1, .v (.int .i64 100)), (2, .v (.int .i64 w)), (7, .v (.int .i64 (k : Int)))]) (fun _ => []) (fun k => l.length - k) 0 ⟨Nat.zero_le _, Nat.zero_le _, fun j x h => absurd h (Nat.not_lt_zero _)⟩ (fun k ⟨hk, hk2, he⟩ => ?_)
  by_cases h : k < l.length
  · have h' : k < (l.map rz).length := by omega
    by_cases h2 : k < 100
    · obtain ⟨x, hx⟩ : ∃ x, l[k]? = some x := ⟨_, List.getElem?_eq_getElem h⟩
      have hq : (l.map rz)[k]? = some (rz x) := by rw [List.getElem?_map, hx]; rfl
      by_cases h3 : (x.2.length : Int) ≤ w
      · refine SX.goF ?_
        refine W.next (k + 1) ⟨h, h2, fun j b hj hb => ?_⟩ (by omega)
        by_cases hjk : j < k
        · exact he j b hjk hb
        · obtain rfl : j = k := by omega
          rw [hx] at hb; rw [← Option.some.inj hb]; exact h3
      · refine SX.goF ?_
        refine retB ?_
        exact (Bool.eq_false_iff.2 fun ht => h3 ((hg.1 ht).1 k x h2 hx)).symm
    · obtain rfl : k = 100 := by omega
      refine SX.goF ?_
      refine retB ?_
      rw [Bool.eq_iff_iff, hg, decide_eq_true_iff]
      exact ⟨fun h => by omega, fun h => by have := h.2; omega⟩
  · obtain rfl : k = l.length := by omega
    have h' : ¬ l.length < (l.map rz).length := by omega
    have all : ∀ k x, k < 100 → l[k]? = some x → (x.2.length : Int) ≤ w := fun j x hj hx => he j x (at_lt hx) hx
    refine SX.goF ?_
    refine retB ?_
    rw [Bool.eq_iff_iff, hg, decide_eq_true_iff]
    exact ⟨fun h => ⟨all, by omega⟩, fun h => by have := h.2; omega⟩
theorem con_r11Few (r c : Int) (l : List RawZ) (s w : Int) (goal : Bool) (hg : goal = true ↔ FewZ r c l s w) :
    PureOK Tryz.prog 5 [.agg (matW r c (l.map rz)), .v (.int .i64 s), .v (.int .i64 w)] (.v (.bool goal)) := by
  by_cases h1 : r ≤ s
  · by_cases h2 : c ≤ s
    · have cF := con_r10Few l w goal (hg.trans ⟨fun h => h.1, fun h => ⟨h, h1, h2⟩⟩)
      refine PureOK.fnF Tryz.func5 Tryz.results5 Tryz.ntmps5 rfl rfl rfl (by simp [AV.ids, AV0.ids, Atom.ids]) rfl (fun w0 T B E0 hB => ?_)
      refine SX.goF ?_
      exact retB rfl
    · refine PureOK.fnF Tryz.func5 Tryz.results5 Tryz.ntmps5 rfl rfl rfl (by simp [AV.ids, AV0.ids, Atom.ids]) rfl (fun w0 T B E0 hB => ?_)
      refine SX.goF ?_
      refine retB ?_; exact (Bool.eq_false_iff.2 fun ht => h2 (hg.1 ht).2.2).symm
  · refine PureOK.fnF Tryz.func5 Tryz.results5 Tryz.ntmps5 rfl rfl rfl (by simp [AV.ids, AV0.ids, Atom.ids]) rfl (fun w0 T B E0 hB => ?_)
    refine SX.goF ?_
    refine retB ?_; exact (Bool.eq_false_iff.2 fun ht => h1 (hg.1 ht).2.1).symm

def zO (r c : Nat) (Z : Nat → Nat → Int) (i j : Nat) : Int := if i < r ∧ j < c then Z i j else 0
theorem zO_in {r c : Nat} {Z : Nat → Nat → Int} (i j : Nat) (hi : i < r) (hj : j < c) : zO r c Z i j = Z i j := if_pos ⟨hi, hj⟩
theorem zO_out {r c : Nat} {Z : Nat → Nat → Int} (i j : Nat) (h : r ≤ i ∨ c ≤ j) : zO r c Z i j = 0 := if_neg (by omega)
theorem zO_lt {r c : Nat} {Z : Nat → Nat → Int} (h : ∀ i j, i < r → j < c → (Z i j).natAbs < 2 ^ 64) (i j : Nat) : (zO r c Z i j).natAbs < 2 ^ 64 := by
  unfold zO
  split
  · rename_i hh; exact h i j hh.1 hh.2
  · decide
abbrev awZ : Nat → Nat → Int := zat [2, 0, 0, 3] 2
attribute [local irreducible] smS fcL prP gcM chs zO
end Go.Proofs.YtmfadfkjnfdngaaGreatDoor
set_option linter.unusedVariables false
set_option linter.unusedSimpArgs false
namespace Go.Proofs.YtmfadfkjnfdngaaGreatDoor
open Go.RowKit QM SX
attribute [local irreducible] qsub qmul qquo qcmp qadd
def qv (p q : Int) : Rat := (p : Rat) / (q : Rat)
structure Rd (X : Int × Int) (v : Rat) (K : Nat) : Prop where
  v : qv X.1 X.2 = v
  d : 0 < X.2
  g : Int.gcd X.1 X.2 = 1
  b1 : Bd X.1 K
  b2 : Bd X.2 K
class Ra (l : List Atom) (v : outParam Rat) (K : outParam Nat) : Prop where
  h : ∃ x0 x1 x2 x3 p q k m, l = [x0, x1, x2, x3] ∧ ZI [x0, x1] p k ∧ ZI [x2, x3] q m ∧ k ≤ K ∧ m ≤ K ∧ Bd p k ∧ Bd q m ∧ qv p q = v
section
variable {l l' : List Atom} {v v' : Rat} {K K' : Nat}
end
end Go.Proofs.YtmfadfkjnfdngaaGreatDoor
set_option linter.unusedVariables false
set_option linter.unusedSimpArgs false
namespace Go.Proofs.YtmfadfkjnfdngaaGreatDoor
open Go.RowKit QM SX
attribute [local irreducible] IntKind.wrap Go1 Reg WP thenK inBlk retQ retF RetF RetOK ResOK CallOK OpOK Sat
attribute [local irreducible] qsub qmul qquo qcmp qadd qv
instance Bd.zround (x y : Int) (k m : Nat) [hx : Bd x k] [hy : Bd y m] : Bd (zround x y) (k + k + 1 + m + 1 + 1 + 1) := ⟨by
  unfold Proofs.YtmfadfkjnfdngaaGreatDoor.zround
  split
  · exact (Bd.zfq (-x + -x + -y) (-y + -y) _).h
  · exact (Bd.zfq (x + x + y) (y + y) _).h⟩
attribute [local irreducible] zround zfq
end Go.Proofs.YtmfadfkjnfdngaaGreatDoor
set_option linter.unusedVariables false
set_option linter.unusedSimpArgs false
namespace Go.Proofs.YtmfadfkjnfdngaaGreatDoor
open Go.RowKit QM SX
theorem pow_ge (K : Nat) : 1 ≤ WB ^ K := Nat.pow_pos WB_pos
theorem two_lt (K : Nat) : 2 * WB ^ K ≤ WB ^ (K + 1) := by
  rw [Nat.pow_succ, Nat.mul_comm]; exact Nat.mul_le_mul_left _ (by rw [WB_eq]; decide)
theorem mul_lt_pow {a b K L : Nat} (h1 : a < WB ^ K) (h2 : b < WB ^ L) : a * b < WB ^ (K + L) := by
  rw [Nat.pow_add]
  have := Nat.mul_le_mul (show a ≤ WB ^ K - 1 by omega) (show b ≤ WB ^ L - 1 by omega)
  have p1 := pow_ge K
  have p2 := pow_ge L
  refine Nat.lt_of_le_of_lt this ?_
  have h3 : (WB ^ K - 1) * (WB ^ L - 1) ≤ (WB ^ K - 1) * WB ^ L := Nat.mul_le_mul_left _ (Nat.sub_le _ _)
  have h4 : (WB ^ K - 1) * WB ^ L < WB ^ K * WB ^ L := (Nat.mul_lt_mul_right (by omega)).2 (by omega)
  omega
attribute [local irreducible] IntKind.wrap Go1 Reg WP thenK inBlk retQ retF RetF RetOK ResOK CallOK OpOK Sat
abbrev ptrZ (r c : Nat) (l : List Z2) : AV := .r (ptrR [.val (.int .i64 (r : Int)), .val (.int .i64 (c : Int)), .sat (rowR 2 z2C l)])
def zat2 (l : List Z2) (c i k : Nat) : Z2 := l.getD (i * c + k) (z2v 0)
theorem zat2_at {l : List Z2} {r c i k : Nat} (hl : l.length = r * c) (hi : i < r) (hk : k < c) : l[i * c + k]? = some (zat2 l c i k) := by
  have h := idx_lt hi hk
  unfold zat2
  rw [List.getD_eq_getElem?_getD, List.getElem?_eq_getElem (by omega)]; rfl
theorem MZ.zat2 {r c i k K : Nat} {l : List Z2} {zs : List Int} (hM : MZ l zs K) (hl : l.length = r * c) (hi : i < r) (hk : k < c) : ZQ (zat2 l c i k) (zat zs c i k) K :=
  hM.z _ _ _ (zat2_at hl hi hk) (zat_at (by rw [← hM.len]; exact hl) hi hk)
theorem add_lt {a b : Int} {K : Nat} (h : a.natAbs < WB ^ K) (h' : b.natAbs < WB ^ K) : (a + b).natAbs < WB ^ (K + 1) := by
  have := two_lt K
  omega
theorem mul_ltZ {a b : Int} {K L : Nat} (h : a.natAbs < WB ^ K) (h' : b.natAbs < WB ^ L) : (a * b).natAbs < WB ^ (K + L) := by
  rw [Int.natAbs_mul]; exact mul_lt_pow h h'
def smZ : Nat → (Nat → Int) → Int
  | 0, _ => 0
  | n + 1, f => smZ n f + f n
theorem smZ_lt {f : Nat → Int} {K : Nat} : ∀ {n : Nat}, (∀ j, j < n → (f j).natAbs < WB ^ K) → (smZ n f).natAbs < WB ^ (K + n)
  | 0, _ => pow_ge _
  | n + 1, h => by
    have h1 := smZ_lt (n := n) fun j hj => h j (by omega)
    have h2 := Nat.lt_of_lt_of_le (h n (by omega)) (Nat.pow_le_pow_right (n := WB) WB_pos (show K ≤ K + n by omega))
    exact add_lt h1 h2
theorem AtomTo.nilNrm {ρ : List (Nat × Option Nat)} : AtomTo ρ (.c (.val (.slice none 0 0))) (.c (.sat (nrmN 0))) := fun E S w v hv => by
  rw [show v = .slice none 0 0 from hv]
  refine nrmN_iff.2 ⟨[], by unfold Nrm; simp, rfl, fun _ => rfl, ?_⟩
  exact rawN_iff.2 ⟨Sm.nil, nil_row (enc := fun x : Nat => [CA.val (.int .u64 (x : Int))])⟩
theorem con_zmM1 {r c d i k : Nat} {l l' : List Z2} {zs zs' : List Int} {K K' : Nat} (hM : MZ l zs K) (hl : l.length = r * c) (hM' : MZ l' zs' K') (hl' : l'.length = c * d) (hi : i < r) (hk : k < d) (hr : r ≤ 100) (hc : c ≤ 100) (hd : d ≤ 100) (hKB : K + K' ≤ 100000) :
    PureOK Tryz.prog 82 [.v (.int .i64 (i : Int)), .v (.int .i64 (k : Int)), ptrZ r c l, ptrZ c d l'] (.agg (z2A (z2v (smZ c (fun j => zat zs c i j * zat zs' d j k))))) := by
  have hsm : ∀ j, j ≤ c → (smZ j (fun j => zat zs c i j * zat zs' d j k)).natAbs < WB ^ (K + K' + j) := fun j hj => smZ_lt fun j hj => mul_ltZ (hM.zat2 hl hi (by omega)).b (hM'.zat2 hl' (by omega) hk).b
  refine PureOK.fnF Tryz.func82 Tryz.results82 Tryz.ntmps82 rfl rfl rfl (by simp [AV.ids, AV0.ids, Atom.ids]) rfl (fun w0 T B E0 hB => ?_)
  refine SX.goF ?_
  refine W.loop (fun j => j ≤ c) (fun j => [(0, .v (.int .i64 (i : Int))), (1, .v (.int .i64 (k : Int))), (2, ptrZ r c l), (3, ptrZ c d l'), (6, .ptr 6 0), (7, .ptr 7 0), (10, .v (.int .i64 (c : Int))), (11, .v (.int .i64 (j : Int)))]) (fun j => [(6, .box 30 [.c (.val (.bool false)), .c (.val (.slice none 0 0))]), (7, .box 30 (zN (smZ j (fun j => zat zs c i j * zat zs' d j k))))]) (fun j => c - j) 0 (Nat.zero_le _) (fun j hj => ?_)
    (by
      refine SX.St.le_to [] (by intro b h; cases h) ?_ ?_ rfl
      · repeat (first | exact trivial | refine ⟨⟨_, rfl, SX.AVto.same rfl⟩, ?_⟩)
      · exact ⟨SX.EntTo.same rfl rfl, SX.EntTo.boxTo rfl rfl ⟨AtomTo.same rfl, AtomTo.nilNrm, trivial⟩, trivial⟩)
  by_cases hj2 : j < c
  · obtain ⟨q, hq, ra⟩ := hM.at hl hi hj2
    obtain ⟨q', hq', ra'⟩ := hM'.at hl' hj2 hk
    have cA := con_zget (r := r) hq (by omega) (by omega) (by omega)
    have cA' := con_zget (r := c) hq' (by omega) (by omega) (by omega)
    have rs := (ZQ.made (hsm j hj)).zi
    have rp := (ZQ.made (mul_ltZ ra.b ra'.b)).zi
    have cM := (con_zMul (h := ra.zi) (h' := ra'.zi)).h (by omega)
    have cD := (con_zAdd (h := rs) (h' := rp)).h (by omega)
    refine SX.goF ?_
    refine W.next (j + 1) hj2 (by omega) (by
      refine SX.St.le_to [] (by intro b h; cases h) ?_ ?_ rfl
      · repeat (first | exact trivial | refine ⟨⟨_, rfl, SX.AVto.same rfl⟩, ?_⟩)
      · exact ⟨SX.EntTo.same rfl rfl, SX.EntTo.same rfl rfl, trivial⟩)
  · obtain rfl : j = c := by omega
    refine SX.goF ?_
    exact retA (ResOK.agg2 rfl rfl rfl) rfl
theorem con_zmMul {r c d : Nat} {l l' : List Z2} {zs zs' : List Int} {K K' : Nat} (hM : MZ l zs K) (hl : l.length = r * c) (hM' : MZ l' zs' K') (hl' : l'.length = c * d) (hr : r ≤ 64) (hc : c ≤ 64) (hd : d ≤ 64) (hKB : K + K' ≤ 100000) :
    PureOK Tryz.prog 48 [.agg (matY r c l), .agg (matY c d l')] (.tup [.agg (matN r d (tabZ d (fun i k => smZ c (fun j => zat zs c i j * zat zs' d j k)) r)), eNo 0]) := by
  have cF := con_zF (cells := l.flatMap z2C) (FormedP.nat hr hc hl)
  have cF' := con_zF (cells := l'.flatMap z2C) (FormedP.nat hc hd hl')
  have cM := con_zmade r d (.sat (cloR 82 [] [.sat (ptrR [.val (.int .i64 (r : Int)), .val (.int .i64 (c : Int)), .sat (rowR 2 z2C l)]), .sat (ptrR [.val (.int .i64 (c : Int)), .val (.int .i64 (d : Int)), .sat (rowR 2 z2C l')])])) (fun i k => z2v (smZ c (fun j => zat zs c i j * zat zs' d j k))) (fun i k => smZ c (fun j => zat zs c i j * zat zs' d j k)) (K + K' + c) (by omega) (by omega) (by omega)
    (fun i k hi hk => FnV.clo (con_zmM1 hM hl hM' hl' hi hk (by omega) (by omega) (by omega) hKB))
    (fun i k hi hk => ZQ.made (smZ_lt fun j hj => mul_ltZ (hM.zat2 hl hi hj).b (hM'.zat2 hl' hj hk).b)) rfl
  refine PureOK.fnF Tryz.func48 Tryz.results48 Tryz.ntmps48 rfl rfl rfl (by simp [AV.ids, AV0.ids, Atom.ids]) rfl (fun w0 T B E0 hB => ?_)
  refine SX.goF ?_
  refine SX.WP.freezeB 2 hB rfl rfl ?_
  refine SX.WP.freezeB 3 hB rfl rfl ?_
  refine SX.WP.regionL ?_
  refine SX.goF ?_
  exact .ok (RetOK.mk2 (ResOK.agg3 rfl rfl rfl) (ResOK.tmp rfl))
end Go.Proofs.YtmfadfkjnfdngaaGreatDoor
set_option linter.unusedVariables false
set_option linter.unusedSimpArgs false
namespace SX
open Go Go.RowKit
section
variable {P : Program} {C : Ctx} {st : St} {ops rest : List Oper} {acc : List (List Nat × List Nat)} {K : List (List Nat × List Nat) → St → Prop} {dst : Option Tmp} {d : Tmp} {ty t t' : TypeId} {x y : Operand}
theorem G.load10 {b off : Nat} {T : TypeId} {cells : List Atom} {a1 a2 a3 a4 a5 a6 a7 a8 a9 a10 : Atom} [ht : TAgg P t 10] (next : Reg P C ops rest (st.app (some d) ⟨.agg [a1, a2, a3, a4, a5, a6, a7, a8, a9, a10], []⟩) (([b], []) :: acc) K) (hd : dstOK (some d) C.nt = true := by rfl) (hx : st.ev x = some (.ptr b off) := by rfl) (hb : st.hp b = .ent (.box T cells) := by rfl) (hr : (cells.drop off).take 10 = [a1, a2, a3, a4, a5, a6, a7, a8, a9, a10] := by rfl) : Go1 P C ops (some d) (.load t x) ty rest st acc K :=
  Go1.loadAgg hd hx hb (by have := congrArg List.length hr; simp at this; rw [Nat.ble_eq]; omega) hr next
theorem ResOK.agg6 {t : Tmp} {T T' : TypeId} {b off : Nat} {cells : List Atom} {a1 a2 a3 a4 a5 a6 : Atom} [ht : TAgg P T 6] (h : st.tm t = some (.ptr b off)) (hb : st.hp b = .ent (.box T' cells)) (hr : (cells.drop off).take 6 = [a1, a2, a3, a4, a5, a6]) : ResOK P st (.cell t T) (.agg [a1, a2, a3, a4, a5, a6]) :=
  ResOK.agg h hb (by have := congrArg List.length hr; simp at this; rw [Nat.ble_eq]; omega) hr
theorem run_neq_nil {P : Program} (w : World) (t e : TypeId) (ad : Addr) (n c n' c' : Nat) (h : P.underlying t = some (.slice e)) : (binOp .neq t (.slice (some ad) n c) (.slice none n' c')).run P w = .ok (.bool true) w := by
  simp only [binOp]
  simp [Op.equal, Op.maxDepth, Lib.run_equalIn_slice_nil w 9999 t e (some ad) n c n' c' h]
theorem G.neqNil {e : TypeId} {size : Nat} {r : Rep} [ht : TSlice P t e size] (next : Reg P C ops rest (st.app dst ⟨.v (.bool true), []⟩) (([], []) :: acc) K) (hd : dstOK dst C.nt = true := by rfl) (hx : st.ev x = some (.r (nnR r)) := by rfl) (hy : st.ev y = some (.v (.slice none 0 0)) := by rfl) : Go1 P C ops dst (.binOp .neq t x y t') ty rest st acc K :=
  Go1.pureV [] [] (by simp) hd (by simp) (fun o ho _ st' E S a w hev hs _ => by
    obtain ⟨⟨_, ad, n, c, hx1⟩, _⟩ := hs.ev ((hev x (by simp [ho, Op.operands])).trans hx)
    have hy1 := (hs.ev ((hev y (by simp [ho, Op.operands])).trans hy)).1
    have hy2 : a.eval y = .slice none 0 0 := hy1
    refine ⟨fun i hi => (by cases hi), .bool true, ?_, rfl⟩
    unfold execOp; rw [ho]
    have := run_neq_nil (P := P) w t e ad n c 0 0 ht.h
    simp [hx1, hy2, eqGuard, this]) next
theorem nn_imp {size n : Nat} {cells : List CA} (hn : 0 < n) {E : Env} {S : Nat → Prop} {w : World} {v : Value} (h : (AV0.one (.c (.sat (sliceR size n cells)))).has E S w v) : (AV0.one (.c (.sat (nnR (sliceR size n cells))))).has E S w v := by
  have h : (sliceR size n cells).has S w v := h
  obtain ⟨oa, cap, e, h2, h3, h4, h5⟩ := sliceR_iff.1 h
  cases oa with
  | none =>
    have h6 := h4 rfl
    omega
  | some ad => exact ⟨h, ad, _, _, e⟩
end
end SX
namespace Go.Proofs.YtmfadfkjnfdngaaGreatDoor
open Go.RowKit QM SX SNW
abbrev mat1 (z : Int) : List Atom := [.c (.val (.int .i64 1)), .c (.val (.int .i64 1)), .c (.sat (rowR 2 zC [z]))]
abbrev pA : List Atom := [.c (.val (.int .i64 1)), .c (.val (.int .i64 1)), .c (.sat (rowR 2 zC [2])), .c (.val (.int .i64 1)), .c (.val (.int .i64 1)), .c (.sat (rowR 2 zC [1])), .c (.val (.int .i64 1)), .c (.val (.int .i64 1)), .c (.sat (rowR 2 zC [1])), .c (.sat (rowR 2 zC [3]))]
theorem rmk12 : rmk 1 2 = (1, 2) := by decide +kernel
theorem rS12 : rS (rmk 1 2) = [49, 47, 50] := by decide +kernel
abbrev h12 : List CA := zC 1 ++ zC 2
def h12n : Nat → List CA
  | 0 => []
  | _ + 1 => h12
theorem b_of {z : Int} (h : z.natAbs < 100) : Bd z 1 := ⟨by rw [Nat.pow_one, WB_eq]; omega⟩
attribute [local irreducible] IntKind.wrap Go1 Reg WP thenK inBlk retQ retF RetF RetOK ResOK CallOK OpOK Sat
attribute [local irreducible] rS
instance zeroZ1 : AsZero [.bool false, .slice none 0 0] (zC 0) := ⟨fun S w => ⟨rfl, nrmN.zero, trivial⟩⟩
theorem con_at1 {z : Int} (h : z.natAbs < 100) : PureOK Tryz.prog 35 [.agg (mat1 z), .v (.int .i64 0), .v (.int .i64 0)] (.agg (zN z)) := by
  have := con_mxAt (r := 1) (c := 1) (i := 0) (k := 0) (K := 1) (A := fun _ _ => z) (by decide) (by decide) (fun _ _ _ _ => (b_of h).h) (by decide) (by decide) (by decide)
  exact this
theorem con_reason1 : PureOK Tryz.prog 51 [.agg pA, .v (.int .i64 0), .agg (zN 2)] (.r (nnR (sliceR 4 1 h12))) := by
  have cA := con_at1 (z := 1) (by decide)
  haveI b1 : Bd 1 1 := b_of (by decide)
  haveI b2 : Bd 2 1 := b_of (by decide)
  have cM : PureOK Tryz.prog 60 [.agg (zN 1), .agg (zN 2)] (.tup [.agg [.c (.val (.bool (decide ((1 : Int) < 0)))), .c (.sat (nrmN (1 : Int).natAbs)), .c (.val (.bool (decide ((2 : Int) < 0)))), .c (.sat (nrmN (2 : Int).natAbs))], .one (.c (.val (.bool true)))]) := by
    have := con_rMake (l := zN 1) (l' := zN 2) |>.h (by decide)
    rw [rmk12] at this
    exact this
  have cA : PureOK Tryz.prog 35 [.agg (mat1 1), .v (.int .i64 0), .v (.int .i64 ((0 : Nat) : Int))] (.agg (zN 1)) := cA
  refine PureOK.fnF Tryz.func51 Tryz.results51 Tryz.ntmps51 rfl rfl rfl (by simp [AV.ids, AV0.ids, Atom.ids]) rfl (fun w0 T B E0 hB => ?_)
  refine SX.goB ?_
  refine W.loop (fun (i : Nat) => i ≤ 1) (fun i => [(1, .v (.int .i64 0)), (3, .ptr 3 0), (5, .ptr 5 0), (7, .own 100), (13, .v (.int .i64 1)), (14, .v (.int .i64 (i : Int)))]) (fun i => [(3, .box 67 pA), (5, .box 30 (zN 2)), (100, .row 49 4 i (h12n i))]) (fun i => 1 - i) 0 (Nat.zero_le _) (fun i hi => ?_)
    (by
      refine SX.St.le_to [(100, none)] (by intro b h; cases h) ?_ ?_ rfl
      · repeat (first | exact trivial | refine ⟨⟨_, rfl, SX.AVto.same rfl⟩, ?_⟩ | refine ⟨⟨_, rfl, SX.AVto.nil rfl⟩, ?_⟩)
      · exact ⟨SX.EntTo.same rfl rfl, SX.EntTo.same rfl rfl, SX.EntTo.nilRow rfl, trivial⟩)
  by_cases h : i < 1
  · obtain rfl : i = 0 := by omega
    refine SX.goB ?_
    refine W.next 1 (Nat.le_refl _) (by decide) (by
      refine SX.St.le_to [(100, some 30)] (by intro b h; cases h) ?_ ?_ rfl
      · repeat (first | exact trivial | refine ⟨⟨_, rfl, SX.AVto.same rfl⟩, ?_⟩ | refine ⟨⟨_, rfl, SX.AVto.own rfl⟩, ?_⟩ | refine ⟨⟨_, rfl, SX.AVto.int (by omega)⟩, ?_⟩)
      · exact ⟨SX.EntTo.same rfl rfl, SX.EntTo.same rfl rfl, SX.EntTo.row rfl rfl rfl rfl, trivial⟩)
  · obtain rfl : i = 1 := by omega
    refine SX.goB ?_
    refine RetF.frz 100 ?_
    exact .ok (RetOK.mk1 (ResOK.imp (ResOK.tmp rfl) (fun E S w v h => nn_imp (by decide) h)))
theorem con_diag1 : PureOK Tryz.prog 50 [.agg pA, .v (.int .i64 ((0 : Nat) : Int))] (.agg (zN 2)) := by
  have cA : PureOK Tryz.prog 35 [.agg (mat1 2), .v (.int .i64 ((0 : Nat) : Int)), .v (.int .i64 ((0 : Nat) : Int))] (.agg (zN 2)) := con_at1 (by decide)
  refine PureOK.fnF Tryz.func50 Tryz.results50 Tryz.ntmps50 rfl rfl rfl (by simp [AV.ids, AV0.ids, Atom.ids]) rfl (fun w0 T B E0 hB => ?_)
  refine SX.goB ?_
  exact retA (ResOK.agg2 rfl rfl rfl) rfl
theorem con_solve1 : PureOK Tryz.prog 30 [.agg pA] (.tup [.one (.c (.val (.slice none 0 0))), .one (.c (.sat (nnR (sliceR 4 1 h12))))]) := by
  have cD := con_diag1
  have cR : PureOK Tryz.prog 51 [.agg pA, .v (.int .i64 ((0 : Nat) : Int)), .agg (zN 2)] (.r (nnR (sliceR 4 1 h12))) := con_reason1
  haveI b2 : Bd 2 1 := b_of (by decide)
  haveI b3 : Bd 3 1 := b_of (by decide)
  have h0 : ([3] : List Int)[0]? = some 3 := rfl
  have hl : ([3] : List Int).length = 1 := rfl
  have hs : isign 2 = 1 := by decide
  have hk : zexok 3 2 = false := by decide
  have hk' : (!zexok 3 2) = true := by decide
  refine PureOK.fnF Tryz.func30 Tryz.results30 Tryz.ntmps30 rfl rfl rfl (by simp [AV.ids, AV0.ids, Atom.ids]) rfl (fun w0 T B E0 hB => ?_)
  refine SX.goB ?_
  refine W.loop (fun (i : Nat) => i = 0) (fun i => [(1, .ptr 1 0), (15, .r (rowR 2 zC [3])), (16, .v (.int .i64 (([3] : List Int).length : Int))), (17, .v (.int .i64 (i : Int)))]) (fun i => [(1, .box 67 pA)]) (fun i => 0) 0 rfl (fun i hi => ?_)
    (by
      refine SX.St.le_to [] (by intro b h; cases h) ?_ ?_ rfl
      · repeat (first | exact trivial | refine ⟨⟨_, rfl, SX.AVto.same rfl⟩, ?_⟩ | refine ⟨⟨_, rfl, SX.AVto.int (by omega)⟩, ?_⟩)
      · exact ⟨SX.EntTo.same rfl rfl, trivial⟩)
  subst hi
  refine SX.goB ?_
  refine SX.G.load10 ?_
  refine SX.goB ?_
  refine SX.G.load10 ?_
  refine SX.goB ?_
  exact .ok (RetOK.mk2 (ResOK.tmp rfl) (ResOK.tmp rfl))
theorem con_col1 : PureOK Tryz.prog 49 [.r (rowR 2 zC [3])] (.agg (mat1 3)) := by
  have hl : ([3] : List Int).length = 1 := rfl
  refine PureOK.fnF Tryz.func49 Tryz.results49 Tryz.ntmps49 rfl rfl rfl (by simp [AV.ids, AV0.ids, Atom.ids]) rfl (fun w0 T B E0 hB => ?_)
  refine SX.goB ?_
  exact retA (ResOK.agg3 rfl rfl rfl) rfl
theorem con_times1 : PureOK Tryz.prog 29 [.agg (mat1 1), .r (rowR 2 zC [3])] (.r (rowR 2 zC [3])) := by
  have cC := con_col1
  have cM : PureOK Tryz.prog 48 [.agg (mat1 1), .agg (mat1 3)] (.tup [.agg (mat1 3), eNo 0]) := by
    have h := con_zmMul (r := 1) (c := 1) (d := 1) (l := [1].map z2v) (l' := [3].map z2v) (zs := [1]) (zs' := [3]) (K := 1) (K' := 1) (MZ.made (by intro z hz; rw [List.mem_singleton.1 hz]; exact (b_of (by decide)).h)) rfl (MZ.made (by intro z hz; rw [List.mem_singleton.1 hz]; exact (b_of (by decide)).h)) rfl (by decide) (by decide) (by decide) (by decide)
    rw [← matN_matY, ← matN_matY] at h
    exact h
  refine PureOK.fnF Tryz.func29 Tryz.results29 Tryz.ntmps29 rfl rfl rfl (by simp [AV.ids, AV0.ids, Atom.ids]) rfl (fun w0 T B E0 hB => ?_)
  refine SX.goB ?_
  exact ret1 rfl
abbrev sm1 : SW := smF 1 1 (zO 1 1 fun _ _ => 2)
theorem sm1_a : tabZ 1 sm1.a 1 = [2] := by decide +kernel
theorem sm1_u : tabZ 1 sm1.u 1 = [1] := by decide +kernel
theorem sm1_v : tabZ 1 sm1.v 1 = [1] := by decide +kernel
abbrev ansC : List Atom := [.c (.val (.bool false)), .c (.val (.slice none 0 0)), .c (.val (.int .i64 0)), .c (.val (.int .i64 0)), .c (.val (.slice none 0 0)), .c (.sat (nnR (sliceR 4 1 h12)))]
theorem con_Solve1 : PureOK Tryz.prog 13 [.agg (mat1 2), .r (rowR 2 zC [3])] (.tup [.agg ansC, eNo 0]) := by
  have cF : PureOK Tryz.prog 27 [.agg (mat1 2)] (.v (.bool true)) := con_zF (FormedP.nat (r := 1) (c := 1) (by decide) (by decide) rfl)
  have cS : PureOK Tryz.prog 28 [.agg (mat1 2)] (.tup [.agg (mat1 2), .agg (mat1 1), .agg (mat1 1), eNo 0]) := by
    have h := con_Smith (r := 1) (c := 1) (K := 17978) (x := rowR 2 zC [2]) (A0 := zO 1 1 fun _ _ => 2) (by decide) (by decide) rfl cF (fun i k hi hk => by
      obtain rfl : i = 0 := by omega
      obtain rfl : k = 0 := by omega
      exact con_at1 (by decide)) zO_out (zO_lt fun _ _ _ _ => by decide)
    rw [sm1_a, sm1_u, sm1_v] at h
    exact h
  have cT := con_times1
  have cV := con_solve1
  have hl : ([3] : List Int).length = 1 := rfl
  refine PureOK.fnF Tryz.func13 Tryz.results13 Tryz.ntmps13 rfl rfl rfl (by simp [AV.ids, AV0.ids, Atom.ids]) rfl (fun w0 T B E0 hB => ?_)
  refine SX.goB ?_
  refine SX.G.load10 ?_
  refine SX.goB ?_
  refine SX.G.neqNil ?_
  refine SX.goB ?_
  exact .ok (RetOK.mk2 (ResOK.agg6 rfl rfl rfl) (ResOK.tmp rfl))
end Go.Proofs.YtmfadfkjnfdngaaGreatDoor
set_option linter.unusedVariables false
set_option linter.unusedSimpArgs false
namespace Go.Proofs.YtmfadfkjnfdngaaGreatDoor
open Go.RowKit QM SX SNW
attribute [local irreducible] IntKind.wrap Go1 Reg WP thenK inBlk retQ retF RetF RetOK ResOK CallOK OpOK Sat
theorem con_awake18 : PureOK Tryz.prog 4 [] (.v (.bool true)) := by
  have cO : PureOK Tryz.prog 12 [.v (.int .i64 1), .v (.int .i64 1), .r (sliceR 1 1 [.val (.int .i64 2)])] (.tup [.agg (mat1 2), eNo 0]) := con_zmOf (r := 1) (c := 1) (l := [2]) rfl (by decide) (by decide) (by decide)
  have cS := con_Solve1
  have o3 : PureOK Tryz.prog 7 [.v (.int .i64 3)] (.agg (zN 3)) := con_zOf.h ⟨by decide, by decide⟩
  have cP : PureOK Tryz.prog 14 [.agg [.c (.val (.bool false)), .c (.sat (nrmN 1)), .c (.val (.bool false)), .c (.sat (nrmN 2))]] (.v (str [49, 47, 50])) := by
    haveI b2 : Bd 1 1 := b_of (by decide)
    haveI b4 : Bd 2 1 := b_of (by decide)
    have h := (con_rPrint (p := 1) (q := 2) (x0 := .c (.val (.bool (decide ((1 : Int) < 0))))) (x1 := .c (.sat (nrmN (1 : Int).natAbs))) (x2 := .c (.val (.bool (decide ((2 : Int) < 0))))) (x3 := .c (.sat (nrmN (2 : Int).natAbs)))).h (by decide)
    rw [rS12] at h
    exact h
  refine PureOK.fnF Tryz.func4 Tryz.results4 Tryz.ntmps4 rfl rfl rfl (by simp [AV.ids, AV0.ids, Atom.ids]) rfl (fun w0 T B E0 hB => ?_)
  refine SX.goB ?_
  exact retB rfl
end Go.Proofs.YtmfadfkjnfdngaaGreatDoor

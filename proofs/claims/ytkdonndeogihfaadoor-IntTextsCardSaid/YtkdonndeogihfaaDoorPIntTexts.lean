import Derived.Test.YtkdonndeogihfaaDoorGa
import Derived.Test.YtkdonndeogihfaaDoorRows
import Derived.Test.YtkdonndeogihfaaDoorCards
import Derived.Test.YtkdonndeogihfaaDoorTie
import Derived.Lib.LaidIn
import Derived.Lib.LaidU8
import Derived.Deep.DeepHandedRow
import Derived.Deep.DeepWitnessRowRef
import Derived.SizedLaws
import Derived.SevenTiedAt
import Derived.Test.YtkdonndeogihfaaDoorFr
import Derived.Test.YtkdonndeogihfaaDoorIn
/- The statement IntTexts: for every input the law returns true, and what came in reads as it did. -/
set_option linter.unusedVariables false
set_option linter.unusedSimpArgs false
namespace Go.Proofs.YtkdonndeogihfaaDoor.pIntTexts
open Go.ChangeShapes Go.WideShapes Go.ChangeAt Go.RowKit QM SX Go.Joins
open Go.ChangeMaps (open_string shut_string)
theorem own : ownKnob Tryd.prog.godebug = none := by kernel_rfl
theorem laidOut : laidOutB Tryd.prog = true := by kernel_rfl
theorem cellsZ : Tryd.prog.cellsOf 48 = 2 := by kernel_rfl
/-- The witness: the settled world, the two variables holding what the row lists. -/
noncomputable def laidWorld (os : Os) : World :=
  let w0 := World.holding Tryd.prog os ⟨#[], #[], []⟩
  let put (h : Array Obj) (g : Nat) (cs : Array Value) : Array Obj := h.modify g fun
    | .cells _ t frozen => .cells cs t frozen
    | o => o
  let h1 := put w0.heap 3 (Lib.firstTab.map fun z => Value.int .u8 z).toArray
  let h2 := put h1 4 ((List.range 16).flatMap fun i => [Value.int .u8 (Lib.accLo i), Value.int .u8 (Lib.accHi i)]).toArray
  { w0 with heap := h2 }
set_option maxRecDepth 100000 in
theorem laid_met (os : Os) (args : Array Value) : laidMet Tryd.prog Rows.intTextsRow.laid ((laidWorld os).forCall (fun _ _ => 0) ⟨#[], args, []⟩).memory :=
  (LaidIn.of_run (l := Rows.intTextsRow.laid) [4, 3] 8 (by kernel_rfl) (by kernel_rfl) (by kernel_rfl) (by kernel_rfl)).met
set_option maxRecDepth 100000 in
theorem witness_row (os : Os) {H : Type} (enc : TypeId × Value → H) :
    (OpenSpec.ofChange Rows.intTextsSpec).preRow enc Tryd.prog Tryd.f11 Rows.intTextsRow.domain false Rows.intTextsRow.laid ((laidWorld os).forCall (fun _ _ => 0) ⟨#[], #[.agg #[.bool false, .slice none 0 0], .string ByteArray.empty], []⟩).memory #[.agg #[.bool false, .slice none 0 0], .string ByteArray.empty] := by
  have hw : (DataW.whole enc Tryd.prog ((laidWorld os).forCall (fun _ _ => 0) ⟨#[], #[.agg #[.bool false, .slice none 0 0], .string ByteArray.empty], []⟩).memory Tryd.f11.params.toList (OpenSpec.ofChange Rows.intTextsSpec).vars false (#[.agg #[.bool false, .slice none 0 0], .string ByteArray.empty] : Array Value).toList 8).map (fun x => (x.1, x.2.1)) =
      some ([.agg [.lit (.bool false), .nil], .lit (.string [])], []) := by kernel_rfl
  obtain ⟨⟨x1, x2, x3⟩, hx, hx1⟩ := Option.map_eq_some_iff.1 hw
  simp only [Prod.mk.injEq] at hx1
  obtain ⟨rfl, rfl⟩ := hx1
  exact OpenSpec.preRow_of_cond 8 hx (by kernel_rfl) (fun k hk => by cases hk) (by kernel_rfl) (laid_met os _)
set_option maxRecDepth 100000 in
set_option maxHeartbeats 2000000 in
theorem lifted (os : Os) (started : os.Started) (H : Type) (enc : TypeId × Value → H) (F : Stop.Interp) :
    ReturnsInHanded {} Tryd.checked os 11 .any ((OpenSpec.ofChange Rows.intTextsSpec).preRow enc Tryd.prog Tryd.f11 Rows.intTextsRow.domain false Rows.intTextsRow.laid) (((OpenSpec.ofChange Rows.intTextsSpec).at F).post enc Tryd.prog Tryd.f11 false true false false) := by
  refine returnsInHanded_of_row (C := Tryd.checked) (s := OpenSpec.ofChange Rows.intTextsSpec) own started (by kernel_rfl) Tryd.func11
    (witness_row_atRef (enc := enc) (C := Tryd.checked) false (laidWorld os) #[.agg #[.bool false, .slice none 0 0], .string ByteArray.empty] rfl (by kernel_rfl) (by kernel_rfl) (by kernel_rfl) (witness_row os enc)) ?_
  intro W base args ds gs before hval0 hW _ _ _ hL _ _
  have hval : ∀ (j : Nat) t v, Tryd.f11.params[j]? = some t → args[j]? = some v → Value.okWide Tryd.prog W .any base t v := hval0
  have hW' := hW
  obtain ⟨p, q, hA0, hV, rfl, hfz, hnd⟩ := hW
  have hA : DataW.TrodAll enc Tryd.prog W 0 (fun _ => true) true Tryd.f11.params.toList args.toList ds p := hA0
  rw [Tryd.params11] at hA hval
  obtain ⟨v0, vs0, d0, ds0, p0, q0, hargs, rfl, rfl, h0, r0⟩ := trodAll_cons hA
  obtain ⟨v1, vs1, d1, ds1, p1, q1, rfl, rfl, rfl, h1, r1⟩ := trodAll_cons r0
  obtain ⟨rfl, rfl, rfl⟩ := trodAll_nil r1
  obtain rfl : args = #[v0, v1] := by cases args; simp_all
  obtain ⟨rfl, rfl⟩ := trodVars_none hV
  have k0 := h0
  have lt0 : ∀ x ∈ p0, x.block < W.heap.size := by obtain ⟨m, hm⟩ := k0; exact DataW.trod_lt m _ _ _ hm
  obtain ⟨b0, l0, x0, rfl, g0⟩ : ∃ b l x, v0 = .agg #[.bool b, x] ∧ (rawN l).has none' W x := by
    obtain ⟨c0, c1, y0, y1, m0, hv, _, _, hb, hs⟩ := open_agg2 Tryd.underlying48 (by kernel_rfl) cellsZ (hval 0 48 v0 rfl rfl) h0
    obtain ⟨b, hcb, _⟩ := DataW.trod_bool Tryd.underlying4 hb
    simp only [List.cons.injEq, and_true] at hcb
    subst hcb
    rcases open_ints Tryd.underlying23 Tryd.underlying41 (by kernel_rfl) hs with ⟨hcs, _⟩ | ⟨x, len, c, zs, hcs, _, hl, hm, hz, _, hcell, hwz⟩
    · simp only [List.cons.injEq, and_true] at hcs
      subst hcs
      exact ⟨b, [], _, hv, raw_nil W⟩
    · simp only [List.cons.injEq, and_true] at hcs
      subst hcs
      exact ⟨b, _, _, hv, raw_ints hl hm (by rw [hz]; split <;> omega) hcell hwz⟩
  have k1 := h1
  have lt1 : ∀ x ∈ p1, x.block < W.heap.size := by obtain ⟨m, hm⟩ := k1; exact DataW.trod_lt m _ _ _ hm
  obtain ⟨s1, rfl, rfl, rfl, w1⟩ := open_string Tryd.underlying9 (hval 1 9 v1 rfl rfl) h1
  clear hA0 hval0
  refine (PureOK.calls (IntTexts_ok b0 l0 s1.data.toList w1) (S := none') (w := W) (vs := [.agg #[.bool b0, x0], .string s1]) (fun k hk => hk.elim) ⟨fun _ => 0, fun _ => undef⟩ ⟨has_zW g0, rfl, trivial⟩).mono fun e W' ⟨v, E', S', he, hr, ho⟩ => ?_
  have hr' : v = .bool true := hr
  subst he
  subst hr'
  have bel : Below W.heap.size W W' := ho.below
  exact ⟨_, rfl, _, _, _, [], _, [], hW', trodAll_mk1 (shut_bool Tryd.underlying4 _), (trodAll_cons_mk (Below.trod laidOut (by kernel_rfl) (of_decide_eq_true (by kernel_rfl)) k0 bel lt0) (trodAll_cons_mk (shut_string Tryd.underlying9 w1) trodAll_mk0)), rfl, bel.frame _, fun h => by cases h⟩
theorem over : Rows.intTextsRow.holds Tryd.pinned (OpenSpec.ofChange Rows.intTextsSpec) :=
  OpenClaim.holds_of_cond 11 Tryd.f11 rfl rfl rfl rfl rfl rfl rfl ⟨rfl, rfl, rfl, rfl, rfl⟩ rfl rfl rfl rfl rfl (by kernel_rfl) Tryd.func11 (by kernel_rfl)
    (of_decide_eq_true (by kernel_rfl)) (by unfold Func.isWrapper; first | (rw [if_pos (by decide +kernel)]; kernel_rfl) | (rw [if_neg (by decide +kernel)]; exact ⟨rfl, rfl⟩))
    (fun os started H enc _ F0 => by rw [OpenClaim.pre_eq_preRow]; exact lifted os started H enc F0)
/-- The statement. -/
theorem proved : Rows.IntTextsCardSaid :=
  Claim7.holds_tied_plain_at .later [] [.data, .pinned] true (true, "33b584ec239de980e3552f0d8bf5563f218249cb8024f2155d728d57c640c6dd") false
    over (fun _ h => by cases h) (by kernel_rfl) (fun _ h => by cases h) intTexts_row_tie rfl ⟨rfl, rfl⟩ (by kernel_rfl) rfl
    (fun f fn hf hfn => by
      obtain rfl : f = 11 := Option.some.inj ((show Tryd.prog.funcNamed "quincunx/quincunxlaw05.IntTexts" = some 11 by kernel_rfl).symm.trans hf) |>.symm
      obtain rfl : fn = Tryd.f11 := (Option.some.inj (Tryd.func11.symm.trans hfn)).symm
      exact ⟨by kernel_rfl, fun j t ht => by
        rw [Tryd.params11] at ht
        have key : ∀ (l : List TypeId), l.all (fun t => !Tryd.prog.wantsStandIn t) = true → ∀ (j : Nat) t, l.toArray[j]? = some t → Tryd.prog.wantsStandIn t = false := by
          intro l hl j t ht
          rw [List.getElem?_toArray] at ht
          simpa using List.all_eq_true.1 hl t (List.mem_of_getElem? ht)
        exact key [48, 9] (by kernel_rfl) j t ht⟩)
    (by kernel_rfl)
#print axioms proved
end Go.Proofs.YtkdonndeogihfaaDoor.pIntTexts

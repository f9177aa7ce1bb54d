import Derived.Test.YtjnhnbgpifohjaaGreatDoorL22
import Derived.Test.YtjnhnbgpifohjaaGreatDoorL31
import Derived.Test.YtjnhnbgpifohjaaGreatDoorL32
import Derived.Test.YtjnhnbgpifohjaaGreatDoorRows
import Derived.Test.YtjnhnbgpifohjaaGreatDoorCards
import Derived.Test.YtjnhnbgpifohjaaGreatDoorTie
import Derived.Lib.LaidIn
import Derived.Lib.LaidU8
import Derived.Deep.DeepHandedRow
import Derived.Deep.DeepWitnessRowRef
import Derived.SizedLaws
import Derived.SevenTiedAt
import Derived.Test.YtjnhnbgpifohjaaGreatDoorL29
/- The statement RunPolys: for every input the law returns true, and what came in reads as it did. -/
set_option linter.unusedVariables false
set_option linter.unusedSimpArgs false
namespace Go.Proofs.YtjnhnbgpifohjaaGreatDoor.pRunPolys
open Go.ChangeShapes Go.WideShapes Go.ChangeAt Go.RowKit SX Go.Joins
open Go.ChangeMaps (open_string shut_string)
theorem own : ownKnob Tryz.prog.godebug = none := by kernel_rfl
theorem glob_ok {W : World} (hS : W.ShapedOpen Tryz.prog) : tJ none' W := by
  refine ⟨fun g l hm => (by cases hm), fun g hm => ?_⟩
  have e : g = 0 := by simpa [SX.awg] using hm
  subst e
  obtain ⟨m, hm'⟩ : ∃ m, W.cell? ⟨0, 0, none⟩ = some (.int .i64 m) := Tryz.laysM144.s1_3 W hS
  exact ⟨fun h => h, World.block_lt_of_cell? W _ hm', m, hm'⟩
theorem laidOut : laidOutB Tryz.prog = true := by kernel_rfl
/-- The witness: the settled world, the two variables holding what the row lists. -/
noncomputable def laidWorld (os : Os) : World :=
  let w0 := World.holding Tryz.prog os ⟨#[], #[], []⟩
  let put (h : Array Obj) (g : Nat) (cs : Array Value) : Array Obj := h.modify g fun
    | .cells _ t frozen => .cells cs t frozen
    | o => o
  let h1 := put w0.heap 3 (Lib.firstTab.map fun z => Value.int .u8 z).toArray
  let h2 := put h1 4 ((List.range 16).flatMap fun i => [Value.int .u8 (Lib.accLo i), Value.int .u8 (Lib.accHi i)]).toArray
  { w0 with heap := h2 }
set_option maxRecDepth 100000 in
theorem laid_met (os : Os) (args : Array Value) : laidMet Tryz.prog Rows.runPolysRow.laid ((laidWorld os).forCall (fun _ _ => 0) ⟨#[], args, []⟩).memory :=
  (LaidIn.of_run (l := Rows.runPolysRow.laid) [4, 3] 8 (by kernel_rfl) (by kernel_rfl) (by kernel_rfl) (by kernel_rfl)).met
set_option maxRecDepth 100000 in
theorem witness_row (os : Os) {H : Type} (enc : TypeId × Value → H) :
    (OpenSpec.ofChange Rows.runPolysSpec).preRow enc Tryz.prog Tryz.f4 Rows.runPolysRow.domain false Rows.runPolysRow.laid ((laidWorld os).forCall (fun _ _ => 0) ⟨#[], #[.int .u8 0, .slice none 0 0, .slice none 0 0], []⟩).memory #[.int .u8 0, .slice none 0 0, .slice none 0 0] := by
  have hw : (DataW.whole enc Tryz.prog ((laidWorld os).forCall (fun _ _ => 0) ⟨#[], #[.int .u8 0, .slice none 0 0, .slice none 0 0], []⟩).memory Tryz.f4.params.toList (OpenSpec.ofChange Rows.runPolysSpec).vars false (#[.int .u8 0, .slice none 0 0, .slice none 0 0] : Array Value).toList 8).map (fun x => (x.1, x.2.1)) =
      some ([.lit (.int .u8 0), .nil, .nil], []) := by kernel_rfl
  obtain ⟨⟨x1, x2, x3⟩, hx, hx1⟩ := Option.map_eq_some_iff.1 hw
  simp only [Prod.mk.injEq] at hx1
  obtain ⟨rfl, rfl⟩ := hx1
  exact OpenSpec.preRow_of_cond 8 hx (by kernel_rfl) (fun k hk => by cases hk) (by kernel_rfl) (laid_met os _)
set_option maxRecDepth 100000 in
set_option maxHeartbeats 2000000 in
theorem lifted (os : Os) (started : os.Started) (H : Type) (enc : TypeId × Value → H) (F : Stop.Interp) :
    ReturnsInHanded {} Tryz.checked os 4 .any ((OpenSpec.ofChange Rows.runPolysSpec).preRow enc Tryz.prog Tryz.f4 Rows.runPolysRow.domain false Rows.runPolysRow.laid) (((OpenSpec.ofChange Rows.runPolysSpec).at F).post enc Tryz.prog Tryz.f4 false true false false) := by
  refine returnsInHanded_of_row (C := Tryz.checked) (s := OpenSpec.ofChange Rows.runPolysSpec) own started (by kernel_rfl) Tryz.func4
    (witness_row_atRef (enc := enc) (C := Tryz.checked) false (laidWorld os) #[.int .u8 0, .slice none 0 0, .slice none 0 0] rfl (by kernel_rfl) (by kernel_rfl) (by kernel_rfl) (witness_row os enc)) ?_
  intro W base args ds gs before hval0 hW _ _ _ hL hS _
  have hval : ∀ (j : Nat) t v, Tryz.f4.params[j]? = some t → args[j]? = some v → Value.okWide Tryz.prog W .any base t v := hval0
  have hW' := hW
  obtain ⟨p, q, hA0, hV, rfl, hfz, hnd⟩ := hW
  have hA : DataW.TrodAll enc Tryz.prog W 0 (fun _ => true) true Tryz.f4.params.toList args.toList ds p := hA0
  rw [Tryz.params4] at hA hval
  obtain ⟨v0, vs0, d0, ds0, p0, q0, hargs, rfl, rfl, h0, r0⟩ := trodAll_cons hA
  obtain ⟨v1, vs1, d1, ds1, p1, q1, rfl, rfl, rfl, h1, r1⟩ := trodAll_cons r0
  obtain ⟨v2, vs2, d2, ds2, p2, q2, rfl, rfl, rfl, h2, r2⟩ := trodAll_cons r1
  obtain ⟨rfl, rfl, rfl⟩ := trodAll_nil r2
  obtain rfl : args = #[v0, v1, v2] := by cases args; simp_all
  obtain ⟨rfl, rfl⟩ := trodVars_none hV
  have k0 := h0
  have lt0 : ∀ x ∈ p0, x.block < W.heap.size := by obtain ⟨m, hm⟩ := k0; exact DataW.trod_lt m _ _ _ hm
  obtain ⟨z0, rfl, rfl, rfl, w0⟩ := open_int Tryz.underlying5 (hval 0 5 v0 rfl rfl) h0
  have k1 := h1
  have lt1 : ∀ x ∈ p1, x.block < W.heap.size := by obtain ⟨m, hm⟩ := k1; exact DataW.trod_lt m _ _ _ hm
  obtain ⟨l1, f1, g1⟩ := au4 Tryz.underlying35 (hval 1 35 v1 rfl rfl) decPoly h1
  have k2 := h2
  have lt2 : ∀ x ∈ p2, x.block < W.heap.size := by obtain ⟨m, hm⟩ := k2; exact DataW.trod_lt m _ _ _ hm
  obtain ⟨l2, f2, g2⟩ := au4 Tryz.underlying35 (hval 2 35 v2 rfl rfl) decPoly h2
  clear hA0 hval0
  refine (ah.calls (aw1 z0 (by have h := w0; simp [Lit.wf, IntKind.min, IntKind.max, IntKind.bits, IntKind.signed] at h; exact ⟨by omega, by omega⟩) l1 f1 l2 f2) (S := none') (w := W) (vs := [.int .u8 z0, v1, v2]) (fun k hk => hk.elim) (glob_ok hS) ⟨fun _ => 0, fun _ => undef, fun _ _ => False⟩ ⟨rfl, g1, g2, trivial⟩).mono fun e W' ⟨v, E', S', he, hr, ho⟩ => ?_
  have hr' : v = .bool true := hr
  subst he
  subst hr'
  have bel : Below W.heap.size W W' := ho.below
  exact ⟨_, rfl, _, _, _, [], _, [], hW', trodAll_mk1 (shut_bool Tryz.underlying4 _), (trodAll_cons_mk (shut_int Tryz.underlying5 w0) (trodAll_cons_mk (Below.trod laidOut (by kernel_rfl) (of_decide_eq_true (by kernel_rfl)) k1 bel lt1) (trodAll_cons_mk (Below.trod laidOut (by kernel_rfl) (of_decide_eq_true (by kernel_rfl)) k2 bel lt2) trodAll_mk0))), rfl, bel.frame _, fun h => by cases h⟩
set_option maxRecDepth 100000 in
set_option maxHeartbeats 4000000 in
theorem over : Rows.runPolysRow.holds Tryz.pinned (OpenSpec.ofChange Rows.runPolysSpec) :=
  OpenClaim.holds_of_cond 4 Tryz.f4 rfl rfl rfl rfl rfl rfl rfl ⟨rfl, rfl, rfl, rfl, rfl⟩ rfl rfl rfl rfl rfl (by kernel_rfl) Tryz.func4 Go.Proofs.YtjnhnbgpifohjaaGreatDoor.facts.closed
    (of_decide_eq_true (by kernel_rfl)) (by unfold Func.isWrapper; first | (rw [if_pos (by decide +kernel)]; kernel_rfl) | (rw [if_neg (by decide +kernel)]; exact ⟨rfl, rfl⟩))
    (fun os started H enc _ F0 => by rw [OpenClaim.pre_eq_preRow]; exact lifted os started H enc F0)
set_option maxRecDepth 100000 in
set_option maxHeartbeats 4000000 in
/-- The statement. -/
theorem proved : Rows.RunPolysCardSaid :=
  Claim7.holds_tied_plain_at .later [] [.data, .pinned] true (true, "a48c1a45b1604189c91345f8dbd26699c0da77ff5fba637e95e526eabbd13f48") true
    over (fun _ h => by cases h) (by as_aux_lemma => kernel_rfl) (fun _ h => by cases h) runPolys_row_tie rfl ⟨rfl, rfl⟩ (by as_aux_lemma => kernel_rfl) rfl
    (fun f fn hf hfn => by
      obtain rfl : f = 4 := Option.some.inj ((show Tryz.prog.funcNamed "quincunx/quincunxlaw30.RunPolys" = some 4 by as_aux_lemma => kernel_rfl).symm.trans hf) |>.symm
      obtain rfl : fn = Tryz.f4 := (Option.some.inj (Tryz.func4.symm.trans hfn)).symm
      exact ⟨by as_aux_lemma => kernel_rfl, fun j t ht => by
        rw [Tryz.params4] at ht
        have key : ∀ (l : List TypeId), l.all (fun t => !Tryz.prog.wantsStandIn t) = true → ∀ (j : Nat) t, l.toArray[j]? = some t → Tryz.prog.wantsStandIn t = false := by
          intro l hl j t ht
          rw [List.getElem?_toArray] at ht
          simpa using List.all_eq_true.1 hl t (List.mem_of_getElem? ht)
        exact key [5, 35, 35] (by as_aux_lemma => kernel_rfl) j t ht⟩)
    Go.Proofs.YtjnhnbgpifohjaaGreatDoor.facts.ayP
#print axioms proved
end Go.Proofs.YtjnhnbgpifohjaaGreatDoor.pRunPolys

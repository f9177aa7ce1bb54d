import Derived.Test.YtegehclknhmkgaaGreatDoorRows
import Derived.Test.YtegehclknhmkgaaGreatDoorS28
import Derived.JoinedCond
import Derived.KernelRfl
set_option linter.unusedVariables false
set_option linter.unusedSimpArgs false
namespace Go.Proofs.YtegehclknhmkgaaGreatDoor.facts
open Go
theorem e1:(Rows.runShowsRow.inPlace==Tryz.prog.inPlace 4)=true:=by rw[ahn];kernel_rfl
theorem e2:(Rows.runShowsRow.unfollowed==Tryz.prog.unfollowed 4)=true:=by rw[sj];kernel_rfl
theorem e3:(Rows.runShowsRow.recurses==Tryz.prog.recurses 4)=true:=by rw[agd];kernel_rfl
theorem e4:(Rows.runShowsRow.named==Tryz.prog.varsNamed 4)=true:=by rw[apQ];kernel_rfl
theorem e5:mapsRowed Tryz.prog=true:=by kernel_rfl
theorem e6:Tryz.prog.mayEnter=true:=by kernel_rfl
theorem e7:laidOutB Tryz.prog=true:=by kernel_rfl
set_option maxRecDepth 20000 in
set_option maxHeartbeats 20000000 in
theorem closed:joinedFacts Tryz.prog 4 Tryz.f4 (OpenSpec.ofChange Rows.runShowsSpec).bare Rows.runShowsRow=true:=by
 unfold joinedFacts;simp only[Bool.and_eq_true]
 repeat' apply And.intro
 all_goals first|with_reducible exact e1|with_reducible exact e2|with_reducible exact e3|with_reducible exact e4|with_reducible exact e5|with_reducible exact e6|with_reducible exact e7|(as_aux_lemma=>kernel_rfl)
end Go.Proofs.YtegehclknhmkgaaGreatDoor.facts
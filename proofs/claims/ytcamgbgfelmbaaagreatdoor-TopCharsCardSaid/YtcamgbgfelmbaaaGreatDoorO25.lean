import Derived.Test.YtcamgbgfelmbaaaGreatDoorRows
import Derived.Test.YtcamgbgfelmbaaaGreatDoorO24
import Derived.JoinedCond
import Derived.KernelRfl
set_option maxRecDepth 20000
set_option maxHeartbeats 20000000
set_option linter.unusedVariables false
set_option linter.unusedSimpArgs false
namespace Go.Proofs.YtcamgbgfelmbaaaGreatDoor.facts
open Go
theorem e1:(Rows.topCharsRow.inPlace==Tryz.prog.inPlace 3)=true:=by rw[akt];kernel_rfl
theorem e2:(Rows.topCharsRow.unfollowed==Tryz.prog.unfollowed 3)=true:=by rw[wD];kernel_rfl
theorem e3:(Rows.topCharsRow.recurses==Tryz.prog.recurses 3)=true:=by rw[aiX];kernel_rfl
theorem e4:(Rows.topCharsRow.named==Tryz.prog.varsNamed 3)=true:=by rw[axv];kernel_rfl
theorem e5:mapsRowed Tryz.prog=true:=by kernel_rfl
theorem e6:Tryz.prog.mayEnter=true:=by kernel_rfl
theorem e7:laidOutB Tryz.prog=true:=by kernel_rfl
theorem closed:joinedFacts Tryz.prog 3 Tryz.f3 (OpenSpec.ofChange Rows.topCharsSpec).bare Rows.topCharsRow=true:=by
 unfold joinedFacts;simp only[Bool.and_eq_true]
 repeat' apply And.intro
 all_goals first|with_reducible exact e1|with_reducible exact e2|with_reducible exact e3|with_reducible exact e4|with_reducible exact e5|with_reducible exact e6|with_reducible exact e7|(as_aux_lemma=>kernel_rfl)

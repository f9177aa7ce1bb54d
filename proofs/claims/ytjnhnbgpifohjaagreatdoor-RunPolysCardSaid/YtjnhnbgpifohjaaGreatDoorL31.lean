import Derived.Test.YtjnhnbgpifohjaaGreatDoorRows
import Derived.Test.YtjnhnbgpifohjaaGreatDoorL30
import Derived.JoinedCond
import Derived.KernelRfl
set_option maxRecDepth 20000
set_option maxHeartbeats 20000000
set_option linter.unusedVariables false
set_option linter.unusedSimpArgs false
namespace Go.Proofs.YtjnhnbgpifohjaaGreatDoor.facts
open Go
theorem e1:(Rows.runPolysRow.inPlace==Tryz.prog.inPlace 4)=true:=by rw[ajE];kernel_rfl
theorem e2:(Rows.runPolysRow.unfollowed==Tryz.prog.unfollowed 4)=true:=by rw[wW];kernel_rfl
theorem e3:(Rows.runPolysRow.recurses==Tryz.prog.recurses 4)=true:=by rw[ahM];kernel_rfl
theorem e4:(Rows.runPolysRow.named==Tryz.prog.varsNamed 4)=true:=by rw[atV];kernel_rfl
theorem e5:mapsRowed Tryz.prog=true:=by kernel_rfl
theorem e6:Tryz.prog.mayEnter=true:=by kernel_rfl
theorem e7:laidOutB Tryz.prog=true:=by kernel_rfl
theorem closed:joinedFacts Tryz.prog 4 Tryz.f4 (OpenSpec.ofChange Rows.runPolysSpec).bare Rows.runPolysRow=true:=by
 unfold joinedFacts;simp only[Bool.and_eq_true]
 repeat' apply And.intro
 all_goals first|with_reducible exact e1|with_reducible exact e2|with_reducible exact e3|with_reducible exact e4|with_reducible exact e5|with_reducible exact e6|with_reducible exact e7|(as_aux_lemma=>kernel_rfl)

import Derived.Test.YtcamgbgfelmbaaaGreatDoorRows
import Derived.Test.YtcamgbgfelmbaaaGreatDoorO24
import GoSem.ClaimGoes
import Derived.KernelRfl
set_option linter.unusedVariables false
set_option linter.unusedSimpArgs false
namespace Go.Proofs.YtcamgbgfelmbaaaGreatDoor.facts
open Go
noncomputable def fO:Nat->Bool:=fun g=>(Tryz.prog.funcs[g]?).any Func.goes
theorem o0:c0.any fO=false:=by kernel_rfl
theorem o1:c1.any fO=false:=by kernel_rfl
theorem o2:c2.any fO=false:=by kernel_rfl
theorem o3:c3.any fO=false:=by kernel_rfl
theorem o4:c4.any fO=false:=by kernel_rfl
theorem o5:c5.any fO=false:=by kernel_rfl
theorem o6:c6.any fO=false:=by kernel_rfl
theorem o7:c7.any fO=false:=by kernel_rfl
theorem o8:c8.any fO=false:=by kernel_rfl
theorem o9:c9.any fO=false:=by kernel_rfl
theorem atx:clo.any fO=false:=by
 rw[aa4];simp only[List.any_append,o0,o1,o2,o3,o4,o5,o6,o7,o8,o9,Bool.or_false]
theorem p0:((FL.drop 0).take 50).any Func.goes=false:=by kernel_rfl
theorem p50:((FL.drop 50).take 50).any Func.goes=false:=by kernel_rfl
theorem p100:((FL.drop 100).take 50).any Func.goes=false:=by kernel_rfl
theorem p150:((FL.drop 150).take 50).any Func.goes=false:=by kernel_rfl
theorem p200:((FL.drop 200).take 50).any Func.goes=false:=by kernel_rfl
theorem p250:((FL.drop 250).take 50).any Func.goes=false:=by kernel_rfl
theorem p300:((FL.drop 300).take 50).any Func.goes=false:=by kernel_rfl
theorem p350:((FL.drop 350).take 50).any Func.goes=false:=by kernel_rfl
theorem p400:((FL.drop 400).take 50).any Func.goes=false:=by kernel_rfl
theorem p450:((FL.drop 450).take 50).any Func.goes=false:=by kernel_rfl
theorem p500:((FL.drop 500).take 50).any Func.goes=false:=by kernel_rfl
theorem p550:((FL.drop 550).take 50).any Func.goes=false:=by kernel_rfl
theorem p600:((FL.drop 600).take 10).any Func.goes=false:=by kernel_rfl
theorem q0:(FL.drop 0).any Func.goes=(FL.drop 50).any Func.goes:=by rw[dx FL 0 50 50 rfl,List.any_append,p0,Bool.false_or]
theorem q50:(FL.drop 50).any Func.goes=(FL.drop 100).any Func.goes:=by rw[dx FL 50 50 100 rfl,List.any_append,p50,Bool.false_or]
theorem q100:(FL.drop 100).any Func.goes=(FL.drop 150).any Func.goes:=by rw[dx FL 100 50 150 rfl,List.any_append,p100,Bool.false_or]
theorem q150:(FL.drop 150).any Func.goes=(FL.drop 200).any Func.goes:=by rw[dx FL 150 50 200 rfl,List.any_append,p150,Bool.false_or]
theorem q200:(FL.drop 200).any Func.goes=(FL.drop 250).any Func.goes:=by rw[dx FL 200 50 250 rfl,List.any_append,p200,Bool.false_or]
theorem q250:(FL.drop 250).any Func.goes=(FL.drop 300).any Func.goes:=by rw[dx FL 250 50 300 rfl,List.any_append,p250,Bool.false_or]
theorem q300:(FL.drop 300).any Func.goes=(FL.drop 350).any Func.goes:=by rw[dx FL 300 50 350 rfl,List.any_append,p300,Bool.false_or]
theorem q350:(FL.drop 350).any Func.goes=(FL.drop 400).any Func.goes:=by rw[dx FL 350 50 400 rfl,List.any_append,p350,Bool.false_or]
theorem q400:(FL.drop 400).any Func.goes=(FL.drop 450).any Func.goes:=by rw[dx FL 400 50 450 rfl,List.any_append,p400,Bool.false_or]
theorem q450:(FL.drop 450).any Func.goes=(FL.drop 500).any Func.goes:=by rw[dx FL 450 50 500 rfl,List.any_append,p450,Bool.false_or]
theorem q500:(FL.drop 500).any Func.goes=(FL.drop 550).any Func.goes:=by rw[dx FL 500 50 550 rfl,List.any_append,p500,Bool.false_or]
theorem q550:(FL.drop 550).any Func.goes=(FL.drop 600).any Func.goes:=by rw[dx FL 550 50 600 rfl,List.any_append,p550,Bool.false_or]
theorem q600:(FL.drop 600).any Func.goes=(FL.drop 610).any Func.goes:=by rw[dx FL 600 10 610 rfl,List.any_append,p600,Bool.false_or]
theorem ave:Tryz.prog.funcs.any Func.goes=false:=by
 rw[<-Array.any_toList,show Tryz.prog.funcs.toList=FL.drop 0 from rfl,q0,q50,q100,q150,q200,q250,q300,q350,q400,q450,q500,q550,q600,bEnd];rfl
theorem avm:Tryz.prog.goes 3=false:=by
 show ((Tryz.prog.closure 3).any fO||(Tryz.prog.unfollowed 3&&Tryz.prog.funcs.any Func.goes))=false;rw[rZ,atx,ave,Bool.and_false];rfl
theorem arK:Tryz.prog.funcNamed Rows.topCharsRow.func=some 3:=by kernel_rfl
theorem a0w:false=Rows.topCharsRow.goesBy Tryz.prog:=by
 show false=((Tryz.prog.funcNamed Rows.topCharsRow.func).any Tryz.prog.goes||false);rw[arK,Option.any_some,avm];rfl

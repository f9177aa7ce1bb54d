import Derived.Test.YthnkfhfcgjoieaaGreatDoorProg
import GoSem.ClaimFn
import Derived.KernelRfl
set_option linter.unusedVariables false
set_option linter.unusedSimpArgs false
namespace Go.Proofs.YthnkfhfcgjoieaaGreatDoor.facts
open Go
def clB(A:Nat->List Nat):Nat->List Nat->Nat->List Nat->List Nat
 |0,_,_,seen=>seen.reverse
 |_+1,[],_,seen=>seen.reverse
 |n+1,f::todo,m,seen=>match m.testBit f with
  |true=>clB A n todo m seen
  |false=>clB A n (A f++todo) (m ||| 1 <<< f) (f::seen)
theorem aoz{m f:Nat}{seen:List Nat}(h:∀x,seen.contains x=m.testBit x)(x:Nat):(f::seen).contains x=(m ||| 1 <<< f).testBit x:=by
 rw[List.contains_cons,h x,Nat.testBit_or,Nat.testBit_shiftLeft];by_cases hx:x=f
 ·subst hx;simp
 ·have h1:(x==f)=false:=by simpa using hx
  rw[h1,Bool.false_or];by_cases hle:f<=x
  ·have h2:(1:Nat).testBit (x - f)=false:=by
    obtain⟨k,hk⟩:∃k,x - f=k+1:=⟨x - f - 1,by omega⟩
    rw[hk,Nat.testBit_succ];simp
   simp[h2]
  ·simp[hle]
theorem oC{P:Program}{A:Nat->List Nat}(hA:∀f,(P.funcs[f]?).elim [] P.leadsTo=A f):∀(n:Nat) (todo seen:List Nat) (m:Nat),(∀x,seen.contains x=m.testBit x)->P.closureVia n todo seen=clB A n todo m seen
 |0,_,_,_,_=>rfl
 |_+1,[],_,_,_=>rfl
 |n+1,f::todo,seen,m,h=>by
  unfold Program.closureVia clB;cases hb:m.testBit f with
  |true=>
   rw[if_pos (by rw[h f];exact hb)]
   exact oC hA n todo seen m h
  |false=>
   rw[if_neg (by rw[h f,hb];decide),hA f]
   exact oC hA n _ (f::seen) _ fun x=>aoz h x
theorem dL{α:Type}(l:List α)(k n m:Nat)(h:k+n=m):l.drop k=(l.drop k).take n++l.drop m:=by
 rw[<-h,<-List.drop_drop,List.take_append_drop]
noncomputable abbrev FL:List Func:=Tryz.prog.funcs.toList
def d0:List (List Nat):=[[],[],[1],[4,4,5,6,6,7,8,9,11,10,12,13,14,16,6,15,17,6,15,5,15,6,15,6,15,6,15,6,6,6,18,15,11,6,6,15,18,18,6,6,18,15,19,15,18,11,6,15],[21,20],[23,22],[23,5],[24,24],[25,26],[24,27,24,11,28,27,29,30,32,31,29],[24,24,33,11,34,35,32,34,36,32,34],[38,37,38,37],[11,39,37,40,41,42,42,43,44,42],[45,24],[],[46,47],[25,48],[25,49],[],[11,6,6],[50,51,52],[],[25,25,32,32,53,32,25],[37,11],[35],[54],[37],[37],[55,37,37,24,56,32,31,24,26,26],[56,24],[56,24,24,55,31,53,55,53,31],[26,53],[57,37],[24,9,11,58,34],[39],[59,60],[],[61],[],[24,30],[62],[],[63],[9,31,29,29,32,34,32,32,53,34],[64],[59],[65,66,66,67,68,69,70,71,72,73],[65,65,74],[56,24,24,55,31,53],[24,26,26,53,53,53,48]]
theorem a0:((FL.drop 0).take 50).map Tryz.prog.leadsTo=d0:=by kernel_rfl
def d50:List (List Nat):=[[75,76,77],[78],[],[79,37,80,37,80,37],[24,81,24,26,26,82,29,29],[11],[83,37,37],[61,61,84,85,86,85,86,57,57,79,79,57,87,87,88],[89],[],[],[59,91,90],[],[62],[],[92],[93],[94,97,96,97,96,95,98,94,97,96,99,98,94,101,100,94,101,100,94,101,100,94,101,100],[94,103,102,106,106,105,104,94,103,107,98,94,103,108,106,106,106,105,104,94,103,109,105,6,104,94,103,110,98,94,103,111,98,94,103,112,98],[94,103,103,113,94,103,114,106,106,105,104,94,103,116,115,94,103,117,98,94,103,119,118,94,103,120,118,94,121,98],[94,122,123,104,94,124,94,125,123,104,94,126,101,104],[127,127,128,94,129,130,104,94,131,132,104,94,133,130,104,94,134,101,104,94,135,136,104,94,137,136,104,94,138,130,130,105,104,94,139,94,140,130,104],[141,118,94,142,101,100,94,101,100,94,97,143,115,94,128,97,145,144,132,100,94,146,118,94,128,147,136,100,94,148,118,149,150],[94,16,115,94,17,115,94,7,8,5,100,94,115,94,115,94,97,45,97,24,14,19,100,94,97,97,97,10,104,115,94,151,94,101,100],[152,153,154,156,155,157,158,74],[],[159,160,159],[161,162,163],[164],[59,59,165,90],[166,59,59,167,90],[23],[168,37],[61,61,166,169,38,170,171,171,172,173,61],[59,59,174,90],[],[],[80],[175,79,79],[24,24,166,166],[59],[],[176,177,178,179,180,24,181,182,184,185,185,187,186],[188],[127],[189,189,190,191],[13],[192],[106,104],[189,190,193]]
theorem a50:((FL.drop 50).take 50).map Tryz.prog.leadsTo=d50:=by kernel_rfl
def d100:List (List Nat):=[[104],[11,6],[194,195,196,197,197],[198],[],[],[199,123],[200],[194,201,202,203,203,203],[108,204,24],[205,207,206],[205,208,206],[110,207],[104,209,101,210,106,105,104,101,123,105,100],[102,211,213,212,214,212,215,216,212,213,212,216,212,213,212,213,212,217,212,217,212],[6,104],[218,219],[194,220,221,26],[104],[218,222],[218,223,99,224,226,226,225,227,26,11,216,224],[228,11,58,95,224,11,31],[178,230,229],[178,23,22],[232,221,104,23,23,233,5,100],[178,229,235,234,238,229],[178,234,239,229],[192,198],[240],[184,242,241],[],[184,244],[11,6],[184,241,245,244,246,241],[184,244,247,241],[248,249,250],[],[248,252,251],[253,254,255,256,133],[257,105,258,136,104],[259,261,260],[192,228],[228],[32,53],[262,260],[258,38,37,39,45],[11,32,228],[262,259],[263,263,82,264,264,265,264,266],[94,94,94,97,45,240,97,24,104,267,94,38,37,106,100,94,38,37,118]]
theorem a100:((FL.drop 100).take 50).map Tryz.prog.leadsTo=d100:=by kernel_rfl
def d150:List (List Nat):=[[94,94,104,128,268,136,100,136,136,136,105,100,94,97,97,82,115,94,97,97,9,6,6,6,105,100],[269,269,12,6,6,105,104],[270,7],[271,272,273],[274],[275,277,276],[240],[],[],[279,280],[281,282,283,284,285],[282,283,285,284],[286,287,288,286,288,286,289,290,287,290,287,288,291,289,290,287,290,287,290],[],[292,293,293,294,295,296,78],[],[59,59],[],[61,61,297],[61,298,61],[60],[59,90],[299,300,301],[59,90],[302,165,165],[],[303,305,305],[183,183,24,82,11,58],[],[306],[177],[307],[183],[],[308,308],[14,310,309],[311],[92],[312,313,312,314,313,315],[],[37],[],[227],[11],[189,189],[204,11],[316,24,11,317,318],[],[232,11,58],[11,319]]
theorem a150:((FL.drop 150).take 50).map Tryz.prog.leadsTo=d150:=by kernel_rfl
def d200:List (List Nat):=[[320,321,204,39,322,323],[99,99,324,324,324],[11,325,326,327,328,328,326,24,329,329],[],[194,330,331,37],[194,332,190],[205],[102,211,213,208],[102,211,213],[194,108,333,334,110,335],[106],[194,336],[],[194,337,190],[205,216],[338,339],[194,194,340,190],[194,194,189,341,190],[194],[204,53],[194,204],[342,26],[99,224,11,216,224,219,26,11,29,344,224,343,224,228],[345,95,224,11,346,148,347,348],[],[178,178,234,179,349,350,229],[23],[25,11,58],[24,37],[237,22],[231],[],[178,231,229,11,352,37,23,353,227],[25,25,32,32,54],[354,355],[236,237],[11,23],[23],[],[],[14],[278],[243],[],[356,357],[],[],[],[184],[358,359]]
theorem a200:((FL.drop 200).take 50).map Tryz.prog.leadsTo=d200:=by kernel_rfl
def d250:List (List Nat):=[[261,360,262,262,362,361],[364,363,360,365],[367,366,261,368],[184],[369,370,371,372,373],[374,259,365,157,140],[368,129],[253,254],[],[278,278],[278,278,258],[375],[278,278,258],[82],[228,263,24,26,29],[228,228,376,266,378,377,266,266,378,274,228],[32,228],[127,258,379,136,100,127,103,380,258,130,104,258,97,145,130,100],[259,259,381,383,382,362,362,363,363,360,361,363],[192],[8,22],[178,178],[],[152],[384,31],[184,184],[],[278,278],[258],[280],[312],[385],[279],[279,281],[],[66],[386],[387,286,387],[290,389,388],[291,390],[286,390],[391],[392],[292,393,6,394,395,394,396,394,397,398,394],[399,392,400,392,401],[293,392,7,164,164],[397,227,227,392,89,292,6,394,164,11,53],[83],[170],[165,298,302,165]]
theorem a250:((FL.drop 250).take 50).map Tryz.prog.leadsTo=d250:=by kernel_rfl
def d300:List (List Nat):=[[302,165,167,167],[165],[],[304],[351],[35],[],[],[],[402],[],[],[403],[],[],[404],[9,24,29,29,317,26,317],[32,32,53],[48,11,26,317],[194,24,405,229],[406,11,204,27],[],[24,9,29,29,407,26,407],[48,32,31],[204],[24,27,27,89,408,408],[48,26,328,26,328,24,48,26,409,26,409,24],[29],[32,53],[26],[],[],[331],[410,216],[411,24,24,53,412,29,412,333],[205,413,414,48,32,31],[413,415],[331],[194,416,417],[418,419,420,418],[331,331,32,53],[331,331],[194,421,422],[423,424,190],[194,425,190],[11,228],[226,226,225,227,26,11,216,224],[228,228,376,29,266,378,274,228],[228,228,32,53,228],[7]]
theorem a300:((FL.drop 300).take 50).map Tryz.prog.leadsTo=d300:=by kernel_rfl
def d350:List (List Nat):=[[351,237],[],[168,35,35,426,57],[25,25,32,32,25],[427,427],[429,428,236,233,353,430],[278,243,278,243,278],[432,431,261,262,382,262,433],[434,435,435],[436,382,262,437],[259,259,262,260,259],[375,438],[262,259],[259,259,382,262,262,375,259,259],[259,259,363,365],[383,382,362],[184,184,244,309,439,440,241],[],[184,184,441,241],[184,443,442],[444,445,445,446,446,446,447,448,448,448],[444,449,448,448],[444,450,259],[451,368,372,260],[259],[278,258,278,258],[],[384,53],[],[145,259],[194,452,241],[363,360,361],[278,258,453],[259],[376,376,228],[279],[],[455,454],[456],[286,162],[457],[],[],[458,459,37],[392,460,461,392,462,292],[],[292,397,463],[293],[464,46,465,466],[65,467]]
theorem a350:((FL.drop 350).take 50).map Tryz.prog.leadsTo=d350:=by kernel_rfl
def d400:List (List Nat):=[[],[468],[],[],[],[204],[342,469],[32,32,53,39],[],[32,53],[],[204],[204,54],[],[24],[24],[24,11,32,89,89],[194,470,11,11,471,471,24],[472,49,32,31,32,31,32,31],[32,32,53,32,32,32,89],[32,32,53,473,32,32,31,473,32,32,53,473],[11,204],[474,475],[194,194],[331,331,53],[331,32],[83],[178,237,231,237,22],[],[7],[353,270],[],[],[262,375],[308,241,245],[476],[],[262,375,262,375,262,260],[477,477,259],[],[351],[243,243,262,260],[259],[261],[478,478],[478,442,479],[372],[480,481,482,483,483,481,382,362],[],[445,446,446,484]]
theorem a400:((FL.drop 400).take 50).map Tryz.prog.leadsTo=d400:=by kernel_rfl
def d450:List (List Nat):=[[],[444,374],[204,145],[278,262,262],[286,286],[485,454],[457],[],[486],[487,488],[460],[65,489],[462],[123],[65,490],[65,65,491,492,493,427,5,494,495,6,494,19],[65,65,74,19,74,19,496,497,498,499,500,501],[502,504,503,506,505,509,503,508,511,505,508,467,512],[513],[],[205,514],[204,32,32,31,473],[53,27,89],[29],[24],[32,32,31,29],[184,243,241],[],[],[],[515,515],[363,516,483,516,483,363,516,517,516,517],[363],[360,518],[519,382,520,363,521,520],[286,522,523,388],[524],[],[59,302,165,90],[38,35,525,525,305,489],[8,526,11,23,528,527,274,156,530,529,156,361],[227,13,24],[],[],[6],[531,532,532,532,532,532,533,495],[152,19],[534,535,535],[233,526,11,23,233,528,527,347],[536,537,526,125,538,527]]
theorem a450:((FL.drop 450).take 50).map Tryz.prog.leadsTo=d450:=by kernel_rfl
def d500:List (List Nat):=[[22,526,539,527,377,156,540,529,156,518],[490,500],[25,507,11,58,507],[510,510,512,512],[502],[512],[507],[24,541,541],[510],[510],[38,541],[510],[542,401,401,401,52],[],[423,543,58],[],[361],[360,518],[260,438],[268,363,363,520,521,520],[360,360,518],[361],[544,286,485],[485],[],[25,305,305],[],[],[178,545,229],[],[184,546,241],[],[91],[],[353,526,547,527,348,156,368,529,156,360],[528,527,227,266],[227,13,489],[25,7,81,25,548,548,81,25],[23,11,23,547,547],[271,549,229],[275,550,241],[553,552,551],[468,554],[],[555,286,556,388],[231,353],[243,262],[178,178,557,229],[558,37],[231,231,22]]
theorem a500:((FL.drop 500).take 50).map Tryz.prog.leadsTo=d500:=by kernel_rfl
def d550:List (List Nat):=[[243,243,260],[559,560,561,562],[45,563,83,552,552],[38,35,35,564],[565],[390,291,286,566,388,286,568,388,286,569,388,286,570,388,390],[287,286,287,290],[237,231,231,353,22],[35,35,35,61,38,564,57],[],[],[571],[572,573],[],[57],[],[567],[286,287,286,290],[287,290],[287,286,286,290],[567],[],[574],[575],[],[280,576,280,314,313],[],[],[],[],[],[],[],[],[],[],[],[],[],[],[],[],[],[89],[],[],[],[],[],[]]
theorem a550:((FL.drop 550).take 50).map Tryz.prog.leadsTo=d550:=by kernel_rfl
def d600:List (List Nat):=[[],[],[],[],[]]
theorem a600:((FL.drop 600).take 5).map Tryz.prog.leadsTo=d600:=by kernel_rfl
theorem b0:(FL.drop 0).map Tryz.prog.leadsTo=((FL.drop 0).take 50).map Tryz.prog.leadsTo++(FL.drop 50).map Tryz.prog.leadsTo:=by rw[<-List.map_append,<-dL FL 0 50 50 rfl]
theorem b50:(FL.drop 50).map Tryz.prog.leadsTo=((FL.drop 50).take 50).map Tryz.prog.leadsTo++(FL.drop 100).map Tryz.prog.leadsTo:=by rw[<-List.map_append,<-dL FL 50 50 100 rfl]
theorem b100:(FL.drop 100).map Tryz.prog.leadsTo=((FL.drop 100).take 50).map Tryz.prog.leadsTo++(FL.drop 150).map Tryz.prog.leadsTo:=by rw[<-List.map_append,<-dL FL 100 50 150 rfl]
theorem b150:(FL.drop 150).map Tryz.prog.leadsTo=((FL.drop 150).take 50).map Tryz.prog.leadsTo++(FL.drop 200).map Tryz.prog.leadsTo:=by rw[<-List.map_append,<-dL FL 150 50 200 rfl]
theorem b200:(FL.drop 200).map Tryz.prog.leadsTo=((FL.drop 200).take 50).map Tryz.prog.leadsTo++(FL.drop 250).map Tryz.prog.leadsTo:=by rw[<-List.map_append,<-dL FL 200 50 250 rfl]
theorem b250:(FL.drop 250).map Tryz.prog.leadsTo=((FL.drop 250).take 50).map Tryz.prog.leadsTo++(FL.drop 300).map Tryz.prog.leadsTo:=by rw[<-List.map_append,<-dL FL 250 50 300 rfl]
theorem b300:(FL.drop 300).map Tryz.prog.leadsTo=((FL.drop 300).take 50).map Tryz.prog.leadsTo++(FL.drop 350).map Tryz.prog.leadsTo:=by rw[<-List.map_append,<-dL FL 300 50 350 rfl]
theorem b350:(FL.drop 350).map Tryz.prog.leadsTo=((FL.drop 350).take 50).map Tryz.prog.leadsTo++(FL.drop 400).map Tryz.prog.leadsTo:=by rw[<-List.map_append,<-dL FL 350 50 400 rfl]
theorem b400:(FL.drop 400).map Tryz.prog.leadsTo=((FL.drop 400).take 50).map Tryz.prog.leadsTo++(FL.drop 450).map Tryz.prog.leadsTo:=by rw[<-List.map_append,<-dL FL 400 50 450 rfl]
theorem b450:(FL.drop 450).map Tryz.prog.leadsTo=((FL.drop 450).take 50).map Tryz.prog.leadsTo++(FL.drop 500).map Tryz.prog.leadsTo:=by rw[<-List.map_append,<-dL FL 450 50 500 rfl]
theorem b500:(FL.drop 500).map Tryz.prog.leadsTo=((FL.drop 500).take 50).map Tryz.prog.leadsTo++(FL.drop 550).map Tryz.prog.leadsTo:=by rw[<-List.map_append,<-dL FL 500 50 550 rfl]
theorem b550:(FL.drop 550).map Tryz.prog.leadsTo=((FL.drop 550).take 50).map Tryz.prog.leadsTo++(FL.drop 600).map Tryz.prog.leadsTo:=by rw[<-List.map_append,<-dL FL 550 50 600 rfl]
theorem b600:(FL.drop 600).map Tryz.prog.leadsTo=((FL.drop 600).take 5).map Tryz.prog.leadsTo++(FL.drop 605).map Tryz.prog.leadsTo:=by rw[<-List.map_append,<-dL FL 600 5 605 rfl]
def adjL:List (List Nat):=d0++(d50++(d100++(d150++(d200++(d250++(d300++(d350++(d400++(d450++(d500++(d550++(d600))))))))))))
theorem len:FL.length=605:=by kernel_rfl
theorem bEnd:FL.drop 605=[]:=List.drop_eq_nil_of_le (by rw[len];exact Nat.le_refl _)
theorem adj:FL.map Tryz.prog.leadsTo=adjL:=by
 rw[show FL=FL.drop 0 from rfl,b0,a0,b50,a50,b100,a100,b150,a150,b200,a200,b250,a250,b300,a300,b350,a350,b400,a400,b450,a450,b500,a500,b550,a550,b600,a600,bEnd]
 kernel_rfl
def adjF(f:Nat):List Nat:=adjL.getD f []
theorem aur(f:Nat):(Tryz.prog.funcs[f]?).elim [] Tryz.prog.leadsTo=adjF f:=by
 unfold adjF;rw[<-adj,List.getD_eq_getElem?_getD,List.getElem?_map,Array.getElem?_toList]
 cases Tryz.prog.funcs[f]? <;> rfl
theorem fuel:(FL.map fun g=>(Tryz.prog.leadsTo g).length+1).sum=(adjL.map fun l=>l.length+1).sum:=by
 rw[<-adj,List.map_map];rfl
def c0:List Nat:=[3,4,21,20,50,75,76,159,279,280,312,403,160,281,385,282,283,284,285,66,93,188,313,314,315,404,77,161,162,286,386,287,387,455,485,522,544,555,390,457,291,391,566,567,290,388,456,568,569,570,556,523,454,288,389,289,163,51,78,164]
def c1:List Nat:=[292,392,293,393,458,486,524,459,487,488,59,302,165,90,37,61,91,6,23,11,38,5,22,25,54,24,35,60,81,26,82,168,297,83,166,169,298,170,171,172,299,300,167,301,173,29,56,32,57,84,174,85,86,79,87,80,88,175,53,394]
def c2:List Nat:=[460,461,65,92,176,303,304,351,305,177,183,58,89,178,179,306,180,181,307,182,184,308,185,14,310,309,402,187,186,311,489,525,462,395,396,397,463,123,398,464,490,8,526,528,545,231,353,229,237,527,274,384,376,228,31,156,240,530,546,243]
def c3:List Nat:=[262,278,258,241,529,361,375,438,477,259,46,67,94,127,192,227,198,232,352,426,97,96,13,45,95,189,190,191,98,106,199,319,194,405,204,330,331,104,99,193,101,100,68,103,102,195,196,316,9,27,28,55,30,317,318,48,197,105,107,200]
def c4:List Nat:=[320,406,342,421,422,474,475,469,321,39,322,407,323,108,201,324,202,325,408,326,328,409,327,329,203,109,110,205,332,207,211,336,413,415,213,337,208,206,111,112,69,113,209,333,410,216,340,334,411,412,335,414,210,114,212,214,215,338,416,417]
def c5:List Nat:=[470,514,423,543,471,473,339,418,472,49,419,420,217,341,116,218,219,115,117,220,221,119,222,224,344,425,343,424,118,120,223,345,346,226,225,234,354,427,355,429,7,428,236,233,430,270,349,350,148,263,264,265,266,378,377,347,348,121,70,122]
def c6:List Nat:=[230,124,125,235,238,126,239,71,128,129,242,130,131,244,356,357,432,431,261,382,453,433,132,133,245,246,134,247,135,248,249,358,434,435,476,359,436,437,260,250,360,362,136,137,252,367,366,439,440,368,441,251,364,363,365,383,138,253,254,369]
def c7:List Nat:=[443,442,370,444,478,445,479,446,372,450,447,480,515,481,516,483,518,517,482,448,371,449,484,519,268,381,520,521,373,451,374,255,157,140,256,139,257,72,141,142,143,145,144,146,147,149,267,379,380,452,150,73,16,17,19,10,33,34,36,151]
def c8:List Nat:=[269,12,40,62,41,42,63,43,44,64,465,491,492,493,494,495,531,532,533,466,74,152,153,271,272,273,154,155,275,277,276,158,496,497,534,547,557,535,498,499,536,537,548,558,564,538,500,539,549,540,550,501,294,399,467,502,507,541,553,552]
def c9:List Nat:=[563,551,559,560,561,571,562,572,574,573,575,576,504,503,510,512,542,468,513,554,565,401,52,506,505,509,508,511,400,295,296,15,47,18]
def clo:List Nat:=c0++(c1++(c2++(c3++(c4++(c5++(c6++(c7++(c8++(c9)))))))))
theorem qF:Tryz.prog.closure 3=clo:=by
 unfold Program.closure;rw[show (Tryz.prog.funcs.toList.map fun g=>(Tryz.prog.leadsTo g).length+1).sum=(adjL.map fun l=>l.length+1).sum from fuel,oC aur _ _ _ 0 (by intro x;simp)]
 kernel_rfl
noncomputable def fI:Nat->Option String:=fun g=>(Tryz.prog.funcs[g]?).bind fun fn=>if fn.ours||fn.body.isNone||fn.name== "runtime.NumGoroutine" then some fn.name else none
noncomputable def fG:Nat->List Nat:=fun g=>((Tryz.prog.funcs[g]?).bind (·.body)).elim [] Code.globalsNamed
noncomputable def fR:Nat->Option String:=fun g=>(Tryz.prog.funcs[g]?).bind fun fn=>if fn.body.isNone then entryReads.lookup fn.name else none
noncomputable def fU:Nat->Bool:=fun g=>(Tryz.prog.funcs[g]?).any fun fn=>match fn.body with|some c=>c.unfollowed|none=>entryCalls fn
theorem i0:c0.filterMap fI=["internal/bytealg.IndexByteString", "internal/bytealg.IndexString"]:=by kernel_rfl
theorem g0:c0.flatMap fG=[0,0,0]:=by kernel_rfl
theorem r0:c0.filterMap fR=["internal/bytealg.MaxLen"]:=by kernel_rfl
theorem i1:c1.filterMap fI=["math/bits.Add64", "math/bits.Sub64"]:=by kernel_rfl
theorem g1:c1.flatMap fG=[1,2]:=by kernel_rfl
theorem r1:c1.filterMap fR=[]:=by kernel_rfl
theorem i2:c2.filterMap fI=[]:=by kernel_rfl
theorem g2:c2.flatMap fG=[]:=by kernel_rfl
theorem r2:c2.filterMap fR=[]:=by kernel_rfl
theorem i3:c3.filterMap fI=[]:=by kernel_rfl
theorem g3:c3.flatMap fG=[]:=by kernel_rfl
theorem r3:c3.filterMap fR=[]:=by kernel_rfl
theorem i4:c4.filterMap fI=[]:=by kernel_rfl
theorem g4:c4.flatMap fG=[]:=by kernel_rfl
theorem r4:c4.filterMap fR=[]:=by kernel_rfl
theorem i5:c5.filterMap fI=[]:=by kernel_rfl
theorem g5:c5.flatMap fG=[]:=by kernel_rfl
theorem r5:c5.filterMap fR=[]:=by kernel_rfl
theorem i6:c6.filterMap fI=[]:=by kernel_rfl
theorem g6:c6.flatMap fG=[]:=by kernel_rfl
theorem r6:c6.filterMap fR=[]:=by kernel_rfl
theorem i7:c7.filterMap fI=[]:=by kernel_rfl
theorem g7:c7.flatMap fG=[]:=by kernel_rfl
theorem r7:c7.filterMap fR=[]:=by kernel_rfl
theorem i8:c8.filterMap fI=[]:=by kernel_rfl
theorem g8:c8.flatMap fG=[]:=by kernel_rfl
theorem r8:c8.filterMap fR=[]:=by kernel_rfl
theorem i9:c9.filterMap fI=["internal/abi.NoEscape", "internal/bytealg.MakeNoZero"]:=by kernel_rfl
theorem g9:c9.flatMap fG=[3,4]:=by kernel_rfl
theorem r9:c9.filterMap fR=[]:=by kernel_rfl
theorem yM:clo=c0++(c1++(c2++(c3++(c4++(c5++(c6++(c7++(c8++(c9))))))))):=by kernel_rfl
theorem agC:Tryz.prog.inPlace 3=["internal/bytealg.IndexByteString", "internal/bytealg.IndexString", "math/bits.Add64", "math/bits.Sub64", "internal/abi.NoEscape", "internal/bytealg.MakeNoZero"]:=by
 show (Tryz.prog.closure 3).filterMap fI=_;rw[qF,yM];simp only[List.filterMap_append,i0,i1,i2,i3,i4,i5,i6,i7,i8,i9];rfl
theorem uw:Tryz.prog.unfollowed 3=true:=by
 show (Tryz.prog.closure 3).any fU=true;rw[qF]
 kernel_rfl
theorem af0:Tryz.prog.recurses 3=true:=by
 unfold Program.recurses;rw[uw];rfl
theorem asK:Tryz.prog.varsNamed 3=["internal/bytealg.MaxLen", "math/bits.divideError", "math/bits.overflowError", "unicode/utf8.first", "unicode/utf8.acceptRanges"]:=by
 show ((((Tryz.prog.closure 3).flatMap fG).eraseDups).filterMap (fun g=>(Tryz.prog.globals[g]?).map (·.name))++(Tryz.prog.closure 3).filterMap fR).eraseDups=_
 rw[qF,yM];simp only[List.flatMap_append,List.filterMap_append,g0,g1,g2,g3,g4,g5,g6,g7,g8,g9,r0,r1,r2,r3,r4,r5,r6,r7,r8,r9]
 kernel_rfl

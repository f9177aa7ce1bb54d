import Derived.Test.YtjnhnbgpifohjaaGreatDoorProg
import GoSem.ClaimFn
import Derived.KernelRfl
set_option linter.unusedVariables false
set_option linter.unusedSimpArgs false
namespace Go.Proofs.YtjnhnbgpifohjaaGreatDoor.facts
open Go
def clB(A:Nat->List Nat):Nat->List Nat->Nat->List Nat->List Nat
 |0,_,_,seen=>seen.reverse
 |_+1,[],_,seen=>seen.reverse
 |n+1,f::todo,m,seen=>match m.testBit f with
  |true=>clB A n todo m seen
  |false=>clB A n (A f++todo) (m ||| 1 <<< f) (f::seen)
theorem aqm{m f:Nat}{seen:List Nat}(h:∀x,seen.contains x=m.testBit x)(x:Nat):(f::seen).contains x=(m ||| 1 <<< f).testBit x:=by
 rw[List.contains_cons,h x,Nat.testBit_or,Nat.testBit_shiftLeft];by_cases hx:x=f
 ·subst hx;simp
 ·have h1:(x==f)=false:=by simpa using hx
  rw[h1,Bool.false_or];by_cases hle:f<=x
  ·have h2:(1:Nat).testBit (x - f)=false:=by
    obtain⟨k,hk⟩:∃k,x - f=k+1:=⟨x - f - 1,by omega⟩
    rw[hk,Nat.testBit_succ];simp
   simp[h2]
  ·simp[hle]
theorem qP{P:Program}{A:Nat->List Nat}(hA:∀f,(P.funcs[f]?).elim [] P.leadsTo=A f):∀(n:Nat) (todo seen:List Nat) (m:Nat),(∀x,seen.contains x=m.testBit x)->P.closureVia n todo seen=clB A n todo m seen
 |0,_,_,_,_=>rfl
 |_+1,[],_,_,_=>rfl
 |n+1,f::todo,seen,m,h=>by
  unfold Program.closureVia clB;cases hb:m.testBit f with
  |true=>
   rw[if_pos (by rw[h f];exact hb)]
   exact qP hA n todo seen m h
  |false=>
   rw[if_neg (by rw[h f,hb];decide),hA f]
   exact qP hA n _ (f::seen) _ fun x=>aqm h x
theorem dM{α:Type}(l:List α)(k n m:Nat)(h:k+n=m):l.drop k=(l.drop k).take n++l.drop m:=by
 rw[<-h,<-List.drop_drop,List.take_append_drop]
noncomputable abbrev FL:List Func:=Tryz.prog.funcs.toList
def d0:List (List Nat):=[[],[],[1],[5,6,7,5,8,9,10,11,12,13,14,14,15,8,16,8,16,18,17,16,19,16],[5,20,20,5,21,22,23,23,24,24,18,17,17,25,26,27,28,16,16,16,18,17,16,18,17,16,18,17,16,29,16,30,16,18,31,17,16,18,17,32,18,17,16,33,16,16,34,16,35,16,16],[37,36],[38],[],[39,14,40],[39,42,41],[39,41,45,44,48,41],[39,44,49,41],[39,43,41,18,51,50,14,53,52],[54,55],[50,18],[56,56,58,58,57],[28,59],[14,19],[60,50,60,50],[14,40],[],[22,61],[],[62,50],[63,64],[64,64,65,67,66,68,68,69,69,71,70,69],[23,18,72,74,73,18,75],[64,77,76],[78,79,79,80,81,82,83,84,85,86],[18,58,23],[87,64],[58,88],[87,76],[90,90,89,91,91,92,91,93],[],[94,8],[95,96,97],[],[],[],[56,56,58,58,88,58,56],[47,40],[43],[],[98,99],[46,47],[18,14],[14],[],[]]
theorem a0:((FL.drop 0).take 50).map Tryz.prog.leadsTo=d0:=by kernel_rfl
def d50:List (List Nat):=[[100],[101,102,102,103,104],[56,18,72],[56,56,58,58,56],[105,106,107],[50],[57],[62,108,62,55,55,89,109,109],[104,50],[78,78,110],[],[111],[102],[113,60,50,112,114],[115,115],[69,71,70],[115,113,116],[64],[87,64],[64,64,66,87,87,117,64,64],[117,118],[64,64,87,76,64],[119],[],[120,120,121,122],[55,88],[115,115,113],[117],[123],[124],[125,127,126,127,126,74,128,125,127,126,129,128,125,131,130,125,131,130,125,131,130,125,131,130],[125,133,132,136,136,135,134,125,133,137,128,125,133,138,136,136,136,135,134,125,133,139,135,17,134,125,133,140,128,125,133,141,128,125,133,142,128],[125,133,133,143,125,133,144,136,136,135,134,125,133,146,145,125,133,147,128,125,133,149,148,125,133,150,148,125,26,128],[125,9,8,134,125,151,125,10,8,134,125,11,131,134],[152,152,153,125,154,155,134,125,156,157,134,125,158,155,134,125,159,131,134,125,160,161,134,125,162,161,134,125,163,155,155,135,134,125,164,125,27,155,134],[165,148,125,166,131,130,125,131,130,125,127,31,145,125,153,127,63,32,157,130,125,29,148,125,153,30,161,130,125,33,148,167,168],[125,169,145,125,170,145,125,171,172,19,130,125,145,125,145,125,127,114,127,62,111,173,130,125,127,127,127,174,134,145,125,175,125,131,130],[115,115,113],[176,50,177,50,177,50],[101,50],[89],[23,90,62,55,109],[23,23,178,93,180,179,93,93,180,181,23],[58,23],[18,182],[183,184,185],[186],[],[187,187],[189,188,46,15,53,190]]
theorem a50:((FL.drop 50).take 50).map Tryz.prog.leadsTo=d50:=by kernel_rfl
def d100:List (List Nat):=[[193,192,191],[100,100,194],[193,195],[196],[100,100,197,198,199,198,199,104,104,176,176,104,200,200,201],[120,120],[18,202],[203,204],[14],[205,62],[206,207,208,210,209,211,212,110],[],[62,213],[],[193],[113],[115,87,87],[115,113,115,113],[214,214,64],[62,62,215,215],[],[50],[],[216,217,39,218,219,62,220,221,223,224,224,226,225],[227],[152],[228],[229],[136,134],[120,121,230],[134],[18,17],[105,231,232,233,233],[234],[],[],[94,8],[235],[105,236,237,238,238,238],[138,202,62],[239,241,240],[239,242,240],[140,241],[134,243,131,244,136,135,134,131,8,135,130],[132,245,247,246,248,246,249,250,246,247,246,250,246,247,246,247,246,251,246,251,246],[17,134],[252,253],[105,254,13,55],[134],[252,255]]
theorem a100:((FL.drop 100).take 50).map Tryz.prog.leadsTo=d100:=by kernel_rfl
def d150:List (List Nat):=[[252,256,129,73,258,258,257,52,55,18,250,73],[12,13,134,14,14,15,19,130],[229,234],[61],[223,260,259],[],[223,262],[18,17],[223,259,263,262,264,259],[223,262,265,259],[266,267,268],[],[266,270,269],[271,272,273,274,158],[275,135,113,161,134],[229,23],[23],[125,125,125,127,114,61,127,62,134,276,125,60,50,136,130,125,60,50,148],[125,125,134,153,25,161,130,161,161,161,135,130,125,127,127,89,145,125,127,127,277,17,17,17,135,130],[56,278],[56,279],[62,62],[56,55],[18,17,17],[62,62,280,18,281,102,58,281,282,58,281],[283,283,284,17,17,135,134],[193,193,285,191],[215,193,193,286,191],[],[287,88],[],[287,75],[105,62,288,41],[],[289,290,289],[291,292,293],[294],[39,47,43,47,40],[],[171],[53,295],[193],[],[],[196],[],[100,100,215,296,60,297,298,298,299,300,100],[193,193,301,191],[],[]]
theorem a150:((FL.drop 150).take 50).map Tryz.prog.leadsTo=d150:=by kernel_rfl
def d200:List (List Nat):=[[177],[302,176,176],[105,303,304,50],[62],[58,58,75,109],[196,50,50],[295,171],[305,306,307],[181],[308,310,309],[61],[],[],[205,62,62,311,75,88,311,88,75],[],[193,193],[312,314,314],[222,222,62,89,18,72],[315],[217],[316],[222],[],[317,317],[111,319,318],[320],[123],[321,322,321,323,322,324],[114,62],[52],[18],[202,18],[325,62,18,326,327],[],[12,18,72],[328,329,202,112,330,331],[129,129,332,332,332],[18,333,334,335,336,336,334,62,337,337],[],[105,338,121],[239],[132,245,247,242],[132,245,247],[105,138,339,340,140,341],[136],[105,342],[],[105,343,121],[239,250],[344,345]]
theorem a200:((FL.drop 200).take 50).map Tryz.prog.leadsTo=d200:=by kernel_rfl
def d250:List (List Nat):=[[105,105,346,121],[105,105,120,347,121],[105],[202,88],[105,202],[129,73,18,250,73,253,55,18,109,349,73,348,73,23],[350,74,73,18,351,33,352,353],[39,39,44,218,354,355,41],[14],[115],[261],[],[357,358],[],[],[],[223],[359,360],[77,71,87,87,68,70],[361,69,71,362],[364,363,77,365],[223],[366,367,368,369,370],[371,64,362,211,27],[365,154],[271,272],[152,113,24,161,130,152,133,372,113,155,134,113,127,63,155,130],[62,373,62,18,374,373,109,213,58,75,109],[205,62,62,311,75,88],[62,55,55,88,88,88,278],[62,277,18,72,281],[112],[],[229],[18,112,50,375,376,377,377,378,379,377],[],[],[178,178,23],[202],[380,381],[382,383,384,385,386],[383,384,386,385],[387,388,389,387,389,387,390,391,388,391,388,389,392,390,391,388,391,388,391],[],[393,394,394,395,396,397,186],[172,40],[100,398,100],[195],[193,191],[399,400,401]]
theorem a250:((FL.drop 250).take 50).map Tryz.prog.leadsTo=d250:=by kernel_rfl
def d300:List (List Nat):=[[193,191],[402,285,285],[],[],[],[39,39],[],[206],[223,223],[],[115,115],[18],[313],[356],[102],[],[],[],[403],[],[],[404],[],[],[405],[277,62,109,109,326,55,326],[58,58,88],[278,18,55,326],[406,18,202,373],[],[62,277,109,109,407,55,407],[278,58,75],[202],[62,373,373,119,408,408],[278,55,336,55,336,62,278,55,409,55,409,62],[109],[58,88],[55],[304],[410,250],[411,62,62,88,412,109,412,339],[239,413,414,278,58,75],[413,415],[304],[105,416,417],[418,419,420,418],[304,304,58,88],[304,304],[421,422,121],[105,423,121]]
theorem a300:((FL.drop 300).take 50).map Tryz.prog.leadsTo=d300:=by kernel_rfl
def d350:List (List Nat):=[[18,23],[258,258,257,52,55,18,250,73],[23,23,178,109,93,180,181,23],[23,23,58,88,23],[171],[356,47],[],[115,261,115,261,115],[425,424,77,87,66,87,426],[427,428,428],[429,66,87,430],[64,64,69,362],[67,66,68],[223,223,262,318,431,432,259],[],[223,223,433,259],[223,435,434],[436,437,437,438,438,438,439,440,440,440],[436,441,440,440],[436,442,64],[443,365,369,76],[64],[105,444,259],[50],[311,50,50,62,205,58,75,62,55,55],[445],[],[446],[277,75,109,109,58,281,58,58,88,281],[447],[381],[321],[448],[380],[380,382],[],[79],[449],[450,387,450],[391,452,451],[392,453],[387,453],[454],[455],[393,456,17,457,458,457,459,457,460,461,457],[462,455,463,455,464],[394,455,171,294,294],[460,52,52,455,119,393,17,457,294,18,88],[297],[285,398,402,285]]
theorem a350:((FL.drop 350).take 50).map Tryz.prog.leadsTo=d350:=by kernel_rfl
def d400:List (List Nat):=[[402,285,286,286],[285],[],[],[],[],[54,465],[58,58,88,112],[],[58,88],[],[202],[202,57],[],[62],[62],[62,18,58,119,119],[105,466,18,18,467,467,62],[468,279,58,75,58,75,58,75],[58,58,88,58,58,58,119],[58,58,88,469,58,58,75,469,58,58,88,469],[105,105],[304,304,88],[304,58],[],[],[87,117],[317,259,263],[470],[],[87,117,87,117,87,76],[],[356],[261,261,87,76],[64],[77],[471,471],[471,434,472],[369],[473,474,475,476,476,474,66,68],[],[437,438,438,477],[],[436,371],[202,63],[],[445],[],[380],[]]
theorem a400:((FL.drop 400).take 50).map Tryz.prog.leadsTo=d400:=by kernel_rfl
def d450:List (List Nat):=[[479,478],[480],[387,292],[481],[],[],[482,483,50],[455,484,485,455,486,393],[],[393,460,487],[394],[488,28,489,490],[78,491],[],[492],[],[239,493],[202,58,58,75,469],[88,373,119],[109],[223,261,259],[],[],[494,494],[69,495,476,495,476,69,495,496,495,496],[69],[71,497],[498,66,499,69,500,499],[387,387],[501,478],[481],[],[502],[503,504],[484],[78,505],[486],[8],[78,506],[78,78,507,508,509,187,19,510,511,17,510,173],[78,78,110,173,110,173,512,513,514,515,516,517],[518,520,519,522,521,525,519,524,527,521,524,491,528],[529],[421,530,72],[],[70],[71,497],[76,118],[25,69,69,499,500,499],[71,71,497]]
theorem a450:((FL.drop 450).take 50).map Tryz.prog.leadsTo=d450:=by kernel_rfl
def d500:List (List Nat):=[[70],[387,531,532,451],[533],[],[193,402,285,191],[60,102,534,534,314,505],[172,535,18,14,537,536,181,210,539,538,210,70],[52,228,62],[],[],[17],[540,541,541,541,541,541,542,511],[206,173],[543,544,544],[15,535,18,14,15,537,536,352],[545,546,535,10,547,536],[40,535,548,536,179,210,549,538,210,497],[506,516],[56,523,18,72,523],[526,526,528,528],[518],[528],[523],[62,550,550],[526],[526],[60,550],[526],[551,464,464,464,97],[],[],[552,387,501],[501],[],[56,314,314],[],[],[39,553,41],[],[223,554,259],[],[192],[],[53,535,555,536,353,210,365,538,210,71],[537,536,52,93],[52,228,505],[56,171,108,56,556,556,108,56],[14,18,14,555,555],[305,557,41],[308,558,259]]
theorem a500:((FL.drop 500).take 50).map Tryz.prog.leadsTo=d500:=by kernel_rfl
def d550:List (List Nat):=[[561,560,559],[492,562],[563,387,564,451],[43,53],[261,87],[39,39,565,41],[566,50],[43,43,40],[261,261,76],[567,568,569,570],[114,571,196,560,560],[60,102,102,572],[573],[453,392,387,574,451,387,576,451,387,577,451,387,578,451,453],[388,387,388,391],[47,43,43,53,40],[102,102,102,100,60,572,104],[],[],[579],[580,581],[],[104],[],[575],[387,388,387,391],[388,391],[388,387,387,391],[575],[],[582],[583],[],[381,584,381,323,322],[],[],[],[],[],[],[],[],[],[],[],[],[],[],[],[]]
theorem a550:((FL.drop 550).take 50).map Tryz.prog.leadsTo=d550:=by kernel_rfl
def d600:List (List Nat):=[[],[],[119],[],[],[],[],[],[],[],[],[],[]]
theorem a600:((FL.drop 600).take 13).map Tryz.prog.leadsTo=d600:=by kernel_rfl
theorem b0:(FL.drop 0).map Tryz.prog.leadsTo=((FL.drop 0).take 50).map Tryz.prog.leadsTo++(FL.drop 50).map Tryz.prog.leadsTo:=by rw[<-List.map_append,<-dM FL 0 50 50 rfl]
theorem b50:(FL.drop 50).map Tryz.prog.leadsTo=((FL.drop 50).take 50).map Tryz.prog.leadsTo++(FL.drop 100).map Tryz.prog.leadsTo:=by rw[<-List.map_append,<-dM FL 50 50 100 rfl]
theorem b100:(FL.drop 100).map Tryz.prog.leadsTo=((FL.drop 100).take 50).map Tryz.prog.leadsTo++(FL.drop 150).map Tryz.prog.leadsTo:=by rw[<-List.map_append,<-dM FL 100 50 150 rfl]
theorem b150:(FL.drop 150).map Tryz.prog.leadsTo=((FL.drop 150).take 50).map Tryz.prog.leadsTo++(FL.drop 200).map Tryz.prog.leadsTo:=by rw[<-List.map_append,<-dM FL 150 50 200 rfl]
theorem b200:(FL.drop 200).map Tryz.prog.leadsTo=((FL.drop 200).take 50).map Tryz.prog.leadsTo++(FL.drop 250).map Tryz.prog.leadsTo:=by rw[<-List.map_append,<-dM FL 200 50 250 rfl]
theorem b250:(FL.drop 250).map Tryz.prog.leadsTo=((FL.drop 250).take 50).map Tryz.prog.leadsTo++(FL.drop 300).map Tryz.prog.leadsTo:=by rw[<-List.map_append,<-dM FL 250 50 300 rfl]
theorem b300:(FL.drop 300).map Tryz.prog.leadsTo=((FL.drop 300).take 50).map Tryz.prog.leadsTo++(FL.drop 350).map Tryz.prog.leadsTo:=by rw[<-List.map_append,<-dM FL 300 50 350 rfl]
theorem b350:(FL.drop 350).map Tryz.prog.leadsTo=((FL.drop 350).take 50).map Tryz.prog.leadsTo++(FL.drop 400).map Tryz.prog.leadsTo:=by rw[<-List.map_append,<-dM FL 350 50 400 rfl]
theorem b400:(FL.drop 400).map Tryz.prog.leadsTo=((FL.drop 400).take 50).map Tryz.prog.leadsTo++(FL.drop 450).map Tryz.prog.leadsTo:=by rw[<-List.map_append,<-dM FL 400 50 450 rfl]
theorem b450:(FL.drop 450).map Tryz.prog.leadsTo=((FL.drop 450).take 50).map Tryz.prog.leadsTo++(FL.drop 500).map Tryz.prog.leadsTo:=by rw[<-List.map_append,<-dM FL 450 50 500 rfl]
theorem b500:(FL.drop 500).map Tryz.prog.leadsTo=((FL.drop 500).take 50).map Tryz.prog.leadsTo++(FL.drop 550).map Tryz.prog.leadsTo:=by rw[<-List.map_append,<-dM FL 500 50 550 rfl]
theorem b550:(FL.drop 550).map Tryz.prog.leadsTo=((FL.drop 550).take 50).map Tryz.prog.leadsTo++(FL.drop 600).map Tryz.prog.leadsTo:=by rw[<-List.map_append,<-dM FL 550 50 600 rfl]
theorem b600:(FL.drop 600).map Tryz.prog.leadsTo=((FL.drop 600).take 13).map Tryz.prog.leadsTo++(FL.drop 613).map Tryz.prog.leadsTo:=by rw[<-List.map_append,<-dM FL 600 13 613 rfl]
def adjL:List (List Nat):=d0++(d50++(d100++(d150++(d200++(d250++(d300++(d350++(d400++(d450++(d500++(d550++(d600))))))))))))
theorem len:FL.length=613:=by kernel_rfl
theorem bEnd:FL.drop 613=[]:=List.drop_eq_nil_of_le (by rw[len];exact Nat.le_refl _)
theorem adj:FL.map Tryz.prog.leadsTo=adjL:=by
 rw[show FL=FL.drop 0 from rfl,b0,a0,b50,a50,b100,a100,b150,a150,b200,a200,b250,a250,b300,a300,b350,a350,b400,a400,b450,a450,b500,a500,b550,a550,b600,a600,bEnd]
 kernel_rfl
def adjF(f:Nat):List Nat:=adjL.getD f []
theorem axV(f:Nat):(Tryz.prog.funcs[f]?).elim [] Tryz.prog.leadsTo=adjF f:=by
 unfold adjF;rw[<-adj,List.getD_eq_getElem?_getD,List.getElem?_map,Array.getElem?_toList]
 cases Tryz.prog.funcs[f]? <;> rfl
theorem fuel:(FL.map fun g=>(Tryz.prog.leadsTo g).length+1).sum=(adjL.map fun l=>l.length+1).sum:=by
 rw[<-adj,List.map_map];rfl
def c0:List Nat:=[4,5,37,36,95,183,184,289,380,381,321,404,290,382,448,383,384,385,386,79,124,227,322,323,324,405,185,291,292,387,449,388,450,479,501,531,552,563,453,481,392,454,574,575,391,451,480,576,577,578,564,532,478,389,452,390,293,96,186,294]
def c1:List Nat:=[393,455,394,456,482,502,533,483,503,504,193,402,285,191,50,100,192,17,14,18,60,19,40,56,57,62,102,195,108,55,89,101,194,196,215,296,398,297,298,299,399,400,286,401,300,109,205,58,104,197,301,198,199,176,200,177,201,302,88,457]
def c2:List Nat:=[484,485,78,123,216,312,313,356,314,217,222,72,119,39,218,315,219,220,316,221,223,317,224,111,319,318,403,226,225,320,505,534,486,458,459,460,487,8,461,488,506,172,535,537,553,43,53,41,47,536,181,287,178,23,75,210,61,539,554,261]
def c3:List Nat:=[87,115,113,259,538,70,117,118,214,64,28,80,125,152,229,52,234,12,51,103,127,126,228,114,74,120,121,122,128,136,94,182,105,288,202,303,304,134,129,230,131,130,81,133,132,231,232,325,277,373,374,311,213,326,327,278,233,135,137,235]
def c4:List Nat:=[328,406,54,106,107,203,204,465,329,112,330,407,331,138,236,332,237,333,408,334,336,409,335,337,238,139,140,239,338,241,245,342,413,415,247,343,242,240,141,142,82,143,243,339,410,250,346,340,411,412,341,414,244,144,246,248,249,344,416,417]
def c5:List Nat:=[466,493,421,530,467,469,345,418,468,279,419,420,251,347,146,252,253,145,147,254,13,149,255,73,349,423,348,422,148,150,256,350,351,258,257,44,98,187,99,189,171,188,46,15,190,295,354,355,33,90,91,92,93,180,179,352,353,26,83,9]
def c6:List Nat:=[42,151,10,45,48,11,49,84,153,154,260,155,156,262,357,358,425,424,77,66,116,426,157,158,263,264,159,265,160,266,267,359,427,428,470,360,429,430,76,268,71,68,161,162,270,364,363,431,432,365,433,269,361,69,362,67,163,271,272,366]
def c7:List Nat:=[435,434,367,436,471,437,472,438,369,442,439,473,494,474,495,476,497,496,475,440,368,441,477,498,25,65,499,500,370,443,371,273,211,27,274,164,275,85,165,166,31,63,32,29,30,167,276,24,372,444,168,86,169,170,173,174,280,281,282,175]
def c8:List Nat:=[283,284,375,445,376,377,446,378,379,447,489,507,508,509,510,511,540,541,542,490,110,206,207,305,306,307,208,209,308,310,309,212,512,513,543,555,565,544,514,515,545,546,556,566,572,547,516,548,557,549,558,517,395,462,491,518,523,550,561,560]
def c9:List Nat:=[571,559,567,568,569,579,570,580,582,581,583,584,520,519,526,528,551,492,529,562,573,464,97,522,521,525,524,527,463,396,397,20,21,22,16,59,34,35]
def clo:List Nat:=c0++(c1++(c2++(c3++(c4++(c5++(c6++(c7++(c8++(c9)))))))))
theorem rV:Tryz.prog.closure 4=clo:=by
 unfold Program.closure;rw[show (Tryz.prog.funcs.toList.map fun g=>(Tryz.prog.leadsTo g).length+1).sum=(adjL.map fun l=>l.length+1).sum from fuel,qP axV _ _ _ 0 (by intro x;simp)]
 kernel_rfl
noncomputable def fI:Nat->Option String:=fun g=>(Tryz.prog.funcs[g]?).bind fun fn=>if fn.ours||fn.body.isNone||fn.name== "runtime.NumGoroutine" then some fn.name else none
noncomputable def fG:Nat->List Nat:=fun g=>((Tryz.prog.funcs[g]?).bind (·.body)).elim [] Code.globalsNamed
noncomputable def fR:Nat->Option String:=fun g=>(Tryz.prog.funcs[g]?).bind fun fn=>if fn.body.isNone then entryReads.lookup fn.name else none
noncomputable def fU:Nat->Bool:=fun g=>(Tryz.prog.funcs[g]?).any fun fn=>match fn.body with|some c=>c.unfollowed|none=>entryCalls fn
theorem i0:c0.filterMap fI=["internal/bytealg.IndexByteString", "internal/bytealg.IndexString"]:=by kernel_rfl
theorem g0:c0.flatMap fG=[0,0,0]:=by kernel_rfl
theorem r0:c0.filterMap fR=["internal/bytealg.MaxLen"]:=by kernel_rfl
theorem i1:c1.filterMap fI=["math/bits.Add64", "math/bits.Sub64"]:=by kernel_rfl
theorem g1:c1.flatMap fG=[1,2]:=by kernel_rfl
theorem r1:c1.filterMap fR=[]:=by kernel_rfl
theorem i2:c2.filterMap fI=[]:=by kernel_rfl
theorem g2:c2.flatMap fG=[]:=by kernel_rfl
theorem r2:c2.filterMap fR=[]:=by kernel_rfl
theorem i3:c3.filterMap fI=[]:=by kernel_rfl
theorem g3:c3.flatMap fG=[]:=by kernel_rfl
theorem r3:c3.filterMap fR=[]:=by kernel_rfl
theorem i4:c4.filterMap fI=[]:=by kernel_rfl
theorem g4:c4.flatMap fG=[]:=by kernel_rfl
theorem r4:c4.filterMap fR=[]:=by kernel_rfl
theorem i5:c5.filterMap fI=[]:=by kernel_rfl
theorem g5:c5.flatMap fG=[]:=by kernel_rfl
theorem r5:c5.filterMap fR=[]:=by kernel_rfl
theorem i6:c6.filterMap fI=[]:=by kernel_rfl
theorem g6:c6.flatMap fG=[]:=by kernel_rfl
theorem r6:c6.filterMap fR=[]:=by kernel_rfl
theorem i7:c7.filterMap fI=[]:=by kernel_rfl
theorem g7:c7.flatMap fG=[]:=by kernel_rfl
theorem r7:c7.filterMap fR=[]:=by kernel_rfl
theorem i8:c8.filterMap fI=[]:=by kernel_rfl
theorem g8:c8.flatMap fG=[]:=by kernel_rfl
theorem r8:c8.filterMap fR=[]:=by kernel_rfl
theorem i9:c9.filterMap fI=["internal/abi.NoEscape", "internal/bytealg.MakeNoZero"]:=by kernel_rfl
theorem g9:c9.flatMap fG=[3,4]:=by kernel_rfl
theorem r9:c9.filterMap fR=[]:=by kernel_rfl
theorem aa3:clo=c0++(c1++(c2++(c3++(c4++(c5++(c6++(c7++(c8++(c9))))))))):=by kernel_rfl
theorem ajE:Tryz.prog.inPlace 4=["internal/bytealg.IndexByteString", "internal/bytealg.IndexString", "math/bits.Add64", "math/bits.Sub64", "internal/abi.NoEscape", "internal/bytealg.MakeNoZero"]:=by
 show (Tryz.prog.closure 4).filterMap fI=_;rw[rV,aa3];simp only[List.filterMap_append,i0,i1,i2,i3,i4,i5,i6,i7,i8,i9];rfl
theorem wW:Tryz.prog.unfollowed 4=true:=by
 show (Tryz.prog.closure 4).any fU=true;rw[rV]
 kernel_rfl
theorem ahM:Tryz.prog.recurses 4=true:=by
 unfold Program.recurses;rw[wW];rfl
theorem atV:Tryz.prog.varsNamed 4=["internal/bytealg.MaxLen", "math/bits.divideError", "math/bits.overflowError", "unicode/utf8.first", "unicode/utf8.acceptRanges"]:=by
 show ((((Tryz.prog.closure 4).flatMap fG).eraseDups).filterMap (fun g=>(Tryz.prog.globals[g]?).map (·.name))++(Tryz.prog.closure 4).filterMap fR).eraseDups=_
 rw[rV,aa3];simp only[List.flatMap_append,List.filterMap_append,g0,g1,g2,g3,g4,g5,g6,g7,g8,g9,r0,r1,r2,r3,r4,r5,r6,r7,r8,r9]
 kernel_rfl

import Derived.Test.YtcamgbgfelmbaaaGreatDoorProg
import GoSem.ClaimFn
import Derived.KernelRfl
set_option linter.unusedVariables false
set_option linter.unusedSimpArgs false
namespace Go.Proofs.YtcamgbgfelmbaaaGreatDoor.facts
open Go
def clB(A:Nat->List Nat):Nat->List Nat->Nat->List Nat->List Nat
 |0,_,_,seen=>seen.reverse
 |_+1,[],_,seen=>seen.reverse
 |n+1,f::todo,m,seen=>match m.testBit f with
  |true=>clB A n todo m seen
  |false=>clB A n (A f++todo) (m ||| 1 <<< f) (f::seen)
theorem atq{m f:Nat}{seen:List Nat}(h:∀x,seen.contains x=m.testBit x)(x:Nat):(f::seen).contains x=(m ||| 1 <<< f).testBit x:=by
 rw[List.contains_cons,h x,Nat.testBit_or,Nat.testBit_shiftLeft];by_cases hx:x=f
 ·subst hx;simp
 ·have h1:(x==f)=false:=by simpa using hx
  rw[h1,Bool.false_or];by_cases hle:f<=x
  ·have h2:(1:Nat).testBit (x - f)=false:=by
    obtain⟨k,hk⟩:∃k,x - f=k+1:=⟨x - f - 1,by omega⟩
    rw[hk,Nat.testBit_succ];simp
   simp[h2]
  ·simp[hle]
theorem ql{P:Program}{A:Nat->List Nat}(hA:∀f,(P.funcs[f]?).elim [] P.leadsTo=A f):∀(n:Nat) (todo seen:List Nat) (m:Nat),(∀x,seen.contains x=m.testBit x)->P.closureVia n todo seen=clB A n todo m seen
 |0,_,_,_,_=>rfl
 |_+1,[],_,_,_=>rfl
 |n+1,f::todo,seen,m,h=>by
  unfold Program.closureVia clB;cases hb:m.testBit f with
  |true=>
   rw[if_pos (by rw[h f];exact hb)]
   exact ql hA n todo seen m h
  |false=>
   rw[if_neg (by rw[h f,hb];decide),hA f]
   exact ql hA n _ (f::seen) _ fun x=>atq h x
theorem dx{α:Type}(l:List α)(k n m:Nat)(h:k+n=m):l.drop k=(l.drop k).take n++l.drop m:=by
 rw[<-h,<-List.drop_drop,List.take_append_drop]
noncomputable abbrev FL:List Func:=Tryz.prog.funcs.toList
def d0:List (List Nat):=[[],[],[1],[4,5,4,6,8,7,9,8,7,8,7,10,10,10],[12,11],[13,14],[15,17,16],[18,19,19],[21,20,21,20],[],[12,11],[22,23,24],[],[25],[],[8,26],[27],[28,30,29],[31],[34,33,32],[35],[],[36,37,38],[39],[],[],[40,18,42,41],[44,45],[],[46,46,48,48,47,48,46],[20,8],[49,50],[51,52,53,54],[55,56,57,33,33],[21,31,31,58],[49,60,59],[],[61,62,61],[63,64,65],[66],[67,67],[68,29],[43],[40,69,70,20],[71],[72,74,73,76,75,78,73,77,80,75,77,45,81],[82],[83,20,84,20,84,20],[85,20],[]]
theorem a0:((FL.drop 0).take 50).map Tryz.prog.leadsTo=d0:=by kernel_rfl
def d50:List (List Nat):=[[],[],[],[86],[87,88],[49],[],[35,35,89,90,21,91,92,92,93,94,35],[85],[49],[],[95,96],[97,98,99,100,101],[98,99,101,100],[102,103,104,102,104,102,105,106,103,106,103,104,107,105,106,103,106,103,106],[],[108,109,109,110,111,112,39],[],[30],[],[],[113,114,28,115,116,18,117,118,120,121,121,123,122],[46,7,8,124,7],[79,79,81,81],[72],[81],[7],[79],[79],[21,19],[79],[125,126,126,126,24],[18,127,18,128,128,129,130,130],[49,49,131,59],[89,49,49,132,59],[35,35,133,134,135,134,135,85,85,83,83,85,136,136,137],[],[138],[139],[49,49],[35,140,35],[50],[49,59],[141,142,143],[49,59],[96],[144],[145],[95],[95,97]]
theorem a50:((FL.drop 50).take 50).map Tryz.prog.leadsTo=d50:=by kernel_rfl
def d100:List (List Nat):=[[],[146],[147],[148,102,148],[106,150,149],[107,151],[102,151],[152],[153],[108,154,156,155,157,155,158,155,159,160,155],[27,153,161,153,126],[109,153,162,66,66],[159,163,163,153,164,108,156,155,66,8,47],[165,167,167],[119,119,18,129,8,124],[168],[114],[169],[119],[],[170,170],[171,173,172],[174],[71],[164],[175,176],[175],[30],[20],[177,20],[178,18],[],[],[49,49,179,59],[],[],[84],[180,83,83],[],[96,181,96,182,183],[91],[131,140,184,131],[184,131,132,132],[131],[185],[95],[186],[],[188,187],[189]]
theorem a100:((FL.drop 100).take 50).map Tryz.prog.leadsTo=d100:=by kernel_rfl
def d150:List (List Nat):=[[102,64],[190],[],[],[191,192,20],[153,193,194,153,195,108],[30,196],[],[108,159,197],[109],[198,199,200,201],[],[18,18],[46,8,124],[18,18,89,89],[166],[202],[31],[],[],[],[],[203],[],[],[204],[205],[35,35,206],[57,20,20],[184,131,131],[],[],[],[],[],[],[207],[102,102],[208,187],[190],[],[209],[210,211],[193],[44,212],[195],[30,29],[17],[44,213],[44,146,146,214,215,216,217,218,219,220]]
theorem a150:((FL.drop 150).take 50).map Tryz.prog.leadsTo=d150:=by kernel_rfl
def d200:List (List Nat):=[[44,44,221,222,223,224,196,225,226,156,225,227],[44,44,228,227,228,227,229,230,231,232,233,234],[],[],[],[],[57],[144,183,144,182,183,235],[102,236,237,149],[238],[],[49,184,131,59],[21,31,239,239,167,212],[241,240,8,30,243,242,244,247,246,245,247,248],[249,252,251,252,251,250,253,249,252,251,254,253,249,256,255,249,256,255,249,256,255,249,256,255],[249,258,257,261,261,260,259,249,258,262,253,249,258,263,261,261,261,260,259,249,258,264,260,156,259,249,258,265,253,249,258,266,253,249,258,267,253],[249,258,258,268,249,258,269,261,261,260,259,249,258,271,270,249,258,272,253,249,258,274,273,249,258,275,273,249,276,253],[249,277,17,259,249,278,249,279,17,259,249,280,256,259],[281,281,282,249,283,284,259,249,285,286,259,249,287,284,259,249,288,256,259,249,289,290,259,249,291,290,259,249,292,284,284,260,259,249,293,249,294,284,259],[295,273,249,296,256,255,249,256,255,249,252,297,270,249,282,252,299,298,286,255,249,300,273,249,282,301,290,255,249,302,273,303,304],[249,305,270,249,306,270,249,162,241,196,255,249,270,249,270,249,252,55,252,18,171,227,255,249,252,252,252,307,259,270,249,308,249,256,255],[163,309,18],[],[],[28,68,310,68,29],[156],[311,312,312,312,312,312,313,226],[8,156,156],[314,315,316,247,317,318,319,228],[314,227],[320,321,321],[322,240,8,30,322,243,242,323],[324,325,240,279,326,242],[29,240,327,242,328,247,329,245,247,330],[213,233],[331],[332,102,208],[208],[],[46,167,167],[],[46,128],[],[28,333,41],[335,336],[],[120,338,337],[341],[343,342],[281]]
theorem a200:((FL.drop 200).take 50).map Tryz.prog.leadsTo=d200:=by kernel_rfl
def d250:List (List Nat):=[[67,67,344,345],[309],[346],[261,259],[67,344,347],[259],[8,156],[40,348,349,350,350],[351],[],[],[15,17],[352],[40,353,354,355,355,355],[263,43,18],[356,358,357],[356,359,357],[265,358],[259,360,256,361,261,260,259,256,17,260,255],[257,362,364,363,365,363,366,367,363,364,363,367,363,364,363,364,363,368,363,368,363],[156,259],[369,370],[40,371,372,128],[259],[369,373],[369,374,254,375,377,377,376,163,128,8,367,375],[378,8,124,250,375,8,336],[28,379,41],[380,372,259,30,30,322,196,255],[28,41,382,381,384,41],[28,381,385,41],[346,351],[341],[120,386,337],[],[120,387],[8,156],[120,337,388,387,389,337],[120,387,390,337],[391,392,393],[],[391,395,394],[396,397,398,399,287],[400,260,401,290,259],[402,404,403],[346,378],[378],[48,47],[339,403],[401,21,20,405,55]]
theorem a250:((FL.drop 250).take 50).map Tryz.prog.leadsTo=d250:=by kernel_rfl
def d300:List (List Nat):=[[8,48,378],[339,402],[406,406,129,407,407,408,407,409],[249,249,249,252,55,341,252,18,259,410,249,21,20,261,255,249,21,20,273],[249,249,259,282,411,290,255,290,290,290,260,255,249,252,252,129,270,249,252,252,412,156,156,156,260,255],[46,413],[46,414],[18,18,415,8,416,31,48,416,417,48,416],[418,418,419,156,156,260,259],[55,18],[],[],[60],[],[420,162],[421,422,423],[244],[424,426,425],[],[],[334,240,428,242,429,247,430,245,247,431],[243,242,163,409],[46,46,48,48,82],[378,378,432,130,409,433,244,378],[163,309,212],[46,162,127,46,434,434,127,46],[30,8,30,428,428],[421,435,41],[335,47],[424,436,337],[403,342],[],[437,102,438,149],[310,334],[46,46,48,48,46],[432,432,378],[128,47],[427],[340,339],[427,427,401],[],[171],[439,439,402],[427,401,427,401],[20],[],[163],[8],[43,8],[440,18,8,441,442]]
theorem a300:((FL.drop 300).take 50).map Tryz.prog.leadsTo=d300:=by kernel_rfl
def d350:List (List Nat):=[[],[380,8,124],[443,444,43,405,445,446],[254,254,447,447,447],[8,448,449,450,451,451,449,18,452,452],[],[40,453,344],[356],[257,362,364,359],[257,362,364],[40,263,454,455,265,456],[261],[40,457],[],[40,458,344],[356,367],[459,460],[40,40,461,344],[40,40,67,462,344],[40],[43,47],[40,43],[463,128],[254,375,8,367,375,370,128,8,130,465,375,464,375,378],[466,250,375,8,467,302,323,429],[],[28,28,381,115,468,469,41],[30],[18,20],[310],[28,310,41,8,470,20,30,334,163],[471,472],[383,68],[8,30],[],[],[340],[473,474],[],[],[],[120],[475,476],[404,431,339,339,477,248],[479,478,431,480],[482,481,404,430],[120],[483,484,485,486,487],[488,402,480,318,294],[430,283]]
theorem a350:((FL.drop 350).take 50).map Tryz.prog.leadsTo=d350:=by kernel_rfl
def d400:List (List Nat):=[[396,397],[],[427,427],[427,427,401],[343],[18,489],[129],[378,406,18,128,130],[378,378,432,409,433,328,409,409,433,244,378],[48,378],[281,401,490,290,255,281,258,491,401,284,259,401,252,299,284,255],[402,402,492,494,493,477,477,478,478,431,248,478],[18,495,18,8,496,495,130,489,48,336,130],[178,18,18,497,336,47],[18,128,128,47,47,47,413],[18,412,8,124,416],[405],[],[346],[8,405,20,498,499,500,500,501,502,500],[241,29],[28,28],[],[314],[120,120],[],[427,427],[401],[28,28,503,41],[378,378,48,47,378],[120,120,504,337],[402,402,339,403,402],[],[],[505,20],[310,310,29],[340,340,403],[151,107,102,506,149,102,508,149,102,509,149,102,510,149,151],[103,102,103,106],[],[412,18,130,130,441,128,441],[48,48,47],[413,8,128,441],[511,8,43,495],[],[18,412,130,130,512,128,512],[413,48,336],[43],[18,495,495,164,513,513],[413,128,451,128,451,18,413,128,514,128,514,18]]
theorem a400:((FL.drop 400).take 50).map Tryz.prog.leadsTo=d400:=by kernel_rfl
def d450:List (List Nat):=[[130],[48,47],[128],[70],[515,367],[516,18,18,47,517,130,517,454],[356,518,519,413,48,336],[518,520],[70],[40,521,522],[523,524,525,523],[70,70,48,47],[70,70],[40,526,527],[528,529,344],[40,530,344],[8,378],[377,377,376,163,128,8,367,375],[162],[202,68],[177,31,31,531,85],[224,224],[533,532,383,322,334,534],[427,340,427,340,427],[536,535,404,339,493,339,537],[538,539,539],[540,493,339,541],[339,402],[402,402,493,339,339,343,402,402],[402,402,478,480],[494,493,477],[120,120,387,172,542,543,337],[],[120,545,544],[546,547,547,548,548,548,549,550,550,550],[546,551,550,550],[546,552,402],[553,430,486,403],[402],[178,18,18,497,336,47,497,47,336],[299,402],[40,554,337],[478,431,248],[427,401,555],[402],[20],[497,20,20,18,178,48,336,18,128,128],[8],[556],[]]
theorem a450:((FL.drop 450).take 50).map Tryz.prog.leadsTo=d450:=by kernel_rfl
def d500:List (List Nat):=[[557],[412,336,130,130,48,416,48,48,47,416],[558],[68,310,310,334,29],[340,340,339,403],[31,31,31,35,21,58,85],[507],[102,103,102,106],[103,106],[103,102,102,106],[507],[463,559],[48,48,47,405],[],[48,47],[],[43],[43,82],[],[18],[18],[18,8,48,164,164],[40,560,8,8,561,561,18],[562,414,48,336,48,336,48,336],[48,48,47,48,48,48,164],[48,48,47,563,48,48,336,563,48,48,47,563],[8,43],[564,565],[40,40],[70,70,47],[70,48],[57],[],[162],[334,420],[],[],[339,343],[170,337,388],[566],[],[339,343,339,343,339,403],[],[202],[402],[404],[567,567],[567,544,568],[486],[569,570,571,572,572,570,493,477]]
theorem a500:((FL.drop 500).take 50).map Tryz.prog.leadsTo=d500:=by kernel_rfl
def d550:List (List Nat):=[[],[547,548,548,573],[],[546,488],[43,299],[427,339,339],[],[556],[],[],[356,574],[43,48,48,336,563],[47,495,164],[130],[18],[48,48,336,130],[120,340,337],[],[],[575,575],[478,576,572,576,572,478,576,577,576,577],[478],[431,330],[578,493,579,478,580,579],[528,581,124],[],[248],[431,330],[411,478,478,579,580,579],[431,431,330],[248],[],[],[],[],[],[],[],[],[],[],[],[],[],[],[],[],[],[],[164]]
theorem a550:((FL.drop 550).take 50).map Tryz.prog.leadsTo=d550:=by kernel_rfl
def d600:List (List Nat):=[[],[],[],[],[],[],[],[],[],[]]
theorem a600:((FL.drop 600).take 10).map Tryz.prog.leadsTo=d600:=by kernel_rfl
theorem b0:(FL.drop 0).map Tryz.prog.leadsTo=((FL.drop 0).take 50).map Tryz.prog.leadsTo++(FL.drop 50).map Tryz.prog.leadsTo:=by rw[<-List.map_append,<-dx FL 0 50 50 rfl]
theorem b50:(FL.drop 50).map Tryz.prog.leadsTo=((FL.drop 50).take 50).map Tryz.prog.leadsTo++(FL.drop 100).map Tryz.prog.leadsTo:=by rw[<-List.map_append,<-dx FL 50 50 100 rfl]
theorem b100:(FL.drop 100).map Tryz.prog.leadsTo=((FL.drop 100).take 50).map Tryz.prog.leadsTo++(FL.drop 150).map Tryz.prog.leadsTo:=by rw[<-List.map_append,<-dx FL 100 50 150 rfl]
theorem b150:(FL.drop 150).map Tryz.prog.leadsTo=((FL.drop 150).take 50).map Tryz.prog.leadsTo++(FL.drop 200).map Tryz.prog.leadsTo:=by rw[<-List.map_append,<-dx FL 150 50 200 rfl]
theorem b200:(FL.drop 200).map Tryz.prog.leadsTo=((FL.drop 200).take 50).map Tryz.prog.leadsTo++(FL.drop 250).map Tryz.prog.leadsTo:=by rw[<-List.map_append,<-dx FL 200 50 250 rfl]
theorem b250:(FL.drop 250).map Tryz.prog.leadsTo=((FL.drop 250).take 50).map Tryz.prog.leadsTo++(FL.drop 300).map Tryz.prog.leadsTo:=by rw[<-List.map_append,<-dx FL 250 50 300 rfl]
theorem b300:(FL.drop 300).map Tryz.prog.leadsTo=((FL.drop 300).take 50).map Tryz.prog.leadsTo++(FL.drop 350).map Tryz.prog.leadsTo:=by rw[<-List.map_append,<-dx FL 300 50 350 rfl]
theorem b350:(FL.drop 350).map Tryz.prog.leadsTo=((FL.drop 350).take 50).map Tryz.prog.leadsTo++(FL.drop 400).map Tryz.prog.leadsTo:=by rw[<-List.map_append,<-dx FL 350 50 400 rfl]
theorem b400:(FL.drop 400).map Tryz.prog.leadsTo=((FL.drop 400).take 50).map Tryz.prog.leadsTo++(FL.drop 450).map Tryz.prog.leadsTo:=by rw[<-List.map_append,<-dx FL 400 50 450 rfl]
theorem b450:(FL.drop 450).map Tryz.prog.leadsTo=((FL.drop 450).take 50).map Tryz.prog.leadsTo++(FL.drop 500).map Tryz.prog.leadsTo:=by rw[<-List.map_append,<-dx FL 450 50 500 rfl]
theorem b500:(FL.drop 500).map Tryz.prog.leadsTo=((FL.drop 500).take 50).map Tryz.prog.leadsTo++(FL.drop 550).map Tryz.prog.leadsTo:=by rw[<-List.map_append,<-dx FL 500 50 550 rfl]
theorem b550:(FL.drop 550).map Tryz.prog.leadsTo=((FL.drop 550).take 50).map Tryz.prog.leadsTo++(FL.drop 600).map Tryz.prog.leadsTo:=by rw[<-List.map_append,<-dx FL 550 50 600 rfl]
theorem b600:(FL.drop 600).map Tryz.prog.leadsTo=((FL.drop 600).take 10).map Tryz.prog.leadsTo++(FL.drop 610).map Tryz.prog.leadsTo:=by rw[<-List.map_append,<-dx FL 600 10 610 rfl]
def adjL:List (List Nat):=d0++(d50++(d100++(d150++(d200++(d250++(d300++(d350++(d400++(d450++(d500++(d550++(d600))))))))))))
theorem len:FL.length=610:=by kernel_rfl
theorem bEnd:FL.drop 610=[]:=List.drop_eq_nil_of_le (by rw[len];exact Nat.le_refl _)
theorem adj:FL.map Tryz.prog.leadsTo=adjL:=by
 rw[show FL=FL.drop 0 from rfl,b0,a0,b50,a50,b100,a100,b150,a150,b200,a200,b250,a250,b300,a300,b350,a350,b400,a400,b450,a450,b500,a500,b550,a550,b600,a600,bEnd]
 kernel_rfl
def adjF(f:Nat):List Nat:=adjL.getD f []
theorem azE(f:Nat):(Tryz.prog.funcs[f]?).elim [] Tryz.prog.leadsTo=adjF f:=by
 unfold adjF;rw[<-adj,List.getD_eq_getElem?_getD,List.getElem?_map,Array.getElem?_toList]
 cases Tryz.prog.funcs[f]? <;> rfl
theorem fuel:(FL.map fun g=>(Tryz.prog.leadsTo g).length+1).sum=(adjL.map fun l=>l.length+1).sum:=by
 rw[<-adj,List.map_map];rfl
def c0:List Nat:=[3,4,12,11,22,36,37,61,95,96,144,185,62,97,145,98,99,100,101,146,186,207,183,182,235,331,38,63,64,102,147,103,148,188,208,236,332,437,151,190,107,152,506,507,106,149,189,508,509,510,438,237,187,104,150,105,65,23,39,66]
def c1:List Nat:=[108,153,109,154,191,209,238,192,210,211,49,184,131,59,20,35,60,156,30,8,21,196,29,46,82,18,31,50,127,128,129,177,206,57,89,90,140,91,92,93,141,142,132,143,94,130,178,48,85,133,179,134,135,83,136,84,137,180,47,155]
def c2:List Nat:=[193,194,44,71,113,165,166,202,167,114,119,124,164,28,115,168,116,117,169,118,120,170,121,171,173,172,203,123,122,174,212,239,195,157,158,159,197,17,160,198,213,241,240,243,333,310,334,41,68,242,244,335,432,378,336,247,341,246,338,340]
def c3:List Nat:=[339,427,401,337,245,248,343,342,439,402,199,214,249,281,346,163,351,380,470,531,252,251,309,55,250,67,344,345,253,261,15,26,40,42,43,69,70,259,254,347,256,255,215,258,257,348,349,440,412,495,496,497,489,441,442,413,350,260,262,352]
def c4:List Nat:=[443,511,463,526,527,564,565,559,444,405,445,512,446,263,353,447,354,448,513,449,451,514,450,452,355,264,265,356,453,358,362,457,518,520,364,458,359,357,266,267,216,268,360,454,515,367,461,455,516,517,456,519,361,269,363,365,366,459,521,522]
def c5:List Nat:=[560,574,528,581,561,563,460,523,562,414,524,525,368,462,271,369,370,270,272,371,372,274,373,375,465,530,464,529,273,275,374,466,467,377,376,381,471,224,472,533,162,532,383,322,534,420,468,469,302,406,407,408,409,433,328,323,429,276,217,277]
def c6:List Nat:=[379,278,279,382,384,280,385,218,282,283,386,284,285,387,473,474,536,535,404,493,555,537,286,287,388,389,288,390,289,391,392,475,538,539,566,476,540,541,403,393,431,477,290,291,395,482,481,542,543,430,504,394,479,478,480,494,292,396,397,483]
def c7:List Nat:=[545,544,484,546,567,547,568,548,486,552,549,569,575,570,576,572,330,577,571,550,485,551,573,578,411,492,579,580,487,553,488,398,318,294,399,293,400,219,295,296,297,299,298,300,301,303,410,490,491,554,304,220,305,306,227,307,415,416,417,308]
def c8:List Nat:=[418,419,498,556,499,500,557,501,502,558,200,221,222,223,225,226,311,312,313,201,228,314,315,421,422,423,316,317,424,426,425,319,229,230,320,428,503,321,231,232,324,325,434,505,58,326,233,327,435,329,436,234,110,27,45,72,7,19,34,33]
def c9:List Nat:=[56,32,51,52,53,86,54,87,138,88,139,181,74,73,79,81,125,175,204,176,205,126,24,76,75,78,77,80,161,111,112,5,13,25,14,6,16,9,10]
def clo:List Nat:=c0++(c1++(c2++(c3++(c4++(c5++(c6++(c7++(c8++(c9)))))))))
theorem rZ:Tryz.prog.closure 3=clo:=by
 unfold Program.closure;rw[show (Tryz.prog.funcs.toList.map fun g=>(Tryz.prog.leadsTo g).length+1).sum=(adjL.map fun l=>l.length+1).sum from fuel,ql azE _ _ _ 0 (by intro x;simp)]
 kernel_rfl
noncomputable def fI:Nat->Option String:=fun g=>(Tryz.prog.funcs[g]?).bind fun fn=>if fn.ours||fn.body.isNone||fn.name== "runtime.NumGoroutine" then some fn.name else none
noncomputable def fG:Nat->List Nat:=fun g=>((Tryz.prog.funcs[g]?).bind (·.body)).elim [] Code.globalsNamed
noncomputable def fR:Nat->Option String:=fun g=>(Tryz.prog.funcs[g]?).bind fun fn=>if fn.body.isNone then entryReads.lookup fn.name else none
noncomputable def fU:Nat->Bool:=fun g=>(Tryz.prog.funcs[g]?).any fun fn=>match fn.body with|some c=>c.unfollowed|none=>entryCalls fn
theorem i0:c0.filterMap fI=["internal/bytealg.IndexByteString", "internal/bytealg.IndexString"]:=by kernel_rfl
theorem g0:c0.flatMap fG=[4,4,4]:=by kernel_rfl
theorem r0:c0.filterMap fR=["internal/bytealg.MaxLen"]:=by kernel_rfl
theorem i1:c1.filterMap fI=["math/bits.Add64", "math/bits.Sub64"]:=by kernel_rfl
theorem g1:c1.flatMap fG=[2,3]:=by kernel_rfl
theorem r1:c1.filterMap fR=[]:=by kernel_rfl
theorem i2:c2.filterMap fI=[]:=by kernel_rfl
theorem g2:c2.flatMap fG=[]:=by kernel_rfl
theorem r2:c2.filterMap fR=[]:=by kernel_rfl
theorem i3:c3.filterMap fI=[]:=by kernel_rfl
theorem g3:c3.flatMap fG=[]:=by kernel_rfl
theorem r3:c3.filterMap fR=[]:=by kernel_rfl
theorem i4:c4.filterMap fI=[]:=by kernel_rfl
theorem g4:c4.flatMap fG=[]:=by kernel_rfl
theorem r4:c4.filterMap fR=[]:=by kernel_rfl
theorem i5:c5.filterMap fI=[]:=by kernel_rfl
theorem g5:c5.flatMap fG=[]:=by kernel_rfl
theorem r5:c5.filterMap fR=[]:=by kernel_rfl
theorem i6:c6.filterMap fI=[]:=by kernel_rfl
theorem g6:c6.flatMap fG=[]:=by kernel_rfl
theorem r6:c6.filterMap fR=[]:=by kernel_rfl
theorem i7:c7.filterMap fI=[]:=by kernel_rfl
theorem g7:c7.flatMap fG=[]:=by kernel_rfl
theorem r7:c7.filterMap fR=[]:=by kernel_rfl
theorem i8:c8.filterMap fI=[]:=by kernel_rfl
theorem g8:c8.flatMap fG=[]:=by kernel_rfl
theorem r8:c8.filterMap fR=[]:=by kernel_rfl
theorem i9:c9.filterMap fI=["internal/abi.NoEscape", "internal/bytealg.MakeNoZero"]:=by kernel_rfl
theorem g9:c9.flatMap fG=[0,1]:=by kernel_rfl
theorem r9:c9.filterMap fR=[]:=by kernel_rfl
theorem aa4:clo=c0++(c1++(c2++(c3++(c4++(c5++(c6++(c7++(c8++(c9))))))))):=by kernel_rfl
theorem akt:Tryz.prog.inPlace 3=["internal/bytealg.IndexByteString", "internal/bytealg.IndexString", "math/bits.Add64", "math/bits.Sub64", "internal/abi.NoEscape", "internal/bytealg.MakeNoZero"]:=by
 show (Tryz.prog.closure 3).filterMap fI=_;rw[rZ,aa4];simp only[List.filterMap_append,i0,i1,i2,i3,i4,i5,i6,i7,i8,i9];rfl
theorem wD:Tryz.prog.unfollowed 3=true:=by
 show (Tryz.prog.closure 3).any fU=true;rw[rZ]
 kernel_rfl
theorem aiX:Tryz.prog.recurses 3=true:=by
 unfold Program.recurses;rw[wD];rfl
theorem axv:Tryz.prog.varsNamed 3=["internal/bytealg.MaxLen", "math/bits.divideError", "math/bits.overflowError", "unicode/utf8.first", "unicode/utf8.acceptRanges"]:=by
 show ((((Tryz.prog.closure 3).flatMap fG).eraseDups).filterMap (fun g=>(Tryz.prog.globals[g]?).map (·.name))++(Tryz.prog.closure 3).filterMap fR).eraseDups=_
 rw[rZ,aa4];simp only[List.flatMap_append,List.filterMap_append,g0,g1,g2,g3,g4,g5,g6,g7,g8,g9,r0,r1,r2,r3,r4,r5,r6,r7,r8,r9]
 kernel_rfl

import Derived.Test.YtegehclknhmkgaaGreatDoorProg
import GoSem.ClaimFn
import Derived.KernelRfl
set_option linter.unusedVariables false
set_option linter.unusedSimpArgs false
namespace Go.Proofs.YtegehclknhmkgaaGreatDoor.facts
open Go
def clB(A:Nat→List Nat):Nat→List Nat→Nat→List Nat→List Nat
 |0,_,_,seen=>seen.reverse
 |_+1,[],_,seen=>seen.reverse
 |n+1,f::todo,m,seen=>match m.testBit f with
  |true=>clB A n todo m seen
  |false=>clB A n (A f++todo) (m ||| 1 <<< f) (f::seen)
theorem ap5{m f:Nat}{seen:List Nat}(h:∀x,seen.contains x=m.testBit x)(x:Nat):(f::seen).contains x=(m ||| 1 <<< f).testBit x:=by
 rw[List.contains_cons,h x,Nat.testBit_or,Nat.testBit_shiftLeft];by_cases hx:x=f
 ·subst hx;simp
 ·have h1:(x==f)=false:=by simpa using hx
  rw[h1,Bool.false_or];by_cases hle:f≤x
  ·have h2:(1:Nat).testBit (x - f)=false:=by
    obtain⟨k,hk⟩:∃k,x - f=k+1:=⟨x - f - 1,by omega⟩
    rw[hk,Nat.testBit_succ];simp
   simp[h2]
  ·simp[hle]
theorem mZ{P:Program}{A:Nat→List Nat}(hA:∀f,(P.funcs[f]?).elim [] P.leadsTo=A f):∀(n:Nat) (todo seen:List Nat) (m:Nat),(∀x,seen.contains x=m.testBit x)→P.closureVia n todo seen=clB A n todo m seen
 |0,_,_,_,_=>rfl
 |_+1,[],_,_,_=>rfl
 |n+1,f::todo,seen,m,h=>by
  unfold Program.closureVia clB;cases hb:m.testBit f with
  |true=>
   rw[if_pos (by rw[h f];exact hb)]
   exact mZ hA n todo seen m h
  |false=>
   rw[if_neg (by rw[h f,hb];decide),hA f]
   exact mZ hA n _ (f::seen) _ fun x=>ap5 h x
theorem bU{α:Type}(l:List α)(k n m:Nat)(h:k+n=m):l.drop k=(l.drop k).take n++l.drop m:=by
 rw[←h,←List.drop_drop,List.take_append_drop]
noncomputable abbrev FL:List Func:=Tryz.prog.funcs.toList
def d0:List (List Nat):=[[],[],[1],[6,5,6,5,8,7,9,6,5],[9,10,11,9,12,8,13,8,7,14],[15,16,16],[18,17,18,17],[19,20,21],[],[8,7],[22,10,23,24,25],[26,27,28,29,30,31,30,11],[32,33],[19,20],[32,32,34],[35],[38,37,36],[39],[],[40,41,42],[43],[],[],[],[23],[],[44,45,46],[47,47,15,49,6,48],[27,50],[15],[],[51],[52],[53,55,54,57,56,59,54,58,61,56,58,33,62],[63,64,65,67,66,68,69,34],[70,71],[72,73,74,75],[76,77,78,37,37],[18,35,35,79],[70,81,80],[],[82,83,82],[84,85,86],[87],[],[],[],[],[88],[89,17]]
theorem a0:((FL.drop 0).take 50).map Tryz.prog.leadsTo=d0:=by kernel_rfl
def d50:List (List Nat):=[[],[],[90,91,92,93,94,15,95,96,98,99,99,101,100],[102,5,6,48,5],[60,60,62,62],[53],[62],[5],[60],[60],[18,16],[60],[103,104,104,104,21],[106,105],[107,108,109],[110],[111,113,112],[115],[],[],[],[],[],[],[116],[117,118],[70],[],[39,39,119,120,18,121,122,122,123,124,39],[125],[70],[],[126,127],[128,129,130,131,132],[129,130,132,131],[133,134,135,133,135,133,136,137,134,137,134,135,138,136,137,134,137,134,137],[],[139,140,140,141,142,143,43],[15,15,119,119],[39,39,144],[145,147,147],[97,97,15,49,6,48],[],[148],[91],[149],[97],[],[150,150],[151,153,152]]
theorem a50:((FL.drop 50).take 50).map Tryz.prog.leadsTo=d50:=by kernel_rfl
def d100:List (List Nat):=[[154],[52],[155],[156,157],[156],[15,15],[159,158],[92,92],[],[63],[160,161],[98,98],[],[114,114],[162],[151],[],[163],[164],[70,70],[39,165,39],[71],[70,80],[166,167,168],[70,80],[39,39,169,170,171,170,171,125,125,173,173,125,172,172,174],[127],[175],[176],[126],[126,128],[],[177],[178],[179,133,179],[137,181,180],[138,182],[133,182],[183],[184],[139,185,187,186,188,186,189,186,190,191,186],[12,184,192,184,104],[140,184,105,87,87],[190,193,193,184,88,139,187,186,87,6,194],[78],[146],[195],[35],[],[]]
theorem a100:((FL.drop 100).take 50).map Tryz.prog.leadsTo=d100:=by kernel_rfl
def d150:List (List Nat):=[[],[],[196],[],[],[15,197,15,198,198,49,199,199],[200],[201],[102,102,202,202,194,202,102],[102,198],[203,203,204],[198,194],[],[],[127,205,127,206,207],[121],[208,165,209,208],[209,208,210,210],[208],[70,70,211,80],[],[],[212],[70,70,208,80],[213,173,173],[214],[126],[215],[],[217,216],[218],[133,85],[219],[],[],[220,221,17],[184,222,223,184,224,139],[226,225],[],[139,190,227],[140],[228,229,230,231],[],[102,6,48],[173,17,212,17,212,17],[],[],[226],[17],[232,15]]
theorem a150:((FL.drop 150).take 50).map Tryz.prog.leadsTo=d150:=by kernel_rfl
def d200:List (List Nat):=[[],[],[125,17],[],[15,17],[],[],[],[],[],[],[209,208,208],[119,70,70,210,80],[],[],[233],[133,133],[234,216],[219],[],[235],[236,237],[222],[32,238],[224],[226,158],[17,6],[239],[32,240],[32,177,177,241,242,243,244,245,246,247],[32,32,248,249,250,251,225,252,253,187,252,254],[32,32,34,254,34,254,255,256,257,258,259,260],[78,17,17],[175,207,175,206,207,261],[133,262,263,180],[264],[],[70,209,208,80],[18,35,265,265,147,238],[92,226,158],[159,266,6,226,268,267,110,67,270,269,67,271],[272,275,274,275,274,273,276,272,275,274,277,276,272,279,278,272,279,278,272,279,278,272,279,278],[272,281,280,284,284,283,282,272,281,285,276,272,281,286,284,284,284,283,282,272,281,287,283,187,282,272,281,288,276,272,281,289,276,272,281,290,276],[272,281,281,291,272,281,292,284,284,283,282,272,281,294,293,272,281,295,276,272,281,297,296,272,281,298,296,272,299,276],[272,300,239,282,272,301,272,302,239,282,272,303,279,282],[304,304,305,272,306,307,282,272,308,309,282,272,310,307,282,272,311,279,282,272,312,313,282,272,314,313,282,272,315,307,307,283,282,272,316,272,317,307,282],[318,296,272,319,279,278,272,279,278,272,275,320,293,272,305,275,322,321,309,278,272,323,296,272,305,324,313,278,272,325,296,326,327],[272,328,293,272,329,293,272,105,159,225,278,272,293,272,293,272,275,76,275,15,151,254,278,272,275,275,275,330,282,293,272,331,272,279,278],[193,332,15],[]]
theorem a200:((FL.drop 200).take 50).map Tryz.prog.leadsTo=d200:=by kernel_rfl
def d250:List (List Nat):=[[],[92,333,334,333,158],[187],[335,336,336,336,336,336,337,253],[6,187,187],[63,254],[338,339,339],[340,266,6,226,340,268,267,341],[342,343,266,302,344,267],[158,266,345,267,346,67,347,269,67,348],[240,259],[349],[350,133,234],[234],[],[102,147,147],[],[],[92,352,351],[],[98,355,354],[359,358],[304],[360,360,361,362],[332],[363],[284,282],[360,361,364],[282],[6,187],[365,366,367,368,368],[369],[],[],[370,239],[371],[365,372,373,374,374,374],[286,375,15],[376,378,377],[376,379,377],[288,378],[282,380,279,381,284,283,282,279,239,283,278],[280,382,384,383,385,383,386,387,383,384,383,387,383,384,383,384,383,388,383,388,383],[187,282],[389,390],[365,391,392,198],[282],[389,393],[389,394,277,395,397,397,396,193,198,6,387,395],[204,6,48,273,395,6,161]]
theorem a250:((FL.drop 250).take 50).map Tryz.prog.leadsTo=d250:=by kernel_rfl
def d300:List (List Nat):=[[92,398,351],[399,392,282,226,226,340,225,278],[92,351,401,400,403,351],[92,400,404,351],[363,369],[115],[98,405,354],[],[98,406],[6,187],[98,354,407,406,408,354],[98,406,409,354],[410,411,412],[],[410,414,413],[415,416,417,418,310],[419,283,162,313,282],[420,422,421],[363,204],[204],[202,194],[356,421],[162,18,17,423,76],[6,202,204],[356,420],[424,424,49,425,425,426,425,427],[272,272,272,275,76,115,275,15,282,428,272,18,17,284,278,272,18,17,296],[272,272,282,305,429,313,278,313,313,313,283,278,272,275,275,49,293,272,275,275,430,187,187,187,283,278],[102,431],[102,432],[15,15,433,6,434,35,202,434,435,202,434],[436,436,437,187,187,283,282],[76,15],[226],[],[],[81],[],[353,266,438,267,439,67,440,269,67,441],[268,267,193,427],[102,102,202,202,155],[204,204,203,199,427,442,110,204],[193,332,238],[102,105,197,102,443,443,197,102],[226,6,226,438,438],[107,444,351],[160,194],[111,445,354],[421,358],[]]
theorem a300:((FL.drop 300).take 50).map Tryz.prog.leadsTo=d300:=by kernel_rfl
def d350:List (List Nat):=[[446,133,447,180],[333,158],[334,353],[102,102,202,202,102],[114],[357,356],[114,114,162],[],[448,448,420],[114,162,114,162],[],[17],[],[193],[6],[360,360],[375,6],[449,15,6,450,451],[],[399,6,48],[6,452],[453,454,375,423,455,456],[277,277,457,457,457],[6,458,459,460,461,461,459,15,462,462],[],[365,463,464,17],[365,465,361],[376],[280,382,384,379],[280,382,384],[365,286,466,467,288,468],[284],[365,469],[],[365,470,361],[376,387],[471,472],[365,365,473,361],[365,365,360,474,361],[365],[375,194],[365,375],[475,198],[277,395,6,387,395,390,198,6,199,477,395,476,395,204],[478,273,395,6,479,325,341,439],[],[92,92,400,93,480,481,351],[226],[334],[92,334,351,6,482,17,226,353,193]]
theorem a350:((FL.drop 350).take 50).map Tryz.prog.leadsTo=d350:=by kernel_rfl
def d400:List (List Nat):=[[483,484],[402,333],[6,226],[],[],[357],[485,486],[],[],[],[98],[487,488],[422,441,356,356,489,271],[491,490,441,492],[494,493,422,440],[98],[495,496,497,498,499],[500,420,492,68,317],[440,306],[415,416],[114,114],[114,114,162],[359],[15,501],[49],[204,424,15,198,199],[204,204,203,427,442,346,427,427,442,110,204],[202,204],[304,162,502,313,278,304,281,503,162,307,282,162,275,322,307,278],[420,420,504,506,505,489,489,490,490,441,271,490],[15,507,15,6,508,507,199,501,202,161,199],[232,15,15,509,161,194],[15,198,198,194,194,194,431],[15,430,6,48,434],[423],[],[363],[6,423,17,510,511,512,512,513,514,512],[92,92,515,351],[204,204,202,194,204],[98,98,516,354],[420,420,356,421,420],[],[517,17],[334,334,158],[357,357,421],[182,138,133,518,180,133,520,180,133,521,180,133,522,180,182],[134,133,134,137],[],[430,15,199,199,450,198,450]]
theorem a400:((FL.drop 400).take 50).map Tryz.prog.leadsTo=d400:=by kernel_rfl
def d450:List (List Nat):=[[202,202,194],[431,6,198,450],[365,15,523,351],[524,6,375,507],[],[15,430,199,199,525,198,525],[431,202,161],[375],[15,507,507,88,526,526],[431,198,461,198,461,15,431,198,527,198,527,15],[199],[202,194],[198],[],[],[464],[528,387],[529,15,15,194,530,199,530,466],[376,531,532,431,202,161],[531,533],[464],[365,534,535],[536,537,538,536],[464,464,202,194],[464,464],[365,539,540],[541,542,361],[365,543,361],[6,204],[397,397,396,193,198,6,387,395],[105],[195,333],[89,35,35,544,125],[251,251],[546,545,402,340,353,547],[114,357,114,357,114],[549,548,422,356,505,356,550],[551,552,552],[553,505,356,554],[356,420],[420,420,505,356,356,359,420,420],[420,420,490,492],[506,505,489],[98,98,406,152,555,556,354],[],[98,558,557],[559,560,560,561,561,561,562,563,563,563],[559,564,563,563],[559,565,420],[566,440,498,421]]
theorem a450:((FL.drop 450).take 50).map Tryz.prog.leadsTo=d450:=by kernel_rfl
def d500:List (List Nat):=[[420],[232,15,15,509,161,194,509,194,161],[322,420],[365,567,354],[490,441,271],[114,162,568],[420],[17],[509,17,17,15,232,202,161,15,198,198],[6],[569],[],[570],[430,161,199,199,202,434,202,202,194,434],[571],[333,334,334,353,158],[357,357,356,421],[35,35,35,39,18,79,125],[519],[133,134,133,137],[134,137],[134,133,133,137],[519],[375],[475,572],[202,202,194,423],[],[202,194],[],[375],[375,155],[],[15],[15],[15,6,202,88,88],[365,573,6,6,574,574,15],[575,432,202,161,202,161,202,161],[202,202,194,202,202,202,88],[202,202,194,576,202,202,161,576,202,202,194,576],[6,375],[577,578],[365,365],[464,464,194],[464,202],[78],[],[105],[353,106],[],[]]
theorem a500:((FL.drop 500).take 50).map Tryz.prog.leadsTo=d500:=by kernel_rfl
def d550:List (List Nat):=[[356,359],[150,354,407],[579],[],[356,359,356,359,356,421],[],[195],[420],[422],[580,580],[580,557,581],[498],[582,583,584,585,585,583,505,489],[],[560,561,561,586],[],[559,500],[375,322],[114,356,356],[],[569],[],[],[376,587],[375,202,202,161,576],[194,507,88],[199],[15],[202,202,161,199],[98,357,354],[],[],[588,588],[490,589,585,589,585,490,589,590,589,590],[490],[441,348],[591,505,592,490,593,592],[541,594,48],[],[271],[441,348],[429,490,490,592,593,592],[441,441,348],[271],[],[],[],[],[],[]]
theorem a550:((FL.drop 550).take 50).map Tryz.prog.leadsTo=d550:=by kernel_rfl
def d600:List (List Nat):=[[],[],[],[],[],[],[],[],[],[],[],[],[88],[],[],[],[],[],[],[],[],[],[]]
theorem a600:((FL.drop 600).take 23).map Tryz.prog.leadsTo=d600:=by kernel_rfl
theorem b0:(FL.drop 0).map Tryz.prog.leadsTo=((FL.drop 0).take 50).map Tryz.prog.leadsTo++(FL.drop 50).map Tryz.prog.leadsTo:=by rw[←List.map_append,←bU FL 0 50 50 rfl]
theorem b50:(FL.drop 50).map Tryz.prog.leadsTo=((FL.drop 50).take 50).map Tryz.prog.leadsTo++(FL.drop 100).map Tryz.prog.leadsTo:=by rw[←List.map_append,←bU FL 50 50 100 rfl]
theorem b100:(FL.drop 100).map Tryz.prog.leadsTo=((FL.drop 100).take 50).map Tryz.prog.leadsTo++(FL.drop 150).map Tryz.prog.leadsTo:=by rw[←List.map_append,←bU FL 100 50 150 rfl]
theorem b150:(FL.drop 150).map Tryz.prog.leadsTo=((FL.drop 150).take 50).map Tryz.prog.leadsTo++(FL.drop 200).map Tryz.prog.leadsTo:=by rw[←List.map_append,←bU FL 150 50 200 rfl]
theorem b200:(FL.drop 200).map Tryz.prog.leadsTo=((FL.drop 200).take 50).map Tryz.prog.leadsTo++(FL.drop 250).map Tryz.prog.leadsTo:=by rw[←List.map_append,←bU FL 200 50 250 rfl]
theorem b250:(FL.drop 250).map Tryz.prog.leadsTo=((FL.drop 250).take 50).map Tryz.prog.leadsTo++(FL.drop 300).map Tryz.prog.leadsTo:=by rw[←List.map_append,←bU FL 250 50 300 rfl]
theorem b300:(FL.drop 300).map Tryz.prog.leadsTo=((FL.drop 300).take 50).map Tryz.prog.leadsTo++(FL.drop 350).map Tryz.prog.leadsTo:=by rw[←List.map_append,←bU FL 300 50 350 rfl]
theorem b350:(FL.drop 350).map Tryz.prog.leadsTo=((FL.drop 350).take 50).map Tryz.prog.leadsTo++(FL.drop 400).map Tryz.prog.leadsTo:=by rw[←List.map_append,←bU FL 350 50 400 rfl]
theorem b400:(FL.drop 400).map Tryz.prog.leadsTo=((FL.drop 400).take 50).map Tryz.prog.leadsTo++(FL.drop 450).map Tryz.prog.leadsTo:=by rw[←List.map_append,←bU FL 400 50 450 rfl]
theorem b450:(FL.drop 450).map Tryz.prog.leadsTo=((FL.drop 450).take 50).map Tryz.prog.leadsTo++(FL.drop 500).map Tryz.prog.leadsTo:=by rw[←List.map_append,←bU FL 450 50 500 rfl]
theorem b500:(FL.drop 500).map Tryz.prog.leadsTo=((FL.drop 500).take 50).map Tryz.prog.leadsTo++(FL.drop 550).map Tryz.prog.leadsTo:=by rw[←List.map_append,←bU FL 500 50 550 rfl]
theorem b550:(FL.drop 550).map Tryz.prog.leadsTo=((FL.drop 550).take 50).map Tryz.prog.leadsTo++(FL.drop 600).map Tryz.prog.leadsTo:=by rw[←List.map_append,←bU FL 550 50 600 rfl]
theorem b600:(FL.drop 600).map Tryz.prog.leadsTo=((FL.drop 600).take 23).map Tryz.prog.leadsTo++(FL.drop 623).map Tryz.prog.leadsTo:=by rw[←List.map_append,←bU FL 600 23 623 rfl]
def adjL:List (List Nat):=d0++(d50++(d100++(d150++(d200++(d250++(d300++(d350++(d400++(d450++(d500++(d550++(d600))))))))))))
theorem len:FL.length=623:=by kernel_rfl
theorem bEnd:FL.drop 623=[]:=List.drop_eq_nil_of_le (by rw[len];exact Nat.le_refl _)
theorem adj:FL.map Tryz.prog.leadsTo=adjL:=by
 rw[show FL=FL.drop 0 from rfl,b0,a0,b50,a50,b100,a100,b150,a150,b200,a200,b250,a250,b300,a300,b350,a350,b400,a400,b450,a450,b500,a500,b550,a550,b600,a600,bEnd]
 kernel_rfl
def adjF(f:Nat):List Nat:=adjL.getD f []
theorem atp(f:Nat):(Tryz.prog.funcs[f]?).elim [] Tryz.prog.leadsTo=adjF f:=by
 unfold adjF;rw[←adj,List.getD_eq_getElem?_getD,List.getElem?_map,Array.getElem?_toList]
 cases Tryz.prog.funcs[f]? <;> rfl
theorem fuel:(FL.map fun g=>(Tryz.prog.leadsTo g).length+1).sum=(adjL.map fun l=>l.length+1).sum:=by
 rw[←adj,List.map_map];rfl
def c0:List Nat:=[4,9,8,7,19,40,41,82,126,127,175,214,83,128,176,129,130,131,132,177,215,233,207,206,261,349,42,84,85,133,178,134,179,217,234,262,350,446,182,219,138,183,518,519,137,180,218,520,521,522,447,263,216,135,181,136,86,20,43,87]
def c1:List Nat:=[139,184,140,185,220,235,264,221,236,237,70,209,208,80,17,39,81,187,226,6,18,225,158,102,155,15,35,71,197,198,49,89,144,78,119,120,165,121,122,123,166,167,210,168,124,199,232,202,125,169,211,170,171,173,172,212,174,213,194,186]
def c2:List Nat:=[222,223,32,52,90,145,146,195,147,91,97,48,88,92,93,148,94,95,149,96,98,150,99,151,153,152,196,101,100,154,238,265,224,188,189,190,227,239,191,228,240,159,266,268,352,334,353,351,333,267,110,160,203,204,161,67,115,270,355,357]
def c3:List Nat:=[356,114,162,354,269,271,359,358,448,420,229,241,272,304,363,193,369,399,482,544,275,274,332,76,273,360,361,362,276,284,370,452,365,523,375,463,464,282,277,364,279,278,242,281,280,366,367,449,430,507,508,509,501,450,451,431,368,283,285,371]
def c4:List Nat:=[453,524,475,539,540,577,578,572,454,423,455,525,456,286,372,457,373,458,526,459,461,527,460,462,374,287,288,376,465,378,382,469,531,533,384,470,379,377,289,290,243,291,380,466,528,387,473,467,529,530,468,532,381,292,383,385,386,471,534,535]
def c5:List Nat:=[573,587,541,594,574,576,472,536,575,432,537,538,388,474,294,389,390,293,295,391,392,297,393,395,477,543,476,542,296,298,394,478,479,397,396,400,483,251,484,546,105,545,402,340,547,106,480,481,325,424,425,426,427,442,346,341,439,299,244,300]
def c6:List Nat:=[398,301,302,401,403,303,404,245,305,306,405,307,308,406,485,486,549,548,422,505,568,550,309,310,407,408,311,409,312,410,411,487,551,552,579,488,553,554,421,412,441,489,313,314,414,494,493,555,556,440,516,413,491,490,492,506,315,415,416,495]
def c7:List Nat:=[558,557,496,559,580,560,581,561,498,565,562,582,588,583,589,585,348,590,584,563,497,564,586,591,429,504,592,593,499,566,500,417,68,317,418,316,419,246,318,319,320,322,321,323,324,326,428,502,503,567,327,247,328,329,254,330,433,434,435,331]
def c8:List Nat:=[436,437,510,569,511,512,570,513,514,571,230,248,249,250,252,253,335,336,337,231,34,63,64,107,108,109,65,66,111,113,112,69,255,256,338,438,515,339,257,258,342,343,443,517,79,344,259,345,444,347,445,260,141,12,33,53,5,16,38,37]
def c9:List Nat:=[77,36,72,73,74,116,75,117,163,118,164,205,55,54,60,62,103,156,200,157,201,104,21,57,56,59,58,61,192,142,143,10,22,23,24,25,11,26,44,45,46,27,47,28,50,29,30,31,51,13,14]
def clo:List Nat:=c0++(c1++(c2++(c3++(c4++(c5++(c6++(c7++(c8++(c9)))))))))
theorem oO:Tryz.prog.closure 4=clo:=by
 unfold Program.closure;rw[show (Tryz.prog.funcs.toList.map fun g=>(Tryz.prog.leadsTo g).length+1).sum=(adjL.map fun l=>l.length+1).sum from fuel,mZ atp _ _ _ 0 (by intro x;simp)]
 kernel_rfl
noncomputable def fI:Nat→Option String:=fun g=>(Tryz.prog.funcs[g]?).bind fun fn=>if fn.ours||fn.body.isNone||fn.name== "runtime.NumGoroutine" then some fn.name else none
noncomputable def fG:Nat→List Nat:=fun g=>((Tryz.prog.funcs[g]?).bind (·.body)).elim [] Code.globalsNamed
noncomputable def fR:Nat→Option String:=fun g=>(Tryz.prog.funcs[g]?).bind fun fn=>if fn.body.isNone then entryReads.lookup fn.name else none
noncomputable def fU:Nat→Bool:=fun g=>(Tryz.prog.funcs[g]?).any fun fn=>match fn.body with|some c=>c.unfollowed|none=>entryCalls fn
theorem i0:c0.filterMap fI=["internal/bytealg.IndexByteString", "internal/bytealg.IndexString"]:=by kernel_rfl
theorem g0:c0.flatMap fG=[4,4,4]:=by kernel_rfl
theorem r0:c0.filterMap fR=["internal/bytealg.MaxLen"]:=by kernel_rfl
theorem i1:c1.filterMap fI=["math/bits.Add64", "math/bits.Sub64"]:=by kernel_rfl
theorem g1:c1.flatMap fG=[2,3]:=by kernel_rfl
theorem r1:c1.filterMap fR=[]:=by kernel_rfl
theorem i2:c2.filterMap fI=[]:=by kernel_rfl
theorem g2:c2.flatMap fG=[]:=by kernel_rfl
theorem r2:c2.filterMap fR=[]:=by kernel_rfl
theorem i3:c3.filterMap fI=[]:=by kernel_rfl
theorem g3:c3.flatMap fG=[]:=by kernel_rfl
theorem r3:c3.filterMap fR=[]:=by kernel_rfl
theorem i4:c4.filterMap fI=[]:=by kernel_rfl
theorem g4:c4.flatMap fG=[]:=by kernel_rfl
theorem r4:c4.filterMap fR=[]:=by kernel_rfl
theorem i5:c5.filterMap fI=[]:=by kernel_rfl
theorem g5:c5.flatMap fG=[]:=by kernel_rfl
theorem r5:c5.filterMap fR=[]:=by kernel_rfl
theorem i6:c6.filterMap fI=[]:=by kernel_rfl
theorem g6:c6.flatMap fG=[]:=by kernel_rfl
theorem r6:c6.filterMap fR=[]:=by kernel_rfl
theorem i7:c7.filterMap fI=[]:=by kernel_rfl
theorem g7:c7.flatMap fG=[]:=by kernel_rfl
theorem r7:c7.filterMap fR=[]:=by kernel_rfl
theorem i8:c8.filterMap fI=[]:=by kernel_rfl
theorem g8:c8.flatMap fG=[]:=by kernel_rfl
theorem r8:c8.filterMap fR=[]:=by kernel_rfl
theorem i9:c9.filterMap fI=["internal/abi.NoEscape", "internal/bytealg.MakeNoZero"]:=by kernel_rfl
theorem g9:c9.flatMap fG=[0,1]:=by kernel_rfl
theorem r9:c9.filterMap fR=[]:=by kernel_rfl
theorem xg:clo=c0++(c1++(c2++(c3++(c4++(c5++(c6++(c7++(c8++(c9))))))))):=by kernel_rfl
theorem ahn:Tryz.prog.inPlace 4=["internal/bytealg.IndexByteString", "internal/bytealg.IndexString", "math/bits.Add64", "math/bits.Sub64", "internal/abi.NoEscape", "internal/bytealg.MakeNoZero"]:=by
 show (Tryz.prog.closure 4).filterMap fI=_;rw[oO,xg];simp only[List.filterMap_append,i0,i1,i2,i3,i4,i5,i6,i7,i8,i9];rfl
theorem sj:Tryz.prog.unfollowed 4=true:=by
 show (Tryz.prog.closure 4).any fU=true;rw[oO]
 kernel_rfl
theorem agd:Tryz.prog.recurses 4=true:=by
 unfold Program.recurses;rw[sj];rfl
theorem apQ:Tryz.prog.varsNamed 4=["internal/bytealg.MaxLen", "math/bits.divideError", "math/bits.overflowError", "unicode/utf8.first", "unicode/utf8.acceptRanges"]:=by
 show ((((Tryz.prog.closure 4).flatMap fG).eraseDups).filterMap (fun g=>(Tryz.prog.globals[g]?).map (·.name))++(Tryz.prog.closure 4).filterMap fR).eraseDups=_
 rw[oO,xg];simp only[List.flatMap_append,List.filterMap_append,g0,g1,g2,g3,g4,g5,g6,g7,g8,g9,r0,r1,r2,r3,r4,r5,r6,r7,r8,r9]
 kernel_rfl
end Go.Proofs.YtegehclknhmkgaaGreatDoor.facts
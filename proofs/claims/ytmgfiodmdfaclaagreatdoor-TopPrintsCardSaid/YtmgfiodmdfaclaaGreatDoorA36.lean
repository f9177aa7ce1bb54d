import Derived.Test.YtmgfiodmdfaclaaGreatDoorProg
import GoSem.ClaimFn
import Derived.KernelRfl
set_option linter.unusedVariables false
set_option linter.unusedSimpArgs false
namespace Go.Proofs.YtmgfiodmdfaclaaGreatDoor.facts
open Go
def clB(A:Nat→List Nat):Nat→List Nat→Nat→List Nat→List Nat
 |0,_,_,seen=>seen.reverse
 |_+1,[],_,seen=>seen.reverse
 |n+1,f::todo,m,seen=>match m.testBit f with
  |true=>clB A n todo m seen
  |false=>clB A n (A f++todo) (m ||| 1 <<< f) (f::seen)
theorem amZ{m f:Nat}{seen:List Nat}(h:∀x,seen.contains x=m.testBit x)(x:Nat):(f::seen).contains x=(m ||| 1 <<< f).testBit x:=by
 rw[List.contains_cons,h x,Nat.testBit_or,Nat.testBit_shiftLeft];by_cases hx:x=f
 ·subst hx;simp
 ·have h1:(x==f)=false:=by simpa using hx
  rw[h1,Bool.false_or];by_cases hle:f≤x
  ·have h2:(1:Nat).testBit (x - f)=false:=by
    obtain⟨k,hk⟩:∃k,x - f=k+1:=⟨x - f - 1,by omega⟩
    rw[hk,Nat.testBit_succ];simp
   simp[h2]
  ·simp[hle]
theorem nZ{P:Program}{A:Nat→List Nat}(hA:∀f,(P.funcs[f]?).elim [] P.leadsTo=A f):∀(n:Nat) (todo seen:List Nat) (m:Nat),(∀x,seen.contains x=m.testBit x)→P.closureVia n todo seen=clB A n todo m seen
 |0,_,_,_,_=>rfl
 |_+1,[],_,_,_=>rfl
 |n+1,f::todo,seen,m,h=>by
  unfold Program.closureVia clB;cases hb:m.testBit f with
  |true=>
   rw[if_pos (by rw[h f];exact hb)]
   exact nZ hA n todo seen m h
  |false=>
   rw[if_neg (by rw[h f,hb];decide),hA f]
   exact nZ hA n _ (f::seen) _ fun x=>amZ h x
theorem bT{α:Type}(l:List α)(k n m:Nat)(h:k+n=m):l.drop k=(l.drop k).take n++l.drop m:=by
 rw[←h,←List.drop_drop,List.take_append_drop]
noncomputable abbrev FL:List Func:=Tryz.prog.funcs.toList
def d0:List (List Nat):=[[],[],[1],[4,5,6,4,7,7,9,8,10,7,12,11,7,7,11],[9,13],[14,5,15,16,17],[18,19,20,21,22,23,22,6],[24],[25,26],[],[27,27,28],[9,13],[29,30,31,31,12,29,32,33,32,31,33,31,33],[25,26,34],[],[],[15],[],[35,36,37],[38,38,39,41,42,40],[19,43],[39],[],[44],[27,45],[46,47,48],[49],[50],[51,52,53,55,54,56,57,28],[58,30,42,40,30],[39,59,59],[30],[31,31],[],[],[],[],[],[],[60],[61],[63,62],[64,62,64,62],[],[],[29,66,65,68,67,70,65,69,72,67,69,45,73],[],[74,75,74],[76,77,78],[79]]
theorem a0:((FL.drop 0).take 50).map Tryz.prog.leadsTo=d0:=by kernel_rfl
def d50:List (List Nat):=[[80,81,82,83,84,39,85,86,88,89,89,91,90],[93,92],[94,95,96],[97],[98,100,99],[102],[],[],[103],[106,105,104],[107,108],[39,39,109,109],[110],[110,110,111],[],[71,71,73,73],[29],[73],[30],[71],[71],[64,59],[71],[112,113,113,113,34],[114,115],[116,117,118,119,120],[117,118,120,119],[121,122,123,121,123,121,124,125,122,125,122,123,126,124,125,122,125,122,125],[],[127,128,128,129,130,131,49],[132,134,134],[87,87,39,41,42,40],[],[135],[81],[136],[87],[],[137,137],[138,140,139],[141],[50],[39,39],[143,142],[82,82],[],[51],[144,145],[88,88],[]]
theorem a50:((FL.drop 50).take 50).map Tryz.prog.leadsTo=d50:=by kernel_rfl
def d100:List (List Nat):=[[101,101],[146],[138],[39,147,39,148,148,41,149,149],[150,151,152,153],[154,155,156,105,105],[64,60,60,157],[],[],[107,107],[107,159,158],[156],[160,161],[160],[115],[162],[163],[114],[114,116],[],[164],[165],[166,121,166],[125,168,167],[126,169],[121,169],[170],[171],[127,172,174,173,175,173,176,173,177,178,173],[24,171,179,171,113],[128,171,92,79,79],[177,180,180,171,61,127,174,173,79,42,181],[133],[182],[60],[],[],[],[],[183],[],[],[58,58,184,184,181,184,58],[58,148],[185,185,186],[148,181],[],[187],[62],[188,39]]
theorem a100:((FL.drop 100).take 50).map Tryz.prog.leadsTo=d100:=by kernel_rfl
def d150:List (List Nat):=[[],[],[189],[190,191],[107],[],[110,110,109,192,64,193,194,194,195,196,110],[197],[107],[],[198],[199],[200],[114],[201],[],[203,202],[204],[121,77],[205],[],[],[206,207,62],[171,208,209,171,210,127],[187,211],[],[127,177,212],[128],[213,214,215,216],[],[58,42,40],[217,62,218,62,218,62],[],[],[197,62],[],[39,62],[62,42],[156,62,62],[],[219],[220],[110,221,110],[108],[107,158],[222,223,224],[107,158],[110,110,225,226,227,226,227,197,197,217,217,197,228,228,229],[],[]]
theorem a150:((FL.drop 150).take 50).map Tryz.prog.leadsTo=d150:=by kernel_rfl
def d200:List (List Nat):=[[],[230],[121,121],[231,202],[205],[],[232],[233,234],[208],[27,235],[210],[187,142],[236],[27,237],[27,164,164,238,239,240,241,242,243,244],[27,27,245,246,247,248,211,249,250,174,249,251],[27,27,28,251,28,251,252,253,254,255,256,257],[107,107,258,158],[109,107,107,259,158],[],[115,260,115,261,262],[193],[258,221,263,258],[263,258,259,259],[258],[107,107,264,158],[],[],[218],[265,217,217],[162,262,162,261,262,266],[121,267,268,167],[269],[],[107,263,258,158],[64,60,270,270,134,235],[82,187,142],[143,271,42,187,273,272,97,55,275,274,55,276],[277,280,279,280,279,278,281,277,280,279,282,281,277,284,283,277,284,283,277,284,283,277,284,283],[277,286,285,289,289,288,287,277,286,290,281,277,286,291,289,289,289,288,287,277,286,292,288,174,287,277,286,293,281,277,286,294,281,277,286,295,281],[277,286,286,296,277,286,297,289,289,288,287,277,286,299,298,277,286,300,281,277,286,302,301,277,286,303,301,277,304,281],[277,305,236,287,277,306,277,307,236,287,277,308,284,287],[309,309,310,277,311,312,287,277,313,314,287,277,315,312,287,277,316,284,287,277,317,318,287,277,319,318,287,277,320,312,312,288,287,277,321,277,322,312,287],[323,301,277,324,284,283,277,284,283,277,280,325,298,277,310,280,327,326,314,283,277,328,301,277,310,329,318,283,277,330,301,331,332],[277,333,298,277,334,298,277,92,143,211,283,277,298,277,298,277,280,154,280,39,138,251,283,277,280,280,280,335,287,298,277,336,277,284,283],[180,337,39],[],[],[82,338,339,338,142],[174]]
theorem a200:((FL.drop 200).take 50).map Tryz.prog.leadsTo=d200:=by kernel_rfl
def d250:List (List Nat):=[[340,341,341,341,341,341,342,250],[42,174,174],[51,251],[343,344,344],[345,271,42,187,345,273,272,346],[347,348,271,307,349,272],[142,271,350,272,351,55,352,274,55,353],[237,256],[],[],[],[],[],[],[263,258,258],[],[354],[355,121,231],[231],[],[58,134,134],[],[],[82,357,356],[],[88,360,359],[364,363],[309],[365,365,366,367],[337],[368],[289,287],[365,366,369],[287],[42,174],[370,371,372,373,373],[374],[],[],[375,236],[376],[370,377,378,379,379,379],[291,380,39],[381,383,382],[381,384,382],[293,383],[287,385,284,386,289,288,287,284,236,288,283],[285,387,389,388,390,388,391,392,388,389,388,392,388,389,388,389,388,393,388,393,388],[174,287],[394,395]]
theorem a250:((FL.drop 250).take 50).map Tryz.prog.leadsTo=d250:=by kernel_rfl
def d300:List (List Nat):=[[370,396,397,148],[287],[394,398],[394,399,282,400,402,402,401,180,148,42,392,400],[186,42,40,278,400,42,145],[82,403,356],[404,397,287,187,187,345,211,283],[82,356,406,405,408,356],[82,405,409,356],[368,374],[102],[88,410,359],[],[88,411],[42,174],[88,359,412,411,413,359],[88,411,414,359],[415,416,417],[],[415,419,418],[420,421,422,423,315],[424,288,146,318,287],[425,427,426],[368,186],[186],[184,181],[361,426],[146,64,62,428,154],[42,184,186],[361,425],[429,429,41,430,430,431,430,432],[277,277,277,280,154,102,280,39,287,433,277,64,62,289,283,277,64,62,301],[277,277,287,310,434,318,283,318,318,318,288,283,277,280,280,41,298,277,280,280,435,174,174,174,288,283],[58,436],[58,437],[39,39,438,42,439,60,184,439,440,184,439],[441,441,442,174,174,288,287],[154,39],[187],[],[],[159],[],[358,271,443,272,444,55,445,274,55,446],[273,272,180,432],[58,58,184,184,103],[186,186,185,149,432,447,97,186],[180,337,235],[58,92,147,58,448,448,147,58],[187,42,187,443,443]]
theorem a300:((FL.drop 300).take 50).map Tryz.prog.leadsTo=d300:=by kernel_rfl
def d350:List (List Nat):=[[94,449,356],[144,181],[98,450,359],[426,363],[],[451,121,452,167],[338,142],[339,358],[58,58,184,184,58],[101],[362,361],[101,101,146],[],[453,453,425],[101,146,101,146],[],[62],[],[180],[42],[365,365],[380,42],[454,39,42,455,456],[],[404,42,40],[42,457],[458,459,380,428,460,461],[282,282,462,462,462],[42,463,464,465,466,466,464,39,467,467],[],[370,468,469,62],[370,470,366],[381],[285,387,389,384],[285,387,389],[370,291,471,472,293,473],[289],[370,474],[],[370,475,366],[381,392],[476,477],[370,370,478,366],[370,370,365,479,366],[370],[380,181],[370,380],[480,148],[282,400,42,392,400,395,148,42,149,482,400,481,400,186],[483,278,400,42,484,330,346,444]]
theorem a350:((FL.drop 350).take 50).map Tryz.prog.leadsTo=d350:=by kernel_rfl
def d400:List (List Nat):=[[],[82,82,405,83,485,486,356],[187],[339],[82,339,356,42,487,62,187,358,180],[488,489],[407,338],[42,187],[],[],[362],[490,491],[],[],[],[88],[492,493],[427,446,361,361,494,276],[496,495,446,497],[499,498,427,445],[88],[500,501,502,503,504],[505,425,497,56,322],[445,311],[420,421],[101,101],[101,101,146],[364],[39,506],[41],[186,429,39,148,149],[186,186,185,432,447,351,432,432,447,97,186],[184,186],[309,146,507,318,283,309,286,508,146,312,287,146,280,327,312,283],[425,425,509,511,510,494,494,495,495,446,276,495],[39,512,39,42,513,512,149,506,184,145,149],[188,39,39,514,145,181],[39,148,148,181,181,181,436],[39,435,42,40,439],[428],[],[368],[42,428,62,515,516,517,517,518,519,517],[82,82,520,356],[186,186,184,181,186],[88,88,521,359],[425,425,361,426,425],[],[522,62],[339,339,142]]
theorem a400:((FL.drop 400).take 50).map Tryz.prog.leadsTo=d400:=by kernel_rfl
def d450:List (List Nat):=[[362,362,426],[169,126,121,523,167,121,525,167,121,526,167,121,527,167,169],[122,121,122,125],[],[435,39,149,149,455,148,455],[184,184,181],[436,42,148,455],[370,39,528,356],[529,42,380,512],[],[39,435,149,149,530,148,530],[436,184,145],[380],[39,512,512,61,531,531],[436,148,466,148,466,39,436,148,532,148,532,39],[149],[184,181],[148],[],[],[469],[533,392],[534,39,39,181,535,149,535,471],[381,536,537,436,184,145],[536,538],[469],[370,539,540],[541,542,543,541],[469,469,184,181],[469,469],[370,544,545],[546,547,366],[370,548,366],[42,186],[402,402,401,180,148,42,392,400],[92],[182,338],[63,60,60,549,197],[248,248],[551,550,407,345,358,552],[101,362,101,362,101],[554,553,427,361,510,361,555],[556,557,557],[558,510,361,559],[361,425],[425,425,510,361,361,364,425,425],[425,425,495,497],[511,510,494],[88,88,411,139,560,561,359],[]]
theorem a450:((FL.drop 450).take 50).map Tryz.prog.leadsTo=d450:=by kernel_rfl
def d500:List (List Nat):=[[88,563,562],[564,565,565,566,566,566,567,568,568,568],[564,569,568,568],[564,570,425],[571,445,503,426],[425],[188,39,39,514,145,181,514,181,145],[327,425],[370,572,359],[495,446,276],[101,146,573],[425],[62],[514,62,62,39,188,184,145,39,148,148],[42],[574],[],[575],[435,145,149,149,184,439,184,184,181,439],[576],[338,339,339,358,142],[362,362,361,426],[60,60,60,110,64,157,197],[524],[121,122,121,125],[122,125],[122,121,121,125],[524],[380],[480,577],[184,184,181,428],[],[184,181],[],[380],[380,103],[],[39],[39],[39,42,184,61,61],[370,578,42,42,579,579,39],[580,437,184,145,184,145,184,145],[184,184,181,184,184,184,61],[184,184,181,581,184,184,145,581,184,184,181,581],[42,380],[582,583],[370,370],[469,469,181],[469,184],[156]]
theorem a500:((FL.drop 500).take 50).map Tryz.prog.leadsTo=d500:=by kernel_rfl
def d550:List (List Nat):=[[],[92],[358,93],[],[],[361,364],[137,359,412],[584],[],[361,364,361,364,361,426],[],[182],[425],[427],[585,585],[585,562,586],[503],[587,588,589,590,590,588,510,494],[],[565,566,566,591],[],[564,505],[380,327],[101,361,361],[],[574],[],[],[381,592],[380,184,184,145,581],[181,512,61],[149],[39],[184,184,145,149],[88,362,359],[],[],[593,593],[495,594,590,594,590,495,594,595,594,595],[495],[446,353],[596,510,597,495,598,597],[546,599,40],[],[276],[446,353],[434,495,495,597,598,597],[446,446,353],[276],[]]
theorem a550:((FL.drop 550).take 50).map Tryz.prog.leadsTo=d550:=by kernel_rfl
def d600:List (List Nat):=[[],[],[],[],[],[],[],[],[],[],[],[],[],[],[],[],[],[61],[],[],[],[],[],[],[],[],[],[]]
theorem a600:((FL.drop 600).take 28).map Tryz.prog.leadsTo=d600:=by kernel_rfl
theorem b0:(FL.drop 0).map Tryz.prog.leadsTo=((FL.drop 0).take 50).map Tryz.prog.leadsTo++(FL.drop 50).map Tryz.prog.leadsTo:=by rw[←List.map_append,←bT FL 0 50 50 rfl]
theorem b50:(FL.drop 50).map Tryz.prog.leadsTo=((FL.drop 50).take 50).map Tryz.prog.leadsTo++(FL.drop 100).map Tryz.prog.leadsTo:=by rw[←List.map_append,←bT FL 50 50 100 rfl]
theorem b100:(FL.drop 100).map Tryz.prog.leadsTo=((FL.drop 100).take 50).map Tryz.prog.leadsTo++(FL.drop 150).map Tryz.prog.leadsTo:=by rw[←List.map_append,←bT FL 100 50 150 rfl]
theorem b150:(FL.drop 150).map Tryz.prog.leadsTo=((FL.drop 150).take 50).map Tryz.prog.leadsTo++(FL.drop 200).map Tryz.prog.leadsTo:=by rw[←List.map_append,←bT FL 150 50 200 rfl]
theorem b200:(FL.drop 200).map Tryz.prog.leadsTo=((FL.drop 200).take 50).map Tryz.prog.leadsTo++(FL.drop 250).map Tryz.prog.leadsTo:=by rw[←List.map_append,←bT FL 200 50 250 rfl]
theorem b250:(FL.drop 250).map Tryz.prog.leadsTo=((FL.drop 250).take 50).map Tryz.prog.leadsTo++(FL.drop 300).map Tryz.prog.leadsTo:=by rw[←List.map_append,←bT FL 250 50 300 rfl]
theorem b300:(FL.drop 300).map Tryz.prog.leadsTo=((FL.drop 300).take 50).map Tryz.prog.leadsTo++(FL.drop 350).map Tryz.prog.leadsTo:=by rw[←List.map_append,←bT FL 300 50 350 rfl]
theorem b350:(FL.drop 350).map Tryz.prog.leadsTo=((FL.drop 350).take 50).map Tryz.prog.leadsTo++(FL.drop 400).map Tryz.prog.leadsTo:=by rw[←List.map_append,←bT FL 350 50 400 rfl]
theorem b400:(FL.drop 400).map Tryz.prog.leadsTo=((FL.drop 400).take 50).map Tryz.prog.leadsTo++(FL.drop 450).map Tryz.prog.leadsTo:=by rw[←List.map_append,←bT FL 400 50 450 rfl]
theorem b450:(FL.drop 450).map Tryz.prog.leadsTo=((FL.drop 450).take 50).map Tryz.prog.leadsTo++(FL.drop 500).map Tryz.prog.leadsTo:=by rw[←List.map_append,←bT FL 450 50 500 rfl]
theorem b500:(FL.drop 500).map Tryz.prog.leadsTo=((FL.drop 500).take 50).map Tryz.prog.leadsTo++(FL.drop 550).map Tryz.prog.leadsTo:=by rw[←List.map_append,←bT FL 500 50 550 rfl]
theorem b550:(FL.drop 550).map Tryz.prog.leadsTo=((FL.drop 550).take 50).map Tryz.prog.leadsTo++(FL.drop 600).map Tryz.prog.leadsTo:=by rw[←List.map_append,←bT FL 550 50 600 rfl]
theorem b600:(FL.drop 600).map Tryz.prog.leadsTo=((FL.drop 600).take 28).map Tryz.prog.leadsTo++(FL.drop 628).map Tryz.prog.leadsTo:=by rw[←List.map_append,←bT FL 600 28 628 rfl]
def adjL:List (List Nat):=d0++(d50++(d100++(d150++(d200++(d250++(d300++(d350++(d400++(d450++(d500++(d550++(d600))))))))))))
theorem len:FL.length=628:=by kernel_rfl
theorem bEnd:FL.drop 628=[]:=List.drop_eq_nil_of_le (by rw[len];exact Nat.le_refl _)
theorem adj:FL.map Tryz.prog.leadsTo=adjL:=by
 rw[show FL=FL.drop 0 from rfl,b0,a0,b50,a50,b100,a100,b150,a150,b200,a200,b250,a250,b300,a300,b350,a350,b400,a400,b450,a450,b500,a500,b550,a550,b600,a600,bEnd]
 kernel_rfl
def adjF(f:Nat):List Nat:=adjL.getD f []
theorem asL(f:Nat):(Tryz.prog.funcs[f]?).elim [] Tryz.prog.leadsTo=adjF f:=by
 unfold adjF;rw[←adj,List.getD_eq_getElem?_getD,List.getElem?_map,Array.getElem?_toList]
 cases Tryz.prog.funcs[f]? <;> rfl
theorem fuel:(FL.map fun g=>(Tryz.prog.leadsTo g).length+1).sum=(adjL.map fun l=>l.length+1).sum:=by
 rw[←adj,List.map_map];rfl
def c0:List Nat:=[3,4,9,13,25,46,47,74,114,115,162,200,75,116,163,117,118,119,120,164,201,230,262,261,266,354,48,76,77,121,165,122,166,203,231,267,355,451,169,205,126,170,523,524,125,167,204,525,526,527,452,268,202,123,168,124,78,26,49,79]
def c1:List Nat:=[127,171,128,172,206,232,269,207,233,234,107,263,258,158,62,110,159,174,187,42,64,211,142,58,103,39,60,108,147,148,41,63,111,156,109,192,221,193,194,195,222,223,259,224,196,149,188,184,197,225,264,226,227,217,228,218,229,265,181,173]
def c2:List Nat:=[208,209,27,50,80,132,133,182,134,81,87,40,61,82,83,135,84,85,136,86,88,137,89,138,140,139,183,91,90,141,235,270,210,175,176,177,212,236,178,213,237,143,271,273,357,339,358,356,338,272,97,144,185,186,145,55,102,275,360,362]
def c3:List Nat:=[361,101,146,359,274,276,364,363,453,425,214,238,277,309,368,180,374,404,487,549,280,279,337,154,278,365,366,367,281,289,375,457,370,528,380,468,469,287,282,369,284,283,239,286,285,371,372,454,435,512,513,514,506,455,456,436,373,288,290,376]
def c4:List Nat:=[458,529,480,544,545,582,583,577,459,428,460,530,461,291,377,462,378,463,531,464,466,532,465,467,379,292,293,381,470,383,387,474,536,538,389,475,384,382,294,295,240,296,385,471,533,392,478,472,534,535,473,537,386,297,388,390,391,476,539,540]
def c5:List Nat:=[578,592,546,599,579,581,477,541,580,437,542,543,393,479,299,394,395,298,300,396,397,302,398,400,482,548,481,547,301,303,399,483,484,402,401,405,488,248,489,551,92,550,407,345,552,93,485,486,330,429,430,431,432,447,351,346,444,304,241,305]
def c6:List Nat:=[403,306,307,406,408,308,409,242,310,311,410,312,313,411,490,491,554,553,427,510,573,555,314,315,412,413,316,414,317,415,416,492,556,557,584,493,558,559,426,417,446,494,318,319,419,499,498,560,561,445,521,418,496,495,497,511,320,420,421,500]
def c7:List Nat:=[563,562,501,564,585,565,586,566,503,570,567,587,593,588,594,590,353,595,589,568,502,569,591,596,434,509,597,598,504,571,505,422,56,322,423,321,424,243,323,324,325,327,326,328,329,331,433,507,508,572,332,244,333,334,251,335,438,439,440,336]
def c8:List Nat:=[441,442,515,574,516,517,575,518,519,576,215,245,246,247,249,250,340,341,342,216,28,51,52,94,95,96,53,54,98,100,99,57,252,253,343,443,520,344,254,255,347,348,448,522,157,349,256,350,449,352,450,257,129,24,45,29,30,59,106,105]
def c9:List Nat:=[155,104,150,151,152,189,153,190,219,191,220,260,66,65,71,73,112,160,198,161,199,113,34,68,67,70,69,72,179,130,131,5,14,15,16,17,6,18,35,36,37,19,38,20,43,21,22,23,44,7,8,10,12,31,32,33,11]
def clo:List Nat:=c0++(c1++(c2++(c3++(c4++(c5++(c6++(c7++(c8++(c9)))))))))
theorem pX:Tryz.prog.closure 3=clo:=by
 unfold Program.closure;rw[show (Tryz.prog.funcs.toList.map fun g=>(Tryz.prog.leadsTo g).length+1).sum=(adjL.map fun l=>l.length+1).sum from fuel,nZ asL _ _ _ 0 (by intro x;simp)]
 kernel_rfl
noncomputable def fI:Nat→Option String:=fun g=>(Tryz.prog.funcs[g]?).bind fun fn=>if fn.ours||fn.body.isNone||fn.name== "runtime.NumGoroutine" then some fn.name else none
noncomputable def fG:Nat→List Nat:=fun g=>((Tryz.prog.funcs[g]?).bind (·.body)).elim [] Code.globalsNamed
noncomputable def fR:Nat→Option String:=fun g=>(Tryz.prog.funcs[g]?).bind fun fn=>if fn.body.isNone then entryReads.lookup fn.name else none
noncomputable def fU:Nat→Bool:=fun g=>(Tryz.prog.funcs[g]?).any fun fn=>match fn.body with|some c=>c.unfollowed|none=>entryCalls fn
theorem i0:c0.filterMap fI=["internal/bytealg.IndexByteString", "internal/bytealg.IndexString"]:=by kernel_rfl
theorem g0:c0.flatMap fG=[0,0,0]:=by kernel_rfl
theorem r0:c0.filterMap fR=["internal/bytealg.MaxLen"]:=by kernel_rfl
theorem i1:c1.filterMap fI=["math/bits.Add64", "math/bits.Sub64"]:=by kernel_rfl
theorem g1:c1.flatMap fG=[3,4]:=by kernel_rfl
theorem r1:c1.filterMap fR=[]:=by kernel_rfl
theorem i2:c2.filterMap fI=[]:=by kernel_rfl
theorem g2:c2.flatMap fG=[]:=by kernel_rfl
theorem r2:c2.filterMap fR=[]:=by kernel_rfl
theorem i3:c3.filterMap fI=[]:=by kernel_rfl
theorem g3:c3.flatMap fG=[]:=by kernel_rfl
theorem r3:c3.filterMap fR=[]:=by kernel_rfl
theorem i4:c4.filterMap fI=[]:=by kernel_rfl
theorem g4:c4.flatMap fG=[]:=by kernel_rfl
theorem r4:c4.filterMap fR=[]:=by kernel_rfl
theorem i5:c5.filterMap fI=[]:=by kernel_rfl
theorem g5:c5.flatMap fG=[]:=by kernel_rfl
theorem r5:c5.filterMap fR=[]:=by kernel_rfl
theorem i6:c6.filterMap fI=[]:=by kernel_rfl
theorem g6:c6.flatMap fG=[]:=by kernel_rfl
theorem r6:c6.filterMap fR=[]:=by kernel_rfl
theorem i7:c7.filterMap fI=[]:=by kernel_rfl
theorem g7:c7.flatMap fG=[]:=by kernel_rfl
theorem r7:c7.filterMap fR=[]:=by kernel_rfl
theorem i8:c8.filterMap fI=[]:=by kernel_rfl
theorem g8:c8.flatMap fG=[]:=by kernel_rfl
theorem r8:c8.filterMap fR=[]:=by kernel_rfl
theorem i9:c9.filterMap fI=["internal/abi.NoEscape", "internal/bytealg.MakeNoZero"]:=by kernel_rfl
theorem g9:c9.flatMap fG=[1,2]:=by kernel_rfl
theorem r9:c9.filterMap fR=[]:=by kernel_rfl
theorem yc:clo=c0++(c1++(c2++(c3++(c4++(c5++(c6++(c7++(c8++(c9))))))))):=by kernel_rfl
theorem ag8:Tryz.prog.inPlace 3=["internal/bytealg.IndexByteString", "internal/bytealg.IndexString", "math/bits.Add64", "math/bits.Sub64", "internal/abi.NoEscape", "internal/bytealg.MakeNoZero"]:=by
 show (Tryz.prog.closure 3).filterMap fI=_;rw[pX,yc];simp only[List.filterMap_append,i0,i1,i2,i3,i4,i5,i6,i7,i8,i9];rfl
theorem uo:Tryz.prog.unfollowed 3=true:=by
 show (Tryz.prog.closure 3).any fU=true;rw[pX]
 kernel_rfl
theorem aeE:Tryz.prog.recurses 3=true:=by
 unfold Program.recurses;rw[uo];rfl
theorem aqg:Tryz.prog.varsNamed 3=["internal/bytealg.MaxLen", "math/bits.divideError", "math/bits.overflowError", "unicode/utf8.first", "unicode/utf8.acceptRanges"]:=by
 show ((((Tryz.prog.closure 3).flatMap fG).eraseDups).filterMap (fun g=>(Tryz.prog.globals[g]?).map (·.name))++(Tryz.prog.closure 3).filterMap fR).eraseDups=_
 rw[pX,yc];simp only[List.flatMap_append,List.filterMap_append,g0,g1,g2,g3,g4,g5,g6,g7,g8,g9,r0,r1,r2,r3,r4,r5,r6,r7,r8,r9]
 kernel_rfl
end Go.Proofs.YtmgfiodmdfaclaaGreatDoor.facts
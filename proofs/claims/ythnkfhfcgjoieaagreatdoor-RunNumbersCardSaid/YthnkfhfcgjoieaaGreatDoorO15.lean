import Derived.Test.YthnkfhfcgjoieaaGreatDoorO6
import Derived.Test.YthnkfhfcgjoieaaGreatDoorO11
set_option linter.unusedVariables false
set_option linter.unusedSimpArgs false
set_option linter.unusedSectionVars false
open Go.Proofs.Tryz
namespace Go.Proofs.YthnkfhfcgjoieaaGreatDoor
open Go.RowKit QM SX LA
def cvR(a b:List Int):Nat->Nat->Int
 |0,_=>0
 |i+1,m=>cvR a b i m+(if i<=m then a.getD i 0*b.getD (m - i) 0 else 0)
def cvP(a b:List Int)(i k m:Nat):Int:=cvR a b i m+(if i<=m/\m < i+k then a.getD i 0*b.getD (m - i) 0 else 0)
def alZ(a b:List Int):List Int:=if a.length=0\/b.length=0 then []else aX (abU (a.length+b.length - 1) (cvR a b a.length))
attribute [local irreducible] IntKind.wrap Go1 Reg WP aJ aN bF bD aM aA ak aj aT Sat
attribute [local irreducible] bK bO bM bS bN qv bZ mf PrP qOk zOk vP dx lz vF cq rqv dI aX bG aV dN cvR cvP alZ
end Go.Proofs.YthnkfhfcgjoieaaGreatDoor
set_option linter.unusedSectionVars false
namespace Go.Proofs.YthnkfhfcgjoieaaGreatDoor
open Go.RowKit QM SX LA
section
def sH(zs:List Int)(n:Nat):List Int:=List.replicate n 0++zs
def exF(b:List Int):Nat->List Int->(Nat->Int)->Option ((Nat->Int)×List Int)
 |0,a,f=>some (f,a)
 |n+1,a,f=>if jO (a.getD (n+b.length - 1) 0) (b.getD (b.length - 1) 0)then exF b n (aaJ a (sH (aV b (eZ (a.getD (n+b.length - 1) 0) (b.getD (b.length - 1) 0))) n)) (fun i=>if i=n then eZ (a.getD (n+b.length - 1) 0) (b.getD (b.length - 1) 0)else f i)else none
def exR(zs b:List Int):Option (List Int):=if b.length=0 then none else match exF b (zs.length+1 - b.length) zs (fun _=>0)with
 |none=>none
 |some (f,a)=>if a.length=0 then some (aX (abU (zs.length+1 - b.length) f))else none
attribute [local irreducible] IntKind.wrap Go1 Reg WP aJ aN bF bD aM aA ak aj aT Sat
attribute [local irreducible] bK bO bM bS bN qv bZ mf PrP qOk zOk vP dx lz vF cq rqv dI aX bG aV dN cvR cvP alZ sH eZ jO exF
structure DvK(S L K K':Nat)(n:Nat)(a:List Int)(f:Nat->Int):Prop where
 le:n<=S
 p:pN a
 l:a.length<=L
 b:∀z∈a,z.natAbs < WB ^ (K+(S - n)*(K'+1))
 f:∀i,(f i).natAbs < WB ^ (K+S*(K'+1))
end
section
def fA(p x y:Nat):Nat:=(x % p+y % p) % p
def fS(p x y:Nat):Nat:=(x % p+p - y % p) % p
def fM(p x y:Nat):Nat:=(x % p*(y % p)) % p
def tabW(c:Nat)(val:Nat->Nat->Nat)(i:Nat):List Nat:=(List.range i).flatMap fun i=>(List.range c).map (val i)
theorem tabW_zero{c:Nat}{val:Nat->Nat->Nat}:tabW c val 0=[]:=rfl
attribute [local irreducible] IntKind.wrap Go1 Reg WP aJ aN bF bD aM aA ak aj aT Sat
attribute [local irreducible] bK bO bM bS bN qv bZ mf PrP qOk zOk vP dx lz vF cq rqv dI aX bG aV dN fA fS fM
section
variable{p r c:Nat}(hp:PrP p){l l':List Nat}(hl:l.length=r*c)(hr:r<=64)(hc:c<=64)(hb:∀x∈l,x < 18446744073709551616)
include hp hl hr hc hb
end
end
section
def wl(zs:List Nat):Nat->Nat
 |0=>0
 |k+1=>if zs.getD k 0=0 then wl zs k else k+1
def wlen(zs:List Nat):Nat:=wl zs zs.length
def aqs(zs:List Nat):List Nat:=zs.take (wlen zs)
def gN(zs:List Nat):Prop:=zs.length=0\/zs.getD (zs.length - 1) 0≠0
def am1(n:Nat)(f:Nat->Nat):List Nat:=(List.range n).map f
def anD(p:Nat)(l:List Nat):List Nat:=l.map (· % p)
def bI(p:Nat)(l:List Nat):List Nat:=aqs (anD p l)
attribute [local irreducible] IntKind.wrap Go1 Reg WP aJ aN bF bD aM aA ak aj aT Sat
attribute [local irreducible] bK bO bM bS bN qv bZ mf PrP qOk zOk vP dx lz vF cq rqv dI aX bG aV dN fA fS fM wlen aqs anD
end
section
def asV(p:Nat)(op:Nat->Nat->Nat)(a b:List Nat):List Nat:=bI p (am1 (max a.length b.length) fun i=>op (a.getD i 0) (b.getD i 0))
def wvR(p:Nat)(a b:List Nat):Nat->Nat->Nat
 |0,_=>0
 |i+1,m=>if i<=m/\m < i+b.length then fA p (wvR p a b i m) (fM p (a.getD i 0) (b.getD (m - i) 0))else wvR p a b i m
def wvP(p:Nat)(a b:List Nat)(i k m:Nat):Nat:=if i<=m/\m < i+k then fA p (wvR p a b i m) (fM p (a.getD i 0) (b.getD (m - i) 0))else wvR p a b i m
def fMul(p:Nat)(a b:List Nat):List Nat:=if(bI p a).length=0\/(bI p b).length=0 then []else bI p (am1 ((bI p a).length+(bI p b).length - 1) (wvR p (bI p a) (bI p b) (bI p a).length))
attribute [local irreducible] IntKind.wrap Go1 Reg WP aJ aN bF bD aM aA ak aj aT Sat
attribute [local irreducible] bK bO bM bS bN qv bZ mf PrP qOk zOk vP dx lz vF cq rqv dI aX bG aV dN fA fS fM wlen aqs anD bI wvR wvP
abbrev fSub(p:Nat):=asV p (fS p)
end
section
theorem acr{α β:Type}{enc:β->List CA}{f:α->β}{l:List α}{k:Nat}{x:α}(hx:l[k]? =some x):((l.take k).map f).flatMap enc++enc (f x)=((l.take (k+1)).map f).flatMap enc:=by
 rw[lI hx];simp
attribute [local irreducible] IntKind.wrap Go1 Reg WP aJ aN bF bD aM aA ak aj aT Sat
attribute [local irreducible] bK bO bM bS bN qv bZ mf PrP qOk zOk vP dx lz vF cq rqv dI aX bG aV dN jn sq aW qS zS tS tbS
end
end Go.Proofs.YthnkfhfcgjoieaaGreatDoor
set_option linter.unusedSectionVars false
namespace Go.Proofs.YthnkfhfcgjoieaaGreatDoor
open Go.RowKit QM SX LA
attribute [local irreducible] IntKind.wrap Go1 Reg WP aJ aN bF bD aM aA ak aj aT Sat
attribute [local irreducible] bK bO bM bS bN qv bZ mf PrP qOk zOk vP dx lz vF cq rqv dI aX bG aV dN cvR cvP alZ sH eZ jO exF vW jS
theorem apr{x y:Rat}{K L:Nat}(hx:RB x K)(hy:RB y L)(hK:K+L<=100000)(h0:y≠0):ah prog 498 [.agg (vlA (bW x)),.agg (vlA (bW y))] (.tup [.agg (vlA (bW (x / y))),eNo 0]):=by
 haveI:=Ra.cq hx
 haveI:=Ra.cq hy
 have c:=(afR (l:=q4A (rq (cq x))) (l':=q4A (rq (cq y))) (K:=K) (K':=L)).h zE
 rw[decide_eq_true h0]at c;have cN:=afe (x / y) 3;refine ah.fq func498 results498 ntmps498 fun _ _ _ _ _=>?_
 refine zg ?_;refine .ok (aA.mk2 ak.gL (ak.tmp rfl))
section
variable{a b:List Int}{K L:Nat}(h:∀z∈a,z.natAbs < WB ^ K)(h':∀z∈b,z.natAbs < WB ^ L)(hn:pN a)(hn':pN b)(hl:a.length<=4000)(hl':b.length<=4000)(hK:K+(a.length+1)*(L+1)<=30000)(hL:L<=30000)
include h h' hn hn' hl hl' hK hL
end
section
end

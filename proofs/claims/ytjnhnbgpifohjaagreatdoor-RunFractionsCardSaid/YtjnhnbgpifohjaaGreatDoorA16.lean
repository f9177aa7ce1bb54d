import Derived.Test.YtjnhnbgpifohjaaGreatDoorA12
import Derived.Test.YtjnhnbgpifohjaaGreatDoorA6
set_option linter.unusedVariables false
set_option linter.unusedSimpArgs false
open Go.Proofs.Tryz
namespace Go.Proofs.YtjnhnbgpifohjaaGreatDoor
open Go.RowKit QM SX LA
def fA(p x y:Nat):Nat:=(x % p+y % p) % p
def fS(p x y:Nat):Nat:=(x % p+p - y % p) % p
def fM(p x y:Nat):Nat:=(x % p*(y % p)) % p
def tabW(c:Nat)(val:Nat→Nat→Nat)(i:Nat):List Nat:=(List.range i).flatMap fun i=>(List.range c).map (val i)
theorem atH{c:Nat}{val:Nat→Nat→Nat}:tabW c val 0=[]:=rfl
attribute [local irreducible] IntKind.wrap Go1 Reg WP aR aU bR bO aN aF ak aj aY Sat
attribute [local irreducible] bS dn cK dD dh qv bW mf PrP qOk zOk vP eu lz vF cq rqv fB dw dN d9 gP fA fS fM
section
variable{p r c:Nat}(hp:PrP p){l l':List Nat}(hl:l.length=r*c)(hr:r≤64)(hc:c≤64)(hb:∀x∈l,x < 18446744073709551616)
include hp hl hr hc hb
end
end Go.Proofs.YtjnhnbgpifohjaaGreatDoor
set_option linter.unusedSectionVars false
namespace Go.Proofs.YtjnhnbgpifohjaaGreatDoor
open Go.RowKit QM SX LA
section
def cvR(a b:List Int):Nat→Nat→Int
 |0,_=>0
 |i+1,m=>cvR a b i m+(if i≤m then a.getD i 0*b.getD (m - i) 0 else 0)
def cvP(a b:List Int)(i k m:Nat):Int:=cvR a b i m+(if i≤m∧m < i+k then a.getD i 0*b.getD (m - i) 0 else 0)
def pMul(a b:List Int):List Int:=if a.length=0∨b.length=0 then []else dw (ac6 (a.length+b.length - 1) (cvR a b a.length))
attribute [local irreducible] IntKind.wrap Go1 Reg WP aR aU bR bO aN aF ak aj aY Sat
attribute [local irreducible] bS dn cK dD dh qv bW mf PrP qOk zOk vP eu lz vF cq rqv fB dw dN d9 gP cvR cvP pMul
end
section
theorem ajK{α β:Type}{enc:β→List CA}{f:α→β}{l:List α}{k:Nat}{x:α}(hx:l[k]? =some x):((l.take k).map f).flatMap enc++enc (f x)=((l.take (k+1)).map f).flatMap enc:=by
 rw[jQ hx];simp
attribute [local irreducible] IntKind.wrap Go1 Reg WP aR aU bR bO aN aF ak aj aY Sat
attribute [local irreducible] bS dn cK dD dh qv bW mf PrP qOk zOk vP eu lz vF cq rqv fB dw dN d9 gP jn sq aV qS zS tS tbS
end
end Go.Proofs.YtjnhnbgpifohjaaGreatDoor
set_option linter.unusedSectionVars false
namespace Go.Proofs.YtjnhnbgpifohjaaGreatDoor
open Go.RowKit QM SX LA
def agk(zs:List Int)(n:Nat):List Int:=List.replicate n 0++zs
def exF(b:List Int):Nat→List Int→(Nat→Int)→Option ((Nat→Int)×List Int)
 |0,a,f=>some (f,a)
 |n+1,a,f=>if nK (a.getD (n+b.length - 1) 0) (b.getD (b.length - 1) 0)then exF b n (abj a (agk (d9 b (fZ (a.getD (n+b.length - 1) 0) (b.getD (b.length - 1) 0))) n)) (fun i=>if i=n then fZ (a.getD (n+b.length - 1) 0) (b.getD (b.length - 1) 0)else f i)else none
def exR(zs b:List Int):Option (List Int):=if b.length=0 then none else match exF b (zs.length+1 - b.length) zs (fun _=>0)with
 |none=>none
 |some (f,a)=>if a.length=0 then some (dw (ac6 (zs.length+1 - b.length) f))else none
attribute [local irreducible] IntKind.wrap Go1 Reg WP aR aU bR bO aN aF ak aj aY Sat
attribute [local irreducible] bS dn cK dD dh qv bW mf PrP qOk zOk vP eu lz vF cq rqv fB dw dN d9 gP cvR cvP pMul agk fZ nK exF
structure DvK(S L K K':Nat)(n:Nat)(a:List Int)(f:Nat→Int):Prop where
 le:n≤S
 p:pN a
 l:a.length≤L
 b:∀z∈a,z.natAbs < WB ^ (K+(S - n)*(K'+1))
 f:∀i,(f i).natAbs < WB ^ (K+S*(K'+1))
end Go.Proofs.YtjnhnbgpifohjaaGreatDoor
set_option linter.unusedSectionVars false
namespace Go.Proofs.YtjnhnbgpifohjaaGreatDoor
open Go.RowKit QM SX LA
attribute [local irreducible] IntKind.wrap Go1 Reg WP aR aU bR bO aN aF ak aj aY Sat
attribute [local irreducible] bS dn cK dD dh qv bW mf PrP qOk zOk vP eu lz vF cq rqv fB dw dN d9 gP cvR cvP pMul agk fZ nK exF vW jv
theorem ang{x y:Rat}{K L:Nat}(hx:RB x K)(hy:RB y L)(hK:K+L≤100000)(h0:y≠0):ah prog 514 [.agg (vlA (fC x)),.agg (vlA (fC y))] (.tup [.agg (vlA (fC (x / y))),eNo 0]):=by
 haveI:=Ra.cq hx
 haveI:=Ra.cq hy
 have c:=(uL (l:=q4A (rq (cq x))) (l':=q4A (rq (cq y))) (K:=K) (K':=L)).h (by omega)
 rw[decide_eq_true h0]at c;have cN:=afb (x / y) 3;refine ah.fnF func514 results514 ntmps514 rfl rfl rfl (by simp[AV.ids,AV0.ids,Atom.ids]) rfl (fun w0 T B E0 hB=>?_)
 refine SX.goM ?_;refine .ok (aF.mk2 (ak.gX rfl rfl rfl) (ak.tmp rfl))
section
variable{a b:List Int}{K L:Nat}(h:∀z∈a,z.natAbs < WB ^ K)(h':∀z∈b,z.natAbs < WB ^ L)(hn:pN a)(hn':pN b)(hl:a.length≤4000)(hl':b.length≤4000)(hK:K+(a.length+1)*(L+1)≤30000)(hL:L≤30000)
include h h' hn hn' hl hl' hK hL
end
section
end
end Go.Proofs.YtjnhnbgpifohjaaGreatDoor
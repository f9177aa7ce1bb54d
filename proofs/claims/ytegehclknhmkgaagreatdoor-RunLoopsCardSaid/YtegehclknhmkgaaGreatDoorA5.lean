import Derived.Test.YtegehclknhmkgaaGreatDoorA4
set_option linter.unusedVariables false
set_option linter.unusedSimpArgs false
namespace SX
open Go Go.RowKit
section
end
section
variable{P:Program}{C:Ctx}{st:St}
variable{ops rest:List Oper}{acc:List (List Nat×List Nat)}{K:List (List Nat×List Nat)→St→Prop}{dst:Option Tmp}{op:Op}{ty:TypeId}{pos:String}{af:Array Edge}
theorem R.ite{j u:Nat}{b:Bool}{p:Prop}[Decidable p](h1:p→Reg P C ops (⟨dst,op,ty,pos,af,some (j,b)⟩::rest) st acc K)(h2:¬p→Reg P C ops (⟨dst,op,ty,pos,af,some (j,b)⟩::rest) st acc K)
  (ht:(ops[j]?).bind (·.dst)=some u:=by rfl) (hv:st.tm u=some (.v (.bool (decide p))):=by rfl):Reg P C ops (⟨dst,op,ty,pos,af,some (j,b)⟩::rest) st acc K:=
 (Decidable.em p).elim h1 h2
theorem R.eO{j u:Nat}{b b':Bool}(h1:b'=true→Reg P C ops (⟨dst,op,ty,pos,af,some (j,b)⟩::rest) st acc K)(h2:b'=false→Reg P C ops (⟨dst,op,ty,pos,af,some (j,b)⟩::rest) st acc K)
  (ht:(ops[j]?).bind (·.dst)=some u:=by rfl) (hv:st.tm u=some (.v (.bool b')):=by rfl):Reg P C ops (⟨dst,op,ty,pos,af,some (j,b)⟩::rest) st acc K:=by
 cases b'
 ·exact h2 rfl
 ·exact h1 rfl
end
section
variable{P:Program}{C:Ctx}{st:St}{Q:Exit→St→Prop}{c:Code}
theorem St.lt0{l:List (Nat×AV)}{m:List (Nat×Ent)}(hfix:∀b,C.fix b=true→lk ([]:List (Nat×Option Nat)) b=none∧(lk m b).isSome=true)(ht:aeJ st [] l)(hm:zT st [] m)(hti:tidy [] l m=true):St.le C st (eZ l m):=St.bG _ hfix ht hm hti
theorem St.ltn{l:List (Nat×AV)}{m:List (Nat×Ent)}(hfix:∀b,C.fix b=true→lk ([(100,none)]:List (Nat×Option Nat)) b=none∧(lk m b).isSome=true)(ht:aeJ st [(100,none)] l)(hm:zT st [(100,none)] m)(hti:tidy [(100,none)] l m=true):St.le C st (eZ l m):=St.bG _ hfix ht hm hti
theorem St.lt1{o:Nat}{l:List (Nat×AV)}{m:List (Nat×Ent)}(hfix:∀b,C.fix b=true→lk ([(100,some o)]:List (Nat×Option Nat)) b=none∧(lk m b).isSome=true)(ht:aeJ st [(100,some o)] l)(hm:zT st [(100,some o)] m)(hti:tidy [(100,some o)] l m=true):St.le C st (eZ l m):=St.bG _ hfix ht hm hti
theorem aG.int{ρ:List (Nat×Option Nat)}{k:IntKind}{z z':Int}(e:z=z'):aG ρ (.v (.int k z)) (.v (.int k z')):=aG.eq (by rw[e]) rfl
theorem aG.str{ρ:List (Nat×Option Nat)}{l l':List UInt8}(e:l=l'):aG ρ (.v (str l)) (.v (SX.str l')):=aG.eq (by rw[e]) rfl
theorem WP.monoC{Q':Exit→St→Prop}(h:WP P C c st Q)(k:∀e s,Q e s→∃s',St.le C s s'∧Q' e s'):WP P C c st Q':=
 fun a w hs=>wp_mono (h a w hs) fun e a w ⟨s,hq,hs⟩=>by
  obtain⟨s',hl,hq'⟩:=k e s hq;exact⟨s',hq',hl a w hs⟩
def aL(C:Ctx)(P:Program)(rs:List ResultVar)(out:Out)(st:St):Prop:=∃st',St.le C st st'∧aC P rs out st'
def bI(C:Ctx)(P:Program)(rs:List ResultVar)(out:Out):Exit→St→Prop
 | .ret,st=>aL C P rs out st
 | .normal,st=>aL C P rs out st
 |_,_=>False
theorem St.le.refl(C:Ctx)(st:St):St.le C st st:=fun _ _ h=>h
theorem WP.bI{rs:List ResultVar}{out:Out}(h:WP P C c st (bI C P rs out)):WP P C c st (bM P rs out):=
 h.monoC fun e s hq=>match e,hq with
  | .ret,⟨s',hl,hr⟩=>⟨s',hl,hr⟩
  | .normal,⟨s',hl,hr⟩=>⟨s',hl,hr⟩
theorem anI{rs:List ResultVar}{out:Out}(h:aL C P rs out st):bI C P rs out .ret st:=h
theorem aob{rs:List ResultVar}{out:Out}(h:aL C P rs out st):bI C P rs out .normal st:=h
theorem aL.ok{rs:List ResultVar}{out:Out}(h:aC P rs out st):aL C P rs out st:=⟨st,St.le.refl _ _,h⟩
theorem aL.frz{rs:List ResultVar}{out:Out}(b:Nat){size n:Nat}{t:TypeId}{cells:List CA}(h:aL C P rs out (st.frz b size n cells))(hB:∀k,¬C.B k:=by assumption)(hb:st.hp b= .ent (.row t size n cells):=by rfl):aL C P rs out st:=by
 obtain⟨s',hl,hr⟩:=h;exact⟨s',fun a w hs=>hl a w (St.aku hB hb a w hs),hr⟩
theorem AV0.imp.of_eq{x y:AV0}(h:x=y):x.imp y:=h▸AV0.imp.refl x
theorem imp_nil{size:Nat}:AV0.imp (.one (.c (.val (.slice none 0 0)))) (.one (.c (.sat (aM size 0 [])))):=fun E S w v h=>by
 rw[show v=_ from h]
 exact bB.2 ⟨none,0,rfl,Nat.le_refl _,by simp[maxLen],fun _=>rfl,by simp,fun i c hc=>by simp at hc⟩
theorem PureOK.fnF{f:FuncId}{fn:Func}{c:Code}{args:List AV}{r:AV}{nt:Nat}{rs:List ResultVar}(hf:P.funcs[f]? =some fn)(hres:fn.results=rs.toArray)(hnt:fn.ntmps=nt)(hb:fn.body=some c)(hn:(fn.name== "runtime.NumGoroutine")=false)(hna:Nat.ble args.length nt=true)
  (haid:∀v∈args,v.ids=[]) (hr:r.ids=[]) (h:∀(w0:World) (T B:Nat→Prop) (E0:Env),(∀k,¬B k)→WP P ⟨w0,T,B,nt,E0,fun _=>false⟩ c ⟨fun t=>args[t]?,fun _=> .free⟩ (SX.bI ⟨w0,T,B,nt,E0,fun _=>false⟩ P rs ⟨r,[]⟩)):PureOK P f args r:=
 PureOK.fn hf hres hnt hb hn hna haid hr fun w0 T B E0 hB=>WP.bI (h w0 T B E0 hB)
theorem ret1{t:Tmp}{x y:AV0}(e:x=y)(h:st.tm t=some (.it x):=by rfl):aL C P [.tmp t] ⟨.it y,[]⟩ st:= .ok (aC.eq1 (aj.tmp h) e)
theorem agj{t:Tmp}{x y:AV0}(e:x.imp y)(h:st.tm t=some (.it x):=by rfl):aL C P [.tmp t] ⟨.it y,[]⟩ st:= .ok (aC.mk1 ((aj.tmp h).imp e))
theorem iN{t:Tmp}{k:IntKind}{z z':Int}(e:z=z')(h:st.tm t=some (.v (.int k z)):=by rfl):aL C P [.tmp t] ⟨.v (.int k z'),[]⟩ st:= .ok (aC.eq1 (aj.tmp h) (by rw[e]))
theorem bK{t:Tmp}{b b':Bool}(e:b=b')(h:st.tm t=some (.v (.bool b)):=by rfl):aL C P [.tmp t] ⟨.v (.bool b'),[]⟩ st:= .ok (aC.eq1 (aj.tmp h) (by rw[e]))
theorem aew{t:Tmp}{l l':List UInt8}(e:l=l')(h:st.tm t=some (.v (str l)):=by rfl):aL C P [.tmp t] ⟨.v (SX.str l'),[]⟩ st:= .ok (aC.eq1 (aj.tmp h) (by rw[e]))
theorem qg{r:ResultVar}{x y:AV0}(h:aj P st r x)(e:x=y):aL C P [r] ⟨.it y,[]⟩ st:= .ok (aC.eq1 h e)
theorem ret2{t t':Tmp}{x y x' y':AV0}(e:x=y)(e':x'=y')(h:st.tm t=some (.it x):=by rfl)(h':st.tm t'=some (.it x'):=by rfl):aL C P [.tmp t,.tmp t'] ⟨.tup [y,y'],[]⟩ st:= .ok (aC.eq2 (aj.tmp h) (aj.tmp h') e e')
theorem nW{r r':ResultVar}{x y x' y':AV0}(h:aj P st r x)(h':aj P st r' x')(e:x.imp y)(e':x'.imp y'):aL C P [r,r'] ⟨.tup [y,y'],[]⟩ st:= .ok (aC.mk2 (h.imp e) (h'.imp e'))
theorem sP{r r' r2:ResultVar}{x y x' y' x2 y2:AV0}(h:aj P st r x)(h':aj P st r' x')(h2:aj P st r2 x2)(e:x.imp y)(e':x'.imp y')(e2:x2.imp y2):aL C P [r,r',r2] ⟨.tup [y,y',y2],[]⟩ st:= .ok (aC.mk3 (h.imp e) (h'.imp e') (h2.imp e2))
theorem cb{b b':Bool}(e:b=b'):AV0.one (.c (.val (.bool b)))= .one (.c (.val (.bool b'))):=by rw[e]
theorem W.le{I:List (Nat×AV)}{H:List (Nat×Ent)}(hle:St.le C st (eZ I H):=by first|(apply SX.St.lt0;(· (intro b h;first|(cases h;done)|exact⟨rfl,h⟩|exact SX.dw h));(· (repeat(first|exact trivial|refine⟨⟨_,rfl,SX.aG.same rfl⟩,?_⟩|refine⟨⟨_,rfl,SX.aG.own rfl⟩,?_⟩|refine⟨⟨_,rfl,SX.aG.nil rfl⟩,?_⟩|refine⟨⟨_,rfl,SX.aG.int (by first|(with_reducible assumption)|omega|(simp;done)|assumption)⟩,?_⟩|refine⟨⟨_,rfl,SX.aG.str (by first|(with_reducible assumption)|(simp;done)|assumption)⟩,?_⟩|refine⟨⟨_,rfl,SX.aG.bool (by first|(with_reducible assumption)|(simp;done)|assumption)⟩,?_⟩|refine⟨⟨_,rfl,SX.aG.eq (by first|(with_reducible assumption)|(simp[*];done)) rfl⟩,?_⟩)));(· (repeat(first|exact trivial|refine⟨SX.ak.row rfl rfl rfl rfl,?_⟩|refine⟨SX.ak.row rfl rfl (by first|rfl|(simp;done)) (by first|rfl|assumption|exact SX.bq rfl|exact SX.flat_one rfl|(simp;done)),?_⟩|refine⟨SX.ak.dL rfl,?_⟩|refine⟨SX.ak.eq rfl rfl rfl,?_⟩|refine⟨SX.ak.same rfl rfl,?_⟩)));(· rfl))|(apply SX.St.ltn;(· (intro b h;first|(cases h;done)|exact⟨rfl,h⟩|exact SX.dw h));(· (repeat(first|exact trivial|refine⟨⟨_,rfl,SX.aG.same rfl⟩,?_⟩|refine⟨⟨_,rfl,SX.aG.own rfl⟩,?_⟩|refine⟨⟨_,rfl,SX.aG.nil rfl⟩,?_⟩|refine⟨⟨_,rfl,SX.aG.int (by first|(with_reducible assumption)|omega|(simp;done)|assumption)⟩,?_⟩|refine⟨⟨_,rfl,SX.aG.str (by first|(with_reducible assumption)|(simp;done)|assumption)⟩,?_⟩|refine⟨⟨_,rfl,SX.aG.bool (by first|(with_reducible assumption)|(simp;done)|assumption)⟩,?_⟩|refine⟨⟨_,rfl,SX.aG.eq (by first|(with_reducible assumption)|(simp[*];done)) rfl⟩,?_⟩)));(· (repeat(first|exact trivial|refine⟨SX.ak.row rfl rfl rfl rfl,?_⟩|refine⟨SX.ak.row rfl rfl (by first|rfl|(simp;done)) (by first|rfl|assumption|exact SX.bq rfl|exact SX.flat_one rfl|(simp;done)),?_⟩|refine⟨SX.ak.dL rfl,?_⟩|refine⟨SX.ak.eq rfl rfl rfl,?_⟩|refine⟨SX.ak.same rfl rfl,?_⟩)));(· rfl))|(apply SX.St.lt1;(· (intro b h;first|(cases h;done)|exact⟨rfl,h⟩|exact SX.dw h));(· (repeat(first|exact trivial|refine⟨⟨_,rfl,SX.aG.same rfl⟩,?_⟩|refine⟨⟨_,rfl,SX.aG.own rfl⟩,?_⟩|refine⟨⟨_,rfl,SX.aG.nil rfl⟩,?_⟩|refine⟨⟨_,rfl,SX.aG.int (by first|(with_reducible assumption)|omega|(simp;done)|assumption)⟩,?_⟩|refine⟨⟨_,rfl,SX.aG.str (by first|(with_reducible assumption)|(simp;done)|assumption)⟩,?_⟩|refine⟨⟨_,rfl,SX.aG.bool (by first|(with_reducible assumption)|(simp;done)|assumption)⟩,?_⟩|refine⟨⟨_,rfl,SX.aG.eq (by first|(with_reducible assumption)|(simp[*];done)) rfl⟩,?_⟩)));(· (repeat(first|exact trivial|refine⟨SX.ak.row rfl rfl rfl rfl,?_⟩|refine⟨SX.ak.row rfl rfl (by first|rfl|(simp;done)) (by first|rfl|assumption|exact SX.bq rfl|exact SX.flat_one rfl|(simp;done)),?_⟩|refine⟨SX.ak.dL rfl,?_⟩|refine⟨SX.ak.eq rfl rfl rfl,?_⟩|refine⟨SX.ak.same rfl rfl,?_⟩)));(· rfl))|(apply SX.St.ltnn;(· (intro b h;first|(cases h;done)|exact⟨rfl,h⟩|exact SX.dw h));(· (repeat(first|exact trivial|refine⟨⟨_,rfl,SX.aG.same rfl⟩,?_⟩|refine⟨⟨_,rfl,SX.aG.own rfl⟩,?_⟩|refine⟨⟨_,rfl,SX.aG.nil rfl⟩,?_⟩|refine⟨⟨_,rfl,SX.aG.int (by first|(with_reducible assumption)|omega|(simp;done)|assumption)⟩,?_⟩|refine⟨⟨_,rfl,SX.aG.str (by first|(with_reducible assumption)|(simp;done)|assumption)⟩,?_⟩|refine⟨⟨_,rfl,SX.aG.bool (by first|(with_reducible assumption)|(simp;done)|assumption)⟩,?_⟩|refine⟨⟨_,rfl,SX.aG.eq (by first|(with_reducible assumption)|(simp[*];done)) rfl⟩,?_⟩)));(· (repeat(first|exact trivial|refine⟨SX.ak.row rfl rfl rfl rfl,?_⟩|refine⟨SX.ak.row rfl rfl (by first|rfl|(simp;done)) (by first|rfl|assumption|exact SX.bq rfl|exact SX.flat_one rfl|(simp;done)),?_⟩|refine⟨SX.ak.dL rfl,?_⟩|refine⟨SX.ak.eq rfl rfl rfl,?_⟩|refine⟨SX.ak.same rfl rfl,?_⟩)));(· rfl))|(apply SX.St.lt11;(· (intro b h;first|(cases h;done)|exact⟨rfl,h⟩|exact SX.dw h));(· (repeat(first|exact trivial|refine⟨⟨_,rfl,SX.aG.same rfl⟩,?_⟩|refine⟨⟨_,rfl,SX.aG.own rfl⟩,?_⟩|refine⟨⟨_,rfl,SX.aG.nil rfl⟩,?_⟩|refine⟨⟨_,rfl,SX.aG.int (by first|(with_reducible assumption)|omega|(simp;done)|assumption)⟩,?_⟩|refine⟨⟨_,rfl,SX.aG.str (by first|(with_reducible assumption)|(simp;done)|assumption)⟩,?_⟩|refine⟨⟨_,rfl,SX.aG.bool (by first|(with_reducible assumption)|(simp;done)|assumption)⟩,?_⟩|refine⟨⟨_,rfl,SX.aG.eq (by first|(with_reducible assumption)|(simp[*];done)) rfl⟩,?_⟩)));(· (repeat(first|exact trivial|refine⟨SX.ak.row rfl rfl rfl rfl,?_⟩|refine⟨SX.ak.row rfl rfl (by first|rfl|(simp;done)) (by first|rfl|assumption|exact SX.bq rfl|exact SX.flat_one rfl|(simp;done)),?_⟩|refine⟨SX.ak.dL rfl,?_⟩|refine⟨SX.ak.eq rfl rfl rfl,?_⟩|refine⟨SX.ak.same rfl rfl,?_⟩)));(· rfl))|(apply SX.St.ltn1;(· (intro b h;first|(cases h;done)|exact⟨rfl,h⟩|exact SX.dw h));(· (repeat(first|exact trivial|refine⟨⟨_,rfl,SX.aG.same rfl⟩,?_⟩|refine⟨⟨_,rfl,SX.aG.own rfl⟩,?_⟩|refine⟨⟨_,rfl,SX.aG.nil rfl⟩,?_⟩|refine⟨⟨_,rfl,SX.aG.int (by first|(with_reducible assumption)|omega|(simp;done)|assumption)⟩,?_⟩|refine⟨⟨_,rfl,SX.aG.str (by first|(with_reducible assumption)|(simp;done)|assumption)⟩,?_⟩|refine⟨⟨_,rfl,SX.aG.bool (by first|(with_reducible assumption)|(simp;done)|assumption)⟩,?_⟩|refine⟨⟨_,rfl,SX.aG.eq (by first|(with_reducible assumption)|(simp[*];done)) rfl⟩,?_⟩)));(· (repeat(first|exact trivial|refine⟨SX.ak.row rfl rfl rfl rfl,?_⟩|refine⟨SX.ak.row rfl rfl (by first|rfl|(simp;done)) (by first|rfl|assumption|exact SX.bq rfl|exact SX.flat_one rfl|(simp;done)),?_⟩|refine⟨SX.ak.dL rfl,?_⟩|refine⟨SX.ak.eq rfl rfl rfl,?_⟩|refine⟨SX.ak.same rfl rfl,?_⟩)));(· rfl))|(apply SX.St.lt1n;(· (intro b h;first|(cases h;done)|exact⟨rfl,h⟩|exact SX.dw h));(· (repeat(first|exact trivial|refine⟨⟨_,rfl,SX.aG.same rfl⟩,?_⟩|refine⟨⟨_,rfl,SX.aG.own rfl⟩,?_⟩|refine⟨⟨_,rfl,SX.aG.nil rfl⟩,?_⟩|refine⟨⟨_,rfl,SX.aG.int (by first|(with_reducible assumption)|omega|(simp;done)|assumption)⟩,?_⟩|refine⟨⟨_,rfl,SX.aG.str (by first|(with_reducible assumption)|(simp;done)|assumption)⟩,?_⟩|refine⟨⟨_,rfl,SX.aG.bool (by first|(with_reducible assumption)|(simp;done)|assumption)⟩,?_⟩|refine⟨⟨_,rfl,SX.aG.eq (by first|(with_reducible assumption)|(simp[*];done)) rfl⟩,?_⟩)));(· (repeat(first|exact trivial|refine⟨SX.ak.row rfl rfl rfl rfl,?_⟩|refine⟨SX.ak.row rfl rfl (by first|rfl|(simp;done)) (by first|rfl|assumption|exact SX.bq rfl|exact SX.flat_one rfl|(simp;done)),?_⟩|refine⟨SX.ak.dL rfl,?_⟩|refine⟨SX.ak.eq rfl rfl rfl,?_⟩|refine⟨SX.ak.same rfl rfl,?_⟩)));(· rfl))):St.le C st (eZ I H):=hle
theorem W.loop{α:Type}(φ:α→Prop)(I:α→List (Nat×AV))(H:α→List (Nat×Ent))(μ:α→Nat)(a0:α)(h0:φ a0)
  (round:∀a,φ a→WP P C c (eZ (I a) (H a)) (aN (fun s=>∃a',φ a'∧St.le C s (eZ (I a') (H a'))∧μ a' < μ a) Q))
  (hle:St.le C st (eZ (I a0) (H a0)):=by exact W.le):WP P C (.loop c) st Q:=
 WP.loop (ι:={p:α // φ p}) (fun q=>match q with|⟨p,_⟩=>eZ (I p) (H p)) (fun q=>match q with|⟨p,_⟩=>μ p) ⟨a0,h0⟩ hle (fun⟨p,hp⟩=>(round p hp).mono fun e s h=>by
  cases e with
  |normal=>
   obtain⟨a',hφ,hl,hm⟩:=h;exact⟨⟨a',hφ⟩,hl,hm⟩
  |_=>exact h)
theorem W.next{α:Type}{φ:α→Prop}{I:α→List (Nat×AV)}{H:α→List (Nat×Ent)}{μ:α→Nat}{m:Nat}(a0:α)(h1:φ a0)(hm:μ a0 < m)(hle:St.le C st (eZ (I a0) (H a0)):=by exact W.le):
  ∃a',φ a'∧St.le C st (eZ (I a') (H a'))∧μ a' < m:=⟨a0,h1,hle,hm⟩
theorem W.lC{α β:Type}(φ:α→β→Prop)(I:α→β→List (Nat×AV))(H:α→β→List (Nat×Ent))(μ:α→β→Nat)(a0:α)(b0:β)(h0:φ a0 b0)
  (round:∀a b,φ a b→WP P C c (eZ (I a b) (H a b)) (aN (fun s=>∃a' b',φ a' b'∧St.le C s (eZ (I a' b') (H a' b'))∧μ a' b' < μ a b) Q))
  (hle:St.le C st (eZ (I a0 b0) (H a0 b0)):=by exact W.le):WP P C (.loop c) st Q:=
 WP.loop (ι:={p:α×β // φ p.1 p.2}) (fun q=>match q with|⟨p,_⟩=>eZ (I p.1 p.2) (H p.1 p.2)) (fun q=>match q with|⟨p,_⟩=>μ p.1 p.2) ⟨(a0,b0),h0⟩ hle (fun⟨p,hp⟩=>(round p.1 p.2 hp).mono fun e s h=>by
  cases e with
  |normal=>
   obtain⟨a',b',hφ,hl,hm⟩:=h;exact⟨⟨(a',b'),hφ⟩,hl,hm⟩
  |_=>exact h)
theorem W.kG{α β:Type}{φ:α→β→Prop}{I:α→β→List (Nat×AV)}{H:α→β→List (Nat×Ent)}{μ:α→β→Nat}{m:Nat}(a0:α)(b0:β)(h1:φ a0 b0)(hm:μ a0 b0 < m)(hle:St.le C st (eZ (I a0 b0) (H a0 b0)):=by exact W.le):
  ∃a' b',φ a' b'∧St.le C st (eZ (I a' b') (H a' b'))∧μ a' b' < m:=⟨a0,b0,h1,hle,hm⟩
theorem W.aiQ{α β γ:Type}(φ:α→β→γ→Prop)(I:α→β→γ→List (Nat×AV))(H:α→β→γ→List (Nat×Ent))(μ:α→β→γ→Nat)(a0:α)(b0:β)(d0:γ)(h0:φ a0 b0 d0)
  (round:∀a b d,φ a b d→WP P C c (eZ (I a b d) (H a b d)) (aN (fun s=>∃a' b' d',φ a' b' d'∧St.le C s (eZ (I a' b' d') (H a' b' d'))∧μ a' b' d' < μ a b d) Q))
  (hle:St.le C st (eZ (I a0 b0 d0) (H a0 b0 d0)):=by exact W.le):WP P C (.loop c) st Q:=
 WP.loop (ι:={p:α×β×γ // φ p.1 p.2.1 p.2.2}) (fun q=>match q with|⟨p,_⟩=>eZ (I p.1 p.2.1 p.2.2) (H p.1 p.2.1 p.2.2)) (fun q=>match q with|⟨p,_⟩=>μ p.1 p.2.1 p.2.2) ⟨(a0,b0,d0),h0⟩ hle (fun⟨p,hp⟩=>(round p.1 p.2.1 p.2.2 hp).mono fun e s h=>by
  cases e with
  |normal=>
   obtain⟨a',b',d',hφ,hl,hm⟩:=h;exact⟨⟨(a',b',d'),hφ⟩,hl,hm⟩
  |_=>exact h)
theorem W.alO{α β γ:Type}{φ:α→β→γ→Prop}{I:α→β→γ→List (Nat×AV)}{H:α→β→γ→List (Nat×Ent)}{μ:α→β→γ→Nat}{m:Nat}(a0:α)(b0:β)(d0:γ)(h1:φ a0 b0 d0)(hm:μ a0 b0 d0 < m)(hle:St.le C st (eZ (I a0 b0 d0) (H a0 b0 d0)):=by exact W.le):
  ∃a' b' d',φ a' b' d'∧St.le C st (eZ (I a' b' d') (H a' b' d'))∧μ a' b' d' < m:=⟨a0,b0,d0,h1,hle,hm⟩
theorem W.meet{x y:Code}(I:List (Nat×AV))(H:List (Nat×Ent))(h:WP P C x st (aN (fun s=>St.le C s (eZ I H)) Q))(k:WP P C y (eZ I H) Q):WP P C (.seq x y) st Q:=WP.meet (eZ I H) h k
end
end SX
import Derived.Test.YthnkfhfcgjoieaaGreatDoorO2
set_option linter.unusedVariables false
set_option linter.unusedSimpArgs false
namespace SX
open Go Go.RowKit
section
class eY{α:Type}(enc:α->List CA)(size:outParam Nat):Prop where
 h:∀a,(enc a).length=size
section
variable{α:Type}{enc:α->List CA}{size:Nat}
theorem aaV[h:eY enc size]:∀l:List α,(l.flatMap enc).length=l.length*size
 |[]=>by simp
 |a::l=>by rw[zq7,zqi,h.h,aaV l,zx6,zy5];omega
theorem wR[h:eY enc size]:∀{l:List α} {i:Nat} {a:α},l[i]? =some a->((l.flatMap enc).drop (i*size)).take size=enc a
 |[],i,a,hl=>by simp at hl
 |x::l,0,a,hl=>by
  simp at hl;subst hl
  rw[zw3,List.drop_zero,zq7,List.take_append_of_le_length (by rw[h.h];exact zq6 _),zxc (by rw[h.h];exact zq6 _)]
 |x::l,i+1,a,hl=>by
  simp at hl
  rw[zq7,zy5,Nat.one_mul,Nat.add_comm,List.drop_append,h.h];rw[List.drop_eq_nil_of_le (by rw[h.h];omega),zvd,show size+i*size - size=i*size by omega]
  exact wR hl
theorem cK{l:List α}{a:α}{m:List CA}(h:m=enc a):l.flatMap enc++m=(l++[a]).flatMap enc:=by
 rw[zvc,h];simp
theorem gK{a:α}{m:List CA}(h:m=enc a):m=[a].flatMap enc:=by rw[h];simp
theorem acu[h:eY enc size](l:List α)(k:Nat):(l.flatMap enc).take (k*size)=(l.take k).flatMap enc:=by
 induction l generalizing k with
 |nil=>simp
 |cons a l ih=>
  cases k with
  |zero=>simp
  |succ k=>rw[List.take_succ_cons,zq7,zq7,zy5,Nat.one_mul,Nat.add_comm,List.take_append,zxc (by rw[h.h];omega),h.h,show size+k*size - size=k*size by omega,ih]
theorem ak3[h:eY enc size](l:List α)(k:Nat):(l.flatMap enc).drop (k*size)=(l.drop k).flatMap enc:=by
 induction l generalizing k with
 |nil=>simp
 |cons a l ih=>
  cases k with
  |zero=>simp
  |succ k=>rw[List.drop_succ_cons,zq7,zy5,Nat.one_mul,Nat.add_comm,List.drop_append,List.drop_eq_nil_of_le (by rw[h.h];omega),h.h,show size+k*size - size=k*size by omega,ih,zvd]
theorem rD[h:eY enc size](l:List α)(i:Nat)(a:α)(hi:i < l.length):spl (l.flatMap enc) (i*size) (enc a)=(l.set i a).flatMap enc:=by
 have hl:=aaV (enc:=enc) l;have hm:i*size+size<=l.length*size:=by rw[<-zv8];exact zx1 _ hi
 rw[iV _ _ _ (by rw[h.h,hl];omega),h.h,acu,show i*size+size=(i+1)*size by rw[zv8],ak3]
 rw[show l.set i a=l.take i++[a]++l.drop (i+1)by rw[List.set_eq_take_append_cons_drop,if_pos hi];simp]
 simp
end
abbrev aB{α:Type}(size:Nat)(enc:α->List CA)(l:List α):Rep:=aQ size l.length (l.flatMap enc)
class acw(r:Rep)(size:outParam Nat){α:outParam Type}(enc:outParam (α->List CA))(l:outParam (List α)):Prop where
 h:∀S w v,r.has S w v->(aB size enc l).has S w v
instance{α:Type}(size:Nat)(enc:α->List CA)(l:List α):acw (aQ size l.length (l.flatMap enc)) size enc l:=⟨fun _ _ _ h=>h⟩
theorem CA.ahk{α:Type}{enc:α->List CA}(h:∀a,(enc a).all CA.eO=true)(l:List α):(l.flatMap enc).all CA.eO=true:=by
 induction l with
 |nil=>rfl
 |cons a l ih=>rw[zq7,List.all_append,h,ih];rfl
class ahg{α:Type}(enc:α->List CA):Prop where
 h:∀a,(enc a).all CA.eO=true
theorem atQ{α:Type}{enc:α->List CA}(l:List α)[h:ahg enc]:(l.flatMap enc).all CA.eO=true:=CA.ahk h.h l
section
variable{P:Program}{C:Ctx}{st:St}
variable{ops rest:List Oper}{acc:List (List Nat×List Nat)}{K:List (List Nat×List Nat)->St->Prop}{dst:Option Tmp}{d:Tmp}{op:Op}{ty t t':TypeId}{x y z:Operand}{k k':IntKind}{i j:Nat}{za zb zi zj:Int}
theorem G.qE{α:Type}{e:TypeId}{size sz:Nat}{enc:α->List CA}{l:List α}{a:α}{r:Rep}[ht:bT P t e size](next:Reg P C ops rest (st.app dst ⟨.r (dK (enc a)),[]⟩) (([],[])::acc) K)
  (hd:aC dst C.nt=true:=by rfl) (hx:st.ev x=some (.r r):=by rfl) (hy:st.ev y=some (.v (.int k zi)):=by rfl) (hy0:zi=(i:Int):=by first|with_reducible rfl|exact SX.jE _|rfl) (hr:acw r sz enc l:=by infer_instance) (hsz:sz=size:=by rfl) (hz:eY enc size:=by infer_instance) (ha:l[i]? =some a:=by first|assumption|exact zyh zE):Go1 P C ops dst (.indexAddr t x y) ty rest st acc K:=by
 subst hsz
 haveI:jF r sz l.length (l.flatMap enc):=⟨hr.h⟩
 have hi:i < l.length:=(zxg.1 ha).1
 refine Go1.kQ (hd:=hd) hx (evz hy hy0) hi ?_;rw[wR ha];exact next
theorem G.wG{α:Type}{e:TypeId}{size sz:Nat}{enc:α->List CA}{l:List α}{r:Rep}[ht:bT P t e size](next:Reg P C ops rest (st.app dst ⟨.r (aB size enc (l.take j)),[]⟩) (([],[])::acc) K)
  (hd:aC dst C.nt=true:=by rfl) (hx:st.ev x=some (.r r):=by rfl) (hy:st.ev y=some (.v (.int k zj)):=by rfl) (hy0:zj=(j:Int):=by first|with_reducible rfl|exact SX.jE _|rfl) (hr:acw r sz enc l:=by infer_instance) (hsz:sz=size:=by rfl) (hz:eY enc size:=by infer_instance) (h1:j<=l.length:=by omega):Go1 P C ops dst (.slice t x none (some y) none) ty rest st acc K:=by
 subst hsz
 haveI:jF r sz l.length (l.flatMap enc):=⟨hr.h⟩
 refine Go1.su (hd:=hd) hx (evz hy hy0) zE zE ?_
 rw[zw8,acu];have e:(l.take j).length=j:=by rw[zx3];omega
 have:=next
 unfold aB at this
 rwa [e]at this
theorem G.maxN{tys:Array TypeId}(next:Reg P C ops rest (st.app dst ⟨.v (.int k ((max i j:Nat):Int)),[]⟩) (([],[])::acc) K)(hd:aC dst C.nt=true:=by rfl)(hx:st.ev x=some (.v (.int k zi)):=by rfl)(hx0:zi=(i:Int):=by first|with_reducible rfl|exact SX.jE _|rfl)(hy:st.ev y=some (.v (.int k zj)):=by rfl)(hy0:zj=(j:Int):=by first|with_reducible rfl|exact SX.jE _|rfl):
  Go1 P C ops dst (.call ⟨.builtin .max,#[x,y],tys⟩) ty rest st acc K:=
 Go1.oZ hd rfl (evz hx hx0) (evz hy hy0) (fun ρ o w ho h1 h2=>by
  unfold execOp;rw[ho];have e:(if(i:Int) < (j:Int)then(j:Int)else(i:Int))=((max i j:Nat):Int):=by split <;> omega
  simp only[resolve,invoke,builtin,List.map_toArray,zy6,List.map_nil,Sem.run_bind,Sem.run_pure,Result.andThen_ok];rw[show ρ x=_ from h1,show ρ y=_ from h2,run_max_int2]
  simp only[Result.andThen_ok,gt_iff_lt,e]) next
theorem Eff.aom{E:Env}{S:Nat->Prop}{w:World}{b g cap:Nat}{e:TypeId}{size n:Nat}{cells cells':List CA}{cs':Array Value}{r:AV}{v:Value}{vs':List Value}(hl:∀k,S k->k < w.heap.size)(hS:S g)(hg:E.sl b= .slice (some ⟨g,0,none⟩) n cap)(hlt:g < w.heap.size)
  (hr:r.has E S w v) (hown:(w.setRow g cs').ownsRow 0 e size (E.sl b) n vs') (hcs:aK (CA.has S w) cells' vs'):Eff E S w [(b,.row e size n cells)] ⟨r,[(b,.ent (.row e size n cells'))]⟩ v (w.setRow g cs') E S:=by
 have ho:Off S w (w.setRow g cs'):=Off.setRow w _ _ hS;have hbk:(E.sl b).ownBlock=some g:=by rw[hg];rfl
 refine
  {env:=fun i hi=>⟨rfl,rfl⟩,fpe:=fun _ _=>rfl,sub:=fun k hk=>hk,new:=fun k hk=> .inl hk,lt:=fun k hk=>zqf (hl k hk) ho.size,off:=Off.setRow w _ _ ⟨b,_,zq9,hbk⟩,
   res:=hr.step (fun _ _=>⟨rfl,rfl⟩) ho (fun k hk=> .inl hk),ents:=fun i e' hi=>?_,blk:=fun i e' k hi hk=>?_,sep:=fun i i' e' e2 k hne h1 h2=>?_}
 ·simp at hi;obtain⟨rfl,rfl⟩:=hi
  exact⟨vs',hown,hcs.mono fun c u _ hc=>hc.step ho (fun k hk=> .inl hk)⟩
 ·simp at hi;obtain⟨rfl,rfl⟩:=hi
  have:k=g:=by have h2:(E.sl i).ownBlock=some k:=hk;rw[hbk]at h2;cases h2;rfl
  subst this;exact⟨hS,.inl ⟨i,_,zq9,hbk⟩⟩
 ·simp at h1 h2;exact absurd (h1.1.trans h2.1.symm) hne
theorem Go1.y9{e:TypeId}{b off m n size:Nat}{cells cells2 cells':List CA}{v:AV0}(hs:(P.info? t).map (·.size)=some m)(hx:st.ev x=some (.it (.one (.rptr b off))))(hy:st.ev y=some (.it v))(hb:st.hp b= .ent (.row e size n cells))(hn:v.cells.length=m)(hl:off+m<=n*size)
  (h1:v.cells.all Atom.eO=true) (hc:aY v.cells=some cells2) (hr:spl cells off cells2=cells')
  (next:Reg P C ops rest (st.app none ⟨.v undef,[(b,.ent (.row e size n cells'))]⟩) (([b],[b])::acc) K):Go1 P C ops none (.store t x y) ty rest st acc K:=by
 refine⟨[b],⟨.v undef,[(b,.ent (.row e size n cells'))]⟩,fun o h2 h3 h4=>aT.eff [] [(b,.row e size n cells)] (fun i hi=>?_) (h2▸(fun x hx=>by cases hx)) (fun b e hb=>by cases hb) (fun i e hi=>?_) (fun i s hi=>?_) (fun i s hi=>?_) (fun st' E S a w hev hhp hse _ hpre=>?_),next⟩
 ·rcases hi with⟨e,hi⟩|⟨e,hi⟩|⟨s,hi⟩
  ·cases hi
  ·simp at hi;simp[hi.1]
  ·simp at hi;simp[hi.1]
 ·simp at hi
  obtain⟨rfl,rfl⟩:=hi;exact⟨hb,_,by simp;rfl⟩
 ·simp at hi;obtain⟨rfl,_⟩:=hi;exact .inl ⟨_,by simp;rfl⟩
 ·simp at hi;rw[hi.2];rfl
 ·obtain⟨⟨g,n',cap',hE1,hv⟩,_⟩:=hse.ev ((hev x (by simp[h3,Op.operands])).trans hx)
  obtain⟨hu,hids⟩:=hse.ev ((hev y (by simp[h3,Op.operands])).trans hy)
  have hb':=hpre b (.row e size n cells) zp
  obtain⟨vs,hown,hall⟩:=hse.hp b _ hb';obtain⟨us,hc',hallu,hone⟩:=AV0.has.cells hu h1;have hlu:=hallu.length;have hcl:=eu hc;rw[hcl]at hallu;have hallu':aK (CA.has S w) cells2 us:=by
   clear hcl hc hr next hlu hc' hone
   induction cells2 generalizing us with
   |nil=>cases us with|nil=>trivial|cons _ _=>exact hallu.elim
   |cons c l ih=>cases us with|nil=>exact hallu.elim|cons u us=>exact⟨hallu.1,ih us hallu.2⟩
  have hown0:=hown;obtain⟨hxl,⟨he,_⟩|⟨g2,cap,cur,he,_,hg,hnc,hcm,hcs,htk⟩⟩:=hown
  ·rw[hE1]at he;cases he
  rw[hE1]at he;cases he;have hlen:off+us.length<=cur.toList.length:=by
   have:n*size<=cap'*size:=zx1 _ hnc;have hcz:cur.toList.length=cur.size:=zw6;omega
  have hrun:=run_store (P:=P) (off:=off) (n:=m) (cs:=cur.toList) (T:=e) (g:=g) hs hc' zE w (by simpa using hg) zE hone
  have hsp:=iV cur.toList off us hlen;have hsz:(Array.mk us).size=us.length:=rfl;have hcz:cur.toList.length=cur.size:=zw6;have hmu:us.length=m:=zE
  have hown':(w.setRow g (spl cur.toList off us).toArray).ownsRow 0 e size (E.sl b) n (spl vs off us):=by
   have hvl:vs.length=n*size:=hxl;refine⟨?_,.inr ⟨g,cap',(spl cur.toList off us).toArray,hE1,zq8 _,?_,hnc,hcm,?_,?_⟩⟩
   ·rw[iV _ _ _ zE];simp;omega
   ·exact setRow_heap w g _ _ _ _ hg
   ·rw[hsp];simp;omega
   ·rw[iV vs off us zE,hsp,<-htk]
    simp only[List.take_append,zx3,zqi,zxe,zw6,List.drop_take,List.take_take];have e1:min (n*size) off=off:=zE
    have e2:min off cur.size=off:=by rw[zw6]at hlen;omega
    have e3:min off (n*size)=off:=zE
    rw[e1,e2,e3];rw[zxc (l:=us) zE]
  have hgl:g < w.heap.size:=by rw[Array.getElem?_eq_some_iff]at hg;exact hg.1
  have hcs2:aK (CA.has S w) cells' (spl vs off us):=by
   rw[<-hr];exact aK.spl off hall hallu'
  have hE:=Eff.aom (E:=E) (S:=S) (w:=w) (b:=b) (g:=g) (cap:=cap') (e:=e) (size:=size) (n:=n) (cells:=cells) (cells':=cells') (r:= .v undef) (v:=undef) hse.lt (hse.blk b _ g hb' (by show (E.sl b).ownBlock=some g;rw[hE1];rfl)).1 hE1 hgl rfl hown' hcs2
  refine⟨⟨fun i hi=>(by cases hi),fun i e hi j hj=>?_⟩,fun K Q hK=>?_⟩
  ·simp at hi
   obtain⟨rfl,rfl⟩:=hi;cases hj
  ·unfold Oper.wp execOp;rw[h3];simp only[show a.eval x=_ from hv,Instr.storeAt,Instr.sureAddr,Sem.run_bind,Sem.run_pure,Result.andThen_ok,hrun]
   have:=hK undef _ _ _ hE;exact this
theorem G.aai{e:TypeId}{b n m bytes size:Nat}{zs:List Value}{r:Rep}{cells cells2:List CA}[ht:bT P t e size][he:fH P e zs bytes](next:Reg P C ops rest (st.app (some d) ⟨.own d,[(b,.gone),(d,.ent (.row e size (n+m) (cells++cells2)))]⟩) (([b,d],[b,d])::acc) K)(hd:aC (some d) C.nt=true:=by rfl)(hx:st.ev x=some (.own b):=by rfl)(hy:st.ev y=some (.r r):=by rfl)(hr:jF r size m cells2:=by infer_instance)
  (hb:st.hp b= .ent (.row e size n cells):=by rfl) (hf:st.hp d= .free:=by rfl) (hz:Nat.beq zs.length size=true:=by rfl) (h1:cells2.all CA.eO=true:=by first|rfl|exact SX.atQ _) (h63:n+m<=9223372036854775807:=by omega) (hbytes:(n+m)*bytes<=140737488355328:=by omega):Go1 P C ops (some d) (.call ⟨.builtin .append,#[x,y],#[t,t]⟩) ty rest st acc K:=
 Go1.append hd hx hy hb hf hz h1 h63 hbytes next
theorem G.pV{e:TypeId}{size n:Nat}{cells:List CA}{r:Rep}[ht:bT P t e size](next:Reg P C ops rest (st.app dst ⟨.r (dK ((cells.drop (i*size)).take size)),[]⟩) (([],[])::acc) K)(hd:aC dst C.nt=true:=by rfl)(hx:st.ev x=some (.r r):=by rfl)(hr:jF r size n cells:=by infer_instance)(hy:st.ev y=some (.v (.int k zi)):=by rfl)(hy0:zi=(i:Int):=by first|with_reducible rfl|exact SX.jE _|rfl)(hi:i < n:=by omega):Go1 P C ops dst (.indexAddr t x y) ty rest st acc K:=
 Go1.kQ (hd:=hd) hx (evz hy hy0) hi next
end
end
section
section
end
section
variable{P:Program}{C:Ctx}{st:St}
variable{ops rest:List Oper}{acc:List (List Nat×List Nat)}{K:List (List Nat×List Nat)->St->Prop}{dst:Option Tmp}{op:Op}{ty:TypeId}{pos:String}{af:Array Edge}
theorem R.ite{j u:Nat}{b:Bool}{p:Prop}[Decidable p](h1:p->Reg P C ops (⟨dst,op,ty,pos,af,some (j,b)⟩::rest) st acc K)(h2:¬p->Reg P C ops (⟨dst,op,ty,pos,af,some (j,b)⟩::rest) st acc K)
  (ht:(ops[j]?).bind (·.dst)=some u:=by rfl) (hv:st.tm u=some (.v (.bool (decide p))):=by rfl):Reg P C ops (⟨dst,op,ty,pos,af,some (j,b)⟩::rest) st acc K:=
 (Decidable.em p).elim h1 h2
theorem R.gq{j u:Nat}{b b':Bool}(h1:b'=true->Reg P C ops (⟨dst,op,ty,pos,af,some (j,b)⟩::rest) st acc K)(h2:b'=false->Reg P C ops (⟨dst,op,ty,pos,af,some (j,b)⟩::rest) st acc K)
  (ht:(ops[j]?).bind (·.dst)=some u:=by rfl) (hv:st.tm u=some (.v (.bool b')):=by rfl):Reg P C ops (⟨dst,op,ty,pos,af,some (j,b)⟩::rest) st acc K:=by
 cases b'
 ·exact h2 rfl
 ·exact h1 rfl
end
section
variable{P:Program}{C:Ctx}{st:St}{Q:Exit->St->Prop}{c:Code}
theorem St.lt0{l:List (Nat×AV)}{m:List (Nat×Ent)}(hfix:∀b,C.fix b=true->lk ([]:List (Nat×Option Nat)) b=none/\(lk m b).isSome=true)(ht:ahr st [] l)(hm:aaE st [] m)(hti:tidy [] l m=true):St.le C st (fP l m):=St.bV _ hfix ht hm hti
theorem St.ltn{l:List (Nat×AV)}{m:List (Nat×Ent)}(hfix:∀b,C.fix b=true->lk ([(100,none)]:List (Nat×Option Nat)) b=none/\(lk m b).isSome=true)(ht:ahr st [(100,none)] l)(hm:aaE st [(100,none)] m)(hti:tidy [(100,none)] l m=true):St.le C st (fP l m):=St.bV _ hfix ht hm hti
theorem St.lt1{o:Nat}{l:List (Nat×AV)}{m:List (Nat×Ent)}(hfix:∀b,C.fix b=true->lk ([(100,some o)]:List (Nat×Option Nat)) b=none/\(lk m b).isSome=true)(ht:ahr st [(100,some o)] l)(hm:aaE st [(100,some o)] m)(hti:tidy [(100,some o)] l m=true):St.le C st (fP l m):=St.bV _ hfix ht hm hti
theorem aH.int{ρ:List (Nat×Option Nat)}{k:IntKind}{z z':Int}(e:z=z'):aH ρ (.v (.int k z)) (.v (.int k z')):=aH.eq (by rw[e]) rfl
theorem aH.str{ρ:List (Nat×Option Nat)}{l l':List UInt8}(e:l=l'):aH ρ (.v (str l)) (.v (SX.str l')):=aH.eq (by rw[e]) rfl
theorem WP.monoC{Q':Exit->St->Prop}(h:WP P C c st Q)(k:∀e s,Q e s->∃s',St.le C s s'/\Q' e s'):WP P C c st Q':=
 fun a w hs=>wp_mono (h a w hs) fun e a w ⟨s,hq,hs⟩=>by
  obtain⟨s',hl,hq'⟩:=k e s hq;exact⟨s',hq',hl a w hs⟩
def aM(C:Ctx)(P:Program)(rs:List ResultVar)(out:Out)(st:St):Prop:=∃st',St.le C st st'/\aA P rs out st'
def bD(C:Ctx)(P:Program)(rs:List ResultVar)(out:Out):Exit->St->Prop
 | .ret,st=>aM C P rs out st
 | .normal,st=>aM C P rs out st
 |_,_=>False
theorem St.le.refl(C:Ctx)(st:St):St.le C st st:=fun _ _ h=>h
theorem WP.bD{rs:List ResultVar}{out:Out}(h:WP P C c st (bD C P rs out)):WP P C c st (bF P rs out):=
 h.monoC fun e s hq=>match e,hq with
  | .ret,⟨s',hl,hr⟩=>⟨s',hl,hr⟩
  | .normal,⟨s',hl,hr⟩=>⟨s',hl,hr⟩
theorem atp{rs:List ResultVar}{out:Out}(h:aM C P rs out st):bD C P rs out .ret st:=h
theorem ato{rs:List ResultVar}{out:Out}(h:aM C P rs out st):bD C P rs out .normal st:=h
theorem aM.ok{rs:List ResultVar}{out:Out}(h:aA P rs out st):aM C P rs out st:=⟨st,St.le.refl _ _,h⟩
theorem aM.frz{rs:List ResultVar}{out:Out}(b:Nat){size n:Nat}{t:TypeId}{cells:List CA}(h:aM C P rs out (st.frz b size n cells))(hB:∀k,¬C.B k:=by assumption)(hb:st.hp b= .ent (.row t size n cells):=by rfl):aM C P rs out st:=by
 obtain⟨s',hl,hr⟩:=h;exact⟨s',fun a w hs=>hl a w (St.aon hB hb a w hs),hr⟩
theorem AV0.imp.of_eq{x y:AV0}(h:x=y):x.imp y:=h▸AV0.imp.refl x
theorem imp_nil{size:Nat}:AV0.imp (.one (.c (.val (.slice none 0 0)))) (.one (.c (.sat (aQ size 0 [])))):=fun E S w v h=>by
 rw[show v=_ from h]
 exact bY.2 ⟨none,0,rfl,zq6 _,by simp[maxLen],fun _=>rfl,by simp,fun i c hc=>by simp at hc⟩
theorem ah.fnF{f:FuncId}{fn:Func}{c:Code}{args:List AV}{r:AV}{nt:Nat}{rs:List ResultVar}(hf:P.funcs[f]? =some fn)(hres:fn.results=rs.toArray)(hnt:fn.ntmps=nt)(hb:fn.body=some c)(hn:(fn.name== "runtime.NumGoroutine")=false)(hna:Nat.ble args.length nt=true)
  (haid:∀v∈args,v.ids=[]) (hr:r.ids=[]) (h:∀(w0:World) (T B:Nat->Prop) (E0:Env),(∀k,¬B k)->WP P ⟨w0,T,B,nt,E0,fun _=>false⟩ c ⟨fun t=>args[t]?,fun _=> .free⟩ (SX.bD ⟨w0,T,B,nt,E0,fun _=>false⟩ P rs ⟨r,[]⟩)):ah P f args r:=
 ah.fn hf hres hnt hb hn hna haid hr fun w0 T B E0 hB=>WP.bD (h w0 T B E0 hB)
theorem ah.fq{f:FuncId}{fn:Func}{c:Code}{args:List AV}{r:AV}{nt:Nat}{rs:List ResultVar}(hf:P.funcs[f]? =some fn)(hres:fn.results=rs.toArray)(hnt:fn.ntmps=nt)(h:∀(w0:World) (T B:Nat->Prop) (E0:Env),(∀k,¬B k)->WP P ⟨w0,T,B,nt,E0,fun _=>false⟩ c ⟨fun t=>args[t]?,fun _=> .free⟩ (SX.bD ⟨w0,T,B,nt,E0,fun _=>false⟩ P rs ⟨r,[]⟩))(hb:fn.body=some c:=by rfl)(hn:(fn.name== "runtime.NumGoroutine")=false:=by rfl)(hna:Nat.ble args.length nt=true:=by rfl)(haid:∀v∈args,v.ids=[]:=by simp[SX.AV.ids,SX.AV0.ids,SX.Atom.ids])(hr:r.ids=[]:=by rfl):ah P f args r:=ah.fnF hf hres hnt hb hn hna haid hr h
theorem ret1{t:Tmp}{x y:AV0}(e:x=y)(h:st.tm t=some (.it x):=by rfl):aM C P [.tmp t] ⟨.it y,[]⟩ st:= .ok (aA.eq1 (ak.tmp h) e)
theorem agu{t:Tmp}{x y:AV0}(e:x.imp y)(h:st.tm t=some (.it x):=by rfl):aM C P [.tmp t] ⟨.it y,[]⟩ st:= .ok (aA.mk1 ((ak.tmp h).imp e))
theorem iw{t:Tmp}{k:IntKind}{z z':Int}(e:z=z')(h:st.tm t=some (.v (.int k z)):=by rfl):aM C P [.tmp t] ⟨.v (.int k z'),[]⟩ st:= .ok (aA.eq1 (ak.tmp h) (by rw[e]))
theorem bf{t:Tmp}{b b':Bool}(e:b=b')(h:st.tm t=some (.v (.bool b)):=by rfl):aM C P [.tmp t] ⟨.v (.bool b'),[]⟩ st:= .ok (aA.eq1 (ak.tmp h) (by rw[e]))
theorem agY{t:Tmp}{l l':List UInt8}(e:l=l')(h:st.tm t=some (.v (str l)):=by rfl):aM C P [.tmp t] ⟨.v (SX.str l'),[]⟩ st:= .ok (aA.eq1 (ak.tmp h) (by rw[e]))
theorem nP{r:ResultVar}{x y:AV0}(h:ak P st r x)(e:x=y):aM C P [r] ⟨.it y,[]⟩ st:= .ok (aA.eq1 h e)
theorem ret2{t t':Tmp}{x y x' y':AV0}(e:x=y)(e':x'=y')(h:st.tm t=some (.it x):=by rfl)(h':st.tm t'=some (.it x'):=by rfl):aM C P [.tmp t,.tmp t'] ⟨.tup [y,y'],[]⟩ st:= .ok (aA.eq2 (ak.tmp h) (ak.tmp h') e e')
theorem qN{r r':ResultVar}{x y x' y':AV0}(h:ak P st r x)(h':ak P st r' x')(e:x.imp y)(e':x'.imp y'):aM C P [r,r'] ⟨.tup [y,y'],[]⟩ st:= .ok (aA.mk2 (h.imp e) (h'.imp e'))
theorem uz{r r' r2:ResultVar}{x y x' y' x2 y2:AV0}(h:ak P st r x)(h':ak P st r' x')(h2:ak P st r2 x2)(e:x.imp y)(e':x'.imp y')(e2:x2.imp y2):aM C P [r,r',r2] ⟨.tup [y,y',y2],[]⟩ st:= .ok (aA.mk3 (h.imp e) (h'.imp e') (h2.imp e2))
theorem cb{b b':Bool}(e:b=b'):AV0.one (.c (.val (.bool b)))= .one (.c (.val (.bool b'))):=by rw[e]
theorem W.le{I:List (Nat×AV)}{H:List (Nat×Ent)}(hle:St.le C st (fP I H):=by first|(apply St.lt0;(· (intro b h;first|(cases h;done)|exact⟨rfl,h⟩|exact SX.dX h));(· (repeat(first|exact trivial|refine⟨⟨_,rfl,aH.same rfl⟩,?_⟩|refine⟨⟨_,rfl,aH.own rfl⟩,?_⟩|refine⟨⟨_,rfl,aH.nil rfl⟩,?_⟩|refine⟨⟨_,rfl,aH.int (by first|(with_reducible assumption)|omega|(simp;done)|assumption)⟩,?_⟩|refine⟨⟨_,rfl,aH.str (by first|(with_reducible assumption)|(simp;done)|assumption)⟩,?_⟩|refine⟨⟨_,rfl,aH.bool (by first|(with_reducible assumption)|(simp;done)|assumption)⟩,?_⟩|refine⟨⟨_,rfl,aH.eq (by first|(with_reducible assumption)|(simp[*];done)) rfl⟩,?_⟩)));(· (repeat(first|exact trivial|refine⟨ay.row rfl rfl rfl rfl,?_⟩|refine⟨ay.row rfl rfl (by first|rfl|(simp;done)) (by first|rfl|assumption|exact SX.cK rfl|exact SX.gK rfl|(simp;done)),?_⟩|refine⟨ay.dZ rfl,?_⟩|refine⟨ay.eq rfl rfl rfl,?_⟩|refine⟨ay.same rfl rfl,?_⟩)));(· rfl))|(apply St.ltn;(· (intro b h;first|(cases h;done)|exact⟨rfl,h⟩|exact SX.dX h));(· (repeat(first|exact trivial|refine⟨⟨_,rfl,aH.same rfl⟩,?_⟩|refine⟨⟨_,rfl,aH.own rfl⟩,?_⟩|refine⟨⟨_,rfl,aH.nil rfl⟩,?_⟩|refine⟨⟨_,rfl,aH.int (by first|(with_reducible assumption)|omega|(simp;done)|assumption)⟩,?_⟩|refine⟨⟨_,rfl,aH.str (by first|(with_reducible assumption)|(simp;done)|assumption)⟩,?_⟩|refine⟨⟨_,rfl,aH.bool (by first|(with_reducible assumption)|(simp;done)|assumption)⟩,?_⟩|refine⟨⟨_,rfl,aH.eq (by first|(with_reducible assumption)|(simp[*];done)) rfl⟩,?_⟩)));(· (repeat(first|exact trivial|refine⟨ay.row rfl rfl rfl rfl,?_⟩|refine⟨ay.row rfl rfl (by first|rfl|(simp;done)) (by first|rfl|assumption|exact SX.cK rfl|exact SX.gK rfl|(simp;done)),?_⟩|refine⟨ay.dZ rfl,?_⟩|refine⟨ay.eq rfl rfl rfl,?_⟩|refine⟨ay.same rfl rfl,?_⟩)));(· rfl))|(apply St.lt1;(· (intro b h;first|(cases h;done)|exact⟨rfl,h⟩|exact SX.dX h));(· (repeat(first|exact trivial|refine⟨⟨_,rfl,aH.same rfl⟩,?_⟩|refine⟨⟨_,rfl,aH.own rfl⟩,?_⟩|refine⟨⟨_,rfl,aH.nil rfl⟩,?_⟩|refine⟨⟨_,rfl,aH.int (by first|(with_reducible assumption)|omega|(simp;done)|assumption)⟩,?_⟩|refine⟨⟨_,rfl,aH.str (by first|(with_reducible assumption)|(simp;done)|assumption)⟩,?_⟩|refine⟨⟨_,rfl,aH.bool (by first|(with_reducible assumption)|(simp;done)|assumption)⟩,?_⟩|refine⟨⟨_,rfl,aH.eq (by first|(with_reducible assumption)|(simp[*];done)) rfl⟩,?_⟩)));(· (repeat(first|exact trivial|refine⟨ay.row rfl rfl rfl rfl,?_⟩|refine⟨ay.row rfl rfl (by first|rfl|(simp;done)) (by first|rfl|assumption|exact SX.cK rfl|exact SX.gK rfl|(simp;done)),?_⟩|refine⟨ay.dZ rfl,?_⟩|refine⟨ay.eq rfl rfl rfl,?_⟩|refine⟨ay.same rfl rfl,?_⟩)));(· rfl))|(apply St.ltnn;(· (intro b h;first|(cases h;done)|exact⟨rfl,h⟩|exact SX.dX h));(· (repeat(first|exact trivial|refine⟨⟨_,rfl,aH.same rfl⟩,?_⟩|refine⟨⟨_,rfl,aH.own rfl⟩,?_⟩|refine⟨⟨_,rfl,aH.nil rfl⟩,?_⟩|refine⟨⟨_,rfl,aH.int (by first|(with_reducible assumption)|omega|(simp;done)|assumption)⟩,?_⟩|refine⟨⟨_,rfl,aH.str (by first|(with_reducible assumption)|(simp;done)|assumption)⟩,?_⟩|refine⟨⟨_,rfl,aH.bool (by first|(with_reducible assumption)|(simp;done)|assumption)⟩,?_⟩|refine⟨⟨_,rfl,aH.eq (by first|(with_reducible assumption)|(simp[*];done)) rfl⟩,?_⟩)));(· (repeat(first|exact trivial|refine⟨ay.row rfl rfl rfl rfl,?_⟩|refine⟨ay.row rfl rfl (by first|rfl|(simp;done)) (by first|rfl|assumption|exact SX.cK rfl|exact SX.gK rfl|(simp;done)),?_⟩|refine⟨ay.dZ rfl,?_⟩|refine⟨ay.eq rfl rfl rfl,?_⟩|refine⟨ay.same rfl rfl,?_⟩)));(· rfl))|(apply St.lt11;(· (intro b h;first|(cases h;done)|exact⟨rfl,h⟩|exact SX.dX h));(· (repeat(first|exact trivial|refine⟨⟨_,rfl,aH.same rfl⟩,?_⟩|refine⟨⟨_,rfl,aH.own rfl⟩,?_⟩|refine⟨⟨_,rfl,aH.nil rfl⟩,?_⟩|refine⟨⟨_,rfl,aH.int (by first|(with_reducible assumption)|omega|(simp;done)|assumption)⟩,?_⟩|refine⟨⟨_,rfl,aH.str (by first|(with_reducible assumption)|(simp;done)|assumption)⟩,?_⟩|refine⟨⟨_,rfl,aH.bool (by first|(with_reducible assumption)|(simp;done)|assumption)⟩,?_⟩|refine⟨⟨_,rfl,aH.eq (by first|(with_reducible assumption)|(simp[*];done)) rfl⟩,?_⟩)));(· (repeat(first|exact trivial|refine⟨ay.row rfl rfl rfl rfl,?_⟩|refine⟨ay.row rfl rfl (by first|rfl|(simp;done)) (by first|rfl|assumption|exact SX.cK rfl|exact SX.gK rfl|(simp;done)),?_⟩|refine⟨ay.dZ rfl,?_⟩|refine⟨ay.eq rfl rfl rfl,?_⟩|refine⟨ay.same rfl rfl,?_⟩)));(· rfl))|(apply St.ltn1;(· (intro b h;first|(cases h;done)|exact⟨rfl,h⟩|exact SX.dX h));(· (repeat(first|exact trivial|refine⟨⟨_,rfl,aH.same rfl⟩,?_⟩|refine⟨⟨_,rfl,aH.own rfl⟩,?_⟩|refine⟨⟨_,rfl,aH.nil rfl⟩,?_⟩|refine⟨⟨_,rfl,aH.int (by first|(with_reducible assumption)|omega|(simp;done)|assumption)⟩,?_⟩|refine⟨⟨_,rfl,aH.str (by first|(with_reducible assumption)|(simp;done)|assumption)⟩,?_⟩|refine⟨⟨_,rfl,aH.bool (by first|(with_reducible assumption)|(simp;done)|assumption)⟩,?_⟩|refine⟨⟨_,rfl,aH.eq (by first|(with_reducible assumption)|(simp[*];done)) rfl⟩,?_⟩)));(· (repeat(first|exact trivial|refine⟨ay.row rfl rfl rfl rfl,?_⟩|refine⟨ay.row rfl rfl (by first|rfl|(simp;done)) (by first|rfl|assumption|exact SX.cK rfl|exact SX.gK rfl|(simp;done)),?_⟩|refine⟨ay.dZ rfl,?_⟩|refine⟨ay.eq rfl rfl rfl,?_⟩|refine⟨ay.same rfl rfl,?_⟩)));(· rfl))|(apply St.lt1n;(· (intro b h;first|(cases h;done)|exact⟨rfl,h⟩|exact SX.dX h));(· (repeat(first|exact trivial|refine⟨⟨_,rfl,aH.same rfl⟩,?_⟩|refine⟨⟨_,rfl,aH.own rfl⟩,?_⟩|refine⟨⟨_,rfl,aH.nil rfl⟩,?_⟩|refine⟨⟨_,rfl,aH.int (by first|(with_reducible assumption)|omega|(simp;done)|assumption)⟩,?_⟩|refine⟨⟨_,rfl,aH.str (by first|(with_reducible assumption)|(simp;done)|assumption)⟩,?_⟩|refine⟨⟨_,rfl,aH.bool (by first|(with_reducible assumption)|(simp;done)|assumption)⟩,?_⟩|refine⟨⟨_,rfl,aH.eq (by first|(with_reducible assumption)|(simp[*];done)) rfl⟩,?_⟩)));(· (repeat(first|exact trivial|refine⟨ay.row rfl rfl rfl rfl,?_⟩|refine⟨ay.row rfl rfl (by first|rfl|(simp;done)) (by first|rfl|assumption|exact SX.cK rfl|exact SX.gK rfl|(simp;done)),?_⟩|refine⟨ay.dZ rfl,?_⟩|refine⟨ay.eq rfl rfl rfl,?_⟩|refine⟨ay.same rfl rfl,?_⟩)));(· rfl))):St.le C st (fP I H):=hle
theorem W.loop{α:Type}(φ:α->Prop)(I:α->List (Nat×AV))(H:α->List (Nat×Ent))(μ:α->Nat)(a0:α)(h0:φ a0)
  (round:∀a,φ a->WP P C c (fP (I a) (H a)) (aJ (fun s=>∃a',φ a'/\St.le C s (fP (I a') (H a'))/\μ a' < μ a) Q))
  (hle:St.le C st (fP (I a0) (H a0)):=by exact W.le):WP P C (.loop c) st Q:=
 WP.loop (ι:={p:α // φ p}) (fun q=>match q with|⟨p,_⟩=>fP (I p) (H p)) (fun q=>match q with|⟨p,_⟩=>μ p) ⟨a0,h0⟩ hle (fun⟨p,hp⟩=>(round p hp).mono fun e s h=>by
  cases e with
  |normal=>
   obtain⟨a',hφ,hl,hm⟩:=h;exact⟨⟨a',hφ⟩,hl,hm⟩
  |_=>exact h)
theorem W.next{α:Type}{φ:α->Prop}{I:α->List (Nat×AV)}{H:α->List (Nat×Ent)}{μ:α->Nat}{m:Nat}(a0:α)(h1:φ a0)(hm:μ a0 < m)(hle:St.le C st (fP (I a0) (H a0)):=by exact W.le):
  ∃a',φ a'/\St.le C st (fP (I a') (H a'))/\μ a' < m:=⟨a0,h1,hle,hm⟩
theorem W.nZ{α β:Type}(φ:α->β->Prop)(I:α->β->List (Nat×AV))(H:α->β->List (Nat×Ent))(μ:α->β->Nat)(a0:α)(b0:β)(h0:φ a0 b0)
  (round:∀a b,φ a b->WP P C c (fP (I a b) (H a b)) (aJ (fun s=>∃a' b',φ a' b'/\St.le C s (fP (I a' b') (H a' b'))/\μ a' b' < μ a b) Q))
  (hle:St.le C st (fP (I a0 b0) (H a0 b0)):=by exact W.le):WP P C (.loop c) st Q:=
 WP.loop (ι:={p:α×β // φ p.1 p.2}) (fun q=>match q with|⟨p,_⟩=>fP (I p.1 p.2) (H p.1 p.2)) (fun q=>match q with|⟨p,_⟩=>μ p.1 p.2) ⟨(a0,b0),h0⟩ hle (fun⟨p,hp⟩=>(round p.1 p.2 hp).mono fun e s h=>by
  cases e with
  |normal=>
   obtain⟨a',b',hφ,hl,hm⟩:=h;exact⟨⟨(a',b'),hφ⟩,hl,hm⟩
  |_=>exact h)
theorem W.nM{α β:Type}{φ:α->β->Prop}{I:α->β->List (Nat×AV)}{H:α->β->List (Nat×Ent)}{μ:α->β->Nat}{m:Nat}(a0:α)(b0:β)(h1:φ a0 b0)(hm:μ a0 b0 < m)(hle:St.le C st (fP (I a0 b0) (H a0 b0)):=by exact W.le):
  ∃a' b',φ a' b'/\St.le C st (fP (I a' b') (H a' b'))/\μ a' b' < m:=⟨a0,b0,h1,hle,hm⟩
theorem W.aqc{α β γ:Type}(φ:α->β->γ->Prop)(I:α->β->γ->List (Nat×AV))(H:α->β->γ->List (Nat×Ent))(μ:α->β->γ->Nat)(a0:α)(b0:β)(d0:γ)(h0:φ a0 b0 d0)
  (round:∀a b d,φ a b d->WP P C c (fP (I a b d) (H a b d)) (aJ (fun s=>∃a' b' d',φ a' b' d'/\St.le C s (fP (I a' b' d') (H a' b' d'))/\μ a' b' d' < μ a b d) Q))
  (hle:St.le C st (fP (I a0 b0 d0) (H a0 b0 d0)):=by exact W.le):WP P C (.loop c) st Q:=
 WP.loop (ι:={p:α×β×γ // φ p.1 p.2.1 p.2.2}) (fun q=>match q with|⟨p,_⟩=>fP (I p.1 p.2.1 p.2.2) (H p.1 p.2.1 p.2.2)) (fun q=>match q with|⟨p,_⟩=>μ p.1 p.2.1 p.2.2) ⟨(a0,b0,d0),h0⟩ hle (fun⟨p,hp⟩=>(round p.1 p.2.1 p.2.2 hp).mono fun e s h=>by
  cases e with
  |normal=>
   obtain⟨a',b',d',hφ,hl,hm⟩:=h;exact⟨⟨(a',b',d'),hφ⟩,hl,hm⟩
  |_=>exact h)
theorem W.ane{α β γ:Type}{φ:α->β->γ->Prop}{I:α->β->γ->List (Nat×AV)}{H:α->β->γ->List (Nat×Ent)}{μ:α->β->γ->Nat}{m:Nat}(a0:α)(b0:β)(d0:γ)(h1:φ a0 b0 d0)(hm:μ a0 b0 d0 < m)(hle:St.le C st (fP (I a0 b0 d0) (H a0 b0 d0)):=by exact W.le):
  ∃a' b' d',φ a' b' d'/\St.le C st (fP (I a' b' d') (H a' b' d'))/\μ a' b' d' < m:=⟨a0,b0,d0,h1,hle,hm⟩
theorem W.meet{x y:Code}(I:List (Nat×AV))(H:List (Nat×Ent))(h:WP P C x st (aJ (fun s=>St.le C s (fP I H)) Q))(k:WP P C y (fP I H) Q):WP P C (.seq x y) st Q:=WP.meet (fP I H) h k
end
end

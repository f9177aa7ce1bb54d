import Derived.Test.YthnkfhfcgjoieaaGreatDoorO1
import Derived.Laws.OwnMore
import Derived.Laws.AppendOwnNone
set_option linter.unusedVariables false
set_option linter.unusedSimpArgs false
theorem z6{p:Prop}(h:p:=by kernel_rfl):p:=h
namespace SX
open Go Go.RowKit
section
section
variable{P:Program}
def aY:List Atom->Option (List CA)
 |[]=>some []
 | .c a::l=>match aY l with|some m=>some (a::m)|none=>none
 |_::_=>none
theorem eu:∀{l:List Atom} {m:List CA},aY l=some m->l=m.map Atom.c
 |[],m,h=>by simp[aY]at h;subst h;rfl
 | .c a::l,m,h=>by
  unfold aY at h;cases hl:aY l with
  |none=>simp[hl]at h
  |some m'=>simp[hl]at h;subst h;simp[eu hl]
 | .ptr _ _::_,_,h=>by simp[aY]at h
 | .own _::_,_,h=>by simp[aY]at h
 | .rptr _ _::_,_,h=>by simp[aY]at h
 | .clo _ _::_,_,h=>by simp[aY]at h
 | .bnd _ _::_,_,h=>by simp[aY]at h
 | .rel _ _::_,_,h=>by simp[aY]at h
theorem iH{E:Env}{S:Nat->Prop}{w:World}:∀{m:List CA} {vs:List Value},aK (Atom.has E S w) (m.map Atom.c) vs->aK (CA.has S w) m vs
 |[],[],_=>trivial
 |_::_,_::_,h=>⟨h.1,iH h.2⟩
 |[],_::_,h=>h.elim
 |_::_,[],h=>h.elim
theorem yP{E:Env}{S:Nat->Prop}{w:World}:∀{m:List CA} {vs:List Value},aK (CA.has S w) m vs->aK (Atom.has E S w) (m.map Atom.c) vs
 |[],[],_=>trivial
 |_::_,_::_,h=>⟨h.1,yP h.2⟩
 |[],_::_,h=>h.elim
 |_::_,[],h=>h.elim
def CA.eO:CA->Bool
 | .val v=>v.oneCell'
 | .sat _=>true
theorem anJ{S:Nat->Prop}{w:World}:∀{m:List CA} {vs:List Value},aK (CA.has S w) m vs->m.all CA.eO=true->∀u∈vs,u.oneCell'=true
 |[],[],_,_,u,hu=>by simp at hu
 |a::m,v::vs,h,h1,u,hu=>by
  simp only[List.all_cons,zx4]at h1;rcases zy3.1 hu with rfl|hu
  ·cases a with
   |val x=>rw[show u=x from h.1];exact h1.1
   |sat r=>exact r.one h.1
  ·exact anJ h.2 h1.2 u hu
 |[],_::_,h,_,_,_=>h.elim
 |_::_,[],h,_,_,_=>h.elim
theorem aa5(w:World)(t ty e:TypeId)(i:TypeInfo)(z:Value)(size bytes:Nat)(ht:P.underlying t=some (.slice e))(hi:P.info? e=some i)(hz:i.zero=some z)
  (hsize:i.size=size) (hby:i.bytes=bytes) (hzs:z.cells.size=size)
  (v:Value) (n:Nat) (xs:List Value) (hown:w.ownsRow 0 e size v n xs)
  (a:Addr) (m c:Nat) (news:List Value) (hl:news.length=m*size) (hnews:∀j u,news[j]? =some u->w.cell? (a.add j)=some u) (h1:∀u∈news,u.oneCell'=true)
  (h63:n+m<=maxLen) (hbytes:(n+m)*bytes<=140737488355328):
  ∃v' w',(Builtin.append_ #[t,t] ty #[v,.slice (some a) m c]).run P w= .ok v' w'/\w'.ownsRow 0 e size v' (n+m) (xs++news)/\w.grownBy w' v.ownBlock/\∀k,v'.ownBlock=some k->v.ownBlock=some k\/w.heap.size<=k:=by
 subst hsize hby;have hsmall:n+m<=9223372036854775807:=by simp only[maxLen]at h63;omega
 have hlen:(xs++news).length=(n+m)*i.size:=by rw[zqi,hown.1,hl,zy5]
 have grown:∀(old:Nat),old < n+m->∀(row:Option Nat),
   (w.drew.alloc (.cells (xs.toArray++news.toArray++Builtin.zeroCells z.cells (grownCap w (n+m) old e - (n+m))) e)).ownsRow 0 e i.size
    (.slice (some ⟨w.heap.size,0,none⟩) (n+m) (grownCap w (n+m) old e)) (n+m) (xs++news)/\
   w.grownBy (w.drew.alloc (.cells (xs.toArray++news.toArray++Builtin.zeroCells z.cells (grownCap w (n+m) old e - (n+m))) e)) row:=by
  intro old ho row;have hge:=grownCap_ge w (n+m) old e;have hcm:grownCap w (n+m) old e<=maxLen:=grownCap_le_maxLen w (n+m) old e h63;refine⟨⟨hlen,.inr ⟨w.heap.size,_,_,rfl,zq8 _,heap_alloc_new w.drew _,hge,hcm,?_,?_⟩⟩,⟨rfl,rfl,rfl,by simp,fun k hk _=>Below.heap_alloc w.drew _ k hk⟩⟩
  ·simp only[Array.size_append,List.size_toArray,size_zeroCells,hzs,hown.1,hl,<-zy5]
   congr 1
   omega
  ·simp only[Array.toList_append,zqj];rw[<-zqj,<-hlen];exact List.take_left
 rcases hown.2 with⟨rfl,rfl⟩|⟨g,cap,cur,rfl,_,hg,hnc,hcm,hcs,htake⟩
 ·have hx:xs=[]:=zx5 (by simpa using hown.1)
  subst hx;by_cases hm:m=0
  ·subst hm;have hn:news=[]:=zx5 (by simpa using hl)
   subst hn;refine⟨.slice none 0 0,w,?_,World.ownsRow_nil w 0 e i.size,⟨rfl,rfl,rfl,zq6 _,fun _ _ _=>rfl⟩,fun k hk=>by simp[Value.ownBlock]at hk⟩
   simp[Builtin.append_,run_underlying ht,Go.sizeOf,typeInfo,hi,Builtin.lenOf,Builtin.firstCells,loadCells,loadCellsFrom]
  ·have hr:=run_append_nil (P:=P) w t ty e i z ht hi hz a m c news hl hnews zE zE (by have hb:=hbytes;simp only[zv7]at hb;omega)
   have hgr:=grown 0 zE (Value.ownBlock (.slice none 0 0))
   simp only[zv7,zvd,Array.empty_append]at hgr ⊢;exact⟨_,_,hr,hgr.1,hgr.2,fun k hk=> .inr (by simp[Value.ownBlock]at hk;omega)⟩
 ·by_cases hroom:n+m<=cap
  ·have hfit:n*i.size+news.length<=cur.size:=by rw[hl,hcs,<-zy5];exact zx1 _ hroom
   have hr:=run_append_room (P:=P) w t ty e i ht hi g n cap cur hg a m c news hl hnews h1 hroom hfit;refine⟨_,_,hr,⟨hlen,.inr ⟨g,cap,_,rfl,zq8 _,setRow_heap w g cur _ e _ hg,hroom,hcm,?_,?_⟩⟩,⟨rfl,rfl,rfl,by simp,fun k _ hk=>setRow_other w g k _ (fun e=>hk (by simp[Value.ownBlock,e]))⟩,fun k hk=> .inl hk⟩
   ·simp only[List.size_toArray,zqi,zx3,zxe,zw6];omega
   ·rw[htake,<-hlen];exact List.take_left
  ·have holds:∀j u,xs[j]? =some u->w.cell? ((⟨g,0,none⟩:Addr).add j)=some u:=hown.cells (g:=g) rfl;have hr:=run_append_grow (P:=P) w t ty e i z ht hi hz ⟨g,0,none⟩ n cap xs hown.1 holds a m c news hl hnews zE zE (growslice_fits zE hbytes)
   have hgr:=grown cap zE (Value.ownBlock (.slice (some ⟨g,0,none⟩) n cap))
   exact⟨_,_,hr,hgr.1,hgr.2,fun k hk=> .inr (by simp[Value.ownBlock]at hk;omega)⟩
end
end
section
section
variable{P:Program}
theorem mX{w w':World}{row:Option Nat}{S:Nat->Prop}(h:w.grownBy w' row)(hr:∀k,row=some k->S k):Off S w w':=
 ⟨h.os,h.tape,h.output,h.size,fun k hk hn=>h.block k hk (fun e=>hn (hr k e.symm))⟩
theorem Eff.row{E:Env}{S:Nat->Prop}{w w':World}{b:Nat}{T:TypeId}{size n:Nat}{cells:List CA}{vs:List Value}{v:Value}{pre:List (Nat×Ent)}{gones:List (Nat×Slot)}
  (hl:∀k,S k->k < w.heap.size) (hS:∀c e k,(c,e)∈pre->e.at E c k->S k) (hnot:∀e,(b,e)∉pre) (hg:∀c s,(c,s)∈gones->s= .gone/\∃e,(c,e)∈pre)
  (ho:Off (fun k=>∃c e,(c,e)∈pre/\e.at E c k) w w') (hown:w'.ownsRow 0 T size v n vs) (hcs:aK (CA.has S w) cells vs)
  (hb:∀k,v.ownBlock=some k->(∃c e,(c,e)∈pre/\e.at E c k)\/w.heap.size<=k):
  Eff E S w pre ⟨.own b,gones++[(b,.ent (.row T size n cells))]⟩ v w' ⟨E.blk,upd E.sl b v,E.fp⟩ (fun k=>S k\/v.ownBlock=some k):=by
 have hone:v.oneCell'=true:=by
  rcases hown.2 with⟨rfl,_⟩|⟨_,_,_,rfl,_⟩ <;> rfl
 have hSS:∀k,(S k\/v.ownBlock=some k)->S k\/w.heap.size<=k:=fun k hk=>hk.elim .inl fun hk=>(hb k hk).imp (fun⟨c,e,h1,h2⟩=>hS c e k h1 h2) id
 have hoS:Off S w w':=ho.mono fun k ⟨c,e,h1,h2⟩=>hS c e k h1 h2
 have hent:∀i e,(i,Slot.ent e)∈gones++[(b,Slot.ent (Ent.row T size n cells))]->i=b/\e= .row T size n cells:=by
  intro i e hi;rcases zyg.1 hi with hi|hi
  ·have:=(hg _ _ hi).1;cases this
  ·simp at hi;exact hi
 refine
  {env:=fun i hi=>?_,fpe:=fun _ _=>rfl,sub:=fun k hk=> .inl hk,new:=hSS,lt:=fun k hk=>?_,off:=ho,res:=⟨by show v=upd E.sl b v b;rw[upd_same],hone⟩,
   ents:=fun i e hi=>?_,blk:=fun i e k hi hk=>?_,sep:=fun i i' e e' k hne h1 h2=>?_}
 ·by_cases e:i=b
  ·subst e;obtain⟨e,he⟩:=hi ⟨_,by simp;exact .inr rfl⟩
   exact absurd he (hnot e)
  ·exact⟨rfl,upd_ne _ _ e⟩
 ·rcases hk with hk|hk
  ·exact zqf (hl k hk) ho.size
  ·exact(hown.lt k hk).2
 ·obtain⟨rfl,rfl⟩:=hent i e hi;refine⟨vs,?_,hcs.mono fun a u _ hau=>hau.step hoS hSS⟩
  show w'.ownsRow 0 T size (upd E.sl i v i) n vs;rw[upd_same];exact hown
 ·obtain⟨rfl,rfl⟩:=hent i e hi;have hk':v.ownBlock=some k:=by
   have:(upd E.sl i v i).ownBlock=some k:=hk
   rwa [upd_same]at this
  exact⟨.inr hk',hb k hk'⟩
 ·exact absurd ((hent i e h1).1.trans (hent i' e' h2).1.symm) hne
end
section
variable{P:Program}{C:Ctx}{st:St}
variable{ops rest:List Oper}{acc:List (List Nat×List Nat)}{K:List (List Nat×List Nat)->St->Prop}{d:Tmp}{op:Op}{ty t:TypeId}{x y:Operand}
theorem aT.newRow{o:Oper}{d:Tmp}{T:TypeId}{size n:Nat}{cells:List CA}(hdst:o.dst=some d)(hd:aC (some d) C.nt=true)(hf:st.hp d= .free)(rd:List (Nat×Ent))(hrd:∀b e,(b,e)∈rd->st.hp b= .ent e)
  (h:∀st' E S a w,(∀x∈o.op.operands,st'.ev x=st.ev x)->nE C st' E S a w->(∀b e,(b,e)∈rd->st'.hp b= .ent e)->
   ∃v w' vs,(execOp a.eval o).run P w= .ok (.value v) w'/\w'.ownsRow 0 T size v n vs/\Off none' w w'/\(∀k,v.ownBlock=some k->w.heap.size<=k)/\aK (CA.has S w) cells vs):
  aT P C o st (d::rd.map (·.1)) ⟨.own d,[(d,.ent (.row T size n cells))]⟩:=by
 refine aT.eff rd [] (fun b hb=>?_) (hdst▸dR hd) hrd (fun b e hb=>by cases hb) (fun b s hb=>?_) (fun b s hb=>?_) (fun st' E S a w hev hhp hs hrd' _=>?_)
 ·rcases hb with⟨e,hb⟩|⟨e,hb⟩|⟨s,hb⟩
  ·exact zy2 _ (zqg.2 ⟨_,hb,rfl⟩)
  ·cases hb
  ·simp at hb;simp[hb.1]
 ·simp at hb;rw[hb.1];exact .inr hf
 ·simp at hb;rw[hb.2];rfl
 ·obtain⟨v,w',vs,hr,hown,ho,hb,hall⟩:=h st' E S a w hev hs hrd';refine⟨⟨fun i hi=>?_,fun b e hb i hi=>?_⟩,fun K Q hK=>?_⟩
  ·simp[AV.ids,AV0.ids,Atom.ids]at hi;subst hi;simp[fZ,Slot.used]
  ·simp at hb
   obtain⟨rfl,rfl⟩:=hb;cases hi
  ·have hE:=Eff.row (E:=E) (S:=S) (b:=d) (pre:=[]) (gones:=[]) hs.lt (fun c e k h=>by cases h) (fun e h=>by cases h) (fun c s h=>by cases h) (ho.mono fun k hk=>hk.elim) hown hall (fun k hk=> .inr (hb k hk))
   unfold Oper.wp;rw[hr];exact hK _ _ _ _ hE
theorem oP{e:TypeId}{zs:List Value}{bytes size:Nat}(h:fH P e zs bytes)(hs:(P.info? e).map (·.size)=some size):∃i z,P.info? e=some i/\i.zero=some z/\z.cells=zs.toArray/\i.size=size/\i.bytes=bytes:=by
 obtain⟨i,hi,hn⟩:=zya.1 h.h;obtain⟨i',hi',hs'⟩:=zya.1 hs;rw[hi]at hi';cases hi';simp only[Prod.mk.injEq]at hn;obtain⟨z,hz,hc⟩:=zya.1 hn.1;exact⟨i,z,hi,hz,hc,hs',hn.2⟩
theorem rJ{S:Nat->Prop}{w:World}(z:Value):∀n:Nat,aK (CA.has S w) (List.replicate n (CA.val z)) (List.replicate n z)
 |0=>trivial
 |n+1=>⟨rfl,rJ z n⟩
theorem Go1.make{e:TypeId}{n bytes:Nat}{k k':IntKind}{z:Value}[ht:bT P t e 1][he:fH P e [z] bytes](hd:aC (some d) C.nt=true)(hx:st.ev x=some (.v (.int k (n:Int))))(hy:st.ev y=some (.v (.int k' (n:Int))))(hf:st.hp d= .free)
  (hb:n*bytes<=140737488355328) (hm:n<=9223372036854775807)
  (next:Reg P C ops rest (st.app (some d) ⟨.own d,[(d,.ent (.row e 1 n (List.replicate n (.val z))))]⟩) (([d],[d])::acc) K):Go1 P C ops (some d) (.makeSlice t x y) ty rest st acc K:=
 ⟨[d],⟨.own d,[(d,.ent (.row e 1 n (List.replicate n (.val z))))]⟩,fun o h2 h3 h4=>aT.newRow h2 hd hf [] (fun b e hb=>by cases hb) (fun st' E S a w hev hs _=>by
  have hxv:a.eval x= .int k (n:Int):=(hs.ev ((hev x (by simp[h3,Op.operands])).trans hx)).1
  have hyv:a.eval y= .int k' (n:Int):=(hs.ev ((hev y (by simp[h3,Op.operands])).trans hy)).1
  obtain⟨i,z',hi,hz,hc,hsz,hby⟩:=oP he ht.s;obtain⟨w',hrun,hown,hgr⟩:=run_make_full (P:=P) w 0 t e i z' 1 ht.h hi hz hsz k k' n (by rw[hby,zxj];omega) (by simp[maxLen];omega) (zq8 _)
  refine⟨.slice (some ⟨w.heap.size,0,none⟩) n n,w',List.replicate n z,?_,?_,mX hgr (fun k hk=>by cases hk),fun k hk=>by simp[Value.ownBlock]at hk;omega,rJ z n⟩
  ·unfold execOp;rw[h3];simp[hxv,hyv,hrun]
  ·have hl:(madeCells z'.cells (n*1)).toList=List.replicate n z:=by rw[hc];show (madeCells #[z] (n*1)).toList=_;rw[toList_madeCells_one,Nat.mul_one]
   rw[<-hl];exact hown),next⟩
theorem pY{p p':Nat->Option (Nat×Nat)}:∀(l:List (Nat×Value)) (cs:Array Value),(∀q∈l,p q.1=p' q.1)->Instr.fill p cs l=Instr.fill p' cs l
 |[],_,_=>rfl
 |(i,v)::l,cs,h=>by
  unfold Instr.fill;rw[h (i,v) zp]
  cases hp:p' i with
  |none=>rfl
  |some q=>
   obtain⟨off,size⟩:=q;simp only[]
   split
   ·rfl
   ·exact pY l _ (fun q hq=>h q (by simp[hq]))
def placesOf(n size:Nat):List (Nat×Nat):=(List.range n).map fun i=>(i*size,size)
theorem run_parts{o:Oper}{st':St}{E:Env}{S:Nat->Prop}{a:Act}{w:World}{e:TypeId}{n size bytes:Nat}{zs:List Value}{parts:Array (Nat×Operand)}{ps:List (Nat×AV0)}{l:List Atom}{m:List CA}[ht:bT P t e size][he:fH P e zs bytes]
  (hs:nE C st' E S a w) (h3:o.op= .buildSlice t n parts) (hp':evp st' parts.toList=some ps) (h1:(ps.all fun p=>p.2.cells.all Atom.eO&&Nat.blt p.1 n)=true) (hn:Nat.ble (n*size) 16777216=true)
  (hfl:fV (placesOf n size) ((madeCells zs.toArray (n*size)).toList.map fun v=>Atom.c (.val v)) ps=some l) (hc:aY l=some m) (hm:Nat.beq m.length (n*size)=true):
  ∃us:List Value,(execOp a.eval o).run P w= .ok (.value (.slice (some ⟨w.heap.size,0,none⟩) n n)) (w.alloc (.cells us.toArray e))/\us.length=n*size/\aK (CA.has S w) m us/\n<=maxLen:=by
  obtain⟨hall,hids⟩:=vC hs hp';obtain⟨i,z,hi,hz,hcz,hsz,hby⟩:=oP he ht.s;rw[zqh]at h1;rw[zva]at hn;obtain⟨us,hfill,hus⟩:=sD (w:=w) (cs:=(madeCells zs.toArray (n*size)).toList) hall (fun p hp=>by have:=h1 p hp;simp only[zx4]at this;exact this.1) (lq _) hfl
  have hlen:us.length=n*size:=by
   have h6:=hus.length;rw[eu hc]at h6;simp at h6
   have:=Nat.eq_of_beq_eq_true hm;omega
  have hqi:∀q∈parts.toList.map (fun x=>(x.1,a.eval x.2)),(fun i=>(placesOf n size)[i]?) q.1=(fun i=>some (i*size,size)) q.1:=by
   intro q hq;obtain⟨j,hj⟩:=List.mem_iff_getElem?.1 hq;obtain⟨p,hpj,hpq,_⟩:=hall.get' hj;have:=h1 p (zq4 hpj);simp only[zx4,Nat.blt_eq]at this;have hlt:q.1 < n:=by rw[<-hpq];exact this.2
   simp[placesOf,hlt]
  rw[pY (p:=fun i=>(placesOf n size)[i]?) (p':=fun i=>some (i*size,size)) _ _ hqi]at hfill
  refine⟨us,?_,hlen,iH (by rw[<-eu hc];exact hus),?_⟩
  ·unfold execOp;rw[h3];have hparts:(parts.map fun x=>(x.1,a.eval x.2)).toList=parts.toList.map fun x=>(x.1,a.eval x.2):=by simp
   have hgt:¬n*size > 2 ^ 24:=zE
   simp only[Instr.buildSlice,Sem.run_bind,run_underlying ht.h,Result.andThen_ok,run_sizeOf ht.s,hparts];rw[if_neg hgt];by_cases h0:n*size=0
   ·have he0:(madeCells zs.toArray (n*size)).toList.toArray=(Array.range (n*size)).map ((#[]:Array Value)[· % (#[]:Array Value).size]!):=by rw[h0];simp[madeCells]
    rw[he0]at hfill;rw[if_pos h0];simp only[Sem.run_bind,Sem.run_pure,Result.andThen_ok];rw[hfill];simp[newRow]
   ·have he0:(madeCells zs.toArray (n*size)).toList.toArray=(Array.range (n*size)).map (zs.toArray[· % zs.toArray.size]!):=by rw[Array.toArray_toList];rfl
    rw[he0]at hfill;rw[if_neg h0];simp only[Sem.run_bind,Sem.run_pure,Result.andThen_ok,zeroValue,typeInfo,run_program,hi,hz,hcz];rw[hfill];simp[newRow]
  ·by_cases h0:n=0
   ·subst h0;simp[maxLen]
   ·have:=ht.p;have h7:n*1<=n*size:=zx8 _ this;simp only[maxLen];omega
theorem Go1.buildSlice{e:TypeId}{n size bytes:Nat}{zs:List Value}{parts:Array (Nat×Operand)}{ps:List (Nat×AV0)}{l:List Atom}{m:List CA}[ht:bT P t e size][he:fH P e zs bytes](hd:aC (some d) C.nt=true)(hf:st.hp d= .free)
  (hp:evp st parts.toList=some ps) (h1:(ps.all fun p=>p.2.cells.all Atom.eO&&Nat.blt p.1 n)=true) (hn:Nat.ble (n*size) 16777216=true)
  (hfl:fV (placesOf n size) ((madeCells zs.toArray (n*size)).toList.map fun v=>Atom.c (.val v)) ps=some l) (hc:aY l=some m) (hm:Nat.beq m.length (n*size)=true)
  (next:Reg P C ops rest (st.app (some d) ⟨.own d,[(d,.ent (.row e size n m))]⟩) (([d],[d])::acc) K):Go1 P C ops (some d) (.buildSlice t n parts) ty rest st acc K:=
 ⟨[d],⟨.own d,[(d,.ent (.row e size n m))]⟩,fun o h2 h3 h4=>aT.newRow h2 hd hf [] (fun b e hb=>by cases hb) (fun st' E S a w hev hs _=>by
  have hp':evp st' parts.toList=some ps:=by
   rw[mW (fun x hx=>hev x.2 (by rw[h3];simp[Op.operands];exact⟨x.1,by simpa using hx⟩))];exact hp
  obtain⟨us,hrun,hlen,hall,hmx⟩:=run_parts (ht:=ht) (he:=he) hs h3 hp' h1 hn hfl hc hm;exact⟨_,_,us,hrun,⟨hlen,.inr ⟨w.heap.size,n,us.toArray,rfl,zq8 _,heap_alloc_new w _,zq6 _,hmx,by simp[hlen],by simp[zxc (Nat.le_of_eq hlen)]⟩⟩,Off.alloc _ _ _,fun k hk=>by simp[Value.ownBlock]at hk;omega,hall⟩),next⟩
theorem Go1.sM{dst:Option Tmp}{e:TypeId}{n size bytes:Nat}{zs:List Value}{parts:Array (Nat×Operand)}{ps:List (Nat×AV0)}{l:List Atom}{m:List CA}[ht:bT P t e size][he:fH P e zs bytes](hd:aC dst C.nt=true)
  (hp:evp st parts.toList=some ps) (h1:(ps.all fun p=>p.2.cells.all Atom.eO&&Nat.blt p.1 n)=true) (hn:Nat.ble (n*size) 16777216=true)
  (hfl:fV (placesOf n size) ((madeCells zs.toArray (n*size)).toList.map fun v=>Atom.c (.val v)) ps=some l) (hc:aY l=some m) (hm:Nat.beq m.length (n*size)=true)
  (next:Reg P C ops rest (st.app dst ⟨.r (aQ size n m),[]⟩) (([],[])::acc) K):Go1 P C ops dst (.buildSlice t n parts) ty rest st acc K:=by
 refine⟨[],⟨.r (aQ size n m),[]⟩,fun o h2 h3 h4=>aT.eff [] [] (fun b hb=>?_) (h2▸dR hd) (fun b e hb=>by cases hb) (fun b e hb=>by cases hb) (fun b s hb=>by cases hb) (fun b s hb=>by cases hb) (fun st' E S a w hev hhp hs _ _=>?_),next⟩
 ·rcases hb with⟨e,hb⟩|⟨e,hb⟩|⟨s,hb⟩ <;> cases hb
 ·have hp':evp st' parts.toList=some ps:=by
   rw[mW (fun x hx=>hev x.2 (by rw[h3];simp[Op.operands];exact⟨x.1,by simpa using hx⟩))];exact hp
  obtain⟨us,hrun,hlen,hall,hmx⟩:=run_parts (ht:=ht) (he:=he) hs h3 hp' h1 hn hfl hc hm;refine⟨⟨fun i hi=>(by cases hi),fun b e hb=>by cases hb⟩,fun K Q hK=>?_⟩
  unfold Oper.wp;rw[hrun];refine hK _ _ E S {env:=fun _ _=>⟨rfl,rfl⟩,fpe:=fun _ _=>rfl,sub:=fun _ h=>h,new:=fun _ h=> .inl h,lt:=fun k hk=>zqf (hs.lt k hk) zp,off:=Off.alloc _ _ _,res:=?_,ents:=fun _ _ h=>(by cases h),blk:=fun _ _ _ h=>(by cases h),sep:=fun _ _ _ _ _ _ h=>(by cases h)}
  refine bY.2 ⟨_,_,rfl,zq6 _,hmx,(fun h=>by cases h),(by rw[hall.length,hlen]),fun i c hc=>?_⟩
  obtain⟨u,hu,huc⟩:=hall.get hc;refine⟨w.heap.size,0,u,rfl,fun hS=>absurd (hs.lt _ hS) (Nat.lt_irrefl _),?_,huc.step (Off.alloc _ _ _) (fun k hk=> .inl hk)⟩
  have hcell:=cells_of_block (heap_alloc_new w (.cells us.toArray e)) 0 i u (by simpa using hu)
  simpa[Addr.add_lit]using hcell
end
end
section
section
variable{P:Program}{C:Ctx}{st:St}
variable{ops rest:List Oper}{acc:List (List Nat×List Nat)}{K:List (List Nat×List Nat)->St->Prop}{dst:Option Tmp}{op:Op}{ty:TypeId}
variable{x y:Operand}{t t':TypeId}{k k':IntKind}{m n:Int}
theorem Go1.shr{z:Int}(hd:aC dst C.nt=true)(hx:st.ev x=some (.v (.int k m)))(hy:st.ev y=some (.v (.int k' n)))(h0:0<=n)(hw:m.fdiv (2 ^ (min n.toNat k.bits))=z)(next:Reg P C ops rest (st.app dst ⟨.v (.int k z),[]⟩) (([],[])::acc) K):Go1 P C ops dst (.binOp .shr t x y t') ty rest st acc K:=
 Go1.oZ hd rfl hx hy (fun ρ o w ho h1 h2=>by unfold execOp;rw[ho];simp[h1,h2,eqGuard,binOp,Op.shift,hw,Int.not_lt.2 h0]) next
theorem Go1.and{z:Int}(hd:aC dst C.nt=true)(hx:st.ev x=some (.v (.int k m)))(hy:st.ev y=some (.v (.int k n)))(hw:k.wrap ((BitVec.ofInt k.bits m &&& BitVec.ofInt k.bits n).toNat:Int)=z)(next:Reg P C ops rest (st.app dst ⟨.v (.int k z),[]⟩) (([],[])::acc) K):Go1 P C ops dst (.binOp .and t x y t') ty rest st acc K:=
 Go1.oZ hd rfl hx hy (fun ρ o w ho h1 h2=>by unfold execOp;rw[ho];simp[h1,h2,eqGuard,binOp,Op.intBits,<-hw]) next
end
def lk{α:Type}:List (Nat×α)->Nat->Option α
 |[],_=>none
 |(j,v)::l,k=>match Nat.beq j k with|true=>some v|false=>lk l k
theorem ad1{α:Type}:∀{l:List (Nat×α)} {k:Nat} {v:α},lk l k=some v->(k,v)∈l
 |[],_,_,h=>by cases h
 |(j,u)::l,k,v,h=>by
  unfold lk at h;cases hj:Nat.beq j k with
  |true=>
       simp only[hj]at h;have:j=k:=by simpa using hj
       subst this;cases h;exact zq9
  |false=>simp only[hj]at h;exact zy2 _ (ad1 h)
theorem ajc{α:Type}:∀{l:List (Nat×α)} {k:Nat},(lk l k).isSome=true->k∈l.map (·.1)
 |[],_,h=>by cases h
 |(j,u)::l,k,h=>by
  unfold lk at h;cases hj:Nat.beq j k with
  |true=>
       have:j=k:=by simpa using hj
       subst this;exact zq9
  |false=>simp only[hj]at h;exact zy2 _ (ajc h)
theorem dX{α β γ:Type}{pre:List (Nat×α)}{ρ:List (Nat×β)}{m:List (Nat×γ)}{b:Nat}(h:(lk pre b).isSome=true)(hall:((pre.map (·.1)).all fun b=>(lk ρ b).isNone&&(lk m b).isSome)=true:=by rfl):lk ρ b=none/\(lk m b).isSome=true:=by
 have:=zqh.1 hall b (ajc h);simp only[zx4,Option.isNone_iff_eq_none]at this;exact this
def fP(l:List (Nat×AV))(m:List (Nat×Ent)):St:=⟨fun t=>lk l t,fun b=>match lk m b with|some e=> .ent e|none=> .free⟩
def eG(ρ:List (Nat×Option Nat))(E:Env):Env:=
 ⟨fun b=>match lk ρ b with|some (some o)=>E.blk o|some none=>0|none=>E.blk b,fun b=>match lk ρ b with|some (some o)=>E.sl o|some none=> .slice none 0 0|none=>E.sl b,fun b=>match lk ρ b with|some (some o)=>E.fp o|some none=>fun _=>False|none=>E.fp b⟩
def aH(ρ:List (Nat×Option Nat))(x y:AV):Prop:=∀E S w v,x.has E S w v->y.has (eG ρ E) S w v
theorem Atom.has.env{a:Atom}{E E':Env}{S:Nat->Prop}{w:World}{v:Value}(h:a.has E S w v)(he:∀b∈a.ids,E.at' E' b):a.has E' S w v:=h.step he (Off.refl S w) (fun k hk=> .inl hk)
theorem AV.has.env{a:AV}{E E':Env}{S:Nat->Prop}{w:World}{v:Value}(h:a.has E S w v)(he:∀b∈a.ids,E.at' E' b):a.has E' S w v:=h.step he (Off.refl S w) (fun k hk=> .inl hk)
def fresh(ρ:List (Nat×Option Nat))(l:List Nat):Bool:=l.all fun b=>(lk ρ b).isNone
theorem rH{ρ:List (Nat×Option Nat)}{l:List Nat}(h:fresh ρ l=true)(E:Env):∀b∈l,E.at' (eG ρ E) b:=by
 intro b hb;have:=zqh.1 h b hb;have h2:lk ρ b=none:=by simpa using this
 exact⟨by simp only[eG,h2],by simp only[eG,h2]⟩
theorem aeS{ρ:List (Nat×Option Nat)}{l:List Nat}(h:fresh ρ l=true)(E:Env):∀b∈l,(eG ρ E).fp b=E.fp b:=by
 intro b hb;have:=zqh.1 h b hb;have h2:lk ρ b=none:=by simpa using this
 simp only[eG,h2]
theorem aH.same{ρ:List (Nat×Option Nat)}{x:AV}(h:fresh ρ x.ids=true):aH ρ x x:=fun E S w v hv=>hv.env (rH h E)
theorem aH.eq{ρ:List (Nat×Option Nat)}{x y:AV}(e:x=y)(h:fresh ρ x.ids=true):aH ρ x y:=e▸aH.same h
theorem aH.own{ρ:List (Nat×Option Nat)}{o b:Nat}(h:lk ρ b=some (some o)):aH ρ (.own o) (.own b):=fun E S w v hv=>by
 obtain⟨h1,h2⟩:=hv;exact⟨by simp only[eG,h];exact h1,h2⟩
theorem aH.nil{ρ:List (Nat×Option Nat)}{b:Nat}(h:lk ρ b=some none):aH ρ (.v (.slice none 0 0)) (.own b):=fun E S w v hv=>by
 have hv':v= .slice none 0 0:=hv;subst hv';exact⟨by simp only[eG,h],rfl⟩
inductive ay(st:St)(ρ:List (Nat×Option Nat))(b:Nat)(e:Ent):Prop where
 |old (o:Nat) (e0:Ent) (ho:st.hp o= .ent e0) (hb:lk ρ b=some (some o)\/(lk ρ b=none/\o=b)) (hh:∀E S w,e0.has E S w o->e.has (eG ρ E) S w b) (hk:∀E,e.at (eG ρ E) b=e0.at E o)
 |nil (hb:lk ρ b=some none) (hh:∀E S w,e.has (eG ρ E) S w b) (hk:∀E k,¬e.at (eG ρ E) b k)
theorem ay.same{st:St}{ρ:List (Nat×Option Nat)}{b:Nat}{e:Ent}(h:st.hp b= .ent e)(hf:fresh ρ (b::e.ids)=true):ay st ρ b e:=by
 have ha:=rH hf;refine .old b e h (.inr ⟨?_,rfl⟩) (fun E S w hh=>hh.step (fun i hi=>ha E i (zy2 _ hi)) (ha E b zq9) (Off.refl S w) (fun k hk=> .inl hk) (fun _ _=>rfl) (aeS hf E b zq9)) (fun E=>Ent.gM (ha E b zq9) (aeS hf E b zq9))
 have:=zqh.1 hf b zq9;simpa using this
theorem ay.eq{st:St}{ρ:List (Nat×Option Nat)}{b:Nat}{e0 e:Ent}(h:st.hp b= .ent e0)(he:e0=e)(hf:fresh ρ (b::e0.ids)=true):ay st ρ b e:=he▸ay.same h hf
theorem ay.row{st:St}{ρ:List (Nat×Option Nat)}{o b:Nat}{t:TypeId}{size n n':Nat}{cells cells':List CA}(h:st.hp o= .ent (.row t size n cells))(hb:lk ρ b=some (some o))(hn:n=n')(hc:cells=cells'):ay st ρ b (.row t size n' cells'):=by
 subst hn;subst hc;refine .old o _ h (.inl hb) (fun E S w hh=>?_) (fun E=>?_)
 ·obtain⟨vs,h1,h2⟩:=hh;exact⟨vs,by simp only[eG,hb];exact h1,h2⟩
 ·funext k;simp only[Ent.at,eG,hb]
theorem ay.abs{st:St}{ρ:List (Nat×Option Nat)}{o b:Nat}{A A':mF}(h:st.hp o= .ent (.abs A))(hb:lk ρ b=some (some o))(hA:A=A'):ay st ρ b (.abs A'):=by
 subst hA;refine .old o _ h (.inl hb) (fun E S w hh=>?_) (fun E=>?_)
 ·show A.has ((eG ρ E).blk b) ((eG ρ E).sl b) ((eG ρ E).fp b) S w;simp only[eG,hb];exact hh
 ·funext k;simp only[Ent.at,eG,hb]
theorem ay.dZ{st:St}{ρ:List (Nat×Option Nat)}{b:Nat}{t:TypeId}{size:Nat}(hb:lk ρ b=some none):ay st ρ b (.row t size 0 []):=by
 refine .nil hb (fun E S w=>⟨[],?_,trivial⟩) (fun E k=>?_)
 ·simp only[eG,hb];exact World.ownsRow_nil ..
 ·simp only[Ent.at,eG,hb];intro h;cases h
theorem ay.box{st:St}{ρ:List (Nat×Option Nat)}{b:Nat}{t:TypeId}{cells0 cells:List Atom}(h:st.hp b= .ent (.box t cells0))(hi:AV0.imp (.agg cells0) (.agg cells))(hf:fresh ρ (b::cells.flatMap Atom.ids)=true):ay st ρ b (.box t cells):=by
 have ha:=rH hf;refine .old b _ h (.inr ⟨?_,rfl⟩) (fun E S w hh=>?_) (fun E=>by funext k;simp only[Ent.at,(ha E b zq9).1])
 ·have:=zqh.1 hf b zq9;simpa using this
 ·obtain⟨cs,h1,h2⟩:=hh;obtain⟨vs,hv,h3⟩:=hi E S w _ ⟨cs,rfl,h2⟩;have e:cs=vs:=by simpa using hv
  subst e;refine⟨cs,?_,?_⟩
  ·rw[(ha E b zq9).1];exact h1
  ·exact h3.mono fun a v hm hh=>hh.env fun i hi=>ha E i (zy2 _ (zx9.2 ⟨a,hm,hi⟩))
def ahr(st:St)(ρ:List (Nat×Option Nat)):List (Nat×AV)->Prop
 |[]=>True
 |(t,v)::l=>(∃u,st.tm t=some u/\aH ρ u v)/\ahr st ρ l
def aaE(st:St)(ρ:List (Nat×Option Nat)):List (Nat×Ent)->Prop
 |[]=>True
 |(b,e)::l=>ay st ρ b e/\aaE st ρ l
theorem ahr.mem{st:St}{ρ:List (Nat×Option Nat)}:∀{l:List (Nat×AV)},ahr st ρ l->∀t v,(t,v)∈l->∃u,st.tm t=some u/\aH ρ u v
 |[],_,_,_,hm=>by cases hm
 |_::_,⟨h1,h2⟩,t,v,hm=>by
  rcases zy3.1 hm with e|hm
  ·cases e;exact h1
  ·exact h2.mem t v hm
theorem aaE.mem{st:St}{ρ:List (Nat×Option Nat)}:∀{l:List (Nat×Ent)},aaE st ρ l->∀t v,(t,v)∈l->ay st ρ t v
 |[],_,_,_,hm=>by cases hm
 |_::_,⟨h1,h2⟩,t,v,hm=>by
  rcases zy3.1 hm with e|hm
  ·cases e;exact h1
  ·exact h2.mem t v hm
def src(ρ:List (Nat×Option Nat))(b:Nat):Option Nat:=match lk ρ b with|some r=>r|none=>some b
def eqO:Option Nat->Option Nat->Bool
 |some a,some b=>Nat.beq a b
 |_,_=>false
def tidy(ρ:List (Nat×Option Nat))(l:List (Nat×AV))(m:List (Nat×Ent)):Bool:=
 ((l.all fun p=>p.2.ids.all fun b=>(lk m b).isSome)&&(m.all fun p=>p.2.ids.all fun b=>(lk m b).isSome))&&
 (m.all fun p=>m.all fun q=>Nat.beq p.1 q.1||!(eqO (src ρ p.1) (src ρ q.1)))
theorem aeb{m:List (Nat×Ent)}{l:List (Nat×AV)}{b:Nat}(h:(lk m b).isSome=true):((fP l m).hp b).used=true:=by
 obtain⟨e,he⟩:=Option.isSome_iff_exists.1 h;simp[fP,he,Slot.used]
theorem uH{m:List (Nat×Ent)}{l:List (Nat×AV)}{b:Nat}{e:Ent}(h:(fP l m).hp b= .ent e):(b,e)∈m:=by
 simp only[fP]at h;cases hl:lk m b with
 |none=>simp[hl]at h
 |some e'=>simp only[hl]at h;cases h;exact ad1 hl
theorem ay.src{st:St}{ρ:List (Nat×Option Nat)}{b:Nat}{e:Ent}(h:ay st ρ b e):(∃o e0,SX.src ρ b=some o/\st.hp o= .ent e0/\(∀E,e.at (eG ρ E) b=e0.at E o))\/∀E k,¬e.at (eG ρ E) b k:=by
 cases h with
 |old o e0 ho hb hh hk=>
  refine .inl ⟨o,e0,?_,ho,hk⟩;rcases hb with hb|⟨hb,rfl⟩ <;> simp[SX.src,hb]
 |nil hb hh hk=>exact .inr hk
theorem St.bV{C:Ctx}{st:St}{l:List (Nat×AV)}{m:List (Nat×Ent)}(ρ:List (Nat×Option Nat))(hfix:∀b,C.fix b=true->lk ρ b=none/\(lk m b).isSome=true)(ht:ahr st ρ l)(hm:aaE st ρ m)(hti:tidy ρ l m=true):St.le C st (fP l m):=by
 intro a w ⟨E,S,hs⟩;unfold tidy at hti;rw[zx4,zx4]at hti;obtain⟨⟨h1,h2⟩,h3⟩:=hti;refine⟨eG ρ E,S,{dfr:=hs.dfr,nt:=hs.nt,cT:=hs.cT,cT0:=hs.cT0,cS:=hs.cS,lt:=hs.lt,tm:=fun t v hv=>?_,tid:=fun t v hv b hb=>?_,hp:=fun b e hb=>?_,hid:=fun b e hb i hi=>?_,blk:=fun b e k hb hk=>?_,sep:=fun b b' e e' k hne hb hb' hk hk'=>?_,off:=hs.off,env:=fun b hb=>?_,gl:=hs.gl}⟩
 ·obtain⟨u,hu,hto⟩:=ht.mem t v (ad1 hv);exact hto _ _ _ _ (hs.tm t u hu)
 ·exact aeb (zqh.1 (zqh.1 h1 _ (ad1 hv)) b hb)
 ·cases hm.mem b e (uH hb)with
  |old o e0 ho _ hh hk=>exact hh _ _ _ (hs.hp o e0 ho)
  |nil _ hh _=>exact hh _ _ _
 ·exact aeb (zqh.1 (zqh.1 h2 _ (uH hb)) i hi)
 ·rcases(hm.mem b e (uH hb)).src with⟨o,e0,_,ho,hk0⟩|hk0
  ·rw[hk0]at hk;exact hs.blk o e0 k ho hk
  ·exact absurd hk (hk0 E k)
 ·rcases(hm.mem b e (uH hb)).src with⟨o,e0,so,ho,hk0⟩|hk0
  ·rcases(hm.mem b' e' (uH hb')).src with⟨o',e0',so',ho',hk0'⟩|hk0'
   ·rw[hk0]at hk;rw[hk0']at hk';have:=zqh.1 (zqh.1 h3 _ (uH hb)) _ (uH hb');rw[so,so']at this;have hno:o≠o':=by
     intro e;subst e;simp[eqO,hne]at this
    exact hs.sep o o' e0 e0' k hno ho ho' hk hk'
   ·exact absurd hk' (hk0' E k)
  ·exact absurd hk (hk0 E k)
 ·obtain⟨h4,h5⟩:=hfix b hb;obtain⟨g1,g2,_⟩:=hs.env b hb;exact⟨by simp only[eG,h4];exact g1,by simp only[eG,h4];exact g2,aeb h5⟩
theorem WP.meet{P:Program}{C:Ctx}{st:St}{Q:Exit->St->Prop}{x y:Code}(I:St)(h:WP P C x st (aJ (fun s=>St.le C s I) Q))(k:WP P C y I Q):WP P C (.seq x y) st Q:=
 WP.seq (WP.mono h fun e s hq=>by
  cases e with
  |normal=>exact k.weaken hq
  |_=>exact hq)
end
section
section
variable{P:Program}
theorem aeF{S:Nat->Prop}{w:World}{l l':List CA}{m m':List Value}(h:aK (CA.has S w) l m)(h':aK (CA.has S w) l' m'):aK (CA.has S w) (l++l') (m++m'):=h.append h'
theorem rW(w:World)(t ty e:TypeId)(zs:List Value)(size bytes:Nat)(ht:P.underlying t=some (.slice e))(he:fH P e zs bytes)(hs:(P.info? e).map (·.size)=some size)(hzs:zs.length=size)
  (v:Value) (n:Nat) (xs:List Value) (hown:w.ownsRow 0 e size v n xs) {S:Nat->Prop} {u:Value} {m:Nat} {cells2:List CA} (hu:(aQ size m cells2).has S w u) (h1:cells2.all CA.eO=true)
  (h63:n+m<=maxLen) (hbytes:(n+m)*bytes<=140737488355328):
  ∃v' w' news,(Builtin.append_ #[t,t] ty #[v,u]).run P w= .ok v' w'/\w'.ownsRow 0 e size v' (n+m) (xs++news)/\w.grownBy w' v.ownBlock/\(∀k,v'.ownBlock=some k->v.ownBlock=some k\/w.heap.size<=k)/\aK (CA.has S w) cells2 news:=by
 obtain⟨i,z,hi,hz,hc,hsz,hby⟩:=oP he hs;obtain⟨oa,cap,rfl,hn,_,hnone,hlen,hall⟩:=bY.1 hu;have hz2:z.cells.size=size:=by rw[hc];simpa using hzs
 cases oa with
 |none=>
  have h0:=hnone rfl;subst h0;have hm:m=0:=zE
  subst hm;have hnil:cells2=[]:=zx5 (by simpa using hlen)
  subst hnil;have hrun:=run_append_owned_none (P:=P) (w:=w) 0 t ty e i size ht hi v n xs hown;exact⟨v,w,[],hrun,by simpa using hown,⟨rfl,rfl,rfl,zq6 _,fun _ _ _=>rfl⟩,fun k hk=> .inl hk,trivial⟩
 |some a=>
  obtain⟨news,hnews,hcell⟩:∃us:List Value,aK (CA.has S w) cells2 us/\∀j u,us[j]? =some u->w.cell? (a.add j)=some u:=by
   by_cases h0:cells2=[]
   ·subst h0;exact⟨[],trivial,by simp⟩
   ·obtain⟨c,hc0⟩:∃c,cells2[0]? =some c:=⟨cells2[0]'(List.length_pos_iff.2 h0),by simp⟩
    obtain⟨b,o,_,e1,hSb,_⟩:=hall 0 c hc0;cases e1;obtain⟨us,h2,h3⟩:=xB (E:=⟨fun _=>0,fun _=>undef,fun _ _=>False⟩) (S:=S) (w:=w) (b:=b) cells2 o (fun i c hc=>by
     obtain⟨b',o',u,e1,e2,e3,e4⟩:=hall i c hc;cases e1;exact⟨u,e2,e3,e4⟩)
    exact⟨us,iH h2,h3⟩
  have hl:news.length=m*size:=by rw[<-hnews.length,hlen]
  obtain⟨v',w',h2,h3,h4,h5⟩:=aa5 (P:=P) w t ty e i z size bytes ht hi hz hsz hby hz2 v n xs hown a m cap news hl hcell (anJ hnews h1) h63 hbytes;exact⟨v',w',news,h2,h3,h4,h5,hnews⟩
end
section
variable{P:Program}{C:Ctx}{st:St}
variable{ops rest:List Oper}{acc:List (List Nat×List Nat)}{K:List (List Nat×List Nat)->St->Prop}{d:Tmp}{dst:Option Tmp}{op:Op}{ty t:TypeId}{x y:Operand}
class TWide(P:Program)(e:TypeId)(size:Nat):Prop where
 h:∃zs bytes,fH P e zs bytes/\zs.length=size
theorem Go1.append{e:TypeId}{b n m bytes size:Nat}{zs:List Value}{r:Rep}{cells cells2:List CA}[ht:bT P t e size][he:fH P e zs bytes][hr:jF r size m cells2](hd:aC (some d) C.nt=true)(hx:st.ev x=some (.own b))(hy:st.ev y=some (.r r))
  (hb:st.hp b= .ent (.row e size n cells)) (hf:st.hp d= .free) (hz:Nat.beq zs.length size=true) (h1:cells2.all CA.eO=true) (h63:n+m<=9223372036854775807) (hbytes:(n+m)*bytes<=140737488355328)
  (next:Reg P C ops rest (st.app (some d) ⟨.own d,[(b,.gone),(d,.ent (.row e size (n+m) (cells++cells2)))]⟩) (([b,d],[b,d])::acc) K):Go1 P C ops (some d) (.call ⟨.builtin .append,#[x,y],#[t,t]⟩) ty rest st acc K:=by
 have hbd:d≠b:=by rintro rfl;rw[hf]at hb;cases hb
 refine⟨[b,d],_,fun o h2 h3 h4=>aT.eff [] [(b,.row e size n cells)] (fun c hc=>?_) (h2▸dR hd) (fun c e hc=>by cases hc) (fun c e hc=>?_) (fun c s hc=>?_) (fun c s hc=>?_) (fun st' E S a w hev hhp hs _ hpre=>?_),next⟩
 ·rcases hc with⟨e,hc⟩|⟨e,hc⟩|⟨s,hc⟩
  ·cases hc
  ·simp at hc;simp[hc.1]
  ·simp at hc;rcases hc with hc|hc <;> simp[hc.1]
 ·simp at hc;obtain⟨rfl,rfl⟩:=hc;exact⟨hb,_,zq9⟩
 ·simp at hc;rcases hc with⟨rfl,rfl⟩|⟨rfl,rfl⟩
  ·exact .inl ⟨_,zq9⟩
  ·exact .inr hf
 ·simp at hc;rcases hc with⟨rfl,rfl⟩|⟨rfl,rfl⟩ <;> rfl
 ·obtain⟨⟨hxv,_⟩,_⟩:=hs.ev ((hev x (by simp[h3,Op.operands,Call.operands])).trans hx)
  obtain⟨hyv,_⟩:=hs.ev ((hev y (by simp[h3,Op.operands,Call.operands])).trans hy)
  have hbe:=hpre b _ zq9;obtain⟨vs,hown,hvs⟩:=hs.hp b _ hbe;obtain⟨v',w',news,h5,h6,h7,h8,h9⟩:=rW (P:=P) w t o.type e zs size bytes ht.h he ht.s (Nat.eq_of_beq_eq_true hz) (E.sl b) n vs hown (hr.h _ _ _ hyv) h1 (by simp only[maxLen];omega) hbytes
  refine⟨⟨fun i hi=>?_,fun c e hc i hi=>?_⟩,fun K Q hK=>?_⟩
  ·simp[AV.ids,AV0.ids,Atom.ids]at hi;subst hi;simp[fZ,Slot.used]
  ·simp at hc
   obtain⟨rfl,rfl⟩:=hc;cases hi
  ·have hE:=Eff.row (E:=E) (S:=S) (b:=d) (pre:=[(b,.row e size n cells)]) (gones:=[(b,.gone)]) hs.lt
    (fun c e' k hc hk=>by simp at hc;obtain⟨rfl,rfl⟩:=hc;exact(hs.blk _ _ k hbe hk).1)
    (fun e' hc=>by simp at hc;exact hbd hc.1)
    (fun c s hc=>by simp at hc;obtain⟨rfl,rfl⟩:=hc;exact⟨rfl,_,zq9⟩)
    (mX h7 (fun k hk=>⟨b,_,zq9,hk⟩)) h6 (aeF hvs h9)
    (fun k hk=>(h8 k hk).imp (fun h=>⟨b,_,zq9,h⟩) id)
   unfold Oper.wp;have hrun:(execOp a.eval o).run P w= .ok (.value v') w':=by
    unfold execOp;rw[h3];simp[resolve,invoke,builtin,hxv,h5]
   rw[hrun];exact hK _ _ _ _ hE
theorem Go1.aml{e:TypeId}{b n size sz:Nat}{cells:List CA}[ht:bT P t e sz](hd:aC dst C.nt=true)(hx:st.ev x=some (.own b))(hb:st.hp b= .ent (.row e size n cells))
  (next:Reg P C ops rest (st.app dst ⟨.v (.int .i64 (n:Int)),[]⟩) (([b],[])::acc) K):Go1 P C ops dst (.call ⟨.builtin .len,#[x],#[t]⟩) ty rest st acc K:=
 Go1.dM [(b,.row e size n cells)] [b] (fun c e' hc=>by simp at hc;simp[hc.1]) hd (fun c e' hc=>by simp at hc;obtain⟨rfl,rfl⟩:=hc;exact hb) (fun o ho _ st' E S a w hev hs hrd=>by
  obtain⟨⟨hxv,_⟩,_⟩:=hs.ev ((hev x (by simp[ho,Op.operands,Call.operands])).trans hx)
  obtain⟨vs,hown,_⟩:=hs.hp b _ (hrd b _ zq9);refine⟨fun i hi=>(by cases hi),.int .i64 (n:Int),?_,rfl⟩
  unfold execOp;rw[ho];rcases hown.2 with⟨hv,rfl⟩|⟨g,cap,cur,hv,_⟩
  ·simp[resolve,invoke,builtin,Builtin.len_,run_underlying ht.h,hxv,hv,goInt]
  ·simp[resolve,invoke,builtin,Builtin.len_,run_underlying ht.h,hxv,hv,goInt]) next
end
end
section
section
variable{P:Program}
theorem abY{w:World}{k:IntKind}{i:Int}{y:Nat}{code:BoundsCode}(h0:0<=i)(h1:i<=(y:Int)):(Instr.sliceBound (.int k i) y code).run P w= .ok i.toNat w:=by
 simp[Instr.sliceBound,asIntOf,h0,h1]
theorem qG{w:World}{t:TypeId}{s:ByteArray}{lo hi:Option Value}{l h m:Nat}(ht:P.underlying t=some .string)(hb:(Instr.sliceBounds false s.size s.size lo hi none).run P w= .ok (l,h,m) w):
  (Instr.sliceAt t (.string s) lo hi none).run P w= .ok (.string (s.extract l h)) w:=by
 simp[Instr.sliceAt,Instr.slice,run_underlying ht,hb]
theorem qI{w:World}{t e:TypeId}{a:Option Addr}{n cap size:Nat}{lo hi:Option Value}{l h m:Nat}(ht:P.underlying t=some (.slice e))(hs:(P.info? e).map (·.size)=some size)(hb:(Instr.sliceBounds true n cap lo hi none).run P w= .ok (l,h,m) w):
  (Instr.sliceAt t (.slice a n cap) lo hi none).run P w= .ok (.slice (if m=l then a else a.map (·.add (l*size))) (h - l) (m - l)) w:=by
 simp[Instr.sliceAt,Instr.slice,run_underlying ht,hb,run_sizeOf hs]
theorem xQ{w:World}{b:Bool}{n cap:Nat}{k:IntKind}{i:Int}(h0:0<=i)(h1:i<=(cap:Int)):(Instr.sliceBounds b n cap none (some (.int k i)) none).run P w= .ok (0,i.toNat,cap) w:=by
 simp[Instr.sliceBounds,abY h0 h1]
theorem am4{w:World}{b:Bool}{n cap:Nat}{k:IntKind}{i:Int}(h0:0<=i)(h1:i<=(n:Int)):(Instr.sliceBounds b n cap (some (.int k i)) none none).run P w= .ok (i.toNat,n,cap) w:=by
 simp[Instr.sliceBounds,abY h0 h1]
theorem ag5{S:Nat->Prop}{w:World}{size n:Nat}{cells:List CA}{a:Option Addr}{cap l h:Nat}(hv:(aQ size n cells).has S w (.slice a n cap))(hlh:l<=h)(hh:h<=n):
  (aQ size (h - l) ((cells.drop (l*size)).take ((h - l)*size))).has S w (.slice (if cap=l then a else a.map (·.add (l*size))) (h - l) (cap - l)):=by
 obtain⟨oa,cap',e0,h1,h2,h3,h4,h5⟩:=bY.1 hv;cases e0;refine bY.2 ⟨_,_,rfl,zE,zE,fun hn=>?_,?_,fun i c hc=>?_⟩
 ·split at hn
  ·omega
  ·cases a with
   |none=>have:=h3 rfl;omega
   |some a=>cases hn
 ·rw[zx3,zxe,h4];have:(h - l)*size<=n*size - l*size:=by rw[<-Nat.sub_mul];exact zx1 _ zE
  omega
 ·rw[zy9]at hc
  split at hc
  ·rename_i hi;rw[zv1]at hc
   obtain⟨b,o,u,e1,e2,e3,e4⟩:=h5 _ c hc;subst e1;have hne:cap≠l:=by
    rintro rfl;have:h - cap=0:=zE
    rw[this]at hi;omega
   refine⟨b,o+l*size,u,?_,e2,by rw[Nat.add_assoc];exact e3,e4⟩
   rw[if_neg hne];simp[Addr.add_lit]
  ·cases hc
end
section
variable{P:Program}{C:Ctx}{st:St}
variable{ops rest:List Oper}{acc:List (List Nat×List Nat)}{K:List (List Nat×List Nat)->St->Prop}{d:Tmp}{dst:Option Tmp}{op:Op}{ty t:TypeId}{x y z:Operand}{k k':IntKind}{i j:Int}
theorem Go1.su{e:TypeId}{size n:Nat}{cells:List CA}{r:Rep}[ht:bT P t e size][hr:jF r size n cells](hd:aC dst C.nt=true)(hx:st.ev x=some (.r r))(hy:st.ev y=some (.v (.int k i)))(h0:0<=i)(h1:i<=(n:Int))
  (next:Reg P C ops rest (st.app dst ⟨.r (aQ size i.toNat (cells.take (i.toNat*size))),[]⟩) (([],[])::acc) K):Go1 P C ops dst (.slice t x none (some y) none) ty rest st acc K:=
 Go1.dM [] [] zp hd zp (fun o ho _ st' E S a w hev hs _=>by
  obtain⟨hx1,_⟩:=hs.ev ((hev x (by simp[ho,Op.operands])).trans hx)
  have hyv:a.eval y= .int k i:=(hs.ev ((hev y (by simp[ho,Op.operands])).trans hy)).1
  have hr1:=hr.h _ _ _ hx1;obtain⟨oa,cap,hv,hn,_⟩:=bY.1 hr1;rw[hv]at hr1;have hp:=ag5 (l:=0) (h:=i.toNat) hr1 (zq8 _) zE
  rw[zw3,List.drop_zero,Nat.sub_zero]at hp;refine⟨fun i hi=>(by cases hi),_,?_,hp⟩
  unfold execOp;rw[ho];simp only[Option.map_some,Option.map_none,hv,hyv];simp[qI ht.h ht.s (xQ (w:=w) (b:=true) (n:=n) (cap:=cap) (k:=k) h0 zE)]) next
theorem Go1.sI{s:ByteArray}[ht:aaL P t](hd:aC dst C.nt=true)(hx:st.ev x=some (.v (.string s)))(hy:st.ev y=some (.v (.int k i)))(h0:0<=i)(h1:i<=(s.size:Int))
  (next:Reg P C ops rest (st.app dst ⟨.v (.string (s.extract 0 i.toNat)),[]⟩) (([],[])::acc) K):Go1 P C ops dst (.slice t x none (some y) none) ty rest st acc K:=
 Go1.dM [] [] zp hd zp (fun o ho _ st' E S a w hev hs _=>by
  have hv:a.eval x= .string s:=(hs.ev ((hev x (by simp[ho,Op.operands])).trans hx)).1
  have hyv:a.eval y= .int k i:=(hs.ev ((hev y (by simp[ho,Op.operands])).trans hy)).1
  refine⟨fun i hi=>(by cases hi),_,?_,rfl⟩
  unfold execOp;rw[ho];simp only[Option.map_some,Option.map_none,hv,hyv];simp[qG ht.h (xQ (w:=w) (b:=false) (n:=s.size) (cap:=s.size) (k:=k) h0 h1)]) next
theorem Go1.rY{s:ByteArray}[ht:aaL P t](hd:aC dst C.nt=true)(hx:st.ev x=some (.v (.string s)))(hy:st.ev y=some (.v (.int k i)))(h0:0<=i)(h1:i<=(s.size:Int))
  (next:Reg P C ops rest (st.app dst ⟨.v (.string (s.extract i.toNat s.size)),[]⟩) (([],[])::acc) K):Go1 P C ops dst (.slice t x (some y) none none) ty rest st acc K:=
 Go1.dM [] [] zp hd zp (fun o ho _ st' E S a w hev hs _=>by
  have hv:a.eval x= .string s:=(hs.ev ((hev x (by simp[ho,Op.operands])).trans hx)).1
  have hyv:a.eval y= .int k i:=(hs.ev ((hev y (by simp[ho,Op.operands])).trans hy)).1
  refine⟨fun i hi=>(by cases hi),_,?_,rfl⟩
  unfold execOp;rw[ho];simp only[Option.map_some,Option.map_none,hv,hyv];simp[qG ht.h (am4 (w:=w) (b:=false) (n:=s.size) (cap:=s.size) (k:=k) h0 h1)]) next
theorem Go1.abr{s:ByteArray}{b:UInt8}[ht:aaL P t](hd:aC dst C.nt=true)(hx:st.ev x=some (.v (.string s)))(hy:st.ev y=some (.v (.int k i)))(h0:0<=i)(hb:s[i.toNat]? =some b)
  (next:Reg P C ops rest (st.app dst ⟨.v (.int .u8 (b.toNat:Int)),[]⟩) (([],[])::acc) K):Go1 P C ops dst (.index t x y) ty rest st acc K:=
 Go1.dM [] [] zp hd zp (fun o ho _ st' E S a w hev hs _=>by
  have hv:a.eval x= .string s:=(hs.ev ((hev x (by simp[ho,Op.operands])).trans hx)).1
  have hyv:a.eval y= .int k i:=(hs.ev ((hev y (by simp[ho,Op.operands])).trans hy)).1
  refine⟨fun i hi=>(by cases hi),_,?_,rfl⟩
  unfold execOp;rw[ho];simp[hv,hyv,Instr.index,asIntOf,run_underlying ht.h,h0,hb]) next
theorem Go1.eqlS{ty':TypeId}{s u:ByteArray}(hd:aC dst C.nt=true)(hx:st.ev x=some (.v (.string s)))(hy:st.ev y=some (.v (.string u)))(next:Reg P C ops rest (st.app dst ⟨.v (.bool (s.toList==u.toList)),[]⟩) (([],[])::acc) K):Go1 P C ops dst (.binOp .eql t x y ty') ty rest st acc K:=
 Go1.oZ hd rfl hx hy (fun ρ o w ho h1 h2=>by unfold execOp;rw[ho];simp[h1,h2,eqGuard,binOp,Op.stringOp]) next
theorem Go1.neqS{ty':TypeId}{s u:ByteArray}(hd:aC dst C.nt=true)(hx:st.ev x=some (.v (.string s)))(hy:st.ev y=some (.v (.string u)))(next:Reg P C ops rest (st.app dst ⟨.v (.bool (!(s.toList==u.toList))),[]⟩) (([],[])::acc) K):Go1 P C ops dst (.binOp .neq t x y ty') ty rest st acc K:=
 Go1.oZ hd rfl hx hy (fun ρ o w ho h1 h2=>by unfold execOp;rw[ho];simp[h1,h2,eqGuard,binOp,Op.stringOp]) next
theorem Go1.kR{e:TypeId}{b n size i:Nat}{cells:List CA}[ht:bT P t e size](hd:aC dst C.nt=true)(hx:st.ev x=some (.own b))(hb:st.hp b= .ent (.row e size n cells))(hy:st.ev y=some (.v (.int k (i:Int))))(hi:i < n)
  (next:Reg P C ops rest (st.app dst ⟨.it (.one (.rptr b (i*size))),[]⟩) (([b],[])::acc) K):Go1 P C ops dst (.indexAddr t x y) ty rest st acc K:=
 Go1.dM [(b,.row e size n cells)] [b] (fun c e' hc=>by simp at hc;simp[hc.1]) hd (fun c e' hc=>by simp at hc;obtain⟨rfl,rfl⟩:=hc;exact hb) (fun o ho _ st' E S a w hev hs hrd=>by
  obtain⟨⟨hxv,_⟩,hid⟩:=hs.ev ((hev x (by simp[ho,Op.operands])).trans hx)
  have hyv:a.eval y= .int k (i:Int):=(hs.ev ((hev y (by simp[ho,Op.operands])).trans hy)).1
  obtain⟨vs,hown,_⟩:=hs.hp b _ (hrd b _ zq9);have hsz:=run_sizeOf ht.s w;rcases hown.2 with⟨_,h0⟩|⟨g,cap,cur,hv,_⟩
  ·omega
  ·refine⟨hid,.pointer (some ⟨g,i*size,none⟩),?_,g,n,cap,hv,rfl⟩;unfold execOp;rw[ho];simp[hxv,hv,hyv,Instr.indexAt,asIntOf,run_underlying ht.h,hsz,Addr.add_lit,hi]) next
theorem Go1.aaU{e:TypeId}{b n size off:Nat}{c:CA}{cells:List CA}[ht:iK P t](hd:aC dst C.nt=true)(hx:st.ev x=some (.it (.one (.rptr b off))))(hb:st.hp b= .ent (.row e size n cells))(hc:cells[off]? =some c)
  (next:Reg P C ops rest (st.app dst ⟨.it (.one (.c c)),[]⟩) (([b],[])::acc) K):Go1 P C ops dst (.load t x) ty rest st acc K:=
 Go1.dM [(b,.row e size n cells)] [b] (fun c e' hc=>by simp at hc;simp[hc.1]) hd (fun c e' hc=>by simp at hc;obtain⟨rfl,rfl⟩:=hc;exact hb) (fun o ho _ st' E S a w hev hs hrd=>by
  obtain⟨⟨g,n',cap,h1,hv⟩,_⟩:=hs.ev ((hev x (by simp[ho,Op.operands])).trans hx)
  obtain⟨vs,hown,hvs⟩:=hs.hp b _ (hrd b _ zq9);rw[h1]at hown;have hcell:=hown.cells (g:=g) rfl;obtain⟨u,hu,huc⟩:=hvs.get hc;have g2:=hcell off u hu;refine⟨fun j hj=>(by cases hj),u,?_,huc⟩
  unfold execOp;rw[ho];have g2':w.cell? ⟨g,off,none⟩=some u:=by simpa[Addr.add_lit]using g2
  simp[hv,Instr.loadAt,Instr.sureAddr,loadVar,iq ht.h,g2']) next
theorem Go1.amY{e:TypeId}{b n size off m:Nat}{cells l:List CA}[ht:gH P t m](hd:aC dst C.nt=true)(hx:st.ev x=some (.it (.one (.rptr b off))))(hb:st.hp b= .ent (.row e size n cells))(hc:(cells.drop off).take m=l)(hl:l.length=m)
  (next:Reg P C ops rest (st.app dst ⟨.agg (l.map Atom.c),[]⟩) (([b],[])::acc) K):Go1 P C ops dst (.load t x) ty rest st acc K:=
 Go1.dM [(b,.row e size n cells)] [b] (fun c e' hc=>by simp at hc;simp[hc.1]) hd (fun c e' hc=>by simp at hc;obtain⟨rfl,rfl⟩:=hc;exact hb) (fun o ho _ st' E S a w hev hs hrd=>by
  obtain⟨⟨g,n',cap,h1,hv⟩,_⟩:=hs.ev ((hev x (by simp[ho,Op.operands])).trans hx)
  obtain⟨vs,hown,hvs⟩:=hs.hp b _ (hrd b _ zq9);rw[h1]at hown;have hcell:=hown.cells (g:=g) rfl;have hall0:aK (CA.has S w) l ((vs.drop off).take m):=by rw[<-hc];exact(hvs.drop off).take m
  obtain⟨us,hus,hall⟩:∃us,us=(vs.drop off).take m/\aK (CA.has S w) l us:=⟨_,rfl,hall0⟩;have hlen:=hall.length;have hrun:=run_loadCells_list (P:=P) w ⟨g,off,none⟩ us (fun j u hj=>by
   rw[hus,zy9]at hj
   split at hj
   ·rw[zv1]at hj
    have:=hcell (off+j) u hj;simpa[Addr.add_lit]using this
   ·cases hj)
  have hsz:(P.info? t).map (·.size)=some us.length:=by rw[ht.s,<-hlen,hl]
  refine⟨fun j hj=>?_,.agg us.toArray,?_,us,rfl,yP hall⟩
  ·simp only[AV.ids,AV0.ids,zx9]at hj;obtain⟨c,hc,hj⟩:=hj;obtain⟨c',_,rfl⟩:=zqg.1 hc;cases hj
  ·unfold execOp;rw[ho];simp[hv,Instr.loadAt,Instr.sureAddr,loadVar,iq ht.h,run_sizeOf hsz,hrun]) next
theorem adI{w:World}{e:TypeId}{size n i:Nat}{v:Value}{vs:List Value}(h:w.ownsRow 0 e size v n vs)(hi:i<=n):
  ∃oa cap,v= .slice oa n cap/\n<=cap/\(oa.map (·.add (0*size))=oa)/\w.ownsRow 0 e size (.slice oa i cap) i (vs.take (i*size)):=by
 have hl:(vs.take (i*size)).length=i*size:=by rw[zx3,h.1];exact zv9 (zx1 _ hi)
 rcases h.2 with⟨rfl,rfl⟩|⟨g,cap,cur,rfl,hg0,hg,hn,hm,hcs,htk⟩
 ·have:i=0:=zE
  subst this;exact⟨none,0,rfl,zq6 _,rfl,hl,.inl ⟨rfl,rfl⟩⟩
 ·refine⟨some ⟨g,0,none⟩,cap,rfl,hn,by simp[Addr.add_lit],hl,.inr ⟨g,cap,cur,rfl,hg0,hg,zE,hm,hcs,?_⟩⟩
  rw[<-htk,List.take_take,zv9 (zx1 _ hi)]
theorem Go1.sG{e:TypeId}{b n size:Nat}{cells:List CA}[ht:bT P t e size](hd:aC (some d) C.nt=true)(hx:st.ev x=some (.own b))(hb:st.hp b= .ent (.row e size n cells))(hf:st.hp d= .free)(hy:st.ev y=some (.v (.int k i)))(h0:0<=i)(h1:i<=(n:Int))
  (next:Reg P C ops rest (st.app (some d) ⟨.own d,[(b,.gone),(d,.ent (.row e size i.toNat (cells.take (i.toNat*size))))]⟩) (([b,d],[b,d])::acc) K):Go1 P C ops (some d) (.slice t x none (some y) none) ty rest st acc K:=by
 have hbd:d≠b:=by rintro rfl;rw[hf]at hb;cases hb
 refine⟨[b,d],_,fun o h2 h3 h4=>aT.eff [] [(b,.row e size n cells)] (fun c hc=>?_) (h2▸dR hd) (fun c e hc=>by cases hc) (fun c e hc=>?_) (fun c s hc=>?_) (fun c s hc=>?_) (fun st' E S a w hev hhp hs _ hpre=>?_),next⟩
 ·rcases hc with⟨e,hc⟩|⟨e,hc⟩|⟨s,hc⟩
  ·cases hc
  ·simp at hc;simp[hc.1]
  ·simp at hc;rcases hc with hc|hc <;> simp[hc.1]
 ·simp at hc;obtain⟨rfl,rfl⟩:=hc;exact⟨hb,_,zq9⟩
 ·simp at hc;rcases hc with⟨rfl,rfl⟩|⟨rfl,rfl⟩
  ·exact .inl ⟨_,zq9⟩
  ·exact .inr hf
 ·simp at hc;rcases hc with⟨rfl,rfl⟩|⟨rfl,rfl⟩ <;> rfl
 ·obtain⟨⟨hxv,_⟩,_⟩:=hs.ev ((hev x (by simp[h3,Op.operands])).trans hx)
  have hyv:a.eval y= .int k i:=(hs.ev ((hev y (by simp[h3,Op.operands])).trans hy)).1
  have hbe:=hpre b _ zq9;obtain⟨vs,hown,hvs⟩:=hs.hp b _ hbe;obtain⟨oa,cap,hv,hn,hadd,hown'⟩:=adI hown (show i.toNat<=n by omega)
  refine⟨⟨fun i hi=>?_,fun c e hc i hi=>?_⟩,fun K Q hK=>?_⟩
  ·simp[AV.ids,AV0.ids,Atom.ids]at hi;subst hi;simp[fZ,Slot.used]
  ·simp at hc
   obtain⟨rfl,rfl⟩:=hc;cases hi
  ·have hob:∀k,(Value.slice oa i.toNat cap).ownBlock=some k->(E.sl b).ownBlock=some k:=by
    intro k hk;rw[hv];cases oa with|none=>simp[Value.ownBlock]at hk|some a=>exact hk
   have hE:=Eff.row (E:=E) (S:=S) (b:=d) (pre:=[(b,.row e size n cells)]) (gones:=[(b,.gone)]) hs.lt
    (fun c e' k hc hk=>by simp at hc;obtain⟨rfl,rfl⟩:=hc;exact(hs.blk _ _ k hbe hk).1)
    (fun e' hc=>by simp at hc;exact hbd hc.1)
    (fun c s hc=>by simp at hc;obtain⟨rfl,rfl⟩:=hc;exact⟨rfl,_,zq9⟩)
    (Off.refl _ w) hown' (hvs.take (i.toNat*size))
    (fun k hk=> .inl ⟨b,_,zq9,hob k hk⟩)
   unfold Oper.wp;have hrun:(execOp a.eval o).run P w= .ok (.value (.slice oa i.toNat cap)) w:=by
    unfold execOp;rw[h3];simp only[Option.map_some,Option.map_none,hxv,hv,hyv];have hr:=qI (a:=oa) ht.h ht.s (xQ (P:=P) (w:=w) (b:=true) (n:=n) (cap:=cap) (k:=k) h0 zE)
    rw[hadd,ite_self,Nat.sub_zero,Nat.sub_zero]at hr;simp[hr]
   rw[hrun];exact hK _ _ _ _ hE
end
end
section
def Atom.frz(b size n:Nat)(cells:List CA):Atom->Atom
 | .own k=>match Nat.beq k b with|true=> .c (.sat (aQ size n cells))|false=> .own k
 | .rptr k off=>match Nat.beq k b with|true=> .c (.sat (dK (cells.drop off)))|false=> .rptr k off
 | .c a=> .c a
 | .ptr k off=> .ptr k off
 | .clo f cap=> .clo f cap
 | .bnd f b=> .bnd f b
 | .rel b R=> .rel b R
def akY(b size n:Nat)(cells:List CA):List Atom->List Atom
 |[]=>[]
 |a::l=>a.frz b size n cells::akY b size n cells l
def AV0.frz(b size n:Nat)(cells:List CA):AV0->AV0
 | .one a=> .one (a.frz b size n cells)
 | .agg l=> .agg (akY b size n cells l)
def anE(b size n:Nat)(cells:List CA):List AV0->List AV0
 |[]=>[]
 |a::l=>a.frz b size n cells::anE b size n cells l
def AV.frz(b size n:Nat)(cells:List CA):AV->AV
 | .it x=> .it (x.frz b size n cells)
 | .tup l=> .tup (anE b size n cells l)
def Ent.frz(b size n:Nat)(cells:List CA):Ent->Ent
 | .abs A=> .abs A
 | .box t l=> .box t (akY b size n cells l)
 | .row t s m l=> .row t s m l
def Slot.frz(b size n:Nat)(cells:List CA):Slot->Slot
 | .ent e=> .ent (e.frz b size n cells)
 | .free=> .free
 | .gone=> .gone
def St.frz(st:St)(b size n:Nat)(cells:List CA):St:=
 ⟨fun t=>match st.tm t with|some v=>some (v.frz b size n cells)|none=>none,upd (fun c=>(st.hp c).frz b size n cells) b .gone⟩
section
variable{b size n:Nat}{cells:List CA}
theorem ahv{c b:Nat}(h:c≠b):Nat.beq c b=false:=by rw[Bool.eq_false_iff];simpa using h
theorem pE:(Atom.own b).frz b size n cells= .c (.sat (aQ size n cells)):=by
 simp only[Atom.frz,Nat.beq_refl]
theorem aaz{k:Nat}(h:k≠b):(Atom.own k).frz b size n cells= .own k:=by
 simp only[Atom.frz,ahv h]
theorem agl{off:Nat}:(Atom.rptr b off).frz b size n cells= .c (.sat (dK (cells.drop off))):=by
 simp only[Atom.frz,Nat.beq_refl]
theorem zk{k off:Nat}(h:k≠b):(Atom.rptr k off).frz b size n cells= .rptr k off:=by
 simp only[Atom.frz,ahv h]
theorem Atom.mO(a:Atom):∀i∈(a.frz b size n cells).ids,i∈a.ids:=by
 intro i hi;cases a with
 |own k=>
  by_cases h:k=b
  ·subst h;rw[pE]at hi;cases hi
  ·rw[aaz h]at hi;exact hi
 |rptr k off=>
  by_cases h:k=b
  ·subst h;rw[agl]at hi;cases hi
  ·rw[zk h]at hi;exact hi
 |c a=>exact hi
 |ptr k off=>exact hi
 |clo f cap=>exact hi
 |bnd f b=>exact hi
 |rel b R=>exact hi
theorem abv:∀(l:List Atom),∀i∈(akY b size n cells l).flatMap Atom.ids,i∈l.flatMap Atom.ids
 |[],i,hi=>hi
 |a::l,i,hi=>by
  simp only[akY,zq7,zyg]at hi ⊢;exact hi.imp (a.mO i) (abv l i)
theorem AV0.mO(x:AV0):∀i∈(x.frz b size n cells).ids,i∈x.ids:=by
 cases x with
 |one a=>exact a.mO
 |agg l=>exact abv l
theorem aeD:∀(l:List AV0),∀i∈(anE b size n cells l).flatMap AV0.ids,i∈l.flatMap AV0.ids
 |[],i,hi=>hi
 |a::l,i,hi=>by
  simp only[anE,zq7,zyg]at hi ⊢;exact hi.imp (a.mO i) (aeD l i)
theorem AV.mO(x:AV):∀i∈(x.frz b size n cells).ids,i∈x.ids:=by
 cases x with
 |it a=>exact a.mO
 |tup l=>exact aeD l
theorem Ent.mO(x:Ent):∀i∈(x.frz b size n cells).ids,i∈x.ids:=by
 cases x with
 |abs A=>exact fun i h=>h
 |box t l=>exact abv l
 |row t s m l=>exact fun i h=>h
variable{E:Env}{S S':Nat->Prop}{w:World}
structure Frz(b size n:Nat)(cells:List CA)(E:Env)(S S':Nat->Prop)(w:World):Prop where
 sub:∀k,S' k->S k
 sl:(aQ size n cells).has S' w (E.sl b)
 pt:∀g m cap off,E.sl b= .slice (some ⟨g,0,none⟩) m cap->(dK (cells.drop off)).has S' w (.pointer (some ⟨g,off,none⟩))
theorem Atom.has.frz{a:Atom}{v:Value}(h:a.has E S w v)(f:Frz b size n cells E S S' w):(a.frz b size n cells).has E S' w v:=by
 have keep:∀a:Atom,a.has E S w v->a.has E S' w v:=fun a ha=>ha.step (fun _ _=>⟨rfl,rfl⟩) (Off.refl S w) (fun k hk=> .inl (f.sub k hk))
 cases a with
 |own k=>
  by_cases hk:k=b
  ·subst hk;rw[pE,show v=E.sl k from h.1];exact f.sl
  ·rw[aaz hk];exact keep _ h
 |rptr k off=>
  by_cases hk:k=b
  ·subst hk;obtain⟨g,m,cap,h1,rfl⟩:=h;rw[agl];exact f.pt g m cap off h1
  ·rw[zk hk];exact keep _ h
 |c a=>exact keep (.c a) h
 |ptr c off=>exact keep (.ptr c off) h
 |clo g cap=>exact keep (.clo g cap) h
 |bnd g b=>exact keep (.bnd g b) h
 |rel b R=>exact keep (.rel b R) h
theorem aax(f:Frz b size n cells E S S' w):∀{l:List Atom} {vs:List Value},aK (Atom.has E S w) l vs->aK (Atom.has E S' w) (akY b size n cells l) vs
 |[],[],_=>trivial
 |_::_,_::_,h=>⟨h.1.frz f,aax f h.2⟩
 |[],_::_,h=>h.elim
 |_::_,[],h=>h.elim
theorem AV0.has.frz{x:AV0}{v:Value}(h:x.has E S w v)(f:Frz b size n cells E S S' w):(x.frz b size n cells).has E S' w v:=by
 cases x with
 |one a=>exact Atom.has.frz h f
 |agg l=>obtain⟨vs,h1,h2⟩:=h;exact⟨vs,h1,aax f h2⟩
theorem ae7(f:Frz b size n cells E S S' w):∀{l:List AV0} {vs:List Value},aK (AV0.has E S w) l vs->aK (AV0.has E S' w) (anE b size n cells l) vs
 |[],[],_=>trivial
 |_::_,_::_,h=>⟨h.1.frz f,ae7 f h.2⟩
 |[],_::_,h=>h.elim
 |_::_,[],h=>h.elim
theorem AV.has.frz{x:AV}{v:Value}(h:x.has E S w v)(f:Frz b size n cells E S S' w):(x.frz b size n cells).has E S' w v:=by
 cases x with
 |it a=>exact AV0.has.frz h f
 |tup l=>obtain⟨vs,h1,h2⟩:=h;exact⟨vs,h1,ae7 f h2⟩
theorem Ent.has.frz{e:Ent}{c:Nat}(h:e.has E S w c)(f:Frz b size n cells E S S' w):(e.frz b size n cells).has E S' w c:=by
 cases e with
 |abs A=>exact A.step h (Off.refl S w) (fun k hk=> .inl (f.sub k hk)) (fun _ _=>rfl)
 |box t l=>obtain⟨cs,h1,h2⟩:=h;exact⟨cs,h1,aax f h2⟩
 |row t s m l=>obtain⟨vs,h1,h2⟩:=h;exact⟨vs,h1,h2.mono fun a v _ ha=>ha.step (Off.refl S w) (fun k hk=> .inl (f.sub k hk))⟩
end
theorem St.ad3{C:Ctx}{st:St}{b size n:Nat}{t:TypeId}{cells:List CA}(hnew0:∀E S a w,nE C st E S a w->∀k,(E.sl b).ownBlock=some k->C.w0.heap.size<=k)(hb:st.hp b= .ent (.row t size n cells)):St.le C st (st.frz b size n cells):=by
 intro a w ⟨E,S,hs⟩;obtain⟨vs,hown,hvs⟩:=hs.hp b _ hb;have hlen:cells.length=n*size:=by rw[hvs.length,hown.1]
 have hpt:∀g m cap off,E.sl b= .slice (some ⟨g,0,none⟩) m cap->∀i c,(cells.drop off)[i]? =some c->∃u,¬(S g/\(E.sl b).ownBlock≠some g)/\w.cell? ⟨g,off+i,none⟩=some u/\c.has (fun k=>S k/\(E.sl b).ownBlock≠some k) w u:=by
  intro g m cap off hsl i c hc;rw[zv1]at hc
  obtain⟨u,hu,huc⟩:=hvs.get hc;rw[hsl]at hown;have hcell:=hown.cells (g:=g) rfl (off+i) u hu;refine⟨u,fun h=>h.2 (by rw[hsl];rfl),by simpa[Addr.add_lit]using hcell,huc.step (Off.refl S w) (fun k hk=> .inl hk.1)⟩
 have f:Frz b size n cells E S (fun k=>S k/\(E.sl b).ownBlock≠some k) w:=by
  refine⟨fun k hk=>hk.1,?_,fun g m cap off hsl=>abB.2 ⟨g,off,rfl,hpt g m cap off hsl⟩⟩
  rcases hown.2 with⟨hv,h0⟩|⟨g,cap,cur,hv,_,hg,hn,hm,hcs,htk⟩
  ·refine bY.2 ⟨none,0,by rw[hv,h0],zE,zq8 _,fun _=>rfl,hlen,fun i c hc=>?_⟩
   have:cells.length=0:=by rw[hlen,h0,zw3]
   rw[zx5 this]at hc;simp at hc
  ·refine bY.2 ⟨some ⟨g,0,none⟩,cap,hv,hn,hm,(fun h=>by cases h),hlen,fun i c hc=>?_⟩
   obtain⟨u,h1,h2,h3⟩:=hpt g n cap 0 hv i c (by simpa using hc)
   exact⟨g,0,u,rfl,h1,h2,h3⟩
 have hkey:∀c e,(st.frz b size n cells).hp c= .ent e->c≠b/\∃e0,st.hp c= .ent e0/\e=e0.frz b size n cells:=by
  intro c e hc;have hc':upd (fun c=>(st.hp c).frz b size n cells) b .gone c= .ent e:=hc
  by_cases hcb:c=b
  ·subst hcb;rw[upd_same]at hc';cases hc'
  ·rw[upd_ne _ _ hcb]at hc';refine⟨hcb,?_⟩;cases h1:st.hp c with
   |ent e0=>rw[h1]at hc';simp only[Slot.frz]at hc';cases hc';exact⟨e0,rfl,rfl⟩
   |free=>rw[h1]at hc';cases hc'
   |gone=>rw[h1]at hc';cases hc'
 have hused:∀c,(st.hp c).used=true->((st.frz b size n cells).hp c).used=true:=by
  intro c hc;show (upd (fun c=>(st.hp c).frz b size n cells) b .gone c).used=true
  by_cases hcb:c=b
  ·subst hcb;rw[upd_same];rfl
  ·rw[upd_ne _ _ hcb];cases h1:st.hp c with
   |ent e0=>rfl
   |free=>rw[h1]at hc;cases hc
   |gone=>rfl
 have htm:∀t v,(st.frz b size n cells).tm t=some v->∃v0,st.tm t=some v0/\v=v0.frz b size n cells:=by
  intro t v ht;have ht':(match st.tm t with|some v=>some (v.frz b size n cells)|none=>none)=some v:=ht
  cases h1:st.tm t with
  |none=>rw[h1]at ht';cases ht'
  |some v0=>rw[h1]at ht';cases ht';exact⟨v0,rfl,rfl⟩
 have hblk:∀(e0:Ent) c,(e0.frz b size n cells).at E c=e0.at E c:=fun e0 c=>by cases e0 <;> rfl
 have hnew:∀k,(E.sl b).ownBlock=some k->C.w0.heap.size<=k:=hnew0 E S a w hs;refine⟨E,fun k=>S k/\(E.sl b).ownBlock≠some k,{dfr:=hs.dfr,nt:=hs.nt,cT:=fun k hk=>⟨hs.cT k hk,fun h=>?_⟩,cT0:=hs.cT0,cS:=fun k hk=>hs.cS k hk.1,lt:=fun k hk=>hs.lt k hk.1,tm:=fun t v ht=>?_,tid:=fun t v ht i hi=>?_,hp:=fun c e hc=>?_,hid:=fun c e hc i hi=>?_,blk:=fun c e k hc hk=>?_,sep:=fun c c' e e' k hne hc hc' hk=>?_,off:=hs.off,env:=fun c hc=>?_,gl:=hs.gl.sub fun k hk=>hk.1}⟩
 ·have h1:=hnew k h;have h2:=hs.cT0 k hk;omega
 ·obtain⟨v0,h1,rfl⟩:=htm t v ht;exact(hs.tm t v0 h1).frz f
 ·obtain⟨v0,h1,rfl⟩:=htm t v ht;exact hused i (hs.tid t v0 h1 i (v0.mO i hi))
 ·obtain⟨_,e0,h1,rfl⟩:=hkey c e hc;exact(hs.hp c e0 h1).frz f
 ·obtain⟨_,e0,h1,rfl⟩:=hkey c e hc;exact hused i (hs.hid c e0 h1 i (e0.mO i hi))
 ·obtain⟨hcb,e0,h1,rfl⟩:=hkey c e hc;rw[hblk]at hk;have h2:=hs.blk c e0 k h1 hk;exact⟨⟨h2.1,fun h=>hs.sep c b e0 _ k hcb h1 hb hk h⟩,h2.2⟩
 ·obtain⟨_,e0,h1,rfl⟩:=hkey c e hc;obtain⟨_,e1,h2,rfl⟩:=hkey c' e' hc';rw[hblk]at hk ⊢;exact hs.sep c c' e0 e1 k hne h1 h2 hk
 ·obtain⟨g1,g2,g3⟩:=hs.env c hc;exact⟨g1,g2,hused c g3⟩
theorem St.aon{C:Ctx}{st:St}{b size n:Nat}{t:TypeId}{cells:List CA}(hB:∀k,¬C.B k)(hb:st.hp b= .ent (.row t size n cells)):St.le C st (st.frz b size n cells):=
 St.ad3 (fun E S a w hs k hk=>((hs.blk b _ k hb hk).2).resolve_left (hB k)) hb
def Slot.aiL:Slot->Bool
 | .ent (.box _ _)=>true
 |_=>false
theorem St.aiB{C:Ctx}{st:St}{b size n:Nat}{t:TypeId}{cells:List CA}{ps:List Nat}(hB:∀k,C.B k->k∈ps.map C.E0.blk)(hps:(ps.all fun p=>C.fix p&&(st.hp p).aiL&&!Nat.beq p b)=true)(hb:st.hp b= .ent (.row t size n cells)):St.le C st (st.frz b size n cells):=
 St.ad3 (fun E S a w hs k hk=>((hs.blk b _ k hb hk).2).elim (fun hk'=>by
  obtain⟨p,hp,rfl⟩:=zqg.1 (hB k hk');have h1:=zqh.1 hps p hp;simp only[zx4]at h1;obtain⟨⟨h1,h2⟩,h3⟩:=h1;have hpb:p≠b:=fun e=>by subst e;simp at h3
  cases hh:st.hp p with
  |ent e=>
   rw[hh]at h2;cases e with
   |box t' cs=>
    refine absurd ?_ (hs.sep b p _ _ _ (fun e=>hpb e.symm) hb hh hk)
    show some (E.blk p)=_;rw[(hs.env p h1).1]
   |row _ _ _ _=>cases h2
   |abs _=>cases h2
  |free=>rw[hh]at h2;cases h2
  |gone=>rw[hh]at h2;cases h2) id) hb
theorem WP.aaq{P:Program}{C:Ctx}{st:St}{Q:Exit->St->Prop}{c:Code}{t:TypeId}(b:Nat){size n:Nat}{cells:List CA}{ps:List Nat}(hB:∀k,C.B k->k∈ps.map C.E0.blk)(hps:(ps.all fun p=>C.fix p&&(st.hp p).aiL&&!Nat.beq p b)=true)(hb:st.hp b= .ent (.row t size n cells))(h:WP P C c (st.frz b size n cells) Q):WP P C c st Q:=
 WP.weaken (St.aiB hB hps hb) h
theorem WP.freeze{P:Program}{C:Ctx}{st:St}{Q:Exit->St->Prop}{c:Code}{t:TypeId}(b:Nat){size n:Nat}{cells:List CA}(hB:∀k,¬C.B k)(hb:st.hp b= .ent (.row t size n cells))(h:WP P C c (st.frz b size n cells) Q):WP P C c st Q:=
 WP.weaken (St.aon hB hb) h
section
variable{P:Program}{C:Ctx}{st:St}
variable{ops rest:List Oper}{acc:List (List Nat×List Nat)}{K:List (List Nat×List Nat)->St->Prop}{dst:Option Tmp}{ty t:TypeId}{x:Operand}
theorem rQ{l:List Atom}{m:List CA}(h:aY l=some m):m.length=l.length:=by rw[eu h];simp
theorem Go1.alr{e:TypeId}{size bytes:Nat}{zs:List Value}{v:AV0}{m:List CA}[ht:bT P t e size][he:fH P e zs bytes](hd:aC dst C.nt=true)(hx:st.ev x=some (.it v))(hc:aY v.cells=some m)
  (hm:(Nat.beq m.length size&&Nat.ble size 1000&&v.cells.all Atom.eO)=true)
  (next:Reg P C ops rest (st.app dst ⟨.r (aQ size 1 m),[]⟩) (([],[])::acc) K):Go1 P C ops dst (.buildSlice t 1 #[(0,x)]) ty rest st acc K:=by
 simp only[zx4]at hm;obtain⟨⟨h1,h2⟩,h3⟩:=hm;have hl:m.length=size:=Nat.eq_of_beq_eq_true h1;have h2':size<=1000:=by simpa[zva]using h2
 have hvl:v.cells.length=size:=by rw[<-rQ hc];exact hl
 refine Go1.sM (ps:=[(0,v)]) (l:=v.cells) (m:=m) hd (by simp only[evp,hx]) ?_ ?_ ?_ hc ?_ next
 ·simp only[List.all_cons,List.all_nil,Bool.and_true,h3,Bool.true_and];rfl
 ·rw[Nat.one_mul,zva];omega
 ·have hpl:(placesOf 1 size)[0]? =some (0,size):=by simp[placesOf]
  have hz:((madeCells zs.toArray (1*size)).toList.map fun v=>Atom.c (.val v)).length=size:=by simp[size_madeCells]
  have e1:Nat.beq v.cells.length size=true:=by rw[hvl];exact Nat.beq_refl _
  simp only[fV,hpl];rw[hz,e1,zv7,show Nat.ble size size=true by rw[zva];exact zq6 _]
  simp only[Bool.and_self];rw[iV _ _ _ (by rw[hz,hvl];omega),hvl,List.take_zero,zvd,zv7,List.drop_of_length_le (by rw[hz];exact zq6 _),zqb]
 ·rw[hl,Nat.one_mul];exact Nat.beq_refl _
end
theorem apq{α:Type}{f:α->CA}{l:List α}{i:Nat}{a:α}(h:l[i]? =some a):(((l.map f).drop (i*1)).take 1)[0]? =some (f a):=by
 rw[Nat.mul_one,zy9,if_pos zE,zv1];simp[h]
end
section
variable{P:Program}{C:Ctx}{st:St}
variable{ops rest:List Oper}{acc:List (List Nat×List Nat)}{K:List (List Nat×List Nat)->St->Prop}{dst:Option Tmp}{d:Tmp}{op:Op}{ty t t':TypeId}{x y z:Operand}{k k':IntKind}{m n:Int}
theorem G.add{z:Int}(next:Reg P C ops rest (st.app dst ⟨.v (.int k z),[]⟩) (([],[])::acc) K)(hd:aC dst C.nt=true:=by rfl)(hx:st.ev x=some (.v (.int k m)):=by rfl)(hy:st.ev y=some (.v (.int k n)):=by rfl)(hw:k.wrap (m+n)=z:=by first|(with_reducible assumption)|assumption|exact lK zE zE|exact lQ zE zE|exact and1_i64 _|rfl):Go1 P C ops dst (.binOp .add t x y t') ty rest st acc K:=
 Go1.add hd hx hy hw next
theorem G.alloc{cells:List Value}[hz:gu P t cells](next:Reg P C ops rest (st.app (some d) ⟨.ptr d 0,[(d,.ent (.box t (cells.map fun v=>Atom.c (.val v))))]⟩) (([d],[d])::acc) K)(hd:aC (some d) C.nt=true:=by rfl)(hf:st.hp d= .free:=by rfl):Go1 P C ops (some d) (.alloc t) ty rest st acc K:=
 Go1.alloc hd hf next
theorem G.and{z:Int}(next:Reg P C ops rest (st.app dst ⟨.v (.int k z),[]⟩) (([],[])::acc) K)(hd:aC dst C.nt=true:=by rfl)(hx:st.ev x=some (.v (.int k m)):=by rfl)(hy:st.ev y=some (.v (.int k n)):=by rfl)(hw:k.wrap ((BitVec.ofInt k.bits m &&& BitVec.ofInt k.bits n).toNat:Int)=z:=by first|(with_reducible assumption)|assumption|exact lK zE zE|exact lQ zE zE|exact and1_i64 _|rfl):Go1 P C ops dst (.binOp .and t x y t') ty rest st acc K:=
 Go1.and hd hx hy hw next
theorem G.assign{x:Operand}{r:AV}(next:Reg P C ops rest (st.app dst ⟨r,[]⟩) (([],[])::acc) K)(hd:aC dst C.nt=true:=by rfl)(hx:st.ev x=some r:=by rfl):Go1 P C ops dst (.assign x) ty rest st acc K:=
 Go1.assign hd hx next
theorem G.box{v:AV0}(next:Reg P C ops rest (st.app (some d) ⟨.ptr d 0,[(d,.ent (.box t v.cells))]⟩) (([d],[d])::acc) K)(hd:aC (some d) C.nt=true:=by rfl)(hx:st.ev x=some (.it v):=by rfl)(hf:st.hp d= .free:=by rfl)(h1:v.cells.all Atom.eO=true:=by rfl):Go1 P C ops (some d) (.box t x) ty rest st acc K:=
 Go1.box hd hx hf h1 next
theorem G.build{pl:List (Nat×Nat)}{zs:List Value}{parts:Array (Nat×Operand)}{ps:List (Nat×AV0)}{l:List Atom}[ht:dU P t pl][hz:gu P t zs](next:Reg P C ops rest (st.app (some d) ⟨.agg l,[]⟩) (([],[])::acc) K)(hd:aC (some d) C.nt=true:=by rfl)(hp:evp st parts.toList=some ps:=by rfl)(h1:(ps.all fun p=>p.2.cells.all Atom.eO)=true:=by rfl)(hf:fV pl (zs.map fun v=>Atom.c (.val v)) ps=some l:=by rfl):Go1 P C ops (some d) (.build t parts) ty rest st acc K:=
 Go1.build hd hp h1 hf next
theorem G.yA{pl:List (Nat×Nat)}{zs:List Value}{parts:Array (Nat×Operand)}{ps:List (Nat×AV0)}{a1 a2:Atom}[ht:dU P t pl][hz:gu P t zs](next:Reg P C ops rest (st.app (some d) ⟨.agg [a1,a2],[]⟩) (([],[])::acc) K)(hd:aC (some d) C.nt=true:=by rfl)(hp:evp st parts.toList=some ps:=by rfl)(h1:(ps.all fun p=>p.2.cells.all Atom.eO)=true:=by rfl)(hf:fV pl (zs.map fun v=>Atom.c (.val v)) ps=some [a1,a2]:=by rfl):Go1 P C ops (some d) (.build t parts) ty rest st acc K:=
 Go1.yA hd hp h1 hf next
theorem G.xS{pl:List (Nat×Nat)}{zs:List Value}{parts:Array (Nat×Operand)}{ps:List (Nat×AV0)}{a1 a2 a3:Atom}[ht:dU P t pl][hz:gu P t zs](next:Reg P C ops rest (st.app (some d) ⟨.agg [a1,a2,a3],[]⟩) (([],[])::acc) K)(hd:aC (some d) C.nt=true:=by rfl)(hp:evp st parts.toList=some ps:=by rfl)(h1:(ps.all fun p=>p.2.cells.all Atom.eO)=true:=by rfl)(hf:fV pl (zs.map fun v=>Atom.c (.val v)) ps=some [a1,a2,a3]:=by rfl):Go1 P C ops (some d) (.build t parts) ty rest st acc K:=
 Go1.xS hd hp h1 hf next
theorem G.xY{pl:List (Nat×Nat)}{zs:List Value}{parts:Array (Nat×Operand)}{ps:List (Nat×AV0)}{a1 a2 a3 a4:Atom}[ht:dU P t pl][hz:gu P t zs](next:Reg P C ops rest (st.app (some d) ⟨.agg [a1,a2,a3,a4],[]⟩) (([],[])::acc) K)(hd:aC (some d) C.nt=true:=by rfl)(hp:evp st parts.toList=some ps:=by rfl)(h1:(ps.all fun p=>p.2.cells.all Atom.eO)=true:=by rfl)(hf:fV pl (zs.map fun v=>Atom.c (.val v)) ps=some [a1,a2,a3,a4]:=by rfl):Go1 P C ops (some d) (.build t parts) ty rest st acc K:=
 Go1.xY hd hp h1 hf next
theorem G.conv{k':IntKind}{z:Int}[h1:aa1 P t k][h2:aa1 P t' k'](next:Reg P C ops rest (st.app dst ⟨.v (.int k' z),[]⟩) (([],[])::acc) K)(hd:aC dst C.nt=true:=by rfl)(hx:st.ev x=some (.v (.int k m)):=by rfl)(hw:k'.wrap m=z:=by first|(with_reducible assumption)|assumption|exact lK zE zE|exact lQ zE zE|exact and1_i64 _|rfl):Go1 P C ops dst (.convert t t' x) ty rest st acc K:=
 Go1.conv hd hx hw next
theorem G.eql(next:Reg P C ops rest (st.app dst ⟨.v (.bool (decide (m=n))),[]⟩) (([],[])::acc) K)(hd:aC dst C.nt=true:=by rfl)(hx:st.ev x=some (.v (.int k m)):=by rfl)(hy:st.ev y=some (.v (.int k n)):=by rfl):Go1 P C ops dst (.binOp .eql t x y t') ty rest st acc K:=
 Go1.eql hd hx hy next
theorem G.ak9{b c:Bool}[hb:afv P t](next:Reg P C ops rest (st.app dst ⟨.v (.bool (b==c)),[]⟩) (([],[])::acc) K)(hd:aC dst C.nt=true:=by rfl)(hx:st.ev x=some (.v (.bool b)):=by rfl)(hy:st.ev y=some (.v (.bool c)):=by rfl):Go1 P C ops dst (.binOp .eql t x y t') ty rest st acc K:=
 Go1.ak9 hd hx hy next
theorem G.extract{l:List AV0}{i:Nat}{r:AV0}(next:Reg P C ops rest (st.app dst ⟨.it r,[]⟩) (([],[])::acc) K)(hd:aC dst C.nt=true:=by rfl)(hx:st.ev x=some (.tup l):=by rfl)(hi:l[i]? =some r:=by rfl):Go1 P C ops dst (.extract x i) ty rest st acc K:=
 Go1.extract hd hx hi next
theorem G.fieldAddr{b off f o1:Nat}[ht:bJ P t f o1](next:Reg P C ops rest (st.app (some d) ⟨.ptr b (off+o1),[]⟩) (([],[])::acc) K)(hd:aC (some d) C.nt=true:=by rfl)(hx:st.ev x=some (.ptr b off):=by rfl):Go1 P C ops (some d) (.fieldAddr t x f) ty rest st acc K:=
 Go1.fieldAddr hd hx next
theorem G.lG{f o1:Nat}{cells:List CA}[ht:bJ P t f o1](next:Reg P C ops rest (st.app dst ⟨.r (dK (cells.drop o1)),[]⟩) (([],[])::acc) K)(hd:aC dst C.nt=true:=by rfl)(hx:st.ev x=some (.r (dK cells)):=by rfl):Go1 P C ops dst (.fieldAddr t x f) ty rest st acc K:=
 Go1.lG hd hx next
theorem G.geq(next:Reg P C ops rest (st.app dst ⟨.v (.bool (decide (n<=m))),[]⟩) (([],[])::acc) K)(hd:aC dst C.nt=true:=by rfl)(hx:st.ev x=some (.v (.int k m)):=by rfl)(hy:st.ev y=some (.v (.int k n)):=by rfl):Go1 P C ops dst (.binOp .geq t x y t') ty rest st acc K:=
 Go1.geq hd hx hy next
theorem G.gtr(next:Reg P C ops rest (st.app dst ⟨.v (.bool (decide (n < m))),[]⟩) (([],[])::acc) K)(hd:aC dst C.nt=true:=by rfl)(hx:st.ev x=some (.v (.int k m)):=by rfl)(hy:st.ev y=some (.v (.int k n)):=by rfl):Go1 P C ops dst (.binOp .gtr t x y t') ty rest st acc K:=
 Go1.gtr hd hx hy next
theorem G.kR{e:TypeId}{b n size i:Nat}{cells:List CA}[ht:bT P t e size](next:Reg P C ops rest (st.app dst ⟨.it (.one (.rptr b (i*size))),[]⟩) (([b],[])::acc) K)(hd:aC dst C.nt=true:=by rfl)(hx:st.ev x=some (.own b):=by rfl)(hb:st.hp b= .ent (.row e size n cells):=by rfl)(hy:st.ev y=some (.v (.int k (i:Int))):=by rfl)(hi:i < n:=by omega):Go1 P C ops dst (.indexAddr t x y) ty rest st acc K:=
 Go1.kR hd hx hb hy hi next
theorem G.aml{e:TypeId}{b n size sz:Nat}{cells:List CA}[ht:bT P t e sz](next:Reg P C ops rest (st.app dst ⟨.v (.int .i64 (n:Int)),[]⟩) (([b],[])::acc) K)(hd:aC dst C.nt=true:=by rfl)(hx:st.ev x=some (.own b):=by rfl)(hb:st.hp b= .ent (.row e size n cells):=by rfl):Go1 P C ops dst (.call ⟨.builtin .len,#[x],#[t]⟩) ty rest st acc K:=
 Go1.aml hd hx hb next
theorem G.alL{e:TypeId}{size sz n:Nat}{cells:List CA}{r:Rep}[ht:bT P t e sz][hr:jF r size n cells](next:Reg P C ops rest (st.app dst ⟨.v (.int .i64 (n:Int)),[]⟩) (([],[])::acc) K)(hd:aC dst C.nt=true:=by rfl)(hx:st.ev x=some (.r r):=by rfl):Go1 P C ops dst (.call ⟨.builtin .len,#[x],#[t]⟩) ty rest st acc K:=
 Go1.alL hd hx next
theorem G.leq(next:Reg P C ops rest (st.app dst ⟨.v (.bool (decide (m<=n))),[]⟩) (([],[])::acc) K)(hd:aC dst C.nt=true:=by rfl)(hx:st.ev x=some (.v (.int k m)):=by rfl)(hy:st.ev y=some (.v (.int k n)):=by rfl):Go1 P C ops dst (.binOp .leq t x y t') ty rest st acc K:=
 Go1.leq hd hx hy next
theorem G.alr{e:TypeId}{size bytes:Nat}{zs:List Value}{v:AV0}{m:List CA}[ht:bT P t e size][he:fH P e zs bytes](next:Reg P C ops rest (st.app dst ⟨.r (aQ size 1 m),[]⟩) (([],[])::acc) K)(hd:aC dst C.nt=true:=by rfl)(hx:st.ev x=some (.it v):=by rfl)(hc:aY v.cells=some m:=by rfl)(hm:(Nat.beq m.length size&&Nat.ble size 1000&&v.cells.all Atom.eO)=true:=by rfl):Go1 P C ops dst (.buildSlice t 1 #[(0,x)]) ty rest st acc K:=
 Go1.alr hd hx hc hm next
theorem G.acG{b off:Nat}{T:TypeId}{cells:List Atom}{c:Atom}[ht:iK P t](next:Reg P C ops rest (st.app (some d) ⟨.it (.one c),[]⟩) (([b],[])::acc) K)(hd:aC (some d) C.nt=true:=by rfl)(hx:st.ev x=some (.ptr b off):=by rfl)(hb:st.hp b= .ent (.box T cells):=by rfl)(hr:cells[off]? =some c:=by rfl):Go1 P C ops (some d) (.load t x) ty rest st acc K:=
 Go1.acG hd hx hb hr next
theorem G.acI{b off:Nat}{T:TypeId}{cells:List Atom}{a1 a2:Atom}[ht:gH P t 2](next:Reg P C ops rest (st.app (some d) ⟨.agg [a1,a2],[]⟩) (([b],[])::acc) K)(hd:aC (some d) C.nt=true:=by rfl)(hx:st.ev x=some (.ptr b off):=by rfl)(hb:st.hp b= .ent (.box T cells):=by rfl)(hr:(cells.drop off).take 2=[a1,a2]:=by rfl):Go1 P C ops (some d) (.load t x) ty rest st acc K:=
 Go1.acI hd hx hb hr next
theorem G.adg{b off:Nat}{T:TypeId}{cells:List Atom}{a1 a2 a3:Atom}[ht:gH P t 3](next:Reg P C ops rest (st.app (some d) ⟨.agg [a1,a2,a3],[]⟩) (([b],[])::acc) K)(hd:aC (some d) C.nt=true:=by rfl)(hx:st.ev x=some (.ptr b off):=by rfl)(hb:st.hp b= .ent (.box T cells):=by rfl)(hr:(cells.drop off).take 3=[a1,a2,a3]:=by rfl):Go1 P C ops (some d) (.load t x) ty rest st acc K:=
 Go1.adg hd hx hb hr next
theorem G.acY{b off:Nat}{T:TypeId}{cells:List Atom}{a1 a2 a3 a4:Atom}[ht:gH P t 4](next:Reg P C ops rest (st.app (some d) ⟨.agg [a1,a2,a3,a4],[]⟩) (([b],[])::acc) K)(hd:aC (some d) C.nt=true:=by rfl)(hx:st.ev x=some (.ptr b off):=by rfl)(hb:st.hp b= .ent (.box T cells):=by rfl)(hr:(cells.drop off).take 4=[a1,a2,a3,a4]:=by rfl):Go1 P C ops (some d) (.load t x) ty rest st acc K:=
 Go1.acY hd hx hb hr next
theorem G.xK{c:CA}{cells:List CA}[ht:iK P t](next:Reg P C ops rest (st.app dst ⟨.it (.one (.c c)),[]⟩) (([],[])::acc) K)(hd:aC dst C.nt=true:=by rfl)(hx:st.ev x=some (.r (dK cells)):=by rfl)(hl:cells[0]? =some c:=by first|rfl|assumption|exact apq (by assumption)|exact load_mapO (by assumption)):Go1 P C ops dst (.load t x) ty rest st acc K:=
 Go1.xK hd hx hl next
theorem G.yF{c1 c2:CA}{cells:List CA}[ht:gH P t 2](next:Reg P C ops rest (st.app dst ⟨.agg [.c c1,.c c2],[]⟩) (([],[])::acc) K)(hd:aC dst C.nt=true:=by rfl)(hx:st.ev x=some (.r (dK cells)):=by rfl)(hl:cells=[c1,c2]:=by rfl):Go1 P C ops dst (.load t x) ty rest st acc K:=
 Go1.yF hd hx hl next
theorem G.yt{c1 c2 c3:CA}{cells:List CA}[ht:gH P t 3](next:Reg P C ops rest (st.app dst ⟨.agg [.c c1,.c c2,.c c3],[]⟩) (([],[])::acc) K)(hd:aC dst C.nt=true:=by rfl)(hx:st.ev x=some (.r (dK cells)):=by rfl)(hl:cells=[c1,c2,c3]:=by rfl):Go1 P C ops dst (.load t x) ty rest st acc K:=
 Go1.yt hd hx hl next
theorem G.yE{c1 c2 c3 c4:CA}{cells:List CA}[ht:gH P t 4](next:Reg P C ops rest (st.app dst ⟨.agg [.c c1,.c c2,.c c3,.c c4],[]⟩) (([],[])::acc) K)(hd:aC dst C.nt=true:=by rfl)(hx:st.ev x=some (.r (dK cells)):=by rfl)(hl:cells=[c1,c2,c3,c4]:=by rfl):Go1 P C ops dst (.load t x) ty rest st acc K:=
 Go1.yE hd hx hl next
theorem G.lss(next:Reg P C ops rest (st.app dst ⟨.v (.bool (decide (m < n))),[]⟩) (([],[])::acc) K)(hd:aC dst C.nt=true:=by rfl)(hx:st.ev x=some (.v (.int k m)):=by rfl)(hy:st.ev y=some (.v (.int k n)):=by rfl):Go1 P C ops dst (.binOp .lss t x y t') ty rest st acc K:=
 Go1.lss hd hx hy next
theorem G.move{x:Operand}{r:AV}(next:Reg P C ops rest (st.app dst ⟨r,[]⟩) (([],[])::acc) K)(hd:aC dst C.nt=true:=by rfl)(hx:st.ev x=some r:=by rfl):Go1 P C ops dst (.move x) ty rest st acc K:=
 Go1.move hd hx next
theorem G.mul{z:Int}(next:Reg P C ops rest (st.app dst ⟨.v (.int k z),[]⟩) (([],[])::acc) K)(hd:aC dst C.nt=true:=by rfl)(hx:st.ev x=some (.v (.int k m)):=by rfl)(hy:st.ev y=some (.v (.int k n)):=by rfl)(hw:k.wrap (m*n)=z:=by first|(with_reducible assumption)|assumption|exact lK zE zE|exact lQ zE zE|exact and1_i64 _|rfl):Go1 P C ops dst (.binOp .mul t x y t') ty rest st acc K:=
 Go1.mul hd hx hy hw next
theorem G.neg{z:Int}(next:Reg P C ops rest (st.app dst ⟨.v (.int k z),[]⟩) (([],[])::acc) K)(hd:aC dst C.nt=true:=by rfl)(hx:st.ev x=some (.v (.int k m)):=by rfl)(hw:k.wrap (0 - m)=z:=by first|(with_reducible assumption)|assumption|exact lK zE zE|exact lQ zE zE|exact and1_i64 _|rfl):Go1 P C ops dst (.unOp .neg t x) ty rest st acc K:=
 Go1.neg hd hx hw next
theorem G.neq(next:Reg P C ops rest (st.app dst ⟨.v (.bool (decide (m≠n))),[]⟩) (([],[])::acc) K)(hd:aC dst C.nt=true:=by rfl)(hx:st.ev x=some (.v (.int k m)):=by rfl)(hy:st.ev y=some (.v (.int k n)):=by rfl):Go1 P C ops dst (.binOp .neq t x y t') ty rest st acc K:=
 Go1.neq hd hx hy next
theorem G.alg{b c:Bool}[hb:afv P t](next:Reg P C ops rest (st.app dst ⟨.v (.bool (!(b==c))),[]⟩) (([],[])::acc) K)(hd:aC dst C.nt=true:=by rfl)(hx:st.ev x=some (.v (.bool b)):=by rfl)(hy:st.ev y=some (.v (.bool c)):=by rfl):Go1 P C ops dst (.binOp .neq t x y t') ty rest st acc K:=
 Go1.alg hd hx hy next
theorem G.not{b:Bool}(next:Reg P C ops rest (st.app dst ⟨.v (.bool (!b)),[]⟩) (([],[])::acc) K)(hd:aC dst C.nt=true:=by rfl)(hx:st.ev x=some (.v (.bool b)):=by rfl):Go1 P C ops dst (.unOp .not t x) ty rest st acc K:=
 Go1.not hd hx next
theorem G.pick{x y c:Operand}{b:Bool}{r:AV}(next:Reg P C ops rest (st.app dst ⟨r,[]⟩) (([],[])::acc) K)(hd:aC dst C.nt=true:=by rfl)(hc:st.ev c=some (.v (.bool b)):=by rfl)(hx:st.ev (match b with|true=>x|false=>y)=some r:=by rfl):Go1 P C ops dst (.pick c x y) ty rest st acc K:=
 Go1.pick hd hc hx next
theorem G.ahN{c:Operand}{t:Bool}{r:AV}(next:Reg P C ops rest (st.app dst ⟨r,[]⟩) (([],[])::acc) K)(hd:aC dst C.nt=true:=by rfl)(hc:st.ev c=some (.v (.bool t)):=by rfl)(ht:t=false:=by first|(with_reducible assumption)|assumption)(hx:st.ev y=some r:=by rfl):Go1 P C ops dst (.pick c x y) ty rest st acc K:=
 Go1.ahN hd hc ht hx next
theorem G.agT{c:Operand}{t:Bool}{r:AV}(next:Reg P C ops rest (st.app dst ⟨r,[]⟩) (([],[])::acc) K)(hd:aC dst C.nt=true:=by rfl)(hc:st.ev c=some (.v (.bool t)):=by rfl)(ht:t=true:=by first|(with_reducible assumption)|assumption)(hx:st.ev x=some r:=by rfl):Go1 P C ops dst (.pick c x y) ty rest st acc K:=
 Go1.agT hd hc ht hx next
theorem G.quo{z:Int}(next:Reg P C ops rest (st.app dst ⟨.v (.int k z),[]⟩) (([],[])::acc) K)(hd:aC dst C.nt=true:=by rfl)(hx:st.ev x=some (.v (.int k m)):=by rfl)(hy:st.ev y=some (.v (.int k n)):=by rfl)(h0:n≠0:=by omega)(hw:k.wrap (m.tdiv n)=z:=by first|(with_reducible assumption)|assumption|exact lK zE zE|exact lQ zE zE|exact and1_i64 _|rfl):Go1 P C ops dst (.binOp .quo t x y t') ty rest st acc K:=
 Go1.quo hd hx hy h0 hw next
theorem G.shr{z:Int}(next:Reg P C ops rest (st.app dst ⟨.v (.int k z),[]⟩) (([],[])::acc) K)(hd:aC dst C.nt=true:=by rfl)(hx:st.ev x=some (.v (.int k m)):=by rfl)(hy:st.ev y=some (.v (.int k' n)):=by rfl)(h0:0<=n:=by omega)(hw:m.fdiv (2 ^ (min n.toNat k.bits))=z:=by first|(with_reducible assumption)|assumption|exact lK zE zE|exact lQ zE zE|exact and1_i64 _|rfl):Go1 P C ops dst (.binOp .shr t x y t') ty rest st acc K:=
 Go1.shr hd hx hy h0 hw next
theorem G.store{b off n:Nat}{T:TypeId}{cells cells':List Atom}{v:AV0}(next:Reg P C ops rest (st.app none ⟨.v undef,[(b,.ent (.box T cells'))]⟩) (([b],[b])::acc) K)(hs:(P.info? t).map (·.size)=some n:=by kernel_rfl)(hx:st.ev x=some (.ptr b off):=by rfl)(hy:st.ev y=some (.it v):=by rfl)(hb:st.hp b= .ent (.box T cells):=by rfl)(hn:v.cells.length=n:=by rfl)(hl:Nat.ble (off+n) cells.length=true:=by rfl)(h1:v.cells.all Atom.eO=true:=by rfl)(hr:spl cells off v.cells=cells':=by rfl):Go1 P C ops none (.store t x y) ty rest st acc K:=
 Go1.store hs hx hy hb hn hl h1 hr next
theorem G.sub{z:Int}(next:Reg P C ops rest (st.app dst ⟨.v (.int k z),[]⟩) (([],[])::acc) K)(hd:aC dst C.nt=true:=by rfl)(hx:st.ev x=some (.v (.int k m)):=by rfl)(hy:st.ev y=some (.v (.int k n)):=by rfl)(hw:k.wrap (m - n)=z:=by first|(with_reducible assumption)|assumption|exact lK zE zE|exact lQ zE zE|exact and1_i64 _|rfl):Go1 P C ops dst (.binOp .sub t x y t') ty rest st acc K:=
 Go1.sub hd hx hy hw next
end
section
theorem ajR{b:Bool}(h:b=false):(!b)=true:=by rw[h];rfl
theorem ai1{b:Bool}(h:b=true):(!b)=false:=by rw[h];rfl
class Con(P:Program)(f:FuncId)(args:List AV)(pre:outParam Prop)(r:outParam AV):Prop where
 h:pre->ah P f args r
theorem Con.use{P:Program}{f:FuncId}{args:List AV}{pre:Prop}{r:AV}[c:Con P f args pre r](h:pre):ah P f args r:=c.h h
section
variable{P:Program}{C:Ctx}{st:St}{Q:Exit->St->Prop}
variable{ops rest:List Oper}{acc:List (List Nat×List Nat)}{K:List (List Nat×List Nat)->St->Prop}{dst:Option Tmp}{d:Tmp}{op:Op}{ty t t':TypeId}{x y z:Operand}{k k':IntKind}{m n:Int}{pos:String}{af:Array Edge}{za zb zi zj:Int}
theorem jE(n:Nat):((OfNat.ofNat n:Int))=((OfNat.ofNat n:Nat):Int):=rfl
theorem evz{z z':Int}(h:st.ev x=some (.v (.int k z)))(h0:z=z'):st.ev x=some (.v (.int k z')):=h0▸h
theorem G.call{f:FuncId}{as:Array Operand}{tys:Array TypeId}{args:List AV}{r:AV}(next:Reg P C ops rest (st.app dst ⟨r,[]⟩) (([],[])::acc) K)(ha:evs st as.toList=some args:=by rfl)(hc:ah P f args r:=by first|(with_reducible assumption)|assumption|exact SX.Con.use (by first|trivial|omega|assumption|(refine⟨?_,?_⟩ <;> first|omega|assumption)|(refine⟨?_,?_,?_⟩ <;> first|omega|assumption)))(hd:aC dst C.nt=true:=by rfl)(hid:r.ids=[]:=by rfl):Go1 P C ops dst (.call ⟨.value (.func f),as,tys⟩) ty rest st acc K:=
 Go1.call ha hc hd hid next
theorem zU{m:Nat}(h:m<=9223372036854775807):IntKind.i64.wrap (m:Int)=(m:Int):=lK zE zE
theorem aec{m:Nat}(h:m<=18446744073709551615):IntKind.u64.wrap (m:Int)=(m:Int):=lQ zE zE
class anS(k:IntKind)(b:outParam Nat):Prop where
 h:∀m:Nat,m<=b->k.wrap (m:Int)=(m:Int)
instance:anS .u64 18446744073709551615:=⟨fun _ h=>aec h⟩
theorem G.addN{a b:Nat}(next:Reg P C ops rest (st.app dst ⟨.v (.int .i64 ((a+b:Nat):Int)),[]⟩) (([],[])::acc) K)(hd:aC dst C.nt=true:=by rfl)(hx:st.ev x=some (.v (.int .i64 za)):=by rfl)(hx0:za=(a:Int):=by first|with_reducible rfl|exact SX.jE _|rfl)(hy:st.ev y=some (.v (.int .i64 zb)):=by rfl)(hy0:zb=(b:Int):=by first|with_reducible rfl|exact SX.jE _|rfl)(hb:a+b<=9223372036854775807:=by omega):Go1 P C ops dst (.binOp .add t x y t') ty rest st acc K:=
 Go1.add hd (evz hx hx0) (evz hy hy0) (by rw[<-Int.natCast_add];exact zU hb) next
theorem G.aiP{a b:Nat}(next:Reg P C ops rest (st.app dst ⟨.v (.int .u64 ((a+b:Nat):Int)),[]⟩) (([],[])::acc) K)(hd:aC dst C.nt=true:=by rfl)(hx:st.ev x=some (.v (.int .u64 za)):=by rfl)(hx0:za=(a:Int):=by first|with_reducible rfl|exact SX.jE _|rfl)(hy:st.ev y=some (.v (.int .u64 zb)):=by rfl)(hy0:zb=(b:Int):=by first|with_reducible rfl|exact SX.jE _|rfl)(hb:a+b<=18446744073709551615:=by omega):Go1 P C ops dst (.binOp .add t x y t') ty rest st acc K:=
 Go1.add hd (evz hx hx0) (evz hy hy0) (by rw[<-Int.natCast_add];exact aec hb) next
theorem G.subN{a b:Nat}(next:Reg P C ops rest (st.app dst ⟨.v (.int .i64 ((a - b:Nat):Int)),[]⟩) (([],[])::acc) K)(hd:aC dst C.nt=true:=by rfl)(hx:st.ev x=some (.v (.int .i64 za)):=by rfl)(hx0:za=(a:Int):=by first|with_reducible rfl|exact SX.jE _|rfl)(hy:st.ev y=some (.v (.int .i64 zb)):=by rfl)(hy0:zb=(b:Int):=by first|with_reducible rfl|exact SX.jE _|rfl)(h1:b<=a:=by omega)(hb:a<=9223372036854775807:=by omega):Go1 P C ops dst (.binOp .sub t x y t') ty rest st acc K:=
 Go1.sub hd (evz hx hx0) (evz hy hy0) (by rw[<-Int.ofNat_sub h1];exact zU zE) next
theorem G.mulN{a b:Nat}(next:Reg P C ops rest (st.app dst ⟨.v (.int .i64 ((a*b:Nat):Int)),[]⟩) (([],[])::acc) K)(hd:aC dst C.nt=true:=by rfl)(hx:st.ev x=some (.v (.int .i64 za)):=by rfl)(hx0:za=(a:Int):=by first|with_reducible rfl|exact SX.jE _|rfl)(hy:st.ev y=some (.v (.int .i64 zb)):=by rfl)(hy0:zb=(b:Int):=by first|with_reducible rfl|exact SX.jE _|rfl)(hb:a*b<=9223372036854775807:=by first|omega|assumption):Go1 P C ops dst (.binOp .mul t x y t') ty rest st acc K:=
 Go1.mul hd (evz hx hx0) (evz hy hy0) (by rw[<-Int.natCast_mul];exact zU hb) next
theorem G.ajA{a b:Nat}(next:Reg P C ops rest (st.app dst ⟨.v (.int .u64 ((a*b:Nat):Int)),[]⟩) (([],[])::acc) K)(hd:aC dst C.nt=true:=by rfl)(hx:st.ev x=some (.v (.int .u64 za)):=by rfl)(hx0:za=(a:Int):=by first|with_reducible rfl|exact SX.jE _|rfl)(hy:st.ev y=some (.v (.int .u64 zb)):=by rfl)(hy0:zb=(b:Int):=by first|with_reducible rfl|exact SX.jE _|rfl)(hb:a*b<=18446744073709551615:=by first|omega|assumption):Go1 P C ops dst (.binOp .mul t x y t') ty rest st acc K:=
 Go1.mul hd (evz hx hx0) (evz hy hy0) (by rw[<-Int.natCast_mul];exact aec hb) next
theorem G.quoN{a b:Nat}(next:Reg P C ops rest (st.app dst ⟨.v (.int .i64 ((a / b:Nat):Int)),[]⟩) (([],[])::acc) K)(hd:aC dst C.nt=true:=by rfl)(hx:st.ev x=some (.v (.int .i64 za)):=by rfl)(hx0:za=(a:Int):=by first|with_reducible rfl|exact SX.jE _|rfl)(hy:st.ev y=some (.v (.int .i64 zb)):=by rfl)(hy0:zb=(b:Int):=by first|with_reducible rfl|exact SX.jE _|rfl)(h1:0 < b:=by omega)(hb:a<=9223372036854775807:=by omega):Go1 P C ops dst (.binOp .quo t x y t') ty rest st acc K:=
 Go1.quo hd (evz hx hx0) (evz hy hy0) zE (by show _=_;exact zU (zxf (Nat.div_le_self ..) hb)) next
theorem G.aiT{a b:Nat}(next:Reg P C ops rest (st.app dst ⟨.v (.int .u64 ((a / b:Nat):Int)),[]⟩) (([],[])::acc) K)(hd:aC dst C.nt=true:=by rfl)(hx:st.ev x=some (.v (.int .u64 za)):=by rfl)(hx0:za=(a:Int):=by first|with_reducible rfl|exact SX.jE _|rfl)(hy:st.ev y=some (.v (.int .u64 zb)):=by rfl)(hy0:zb=(b:Int):=by first|with_reducible rfl|exact SX.jE _|rfl)(h1:0 < b:=by omega)(hb:a<=18446744073709551615:=by omega):Go1 P C ops dst (.binOp .quo t x y t') ty rest st acc K:=
 Go1.quo hd (evz hx hx0) (evz hy hy0) zE (by show _=_;exact aec (zxf (Nat.div_le_self ..) hb)) next
theorem G.remN{a b:Nat}(next:Reg P C ops rest (st.app dst ⟨.v (.int .i64 ((a % b:Nat):Int)),[]⟩) (([],[])::acc) K)(hd:aC dst C.nt=true:=by rfl)(hx:st.ev x=some (.v (.int .i64 za)):=by rfl)(hx0:za=(a:Int):=by first|with_reducible rfl|exact SX.jE _|rfl)(hy:st.ev y=some (.v (.int .i64 zb)):=by rfl)(hy0:zb=(b:Int):=by first|with_reducible rfl|exact SX.jE _|rfl)(h1:0 < b:=by omega):Go1 P C ops dst (.binOp .rem t x y t') ty rest st acc K:=
 Go1.rem hd (evz hx hx0) (evz hy hy0) zE (show ((a:Int)).tmod (b:Int)=((a % b:Nat):Int)from rfl) next
theorem G.ajp{a b:Nat}(next:Reg P C ops rest (st.app dst ⟨.v (.int .u64 ((a % b:Nat):Int)),[]⟩) (([],[])::acc) K)(hd:aC dst C.nt=true:=by rfl)(hx:st.ev x=some (.v (.int .u64 za)):=by rfl)(hx0:za=(a:Int):=by first|with_reducible rfl|exact SX.jE _|rfl)(hy:st.ev y=some (.v (.int .u64 zb)):=by rfl)(hy0:zb=(b:Int):=by first|with_reducible rfl|exact SX.jE _|rfl)(h1:0 < b:=by omega):Go1 P C ops dst (.binOp .rem t x y t') ty rest st acc K:=
 Go1.rem hd (evz hx hx0) (evz hy hy0) zE (show ((a:Int)).tmod (b:Int)=((a % b:Nat):Int)from rfl) next
theorem R.runT{j u:Nat}{b':Bool}(h:Go1 P C ops dst op ty rest st acc K)(ht:(ops[j]?).bind (·.dst)=some u:=by rfl)(hv:st.tm u=some (.v (.bool b')):=by rfl)(hb:b'=true:=by first|rfl|(with_reducible assumption)|assumption|exact decide_eq_true zE|exact SX.ajR (by first|(with_reducible assumption)|assumption|exact decide_eq_false zE)):Reg P C ops (⟨dst,op,ty,pos,af,some (j,true)⟩::rest) st acc K:=
 Reg.goT ht hv hb h
theorem R.runF{j u:Nat}{b':Bool}(h:Go1 P C ops dst op ty rest st acc K)(ht:(ops[j]?).bind (·.dst)=some u:=by rfl)(hv:st.tm u=some (.v (.bool b')):=by rfl)(hb:b'=false:=by first|rfl|(with_reducible assumption)|assumption|exact decide_eq_false zE|exact SX.ai1 (by first|(with_reducible assumption)|assumption|exact decide_eq_true zE)):Reg P C ops (⟨dst,op,ty,pos,af,some (j,false)⟩::rest) st acc K:=
 Reg.goT ht hv hb h
theorem R.aiE{j u:Nat}{b':Bool}(h:Reg P C ops rest (st.put dst (some (.v undef))) (([],[])::acc) K)(ht:(ops[j]?).bind (·.dst)=some u:=by rfl)(hv:st.tm u=some (.v (.bool b')):=by rfl)(hb:b'=false:=by first|rfl|(with_reducible assumption)|assumption|exact decide_eq_false zE|exact SX.ai1 (by first|(with_reducible assumption)|assumption|exact decide_eq_true zE)):Reg P C ops (⟨dst,op,ty,pos,af,some (j,true)⟩::rest) st acc K:=
 Reg.goF ht hv hb h
theorem R.ajS{j u:Nat}{b':Bool}(h:Reg P C ops rest (st.put dst (some (.v undef))) (([],[])::acc) K)(ht:(ops[j]?).bind (·.dst)=some u:=by rfl)(hv:st.tm u=some (.v (.bool b')):=by rfl)(hb:b'=true:=by first|rfl|(with_reducible assumption)|assumption|exact decide_eq_true zE|exact SX.ajR (by first|(with_reducible assumption)|assumption|exact decide_eq_false zE)):Reg P C ops (⟨dst,op,ty,pos,af,some (j,false)⟩::rest) st acc K:=
 Reg.goF ht hv hb h
theorem R.acN{j u:Nat}{b:Bool}(h:Reg P C ops rest (st.put dst (some (.v undef))) (([],[])::acc) K)(ht:(ops[j]?).bind (·.dst)=some u:=by rfl)(hv:st.tm u=some (.v undef):=by rfl):Reg P C ops (⟨dst,op,ty,pos,af,some (j,b)⟩::rest) st acc K:=
 Reg.goU ht hv h
theorem W.akg{c:Operand}{a e:Code}{b':Bool}(h:WP P C a st Q)(hc:st.ev c=some (.v (.bool b')):=by rfl)(hb:b'=true:=by first|rfl|(with_reducible assumption)|assumption|exact decide_eq_true zE|exact SX.ajR (by first|(with_reducible assumption)|assumption|exact decide_eq_false zE)):WP P C (.cond c a e) st Q:=
 WP.aoX hc hb h
theorem W.abz{c:Operand}{a e:Code}{b':Bool}(h:WP P C e st Q)(hc:st.ev c=some (.v (.bool b')):=by rfl)(hb:b'=false:=by first|rfl|(with_reducible assumption)|assumption|exact decide_eq_false zE|exact SX.ai1 (by first|(with_reducible assumption)|assumption|exact decide_eq_true zE)):WP P C (.cond c a e) st Q:=
 WP.ap8 hc hb h
theorem W.ite{c:Operand}{a e:Code}{p:Prop}[Decidable p](h1:p->WP P C a st Q)(h2:¬p->WP P C e st Q)(hc:st.ev c=some (.v (.bool (decide p))):=by rfl):WP P C (.cond c a e) st Q:=
 WP.cond hc (fun h=>h1 (of_decide_eq_true h)) (fun h=>h2 (of_decide_eq_false h))
theorem W.gq{c:Operand}{a e:Code}{b:Bool}(h1:b=true->WP P C a st Q)(h2:b=false->WP P C e st Q)(hc:st.ev c=some (.v (.bool b)):=by rfl):WP P C (.cond c a e) st Q:=
 WP.cond hc h1 h2
theorem R.aiU{c:Operand}{b':Bool}{r:AV}(next:Reg P C ops rest (st.app dst ⟨r,[]⟩) (([],[])::acc) K)(hd:aC dst C.nt=true:=by rfl)(hc:st.ev c=some (.v (.bool b')):=by rfl)(ht:b'=true:=by first|rfl|(with_reducible assumption)|assumption|exact decide_eq_true zE|exact SX.ajR (by first|(with_reducible assumption)|assumption|exact decide_eq_false zE))(hx:st.ev x=some r:=by rfl):Go1 P C ops dst (.pick c x y) ty rest st acc K:=
 Go1.agT hd hc ht hx next
theorem R.ajo{c:Operand}{b':Bool}{r:AV}(next:Reg P C ops rest (st.app dst ⟨r,[]⟩) (([],[])::acc) K)(hd:aC dst C.nt=true:=by rfl)(hc:st.ev c=some (.v (.bool b')):=by rfl)(ht:b'=false:=by first|rfl|(with_reducible assumption)|assumption|exact decide_eq_false zE|exact SX.ai1 (by first|(with_reducible assumption)|assumption|exact decide_eq_true zE))(hx:st.ev y=some r:=by rfl):Go1 P C ops dst (.pick c x y) ty rest st acc K:=
 Go1.ahN hd hc ht hx next
abbrev str(l:List UInt8):Value:= .string ⟨⟨l⟩⟩
def byt(l:List UInt8)(i:Nat):UInt8:=l.getD i 0
theorem zo(l:List UInt8)(a b:Nat):(⟨⟨l⟩⟩:ByteArray).extract a b=⟨⟨(l.drop a).take (b - a)⟩⟩:=by
 apply ByteArray.ext
 rw[ByteArray.data_extract];apply Array.ext'
 simp[Array.toList_extract,List.extract_eq_take_drop]
theorem G.lenT{l:List UInt8}[ht:aaL P t](next:Reg P C ops rest (st.app dst ⟨.v (.int .i64 ((l.length:Nat):Int)),[]⟩) (([],[])::acc) K)(hd:aC dst C.nt=true:=by rfl)(hx:st.ev x=some (.v (str l)):=by rfl):Go1 P C ops dst (.call ⟨.builtin .len,#[x],#[t]⟩) ty rest st acc K:=
 Go1.aq4 hd hx next
theorem G.vQ{l:List UInt8}{j:Nat}[ht:aaL P t](next:Reg P C ops rest (st.app dst ⟨.v (str (l.take j)),[]⟩) (([],[])::acc) K)(hd:aC dst C.nt=true:=by rfl)(hx:st.ev x=some (.v (str l)):=by rfl)(hy:st.ev y=some (.v (.int k zj)):=by rfl)(hy0:zj=(j:Int):=by first|with_reducible rfl|exact SX.jE _|rfl)(h1:j<=l.length:=by omega):Go1 P C ops dst (.slice t x none (some y) none) ty rest st acc K:=
 Go1.sI hd hx (evz hy hy0) zE (by show (j:Int)<=((l.length:Nat):Int);omega) (by rw[zw8,zo,List.drop_zero,Nat.sub_zero];exact next)
theorem G.wW{l:List UInt8}{j:Nat}[ht:aaL P t](next:Reg P C ops rest (st.app dst ⟨.v (str (l.drop j)),[]⟩) (([],[])::acc) K)(hd:aC dst C.nt=true:=by rfl)(hx:st.ev x=some (.v (str l)):=by rfl)(hy:st.ev y=some (.v (.int k zj)):=by rfl)(hy0:zj=(j:Int):=by first|with_reducible rfl|exact SX.jE _|rfl)(h1:j<=l.length:=by omega):Go1 P C ops dst (.slice t x (some y) none none) ty rest st acc K:=
 Go1.rY hd hx (evz hy hy0) zE (by show (j:Int)<=((l.length:Nat):Int);omega) (by rw[zw8,zo];rw[show (⟨⟨l⟩⟩:ByteArray).size - j=(l.drop j).length by rw[zxe];rfl,zy8];exact next)
theorem G.adF{l:List UInt8}{i:Nat}[ht:aaL P t](next:Reg P C ops rest (st.app dst ⟨.v (.int .u8 ((byt l i).toNat:Int)),[]⟩) (([],[])::acc) K)(hd:aC dst C.nt=true:=by rfl)(hx:st.ev x=some (.v (str l)):=by rfl)(hy:st.ev y=some (.v (.int k zi)):=by rfl)(hy0:zi=(i:Int):=by first|with_reducible rfl|exact SX.jE _|rfl)(hi:i < l.length:=by omega):Go1 P C ops dst (.index t x y) ty rest st acc K:=
 Go1.abr hd hx (evz hy hy0) zE (b:=byt l i) (by
  rw[zw8];unfold byt;show (⟨⟨l⟩⟩:ByteArray)[i]? =_;rw[getElem?_pos _ i (by exact hi)]
  simp[zx7,hi];rfl) next
theorem G.eqlT{l m:List UInt8}(next:Reg P C ops rest (st.app dst ⟨.v (.bool (decide (l=m))),[]⟩) (([],[])::acc) K)(hd:aC dst C.nt=true:=by rfl)(hx:st.ev x=some (.v (str l)):=by rfl)(hy:st.ev y=some (.v (str m)):=by rfl):Go1 P C ops dst (.binOp .eql t x y t') ty rest st acc K:=
 Go1.eqlS hd hx hy (by
  have:((⟨⟨l⟩⟩:ByteArray).toList==(⟨⟨m⟩⟩:ByteArray).toList)=decide (l=m):=by
   rw[ByteArray.toList_eq,ByteArray.toList_eq];rw[zyc];simp
  rw[this];exact next)
theorem G.neqT{l m:List UInt8}(next:Reg P C ops rest (st.app dst ⟨.v (.bool (!decide (l=m))),[]⟩) (([],[])::acc) K)(hd:aC dst C.nt=true:=by rfl)(hx:st.ev x=some (.v (str l)):=by rfl)(hy:st.ev y=some (.v (str m)):=by rfl):Go1 P C ops dst (.binOp .neq t x y t') ty rest st acc K:=
 Go1.neqS hd hx hy (by
  have:((⟨⟨l⟩⟩:ByteArray).toList==(⟨⟨m⟩⟩:ByteArray).toList)=decide (l=m):=by
   rw[ByteArray.toList_eq,ByteArray.toList_eq];rw[zyc];simp
  rw[this];exact next)
end
end

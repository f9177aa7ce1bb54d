import Derived.Test.YtcamgbgfelmbaaaGreatDoorO0
import Derived.Laws.OwnMore
import Derived.Laws.AppendOwnNone
set_option linter.all false
def yW{p:Prop}(h:p:=by kernel_rfl):p:=h
namespace SX
open Go Go.RowKit
variable{r:SX.AV}{x' y y':SX.AV0}{a1 a2 a3 a4:SX.Atom}{b':Bool}{c1 c2 c3:SX.CA}{C:SX.Ctx}{E E':SX.Env}{f:Go.FuncId}{i z':Int}{ao:List SX.AV}{ag cells' cells2:List SX.CA}{ps:List Nat}{l:List UInt8}{zs:List Go.Value}{am b bytes h j k m nt off size sz u:Nat}{S:Nat->Prop}{P:Go.Program}{st:SX.St}{T e t ty':Go.TypeId}{v:Go.Value}{w:Go.World}
section
section
variable{P:Program}
def aV:List Atom->Option (List CA)
 |[]=>some []
 | .c a::l=>match aV l with|some m=>some (a::m)|none=>none
 |_::_=>none
def dU:∀{l:List Atom} {m:List CA},aV l=some m->l=m.map Atom.c
 |[],m,h=>by simp[aV]at h;subst h;rfl
 | .c a::l,m,h=>by
  unfold aV at h;cases hl:aV l with
  |none=>simp[hl]at h
  |some m'=>simp[hl]at h;subst h;simp[dU hl]
 | .ptr _ _::_,_,h=>by simp[aV]at h
 | .own _::_,_,h=>by simp[aV]at h
 | .rptr _ _::_,_,h=>by simp[aV]at h
 | .clo _ _::_,_,h=>by simp[aV]at h
 | .bnd _ _::_,_,h=>by simp[aV]at h
 | .rel _ _::_,_,h=>by simp[aV]at h
def jq{E:Env}{S:Nat->Prop}{w:World}:∀{m:List CA} {vs:List Value},aM (Atom.has E S w) (m.map Atom.c) vs->aM (CA.has S w) m vs
 |[],[],_=>trivial
 |_::_,_::_,h=>⟨h.1,jq h.2⟩
 |[],_::_,h=>h.elim
 |_::_,[],h=>h.elim
def afw{E:Env}{S:Nat->Prop}{w:World}:∀{m:List CA} {vs:List Value},aM (CA.has S w) m vs->aM (Atom.has E S w) (m.map Atom.c) vs
 |[],[],_=>trivial
 |_::_,_::_,h=>⟨h.1,afw h.2⟩
 |[],_::_,h=>h.elim
 |_::_,[],h=>h.elim
def CA.dN:CA->Bool
 | .val v=>v.oneCell'
 | .sat _=>true
def aqn{S:Nat->Prop}{w:World}:∀{m:List CA} {vs:List Value},aM (CA.has S w) m vs->m.all CA.dN=true->∀u∈vs,u.oneCell'=true
 |[],[],_,_,u,hu=>by simp at hu
 |a::m,v::vs,h,h1,u,hu=>by
  simp only[List.all_cons,zx4]at h1;rcases zy3.1 hu with rfl|hu
  ·cases a with
   |val x=>rw[show u=x from h.1];exact h1.1
   |sat r=>exact r.one h.1
  ·exact aqn h.2 h1.2 u hu
 |[],_::_,h,_,_,_=>h.elim
 |_::_,[],h,_,_,_=>h.elim
def adC(w:World)(t ty e:TypeId)(i:TypeInfo)(z:Value)(size bytes:Nat)(ht:P.underlying t=some (.slice e))(hi:P.info? e=some i)(hz:i.zero=some z)
  (hsize:i.size=size) (hby:i.bytes=bytes) (hzs:z.cells.size=size)
  (v:Value) (n:Nat) (xs:List Value) (hown:w.ownsRow 0 e size v n xs)
  (a:Addr) (m c:Nat) (news:List Value) (hl:news.length=m*size) (hnews:∀j u,news[j]? =some u->w.cell? (a.add j)=some u) (h1:∀u∈news,u.oneCell'=true)
  (h63:n+m<=maxLen) (hbytes:(n+m)*bytes<=140737488355328):
  ∃v' w',(Builtin.append_ #[t,t] ty #[v,.slice (some a) m c]).run P w= .ok v' w'/\w'.ownsRow 0 e size v' (n+m) (xs++news)/\w.grownBy w' v.ownBlock/\∀k,v'.ownBlock=some k->v.ownBlock=some k\/w.heap.size<=k:=by
 subst hsize hby;have hsmall:n+m<=9223372036854775807:=by simp only[maxLen]at h63;omega
 have hlen:(xs++news).length=(n+m)*i.size:=by rw[zqi,hown.1,hl,zy5]
 have grown:∀(old:Nat),old < n+m->∀(row:Option Nat),
   (w.drew.alloc (.cells (xs.toArray++news.toArray++Builtin.zeroCells z.cells (grownCap w (n+m) old e - (n+m))) e)).ownsRow 0 e i.size
    (.slice (some ⟨w.heap.size,0,none⟩) (n+m) (grownCap w (n+m) old e)) (n+m) (xs++news)/\
   w.grownBy (w.drew.alloc (.cells (xs.toArray++news.toArray++Builtin.zeroCells z.cells (grownCap w (n+m) old e - (n+m))) e)) row:=by
  intro old ho row;have hge:=grownCap_ge w (n+m) old e;have hcm:grownCap w (n+m) old e<=maxLen:=grownCap_le_maxLen w (n+m) old e h63;refine⟨⟨hlen,.inr ⟨w.heap.size,_,_,rfl,zq8 _,heap_alloc_new w.drew _,hge,hcm,?_,?_⟩⟩,⟨rfl,rfl,rfl,by simp,fun k hk _=>Below.heap_alloc w.drew _ k hk⟩⟩
  ·simp only[Array.size_append,List.size_toArray,size_zeroCells,hzs,hown.1,hl,<-zy5]
   congr 1
   omega
  ·simp only[Array.toList_append,zqj];rw[<-zqj,<-hlen];exact List.take_left
 rcases hown.2 with⟨rfl,rfl⟩|⟨g,am,cur,rfl,_,hg,hnc,hcm,hcs,htake⟩
 ·have hx:xs=[]:=zx5 (by simpa using hown.1)
  subst hx;by_cases hm:m=0
  ·subst hm;have hn:news=[]:=zx5 (by simpa using hl)
   subst hn;refine⟨.slice none 0 0,w,?_,World.ownsRow_nil w 0 e i.size,⟨rfl,rfl,rfl,zq6 _,fun _ _ _=>rfl⟩,fun k hk=>by simp[Value.ownBlock]at hk⟩
   simp[Builtin.append_,run_underlying ht,Go.sizeOf,typeInfo,hi,Builtin.lenOf,Builtin.firstCells,loadCells,loadCellsFrom]
  ·have hr:=run_append_nil (P:=P) w t ty e i z ht hi hz a m c news hl hnews zE zE (by have hb:=hbytes;simp only[zv7]at hb;omega)
   have hgr:=grown 0 zE (Value.ownBlock (.slice none 0 0))
   simp only[zv7,zvd,Array.empty_append]at hgr ⊢;exact⟨_,_,hr,hgr.1,hgr.2,fun k hk=> .inr (by simp[Value.ownBlock]at hk;omega)⟩
 ·by_cases hroom:n+m<=am
  ·have hfit:n*i.size+news.length<=cur.size:=by rw[hl,hcs,<-zy5];exact zx1 _ hroom
   have hr:=run_append_room (P:=P) w t ty e i ht hi g n am cur hg a m c news hl hnews h1 hroom hfit;refine⟨_,_,hr,⟨hlen,.inr ⟨g,am,_,rfl,zq8 _,setRow_heap w g cur _ e _ hg,hroom,hcm,?_,?_⟩⟩,⟨rfl,rfl,rfl,by simp,fun k _ hk=>setRow_other w g k _ (fun e=>hk (by simp[Value.ownBlock,e]))⟩,fun k hk=> .inl hk⟩
   ·simp only[List.size_toArray,zqi,zx3,zxe,zw6];omega
   ·rw[htake,<-hlen];exact List.take_left
  ·have holds:∀j u,xs[j]? =some u->w.cell? ((⟨g,0,none⟩:Addr).add j)=some u:=hown.cells (g:=g) rfl;have hr:=run_append_grow (P:=P) w t ty e i z ht hi hz ⟨g,0,none⟩ n am xs hown.1 holds a m c news hl hnews zE zE (growslice_fits zE hbytes)
   have hgr:=grown am zE (Value.ownBlock (.slice (some ⟨g,0,none⟩) n am))
   exact⟨_,_,hr,hgr.1,hgr.2,fun k hk=> .inr (by simp[Value.ownBlock]at hk;omega)⟩
end
end
section
section
variable{P:Program}
def nS{w':World}{row:Option Nat}(h:w.grownBy w' row)(hr:∀k,row=some k->S k):Off S w w':=
 ⟨h.os,h.tape,h.output,h.size,fun k hk hn=>h.block k hk (fun e=>hn (hr k e.symm))⟩
def Eff.row{E:Env}{S:Nat->Prop}{w w':World}{b:Nat}{T:TypeId}{size n:Nat}{ag:List CA}{vs:List Value}{v:Value}{pre:List (Nat×Ent)}{gones:List (Nat×Slot)}
  (hl:∀k,S k->k < w.heap.size) (hS:∀c e k,(c,e)∈pre->e.at E c k->S k) (hnot:∀e,(b,e)∉pre) (hg:∀c s,(c,s)∈gones->s= .gone/\∃e,(c,e)∈pre)
  (ho:Off (fun k=>∃c e,(c,e)∈pre/\e.at E c k) w w') (hown:w'.ownsRow 0 T size v n vs) (hcs:aM (CA.has S w) ag vs)
  (hb:∀k,v.ownBlock=some k->(∃c e,(c,e)∈pre/\e.at E c k)\/w.heap.size<=k):
  Eff E S w pre ⟨.own b,gones++[(b,.ent (.row T size n ag))]⟩ v w' ⟨E.blk,upd E.sl b v,E.fp⟩ (fun k=>S k\/v.ownBlock=some k):=by
 have hone:v.oneCell'=true:=by
  rcases hown.2 with⟨rfl,_⟩|⟨_,_,_,rfl,_⟩ <;> rfl
 have hSS:∀k,(S k\/v.ownBlock=some k)->S k\/w.heap.size<=k:=fun k hk=>hk.elim .inl fun hk=>(hb k hk).imp (fun⟨c,e,h1,h2⟩=>hS c e k h1 h2) id
 have hoS:Off S w w':=ho.mono fun k ⟨c,e,h1,h2⟩=>hS c e k h1 h2
 have hent:∀i e,(i,Slot.ent e)∈gones++[(b,Slot.ent (Ent.row T size n ag))]->i=b/\e= .row T size n ag:=by
  intro i e hi;rcases zyg.1 hi with hi|hi
  ·have:=(hg _ _ hi).1;cases this
  ·simp at hi;exact hi
 refine
  {env:=fun i hi=>?_,fpe:=fun _ _=>rfl,sub:=fun k hk=> .inl hk,new:=hSS,lt:=fun k hk=>?_,off:=ho,res:=⟨by show v=upd E.sl b v b;rw[upd_same],hone⟩,
   ents:=fun i e hi=>?_,blk:=fun i e k hi hk=>?_,sep:=fun i i' e e' k hne h1 h2=>?_}
 ·by_cases e:i=b
  ·subst e;obtain⟨e,he⟩:=hi ⟨_,by simp;exact .inr rfl⟩
   exact absurd he (hnot e)
  ·exact⟨rfl,upd_ne _ _ e⟩
 ·rcases hk with hk|hk
  ·exact zqf (hl k hk) ho.size
  ·exact(hown.lt k hk).2
 ·obtain⟨rfl,rfl⟩:=hent i e hi;refine⟨vs,?_,hcs.mono fun a u _ hau=>hau.step hoS hSS⟩
  show w'.ownsRow 0 T size (upd E.sl i v i) n vs;rw[upd_same];exact hown
 ·obtain⟨rfl,rfl⟩:=hent i e hi;have hk':v.ownBlock=some k:=by
   have:(upd E.sl i v i).ownBlock=some k:=hk
   rwa [upd_same]at this
  exact⟨.inr hk',hb k hk'⟩
 ·exact absurd ((hent i e h1).1.trans (hent i' e' h2).1.symm) hne
end
section
variable{P:Program}{C:Ctx}{st:St}
variable{ae aa:List Oper}{ab:List (List Nat×List Nat)}{K:List (List Nat×List Nat)->St->Prop}{d:Tmp}{op:Op}{ty t:TypeId}{x y:Operand}
def aT.newRow{o:Oper}{d:Tmp}{n:Nat}(hdst:o.dst=some d)(hd:aC (some d) C.nt=true)(hf:st.hp d= .free)(rd:List (Nat×Ent))(hrd:∀b e,(b,e)∈rd->st.hp b= .ent e)(h:∀st' E S a w,(∀x∈o.op.operands,st'.ev x=st.ev x)->nZ C st' E S a w->(∀b e,(b,e)∈rd->st'.hp b= .ent e)->
   ∃v w' vs,(execOp a.eval o).run P w= .ok (.value v) w'/\w'.ownsRow 0 T size v n vs/\Off none' w w'/\(∀k,v.ownBlock=some k->w.heap.size<=k)/\aM (CA.has S w) ag vs):
  aT P C o st (d::rd.map (·.1)) ⟨.own d,[(d,.ent (.row T size n ag))]⟩:=by
 refine aT.eff rd [] (fun b hb=>?_) (hdst▸dP hd) hrd (fun b e hb=>by cases hb) (fun b s hb=>?_) (fun b s hb=>?_) (fun st' E S a w hev hhp hs hrd' _=>?_)
 ·rcases hb with⟨e,hb⟩|⟨e,hb⟩|⟨s,hb⟩
  ·exact zy2 _ (zqg.2 ⟨_,hb,rfl⟩)
  ·cases hb
  ·simp at hb;simp[hb.1]
 ·simp at hb;rw[hb.1];exact .inr hf
 ·simp at hb;rw[hb.2];rfl
 ·obtain⟨v,w',vs,hr,hown,ho,hb,hall⟩:=h st' E S a w hev hs hrd';refine⟨⟨fun i hi=>?_,fun b e hb i hi=>?_⟩,fun K Q hK=>?_⟩
  ·simp[AV.ids,AV0.ids,Atom.ids]at hi;subst hi;simp[fH,Slot.used]
  ·simp at hb
   obtain⟨rfl,rfl⟩:=hb;cases hi
  ·have hE:=Eff.row (E:=E) (S:=S) (b:=d) (pre:=[]) (gones:=[]) hs.lt (fun c e k h=>by cases h) (fun e h=>by cases h) (fun c s h=>by cases h) (ho.mono fun k hk=>hk.elim) hown hall (fun k hk=> .inr (hb k hk))
   unfold Oper.wp;rw[hr];exact hK _ _ _ _ hE
def ru(h:eZ P e zs bytes)(hs:(P.info? e).map (·.size)=some size):∃i z,P.info? e=some i/\i.zero=some z/\z.cells=zs.toArray/\i.size=size/\i.bytes=bytes:=by
 obtain⟨i,hi,hn⟩:=zya.1 h.h;obtain⟨i',hi',hs'⟩:=zya.1 hs;rw[hi]at hi';cases hi';simp only[Prod.mk.injEq]at hn;obtain⟨z,hz,hc⟩:=zya.1 hn.1;exact⟨i,z,hi,hz,hc,hs',hn.2⟩
def uR{S:Nat->Prop}{w:World}(z:Value):∀n:Nat,aM (CA.has S w) (List.replicate n (CA.val z)) (List.replicate n z)
 |0=>trivial
 |n+1=>⟨rfl,uR z n⟩
def Go1.make{n:Nat}{k k':IntKind}{z:Value}[ht:bF P t e 1][he:eZ P e [z] bytes](hd:aC (some d) C.nt=true)(hx:st.ev x=some (.v (.int k (n:Int))))(hy:st.ev y=some (.v (.int k' (n:Int))))(hf:st.hp d= .free)(hb:n*bytes<=140737488355328)(hm:n<=9223372036854775807)(ai:Reg P C ae aa (st.app (some d) ⟨.own d,[(d,.ent (.row e 1 n (List.replicate n (.val z))))]⟩) (([d],[d])::ab) K):Go1 P C ae (some d) (.makeSlice t x y) ty aa st ab K:=
 ⟨[d],⟨.own d,[(d,.ent (.row e 1 n (List.replicate n (.val z))))]⟩,fun o h2 h3 h4=>aT.newRow h2 hd hf [] (fun b e hb=>by cases hb) (fun st' E S a w hev hs _=>by
  have hxv:a.eval x= .int k (n:Int):=(hs.ev ((hev x (by simp[h3,Op.operands])).trans hx)).1
  have hyv:a.eval y= .int k' (n:Int):=(hs.ev ((hev y (by simp[h3,Op.operands])).trans hy)).1
  obtain⟨i,z',hi,hz,hc,hsz,hby⟩:=ru he ht.s;obtain⟨w',hrun,hown,hgr⟩:=run_make_full (P:=P) w 0 t e i z' 1 ht.h hi hz hsz k k' n (by rw[hby,zxj];omega) (by simp[maxLen];omega) (zq8 _)
  refine⟨.slice (some ⟨w.heap.size,0,none⟩) n n,w',List.replicate n z,?_,?_,nS hgr (fun k hk=>by cases hk),fun k hk=>by simp[Value.ownBlock]at hk;omega,uR z n⟩
  ·unfold execOp;rw[h3];simp[hxv,hyv,hrun]
  ·have hl:(madeCells z'.cells (n*1)).toList=List.replicate n z:=by rw[hc];show (madeCells #[z] (n*1)).toList=_;rw[toList_madeCells_one,Nat.mul_one]
   rw[<-hl];exact hown),ai⟩
def rU{p p':Nat->Option (Nat×Nat)}:∀(l:List (Nat×Value)) (cs:Array Value),(∀q∈l,p q.1=p' q.1)->Instr.fill p cs l=Instr.fill p' cs l
 |[],_,_=>rfl
 |(i,v)::l,cs,h=>by
  unfold Instr.fill;rw[h (i,v) zp]
  cases hp:p' i with
  |none=>rfl
  |some q=>
   obtain⟨off,size⟩:=q;simp only[]
   split
   ·rfl
   ·exact rU l _ (fun q hq=>h q (by simp[hq]))
def placesOf(n size:Nat):List (Nat×Nat):=(List.range n).map fun i=>(i*size,size)
def run_parts{o:Oper}{st':St}{a:Act}{n:Nat}{parts:Array (Nat×Operand)}{ps:List (Nat×AV0)}{l:List Atom}{m:List CA}[ht:bF P t e size][he:eZ P e zs bytes](hs:nZ C st' E S a w)(h3:o.op= .buildSlice t n parts)(hp':evp st' parts.toList=some ps)(h1:(ps.all fun p=>p.2.cells.all Atom.dN&&Nat.blt p.1 n)=true)(hn:Nat.ble (n*size) 16777216=true)(hfl:gq (placesOf n size) ((madeCells zs.toArray (n*size)).toList.map fun v=>Atom.c (.val v)) ps=some l)(hc:aV l=some m)(hm:Nat.beq m.length (n*size)=true):
  ∃us:List Value,(execOp a.eval o).run P w= .ok (.value (.slice (some ⟨w.heap.size,0,none⟩) n n)) (w.alloc (.cells us.toArray e))/\us.length=n*size/\aM (CA.has S w) m us/\n<=maxLen:=by
  obtain⟨hall,hids⟩:=zD hs hp';obtain⟨i,z,hi,hz,hcz,hsz,hby⟩:=ru he ht.s;rw[zqh]at h1;rw[zva]at hn;obtain⟨us,hfill,hus⟩:=u7 (w:=w) (cs:=(madeCells zs.toArray (n*size)).toList) hall (fun p hp=>by have:=h1 p hp;simp only[zx4]at this;exact this.1) (lG _) hfl
  have hlen:us.length=n*size:=by
   have h6:=hus.length;rw[dU hc]at h6;simp at h6
   have:=Nat.eq_of_beq_eq_true hm;omega
  have hqi:∀q∈parts.toList.map (fun x=>(x.1,a.eval x.2)),(fun i=>(placesOf n size)[i]?) q.1=(fun i=>some (i*size,size)) q.1:=by
   intro q hq;obtain⟨j,hj⟩:=List.mem_iff_getElem?.1 hq;obtain⟨p,hpj,hpq,_⟩:=hall.get' hj;have:=h1 p (zq4 hpj);simp only[zx4,Nat.blt_eq]at this;have hlt:q.1 < n:=by rw[<-hpq];exact this.2
   simp[placesOf,hlt]
  rw[rU (p:=fun i=>(placesOf n size)[i]?) (p':=fun i=>some (i*size,size)) _ _ hqi]at hfill
  refine⟨us,?_,hlen,jq (by rw[<-dU hc];exact hus),?_⟩
  ·unfold execOp;rw[h3];have hparts:(parts.map fun x=>(x.1,a.eval x.2)).toList=parts.toList.map fun x=>(x.1,a.eval x.2):=by simp
   have hgt:¬n*size > 2 ^ 24:=zE
   simp only[Instr.buildSlice,Sem.run_bind,run_underlying ht.h,Result.andThen_ok,run_sizeOf ht.s,hparts];rw[if_neg hgt];by_cases h0:n*size=0
   ·have he0:(madeCells zs.toArray (n*size)).toList.toArray=(Array.range (n*size)).map ((#[]:Array Value)[· % (#[]:Array Value).size]!):=by rw[h0];simp[madeCells]
    rw[he0]at hfill;rw[if_pos h0];simp only[Sem.run_bind,Sem.run_pure,Result.andThen_ok];rw[hfill];simp[newRow]
   ·have he0:(madeCells zs.toArray (n*size)).toList.toArray=(Array.range (n*size)).map (zs.toArray[· % zs.toArray.size]!):=by rw[Array.toArray_toList];rfl
    rw[he0]at hfill;rw[if_neg h0];simp only[Sem.run_bind,Sem.run_pure,Result.andThen_ok,zeroValue,typeInfo,run_program,hi,hz,hcz];rw[hfill];simp[newRow]
  ·by_cases h0:n=0
   ·subst h0;simp[maxLen]
   ·have:=ht.p;have h7:n*1<=n*size:=zx8 _ this;simp only[maxLen];omega
def Go1.buildSlice{e:TypeId}{n size bytes:Nat}{zs:List Value}{parts:Array (Nat×Operand)}{ps:List (Nat×AV0)}{l:List Atom}{m:List CA}[ht:bF P t e size][he:eZ P e zs bytes](hd:aC (some d) C.nt=true)(hf:st.hp d= .free)
  (hp:evp st parts.toList=some ps) (h1:(ps.all fun p=>p.2.cells.all Atom.dN&&Nat.blt p.1 n)=true) (hn:Nat.ble (n*size) 16777216=true)
  (hfl:gq (placesOf n size) ((madeCells zs.toArray (n*size)).toList.map fun v=>Atom.c (.val v)) ps=some l) (hc:aV l=some m) (hm:Nat.beq m.length (n*size)=true)
  (ai:Reg P C ae aa (st.app (some d) ⟨.own d,[(d,.ent (.row e size n m))]⟩) (([d],[d])::ab) K):Go1 P C ae (some d) (.buildSlice t n parts) ty aa st ab K:=
 ⟨[d],⟨.own d,[(d,.ent (.row e size n m))]⟩,fun o h2 h3 h4=>aT.newRow h2 hd hf [] (fun b e hb=>by cases hb) (fun st' E S a w hev hs _=>by
  have hp':evp st' parts.toList=some ps:=by
   rw[nU (fun x hx=>hev x.2 (by rw[h3];simp[Op.operands];exact⟨x.1,by simpa using hx⟩))];exact hp
  obtain⟨us,hrun,hlen,hall,hmx⟩:=run_parts (ht:=ht) (he:=he) hs h3 hp' h1 hn hfl hc hm;exact⟨_,_,us,hrun,⟨hlen,.inr ⟨w.heap.size,n,us.toArray,rfl,zq8 _,heap_alloc_new w _,zq6 _,hmx,by simp[hlen],by simp[zxc (Nat.le_of_eq hlen)]⟩⟩,Off.alloc _ _ _,fun k hk=>by simp[Value.ownBlock]at hk;omega,hall⟩),ai⟩
def Go1.uL{an:Option Tmp}{n:Nat}{parts:Array (Nat×Operand)}{ps:List (Nat×AV0)}{l:List Atom}{m:List CA}[ht:bF P t e size][he:eZ P e zs bytes](hd:aC an C.nt=true)(hp:evp st parts.toList=some ps)(h1:(ps.all fun p=>p.2.cells.all Atom.dN&&Nat.blt p.1 n)=true)(hn:Nat.ble (n*size) 16777216=true)(hfl:gq (placesOf n size) ((madeCells zs.toArray (n*size)).toList.map fun v=>Atom.c (.val v)) ps=some l)(hc:aV l=some m)(hm:Nat.beq m.length (n*size)=true)(ai:Reg P C ae aa (st.app an ⟨.r (aP size n m),[]⟩) (([],[])::ab) K):Go1 P C ae an (.buildSlice t n parts) ty aa st ab K:=by
 refine⟨[],⟨.r (aP size n m),[]⟩,fun o h2 h3 h4=>aT.eff [] [] (fun b hb=>?_) (h2▸dP hd) (fun b e hb=>by cases hb) (fun b e hb=>by cases hb) (fun b s hb=>by cases hb) (fun b s hb=>by cases hb) (fun st' E S a w hev hhp hs _ _=>?_),ai⟩
 ·rcases hb with⟨e,hb⟩|⟨e,hb⟩|⟨s,hb⟩ <;> cases hb
 ·have hp':evp st' parts.toList=some ps:=by
   rw[nU (fun x hx=>hev x.2 (by rw[h3];simp[Op.operands];exact⟨x.1,by simpa using hx⟩))];exact hp
  obtain⟨us,hrun,hlen,hall,hmx⟩:=run_parts (ht:=ht) (he:=he) hs h3 hp' h1 hn hfl hc hm;refine⟨⟨fun i hi=>(by cases hi),fun b e hb=>by cases hb⟩,fun K Q hK=>?_⟩
  unfold Oper.wp;rw[hrun];refine hK _ _ E S {env:=fun _ _=>⟨rfl,rfl⟩,fpe:=fun _ _=>rfl,sub:=fun _ h=>h,new:=fun _ h=> .inl h,lt:=fun k hk=>zqf (hs.lt k hk) zp,off:=Off.alloc _ _ _,res:=?_,ents:=fun _ _ h=>(by cases h),blk:=fun _ _ _ h=>(by cases h),sep:=fun _ _ _ _ _ _ h=>(by cases h)}
  refine bQ.2 ⟨_,_,rfl,zq6 _,hmx,(fun h=>by cases h),(by rw[hall.length,hlen]),fun i c hc=>?_⟩
  obtain⟨u,hu,huc⟩:=hall.get hc;refine⟨w.heap.size,0,u,rfl,fun hS=>absurd (hs.lt _ hS) (Nat.lt_irrefl _),?_,huc.step (Off.alloc _ _ _) (fun k hk=> .inl hk)⟩
  have hcell:=cells_of_block (heap_alloc_new w (.cells us.toArray e)) 0 i u (by simpa using hu)
  simpa[Addr.add_lit]using hcell
end
end
section
section
variable{P:Program}{C:Ctx}{st:St}
variable{ae aa:List Oper}{ab:List (List Nat×List Nat)}{K:List (List Nat×List Nat)->St->Prop}{an:Option Tmp}{op:Op}{ty:TypeId}
variable{x y:Operand}{t t':TypeId}{k k':IntKind}{m n:Int}
end
def lk{α:Type}:List (Nat×α)->Nat->Option α
 |[],_=>none
 |(j,v)::l,k=>match Nat.beq j k with|true=>some v|false=>lk l k
def ag8{α:Type}:∀{l:List (Nat×α)} {k:Nat} {v:α},lk l k=some v->(k,v)∈l
 |[],_,_,h=>by cases h
 |(j,u)::l,k,v,h=>by
  unfold lk at h;cases hj:Nat.beq j k with
  |true=>
       simp only[hj]at h;have:j=k:=by simpa using hj
       subst this;cases h;exact zq9
  |false=>simp only[hj]at h;exact zy2 _ (ag8 h)
def amy{α:Type}:∀{l:List (Nat×α)} {k:Nat},(lk l k).isSome=true->k∈l.map (·.1)
 |[],_,h=>by cases h
 |(j,u)::l,k,h=>by
  unfold lk at h;cases hj:Nat.beq j k with
  |true=>
       have:j=k:=by simpa using hj
       subst this;exact zq9
  |false=>simp only[hj]at h;exact zy2 _ (amy h)
def dB{α β γ:Type}{pre:List (Nat×α)}{ρ:List (Nat×β)}{m:List (Nat×γ)}(h:(lk pre b).isSome=true)(hall:((pre.map (·.1)).all fun b=>(lk ρ b).isNone&&(lk m b).isSome)=true:=by rfl):lk ρ b=none/\(lk m b).isSome=true:=by
 have:=zqh.1 hall b (amy h);simp only[zx4,Option.isNone_iff_eq_none]at this;exact this
def gL(l:List (Nat×AV))(m:List (Nat×Ent)):St:=⟨fun t=>lk l t,fun b=>match lk m b with|some e=> .ent e|none=> .free⟩
def dX(ρ:List (Nat×Option Nat))(E:Env):Env:=
 ⟨fun b=>match lk ρ b with|some (some o)=>E.blk o|some none=>0|none=>E.blk b,fun b=>match lk ρ b with|some (some o)=>E.sl o|some none=> .slice none 0 0|none=>E.sl b,fun b=>match lk ρ b with|some (some o)=>E.fp o|some none=>fun _=>False|none=>E.fp b⟩
def aF(ρ:List (Nat×Option Nat))(x y:AV):Prop:=∀E S w v,x.has E S w v->y.has (dX ρ E) S w v
def Atom.has.env{a:Atom}(h:a.has E S w v)(he:∀b∈a.ids,E.at' E' b):a.has E' S w v:=h.step he (Off.refl S w) (fun k hk=> .inl hk)
def AV.has.env{a:AV}(h:a.has E S w v)(he:∀b∈a.ids,E.at' E' b):a.has E' S w v:=h.step he (Off.refl S w) (fun k hk=> .inl hk)
def fresh(ρ:List (Nat×Option Nat))(l:List Nat):Bool:=l.all fun b=>(lk ρ b).isNone
def xZ{ρ:List (Nat×Option Nat)}{l:List Nat}(h:fresh ρ l=true)(E:Env):∀b∈l,E.at' (dX ρ E) b:=by
 intro b hb;have:=zqh.1 h b hb;have h2:lk ρ b=none:=by simpa using this
 exact⟨by simp only[dX,h2],by simp only[dX,h2]⟩
def ajs{ρ:List (Nat×Option Nat)}{l:List Nat}(h:fresh ρ l=true)(E:Env):∀b∈l,(dX ρ E).fp b=E.fp b:=by
 intro b hb;have:=zqh.1 h b hb;have h2:lk ρ b=none:=by simpa using this
 simp only[dX,h2]
def aF.same{ρ:List (Nat×Option Nat)}{x:AV}(h:fresh ρ x.ids=true):aF ρ x x:=fun E S w v hv=>hv.env (xZ h E)
def aF.eq{ρ:List (Nat×Option Nat)}{x y:AV}(e:x=y)(h:fresh ρ x.ids=true):aF ρ x y:=e▸aF.same h
def aF.own{ρ:List (Nat×Option Nat)}{o b:Nat}(h:lk ρ b=some (some o)):aF ρ (.own o) (.own b):=fun E S w v hv=>by
 obtain⟨h1,h2⟩:=hv;exact⟨by simp only[dX,h];exact h1,h2⟩
def aF.nil{ρ:List (Nat×Option Nat)}{b:Nat}(h:lk ρ b=some none):aF ρ (.v (.slice none 0 0)) (.own b):=fun E S w v hv=>by
 have hv':v= .slice none 0 0:=hv;subst hv';exact⟨by simp only[dX,h],rfl⟩
inductive ay(st:St)(ρ:List (Nat×Option Nat))(b:Nat)(e:Ent):Prop where
 |old (o:Nat) (e0:Ent) (ho:st.hp o= .ent e0) (hb:lk ρ b=some (some o)\/(lk ρ b=none/\o=b)) (hh:∀E S w,e0.has E S w o->e.has (dX ρ E) S w b) (hk:∀E,e.at (dX ρ E) b=e0.at E o)
 |nil (hb:lk ρ b=some none) (hh:∀E S w,e.has (dX ρ E) S w b) (hk:∀E k,¬e.at (dX ρ E) b k)
def ay.same{ρ:List (Nat×Option Nat)}{e:Ent}(h:st.hp b= .ent e)(hf:fresh ρ (b::e.ids)=true):ay st ρ b e:=by
 have ha:=xZ hf;refine .old b e h (.inr ⟨?_,rfl⟩) (fun E S w hh=>hh.step (fun i hi=>ha E i (zy2 _ hi)) (ha E b zq9) (Off.refl S w) (fun k hk=> .inl hk) (fun _ _=>rfl) (ajs hf E b zq9)) (fun E=>Ent.gV (ha E b zq9) (ajs hf E b zq9))
 have:=zqh.1 hf b zq9;simpa using this
def ay.eq{ρ:List (Nat×Option Nat)}{e0 e:Ent}(h:st.hp b= .ent e0)(he:e0=e)(hf:fresh ρ (b::e0.ids)=true):ay st ρ b e:=he▸ay.same h hf
def ay.row{st:St}{ρ:List (Nat×Option Nat)}{o b:Nat}{t:TypeId}{size n n':Nat}{ag cells':List CA}(h:st.hp o= .ent (.row t size n ag))(hb:lk ρ b=some (some o))(hn:n=n')(hc:ag=cells'):ay st ρ b (.row t size n' cells'):=by
 subst hn;subst hc;refine .old o _ h (.inl hb) (fun E S w hh=>?_) (fun E=>?_)
 ·obtain⟨vs,h1,h2⟩:=hh;exact⟨vs,by simp only[dX,hb];exact h1,h2⟩
 ·funext k;simp only[Ent.at,dX,hb]
def ay.abs{st:St}{ρ:List (Nat×Option Nat)}{o b:Nat}{A A':kL}(h:st.hp o= .ent (.abs A))(hb:lk ρ b=some (some o))(hA:A=A'):ay st ρ b (.abs A'):=by
 subst hA;refine .old o _ h (.inl hb) (fun E S w hh=>?_) (fun E=>?_)
 ·show A.has ((dX ρ E).blk b) ((dX ρ E).sl b) ((dX ρ E).fp b) S w;simp only[dX,hb];exact hh
 ·funext k;simp only[Ent.at,dX,hb]
def ay.dw{ρ:List (Nat×Option Nat)}(hb:lk ρ b=some none):ay st ρ b (.row t size 0 []):=by
 refine .nil hb (fun E S w=>⟨[],?_,trivial⟩) (fun E k=>?_)
 ·simp only[dX,hb];exact World.ownsRow_nil ..
 ·simp only[Ent.at,dX,hb];intro h;cases h
def ajF(st:St)(ρ:List (Nat×Option Nat)):List (Nat×AV)->Prop
 |[]=>True
 |(t,v)::l=>(∃u,st.tm t=some u/\aF ρ u v)/\ajF st ρ l
def acQ(st:St)(ρ:List (Nat×Option Nat)):List (Nat×Ent)->Prop
 |[]=>True
 |(b,e)::l=>ay st ρ b e/\acQ st ρ l
def ajF.mem{st:St}{ρ:List (Nat×Option Nat)}:∀{l:List (Nat×AV)},ajF st ρ l->∀t v,(t,v)∈l->∃u,st.tm t=some u/\aF ρ u v
 |[],_,_,_,hm=>by cases hm
 |_::_,⟨h1,h2⟩,t,v,hm=>by
  rcases zy3.1 hm with e|hm
  ·cases e;exact h1
  ·exact h2.mem t v hm
def acQ.mem{st:St}{ρ:List (Nat×Option Nat)}:∀{l:List (Nat×Ent)},acQ st ρ l->∀t v,(t,v)∈l->ay st ρ t v
 |[],_,_,_,hm=>by cases hm
 |_::_,⟨h1,h2⟩,t,v,hm=>by
  rcases zy3.1 hm with e|hm
  ·cases e;exact h1
  ·exact h2.mem t v hm
def src(ρ:List (Nat×Option Nat))(b:Nat):Option Nat:=match lk ρ b with|some r=>r|none=>some b
def eqO:Option Nat->Option Nat->Bool
 |some a,some b=>Nat.beq a b
 |_,_=>false
def tidy(ρ:List (Nat×Option Nat))(l:List (Nat×AV))(m:List (Nat×Ent)):Bool:=
 ((l.all fun p=>p.2.ids.all fun b=>(lk m b).isSome)&&(m.all fun p=>p.2.ids.all fun b=>(lk m b).isSome))&&
 (m.all fun p=>m.all fun q=>Nat.beq p.1 q.1||!(eqO (src ρ p.1) (src ρ q.1)))
def af5{m:List (Nat×Ent)}{l:List (Nat×AV)}(h:(lk m b).isSome=true):((gL l m).hp b).used=true:=by
 obtain⟨e,he⟩:=Option.isSome_iff_exists.1 h;simp[gL,he,Slot.used]
def wZ{m:List (Nat×Ent)}{l:List (Nat×AV)}{e:Ent}(h:(gL l m).hp b= .ent e):(b,e)∈m:=by
 simp only[gL]at h;cases hl:lk m b with
 |none=>simp[hl]at h
 |some e'=>simp only[hl]at h;cases h;exact ag8 hl
def ay.src{st:St}{ρ:List (Nat×Option Nat)}{b:Nat}{e:Ent}(h:ay st ρ b e):(∃o e0,SX.src ρ b=some o/\st.hp o= .ent e0/\(∀E,e.at (dX ρ E) b=e0.at E o))\/∀E k,¬e.at (dX ρ E) b k:=by
 cases h with
 |old o e0 ho hb hh hk=>
  refine .inl ⟨o,e0,?_,ho,hk⟩;rcases hb with hb|⟨hb,rfl⟩ <;> simp[SX.src,hb]
 |nil hb hh hk=>exact .inr hk
def St.aS{l:List (Nat×AV)}{m:List (Nat×Ent)}(ρ:List (Nat×Option Nat))(hfix:∀b,C.fix b=true->lk ρ b=none/\(lk m b).isSome=true)(ht:ajF st ρ l)(hm:acQ st ρ m)(hti:tidy ρ l m=true):St.le C st (gL l m):=by
 intro a w ⟨E,S,hs⟩;unfold tidy at hti;rw[zx4,zx4]at hti;obtain⟨⟨h1,h2⟩,h3⟩:=hti;refine⟨dX ρ E,S,{dfr:=hs.dfr,nt:=hs.nt,cT:=hs.cT,cT0:=hs.cT0,cS:=hs.cS,lt:=hs.lt,tm:=fun t v hv=>?_,tid:=fun t v hv b hb=>?_,hp:=fun b e hb=>?_,aq:=fun b e hb i hi=>?_,blk:=fun b e k hb hk=>?_,sep:=fun b b' e e' k hne hb hb' hk hk'=>?_,off:=hs.off,env:=fun b hb=>?_,gl:=hs.gl}⟩
 ·obtain⟨u,hu,hto⟩:=ht.mem t v (ag8 hv);exact hto _ _ _ _ (hs.tm t u hu)
 ·exact af5 (zqh.1 (zqh.1 h1 _ (ag8 hv)) b hb)
 ·cases hm.mem b e (wZ hb)with
  |old o e0 ho _ hh hk=>exact hh _ _ _ (hs.hp o e0 ho)
  |nil _ hh _=>exact hh _ _ _
 ·exact af5 (zqh.1 (zqh.1 h2 _ (wZ hb)) i hi)
 ·rcases(hm.mem b e (wZ hb)).src with⟨o,e0,_,ho,hk0⟩|hk0
  ·rw[hk0]at hk;exact hs.blk o e0 k ho hk
  ·exact absurd hk (hk0 E k)
 ·rcases(hm.mem b e (wZ hb)).src with⟨o,e0,so,ho,hk0⟩|hk0
  ·rcases(hm.mem b' e' (wZ hb')).src with⟨o',e0',so',ho',hk0'⟩|hk0'
   ·rw[hk0]at hk;rw[hk0']at hk';have:=zqh.1 (zqh.1 h3 _ (wZ hb)) _ (wZ hb');rw[so,so']at this;have hno:o≠o':=by
     intro e;subst e;simp[eqO,hne]at this
    exact hs.sep o o' e0 e0' k hno ho ho' hk hk'
   ·exact absurd hk' (hk0' E k)
  ·exact absurd hk (hk0 E k)
 ·obtain⟨h4,h5⟩:=hfix b hb;obtain⟨g1,g2,_⟩:=hs.env b hb;exact⟨by simp only[dX,h4];exact g1,by simp only[dX,h4];exact g2,af5 h5⟩
def WP.meet{Q:Exit->St->Prop}{x y:Code}(I:St)(h:WP P C x st (aK (fun s=>St.le C s I) Q))(k:WP P C y I Q):WP P C (.seq x y) st Q:=
 WP.seq (WP.mono h fun e s hq=>by
  cases e with
  |normal=>exact k.weaken hq
  |_=>exact hq)
end
section
section
variable{P:Program}
def aib{l l':List CA}{m m':List Value}(h:aM (CA.has S w) l m)(h':aM (CA.has S w) l' m'):aM (CA.has S w) (l++l') (m++m'):=h.append h'
def uj(w:World)(t ty e:TypeId)(zs:List Value)(size bytes:Nat)(ht:P.underlying t=some (.slice e))(he:eZ P e zs bytes)(hs:(P.info? e).map (·.size)=some size)(hzs:zs.length=size)(v:Value)(n:Nat)(xs:List Value)(hown:w.ownsRow 0 e size v n xs){u:Value}(hu:(aP size m cells2).has S w u)(h1:cells2.all CA.dN=true)(h63:n+m<=maxLen)(hbytes:(n+m)*bytes<=140737488355328):
  ∃v' w' news,(Builtin.append_ #[t,t] ty #[v,u]).run P w= .ok v' w'/\w'.ownsRow 0 e size v' (n+m) (xs++news)/\w.grownBy w' v.ownBlock/\(∀k,v'.ownBlock=some k->v.ownBlock=some k\/w.heap.size<=k)/\aM (CA.has S w) cells2 news:=by
 obtain⟨i,z,hi,hz,hc,hsz,hby⟩:=ru he hs;obtain⟨oa,am,rfl,hn,_,hnone,hlen,hall⟩:=bQ.1 hu;have hz2:z.cells.size=size:=by rw[hc];simpa using hzs
 cases oa with
 |none=>
  have h0:=hnone rfl;subst h0;have hm:m=0:=zE
  subst hm;have hnil:cells2=[]:=zx5 (by simpa using hlen)
  subst hnil;have hrun:=run_append_owned_none (P:=P) (w:=w) 0 t ty e i size ht hi v n xs hown;exact⟨v,w,[],hrun,by simpa using hown,⟨rfl,rfl,rfl,zq6 _,fun _ _ _=>rfl⟩,fun k hk=> .inl hk,trivial⟩
 |some a=>
  obtain⟨news,hnews,hcell⟩:∃us:List Value,aM (CA.has S w) cells2 us/\∀j u,us[j]? =some u->w.cell? (a.add j)=some u:=by
   by_cases h0:cells2=[]
   ·subst h0;exact⟨[],trivial,by simp⟩
   ·obtain⟨c,hc0⟩:∃c,cells2[0]? =some c:=⟨cells2[0]'(List.length_pos_iff.2 h0),by simp⟩
    obtain⟨b,o,_,e1,hSb,_⟩:=hall 0 c hc0;cases e1;obtain⟨us,h2,h3⟩:=zf (E:=⟨fun _=>0,fun _=>undef,fun _ _=>False⟩) (S:=S) (w:=w) (b:=b) cells2 o (fun i c hc=>by
     obtain⟨b',o',u,e1,e2,e3,e4⟩:=hall i c hc;cases e1;exact⟨u,e2,e3,e4⟩)
    exact⟨us,jq h2,h3⟩
  have hl:news.length=m*size:=by rw[<-hnews.length,hlen]
  obtain⟨v',w',h2,h3,h4,h5⟩:=adC (P:=P) w t ty e i z size bytes ht hi hz hsz hby hz2 v n xs hown a m am news hl hcell (aqn hnews h1) h63 hbytes;exact⟨v',w',news,h2,h3,h4,h5,hnews⟩
end
section
variable{P:Program}{C:Ctx}{st:St}
variable{ae aa:List Oper}{ab:List (List Nat×List Nat)}{K:List (List Nat×List Nat)->St->Prop}{d:Tmp}{an:Option Tmp}{op:Op}{ty t:TypeId}{x y:Operand}
class TWide(P:Program)(e:TypeId)(size:Nat):Prop where
 h:∃zs bytes,eZ P e zs bytes/\zs.length=size
end
end
section
section
variable{P:Program}
def vN{k:IntKind}{y:Nat}{code:BoundsCode}(h0:0<=i)(h1:i<=(y:Int)):(Instr.sliceBound (.int k i) y code).run P w= .ok i.toNat w:=by
 simp[Instr.sliceBound,asIntOf,h0,h1]
def sN{s:ByteArray}{lo hi:Option Value}{l:Nat}(ht:P.underlying t=some .string)(hb:(Instr.sliceBounds false s.size s.size lo hi none).run P w= .ok (l,h,m) w):
  (Instr.sliceAt t (.string s) lo hi none).run P w= .ok (.string (s.extract l h)) w:=by
 simp[Instr.sliceAt,Instr.slice,run_underlying ht,hb]
def sP{a:Option Addr}{n:Nat}{lo hi:Option Value}{l:Nat}(ht:P.underlying t=some (.slice e))(hs:(P.info? e).map (·.size)=some size)(hb:(Instr.sliceBounds true n am lo hi none).run P w= .ok (l,h,m) w):
  (Instr.sliceAt t (.slice a n am) lo hi none).run P w= .ok (.slice (if m=l then a else a.map (·.add (l*size))) (h - l) (m - l)) w:=by
 simp[Instr.sliceAt,Instr.slice,run_underlying ht,hb,run_sizeOf hs]
def afk{b:Bool}{n:Nat}{k:IntKind}(h0:0<=i)(h1:i<=(am:Int)):(Instr.sliceBounds b n am none (some (.int k i)) none).run P w= .ok (0,i.toNat,am) w:=by
 simp[Instr.sliceBounds,vN h0 h1]
def aoL{b:Bool}{n:Nat}{k:IntKind}(h0:0<=i)(h1:i<=(n:Int)):(Instr.sliceBounds b n am (some (.int k i)) none none).run P w= .ok (i.toNat,n,am) w:=by
 simp[Instr.sliceBounds,vN h0 h1]
def ao8{b:Bool}{n:Nat}{k k':IntKind}{j:Int}(h0:0<=i)(h1:i<=j)(h2:j<=(am:Int)):(Instr.sliceBounds b n am (some (.int k i)) (some (.int k' j)) none).run P w= .ok (i.toNat,j.toNat,am) w:=by
 have h3:i<=((j.toNat:Nat):Int):=zE
 simp[Instr.sliceBounds,vN (show 0<=j by omega) h2,vN h0 h3]
def ahj{n:Nat}{a:Option Addr}{l:Nat}(hv:(aP size n ag).has S w (.slice a n am))(hlh:l<=h)(hh:h<=n):
  (aP size (h - l) ((ag.drop (l*size)).take ((h - l)*size))).has S w (.slice (if am=l then a else a.map (·.add (l*size))) (h - l) (am - l)):=by
 obtain⟨oa,cap',e0,h1,h2,h3,h4,h5⟩:=bQ.1 hv;cases e0;refine bQ.2 ⟨_,_,rfl,zE,zE,fun hn=>?_,?_,fun i c hc=>?_⟩
 ·split at hn
  ·omega
  ·cases a with
   |none=>have:=h3 rfl;omega
   |some a=>cases hn
 ·rw[zx3,zxe,h4];have:(h - l)*size<=n*size - l*size:=by rw[<-Nat.sub_mul];exact zx1 _ zE
  omega
 ·rw[zy9]at hc
  split at hc
  ·rename_i hi;rw[zv1]at hc
   obtain⟨b,o,u,e1,e2,e3,e4⟩:=h5 _ c hc;subst e1;have hne:am≠l:=by
    rintro rfl;have:h - am=0:=zE
    rw[this]at hi;omega
   refine⟨b,o+l*size,u,?_,e2,by rw[Nat.add_assoc];exact e3,e4⟩
   rw[if_neg hne];simp[Addr.add_lit]
  ·cases hc
end
section
variable{P:Program}{C:Ctx}{st:St}
variable{ae aa:List Oper}{ab:List (List Nat×List Nat)}{K:List (List Nat×List Nat)->St->Prop}{d:Tmp}{an:Option Tmp}{op:Op}{ty t:TypeId}{x y z:Operand}{k k':IntKind}{i j:Int}
def Go1.uo{n:Nat}{r:Rep}[ht:bF P t e size][hr:jL r size n ag](hd:aC an C.nt=true)(hx:st.ev x=some (.r r))(hy:st.ev y=some (.v (.int k i)))(h0:0<=i)(h1:i<=(n:Int))(ai:Reg P C ae aa (st.app an ⟨.r (aP size i.toNat (ag.take (i.toNat*size))),[]⟩) (([],[])::ab) K):Go1 P C ae an (.slice t x none (some y) none) ty aa st ab K:=
 Go1.dz [] [] zp hd zp (fun o ho _ st' E S a w hev hs _=>by
  obtain⟨hx1,_⟩:=hs.ev ((hev x (by simp[ho,Op.operands])).trans hx)
  have hyv:a.eval y= .int k i:=(hs.ev ((hev y (by simp[ho,Op.operands])).trans hy)).1
  have hr1:=hr.h _ _ _ hx1;obtain⟨oa,am,hv,hn,_⟩:=bQ.1 hr1;rw[hv]at hr1;have hp:=ahj (l:=0) (h:=i.toNat) hr1 (zq8 _) zE
  rw[zw3,List.drop_zero,Nat.sub_zero]at hp;refine⟨fun i hi=>(by cases hi),_,?_,hp⟩
  unfold execOp;rw[ho];simp only[Option.map_some,Option.map_none,hv,hyv];simp[sP ht.h ht.s (afk (w:=w) (b:=true) (n:=n) (am:=am) (k:=k) h0 zE)]) ai
def Go1.ug{s:ByteArray}[ht:acN P t](hd:aC an C.nt=true)(hx:st.ev x=some (.v (.string s)))(hy:st.ev y=some (.v (.int k i)))(h0:0<=i)(h1:i<=(s.size:Int))
  (ai:Reg P C ae aa (st.app an ⟨.v (.string (s.extract 0 i.toNat)),[]⟩) (([],[])::ab) K):Go1 P C ae an (.slice t x none (some y) none) ty aa st ab K:=
 Go1.dz [] [] zp hd zp (fun o ho _ st' E S a w hev hs _=>by
  have hv:a.eval x= .string s:=(hs.ev ((hev x (by simp[ho,Op.operands])).trans hx)).1
  have hyv:a.eval y= .int k i:=(hs.ev ((hev y (by simp[ho,Op.operands])).trans hy)).1
  refine⟨fun i hi=>(by cases hi),_,?_,rfl⟩
  unfold execOp;rw[ho];simp only[Option.map_some,Option.map_none,hv,hyv];simp[sN ht.h (afk (w:=w) (b:=false) (n:=s.size) (am:=s.size) (k:=k) h0 h1)]) ai
def Go1.uh{s:ByteArray}[ht:acN P t](hd:aC an C.nt=true)(hx:st.ev x=some (.v (.string s)))(hy:st.ev y=some (.v (.int k i)))(h0:0<=i)(h1:i<=(s.size:Int))
  (ai:Reg P C ae aa (st.app an ⟨.v (.string (s.extract i.toNat s.size)),[]⟩) (([],[])::ab) K):Go1 P C ae an (.slice t x (some y) none none) ty aa st ab K:=
 Go1.dz [] [] zp hd zp (fun o ho _ st' E S a w hev hs _=>by
  have hv:a.eval x= .string s:=(hs.ev ((hev x (by simp[ho,Op.operands])).trans hx)).1
  have hyv:a.eval y= .int k i:=(hs.ev ((hev y (by simp[ho,Op.operands])).trans hy)).1
  refine⟨fun i hi=>(by cases hi),_,?_,rfl⟩
  unfold execOp;rw[ho];simp only[Option.map_some,Option.map_none,hv,hyv];simp[sN ht.h (aoL (w:=w) (b:=false) (n:=s.size) (am:=s.size) (k:=k) h0 h1)]) ai
def Go1.acp{s:ByteArray}{b:UInt8}[ht:acN P t](hd:aC an C.nt=true)(hx:st.ev x=some (.v (.string s)))(hy:st.ev y=some (.v (.int k i)))(h0:0<=i)(hb:s[i.toNat]? =some b)
  (ai:Reg P C ae aa (st.app an ⟨.v (.int .u8 (b.toNat:Int)),[]⟩) (([],[])::ab) K):Go1 P C ae an (.index t x y) ty aa st ab K:=
 Go1.dz [] [] zp hd zp (fun o ho _ st' E S a w hev hs _=>by
  have hv:a.eval x= .string s:=(hs.ev ((hev x (by simp[ho,Op.operands])).trans hx)).1
  have hyv:a.eval y= .int k i:=(hs.ev ((hev y (by simp[ho,Op.operands])).trans hy)).1
  refine⟨fun i hi=>(by cases hi),_,?_,rfl⟩
  unfold execOp;rw[ho];simp[hv,hyv,Instr.index,asIntOf,run_underlying ht.h,h0,hb]) ai
def Go1.eqlS{s u:ByteArray}(hd:aC an C.nt=true)(hx:st.ev x=some (.v (.string s)))(hy:st.ev y=some (.v (.string u)))(ai:Reg P C ae aa (st.app an ⟨.v (.bool (s.toList==u.toList)),[]⟩) (([],[])::ab) K):Go1 P C ae an (.binOp .eql t x y ty') ty aa st ab K:=
 Go1.tF hd rfl hx hy (fun ρ o w ho h1 h2=>by unfold execOp;rw[ho];simp[h1,h2,eqGuard,binOp,Op.stringOp]) ai
def Go1.neqS{s u:ByteArray}(hd:aC an C.nt=true)(hx:st.ev x=some (.v (.string s)))(hy:st.ev y=some (.v (.string u)))(ai:Reg P C ae aa (st.app an ⟨.v (.bool (!(s.toList==u.toList))),[]⟩) (([],[])::ab) K):Go1 P C ae an (.binOp .neq t x y ty') ty aa st ab K:=
 Go1.tF hd rfl hx hy (fun ρ o w ho h1 h2=>by unfold execOp;rw[ho];simp[h1,h2,eqGuard,binOp,Op.stringOp]) ai
def Go1.ac2{n:Nat}{c:CA}[ht:iT P t](hd:aC an C.nt=true)(hx:st.ev x=some (.it (.one (.rptr b off))))(hb:st.hp b= .ent (.row e size n ag))(hc:ag[off]? =some c)(ai:Reg P C ae aa (st.app an ⟨.it (.one (.c c)),[]⟩) (([b],[])::ab) K):Go1 P C ae an (.load t x) ty aa st ab K:=
 Go1.dz [(b,.row e size n ag)] [b] (fun c e' hc=>by simp at hc;simp[hc.1]) hd (fun c e' hc=>by simp at hc;obtain⟨rfl,rfl⟩:=hc;exact hb) (fun o ho _ st' E S a w hev hs hrd=>by
  obtain⟨⟨g,n',am,h1,hv⟩,_⟩:=hs.ev ((hev x (by simp[ho,Op.operands])).trans hx)
  obtain⟨vs,hown,hvs⟩:=hs.hp b _ (hrd b _ zq9);rw[h1]at hown;have hcell:=hown.cells (g:=g) rfl;obtain⟨u,hu,huc⟩:=hvs.get hc;have g2:=hcell off u hu;refine⟨fun j hj=>(by cases hj),u,?_,huc⟩
  unfold execOp;rw[ho];have g2':w.cell? ⟨g,off,none⟩=some u:=by simpa[Addr.add_lit]using g2
  simp[hv,Instr.loadAt,Instr.sureAddr,loadVar,ig ht.h,g2']) ai
end
end
section
def Atom.frz(b size n:Nat)(ag:List CA):Atom->Atom
 | .own k=>match Nat.beq k b with|true=> .c (.sat (aP size n ag))|false=> .own k
 | .rptr k off=>match Nat.beq k b with|true=> .c (.sat (dL (ag.drop off)))|false=> .rptr k off
 | .c a=> .c a
 | .ptr k off=> .ptr k off
 | .clo f am=> .clo f am
 | .bnd f b=> .bnd f b
 | .rel b R=> .rel b R
def anD(b size n:Nat)(ag:List CA):List Atom->List Atom
 |[]=>[]
 |a::l=>a.frz b size n ag::anD b size n ag l
def AV0.frz(b size n:Nat)(ag:List CA):AV0->AV0
 | .one a=> .one (a.frz b size n ag)
 | .agg l=> .agg (anD b size n ag l)
def aq8(b size n:Nat)(ag:List CA):List AV0->List AV0
 |[]=>[]
 |a::l=>a.frz b size n ag::aq8 b size n ag l
def AV.frz(b size n:Nat)(ag:List CA):AV->AV
 | .it x=> .it (x.frz b size n ag)
 | .tup l=> .tup (aq8 b size n ag l)
def Ent.frz(b size n:Nat)(ag:List CA):Ent->Ent
 | .abs A=> .abs A
 | .box t l=> .box t (anD b size n ag l)
 | .row t s m l=> .row t s m l
def Slot.frz(b size n:Nat)(ag:List CA):Slot->Slot
 | .ent e=> .ent (e.frz b size n ag)
 | .free=> .free
 | .gone=> .gone
def St.frz(st:St)(b size n:Nat)(ag:List CA):St:=
 ⟨fun t=>match st.tm t with|some v=>some (v.frz b size n ag)|none=>none,upd (fun c=>(st.hp c).frz b size n ag) b .gone⟩
section
variable{b size n:Nat}{ag:List CA}
def akb{c b:Nat}(h:c≠b):Nat.beq c b=false:=by rw[Bool.eq_false_iff];simpa using h
def amX:(Atom.own b).frz b size n ag= .c (.sat (aP size n ag)):=by
 simp only[Atom.frz,Nat.beq_refl]
def acy(h:k≠b):(Atom.own k).frz b size n ag= .own k:=by
 simp only[Atom.frz,akb h]
def aje:(Atom.rptr b off).frz b size n ag= .c (.sat (dL (ag.drop off))):=by
 simp only[Atom.frz,Nat.beq_refl]
def aaD(h:k≠b):(Atom.rptr k off).frz b size n ag= .rptr k off:=by
 simp only[Atom.frz,akb h]
def Atom.nK(a:Atom):∀i∈(a.frz b size n ag).ids,i∈a.ids:=by
 intro i hi;cases a with
 |own k=>
  by_cases h:k=b
  ·subst h;rw[amX]at hi;cases hi
  ·rw[acy h]at hi;exact hi
 |rptr k off=>
  by_cases h:k=b
  ·subst h;rw[aje]at hi;cases hi
  ·rw[aaD h]at hi;exact hi
 |c a=>exact hi
 |ptr k off=>exact hi
 |clo f am=>exact hi
 |bnd f b=>exact hi
 |rel b R=>exact hi
def acr:∀(l:List Atom),∀i∈(anD b size n ag l).flatMap Atom.ids,i∈l.flatMap Atom.ids
 |[],i,hi=>hi
 |a::l,i,hi=>by
  simp only[anD,zq7,zyg]at hi ⊢;exact hi.imp (a.nK i) (acr l i)
def AV0.nK(x:AV0):∀i∈(x.frz b size n ag).ids,i∈x.ids:=by
 cases x with
 |one a=>exact a.nK
 |agg l=>exact acr l
def ajb:∀(l:List AV0),∀i∈(aq8 b size n ag l).flatMap AV0.ids,i∈l.flatMap AV0.ids
 |[],i,hi=>hi
 |a::l,i,hi=>by
  simp only[aq8,zq7,zyg]at hi ⊢;exact hi.imp (a.nK i) (ajb l i)
def AV.nK(x:AV):∀i∈(x.frz b size n ag).ids,i∈x.ids:=by
 cases x with
 |it a=>exact a.nK
 |tup l=>exact ajb l
def Ent.nK(x:Ent):∀i∈(x.frz b size n ag).ids,i∈x.ids:=by
 cases x with
 |abs A=>exact fun i h=>h
 |box t l=>exact acr l
 |row t s m l=>exact fun i h=>h
variable{E:Env}{S S':Nat->Prop}{w:World}
structure Frz(b size n:Nat)(ag:List CA)(E:Env)(S S':Nat->Prop)(w:World):Prop where
 sub:∀k,S' k->S k
 sl:(aP size n ag).has S' w (E.sl b)
 pt:∀g m am off,E.sl b= .slice (some ⟨g,0,none⟩) m am->(dL (ag.drop off)).has S' w (.pointer (some ⟨g,off,none⟩))
def Atom.has.frz{a:Atom}{v:Value}(h:a.has E S w v)(f:Frz b size n ag E S S' w):(a.frz b size n ag).has E S' w v:=by
 have keep:∀a:Atom,a.has E S w v->a.has E S' w v:=fun a ha=>ha.step (fun _ _=>⟨rfl,rfl⟩) (Off.refl S w) (fun k hk=> .inl (f.sub k hk))
 cases a with
 |own k=>
  by_cases hk:k=b
  ·subst hk;rw[amX,show v=E.sl k from h.1];exact f.sl
  ·rw[acy hk];exact keep _ h
 |rptr k off=>
  by_cases hk:k=b
  ·subst hk;obtain⟨g,m,am,h1,rfl⟩:=h;rw[aje];exact f.pt g m am off h1
  ·rw[aaD hk];exact keep _ h
 |c a=>exact keep (.c a) h
 |ptr c off=>exact keep (.ptr c off) h
 |clo g am=>exact keep (.clo g am) h
 |bnd g b=>exact keep (.bnd g b) h
 |rel b R=>exact keep (.rel b R) h
def adM(f:Frz b size n ag E S S' w):∀{l:List Atom} {vs:List Value},aM (Atom.has E S w) l vs->aM (Atom.has E S' w) (anD b size n ag l) vs
 |[],[],_=>trivial
 |_::_,_::_,h=>⟨h.1.frz f,adM f h.2⟩
 |[],_::_,h=>h.elim
 |_::_,[],h=>h.elim
def AV0.has.frz{x:AV0}{v:Value}(h:x.has E S w v)(f:Frz b size n ag E S S' w):(x.frz b size n ag).has E S' w v:=by
 cases x with
 |one a=>exact Atom.has.frz h f
 |agg l=>obtain⟨vs,h1,h2⟩:=h;exact⟨vs,h1,adM f h2⟩
def ahs(f:Frz b size n ag E S S' w):∀{l:List AV0} {vs:List Value},aM (AV0.has E S w) l vs->aM (AV0.has E S' w) (aq8 b size n ag l) vs
 |[],[],_=>trivial
 |_::_,_::_,h=>⟨h.1.frz f,ahs f h.2⟩
 |[],_::_,h=>h.elim
 |_::_,[],h=>h.elim
def AV.has.frz{x:AV}{v:Value}(h:x.has E S w v)(f:Frz b size n ag E S S' w):(x.frz b size n ag).has E S' w v:=by
 cases x with
 |it a=>exact AV0.has.frz h f
 |tup l=>obtain⟨vs,h1,h2⟩:=h;exact⟨vs,h1,ahs f h2⟩
def Ent.has.frz{e:Ent}{c:Nat}(h:e.has E S w c)(f:Frz b size n ag E S S' w):(e.frz b size n ag).has E S' w c:=by
 cases e with
 |abs A=>exact A.step h (Off.refl S w) (fun k hk=> .inl (f.sub k hk)) (fun _ _=>rfl)
 |box t l=>obtain⟨cs,h1,h2⟩:=h;exact⟨cs,h1,adM f h2⟩
 |row t s m l=>obtain⟨vs,h1,h2⟩:=h;exact⟨vs,h1,h2.mono fun a v _ ha=>ha.step (Off.refl S w) (fun k hk=> .inl (f.sub k hk))⟩
end
def St.agD{n:Nat}(hnew0:∀E S a w,nZ C st E S a w->∀k,(E.sl b).ownBlock=some k->C.w0.heap.size<=k)(hb:st.hp b= .ent (.row t size n ag)):St.le C st (st.frz b size n ag):=by
 intro a w ⟨E,S,hs⟩;obtain⟨vs,hown,hvs⟩:=hs.hp b _ hb;have hlen:ag.length=n*size:=by rw[hvs.length,hown.1]
 have hpt:∀g m am off,E.sl b= .slice (some ⟨g,0,none⟩) m am->∀i c,(ag.drop off)[i]? =some c->∃u,¬(S g/\(E.sl b).ownBlock≠some g)/\w.cell? ⟨g,off+i,none⟩=some u/\c.has (fun k=>S k/\(E.sl b).ownBlock≠some k) w u:=by
  intro g m am off hsl i c hc;rw[zv1]at hc
  obtain⟨u,hu,huc⟩:=hvs.get hc;rw[hsl]at hown;have hcell:=hown.cells (g:=g) rfl (off+i) u hu;refine⟨u,fun h=>h.2 (by rw[hsl];rfl),by simpa[Addr.add_lit]using hcell,huc.step (Off.refl S w) (fun k hk=> .inl hk.1)⟩
 have f:Frz b size n ag E S (fun k=>S k/\(E.sl b).ownBlock≠some k) w:=by
  refine⟨fun k hk=>hk.1,?_,fun g m am off hsl=>adB.2 ⟨g,off,rfl,hpt g m am off hsl⟩⟩
  rcases hown.2 with⟨hv,h0⟩|⟨g,am,cur,hv,_,hg,hn,hm,hcs,htk⟩
  ·refine bQ.2 ⟨none,0,by rw[hv,h0],zE,zq8 _,fun _=>rfl,hlen,fun i c hc=>?_⟩
   have:ag.length=0:=by rw[hlen,h0,zw3]
   rw[zx5 this]at hc;simp at hc
  ·refine bQ.2 ⟨some ⟨g,0,none⟩,am,hv,hn,hm,(fun h=>by cases h),hlen,fun i c hc=>?_⟩
   obtain⟨u,h1,h2,h3⟩:=hpt g n am 0 hv i c (by simpa using hc)
   exact⟨g,0,u,rfl,h1,h2,h3⟩
 have hkey:∀c e,(st.frz b size n ag).hp c= .ent e->c≠b/\∃e0,st.hp c= .ent e0/\e=e0.frz b size n ag:=by
  intro c e hc;have hc':upd (fun c=>(st.hp c).frz b size n ag) b .gone c= .ent e:=hc
  by_cases hcb:c=b
  ·subst hcb;rw[upd_same]at hc';cases hc'
  ·rw[upd_ne _ _ hcb]at hc';refine⟨hcb,?_⟩;cases h1:st.hp c with
   |ent e0=>rw[h1]at hc';simp only[Slot.frz]at hc';cases hc';exact⟨e0,rfl,rfl⟩
   |free=>rw[h1]at hc';cases hc'
   |gone=>rw[h1]at hc';cases hc'
 have hused:∀c,(st.hp c).used=true->((st.frz b size n ag).hp c).used=true:=by
  intro c hc;show (upd (fun c=>(st.hp c).frz b size n ag) b .gone c).used=true
  by_cases hcb:c=b
  ·subst hcb;rw[upd_same];rfl
  ·rw[upd_ne _ _ hcb];cases h1:st.hp c with
   |ent e0=>rfl
   |free=>rw[h1]at hc;cases hc
   |gone=>rfl
 have htm:∀t v,(st.frz b size n ag).tm t=some v->∃v0,st.tm t=some v0/\v=v0.frz b size n ag:=by
  intro t v ht;have ht':(match st.tm t with|some v=>some (v.frz b size n ag)|none=>none)=some v:=ht
  cases h1:st.tm t with
  |none=>rw[h1]at ht';cases ht'
  |some v0=>rw[h1]at ht';cases ht';exact⟨v0,rfl,rfl⟩
 have hblk:∀(e0:Ent) c,(e0.frz b size n ag).at E c=e0.at E c:=fun e0 c=>by cases e0 <;> rfl
 have hnew:∀k,(E.sl b).ownBlock=some k->C.w0.heap.size<=k:=hnew0 E S a w hs;refine⟨E,fun k=>S k/\(E.sl b).ownBlock≠some k,{dfr:=hs.dfr,nt:=hs.nt,cT:=fun k hk=>⟨hs.cT k hk,fun h=>?_⟩,cT0:=hs.cT0,cS:=fun k hk=>hs.cS k hk.1,lt:=fun k hk=>hs.lt k hk.1,tm:=fun t v ht=>?_,tid:=fun t v ht i hi=>?_,hp:=fun c e hc=>?_,aq:=fun c e hc i hi=>?_,blk:=fun c e k hc hk=>?_,sep:=fun c c' e e' k hne hc hc' hk=>?_,off:=hs.off,env:=fun c hc=>?_,gl:=hs.gl.sub fun k hk=>hk.1}⟩
 ·have h1:=hnew k h;have h2:=hs.cT0 k hk;omega
 ·obtain⟨v0,h1,rfl⟩:=htm t v ht;exact(hs.tm t v0 h1).frz f
 ·obtain⟨v0,h1,rfl⟩:=htm t v ht;exact hused i (hs.tid t v0 h1 i (v0.nK i hi))
 ·obtain⟨_,e0,h1,rfl⟩:=hkey c e hc;exact(hs.hp c e0 h1).frz f
 ·obtain⟨_,e0,h1,rfl⟩:=hkey c e hc;exact hused i (hs.aq c e0 h1 i (e0.nK i hi))
 ·obtain⟨hcb,e0,h1,rfl⟩:=hkey c e hc;rw[hblk]at hk;have h2:=hs.blk c e0 k h1 hk;exact⟨⟨h2.1,fun h=>hs.sep c b e0 _ k hcb h1 hb hk h⟩,h2.2⟩
 ·obtain⟨_,e0,h1,rfl⟩:=hkey c e hc;obtain⟨_,e1,h2,rfl⟩:=hkey c' e' hc';rw[hblk]at hk ⊢;exact hs.sep c c' e0 e1 k hne h1 h2 hk
 ·obtain⟨g1,g2,g3⟩:=hs.env c hc;exact⟨g1,g2,hused c g3⟩
def St.auL{n:Nat}(hB:∀k,¬C.B k)(hb:st.hp b= .ent (.row t size n ag)):St.le C st (st.frz b size n ag):=
 St.agD (fun E S a w hs k hk=>((hs.blk b _ k hb hk).2).resolve_left (hB k)) hb
def Slot.amt:Slot->Bool
 | .ent (.box _ _)=>true
 |_=>false
def St.amj{n:Nat}(hB:∀k,C.B k->k∈ps.map C.E0.blk)(hps:(ps.all fun p=>C.fix p&&(st.hp p).amt&&!Nat.beq p b)=true)(hb:st.hp b= .ent (.row t size n ag)):St.le C st (st.frz b size n ag):=
 St.agD (fun E S a w hs k hk=>((hs.blk b _ k hb hk).2).elim (fun hk'=>by
  obtain⟨p,hp,rfl⟩:=zqg.1 (hB k hk');have h1:=zqh.1 hps p hp;simp only[zx4]at h1;obtain⟨⟨h1,h2⟩,h3⟩:=h1;have hpb:p≠b:=fun e=>by subst e;simp at h3
  cases hh:st.hp p with
  |ent e=>
   rw[hh]at h2;cases e with
   |box t' cs=>
    refine absurd ?_ (hs.sep b p _ _ _ (fun e=>hpb e.symm) hb hh hk)
    show some (E.blk p)=_;rw[(hs.env p h1).1]
   |row _ _ _ _=>cases h2
   |abs _=>cases h2
  |free=>rw[hh]at h2;cases h2
  |gone=>rw[hh]at h2;cases h2) id) hb
def WP.abm{Q:Exit->St->Prop}{c:Code}(b:Nat){n:Nat}(hB:∀k,C.B k->k∈ps.map C.E0.blk)(hps:(ps.all fun p=>C.fix p&&(st.hp p).amt&&!Nat.beq p b)=true)(hb:st.hp b= .ent (.row t size n ag))(h:WP P C c (st.frz b size n ag) Q):WP P C c st Q:=
 WP.weaken (St.amj hB hps hb) h
def WP.freeze{Q:Exit->St->Prop}{c:Code}(b:Nat){n:Nat}(hB:∀k,¬C.B k)(hb:st.hp b= .ent (.row t size n ag))(h:WP P C c (st.frz b size n ag) Q):WP P C c st Q:=
 WP.weaken (St.auL hB hb) h
section
variable{P:Program}{C:Ctx}{st:St}
variable{ae aa:List Oper}{ab:List (List Nat×List Nat)}{K:List (List Nat×List Nat)->St->Prop}{an:Option Tmp}{ty t:TypeId}{x:Operand}
def uF{l:List Atom}{m:List CA}(h:aV l=some m):m.length=l.length:=by rw[dU h];simp
end
def apZ{α:Type}{f:α->CA}{l:List α}{i:Nat}{a:α}(h:l[i]? =some a):(((l.map f).drop (i*1)).take 1)[0]? =some (f a):=by
 rw[Nat.mul_one,zy9,if_pos zE,zv1];simp[h]
end
section
variable{P:Program}{C:Ctx}{st:St}
variable{ae aa:List Oper}{ab:List (List Nat×List Nat)}{K:List (List Nat×List Nat)->St->Prop}{an:Option Tmp}{d:Tmp}{op:Op}{ty t t':TypeId}{x y z:Operand}{k k':IntKind}{m n:Int}
def G.add{z:Int}(ai:Reg P C ae aa (st.app an ⟨.v (.int k z),[]⟩) (([],[])::ab) K)(hd:aC an C.nt=true:=by rfl)(hx:st.ev x=some (.v (.int k m)):=by rfl)(hy:st.ev y=some (.v (.int k n)):=by rfl)(hw:k.wrap (m+n)=z:=by first|(with_reducible assumption)|assumption|exact jO zE zE|exact pO zE zE|exact and1_i64 _|rfl):Go1 P C ae an (.binOp .add t x y t') ty aa st ab K:=
 Go1.add hd hx hy hw ai
def G.alloc{ag:List Value}[hz:fQ P t ag](ai:Reg P C ae aa (st.app (some d) ⟨.ptr d 0,[(d,.ent (.box t (ag.map fun v=>Atom.c (.val v))))]⟩) (([d],[d])::ab) K)(hd:aC (some d) C.nt=true:=by rfl)(hf:st.hp d= .free:=by rfl):Go1 P C ae (some d) (.alloc t) ty aa st ab K:=
 ⟨[d],⟨.ptr d 0,[(d,.ent (.box t (ag.map fun v=>Atom.c (.val v))))]⟩,fun o h2 h3 h4=>aT.alloc h2 hd hf (fun st' E S a w hev hs=>by
  obtain⟨z,hz1,hz2⟩:=mE hz.h w;refine⟨fun i hi=>?_,ag.toArray,?_,by simpa using lG ag⟩
  ·obtain⟨c,hc,hi⟩:=zx9.1 hi;obtain⟨v,_,rfl⟩:=zqg.1 hc;cases hi
  ·unfold execOp;rw[h3];simp[Instr.alloc,newVar,newRow,hz1,hz2]),ai⟩
def G.assign{x:Operand}{r:AV}(ai:Reg P C ae aa (st.app an ⟨r,[]⟩) (([],[])::ab) K)(hd:aC an C.nt=true:=by rfl)(hx:st.ev x=some r:=by rfl):Go1 P C ae an (.assign x) ty aa st ab K:=
 Go1.dz [] [] zp hd zp (fun o ho _ st' E S a w hev hs _=>by
  have hx':=hs.ev ((hev x (by simp[ho,Op.operands])).trans hx)
  exact⟨hx'.2,_,by unfold execOp;rw[ho];rfl,hx'.1⟩) ai
def G.box{v:AV0}(ai:Reg P C ae aa (st.app (some d) ⟨.ptr d 0,[(d,.ent (.box t v.cells))]⟩) (([d],[d])::ab) K)(hd:aC (some d) C.nt=true:=by rfl)(hx:st.ev x=some (.it v):=by rfl)(hf:st.hp d= .free:=by rfl)(h1:v.cells.all Atom.dN=true:=by rfl):Go1 P C ae (some d) (.box t x) ty aa st ab K:=
 ⟨[d],⟨.ptr d 0,[(d,.ent (.box t v.cells))]⟩,fun o h2 h3 h4=>aT.alloc h2 hd hf (fun st' E S a w hev hs=>by
  obtain⟨hv,hids⟩:=hs.ev ((hev x (by simp[h3,Op.operands])).trans hx)
  obtain⟨us,hc,hall,hone⟩:=AV0.has.cells hv h1;refine⟨fun i hi=>hids i (by rw[AV0.vC]at hi;exact hi),us.toArray,?_,by simpa using hall⟩
  unfold execOp;rw[h3];simp[Instr.box,newVar,newRow,hc]),ai⟩
def G.build{pl:List (Nat×Nat)}{zs:List Value}{parts:Array (Nat×Operand)}{ps:List (Nat×AV0)}{l:List Atom}[ht:dD P t pl][hz:fQ P t zs](ai:Reg P C ae aa (st.app (some d) ⟨.agg l,[]⟩) (([],[])::ab) K)(hd:aC (some d) C.nt=true:=by rfl)(hp:evp st parts.toList=some ps:=by rfl)(h1:(ps.all fun p=>p.2.cells.all Atom.dN)=true:=by rfl)(hf:gq pl (zs.map fun v=>Atom.c (.val v)) ps=some l:=by rfl):Go1 P C ae (some d) (.build t parts) ty aa st ab K:=
 Go1.build hd hp h1 hf ai
def G.aa5{pl:List (Nat×Nat)}{parts:Array (Nat×Operand)}{ps:List (Nat×AV0)}[ht:dD P t pl][hz:fQ P t zs](ai:Reg P C ae aa (st.app (some d) ⟨.agg [a1,a2],[]⟩) (([],[])::ab) K)(hd:aC (some d) C.nt=true:=by rfl)(hp:evp st parts.toList=some ps:=by rfl)(h1:(ps.all fun p=>p.2.cells.all Atom.dN)=true:=by rfl)(hf:gq pl (zs.map fun v=>Atom.c (.val v)) ps=some [a1,a2]:=by rfl):Go1 P C ae (some d) (.build t parts) ty aa st ab K:=Go1.build hd hp h1 hf ai
def G.aao{pl:List (Nat×Nat)}{parts:Array (Nat×Operand)}{ps:List (Nat×AV0)}[ht:dD P t pl][hz:fQ P t zs](ai:Reg P C ae aa (st.app (some d) ⟨.agg [a1,a2,a3],[]⟩) (([],[])::ab) K)(hd:aC (some d) C.nt=true:=by rfl)(hp:evp st parts.toList=some ps:=by rfl)(h1:(ps.all fun p=>p.2.cells.all Atom.dN)=true:=by rfl)(hf:gq pl (zs.map fun v=>Atom.c (.val v)) ps=some [a1,a2,a3]:=by rfl):Go1 P C ae (some d) (.build t parts) ty aa st ab K:=Go1.build hd hp h1 hf ai
def G.aa1{pl:List (Nat×Nat)}{parts:Array (Nat×Operand)}{ps:List (Nat×AV0)}[ht:dD P t pl][hz:fQ P t zs](ai:Reg P C ae aa (st.app (some d) ⟨.agg [a1,a2,a3,a4],[]⟩) (([],[])::ab) K)(hd:aC (some d) C.nt=true:=by rfl)(hp:evp st parts.toList=some ps:=by rfl)(h1:(ps.all fun p=>p.2.cells.all Atom.dN)=true:=by rfl)(hf:gq pl (zs.map fun v=>Atom.c (.val v)) ps=some [a1,a2,a3,a4]:=by rfl):Go1 P C ae (some d) (.build t parts) ty aa st ab K:=Go1.build hd hp h1 hf ai
def G.conv{k':IntKind}{z:Int}[h1:abd P t k][h2:abd P t' k'](ai:Reg P C ae aa (st.app an ⟨.v (.int k' z),[]⟩) (([],[])::ab) K)(hd:aC an C.nt=true:=by rfl)(hx:st.ev x=some (.v (.int k m)):=by rfl)(hw:k'.wrap m=z:=by first|(with_reducible assumption)|assumption|exact jO zE zE|exact pO zE zE|exact and1_i64 _|rfl):Go1 P C ae an (.convert t t' x) ty aa st ab K:=
 Go1.conv hd hx hw ai
def G.eql(ai:Reg P C ae aa (st.app an ⟨.v (.bool (decide (m=n))),[]⟩) (([],[])::ab) K)(hd:aC an C.nt=true:=by rfl)(hx:st.ev x=some (.v (.int k m)):=by rfl)(hy:st.ev y=some (.v (.int k n)):=by rfl):Go1 P C ae an (.binOp .eql t x y t') ty aa st ab K:=
 Go1.tF hd rfl hx hy (fun ρ o w ho h1 h2=>by
  unfold execOp;rw[ho];simp[h1,h2,eqGuard,binOp,Op.intCmp];by_cases e:m=n <;> simp[e]) ai
def G.apu{b c:Bool}[hb:ahG P t](ai:Reg P C ae aa (st.app an ⟨.v (.bool (b==c)),[]⟩) (([],[])::ab) K)(hd:aC an C.nt=true:=by rfl)(hx:st.ev x=some (.v (.bool b)):=by rfl)(hy:st.ev y=some (.v (.bool c)):=by rfl):Go1 P C ae an (.binOp .eql t x y t') ty aa st ab K:=
 Go1.tF hd rfl hx hy (fun ρ o w ho h1 h2=>by
  unfold execOp;rw[ho];have:=run_eql_bool (P:=P) w t b c hb.h;simp[h1,h2,eqGuard,this]) ai
def G.extract{l:List AV0}{i:Nat}{r:AV0}(ai:Reg P C ae aa (st.app an ⟨.it r,[]⟩) (([],[])::ab) K)(hd:aC an C.nt=true:=by rfl)(hx:st.ev x=some (.tup l):=by rfl)(hi:l[i]? =some r:=by rfl):Go1 P C ae an (.extract x i) ty aa st ab K:=
 Go1.dz [] [] zp hd zp (fun o ho _ st' E S a w hev hs _=>by
  obtain⟨⟨vs,hv,hall⟩,hids⟩:=hs.ev ((hev x (by simp[ho,Op.operands])).trans hx)
  obtain⟨v,h1,h2⟩:=hall.get hi;refine⟨fun j hj=>hids j (zx9.2 ⟨r,zq4 hi,hj⟩),v,?_,h2⟩
  unfold execOp;rw[ho];simp[hv,Instr.extract,h1]) ai
def G.fieldAddr{b off f o1:Nat}[ht:bB P t f o1](ai:Reg P C ae aa (st.app (some d) ⟨.ptr b (off+o1),[]⟩) (([],[])::ab) K)(hd:aC (some d) C.nt=true:=by rfl)(hx:st.ev x=some (.ptr b off):=by rfl):Go1 P C ae (some d) (.fieldAddr t x f) ty aa st ab K:=
 Go1.dz [] [] zp hd zp (fun o ho _ st' E S a w hev hs hrd=>by
  obtain⟨hv,hids⟩:=hs.ev ((hev x (by simp[ho,Op.operands])).trans hx)
  obtain⟨ft,h1,h2⟩:=ht.h;obtain⟨dd,hd1,hd2⟩:=Option.bind_eq_some_iff.1 h1;obtain⟨i,hi,hz⟩:=zya.1 h2;refine⟨fun i hi=>hids i hi,.pointer (some ⟨E.blk b,off+o1,none⟩),?_,rfl⟩
  cases dd <;> simp[xW]at hd2
  rename_i fs;obtain⟨fd,hfd,he1,he2⟩:=hd2;subst he1 he2;unfold execOp;rw[ho];have hsz:(Go.sizeOf fd.type).run P w= .ok i.size w:=by simp[Go.sizeOf,typeInfo,hi]
  simp[show a.eval x=_ from hv,Instr.fieldAt,Instr.sureAddr,run_underlying hd1,hfd,fieldPlace,hsz]
  simp at hz
  simp[hz,Addr.add_lit]) ai
def G.kX{f o1:Nat}{ag:List CA}[ht:bB P t f o1](ai:Reg P C ae aa (st.app an ⟨.r (dL (ag.drop o1)),[]⟩) (([],[])::ab) K)(hd:aC an C.nt=true:=by rfl)(hx:st.ev x=some (.r (dL ag)):=by rfl):Go1 P C ae an (.fieldAddr t x f) ty aa st ab K:=
 Go1.kX hd hx ai
def G.geq(ai:Reg P C ae aa (st.app an ⟨.v (.bool (decide (n<=m))),[]⟩) (([],[])::ab) K)(hd:aC an C.nt=true:=by rfl)(hx:st.ev x=some (.v (.int k m)):=by rfl)(hy:st.ev y=some (.v (.int k n)):=by rfl):Go1 P C ae an (.binOp .geq t x y t') ty aa st ab K:=
 Go1.tF hd rfl hx hy (fun ρ o w ho h1 h2=>by unfold execOp;rw[ho];simp[h1,h2,eqGuard,binOp,Op.intCmp]) ai
def G.gtr(ai:Reg P C ae aa (st.app an ⟨.v (.bool (decide (n < m))),[]⟩) (([],[])::ab) K)(hd:aC an C.nt=true:=by rfl)(hx:st.ev x=some (.v (.int k m)):=by rfl)(hy:st.ev y=some (.v (.int k n)):=by rfl):Go1 P C ae an (.binOp .gtr t x y t') ty aa st ab K:=
 Go1.tF hd rfl hx hy (fun ρ o w ho h1 h2=>by unfold execOp;rw[ho];simp[h1,h2,eqGuard,binOp,Op.intCmp]) ai
def G.kW{n i:Nat}[ht:bF P t e size](ai:Reg P C ae aa (st.app an ⟨.it (.one (.rptr b (i*size))),[]⟩) (([b],[])::ab) K)(hd:aC an C.nt=true:=by rfl)(hx:st.ev x=some (.own b):=by rfl)(hb:st.hp b= .ent (.row e size n ag):=by rfl)(hy:st.ev y=some (.v (.int k (i:Int))):=by rfl)(hi:i < n:=by omega):Go1 P C ae an (.indexAddr t x y) ty aa st ab K:=
 Go1.dz [(b,.row e size n ag)] [b] (fun c e' hc=>by simp at hc;simp[hc.1]) hd (fun c e' hc=>by simp at hc;obtain⟨rfl,rfl⟩:=hc;exact hb) (fun o ho _ st' E S a w hev hs hrd=>by
  obtain⟨⟨hxv,_⟩,aq⟩:=hs.ev ((hev x (by simp[ho,Op.operands])).trans hx)
  have hyv:a.eval y= .int k (i:Int):=(hs.ev ((hev y (by simp[ho,Op.operands])).trans hy)).1
  obtain⟨vs,hown,_⟩:=hs.hp b _ (hrd b _ zq9);have hsz:=run_sizeOf ht.s w;rcases hown.2 with⟨_,h0⟩|⟨g,am,cur,hv,_⟩
  ·omega
  ·refine⟨aq,.pointer (some ⟨g,i*size,none⟩),?_,g,n,am,hv,rfl⟩;unfold execOp;rw[ho];simp[hxv,hv,hyv,Instr.indexAt,asIntOf,run_underlying ht.h,hsz,Addr.add_lit,hi]) ai
def G.apq{oa:Option Addr}{n:Nat}[ht:bF P t e sz](ai:Reg P C ae aa (st.app an ⟨.v (.int .i64 (n:Int)),[]⟩) (([],[])::ab) K)(hd:aC an C.nt=true:=by rfl)(hx:st.ev x=some (.v (.slice oa n am)):=by rfl):Go1 P C ae an (.call ⟨.builtin .len,#[x],#[t]⟩) ty aa st ab K:=
 Go1.dz [] [] zp hd zp (fun o ho _ st' E S a w hev hs _=>by
  have hv:a.eval x= .slice oa n am:=(hs.ev ((hev x (by simp[ho,Op.operands,Call.operands])).trans hx)).1
  refine⟨fun i hi=>(by cases hi),.int .i64 (n:Int),?_,rfl⟩
  unfold execOp;rw[ho];simp[resolve,invoke,builtin,Builtin.len_,run_underlying ht.h,hv,goInt]) ai
def G.aoG{n:Nat}[ht:bF P t e sz](ai:Reg P C ae aa (st.app an ⟨.v (.int .i64 (n:Int)),[]⟩) (([b],[])::ab) K)(hd:aC an C.nt=true:=by rfl)(hx:st.ev x=some (.own b):=by rfl)(hb:st.hp b= .ent (.row e size n ag):=by rfl):Go1 P C ae an (.call ⟨.builtin .len,#[x],#[t]⟩) ty aa st ab K:=
 Go1.dz [(b,.row e size n ag)] [b] (fun c e' hc=>by simp at hc;simp[hc.1]) hd (fun c e' hc=>by simp at hc;obtain⟨rfl,rfl⟩:=hc;exact hb) (fun o ho _ st' E S a w hev hs hrd=>by
  obtain⟨⟨hxv,_⟩,_⟩:=hs.ev ((hev x (by simp[ho,Op.operands,Call.operands])).trans hx)
  obtain⟨vs,hown,_⟩:=hs.hp b _ (hrd b _ zq9);refine⟨fun i hi=>(by cases hi),.int .i64 (n:Int),?_,rfl⟩
  unfold execOp;rw[ho];rcases hown.2 with⟨hv,rfl⟩|⟨g,am,cur,hv,_⟩
  ·simp[resolve,invoke,builtin,Builtin.len_,run_underlying ht.h,hxv,hv,goInt]
  ·simp[resolve,invoke,builtin,Builtin.len_,run_underlying ht.h,hxv,hv,goInt]) ai
def G.aof{e:TypeId}{size sz n:Nat}{ag:List CA}{r:Rep}[ht:bF P t e sz][hr:jL r size n ag](ai:Reg P C ae aa (st.app an ⟨.v (.int .i64 (n:Int)),[]⟩) (([],[])::ab) K)(hd:aC an C.nt=true:=by rfl)(hx:st.ev x=some (.r r):=by rfl):Go1 P C ae an (.call ⟨.builtin .len,#[x],#[t]⟩) ty aa st ab K:=
 Go1.aof hd hx ai
def G.leq(ai:Reg P C ae aa (st.app an ⟨.v (.bool (decide (m<=n))),[]⟩) (([],[])::ab) K)(hd:aC an C.nt=true:=by rfl)(hx:st.ev x=some (.v (.int k m)):=by rfl)(hy:st.ev y=some (.v (.int k n)):=by rfl):Go1 P C ae an (.binOp .leq t x y t') ty aa st ab K:=
 Go1.tF hd rfl hx hy (fun ρ o w ho h1 h2=>by unfold execOp;rw[ho];simp[h1,h2,eqGuard,binOp,Op.intCmp]) ai
def G.anE{v:AV0}{m:List CA}[ht:bF P t e size][he:eZ P e zs bytes](ai:Reg P C ae aa (st.app an ⟨.r (aP size 1 m),[]⟩) (([],[])::ab) K)(hd:aC an C.nt=true:=by rfl)(hx:st.ev x=some (.it v):=by rfl)(hc:aV v.cells=some m:=by rfl)(hm:(Nat.beq m.length size&&Nat.ble size 1000&&v.cells.all Atom.dN)=true:=by rfl):Go1 P C ae an (.buildSlice t 1 #[(0,x)]) ty aa st ab K:=by
 simp only[zx4]at hm;obtain⟨⟨h1,h2⟩,h3⟩:=hm;have hl:m.length=size:=Nat.eq_of_beq_eq_true h1;have h2':size<=1000:=by simpa[zva]using h2
 have hvl:v.cells.length=size:=by rw[<-uF hc];exact hl
 refine Go1.uL (ps:=[(0,v)]) (l:=v.cells) (m:=m) hd (by simp only[evp,hx]) ?_ ?_ ?_ hc ?_ ai
 ·simp only[List.all_cons,List.all_nil,Bool.and_true,h3,Bool.true_and];rfl
 ·rw[Nat.one_mul,zva];omega
 ·have hpl:(placesOf 1 size)[0]? =some (0,size):=by simp[placesOf]
  have hz:((madeCells zs.toArray (1*size)).toList.map fun v=>Atom.c (.val v)).length=size:=by simp[size_madeCells]
  have e1:Nat.beq v.cells.length size=true:=by rw[hvl];exact Nat.beq_refl _
  simp only[gq,hpl];rw[hz,e1,zv7,show Nat.ble size size=true by rw[zva];exact zq6 _]
  simp only[Bool.and_self];rw[iX _ _ _ (by rw[hz,hvl];omega),hvl,List.take_zero,zvd,zv7,List.drop_of_length_le (by rw[hz];exact zq6 _),zqb]
 ·rw[hl,Nat.one_mul];exact Nat.beq_refl _
def G.aev{ag:List Atom}{c:Atom}[ht:iT P t](ai:Reg P C ae aa (st.app (some d) ⟨.it (.one c),[]⟩) (([b],[])::ab) K)(hd:aC (some d) C.nt=true:=by rfl)(hx:st.ev x=some (.ptr b off):=by rfl)(hb:st.hp b= .ent (.box T ag):=by rfl)(hr:ag[off]? =some c:=by rfl):Go1 P C ae (some d) (.load t x) ty aa st ab K:=
 Go1.dz [(b,.box T ag)] [b] zp hd (by simpa using hb) (fun o ho _ st' E S a w hev hs hrd=>by
  obtain⟨hv,_⟩:=hs.ev ((hev x (by simp[ho,Op.operands])).trans hx)
  have hb':=hrd b (.box T ag) zp
  obtain⟨cs,hg,hall⟩:=hs.hp b _ hb';obtain⟨u,hu,hcu⟩:=hall.get hr;refine⟨fun i hi=>hs.aq b _ hb' i (zx9.2 ⟨c,zq4 hr,hi⟩),u,?_,hcu⟩
  unfold execOp;rw[ho];simp[show a.eval x=_ from hv,Instr.loadAt,Instr.sureAddr,zA ht w hg hu]) ai
def G.aeQ{ag:List Atom}[ht:gZ P t 2](ai:Reg P C ae aa (st.app (some d) ⟨.agg [a1,a2],[]⟩) (([b],[])::ab) K)(hd:aC (some d) C.nt=true:=by rfl)(hx:st.ev x=some (.ptr b off):=by rfl)(hb:st.hp b= .ent (.box T ag):=by rfl)(hr:(ag.drop off).take 2=[a1,a2]:=by rfl):Go1 P C ae (some d) (.load t x) ty aa st ab K:=
 Go1.sJ hd hx hb (by have:=congrArg List.length hr;simp at this;rw[zva];omega) hr ai
def G.afi{ag:List Atom}[ht:gZ P t 3](ai:Reg P C ae aa (st.app (some d) ⟨.agg [a1,a2,a3],[]⟩) (([b],[])::ab) K)(hd:aC (some d) C.nt=true:=by rfl)(hx:st.ev x=some (.ptr b off):=by rfl)(hb:st.hp b= .ent (.box T ag):=by rfl)(hr:(ag.drop off).take 3=[a1,a2,a3]:=by rfl):Go1 P C ae (some d) (.load t x) ty aa st ab K:=
 Go1.sJ hd hx hb (by have:=congrArg List.length hr;simp at this;rw[zva];omega) hr ai
def G.ae1{ag:List Atom}[ht:gZ P t 4](ai:Reg P C ae aa (st.app (some d) ⟨.agg [a1,a2,a3,a4],[]⟩) (([b],[])::ab) K)(hd:aC (some d) C.nt=true:=by rfl)(hx:st.ev x=some (.ptr b off):=by rfl)(hb:st.hp b= .ent (.box T ag):=by rfl)(hr:(ag.drop off).take 4=[a1,a2,a3,a4]:=by rfl):Go1 P C ae (some d) (.load t x) ty aa st ab K:=
 Go1.sJ hd hx hb (by have:=congrArg List.length hr;simp at this;rw[zva];omega) hr ai
def G.zT{c:CA}{ag:List CA}[ht:iT P t](ai:Reg P C ae aa (st.app an ⟨.it (.one (.c c)),[]⟩) (([],[])::ab) K)(hd:aC an C.nt=true:=by rfl)(hx:st.ev x=some (.r (dL ag)):=by rfl)(hl:ag[0]? =some c:=by first|rfl|assumption|exact apZ (by assumption)|exact load_mapO (by assumption)):Go1 P C ae an (.load t x) ty aa st ab K:=
 Go1.zT hd hx hl ai
def G.zM[ht:gZ P t 2](ai:Reg P C ae aa (st.app an ⟨.agg [.c c1,.c c2],[]⟩) (([],[])::ab) K)(hd:aC an C.nt=true:=by rfl)(hx:st.ev x=some (.r (dL ag)):=by rfl)(hl:ag=[c1,c2]:=by rfl):Go1 P C ae an (.load t x) ty aa st ab K:=by
 subst hl;exact Go1.uJ hd hx rfl ai
def G.aat[ht:gZ P t 3](ai:Reg P C ae aa (st.app an ⟨.agg [.c c1,.c c2,.c c3],[]⟩) (([],[])::ab) K)(hd:aC an C.nt=true:=by rfl)(hx:st.ev x=some (.r (dL ag)):=by rfl)(hl:ag=[c1,c2,c3]:=by rfl):Go1 P C ae an (.load t x) ty aa st ab K:=by
 subst hl;exact Go1.uJ hd hx rfl ai
def G.aaq{c4:CA}[ht:gZ P t 4](ai:Reg P C ae aa (st.app an ⟨.agg [.c c1,.c c2,.c c3,.c c4],[]⟩) (([],[])::ab) K)(hd:aC an C.nt=true:=by rfl)(hx:st.ev x=some (.r (dL ag)):=by rfl)(hl:ag=[c1,c2,c3,c4]:=by rfl):Go1 P C ae an (.load t x) ty aa st ab K:=by
 subst hl;exact Go1.uJ hd hx rfl ai
def G.lss(ai:Reg P C ae aa (st.app an ⟨.v (.bool (decide (m < n))),[]⟩) (([],[])::ab) K)(hd:aC an C.nt=true:=by rfl)(hx:st.ev x=some (.v (.int k m)):=by rfl)(hy:st.ev y=some (.v (.int k n)):=by rfl):Go1 P C ae an (.binOp .lss t x y t') ty aa st ab K:=
 Go1.tF hd rfl hx hy (fun ρ o w ho h1 h2=>by unfold execOp;rw[ho];simp[h1,h2,eqGuard,binOp,Op.intCmp]) ai
def G.move{x:Operand}{r:AV}(ai:Reg P C ae aa (st.app an ⟨r,[]⟩) (([],[])::ab) K)(hd:aC an C.nt=true:=by rfl)(hx:st.ev x=some r:=by rfl):Go1 P C ae an (.move x) ty aa st ab K:=
 Go1.dz [] [] zp hd zp (fun o ho _ st' E S a w hev hs _=>by
  have hx':=hs.ev ((hev x (by simp[ho,Op.operands])).trans hx)
  exact⟨hx'.2,_,by unfold execOp;rw[ho];rfl,hx'.1⟩) ai
def G.mul{z:Int}(ai:Reg P C ae aa (st.app an ⟨.v (.int k z),[]⟩) (([],[])::ab) K)(hd:aC an C.nt=true:=by rfl)(hx:st.ev x=some (.v (.int k m)):=by rfl)(hy:st.ev y=some (.v (.int k n)):=by rfl)(hw:k.wrap (m*n)=z:=by first|(with_reducible assumption)|assumption|exact jO zE zE|exact pO zE zE|exact and1_i64 _|rfl):Go1 P C ae an (.binOp .mul t x y t') ty aa st ab K:=
 Go1.mul hd hx hy hw ai
def G.neg{z:Int}(ai:Reg P C ae aa (st.app an ⟨.v (.int k z),[]⟩) (([],[])::ab) K)(hd:aC an C.nt=true:=by rfl)(hx:st.ev x=some (.v (.int k m)):=by rfl)(hw:k.wrap (0 - m)=z:=by first|(with_reducible assumption)|assumption|exact jO zE zE|exact pO zE zE|exact and1_i64 _|rfl):Go1 P C ae an (.unOp .neg t x) ty aa st ab K:=
 Go1.val1 hd rfl hx (fun ρ o w ho h1=>by unfold execOp;rw[ho];simp only[h1,Op.unary,Op.intArith,hw];rfl) ai
def G.neq(ai:Reg P C ae aa (st.app an ⟨.v (.bool (decide (m≠n))),[]⟩) (([],[])::ab) K)(hd:aC an C.nt=true:=by rfl)(hx:st.ev x=some (.v (.int k m)):=by rfl)(hy:st.ev y=some (.v (.int k n)):=by rfl):Go1 P C ae an (.binOp .neq t x y t') ty aa st ab K:=
 Go1.tF hd rfl hx hy (fun ρ o w ho h1 h2=>by
  unfold execOp;rw[ho];simp[h1,h2,eqGuard,binOp,Op.intCmp];by_cases e:m=n <;> simp[e]) ai
def G.apl{b c:Bool}[hb:ahG P t](ai:Reg P C ae aa (st.app an ⟨.v (.bool (!(b==c))),[]⟩) (([],[])::ab) K)(hd:aC an C.nt=true:=by rfl)(hx:st.ev x=some (.v (.bool b)):=by rfl)(hy:st.ev y=some (.v (.bool c)):=by rfl):Go1 P C ae an (.binOp .neq t x y t') ty aa st ab K:=
 Go1.tF hd rfl hx hy (fun ρ o w ho h1 h2=>by
  unfold execOp;rw[ho];have:=run_neq_bool (P:=P) w t b c hb.h;simp[h1,h2,eqGuard,this]) ai
def G.not{b:Bool}(ai:Reg P C ae aa (st.app an ⟨.v (.bool (!b)),[]⟩) (([],[])::ab) K)(hd:aC an C.nt=true:=by rfl)(hx:st.ev x=some (.v (.bool b)):=by rfl):Go1 P C ae an (.unOp .not t x) ty aa st ab K:=
 Go1.val1 hd rfl hx (fun ρ o w ho h1=>by unfold execOp;rw[ho];simp[h1,Op.unary]) ai
def G.pick{x y c:Operand}{b:Bool}{r:AV}(ai:Reg P C ae aa (st.app an ⟨r,[]⟩) (([],[])::ab) K)(hd:aC an C.nt=true:=by rfl)(hc:st.ev c=some (.v (.bool b)):=by rfl)(hx:st.ev (match b with|true=>x|false=>y)=some r:=by rfl):Go1 P C ae an (.pick c x y) ty aa st ab K:=
 Go1.pick hd hc hx ai
def G.aj1{c:Operand}{t:Bool}{r:AV}(ai:Reg P C ae aa (st.app an ⟨r,[]⟩) (([],[])::ab) K)(hd:aC an C.nt=true:=by rfl)(hc:st.ev c=some (.v (.bool t)):=by rfl)(ht:t=false:=by first|(with_reducible assumption)|assumption)(hx:st.ev y=some r:=by rfl):Go1 P C ae an (.pick c x y) ty aa st ab K:=
 Go1.aj1 hd hc ht hx ai
def G.alo{c:Operand}{t:Bool}{r:AV}(ai:Reg P C ae aa (st.app an ⟨r,[]⟩) (([],[])::ab) K)(hd:aC an C.nt=true:=by rfl)(hc:st.ev c=some (.v (.bool t)):=by rfl)(ht:t=true:=by first|(with_reducible assumption)|assumption)(hx:st.ev x=some r:=by rfl):Go1 P C ae an (.pick c x y) ty aa st ab K:=
 Go1.alo hd hc ht hx ai
def G.rem{z:Int}(ai:Reg P C ae aa (st.app an ⟨.v (.int k z),[]⟩) (([],[])::ab) K)(hd:aC an C.nt=true:=by rfl)(hx:st.ev x=some (.v (.int k m)):=by rfl)(hy:st.ev y=some (.v (.int k n)):=by rfl)(h0:n≠0:=by omega)(hw:m.tmod n=z:=by first|(with_reducible assumption)|assumption|exact jO zE zE|exact pO zE zE|exact and1_i64 _|rfl):Go1 P C ae an (.binOp .rem t x y t') ty aa st ab K:=
 Go1.rem hd hx hy h0 hw ai
def G.store{b off n:Nat}{T:TypeId}{ag cells':List Atom}{v:AV0}(ai:Reg P C ae aa (st.app none ⟨.v undef,[(b,.ent (.box T cells'))]⟩) (([b],[b])::ab) K)(hs:(P.info? t).map (·.size)=some n:=by kernel_rfl)(hx:st.ev x=some (.ptr b off):=by rfl)(hy:st.ev y=some (.it v):=by rfl)(hb:st.hp b= .ent (.box T ag):=by rfl)(hn:v.cells.length=n:=by rfl)(hl:Nat.ble (off+n) ag.length=true:=by rfl)(h1:v.cells.all Atom.dN=true:=by rfl)(hr:spl ag off v.cells=cells':=by rfl):Go1 P C ae none (.store t x y) ty aa st ab K:=by
 refine⟨[b],⟨.v undef,[(b,.ent (.box T cells'))]⟩,fun o h2 h3 h4=>aT.eff [] [(b,.box T ag)] (fun i hi=>?_) (h2▸(fun x hx=>by cases hx)) (fun b e hb=>by cases hb) (fun i e hi=>?_) (fun i s hi=>?_) (fun i s hi=>?_) (fun st' E S a w hev hhp hse _ hpre=>?_),ai⟩
 ·rcases hi with⟨e,hi⟩|⟨e,hi⟩|⟨s,hi⟩
  ·cases hi
  ·simp at hi;simp[hi.1]
  ·simp at hi;simp[hi.1]
 ·simp at hi
  obtain⟨rfl,rfl⟩:=hi;exact⟨hb,_,by simp;rfl⟩
 ·simp at hi;obtain⟨rfl,_⟩:=hi;exact .inl ⟨Ent.box T ag,by simp⟩
 ·simp at hi;rw[hi.2];rfl
 ·obtain⟨hv,_⟩:=hse.ev ((hev x (by simp[h3,Op.operands])).trans hx)
  obtain⟨hu,hids⟩:=hse.ev ((hev y (by simp[h3,Op.operands])).trans hy)
  have hb':=hpre b (.box T ag) zp
  obtain⟨cs,hg,hall⟩:=hse.hp b _ hb';obtain⟨us,hc,hallu,hone⟩:=AV0.has.cells hu h1;have hlen:=hall.length;have hlu:=hallu.length;rw[zva]at hl;have hrun:=run_store (P:=P) (off:=off) (n:=n) hs hc zE w hg zE hone
  have hall':=aM.spl off hall hallu;rw[hr]at hall';have hE:=Eff.store (E:=E) (S:=S) (w:=w) (b:=b) (T:=T) (ag:=ag) (cells':=cells') (cs:=cs) (cs':=spl cs off us) (r:= .v undef) (v:=undef) hse.lt (hse.blk b _ _ hb' rfl).1 hg rfl hall';refine⟨⟨fun i hi=>(by cases hi),fun i e hi j hj=>?_⟩,fun K Q hK=>?_⟩
  ·simp at hi
   obtain⟨rfl,rfl⟩:=hi;have hj':j∈(ag.flatMap Atom.ids)\/j∈v.cells.flatMap Atom.ids:=by
    subst hr;obtain⟨c,hc1,hc2⟩:=zx9.1 hj;rw[iX _ _ _ zE]at hc1
    simp only[zyg]at hc1;rcases hc1 with(hc1|hc1)|hc1
    ·exact .inl (zx9.2 ⟨c,zv3 hc1,hc2⟩)
    ·exact .inr (zx9.2 ⟨c,hc1,hc2⟩)
    ·exact .inl (zx9.2 ⟨c,zw9 hc1,hc2⟩)
   by_cases e:j=i
   ·subst e;simp[fH,Slot.used]
   ·simp only[fH];rw[upd_ne _ _ e];rcases hj' with h5|h5
    ·exact hse.aq i _ hb' j h5
    ·exact hids j (by rw[AV0.vC]at h5;exact h5)
  ·unfold Oper.wp execOp;rw[h3];simp only[show a.eval x=_ from hv,Instr.storeAt,Instr.sureAddr,Sem.run_bind,Sem.run_pure,Result.andThen_ok,hrun]
   have:=hK undef _ _ _ hE;exact this
def G.sub{z:Int}(ai:Reg P C ae aa (st.app an ⟨.v (.int k z),[]⟩) (([],[])::ab) K)(hd:aC an C.nt=true:=by rfl)(hx:st.ev x=some (.v (.int k m)):=by rfl)(hy:st.ev y=some (.v (.int k n)):=by rfl)(hw:k.wrap (m - n)=z:=by first|(with_reducible assumption)|assumption|exact jO zE zE|exact pO zE zE|exact and1_i64 _|rfl):Go1 P C ae an (.binOp .sub t x y t') ty aa st ab K:=
 Go1.sub hd hx hy hw ai
end
section
def am7{b:Bool}(h:b=false):(!b)=true:=by rw[h];rfl
def alU{b:Bool}(h:b=true):(!b)=false:=by rw[h];rfl
class Con(P:Program)(f:FuncId)(ao:List AV)(pre:outParam Prop)(r:outParam AV):Prop where
 h:pre->ah P f ao r
def Con.use{pre:Prop}[c:Con P f ao pre r](h:pre):ah P f ao r:=c.h h
section
variable{P:Program}{C:Ctx}{st:St}{Q:Exit->St->Prop}
variable{ae aa:List Oper}{ab:List (List Nat×List Nat)}{K:List (List Nat×List Nat)->St->Prop}{an:Option Tmp}{d:Tmp}{op:Op}{ty t t':TypeId}{x y z:Operand}{k k':IntKind}{m n:Int}{pos:String}{af:Array Edge}{za zb zi zj:Int}
def jI(n:Nat):((OfNat.ofNat n:Int))=((OfNat.ofNat n:Nat):Int):=rfl
def evz{z:Int}(h:st.ev x=some (.v (.int k z)))(h0:z=z'):st.ev x=some (.v (.int k z')):=h0▸h
def G.call{f:FuncId}{as:Array Operand}{tys:Array TypeId}{ao:List AV}{r:AV}(ai:Reg P C ae aa (st.app an ⟨r,[]⟩) (([],[])::ab) K)(ha:evs st as.toList=some ao:=by rfl)(hc:ah P f ao r:=by first|(with_reducible assumption)|assumption|exact SX.Con.use (by first|trivial|omega|assumption|(refine⟨?_,?_⟩ <;> first|omega|assumption)|(refine⟨?_,?_,?_⟩ <;> first|omega|assumption)))(hd:aC an C.nt=true:=by rfl)(aq:r.ids=[]:=by rfl):Go1 P C ae an (.call ⟨.value (.func f),as,tys⟩) ty aa st ab K:=
 Go1.call ha hc hd aq ai
def agm{m:Nat}(h:m<=9223372036854775807):IntKind.i64.wrap (m:Int)=(m:Int):=jO zE zE
def ac3{m:Nat}(h:m<=18446744073709551615):IntKind.u64.wrap (m:Int)=(m:Int):=pO zE zE
class atl(k:IntKind)(b:outParam Nat):Prop where
 h:∀m:Nat,m<=b->k.wrap (m:Int)=(m:Int)
instance:atl .u64 18446744073709551615:=⟨fun _ h=>ac3 h⟩
def G.addN{a:Nat}(ai:Reg P C ae aa (st.app an ⟨.v (.int .i64 ((a+b:Nat):Int)),[]⟩) (([],[])::ab) K)(hd:aC an C.nt=true:=by rfl)(hx:st.ev x=some (.v (.int .i64 za)):=by rfl)(hx0:za=(a:Int):=by first|with_reducible rfl|exact SX.jI _|rfl)(hy:st.ev y=some (.v (.int .i64 zb)):=by rfl)(hy0:zb=(b:Int):=by first|with_reducible rfl|exact SX.jI _|rfl)(hb:a+b<=9223372036854775807:=by omega):Go1 P C ae an (.binOp .add t x y t') ty aa st ab K:=
 Go1.add hd (evz hx hx0) (evz hy hy0) (by rw[<-Int.natCast_add];exact agm hb) ai
def G.alL{a:Nat}(ai:Reg P C ae aa (st.app an ⟨.v (.int .u64 ((a+b:Nat):Int)),[]⟩) (([],[])::ab) K)(hd:aC an C.nt=true:=by rfl)(hx:st.ev x=some (.v (.int .u64 za)):=by rfl)(hx0:za=(a:Int):=by first|with_reducible rfl|exact SX.jI _|rfl)(hy:st.ev y=some (.v (.int .u64 zb)):=by rfl)(hy0:zb=(b:Int):=by first|with_reducible rfl|exact SX.jI _|rfl)(hb:a+b<=18446744073709551615:=by omega):Go1 P C ae an (.binOp .add t x y t') ty aa st ab K:=
 Go1.add hd (evz hx hx0) (evz hy hy0) (by rw[<-Int.natCast_add];exact ac3 hb) ai
def G.subN{a:Nat}(ai:Reg P C ae aa (st.app an ⟨.v (.int .i64 ((a - b:Nat):Int)),[]⟩) (([],[])::ab) K)(hd:aC an C.nt=true:=by rfl)(hx:st.ev x=some (.v (.int .i64 za)):=by rfl)(hx0:za=(a:Int):=by first|with_reducible rfl|exact SX.jI _|rfl)(hy:st.ev y=some (.v (.int .i64 zb)):=by rfl)(hy0:zb=(b:Int):=by first|with_reducible rfl|exact SX.jI _|rfl)(h1:b<=a:=by omega)(hb:a<=9223372036854775807:=by omega):Go1 P C ae an (.binOp .sub t x y t') ty aa st ab K:=
 Go1.sub hd (evz hx hx0) (evz hy hy0) (by rw[<-Int.ofNat_sub h1];exact agm zE) ai
def G.amF{a:Nat}(ai:Reg P C ae aa (st.app an ⟨.v (.int .u64 ((a - b:Nat):Int)),[]⟩) (([],[])::ab) K)(hd:aC an C.nt=true:=by rfl)(hx:st.ev x=some (.v (.int .u64 za)):=by rfl)(hx0:za=(a:Int):=by first|with_reducible rfl|exact SX.jI _|rfl)(hy:st.ev y=some (.v (.int .u64 zb)):=by rfl)(hy0:zb=(b:Int):=by first|with_reducible rfl|exact SX.jI _|rfl)(h1:b<=a:=by omega)(hb:a<=18446744073709551615:=by omega):Go1 P C ae an (.binOp .sub t x y t') ty aa st ab K:=
 Go1.sub hd (evz hx hx0) (evz hy hy0) (by rw[<-Int.ofNat_sub h1];exact ac3 zE) ai
def G.mulN{a:Nat}(ai:Reg P C ae aa (st.app an ⟨.v (.int .i64 ((a*b:Nat):Int)),[]⟩) (([],[])::ab) K)(hd:aC an C.nt=true:=by rfl)(hx:st.ev x=some (.v (.int .i64 za)):=by rfl)(hx0:za=(a:Int):=by first|with_reducible rfl|exact SX.jI _|rfl)(hy:st.ev y=some (.v (.int .i64 zb)):=by rfl)(hy0:zb=(b:Int):=by first|with_reducible rfl|exact SX.jI _|rfl)(hb:a*b<=9223372036854775807:=by first|omega|assumption):Go1 P C ae an (.binOp .mul t x y t') ty aa st ab K:=
 Go1.mul hd (evz hx hx0) (evz hy hy0) (by rw[<-Int.natCast_mul];exact agm hb) ai
def G.alA{a:Nat}(ai:Reg P C ae aa (st.app an ⟨.v (.int .u64 ((a*b:Nat):Int)),[]⟩) (([],[])::ab) K)(hd:aC an C.nt=true:=by rfl)(hx:st.ev x=some (.v (.int .u64 za)):=by rfl)(hx0:za=(a:Int):=by first|with_reducible rfl|exact SX.jI _|rfl)(hy:st.ev y=some (.v (.int .u64 zb)):=by rfl)(hy0:zb=(b:Int):=by first|with_reducible rfl|exact SX.jI _|rfl)(hb:a*b<=18446744073709551615:=by first|omega|assumption):Go1 P C ae an (.binOp .mul t x y t') ty aa st ab K:=
 Go1.mul hd (evz hx hx0) (evz hy hy0) (by rw[<-Int.natCast_mul];exact ac3 hb) ai
def G.an2{a:Nat}(ai:Reg P C ae aa (st.app an ⟨.v (.int .u64 ((a / b:Nat):Int)),[]⟩) (([],[])::ab) K)(hd:aC an C.nt=true:=by rfl)(hx:st.ev x=some (.v (.int .u64 za)):=by rfl)(hx0:za=(a:Int):=by first|with_reducible rfl|exact SX.jI _|rfl)(hy:st.ev y=some (.v (.int .u64 zb)):=by rfl)(hy0:zb=(b:Int):=by first|with_reducible rfl|exact SX.jI _|rfl)(h1:0 < b:=by omega)(hb:a<=18446744073709551615:=by omega):Go1 P C ae an (.binOp .quo t x y t') ty aa st ab K:=
 Go1.quo hd (evz hx hx0) (evz hy hy0) zE (by show _=_;exact ac3 (zxf (Nat.div_le_self ..) hb)) ai
def G.remN{a:Nat}(ai:Reg P C ae aa (st.app an ⟨.v (.int .i64 ((a % b:Nat):Int)),[]⟩) (([],[])::ab) K)(hd:aC an C.nt=true:=by rfl)(hx:st.ev x=some (.v (.int .i64 za)):=by rfl)(hx0:za=(a:Int):=by first|with_reducible rfl|exact SX.jI _|rfl)(hy:st.ev y=some (.v (.int .i64 zb)):=by rfl)(hy0:zb=(b:Int):=by first|with_reducible rfl|exact SX.jI _|rfl)(h1:0 < b:=by omega):Go1 P C ae an (.binOp .rem t x y t') ty aa st ab K:=
 Go1.rem hd (evz hx hx0) (evz hy hy0) zE (show ((a:Int)).tmod (b:Int)=((a % b:Nat):Int)from rfl) ai
def G.am5{a:Nat}(ai:Reg P C ae aa (st.app an ⟨.v (.int .u64 ((a % b:Nat):Int)),[]⟩) (([],[])::ab) K)(hd:aC an C.nt=true:=by rfl)(hx:st.ev x=some (.v (.int .u64 za)):=by rfl)(hx0:za=(a:Int):=by first|with_reducible rfl|exact SX.jI _|rfl)(hy:st.ev y=some (.v (.int .u64 zb)):=by rfl)(hy0:zb=(b:Int):=by first|with_reducible rfl|exact SX.jI _|rfl)(h1:0 < b:=by omega):Go1 P C ae an (.binOp .rem t x y t') ty aa st ab K:=
 Go1.rem hd (evz hx hx0) (evz hy hy0) zE (show ((a:Int)).tmod (b:Int)=((a % b:Nat):Int)from rfl) ai
def R.runT(h:Go1 P C ae an op ty aa st ab K)(ht:(ae[j]?).bind (·.dst)=some u:=by rfl)(hv:st.tm u=some (.v (.bool b')):=by rfl)(hb:b'=true:=by first|rfl|(with_reducible assumption)|assumption|exact decide_eq_true zE|exact SX.am7 (by first|(with_reducible assumption)|assumption|exact decide_eq_false zE)):Reg P C ae (⟨an,op,ty,pos,af,some (j,true)⟩::aa) st ab K:=
 Reg.goT ht hv hb h
def R.runF(h:Go1 P C ae an op ty aa st ab K)(ht:(ae[j]?).bind (·.dst)=some u:=by rfl)(hv:st.tm u=some (.v (.bool b')):=by rfl)(hb:b'=false:=by first|rfl|(with_reducible assumption)|assumption|exact decide_eq_false zE|exact SX.alU (by first|(with_reducible assumption)|assumption|exact decide_eq_true zE)):Reg P C ae (⟨an,op,ty,pos,af,some (j,false)⟩::aa) st ab K:=
 Reg.goT ht hv hb h
def R.amU(h:Reg P C ae aa (st.put an (some (.v undef))) (([],[])::ab) K)(ht:(ae[j]?).bind (·.dst)=some u:=by rfl)(hv:st.tm u=some (.v (.bool b')):=by rfl)(hb:b'=false:=by first|rfl|(with_reducible assumption)|assumption|exact decide_eq_false zE|exact SX.alU (by first|(with_reducible assumption)|assumption|exact decide_eq_true zE)):Reg P C ae (⟨an,op,ty,pos,af,some (j,true)⟩::aa) st ab K:=
 Reg.goF ht hv hb h
def R.alx(h:Reg P C ae aa (st.put an (some (.v undef))) (([],[])::ab) K)(ht:(ae[j]?).bind (·.dst)=some u:=by rfl)(hv:st.tm u=some (.v (.bool b')):=by rfl)(hb:b'=true:=by first|rfl|(with_reducible assumption)|assumption|exact decide_eq_true zE|exact SX.am7 (by first|(with_reducible assumption)|assumption|exact decide_eq_false zE)):Reg P C ae (⟨an,op,ty,pos,af,some (j,false)⟩::aa) st ab K:=
 Reg.goF ht hv hb h
def R.ae9{b:Bool}(h:Reg P C ae aa (st.put an (some (.v undef))) (([],[])::ab) K)(ht:(ae[j]?).bind (·.dst)=some u:=by rfl)(hv:st.tm u=some (.v undef):=by rfl):Reg P C ae (⟨an,op,ty,pos,af,some (j,b)⟩::aa) st ab K:=
 Reg.goU ht hv h
def W.an6{c:Operand}{a e:Code}(h:WP P C a st Q)(hc:st.ev c=some (.v (.bool b')):=by rfl)(hb:b'=true:=by first|rfl|(with_reducible assumption)|assumption|exact decide_eq_true zE|exact SX.am7 (by first|(with_reducible assumption)|assumption|exact decide_eq_false zE)):WP P C (.cond c a e) st Q:=
 WP.ayW hc hb h
def W.adK{c:Operand}{a e:Code}(h:WP P C e st Q)(hc:st.ev c=some (.v (.bool b')):=by rfl)(hb:b'=false:=by first|rfl|(with_reducible assumption)|assumption|exact decide_eq_false zE|exact SX.alU (by first|(with_reducible assumption)|assumption|exact decide_eq_true zE)):WP P C (.cond c a e) st Q:=
 WP.azf hc hb h
def W.ite{c:Operand}{a e:Code}{p:Prop}[Decidable p](h1:p->WP P C a st Q)(h2:¬p->WP P C e st Q)(hc:st.ev c=some (.v (.bool (decide p))):=by rfl):WP P C (.cond c a e) st Q:=
 WP.cond hc (fun h=>h1 (of_decide_eq_true h)) (fun h=>h2 (of_decide_eq_false h))
def W.gD{c:Operand}{a e:Code}{b:Bool}(h1:b=true->WP P C a st Q)(h2:b=false->WP P C e st Q)(hc:st.ev c=some (.v (.bool b)):=by rfl):WP P C (.cond c a e) st Q:=
 WP.cond hc h1 h2
def R.al2{c:Operand}(ai:Reg P C ae aa (st.app an ⟨r,[]⟩) (([],[])::ab) K)(hd:aC an C.nt=true:=by rfl)(hc:st.ev c=some (.v (.bool b')):=by rfl)(ht:b'=true:=by first|rfl|(with_reducible assumption)|assumption|exact decide_eq_true zE|exact SX.am7 (by first|(with_reducible assumption)|assumption|exact decide_eq_false zE))(hx:st.ev x=some r:=by rfl):Go1 P C ae an (.pick c x y) ty aa st ab K:=
 Go1.alo hd hc ht hx ai
def R.amW{c:Operand}(ai:Reg P C ae aa (st.app an ⟨r,[]⟩) (([],[])::ab) K)(hd:aC an C.nt=true:=by rfl)(hc:st.ev c=some (.v (.bool b')):=by rfl)(ht:b'=false:=by first|rfl|(with_reducible assumption)|assumption|exact decide_eq_false zE|exact SX.alU (by first|(with_reducible assumption)|assumption|exact decide_eq_true zE))(hx:st.ev y=some r:=by rfl):Go1 P C ae an (.pick c x y) ty aa st ab K:=
 Go1.aj1 hd hc ht hx ai
abbrev str(l:List UInt8):Value:= .string ⟨⟨l⟩⟩
def byt(l:List UInt8)(i:Nat):UInt8:=l.getD i 0
def aaR(l:List UInt8)(a b:Nat):(⟨⟨l⟩⟩:ByteArray).extract a b=⟨⟨(l.drop a).take (b - a)⟩⟩:=by
 apply ByteArray.ext
 rw[ByteArray.data_extract];apply Array.ext'
 simp[Array.toList_extract,List.extract_eq_take_drop]
def G.lenT[ht:acN P t](ai:Reg P C ae aa (st.app an ⟨.v (.int .i64 ((l.length:Nat):Int)),[]⟩) (([],[])::ab) K)(hd:aC an C.nt=true:=by rfl)(hx:st.ev x=some (.v (str l)):=by rfl):Go1 P C ae an (.call ⟨.builtin .len,#[x],#[t]⟩) ty aa st ab K:=
 Go1.auC hd hx ai
def G.zB[ht:acN P t](ai:Reg P C ae aa (st.app an ⟨.v (str (l.take j)),[]⟩) (([],[])::ab) K)(hd:aC an C.nt=true:=by rfl)(hx:st.ev x=some (.v (str l)):=by rfl)(hy:st.ev y=some (.v (.int k zj)):=by rfl)(hy0:zj=(j:Int):=by first|with_reducible rfl|exact SX.jI _|rfl)(h1:j<=l.length:=by omega):Go1 P C ae an (.slice t x none (some y) none) ty aa st ab K:=
 Go1.ug hd hx (evz hy hy0) zE (by show (j:Int)<=((l.length:Nat):Int);omega) (by rw[zw8,aaR,List.drop_zero,Nat.sub_zero];exact ai)
def G.xX[ht:acN P t](ai:Reg P C ae aa (st.app an ⟨.v (str (l.drop j)),[]⟩) (([],[])::ab) K)(hd:aC an C.nt=true:=by rfl)(hx:st.ev x=some (.v (str l)):=by rfl)(hy:st.ev y=some (.v (.int k zj)):=by rfl)(hy0:zj=(j:Int):=by first|with_reducible rfl|exact SX.jI _|rfl)(h1:j<=l.length:=by omega):Go1 P C ae an (.slice t x (some y) none none) ty aa st ab K:=
 Go1.uh hd hx (evz hy hy0) zE (by show (j:Int)<=((l.length:Nat):Int);omega) (by rw[zw8,aaR];rw[show (⟨⟨l⟩⟩:ByteArray).size - j=(l.drop j).length by rw[zxe];rfl,zy8];exact ai)
def G.agM{i:Nat}[ht:acN P t](ai:Reg P C ae aa (st.app an ⟨.v (.int .u8 ((byt l i).toNat:Int)),[]⟩) (([],[])::ab) K)(hd:aC an C.nt=true:=by rfl)(hx:st.ev x=some (.v (str l)):=by rfl)(hy:st.ev y=some (.v (.int k zi)):=by rfl)(hy0:zi=(i:Int):=by first|with_reducible rfl|exact SX.jI _|rfl)(hi:i < l.length:=by omega):Go1 P C ae an (.index t x y) ty aa st ab K:=
 Go1.acp hd hx (evz hy hy0) zE (b:=byt l i) (by
  rw[zw8];unfold byt;show (⟨⟨l⟩⟩:ByteArray)[i]? =_;rw[getElem?_pos _ i (by exact hi)]
  simp[zx7,hi];rfl) ai
def G.eqlT{m:List UInt8}(ai:Reg P C ae aa (st.app an ⟨.v (.bool (decide (l=m))),[]⟩) (([],[])::ab) K)(hd:aC an C.nt=true:=by rfl)(hx:st.ev x=some (.v (str l)):=by rfl)(hy:st.ev y=some (.v (str m)):=by rfl):Go1 P C ae an (.binOp .eql t x y t') ty aa st ab K:=
 Go1.eqlS hd hx hy (by
  have:((⟨⟨l⟩⟩:ByteArray).toList==(⟨⟨m⟩⟩:ByteArray).toList)=decide (l=m):=by
   rw[ByteArray.toList_eq,ByteArray.toList_eq];rw[zyc];simp
  rw[this];exact ai)
def G.neqT{m:List UInt8}(ai:Reg P C ae aa (st.app an ⟨.v (.bool (!decide (l=m))),[]⟩) (([],[])::ab) K)(hd:aC an C.nt=true:=by rfl)(hx:st.ev x=some (.v (str l)):=by rfl)(hy:st.ev y=some (.v (str m)):=by rfl):Go1 P C ae an (.binOp .neq t x y t') ty aa st ab K:=
 Go1.neqS hd hx hy (by
  have:((⟨⟨l⟩⟩:ByteArray).toList==(⟨⟨m⟩⟩:ByteArray).toList)=decide (l=m):=by
   rw[ByteArray.toList_eq,ByteArray.toList_eq];rw[zyc];simp
  rw[this];exact ai)
end
end
section
class dY{α:Type}(enc:α->List CA)(size:outParam Nat):Prop where
 h:∀a,(enc a).length=size
section
variable{α:Type}{enc:α->List CA}{size:Nat}
def abK[h:dY enc size]:∀l:List α,(l.flatMap enc).length=l.length*size
 |[]=>by simp
 |a::l=>by rw[zq7,zqi,h.h,abK l,zx6,zy5];omega
def abG[h:dY enc size]:∀{l:List α} {i:Nat} {a:α},l[i]? =some a->((l.flatMap enc).drop (i*size)).take size=enc a
 |[],i,a,hl=>by simp at hl
 |x::l,0,a,hl=>by
  simp at hl;subst hl
  rw[zw3,List.drop_zero,zq7,List.take_append_of_le_length (by rw[h.h];exact zq6 _),zxc (by rw[h.h];exact zq6 _)]
 |x::l,i+1,a,hl=>by
  simp at hl
  rw[zq7,zy5,Nat.one_mul,Nat.add_comm,List.drop_append,h.h];rw[List.drop_eq_nil_of_le (by rw[h.h];omega),zvd,show size+i*size - size=i*size by omega]
  exact abG hl
def bO{l:List α}{a:α}{m:List CA}(h:m=enc a):l.flatMap enc++m=(l++[a]).flatMap enc:=by
 rw[zvc,h];simp
def gU{a:α}{m:List CA}(h:m=enc a):m=[a].flatMap enc:=by rw[h];simp
def ae6[h:dY enc size](l:List α)(k:Nat):(l.flatMap enc).take (k*size)=(l.take k).flatMap enc:=by
 induction l generalizing k with
 |nil=>simp
 |cons a l ih=>
  cases k with
  |zero=>simp
  |succ k=>rw[List.take_succ_cons,zq7,zq7,zy5,Nat.one_mul,Nat.add_comm,List.take_append,zxc (by rw[h.h];omega),h.h,show size+k*size - size=k*size by omega,ih]
def anM[h:dY enc size](l:List α)(k:Nat):(l.flatMap enc).drop (k*size)=(l.drop k).flatMap enc:=by
 induction l generalizing k with
 |nil=>simp
 |cons a l ih=>
  cases k with
  |zero=>simp
  |succ k=>rw[List.drop_succ_cons,zq7,zy5,Nat.one_mul,Nat.add_comm,List.drop_append,List.drop_eq_nil_of_le (by rw[h.h];omega),h.h,show size+k*size - size=k*size by omega,ih,zvd]
def tN[h:dY enc size](l:List α)(i:Nat)(a:α)(hi:i < l.length):spl (l.flatMap enc) (i*size) (enc a)=(l.set i a).flatMap enc:=by
 have hl:=abK (enc:=enc) l;have hm:i*size+size<=l.length*size:=by rw[<-zv8];exact zx1 _ hi
 rw[iX _ _ _ (by rw[h.h,hl];omega),h.h,ae6,show i*size+size=(i+1)*size by rw[zv8],anM]
 rw[show l.set i a=l.take i++[a]++l.drop (i+1)by rw[List.set_eq_take_append_cons_drop,if_pos hi];simp]
 simp
end
abbrev aD{α:Type}(size:Nat)(enc:α->List CA)(l:List α):Rep:=aP size l.length (l.flatMap enc)
class afy(r:Rep)(size:outParam Nat){α:outParam Type}(enc:outParam (α->List CA))(l:outParam (List α)):Prop where
 h:∀S w v,r.has S w v->(aD size enc l).has S w v
instance{α:Type}(size:Nat)(enc:α->List CA)(l:List α):afy (aP size l.length (l.flatMap enc)) size enc l:=⟨fun _ _ _ h=>h⟩
def CA.akV{α:Type}{enc:α->List CA}(h:∀a,(enc a).all CA.dN=true)(l:List α):(l.flatMap enc).all CA.dN=true:=by
 induction l with
 |nil=>rfl
 |cons a l ih=>rw[zq7,List.all_append,h,ih];rfl
class ak7{α:Type}(enc:α->List CA):Prop where
 h:∀a,(enc a).all CA.dN=true
def ayF{α:Type}{enc:α->List CA}(l:List α)[h:ak7 enc]:(l.flatMap enc).all CA.dN=true:=CA.akV h.h l
section
variable{P:Program}{C:Ctx}{st:St}
variable{ae aa:List Oper}{ab:List (List Nat×List Nat)}{K:List (List Nat×List Nat)->St->Prop}{an:Option Tmp}{d:Tmp}{op:Op}{ty t t':TypeId}{x y z:Operand}{k k':IntKind}{i j:Nat}{za zb zi zj:Int}
def G.rH{α:Type}{enc:α->List CA}{l:List α}{a:α}{r:Rep}[ht:bF P t e size](ai:Reg P C ae aa (st.app an ⟨.r (dL (enc a)),[]⟩) (([],[])::ab) K)(hd:aC an C.nt=true:=by rfl)(hx:st.ev x=some (.r r):=by rfl)(hy:st.ev y=some (.v (.int k zi)):=by rfl)(hy0:zi=(i:Int):=by first|with_reducible rfl|exact SX.jI _|rfl)(hr:afy r sz enc l:=by infer_instance)(hsz:sz=size:=by rfl)(hz:dY enc size:=by infer_instance)(ha:l[i]? =some a:=by first|assumption|exact zyh zE):Go1 P C ae an (.indexAddr t x y) ty aa st ab K:=by
 subst hsz
 haveI:jL r sz l.length (l.flatMap enc):=⟨hr.h⟩
 have hi:i < l.length:=(zxg.1 ha).1
 refine Go1.lU (hd:=hd) hx (evz hy hy0) hi ?_;rw[abG ha];exact ai
def G.zk{α:Type}{enc:α->List CA}{l:List α}{r:Rep}[ht:bF P t e size](ai:Reg P C ae aa (st.app an ⟨.r (aD size enc (l.take j)),[]⟩) (([],[])::ab) K)(hd:aC an C.nt=true:=by rfl)(hx:st.ev x=some (.r r):=by rfl)(hy:st.ev y=some (.v (.int k zj)):=by rfl)(hy0:zj=(j:Int):=by first|with_reducible rfl|exact SX.jI _|rfl)(hr:afy r sz enc l:=by infer_instance)(hsz:sz=size:=by rfl)(hz:dY enc size:=by infer_instance)(h1:j<=l.length:=by omega):Go1 P C ae an (.slice t x none (some y) none) ty aa st ab K:=by
 subst hsz
 haveI:jL r sz l.length (l.flatMap enc):=⟨hr.h⟩
 refine Go1.uo (hd:=hd) hx (evz hy hy0) zE zE ?_
 rw[zw8,ae6];have e:(l.take j).length=j:=by rw[zx3];omega
 have:=ai
 unfold aD at this
 rwa [e]at this
def G.maxN{tys:Array TypeId}(ai:Reg P C ae aa (st.app an ⟨.v (.int k ((max i j:Nat):Int)),[]⟩) (([],[])::ab) K)(hd:aC an C.nt=true:=by rfl)(hx:st.ev x=some (.v (.int k zi)):=by rfl)(hx0:zi=(i:Int):=by first|with_reducible rfl|exact SX.jI _|rfl)(hy:st.ev y=some (.v (.int k zj)):=by rfl)(hy0:zj=(j:Int):=by first|with_reducible rfl|exact SX.jI _|rfl):
  Go1 P C ae an (.call ⟨.builtin .max,#[x,y],tys⟩) ty aa st ab K:=
 Go1.tF hd rfl (evz hx hx0) (evz hy hy0) (fun ρ o w ho h1 h2=>by
  unfold execOp;rw[ho];have e:(if(i:Int) < (j:Int)then(j:Int)else(i:Int))=((max i j:Nat):Int):=by split <;> omega
  simp only[resolve,invoke,builtin,List.map_toArray,zy6,List.map_nil,Sem.run_bind,Sem.run_pure,Result.andThen_ok];rw[show ρ x=_ from h1,show ρ y=_ from h2,run_max_int2]
  simp only[Result.andThen_ok,gt_iff_lt,e]) ai
def Eff.auj{g:Nat}{n:Nat}{cs':Array Value}{vs':List Value}(hl:∀k,S k->k < w.heap.size)(hS:S g)(hg:E.sl b= .slice (some ⟨g,0,none⟩) n am)(hlt:g < w.heap.size)(hr:r.has E S w v)(hown:(w.setRow g cs').ownsRow 0 e size (E.sl b) n vs')(hcs:aM (CA.has S w) cells' vs'):Eff E S w [(b,.row e size n ag)] ⟨r,[(b,.ent (.row e size n cells'))]⟩ v (w.setRow g cs') E S:=by
 have ho:Off S w (w.setRow g cs'):=Off.setRow w _ _ hS;have hbk:(E.sl b).ownBlock=some g:=by rw[hg];rfl
 refine
  {env:=fun i hi=>⟨rfl,rfl⟩,fpe:=fun _ _=>rfl,sub:=fun k hk=>hk,new:=fun k hk=> .inl hk,lt:=fun k hk=>zqf (hl k hk) ho.size,off:=Off.setRow w _ _ ⟨b,_,zq9,hbk⟩,
   res:=hr.step (fun _ _=>⟨rfl,rfl⟩) ho (fun k hk=> .inl hk),ents:=fun i e' hi=>?_,blk:=fun i e' k hi hk=>?_,sep:=fun i i' e' e2 k hne h1 h2=>?_}
 ·simp at hi;obtain⟨rfl,rfl⟩:=hi
  exact⟨vs',hown,hcs.mono fun c u _ hc=>hc.step ho (fun k hk=> .inl hk)⟩
 ·simp at hi;obtain⟨rfl,rfl⟩:=hi
  have:k=g:=by have h2:(E.sl i).ownBlock=some k:=hk;rw[hbk]at h2;cases h2;rfl
  subst this;exact⟨hS,.inl ⟨i,_,zq9,hbk⟩⟩
 ·simp at h1 h2;exact absurd (h1.1.trans h2.1.symm) hne
def Go1.aaz{n:Nat}{v:AV0}(hs:(P.info? t).map (·.size)=some m)(hx:st.ev x=some (.it (.one (.rptr b off))))(hy:st.ev y=some (.it v))(hb:st.hp b= .ent (.row e size n ag))(hn:v.cells.length=m)(hl:off+m<=n*size)(h1:v.cells.all Atom.dN=true)(hc:aV v.cells=some cells2)(hr:spl ag off cells2=cells')(ai:Reg P C ae aa (st.app none ⟨.v undef,[(b,.ent (.row e size n cells'))]⟩) (([b],[b])::ab) K):Go1 P C ae none (.store t x y) ty aa st ab K:=by
 refine⟨[b],⟨.v undef,[(b,.ent (.row e size n cells'))]⟩,fun o h2 h3 h4=>aT.eff [] [(b,.row e size n ag)] (fun i hi=>?_) (h2▸(fun x hx=>by cases hx)) (fun b e hb=>by cases hb) (fun i e hi=>?_) (fun i s hi=>?_) (fun i s hi=>?_) (fun st' E S a w hev hhp hse _ hpre=>?_),ai⟩
 ·rcases hi with⟨e,hi⟩|⟨e,hi⟩|⟨s,hi⟩
  ·cases hi
  ·simp at hi;simp[hi.1]
  ·simp at hi;simp[hi.1]
 ·simp at hi
  obtain⟨rfl,rfl⟩:=hi;exact⟨hb,_,by simp;rfl⟩
 ·simp at hi;obtain⟨rfl,_⟩:=hi;exact .inl ⟨_,by simp;rfl⟩
 ·simp at hi;rw[hi.2];rfl
 ·obtain⟨⟨g,n',cap',hE1,hv⟩,_⟩:=hse.ev ((hev x (by simp[h3,Op.operands])).trans hx)
  obtain⟨hu,hids⟩:=hse.ev ((hev y (by simp[h3,Op.operands])).trans hy)
  have hb':=hpre b (.row e size n ag) zp
  obtain⟨vs,hown,hall⟩:=hse.hp b _ hb';obtain⟨us,hc',hallu,hone⟩:=AV0.has.cells hu h1;have hlu:=hallu.length;have hcl:=dU hc;rw[hcl]at hallu;have hallu':aM (CA.has S w) cells2 us:=by
   clear hcl hc hr ai hlu hc' hone
   induction cells2 generalizing us with
   |nil=>cases us with|nil=>trivial|cons _ _=>exact hallu.elim
   |cons c l ih=>cases us with|nil=>exact hallu.elim|cons u us=>exact⟨hallu.1,ih us hallu.2⟩
  have hown0:=hown;obtain⟨hxl,⟨he,_⟩|⟨g2,am,cur,he,_,hg,hnc,hcm,hcs,htk⟩⟩:=hown
  ·rw[hE1]at he;cases he
  rw[hE1]at he;cases he;have hlen:off+us.length<=cur.toList.length:=by
   have:n*size<=cap'*size:=zx1 _ hnc;have hcz:cur.toList.length=cur.size:=zw6;omega
  have hrun:=run_store (P:=P) (off:=off) (n:=m) (cs:=cur.toList) (T:=e) (g:=g) hs hc' zE w (by simpa using hg) zE hone
  have hsp:=iX cur.toList off us hlen;have hsz:(Array.mk us).size=us.length:=rfl;have hcz:cur.toList.length=cur.size:=zw6;have hmu:us.length=m:=zE
  have hown':(w.setRow g (spl cur.toList off us).toArray).ownsRow 0 e size (E.sl b) n (spl vs off us):=by
   have hvl:vs.length=n*size:=hxl;refine⟨?_,.inr ⟨g,cap',(spl cur.toList off us).toArray,hE1,zq8 _,?_,hnc,hcm,?_,?_⟩⟩
   ·rw[iX _ _ _ zE];simp;omega
   ·exact setRow_heap w g _ _ _ _ hg
   ·rw[hsp];simp;omega
   ·rw[iX vs off us zE,hsp,<-htk]
    simp only[List.take_append,zx3,zqi,zxe,zw6,List.drop_take,List.take_take];have e1:min (n*size) off=off:=zE
    have e2:min off cur.size=off:=by rw[zw6]at hlen;omega
    have e3:min off (n*size)=off:=zE
    rw[e1,e2,e3];rw[zxc (l:=us) zE]
  have hgl:g < w.heap.size:=by rw[Array.getElem?_eq_some_iff]at hg;exact hg.1
  have hcs2:aM (CA.has S w) cells' (spl vs off us):=by
   rw[<-hr];exact aM.spl off hall hallu'
  have hE:=Eff.auj (E:=E) (S:=S) (w:=w) (b:=b) (g:=g) (am:=cap') (e:=e) (size:=size) (n:=n) (ag:=ag) (cells':=cells') (r:= .v undef) (v:=undef) hse.lt (hse.blk b _ g hb' (by show (E.sl b).ownBlock=some g;rw[hE1];rfl)).1 hE1 hgl rfl hown' hcs2
  refine⟨⟨fun i hi=>(by cases hi),fun i e hi j hj=>?_⟩,fun K Q hK=>?_⟩
  ·simp at hi
   obtain⟨rfl,rfl⟩:=hi;cases hj
  ·unfold Oper.wp execOp;rw[h3];simp only[show a.eval x=_ from hv,Instr.storeAt,Instr.sureAddr,Sem.run_bind,Sem.run_pure,Result.andThen_ok,hrun]
   have:=hK undef _ _ _ hE;exact this
def G.abF{n:Nat}{r:Rep}[ht:bF P t e size][he:eZ P e zs bytes](ai:Reg P C ae aa (st.app (some d) ⟨.own d,[(b,.gone),(d,.ent (.row e size (n+m) (ag++cells2)))]⟩) (([b,d],[b,d])::ab) K)(hd:aC (some d) C.nt=true:=by rfl)(hx:st.ev x=some (.own b):=by rfl)(hy:st.ev y=some (.r r):=by rfl)(hr:jL r size m cells2:=by infer_instance)(hb:st.hp b= .ent (.row e size n ag):=by rfl)(hf:st.hp d= .free:=by rfl)(hz:Nat.beq zs.length size=true:=by rfl)(h1:cells2.all CA.dN=true:=by first|rfl|exact SX.ayF _)(h63:n+m<=9223372036854775807:=by omega)(hbytes:(n+m)*bytes<=140737488355328:=by omega):Go1 P C ae (some d) (.call ⟨.builtin .append,#[x,y],#[t,t]⟩) ty aa st ab K:=by
 have hbd:d≠b:=by rintro rfl;rw[hf]at hb;cases hb
 refine⟨[b,d],_,fun o h2 h3 h4=>aT.eff [] [(b,.row e size n ag)] (fun c hc=>?_) (h2▸dP hd) (fun c e hc=>by cases hc) (fun c e hc=>?_) (fun c s hc=>?_) (fun c s hc=>?_) (fun st' E S a w hev hhp hs _ hpre=>?_),ai⟩
 ·rcases hc with⟨e,hc⟩|⟨e,hc⟩|⟨s,hc⟩
  ·cases hc
  ·simp at hc;simp[hc.1]
  ·simp at hc;rcases hc with hc|hc <;> simp[hc.1]
 ·simp at hc;obtain⟨rfl,rfl⟩:=hc;exact⟨hb,_,zq9⟩
 ·simp at hc;rcases hc with⟨rfl,rfl⟩|⟨rfl,rfl⟩
  ·exact .inl ⟨_,zq9⟩
  ·exact .inr hf
 ·simp at hc;rcases hc with⟨rfl,rfl⟩|⟨rfl,rfl⟩ <;> rfl
 ·obtain⟨⟨hxv,_⟩,_⟩:=hs.ev ((hev x (by simp[h3,Op.operands,Call.operands])).trans hx)
  obtain⟨hyv,_⟩:=hs.ev ((hev y (by simp[h3,Op.operands,Call.operands])).trans hy)
  have hbe:=hpre b _ zq9;obtain⟨vs,hown,hvs⟩:=hs.hp b _ hbe;obtain⟨v',w',news,h5,h6,h7,h8,h9⟩:=uj (P:=P) w t o.type e zs size bytes ht.h he ht.s (Nat.eq_of_beq_eq_true hz) (E.sl b) n vs hown (hr.h _ _ _ hyv) h1 (by simp only[maxLen];omega) hbytes
  refine⟨⟨fun i hi=>?_,fun c e hc i hi=>?_⟩,fun K Q hK=>?_⟩
  ·simp[AV.ids,AV0.ids,Atom.ids]at hi;subst hi;simp[fH,Slot.used]
  ·simp at hc
   obtain⟨rfl,rfl⟩:=hc;cases hi
  ·have hE:=Eff.row (E:=E) (S:=S) (b:=d) (pre:=[(b,.row e size n ag)]) (gones:=[(b,.gone)]) hs.lt
    (fun c e' k hc hk=>by simp at hc;obtain⟨rfl,rfl⟩:=hc;exact(hs.blk _ _ k hbe hk).1)
    (fun e' hc=>by simp at hc;exact hbd hc.1)
    (fun c s hc=>by simp at hc;obtain⟨rfl,rfl⟩:=hc;exact⟨rfl,_,zq9⟩)
    (nS h7 (fun k hk=>⟨b,_,zq9,hk⟩)) h6 (aib hvs h9)
    (fun k hk=>(h8 k hk).imp (fun h=>⟨b,_,zq9,h⟩) id)
   unfold Oper.wp;have hrun:(execOp a.eval o).run P w= .ok (.value v') w':=by
    unfold execOp;rw[h3];simp[resolve,invoke,builtin,hxv,h5]
   rw[hrun];exact hK _ _ _ _ hE
def G.rE{n:Nat}{r:Rep}[ht:bF P t e size](ai:Reg P C ae aa (st.app an ⟨.r (dL ((ag.drop (i*size)).take size)),[]⟩) (([],[])::ab) K)(hd:aC an C.nt=true:=by rfl)(hx:st.ev x=some (.r r):=by rfl)(hr:jL r size n ag:=by infer_instance)(hy:st.ev y=some (.v (.int k zi)):=by rfl)(hy0:zi=(i:Int):=by first|with_reducible rfl|exact SX.jI _|rfl)(hi:i < n:=by omega):Go1 P C ae an (.indexAddr t x y) ty aa st ab K:=
 Go1.lU (hd:=hd) hx (evz hy hy0) hi ai
end
end
section
section
end
section
variable{P:Program}{C:Ctx}{st:St}
variable{ae aa:List Oper}{ab:List (List Nat×List Nat)}{K:List (List Nat×List Nat)->St->Prop}{an:Option Tmp}{op:Op}{ty:TypeId}{pos:String}{af:Array Edge}
def R.ite{b:Bool}{p:Prop}[Decidable p](h1:p->Reg P C ae (⟨an,op,ty,pos,af,some (j,b)⟩::aa) st ab K)(h2:¬p->Reg P C ae (⟨an,op,ty,pos,af,some (j,b)⟩::aa) st ab K)(ht:(ae[j]?).bind (·.dst)=some u:=by rfl)(hv:st.tm u=some (.v (.bool (decide p))):=by rfl):Reg P C ae (⟨an,op,ty,pos,af,some (j,b)⟩::aa) st ab K:=
 (Decidable.em p).elim h1 h2
def R.gD{b:Bool}(h1:b'=true->Reg P C ae (⟨an,op,ty,pos,af,some (j,b)⟩::aa) st ab K)(h2:b'=false->Reg P C ae (⟨an,op,ty,pos,af,some (j,b)⟩::aa) st ab K)(ht:(ae[j]?).bind (·.dst)=some u:=by rfl)(hv:st.tm u=some (.v (.bool b')):=by rfl):Reg P C ae (⟨an,op,ty,pos,af,some (j,b)⟩::aa) st ab K:=by
 cases b'
 ·exact h2 rfl
 ·exact h1 rfl
end
section
variable{P:Program}{C:Ctx}{st:St}{Q:Exit->St->Prop}{c:Code}
def St.lt0{l:List (Nat×AV)}{m:List (Nat×Ent)}(hfix:∀b,C.fix b=true->lk ([]:List (Nat×Option Nat)) b=none/\(lk m b).isSome=true)(ht:ajF st [] l)(hm:acQ st [] m)(hti:tidy [] l m=true):St.le C st (gL l m):=St.aS _ hfix ht hm hti
def St.ltn{l:List (Nat×AV)}{m:List (Nat×Ent)}(hfix:∀b,C.fix b=true->lk ([(100,none)]:List (Nat×Option Nat)) b=none/\(lk m b).isSome=true)(ht:ajF st [(100,none)] l)(hm:acQ st [(100,none)] m)(hti:tidy [(100,none)] l m=true):St.le C st (gL l m):=St.aS _ hfix ht hm hti
def St.lt1{o:Nat}{l:List (Nat×AV)}{m:List (Nat×Ent)}(hfix:∀b,C.fix b=true->lk ([(100,some o)]:List (Nat×Option Nat)) b=none/\(lk m b).isSome=true)(ht:ajF st [(100,some o)] l)(hm:acQ st [(100,some o)] m)(hti:tidy [(100,some o)] l m=true):St.le C st (gL l m):=St.aS _ hfix ht hm hti
def aF.int{ρ:List (Nat×Option Nat)}{k:IntKind}{z z':Int}(e:z=z'):aF ρ (.v (.int k z)) (.v (.int k z')):=aF.eq (by rw[e]) rfl
def aF.str{ρ:List (Nat×Option Nat)}{l l':List UInt8}(e:l=l'):aF ρ (.v (str l)) (.v (SX.str l')):=aF.eq (by rw[e]) rfl
def WP.monoC{Q':Exit->St->Prop}(h:WP P C c st Q)(k:∀e s,Q e s->∃s',St.le C s s'/\Q' e s'):WP P C c st Q':=
 fun a w hs=>wp_mono (h a w hs) fun e a w ⟨s,hq,hs⟩=>by
  obtain⟨s',hl,hq'⟩:=k e s hq;exact⟨s',hq',hl a w hs⟩
def aJ(C:Ctx)(P:Program)(rs:List ResultVar)(out:Out)(st:St):Prop:=∃st',St.le C st st'/\aA P rs out st'
def aZ(C:Ctx)(P:Program)(rs:List ResultVar)(out:Out):Exit->St->Prop
 | .ret,st=>aJ C P rs out st
 | .normal,st=>aJ C P rs out st
 |_,_=>False
def St.le.refl(C:Ctx)(st:St):St.le C st st:=fun _ _ h=>h
def WP.aZ{rs:List ResultVar}{out:Out}(h:WP P C c st (aZ C P rs out)):WP P C c st (bD P rs out):=
 h.monoC fun e s hq=>match e,hq with
  | .ret,⟨s',hl,hr⟩=>⟨s',hl,hr⟩
  | .normal,⟨s',hl,hr⟩=>⟨s',hl,hr⟩
def axC{rs:List ResultVar}{out:Out}(h:aJ C P rs out st):aZ C P rs out .ret st:=h
def axQ{rs:List ResultVar}{out:Out}(h:aJ C P rs out st):aZ C P rs out .normal st:=h
def aJ.ok{rs:List ResultVar}{out:Out}(h:aA P rs out st):aJ C P rs out st:=⟨st,St.le.refl _ _,h⟩
def aJ.frz{rs:List ResultVar}{out:Out}(b:Nat){n:Nat}(h:aJ C P rs out (st.frz b size n ag))(hB:∀k,¬C.B k:=by assumption)(hb:st.hp b= .ent (.row t size n ag):=by rfl):aJ C P rs out st:=by
 obtain⟨s',hl,hr⟩:=h;exact⟨s',fun a w hs=>hl a w (St.auL hB hb a w hs),hr⟩
def AV0.imp.of_eq{x:AV0}(h:x=y):x.imp y:=h▸AV0.imp.refl x
def imp_nil:AV0.imp (.one (.c (.val (.slice none 0 0)))) (.one (.c (.sat (aP size 0 [])))):=fun E S w v h=>by
 rw[show v=_ from h]
 exact bQ.2 ⟨none,0,rfl,zq6 _,by simp[maxLen],fun _=>rfl,by simp,fun i c hc=>by simp at hc⟩
def ah.fnF{fn:Func}{c:Code}{rs:List ResultVar}(hf:P.funcs[f]? =some fn)(hres:fn.results=rs.toArray)(hnt:fn.ntmps=nt)(hb:fn.body=some c)(hn:(fn.name== "runtime.NumGoroutine")=false)(hna:Nat.ble ao.length nt=true)(haid:∀v∈ao,v.ids=[])(hr:r.ids=[])(h:∀(w0:World) (T B:Nat->Prop) (E0:Env),(∀k,¬B k)->WP P ⟨w0,T,B,nt,E0,fun _=>false⟩ c ⟨fun t=>ao[t]?,fun _=> .free⟩ (SX.aZ ⟨w0,T,B,nt,E0,fun _=>false⟩ P rs ⟨r,[]⟩)):ah P f ao r:=
 ah.fn hf hres hnt hb hn hna haid hr fun w0 T B E0 hB=>WP.aZ (h w0 T B E0 hB)
def ah.fq{fn:Func}{c:Code}{rs:List ResultVar}(hf:P.funcs[f]? =some fn)(h:∀(w0:World) (T B:Nat->Prop) (E0:Env),(∀k,¬B k)->WP P ⟨w0,T,B,nt,E0,fun _=>false⟩ c ⟨fun t=>ao[t]?,fun _=> .free⟩ (SX.aZ ⟨w0,T,B,nt,E0,fun _=>false⟩ P rs ⟨r,[]⟩))(hres:fn.results=rs.toArray:=by rfl)(hnt:fn.ntmps=nt:=by rfl)(hb:fn.body=some c:=by rfl)(hn:(fn.name== "runtime.NumGoroutine")=false:=by rfl)(hna:Nat.ble ao.length nt=true:=by rfl)(haid:∀v∈ao,v.ids=[]:=by simp[SX.AV.ids,SX.AV0.ids,SX.Atom.ids])(hr:r.ids=[]:=by rfl):ah P f ao r:=ah.fnF hf hres hnt hb hn hna haid hr h
def agr{t:Tmp}{x:AV0}(e:x=y)(h:st.tm t=some (.it x):=by rfl):aJ C P [.tmp t] ⟨.it y,[]⟩ st:= .ok (aA.eq1 (aj.tmp h) e)
def aaH{t:Tmp}{x:AV0}(e:x.imp y)(h:st.tm t=some (.it x):=by rfl):aJ C P [.tmp t] ⟨.it y,[]⟩ st:= .ok (aA.mk1 ((aj.tmp h).imp e))
def dZ{t:Tmp}{k:IntKind}{z:Int}(e:z=z')(h:st.tm t=some (.v (.int k z)):=by rfl):aJ C P [.tmp t] ⟨.v (.int k z'),[]⟩ st:= .ok (aA.eq1 (aj.tmp h) (by rw[e]))
def aU{t:Tmp}{b:Bool}(e:b=b')(h:st.tm t=some (.v (.bool b)):=by rfl):aJ C P [.tmp t] ⟨.v (.bool b'),[]⟩ st:= .ok (aA.eq1 (aj.tmp h) (by rw[e]))
def mX{t:Tmp}{l':List UInt8}(e:l=l')(h:st.tm t=some (.v (str l)):=by rfl):aJ C P [.tmp t] ⟨.v (SX.str l'),[]⟩ st:= .ok (aA.eq1 (aj.tmp h) (by rw[e]))
def jG{r:ResultVar}{x:AV0}(h:aj P st r x)(e:x=y):aJ C P [r] ⟨.it y,[]⟩ st:= .ok (aA.eq1 h e)
def ret2{t t':Tmp}{x:AV0}(e:x=y)(e':x'=y')(h:st.tm t=some (.it x):=by rfl)(h':st.tm t'=some (.it x'):=by rfl):aJ C P [.tmp t,.tmp t'] ⟨.tup [y,y'],[]⟩ st:= .ok (aA.eq2 (aj.tmp h) (aj.tmp h') e e')
def sO{r r':ResultVar}{x:AV0}(h:aj P st r x)(h':aj P st r' x')(e:x.imp y)(e':x'.imp y'):aJ C P [r,r'] ⟨.tup [y,y'],[]⟩ st:= .ok (aA.mk2 (h.imp e) (h'.imp e'))
def yC{r r' r2:ResultVar}{x x2 y2:AV0}(h:aj P st r x)(h':aj P st r' x')(h2:aj P st r2 x2)(e:x.imp y)(e':x'.imp y')(e2:x2.imp y2):aJ C P [r,r',r2] ⟨.tup [y,y',y2],[]⟩ st:= .ok (aA.mk3 (h.imp e) (h'.imp e') (h2.imp e2))
def cb{b:Bool}(e:b=b'):AV0.one (.c (.val (.bool b)))= .one (.c (.val (.bool b'))):=by rw[e]
def W.le{I:List (Nat×AV)}{H:List (Nat×Ent)}(hle:St.le C st (gL I H):=by first|(apply St.lt0;(· (intro b h;first|(cases h;done)|exact⟨rfl,h⟩|exact SX.dB h));(· (repeat(first|exact trivial|refine⟨⟨_,rfl,aF.same rfl⟩,?_⟩|refine⟨⟨_,rfl,aF.own rfl⟩,?_⟩|refine⟨⟨_,rfl,aF.nil rfl⟩,?_⟩|refine⟨⟨_,rfl,aF.int (by first|(with_reducible assumption)|omega|(simp;done)|assumption)⟩,?_⟩|refine⟨⟨_,rfl,aF.str (by first|(with_reducible assumption)|(simp;done)|assumption)⟩,?_⟩|refine⟨⟨_,rfl,aF.bool (by first|(with_reducible assumption)|(simp;done)|assumption)⟩,?_⟩|refine⟨⟨_,rfl,aF.eq (by first|(with_reducible assumption)|(simp[*];done)) rfl⟩,?_⟩)));(· (repeat(first|exact trivial|refine⟨ay.row rfl rfl rfl rfl,?_⟩|refine⟨ay.row rfl rfl (by first|rfl|(simp;done)) (by first|rfl|assumption|exact SX.bO rfl|exact SX.gU rfl|(simp;done)),?_⟩|refine⟨ay.dw rfl,?_⟩|refine⟨ay.eq rfl rfl rfl,?_⟩|refine⟨ay.same rfl rfl,?_⟩)));(· rfl))|(apply St.ltn;(· (intro b h;first|(cases h;done)|exact⟨rfl,h⟩|exact SX.dB h));(· (repeat(first|exact trivial|refine⟨⟨_,rfl,aF.same rfl⟩,?_⟩|refine⟨⟨_,rfl,aF.own rfl⟩,?_⟩|refine⟨⟨_,rfl,aF.nil rfl⟩,?_⟩|refine⟨⟨_,rfl,aF.int (by first|(with_reducible assumption)|omega|(simp;done)|assumption)⟩,?_⟩|refine⟨⟨_,rfl,aF.str (by first|(with_reducible assumption)|(simp;done)|assumption)⟩,?_⟩|refine⟨⟨_,rfl,aF.bool (by first|(with_reducible assumption)|(simp;done)|assumption)⟩,?_⟩|refine⟨⟨_,rfl,aF.eq (by first|(with_reducible assumption)|(simp[*];done)) rfl⟩,?_⟩)));(· (repeat(first|exact trivial|refine⟨ay.row rfl rfl rfl rfl,?_⟩|refine⟨ay.row rfl rfl (by first|rfl|(simp;done)) (by first|rfl|assumption|exact SX.bO rfl|exact SX.gU rfl|(simp;done)),?_⟩|refine⟨ay.dw rfl,?_⟩|refine⟨ay.eq rfl rfl rfl,?_⟩|refine⟨ay.same rfl rfl,?_⟩)));(· rfl))|(apply St.lt1;(· (intro b h;first|(cases h;done)|exact⟨rfl,h⟩|exact SX.dB h));(· (repeat(first|exact trivial|refine⟨⟨_,rfl,aF.same rfl⟩,?_⟩|refine⟨⟨_,rfl,aF.own rfl⟩,?_⟩|refine⟨⟨_,rfl,aF.nil rfl⟩,?_⟩|refine⟨⟨_,rfl,aF.int (by first|(with_reducible assumption)|omega|(simp;done)|assumption)⟩,?_⟩|refine⟨⟨_,rfl,aF.str (by first|(with_reducible assumption)|(simp;done)|assumption)⟩,?_⟩|refine⟨⟨_,rfl,aF.bool (by first|(with_reducible assumption)|(simp;done)|assumption)⟩,?_⟩|refine⟨⟨_,rfl,aF.eq (by first|(with_reducible assumption)|(simp[*];done)) rfl⟩,?_⟩)));(· (repeat(first|exact trivial|refine⟨ay.row rfl rfl rfl rfl,?_⟩|refine⟨ay.row rfl rfl (by first|rfl|(simp;done)) (by first|rfl|assumption|exact SX.bO rfl|exact SX.gU rfl|(simp;done)),?_⟩|refine⟨ay.dw rfl,?_⟩|refine⟨ay.eq rfl rfl rfl,?_⟩|refine⟨ay.same rfl rfl,?_⟩)));(· rfl))|(apply St.ltnn;(· (intro b h;first|(cases h;done)|exact⟨rfl,h⟩|exact SX.dB h));(· (repeat(first|exact trivial|refine⟨⟨_,rfl,aF.same rfl⟩,?_⟩|refine⟨⟨_,rfl,aF.own rfl⟩,?_⟩|refine⟨⟨_,rfl,aF.nil rfl⟩,?_⟩|refine⟨⟨_,rfl,aF.int (by first|(with_reducible assumption)|omega|(simp;done)|assumption)⟩,?_⟩|refine⟨⟨_,rfl,aF.str (by first|(with_reducible assumption)|(simp;done)|assumption)⟩,?_⟩|refine⟨⟨_,rfl,aF.bool (by first|(with_reducible assumption)|(simp;done)|assumption)⟩,?_⟩|refine⟨⟨_,rfl,aF.eq (by first|(with_reducible assumption)|(simp[*];done)) rfl⟩,?_⟩)));(· (repeat(first|exact trivial|refine⟨ay.row rfl rfl rfl rfl,?_⟩|refine⟨ay.row rfl rfl (by first|rfl|(simp;done)) (by first|rfl|assumption|exact SX.bO rfl|exact SX.gU rfl|(simp;done)),?_⟩|refine⟨ay.dw rfl,?_⟩|refine⟨ay.eq rfl rfl rfl,?_⟩|refine⟨ay.same rfl rfl,?_⟩)));(· rfl))|(apply St.lt11;(· (intro b h;first|(cases h;done)|exact⟨rfl,h⟩|exact SX.dB h));(· (repeat(first|exact trivial|refine⟨⟨_,rfl,aF.same rfl⟩,?_⟩|refine⟨⟨_,rfl,aF.own rfl⟩,?_⟩|refine⟨⟨_,rfl,aF.nil rfl⟩,?_⟩|refine⟨⟨_,rfl,aF.int (by first|(with_reducible assumption)|omega|(simp;done)|assumption)⟩,?_⟩|refine⟨⟨_,rfl,aF.str (by first|(with_reducible assumption)|(simp;done)|assumption)⟩,?_⟩|refine⟨⟨_,rfl,aF.bool (by first|(with_reducible assumption)|(simp;done)|assumption)⟩,?_⟩|refine⟨⟨_,rfl,aF.eq (by first|(with_reducible assumption)|(simp[*];done)) rfl⟩,?_⟩)));(· (repeat(first|exact trivial|refine⟨ay.row rfl rfl rfl rfl,?_⟩|refine⟨ay.row rfl rfl (by first|rfl|(simp;done)) (by first|rfl|assumption|exact SX.bO rfl|exact SX.gU rfl|(simp;done)),?_⟩|refine⟨ay.dw rfl,?_⟩|refine⟨ay.eq rfl rfl rfl,?_⟩|refine⟨ay.same rfl rfl,?_⟩)));(· rfl))|(apply St.ltn1;(· (intro b h;first|(cases h;done)|exact⟨rfl,h⟩|exact SX.dB h));(· (repeat(first|exact trivial|refine⟨⟨_,rfl,aF.same rfl⟩,?_⟩|refine⟨⟨_,rfl,aF.own rfl⟩,?_⟩|refine⟨⟨_,rfl,aF.nil rfl⟩,?_⟩|refine⟨⟨_,rfl,aF.int (by first|(with_reducible assumption)|omega|(simp;done)|assumption)⟩,?_⟩|refine⟨⟨_,rfl,aF.str (by first|(with_reducible assumption)|(simp;done)|assumption)⟩,?_⟩|refine⟨⟨_,rfl,aF.bool (by first|(with_reducible assumption)|(simp;done)|assumption)⟩,?_⟩|refine⟨⟨_,rfl,aF.eq (by first|(with_reducible assumption)|(simp[*];done)) rfl⟩,?_⟩)));(· (repeat(first|exact trivial|refine⟨ay.row rfl rfl rfl rfl,?_⟩|refine⟨ay.row rfl rfl (by first|rfl|(simp;done)) (by first|rfl|assumption|exact SX.bO rfl|exact SX.gU rfl|(simp;done)),?_⟩|refine⟨ay.dw rfl,?_⟩|refine⟨ay.eq rfl rfl rfl,?_⟩|refine⟨ay.same rfl rfl,?_⟩)));(· rfl))|(apply St.lt1n;(· (intro b h;first|(cases h;done)|exact⟨rfl,h⟩|exact SX.dB h));(· (repeat(first|exact trivial|refine⟨⟨_,rfl,aF.same rfl⟩,?_⟩|refine⟨⟨_,rfl,aF.own rfl⟩,?_⟩|refine⟨⟨_,rfl,aF.nil rfl⟩,?_⟩|refine⟨⟨_,rfl,aF.int (by first|(with_reducible assumption)|omega|(simp;done)|assumption)⟩,?_⟩|refine⟨⟨_,rfl,aF.str (by first|(with_reducible assumption)|(simp;done)|assumption)⟩,?_⟩|refine⟨⟨_,rfl,aF.bool (by first|(with_reducible assumption)|(simp;done)|assumption)⟩,?_⟩|refine⟨⟨_,rfl,aF.eq (by first|(with_reducible assumption)|(simp[*];done)) rfl⟩,?_⟩)));(· (repeat(first|exact trivial|refine⟨ay.row rfl rfl rfl rfl,?_⟩|refine⟨ay.row rfl rfl (by first|rfl|(simp;done)) (by first|rfl|assumption|exact SX.bO rfl|exact SX.gU rfl|(simp;done)),?_⟩|refine⟨ay.dw rfl,?_⟩|refine⟨ay.eq rfl rfl rfl,?_⟩|refine⟨ay.same rfl rfl,?_⟩)));(· rfl))):St.le C st (gL I H):=hle
def W.loop{α:Type}(φ:α->Prop)(I:α->List (Nat×AV))(H:α->List (Nat×Ent))(μ:α->Nat)(a0:α)(h0:φ a0)
  (round:∀a,φ a->WP P C c (gL (I a) (H a)) (aK (fun s=>∃a',φ a'/\St.le C s (gL (I a') (H a'))/\μ a' < μ a) Q))
  (hle:St.le C st (gL (I a0) (H a0)):=by exact W.le):WP P C (.loop c) st Q:=
 WP.loop (ι:={p:α // φ p}) (fun q=>match q with|⟨p,_⟩=>gL (I p) (H p)) (fun q=>match q with|⟨p,_⟩=>μ p) ⟨a0,h0⟩ hle (fun⟨p,hp⟩=>(round p hp).mono fun e s h=>by
  cases e with
  |normal=>
   obtain⟨a',hφ,hl,hm⟩:=h;exact⟨⟨a',hφ⟩,hl,hm⟩
  |_=>exact h)
def W.next{α:Type}{φ:α->Prop}{I:α->List (Nat×AV)}{H:α->List (Nat×Ent)}{μ:α->Nat}(a0:α)(h1:φ a0)(hm:μ a0 < m)(hle:St.le C st (gL (I a0) (H a0)):=by exact W.le):
  ∃a',φ a'/\St.le C st (gL (I a') (H a'))/\μ a' < m:=⟨a0,h1,hle,hm⟩
def W.nu{α β:Type}(φ:α->β->Prop)(I:α->β->List (Nat×AV))(H:α->β->List (Nat×Ent))(μ:α->β->Nat)(a0:α)(b0:β)(h0:φ a0 b0)
  (round:∀a b,φ a b->WP P C c (gL (I a b) (H a b)) (aK (fun s=>∃a' b',φ a' b'/\St.le C s (gL (I a' b') (H a' b'))/\μ a' b' < μ a b) Q))
  (hle:St.le C st (gL (I a0 b0) (H a0 b0)):=by exact W.le):WP P C (.loop c) st Q:=
 WP.loop (ι:={p:α×β // φ p.1 p.2}) (fun q=>match q with|⟨p,_⟩=>gL (I p.1 p.2) (H p.1 p.2)) (fun q=>match q with|⟨p,_⟩=>μ p.1 p.2) ⟨(a0,b0),h0⟩ hle (fun⟨p,hp⟩=>(round p.1 p.2 hp).mono fun e s h=>by
  cases e with
  |normal=>
   obtain⟨a',b',hφ,hl,hm⟩:=h;exact⟨⟨(a',b'),hφ⟩,hl,hm⟩
  |_=>exact h)
def W.mV{α β:Type}{φ:α->β->Prop}{I:α->β->List (Nat×AV)}{H:α->β->List (Nat×Ent)}{μ:α->β->Nat}(a0:α)(b0:β)(h1:φ a0 b0)(hm:μ a0 b0 < m)(hle:St.le C st (gL (I a0 b0) (H a0 b0)):=by exact W.le):
  ∃a' b',φ a' b'/\St.le C st (gL (I a' b') (H a' b'))/\μ a' b' < m:=⟨a0,b0,h1,hle,hm⟩
def W.aht{α β γ:Type}(φ:α->β->γ->Prop)(I:α->β->γ->List (Nat×AV))(H:α->β->γ->List (Nat×Ent))(μ:α->β->γ->Nat)(a0:α)(b0:β)(d0:γ)(h0:φ a0 b0 d0)
  (round:∀a b d,φ a b d->WP P C c (gL (I a b d) (H a b d)) (aK (fun s=>∃a' b' d',φ a' b' d'/\St.le C s (gL (I a' b' d') (H a' b' d'))/\μ a' b' d' < μ a b d) Q))
  (hle:St.le C st (gL (I a0 b0 d0) (H a0 b0 d0)):=by exact W.le):WP P C (.loop c) st Q:=
 WP.loop (ι:={p:α×β×γ // φ p.1 p.2.1 p.2.2}) (fun q=>match q with|⟨p,_⟩=>gL (I p.1 p.2.1 p.2.2) (H p.1 p.2.1 p.2.2)) (fun q=>match q with|⟨p,_⟩=>μ p.1 p.2.1 p.2.2) ⟨(a0,b0,d0),h0⟩ hle (fun⟨p,hp⟩=>(round p.1 p.2.1 p.2.2 hp).mono fun e s h=>by
  cases e with
  |normal=>
   obtain⟨a',b',d',hφ,hl,hm⟩:=h;exact⟨⟨(a',b',d'),hφ⟩,hl,hm⟩
  |_=>exact h)
def W.afn{α β γ:Type}{φ:α->β->γ->Prop}{I:α->β->γ->List (Nat×AV)}{H:α->β->γ->List (Nat×Ent)}{μ:α->β->γ->Nat}(a0:α)(b0:β)(d0:γ)(h1:φ a0 b0 d0)(hm:μ a0 b0 d0 < m)(hle:St.le C st (gL (I a0 b0 d0) (H a0 b0 d0)):=by exact W.le):
  ∃a' b' d',φ a' b' d'/\St.le C st (gL (I a' b' d') (H a' b' d'))/\μ a' b' d' < m:=⟨a0,b0,d0,h1,hle,hm⟩
def W.meet{x y:Code}(I:List (Nat×AV))(H:List (Nat×Ent))(h:WP P C x st (aK (fun s=>St.le C s (gL I H)) Q))(k:WP P C y (gL I H) Q):WP P C (.seq x y) st Q:=WP.meet (gL I H) h k
end
end
section
section
variable{P:Program}{C:Ctx}{st:St}
variable{ae aa:List Oper}{ab:List (List Nat×List Nat)}{K:List (List Nat×List Nat)->St->Prop}{an:Option Tmp}{d:Tmp}{op:Op}{ty t t':TypeId}{x y z:Operand}
end
end

import Derived.WalkKit
import Derived.WalkSpells
import Derived.Orders
set_option linter.all false
def zq2{α:Type _}{l:List α}{i:Nat}(h:i<l.length):l[i]? =some l[i]:=List.getElem?_eq_getElem h
def zq3{α:Type _}{l:List α}{i:Nat}{d:α}:l.getD i d=(l[i]?).getD d:=List.getD_eq_getElem?_getD
def zq4{α:Type _}{l:List α}{i:Nat}{a:α}(e:l[i]? =some a):a∈l:=List.mem_of_getElem? e
def zq5{α β:Type _}{as:List α}(f:α->β):(as.map f).length=as.length:=List.length_map f
def zq6:∀ (n:Nat),n<=n:=@Nat.le_refl
def zq7:∀ {α:Type _}{β:Type _}{x:α}{xs:List α}{f:α->List β},List.flatMap f (x::xs)=f x++List.flatMap f xs:=@List.flatMap_cons
def zq8:∀ (n:Nat),0<=n:=@Nat.zero_le
def zq9:∀ {α:Type _}{a:α}{l:List α},a∈a::l:=@List.mem_cons_self
def zqa:∀ {α:Type _}{β:Type _}{f:α->β}{l:List α}{i:Nat},(List.map f l)[i]? =Option.map f l[i]?:=@List.getElem?_map
def zqb:∀ {α:Type _}(as:List α),as++[]=as:=@List.append_nil
def zqc:∀ {n m:Nat},Nat.ble n m=Bool.true->n<=m:=@Nat.le_of_ble_eq_true
def zqd:∀ {α:Type _}{β:Type _}{f:α->List β},List.flatMap f []=[]:=@List.flatMap_nil
def zqe:∀ {α:Type _}{l:List α}{i:Nat},List.length l<=i->l[i]? =Option.none:=@List.getElem?_eq_none
def zqf:∀ {n m k:Nat},n < m->m<=k->n < k:=@Nat.lt_of_lt_of_le
def zqg:∀ {α:Type _}{β:Type _}{b:β}{f:α->β}{l:List α},b∈List.map f l↔∃a,a∈l/\f a=b:=@List.mem_map
def zqh:∀ {α:Type _}{p:α->Bool}{l:List α},List.all l p=Bool.true↔∀ (x:α),x∈l->p x=Bool.true:=@List.all_eq_true
def zqi:∀ {α:Type _}{as bs:List α},List.length (as++bs)=List.length as+List.length bs:=@List.length_append
def zqj:∀ {α:Type _}(as bs cs:List α),as++bs++cs=as++(bs++cs):=@List.append_assoc
def zx1:∀ {n m:Nat}(k:Nat),n<=m->n*k<=m*k:=@Nat.mul_le_mul_right
def zx2:∀ {n:Nat},n > 0->∀ {i j:Nat},i<=j->n ^ i<=n ^ j:=@Nat.pow_le_pow_right
def zx3:∀ {α:Type _}{i:Nat}{l:List α},List.length (List.take i l)=Min.min i (List.length l):=@List.length_take
def zx4:∀ (a b:Bool),((a && b)=Bool.true)=(a=Bool.true/\b=Bool.true):=@Bool.and_eq_true
def zx5:∀ {α:Type _}{l:List α},List.length l=0->l=[]:=@List.eq_nil_of_length_eq_zero
def zx6:∀ {α:Type _}{a:α}{as:List α},List.length (a::as)=List.length as+1:=@List.length_cons
def zx7:∀ {α:Type _}{l:List α}{i:Nat}{a:α},List.getD l i a=Option.getD l[i]? a:=@List.getD_eq_getElem?_getD
def zx8:∀ {n m:Nat}(k:Nat),n<=m->k*n<=k*m:=@Nat.mul_le_mul_left
def zx9:∀ {α:Type _}{β:Type _}{f:α->List β}{b:β}{l:List α},b∈List.flatMap f l↔∃a,a∈l/\b∈f a:=@List.mem_flatMap
def zxa:∀ (n:Nat),Int.natAbs ↑n=n:=@Int.natAbs_natCast
def zxb:∀ {n m k:Nat},n<=m->m < k->n < k:=@Nat.lt_of_le_of_lt
def zxc:∀ {α:Type _}{i:Nat}{l:List α},List.length l<=i->List.take i l=l:=@List.take_of_length_le
def zxd:∀ {n₁ m₁ n₂ m₂:Nat},n₁<=n₂->m₁<=m₂->n₁*m₁<=n₂*m₂:=@Nat.mul_le_mul
def zxe:∀ {α:Type _}{i:Nat}{l:List α},List.length (List.drop i l)=List.length l - i:=@List.length_drop
def zxf:∀ {n m k:Nat},n<=m->m<=k->n<=k:=@Nat.le_trans
def zxg:∀ {α:Type _}{i:Nat}{a:α}{l:List α},l[i]? =Option.some a↔∃h,l[i]=a:=@List.getElem?_eq_some_iff
def zxh:∀ (a:Nat),a ^ 1=a:=@Nat.pow_one
def zxi:∀ {α:Type _}{a b:α},a∈[b]↔a=b:=@List.mem_singleton
def zxj:∀ (n m:Nat),n*m=m*n:=@Nat.mul_comm
def zy1:∀ {n:Nat},List.length (List.range n)=n:=@List.length_range
def zy2:∀ {α:Type _}(y:α){a:α}{l:List α},a∈l->a∈y::l:=@List.mem_cons_of_mem
def zy3:∀ {α:Type _}{b:α}{l:List α}{a:α},a∈b::l↔a=b\/a∈l:=@List.mem_cons
def zy4:∀ {α:Type _}{i:Nat}{l:List α}(h:i < List.length l),List.drop i l=l[i]::List.drop (i+1) l:=@List.drop_eq_getElem_cons
def zy5:∀ (n m k:Nat),(n+m)*k=n*k+m*k:=@Nat.add_mul
def zy6:∀ {α:Type _}{β:Type _}{f:α->β}{a:α}{l:List α},List.map f (a::l)=f a::List.map f l:=@List.map_cons
def zy7:∀ {α:Type _}{val val_1:α},Option.some val=Option.some val_1->val=val_1:=@Option.some.inj
def zy8:∀ {α:Type _}{l:List α},List.take (List.length l) l=l:=@List.take_length
def zy9:∀ {α:Type _}{l:List α}{i j:Nat},(List.take i l)[j]? =if j < i then l[j]? else Option.none:=@List.getElem?_take
def zya:∀ {α:Type _}{b:α}{α_1:Type _}{x:Option α_1}{f:α_1->α},Option.map f x=Option.some b↔∃a,x=Option.some a/\f a=b:=@Option.map_eq_some_iff
def zyb:∀ {α:Type _}{l₁ l₂:List α},(∀ (i:Nat),l₁[i]? =l₂[i]?)->l₁=l₂:=@List.ext_getElem?
def zyc:∀ {a b:Bool},a=b↔(a=Bool.true↔b=Bool.true):=@Bool.eq_iff_iff
def zyd:∀ (n m:Nat),n < m\/n ≥ m:=@Nat.lt_or_ge
def zye:∀ (n:Nat),n=0\/n > 0:=@Nat.eq_zero_or_pos
def zyf:∀ (n m:Nat),n ^ Nat.succ m=n ^ m*n:=@Nat.pow_succ
def zyg:∀ {α:Type _}{a:α}{s t:List α},a∈s++t↔a∈s\/a∈t:=@List.mem_append
def zyh:∀ {α:Type _}{l:List α}{i:Nat}(h:i < List.length l),l[i]? =Option.some l[i]:=@List.getElem?_eq_getElem
def zyi:∀ (x:Nat){y:Nat},0 < y->x % y < y:=@Nat.mod_lt
def zyj:∀ {α:Type _}{l₁ l₂:List α}{i:Nat},i < List.length l₁->(l₁++l₂)[i]? =l₁[i]?:=@List.getElem?_append_left
def zv1:∀ {α:Type _}{xs:List α}{i j:Nat},(List.drop i xs)[j]? =xs[i+j]?:=@List.getElem?_drop
def zv2:∀ {α:Type _}{l:List α}{i j:Nat}{a:α},(List.set l i a)[j]? =if i=j then if i < List.length l then Option.some a else Option.none else l[j]?:=@List.getElem?_set
def zv3:∀ {α:Type _}{i:Nat}{a:α}{l:List α},a∈List.take i l->a∈l:=@List.mem_of_mem_take
def zv4:∀ {β:Type _}{γ:Type _}{α:Type _}{g:β->γ}{f:α->β}{l:List α},List.map g (List.map f l)=List.map (g ∘ f) l:=@List.map_map
def zv5:∀ {α:Type _}(i:Nat)(l:List α),List.take i l++List.drop i l=l:=@List.take_append_drop
def zv6:∀ {α:Type _}{l₁ l₂:List α}{i:Nat},List.length l₁<=i->(l₁++l₂)[i]? =l₂[i - List.length l₁]?:=@List.getElem?_append_right
def zv7:∀ (n:Nat),0+n=n:=@Nat.zero_add
def zv8:∀ (n m:Nat),Nat.succ n*m=n*m+m:=@Nat.succ_mul
def zv9:∀ {a b:Nat},a<=b->Min.min a b=a:=@Nat.min_eq_left
def zva:∀ {x y:Nat},(Nat.ble x y=Bool.true)=(x<=y):=@Nat.ble_eq
def zvb:∀ {i n:Nat},i < n->(List.range n)[i]? =Option.some i:=@List.getElem?_range
def zvc:∀ {α:Type _}{β:Type _}{xs ys:List α}{f:α->List β},List.flatMap f (xs++ys)=List.flatMap f xs++List.flatMap f ys:=@List.flatMap_append
def zvd:∀ {α:Type _}(as:List α),[]++as=as:=@List.nil_append
def zve:∀ (a b:Int),Int.natAbs (a*b)=Int.natAbs a*Int.natAbs b:=@Int.natAbs_mul
def zvf:∀ {α:Type _}{as:List α}{i:Nat}{a:α},List.length (List.set as i a)=List.length as:=@List.length_set
def zvg:∀ {α:Type _}{l:List α}{α_1:Type _}{f g:α->α_1},(∀ (a:α),a∈l->f a=g a)->List.map f l=List.map g l:=@List.map_congr_left
def zvh:∀ {α:Type _}{l:List α},List.drop (List.length l) l=[]:=@List.drop_length
def zvi:∀ (n:Nat),n+0=n:=@Nat.add_zero
def zvj:∀ (n:Nat),¬n < 0:=@Nat.not_lt_zero
def zw1:∀ {α:Type _}{a:α},List.length [a]=1:=@List.length_singleton
def zw2:∀ {α:Type _}{xs:Array α}{i:Nat},(Array.toList xs)[i]? =xs[i]?:=@Array.getElem?_toList
def zw3:∀ (n:Nat),0*n=0:=@Nat.zero_mul
def zw4:∀ {a b:Nat},a < b->a % b=a:=@Nat.mod_eq_of_lt
def zw5:∀ (a m n:Nat),a ^ (m+n)=a ^ m*a ^ n:=@Nat.pow_add
def zw6:∀ {α:Type _}{xs:Array α},List.length (Array.toList xs)=Array.size xs:=@Array.length_toList
def zw7:∀ {α:Type _}{l:List α}{i:Nat},List.take (i+1) l=List.take i l++Option.toList l[i]?:=@List.take_add_one
def zw8:∀ (n:Nat),Int.toNat ↑n=n:=@Int.toNat_natCast
def zw9:∀ {α:Type _}{a:α}{i:Nat}{l:List α},a∈List.drop i l->a∈l:=@List.mem_of_mem_drop
def zE{p:Prop}(h:p:=by omega):p:=h
def zc{p:Prop}(h:p:=by decide):p:=h
def zp{p:Prop}(h:p:=by simp):p:=h
def zd{p:Prop}(h:p:=by simp[SX.AV.ids,SX.AV0.ids,SX.Atom.ids]):p:=h
def zv{a b:Nat}(h:Nat.ble a b=true:=by rfl):a<=b:=Nat.le_of_ble_eq_true h
def z6{p:Prop}(h:p:=by intro b h;cases h):p:=h
def yd{p:Prop}(h:p:=by repeat(first|exact trivial|refine⟨⟨_,rfl,aF.same rfl⟩,?_⟩)):p:=h
def ye{p:Prop}(h:p:=by repeat(first|exact trivial|refine⟨⟨_,rfl,aF.same rfl⟩,?_⟩|refine⟨⟨_,rfl,aF.own rfl⟩,?_⟩)):p:=h
def yf{p:Prop}(h:p:=by repeat(first|exact trivial|refine⟨⟨_,rfl,aF.same rfl⟩,?_⟩|refine⟨⟨_,rfl,aF.own rfl⟩,?_⟩|refine⟨⟨_,rfl,aF.int (by omega)⟩,?_⟩)):p:=h
def yi{p:Prop}(h:p:=by repeat(first|exact trivial|refine⟨⟨_,rfl,aF.same rfl⟩,?_⟩|refine⟨⟨_,rfl,aF.nil rfl⟩,?_⟩|refine⟨⟨_,rfl,aF.int (by omega)⟩,?_⟩)):p:=h
def yk{p:Prop}(h:p:=by repeat(first|exact trivial|refine⟨⟨_,rfl,aF.same rfl⟩,?_⟩|refine⟨⟨_,rfl,aF.nil rfl⟩,?_⟩)):p:=h
def yl{p:Prop}(h:p:=by repeat(first|exact trivial|refine⟨⟨_,rfl,aF.same rfl⟩,?_⟩|refine⟨⟨_,rfl,aF.int (by omega)⟩,?_⟩)):p:=h
namespace SX
variable{b' want:Bool}{y:Go.Code}{f:Go.FuncId}{z:Int}{g j k n nt off size:Nat}{S S':Nat->Prop}{fx:Go.Operand}{T T' t:Go.TypeId}{w w':Go.World}
section
open Go
def glob:List (Nat×List Value):=[]
def axN:List Nat:=[4]
end
section
open Go Go.RowKit
structure Off(S:Nat->Prop)(w w':World):Prop where
 os:w'.os=w.os
 tape:w'.tape=w.tape
 output:w'.output=w.output
 size:w.heap.size<=w'.heap.size
 block:∀k,k < w.heap.size->¬S k->w'.heap[k]? =w.heap[k]?
def none':Nat->Prop:=fun _=>False
def Off.refl(S:Nat->Prop)(w:World):Off S w w:=⟨rfl,rfl,rfl,zq6 _,fun _ _ _=>rfl⟩
def Off.trans{S:Nat->Prop}{a b c:World}(h:Off S a b)(k:Off S b c):Off S a c:=
 ⟨k.os.trans h.os,k.tape.trans h.tape,k.output.trans h.output,zxf h.size k.size,fun i hi hs=>(k.block i (zqf hi h.size) hs).trans (h.block i hi hs)⟩
def Off.ayr{T:Nat->Prop}{a b c:World}(h:Off S a b)(k:Off S' b c)(h1:∀k,S k->T k)(h2:∀k,S' k->T k\/a.heap.size<=k):Off T a c:=
 ⟨k.os.trans h.os,k.tape.trans h.tape,k.output.trans h.output,zxf h.size k.size,fun i hi hs=>
  (k.block i (zqf hi h.size) (fun e=>(h2 i e).elim hs (fun e=>zE))).trans (h.block i hi (fun e=>hs (h1 i e)))⟩
def Off.mono(h:Off S w w')(hs:∀k,S k->S' k):Off S' w w':=
 ⟨h.os,h.tape,h.output,h.size,fun k hk hn=>h.block k hk (fun e=>hn (hs k e))⟩
def Off.alloc(S:Nat->Prop)(w:World)(o:Obj):Off S w (w.alloc o):=⟨rfl,rfl,rfl,by simp,fun k hk _=>Below.heap_alloc w o k hk⟩
def Off.drew(S:Nat->Prop)(w:World):Off S w w.drew:=⟨rfl,rfl,rfl,zq6 _,fun _ _ _=>rfl⟩
def Off.setRow{S:Nat->Prop}(w:World)(g:Nat)(cs:Array Value)(h:S g):Off S w (w.setRow g cs):=
 ⟨rfl,rfl,rfl,by simp,fun k _ hn=>setRow_other w g k cs (fun e=>hn (e▸h))⟩
def Off.below(h:Off none' w w'):Below w.heap.size w w':=⟨h.os,h.tape,h.output,h.size,fun k hk=>h.block k hk (fun e=>e)⟩
def Off.of_below(h:Below w.heap.size w w'):Off S w w':=⟨h.os,h.tape,h.output,h.size,fun k hk _=>h.block k hk⟩
def Off.cell{S:Nat->Prop}{w w':World}(h:Off S w w'){a:Addr}{v:Value}(hs:¬S a.block)(hc:w.cell? a=some v):w'.cell? a=some v:=by
 have hl:=World.block_lt_of_cell? w a hc;rw[<-hc];exact World.cell?_of_block (h.block _ hl hs)
structure Rep where
 has:(Nat->Prop)->World->Value->Prop
 one:∀{S w v},has S w v->v.oneCell'=true
 step:∀{S S' w w' v},has S w v->Off S w w'->(∀k,S' k->S k\/w.heap.size<=k)->has S' w' v
inductive CA where
 |val (v:Value)
 |sat (r:Rep)
def CA.has(S:Nat->Prop)(w:World):CA->Value->Prop
 | .val u,v=>v=u
 | .sat r,v=>r.has S w v
def CA.has.step{c:CA}{S S':Nat->Prop}{w w':World}{v:Value}(h:c.has S w v)(ho:Off S w w')(hs:∀k,S' k->S k\/w.heap.size<=k):c.has S' w' v:=by
 cases c with
 |val u=>exact h
 |sat r=>exact r.step h ho hs
def rR(S:Nat->Prop)(w:World):Prop:=(∀g l,(g,l)∈glob->¬S g/\g < w.heap.size/\∀(i:Nat) (u:Value),l[i]? =some u->w.cell? ⟨g,i,none⟩=some u)/\∀g,g∈axN->¬S g/\g < w.heap.size/\∃m,w.cell? ⟨g,0,none⟩=some (.int .i64 m)
def rR.step(h:rR S w)(ho:Off S w w')(hs:∀k,S' k->S k\/w.heap.size<=k):rR S' w':=by
 have key:∀g,¬S g->g < w.heap.size->¬S' g:=fun g h1 h2 hk=>by
  rcases hs g hk with h4|h4
  ·exact h1 h4
  ·omega
 refine⟨fun g l hg=>?_,fun g hg=>?_⟩
 ·obtain⟨h1,h2,h3⟩:=h.1 g l hg;exact⟨key g h1 h2,zqf h2 ho.size,fun i u hi=>ho.cell h1 (h3 i u hi)⟩
 ·obtain⟨h1,h2,m,h3⟩:=h.2 g hg;exact⟨key g h1 h2,zqf h2 ho.size,m,ho.cell h1 h3⟩
def rR.sub(h:rR S w)(hs:∀k,S' k->S k):rR S' w:=⟨fun g l hg=>let⟨h1,h2⟩:=h.1 g l hg;⟨fun hk=>h1 (hs g hk),h2⟩,fun g hg=>let⟨h1,h2⟩:=h.2 g hg;⟨fun hk=>h1 (hs g hk),h2⟩⟩
def aM{α β:Type}(p:α->β->Prop):List α->List β->Prop
 |[],[]=>True
 |a::l,b::m=>p a b/\aM p l m
 |_,_=>False
def aM.mono{α β:Type}{p q:α->β->Prop}:∀{l:List α} {m:List β},aM p l m->(∀a b,a∈l->p a b->q a b)->aM q l m
 |[],[],_,_=>trivial
 |a::l,b::m,h,k=>⟨k a b zp h.1,aM.mono h.2 fun a b ha=>k a b (by simp[ha])⟩
 |[],_::_,h,_=>h.elim
 |_::_,[],h,_=>h.elim
def aM.length{α β:Type}{p:α->β->Prop}:∀{l:List α} {m:List β},aM p l m->l.length=m.length
 |[],[],_=>rfl
 |_::l,_::m,h=>by simp[aM.length h.2]
 |[],_::_,h=>h.elim
 |_::_,[],h=>h.elim
def aM.get{α β:Type}{p:α->β->Prop}:∀{l:List α} {m:List β},aM p l m->∀{i:Nat} {a:α},l[i]? =some a->∃b,m[i]? =some b/\p a b
 |[],[],_,i,a,h=>by simp at h
 |x::l,y::m,h,0,a,hi=>by simp at hi;subst hi;exact⟨y,by simp,h.1⟩
 |x::l,y::m,h,i+1,a,hi=>by simp at hi;simpa using aM.get h.2 hi
 |[],_::_,h,_,_,_=>h.elim
 |_::_,[],h,_,_,_=>h.elim
def aM.get'{α β:Type}{p:α->β->Prop}:∀{l:List α} {m:List β},aM p l m->∀{i:Nat} {b:β},m[i]? =some b->∃a,l[i]? =some a/\p a b
 |[],[],_,i,a,h=>by simp at h
 |x::l,y::m,h,0,a,hi=>by simp at hi;subst hi;exact⟨x,by simp,h.1⟩
 |x::l,y::m,h,i+1,a,hi=>by simp at hi;simpa using aM.get' h.2 hi
 |[],_::_,h,_,_,_=>h.elim
 |_::_,[],h,_,_,_=>h.elim
def aM.take{α β:Type}{p:α->β->Prop}:∀{l:List α} {m:List β} (n:Nat),aM p l m->aM p (l.take n) (m.take n)
 |_,_,0,_=>by simp[aM]
 |[],[],n+1,_=>by simp[aM]
 |x::l,y::m,n+1,h=>by simpa[aM]using⟨h.1,aM.take n h.2⟩
 |[],_::_,_+1,h=>h.elim
 |_::_,[],_+1,h=>h.elim
def aM.drop{α β:Type}{p:α->β->Prop}:∀{l:List α} {m:List β} (n:Nat),aM p l m->aM p (l.drop n) (m.drop n)
 |_,_,0,h=>by simpa using h
 |[],[],n+1,_=>by simp[aM]
 |x::l,y::m,n+1,h=>by simpa using aM.drop n h.2
 |[],_::_,_+1,h=>h.elim
 |_::_,[],_+1,h=>h.elim
def aM.append{α β:Type}{p:α->β->Prop}:∀{l:List α} {m:List β} {l':List α} {m':List β},aM p l m->aM p l' m'->aM p (l++l') (m++m')
 |[],[],_,_,_,k=>k
 |x::l,y::m,_,_,h,k=>⟨h.1,aM.append h.2 k⟩
 |[],_::_,_,_,h,_=>h.elim
 |_::_,[],_,_,h,_=>h.elim
structure Env where
 blk:Nat->Nat
 sl:Nat->Value
 fp:Nat->Nat->Prop
inductive Atom where
 |c (a:CA)
 |ptr (b off:Nat)
 |own (b:Nat)
 |rptr (b off:Nat)
 |clo (f:FuncId) (am:List (Nat×Nat))
 |bnd (f:FuncId) (b:Nat)
 |rel (b:Nat) (R:Nat->Value->Value->Prop)
def Atom.has(E:Env)(S:Nat->Prop)(w:World):Atom->Value->Prop
 | .c a,v=>a.has S w v
 | .ptr b off,v=>v= .pointer (some ⟨E.blk b,off,none⟩)
 | .own b,v=>v=E.sl b/\v.oneCell'=true
 | .rptr b off,v=>∃g n am,E.sl b= .slice (some ⟨g,0,none⟩) n am/\v= .pointer (some ⟨g,off,none⟩)
 | .clo f am,v=>v= .func (.func f) #[] (am.map fun p=>Value.pointer (some ⟨E.blk p.1,p.2,none⟩)).toArray
 | .bnd f b,v=>v= .func (.func f) #[.pointer (some ⟨E.blk b,0,none⟩)] #[]
 | .rel b R,v=>R (E.blk b) (E.sl b) v/\v.oneCell'=true
def Atom.ids:Atom->List Nat
 | .c _=>[]
 | .ptr b _=>[b]
 | .own b=>[b]
 | .rptr b _=>[b]
 | .clo _ am=>am.map (·.1)
 | .bnd _ b=>[b]
 | .rel b _=>[b]
inductive AV0 where
 |one (a:Atom)
 |agg (l:List Atom)
def AV0.has(E:Env)(S:Nat->Prop)(w:World):AV0->Value->Prop
 | .one a,v=>a.has E S w v
 | .agg l,v=>∃vs:List Value,v= .agg vs.toArray/\aM (Atom.has E S w) l vs
def AV0.ids:AV0->List Nat
 | .one a=>a.ids
 | .agg l=>l.flatMap Atom.ids
inductive AV where
 |it (x:AV0)
 |tup (l:List AV0)
def AV.has(E:Env)(S:Nat->Prop)(w:World):AV->Value->Prop
 | .it x,v=>x.has E S w v
 | .tup l,v=>∃vs:List Value,v= .tuple vs.toArray/\aM (AV0.has E S w) l vs
def AV.ids:AV->List Nat
 | .it x=>x.ids
 | .tup l=>l.flatMap AV0.ids
abbrev AV.v(v:Value):AV:= .it (.one (.c (.val v)))
abbrev AV.r(r:Rep):AV:= .it (.one (.c (.sat r)))
abbrev AV.ptr(b off:Nat):AV:= .it (.one (.ptr b off))
abbrev AV.own(b:Nat):AV:= .it (.one (.own b))
abbrev AV.agg(l:List Atom):AV:= .it (.agg l)
structure kL where
 has:Nat->Value->(Nat->Prop)->(Nat->Prop)->World->Prop
 step:∀{b v X S S' w w'},has b v X S w->Off S w w'->(∀k,S' k->S k\/w.heap.size<=k)->(∀k,X k->w'.heap[k]? =w.heap[k]?)->has b v X S' w'
inductive Ent where
 |abs (A:kL)
 |box (t:TypeId) (ag:List Atom)
 |row (t:TypeId) (size n:Nat) (ag:List CA)
def Ent.has(E:Env)(S:Nat->Prop)(w:World)(b:Nat):Ent->Prop
 | .box t ag=>∃cs:List Value,w.heap[E.blk b]? =some (.cells cs.toArray t (0,0))/\aM (Atom.has E S w) ag cs
 | .row t size n ag=>∃vs:List Value,w.ownsRow 0 t size (E.sl b) n vs/\aM (CA.has S w) ag vs
 | .abs A=>A.has (E.blk b) (E.sl b) (E.fp b) S w
def Ent.at(e:Ent)(E:Env)(b:Nat)(k:Nat):Prop:=match e with
 | .box _ _=>some (E.blk b)=some k
 | .row _ _ _ _=>(E.sl b).ownBlock=some k
 | .abs _=>E.fp b k
def Ent.ids:Ent->List Nat
 | .abs _=>[]
 | .box _ ag=>ag.flatMap Atom.ids
 | .row _ _ _ _=>[]
inductive Slot where
 |free
 |gone
 |ent (e:Ent)
def Slot.used:Slot->Bool
 | .free=>false
 |_=>true
structure St where
 tm:Nat->Option AV
 hp:Nat->Slot
def upd{α:Type}(f:Nat->α)(k:Nat)(v:α):Nat->α:=fun j=>match Nat.beq j k with|true=>v|false=>f j
@[simp] theorem upd_same{α:Type}(f:Nat->α)(k:Nat)(v:α):upd f k v k=v:=by simp[upd]
def upd_ne{α:Type}(f:Nat->α)(v:α)(h:j≠k):upd f k v j=f j:=by
 have:Nat.beq j k=false:=by rw[Bool.eq_false_iff];simpa using h
 simp[upd,this]
def ahp{α:Type}(f:Nat->α)(v u:α)(h:j≠k):upd (upd f k v) j u=upd (upd f j u) k v:=by
 funext i
 by_cases h1:i=k
 ·subst h1;rw[upd_ne _ _ (fun e=>h e.symm),upd_same,upd_same]
 ·by_cases h2:i=j
  ·subst h2;rw[upd_same,upd_ne _ _ h1,upd_same]
  ·rw[upd_ne _ _ h2,upd_ne _ _ h1,upd_ne _ _ h1,upd_ne _ _ h2]
structure Ctx where
 w0:World
 T:Nat->Prop
 B:Nat->Prop
 nt:Nat
 E0:Env
 fix:Nat->Bool
structure nZ(C:Ctx)(st:St)(E:Env)(S:Nat->Prop)(a:Act)(w:World):Prop where
 dfr:a.defers=[]
 nt:a.tmps.size=C.nt
 cT:∀k,C.T k->S k
 cT0:∀k,C.T k->k < C.w0.heap.size
 cS:∀k,S k->C.T k\/C.w0.heap.size<=k
 lt:∀k,S k->k < w.heap.size
 tm:∀t v,st.tm t=some v->v.has E S w (a.tmps.getD t undef)
 tid:∀t v,st.tm t=some v->∀b∈v.ids,(st.hp b).used=true
 hp:∀b e,st.hp b= .ent e->e.has E S w b
 aq:∀b e,st.hp b= .ent e->∀b'∈e.ids,(st.hp b').used=true
 blk:∀b e k,st.hp b= .ent e->e.at E b k->S k/\(C.B k\/C.w0.heap.size<=k)
 sep:∀b b' e e' k,b≠b'->st.hp b= .ent e->st.hp b'= .ent e'->e.at E b k->¬e'.at E b' k
 off:Off C.B C.w0 w
 env:∀b,C.fix b=true->E.blk b=C.E0.blk b/\E.sl b=C.E0.sl b/\(st.hp b).used=true
 gl:rR S w
def Sat(C:Ctx)(st:St)(a:Act)(w:World):Prop:=∃E S,nZ C st E S a w
structure Out where
 res:AV
 hp:List (Nat×Slot)
def fH(f:Nat->Slot):List (Nat×Slot)->Nat->Slot
 |[]=>f
 |(k,s)::l=>fH (upd f k s) l
def agb(f:Nat->Option AV)(an:Option Tmp)(v:Option AV):Nat->Option AV:=
 match an with
 |some d=>upd f d v
 |none=>f
def St.put(st:St)(an:Option Tmp)(v:Option AV):St:=⟨agb st.tm an v,st.hp⟩
def St.app(st:St)(an:Option Tmp)(out:Out):St:=⟨agb st.tm an (some out.res),fH st.hp out.hp⟩
def St.ev(st:St):Operand->Option AV
 | .tmp t=>st.tm t
 | .const (.agg _)=>none
 | .const (.tuple _)=>none
 | .const v=>some (.v v)
 | .global g=>some (.v (.pointer (some ⟨g,0,none⟩)))
 | .func f=>some (.it (.one (.clo f [])))
def aT(P:Program)(C:Ctx)(o:Oper)(st:St)(fp:List Nat)(out:Out):Prop:=
 ∀st':St,(∀x∈o.op.operands,st'.ev x=st.ev x)->(∀b∈fp,st'.hp b=st.hp b)->∀a w,Sat C st' a w->∀(K:Act->World->Prop) (Q:Exit->Act->World->Prop),
  (∀v w',Sat C (st'.app o.dst out) (a.put o.dst v) w'->K (a.put o.dst v) w')->o.wp P a w K Q
inductive Dec where
 |run (fp:List Nat) (out:Out)
 |skip
def Dec.app(d:Dec)(o:Oper)(st:St):St:=
 match d with
 | .run _ out=>st.app o.dst out
 | .skip=>st.put o.dst (some (.v undef))
def Dec.fp:Dec->List Nat
 | .run fp _=>fp
 | .skip=>[]
def Dec.wr:Dec->List Nat
 | .run _ out=>out.hp.map (·.1)
 | .skip=>[]
def Guard(ae:List Oper)(o:Oper)(st:St)(want:Bool):Prop:=
 match o.guard with
 |none=>want=true
 |some (j,b)=>∃t,(ae[j]?).bind (·.dst)=some t/\((∃b',st.tm t=some (.v (.bool b'))/\(b'==b)=want)\/(st.tm t=some (.v undef)/\want=false))
def ahe(P:Program)(C:Ctx)(ae:List Oper)(o:Oper)(st:St):Dec->Prop
 | .run fp out=>Guard ae o st true/\aT P C o st fp out
 | .skip=>Guard ae o st false
def Tr(P:Program)(C:Ctx)(ae:List Oper):List (Oper×Dec)->St->St->Prop
 |[],st,st'=>st=st'
 |(o,d)::l,st,st'=>ahe P C ae o st d/\Tr P C ae l (d.app o st) st'
def mask(ab:List Nat)(o:Oper):Nat:=
 o.after.toList.foldl (fun s e=>if Region.binds .any e then s ||| (2 ^ e.on ||| ab.getD e.on 0)else s) 0
def aai:List Oper->List Nat->List Nat
 |[],ab=>ab
 |o::aa,ab=>aai aa (ab++[mask ab o])
def bef(ae:List Oper)(j i:Nat):Bool:=((aai ae []).getD j 0).testBit i
def disj(l m:List Nat):Bool:=l.all fun x=>!m.contains x
def far(x y:List Nat×List Nat):Bool:=disj x.2 y.1&&disj y.2 x.1
def uD(ae:Array Oper)(m:Nat)(oj:Oper)(fj:List Nat×List Nat):Nat->List (Oper×(List Nat×List Nat))->Bool
 |_,[]=>true
 |i,(o,f)::l=>(m.testBit i||(o.apart ae oj&&far f fj))&&uD ae m oj fj (i+1) l
def uw(ae:Array Oper):List (Oper×(List Nat×List Nat))->List (Oper×(List Nat×List Nat))->List Nat->Bool
 |_,[],_=>true
 |done,(o,f)::l,m::ms=>uD ae m o f 0 done&&f.2.all f.1.contains&&o.after.all (fun e=>!Region.binds .any e||decide (e.on < done.length))&&uw ae (done++[(o,f)]) l ms
 |_,_::_,[]=>false
def check(ae:Array Oper)(feet:List (List Nat×List Nat)):Bool:=
 feet.length==ae.size&&uw ae [] (ae.toList.zip feet) (aai ae.toList [])
def foot(d:Dec):List Nat×List Nat:=(d.fp,d.wr)
def aym{st:St}{an:Option Tmp}{v:Option AV}:(st.put an v).hp=st.hp:=rfl
def adS(f:Nat->Slot)(k:Nat)(s:Slot):∀l:List (Nat×Slot),(∀p∈l,p.1≠k)->fH (upd f k s) l=upd (fH f l) k s
 |[],_=>rfl
 |(j,u)::l,h=>by
  have hj:j≠k:=h (j,u) zp
  show fH (upd (upd f k s) j u) l=upd (fH (upd f j u) l) k s;rw[ahp f s u hj];exact adS (upd f j u) k s l (fun p hp=>h p (by simp[hp]))
def aeW(f:Nat->Slot)(m:List (Nat×Slot)):∀l:List (Nat×Slot),(∀p∈l,∀q∈m,p.1≠q.1)->fH (fH f l) m=fH (fH f m) l
 |[],_=>rfl
 |(j,u)::l,h=>by
  show fH (fH (upd f j u) l) m=fH (upd (fH f m) j u) l;rw[aeW (upd f j u) m l (fun p hp q hq=>h p (by simp[hp]) q hq),adS f j u m (fun q hq=>(h (j,u) zp q hq).symm)]
def acH(b:Nat):∀(l:List (Nat×Slot)) (f:Nat->Slot),(∀p∈l,p.1≠b)->fH f l b=f b
 |[],_,_=>rfl
 |(j,u)::l,f,h=>by
  show fH (upd f j u) l b=f b;rw[acH b l _ (fun p hp=>h p (by simp[hp])),upd_ne _ _ (fun e=>h (j,u) zp e.symm)]
def aa7{l m:List Nat}(h:disj l m=true){x:Nat}(hx:x∈l):x∉m:=by
 unfold disj at h;rw[zqh]at h;have:=h x hx;simpa using this
def Dec.asE{d e:Dec}{o p:Oper}{ae:Array Oper}(st:St)(h1:o.apart ae p=true)(h2:far (foot d) (foot e)=true)(hd:∀x∈d.wr,x∈d.fp):
  d.app o (e.app p st)=e.app p (d.app o st):=by
 obtain⟨_,hne,_⟩:=Oper.apart_spec h1;have hw:∀x∈d.wr,∀y∈e.wr,x≠y:=by
  intro x hx y hy e;subst e;unfold far at h2;rw[zx4]at h2;exact aa7 h2.2 hy (hd x hx)
 have hput:∀(f:Nat->Option AV) (v u:Option AV),agb (agb f p.dst u) o.dst v=agb (agb f o.dst v) p.dst u:=by
  intro f v u;cases ho:o.dst with
  |none=>rfl
  |some x=>
   cases hp:p.dst with
   |none=>rfl
   |some y=>
    have:x≠y:=fun e=>hne x ho (by rw[hp,e])
    exact ahp f u v this
 have hext:∀{x y:St},x.tm=y.tm->x.hp=y.hp->x=y:=by
  intro x y h1 h2;cases x;cases y;simp_all
 cases d with
 |run fd od=>
  cases e with
  |run fe oe=>
   refine hext (hput _ _ _) (aeW st.hp od.hp oe.hp (fun q hq q' hq' e=>hw q'.1 (by simp[Dec.wr];exact⟨_,hq'⟩) q.1 (by simp[Dec.wr];exact⟨_,hq⟩) e.symm))
  |skip=>exact hext (hput _ _ _) rfl
 |skip=>
  cases e with
  |run fe oe=>exact hext (hput _ _ _) rfl
  |skip=>exact hext (hput _ _ _) rfl
def kU(L:Nat->Bool):Nat->List (Oper×Dec)->St->St
 |_,[],st=>st
 |i,(o,d)::l,st=>kU L (i+1) l (match L i with|true=>d.app o st|false=>st)
def tJ(L:Nat->Bool):∀(l m:List (Oper×Dec)) (i:Nat) (st:St),kU L i (l++m) st=kU L (i+l.length) m (kU L i l st)
 |[],m,i,st=>rfl
 |(o,d)::l,m,i,st=>by
  show kU L (i+1) (l++m) _=_;rw[tJ L l m (i+1)];simp[kU,Nat.add_assoc,Nat.add_comm 1]
def rM(L L':Nat->Bool):∀(l:List (Oper×Dec)) (i:Nat) (st:St),(∀k,i<=k->k < i+l.length->L k=L' k)->kU L i l st=kU L' i l st
 |[],_,_,_=>rfl
 |(o,d)::l,i,st,h=>by
  simp only[kU,h i (zq6 _) zp]
  exact rM L L' l (i+1) _ (fun k h1 h2=>h k zE (by simp;omega))
def xO{st:St}{an:Option Tmp}{v:Option AV}{t:Tmp}(h:an≠some t):(st.put an v).tm t=st.tm t:=by
 cases an with
 |none=>rfl
 |some d=>exact upd_ne _ _ (fun e=>h (by rw[e]))
def Dec.azc{d:Dec}{o:Oper}{st:St}{t:Tmp}(h:o.dst≠some t):(d.app o st).tm t=st.tm t:=by
 cases d with
 |run fp out=>exact xO h
 |skip=>exact xO h
def Dec.azJ{d:Dec}{o:Oper}{st:St}{b:Nat}(h:b∉d.wr):(d.app o st).hp b=st.hp b:=by
 cases d with
 |run fp out=>
  refine acH b out.hp st.hp (fun p hp e=>h ?_)
  rw[<-e];exact zqg.2 ⟨p,hp,rfl⟩
 |skip=>rw[show (Dec.skip.app o st)=st.put o.dst (some (.v undef))from rfl,aym]
def alX(L:Nat->Bool)(t:Tmp):∀(l:List (Oper×Dec)) (i:Nat) (st st':St),st.tm t=st'.tm t->∀L':Nat->Bool,
  (∀k o d,l[k]? =some (o,d)->o.dst=some t->L (i+k)=L' (i+k))->(kU L i l st).tm t=(kU L' i l st').tm t
 |[],_,_,_,h,_,_=>h
 |(o,d)::l,i,st,st',h,L',hl=>by
  have h0:(match L i with|true=>d.app o st|false=>st).tm t=(match L' i with|true=>d.app o st'|false=>st').tm t:=by
   by_cases ht:o.dst=some t
   ·have:=hl 0 o d zp ht
    simp only[zvi]at this;rw[this];cases L' i with
    |false=>exact h
    |true=>cases d <;> simp[Dec.app,St.app,St.put,agb,ht]
   ·cases L i <;> cases L' i <;> simp only[Dec.azc ht] <;> exact h
  exact alX L t l (i+1) _ _ h0 L' (fun k o' d' hk hd=>by have:=hl (k+1) o' d' (by simpa using hk) hd;rwa [show i+(k+1)=i+1+k by omega]at this)
def alC(b:Nat):∀(l:List (Nat×Slot)) (f g:Nat->Slot),f b=g b->fH f l b=fH g l b
 |[],_,_,h=>h
 |(j,u)::l,f,g,h=>by
  refine alC b l _ _ ?_;by_cases e:b=j
  ·subst e;simp
  ·rw[upd_ne _ _ e,upd_ne _ _ e];exact h
def anw(b:Nat):∀(l:List (Nat×Slot)) (f g:Nat->Slot),b∈l.map (·.1)->fH f l b=fH g l b
 |[],_,_,h=>by simp at h
 |(j,u)::l,f,g,h=>by
  by_cases e:b∈l.map (·.1)
  ·exact anw b l _ _ e
  ·have:b=j:=by
    simp only[zy6,zy3]at h;exact h.resolve_right e
   subst this;exact alC b l _ _ zp
def amS(L:Nat->Bool)(b:Nat):∀(l:List (Oper×Dec)) (i:Nat) (st st':St),st.hp b=st'.hp b->∀L':Nat->Bool,
  (∀k o d,l[k]? =some (o,d)->b∈d.wr->L (i+k)=L' (i+k))->(kU L i l st).hp b=(kU L' i l st').hp b
 |[],_,_,_,h,_,_=>h
 |(o,d)::l,i,st,st',h,L',hl=>by
  have h0:(match L i with|true=>d.app o st|false=>st).hp b=(match L' i with|true=>d.app o st'|false=>st').hp b:=by
   by_cases ht:b∈d.wr
   ·have:=hl 0 o d zp ht
    simp only[zvi]at this;rw[this];cases L' i with
    |false=>exact h
    |true=>
     cases d with
     |run fp out=>exact anw b out.hp _ _ ht
     |skip=>simp[Dec.wr]at ht
   ·cases L i <;> cases L' i <;> simp only[Dec.azJ ht] <;> exact h
  exact amS L b l (i+1) _ _ h0 L' (fun k o' d' hk hd=>by have:=hl (k+1) o' d' (by simpa using hk) hd;rwa [show i+(k+1)=i+1+k by omega]at this)
def aff(ae:Array Oper)(L:Nat->Bool)(o:Oper)(d:Dec)(hd:∀x∈d.wr,x∈d.fp):∀(l:List (Oper×Dec)) (i:Nat) (st:St),
  (∀k p e,l[k]? =some (p,e)->L (i+k)=true->o.apart ae p=true/\far (foot d) (foot e)=true)->
  kU L i l (d.app o st)=d.app o (kU L i l st)
 |[],_,_,_=>rfl
 |(p,e)::l,i,st,h=>by
  have hrec:=fun st=>aff ae L o d hd l (i+1) st (fun k p' e' hk hL=>h (k+1) p' e' (by simpa using hk) (by rwa [show i+(k+1)=i+1+k by omega]))
  simp only[kU];cases hL:L i with
  |false=>exact hrec st
  |true=>
   obtain⟨h1,h2⟩:=h 0 p e zp (by simpa using hL)
   simp only[];rw[<-Dec.asE st h1 h2 hd];exact hrec _
section
def wL{ae:Array Oper}{m:Nat}{oj:Oper}{fj:List Nat×List Nat}:∀(l:List (Oper×(List Nat×List Nat))) (i:Nat),uD ae m oj fj i l=true->
  ∀k o f,l[k]? =some (o,f)->m.testBit (i+k)=true\/(o.apart ae oj=true/\far f fj=true)
 |[],_,_,k,o,f,h=>by simp at h
 |(p,g)::l,i,hc,k,o,f,h=>by
  simp only[uD,zx4,Bool.or_eq_true]at hc;cases k with
  |zero=>simp at h;obtain⟨rfl,rfl⟩:=h;simpa using hc.1
  |succ k=>
   have:=wL l (i+1) hc.2 k o f (by simpa using h)
   rwa [show i+(k+1)=i+1+k by omega]
def mD{ae:Array Oper}:∀(l done:List (Oper×(List Nat×List Nat))) (ms:List Nat),uw ae done l ms=true->∀j o f,l[j]? =some (o,f)->
  (∃m,ms[j]? =some m/\uD ae m o f 0 (done++l.take j)=true)/\(∀x∈f.2,x∈f.1)/\(∀e∈o.after,Region.binds .any e=true->e.on < done.length+j)
 |[],_,_,_,j,o,f,h=>by simp at h
 |(p,g)::l,done,[],hc,j,o,f,h=>by simp[uw]at hc
 |(p,g)::l,done,m::ms,hc,j,o,f,h=>by
  simp only[uw,zx4]at hc;obtain⟨⟨⟨h1,h2⟩,h3⟩,h4⟩:=hc;cases j with
  |zero=>
   simp at h
   obtain⟨rfl,rfl⟩:=h;refine⟨⟨m,rfl,by simpa using h1⟩,fun x hx=>?_,fun e he hb=>?_⟩
   ·rw[zqh]at h2;simpa using h2 x hx
   ·have:=Array.all_eq_true_iff_forall_mem.1 h3 e he;simp[hb]at this
    simpa using this
  |succ j=>
   obtain⟨⟨m',a,b⟩,c,d⟩:=mD l (done++[(p,g)]) ms h4 j o f (by simpa using h)
   refine⟨⟨m',by simpa using a,by simpa using b⟩,c,fun e he hb=>?_⟩
   have:=d e he hb;simp at this
   omega
def ap9{ab:List Nat}{o:Oper}(h:(mask ab o).testBit k=true):∃e∈o.after,Region.binds .any e=true/\(e.on=k\/(ab.getD e.on 0).testBit k=true):=by
 have key:∀(l:List Edge) (s:Nat),(l.foldl (fun s e=>if Region.binds .any e then s ||| (2 ^ e.on ||| ab.getD e.on 0)else s) s).testBit k=true->
   s.testBit k=true\/∃e∈l,Region.binds .any e=true/\(e.on=k\/(ab.getD e.on 0).testBit k=true):=by
  intro l
  induction l with
  |nil=>intro s h;exact .inl h
  |cons e l ih=>
   intro s h;simp only[List.foldl_cons]at h;rcases ih _ h with h1|⟨e',he',hb',hk'⟩
   ·by_cases hb:Region.binds .any e=true
    ·simp only[hb,if_true,Nat.testBit_or,Bool.or_eq_true]at h1;rcases h1 with h1|h1|h1
     ·exact .inl h1
     ·rw[Nat.testBit_two_pow]at h1;exact .inr ⟨e,by simp,hb,.inl (by simpa using h1)⟩
     ·exact .inr ⟨e,by simp,hb,.inr h1⟩
    ·simp only[hb]at h1;exact .inl h1
   ·exact .inr ⟨e',by simp[he'],hb',hk'⟩
 unfold mask at h;rcases key _ _ h with h1|⟨e,he,hb,hk⟩
 ·simp at h1
 ·exact⟨e,Array.mem_toList_iff.1 he,hb,hk⟩
def abJ:∀(l:List Oper) (ab:List Nat),(aai l ab).take ab.length=ab/\(aai l ab).length=ab.length+l.length
 |[],ab=>by simp[aai]
 |o::l,ab=>by
  obtain⟨h1,h2⟩:=abJ l (ab++[mask ab o]);refine⟨?_,by rw[aai,h2];simp;omega⟩
  have:=congrArg (List.take ab.length) h1;rw[List.take_take]at this;simpa[aai,zv9]using this
def als:∀(l:List Oper) (ab:List Nat) (j:Nat) (o:Oper),l[j]? =some o->(aai l ab)[ab.length+j]? =some (mask ((aai l ab).take (ab.length+j)) o)
 |[],_,_,_,h=>by simp at h
 |p::l,ab,0,o,h=>by
  simp at h
  subst h;obtain⟨h1,h2⟩:=abJ l (ab++[mask ab p]);have h3:(aai (p::l) ab).take ab.length=ab:=(abJ (p::l) ab).1;rw[zvi,h3];have:((aai l (ab++[mask ab p])).take (ab++[mask ab p]).length)[ab.length]? =some (mask ab p):=by rw[h1];simp
  rw[zy9]at this
  simpa[aai]using this
 |p::l,ab,j+1,o,h=>by
  have:=als l (ab++[mask ab p]) j o (by simpa using h)
  simp only[zqi,zw1]at this;rw[show ab.length+1+j=ab.length+(j+1)by omega]at this
  exact this
def aq2{ae:List Oper}{o:Oper}(ho:ae[j]? =some o)(h:bef ae j k=true):
  ∃e∈o.after,Region.binds .any e=true/\(e.on=k\/bef ae e.on k=true):=by
 have h1:=als ae [] j o ho;simp only[List.length_nil,zv7]at h1;unfold bef at h;rw[zx7,h1]at h
 obtain⟨e,he,hb,hk⟩:=ap9 h;refine⟨e,he,hb,hk.imp id fun hk=>?_⟩
 unfold bef;rw[zx7,zy9]at hk
 split at hk
 ·simpa[zx7]using hk
 ·simp at hk
def count_set:∀(l:List Bool) (i:Nat),l[i]? =some false->(l.set i true).count false+1=l.count false
 |[],i,h=>by simp at h
 |b::l,0,h=>by simp at h;subst h;simp
 |b::l,i+1,h=>by
  have:=count_set l i (by simpa using h)
  cases b <;> simp <;> omega
def ada:∀(l:List Bool),l.count false=0->∀i,i < l.length->l[i]? =some true
 |[],_,i,h=>by simp at h
 |b::l,hc,i,h=>by
  cases b with
  |false=>simp at hc
  |true=>
   cases i with
   |zero=>simp
   |succ i=>simpa using ada l (by simpa using hc) i (by simpa using h)
section
variable{P:Program}{C:Ctx}{ae:Array Oper}{ods:List (Oper×Dec)}{st:St}{Q:Exit->Act->World->Prop}
def auk{st st':St}{o:Oper}(h:∀t,t∈o.looksAt ae->st'.tm t=st.tm t):∀x∈o.op.operands,st'.ev x=st.ev x:=by
 intro x hx;cases x with
 |tmp t=>
  refine h t ?_;unfold Oper.looksAt;rw[zyg,List.mem_filterMap];exact .inl ⟨.tmp t,Array.mem_toList_iff.2 hx,rfl⟩
 |const v=>cases v <;> rfl
 |global g=>rfl
 |func f=>rfl
def aen{b:Bool}:undef≠Value.bool b:=by intro h;cases h
def Sat.bool{a:Act}{w:World}{t:Tmp}{b:Bool}(h:Sat C st a w)(ht:st.tm t=some (.v (.bool b))):a.tmps[t]? =some (.bool b):=by
 obtain⟨E,S,h⟩:=h;have h1:a.tmps.getD t undef= .bool b:=h.tm t _ ht;rw[Array.getD_eq_getD_getElem?]at h1;cases h2:a.tmps[t]? with
 |none=>rw[h2]at h1;exact absurd h1 aen
 |some v=>rw[h2]at h1;simp at h1;rw[h1]
def Sat.undef{a:Act}{w:World}{t:Tmp}(h:Sat C st a w)(ht:st.tm t=some (.v Go.undef)):a.tmps.getD t Go.undef=Go.undef:=by
 obtain⟨E,S,h⟩:=h;exact h.tm t _ ht
def zu{o:Oper}{a:Act}(hg:Guard ae.toList o st want)(h:Sat C st a w):Region.wanted o (yielded ae a.tmps)=want:=by
 unfold Guard at hg;unfold Region.wanted;cases hgd:o.guard with
 |none=>rw[hgd]at hg;exact hg.symm
 |some p=>
  obtain⟨j,b⟩:=p;rw[hgd]at hg;obtain⟨t,h1,⟨b',h2,h3⟩|⟨h2,h3⟩⟩:=hg
  ·have h4:=h.bool h2;simp only[yielded];rw[zw2]at h1
   simp only[h1,Option.bind_some,h4];rw[<-h3];cases b <;> cases b' <;> rfl
  ·rw[zw2]at h1
   rw[h3];simp only[yielded,h1,Option.bind_some];have h4:=h.undef h2;rw[Array.getD_eq_getD_getElem?]at h4;cases h5:a.tmps[t]? with
   |none=>rfl
   |some v=>
    rw[h5]at h4;have h6:v=Go.undef:=h4;subst h6;rfl
def Guard.congr{o:Oper}{st st':St}(hg:Guard ae.toList o st want)(h:∀t,t∈o.looksAt ae->st'.tm t=st.tm t):Guard ae.toList o st' want:=by
 unfold Guard at*;cases hgd:o.guard with
 |none=>rw[hgd]at hg;exact hg
 |some p=>
  obtain⟨j,b⟩:=p;rw[hgd]at hg;obtain⟨t,h1,h2⟩:=hg;refine⟨t,h1,?_⟩;rw[h t ?_];exact h2;unfold Oper.looksAt;rw[hgd,zyg];rw[zw2]at h1
  exact .inr (by simp[h1])
def Sat.skip{o:Oper}{a:Act}(h:Sat C st a w):Sat C (st.put o.dst (some (.v Go.undef))) (a.put o.dst Go.undef) w:=by
 obtain⟨E,S,h⟩:=h;cases hd:o.dst with
 |none=>exact⟨E,S,h⟩
 |some d=>
  refine⟨E,S,{h with nt:=?_,tm:=fun t v ht=>?_,tid:=fun t v ht b hb=>?_}⟩
  ·simpa[Act.put]using h.nt
  ·have ht':(upd st.tm d (some (.v Go.undef))) t=some v:=ht;by_cases e:t=d
   ·subst e;rw[upd_same]at ht';cases ht';show (a.tmps.setIfInBounds t Go.undef).getD t Go.undef=Go.undef;rw[Array.getD_eq_getD_getElem?,Array.getElem?_setIfInBounds]
    simp;split <;> rfl
   ·rw[upd_ne _ _ e]at ht';have:=h.tm t v ht';simp only[Act.put,Array.getD_eq_getD_getElem?]at*;rw[Array.getElem?_setIfInBounds_ne (fun e'=>e e'.symm)]
    exact this
  ·have ht':(upd st.tm d (some (.v Go.undef))) t=some v:=ht;by_cases e:t=d
   ·subst e;rw[upd_same]at ht';cases ht';cases hb
   ·rw[upd_ne _ _ e]at ht';exact h.tid t v ht' b hb
def au3{i:Nat}{o:Oper}{d:Dec}{st st':St}{a:Act}{K:Act->World->Prop}(hi:ae[i]? =some o)(hd:ahe P C ae.toList o st d)(h1:∀t,t∈o.looksAt ae->st'.tm t=st.tm t)(h2:∀b∈d.fp,st'.hp b=st.hp b)(hs:Sat C st' a w)(hk:∀a w,Sat C (d.app o st') a w->K a w):wpOp P ae Q i K a w:=by
 unfold wpOp;rw[hi];cases d with
 |run fp out=>
  obtain⟨hg,hop⟩:=hd;have hw:=zu (Guard.congr hg h1) hs;simp only[hw,if_true];exact .inl (hop st' (auk h1) h2 a w hs K Q fun v w' h=>hk _ _ h)
 |skip=>
  have hw:=zu (Guard.congr hd h1) hs;simp only[hw];exact hk _ _ hs.skip
def mem_some{l:List (Oper×Dec)}{i:Nat}(h:i < l.length):∃o d,l[i]? =some (o,d):=⟨l[i].1,l[i].2,by simp[h]⟩
def anR(hops:ae.toList=ods.map (·.1))(hc:check ae (ods.map fun p=>foot p.2)=true)
  (htr:∀(i:Nat) (o:Oper) (d:Dec),ods[i]? =some (o,d)->ahe P C ae.toList o (kU (fun k=>decide (k < i)) 0 ods st) d)
  (hQ:∀a w,Sat C (kU (fun _=>true) 0 ods st) a w->Q .normal a w):
  ∀(fuel:Nat) (listed:Array Bool) (a:Act) (w:World),listed.size=ods.length->listed.toList.count false=fuel->
   (∀j k,listed.getD j false=true->bef ae.toList j k=true->listed.getD k false=true)->
   Sat C (kU (fun k=>listed.getD k false) 0 ods st) a w->wpAny P .any ae Q fuel listed a w:=by
 have hsz:ods.length=ae.size:=by have:=congrArg List.length hops;simpa using this.symm
 have hat:∀(i:Nat) (o:Oper) (d:Dec),ods[i]? =some (o,d)->ae[i]? =some o:=by
  intro i o d h;rw[<-zw2,hops,zqa,h];rfl
 unfold check at hc;rw[zx4]at hc;have hz:∀(i:Nat) (o:Oper) (d:Dec),ods[i]? =some (o,d)->(ae.toList.zip (ods.map fun p=>foot p.2))[i]? =some (o,foot d):=by
  intro i o d h;rw[List.getElem?_zip_eq_some]
  exact⟨by rw[zw2];exact hat i o d h,by rw[zqa,h];rfl⟩
 have hpair:∀(i j:Nat) (o:Oper) (d:Dec) (p:Oper) (e:Dec),i < j->ods[i]? =some (o,d)->ods[j]? =some (p,e)->bef ae.toList j i=true\/(o.apart ae p=true/\far (foot d) (foot e)=true):=by
  intro i j o d p e hij h1 h2;obtain⟨⟨m,hm,h3⟩,_,_⟩:=mD _ [] _ hc.2 j p (foot e) (hz j p e h2);have:=wL _ 0 h3 i o (foot d) (by rw[zvd,zy9,if_pos hij];exact hz i o d h1)
  rw[zv7]at this;refine this.imp (fun h=>?_) id
  unfold bef;rw[zx7,hm];exact h
 have hwr:∀(i:Nat) (o:Oper) (d:Dec),ods[i]? =some (o,d)->∀x∈d.wr,x∈d.fp:=fun i o d h=>(mD _ [] _ hc.2 i o (foot d) (hz i o d h)).2.1
 have hed:∀(i:Nat) (o:Oper) (d:Dec),ods[i]? =some (o,d)->∀e∈o.after,Region.binds .any e=true->e.on < i:=fun i o d h e he hb=>by
  have:=(mD _ [] _ hc.2 i o (foot d) (hz i o d h)).2.2 e he hb;simpa using this
 intro fuel;have fin:∀(listed:Array Bool) (a:Act) (w:World),listed.size=ods.length->(∀i,i < ods.length->listed.getD i false=true)->Sat C (kU (fun k=>listed.getD k false) 0 ods st) a w->Q .normal a w:=by
  intro listed a w _ hall hs;refine hQ a w ?_
  rwa [rM _ (fun k=>listed.getD k false) ods 0 st (fun k _ hk=>(hall k zE).symm)]
 have empty:∀(listed:Array Bool),listed.size=ods.length->Region.ready .any ae listed=[]->∀i,i < ods.length->listed.getD i false=true:=by
  intro listed hls hr i
  induction i using Nat.strongRecOn with
  |_ i ih=>
   intro hi;obtain⟨o,d,ho⟩:=mem_some hi;cases hli:listed.getD i false with
   |true=>rfl
   |false=>
    have:i∈Region.ready .any ae listed:=by
     rw[mem_ready];refine⟨?_,o,hat i o d ho,fun e he hb=>ih e.on (hed i o d ho e he hb) (Nat.lt_trans (hed i o d ho e he hb) hi)⟩
     have h9:i < listed.size:=zE
     simp[h9]at hli ⊢
     exact hli
    rw[hr]at this;cases this
 induction fuel with
 |zero=>
  intro listed a w hls hcnt hcl hs;have hall:∀i,i < ods.length->listed.getD i false=true:=by
   intro i hi;have:=ada _ hcnt i (by simpa using(by omega:i < listed.size))
   simp only[zw2]at this
   simp[this]
  refine⟨?_,fin listed a w hls hall hs⟩;cases hr:Region.ready .any ae listed with
  |nil=>rfl
  |cons i r=>
   have hi:i∈Region.ready .any ae listed:=by rw[hr];simp
   rw[mem_ready]at hi;obtain⟨h0,o,ho,_⟩:=hi;have hlt:i < ods.length:=by rw[hsz];exact(Array.getElem?_eq_some_iff.1 ho).1
   have h1:=hall i hlt;have h9:i < listed.size:=zE
   simp[h9]at h0 h1
   rw[h0]at h1;cases h1
 |succ fuel ih=>
  intro listed a w hls hcnt hcl hs;refine⟨fun hr=>fin listed a w hls (empty listed hls hr) hs,fun i hi=>?_⟩
  rw[mem_ready]at hi;obtain⟨h0,o',ho',hedge⟩:=hi;have hlt:i < ods.length:=by rw[hsz];exact(Array.getElem?_eq_some_iff.1 ho').1
  obtain⟨o,d,hod⟩:=mem_some hlt;have hoo:o'=o:=by rw[hat i o d hod]at ho';exact(zy7 ho').symm
  subst hoo;have hli:i < listed.size:=zE
  have hfalse:listed.getD i false=false:=by simp[hli]at h0 ⊢;exact h0
  -- all that must come before i is done
  have hbefore:∀k,bef ae.toList i k=true->listed.getD k false=true:=by
   intro k hk;obtain⟨e,he,hb,h⟩:=aq2 (by rw[zw2];exact ho') hk
   have h1:=hedge e he hb;rcases h with h|h
   ·rw[<-h];exact h1
   ·exact hcl e.on k h1 h
  -- what i meets of those done behind it in the text lies apart
  have hafter:∀(k:Nat) (p:Oper) (e:Dec),i < k->ods[k]? =some (p,e)->listed.getD k false=true->o'.apart ae p=true/\far (foot d) (foot e)=true:=by
   intro k p e hik hk hL;rcases hpair i k o' d p e hik hod hk with h|h
   ·have:=hcl k i hL h;rw[hfalse]at this;cases this
   ·exact h
  have hwho:∀(k:Nat) (p:Oper) (e:Dec),ods[k]? =some (p,e)->¬(k≠i/\((k < i->p.apart ae o'=true/\far (foot e) (foot d)=true)/\(i < k->o'.apart ae p=true/\far (foot d) (foot e)=true)))->decide (k < i)=listed.getD k false:=by
   intro k p e hk hconf;rcases Nat.lt_trichotomy k i with hlt'|heq|hgt
   ·rw[decide_eq_true hlt'];rcases hpair k i p e o' d hlt' hk hod with h|h
    ·exact(hbefore k h).symm
    ·exact absurd ⟨zE,fun _=>h,fun h'=>zE⟩ hconf
   ·subst heq;rw[hfalse];simp
   ·rw[decide_eq_false zE]
    cases hL:listed.getD k false with
    |false=>rfl
    |true=>exact absurd ⟨zE,fun h'=>zE,fun _=>hafter k p e hgt hk hL⟩ hconf
  refine au3 ho' (htr i o' d hod) (fun t ht=>?_) (fun b hb=>?_) hs (fun a' w' hs'=>?_)
  ·refine alX _ t ods 0 st st rfl _ (fun k p e hk hdst=>?_)
   rw[zv7];refine(hwho k p e hk (fun⟨hne,h1,h2⟩=>?_)).symm
   rcases Nat.lt_or_gt_of_ne hne with hlt'|hgt
   ·exact(Oper.apart_spec (h1 hlt').1).1 t hdst ht
   ·exact(Oper.apart_spec (h2 hgt).1).2.2 t hdst ht
  ·refine amS _ b ods 0 st st rfl _ (fun k p e hk hw=>?_)
   rw[zv7];refine(hwho k p e hk (fun⟨hne,h1,h2⟩=>?_)).symm
   rcases Nat.lt_or_gt_of_ne hne with hlt'|hgt
   ·have:=(h1 hlt').2;unfold far at this;rw[zx4]at this;exact aa7 this.1 hw hb
   ·have:=(h2 hgt).2;unfold far at this;rw[zx4]at this;exact aa7 this.2 hw hb
  ·refine ih (listed.setIfInBounds i true) a' w' (by simpa using hls) ?_ ?_ ?_
   ·rw[Array.toList_setIfInBounds];have:=count_set listed.toList i (by
     rw[zw2]
     simp[hli]at h0 ⊢
     exact h0)
    omega
   ·intro j k hj hjk;by_cases hji:j=i
    ·subst hji;exact getD_set_true (hbefore k hjk)
    ·rw[getD_set_ne false (fun e=>hji e.symm)]at hj
     exact getD_set_true (hcl j k hj hjk)
   ·have hsplit:ods=ods.take i++(o',d)::ods.drop (i+1):=by
     have:ods.drop i=(o',d)::ods.drop (i+1):=by
      have h9:=zy4 hlt;rw[zyh hlt]at hod
      rw[h9,zy7 hod]
     rw[<-this,zv5]
    have hlen:(ods.take i).length=i:=by simp;omega
    have e1:kU (fun k=>(listed.setIfInBounds i true).getD k false) 0 ods st=d.app o' (kU (fun k=>listed.getD k false) 0 ods st):=by
     rw[hsplit,tJ,tJ,hlen,zv7];have hti:(listed.setIfInBounds i true).getD i false=true:=by simp[hli]
     rw[rM (fun k=>(listed.setIfInBounds i true).getD k false) (fun k=>listed.getD k false) (ods.take i) 0 st (fun k _ hk=>by
      rw[hlen]at hk;exact getD_set_ne false zE)]
     simp only[kU,hti,hfalse];rw[rM (fun k=>(listed.setIfInBounds i true).getD k false) (fun k=>listed.getD k false) (ods.drop (i+1)) (i+1) _ (fun k hk _=>getD_set_ne false zE)]
     exact aff ae _ o' d (hwr i o' d hod) (ods.drop (i+1)) (i+1) _ (fun k p e hk hL=>hafter (i+1+k) p e zE (by rw[zv1]at hk;exact hk) hL)
    rw[e1];exact hs'
end
end
def Env.at'(E E':Env)(b:Nat):Prop:=E'.blk b=E.blk b/\E'.sl b=E.sl b
def Atom.has.step{a:Atom}{E E':Env}{S S':Nat->Prop}{w w':World}{v:Value}(h:a.has E S w v)(he:∀b∈a.ids,E.at' E' b)(ho:Off S w w')(hs:∀k,S' k->S k\/w.heap.size<=k):a.has E' S' w' v:=by
 cases a with
 |c a=>exact CA.has.step h ho hs
 |ptr b off=>exact h.trans (by rw[(he b (by simp[Atom.ids])).1])
 |own b=>exact⟨h.1.trans (he b (by simp[Atom.ids])).2.symm,h.2⟩
 |rptr b off=>
  obtain⟨g,n,am,h1,h2⟩:=h;exact⟨g,n,am,(he b (by simp[Atom.ids])).2.trans h1,h2⟩
 |bnd f b=>exact h.trans (by rw[(he b (by simp[Atom.ids])).1])
 |rel b R=>
  obtain⟨h1,h2⟩:=h;have hb:=he b (by simp[Atom.ids])
  exact⟨by rw[hb.1,hb.2];exact h1,h2⟩
 |clo f am=>
  refine h.trans ?_
  congr 2
  refine zvg fun p hp=>?_
  rw[(he p.1 (by simp[Atom.ids];exact⟨p.2,hp⟩)).1]
def AV0.has.step{a:AV0}{E E':Env}{S S':Nat->Prop}{w w':World}{v:Value}(h:a.has E S w v)(he:∀b∈a.ids,E.at' E' b)(ho:Off S w w')(hs:∀k,S' k->S k\/w.heap.size<=k):a.has E' S' w' v:=by
 cases a with
 |one a=>exact Atom.has.step (a:=a) h he ho hs
 |agg l=>
  obtain⟨vs,hv,h⟩:=h;exact⟨vs,hv,h.mono fun a b ha hab=>hab.step (fun i hi=>he i (zx9.2 ⟨a,ha,hi⟩)) ho hs⟩
def AV.has.step{a:AV}{E E':Env}{S S':Nat->Prop}{w w':World}{v:Value}(h:a.has E S w v)(he:∀b∈a.ids,E.at' E' b)(ho:Off S w w')(hs:∀k,S' k->S k\/w.heap.size<=k):a.has E' S' w' v:=by
 cases a with
 |it a=>exact AV0.has.step (a:=a) h he ho hs
 |tup l=>
  obtain⟨vs,hv,h⟩:=h;exact⟨vs,hv,h.mono fun a b ha hab=>hab.step (fun i hi=>he i (zx9.2 ⟨a,ha,hi⟩)) ho hs⟩
def eD{base:Nat}{e:TypeId}{v:Value}{xs:List Value}(h:w.ownsRow base e size v n xs)(hb:∀k,v.ownBlock=some k->w'.heap[k]? =w.heap[k]?):w'.ownsRow base e size v n xs:=by
 refine⟨h.1,?_⟩;rcases h.2 with hn|⟨g,am,cur,rfl,hb',hgg,aa⟩
 ·exact .inl hn
 ·exact .inr ⟨g,am,cur,rfl,hb',by rw[hb g rfl];exact hgg,aa⟩
def Ent.has.step{e:Ent}{b:Nat}{E E':Env}{S S':Nat->Prop}{w w':World}(h:e.has E S w b)(he:∀i∈e.ids,E.at' E' i)(hb:E.at' E' b)(ho:Off S w w')(hs:∀k,S' k->S k\/w.heap.size<=k)
  (hk:∀k,e.at E b k->w'.heap[k]? =w.heap[k]?) (hf:E'.fp b=E.fp b):e.has E' S' w' b:=by
 cases e with
 |abs A=>
  show A.has (E'.blk b) (E'.sl b) (E'.fp b) S' w';rw[hb.1,hb.2,hf];exact A.step h ho hs hk
 |box t ag=>
  obtain⟨cs,h1,h2⟩:=h;refine⟨cs,by rw[hb.1,hk _ rfl];exact h1,h2.mono fun a x ha hax=>hax.step (fun i hi=>he i (zx9.2 ⟨a,ha,hi⟩)) ho hs⟩
 |row t size n ag=>
  obtain⟨vs,h1,h2⟩:=h;refine⟨vs,by rw[hb.2];exact eD h1 hk,h2.mono fun a x _ hax=>hax.step ho hs⟩
def Ent.gV{e:Ent}{b:Nat}{E E':Env}(hb:E.at' E' b)(hf:E'.fp b=E.fp b):e.at E' b=e.at E b:=by
 funext k
 cases e with
 |abs A=>simp[Ent.at,hf]
 |box t ag=>simp[Ent.at,hb.1]
 |row t size n ag=>simp[Ent.at,hb.2]
structure Eff(E:Env)(S:Nat->Prop)(w:World)(pre:List (Nat×Ent))(out:Out)(v:Value)(w':World)(E':Env)(S':Nat->Prop):Prop where
 env:∀b,((∃s,(b,s)∈out.hp)->∃e,(b,e)∈pre)->E.at' E' b
 fpe:∀b,(∀s,(b,s)∉out.hp)->E'.fp b=E.fp b
 sub:∀k,S k->S' k
 new:∀k,S' k->S k\/w.heap.size<=k
 lt:∀k,S' k->k < w'.heap.size
 off:Off (fun k=>∃b e,(b,e)∈pre/\e.at E b k) w w'
 res:out.res.has E' S' w' v
 ents:∀b e,(b,Slot.ent e)∈out.hp->e.has E' S' w' b
 blk:∀b e k,(b,Slot.ent e)∈out.hp->e.at E' b k->S' k/\((∃b e,(b,e)∈pre/\e.at E b k)\/w.heap.size<=k)
 sep:∀b b' e e' k,b≠b'->(b,Slot.ent e)∈out.hp->(b',Slot.ent e')∈out.hp->e.at E' b k->¬e'.at E' b' k
def gY(b:Nat):∀(l:List (Nat×Slot)) (f:Nat->Slot),(∃s,(b,s)∈l/\fH f l b=s)\/((∀s,(b,s)∉l)/\fH f l b=f b)
 |[],f=> .inr ⟨by simp,rfl⟩
 |(j,u)::l,f=>by
  rcases gY b l (upd f j u)with⟨s,h1,h2⟩|⟨h1,h2⟩
  ·exact .inl ⟨s,by simp[h1],h2⟩
  ·by_cases e:b=j
   ·subst e;exact .inl ⟨u,by simp,h2.trans zp⟩
   ·exact .inr ⟨fun s hs=>by simp at hs;exact hs.elim (fun h=>e h.1) (h1 s),h2.trans (upd_ne _ _ e)⟩
def ac4{f:Nat->Option AV}{an:Option Tmp}{v:Option AV}{t:Nat}:(an=some t/\agb f an v t=v)\/(an≠some t/\agb f an v t=f t):=by
 cases an with
 |none=>exact .inr ⟨by simp,rfl⟩
 |some d=>
  by_cases e:t=d
  ·subst e;exact .inl ⟨rfl,upd_same _ _ _⟩
  ·exact .inr ⟨fun h=>e (zy7 h).symm,upd_ne _ _ e⟩
def Out.known(out:Out)(hp:Nat->Slot):Prop:=
 (∀i∈out.res.ids,(fH hp out.hp i).used=true)/\(∀b e,(b,Slot.ent e)∈out.hp->∀i∈e.ids,(fH hp out.hp i).used=true)
def nZ.eff{C:Ctx}{st:St}{E E':Env}{a:Act}{pre:List (Nat×Ent)}{out:Out}{v:Value}{an:Option Tmp}(h:nZ C st E S a w)(hd:∀d,an=some d->d < C.nt)(hpre:∀b e,(b,e)∈pre->st.hp b= .ent e/\∃s,(b,s)∈out.hp)(hnew:∀b s,(b,s)∈out.hp->(∃e,(b,e)∈pre)\/st.hp b= .free)(hkeep:∀b s,(b,s)∈out.hp->s.used=true)(aq:out.known st.hp)(x:Eff E S w pre out v w' E' S'):nZ C (st.app an out) E' S' (a.put an v) w':=by
 have hoffS:Off S w w':=x.off.mono fun k ⟨b,e,hb,hk⟩=>(h.blk b e k (hpre b e hb).1 hk).1
 have hnotkey:∀b,(st.hp b).used=true->E.at' E' b:=fun b hb=>x.env b fun⟨s,hs⟩=>(hnew b s hs).resolve_right (fun e=>by rw[e]at hb;cases hb)
 have hused:∀b,(st.hp b).used=true->(fH st.hp out.hp b).used=true:=by
  intro b hb;rcases gY b out.hp st.hp with⟨s,h1,h2⟩|⟨_,h2⟩
  ·rw[h2];exact hkeep b s h1
  ·rw[h2];exact hb
 have hent:∀b e,fH st.hp out.hp b= .ent e->(b,Slot.ent e)∈out.hp\/(st.hp b= .ent e/\∀s,(b,s)∉out.hp):=by
  intro b e hb;rcases gY b out.hp st.hp with⟨s,h1,h2⟩|⟨h1,h2⟩
  ·rw[hb]at h2;subst h2;exact .inl h1
  ·exact .inr ⟨h2.symm.trans hb,h1⟩
 have hpreblk:∀k,(∃b e,(b,e)∈pre/\e.at E b k)->k < w.heap.size/\S k/\(C.B k\/C.w0.heap.size<=k):=fun k ⟨b,e,hb,hk⟩=>by
  have:=h.blk b e k (hpre b e hb).1 hk;exact⟨h.lt k this.1,this⟩
 have hold:∀b e,st.hp b= .ent e->(∀s,(b,s)∉out.hp)->∀k,e.at E b k->k < w.heap.size/\¬∃b e,(b,e)∈pre/\e.at E b k:=by
  intro b e hb hn k hk;refine⟨h.lt k (h.blk b e k hb hk).1,fun⟨b',e',hb',hk'⟩=>?_⟩
  have hne:b≠b':=fun e1=>by subst e1;obtain⟨s,hs⟩:=(hpre b e' hb').2;exact hn s hs
  exact h.sep b b' e e' k hne hb (hpre b' e' hb').1 hk hk'
 refine
  {dfr:=?_,nt:=?_,cT:=fun k hk=>x.sub k (h.cT k hk),cT0:=h.cT0,cS:=fun k hk=>?_,lt:=x.lt,tm:=fun t u ht=>?_,tid:=fun t u ht i hi=>?_,hp:=fun b e hb=>?_,aq:=fun b e hb i hi=>?_,
   blk:=fun b e k hb hk=>?_,sep:=fun b b' e e' k hne hb hb' hk hk'=>?_,off:=?_,env:=fun b hb=>?_,gl:=h.gl.step hoffS x.new}
 ·rw[<-h.dfr];cases an <;> rfl
 ·rw[<-h.nt];cases an <;> simp[Act.put]
 ·rcases x.new k hk with h1|h1
  ·exact h.cS k h1
  ·exact .inr (zxf h.off.size h1)
 ·rcases ac4 (f:=st.tm) (an:=an) (v:=some out.res) (t:=t)with⟨h1,h2⟩|⟨h1,h2⟩
  ·have:u=out.res:=by have:=h2.symm.trans ht;exact(zy7 this).symm
   subst this;subst h1;have hlt:t < a.tmps.size:=by rw[h.nt];exact hd t rfl
   simp only[Act.put];simpa[hlt]using x.res
  ·have h3:=h.tm t u (h2.symm.trans ht);have h4:(a.put an v).tmps.getD t undef=a.tmps.getD t undef:=by
    cases an with
    |none=>rfl
    |some d=>
     have:d≠t:=fun e=>h1 (by rw[e])
     simp[Act.put,Array.getElem?_setIfInBounds_ne this]
   rw[h4];exact h3.step (fun b hb=>hnotkey b (h.tid t u (h2.symm.trans ht) b hb)) hoffS x.new
 ·rcases ac4 (f:=st.tm) (an:=an) (v:=some out.res) (t:=t)with⟨h1,h2⟩|⟨h1,h2⟩
  ·have:u=out.res:=by have:=h2.symm.trans ht;exact(zy7 this).symm
   subst this;exact aq.1 i hi
  ·exact hused i (h.tid t u (h2.symm.trans ht) i hi)
 ·rcases hent b e hb with h1|⟨h1,h2⟩
  ·exact x.ents b e h1
  ·have hat:=hnotkey b (by rw[h1];rfl)
   refine(h.hp b e h1).step (fun i hi=>hnotkey i (h.aq b e h1 i hi)) hat hoffS x.new (fun k hk=>?_) (x.fpe b h2)
   obtain⟨h3,h4⟩:=hold b e h1 h2 k hk;exact x.off.block k h3 h4
 ·rcases hent b e hb with h1|⟨h1,h2⟩
  ·exact aq.2 b e h1 i hi
  ·exact hused i (h.aq b e h1 i hi)
 ·rcases hent b e hb with h1|⟨h1,h2⟩
  ·obtain⟨h3,h4⟩:=x.blk b e k h1 hk;refine⟨h3,h4.elim (fun h5=>(hpreblk k h5).2.2) (fun h5=> .inr (zxf h.off.size h5))⟩
  ·have hat:=hnotkey b (by rw[h1];rfl)
   rw[Ent.gV hat (x.fpe b h2)]at hk;obtain⟨h3,h4⟩:=h.blk b e k h1 hk;exact⟨x.sub k h3,h4⟩
 ·rcases hent b e hb with h1|⟨h1,h2⟩
  ·rcases hent b' e' hb' with h1'|⟨h1',h2'⟩
   ·exact x.sep b b' e e' k hne h1 h1' hk hk'
   ·rw[Ent.gV (hnotkey b' (by rw[h1'];rfl)) (x.fpe b' h2')]at hk'
    obtain⟨h3,h4⟩:=hold b' e' h1' h2' k hk';exact(x.blk b e k h1 hk).2.elim h4 (fun h5=>zE)
  ·rw[Ent.gV (hnotkey b (by rw[h1];rfl)) (x.fpe b h2)]at hk
   obtain⟨h3,h4⟩:=hold b e h1 h2 k hk;rcases hent b' e' hb' with h1'|⟨h1',h2'⟩
   ·exact(x.blk b' e' k h1' hk').2.elim h4 (fun h5=>zE)
   ·rw[Ent.gV (hnotkey b' (by rw[h1'];rfl)) (x.fpe b' h2')]at hk'
    exact h.sep b b' e e' k hne h1 h1' hk hk'
 ·exact h.off.ayr x.off (fun k hk=>hk) (fun k hk=>(hpreblk k hk).2.2.imp id id)
 ·obtain⟨h1,h2,h3⟩:=h.env b hb;have hat:=hnotkey b h3;exact⟨hat.1.trans h1,hat.2.trans h2,hused b h3⟩
def aT.eff{P:Program}{C:Ctx}{o:Oper}{st:St}{fp:List Nat}{out:Out}(rd pre:List (Nat×Ent))
  (hfp:∀b,((∃e,(b,e)∈rd)\/(∃e,(b,e)∈pre)\/∃s,(b,s)∈out.hp)->b∈fp) (hd:∀d,o.dst=some d->d < C.nt)
  (hrd:∀b e,(b,e)∈rd->st.hp b= .ent e) (hpre:∀b e,(b,e)∈pre->st.hp b= .ent e/\∃s,(b,s)∈out.hp) (hnew:∀b s,(b,s)∈out.hp->(∃e,(b,e)∈pre)\/st.hp b= .free)
  (hkeep:∀b s,(b,s)∈out.hp->s.used=true)
  (h:∀st' E S a w,(∀x∈o.op.operands,st'.ev x=st.ev x)->(∀b∈fp,st'.hp b=st.hp b)->nZ C st' E S a w->(∀b e,(b,e)∈rd->st'.hp b= .ent e)->(∀b e,(b,e)∈pre->st'.hp b= .ent e)->
   out.known st'.hp/\∀(K:Act->World->Prop) (Q:Exit->Act->World->Prop),(∀v w' E' S',Eff E S w pre out v w' E' S'->K (a.put o.dst v) w')->o.wp P a w K Q):
  aT P C o st fp out:=by
 intro st' hev hhp a w ⟨E,S,hs⟩ K Q hK;have e1:∀b e,(b,e)∈rd->st'.hp b= .ent e:=fun b e hb=>by rw[hhp b (hfp b (.inl ⟨e,hb⟩))];exact hrd b e hb
 have e2:∀b e,(b,e)∈pre->st'.hp b= .ent e:=fun b e hb=>by rw[hhp b (hfp b (.inr (.inl ⟨e,hb⟩)))];exact(hpre b e hb).1
 obtain⟨hk,hw⟩:=h st' E S a w hev hhp hs e1 e2;refine hw K Q fun v w' E' S' x=>hK v w' ⟨E',S',hs.eff hd (fun b e hb=>⟨e2 b e hb,(hpre b e hb).2⟩) (fun b s hb=>?_) hkeep hk x⟩
 exact(hnew b s hb).imp id fun h1=>by rw[hhp b (hfp b (.inr (.inr ⟨s,hb⟩)))];exact h1
section
def WP(P:Program)(C:Ctx)(c:Code)(st:St)(Q:Exit->St->Prop):Prop:=
 ∀a w,Sat C st a w->c.wp P (fun ex a w=>∃st',Q ex st'/\Sat C st' a w) a w
def aK(k:St->Prop)(Q:Exit->St->Prop):Exit->St->Prop
 | .normal,st=>k st
 |e,st=>Q e st
def aN(id:Nat)(Q:Exit->St->Prop):Exit->St->Prop
 | .exit j,st=>match Nat.beq j id with|true=>Q .normal st|false=>Q (.exit j) st
 |e,st=>Q e st
section
variable{P:Program}{C:Ctx}{st:St}{Q:Exit->St->Prop}
def WP.skip(h:Q .normal st):WP P C .skip st Q:=fun a w hs=>wp_skip ⟨st,h,hs⟩
def WP.exit{i:Nat}(h:Q (.exit i) st):WP P C (.exit i) st Q:=fun a w hs=>wp_exit ⟨st,h,hs⟩
def WP.ret(h:Q .ret st):WP P C .ret st Q:=fun a w hs=>wp_ret ⟨st,h,hs⟩
def WP.seq{x y:Code}(h:WP P C x st (aK (fun s=>WP P C y s Q) Q)):WP P C (.seq x y) st Q:=fun a w hs=>
 wp_seq (wp_mono (h a w hs) fun e a w ⟨s,hq,hs⟩=>by
  cases e with
  |normal=>exact hq a w hs
  |_=>exact⟨s,hq,hs⟩)
def WP.block{i:Nat}{c:Code}(h:WP P C c st (aN i Q)):WP P C (.block i c) st Q:=fun a w hs=>
 wp_block (wp_mono (h a w hs) fun e a w ⟨s,hq,hs⟩=>by
  cases e with
  |exit j=>
   simp only[Exit.inBlock,aN]at*;by_cases hj:j=i
   ·subst hj;simp at hq;simp;exact⟨s,hq,hs⟩
   ·have:Nat.beq j i=false:=by rw[Bool.eq_false_iff];simpa using hj
    simp only[this]at hq;rw[if_neg hj];exact⟨s,hq,hs⟩
  |_=>exact⟨s,hq,hs⟩)
def agU{E:Env}{v:Value}{av:AV}(h:st.ev (.const v)=some av):av.has E S w v/\av.ids=[]:=by
 cases v <;> simp only[St.ev]at h <;> first|(cases h;done)|(obtain rfl:=zy7 h;exact⟨rfl,rfl⟩)
def nZ.ev{E:Env}{a:Act}(h:nZ C st E S a w){x:Operand}{av:AV}(hx:st.ev x=some av):av.has E S w (a.eval x)/\∀b∈av.ids,(st.hp b).used=true:=by
 cases x with
 |tmp t=>exact⟨h.tm t av hx,h.tid t av hx⟩
 |const v=>
  obtain⟨h1,h2⟩:=agU (E:=E) (S:=S) (w:=w) hx;exact⟨h1,fun b hb=>by rw[h2]at hb;cases hb⟩
 |global g=>obtain rfl:=zy7 hx;exact⟨rfl,fun b hb=>by cases hb⟩
 |func f=>obtain rfl:=zy7 hx;exact⟨rfl,fun b hb=>by cases hb⟩
def WP.cond{c:Operand}{x y:Code}{t:Bool}(hc:st.ev c=some (.v (.bool t)))(h1:t=true->WP P C x st Q)(h2:t=false->WP P C y st Q):WP P C (.cond c x y) st Q:=fun a w hs=>by
 obtain⟨E,S,hse⟩:=id hs;refine wp_cond_split (t:=t) (hse.ev hc).1 (fun ht=>h1 ht a w hs) (fun ht=>h2 ht a w hs)
def WP.an6{c:Operand}{x:Code}(hc:st.ev c=some (.v (.bool true)))(h1:WP P C x st Q):WP P C (.cond c x y) st Q:=WP.cond hc (fun _=>h1) (fun h=>by cases h)
def WP.adK{c:Operand}{x:Code}(hc:st.ev c=some (.v (.bool false)))(h1:WP P C y st Q):WP P C (.cond c x y) st Q:=WP.cond hc (fun h=>by cases h) (fun _=>h1)
def St.le(C:Ctx)(st st':St):Prop:=∀a w,Sat C st a w->Sat C st' a w
def WP.weaken{c:Code}{st':St}(h:St.le C st st')(k:WP P C c st' Q):WP P C c st Q:=fun a w hs=>k a w (h a w hs)
def WP.mono{c:Code}{Q':Exit->St->Prop}(h:WP P C c st Q)(k:∀e s,Q e s->Q' e s):WP P C c st Q':=fun a w hs=>
 wp_mono (h a w hs) fun _ _ _ ⟨s,hq,hs⟩=>⟨s,k _ _ hq,hs⟩
def WP.loop{c:Code}{ι:Type}(I:ι->St)(μ:ι->Nat)(i0:ι)(h0:St.le C st (I i0))
  (round:∀i,WP P C c (I i) (aK (fun s=>∃j,St.le C s (I j)/\μ j < μ i) Q)):WP P C (.loop c) st Q:=fun a w hs=>by
 have key:∀n i a w,μ i < n->Sat C (I i) a w->Code.rounds P c (fun ex a w=>∃st',Q ex st'/\Sat C st' a w) n a w:=by
  intro n
  induction n with
  |zero=>intro i a w h;omega
  |succ n ih=>
   intro i a w hlt hs;rw[rounds_succ];refine wp_mono (round i a w hs) fun e a w ⟨s,hq,hs⟩=>?_
   cases e with
   |normal=>
    obtain⟨j,hle,hj⟩:=hq;exact ih j a w zE (hle a w hs)
   |_=>exact⟨s,hq,hs⟩
 exact wp_loop_rounds (μ i0+1) (key _ i0 a w zE (h0 a w hs))
end
section
variable{P:Program}{C:Ctx}
def Reg(P:Program)(C:Ctx)(ae aa:List Oper)(st:St)(ab:List (List Nat×List Nat))(K:List (List Nat×List Nat)->St->Prop):Prop:=
 ∃ods st',ods.map (·.1)=aa/\Tr P C ae ods st st'/\K (ab.reverse++ods.map fun p=>foot p.2) st'
variable{ae aa:List Oper}{st:St}{ab:List (List Nat×List Nat)}{K:List (List Nat×List Nat)->St->Prop}{o:Oper}
def Reg.nil(h:K ab.reverse st):Reg P C ae [] st ab K:=⟨[],st,rfl,rfl,by simpa using h⟩
def Reg.cons{d:Dec}(hd:ahe P C ae o st d)(h:Reg P C ae aa (d.app o st) (foot d::ab) K):Reg P C ae (o::aa) st ab K:=by
 obtain⟨ods,st',h1,h2,h3⟩:=h;exact⟨(o,d)::ods,st',by simp[h1],⟨hd,h2⟩,by simpa using h3⟩
def Reg.run{fp:List Nat}{out:Out}(hg:o.guard=none)(h:aT P C o st fp out)(ai:Reg P C ae aa (st.app o.dst out) ((fp,out.hp.map (·.1))::ab) K):Reg P C ae (o::aa) st ab K:=
 Reg.cons (d:= .run fp out) ⟨by unfold Guard;rw[hg],h⟩ ai
def Reg.runG{fp:List Nat}{out:Out}{t:Nat}{b:Bool}(hg:o.guard=some (j,b))(ht:(ae[j]?).bind (·.dst)=some t)(hv:st.tm t=some (.v (.bool b')))(hb:b'=b)(h:aT P C o st fp out)(ai:Reg P C ae aa (st.app o.dst out) ((fp,out.hp.map (·.1))::ab) K):Reg P C ae (o::aa) st ab K:=
 Reg.cons (d:= .run fp out) ⟨by unfold Guard;rw[hg];exact⟨t,ht,.inl ⟨b',hv,by subst hb;simp⟩⟩,h⟩ ai
def Reg.skipG{t:Nat}{b:Bool}(hg:o.guard=some (j,b))(ht:(ae[j]?).bind (·.dst)=some t)(hv:st.tm t=some (.v (.bool b')))(hb:b'=!b)(ai:Reg P C ae aa (st.put o.dst (some (.v undef))) (([],[])::ab) K):Reg P C ae (o::aa) st ab K:=
 Reg.cons (d:= .skip) (show Guard ae o st false by unfold Guard;rw[hg];exact⟨t,ht,.inl ⟨b',hv,by subst hb;cases b <;> rfl⟩⟩) ai
def Reg.ae9{t:Nat}{b:Bool}(hg:o.guard=some (j,b))(ht:(ae[j]?).bind (·.dst)=some t)(hv:st.tm t=some (.v undef))(ai:Reg P C ae aa (st.put o.dst (some (.v undef))) (([],[])::ab) K):Reg P C ae (o::aa) st ab K:=
 Reg.cons (d:= .skip) (show Guard ae o st false by unfold Guard;rw[hg];exact⟨t,ht,.inr ⟨hv,rfl⟩⟩) ai
def wU:∀(l:List (Oper×Dec)) (i:Nat) (st:St) (L:Nat->Bool),(∀k,i<=k->L k=false)->kU L i l st=st
 |[],_,_,_,_=>rfl
 |(o,d)::l,i,st,L,h=>by
  simp only[kU,h i (zq6 _)];exact wU l (i+1) st L (fun k hk=>h k zE)
def ayf:∀(l:List (Oper×Dec)) (i:Nat) (st st':St),Tr P C ae l st st'->
  (∀(k:Nat) (o:Oper) (d:Dec),l[k]? =some (o,d)->ahe P C ae o (kU (fun j=>decide (j < i+k)) i l st) d)/\st'=kU (fun _=>true) i l st
 |[],_,_,_,h=>⟨by simp,h.symm⟩
 |(p,e)::l,i,st,st',h=>by
  obtain⟨h1,h2⟩:=ayf l (i+1) _ st' h.2;refine⟨fun k o d hk=>?_,by rw[h2];rfl⟩
  cases k with
  |zero=>
   simp at hk
   obtain⟨rfl,rfl⟩:=hk;rw[wU _ _ _ _ (fun k hk=>by simp;omega)]
   exact h.1
  |succ k=>
   have:=h1 k o d (by simpa using hk)
   simp only[kU];rw[decide_eq_true (show i < i+(k+1)by omega),show i+(k+1)=i+1+k by omega]
   exact this
def adO{ae:Array Oper}{Q:Exit->Act->World->Prop}:∀(l:List (Oper×Dec)) (i:Nat) (st st':St) (a:Act) (w:World),ae.toList.drop i=l.map (·.1)->Tr P C ae.toList l st st'->Sat C st a w->
  (∀a w,Sat C st' a w->Q .normal a w)->wpOps P ae Q (List.range' i l.length) a w
 |[],i,st,st',a,w,_,h,hs,hQ=>by
  have:st=st':=h;subst this;exact hQ a w hs
 |(o,d)::l,i,st,st',a,w,hd,h,hs,hQ=>by
  have hi:ae[i]? =some o:=by
   have:=congrArg (fun m=>m[0]?) hd
   simpa[zv1]using this
  have htl:ae.toList.drop (i+1)=l.map (·.1):=by
   have:=congrArg (List.drop 1) hd;simpa[List.drop_drop,Nat.add_comm]using this
  rw[zx6,List.range'_succ,wpOps_cons];exact au3 hi h.1 (fun _ _=>rfl) (fun _ _=>rfl) hs (fun a' w' hs'=>adO l (i+1) _ st' a' w' htl h.2 hs' hQ)
def Sat.drew{a:Act}{w:World}(h:Sat C st a w):Sat C st a w.drew:=by
 obtain⟨E,S,h⟩:=h;refine⟨E,S,{h with lt:=h.lt,tm:=fun t v ht=>(h.tm t v ht).step (fun _ _=>⟨rfl,rfl⟩) (Off.drew S w) (fun k hk=> .inl hk),hp:=fun b e hb=>(h.hp b e hb).step (fun _ _=>⟨rfl,rfl⟩) ⟨rfl,rfl⟩ (Off.drew S w) (fun k hk=> .inl hk) (fun _ _=>rfl) rfl,off:=h.off.trans (Off.drew _ _)}⟩
variable{Q:Exit->St->Prop}
def WP.region{id:Nat}{ae:Array Oper}(h:Reg P C ae.toList ae.toList st [] (fun _ st'=>Q .normal st')):WP P C (.region id ae false) st Q:=fun a w hs=>by
 obtain⟨ods,st',h1,h2,h3⟩:=h;refine wp_region ?_;have hl:ods.length=ae.size:=by have:=congrArg List.length h1;simpa using this
 rw[List.range_eq_range',<-hl];exact adO ods 0 st st' a w (by simpa using h1.symm) h2 hs fun a w hs'=>⟨st',h3,hs'⟩
def WP.awD{id:Nat}{ae:Array Oper}(hm:P.follows .mixedOrders=true)(h:Reg P C ae.toList ae.toList st [] (fun feet st'=>check ae feet=true/\Q .normal st')):WP P C (.region id ae true) st Q:=fun a w hs=>by
 obtain⟨ods,st',h1,h2,hc,h3⟩:=h;obtain⟨h4,h5⟩:=ayf ods 0 st st' h2;have hl:ods.length=ae.size:=by have:=congrArg List.length h1;simpa using this
 have hrep:∀k,(Array.replicate ae.size false).getD k false=false:=fun k=>by
  rw[Array.getD_eq_getD_getElem?,Array.getElem?_replicate];split <;> rfl
 refine wp_region_any hm (anR (C:=C) (ods:=ods) (st:=st) h1.symm (by simpa using hc) (fun i o d hi=>by simpa using h4 i o d hi) (fun a w hs'=>⟨st',h3,by rw[h5];exact hs'⟩) ae.size _ a _ (by simp[hl]) zp (fun j k hj=>?_) ?_)
 ·rw[hrep]at hj;cases hj
 ·rw[wU _ _ _ _ (fun k _=>hrep k)]
  exact hs.drew
def WP.aG{id:Nat}{l:List Oper}(h:Reg P C l l st [] (fun _ st'=>Q .normal st')):WP P C (.region id l.toArray false) st Q:=WP.region h
def WP.adr{id:Nat}{l:List Oper}(hm:P.follows .mixedOrders=true)(h:Reg P C l l st [] (fun feet st'=>check l.toArray feet=true/\Q .normal st')):WP P C (.region id l.toArray true) st Q:=WP.awD hm h
end
end
section
def aC(d:Option Tmp)(nt:Nat):Bool:=match d with|some d=>Nat.blt d nt|none=>true
def dP{d:Option Tmp}(h:aC d nt=true):∀x,d=some x->x < nt:=by
 intro x hx;subst hx;simpa[aC,Nat.blt_eq]using h
def Eff.same{E:Env}{r:AV}{v:Value}(hl:∀k,S k->k < w.heap.size)(h:r.has E S w v):Eff E S w [] ⟨r,[]⟩ v w E S:=
 {env:=fun _ _=>⟨rfl,rfl⟩,fpe:=fun _ _=>rfl,sub:=fun _ h=>h,new:=fun _ h=> .inl h,lt:=hl,off:=Off.refl _ _,res:=h,ents:=fun _ _ h=>(by cases h),blk:=fun _ _ _ h=>(by cases h),sep:=fun _ _ _ _ _ _ h=>(by cases h)}
section
variable{P:Program}{C:Ctx}{st:St}
def aT.dz{o:Oper}{fp:List Nat}(rd:List (Nat×Ent))(r:AV)(hfp:∀b e,(b,e)∈rd->b∈fp)(hd:aC o.dst C.nt=true)(hrd:∀b e,(b,e)∈rd->st.hp b= .ent e)
  (h:∀st' E S a w,(∀x∈o.op.operands,st'.ev x=st.ev x)->nZ C st' E S a w->(∀b e,(b,e)∈rd->st'.hp b= .ent e)->
   (∀i∈r.ids,(st'.hp i).used=true)/\∃v,(execOp a.eval o).run P w= .ok (.value v) w/\r.has E S w v):aT P C o st fp ⟨r,[]⟩:=by
 refine aT.eff rd [] (fun b hb=>?_) (dP hd) hrd (fun b e hb=>by cases hb) (fun b s hb=>by cases hb) (fun b s hb=>by cases hb) (fun st' E S a w h1 _ h2 h3 _=>?_)
 ·rcases hb with⟨e,h1⟩|⟨e,h1⟩|⟨s,h1⟩
  ·exact hfp b e h1
  ·cases h1
  ·cases h1
 ·obtain⟨aq,v,hr,hv⟩:=h st' E S a w h1 h2 h3;refine⟨⟨aq,fun b e hb=>by cases hb⟩,fun K Q hK=>?_⟩
  unfold Oper.wp;rw[hr];exact hK v w E S (Eff.same h2.lt hv)
def Go1(P:Program)(C:Ctx)(ae:List Oper)(an:Option Tmp)(op:Op)(ty:TypeId)(aa:List Oper)(st:St)(ab:List (List Nat×List Nat))(K:List (List Nat×List Nat)->St->Prop):Prop:=
 ∃fp out,(∀o:Oper,o.dst=an->o.op=op->o.type=ty->aT P C o st fp out)/\Reg P C ae aa (st.app an out) ((fp,out.hp.map (·.1))::ab) K
variable{ae aa:List Oper}{ab:List (List Nat×List Nat)}{K:List (List Nat×List Nat)->St->Prop}{an:Option Tmp}{op:Op}{ty:TypeId}{pos:String}{af:Array Edge}
def Reg.go(h:Go1 P C ae an op ty aa st ab K):Reg P C ae (⟨an,op,ty,pos,af,none⟩::aa) st ab K:=by
 obtain⟨fp,out,h1,h2⟩:=h;exact Reg.run rfl (h1 _ rfl rfl rfl) h2
def Reg.goT{t:Nat}{b:Bool}(ht:(ae[j]?).bind (·.dst)=some t)(hv:st.tm t=some (.v (.bool b')))(hb:b'=b)(h:Go1 P C ae an op ty aa st ab K):Reg P C ae (⟨an,op,ty,pos,af,some (j,b)⟩::aa) st ab K:=by
 obtain⟨fp,out,h1,h2⟩:=h;exact Reg.runG rfl ht hv hb (h1 _ rfl rfl rfl) h2
def Reg.goF{t:Nat}{b:Bool}(ht:(ae[j]?).bind (·.dst)=some t)(hv:st.tm t=some (.v (.bool b')))(hb:b'=!b)(h:Reg P C ae aa (st.put an (some (.v undef))) (([],[])::ab) K):Reg P C ae (⟨an,op,ty,pos,af,some (j,b)⟩::aa) st ab K:=
 Reg.skipG rfl ht hv hb h
def Reg.goU{t:Nat}{b:Bool}(ht:(ae[j]?).bind (·.dst)=some t)(hv:st.tm t=some (.v undef))(h:Reg P C ae aa (st.put an (some (.v undef))) (([],[])::ab) K):Reg P C ae (⟨an,op,ty,pos,af,some (j,b)⟩::aa) st ab K:=
 Reg.ae9 rfl ht hv h
def Go1.dz{r:AV}(rd:List (Nat×Ent))(fp:List Nat)(hfp:∀b e,(b,e)∈rd->b∈fp)(hd:aC an C.nt=true)(hrd:∀b e,(b,e)∈rd->st.hp b= .ent e)
  (h:∀o:Oper,o.op=op->o.type=ty->∀st' E S a w,(∀x∈o.op.operands,st'.ev x=st.ev x)->nZ C st' E S a w->(∀b e,(b,e)∈rd->st'.hp b= .ent e)->
   (∀i∈r.ids,(st'.hp i).used=true)/\∃v,(execOp a.eval o).run P w= .ok (.value v) w/\r.has E S w v)
  (ai:Reg P C ae aa (st.app an ⟨r,[]⟩) ((fp,[])::ab) K):Go1 P C ae an op ty aa st ab K:=
 ⟨fp,⟨r,[]⟩,fun o h1 h2 h3=>aT.dz rd r hfp (h1▸hd) hrd (h o h2 h3),ai⟩
def Go1.pick{x y c:Operand}{b:Bool}{r:AV}(hd:aC an C.nt=true)(hc:st.ev c=some (.v (.bool b)))(hx:st.ev (match b with|true=>x|false=>y)=some r)(ai:Reg P C ae aa (st.app an ⟨r,[]⟩) (([],[])::ab) K):Go1 P C ae an (.pick c x y) ty aa st ab K:=
 Go1.dz [] [] zp hd zp (fun o ho _ st' E S a w hev hs _=>by
  have hc':a.eval c= .bool b:=(hs.ev ((hev c (by simp[ho,Op.operands])).trans hc)).1
  cases b with
  |true=>
   have hx':=hs.ev ((hev x (by simp[ho,Op.operands])).trans hx)
   exact⟨hx'.2,_,by unfold execOp;rw[ho];simp[hc',asBool],hx'.1⟩
  |false=>
   have hx':=hs.ev ((hev y (by simp[ho,Op.operands])).trans hx)
   exact⟨hx'.2,_,by unfold execOp;rw[ho];simp[hc',asBool],hx'.1⟩) ai
def Go1.val1{x:Operand}{u r:Value}(hd:aC an C.nt=true)(hop:op.operands= #[x])(hx:st.ev x=some (.v u))(hrun:∀(ρ:Operand->Value) (o:Oper) (w:World),o.op=op->ρ x=u->(execOp ρ o).run P w= .ok (.value r) w)
  (ai:Reg P C ae aa (st.app an ⟨.v r,[]⟩) (([],[])::ab) K):Go1 P C ae an op ty aa st ab K:=
 Go1.dz [] [] zp hd zp (fun o ho _ st' E S a w hev hs _=>by
  have hx':=hs.ev ((hev x (by rw[ho,hop];simp)).trans hx)
  exact⟨fun i hi=>(by cases hi),r,hrun _ o w ho hx'.1,rfl⟩) ai
def Go1.tF{x y:Operand}{u v r:Value}(hd:aC an C.nt=true)(hop:op.operands= #[x,y])(hx:st.ev x=some (.v u))(hy:st.ev y=some (.v v))(hrun:∀(ρ:Operand->Value) (o:Oper) (w:World),o.op=op->ρ x=u->ρ y=v->(execOp ρ o).run P w= .ok (.value r) w)
  (ai:Reg P C ae aa (st.app an ⟨.v r,[]⟩) (([],[])::ab) K):Go1 P C ae an op ty aa st ab K:=
 Go1.dz [] [] zp hd zp (fun o ho _ st' E S a w hev hs _=>by
  have hx':=hs.ev ((hev x (by rw[ho,hop];simp)).trans hx)
  have hy':=hs.ev ((hev y (by rw[ho,hop];simp)).trans hy)
  exact⟨fun i hi=>(by cases hi),r,hrun _ o w ho hx'.1 hy'.1,rfl⟩) ai
variable{x y:Operand}{t t':TypeId}{k:IntKind}{m n:Int}
def Go1.add{z:Int}(hd:aC an C.nt=true)(hx:st.ev x=some (.v (.int k m)))(hy:st.ev y=some (.v (.int k n)))(hw:k.wrap (m+n)=z)(ai:Reg P C ae aa (st.app an ⟨.v (.int k z),[]⟩) (([],[])::ab) K):Go1 P C ae an (.binOp .add t x y t') ty aa st ab K:=
 Go1.tF hd rfl hx hy (fun ρ o w ho h1 h2=>by unfold execOp;rw[ho];simp[h1,h2,eqGuard,binOp,Op.intArith,hw]) ai
def Go1.sub{z:Int}(hd:aC an C.nt=true)(hx:st.ev x=some (.v (.int k m)))(hy:st.ev y=some (.v (.int k n)))(hw:k.wrap (m - n)=z)(ai:Reg P C ae aa (st.app an ⟨.v (.int k z),[]⟩) (([],[])::ab) K):Go1 P C ae an (.binOp .sub t x y t') ty aa st ab K:=
 Go1.tF hd rfl hx hy (fun ρ o w ho h1 h2=>by unfold execOp;rw[ho];simp[h1,h2,eqGuard,binOp,Op.intArith,hw]) ai
def Go1.mul{z:Int}(hd:aC an C.nt=true)(hx:st.ev x=some (.v (.int k m)))(hy:st.ev y=some (.v (.int k n)))(hw:k.wrap (m*n)=z)(ai:Reg P C ae aa (st.app an ⟨.v (.int k z),[]⟩) (([],[])::ab) K):Go1 P C ae an (.binOp .mul t x y t') ty aa st ab K:=
 Go1.tF hd rfl hx hy (fun ρ o w ho h1 h2=>by unfold execOp;rw[ho];simp[h1,h2,eqGuard,binOp,Op.intArith,hw]) ai
def Go1.quo{z:Int}(hd:aC an C.nt=true)(hx:st.ev x=some (.v (.int k m)))(hy:st.ev y=some (.v (.int k n)))(h0:n≠0)(hw:k.wrap (m.tdiv n)=z)(ai:Reg P C ae aa (st.app an ⟨.v (.int k z),[]⟩) (([],[])::ab) K):Go1 P C ae an (.binOp .quo t x y t') ty aa st ab K:=
 Go1.tF hd rfl hx hy (fun ρ o w ho h1 h2=>by unfold execOp;rw[ho];simp[h1,h2,eqGuard,binOp,Op.intDiv,hw,h0]) ai
def Go1.rem{z:Int}(hd:aC an C.nt=true)(hx:st.ev x=some (.v (.int k m)))(hy:st.ev y=some (.v (.int k n)))(h0:n≠0)(hw:m.tmod n=z)(ai:Reg P C ae aa (st.app an ⟨.v (.int k z),[]⟩) (([],[])::ab) K):Go1 P C ae an (.binOp .rem t x y t') ty aa st ab K:=
 Go1.tF hd rfl hx hy (fun ρ o w ho h1 h2=>by unfold execOp;rw[ho];simp[h1,h2,eqGuard,binOp,Op.intDiv,hw,h0]) ai
class ahG(P:Program)(t:TypeId):Prop where
 h:P.underlying t=some .bool
class abd(P:Program)(t:TypeId)(k:outParam IntKind):Prop where
 h:P.underlying t=some (.int k)
def Go1.conv{k':IntKind}[h1:abd P t k][h2:abd P t' k'](hd:aC an C.nt=true)(hx:st.ev x=some (.v (.int k m)))(hw:k'.wrap m=z)(ai:Reg P C ae aa (st.app an ⟨.v (.int k' z),[]⟩) (([],[])::ab) K):Go1 P C ae an (.convert t t' x) ty aa st ab K:=
 Go1.val1 hd rfl hx (fun ρ o w ho h=>by
  unfold execOp;rw[ho];simp[h,convert,run_underlying h1.h,run_underlying h2.h,Conv.intToInt,hw]) ai
end
end
section
def aggD:TypeDesc->Bool
 | .struct _| .array _ _=>true
 |_=>false
class gZ(P:Program)(t:TypeId)(n:outParam Nat):Prop where
 h:(P.underlying t).map aggD=some true
 s:(P.info? t).map (·.size)=some n
class iT(P:Program)(t:TypeId):Prop where
 h:(P.underlying t).map aggD=some false
 s:(P.info? t).map (·.size)=some 1
class fQ(P:Program)(t:TypeId)(ag:outParam (List Value)):Prop where
 h:(P.info? t).map (fun i=>i.zero.map (·.cells))=some (some ag.toArray)
def xW:TypeDesc->Nat->Option (Nat×TypeId)
 | .struct fs,i=>(fs[i]?).map fun f=>(f.offset,f.type)
 |_,_=>none
class bB(P:Program)(t:TypeId)(f:Nat)(off:outParam Nat):Prop where
 h:∃ft,((P.underlying t).bind (xW · f)=some (off,ft))/\((P.info? ft).map (fun i=>i.size==0))=some false
section
variable{P:Program}
def ig{b:Bool}(h:(P.underlying t).map aggD=some b)(w:World):(isAgg t).run P w= .ok b w:=by
 obtain⟨d,hd,hb⟩:=zya.1 h;unfold isAgg;rw[Sem.run_bind,run_underlying hd w];cases d <;> simp_all [aggD]
def run_sizeOf(h:(P.info? t).map (·.size)=some n)(w:World):(Go.sizeOf t).run P w= .ok n w:=by
 obtain⟨i,hi,hn⟩:=zya.1 h;simp[Go.sizeOf,typeInfo,hi,hn]
def mE{ag:List Value}(h:(P.info? t).map (fun i=>i.zero.map (·.cells))=some (some ag.toArray))(w:World):∃z,(zeroValue t).run P w= .ok z w/\z.cells=ag.toArray:=by
 obtain⟨i,hi,hn⟩:=zya.1 h;obtain⟨z,hz,hc⟩:=zya.1 hn;exact⟨z,by simp[zeroValue,typeInfo,hi,hz],hc⟩
def cells_of_block{cs:List Value}(hg:w.heap[g]? =some (.cells cs.toArray t (0,0)))(off:Nat):∀j u,(cs.drop off)[j]? =some u->w.cell? ((⟨g,off,none⟩:Addr).add j)=some u:=by
 intro j u hj;rw[Addr.add_lit,cell_of_row w g (off+j) cs.toArray t (0,0) hg];rw[zv1]at hj
 simpa using hj
def yG{cs:List Value}(h:gZ P t n)(w:World)(hg:w.heap[g]? =some (.cells cs.toArray T (0,0)))(hl:off+n<=cs.length):
  (loadVar t ⟨g,off,none⟩).run P w= .ok (.agg ((cs.drop off).take n).toArray) w:=by
 have h1:=run_loadCells_list (P:=P) w ⟨g,off,none⟩ ((cs.drop off).take n) (fun j u hj=>cells_of_block hg off j u (by
  rw[zy9]at hj;split at hj
  ·exact hj
  ·cases hj))
 rw[show ((cs.drop off).take n).length=n by simp;omega]at h1
 simp[loadVar,ig h.h,run_sizeOf h.s,h1]
def zA{cs:List Value}{u:Value}(h:iT P t)(w:World)(hg:w.heap[g]? =some (.cells cs.toArray T (0,0)))(hl:cs[off]? =some u):
  (loadVar t ⟨g,off,none⟩).run P w= .ok u w:=by
 have h1:w.cell? ⟨g,off,none⟩=some u:=by rw[cell_of_row w g off cs.toArray T (0,0) hg];simpa using hl
 simp[loadVar,ig h.h,h1]
def spl{α:Type}:List α->Nat->List α->List α
 |cs,0,[]=>cs
 |_::cs,0,x::xs=>x::spl cs 0 xs
 |[],0,_::_=>[]
 |c::cs,n+1,l=>c::spl cs n l
 |[],_+1,_=>[]
def iX{α:Type}:∀(cs:List α) (off:Nat) (l:List α),off+l.length<=cs.length->spl cs off l=cs.take off++l++cs.drop (off+l.length)
 |cs,0,[],_=>by cases cs <;> simp[spl]
 |c::cs,0,x::xs,h=>by
  have:=iX cs 0 xs (by simp at h ⊢;omega)
  simp at this
  simp[spl,this]
 |[],0,_::_,h=>by simp at h
 |c::cs,n+1,l,h=>by
  have:=iX cs n l (by simp at h;omega)
  simp[spl,this,Nat.add_right_comm]
 |[],_+1,_,h=>by simp at h
def aM.spl{α β:Type}{p:α->β->Prop}:∀{cs:List α} {vs:List β} (off:Nat) {l:List α} {us:List β},aM p cs vs->aM p l us->aM p (spl cs off l) (spl vs off us)
 |cs,vs,0,[],[],h,_=>by cases cs <;> cases vs <;> simpa[SX.spl]using h
 |c::cs,v::vs,0,x::xs,u::us,h,k=>⟨k.1,aM.spl 0 h.2 k.2⟩
 |[],[],0,x::xs,u::us,_,_=>by simp[SX.spl,aM]
 |c::cs,v::vs,n+1,l,us,h,k=>⟨h.1,aM.spl n h.2 k⟩
 |[],[],n+1,l,us,_,_=>by simp[SX.spl,aM]
 |[],_::_,_,_,_,h,_=>h.elim
 |_::_,[],_,_,_,h,_=>h.elim
 |_,_,0,[],_::_,_,k=>k.elim
 |_,_,0,_::_,[],_,k=>k.elim
def Atom.dN:Atom->Bool
 | .c (.val v)=>v.oneCell'
 |_=>true
def Atom.has.one{a:Atom}{E:Env}{S:Nat->Prop}{w:World}{v:Value}(h:a.has E S w v)(hb:a.dN=true):v.oneCell'=true:=by
 cases a with
 |c a=>
  cases a with
  |val u=>rw[show v=u from h];exact hb
  |sat r=>exact r.one h
 |ptr b off=>rw[show v=_ from h];rfl
 |own b=>exact h.2
 |rptr b off=>obtain⟨g,n,am,_,h⟩:=h;rw[h];rfl
 |clo f am=>rw[show v=_ from h];rfl
 |bnd f b=>rw[show v=_ from h];rfl
 |rel b R=>exact h.2
def run_store{cs us:List Value}{v:Value}(hs:(P.info? t).map (·.size)=some n)(hv:v.cells=us.toArray)(hn:us.length=n)(w:World)(hg:w.heap[g]? =some (.cells cs.toArray T (0,0)))(hl:off+n<=cs.length)(h1:∀u∈us,u.oneCell'=true):
  (storeVar t ⟨g,off,none⟩ v).run P w= .ok () (w.setRow g (spl cs off us).toArray):=by
 have hst:=run_storeCells_at P g off T us 0 cs.toArray w hg (by simp;omega) h1
 rw[iX cs off us zE]
 simp only[zvi]at hst;simp[storeVar,run_sizeOf hs,hv,hn,hst]
def AV0.cells:AV0->List Atom
 | .one a=>[a]
 | .agg l=>l
def AV0.has.cells{x:AV0}{E:Env}{S:Nat->Prop}{w:World}{v:Value}(h:x.has E S w v)(h1:x.cells.all Atom.dN=true):∃us,v.cells=us.toArray/\aM (Atom.has E S w) x.cells us/\∀u∈us,u.oneCell'=true:=by
 rw[zqh]at h1;have key:∀{l:List Atom} {us:List Value},aM (Atom.has E S w) l us->(∀a∈l,a.dN=true)->∀u∈us,u.oneCell'=true:=by
  intro l us hall hb u hu;obtain⟨i,hi⟩:=List.mem_iff_getElem?.1 hu;obtain⟨a,ha,hau⟩:=hall.get' hi;exact hau.one (hb a (zq4 ha))
 cases x with
 |one a=>
  have ho:=Atom.has.one h (h1 a (by simp[AV0.cells]))
  refine⟨[v],?_,⟨h,trivial⟩,by simpa using ho⟩
  cases v <;> first|rfl|(simp[Value.oneCell']at ho;done)
 |agg l=>
  obtain⟨us,hv,hall⟩:=h;exact⟨us,by rw[hv];rfl,hall,key hall h1⟩
def AV0.vC(x:AV0):x.cells.flatMap Atom.ids=x.ids:=by cases x <;> simp[AV0.cells,AV0.ids]
def Eff.alloc{E:Env}{S:Nat->Prop}{w:World}{b:Nat}{T:TypeId}{ag:List Atom}{cs:List Value}(hl:∀k,S k->k < w.heap.size)(hb:∀c∈ag,b∉c.ids)(hcs:aM (Atom.has E S w) ag cs):
  Eff E S w [] ⟨.ptr b 0,[(b,.ent (.box T ag))]⟩ (.pointer (some ⟨w.heap.size,0,none⟩)) (w.alloc (.cells cs.toArray T)) ⟨upd E.blk b w.heap.size,E.sl,E.fp⟩ (fun k=>S k\/k=w.heap.size):=by
 have hnew:∀i,i≠b->E.at' ⟨upd E.blk b w.heap.size,E.sl,E.fp⟩ i:=fun i hi=>⟨upd_ne _ _ hi,rfl⟩
 refine
  {env:=fun i hi=>?_,fpe:=fun _ _=>rfl,sub:=fun k hk=> .inl hk,new:=fun k hk=>hk.imp id (fun e=>zE),lt:=fun k hk=>?_,off:=Off.alloc _ _ _,res:=?_,
   ents:=fun i e hi=>?_,blk:=fun i e k hi hk=>?_,sep:=fun i i' e e' k hne h1 h2=>?_}
 ·by_cases e:i=b
  ·subst e;obtain⟨e,he⟩:=hi ⟨_,by simp;rfl⟩;cases he
  ·exact hnew i e
 ·rw[World.size_alloc];rcases hk with hk|hk
  ·have:=hl k hk;omega
  ·omega
 ·show Value.pointer _=Value.pointer _;simp
 ·simp at hi
  obtain⟨rfl,rfl⟩:=hi;exact⟨cs,by show (w.alloc _).heap[upd E.blk i w.heap.size i]? =_;rw[upd_same];exact heap_alloc_new w _,hcs.mono fun a v ha hav=>hav.step (fun j hj=>hnew j (fun e=>hb a ha (e▸hj))) (Off.alloc _ _ _) (fun k hk=>hk.imp id (fun e=>zE))⟩
 ·simp at hi
  obtain⟨rfl,rfl⟩:=hi;simp[Ent.at]at hk
  subst hk;exact⟨.inr rfl,.inr (zq6 _)⟩
 ·simp at h1 h2
  exact absurd (h1.1.trans h2.1.symm) hne
def Eff.store{E:Env}{b:Nat}{ag cells':List Atom}{cs cs':List Value}{r:AV}{v:Value}(hl:∀k,S k->k < w.heap.size)(hS:S (E.blk b))(hg:w.heap[E.blk b]? =some (.cells cs.toArray T (0,0)))(hr:r.has E S w v)(hcs:aM (Atom.has E S w) cells' cs'):Eff E S w [(b,.box T ag)] ⟨r,[(b,.ent (.box T cells'))]⟩ v (w.setRow (E.blk b) cs'.toArray) E S:=by
 have ho:Off S w (w.setRow (E.blk b) cs'.toArray):=Off.setRow w _ _ hS;refine
  {env:=fun i hi=>⟨rfl,rfl⟩,fpe:=fun _ _=>rfl,sub:=fun k hk=>hk,new:=fun k hk=> .inl hk,lt:=fun k hk=>by rw[size_setRow];exact hl k hk,off:=Off.setRow w _ _ ⟨b,Ent.box T ag,by simp,rfl⟩,res:=hr.step (fun _ _=>⟨rfl,rfl⟩) ho (fun k hk=> .inl hk),
   ents:=fun i e hi=>?_,blk:=fun i e k hi hk=>?_,sep:=fun i i' e e' k hne h1 h2=>?_}
 ·simp at hi
  obtain⟨rfl,rfl⟩:=hi;exact⟨cs',setRow_heap w _ _ _ T _ hg,hcs.mono fun a v ha hav=>hav.step (fun _ _=>⟨rfl,rfl⟩) ho (fun k hk=> .inl hk)⟩
 ·simp at hi
  obtain⟨rfl,rfl⟩:=hi;simp[Ent.at]at hk
  subst hk;exact⟨hS,.inl ⟨_,Ent.box T ag,by simp,rfl⟩⟩
 ·simp at h1 h2
  exact absurd (h1.1.trans h2.1.symm) hne
end
section
variable{P:Program}{C:Ctx}{st:St}
variable{ae aa:List Oper}{ab:List (List Nat×List Nat)}{K:List (List Nat×List Nat)->St->Prop}{d:Tmp}{op:Op}{ty t:TypeId}{x y:Operand}
def aT.alloc{o:Oper}{d:Tmp}{ag:List Atom}(hdst:o.dst=some d)(hd:aC (some d) C.nt=true)(hf:st.hp d= .free)
  (h:∀st' E S a w,(∀x∈o.op.operands,st'.ev x=st.ev x)->nZ C st' E S a w->
   (∀i∈ag.flatMap Atom.ids,(st'.hp i).used=true)/\∃cs,(execOp a.eval o).run P w= .ok (.value (.pointer (some ⟨w.heap.size,0,none⟩))) (w.alloc (.cells cs t))/\aM (Atom.has E S w) ag cs.toList):
  aT P C o st [d] ⟨.ptr d 0,[(d,.ent (.box t ag))]⟩:=by
 refine aT.eff [] [] (fun b hb=>?_) (hdst▸dP hd) (fun b e hb=>by cases hb) (fun b e hb=>by cases hb) (fun b s hb=>?_) (fun b s hb=>?_) (fun st' E S a w hev hhp hs _ _=>?_)
 ·rcases hb with⟨e,hb⟩|⟨e,hb⟩|⟨s,hb⟩
  ·cases hb
  ·cases hb
  ·simp at hb;simp[hb.1]
 ·simp at hb;rw[hb.1];exact .inr hf
 ·simp at hb;rw[hb.2];rfl
 ·obtain⟨aq,cs,hr,hall⟩:=h st' E S a w hev hs;have hfree:st'.hp d= .free:=(hhp d zp).trans hf
  refine⟨⟨fun i hi=>?_,fun b e hb i hi=>?_⟩,fun K Q hK=>?_⟩
  ·simp[AV.ids,AV0.ids,Atom.ids]at hi;subst hi;simp[fH,Slot.used]
  ·simp at hb
   obtain⟨rfl,rfl⟩:=hb;by_cases e:i=b
   ·subst e;simp[fH,Slot.used]
   ·simp only[fH];rw[upd_ne _ _ e];exact aq i hi
  ·have hE:=Eff.alloc (E:=E) (S:=S) (w:=w) (b:=d) (T:=t) (ag:=ag) (cs:=cs.toList) hs.lt (fun c hc1 hc2=>by
    have:=aq d (zx9.2 ⟨c,hc1,hc2⟩);rw[hfree]at this;cases this) hall
   unfold Oper.wp;rw[hr];exact hK _ _ _ _ hE
def lG{E:Env}{S:Nat->Prop}{w:World}:∀l:List Value,aM (Atom.has E S w) (l.map fun v=>Atom.c (.val v)) l
 |[]=>trivial
 |_::l=>⟨rfl,lG l⟩
def Go1.sJ{b:Nat}{ag l:List Atom}[ht:gZ P t n](hd:aC (some d) C.nt=true)(hx:st.ev x=some (.ptr b off))(hb:st.hp b= .ent (.box T ag))(hl:Nat.ble (off+n) ag.length=true)(hr:(ag.drop off).take n=l)(ai:Reg P C ae aa (st.app (some d) ⟨.agg l,[]⟩) (([b],[])::ab) K):Go1 P C ae (some d) (.load t x) ty aa st ab K:=
 Go1.dz [(b,.box T ag)] [b] zp hd (by simpa using hb) (fun o ho _ st' E S a w hev hs hrd=>by
  obtain⟨hv,_⟩:=hs.ev ((hev x (by simp[ho,Op.operands])).trans hx)
  have hb':=hrd b (.box T ag) zp
  obtain⟨cs,hg,hall⟩:=hs.hp b _ hb';have hlen:=hall.length;rw[zva]at hl;have hrun:=yG (P:=P) (n:=n) (off:=off) ht w hg zE
  refine⟨fun i hi=>?_,.agg ((cs.drop off).take n).toArray,?_,?_⟩
  ·have:i∈(Ent.box T ag).ids:=by
    simp only[AV.ids,AV0.ids,zx9]at hi;obtain⟨c,hc,hi⟩:=hi;subst hr;exact zx9.2 ⟨c,zw9 (zv3 hc),hi⟩
   exact hs.aq b _ hb' i this
  ·unfold execOp;rw[ho];simp[show a.eval x=_ from hv,Instr.loadAt,Instr.sureAddr,hrun]
  ·subst hr;exact⟨_,rfl,(hall.drop off).take n⟩) ai
end
end
section
def ak(P:Program)(f:FuncId)(ao:List AV)(pre:List (Nat×Ent))(out:Out):Prop:=
 (∃fn,P.funcs[f]? =some fn/\(fn.name== "runtime.NumGoroutine")=false/\fn.body.isNone=false)/\
 ∀(E:Env) (S:Nat->Prop) (w:World) (vs:List Value),(∀k,S k->k < w.heap.size)->rR S w->aM (AV.has E S w) ao vs->
  (∀b e,(b,e)∈pre->e.has E S w b)->(∀b e k,(b,e)∈pre->e.at E b k->S k)->(∀b b' e e' k,b≠b'->(b,e)∈pre->(b',e')∈pre->e.at E b k->¬e'.at E b' k)->
  Calls P f vs.toArray w fun e w'=>∃v E' S',e= .returned v/\Eff E S w pre out v w' E' S'
abbrev ah(P:Program)(f:FuncId)(ao:List AV)(r:AV):Prop:=ak P f ao [] ⟨r,[]⟩
def evs(st:St):List Operand->Option (List AV)
 |[]=>some []
 |x::xs=>match st.ev x,evs st xs with
  |some v,some vs=>some (v::vs)
  |_,_=>none
section
variable{P:Program}{C:Ctx}{st:St}
def nL{E:Env}{S:Nat->Prop}{a:Act}{w:World}(h:nZ C st E S a w):∀{xs:List Operand} {l:List AV},evs st xs=some l->aM (AV.has E S w) l (xs.map a.eval)/\∀v∈l,∀b∈v.ids,(st.hp b).used=true
 |[],l,hl=>by simp[evs]at hl;subst hl;exact⟨trivial,by simp⟩
 |x::xs,l,hl=>by
  unfold evs at hl;cases hx:st.ev x with
  |none=>simp[hx]at hl
  |some v=>
   cases hxs:evs st xs with
   |none=>simp[hx,hxs]at hl
   |some vs=>
    simp[hx,hxs]at hl
    subst hl;obtain⟨h1,h2⟩:=h.ev hx;obtain⟨h3,h4⟩:=nL h hxs;exact⟨⟨h1,h3⟩,fun u hu=>by
     rcases zy3.1 hu with rfl|hu
     ·exact h2
     ·exact h4 u hu⟩
def jB{st st':St}:∀{xs:List Operand},(∀x∈xs,st'.ev x=st.ev x)->evs st' xs=evs st xs
 |[],_=>rfl
 |x::xs,h=>by unfold evs;rw[h x zp,jB (fun y hy=>h y (by simp[hy]))]
def anF{o:Oper}{as:Array Operand}{tys:Array TypeId}{am:Array Value}{ρ:Operand->Value}(ho:o.op= .call ⟨.value fx,as,tys⟩)(hf:ρ fx= .func (.func f) #[] am)(he:∃fn,P.funcs[f]? =some fn/\(fn.name== "runtime.NumGoroutine")=false/\fn.body.isNone=false)(w:World):(execOp ρ o).run P w= .ok (.enter f (as.map ρ++am)) w:=by
 obtain⟨fn,h1,h2,h3⟩:=he;unfold execOp;rw[ho];have h2':fn.name≠ "runtime.NumGoroutine" :=by simpa using h2
 have h3':fn.body≠none:=by intro e;rw[e]at h3;cases h3
 simp[resolve,hf,Deferred.ofValue,invoke,callFunc,h1,h2',h3']
variable{ae aa:List Oper}{ab:List (List Nat×List Nat)}{K:List (List Nat×List Nat)->St->Prop}{an:Option Tmp}{op:Op}{ty:TypeId}
def Go1.wG{am:List (Nat×Nat)}{as:Array Operand}{tys:Array TypeId}{ao:List AV}{pre:List (Nat×Ent)}{out:Out}{fp:List Nat}(hd:aC an C.nt=true)(hf:st.ev fx=some (.it (.one (.clo f am))))(ha:evs st as.toList=some ao)(hc:ak P f (ao++am.map fun p=> .ptr p.1 p.2) pre out)(hpre:∀b e,(b,e)∈pre->st.hp b= .ent e/\∃s,(b,s)∈out.hp)(hnew:∀b s,(b,s)∈out.hp->(∃e,(b,e)∈pre)\/st.hp b= .free)(hkeep:∀b s,(b,s)∈out.hp->s.used=true)(hfp:∀b s,(b,s)∈out.hp->b∈fp)(aq:∀i,(i∈out.res.ids\/∃b e,(b,Slot.ent e)∈out.hp/\i∈e.ids)->(∃s,(i,s)∈out.hp)\/(∃v∈ao,i∈v.ids)\/(∃b e,(b,e)∈pre/\i∈e.ids))(ai:Reg P C ae aa (st.app an out) ((fp,out.hp.map (·.1))::ab) K):Go1 P C ae an (.call ⟨.value fx,as,tys⟩) ty aa st ab K:=by
 refine⟨fp,out,fun o h2 h3 h4=>aT.eff [] pre (fun b hb=>?_) (h2▸dP hd) (fun b e hb=>by cases hb) hpre hnew hkeep (fun st' E S a w hev hhp hs _ hpre'=>?_),ai⟩
 ·rcases hb with⟨e,hb⟩|⟨e,hb⟩|⟨s,hb⟩
  ·cases hb
  ·obtain⟨_,s,hs⟩:=hpre b e hb;exact hfp b s hs
  ·exact hfp b s hb
 ·have hop:o.op.operands= #[fx]++as:=by rw[h3];rfl
  have ha':evs st' as.toList=some ao:=by rw[jB (fun x hx=>hev x (by rw[hop];simp at hx;simp[hx]))];exact ha
  obtain⟨hall,hids⟩:=nL hs ha';have hcl:=hs.ev ((hev fx (by rw[hop];simp)).trans hf)
  obtain⟨hent,hcall⟩:=hc;refine⟨⟨fun i hi=>?_,fun b e hb i hi=>?_⟩,fun K Q hK=>?_⟩
  ·have key:∀i,((∃s,(i,s)∈out.hp)\/(∃v∈ao,i∈v.ids)\/(∃b e,(b,e)∈pre/\i∈e.ids))->(fH st'.hp out.hp i).used=true:=by
    intro i hi;rcases gY i out.hp st'.hp with⟨s,g1,g2⟩|⟨g1,g2⟩
    ·rw[g2];exact hkeep i s g1
    ·rw[g2];rcases hi with⟨s,hi⟩|⟨v,hv,hi⟩|⟨b,e,hb,hi⟩
     ·exact absurd hi (g1 s)
     ·exact hids v hv i hi
     ·exact hs.aq b e (hpre' b e hb) i hi
   exact key i (aq i (.inl hi))
  ·have key:∀i,((∃s,(i,s)∈out.hp)\/(∃v∈ao,i∈v.ids)\/(∃b e,(b,e)∈pre/\i∈e.ids))->(fH st'.hp out.hp i).used=true:=by
    intro i hi;rcases gY i out.hp st'.hp with⟨s,g1,g2⟩|⟨g1,g2⟩
    ·rw[g2];exact hkeep i s g1
    ·rw[g2];rcases hi with⟨s,hi⟩|⟨v,hv,hi⟩|⟨b,e,hb,hi⟩
     ·exact absurd hi (g1 s)
     ·exact hids v hv i hi
     ·exact hs.aq b e (hpre' b e hb) i hi
   exact key i (aq i (.inr ⟨b,e,hb,hi⟩))
  ·have hcap:aM (AV.has E S w) (am.map fun p=>AV.ptr p.1 p.2) (am.map fun p=>Value.pointer (some ⟨E.blk p.1,p.2,none⟩)):=by
    clear hcl hf hcall
    induction am with
    |nil=>trivial
    |cons p l ih=>exact⟨rfl,ih⟩
   have hcalls:=hcall E S w (as.toList.map a.eval++am.map fun p=>Value.pointer (some ⟨E.blk p.1,p.2,none⟩)) hs.lt hs.gl (hall.append hcap) (fun b e hb=>hs.hp b e (hpre' b e hb)) (fun b e k hb hk=>(hs.blk b e k (hpre' b e hb) hk).1)
    (fun b b' e e' k hne hb hb'=>hs.sep b b' e e' k hne (hpre' b e hb) (hpre' b' e' hb'))
   unfold Oper.wp;rw[anF h3 hcl.1 hent w];have harr:as.map a.eval++(am.map fun p=>Value.pointer (some ⟨E.blk p.1,p.2,none⟩)).toArray=(as.toList.map a.eval++am.map fun p=>Value.pointer (some ⟨E.blk p.1,p.2,none⟩)).toArray:=by
    apply Array.ext';simp
   show Calls P f _ w _;rw[harr];exact hcalls.mono fun e w' ⟨v,E',S',he,hE⟩=>by subst he;exact hK v w' E' S' hE
def Go1.call{f:FuncId}{as:Array Operand}{tys:Array TypeId}{ao:List AV}{r:AV}(ha:evs st as.toList=some ao)(hc:ah P f ao r)(hd:aC an C.nt=true)(aq:r.ids=[])
  (ai:Reg P C ae aa (st.app an ⟨r,[]⟩) (([],[])::ab) K):Go1 P C ae an (.call ⟨.value (.func f),as,tys⟩) ty aa st ab K:=
 Go1.wG (am:=[]) (pre:=[]) (out:=⟨r,[]⟩) (fp:=[]) hd rfl ha (by simpa using hc) (fun b e hb=>by cases hb) (fun b e hb=>by cases hb) (fun b e hb=>by cases hb) (fun b e hb=>by cases hb)
  (fun i hi=>by
   rcases hi with hi|⟨b,e,hb,_⟩
   ·rw[aq]at hi;cases hi
   ·cases hb) ai
def adE(rv:ResultVar)(tmps:Array Value):Sem Value:=
 match rv with
 | .tmp t=>pure (tmps.getD t undef)
 | .cell a t=>do loadVar t (<-asAddr (tmps.getD a undef))
def aj(P:Program)(st:St)(rv:ResultVar)(x:AV0):Prop:=
 ∀C E S a w,nZ C st E S a w->∃v,(adE rv a.tmps).run P w= .ok v w/\x.has E S w v
def aro:List AV0->AV
 |[x]=> .it x
 |xs=> .tup xs
def aj.tmp{t:Tmp}{x:AV0}(h:st.tm t=some (.it x)):aj P st (.tmp t) x:=fun C E S a w hs=>⟨_,rfl,hs.tm t _ h⟩
def aj.agg{t:Tmp}{T T':TypeId}{n b off:Nat}{ag l:List Atom}[ht:gZ P T n](h:st.tm t=some (.ptr b off))(hb:st.hp b= .ent (.box T' ag))(hl:Nat.ble (off+n) ag.length=true)(hr:(ag.drop off).take n=l):aj P st (.cell t T) (.agg l):=fun C E S a w hs=>by
 have hv:a.tmps.getD t undef=_:=hs.tm t _ h;obtain⟨cs,hg,hall⟩:=hs.hp b _ hb;have hlen:=hall.length;rw[zva]at hl;have hrun:=yG (P:=P) (n:=n) (off:=off) ht w hg zE
 refine⟨.agg ((cs.drop off).take n).toArray,?_,?_⟩
 ·simp only[adE,hv,asAddr,pure_bind,hrun]
 ·subst hr;exact⟨_,rfl,(hall.drop off).take n⟩
def aj.fK{t:Tmp}{b:Nat}{ag:List Atom}{a1 a2:Atom}[ht:gZ P T 2](h:st.tm t=some (.ptr b off):=by rfl)(hb:st.hp b= .ent (.box T' ag):=by rfl)(hr:(ag.drop off).take 2=[a1,a2]:=by rfl):aj P st (.cell t T) (.agg [a1,a2]):=
 aj.agg h hb (by have:=congrArg List.length hr;simp at this;rw[zva];omega) hr
def aj.aW{t:Tmp}{b:Nat}{ag:List Atom}{a1 a2 a3:Atom}[ht:gZ P T 3](h:st.tm t=some (.ptr b off):=by rfl)(hb:st.hp b= .ent (.box T' ag):=by rfl)(hr:(ag.drop off).take 3=[a1,a2,a3]:=by rfl):aj P st (.cell t T) (.agg [a1,a2,a3]):=
 aj.agg h hb (by have:=congrArg List.length hr;simp at this;rw[zva];omega) hr
def aj.wh{t:Tmp}{b:Nat}{ag:List Atom}{a1 a2 a3 a4:Atom}[ht:gZ P T 4](h:st.tm t=some (.ptr b off):=by rfl)(hb:st.hp b= .ent (.box T' ag):=by rfl)(hr:(ag.drop off).take 4=[a1,a2,a3,a4]:=by rfl):aj P st (.cell t T) (.agg [a1,a2,a3,a4]):=
 aj.agg h hb (by have:=congrArg List.length hr;simp at this;rw[zva];omega) hr
def aiM{fn:Func}{st:St}{xs:List AV0}(h:aM (aj P st) fn.results.toList xs){C:Ctx}{E:Env}{a:Act}(hs:nZ C st E S a w):
  ∃v,(results fn a.tmps).run P w= .ok v w/\(aro xs).has E S w v:=by
 have key:∀{rs:List ResultVar} {xs:List AV0},aM (aj P st) rs xs->∃vs:List Value,(rs.mapM fun r=>adE r a.tmps).run P w= .ok vs w/\aM (AV0.has E S w) xs vs:=by
  intro rs
  induction rs with
  |nil=>intro xs h;cases xs with
   |nil=>exact⟨[],rfl,trivial⟩
   |cons x xs=>exact h.elim
  |cons r rs ih=>
   intro xs h;cases xs with
   |nil=>exact h.elim
   |cons x xs=>
    obtain⟨v,h1,h2⟩:=h.1 C E S a w hs;obtain⟨vs,h3,h4⟩:=ih h.2;exact⟨v::vs,by simp[List.mapM_cons,h1,h3],h2,h4⟩
 obtain⟨vs,h1,h2⟩:=key h;have hr:(fn.results.mapM fun r=>adE r a.tmps).run P w= .ok vs.toArray w:=by
  have:fn.results=fn.results.toList.toArray:=by simp
  rw[this,List.mapM_toArray,Sem.run_map,h1];rfl
 have hrr:(results fn a.tmps).run P w= .ok (if h:vs.toArray.size=1 then vs.toArray[0]else .tuple vs.toArray) w:=by
  unfold results;show ((fn.results.mapM fun r=>adE r a.tmps) >>= _).run P w=_
  rw[Sem.run_bind,hr];rfl
 refine⟨_,hrr,?_⟩
 match xs,vs,h2 with
 |[],[],_=>exact⟨[],rfl,trivial⟩
 |[x],[v],h=>exact h.1
 |x::y::xs,v::u::vs,h=>exact⟨v::u::vs,by simp,h⟩
def aA(P:Program)(rs:List ResultVar)(out:Out)(st:St):Prop:=
 ∃xs,aM (aj P st) rs xs/\out.res=aro xs/\∀b e,(b,Slot.ent e)∈out.hp->st.hp b= .ent e
def bD(P:Program)(rs:List ResultVar)(out:Out):Exit->St->Prop
 | .ret,st=>aA P rs out st
 | .normal,st=>aA P rs out st
 |_,_=>False
def aA.mk1{r:ResultVar}{x:AV0}{st:St}(h:aj P st r x):aA P [r] ⟨.it x,[]⟩ st:=⟨[x],⟨h,trivial⟩,rfl,fun b e hb=>(by cases hb)⟩
def aA.mk2{r1 r2:ResultVar}{x1 x2:AV0}{st:St}(h1:aj P st r1 x1)(h2:aj P st r2 x2):aA P [r1,r2] ⟨.tup [x1,x2],[]⟩ st:=⟨[x1,x2],⟨h1,h2,trivial⟩,rfl,fun b e hb=>(by cases hb)⟩
def aA.mk3{r1 r2 r3:ResultVar}{x1 x2 x3:AV0}{st:St}(h1:aj P st r1 x1)(h2:aj P st r2 x2)(h3:aj P st r3 x3):aA P [r1,r2,r3] ⟨.tup [x1,x2,x3],[]⟩ st:=⟨[x1,x2,x3],⟨h1,h2,h3,trivial⟩,rfl,fun b e hb=>(by cases hb)⟩
def AV0.imp(x y:AV0):Prop:=∀E S w v,x.has E S w v->y.has E S w v
def AV0.imp.refl(x:AV0):x.imp x:=fun _ _ _ _ h=>h
def z7(x:AV0):x.imp x:=AV0.imp.refl x
def aj.imp{r:ResultVar}{x y:AV0}{st:St}(h:aj P st r x)(e:x.imp y):aj P st r y:=fun C E S a w hs=>let⟨v,h1,h2⟩:=h C E S a w hs;⟨v,h1,e E S w v h2⟩
def aA.eq1{r:ResultVar}{x y:AV0}{st:St}(h:aj P st r x)(e:x=y):aA P [r] ⟨.it y,[]⟩ st:=e▸aA.mk1 h
def aA.eq2{r1 r2:ResultVar}{x1 x2 y1 y2:AV0}{st:St}(h1:aj P st r1 x1)(h2:aj P st r2 x2)(e1:x1=y1)(e2:x2=y2):aA P [r1,r2] ⟨.tup [y1,y2],[]⟩ st:=e1▸e2▸aA.mk2 h1 h2
def aA.eq3{r1 r2 r3:ResultVar}{x1 x2 x3 y1 y2 y3:AV0}{st:St}(h1:aj P st r1 x1)(h2:aj P st r2 x2)(h3:aj P st r3 x3)(e1:x1=y1)(e2:x2=y2)(e3:x3=y3):aA P [r1,r2,r3] ⟨.tup [y1,y2,y3],[]⟩ st:=e1▸e2▸e3▸aA.mk3 h1 h2 h3
def aiK{k:St->Prop}{Q:Exit->St->Prop}{st:St}(h:k st):aK k Q .normal st:=h
def jA(ao:List AV)(pre:List (Nat×Ent)):St:=⟨fun t=>ao[t]?,fun b=>match pre.lookup b with|some e=> .ent e|none=> .free⟩
def aty{k:St->Prop}{Q:Exit->St->Prop}{st:St}{i:Nat}(h:Q (.exit i) st):aK k Q (.exit i) st:=h
def ayc{k:St->Prop}{Q:Exit->St->Prop}{st:St}(h:Q .ret st):aK k Q .ret st:=h
def aqM{Q:Exit->St->Prop}{st:St}{i:Nat}(h:Q .normal st):aN i Q .normal st:=h
def arl{Q:Exit->St->Prop}{st:St}{i:Nat}(h:Q .ret st):aN i Q .ret st:=h
def akp{Q:Exit->St->Prop}{st:St}{i:Nat}(h:Q .normal st):aN i Q (.exit i) st:=by simp[aN];exact h
def aq0{Q:Exit->St->Prop}{st:St}{i:Nat}(hn:Nat.beq j i=false)(h:Q (.exit j) st):aN i Q (.exit j) st:=by simp only[aN,hn];exact h
def retR{rs:List ResultVar}{out:Out}{st:St}(h:aA P rs out st):bD P rs out .ret st:=h
open Classical in
def ak.fnH{P:Program}{fn:Func}{c:Code}{ao:List AV}{pre:List (Nat×Ent)}{out:Out}{rs:List ResultVar}(hf:P.funcs[f]? =some fn)(hres:fn.results=rs.toArray)(hnt:fn.ntmps=nt)(hb:fn.body=some c)(hn:(fn.name== "runtime.NumGoroutine")=false)(hna:Nat.ble ao.length nt=true)(hlook:∀b e,(b,e)∈pre->pre.lookup b=some e)(haid:∀v∈ao,∀i∈v.ids,(pre.lookup i).isSome=true)(hpid:∀b e,(b,e)∈pre->∀i∈e.ids,(pre.lookup i).isSome=true)(hkey:∀b e,(b,e)∈pre->∃s,(b,s)∈out.hp)(hoid:∀i,(i∈out.res.ids\/∃b e,(b,Slot.ent e)∈out.hp/\i∈e.ids)->(pre.lookup i).isSome=true\/∃s,(i,s)∈out.hp)(h:∀(w0:World) (T B:Nat->Prop) (E0:Env),(∀k,B k->∃b e,(b,e)∈pre/\e.at E0 b k)->(∀b e,(b,e)∈pre->∃S w,e.has E0 S w b)->WP P ⟨w0,T,B,nt,E0,fun b=>(pre.lookup b).isSome⟩ c (jA ao pre) (bD P rs out)):ak P f ao pre out:=by
 refine⟨⟨fn,hf,hn,by rw[hb];rfl⟩,fun E S w vs hl hgl hall hpre hblk hsep=>?_⟩
 refine calls_of_wp hf hb ?_;have hlen:=hall.length;rw[zva]at hna;have hp:∀b e,(jA ao pre).hp b= .ent e->pre.lookup b=some e:=by
  intro b e hb;simp only[jA]at hb;cases hlk:pre.lookup b with
  |none=>simp[hlk]at hb
  |some e'=>simp[hlk]at hb;rw[hb]
 have hmem:∀b e,pre.lookup b=some e->(b,e)∈pre:=by
  intro b e hb;clear hlook haid hpid hkey hoid h hpre hblk hsep hp
  induction pre with
  |nil=>cases hb
  |cons p l ih=>
   rw[List.lookup_cons]at hb;cases hbe:b==p.1 with
   |true=>
        simp[hbe]at hb;have:b=p.1:=by simpa using hbe
        subst this;simp;left;rw[<-hb]
   |false=>simp[hbe]at hb;exact zy2 _ (ih hb)
 have hused:∀b,(pre.lookup b).isSome=true->((jA ao pre).hp b).used=true:=by
  intro b hb;obtain⟨e,he⟩:=Option.isSome_iff_exists.1 hb;simp[jA,he,Slot.used]
 have hs:nZ ⟨w,S,fun k=>∃b e,(b,e)∈pre/\e.at E b k,nt,E,fun b=>(pre.lookup b).isSome⟩ (jA ao pre) E S {tmps:=vs.toArray++Array.replicate (fn.ntmps - vs.toArray.size) undef,defers:=[]} w:=
  {dfr:=rfl
   nt:=by simp[hnt];omega
   cT:=fun k hk=>hk
   cT0:=hl
   cS:=fun k hk=> .inl hk
   lt:=hl
   tm:=fun t v ht=>by
    obtain⟨u,hu,huv⟩:=hall.get (show ao[t]? =some v from ht)
    have hlt:t < vs.length:=(zxg.1 hu).1
    simp[Array.getElem?_append,hlt]
    have h5:vs[t]=u:=by rw[zyh hlt]at hu;exact zy7 hu
    rw[h5];exact huv
   tid:=fun t v ht i hi=>hused i (haid v (zq4 (show ao[t]? =some v from ht)) i hi)
   hp:=fun b e hb=>hpre b e (hmem b e (hp b e hb))
   aq:=fun b e hb i hi=>hused i (hpid b e (hmem b e (hp b e hb)) i hi)
   blk:=fun b e k hb hk=>⟨hblk b e k (hmem b e (hp b e hb)) hk,.inl ⟨b,e,hmem b e (hp b e hb),hk⟩⟩
   sep:=fun b b' e e' k hne hb hb'=>hsep b b' e e' k hne (hmem b e (hp b e hb)) (hmem b' e' (hp b' e' hb'))
   off:=Off.refl _ _
   env:=fun b hb=>⟨rfl,rfl,hused b hb⟩
   gl:=hgl}
 refine wp_mono (h w S _ E (fun k hk=>hk) (fun b e hb=>⟨S,w,hpre b e hb⟩) _ w ⟨E,S,hs⟩) fun ex a' w' ⟨st',hq,E',S',hs'⟩=>?_
 have fin:aA P rs out st'->a'.defers=[]/\∃v,(results fn a'.tmps).run P w'= .ok v w'/\∃u E' S',Ending.returned v= .returned u/\Eff E S w pre out u w' E' S':=by
  rintro⟨xs,h1,h2,h3⟩;obtain⟨v,h4,h5⟩:=aiM (fn:=fn) (by rw[hres];simpa using h1) hs'
  refine⟨hs'.dfr,v,h4,v,⟨fun b=>if(pre.lookup b).isSome=true\/¬∃s,(b,s)∈out.hp then E.blk b else E'.blk b,fun b=>if(pre.lookup b).isSome=true\/¬∃s,(b,s)∈out.hp then E.sl b else E'.sl b,fun b=>if∃s,(b,s)∈out.hp then E'.fp b else E.fp b⟩,S',rfl,?_⟩
  have hat:∀b,((pre.lookup b).isSome=true\/∃s,(b,s)∈out.hp)->E'.at' ⟨fun b=>if(pre.lookup b).isSome=true\/¬∃s,(b,s)∈out.hp then E.blk b else E'.blk b,fun b=>if(pre.lookup b).isSome=true\/¬∃s,(b,s)∈out.hp then E.sl b else E'.sl b,fun b=>if∃s,(b,s)∈out.hp then E'.fp b else E.fp b⟩ b:=by
   intro b hb;by_cases hpb:(pre.lookup b).isSome=true
   ·obtain⟨g1,g2,_⟩:=hs'.env b hpb;exact⟨by simp only[hpb,true_or,if_true];exact g1.symm,by simp only[hpb,true_or,if_true];exact g2.symm⟩
   ·have hk:=hb.resolve_left hpb;exact⟨by simp[hpb,hk],by simp[hpb,hk]⟩
  have hfp:∀b,(∃s,(b,s)∈out.hp)->(fun b=>if∃s,(b,s)∈out.hp then E'.fp b else E.fp b) b=E'.fp b:=fun b hb=>by simp[hb]
  refine
   {env:=fun b hb=>?_,fpe:=fun b hb=>by simp[hb],sub:=fun k hk=>hs'.cT k hk,new:=fun k hk=>hs'.cS k hk,lt:=hs'.lt,off:=hs'.off,res:=?_,ents:=fun b e hbe=>?_,blk:=fun b e k hbe hk=>?_,sep:=fun b b' e e' k hne hb hb' hk hk'=>?_}
  ·by_cases hk:∃s,(b,s)∈out.hp
   ·obtain⟨e,he⟩:=hb hk;have:=hlook b e he;exact⟨by simp[this],by simp[this]⟩
   ·exact⟨by simp[hk],by simp[hk]⟩
  ·rw[h2];exact AV.has.step h5 (fun b hb=>hat b (hoid b (.inl (by rw[h2];exact hb)))) (Off.refl S' w') (fun k hk=> .inl hk)
  ·have hst:=h3 b e hbe;exact(hs'.hp b e hst).step (fun i hi=>hat i (hoid i (.inr ⟨b,e,hbe,hi⟩))) (hat b (.inr ⟨_,hbe⟩)) (Off.refl S' w') (fun k hk=> .inl hk) (fun _ _=>rfl) (hfp b ⟨_,hbe⟩)
  ·rw[Ent.gV (hat b (.inr ⟨_,hbe⟩)) (hfp b ⟨_,hbe⟩)]at hk;exact hs'.blk b e k (h3 b e hbe) hk
  ·rw[Ent.gV (hat b (.inr ⟨_,hb⟩)) (hfp b ⟨_,hb⟩)]at hk;rw[Ent.gV (hat b' (.inr ⟨_,hb'⟩)) (hfp b' ⟨_,hb'⟩)]at hk';exact hs'.sep b b' e e' k hne (h3 b e hb) (h3 b' e' hb') hk hk'
 cases ex with
 |normal=>exact fin hq
 |ret=>exact fin hq
 |_=>exact hq.elim
def ak.fn{P:Program}{fn:Func}{c:Code}{ao:List AV}{pre:List (Nat×Ent)}{out:Out}{rs:List ResultVar}(hf:P.funcs[f]? =some fn)(hres:fn.results=rs.toArray)(hnt:fn.ntmps=nt)(hb:fn.body=some c)(hn:(fn.name== "runtime.NumGoroutine")=false)(hna:Nat.ble ao.length nt=true)(hlook:∀b e,(b,e)∈pre->pre.lookup b=some e)(haid:∀v∈ao,∀i∈v.ids,(pre.lookup i).isSome=true)(hpid:∀b e,(b,e)∈pre->∀i∈e.ids,(pre.lookup i).isSome=true)(hkey:∀b e,(b,e)∈pre->∃s,(b,s)∈out.hp)(hoid:∀i,(i∈out.res.ids\/∃b e,(b,Slot.ent e)∈out.hp/\i∈e.ids)->(pre.lookup i).isSome=true\/∃s,(i,s)∈out.hp)(h:∀(w0:World) (T B:Nat->Prop) (E0:Env),(∀k,B k->∃b e,(b,e)∈pre/\e.at E0 b k)->WP P ⟨w0,T,B,nt,E0,fun b=>(pre.lookup b).isSome⟩ c (jA ao pre) (bD P rs out)):ak P f ao pre out:=
 ak.fnH hf hres hnt hb hn hna hlook haid hpid hkey hoid fun w0 T B E0 hB _=>h w0 T B E0 hB
def ah.fn{P:Program}{f:FuncId}{fn:Func}{c:Code}{ao:List AV}{r:AV}{nt:Nat}{rs:List ResultVar}(hf:P.funcs[f]? =some fn)(hres:fn.results=rs.toArray)(hnt:fn.ntmps=nt)(hb:fn.body=some c)(hn:(fn.name== "runtime.NumGoroutine")=false)(hna:Nat.ble ao.length nt=true)
  (haid:∀v∈ao,v.ids=[]) (hr:r.ids=[]) (h:∀(w0:World) (T B:Nat->Prop) (E0:Env),(∀k,¬B k)->WP P ⟨w0,T,B,nt,E0,fun _=>false⟩ c ⟨fun t=>ao[t]?,fun _=> .free⟩ (bD P rs ⟨r,[]⟩)):ah P f ao r:=
 ak.fn hf hres hnt hb hn hna (fun b e hb=>by cases hb) (fun v hv i hi=>by rw[haid v hv]at hi;cases hi) (fun b e hb=>by cases hb) (fun b e hb=>by cases hb)
  (fun i hi=>by
   rcases hi with hi|⟨b,e,hb,_⟩
   ·have:i∈r.ids:=hi;rw[hr]at this;cases this
   ·cases hb) (fun w0 T B E0 hB=>h w0 T B E0 fun k hk=>let⟨_,_,hb,_⟩:=hB k hk;by cases hb)
def ah.args{P:Program}{ao args':List AV}{r:AV}(h:ah P f args' r)(hm:∀E S w vs,aM (AV.has E S w) ao vs->aM (AV.has E S w) args' vs):ah P f ao r:=
 ⟨h.1,fun E S w vs hl hg hv h1 h2 h3=>h.2 E S w vs hl hg (hm E S w vs hv) h1 h2 h3⟩
def ah.fact{P:Program}{ao args':List AV}{r:AV}{φ:Prop}(he:∃fn,P.funcs[f]? =some fn/\(fn.name== "runtime.NumGoroutine")=false/\fn.body.isNone=false)(h:φ->ah P f args' r)(hm:∀E S w vs,aM (AV.has E S w) ao vs->aM (AV.has E S w) args' vs/\φ):ah P f ao r:=
 ⟨he,fun E S w vs hl hg hv h1 h2 h3=>let⟨a,b⟩:=hm E S w vs hv;(h b).2 E S w vs hl hg a h1 h2 h3⟩
def ah.calls{P:Program}{ao:List AV}{r:AV}(h:ah P f ao r){vs:List Value}(hl:∀k,S k->k < w.heap.size)(hg:rR S w)(E:Env)(hv:aM (AV.has E S w) ao vs):
  Calls P f vs.toArray w fun e w'=>∃v E' S',e= .returned v/\r.has E' S' w' v/\Off none' w w':=by
 refine(h.2 E S w vs hl hg hv (fun b e hb=>by cases hb) (fun b e k hb=>by cases hb) (fun b b' e e' k _ hb=>by cases hb)).mono ?_
 rintro e w' ⟨v,E',S',rfl,hE⟩;exact⟨v,E',S',rfl,hE.res,hE.off.mono fun k ⟨b,e,hb,_⟩=>by cases hb⟩
def ah.iU{P:Program}{ao:List AV}{r:AV}(he:∃fn,P.funcs[f]? =some fn/\(fn.name== "runtime.NumGoroutine")=false/\fn.body.isNone=false)(haid:r.ids=[])(h:∀(E:Env) (S:Nat->Prop) (w:World) (vs:List Value),(∀k,S k->k < w.heap.size)->aM (AV.has E S w) ao vs->Calls P f vs.toArray w fun e w'=>∃v,e= .returned v/\r.has E S w' v/\Off none' w w'):ah P f ao r:=by
 refine⟨he,fun E S w vs hl _ hv _ _ _=>(h E S w vs hl hv).mono ?_⟩
 rintro e w' ⟨v,rfl,hr,ho⟩;refine⟨v,E,S,rfl,{env:=fun _ _=>⟨rfl,rfl⟩,fpe:=fun _ _=>rfl,sub:=fun _ h=>h,new:=fun _ h=> .inl h,lt:=fun k hk=>zqf (hl k hk) ho.size,off:=ho.mono (fun k hk=>hk.elim),res:=hr,ents:=fun _ _ h=>(by cases h),blk:=fun _ _ _ h=>(by cases h),sep:=fun _ _ _ _ _ _ h=>(by cases h)}⟩
end
end
section
def aP(size n:Nat)(ag:List CA):Rep where
 has S w v:=∃oa am,v= .slice oa n am/\n<=am/\am<=maxLen/\(oa=none->am=0)/\ag.length=n*size/\
  ∀i c,ag[i]? =some c->∃b o u,oa=some ⟨b,o,none⟩/\¬S b/\w.cell? ⟨b,o+i,none⟩=some u/\c.has S w u
 one h:=by obtain⟨oa,am,rfl,_⟩:=h;rfl
 step h ho hs:=by
  obtain⟨oa,am,h1,h2,h3,h4,h5,h6⟩:=h;refine⟨oa,am,h1,h2,h3,h4,h5,fun i c hc=>?_⟩
  obtain⟨b,o,u,e1,e2,e3,e4⟩:=h6 i c hc;have hb:=World.block_lt_of_cell? _ _ e3;exact⟨b,o,u,e1,fun h=>(hs b h).elim e2 (fun h=>by simp at hb;omega),ho.cell e2 e3,e4.step ho hs⟩
def bQ{ag:List CA}{v:Value}:(aP size n ag).has S w v↔∃oa am,v= .slice oa n am/\n<=am/\am<=maxLen/\(oa=none->am=0)/\ag.length=n*size/\
  ∀i c,ag[i]? =some c->∃b o u,oa=some ⟨b,o,none⟩/\¬S b/\w.cell? ⟨b,o+i,none⟩=some u/\c.has S w u:=Iff.rfl
def dL(ag:List CA):Rep where
 has S w v:=∃b o,v= .pointer (some ⟨b,o,none⟩)/\∀i c,ag[i]? =some c->∃u,¬S b/\w.cell? ⟨b,o+i,none⟩=some u/\c.has S w u
 one h:=by obtain⟨b,o,rfl,_⟩:=h;rfl
 step h ho hs:=by
  obtain⟨b,o,h1,h6⟩:=h;refine⟨b,o,h1,fun i c hc=>?_⟩
  obtain⟨u,e2,e3,e4⟩:=h6 i c hc;have hb:=World.block_lt_of_cell? _ _ e3;exact⟨u,fun h=>(hs b h).elim e2 (fun h=>by simp at hb;omega),ho.cell e2 e3,e4.step ho hs⟩
def adB{ag:List CA}{v:Value}:(dL ag).has S w v↔∃b o,v= .pointer (some ⟨b,o,none⟩)/\∀i c,ag[i]? =some c->∃u,¬S b/\w.cell? ⟨b,o+i,none⟩=some u/\c.has S w u:=Iff.rfl
section
variable{P:Program}{C:Ctx}{st:St}
variable{ae aa:List Oper}{ab:List (List Nat×List Nat)}{K:List (List Nat×List Nat)->St->Prop}{an:Option Tmp}{ty t:TypeId}{x y:Operand}
class bF(P:Program)(t:TypeId)(e:outParam TypeId)(size:outParam Nat):Prop where
 h:P.underlying t=some (.slice e)
 s:(P.info? e).map (·.size)=some size
 p:0 < size
class acN(P:Program)(t:TypeId):Prop where
 h:P.underlying t=some .string
def aiE(P:Program)(t:TypeId):Option (List (Nat×Option Nat)):=
 match P.underlying t with
 |some (.struct fs)=>some (fs.toList.map fun f=>(f.offset,(P.info? f.type).map (·.size)))
 |_=>none
class dD(P:Program)(t:TypeId)(pl:outParam (List (Nat×Nat))):Prop where
 h:aiE P t=some (pl.map fun p=>(p.1,some p.2))
class eZ(P:Program)(e:TypeId)(zero:outParam (List Value))(bytes:outParam Nat):Prop where
 h:(P.info? e).map (fun i=>(i.zero.map (·.cells),i.bytes))=some (some zero.toArray,bytes)
class jL(r:Rep)(size n:outParam Nat)(ag:outParam (List CA)):Prop where
 h:∀S w v,r.has S w v->(aP size n ag).has S w v
instance(size n:Nat)(ag:List CA):jL (aP size n ag) size n ag:=⟨fun _ _ _ h=>h⟩
def Go1.aof{e:TypeId}{sz:Nat}{ag:List CA}{r:Rep}[ht:bF P t e sz][hr:jL r size n ag](hd:aC an C.nt=true)(hx:st.ev x=some (.r r))(ai:Reg P C ae aa (st.app an ⟨.v (.int .i64 (n:Int)),[]⟩) (([],[])::ab) K):Go1 P C ae an (.call ⟨.builtin .len,#[x],#[t]⟩) ty aa st ab K:=
 Go1.dz [] [] zp hd zp (fun o ho _ st' E S a w hev hs _=>by
  obtain⟨hx1,_⟩:=hs.ev ((hev x (by simp[ho,Op.operands,Call.operands])).trans hx)
  obtain⟨oa,am,hv,_⟩:=hr.h _ _ _ hx1;refine⟨fun i hi=>(by cases hi),.int .i64 (n:Int),?_,rfl⟩
  unfold execOp;rw[ho];simp[resolve,invoke,builtin,Builtin.len_,run_underlying ht.h,hv,goInt]) ai
def Go1.auC{s:ByteArray}[ht:acN P t](hd:aC an C.nt=true)(hx:st.ev x=some (.v (.string s)))
  (ai:Reg P C ae aa (st.app an ⟨.v (.int .i64 (s.size:Int)),[]⟩) (([],[])::ab) K):Go1 P C ae an (.call ⟨.builtin .len,#[x],#[t]⟩) ty aa st ab K:=
 Go1.dz [] [] zp hd zp (fun o ho _ st' E S a w hev hs _=>by
  have hv:a.eval x= .string s:=(hs.ev ((hev x (by simp[ho,Op.operands,Call.operands])).trans hx)).1
  refine⟨fun i hi=>(by cases hi),.int .i64 (s.size:Int),?_,rfl⟩
  unfold execOp;rw[ho];simp[resolve,invoke,builtin,Builtin.len_,run_underlying ht.h,hv,goInt]) ai
def Go1.lU{e:TypeId}{i:Nat}{k:IntKind}{ag:List CA}{r:Rep}[ht:bF P t e size][hr:jL r size n ag](hd:aC an C.nt=true)(hx:st.ev x=some (.r r))(hy:st.ev y=some (.v (.int k (i:Int))))(hi:i < n)(ai:Reg P C ae aa (st.app an ⟨.r (dL ((ag.drop (i*size)).take size)),[]⟩) (([],[])::ab) K):Go1 P C ae an (.indexAddr t x y) ty aa st ab K:=
 Go1.dz [] [] zp hd zp (fun o ho _ st' E S a w hev hs _=>by
  obtain⟨hx1,_⟩:=hs.ev ((hev x (by simp[ho,Op.operands])).trans hx)
  obtain⟨oa,am,hv,h2,h3,h4,h5,h6⟩:=hr.h _ _ _ hx1;have hyv:a.eval y= .int k (i:Int):=(hs.ev ((hev y (by simp[ho,Op.operands])).trans hy)).1
  have hsz:=run_sizeOf ht.s w;have h0:=ht.p;obtain⟨b,o',u,e1,e2,e3,e4⟩:=h6 (i*size) (ag[i*size]'(by rw[h5];exact Nat.mul_lt_mul_of_pos_right hi h0)) zp
  subst e1;refine⟨fun j hj=>(by cases hj),.pointer (some ⟨b,o'+i*size,none⟩),?_,b,o'+i*size,rfl,fun j c hc=>?_⟩
  ·unfold execOp;rw[ho];simp[hv,hyv,Instr.indexAt,asIntOf,run_underlying ht.h,hsz,Addr.add_lit,hi]
  ·rw[zy9]at hc
   split at hc
   ·rw[zv1]at hc
    obtain⟨b',o'',u',g1,g2,g3,g4⟩:=h6 _ c hc;simp at g1
    obtain⟨rfl,rfl⟩:=g1;exact⟨u',g2,by rw[Nat.add_assoc];exact g3,g4⟩
   ·cases hc) ai
variable{d:Tmp}
def zf{E:Env}{S:Nat->Prop}{w:World}{b:Nat}:∀(l:List CA) (o'':Nat),(∀(i:Nat) (c:CA),l[i]? =some c->∃u,¬S b/\w.cell? ⟨b,o''+i,none⟩=some u/\c.has S w u)->
  ∃us:List Value,aM (Atom.has E S w) (l.map Atom.c) us/\∀j u,us[j]? =some u->w.cell? ((⟨b,o'',none⟩:Addr).add j)=some u
 |[],_,_=>⟨[],trivial,by simp⟩
 |c'::l,o'',h=>by
  obtain⟨u',k1,k2,k3⟩:=h 0 c' zp
  obtain⟨us,k4,k5⟩:=zf (E:=E) l (o''+1) (fun i c hi=>by have:=h (i+1) c (by simpa using hi);rwa [show o''+(i+1)=o''+1+i by omega]at this)
  refine⟨u'::us,⟨k3,k4⟩,fun j u hj=>?_⟩
  cases j with
  |zero=>simp at hj;subst hj;rw[Addr.add_lit];exact k2
  |succ j=>
   have:=k5 j u (by simpa using hj)
   rw[Addr.add_lit]at*
   rwa [show o''+(j+1)=o''+1+j by omega]
def Go1.uJ{ag:List CA}[ht:gZ P t n](hd:aC an C.nt=true)(hx:st.ev x=some (.r (dL ag)))(hl:ag.length=n)(ai:Reg P C ae aa (st.app an ⟨.agg (ag.map Atom.c),[]⟩) (([],[])::ab) K):Go1 P C ae an (.load t x) ty aa st ab K:=
 Go1.dz [] [] zp hd zp (fun o ho _ st' E S a w hev hs _=>by
  obtain⟨⟨b,o',hv,h6⟩,_⟩:=hs.ev ((hev x (by simp[ho,Op.operands])).trans hx)
  have hex:=zf (E:=E) ag o' h6;obtain⟨us,hall,hus⟩:=hex;have hlen:=hall.length;have hrun:=run_loadCells_list (P:=P) w ⟨b,o',none⟩ us hus;have hsz:(P.info? t).map (·.size)=some us.length:=by rw[ht.s,<-hl];simp at hlen;rw[hlen]
  refine⟨fun j hj=>?_,.agg us.toArray,?_,us,rfl,hall⟩
  ·simp only[AV.ids,AV0.ids,zx9]at hj;obtain⟨c,hc,hj⟩:=hj;obtain⟨c',_,rfl⟩:=zqg.1 hc;cases hj
  ·unfold execOp;rw[ho];simp[hv,Instr.loadAt,Instr.sureAddr,loadVar,ig ht.h,run_sizeOf hsz,hrun]) ai
def Go1.zT{c:CA}{ag:List CA}[ht:iT P t](hd:aC an C.nt=true)(hx:st.ev x=some (.r (dL ag)))(hl:ag[0]? =some c)
  (ai:Reg P C ae aa (st.app an ⟨.it (.one (.c c)),[]⟩) (([],[])::ab) K):Go1 P C ae an (.load t x) ty aa st ab K:=
 Go1.dz [] [] zp hd zp (fun o ho _ st' E S a w hev hs _=>by
  obtain⟨⟨b,o',hv,h6⟩,_⟩:=hs.ev ((hev x (by simp[ho,Op.operands])).trans hx)
  obtain⟨u,g1,g2,g3⟩:=h6 0 c hl;refine⟨fun j hj=>(by cases hj),u,?_,g3⟩
  unfold execOp;rw[ho];have g2':w.cell? ⟨b,o',none⟩=some u:=g2;simp[hv,Instr.loadAt,Instr.sureAddr,loadVar,ig ht.h,g2']) ai
def Go1.kX{f o1:Nat}{ag:List CA}[ht:bB P t f o1](hd:aC an C.nt=true)(hx:st.ev x=some (.r (dL ag)))
  (ai:Reg P C ae aa (st.app an ⟨.r (dL (ag.drop o1)),[]⟩) (([],[])::ab) K):Go1 P C ae an (.fieldAddr t x f) ty aa st ab K:=
 Go1.dz [] [] zp hd zp (fun o ho _ st' E S a w hev hs _=>by
  obtain⟨⟨b,o',hv,h6⟩,_⟩:=hs.ev ((hev x (by simp[ho,Op.operands])).trans hx)
  obtain⟨ft,h1,h2⟩:=ht.h;obtain⟨dd,hd1,hd2⟩:=Option.bind_eq_some_iff.1 h1;obtain⟨i,hi,hz⟩:=zya.1 h2;refine⟨fun j hj=>(by cases hj),.pointer (some ⟨b,o'+o1,none⟩),?_,b,o'+o1,rfl,fun i c hc=>?_⟩
  ·cases dd <;> simp[xW]at hd2
   rename_i fs;obtain⟨fd,hfd,he1,he2⟩:=hd2;subst he1 he2;unfold execOp;rw[ho];have hsz:(Go.sizeOf fd.type).run P w= .ok i.size w:=by simp[Go.sizeOf,typeInfo,hi]
   simp[hv,Instr.fieldAt,Instr.sureAddr,run_underlying hd1,hfd,fieldPlace,hsz]
   simp at hz
   simp[hz,Addr.add_lit]
  ·rw[zv1]at hc
   obtain⟨u,g1,g2,g3⟩:=h6 _ c hc;exact⟨u,g1,by rw[Nat.add_assoc];exact g2,g3⟩) ai
end
attribute [irreducible] aP dL
end
section
def gq(pl:List (Nat×Nat)):List Atom->List (Nat×AV0)->Option (List Atom)
 |ag,[]=>some ag
 |ag,(i,x)::aa=>match pl[i]? with
  |none=>none
  |some (off,size)=>match Nat.beq x.cells.length size&&Nat.ble (off+size) ag.length with
   |true=>gq pl (spl ag off x.cells) aa
   |false=>none
def evp(st:St):List (Nat×Operand)->Option (List (Nat×AV0))
 |[]=>some []
 |(i,x)::xs=>match st.ev x,evp st xs with
  |some (.it v),some vs=>some ((i,v)::vs)
  |_,_=>none
section
variable{P:Program}{C:Ctx}{st:St}
def nU{st st':St}:∀{xs:List (Nat×Operand)},(∀x∈xs,st'.ev x.2=st.ev x.2)->evp st' xs=evp st xs
 |[],_=>rfl
 |(i,x)::xs,h=>by unfold evp;rw[h (i,x) zp,nU (fun y hy=>h y (by simp[hy]))]
def zD{E:Env}{S:Nat->Prop}{a:Act}{w:World}(h:nZ C st E S a w):∀{xs:List (Nat×Operand)} {l:List (Nat×AV0)},evp st xs=some l->aM (fun p q=>p.1=q.1/\p.2.has E S w q.2) l (xs.map fun x=>(x.1,a.eval x.2))/\∀p∈l,∀b∈p.2.ids,(st.hp b).used=true
 |[],l,hl=>by simp[evp]at hl;subst hl;exact⟨trivial,by simp⟩
 |(i,x)::xs,l,hl=>by
  unfold evp at hl;cases hx:st.ev x with
  |none=>simp[hx]at hl
  |some v=>
   cases v with
   |tup l'=>simp[hx]at hl
   |it v=>
    cases hxs:evp st xs with
    |none=>simp[hx,hxs]at hl
    |some vs=>
     simp[hx,hxs]at hl
     subst hl;obtain⟨h1,h2⟩:=h.ev hx;obtain⟨h3,h4⟩:=zD h hxs;exact⟨⟨⟨rfl,h1⟩,h3⟩,fun u hu=>by
      rcases zy3.1 hu with rfl|hu
      ·exact h2
      ·exact h4 u hu⟩
def foldl_set:∀(us:List Value) (cs:List Value) (off j:Nat),off+j+us.length<=cs.length->
  ((us.zipIdx j).foldl (fun(cs:Array Value) (p:Value×Nat)=>cs.setIfInBounds (off+p.2) p.1) cs.toArray)=(spl cs (off+j) us).toArray
 |[],cs,off,j,h=>by
  rw[iX _ _ _ h];simp
 |u::us,cs,off,j,h=>by
  simp only[List.zipIdx_cons,List.foldl_cons];have h2:cs.toArray.setIfInBounds (off+j) u=(cs.set (off+j) u).toArray:=by simp
  rw[h2,foldl_set us (cs.set (off+j) u) off (j+1) (by simp at h ⊢;omega)]
  congr 1
  rw[iX _ _ _ (by simp at h ⊢;omega),iX _ _ _ h]
  have:=list_seg_step cs (off+j) u us (by simpa using h)
  simpa[Nat.add_assoc]using this
def u7{E:Env}{S:Nat->Prop}{w:World}{pl:List (Nat×Nat)}:∀{ps:List (Nat×AV0)} {qs:List (Nat×Value)} {ag l:List Atom} {cs:List Value},aM (fun p q=>p.1=q.1/\p.2.has E S w q.2) ps qs->(∀p∈ps,p.2.cells.all Atom.dN=true)->
  aM (Atom.has E S w) ag cs->gq pl ag ps=some l->∃us,Instr.fill (fun i=>pl[i]?) cs.toArray qs=some us.toArray/\aM (Atom.has E S w) l us
 |[],[],ag,l,cs,_,_,hc,hf=>by simp[gq]at hf;subst hf;exact⟨cs,rfl,hc⟩
 |(i,x)::ps,(j,v)::qs,ag,l,cs,h,h1,hc,hf=>by
  obtain⟨⟨e,hx⟩,h⟩:=h;simp only at e hx;subst e;obtain⟨us,hus,hall,_⟩:=AV0.has.cells hx (h1 (i,x) zp)
  unfold gq at hf;cases hp:pl[i]? with
  |none=>simp[hp]at hf
  |some q=>
   obtain⟨off,size⟩:=q;simp only[hp]at hf;cases hb:Nat.beq x.cells.length size&&Nat.ble (off+size) ag.length with
   |false=>simp[hb]at hf
   |true=>
    simp only[hb]at hf;rw[zx4,zva]at hb;obtain⟨hb1,hb2⟩:=hb;have hb1':x.cells.length=size:=Nat.eq_of_beq_eq_true hb1;have hl1:=hall.length;have hl2:=hc.length;obtain⟨us',h3,h4⟩:=u7 h (fun p hp=>h1 p (by simp[hp])) (hc.spl off hall) hf
    refine⟨us',?_,h4⟩;unfold Instr.fill;simp only[hp,hus,List.size_toArray];rw[if_neg (by simp;omega)]
    have h5:=foldl_set us cs off 0 (by simp;omega)
    rw[<-h3]
    congr 1
    simpa[Array.foldl_toList]using h5
 |[],_::_,_,_,_,h,_,_,_=>h.elim
 |_::_,[],_,_,_,h,_,_,_=>h.elim
def run_places{pl:List (Nat×Nat)}(h:dD P t pl)(w:World):∃fs,P.underlying t=some (.struct fs)/\(fs.mapM fun f=>do pure (f.offset,<-Go.sizeOf f.type):Sem (Array (Nat×Nat))).run P w= .ok pl.toArray w:=by
 have h:=h.h;unfold aiE at h;cases hu:P.underlying t with
 |none=>simp[hu]at h
 |some d=>
  cases d <;> simp[hu]at h
  rename_i fs;refine⟨fs,rfl,?_⟩;have key:∀(l:List Field) (m:List (Nat×Nat)),(l.map fun f=>(f.offset,(P.info? f.type).map (·.size)))=m.map (fun p=>(p.1,some p.2))->(l.mapM fun f=>do pure (f.offset,<-Go.sizeOf f.type):Sem (List (Nat×Nat))).run P w= .ok m w:=by
   intro l
   induction l with
   |nil=>intro m hm;cases m with
    |nil=>rfl
    |cons _ _=>simp at hm
   |cons f l ih=>
    intro m hm;cases m with
    |nil=>simp at hm
    |cons p m=>
     simp only[zy6,List.cons.injEq,Prod.mk.injEq]at hm;have hs:=run_sizeOf hm.1.2 w;have:=ih m hm.2;simp only[List.mapM_cons,Sem.run_bind,Sem.run_pure,hs,this,hm.1.1,Result.andThen_ok]
  have:fs=fs.toList.toArray:=by simp
  rw[this,List.mapM_toArray,Sem.run_map,key fs.toList pl (by simpa using h)]
  rfl
variable{ae aa:List Oper}{ab:List (List Nat×List Nat)}{K:List (List Nat×List Nat)->St->Prop}{d:Tmp}{ty t:TypeId}
def Go1.build{pl:List (Nat×Nat)}{zs:List Value}{parts:Array (Nat×Operand)}{ps:List (Nat×AV0)}{l:List Atom}[ht:dD P t pl][hz:fQ P t zs](hd:aC (some d) C.nt=true)(hp:evp st parts.toList=some ps)(h1:(ps.all fun p=>p.2.cells.all Atom.dN)=true)
  (hf:gq pl (zs.map fun v=>Atom.c (.val v)) ps=some l) (ai:Reg P C ae aa (st.app (some d) ⟨.agg l,[]⟩) (([],[])::ab) K):Go1 P C ae (some d) (.build t parts) ty aa st ab K:=
 Go1.dz [] [] zp hd zp (fun o ho _ st' E S a w hev hs _=>by
  have hp':evp st' parts.toList=some ps:=by
   rw[nU (fun x hx=>hev x.2 (by rw[ho];simp[Op.operands];exact⟨x.1,by simpa using hx⟩))];exact hp
  obtain⟨hall,hids⟩:=zD hs hp';obtain⟨z,hz1,hz2⟩:=mE hz.h w;obtain⟨fs,hu,hpl⟩:=run_places ht w;obtain⟨us,hfill,hus⟩:=u7 (w:=w) (cs:=zs) hall (fun p hp=>by rw[zqh]at h1;exact h1 p hp) (lG zs) hf
  have hfill':Instr.fill (fun i:Nat=>pl.toArray[i]?) zs.toArray (parts.toList.map fun x=>(x.1,a.eval x.2))=some us.toArray:=by
   have e1:(fun i:Nat=>pl.toArray[i]?)=(fun i:Nat=>pl[i]?):=by funext i;simp
   rw[e1];exact hfill
  refine⟨?_,.agg us.toArray,?_,us,rfl,hus⟩
  ·-- the ids
   have key:∀(ps:List (Nat×AV0)) (ag l:List Atom),gq pl ag ps=some l->(∀i∈ag.flatMap Atom.ids,(st'.hp i).used=true)->(∀p∈ps,∀b∈p.2.ids,(st'.hp b).used=true)->∀i∈l.flatMap Atom.ids,(st'.hp i).used=true:=by
    intro ps
    induction ps with
    |nil=>intro ag l hf hc _ i hi;simp[gq]at hf;subst hf;exact hc i hi
    |cons p ps ih=>
     intro ag l hf hc hps i hi;obtain⟨j,x⟩:=p;unfold gq at hf;cases hpj:pl[j]? with
     |none=>simp[hpj]at hf
     |some q=>
      obtain⟨off,size⟩:=q;simp only[hpj]at hf;cases hb:Nat.beq x.cells.length size&&Nat.ble (off+size) ag.length with
      |false=>simp[hb]at hf
      |true=>
       simp only[hb]at hf;rw[zx4,zva]at hb;have hb1':x.cells.length=size:=Nat.eq_of_beq_eq_true hb.1;refine ih _ l hf (fun i hi=>?_) (fun p hp=>hps p (by simp[hp])) i hi
       obtain⟨c,hc1,hc2⟩:=zx9.1 hi;rw[iX _ _ _ zE]at hc1
       simp only[zyg]at hc1;rcases hc1 with(hc1|hc1)|hc1
       ·exact hc i (zx9.2 ⟨c,zv3 hc1,hc2⟩)
       ·refine hps (j,x) zp i ?_
        rw[<-AV0.vC];exact zx9.2 ⟨c,hc1,hc2⟩
       ·exact hc i (zx9.2 ⟨c,zw9 hc1,hc2⟩)
   exact key ps _ l hf (fun i hi=>by
    obtain⟨c,hc,hi⟩:=zx9.1 hi;obtain⟨v,_,rfl⟩:=zqg.1 hc;cases hi) hids
  ·unfold execOp;rw[ho];have hparts:(parts.map fun x=>(x.1,a.eval x.2)).toList=parts.toList.map fun x=>(x.1,a.eval x.2):=by simp
   simp only[Instr.build,Sem.run_bind,hz1,Result.andThen_ok,run_underlying hu,hpl,hz2,hparts];simp only[hfill',Sem.run_pure,Result.andThen_ok]) ai
end
section
variable{P:Program}{C:Ctx}{st:St}{ae aa:List Oper}{ab:List (List Nat×List Nat)}{K:List (List Nat×List Nat)->St->Prop}{an:Option Tmp}{op:Op}{ty t t':TypeId}{x y:Operand}{b:BinOp}{u:UnOp}{cl:Call}{i:Nat}{c:Code}{Q:Exit->St->Prop}{parts:Array (Nat×Operand)}{n:Nat}
def WP.ayW{x y:Code}{c:Operand}{t:Bool}(hc:st.ev c=some (.v (.bool t)))(ht:t=true)(h:WP P C x st Q):WP P C (.cond c x y) st Q:=WP.cond hc (fun _=>h) (fun e=>by rw[ht]at e;cases e)
def WP.azf{x y:Code}{c:Operand}{t:Bool}(hc:st.ev c=some (.v (.bool t)))(ht:t=false)(h:WP P C y st Q):WP P C (.cond c x y) st Q:=WP.cond hc (fun e=>by rw[ht]at e;cases e) (fun _=>h)
def Go1.alo{c:Operand}{t:Bool}{r:AV}(hd:aC an C.nt=true)(hc:st.ev c=some (.v (.bool t)))(ht:t=true)(hx:st.ev x=some r)(ai:Reg P C ae aa (st.app an ⟨r,[]⟩) (([],[])::ab) K):Go1 P C ae an (.pick c x y) ty aa st ab K:=by
 subst ht;exact Go1.pick hd hc hx ai
def Go1.aj1{c:Operand}{t:Bool}{r:AV}(hd:aC an C.nt=true)(hc:st.ev c=some (.v (.bool t)))(ht:t=false)(hx:st.ev y=some r)(ai:Reg P C ae aa (st.app an ⟨r,[]⟩) (([],[])::ab) K):Go1 P C ae an (.pick c x y) ty aa st ab K:=by
 subst ht;exact Go1.pick hd hc hx ai
def jO(h1: -9223372036854775808<=z)(h2:z<=9223372036854775807):IntKind.i64.wrap z=z:=IntWalk.i64_in z ⟨h1,h2⟩
def pO(h1:0<=z)(h2:z<=18446744073709551615):IntKind.u64.wrap z=z:=by
 simp only[IntKind.wrap,IntKind.bits,IntKind.signed];simp;omega
def Go1.is(h:Go1 P C ae an op ty aa st ab K):Go1 P C ae an op ty aa st ab K:=h
def Reg.is{l:List Oper}(h:Reg P C ae l st ab K):Reg P C ae l st ab K:=h
def WP.is(h:WP P C c st Q):WP P C c st Q:=h
def Go1.isLoad(h:Go1 P C ae an (.load t x) ty aa st ab K):Go1 P C ae an (.load t x) ty aa st ab K:=h
def Go1.ani(h:Go1 P C ae an (.binOp b t x y t') ty aa st ab K):Go1 P C ae an (.binOp b t x y t') ty aa st ab K:=h
def Go1.isUn(h:Go1 P C ae an (.unOp u t x) ty aa st ab K):Go1 P C ae an (.unOp u t x) ty aa st ab K:=h
def Go1.dO(h:Go1 P C ae an (.call cl) ty aa st ab K):Go1 P C ae an (.call cl) ty aa st ab K:=h
def Go1.isField(h:Go1 P C ae an (.fieldAddr t x i) ty aa st ab K):Go1 P C ae an (.fieldAddr t x i) ty aa st ab K:=h
def Go1.abx(h:Go1 P C ae an (.build t parts) ty aa st ab K):Go1 P C ae an (.build t parts) ty aa st ab K:=h
def Go1.zh(h:Go1 P C ae an (.buildSlice t n parts) ty aa st ab K):Go1 P C ae an (.buildSlice t n parts) ty aa st ab K:=h
def Go1.ab2(h:Go1 P C ae an (.store t x y) ty aa st ab K):Go1 P C ae an (.store t x y) ty aa st ab K:=h
def Go1.isIx(h:Go1 P C ae an (.indexAddr t x y) ty aa st ab K):Go1 P C ae an (.indexAddr t x y) ty aa st ab K:=h
end
end
end

/- Texts bound together: QVars QLoud. -/
import Derived.Test.YtkbddndcegpllaaGreatBt7

set_option linter.all false
namespace Go.Proofs.YtkbddndcegpllaaGreat

section

open Go.RowKit

structure zd0 where
 al:Nat
 st:Nat
 so:Nat
 d:Nat
 src:Nat
 t:TypeId
 zero:Array Value
 val:Array Value
def vptr (N:Nat):Value:= .pointer (some ⟨N,0,.none⟩)
def vput (b:Bool) (d N:Nat) (a:Act):Act:=if b=true then a.put (some d) (vptr N) else a
def zd0.lies (x:zd0) (W w:World) (listed:Array Bool) (N:Nat):Prop:=
 listed.getD x.al false=true->W.heap.size<=N/\w.heap[N]?=some (.cells (if listed.getD x.st false=true then x.val else x.zero) x.t (0,0))
structure zhy (W:World) (x y:zd0) (listed:Array Bool) (aQ a:Act) (w:World):Prop where
 below:Below W.heap.size W w
 fits:x.d < aQ.tmps.size/\y.d < aQ.tmps.size
 firsts:(listed.getD x.st false=true->listed.getD x.al false=true)/\(listed.getD y.st false=true->listed.getD y.al false=true)
 there:∃ M N,a=vput (listed.getD x.al false) x.d M (vput (listed.getD y.al false) y.d N aQ)/\x.lies W w listed M/\y.lies W w listed N/\(listed.getD x.al false=true->listed.getD y.al false=true->M≠N)
def zhc (w:World):World->Prop:=fun w'=> Below w.heap.size w w'
def ownB (x y:zd0) (i:Nat):Bool:=i==x.al || i==x.st || i==y.al || i==y.st
def nopO (o:Oper):Oper:= { o with op:= .move (.const undef),dst:=none,guard:=none }
def nopL (x y:zd0) (l:List Oper):List Oper:=l.mapIdx fun i o=> if ownB x y i=true then nopO o else o
def z2q (ops:Array Oper) (x y:zd0):Bool:=
 (List.range ops.size).all fun i=> match ops[i]? with
  | some o=> (o.after.all fun e=> !Region.binds .any e || decide (e.on < i)) && (ownB x y i || (o.guard.isNone && o.dst !=some x.d && o.dst !=some y.d && !(o.looksAt ops).contains x.d && !(o.looksAt ops).contains y.d)) &&
    ((List.range ops.size).all fun j=> match ops[j]? with | some p=> i==j || o.dst.isNone || o.dst !=p.dst | none=> true)
  | none=> true
theorem Act.zjo{a:Act}{d:Tmp}{v:Value}(h:d<a.tmps.size):(a.put (some d) v).eval (.tmp d)=v:=by
 show (a.tmps.setIfInBounds d v).getD d undef=v;simp[h]
theorem zlz{b:Bool}{d N:Nat}{a:Act}{t:Option Tmp}{v:Value}(h:t≠some d):(vput b d N a).put t v=vput b d N (a.put t v):=by
 unfold vput;split
 ·exact Act.put_comm a _ _ fun e f i=>h (by rw[i,<- f])
 rfl
theorem zfk{b:Bool}{d N:Nat}{a:Act}{x:Operand}(h:x≠ .tmp d):(vput b d N a).eval x=a.eval x:=by
 unfold vput;split
 ·exact Act.eval_put fun e f i=>h (by rw[i];injection f with f;rw[f])
 rfl
section

variable {P:Program} {ops ops':Array Oper} {md:Region.Mode} {aF:Act} {W:World} {Q:Exit->Act->World->Prop}

theorem zph{C:World->Prop}{i t:Nat}{o:Oper}(hi:ops'[i]?=some o)(hd:o.dst=some t)(b:∀ j p,ops'[j]?=some p->j≠i->p.dst≠some t)(f:Nat):
  ∀ (listed:Array Bool) (aQ:Act),listed.getD i false=true->wpAnyQ P md ops' C (fun a=>a=aF) f listed aQ->aQ.tmps[t]?=aF.tmps[t]?:=by
 induction f with
 |zero=>intro listed aQ _ h;rw[h.2]
 |succ f D=>
  intro listed aQ s h
  cases hr:Region.ready md ops' listed with
  |nil=>rw[h.1 hr]
  |cons j E=>
   have r:j ∈ Region.ready md ops' listed:=by rw[hr];exact List.mem_cons_self ..
   obtain⟨n,p,z,_⟩:=mem_ready.1 r
   obtain⟨v,_,B⟩:=yieldsIn_of_qOp z (h.2 j r)
   have m:j≠i:=fun e=>by
    subst e
    have:=getD_both n
    rw[s]at this;cases this
   have:=D _ _ (getD_set_true s) B
   rw[<-this]
   have q:=b j p z m
   cases hpd:p.dst with
   |none=>rfl
   |some d=>
    have:d≠t:=fun e=>q (by rw[hpd,e])
    simp[Act.put,Array.getElem?_setIfInBounds_ne this]
theorem zqc{C:World->Prop}{i:Nat}{o:Oper}{v:Value}(hi:ops'[i]?=some o)(b:∀ t,o.dst=some t->∀ j p,ops'[j]?=some p->j≠i->p.dst≠some t){f:Nat}{listed:Array Bool}{aQ:Act}(hu:i<listed.size)
  (h:wpAnyQ P md ops' C (fun a=>a=aF) f (listed.setIfInBounds i true) (aQ.put o.dst v)):aQ.put o.dst v=aQ.put o.dst ((o.dst.map fun t=>aF.tmps.getD t undef).getD undef):=by
 cases hd:o.dst with
 |none=>rfl;|some t=>
  rw[hd]at h;have n:=zph hi hd (b t hd) f _ _ (by simp[hu]) h;simp only[Option.map_some,Option.getD_some];rcases Nat.lt_or_ge t aQ.tmps.size with m|m
  ·have:(aQ.put (some t) v).tmps[t]?=some v:=by simp[Act.put,m]
   rw[this]at n;rw[Array.getD_eq_getD_getElem?,<- n];rfl
  simp[Act.put,Array.setIfInBounds_eq_of_size_le m]
end

theorem gset{listed:Array Bool}{i j:Nat}(h:i<listed.size):(listed.setIfInBounds i true).getD j false=(decide (j=i)||listed.getD j false):=by
 by_cases e:j=i
 ·subst e;simp[h]
 have b:i≠j:=fun f=>e f.symm;simp[Array.getElem?_setIfInBounds_ne b,e]
theorem zfh{listed:Array Bool}{i:Nat}(h:listed.getD i true=false):i<listed.size:=by
 rcases Nat.lt_or_ge i listed.size with b|b
 ·exact b
 simp[Array.getElem?_eq_none b]at h
section

variable {P:Program} {l:List Oper} {md:Region.Mode} {aF:Act} {W:World} {Q:Exit->Act->World->Prop} {x y:zd0}

theorem zmy(i:Nat):(nopL x y l).toArray[i]?=(l.toArray[i]?).map fun o=>if ownB x y i=true then nopO o else o:=by
 simp[nopL,List.getElem?_mapIdx]
theorem zne(listed:Array Bool):Region.ready md (nopL x y l).toArray listed=Region.ready md l.toArray listed:=by
 unfold Region.ready;have hs:(nopL x y l).toArray.size=l.toArray.size:=by simp[nopL]
 rw[hs];apply List.filter_congr;intro i _;rw[zmy];congr 1;cases l.toArray[i]? with
 |none=>rfl;|some o=>simp only[Option.map_some,Option.getD_some];split<;>rfl
structure yef (l:List Oper) (x y:zd0) (i:Nat) (o:Oper):Prop where
 low:∀ e ∈ o.after,Region.binds .any e=true->e.on < i
 quiet:ownB x y i=false->o.guard=none/\o.dst≠some x.d/\o.dst≠some y.d/\x.d ∉ o.looksAt l.toArray/\y.d ∉ o.looksAt l.toArray
 dist:∀ t,o.dst=some t->∀ j p,l.toArray[j]?=some p->j≠i->p.dst≠some t
theorem zm4(h:z2q l.toArray x y=true){i:Nat}{o:Oper}(hi:l.toArray[i]?=some o):yef l x y i o:=by
 have r:i<l.toArray.size:=(Array.getElem?_eq_some_iff.1 hi).1;have z:=List.all_eq_true.1 h i (List.mem_range.2 r);simp only[hi,Bool.and_eq_true,Bool.or_eq_true]at z;obtain⟨⟨C,b⟩,D⟩:=z;refine⟨fun e E n=>?_,fun m=>?_,fun t F j p B s=>?_⟩
 ·have:=(Array.all_eq_true_iff_forall_mem.1 C) e E;simpa[n] using this
 ·rw[m]at b;simp only[Bool.false_eq_true,false_or,bne_iff_ne,ne_eq,Bool.not_eq_true',Option.isNone_iff_eq_none,List.contains_eq_mem,decide_eq_false_iff_not]at b;exact⟨b.1.1.1.1,b.1.1.1.2,b.1.1.2,b.1.2,b.2⟩
 have q:j<l.toArray.size:=(Array.getElem?_eq_some_iff.1 B).1;have f:=List.all_eq_true.1 D j (List.mem_range.2 q);simp only[B,F,Bool.or_eq_true,beq_iff_eq,bne_iff_ne,ne_eq,Option.isNone_some,Bool.false_eq_true,or_false]at f;rcases f with f|f
 ·exact absurd f.symm s
 exact fun e=>f e.symm
structure ze2 (P:Program) (l:List Oper) (Q:Exit->Act->World->Prop) (aF:Act) (x:zd0):Prop where
 make:∀ a w K,K (a.put (some x.d) (vptr w.heap.size)) (w.alloc (.cells x.zero x.t (0,0)))->wpOp P l.toArray Q x.al K a w
 fill:∀ a w K M,a.eval (.tmp x.d)=vptr M->a.eval (.tmp x.src)=aF.eval (.tmp x.src)->w.heap[M]?=some (.cells x.zero x.t (0,0))->
  (∀ w',w'.heap[M]?=some (.cells x.val x.t (0,0))->Only (fun k=> k=M) w w'->w'.heap.size=w.heap.size->K a w')->wpOp P l.toArray Q x.st K a w
 waits:∀ listed,x.st ∈ Region.ready .any l.toArray listed->listed.getD x.al false=true/\listed.getD x.so false=true
 src:∃ o,l.toArray[x.so]?=some o/\o.dst=some x.src
structure zlh (x y:zd0):Prop where
 n1:x.al≠x.st
 n2:x.al≠y.al
 n3:x.al≠y.st
 n4:x.st≠y.al
 n5:x.st≠y.st
 n6:y.al≠y.st
 d1:x.d≠y.d
 d2:x.src≠x.d
 d3:x.src≠y.d
 d4:y.src≠x.d
 d5:y.src≠y.d
theorem zlh.symm(h:zlh x y):zlh y x:=⟨h.n6,h.n2.symm,h.n4.symm,h.n3.symm,h.n5.symm,h.n1,h.d1.symm,h.d5,h.d4,h.d3,h.d2⟩
theorem z0g{b c:Bool}{d e M N:Nat}{a:Act}(h:d≠e):vput b d M (vput c e N a)=vput c e N (vput b d M a):=by
 unfold vput;cases b<;>cases c<;>simp;exact Act.put_comm a _ _ fun u hu f=>h (by injection hu with hu;injection f with f;omega)
theorem zhy.symm{listed:Array Bool}{aQ a:Act}{w:World}(m:zlh x y)(h:zhy W x y listed aQ a w):zhy W y x listed aQ a w:=by
 obtain⟨M,N,b,f,i,j⟩:=h.there;exact⟨h.below,h.fits.symm,h.firsts.symm,N,M,by rw[b,z0g m.d1],i,f,fun u v=>(j v u).symm⟩
theorem z7g{listed:Array Bool}{aQ a:Act}{w:World}(i:zlh x y)(hs:ze2 P l Q aF x)(h:zhy W x y listed aQ a w)(hu:listed.getD x.al true=false):
  wpOp P l.toArray Q x.al (fun r w'=>zhy W x y (listed.setIfInBounds x.al true) aQ r w') a w:=by
 have b:=zfh hu;have p:=getD_both hu;obtain⟨M,N,t,z,o,B⟩:=h.there;have j:listed.getD x.st false=false:=by
  rcases Bool.eq_false_or_eq_true (listed.getD x.st false) with e|e
  ·have:=h.firsts.1 e;rw[p]at this;cases this
  exact e
 have f:(listed.setIfInBounds x.al true).getD y.al false=listed.getD y.al false:=by rw[gset b,decide_eq_false i.n2.symm,Bool.false_or]
 have m:(listed.setIfInBounds x.al true).getD x.st false=false:=by rw[gset b,decide_eq_false i.n1.symm,Bool.false_or];exact j
 have n:(listed.setIfInBounds x.al true).getD y.st false=listed.getD y.st false:=by rw[gset b,decide_eq_false i.n3.symm,Bool.false_or]
 have s:(listed.setIfInBounds x.al true).getD x.al false=true:=by rw[gset b,decide_eq_true rfl,Bool.true_or]
 refine hs.make a w _ ⟨h.below.alloc h.below.size _,h.fits,⟨fun e=>(by rw[m]at e;cases e),fun e=>(by rw[f];rw[n]at e;exact h.firsts.2 e)⟩,⟨w.heap.size,N,?_,fun _=>⟨h.below.size,?_⟩,fun e=>?_,fun _ e=>?_⟩⟩
 ·rw[s,f,t,p];rfl
 ·rw[m,if_neg (by decide)];exact heap_alloc_new w _
 ·rw[f]at e;obtain⟨k1,q⟩:=o e;rw[n];refine⟨k1,?_⟩;have:N<w.heap.size:=(Array.getElem?_eq_some_iff.1 q).1;rw[Below.heap_alloc _ _ _ this];exact q
 rw[f]at e;have:N<w.heap.size:=(Array.getElem?_eq_some_iff.1 (o e).2).1;omega
theorem z6q{listed:Array Bool}{aQ a:Act}{w:World}(n:zlh x y)(hs:ze2 P l Q aF x)(h:zhy W x y listed aQ a w)(hu:x.st ∈ Region.ready .any l.toArray listed)(i:aQ.eval (.tmp x.src)=aF.eval (.tmp x.src)):
  wpOp P l.toArray Q x.st (fun E w'=>zhy W x y (listed.setIfInBounds x.st true) aQ E w') a w:=by
 have j:=(mem_ready.1 hu).1;have f:=zfh j;have O:=getD_both j;obtain⟨b,R⟩:=hs.waits listed hu;obtain⟨M,N,q,H,I,z⟩:=h.there;obtain⟨k1,o⟩:=H b;rw[O]at o;simp only[Bool.false_eq_true,if_false]at o;have t:(listed.setIfInBounds x.st true).getD x.al false=true:=by rw[gset f,b,Bool.or_true]
 have G:(listed.setIfInBounds x.st true).getD x.st false=true:=by rw[gset f,decide_eq_true rfl,Bool.true_or]
 have m:(listed.setIfInBounds x.st true).getD y.al false=listed.getD y.al false:=by rw[gset f,decide_eq_false n.n4.symm,Bool.false_or]
 have s:(listed.setIfInBounds x.st true).getD y.st false=listed.getD y.st false:=by rw[gset f,decide_eq_false n.n5.symm,Bool.false_or]
 have L:a=(vput (listed.getD y.al false) y.d N aQ).put (some x.d) (vptr M):=by rw[q,b];rfl
 have r:x.d<(vput (listed.getD y.al false) y.d N aQ).tmps.size:=by
  have:(vput (listed.getD y.al false) y.d N aQ).tmps.size=aQ.tmps.size:=by unfold vput;split<;>simp[Act.put]
  rw[this];exact h.fits.1
 have F:a.eval (.tmp x.d)=vptr M:=by rw[L];exact Act.zjo r
 have p:a.eval (.tmp x.src)=aF.eval (.tmp x.src):=by rw[q,zfk (fun e=>n.d2 (by injection e)),zfk (fun e=>n.d3 (by injection e))];exact i
 refine hs.fill a w _ M F p o fun w' S C V=>?_;have U:M<w.heap.size:=(Array.getElem?_eq_some_iff.1 o).1;have hb:Below W.heap.size W w':=h.below.trans (C.below (B:=W.heap.size) h.below.size fun k e=>e ▸ k1);refine⟨hb,h.fits,⟨fun _=>t,fun e=>(by rw[m];rw[s]at e;exact h.firsts.2 e)⟩,⟨M,N,?_,fun _=>⟨k1,?_⟩,fun e=>?_,fun _ e=>?_⟩⟩
 ·rw[t,m,q,b]
 ·rw[G];simpa using S
 ·rw[m]at e;obtain⟨T,D⟩:=I e;rw[s];refine⟨T,?_⟩;have J:N<w.heap.size:=(Array.getElem?_eq_some_iff.1 D).1;rw[C.block N J (fun p=>z b e p.symm)];exact D
 rw[m]at e;exact z b e
theorem zqv{a:Act}{t:Option Tmp}{v:Value}:(a.put t v).tmps.size=a.tmps.size:=by cases t<;>simp[Act.put]
theorem zmk{ops:Array Oper}{o:Oper}{d:Nat}(h:d ∉ o.looksAt ops):∀ z ∈ o.op.operands,z≠ .tmp d:=by
 intro z b e;subst e;refine h (List.mem_append_left _ (List.mem_filterMap.2 ⟨.tmp d,by simpa using b,rfl⟩))
theorem z2g{W w w':World}(h:Below W.heap.size W w)(k:Below w.heap.size w w'):Below W.heap.size W w':=
 ⟨k.os.trans h.os,k.tape.trans h.tape,k.output.trans h.output,Nat.le_trans h.size k.size,fun i hi=>(k.block i (Nat.lt_of_lt_of_le hi h.size)).trans (h.block i hi)⟩
theorem all_in(r:z2q l.toArray x y=true){listed:Array Bool}(z:listed.size=l.toArray.size)(h:Region.ready .any l.toArray listed= []):∀ n i,i<n->i<l.toArray.size->listed.getD i true=true:=by
 intro n;induction n with
 |zero=>intro i hi;omega;|succ n t=>
  intro i hi s;rcases Bool.eq_false_or_eq_true (listed.getD i true) with e|e
  ·exact e
  have p:l.toArray[i]?=some l.toArray[i]:=Array.getElem?_eq_getElem s
  have o:i ∈ Region.ready .any l.toArray listed:=mem_ready.2 ⟨e,_,p,fun b q f=>by
   have m:=(zm4 r p).low b q f
   have:=t b.on (by omega) (by omega)
   have j:b.on<listed.size:=by omega
   simp only[Array.getD_eq_getD_getElem?,Array.getElem?_eq_getElem j,Option.getD_some]at this ⊢
   exact this⟩
  rw[h]at o;cases o
theorem zpl(m:z2q l.toArray x y=true){i:Nat}{o:Oper}(hi:l.toArray[i]?=some o):∀ t,o.dst=some t->∀ j p,(nopL x y l).toArray[j]?=some p->j≠i->p.dst≠some t:=by
 intro t n j p b f;rw[zmy]at b;cases hq:l.toArray[j]? with
 |none=>rw[hq]at b;cases b;|some q=>
  rw[hq]at b;simp only[Option.map_some,Option.some.injEq]at b;subst b;split
  ·exact fun e=>by cases e
  exact(zm4 m hi).dist t n j q hq f
theorem ycl{C:World->Prop}{i:Nat}{K:Act->Prop}{aQ:Act}(b:ownB x y i=true)(hi:∃ o,l.toArray[i]?=some o)(h:qOp P (nopL x y l).toArray C i K aQ):K aQ:=by
 obtain⟨o,m⟩:=hi;have f:(nopL x y l).toArray[i]?=some (nopO o):=by rw[zmy,m];simp[b]
 obtain⟨v,_,j⟩:=yieldsIn_of_qOp f h;exact j
theorem z1u{listed:Array Bool}{aQ a m:Act}{w w':World}{i:Nat}{t:Option Tmp}{v:Value}(hu:i<listed.size)(h:zhy W x y listed aQ a w)(b:ownB x y i=false)(D:t≠some x.d)(E:t≠some y.d)
  (hb:Below w.heap.size w w') (s:m=a.put t v):zhy W x y (listed.setIfInBounds i true) (aQ.put t v) m w':=by
 simp only[ownB,Bool.or_eq_false_iff,beq_eq_false_iff_ne,ne_eq]at b;obtain⟨⟨⟨n1,n2⟩,n3⟩,n4⟩:=b;have g:∀ j,j≠i->(listed.setIfInBounds i true).getD j false=listed.getD j false:=fun j B=>by rw[gset hu,decide_eq_false B,Bool.false_or]
 obtain⟨M,N,o,p,q,r⟩:=h.there;have f:∀ (z:zd0) (R:Nat),z.al≠i->z.st≠i->z.lies W w listed R->z.lies W w' (listed.setIfInBounds i true) R:=fun z R F G C e=>by rw[g _ F]at e;rw[g _ G];obtain⟨k1,n⟩:=C e;exact⟨k1,(hb.block R (Array.getElem?_eq_some_iff.1 n).1).trans n⟩
 refine⟨z2g h.below hb,by rw[zqv];exact h.fits,?_,⟨M,N,?_,f x M (Ne.symm n1) (Ne.symm n2) p,f y N (Ne.symm n3) (Ne.symm n4) q,?_⟩⟩
 ·rw[g _ (Ne.symm n1),g _ (Ne.symm n2),g _ (Ne.symm n3),g _ (Ne.symm n4)];exact h.firsts
 ·rw[g _ (Ne.symm n1),g _ (Ne.symm n3),s,o,zlz D,zlz E]
 rw[g _ (Ne.symm n1),g _ (Ne.symm n3)];exact r
structure Filled (W:World) (x y:zd0) (aF a:Act) (w:World) (M N:Nat):Prop where
 state:a=(aF.put (some y.d) (vptr N)).put (some x.d) (vptr M)
 below:Below W.heap.size W w
 apart:M≠N
 new:W.heap.size<=M/\W.heap.size<=N
 one:w.heap[M]?=some (.cells x.val x.t (0,0))
 two:w.heap[N]?=some (.cells y.val y.t (0,0))
def nopF (x y:zd0):Nat->List Oper->List Oper
 | _, []=> []
 | i,o::r=> (if ownB x y i=true then nopO o else o)::nopF x y (i + 1) r
theorem zwe:∀ (r:List Oper) (i j:Nat),(nopF x y i r)[j]?=(r[j]?).map fun o=>if ownB x y (i+j)=true then nopO o else o
 | [],_,_=>by simp[nopF]
 |o::r,i,0=>by simp[nopF]
 |o::r,i,j+1=>by
  simp only[nopF,List.getElem?_cons_succ]
  rw[zwe r (i+1) j,show i+1+j=i+(j+1) by omega]
theorem ycp:nopL x y l=nopF x y 0 l:=by
 apply List.ext_getElem?;intro j;rw[zwe];simp[nopL,List.getElem?_mapIdx]
theorem zsj{B:World}:zhc B=fun w'=>∃ e:Ext B,w'=e.w:=by
 funext w';exact propext ⟨fun h=>⟨⟨w',h⟩,rfl⟩,fun ⟨e,h⟩=>h ▸ e.below⟩
end

end

section

open Go.RowKit

def nopC (v:Value) (o:Oper):Oper:= { o with op:= .move (.const v),guard:=none }
def z8f (x:zd0) (ld i:Nat):Bool:=i==x.al || i==x.st || i==ld
def zej (x:zd0) (ld:Nat) (v:Value) (i:Nat) (o:Oper):Oper:=if i==ld then nopC v o else if i==x.al || i==x.st then nopO o else o
def nopM (x:zd0) (ld:Nat) (v:Value) (l:List Oper):List Oper:=l.mapIdx (zej x ld v)
def zrg (ops:Array Oper) (x:zd0) (ld:Nat):Bool:=
 (List.range ops.size).all fun i=> match ops[i]? with
  | some o=> (o.after.all fun e=> !Region.binds .any e || decide (e.on < i)) && (z8f x ld i || (o.guard.isNone && o.dst !=some x.d && !(o.looksAt ops).contains x.d)) && (i !=ld || o.dst !=some x.d) &&
    ((List.range ops.size).all fun j=> match ops[j]? with | some p=> i==j || o.dst.isNone || o.dst !=p.dst | none=> true)
  | none=> true
def zsq (ops:Array Oper) (x:zd0) (ld:Nat) (ts:List Nat):Bool:=
 ts.all fun t=> (List.range ops.size).any fun j=> match ops[j]? with
  | some o=> o.dst==some t && j !=ld && j !=x.al && j !=x.st && (match ops[ld]? with | some p=> p.after.any fun e=> Region.binds .any e && e.on==j | none=> false)
  | none=> false
section

variable {P:Program} {l:List Oper} {md:Region.Mode} {aF:Act} {W:World} {Q:Exit->Act->World->Prop} {x:zd0} {ld:Nat} {v:Value} {K0 K1:World->Prop}

theorem zfv(i:Nat):(nopM x ld v l).toArray[i]?=(l.toArray[i]?).map (zej x ld v i):=by
 simp[nopM,List.getElem?_mapIdx]
theorem zt1(i:Nat)(o:Oper):(zej x ld v i o).after=o.after:=by unfold zej;split<;>(try split)<;>rfl
theorem zzy(i:Nat)(o:Oper):(zej x ld v i o).dst=o.dst\/(zej x ld v i o).dst=none:=by unfold zej;split<;>(try split)<;>first|exact .inl rfl|exact .inr rfl
theorem zk0(listed:Array Bool):Region.ready md (nopM x ld v l).toArray listed=Region.ready md l.toArray listed:=by
 unfold Region.ready;have hs:(nopM x ld v l).toArray.size=l.toArray.size:=by simp[nopM]
 rw[hs];apply List.filter_congr;intro i _;rw[zfv];congr 1;cases l.toArray[i]? with
 |none=>rfl
 |some o=>simp only[Option.map_some,Option.getD_some,zt1]
structure ygz (l:List Oper) (x:zd0) (ld i:Nat) (o:Oper):Prop where
 low:∀ e ∈ o.after,Region.binds .any e=true->e.on < i
 quiet:z8f x ld i=false->o.guard=none/\o.dst≠some x.d/\x.d ∉ o.looksAt l.toArray
 loud:i=ld->o.dst≠some x.d
 dist:∀ t,o.dst=some t->∀ j p,l.toArray[j]?=some p->j≠i->p.dst≠some t
theorem zik(h:zrg l.toArray x ld=true){i:Nat}{o:Oper}(hi:l.toArray[i]?=some o):ygz l x ld i o:=by
 have s:i<l.toArray.size:=(Array.getElem?_eq_some_iff.1 hi).1;have B:=List.all_eq_true.1 h i (List.mem_range.2 s);simp only[hi,Bool.and_eq_true,Bool.or_eq_true]at B;obtain⟨⟨⟨D,f⟩,n⟩,E⟩:=B;refine⟨fun e F q=>?_,fun m=>?_,fun e=>?_,fun t G j p C z=>?_⟩
 ·have:=(Array.all_eq_true_iff_forall_mem.1 D) e F;simpa[q] using this
 ·rw[m]at f;simp only[Bool.false_eq_true,false_or,bne_iff_ne,ne_eq,Bool.not_eq_true',Option.isNone_iff_eq_none,List.contains_eq_mem,decide_eq_false_iff_not]at f;exact⟨f.1.1,f.1.2,f.2⟩
 ·subst e;simpa using n
 have r:j<l.toArray.size:=(Array.getElem?_eq_some_iff.1 C).1;have b:=List.all_eq_true.1 E j (List.mem_range.2 r);simp only[C,G,Bool.or_eq_true,beq_iff_eq,bne_iff_ne,ne_eq,Option.isNone_some,Bool.false_eq_true,or_false]at b;rcases b with b|b
 ·exact absurd b.symm z
 exact fun e=>b e.symm
theorem yag(r:zrg l.toArray x ld=true){listed:Array Bool}(z:listed.size=l.toArray.size)(h:Region.ready .any l.toArray listed= []):∀ n i,i<n->i<l.toArray.size->listed.getD i true=true:=by
 intro n;induction n with
 |zero=>intro i hi;omega;|succ n t=>
  intro i hi s;rcases Bool.eq_false_or_eq_true (listed.getD i true) with e|e
  ·exact e
  have p:l.toArray[i]?=some l.toArray[i]:=Array.getElem?_eq_getElem s
  have o:i ∈ Region.ready .any l.toArray listed:=mem_ready.2 ⟨e,_,p,fun b q f=>by
   have m:=(zik r p).low b q f
   have:=t b.on (by omega) (by omega)
   have j:b.on<listed.size:=by omega
   simp only[Array.getD_eq_getD_getElem?,Array.getElem?_eq_getElem j,Option.getD_some]at this ⊢
   exact this⟩
  rw[h]at o;cases o
theorem zkc(m:zrg l.toArray x ld=true){i:Nat}{o:Oper}(hi:l.toArray[i]?=some o):∀ t,o.dst=some t->∀ j p,(nopM x ld v l).toArray[j]?=some p->j≠i->p.dst≠some t:=by
 intro t n j p b f;rw[zfv]at b;cases hq:l.toArray[j]? with
 |none=>rw[hq]at b;cases b;|some q=>
  rw[hq]at b;simp only[Option.map_some,Option.some.injEq]at b;subst b;rcases zzy (x:=x) (ld:=ld) (v:=v) j q with e|e<;>rw[e]
  ·exact(zik m hi).dist t n j q hq f
  exact fun e=>by cases e
structure LRel (W:World) (x:zd0) (ld:Nat) (K0 K1:World->Prop) (listed:Array Bool) (aQ a:Act) (w:World):Prop where
 size:W.heap.size<=w.heap.size
 k0:listed.getD ld false=false->K0 w
 k1:listed.getD ld false=true->K1 w
 fits:x.d < aQ.tmps.size
 first:listed.getD x.st false=true->listed.getD x.al false=true
 there:∃ M,a=vput (listed.getD x.al false) x.d M aQ/\x.lies W w listed M
structure zn6 (W:World) (K:World->Prop):Prop where
 far:∀ Y Y',K Y->W.heap.size<=Y.heap.size->Only (fun k=> W.heap.size<=k) Y Y'->K Y'
def zij (P:Program) (l:List Oper) (Q:Exit->Act->World->Prop) (aF:Act) (W:World) (ld:Nat) (v:Value) (ts:List Nat) (K0 K1:World->Prop):Prop:=
 ∃ o,l.toArray[ld]?=some o/\∀ a w K,K0 w->W.heap.size<=w.heap.size->(∀ t ∈ ts,a.eval (.tmp t)=aF.eval (.tmp t))->(∀ w',K1 w'->Only (fun k=> k < W.heap.size) w w'->K (a.put o.dst v) w')->wpOp P l.toArray Q ld K a w
structure zni (W:World) (x:zd0) (K1:World->Prop) (size:Nat) (aF a:Act) (w:World) (M:Nat):Prop where
 state:a=vput (decide (x.al < size)) x.d M aF
 big:W.heap.size<=w.heap.size
 k1:K1 w
 one:x.al < size->W.heap.size<=M/\w.heap[M]?=some (.cells x.val x.t (0,0))
theorem yf2(hf:zrg l.toArray x ld=true)(bc:Region.noSelect l.toArray=true)(hx:x.al<l.toArray.size->ze2 P l Q aF x)(D:x.al≠x.st/\x.al≠ld/\x.st≠ld/\x.src≠x.d)
  (T:ld<l.toArray.size/\(x.al<l.toArray.size↔x.st<l.toArray.size)) (bg:x.so≠x.al/\x.so≠x.st) (c6:x.al<l.toArray.size->x.so≠ld)
  (b0:zn6 W K0) (b1:zn6 W K1) {ts:List Nat} (hw:zsq l.toArray x ld ts=true) (c8:x.d ∉ ts) (bz:zij P l Q aF W ld v ts K0 K1)
  (b7:∀ a w M,zni W x K1 l.toArray.size aF a w M->Q .normal a w) (n:Nat):∀ (listed:Array Bool) (aQ a:Act) (w:World),listed.size=l.toArray.size->LRel W x ld K0 K1 listed aQ a w->
  (∀ B,K0 B\/K1 B->W.heap.size<=B.heap.size->wpAnyQ P .any (nopM x ld v l).toArray (zhc B) (fun a=>a=aF) n listed aQ)->wpAny P .any l.toArray Q n listed a w:=by
 have kk:∀ {listed aQ a w},LRel W x ld K0 K1 listed aQ a w->K0 w\/K1 w:=fun {listed aQ a w} h=>by
  rcases Bool.eq_false_or_eq_true (listed.getD ld false) with e|e
  ·exact .inr (h.k1 e)
  exact .inl (h.k0 e)
 have fin:∀ (listed:Array Bool) (aQ a:Act) (w:World),listed.size=l.toArray.size->LRel W x ld K0 K1 listed aQ a w->Region.ready .any l.toArray listed= []->aQ=aF->Q .normal a w:=by
  intro listed aQ a w X f r e;have F:∀ i,i<l.toArray.size->listed.getD i false=true:=fun i hi=>by
   have:=yag hf X r (i+1) i (by omega) hi;have G:i<listed.size:=by omega
   simp only[Array.getD_eq_getD_getElem?,Array.getElem?_eq_getElem G,Option.getD_some]at this ⊢;exact this
  obtain⟨M,I,E⟩:=f.there;have hd:listed.getD x.al false=decide (x.al<l.toArray.size):=by
   by_cases hl:x.al<l.toArray.size
   ·rw[F _ hl,decide_eq_true hl]
   rw[decide_eq_false hl];have:listed.size<=x.al:=by omega
   simp[Array.getElem?_eq_none this]
  refine b7 a w M ⟨by rw[I,e,hd],f.size,f.k1 (F _ T.1),fun hl=>?_⟩;obtain⟨k1,J⟩:=E (F _ hl);rw[F _ (T.2.1 hl)]at J;exact⟨k1,by simpa using J⟩
 induction n with
 |zero=>
  intro listed aQ a w X f h;have I:=h w (kk f) f.size;have r:Region.ready .any l.toArray listed= []:=by rw[<-zk0 (x:=x) (ld:=ld) (v:=v)];exact I.1
  exact⟨r,fin listed aQ a w X f r I.2⟩
 |succ n ih=>
  intro listed aQ a w X f h;refine⟨fun r=>fin listed aQ a w X f r ((h w (kk f) f.size).1 (by rw[zk0];exact r)),fun i hi=>?_⟩;have L:i ∈ Region.ready .any (nopM x ld v l).toArray listed:=by rw[zk0];exact hi
  obtain⟨bi,o,H,b2⟩:=mem_ready.1 hi;have G:=zfh bi;have b3:i<l.toArray.size:=(Array.getElem?_eq_some_iff.1 H).1;have U:(listed.setIfInBounds i true).size=l.toArray.size:=by simpa using X
  have g:∀ j,j≠i->(listed.setIfInBounds i true).getD j false=listed.getD j false:=fun j hj=>by rw[gset G,decide_eq_false hj,Bool.false_or]
  have gi:(listed.setIfInBounds i true).getD i false=true:=by rw[gset G,decide_eq_true rfl,Bool.true_or]
  have gf:=getD_both bi;obtain⟨M,I,E⟩:=f.there;by_cases il:i=ld
  ·subst il;obtain⟨o',b8,b6⟩:=bz;rw[H]at b8;obtain rfl:o=o':=Option.some.inj b8;have r:(nopM x i v l).toArray[i]?=some (nopC v o):=by rw[zfv,H];simp[zej]
   have Z:∀ B,K0 B\/K1 B->W.heap.size<=B.heap.size->wpAnyQ P .any (nopM x i v l).toArray (zhc B) (fun a=>a=aF) n (listed.setIfInBounds i true) (aQ.put o.dst v):=fun B Y hs=>by
    obtain⟨u,hy,q⟩:=yieldsIn_of_qOp r ((h B Y hs).2 i L);have hu:u=v:=by
     rcases hy with⟨_,E⟩|⟨E,_⟩
     ·have h3:=E B br;simp only[nopC,Oper.quietAt]at h3;simp[go_sem,zhc]at h3;exact h3.symm
     simp[nopC,Region.wanted]at E
    rw[hu]at q;exact q
   have bq:∀ t ∈ ts,a.eval (.tmp t)=aF.eval (.tmp t):=fun t ht=>by
    have c9:=List.all_eq_true.1 hw t ht
    obtain⟨j,hj,N⟩:=List.any_eq_true.1 c9
    cases hp:l.toArray[j]? with
    |none=>rw[hp]at N;cases N
    |some p=>
     rw[hp]at N
     simp only[H,Bool.and_eq_true,beq_iff_eq,bne_iff_ne,ne_eq]at N
     obtain⟨⟨⟨⟨ba,bv⟩,bu⟩,bw⟩,b4⟩:=N
     have b4:∃ e ∈ o.after,Region.binds .any e=true/\e.on=j:=by
      obtain⟨e,he,hb⟩:=Array.any_eq_true'.1 b4
      simp only[Bool.and_eq_true,beq_iff_eq]at hb
      exact⟨e,he,hb⟩
     obtain⟨e,he,bm,bn⟩:=b4
     have c4:listed.getD j false=true:=by rw[<-bn];exact b2 e he bm
     have bb:x.d≠t:=fun e=>c8 (e ▸ ht)
     have c5:t≠x.d:=fun e=>bb e.symm
     have bk:a.eval (.tmp t)=aQ.eval (.tmp t):=by rw[I,zfk (fun e=>c5 (by injection e))]
     have h3:(nopM x i v l).toArray[j]?=some p:=by
      rw[zfv,hp]
      simp[zej,bv,bu,bw]
     have:=zph h3 ba (zkc hf hp t ba) _ listed aQ c4 (h w (kk f) f.size)
     rw[bk]
     show aQ.tmps.getD t undef=aF.tmps.getD t undef
     rw[Array.getD_eq_getD_getElem?,Array.getD_eq_getD_getElem?,this]
   refine b6 a w _ (f.k0 gf) f.size bq fun w' bx m=>ih _ (aQ.put o.dst v) _ _ U ⟨Nat.le_trans f.size m.size,fun e=>?_,fun _=>bx,by rw[zqv];exact f.fits,?_,⟨M,?_,?_⟩⟩ Z
   ·rw[gi]at e;cases e
   ·rw[g _ D.2.2.1,g _ D.2.1];exact f.first
   ·rw[g _ D.2.1,I,zlz ((zik hf H).loud rfl)]
   intro e;rw[g _ D.2.1]at e;rw[g _ D.2.2.1];obtain⟨k1,J⟩:=E e;exact⟨k1,(m.block M (Array.getElem?_eq_some_iff.1 J).1 (by omega)).trans J⟩
  by_cases ia:i=x.al
  ·subst ia;have O:=hx b3;have r:(nopM x ld v l).toArray[x.al]?=some (nopO o):=by rw[zfv,H];simp[zej,D.2.1]
   have Z:∀ B,K0 B\/K1 B->W.heap.size<=B.heap.size->wpAnyQ P .any (nopM x ld v l).toArray (zhc B) (fun a=>a=aF) n (listed.setIfInBounds x.al true) aQ:=fun B Y hs=>by obtain⟨u,_,q⟩:=yieldsIn_of_qOp r ((h B Y hs).2 _ L);exact q
   have c7:listed.getD x.st false=false:=by
    rcases Bool.eq_false_or_eq_true (listed.getD x.st false) with e|e
    ·have:=f.first e;rw[gf]at this;cases this
    exact e
   have bp:Below w.heap.size w (w.alloc (.cells x.zero x.t (0,0))):=br.alloc lr _;have V:Only (fun k=>W.heap.size<=k) w (w.alloc (.cells x.zero x.t (0,0))):=Only.of_below bp;refine O.make a w _ (ih _ aQ _ _ U ⟨by have:=f.size;simp;omega,fun e=>?_,fun e=>?_,f.fits,fun _=>gi,⟨w.heap.size,?_,fun _=>⟨f.size,?_⟩⟩⟩ Z)
   ·rw[g _ D.2.1.symm]at e;exact b0.far _ _ (f.k0 e) f.size V
   ·rw[g _ D.2.1.symm]at e;exact b1.far _ _ (f.k1 e) f.size V
   ·rw[gi,I,gf];rfl
   rw[g _ D.1.symm,c7,if_neg (by decide)];exact heap_alloc_new w _
  by_cases is:i=x.st
  ·subst is;have O:=hx (T.2.2 b3);have r:(nopM x ld v l).toArray[x.st]?=some (nopO o):=by rw[zfv,H];simp[zej,D.2.2.1]
   have Z:∀ B,K0 B\/K1 B->W.heap.size<=B.heap.size->wpAnyQ P .any (nopM x ld v l).toArray (zhc B) (fun a=>a=aF) n (listed.setIfInBounds x.st true) aQ:=fun B Y hs=>by obtain⟨u,_,q⟩:=yieldsIn_of_qOp r ((h B Y hs).2 _ L);exact q
   obtain⟨S,bf⟩:=O.waits listed hi;obtain⟨k1,J⟩:=E S;rw[gf]at J;simp only[Bool.false_eq_true,if_false]at J;obtain⟨oz,z1,z2⟩:=O.src;have z3:(nopM x ld v l).toArray[x.so]?=some oz:=by rw[zfv,z1];have h4:=c6 (T.2.2 b3);simp[zej,h4,bg.1,bg.2]
   have bh:aQ.eval (.tmp x.src)=aF.eval (.tmp x.src):=by have:=zph z3 z2 (zkc hf z1 _ z2) _ listed aQ bf (h w (kk f) f.size);show aQ.tmps.getD x.src undef=aF.tmps.getD x.src undef;rw[Array.getD_eq_getD_getElem?,Array.getD_eq_getD_getElem?,this]
   have ha:a=aQ.put (some x.d) (vptr M):=by rw[I,S];rfl
   have e1:a.eval (.tmp x.d)=vptr M:=by rw[ha];exact Act.zjo f.fits
   have e2:a.eval (.tmp x.src)=aF.eval (.tmp x.src):=by rw[I,zfk (fun e=>D.2.2.2 (by injection e))];exact bh
   refine O.fill a w _ M e1 e2 J fun w' s m cb=>ih _ aQ _ _ U ⟨by have:=f.size;omega,fun e=>?_,fun e=>?_,f.fits,fun _=>by rw[g _ D.1];exact S,⟨M,?_,fun _=>⟨k1,?_⟩⟩⟩ Z
   ·rw[g _ D.2.2.1.symm]at e;exact b0.far _ _ (f.k0 e) f.size ⟨m.os,m.tape,m.output,m.size,fun k hk b5=>m.block k hk (fun e=>b5 (e ▸ k1))⟩
   ·rw[g _ D.2.2.1.symm]at e;exact b1.far _ _ (f.k1 e) f.size ⟨m.os,m.tape,m.output,m.size,fun k hk b5=>m.block k hk (fun e=>b5 (e ▸ k1))⟩
   ·rw[g _ D.1,S,ha];rfl
   rw[gi];simpa using s
  have b9:z8f x ld i=false:=by simp[z8f,il,ia,is]
  obtain⟨qg,qx,lx⟩:=(zik hf H).quiet b9;have r:(nopM x ld v l).toArray[i]?=some o:=by rw[zfv,H];simp[zej,il,ia,is]
  obtain⟨u,ca,bj⟩:=yieldsIn_of_qOp r ((h w (kk f) f.size).2 i L);have hv:=zqc r (zkc hf H) G bj;have Z:∀ B,K0 B\/K1 B->W.heap.size<=B.heap.size->wpAnyQ P .any (nopM x ld v l).toArray (zhc B) (fun a=>a=aF) n (listed.setIfInBounds i true) (aQ.put o.dst u):=fun B Y hs=>by obtain⟨u2,_,q⟩:=yieldsIn_of_qOp r ((h B Y hs).2 i L);have hu:=zqc r (zkc hf H) G q;rw[hv,<- hu];exact q
  have R:∀ k,Region.wanted o k=true:=fun k=>by unfold Region.wanted;rw[qg]
  have hq:∀ w',zhc w w'->o.quietAt P aQ (zhc w) w' u:=by
   rcases ca with⟨_,E⟩|⟨E,_⟩
   ·exact E
   rw[R]at E;cases E
  have bs:execOp a.eval o=execOp aQ.eval o:=execOp_congr o (fun cs b=>Region.noSelect_spec bc i o cs b H) fun z X=>by rw[I,zfk (zmk lx z X)]
  unfold wpOp;rw[H];simp only[R,if_true];refine .inl (Oper.wp_of_quiet (C:=zhc w) (K:=fun a'=>a'=a.put o.dst u) br (fun a' w' s e=>ih _ (aQ.put o.dst u) _ _ U ⟨Nat.le_trans f.size s.size,fun e=>?_,fun e=>?_,by rw[zqv];exact f.fits,?_,⟨M,?_,?_⟩⟩ Z) ⟨u,fun w' s=>?_,rfl⟩)
  ·rw[g _ (Ne.symm il)]at e;exact b0.far _ _ (f.k0 e) f.size (Only.of_below s)
  ·rw[g _ (Ne.symm il)]at e;exact b1.far _ _ (f.k1 e) f.size (Only.of_below s)
  ·rw[g _ (Ne.symm is),g _ (Ne.symm ia)];exact f.first
  ·rw[g _ (Ne.symm ia),e,I,zlz qx]
  ·intro e2;rw[g _ (Ne.symm ia)]at e2;rw[g _ (Ne.symm is)];obtain⟨k1,J⟩:=E e2;exact⟨k1,(s.block M (Array.getElem?_eq_some_iff.1 J).1).trans J⟩
  have:=hq w' s;unfold Oper.quietAt at *;rw[bs];exact this
def zfq (x:zd0) (ld:Nat) (v:Value):Nat->List Oper->List Oper
 | _, []=> []
 | i,o::r=> zej x ld v i o::zfq x ld v (i + 1) r
theorem zra:∀ (r:List Oper) (i j:Nat),(zfq x ld v i r)[j]?=(r[j]?).map (zej x ld v (i+j))
 | [],_,_=>by simp[zfq]
 |o::r,i,0=>by simp[zfq]
 |o::r,i,j+1=>by
  simp only[zfq,List.getElem?_cons_succ]
  rw[zra r (i+1) j,show i+1+j=i+(j+1) by omega]
theorem yb7:nopM x ld v l=zfq x ld v 0 l:=by
 apply List.ext_getElem?;intro j;rw[zra];simp[nopM,List.getElem?_mapIdx]
theorem zqg{a:Act}{l':List Oper}{ts:List Nat}(G:zfq x ld v 0 l=l')(o:Region.lexB .any l'.toArray=true)(b:zrg l.toArray x ld=true)(n:Region.noSelect l.toArray=true)
  (H:x.al≠x.st/\x.al≠ld/\x.st≠ld/\x.src≠x.d) (p:ld<l.toArray.size/\(x.al<l.toArray.size↔x.st<l.toArray.size)) (s:x.so≠x.al/\x.so≠x.st) (r:x.al<l.toArray.size->x.so≠ld) (I:zsq l.toArray x ld ts=true) (t:x.d ∉ ts) (j:x.d<a.tmps.size)
  (hc:zn6 W K0/\zn6 W K1) (E:K0 W.drew)
  (f:∃ aF,(∀ B,K0 B\/K1 B->W.heap.size<=B.heap.size->wpQuiet P l'.toArray (fun w'=>∃ e:Ext B,w'=e.w) (fun D=>D=aF) l' a)/\(x.al<l.toArray.size->ze2 P l Q aF x)/\zij P l Q aF W ld v ts K0 K1/\
   ∀ a w M,zni W x K1 l.toArray.size aF a w M->Q .normal a w):wpAny P .any l.toArray Q l.toArray.size (Array.replicate l.toArray.size false) a W.drew:=by
 subst G;obtain⟨aF,h,J,q,i⟩:=f;rw[<-yb7]at o h;simp only[Region.lexB,Bool.and_eq_true]at o;have m:(nopM x ld v l).length=l.toArray.size:=by simp[nopM]
 refine yf2 (W:=W.drew) (K0:=K0) (K1:=K1) b n J H p s r ⟨hc.1.far⟩ ⟨hc.2.far⟩ I t q (fun a w M b=>i a w M ⟨b.state,b.big,b.k1,b.one⟩) l.toArray.size _ a a _ (by simp) ⟨Nat.le_refl _,fun _=>E,fun e=>?_,j,fun e=>?_,⟨0,?_,fun e=>?_⟩⟩ fun B hb hs=>?_
 ·rw[getD_replicate_false]at e;cases e
 ·rw[getD_replicate_false]at e;cases e
 ·rw[getD_replicate_false];rfl
 ·rw[getD_replicate_false]at e;cases e
 have z:=h B hb hs;rw[<-zsj]at z
 have:=wpAnyQ_lex (C:=zhc B) (md:= .any) o.1 (nopM x ld v l) 0 (Array.replicate l.toArray.size false) a (by simp) (by
  have F:=o.2
  simpa[nopM] using F) z
 rw[m]at this;exact this
theorem zcl{E:Nat}{a:Act}{l':List Oper}{ts:List Nat}(z:P.follows .mixedOrders=true)(t:zfq x ld v 0 l=l')(r:Region.lexB .any l'.toArray=true)(s:zrg l.toArray x ld=true)(i:Region.noSelect l.toArray=true)
  (C:x.al≠x.st/\x.al≠ld/\x.st≠ld/\x.src≠x.d) (j:ld<l.toArray.size/\(x.al<l.toArray.size↔x.st<l.toArray.size)) (n:x.so≠x.al/\x.so≠x.st) (m:x.al<l.toArray.size->x.so≠ld) (D:zsq l.toArray x ld ts=true) (o:x.d ∉ ts) (f:x.d<a.tmps.size)
  (hc:zn6 W K0/\zn6 W K1) (q:K0 W.drew)
  (b:∃ aF,(∀ B,K0 B\/K1 B->W.heap.size<=B.heap.size->wpQuiet P l'.toArray (fun w'=>∃ e:Ext B,w'=e.w) (fun p=>p=aF) l' a)/\(x.al<l.toArray.size->ze2 P l Q aF x)/\zij P l Q aF W ld v ts K0 K1/\
   ∀ a w M,zni W x K1 l.toArray.size aF a w M->Q .normal a w):(Code.region E l.toArray true).wp P Q a W:=by
 exact wp_region_any z (zqg t r s i C j n m D o f hc q b)
def zbb (d:Nat):zd0:=⟨1000,1001,1002,d,d + 1,0, #[], #[]⟩
end

theorem zcz{P:Program}{l:List Oper}{Q:Exit->Act->World->Prop}{aF:Act}{W:World}{ld:Nat}{v:Value}{ts:List Nat}{K0 K1:World->Prop}{f:FuncId}{dst:Option Tmp}{i:Array TypeId}{q:TypeId}{pos:String}{n:Array Edge}
  (o:l.toArray[ld]?=some { dst:=dst,op:= .call { callee:= .value (.func f),args:=(ts.map Operand.tmp).toArray,argTypes:=i},type:=q,pos:=pos,after:=n,guard:=none})
  (j:∀ args w,(callFunc f args).run P w= .ok (.enter f args) w)
  (s:∀ w,K0 w->W.heap.size<=w.heap.size->Calls P f (ts.map fun t=>aF.eval (.tmp t)).toArray w fun r w'=>r= .returned v/\K1 w'/\Only (fun k=>k<W.heap.size) w w'):zij P l Q aF W ld v ts K0 K1:=by
 refine⟨_,o,fun a w K C hs B z=>?_⟩;unfold wpOp;rw[o];simp only[Region.wanted,if_true];left;have b:((ts.map Operand.tmp).toArray).map a.eval=(ts.map fun t=>aF.eval (.tmp t)).toArray:=by simp only[List.map_toArray,List.map_map];congr 1;exact List.map_congr_left fun t D=>B t D
 have p:=s w C hs;rw[<-b]at p;have m:(execOp a.eval { dst:=dst,op:= .call { callee:= .value (.func f),args:=(ts.map Operand.tmp).toArray,argTypes:=i},type:=q,pos:=pos,after:=n,guard:=none}).run P w= .ok (.enter f (((ts.map Operand.tmp).toArray).map a.eval)) w:=by have:=j (((ts.map Operand.tmp).toArray).map a.eval) w;simp only[List.map_toArray,List.map_map]at this;simp[go_sem,this]
 unfold Oper.wp;rw[m,Oper.upon_enter];refine p.mono ?_;rintro r w' ⟨rfl,k1,E⟩;exact z w' k1 E
end

end Go.Proofs.YtkbddndcegpllaaGreat

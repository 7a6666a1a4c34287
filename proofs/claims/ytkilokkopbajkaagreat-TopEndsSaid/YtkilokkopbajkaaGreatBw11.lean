
import Derived.Test.YtkilokkopbajkaaGreatBw1

set_option linter.all false
namespace Go.Proofs.YtkilokkopbajkaaGreat

open RowKit

structure TB where
 al:Nat
 st:Nat
 so:Nat
 d:Nat
 src:Nat
 t:TypeId
 zero:Array Value
 val:Array Value
def vptr (N:Nat):Value:=.pointer (some ⟨N,0,.none⟩)
def vput (b:Bool) (d N:Nat) (a:Act):Act:=if b=true then a.put (some d) (vptr N) else a
def TB.lies (x:TB) (W w:World) (listed:Array Bool) (N:Nat):Prop:=
 listed.getD x.al false=true->W.heap.size<=N/\w.heap[N]?=some (.cells (if listed.getD x.st false=true then x.val else x.zero) x.t (0,0))
structure fG (W:World) (x y:TB) (listed:Array Bool) (aQ a:Act) (w:World):Prop where
 below:Below W.heap.size W w
 fits:x.d<aQ.tmps.size/\y.d<aQ.tmps.size
 firsts:(listed.getD x.st false=true->listed.getD x.al false=true)/\(listed.getD y.st false=true->listed.getD y.al false=true)
 there:∃M N,a=vput (listed.getD x.al false) x.d M (vput (listed.getD y.al false) y.d N aQ)/\x.lies W w listed M/\y.lies W w listed N/\(listed.getD x.al false=true->listed.getD y.al false=true->M≠N)
def zD (w:World):World->Prop:=λw'=>Below w.heap.size w w'
def ownB (x y:TB) (i:Nat):Bool:=i==x.al||i==x.st||i==y.al||i==y.st
def nopO (o:Oper):Oper:={o with op:=.move (.const undef),dst:=none,guard:=none}
def nopL (x y:TB) (l:List Oper):List Oper:=l.mapIdx λi o=>if ownB x y i=true then nopO o else o
def FJ (ops:Array Oper) (x y:TB):Bool:=
 (List.range ops.size).all λi=>match ops[i]? with
  |some o=>(o.after.all λe=>!Region.binds .any e||decide (e.on<i))&&(ownB x y i||(o.guard.isNone&&o.dst !=some x.d&&o.dst !=some y.d && !(o.looksAt ops).contains x.d && !(o.looksAt ops).contains y.d)) &&
    ((List.range ops.size).all λj=>match ops[j]? with|some p=>i==j||o.dst.isNone||o.dst !=p.dst|none=>true)
  |none=>true
theorem Act.CU{a:Act}{d:Tmp}{v:Value}(h:d<a.tmps.size):(a.put (some d) v).eval (.tmp d)=v:=by
 show (a.tmps.setIfInBounds d v).getD d undef=v;simp[h]
theorem HM{b:Bool}{d N:Nat}{a:Act}{t:Option Tmp}{v:Value}(h:t≠some d):(vput b d N a).put t v=vput b d N (a.put t v):=by
 unfold vput;split
 .exact Act.put_comm a _ _ λe f i=>h (by rw[i,<- f])
 rfl
theorem XH{b:Bool}{d N:Nat}{a:Act}{x:Operand}(h:x≠.tmp d):(vput b d N a).eval x=a.eval x:=by
 unfold vput;split
 .exact Act.eval_put λe f i=>h (by rw[i];injection f with f;rw[f])
 rfl
section

variable {P:Program}{ops ops':Array Oper}{md:Region.Mode}{aF:Act}{W:World}{Q:Exit->Act->World->Prop}

theorem TM{C:World->Prop}{i t:Nat}{o:Oper}(hi:ops'[i]?=some o)(hd:o.dst=some t)(b:∀j p,ops'[j]?=some p->j≠i->p.dst≠some t)(f:Nat):
  ∀(listed:Array Bool) (aQ:Act),listed.getD i false=true->wpAnyQ P md ops' C (λa=>a=aF) f listed aQ->aQ.tmps[t]?=aF.tmps[t]?:=by
 induction f with
 |zero=>intro listed aQ _ h;rw[h.2]
 |succ f D=>
  intro listed aQ s h
  cases hr:Region.ready md ops' listed with
  |nil=>rw[h.1 hr]
  |cons j E=>
   have r:j∈Region.ready md ops' listed:=by rw[hr];exact List.mem_cons_self ..
   obtain⟨n,p,z,_⟩:=mem_ready.1 r
   obtain⟨v,_,B⟩:=yieldsIn_of_qOp z (h.2 j r)
   have m:j≠i:=λe=>by
    subst e
    have:=getD_both n
    rw[s]at this;cases this
   have:=D _ _ (getD_set_true s) B
   rw[<-this]
   have q:=b j p z m
   cases hpd:p.dst with
   |none=>rfl
   |some d=>
    have:d≠t:=λe=>q (by rw[hpd,e])
    simp[Act.put,Array.getElem?_setIfInBounds_ne this]
theorem aN{C:World->Prop}{i:Nat}{o:Oper}{v:Value}(hi:ops'[i]?=some o)(b:∀t,o.dst=some t->∀j p,ops'[j]?=some p->j≠i->p.dst≠some t){f:Nat}{listed:Array Bool}{aQ:Act}(hu:i<listed.size)(h:wpAnyQ P md ops' C (λa=>a=aF) f (listed.setIfInBounds i true) (aQ.put o.dst v)):aQ.put o.dst v=aQ.put o.dst ((o.dst.map λt=>aF.tmps.getD t undef).getD undef):=by
 cases hd:o.dst with
 |none=>rfl;|some t=>
  rw[hd]at h;have h1:=TM hi hd (b t hd) f _ _ (by simp[hu]) h;simp only[Option.map_some,Option.getD_some];rcases Nat.lt_or_ge t aQ.tmps.size with m|m
  .have:(aQ.put (some t) v).tmps[t]?=some v:=by simp[Act.put,m]
   rw[this]at h1;rw[Array.getD_eq_getD_getElem?,<- h1];rfl
  simp[Act.put,Array.setIfInBounds_eq_of_size_le m]
end

theorem gset{listed:Array Bool}{i j:Nat}(h:i<listed.size):(listed.setIfInBounds i true).getD j false=(decide (j=i)||listed.getD j false):=by
 by_cases e:j=i
 .subst e;simp[h]
 have b:i≠j:=λf=>e f.symm;simp[Array.getElem?_setIfInBounds_ne b,e]
theorem VJ{listed:Array Bool}{i:Nat}(h:listed.getD i true=false):i<listed.size:=by
 rcases Nat.lt_or_ge i listed.size with h1|h1
 .exact h1
 simp[Array.getElem?_eq_none h1]at h
section

variable {P:Program}{l:List Oper}{md:Region.Mode}{aF:Act}{W:World}{Q:Exit->Act->World->Prop}{x y:TB}

theorem pK(i:Nat):(nopL x y l).toArray[i]?=(l.toArray[i]?).map λo=>if ownB x y i=true then nopO o else o:=by
 simp[nopL,List.getElem?_mapIdx]
theorem QP(listed:Array Bool):Region.ready md (nopL x y l).toArray listed=Region.ready md l.toArray listed:=by
 unfold Region.ready;have hs:(nopL x y l).toArray.size=l.toArray.size:=by simp[nopL]
 rw[hs];apply List.filter_congr;intro i _;rw[pK];congr 1;cases l.toArray[i]? with
 |none=>rfl;|some o=>simp only[Option.map_some,Option.getD_some];split<;>rfl
structure yef (l:List Oper) (x y:TB) (i:Nat) (o:Oper):Prop where
 low:∀e∈o.after,Region.binds .any e=true->e.on<i
 quiet:ownB x y i=false->o.guard=none/\o.dst≠some x.d/\o.dst≠some y.d/\x.d ∉ o.looksAt l.toArray/\y.d ∉ o.looksAt l.toArray
 dist:∀t,o.dst=some t->∀j p,l.toArray[j]?=some p->j≠i->p.dst≠some t
theorem GP(h:FJ l.toArray x y=true){i:Nat}{o:Oper}(hi:l.toArray[i]?=some o):yef l x y i o:=by
 have q:i<l.toArray.size:=(jE hi);have h1:=List.all_eq_true.1 h i (List.mem_range.2 q);simp only[hi,jC,Bool.or_eq_true]at h1;obtain⟨⟨h2,h3⟩,h4⟩:=h1;refine⟨λe z m=>?_,λf=>?_,λt B j p s r=>?_⟩
 .have:=(Array.all_eq_true_iff_forall_mem.1 h2) e z;simpa[m] using this
 .rw[f]at h3;simp only[Bool.false_eq_true,false_or,bne_iff_ne,ne_eq,Bool.not_eq_true',Option.isNone_iff_eq_none,List.contains_eq_mem,decide_eq_false_iff_not]at h3;exact⟨h3.1.1.1.1,h3.1.1.1.2,h3.1.1.2,h3.1.2,h3.2⟩
 have n:j<l.toArray.size:=(jE s);have b:=List.all_eq_true.1 h4 j (List.mem_range.2 n);simp only[s,B,Bool.or_eq_true,beq_iff_eq,bne_iff_ne,ne_eq,Option.isNone_some,Bool.false_eq_true,or_false]at b;rcases b with b|b
 .exact absurd b.symm r
 exact λe=>b e.symm
structure ZE (P:Program) (l:List Oper) (Q:Exit->Act->World->Prop) (aF:Act) (x:TB):Prop where
 make:∀a w K,K (a.put (some x.d) (vptr w.heap.size)) (w.alloc (.cells x.zero x.t (0,0)))->wpOp P l.toArray Q x.al K a w
 fill:∀a w K M,a.eval (.tmp x.d)=vptr M->a.eval (.tmp x.src)=aF.eval (.tmp x.src)->w.heap[M]?=some (.cells x.zero x.t (0,0))->
  (∀w',w'.heap[M]?=some (.cells x.val x.t (0,0))->Only (λk=>k=M) w w'->w'.heap.size=w.heap.size->K a w')->wpOp P l.toArray Q x.st K a w
 waits:∀listed,x.st∈Region.ready .any l.toArray listed->listed.getD x.al false=true/\listed.getD x.so false=true
 src:∃o,l.toArray[x.so]?=some o/\o.dst=some x.src
structure FH (x y:TB):Prop where
 n1:x.al≠x.st
 n2:x.al≠y.al
 n3:x.al≠y.st
 n4:x.st≠y.al
 n5:x.st≠y.st
 n6:y.al≠y.st
 d1:x.d≠y.d
 d2:x.src≠x.d
 d3:x.src≠y.d
 d4:y.src≠x.d
 d5:y.src≠y.d
theorem FH.symm(h:FH x y):FH y x:=⟨h.n6,h.n2.symm,h.n4.symm,h.n3.symm,h.n5.symm,h.n1,h.d1.symm,h.d5,h.d4,h.d3,h.d2⟩
theorem z0g{b c:Bool}{d e M N:Nat}{a:Act}(h:d≠e):vput b d M (vput c e N a)=vput c e N (vput b d M a):=by
 unfold vput;cases b<;>cases c<;>simp;exact Act.put_comm a _ _ λu hu f=>h (by injection hu with hu;injection f with f;omega)
theorem fG.symm{listed:Array Bool}{aQ a:Act}{w:World}(b:FH x y)(h:fG W x y listed aQ a w):fG W y x listed aQ a w:=by
 obtain⟨M,N,h1,h2,h3,h4⟩:=h.there;exact⟨h.below,h.fits.symm,h.firsts.symm,N,M,by rw[h1,z0g b.d1],h3,h2,λu v=>(h4 v u).symm⟩
theorem z7g{listed:Array Bool}{aQ a:Act}{w:World}(i:FH x y)(hs:ZE P l Q aF x)(h:fG W x y listed aQ a w)(hu:listed.getD x.al true=false):
  wpOp P l.toArray Q x.al (λq w'=>fG W x y (listed.setIfInBounds x.al true) aQ q w') a w:=by
 have b:=VJ hu;have o:=getD_both hu;obtain⟨M,N,h1,h2,h3,h4⟩:=h.there;have j:listed.getD x.st false=false:=by
  rcases jB (listed.getD x.st false) with e|e
  .have:=h.firsts.1 e;rw[o]at this;cases this
  exact e
 have f:(listed.setIfInBounds x.al true).getD y.al false=listed.getD y.al false:=by rw[gset b,jF i.n2.symm,Bool.false_or]
 have m:(listed.setIfInBounds x.al true).getD x.st false=false:=by rw[gset b,jF i.n1.symm,Bool.false_or];exact j
 have n:(listed.setIfInBounds x.al true).getD y.st false=listed.getD y.st false:=by rw[gset b,jF i.n3.symm,Bool.false_or]
 have r:(listed.setIfInBounds x.al true).getD x.al false=true:=by rw[gset b,jT rfl,Bool.true_or]
 refine hs.make a w _ ⟨h.below.alloc h.below.size _,h.fits,⟨λe=>(by rw[m]at e;cases e),λe=>(by rw[f];rw[n]at e;exact h.firsts.2 e)⟩,⟨w.heap.size,N,?_,λ_=>⟨h.below.size,?_⟩,λe=>?_,λ_ e=>?_⟩⟩
 .rw[r,f,h1,o];rfl
 .rw[m,jN (by decide)];exact jA w _
 .rw[f]at e;obtain⟨k1,p⟩:=h3 e;rw[n];refine⟨k1,?_⟩;have:N<w.heap.size:=(jE p);rw[Below.heap_alloc _ _ _ this];exact p
 rw[f]at e;have:N<w.heap.size:=(Array.getElem?_eq_some_iff.1 (h3 e).2).1;omega
theorem z6q{listed:Array Bool}{aQ a:Act}{w:World}(n:FH x y)(hs:ZE P l Q aF x)(h:fG W x y listed aQ a w)(hu:x.st∈Region.ready .any l.toArray listed)(i:aQ.eval (.tmp x.src)=aF.eval (.tmp x.src)):
  wpOp P l.toArray Q x.st (λC w'=>fG W x y (listed.setIfInBounds x.st true) aQ C w') a w:=by
 have j:=(mem_ready.1 hu).1;have f:=VJ j;have H:=getD_both j;obtain⟨b,I⟩:=hs.waits listed hu;obtain⟨M,N,h1,h2,h3,h4⟩:=h.there;obtain⟨k1,o⟩:=h2 b;rw[H]at o;simp only[Bool.false_eq_true,if_false]at o;have s:(listed.setIfInBounds x.st true).getD x.al false=true:=by rw[gset f,b,Bool.or_true]
 have E:(listed.setIfInBounds x.st true).getD x.st false=true:=by rw[gset f,jT rfl,Bool.true_or]
 have m:(listed.setIfInBounds x.st true).getD y.al false=listed.getD y.al false:=by rw[gset f,jF n.n4.symm,Bool.false_or]
 have r:(listed.setIfInBounds x.st true).getD y.st false=listed.getD y.st false:=by rw[gset f,jF n.n5.symm,Bool.false_or]
 have G:a=(vput (listed.getD y.al false) y.d N aQ).put (some x.d) (vptr M):=by rw[h1,b];rfl
 have q:x.d<(vput (listed.getD y.al false) y.d N aQ).tmps.size:=by
  have:(vput (listed.getD y.al false) y.d N aQ).tmps.size=aQ.tmps.size:=by unfold vput;split<;>simp[Act.put]
  rw[this];exact h.fits.1
 have D:a.eval (.tmp x.d)=vptr M:=by rw[G];exact Act.CU q
 have p:a.eval (.tmp x.src)=aF.eval (.tmp x.src):=by rw[h1,XH (λe=>n.d2 (by injection e)),XH (λe=>n.d3 (by injection e))];exact i
 refine hs.fill a w _ M D p o λw' J t R=>?_;have O:M<w.heap.size:=(jE o);have hb:Below W.heap.size W w':=h.below.trans (t.below (B:=W.heap.size) h.below.size λk e=>e▸k1);refine⟨hb,h.fits,⟨λ_=>s,λe=>(by rw[m];rw[r]at e;exact h.firsts.2 e)⟩,⟨M,N,?_,λ_=>⟨k1,?_⟩,λe=>?_,λ_ e=>?_⟩⟩
 .rw[s,m,h1,b]
 .rw[E];simpa using J
 .rw[m]at e;obtain⟨L,z⟩:=h3 e;rw[r];refine⟨L,?_⟩;have F:N<w.heap.size:=(jE z);rw[t.block N F (λp=>h4 b e p.symm)];exact z
 rw[m]at e;exact h4 b e
theorem tQ{a:Act}{t:Option Tmp}{v:Value}:(a.put t v).tmps.size=a.tmps.size:=by cases t<;>simp[Act.put]
theorem IP{ops:Array Oper}{o:Oper}{d:Nat}(h:d ∉ o.looksAt ops):∀z∈o.op.operands,z≠.tmp d:=by
 intro z b e;subst e;refine h (List.mem_append_left _ (List.mem_filterMap.2 ⟨.tmp d,by simpa using b,rfl⟩))
theorem z2g{W w w':World}(h:Below W.heap.size W w)(k:Below w.heap.size w w'):Below W.heap.size W w':=
 ⟨k.os.trans h.os,k.tape.trans h.tape,k.output.trans h.output,Nat.le_trans h.size k.size,λi hi=>(k.block i (Nat.lt_of_lt_of_le hi h.size)).trans (h.block i hi)⟩
theorem all_in(r:FJ l.toArray x y=true){listed:Array Bool}(z:listed.size=l.toArray.size)(h:Region.ready .any l.toArray listed=[]):∀n i,i<n->i<l.toArray.size->listed.getD i true=true:=by
 intro n;induction n with
 |zero=>intro i hi;omega;|succ n t=>
  intro i hi s;rcases jB (listed.getD i true) with e|e
  .exact e
  have p:l.toArray[i]?=some l.toArray[i]:=Array.getElem?_eq_getElem s
  have o:i∈Region.ready .any l.toArray listed:=mem_ready.2 ⟨e,_,p,λb q f=>by
   have m:=(GP r p).low b q f
   have:=t b.on (by omega) (by omega)
   have j:b.on<listed.size:=by omega
   simp only[Array.getD_eq_getD_getElem?,Array.getElem?_eq_getElem j,Option.getD_some]at this|-
   exact this⟩
  rw[h]at o;cases o
theorem iQ(m:FJ l.toArray x y=true){i:Nat}{o:Oper}(hi:l.toArray[i]?=some o):∀t,o.dst=some t->∀j p,(nopL x y l).toArray[j]?=some p->j≠i->p.dst≠some t:=by
 intro t n j p b f;rw[pK]at b;cases hq:l.toArray[j]? with
 |none=>rw[hq]at b;cases b;|some q=>
  rw[hq]at b;simp only[Option.map_some,Option.some.injEq]at b;subst b;split
  .exact λe=>by cases e
  exact(GP m hi).dist t n j q hq f
theorem zZ{C:World->Prop}{i:Nat}{K:Act->Prop}{aQ:Act}(b:ownB x y i=true)(hi:∃o,l.toArray[i]?=some o)(h:qOp P (nopL x y l).toArray C i K aQ):K aQ:=by
 obtain⟨o,j⟩:=hi;have h0:(nopL x y l).toArray[i]?=some (nopO o):=by rw[pK,j];simp[b]
 obtain⟨v,_,f⟩:=yieldsIn_of_qOp h0 h;exact f
theorem z1u{listed:Array Bool}{aQ a m:Act}{w w':World}{i:Nat}{t:Option Tmp}{v:Value}(hu:i<listed.size)(h:fG W x y listed aQ a w)(b:ownB x y i=false)(r:t≠some x.d)(s:t≠some y.d)(hb:Below w.heap.size w w') (o:m=a.put t v):fG W x y (listed.setIfInBounds i true) (aQ.put t v) m w':=by
 simp only[ownB,Bool.or_eq_false_iff,beq_eq_false_iff_ne,ne_eq]at b;obtain⟨⟨⟨n1,n2⟩,n3⟩,n4⟩:=b;have g:∀j,j≠i->(listed.setIfInBounds i true).getD j false=listed.getD j false:=λj p=>by rw[gset hu,jF p,Bool.false_or]
 obtain⟨M,N,h1,h2,h3,h4⟩:=h.there;have f:∀(z:TB) (R:Nat),z.al≠i->z.st≠i->z.lies W w listed R->z.lies W w' (listed.setIfInBounds i true) R:=λz R B C q e=>by rw[g _ B]at e;rw[g _ C];obtain⟨k1,n⟩:=q e;exact⟨k1,(hb.block R (jE n)).trans n⟩
 refine⟨z2g h.below hb,by rw[tQ];exact h.fits,?_,⟨M,N,?_,f x M (Ne.symm n1) (Ne.symm n2) h2,f y N (Ne.symm n3) (Ne.symm n4) h3,?_⟩⟩
 .rw[g _ (Ne.symm n1),g _ (Ne.symm n2),g _ (Ne.symm n3),g _ (Ne.symm n4)];exact h.firsts
 .rw[g _ (Ne.symm n1),g _ (Ne.symm n3),o,h1,HM r,HM s]
 rw[g _ (Ne.symm n1),g _ (Ne.symm n3)];exact h4
def nopF (x y:TB):Nat->List Oper->List Oper
 |_,[]=>[]
 |i,o::r=>(if ownB x y i=true then nopO o else o)::nopF x y (i+1) r
theorem FX:∀(r:List Oper) (i j:Nat),(nopF x y i r)[j]?=(r[j]?).map λo=>if ownB x y (i+j)=true then nopO o else o
 | [],_,_=>by simp[nopF]
 |o::r,i,0=>by simp[nopF]
 |o::r,i,j+1=>by
  simp only[nopF,List.getElem?_cons_succ]
  rw[FX r (i+1) j,show i+1+j=i+(j+1) by omega]
theorem CZ:nopL x y l=nopF x y 0 l:=by
 apply List.ext_getElem?;intro j;rw[FX];simp[nopL,List.getElem?_mapIdx]
theorem RW{B:World}:zD B=λw'=>∃e:Ext B,w'=e.w:=by
 funext w';exact propext ⟨λh=>⟨⟨w',h⟩,rfl⟩,λ⟨e,h⟩=>h▸e.below⟩
end

def nopC (v:Value) (o:Oper):Oper:={o with op:=.move (.const v),guard:=none}
def BL (x:TB) (ld i:Nat):Bool:=i==x.al||i==x.st||i==ld
def TC (x:TB) (ld:Nat) (v:Value) (i:Nat) (o:Oper):Oper:=if i==ld then nopC v o else if i==x.al||i==x.st then nopO o else o
def nopM (x:TB) (ld:Nat) (v:Value) (l:List Oper):List Oper:=l.mapIdx (TC x ld v)
def ZG (ops:Array Oper) (x:TB) (ld:Nat):Bool:=
 (List.range ops.size).all λi=>match ops[i]? with
  |some o=>(o.after.all λe=>!Region.binds .any e||decide (e.on<i))&&(BL x ld i||(o.guard.isNone&&o.dst !=some x.d && !(o.looksAt ops).contains x.d))&&(i !=ld||o.dst !=some x.d) &&
    ((List.range ops.size).all λj=>match ops[j]? with|some p=>i==j||o.dst.isNone||o.dst !=p.dst|none=>true)
  |none=>true
def eJ (ops:Array Oper) (x:TB) (ld:Nat) (ts:List Nat):Bool:=
 ts.all λt=>(List.range ops.size).any λj=>match ops[j]? with
  |some o=>o.dst==some t&&j !=ld&&j !=x.al&&j !=x.st&&(match ops[ld]? with|some p=>p.after.any λe=>Region.binds .any e&&e.on==j|none=>false)
  |none=>false
section

variable {P:Program}{l:List Oper}{md:Region.Mode}{aF:Act}{W:World}{Q:Exit->Act->World->Prop}{x:TB}{ld:Nat}{v:Value}{K0 K1:World->Prop}

theorem sH(i:Nat):(nopM x ld v l).toArray[i]?=(l.toArray[i]?).map (TC x ld v i):=by
 simp[nopM,List.getElem?_mapIdx]
theorem zt1(i:Nat)(o:Oper):(TC x ld v i o).after=o.after:=by unfold TC;split<;>(try split)<;>rfl
theorem zzy(i:Nat)(o:Oper):(TC x ld v i o).dst=o.dst\/(TC x ld v i o).dst=none:=by unfold TC;split<;>(try split)<;>first|exact .inl rfl|exact .inr rfl
theorem yP(listed:Array Bool):Region.ready md (nopM x ld v l).toArray listed=Region.ready md l.toArray listed:=by
 unfold Region.ready;have hs:(nopM x ld v l).toArray.size=l.toArray.size:=by simp[nopM]
 rw[hs];apply List.filter_congr;intro i _;rw[sH];congr 1;cases l.toArray[i]? with
 |none=>rfl
 |some o=>simp only[Option.map_some,Option.getD_some,zt1]
structure ygz (l:List Oper) (x:TB) (ld i:Nat) (o:Oper):Prop where
 low:∀e∈o.after,Region.binds .any e=true->e.on<i
 quiet:BL x ld i=false->o.guard=none/\o.dst≠some x.d/\x.d ∉ o.looksAt l.toArray
 loud:i=ld->o.dst≠some x.d
 dist:∀t,o.dst=some t->∀j p,l.toArray[j]?=some p->j≠i->p.dst≠some t
theorem XL(h:ZG l.toArray x ld=true){i:Nat}{o:Oper}(hi:l.toArray[i]?=some o):ygz l x ld i o:=by
 have r:i<l.toArray.size:=(jE hi);have h1:=List.all_eq_true.1 h i (List.mem_range.2 r);simp only[hi,jC,Bool.or_eq_true]at h1;obtain⟨⟨⟨h2,h3⟩,m⟩,h4⟩:=h1;refine⟨λe B n=>?_,λf=>?_,λe=>?_,λt C j p z s=>?_⟩
 .have:=(Array.all_eq_true_iff_forall_mem.1 h2) e B;simpa[n] using this
 .rw[f]at h3;simp only[Bool.false_eq_true,false_or,bne_iff_ne,ne_eq,Bool.not_eq_true',Option.isNone_iff_eq_none,List.contains_eq_mem,decide_eq_false_iff_not]at h3;exact⟨h3.1.1,h3.1.2,h3.2⟩
 .subst e;simpa using m
 have q:j<l.toArray.size:=(jE z);have b:=List.all_eq_true.1 h4 j (List.mem_range.2 q);simp only[z,C,Bool.or_eq_true,beq_iff_eq,bne_iff_ne,ne_eq,Option.isNone_some,Bool.false_eq_true,or_false]at b;rcases b with b|b
 .exact absurd b.symm s
 exact λe=>b e.symm
theorem yY(r:ZG l.toArray x ld=true){listed:Array Bool}(z:listed.size=l.toArray.size)(h:Region.ready .any l.toArray listed=[]):∀n i,i<n->i<l.toArray.size->listed.getD i true=true:=by
 intro n;induction n with
 |zero=>intro i hi;omega;|succ n t=>
  intro i hi s;rcases jB (listed.getD i true) with e|e
  .exact e
  have p:l.toArray[i]?=some l.toArray[i]:=Array.getElem?_eq_getElem s
  have o:i∈Region.ready .any l.toArray listed:=mem_ready.2 ⟨e,_,p,λb q f=>by
   have m:=(XL r p).low b q f
   have:=t b.on (by omega) (by omega)
   have j:b.on<listed.size:=by omega
   simp only[Array.getD_eq_getD_getElem?,Array.getElem?_eq_getElem j,Option.getD_some]at this|-
   exact this⟩
  rw[h]at o;cases o
theorem nM(m:ZG l.toArray x ld=true){i:Nat}{o:Oper}(hi:l.toArray[i]?=some o):∀t,o.dst=some t->∀j p,(nopM x ld v l).toArray[j]?=some p->j≠i->p.dst≠some t:=by
 intro t n j p b f;rw[sH]at b;cases hq:l.toArray[j]? with
 |none=>rw[hq]at b;cases b;|some q=>
  rw[hq]at b;simp only[Option.map_some,Option.some.injEq]at b;subst b;rcases zzy (x:=x) (ld:=ld) (v:=v) j q with e|e<;>rw[e]
  .exact(XL m hi).dist t n j q hq f
  exact λe=>by cases e
structure LRel (W:World) (x:TB) (ld:Nat) (K0 K1:World->Prop) (listed:Array Bool) (aQ a:Act) (w:World):Prop where
 size:W.heap.size<=w.heap.size
 k0:listed.getD ld false=false->K0 w
 k1:listed.getD ld false=true->K1 w
 fits:x.d<aQ.tmps.size
 first:listed.getD x.st false=true->listed.getD x.al false=true
 there:∃M,a=vput (listed.getD x.al false) x.d M aQ/\x.lies W w listed M
structure NF (W:World) (K:World->Prop):Prop where
 far:∀Y Y',K Y->W.heap.size<=Y.heap.size->Only (λk=>W.heap.size<=k) Y Y'->K Y'
def gI (P:Program) (l:List Oper) (Q:Exit->Act->World->Prop) (aF:Act) (W:World) (ld:Nat) (v:Value) (ts:List Nat) (K0 K1:World->Prop):Prop:=
 ∃o,l.toArray[ld]?=some o/\∀a w K,K0 w->W.heap.size<=w.heap.size->(∀t∈ts,a.eval (.tmp t)=aF.eval (.tmp t))->(∀w',K1 w'->Only (λk=>k<W.heap.size) w w'->K (a.put o.dst v) w')->wpOp P l.toArray Q ld K a w
structure XI (W:World) (x:TB) (K1:World->Prop) (size:Nat) (aF a:Act) (w:World) (M:Nat):Prop where
 state:a=vput (decide (x.al<size)) x.d M aF
 big:W.heap.size<=w.heap.size
 k1:K1 w
 one:x.al<size->W.heap.size<=M/\w.heap[M]?=some (.cells x.val x.t (0,0))
theorem yf2(hf:ZG l.toArray x ld=true)(b9:Region.noSelect l.toArray=true)(hx:x.al<l.toArray.size->ZE P l Q aF x)(s:x.al≠x.st/\x.al≠ld/\x.st≠ld/\x.src≠x.d)(O:ld<l.toArray.size/\(x.al<l.toArray.size↔x.st<l.toArray.size)) (bb:x.so≠x.al/\x.so≠x.st) (bz:x.al<l.toArray.size->x.so≠ld)(X:NF W K0) (Y:NF W K1) {ts:List Nat} (hw:eJ l.toArray x ld ts=true) (c5:x.d ∉ ts) (bv:gI P l Q aF W ld v ts K0 K1)(b4:∀a w M,XI W x K1 l.toArray.size aF a w M->Q .normal a w) (n:Nat):∀(listed:Array Bool) (aQ a:Act) (w:World),listed.size=l.toArray.size->LRel W x ld K0 K1 listed aQ a w->(∀B,K0 B\/K1 B->W.heap.size<=B.heap.size->wpAnyQ P .any (nopM x ld v l).toArray (zD B) (λa=>a=aF) n listed aQ)->wpAny P .any l.toArray Q n listed a w:=by
 have kk:∀{listed aQ a w},LRel W x ld K0 K1 listed aQ a w->K0 w\/K1 w:=λ{listed aQ a w} h=>by
  rcases jB (listed.getD ld false) with e|e
  .exact .inr (h.k1 e)
  exact .inl (h.k0 e)
 have fin:∀(listed:Array Bool) (aQ a:Act) (w:World),listed.size=l.toArray.size->LRel W x ld K0 K1 listed aQ a w->Region.ready .any l.toArray listed=[]->aQ=aF->Q .normal a w:=by
  intro listed aQ a w T f h0 e;have D:∀i,i<l.toArray.size->listed.getD i false=true:=λi hi=>by
   have:=yY hf T h0 (i+1) i (by omega) hi;have E:i<listed.size:=by omega
   simp only[Array.getD_eq_getD_getElem?,Array.getElem?_eq_getElem E,Option.getD_some]at this|-;exact this
  obtain⟨M,h1,h2⟩:=f.there;have hd:listed.getD x.al false=decide (x.al<l.toArray.size):=by
   by_cases hl:x.al<l.toArray.size
   .rw[D _ hl,jT hl]
   rw[jF hl];have:listed.size<=x.al:=by omega
   simp[Array.getElem?_eq_none this]
  refine b4 a w M ⟨by rw[h1,e,hd],f.size,f.k1 (D _ O.1),λhl=>?_⟩;obtain⟨k1,G⟩:=h2 (D _ hl);rw[D _ (O.2.1 hl)]at G;exact⟨k1,by simpa using G⟩
 induction n with
 |zero=>
  intro listed aQ a w T f h;have h1:=h w (kk f) f.size;have h0:Region.ready .any l.toArray listed=[]:=by rw[<-yP (x:=x) (ld:=ld) (v:=v)];exact h1.1
  exact⟨h0,fin listed aQ a w T f h0 h1.2⟩
 |succ n ih=>
  intro listed aQ a w T f h;refine⟨λh0=>fin listed aQ a w T f h0 ((h w (kk f) f.size).1 (by rw[yP];exact h0)),λi hi=>?_⟩;have H:i∈Region.ready .any (nopM x ld v l).toArray listed:=by rw[yP];exact hi
  obtain⟨bf,o,F,Z⟩:=mem_ready.1 hi;have E:=VJ bf;have b0:i<l.toArray.size:=(jE F);have R:(listed.setIfInBounds i true).size=l.toArray.size:=by simpa using T
  have g:∀j,j≠i->(listed.setIfInBounds i true).getD j false=listed.getD j false:=λj hj=>by rw[gset E,jF hj,Bool.false_or]
  have gi:(listed.setIfInBounds i true).getD i false=true:=by rw[gset E,jT rfl,Bool.true_or]
  have gf:=getD_both bf;obtain⟨M,h1,h2⟩:=f.there;by_cases il:i=ld
  .subst il;obtain⟨o',b5,b3⟩:=bv;rw[F]at b5;obtain rfl:o=o':=Option.some.inj b5;have h0:(nopM x i v l).toArray[i]?=some (nopC v o):=by rw[sH,F];simp[TC]
   have V:∀B,K0 B\/K1 B->W.heap.size<=B.heap.size->wpAnyQ P .any (nopM x i v l).toArray (zD B) (λa=>a=aF) n (listed.setIfInBounds i true) (aQ.put o.dst v):=λB U hs=>by
    obtain⟨u,hy,q⟩:=yieldsIn_of_qOp h0 ((h B U hs).2 i H);have hu:u=v:=by
     rcases hy with⟨_,h2⟩|⟨h2,_⟩
     .have h3:=h2 B br;simp only[nopC,Oper.quietAt]at h3;simp[go_sem,zD]at h3;exact h3.symm
     simp[nopC,Region.wanted]at h2
    rw[hu]at q;exact q
   have bm:∀t∈ts,a.eval (.tmp t)=aF.eval (.tmp t):=λt ht=>by
    have c6:=List.all_eq_true.1 hw t ht
    obtain⟨j,hj,I⟩:=List.any_eq_true.1 c6
    cases hp:l.toArray[j]? with
    |none=>rw[hp]at I;cases I
    |some p=>
     rw[hp]at I
     simp only[F,jC,beq_iff_eq,bne_iff_ne,ne_eq]at I
     obtain⟨⟨⟨⟨b7,bq⟩,bp⟩,bs⟩,b1⟩:=I
     have b1:∃e∈o.after,Region.binds .any e=true/\e.on=j:=by
      obtain⟨e,he,hb⟩:=Array.any_eq_true'.1 b1
      simp only[jC,beq_iff_eq]at hb
      exact⟨e,he,hb⟩
     obtain⟨e,he,bi,bj⟩:=b1
     have bw:listed.getD j false=true:=by rw[<-bj];exact Z e he bi
     have b8:x.d≠t:=λe=>c5 (e▸ht)
     have bx:t≠x.d:=λe=>b8 e.symm
     have bh:a.eval (.tmp t)=aQ.eval (.tmp t):=by rw[h1,XH (λe=>bx (by injection e))]
     have h3:(nopM x i v l).toArray[j]?=some p:=by
      rw[sH,hp]
      simp[TC,bq,bp,bs]
     have:=TM h3 b7 (nM hf hp t b7) _ listed aQ bw (h w (kk f) f.size)
     rw[bh]
     show aQ.tmps.getD t undef=aF.tmps.getD t undef
     rw[Array.getD_eq_getD_getElem?,Array.getD_eq_getD_getElem?,this]
   refine b3 a w _ (f.k0 gf) f.size bm λw' bu m=>ih _ (aQ.put o.dst v) _ _ R ⟨Nat.le_trans f.size m.size,λe=>?_,λ_=>bu,by rw[tQ];exact f.fits,?_,⟨M,?_,?_⟩⟩ V
   .rw[gi]at e;cases e
   .rw[g _ s.2.2.1,g _ s.2.1];exact f.first
   .rw[g _ s.2.1,h1,HM ((XL hf F).loud rfl)]
   intro e;rw[g _ s.2.1]at e;rw[g _ s.2.2.1];obtain⟨k1,G⟩:=h2 e;exact⟨k1,(m.block M (jE G) (by omega)).trans G⟩
  by_cases ia:i=x.al
  .subst ia;have J:=hx b0;have h0:(nopM x ld v l).toArray[x.al]?=some (nopO o):=by rw[sH,F];simp[TC,s.2.1]
   have V:∀B,K0 B\/K1 B->W.heap.size<=B.heap.size->wpAnyQ P .any (nopM x ld v l).toArray (zD B) (λa=>a=aF) n (listed.setIfInBounds x.al true) aQ:=λB U hs=>by obtain⟨u,_,q⟩:=yieldsIn_of_qOp h0 ((h B U hs).2 _ H);exact q
   have c4:listed.getD x.st false=false:=by
    rcases jB (listed.getD x.st false) with e|e
    .have:=f.first e;rw[gf]at this;cases this
    exact e
   have bk:Below w.heap.size w (w.alloc (.cells x.zero x.t (0,0))):=br.alloc lr _;have S:Only (λk=>W.heap.size<=k) w (w.alloc (.cells x.zero x.t (0,0))):=Only.of_below bk;refine J.make a w _ (ih _ aQ _ _ R ⟨by have:=f.size;simp;omega,λe=>?_,λe=>?_,f.fits,λ_=>gi,⟨w.heap.size,?_,λ_=>⟨f.size,?_⟩⟩⟩ V)
   .rw[g _ s.2.1.symm]at e;exact X.far _ _ (f.k0 e) f.size S
   .rw[g _ s.2.1.symm]at e;exact Y.far _ _ (f.k1 e) f.size S
   .rw[gi,h1,gf];rfl
   rw[g _ s.1.symm,c4,jN (by decide)];exact jA w _
  by_cases is:i=x.st
  .subst is;have J:=hx (O.2.2 b0);have h0:(nopM x ld v l).toArray[x.st]?=some (nopO o):=by rw[sH,F];simp[TC,s.2.2.1]
   have V:∀B,K0 B\/K1 B->W.heap.size<=B.heap.size->wpAnyQ P .any (nopM x ld v l).toArray (zD B) (λa=>a=aF) n (listed.setIfInBounds x.st true) aQ:=λB U hs=>by obtain⟨u,_,q⟩:=yieldsIn_of_qOp h0 ((h B U hs).2 _ H);exact q
   obtain⟨N,ba⟩:=J.waits listed hi;obtain⟨k1,G⟩:=h2 N;rw[gf]at G;simp only[Bool.false_eq_true,if_false]at G;obtain⟨oz,z1,z2⟩:=J.src;have z3:(nopM x ld v l).toArray[x.so]?=some oz:=by rw[sH,z1];have h4:=bz (O.2.2 b0);simp[TC,h4,bb.1,bb.2]
   have bc:aQ.eval (.tmp x.src)=aF.eval (.tmp x.src):=by have:=TM z3 z2 (nM hf z1 _ z2) _ listed aQ ba (h w (kk f) f.size);show aQ.tmps.getD x.src undef=aF.tmps.getD x.src undef;rw[Array.getD_eq_getD_getElem?,Array.getD_eq_getD_getElem?,this]
   have ha:a=aQ.put (some x.d) (vptr M):=by rw[h1,N];rfl
   have e1:a.eval (.tmp x.d)=vptr M:=by rw[ha];exact Act.CU f.fits
   have e2:a.eval (.tmp x.src)=aF.eval (.tmp x.src):=by rw[h1,XH (λe=>s.2.2.2 (by injection e))];exact bc
   refine J.fill a w _ M e1 e2 G λw' r m c8=>ih _ aQ _ _ R ⟨by have:=f.size;omega,λe=>?_,λe=>?_,f.fits,λ_=>by rw[g _ s.1];exact N,⟨M,?_,λ_=>⟨k1,?_⟩⟩⟩ V
   .rw[g _ s.2.2.1.symm]at e;exact X.far _ _ (f.k0 e) f.size ⟨m.os,m.tape,m.output,m.size,λk hk b2=>m.block k hk (λe=>b2 (e▸k1))⟩
   .rw[g _ s.2.2.1.symm]at e;exact Y.far _ _ (f.k1 e) f.size ⟨m.os,m.tape,m.output,m.size,λk hk b2=>m.block k hk (λe=>b2 (e▸k1))⟩
   .rw[g _ s.1,N,ha];rfl
   rw[gi];simpa using r
  have b6:BL x ld i=false:=by simp[BL,il,ia,is]
  obtain⟨qg,qx,lx⟩:=(XL hf F).quiet b6;have h0:(nopM x ld v l).toArray[i]?=some o:=by rw[sH,F];simp[TC,il,ia,is]
  obtain⟨u,c7,bg⟩:=yieldsIn_of_qOp h0 ((h w (kk f) f.size).2 i H);have hv:=aN h0 (nM hf F) E bg;have V:∀B,K0 B\/K1 B->W.heap.size<=B.heap.size->wpAnyQ P .any (nopM x ld v l).toArray (zD B) (λa=>a=aF) n (listed.setIfInBounds i true) (aQ.put o.dst u):=λB U hs=>by obtain⟨u2,_,q⟩:=yieldsIn_of_qOp h0 ((h B U hs).2 i H);have hu:=aN h0 (nM hf F) E q;rw[hv,<- hu];exact q
  have L:∀k,Region.wanted o k=true:=λk=>by unfold Region.wanted;rw[qg]
  have hq:∀w',zD w w'->o.quietAt P aQ (zD w) w' u:=by
   rcases c7 with⟨_,h2⟩|⟨h2,_⟩
   .exact h2
   rw[L]at h2;cases h2
  have bn:execOp a.eval o=execOp aQ.eval o:=execOp_congr o (λcs b=>Region.noSelect_spec b9 i o cs b F) λz T=>by rw[h1,XH (IP lx z T)]
  unfold wpOp;rw[F];simp only[L,if_true];refine .inl (Oper.wp_of_quiet (C:=zD w) (K:=λa'=>a'=a.put o.dst u) br (λa' w' r e=>ih _ (aQ.put o.dst u) _ _ R ⟨Nat.le_trans f.size r.size,λe=>?_,λe=>?_,by rw[tQ];exact f.fits,?_,⟨M,?_,?_⟩⟩ V) ⟨u,λw' r=>?_,rfl⟩)
  .rw[g _ (Ne.symm il)]at e;exact X.far _ _ (f.k0 e) f.size (Only.of_below r)
  .rw[g _ (Ne.symm il)]at e;exact Y.far _ _ (f.k1 e) f.size (Only.of_below r)
  .rw[g _ (Ne.symm is),g _ (Ne.symm ia)];exact f.first
  .rw[g _ (Ne.symm ia),e,h1,HM qx]
  .intro e2;rw[g _ (Ne.symm ia)]at e2;rw[g _ (Ne.symm is)];obtain⟨k1,G⟩:=h2 e2;exact⟨k1,(r.block M (jE G)).trans G⟩
  have:=hq w' r;unfold Oper.quietAt at*;rw[bn];exact this
def LD (x:TB) (ld:Nat) (v:Value):Nat->List Oper->List Oper
 |_,[]=>[]
 |i,o::r=>TC x ld v i o::LD x ld v (i+1) r
theorem eW:∀(r:List Oper) (i j:Nat),(LD x ld v i r)[j]?=(r[j]?).map (TC x ld v (i+j))
 | [],_,_=>by simp[LD]
 |o::r,i,0=>by simp[LD]
 |o::r,i,j+1=>by
  simp only[LD,List.getElem?_cons_succ]
  rw[eW r (i+1) j,show i+1+j=i+(j+1) by omega]
theorem PY:nopM x ld v l=LD x ld v 0 l:=by
 apply List.ext_getElem?;intro j;rw[eW];simp[nopM,List.getElem?_mapIdx]
theorem qQ{a:Act}{l':List Oper}{ts:List Nat}(D:LD x ld v 0 l=l')(o:Region.lexB .any l'.toArray=true)(b:ZG l.toArray x ld=true)(n:Region.noSelect l.toArray=true)(E:x.al≠x.st/\x.al≠ld/\x.st≠ld/\x.src≠x.d) (p:ld<l.toArray.size/\(x.al<l.toArray.size↔x.st<l.toArray.size)) (s:x.so≠x.al/\x.so≠x.st) (r:x.al<l.toArray.size->x.so≠ld) (F:eJ l.toArray x ld ts=true) (t:x.d ∉ ts) (j:x.d<a.tmps.size)(hc:NF W K0/\NF W K1) (h0:K0 W.drew)(f:∃aF,(∀B,K0 B\/K1 B->W.heap.size<=B.heap.size->wpQuiet P l'.toArray (λw'=>∃e:Ext B,w'=e.w) (λz=>z=aF) l' a)/\(x.al<l.toArray.size->ZE P l Q aF x)/\gI P l Q aF W ld v ts K0 K1/\
   ∀a w M,XI W x K1 l.toArray.size aF a w M->Q .normal a w):wpAny P .any l.toArray Q l.toArray.size (Array.replicate l.toArray.size false) a W.drew:=by
 subst D;obtain⟨aF,h,G,q,i⟩:=f;rw[<-PY]at o h;simp only[Region.lexB,jC]at o;have m:(nopM x ld v l).length=l.toArray.size:=by simp[nopM]
 refine yf2 (W:=W.drew) (K0:=K0) (K1:=K1) b n G E p s r ⟨hc.1.far⟩ ⟨hc.2.far⟩ F t q (λa w M b=>i a w M ⟨b.state,b.big,b.k1,b.one⟩) l.toArray.size _ a a _ (by simp) ⟨Nat.le_refl _,λ_=>h0,λe=>?_,j,λe=>?_,⟨0,?_,λe=>?_⟩⟩ λB hb hs=>?_
 .rw[getD_replicate_false]at e;cases e
 .rw[getD_replicate_false]at e;cases e
 .rw[getD_replicate_false];rfl
 .rw[getD_replicate_false]at e;cases e
 have h3:=h B hb hs;rw[<-RW]at h3
 have:=wpAnyQ_lex (C:=zD B) (md:=.any) o.1 (nopM x ld v l) 0 (Array.replicate l.toArray.size false) a (by simp) (by
  have h2:=o.2
  simpa[nopM] using h2) h3
 rw[m]at this;exact this
theorem zcl{D:Nat}{a:Act}{l':List Oper}{ts:List Nat}(t:P.follows .mixedOrders=true)(s:LD x ld v 0 l=l')(q:Region.lexB .any l'.toArray=true)(r:ZG l.toArray x ld=true)(i:Region.noSelect l.toArray=true)(z:x.al≠x.st/\x.al≠ld/\x.st≠ld/\x.src≠x.d) (j:ld<l.toArray.size/\(x.al<l.toArray.size↔x.st<l.toArray.size)) (n:x.so≠x.al/\x.so≠x.st) (m:x.al<l.toArray.size->x.so≠ld) (C:eJ l.toArray x ld ts=true) (o:x.d ∉ ts) (f:x.d<a.tmps.size)(hc:NF W K0/\NF W K1) (h0:K0 W.drew)(b:∃aF,(∀B,K0 B\/K1 B->W.heap.size<=B.heap.size->wpQuiet P l'.toArray (λw'=>∃e:Ext B,w'=e.w) (λp=>p=aF) l' a)/\(x.al<l.toArray.size->ZE P l Q aF x)/\gI P l Q aF W ld v ts K0 K1/\
   ∀a w M,XI W x K1 l.toArray.size aF a w M->Q .normal a w):(Code.region D l.toArray true).wp P Q a W:=by
 exact wp_region_any t (qQ s q r i z j n m C o f hc h0 b)
def MA (d:Nat):TB:=⟨1000,1001,1002,d,d+1,0,#[],#[]⟩
theorem wrl{D:Nat}{a:Act}{l':List Oper}{ts:List Nat}(hc:NF W K0/\NF W K1)(h0:K0 W.drew)(b:∃aF,(∀B,K0 B\/K1 B->W.heap.size<=B.heap.size->wpQuiet P l'.toArray (λw'=>∃e:Ext B,w'=e.w) (λp=>p=aF) l' a)/\(x.al<l.toArray.size->ZE P l Q aF x)/\gI P l Q aF W ld v ts K0 K1/\
   ∀a w M,XI W x K1 l.toArray.size aF a w M->Q .normal a w)
  (t:P.follows .mixedOrders=true:=by kernel_rfl) (s:LD x ld v 0 l=l':=by simp only[MA,LD,TC,nopO,nopC,Nat.reduceBEq,Bool.or_false,Bool.or_true,Bool.false_eq_true,↓reduceIte,Nat.reduceAdd];exact rfl) (q:Region.lexB .any l'.toArray=true:=by kernel_rfl) (r:ZG l.toArray x ld=true:=by kernel_rfl) (i:Region.noSelect l.toArray=true:=by kernel_rfl)
  (z:x.al≠x.st/\x.al≠ld/\x.st≠ld/\x.src≠x.d:=by simp[MA]) (j:ld<l.toArray.size/\(x.al<l.toArray.size↔x.st<l.toArray.size):=by simp[MA]) (n:x.so≠x.al/\x.so≠x.st:=by simp[MA]) (m:x.al<l.toArray.size->x.so≠ld:=by simp[MA]) (C:eJ l.toArray x ld ts=true:=by kernel_rfl) (o:x.d ∉ ts:=by simp[MA]) (f:x.d<a.tmps.size:=by simp[MA]):(Code.region D l.toArray true).wp P Q a W:=
 zcl t s q r i z j n m C o f hc h0 b
end

theorem vF{P:Program}{l:List Oper}{Q:Exit->Act->World->Prop}{aF:Act}{W:World}{ld:Nat}{v:Value}{ts:List Nat}{K0 K1:World->Prop}{f:FuncId}{dst:Option Tmp}{i:Array TypeId}{o:TypeId}{pos:String}{n:Array Edge}(h1:l.toArray[ld]?=some {dst:=dst,op:=.call {callee:=.value (.func f),args:=(ts.map Operand.tmp).toArray,argTypes:=i},type:=o,pos:=pos,after:=n,guard:=none})(j:∀args w,(callFunc f args).run P w=.ok (.enter f args) w)(h2:∀w,K0 w->W.heap.size<=w.heap.size->Calls P f (ts.map λt=>aF.eval (.tmp t)).toArray w λr w'=>r=.returned v/\K1 w'/\Only (λk=>k<W.heap.size) w w'):gI P l Q aF W ld v ts K0 K1:=by
 refine⟨_,h1,λa w K s hs q p=>?_⟩;unfold wpOp;rw[h1];simp only[Region.wanted,if_true];left;have b:((ts.map Operand.tmp).toArray).map a.eval=(ts.map λt=>aF.eval (.tmp t)).toArray:=by simp only[List.map_toArray,List.map_map];congr 1;exact List.map_congr_left λt z=>q t z
 have h3:=h2 w s hs;rw[<-b]at h3;have m:(execOp a.eval {dst:=dst,op:=.call {callee:=.value (.func f),args:=(ts.map Operand.tmp).toArray,argTypes:=i},type:=o,pos:=pos,after:=n,guard:=none}).run P w=.ok (.enter f (((ts.map Operand.tmp).toArray).map a.eval)) w:=by have:=j (((ts.map Operand.tmp).toArray).map a.eval) w;simp only[List.map_toArray,List.map_map]at this;simp[go_sem,this]
 unfold Oper.wp;rw[m,Oper.upon_enter];refine h3.mono ?_;rintro r w' ⟨rfl,k1,B⟩;exact p w' k1 B
end Go.Proofs.YtkilokkopbajkaaGreat

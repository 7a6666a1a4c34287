/- Texts bound together: InvG MchS PlnS PlnX QTail. -/
import Derived.StillTail

import Derived.Test.YtkbddndcegpllaaGreatBt6

set_option linter.all false
set_option maxHeartbeats 1000000
namespace Go.Proofs.YtkbddndcegpllaaGreat

section

variable {s:Sh} {σ σ':Ab} {c:Int}

def Own.run (h lo hi:Int):Own:=((Own.page h).add (.bodies h (h + 1) lo)).add (.pages lo hi)
inductive RnPh
 | found
 | dead
 | strip (x:Sp)
 | clear
 | undo
 | write
 | look
def Rn.ph (t:Rn):RnPh:=
 if t.found=true then .found else if t.done=true then .dead else if t.next=2 then (match t.strip with | some x=> .strip x | none=> .look)
 else if t.next=3 then .clear else if t.next=4 then .undo else if t.next=5 then .write else .look
def zf2 (t:Rn):Own:=match t.ph with
 | .found=> .run t.head (t.head + t.pages) (t.head + t.pages)
 | .dead=> .no
 | .strip x=> (Own.pages t.head t.at').add (zhd x)
 | .clear=> .pages t.head (t.at' + 1)
 | .undo=> .pages t.head t.i
 | .write=> .run t.head t.i (t.head + t.pages)
 | .look=> .pages t.head t.at'
def zfr (σ:Ab) (lo hi:Int):Prop:=∀ p i,lo<=p->p < hi->σ.sl p i= .none
def zz8 (c:Int) (σ:Ab) (t:Rn):Prop:=t.c=c/\match t.ph with
 | .found=> zfr σ t.head (t.head + 1)
 | .dead=> True
 | .strip x=> zfr σ t.head t.at'/\x.page=t.at'/\z4y c x
 | .clear=> t.head<=t.at'/\zfr σ t.head t.at'/\∀ j,0<=j->j < t.i->σ.sl t.at' j= .none
 | .undo=> zfr σ t.head t.i
 | .write=> zfr σ t.head (t.head + 1)/\zfr σ t.i (t.head + t.pages)
 | .look=> zfr σ t.head t.at'
theorem Own.zi7{lo hi:Int}(h:hi<=lo):(Own.pages lo hi).Eqv .no:=by
 exact⟨fun p=>⟨fun h=>by have b:=h.1;have f:=h.2;omega,fun h=>h.elim⟩,fun _ _=>.rfl,fun _ _ _=>.rfl⟩
theorem Own.zks{lo hi:Int}(h:lo<=hi):((Own.pages lo hi).add (.page hi)).Eqv (.pages lo (hi+1)):=by
 refine⟨fun p=>?_,fun _ _=>or_iff_left id,fun _ _ _=>or_iff_left id⟩;simp only[Own.add,Own.page,Own.pages];omega
theorem Own.z2n{h hi:Int}(b:h<hi):(Own.pages h hi).Eqv (.run h (h+1) hi):=by
 refine⟨fun p=>?_,fun p g=>?_,fun _ _ _=>?_⟩<;>simp only[Own.run,Own.add,Own.page,Own.bodies,Own.pages,or_false,false_or,iff_false,false_iff]<;>(try omega)
theorem zfr.same{lo hi:Int}(h:zfr σ lo hi)(j:∀ p,lo<=p->p<hi->σ.pg p= .held c)(hs:Same c σ σ'):zfr σ' lo hi:=fun p i b f=>(hs.hs p i (j p b f)).trans (h p i b f)
theorem zz8.same{t:Rn}(f:zaz σ c (zf2 t))(h:zz8 c σ t)(hs:Same c σ σ'):zz8 c σ' t:=by
 obtain⟨i,b⟩:=h;refine⟨i,?_⟩;unfold zf2 at f;cases hp:t.ph with
 |found=>rw[hp]at f b;exact b.same (fun p l i=>(f.h p).2 (.inl (.inl (show p=t.head by omega)))) hs
 |dead=>trivial;|strip x=>rw[hp]at f b;exact⟨b.1.same (fun p l i=>(f.h p).2 (.inl ⟨l,i⟩)) hs,b.2⟩
 |clear=>rw[hp]at f b;exact⟨b.1,b.2.1.same (fun p l i=>(f.h p).2 ⟨l,by omega⟩) hs,fun j l i=>(hs.hs _ _ ((f.h _).2 ⟨b.1,by omega⟩)).trans (b.2.2 j l i)⟩
 |undo=>rw[hp]at f b;exact b.same (fun p l i=>(f.h p).2 ⟨l,i⟩) hs
 |write=>rw[hp]at f b;exact⟨b.1.same (fun p l i=>(f.h p).2 (.inl (.inl (show p=t.head by omega)))) hs,b.2.same (fun p l i=>(f.h p).2 (.inr ⟨l,i⟩)) hs⟩
 |look=>rw[hp]at f b;exact b.same (fun p l i=>(f.h p).2 ⟨l,i⟩) hs
def RnIn (c:Int) (σ:Ab) (t:Rn):Prop:=zaz σ c (zf2 t)/\zz8 c σ t
theorem zj2{t:Rn}(b:t.ph= .look)(hc:t.c=c)(f:zaz σ c (.pages t.head t.at'))(hb:zfr σ t.head t.at'):RnIn c σ t:=by
 refine⟨?_,hc,?_⟩
 ·unfold zf2;rw[b];exact f
 rw[b];exact hb
theorem zk6{t:Rn}(m:t.found=false)(hd:t.done=false)(n:t.next=5)(hc:t.c=c)(f:zaz σ c (.run t.head (t.i+1) (t.head+t.pages)))(j:zfr σ t.head (t.head+1))(l:zfr σ (t.i+1) (t.head+t.pages)):RnIn c σ t.written:=by
 unfold Rn.written;split
 ·rename_i e;have b:({t with i:=t.i+1,found:=true,done:=true}:Rn).ph= .found:=by unfold Rn.ph;rw[if_pos rfl]
  refine⟨?_,hc,?_⟩
  ·unfold zf2;rw[b];dsimp only;rw[e]at f;exact f
  rw[b];exact j
 have b:({t with i:=t.i+1}:Rn).ph= .write:=by unfold Rn.ph;dsimp only;rw[m,hd,n];rfl
 refine⟨?_,hc,?_⟩
 ·unfold zf2;rw[b];exact f
 rw[b];exact⟨j,l⟩
theorem zw9{t:Rn}(l:t.found=false)(hd:t.done=false)(hc:t.c=c)(n:1<=t.pages)(m:t.head<=t.at')(j:zaz σ c (.pages t.head (t.at'+1)))(hb:zfr σ t.head (t.at'+1)):RnIn c σ t.own:=by
 unfold Rn.own;split
 ·rename_i e;refine zk6 l hd rfl hc ?_ (fun p i b f=>hb p i b (by dsimp only at f;omega)) (fun p i b f=>hb p i (by dsimp only at b;omega) (by dsimp only at f;omega));dsimp only;rw[e]at j;exact j.eqv (Own.z2n (by omega))
 refine zj2 ?_ hc j hb;unfold Rn.ph;dsimp only;rw[l,hd];rfl
theorem ztf{t:Rn}(f:t.found=false)(hd:t.done=false)(q:t.next=4)(hc:t.c=c)(j:zaz σ c (.pages t.head t.i))(hb:zfr σ t.head t.i):RnIn c σ (t.gone s):=by
 unfold Rn.gone;split
 ·have l:t.ph= .undo:=by unfold Rn.ph;rw[f,hd,q];rfl
  refine⟨?_,hc,?_⟩
  ·unfold zf2;rw[l];exact j
  rw[l];exact hb
 rename_i o;have b:zaz σ c .no:=j.eqv (Own.zi7 (by omega));rcases Bool.eq_false_or_eq_true (decide (s.p-t.pages<t.at'+1)) with e|e
 ·rw[e];refine⟨?_,hc,?_⟩
  ·unfold zf2 Rn.ph;dsimp only;rw[f];exact b
  unfold Rn.ph;dsimp only;rw[f];trivial
 rw[e];refine zj2 ?_ hc (b.eqv (Own.zi7 (by dsimp only;omega)).symm) (fun p i m n=>by dsimp only at m n;omega);unfold Rn.ph;dsimp only;rw[f];rfl
theorem zmj{t:Rn}(f:t.found=false)(hd:t.done=false)(hc:t.c=c)(b:zaz σ c (.pages t.head t.at'))(hb:zfr σ t.head t.at'):RnIn c σ (t.miss s):=
 ztf (t:= {t with next:=4,i:=t.at'}) f hd rfl hc b hb
structure z8t (s:Sh) (c:Int) (σ:Ab) (r:Rn × Ab):Prop where
 kept:Kept s c σ r.2
 at':RnIn c r.2 r.1
 calm:Calm σ r.2
theorem ycn{t:Rn}(hs:mayB s.p s.c s.m=true)(H:GI s σ)(hk:rnOk s t)(hd:t.done=false)(h:RnIn c σ t):z8t s c σ (rnA s t σ):=by
 have r:t.found=false:=zb7 (fun e=>⟨(hk.fd e).1,trivial⟩) hd;obtain⟨c1,c2,c3,I,c5,Z,c7,c8,c9,Y⟩:=hk.cl hd;obtain⟨o,hc,hi⟩:=h;rw[hc]at c1;unfold rnA;rw[if_neg (by rw[hd];decide)];have quiet:∀ t',RnIn c σ t'->z8t s c σ (t',σ):=fun t' h=>⟨Kept.refl H,h,Calm.refl _⟩;by_cases h0:t.next=0
 ·rw[if_pos h0];have F:t.ph= .look:=by unfold Rn.ph;rw[r,hd,h0];rfl
  unfold zf2 at o;rw[F]at o hi;have J:RnIn c σ (t.miss s):=zmj r hd hc o hi;cases G:σ.pg t.at' with
  |empty=>refine quiet _ (zj2 ?_ hc o hi);unfold Rn.ph;dsimp only;rw[r,hd];rfl
  |super k b=>
   refine quiet _ ⟨?_,hc,?_⟩
   ·have:({t with next:=2,strip:=some (zfa s t.c t.at' k)}:Rn).ph= .strip (zfa s t.c t.at' k):=by unfold Rn.ph;dsimp only;rw[r,hd];rfl
    unfold zf2;rw[this];exact(o.eqv (Own.Eqv.zeb _).symm).eqv (.add _ (zia rfl rfl).symm)
   have:({t with next:=2,strip:=some (zfa s t.c t.at' k)}:Rn).ph= .strip (zfa s t.c t.at' k):=by unfold Rn.ph;dsimp only;rw[r,hd];rfl
   rw[this];exact⟨hi,rfl,hc,fun _ _=>rfl⟩
  |_=>exact quiet _ J
 rw[if_neg h0];by_cases h1:t.next=1
 ·rw[if_pos h1];have F:t.ph= .look:=by unfold Rn.ph;rw[r,hd,h1];rfl
  unfold zf2 at o;rw[F]at o hi;have hr:=Z (by omega);by_cases G:σ.pg t.at'= .empty
  ·rw[if_pos G,hc];have l:=zm3 H (.inl G);refine⟨zi0 H G (by omega) c1,zw9 r hd hc c2.1 I.1 ((zh4 H o G).eqv (Own.zks I.1)) (fun p i a b=>?_),zdt (fun n e=>by cases e) (fun n e=>by rw[G]at e;cases e)⟩;show σ.sl p i= .none;by_cases e:p=t.at'
   ·rw[e];exact l i
   exact hi p i a (by omega)
  rw[if_neg G];exact quiet _ (zmj r hd hc o hi)
 rw[if_neg h1];by_cases L:t.next=2
 ·rw[if_pos L];obtain⟨x,G,b5,b3⟩:=c7 L;have hr:=Z (by omega);have F:t.ph= .strip x:=by unfold Rn.ph;rw[r,hd,L,G];rfl
  unfold zf2 at o;rw[F]at o hi;obtain⟨hb,V,b4⟩:=hi;rw[G];dsimp only;obtain⟨⟨g1,X,g3⟩,g4,g5⟩:=z4c H b5 b3 (R:=Own.pages t.head t.at') (fun _ _ e=>e) o b4;have B:zfr (spA s x σ).2 t.head t.at':=fun p i a b=>by
   have b7:σ.pg p= .held c:=(o.h p).2 (.inl ⟨a,b⟩);have U:p≠x.page:=by omega
   rw[<-hb p i a b];have b8:∀ q u,q≠p->(σ.page q u).sl p i=σ.sl p i:=fun q u _=>rfl;unfold spA;split
   ·rfl
   split
   ·exact zbq _ _ (fun e=>U e.1)
   split
   ·rfl
   split
   ·exact zbq _ _ (fun e=>U e.1)
   rfl
  rcases Bool.eq_false_or_eq_true (spA s x σ).1.held with e|e
  ·rw[if_pos e];have z:({t with strip:=some (spA s x σ).1,next:=3,i:=0}:Rn).ph= .clear:=by unfold Rn.ph;dsimp only;rw[r,hd];rfl
   refine⟨g1,⟨?_,hc,?_⟩,g4⟩
   ·unfold zf2;rw[z];have:zhd (spA s x σ).1= .page t.at':=by unfold zhd;rw[if_pos e,g5,V]
    rw[this]at X;exact X.eqv (Own.zks I.1)
   rw[z];exact⟨I.1,B,fun j a b=>by dsimp only at b;omega⟩
  rw[if_neg (by rw[e];decide)];rcases Bool.eq_false_or_eq_true (spA s x σ).1.done with D|D
  ·rw[if_pos D];have b0:=g3.2 D e;exact⟨g1,zmj (t:= {t with strip:=some (spA s x σ).1}) r hd hc ((X.eqv (.add _ (zia e b0))).eqv (.zeb _)) B,g4⟩
  rw[if_neg (by rw[D];decide)];have z:({t with strip:=some (spA s x σ).1}:Rn).ph= .strip (spA s x σ).1:=by unfold Rn.ph;dsimp only;rw[r,hd,L];rfl
  refine⟨g1,⟨?_,hc,?_⟩,g4⟩
  ·unfold zf2;rw[z];exact X
  rw[z];exact⟨B,g5.trans V,g3⟩
 rw[if_neg L];by_cases M:t.next=3
 ·rw[if_pos M];have hr:=Z (by omega);have h8:=c8 M;have F:t.ph= .clear:=by unfold Rn.ph;rw[r,hd,M];rfl
  unfold zf2 at o;rw[F]at o hi;have f:σ.pg t.at'= .held c:=(o.h _).2 ⟨I.1,by omega⟩;have T:=zgw H f (i:=t.i) (u:= .none) (.inl rfl);have O:=ziy (i:=t.i) (u:= .none) o f;have b1:Calm σ (σ.slot t.at' t.i .none):=zdn (fun n e=>by cases e) (fun n e=>by rcases zgg H f t.i with D|D;(rw[D]at e;cases e);(rw[D.1]at e;cases e));have B:zfr (σ.slot t.at' t.i .none) t.head t.at':=fun p i a b=>by rw[zbq _ _ (fun e=>by omega)];exact hi.2.1 p i a b
  have hj:∀ j,0<=j->j<t.i+1->(σ.slot t.at' t.i .none).sl t.at' j= .none:=fun j a b=>by
   by_cases e:j=t.i
   ·subst e;exact zbs _ _ _ _
   rw[zbq _ _ (fun D=>e D.2)];exact hi.2.2 j a (by omega)
  refine⟨T,?_,b1⟩;by_cases e:t.i+1=16
  ·rw[if_pos e];refine zw9 (t:= {t with i:=t.i+1}) r hd hc c2.1 I.1 O (fun p i a b=>?_);dsimp only at b;by_cases ep:p=t.at'
   ·subst ep;by_cases S:0<=i/\i<16
    ·exact hj i S.1 (by omega)
    have:(σ.slot t.at' t.i .none).pg t.at'= .held c:=f;rcases zgg T.1 this i with e3|e3
    ·exact e3
    exact absurd e3.2 S
   exact B p i a (by omega)
  rw[if_neg e];have z:({t with i:=t.i+1}:Rn).ph= .clear:=by unfold Rn.ph;dsimp only;rw[r,hd,M];rfl
  refine⟨?_,hc,?_⟩
  ·unfold zf2;rw[z];exact O
  rw[z];exact⟨I.1,B,hj⟩
 rw[if_neg M];by_cases N:t.next=4
 ·rw[if_pos N];have h9:=c9 N;have F:t.ph= .undo:=by unfold Rn.ph;rw[r,hd,N];rfl
  unfold zf2 at o;rw[F]at o hi
  have y:zaz σ c ((Own.pages t.head (t.i-1)).add (.page (t.i-1))):=o.eqv (by
   have:=Own.zks (lo:=t.head) (hi:=t.i-1) (by omega)
   rw[show t.i-1+1=t.i by omega]at this
   exact this.symm)
  have f:σ.pg (t.i-1)= .held c:=(y.h _).2 (.inr rfl);have E:∀ q,σ.pg q≠ .body (t.i-1):=fun q e=>by rcases(y.b q _).1 ⟨e,f⟩ with e|e<;>exact e
  have l:∀ i,σ.sl (t.i-1) i= .none:=fun i=>hi _ i (by omega) (by omega);refine⟨zg7 H f l E,ztf (t:= {t with i:=t.i-1}) r hd N hc (zi1 y (fun e=>by have D:t.i-1<t.i-1:=e.2;omega) E) (fun p i a b=>hi p i a (by have b:p<t.i-1:=b;omega)),zdt (fun n e=>by cases e) (fun n e=>by rw[f]at e;cases e)⟩
 rw[if_neg N];have h5:t.next=5:=by omega
 have b6:=Y h5;have F:t.ph= .write:=by unfold Rn.ph;rw[r,hd,h5];rfl
 unfold zf2 at o;rw[F]at o hi
 have y:zaz σ c ((((Own.page t.head).add (.bodies t.head (t.head+1) t.i)).add (.pages (t.i+1) (t.head+t.pages))).add (.page t.i)):=o.eqv (by
  refine⟨fun p=>?_,fun p g=>?_,fun _ _ _=>?_⟩<;>simp only[Own.run,Own.add,Own.page,Own.bodies,Own.pages,or_false,false_or,iff_false,false_iff]<;>(try omega))
 have f:σ.pg t.i= .held c:=(y.h _).2 (.inr rfl);have b2:σ.pg t.head= .held c:=(y.h _).2 (.inl (.inl (.inl rfl)));have E:∀ q,σ.pg q≠ .body t.i:=fun q e=>by
  rcases(y.b q _).1 ⟨e,f⟩ with((e|e)|e)|e
  ·exact e
  ·have:=e.1;omega
  ·exact e
  exact e
 have l:∀ i,σ.sl t.i i= .none:=fun i=>hi.2 _ i (by omega) (by omega);refine⟨zqm H f l E b2 (by omega),zk6 r hd h5 hc ?_ hi.1 (fun p i a b=>hi.2 p i (by omega) b),zdt (fun n e=>by cases e) (fun n e=>by rw[f]at e;cases e)⟩;refine(zn5 y ?_ E (.inl (.inl rfl)) (by omega)).eqv ?_
 ·intro e;simp only[Own.add,Own.page,Own.bodies,Own.pages,or_false,false_or]at e;omega
 refine⟨fun p=>?_,fun p g=>?_,fun _ _ _=>?_⟩<;>simp only[Own.run,Own.add,Own.page,Own.bodies,Own.pages,or_false,false_or,iff_false,false_iff]<;>(try omega)
end

section

structure rsIs (s:Sh) (cl:Int) (t:Rs):Prop where
 sk:∀ x,t.seeker=some x->skIs s cl t.k x/\zvw x
 rn:∀ x,t.runner=some x->rnIs s cl t.pages x
def zi3 (s:Sh) (t:Rs):Int:=match t.seeker,t.runner with
 | some x,_=> zcm s x
 | none,some x=> zct s x
 | none,none=> 0
theorem zf6{s:Sh}{cl:Int}{t:Rs}(h:rsIs s cl t):0<=zi3 s t:=by
 obtain⟨k,pg,sk,rn⟩:=t;rcases sk with _|x
 ·rcases rn with _|y
  ·exact Int.le_refl _
  exact z2y (h.rn y rfl).ok
 exact z2i (h.sk x rfl).1.ok
theorem zvz{s:Sh}{cl:Int}{t:Rs}{m:Mem}(h:rsIs s cl t)(hd:t.done=false)(i:Fits s m):Acts cl m (zb0 s t m).2/\rsIs s cl (zb0 s t m).1/\zi3 s (zb0 s t m).1+1<=zi3 s t:=by
 obtain⟨k,pg,sk,rn⟩:=t;rcases sk with _|x
 ·rcases rn with _|y
  ·cases hd
  have f:=yat (h.rn y rfl) hd i;exact⟨f.1,⟨fun z b=>(by cases b),fun z b=>(by injection b with b;subst b;exact f.2.1)⟩,f.2.2⟩
 have f:=ybz (h.sk x rfl).1 (h.sk x rfl).2 hd i;exact⟨f.1,⟨fun z b=>(by injection b with b;subst b;exact⟨f.2.1,f.2.2.1⟩),h.rn⟩,f.2.2.2⟩
theorem z0h{s:Sh}(c n f:Int)(j:mayB s.p s.c s.m=true):rsIs s c (zdh s c n f)/\zi3 s (zdh s c n f)<=67*s.p+s.m+33:=by
 have hb:=zar.1 j;unfold zdh;split
 ·have i:=yek c (zcn n) f j;exact⟨⟨fun x b=>(by injection b with b;subst b;exact⟨i.1,i.2.1⟩),fun x b=>(by cases b)⟩,i.2.2⟩
 split
 ·have i:=yfb c (runV n) j;refine⟨⟨fun x b=>(by cases b),fun x b=>(by injection b with b;subst b;exact i.1)⟩,?_⟩;have:zi3 s ⟨0,runV n,none,some (zf8 s c (runV n))⟩=zct s (zf8 s c (runV n)):=rfl;omega
 exact⟨⟨fun x b=>(by cases b),fun x b=>(by cases b)⟩,by show (0:Int)<=_;omega⟩
theorem zlb{s:Sh}{cl:Int}{t:Rs}{b:Blk}(h:rsIs s cl t)(q:mayB s.p s.c s.m=true)(hc:0<=cl/\cl<s.c)(f:t.got=some b):b.fits s cl=true/\t.done=true:=by
 obtain⟨k,pg,sk,rn⟩:=t;rcases sk with _|x
 ·rcases rn with _|y
  ·cases f
  have i:=h.rn y rfl;unfold Rs.got at f;dsimp only at f;split at f
  ·rename_i o;injection f with f;subst f;have l:=i.ok.fd o;have j:=i.n;dsimp only at j;refine⟨zdi.2 ⟨q,hc,by dsimp only;omega,fun _=>by dsimp only;omega,fun e=>(by cases e)⟩,l.1⟩
  cases f
 have i:=(h.sk x rfl).1;unfold Rs.got at f;dsimp only at f;split at f
 ·rename_i o;injection f with f;subst f;have l:=i.ok.fd o;have j:=i.k;dsimp only at j;refine⟨zdi.2 ⟨q,hc,by dsimp only;omega,fun e=>(by cases e),fun _=>by dsimp only;rw[<-j];omega⟩,l.1⟩
 cases f
theorem z3w{s:Sh}{t:Cm}{m:Mem}(h:t.b.fits s t.c=true)(hd:t.done=false)(i:Fits s m):Acts t.c m (zb3 s t m).2/\(zb3 s t m).1= {t with done:=true}:=by
 have f:=zdi.1 h;unfold zb3;rw[if_neg (by rw[hd];decide)];refine⟨?_,rfl⟩;dsimp only;cases hl:t.b.large
 ·rw[if_neg (by decide)];have j:=f.2.2.2.2 hl;have l:=zb4 (by omega:0<zah t.b.k);exact .store (i.zj0 f.2.2.1 (by omega)) (zx7 _)
 rw[if_pos rfl];exact .store (i.zhu f.2.2.1) (zc0 _ _ _)
def ze0 (t:Un):Int:=if t.done=true then 0 else if t.b.large=true then t.b.pages - t.i else 1
theorem z8p{s:Sh}{t:Un}(h:unOk s t)(hd:t.done=false):1<=ze0 t:=by
 have b:=(h.cl hd).2;unfold ze0;rw[if_neg (by rw[hd];decide)];split
 ·rename_i f;have:=b f;omega
 omega
theorem ybv{s:Sh}{t:Un}{m:Mem}(h:unOk s t)(hd:t.done=false)(j:Fits s m):Acts t.c m (zcf s t m).2/\(zcf s t m).1.c=t.c/\(zcf s t m).1.b=t.b/\ze0 (zcf s t m).1+1<=ze0 t:=by
 obtain⟨l,hi⟩:=h.cl hd;have f:=zdi.1 l;have o:ze0 t=if t.b.large=true then t.b.pages-t.i else 1:=by unfold ze0;rw[if_neg (by rw[hd];decide)]
 rw[o];unfold zcf;rw[if_neg (by rw[hd];decide)];cases hl:t.b.large
 ·rw[if_pos rfl,if_neg (by decide)];have n:=f.2.2.2.2 hl;have p:=zb4 (by omega:0<zah t.b.k);refine⟨.store (j.zj0 f.2.2.1 (by omega)) (zkf _),rfl,rfl,?_⟩;unfold ze0;rw[if_pos rfl];omega
 rw[if_neg (by decide),if_pos rfl];have n:=f.2.2.2.1 hl;have hi:=hi hl;split
 ·refine⟨.store (j.zhu f.2.2.1) zms,rfl,rfl,?_⟩;unfold ze0;rw[if_pos rfl];omega
 refine⟨.store (j.zhu (by omega)) zms,rfl,rfl,?_⟩;unfold ze0;dsimp only;rw[if_neg (by rw[hd];decide),if_pos hl];omega
theorem ydl{s:Sh}(c:Int)(b:Blk)(h:b.fits s c=true):ze0 (zf1 s c b)<=8/\(zf1 s c b).done=false:=by
 have f:=zdi.1 h;have hd:(zf1 s c b).done=false:=by simp[zf1,h]
 refine⟨?_,hd⟩;unfold ze0;rw[if_neg (by rw[hd];decide)];split
 ·rename_i i;have j:=f.2.2.2.1 i;simp only[zf1];omega
 omega
structure feIs (s:Sh) (cl:Int) (t:Fe):Prop where
 ok:feOk s t
 c:t.c=cl
 put:∀ x,t.put=some x->x.c=cl
 gv:t.next<=1->t.gave=false
 gv2:2<=t.next->t.done=false->t.gave=true
def zcw (s:Sh) (t:Fe):Int:=if t.done=true then 0 else if t.next=0 then s.m + 12 else if t.next=1 then s.m + 11
 else if t.next=2 then (match t.put with | some x=> zh2 s x | none=> 0) + 1 else if t.next=3 then 1 else t.pa - t.i
theorem z9j{s:Sh}{t:Fe}(h:feOk s t)(y:0<=s.m)(hd:t.done=false):1<=zcw s t:=by
 obtain⟨c1,c2,c3,n,o,p,q,i,r,b⟩:=h.cl hd;unfold zcw;rw[if_neg (by rw[hd];decide)];split
 ·omega
 split
 ·omega
 split
 ·rename_i n2;obtain⟨_,x,j,f,l⟩:=i n2;have:=ztc f;rw[j];dsimp only;omega
 split
 ·omega
 have:=b (by omega);omega
theorem zsa{s:Sh}{t:Fe}(h:feOk s t)(b:0<=s.m):0<=zcw s t:=by
 rcases Bool.eq_false_or_eq_true t.done with hd|hd
 ·unfold zcw;rw[if_pos hd];omega
 have:=z9j h b hd;omega
theorem z9h{s:Sh}(c a:Int)(b:mayB s.p s.c s.m=true):feIs s c (zc2 s c a)/\zcw s (zc2 s c a)<=s.m+12:=by
 have hb:=zar.1 b;refine⟨⟨zwa _ _ _,rfl,fun x f=>(by cases f),fun _=>rfl,fun e=>(by simp[zc2]at e)⟩,?_⟩;unfold zcw;split
 ·omega
 rw[if_pos (show (zc2 s c a).next=0 from rfl)];omega
theorem z1e{s:Sh}{cl:Int}{t:Fe}{m:Mem}(h:feIs s cl t)(hd:t.done=false)(F:Fits s m)(I:m.fit):Acts cl m (zca s t m).2/\feIs s cl (zca s t m).1/\zcw s (zca s t m).1+1<=zcw s t/\(t.gave=true->(zca s t m).1.gave=true):=by
 obtain⟨c1,c2,c3,c4,V,n,c7,X,Y,H⟩:=h.ok.cl hd;have hb:=F.bd;have l:¬ t.done=true:=by rw[hd];decide
 have b:=z1a m I h.ok
 have Z:zcw s t=if t.next=0 then s.m+12 else if t.next=1 then s.m+11
  else if t.next=2 then(match t.put with|some x=>zh2 s x|none=>0)+1 else if t.next=3 then 1 else t.pa-t.i:=by unfold zcw;rw[if_neg l]
 have z:∀ u:Fe,u.done=true->zcw s u=0:=fun u e=>by unfold zcw;rw[if_pos e]
 have B:=F.zhu c2;rw[Z];unfold zca at b ⊢;rw[if_neg l]at b ⊢;by_cases G:t.next=0
 ·have j:=h.gv (by omega);rw[if_pos G]at b ⊢;rw[if_pos G];unfold Fe.look at b ⊢;dsimp only at b ⊢;refine⟨(Acts.load B).of h.c,?_⟩;split at b<;>rename_i q
  ·rw[if_pos q];refine⟨⟨b,h.c,h.put,fun _=>j,fun e=>(by dsimp only at e;omega)⟩,?_,fun e=>(by rw[j]at e;cases e)⟩;unfold zcw;dsimp only;rw[if_neg l,if_neg (by decide),if_pos rfl];omega
  rw[if_neg q];split at b<;>rename_i E
  ·rw[if_pos E];refine⟨⟨b,h.c,h.put,fun _=>j,fun e=>(by dsimp only at e;omega)⟩,?_,fun e=>(by rw[j]at e;cases e)⟩;unfold zcw;dsimp only;rw[if_neg l,if_neg (by decide),if_pos rfl];omega
  rw[if_neg E];refine⟨⟨b,h.c,h.put,fun _=>j,fun e=>(by dsimp only at e;omega)⟩,?_,fun e=>(by rw[j]at e;cases e)⟩;rw[z _ rfl];omega
 rw[if_neg G]at b ⊢;rw[if_neg G];by_cases n1:t.next=1
 ·have j:=h.gv (by omega);have V:=V (by omega);have n:=n (by omega);rw[if_pos n1]at b ⊢;rw[if_pos n1];unfold Fe.claim at b ⊢;dsimp only at b ⊢;by_cases R:t.pk=3
  ·have n:1<=t.pa/\t.pa<=8/\t.pa<=s.p-t.page:=by rcases n with h|h<;>omega
   rw[if_pos R]at b ⊢;dsimp only at b ⊢;refine⟨(Acts.swap B (zj1 _)).of h.c,⟨b,h.c,h.put,fun e=>(by dsimp only at e;omega),fun _ e=>(by dsimp only at e ⊢;simpa using e)⟩,?_,fun e=>(by rw[j]at e;cases e)⟩;unfold zcw;dsimp only;split
   ·omega
   rw[if_neg (by decide),if_neg (by decide),if_neg (by decide),if_neg (by decide)];omega
  have n:t.pk=2/\0<zah t.pa/\(0<=t.slot/\t.slot<zah t.pa):=by rcases n with h|h;exact absurd h.1 R;exact h
  have S:=zb4 n.2.1;have D:=F.zj0 (x:=t.page) (i:=t.slot) c2 (by omega);rw[if_neg R]at b ⊢;dsimp only at b ⊢;refine⟨(Acts.swap D (zmd _)).of h.c,?_⟩;generalize hg:decide (m.get (zbk s.p s.c s.m t.page t.slot)=zfl t.pa)=g at b ⊢;by_cases J:t.pb=t.c
  ·rw[if_pos J]at b ⊢;have L:=yfa s t.c t.page t.slot t.pa (by omega);rcases zcv ({t with gave:=g,next:=2,put:=some (zg5 s t.c t.page t.slot t.pa)}:Fe) _ rfl with⟨q,_⟩|⟨q,E,h3⟩|⟨q,E,h3⟩
   ·simp[zg5]at q
   ·rw[h3]at b ⊢;dsimp only at b ⊢;refine⟨⟨b,h.c,fun x o=>?_,fun e=>(by dsimp only at e;omega),fun _ e=>(by dsimp only at e ⊢;simpa using e)⟩,?_,fun e=>(by rw[j]at e;cases e)⟩
    ·have o:some (zg5 s t.c t.page t.slot t.pa)=some x:=o;injection o with o;subst o;exact L.2.trans h.c
    unfold zcw;dsimp only;split
    ·omega
    rw[if_neg (by decide),if_neg (by decide),if_neg (by decide),if_pos rfl];omega
   rw[h3]at b ⊢;dsimp only at b ⊢;refine⟨⟨b,h.c,fun x o=>?_,fun e=>(by dsimp only at e;omega),fun _ e=>(by dsimp only at e ⊢;simpa using e)⟩,?_,fun e=>(by rw[j]at e;cases e)⟩
   ·have o:some (zg5 s t.c t.page t.slot t.pa)=some x:=o;injection o with o;subst o;exact L.2.trans h.c
   unfold zcw;dsimp only;split
   ·omega
   rw[if_neg (by decide),if_neg (by decide),if_pos rfl];omega
  rw[if_neg J]at b ⊢;dsimp only at b ⊢;refine⟨⟨b,h.c,h.put,fun e=>(by dsimp only at e;omega),fun _ e=>(by dsimp only at e ⊢;simpa using e)⟩,?_,fun e=>(by rw[j]at e;cases e)⟩;unfold zcw;dsimp only;split
  ·omega
  rw[if_neg (by decide),if_neg (by decide),if_neg (by decide),if_pos rfl];omega
 rw[if_neg n1]at b ⊢;rw[if_neg n1];have f:=h.gv2 (by omega) hd;have n:=n (by omega);by_cases n2:t.next=2
 ·obtain⟨R,x,o,O,T⟩:=X n2;have M:=ybu O T F;have N:=h.put x o;have b0:=ztc (zq5 m O);rw[if_pos n2,o]at b ⊢;rw[if_pos n2];dsimp only at b ⊢;refine⟨M.1.of N,?_⟩;have r:∀ y,some (zd3 s x m).1=some y->y.c=cl:=fun y U=>by injection U with U;subst U;exact M.2.1.trans N
  rcases zcv ({t with put:=some (zd3 s x m).1}:Fe) _ rfl with⟨q,h3⟩|⟨q,E,h3⟩|⟨q,E,h3⟩
  ·rw[h3]at b ⊢;exact⟨⟨b,h.c,r,fun e=>(by dsimp only at e;omega),fun _ _=>f⟩,by rw[z _ rfl];omega,fun _=>f⟩
  ·rw[h3]at b ⊢;refine⟨⟨b,h.c,r,fun e=>(by dsimp only at e;omega),fun _ _=>f⟩,?_,fun _=>f⟩;unfold zcw;dsimp only;rw[if_neg l,if_neg (by decide),if_neg (by decide),if_neg (by decide),if_pos rfl];omega
  rw[h3]at b ⊢;refine⟨⟨b,h.c,r,fun e=>(by dsimp only at e;omega),fun _ _=>f⟩,?_,fun _=>f⟩;unfold zcw;dsimp only;rw[if_neg l,if_neg G,if_neg n1,if_pos n2];omega
 rw[if_neg n2]at b ⊢;rw[if_neg n2];by_cases n3:t.next=3
 ·have n:t.pk=2/\0<zah t.pa/\(0<=t.slot/\t.slot<zah t.pa):=by
   have:=Y n3;rcases n with h|h
   ·omega
   exact h
  have S:=zb4 n.2.1;have D:=F.zj0 (x:=t.page) (i:=t.slot) c2 (by omega);rw[if_pos n3]at b ⊢;rw[if_pos n3];exact⟨(Acts.store D (zkf _)).of h.c,⟨b,h.c,h.put,fun e=>(by dsimp only at e;omega),fun _ _=>f⟩,by rw[z _ rfl];omega,fun _=>f⟩
 rw[if_neg n3]at b ⊢;rw[if_neg n3];have n4:t.next=4:=by omega
 have H:=H n4;have n:1<=t.pa/\t.pa<=8/\t.pa<=s.p-t.page:=by rcases n with h|h<;>omega
 split at b<;>rename_i q
 ·rw[if_pos q];exact⟨(Acts.store B zms).of h.c,⟨b,h.c,h.put,fun e=>(by dsimp only at e;omega),fun _ _=>f⟩,by rw[z _ rfl];omega,fun _=>f⟩
 rw[if_neg q];refine⟨(Acts.store (F.zhu (by omega)) zms).of h.c,⟨b,h.c,h.put,fun e=>(by dsimp only at e;omega),fun _ _=>f⟩,?_,fun _=>f⟩;unfold zcw;dsimp only;rw[if_neg l,if_neg G,if_neg n1,if_neg n2,if_neg n3];omega
end

section

open Go.RowKit

attribute [local go_sem ↓] Go.wp_at_zero Go.wp_at_succ

theorem zgq(k:Int)(w:World):
  Calls Tryz.prog 68 #[k] w fun e w'=>e= .returned (.int .i64 (zbj k))/\w'=w:=by
 by_cases h:0<=k/\k<=3
 ·have b:wi k 0 3=true:=zbc.2 h;have:k=0\/k=1\/k=2\/k=3:=by omega
  rcases this with rfl|rfl|rfl|rfl <;>
  ·go_in;go_wp2_with (go_at_call 107;refine(za9 _ _ _ _).mono ?_;rintro e w' ⟨rfl,rfl⟩);go_ret;exact⟨rfl,rfl⟩
 have b:wi k 0 3=false:=zgo.2 h;go_in;go_wp2_with (go_at_call 107;refine(za9 _ _ _ _).mono ?_;rintro e w' ⟨rfl,rfl⟩);go_ret;exact⟨zf5 (by rw[zbj,if_neg (by omega),if_neg (by omega),if_neg (by omega),if_neg (by omega)]),rfl⟩
theorem zmu(n:Int)(w:World):
  Calls Tryz.prog 123 #[n] w fun e w'=>e= .returned (.tuple #[.int .i64 (zcn n),.bool (wi n 1 32)])/\w'=w:=by
 by_cases h:1<=n/\n<=32
 ·have j:wi n 1 32=true:=zbc.2 h;have m:=zwh n;have b:=fun k r=>zxo (k:=k) h r;obtain⟨c,hc⟩:∃ c:Nat,zcn n=c:=⟨(zcn n).toNat,by omega⟩;rw[j,hc];rw[hc]at m;simp only[hc]at b;clear hc;go_in;go_wp2_with (go_at_call 107;refine(za9 _ _ _ _).mono ?_;rintro e w' ⟨rfl,i⟩;obtain rfl:=i.symm);go_loopw [4] (fun q wr=>∃ k:Nat,k<=c/\q= .int .i64 k/\wr=w) (fun q _=>c-(intOf q).toNat);case atStart=>exact⟨0,Nat.zero_le _,rfl,by first|rfl|trivial⟩
  case round=>
   obtain⟨k,z,rfl,p⟩:=hrel;obtain rfl:=p.symm;have l:=b k (by omega) (by omega);clear b;by_cases y:k<c
   ·have hs:zbj k<n:=l.2 (by omega);clear l;go_wp2_with (go_at_call 68;refine(zgq _ _).mono ?_;rintro e w' ⟨rfl,i⟩;obtain rfl:=i.symm);exact⟨⟨k+1,by omega,by go_num,by first|rfl|trivial⟩,by simp[intOf];omega⟩
   have hs:¬ zbj k<n:=fun h=>by have:=l.1 h;omega
   have o:k=c:=by omega
   subst o;clear l;go_wp2_with (go_at_call 68;refine(zgq _ _).mono ?_;rintro e w' ⟨rfl,i⟩;obtain rfl:=i.symm);go_ret2;exact⟨rfl,rfl⟩
 have j:wi n 1 32=false:=zgo.2 h;have t:zcn n=0:=by unfold zcn;rw[if_neg (by rw[j];simp)]
 rw[j,t];go_in;go_wp2_with (go_at_call 107;refine(za9 _ _ _ _).mono ?_;rintro e w' ⟨rfl,rfl⟩);go_ret2;exact⟨rfl,rfl⟩
theorem zur(n:Int)(w:World):
  Calls Tryz.prog 73 #[n] w fun e w'=>e= .returned (.tuple #[.int .i64 (runV n),.bool (wi n 33 512)])/\w'=w:=by
 by_cases h:33<=n/\n<=512
 ·have b:wi n 33 512=true:=zbc.2 h;have i:runV n=(n-1)/64+1:=by unfold runV;rw[if_pos b]
  have j:=wrp (n-1);have l:=wrp ((n-1)/64+1);rw[b,i];clear i;go_in;go_wp2_with (go_at_call 107;refine(za9 _ _ _ _).mono ?_;rintro e w' ⟨rfl,rfl⟩);go_ret2;exact⟨rfl,rfl⟩
 have b:wi n 33 512=false:=zgo.2 h;have i:runV n=0:=by unfold runV;rw[if_neg (by rw[b];simp)]
 rw[b,i];go_in;go_wp2_with (go_at_call 107;refine(za9 _ _ _ _).mono ?_;rintro e w' ⟨rfl,rfl⟩);go_ret2;exact⟨rfl,rfl⟩
theorem zo1(n:Int)(w:World):
  Calls Tryz.prog 72 #[n] w fun e w'=>e= .returned (.tuple #[.int .i64 (lenV n),.bool (lenB n)])/\w'=w:=by
 by_cases h:1<=n/\n<=32
 ·have j:wi n 1 32=true:=zbc.2 h;have b:lenV n=zbj (zcn n):=by unfold lenV;rw[if_pos j]
  have i:lenB n=true:=zbc.2 (by omega);rw[b,i];clear b;go_in;go_wp2_with (first|(go_at_call 123;refine(zmu _ _).mono ?_;rintro e w' ⟨rfl,rfl⟩)|(go_at_call 68;refine(zgq _ _).mono ?_;rintro e w' ⟨rfl,rfl⟩));go_ret2;exact⟨rfl,rfl⟩
 have j:wi n 1 32=false:=zgo.2 h;have b:lenV n=runV n*64:=by unfold lenV;rw[if_neg (by rw[j];simp)]
 have i:lenB n=wi n 33 512:=by rw[Bool.eq_iff_iff];unfold lenB;rw[zbc,zbc];omega
 have hb:=yc6 n;have l:=wrp (runV n*64);rw[b,i];clear b i;go_in;go_wp2_with (first|(go_at_call 123;refine(zmu _ _).mono ?_;rintro e w' ⟨rfl,rfl⟩)|(go_at_call 73;refine(zur _ _).mono ?_;rintro e w' ⟨rfl,rfl⟩));go_ret2;exact⟨rfl,rfl⟩
end

section

open Go.RowKit

theorem zro(p c m:Int)(w:World):
  Calls Tryz.prog 105 #[.agg #[p,c,m]] w fun e w'=>e= .returned (.int .i64 (zb6 p c m))/\Below w.heap.size w w':=by
 by_cases b:mayB p c m=true
 ·have hb:=zar.1 b;have n:=zk3 (c:=c) (m:=m) (C:=12) (M:=8) (by omega) (by omega);have i:zb6 p c m=c+p+p*16+c*m:=by unfold zb6;rw[if_pos b]
  rw[i];clear i;have j:=wrp (c+p);have o:=wrp (p*16);have q:=wrp (c+p+p*16);have r:=wrp (c*m);have t:=wrp (c+p+p*16+c*m);go_in;go_wp2_with (go_at_call 96;refine(zcc _ _ _ _).mono ?_;rintro e j ⟨rfl,rfl⟩);go_ret;exact⟨rfl,by go_grown⟩
 have l:mayB p c m=false:=by simpa using b
 have i:zb6 p c m=0:=by unfold zb6;rw[if_neg b]
 rw[i];clear b i;go_in;go_wp2_with (go_at_call 96;refine(zcc _ _ _ _).mono ?_;rintro e j ⟨rfl,rfl⟩);go_ret;exact⟨rfl,by go_grown⟩
theorem zau(p c m x:Int)(w:World):
  Calls Tryz.prog 57 #[.agg #[p,c,m],x] w fun e w'=>e= .returned (.int .i64 (zae p c m x))/\Below w.heap.size w w':=by
 by_cases i:mayB p c m=true;case neg=>
  have n:mayB p c m=false:=by simpa using i
  have b:zae p c m x= -1:=by unfold zae;rw[if_neg (fun h=>i h.1)]
  rw[b];clear i b;go_in;go_wp2_with (first|(go_at_call 96;refine(zcc _ _ _ _).mono ?_;rintro e l ⟨rfl,rfl⟩)|(go_at_call 107;refine(za9 _ _ _ _).mono ?_;rintro e w' ⟨rfl,rfl⟩));go_ret;exact⟨rfl,by go_grown⟩
 case pos=>
  have hb:=zar.1 i;have wc:wrap64 (c-1)=c-1:=IntWalk.wrap64_in _ ⟨by omega,by omega⟩;by_cases j:wi x 0 (c-1)=true;case neg=>
   have q:wi x 0 (c-1)=false:=by simpa using j
   have b:zae p c m x= -1:=by unfold zae;rw[if_neg (fun h=>j h.2)]
   rw[b];clear j b;go_in;go_wp2_with (first|(go_at_call 96;refine(zcc _ _ _ _).mono ?_;rintro e l ⟨rfl,rfl⟩)|(go_at_call 107;refine(za9 _ _ _ _).mono ?_;rintro e w' ⟨rfl,rfl⟩));go_ret;exact⟨rfl,by go_grown⟩
  have o:=zbc.1 j;have b:zae p c m x=x:=by unfold zae;rw[if_pos ⟨i,j⟩]
  rw[b];clear b;go_in;go_wp2_with (first|(go_at_call 96;refine(zcc _ _ _ _).mono ?_;rintro e l ⟨rfl,rfl⟩)|(go_at_call 107;refine(za9 _ _ _ _).mono ?_;rintro e w' ⟨rfl,rfl⟩));go_ret;exact⟨rfl,by go_grown⟩
theorem zbm(p c m a i:Int)(w:World):
  Calls Tryz.prog 121 #[.agg #[p,c,m],a,i] w fun e w'=>e= .returned (.int .i64 (zbk p c m a i))/\Below w.heap.size w w':=by
 by_cases j:mayB p c m=true;case neg=>
  have o:mayB p c m=false:=by simpa using j
  have b:zbk p c m a i= -1:=by unfold zbk;rw[if_neg (fun h=>j h.1)]
  rw[b];clear j b;go_in;go_wp2_with (first|(go_at_call 96;refine(zcc _ _ _ _).mono ?_;rintro e n ⟨rfl,rfl⟩)|(go_at_call 107;refine(za9 _ _ _ _).mono ?_;rintro e w' ⟨rfl,rfl⟩));go_ret;exact⟨rfl,by go_grown⟩
 case pos=>
  have hb:=zar.1 j;have wc:wrap64 (p-1)=p-1:=IntWalk.wrap64_in _ ⟨by omega,by omega⟩;by_cases l:wi a 0 (p-1)=true;case neg=>
   have q:wi a 0 (p-1)=false:=by simpa using l
   have b:zbk p c m a i= -1:=by unfold zbk;rw[if_neg (fun h=>l h.2.1)]
   rw[b];clear l b;go_in;go_wp2_with (first|(go_at_call 96;refine(zcc _ _ _ _).mono ?_;rintro e n ⟨rfl,rfl⟩)|(go_at_call 107;refine(za9 _ _ _ _).mono ?_;rintro e w' ⟨rfl,rfl⟩));go_ret;exact⟨rfl,by go_grown⟩
  have r:=zbc.1 l;by_cases q1:wi i 0 15=true;case neg=>
   have q:wi i 0 15=false:=by simpa using q1
   have b:zbk p c m a i= -1:=by unfold zbk;rw[if_neg (fun h=>q1 h.2.2)]
   rw[b];clear q1 b;go_in;go_wp2_with (first|(go_at_call 96;refine(zcc _ _ _ _).mono ?_;rintro e n ⟨rfl,rfl⟩)|(go_at_call 107;refine(za9 _ _ _ _).mono ?_;rintro e w' ⟨rfl,rfl⟩));go_ret;exact⟨rfl,by go_grown⟩
  have t:=zbc.1 q1;have b:zbk p c m a i=c+p+a*16+i:=by unfold zbk;rw[if_pos ⟨j,l,q1⟩]
  rw[b];clear b;have n:=wrp (c+p);have y:=wrp (a*16);have z:=wrp (c+p+a*16);have B:=wrp (c+p+a*16+i);go_in;go_wp2_with (first|(go_at_call 96;refine(zcc _ _ _ _).mono ?_;rintro e n ⟨rfl,rfl⟩)|(go_at_call 107;refine(za9 _ _ _ _).mono ?_;rintro e w' ⟨rfl,rfl⟩));go_ret;exact⟨rfl,by go_grown⟩
theorem zjh(p c m x i:Int)(w:World):
  Calls Tryz.prog 136 #[.agg #[p,c,m],x,i] w fun e w'=>e= .returned (.int .i64 (ze9 p c m x i))/\Below w.heap.size w w':=by
 by_cases j:mayB p c m=true;case neg=>
  have o:mayB p c m=false:=by simpa using j
  have b:ze9 p c m x i= -1:=by unfold ze9;rw[if_neg (fun h=>j h.1)]
  rw[b];clear j b;go_in;go_wp2_with (first|(go_at_call 96;refine(zcc _ _ _ _).mono ?_;rintro e n ⟨rfl,rfl⟩)|(go_at_call 107;refine(za9 _ _ _ _).mono ?_;rintro e w' ⟨rfl,rfl⟩));go_ret;exact⟨rfl,by go_grown⟩
 case pos=>
  have hb:=zar.1 j;have wc:wrap64 (c-1)=c-1:=IntWalk.wrap64_in _ ⟨by omega,by omega⟩;have wd:wrap64 (m-1)=m-1:=IntWalk.wrap64_in _ ⟨by omega,by omega⟩;by_cases l:wi x 0 (c-1)=true;case neg=>
   have q:wi x 0 (c-1)=false:=by simpa using l
   have b:ze9 p c m x i= -1:=by unfold ze9;rw[if_neg (fun h=>l h.2.1)]
   rw[b];clear l b;go_in;go_wp2_with (first|(go_at_call 96;refine(zcc _ _ _ _).mono ?_;rintro e n ⟨rfl,rfl⟩)|(go_at_call 107;refine(za9 _ _ _ _).mono ?_;rintro e w' ⟨rfl,rfl⟩));go_ret;exact⟨rfl,by go_grown⟩
  have r:=zbc.1 l;by_cases q1:wi i 0 (m-1)=true;case neg=>
   have q:wi i 0 (m-1)=false:=by simpa using q1
   have b:ze9 p c m x i= -1:=by unfold ze9;rw[if_neg (fun h=>q1 h.2.2)]
   rw[b];clear q1 b;go_in;go_wp2_with (first|(go_at_call 96;refine(zcc _ _ _ _).mono ?_;rintro e n ⟨rfl,rfl⟩)|(go_at_call 107;refine(za9 _ _ _ _).mono ?_;rintro e w' ⟨rfl,rfl⟩));go_ret;exact⟨rfl,by go_grown⟩
  have t:=zbc.1 q1;have b:ze9 p c m x i=c+p+p*16+x*m+i:=by unfold ze9;rw[if_pos ⟨j,l,q1⟩]
  rw[b];clear b;have y:=zk3 (c:=x) (m:=m) (C:=11) (M:=8) (by omega) (by omega);have n:=wrp (c+p);have z:=wrp (p*16);have B:=wrp (c+p+p*16);have D:=wrp (x*m);have E:=wrp (c+p+p*16+x*m);have F:=wrp (c+p+p*16+x*m+i);go_in;go_wp2_with (first|(go_at_call 96;refine(zcc _ _ _ _).mono ?_;rintro e n ⟨rfl,rfl⟩)|(go_at_call 107;refine(za9 _ _ _ _).mono ?_;rintro e w' ⟨rfl,rfl⟩));go_ret;exact⟨rfl,by go_grown⟩
def splitB (p c m a:Int):Bool:=mayB p c m && wi a 0 (p * 64 - 1)
theorem ygw(x:Int)(f:0<=x)(i:x<9223372036854775808):bits .and .i64 x 63=x%64:=
 bits_mask .i64 63 (by decide) (fun n a b=>IntWalk.i64_in _ ⟨by omega,by omega⟩) 6 (by decide) x f i
theorem z0r(p c m a:Int)(w:World):
  Calls Tryz.prog 147 #[.agg #[p,c,m],a] w fun e w'=>e= .returned (.tuple (if splitB p c m a=true then #[.int .i64 (a/64),.int .i64 (a%64),.bool true] else #[.int .i64 0,.int .i64 0,.bool false]))/\Below w.heap.size w w':=by
 by_cases i:mayB p c m=true;case neg=>
  have l:mayB p c m=false:=by simpa using i
  have b:splitB p c m a=false:=by unfold splitB;rw[l];rfl
  rw[b,if_neg Bool.false_ne_true];clear i b;go_in;go_wp2_with (first|(go_at_call 96;refine(zcc _ _ _ _).mono ?_;rintro e n ⟨rfl,rfl⟩)|(go_at_call 107;refine(za9 _ _ _ _).mono ?_;rintro e w' ⟨rfl,rfl⟩));go_ret3;exact⟨rfl,by go_grown⟩
 case pos=>
  have hb:=zar.1 i;have n:=wrp (p*64);have t:=wrp (p*64-1);by_cases j:wi a 0 (p*64-1)=true;case neg=>
   have q:wi a 0 (p*64-1)=false:=by simpa using j
   have b:splitB p c m a=false:=by unfold splitB;rw[q,Bool.and_false]
   rw[b,if_neg Bool.false_ne_true];clear j b;go_in;go_wp2_with (first|(go_at_call 96;refine(zcc _ _ _ _).mono ?_;rintro e n ⟨rfl,rfl⟩)|(go_at_call 107;refine(za9 _ _ _ _).mono ?_;rintro e w' ⟨rfl,rfl⟩));go_ret3;exact⟨rfl,by go_grown⟩
  have r:=zbc.1 j;have b:splitB p c m a=true:=by unfold splitB;rw[i,j];rfl
  rw[b,if_pos rfl];clear b;have o:=ygw a (by omega) (by omega);go_in;go_wp2_with (first|(go_at_call 96;refine(zcc _ _ _ _).mono ?_;rintro e n ⟨rfl,rfl⟩)|(go_at_call 107;refine(za9 _ _ _ _).mono ?_;rintro e w' ⟨rfl,rfl⟩));go_ret3;exact⟨rfl,by go_grown⟩
theorem zug(p i k:Int)(w:World)(j:0<=p/\p<=64)(hi:0<=i/\i<=16):
  Calls Tryz.prog 67 #[p,i,k] w fun e w'=>e= .returned (.int .i64 (p*64+i*zbj k))/\w'=w:=by
 have hs:=znt k;have b:=zk3 (c:=i) (m:=zbj k) (C:=16) (M:=32) (by omega) (by omega);have l:=wrp (p*64);have n:=wrp (i*zbj k);have o:=wrp (p*64+i*zbj k);go_in;go_wp2_with (go_at_call 68;refine(zgq _ _).mono ?_;rintro e w' ⟨rfl,rfl⟩);go_ret;exact⟨rfl,rfl⟩
section

variable {P:Program} {ops:Array Oper} {md:Region.Mode} {C:World->Prop}

def z3n (P:Program) (md:Region.Mode) (ops:Array Oper) (C:World->Prop) (n:Nat) (L:Array Bool->Act->Prop):Nat->Array Bool->Act->Prop
 | 0,listed,a=> L listed a
 | f + 1,listed,a=> Region.ready md ops listed≠ []/\∀ i ∈ Region.ready md ops listed,i < n/\qOp P ops C i (z3n P md ops C n L f (listed.setIfInBounds i true)) a
theorem z3r{n g:Nat}{L:Array Bool->Act->Prop}{Q':Exit->Act->World->Prop}(p:∀ listed a w,C w->L listed a->wpAny P md ops Q' g listed a w)(f:Nat):
  ∀ (listed:Array Bool) (a:Act) (w:World),C w->z3n P md ops C n L f listed a->wpAny P md ops Q' (f+g) listed a w:=by
 induction f with
 |zero=>intro listed a w b h;rw[Nat.zero_add];exact p _ _ _ b h;|succ f q=>intro listed a w b h;rw[show f+1+g=(f+g)+1 by omega];exact⟨fun o=>absurd o h.1,fun i hi=>wpOp_of_qOp b (fun l w' j m=>q _ l w' j m) (h.2 i hi).2⟩
theorem zvv{n i:Nat}{J:Oper}{v:Value}{L:Array Bool->Act->Prop}(hi:ops[i]?=some J)(y:∀ (j:Nat) (o:Oper) cs b,ops[j]?=some o->o.op≠ .select cs b)
  (hs:Region.sinkB md ops n=true) (hc:Region.chainB md ops n=true) (hn:n<ops.size) (R:i<n)
  (z:∀ listed a,L listed a->∀ j ∈ Region.ready md ops listed,n<=j) (f:Nat):
  ∀ (listed:Array Bool) (a:Act),HeadInv md ops n listed->
   (∀ j D,ops[j]?=some D->j≠i->listed.getD j true=false->(∀ e ∈ D.after,Region.binds md e=true->e.on≠i)->J.apart ops D=true)->
   i ∈ Region.ready md ops listed->YieldsIn P ops C J v a->z3n P md ops C n L f (listed.setIfInBounds i true) (a.put J.dst v)->z3n P md ops C n L (f+1) listed a:=by
 have small:∀ listed:Array Bool,HeadInv md ops n listed->i ∈ Region.ready md ops listed->∀ j ∈ Region.ready md ops listed,j<n:=fun listed inv p j q=>by
  rcases Nat.lt_or_ge j n with h|h
  ·exact h
  exact absurd q (tail_waits hs hc hn inv _ i rfl R (mem_ready.1 p).1 j h)
 induction f with
 |zero=>
  intro listed a inv _ p N H;refine⟨fun h=>(by rw[h]at p;cases p),fun j q=>?_⟩;have r:=small listed inv p j q;by_cases l:j=i
  ·subst l;exact⟨r,N.qOp hi H⟩
  have:=z _ _ H j (ready_mono q l);omega
 |succ f ih=>
  intro listed a inv m p N H;refine⟨fun h=>(by rw[h]at p;cases p),fun j q=>?_⟩;have r:=small listed inv p j q;refine⟨r,?_⟩;by_cases l:j=i
  ·subst l;exact N.qOp hi H
  have M:=(H.2 j (ready_mono q l)).2;obtain⟨t,D,B,E⟩:=mem_ready.1 q;have G:∀ e ∈ D.after,Region.binds md e=true->e.on≠i:=fun e Y hb O=>by have M:=E e Y hb;rw[O,getD_both (mem_ready.1 p).1]at M;cases M
  have X:=qOp_put B (m j D B l t G) (fun cs b=>y i J cs b hi) (fun cs b=>y j D cs b B) N M;refine qOp_mono (fun V U=>ih (listed.setIfInBounds j true) V (inv.set q r) (fun k ok Z S I T=>?_) (ready_mono p (Ne.symm l)) U.1 ?_) X
  ·refine m k ok Z S ?_ T;by_cases F:j=k
   ·subst F;exact t
   rw[getD_set_ne true F]at I;exact I
  rw[Array.setIfInBounds_comm _ _ l];exact U.2
theorem z3y{n g:Nat}{t:Act->Prop}(m:Region.noSelect ops=true)(hs:Region.sinkB md ops n=true)(hc:Region.chainB md ops n=true)(H:n<ops.size)(l:List Oper):
  ∀ (k:Nat) (listed:Array Bool) (a:Act),(∀ j,j<l.length->l[j]?=ops[k+j]?)->k+l.length=n->HeadInv md ops n listed->
  Region.lexHead md ops g l.length k listed=true->wpQuiet P ops C t l a->z3n P md ops C n (fun b B=>Region.seqB md ops g n b=true/\t B) l.length listed a:=by
 induction l with
 |nil=>
  intro k listed a _ r _ q h;have:k=n:=by simpa using r
  subst this;exact⟨by simpa[Region.lexHead] using q,h⟩
 |cons o l L=>
  intro k listed a D r inv q h;have p:ops[k]?=some o:=by simpa using(D 0 (by simp)).symm
  simp only[List.length_cons,Region.lexHead,Bool.and_eq_true]at q;obtain⟨⟨I,G⟩,y⟩:=q;have f:k<n:=by simp only[List.length_cons]at r;omega
  have i:k ∈ Region.ready md ops listed:=by simpa using I
  have z:qOp P ops C k (wpQuiet P ops C t l) a:=by unfold qOp;simp only[p];exact h
  obtain⟨v,J,E⟩:=yieldsIn_of_qOp p z
  exact zvv p (Region.noSelect_spec m) hs hc H f (fun b B F=>seqB_ready F.1) l.length listed a inv (Region.free_spec p G) i J
   (L (k+1) _ _ (fun j M=>by have:=D (j+1) (by simp;omega);simpa[Nat.add_assoc,Nat.add_comm 1 j] using this) (by simp only[List.length_cons]at r;omega) (inv.set i f) y E)
theorem zit{L:Nat}{Q:Exit->Act->World->Prop}{a:Act}{w:World}{l:List Oper}(n:Nat)(G:P.follows .mixedOrders=true)(y:Region.lexTailB .any l.toArray n=true)(F:C {w with drawn:=w.drawn+1})
  (h:wpQuiet P l.toArray C (fun p=>∀ w',C w'->wpList P l.toArray Q (l.drop n) p w') (l.take n) a):(Code.region L l.toArray true).wp P Q a w:=by
 simp only[Region.lexTailB,Bool.and_eq_true,decide_eq_true_eq]at y;obtain⟨⟨⟨⟨m,E⟩,hs⟩,hc⟩,i⟩:=y;have I:n<l.length:=by simpa using E
 have b:(l.take n).length=n:=by simp;omega
 have f:(l.drop n).length=l.toArray.size-n:=by simp
 have o:HeadInv .any l.toArray n (Array.replicate l.toArray.size false):=
  ⟨by simp,fun j M _ D=>(by rw[getD_replicate_false]at D;cases D),fun t _ J=>getD_in (by simpa using J) (getD_replicate_false _ _)⟩
 have H:=z3y (md:= .any) (g:=l.toArray.size-n) m hs hc E (l.take n) 0 _ a (fun j B=>by
  have q:j<n:=by rw[b]at B;exact B
  simp[q]) (by simpa using b) o (by rw[b];exact i) h
 refine wp_region_any G ?_
 have:=z3r (Q':=Q) (g:=l.toArray.size-n) (fun listed p w' r z=>by
  have:=wpAny_of_seq (md:= .any) (Q':=Q) (l.drop n) n listed p w' (fun j=>by simp[List.getElem?_drop]) (by rw[f];exact z.1) (z.2 w' r)
  rwa [f]at this) _ _ _ _ F H
 rw[b,show n+(l.toArray.size-n)=l.toArray.size by omega]at this;exact this
end

theorem zad{P:Program}{j:Nat}{Q:Exit->Act->World->Prop}{a:Act}{w:World}{l:List Oper}(n:Nat)(i:P.follows .mixedOrders=true)(f:Region.lexTailB .any l.toArray n=true)
  (h:wpQuiet P l.toArray (fun w'=>∃ e:Ext w,w'=e.w) (fun b=>∀ w',(∃ e:Ext w,w'=e.w)->wpList P l.toArray Q (l.drop n) b w') (l.take n) a):(Code.region j l.toArray true).wp P Q a w:=
 zit n i f ⟨⟨_,br.drew⟩,rfl⟩ h
end

end Go.Proofs.YtkbddndcegpllaaGreat

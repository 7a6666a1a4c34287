/- Lemmas for the claim. -/
import Derived.Deep.RegionLawGrows

import Derived.Deep.RegionHeldLaw

import Derived.Test.YtkilokkopbajkaaGreatBw7

set_option linter.all false
set_option maxHeartbeats 1000000
namespace Go.Proofs.YtkilokkopbajkaaGreat

section

def mcC:Mc->Int
 | .tk t=> t.c
 | .sc t=> t.c
 | .pc t=> t.c
 | .sp t=> t.c
 | .bn t=> t.c
def SE (s:Sh):Mc->Int
 | .tk t=> vG s t
 | .sc t=> qD s t
 | .pc t=> uE s t
 | .sp t=> DD t
 | .bn t=> KE t
def YC (s:Sh) (t:Sk):Mc->Int
 | .tk _=> 67 * s.p + 32
 | .sc _=> 34 * s.p + 32
 | .pc _=> 32 * s.p + 32
 | .sp _=> 32 * (s.p - t.many - 1) + 32
 | .bn _=> 0
theorem UX{s:Sh}{x:Mc}{m:Mem}(h:mcOk s x)(hd:x.done=false)(b:Fits s m):Acts (mcC x) m (pB s x m).2/\mcC (pB s x m).1=mcC x/\SE s (pB s x m).1+1<=SE s x:=by
 cases x with
 |tk t=>exact OY h hd b
 |sc t=>exact vY h hd b
 |pc t=>exact z94 h hd b
 |sp t=>exact TS h hd b
 |bn t=>exact GY h hd b
theorem z9s(s:Sh)(t:Sk)(x:Mc)(m:Mem):YC s t (pB s x m).1=YC s t x:=by cases x<;>rfl
theorem aW{s:Sh}{x:Mc}(h:mcOk s x):0<=SE s x:=by
 cases x with
 |tk t=>exact z1k h
 |sc t=>exact z1y h
 |pc t=>exact zz7 h
 |sp t=>exact zP h
 |bn t=>exact zz0 h
def SB (s:Sh) (t:Sk):Int:=if t.done=true then 0 else match t.now with
 | none=> 32 * (s.p - t.many) + 32
 | some x=> SE s x + YC s t x
structure skIs (s:Sh) (cl k:Int) (t:Sk):Prop where
 ok:skOk s t
 c:t.c=cl
 k:t.k=k
 now:∀ x,t.now=some x->mcC x=cl
theorem JP{s:Sh}{cl k:Int}{t:Sk}(h:skIs s cl k t){pg sl:Int}(h2:skOk s (t.fin pg sl)):skIs s cl k (t.fin pg sl):=⟨h2,h.c,h.k,h.now⟩
theorem z6t{s:Sh}{cl k:Int}{t:Sk}{x:Mc}(h:skIs s cl k t)(hd:t.done=false)(q:t.now=some x)(r:x.done=true)(o:1<=s.p):skIs s cl k (t.after s x)/\SB s (t.after s x)<=SB s t:=by
 have b:=kL h.ok hd q r o;obtain⟨c1,c2,c3,c4,c5⟩:=h.ok.cl hd;have n:=aW (c5 x q).1;have F:SB s t=SE s x+YC s t x:=by unfold SB;rw[jN (by rw[hd];decide),q]
 rw[F];have j:∀ pg sl,SB s (t.fin pg sl)=0:=fun _ _=>rfl;have i:∀ p,SB s (t.bind s p)<=32:=fun p=>by have:=(HZ s t.c p t.k).1;unfold SB Sk.bind;dsimp only[SE,YC];rw[jN (by rw[hd];decide)];omega
 have f:∀ p,skOk s (t.bind s p)->skIs s cl k (t.bind s p):=fun p b=>⟨b,h.c,h.k,fun y D=>by
  simp only[Sk.bind,Option.some.injEq]at D
  subst D
  exact h.c⟩
 have C:SB s (t.turn s)<=32*(s.p-t.many-1)+32:=by unfold SB Sk.turn;dsimp only;simp only[decide_eq_true_eq];split<;>omega
 cases x with
 |tk y=>
  simp only[Sk.after]at b ⊢;split at b<;>rename_i l
  ·rw[jP l];refine⟨JP h b,?_⟩;rw[j];have:YC s t (.tk y)=67*s.p+32:=rfl;omega
  rw[jN l];refine⟨⟨b,h.c,h.k,fun z m=>?_⟩,?_⟩
  ·simp only[Option.some.injEq]at m;subst m;exact h.c
  have:=(WZ s t.c t.k t.first o).1;unfold SB;dsimp only[SE,YC]at n ⊢;rw[jN (by rw[hd];decide)];omega
 |sc y=>
  simp only[Sk.after]at b ⊢;split at b<;>rename_i l
  ·rw[jP l];refine⟨JP h b,?_⟩;rw[j];have:YC s t (.sc y)=34*s.p+32:=rfl;omega
  rw[jN l];refine⟨⟨b,h.c,h.k,fun z m=>?_⟩,?_⟩
  ·simp only[Option.some.injEq]at m;subst m;exact h.c
  have:=(DZ s t.c t.first o).1;unfold SB;dsimp only[SE,YC]at n ⊢;rw[jN (by rw[hd];decide)];omega
 |pc y=>
  simp only[Sk.after]at b ⊢;split at b<;>rename_i l
  ·rw[jP l];refine⟨f _ b,?_⟩;have h1:=i (y.page s);have:YC s t (.pc y)=32*s.p+32:=rfl;omega
  rw[jN l];refine⟨⟨b,h.c,h.k,fun z m=>(by cases m)⟩,?_⟩;unfold SB;dsimp only[SE,YC]at n ⊢;rw[jN (by rw[hd];decide)];omega
 |sp y=>
  simp only[Sk.after]at b ⊢;have G:YC s t (.sp y)=32*(s.p-t.many-1)+32:=rfl;split at b<;>rename_i l
  ·rw[jP l];refine⟨f _ b,?_⟩;have h1:=i (t.here s);omega
  rw[jN l];refine⟨⟨b,h.c,h.k,fun z m=>(by cases m)⟩,?_⟩;omega
 |bn y=>simp only[Sk.after]at b ⊢;refine⟨JP h b,?_⟩;rw[j];have:YC s t (.bn y)=0:=rfl;omega
theorem KW{s:Sh}{cl k:Int}(b:1<=s.p)(n:Nat):∀ {t:Sk},skIs s cl k t->skIs s cl k (mB s n t)/\SB s (mB s n t)<=SB s t:=by
 induction n with
 |zero=>intro t h;exact⟨h,Int.le_refl _⟩;|succ n i=>
  intro t h;unfold mB;split
  ·rename_i x f;split
   ·rename_i hc;have h1:=z6t h hc.1 f hc.2 b;have h2:=i h1.1;exact⟨h2.1,Int.le_trans h2.2 h1.2⟩
   exact⟨h,Int.le_refl _⟩
  exact⟨h,Int.le_refl _⟩
def eI (t:Sk):Prop:=t.done=true\/t.now=none\/∃ x,t.now=some x/\x.done=false
theorem zzt{s:Sh}(n:Nat):∀ {t:Sk},FC t<=n->eI (mB s n t):=by
 induction n with
 |zero=>
  intro t h;unfold FC at h;unfold mB;split at h
  ·rename_i hd;exact .inl hd
  split at h<;>rename_i i<;>first|exact .inr (.inl i)|omega
 |succ n j=>
  intro t h;unfold mB;split
  ·rename_i x f;split
   ·rename_i hc;have:=pJ (s:=s) hc.1 f;exact j (by omega)
   rename_i hc;rcases jB t.done with hd|hd
   ·exact .inl hd
   rcases jB x.done with b|b
   ·exact absurd ⟨hd,b⟩ hc
   exact .inr (.inr ⟨x,f,b⟩)
  rename_i f;exact .inr (.inl f)
theorem PU(s:Sh)(t:Sk):eI (mB s 5 t):=zzt 5 (Nat.le_trans (YV t) (by decide))
theorem z2i{s:Sh}{t:Sk}(h:skOk s t):0<=SB s t:=by
 unfold SB;split
 ·omega
 rename_i hd;obtain⟨c1,c2,c3,c4,c5⟩:=h.cl (by simpa using hd);split
 ·omega
 rename_i x b;have h1:=aW (c5 x b).1;have:0<=YC s t x:=by cases x<;>dsimp only[YC]<;>omega
 omega
theorem UZ{s:Sh}(c k f:Int)(j:mayB s.p s.c s.m=true):skIs s c k (sD s c k f)/\eI (sD s c k f)/\SB s (sD s c k f)<=67*s.p+s.m+33:=by
 have hb:=LA.1 j;have i:=jX s c k f;unfold sD at i ⊢;split at i
 ·rename_i h;rw[jP h];have h0:skIs s c k ⟨c,k,f,some (.tk (dD s c k)),0,0,0,false,false⟩:=by
   have h1:=mD h.1;have h3:=OE h.2.2;refine⟨⟨fun _=>⟨by dsimp only;omega,h.2.1,by dsimp only;omega,by dsimp only;omega,fun x b=>?_⟩,fun e=>(by cases e)⟩,rfl,rfl,fun x b=>?_⟩
   ·simp only[Option.some.injEq]at b;subst b;exact⟨JL _ _ _,rfl⟩
   simp only[Option.some.injEq]at b;subst b;rfl
  have h1:=KW (by omega) 5 h0;refine⟨h1.1,PU _ _,Int.le_trans h1.2 ?_⟩;have:=(vZ s c k (by omega)).1;unfold SB;dsimp only[SE,YC];rw[jN (by decide)];omega
 rename_i h;rw[jN h];refine⟨⟨i,rfl,rfl,fun x b=>(by cases b)⟩,.inl rfl,?_⟩;unfold SB;dsimp only;rw[jP rfl];omega
theorem WY{s:Sh}{cl k:Int}{t:Sk}{m:Mem}(h:skIs s cl k t)(hs:eI t)(hd:t.done=false)(n:Fits s m):Acts cl m (uB s t m).2/\skIs s cl k (uB s t m).1/\eI (uB s t m).1/\SB s (uB s t m).1+1<=SB s t:=by
 have q:1<=s.p:=n.bd.1;obtain⟨c1,c2,c3,c4,c5⟩:=h.ok.cl hd;have o:=ND h.ok.fd hd
 have i:SB s t=match t.now with
  |none=>32*(s.p-t.many)+32
  |some x=>SE s x+YC s t x:=by unfold SB;rw[jN (by rw[hd];decide)]
 have f:=z2o m q h.ok;unfold uB at f ⊢;rw[jN (by rw[hd];decide)]at f ⊢;rcases hs with hs|hs|⟨x,l,r⟩
 ·rw[hd]at hs;cases hs
 ·rw[hs]at f i ⊢;dsimp only at f i ⊢;have y:=t.XP q;refine⟨(Acts.load (n.ID y)).of h.c,?_⟩;split at f<;>rename_i j
  ·rw[jP j];refine⟨⟨f,h.c,h.k,fun z b=>?_⟩,.inr (.inr ⟨_,rfl,?_⟩),?_⟩
   ·simp only[Option.some.injEq]at b;subst b;exact h.c
   ·have h1:=(qJ.1 j.1).2.1;have h2:=OE h1;have h3:=(oJ j.1 j.2).2.2;have h4:0<=zA s.p s.c s.m t.c:=by unfold zA;rw[jP ⟨h2.1,IA.2 (by omega)⟩];exact c1.1
    simp[Mc.done,pC,h1,h3,h4]
   rw[i];have:=(WT s t.c (t.here s) (nA (m.get (pA s.p s.c s.m (t.here s))) 0)).1;unfold SB;dsimp only[SE,YC];rw[jN (by rw[hd];decide)];omega
  rw[jN j];refine⟨⟨f,h.c,h.k,fun z b=>(by cases b)⟩,.inr (.inl rfl),?_⟩;rw[i];unfold SB Sk.turn;dsimp only;simp only[decide_eq_true_eq];split<;>omega
 rw[l]at f i ⊢;dsimp only at f i ⊢;have h1:=UX (c5 x l).1 r n;have hc:=h.now x l;have h0:skIs s cl k {t with now:=some (pB s x m).1}:=by
  refine⟨⟨fun _=>⟨c1,c2,c3,c4,fun z b=>?_⟩,fun e=>(by have e:t.found=true:=e;rw[o]at e;cases e)⟩,h.c,h.k,fun z b=>?_⟩
  ·simp only[Option.some.injEq]at b;subst b;exact⟨AL m (c5 x l).1,dL (t:=t) m (c5 x l).2⟩
  simp only[Option.some.injEq]at b;subst b;exact h1.2.1.trans hc
 have h2:=KW q 5 h0;refine⟨h1.1.of hc,h2.1,PU _ _,?_⟩;have h3:SB s {t with now:=some (pB s x m).1}=SE s (pB s x m).1+YC s t x:=by rw[<-z9s s t x m];unfold SB;rw[jN (by rw[hd];decide)];cases (pB s x m).1<;>rfl
 omega
def WB (s:Sh) (t:Rn):Int:=if t.done=true then 0
 else if t.next=0 then 50 * (s.p - t.at') + (t.at' - t.head) + 8
 else if t.next=1 then 50 * (s.p - t.at' - 1) + (t.at' - t.head) + 10
 else if t.next=2 then 50 * (s.p - t.at' - 1) + (match t.strip with | some x=> DD x | none=> 0) + (t.at' - t.head) + 25
 else if t.next=3 then 50 * (s.p - t.at' - 1) + (16 - t.i) + (t.at' - t.head) + 9
 else if t.next=4 then 50 * (s.p - t.at' - 1) + (t.i - t.head) + 8
 else t.head + t.pages - t.i
structure rnIs (s:Sh) (cl n:Int) (t:Rn):Prop where
 ok:rnOk s t
 c:t.c=cl
 n:t.pages=n
 st:∀ x,t.strip=some x->x.c=cl
theorem yev{s:Sh}{t:Rn}(h:rnOk s t)(hd:t.done=false):1<=WB s t:=by
 obtain⟨c1,c2,c3,c4,c5,c6,c7,c8,c9,b⟩:=h.cl hd;unfold WB;rw[jN (by rw[hd];decide)];split
 ·have:=c6 (by omega);omega
 split
 ·have:=c6 (by omega);omega
 split
 ·rename_i n2;have:=c6 (by omega);obtain⟨x,i,f,j⟩:=c7 n2;have:=zP f;rw[i];dsimp only;omega
 split
 ·rename_i n3;have:=c6 (by omega);have:=c8 n3;omega
 split
 ·rename_i n4;have:=c6 (by omega);have:=c9 n4;omega
 have:=b (by omega);omega
theorem PT{s:Sh}{t:Rn}(hd:t.done=false)(h2:1<=t.pages/\t.pages<=8)(h4:t.head<=t.at'/\t.at'<t.head+t.pages)(f:t.head+t.pages<=s.p):WB s t.own<=50*(s.p-t.at'-1)+(t.at'+1-t.head)+8/\t.own.c=t.c/\t.own.pages=t.pages/\t.own.strip=t.strip:=by
 unfold Rn.own Rn.written;have b:¬ t.done=true:=by rw[hd];decide
 split
 ·dsimp only;split
  ·refine⟨?_,rfl,rfl,rfl⟩;unfold WB;dsimp only;rw[jP rfl];omega
  refine⟨?_,rfl,rfl,rfl⟩;unfold WB;dsimp only;rw[jN b,jN (by decide),jN (by decide),jN (by decide),jN (by decide),jN (by decide)];omega
 refine⟨?_,rfl,rfl,rfl⟩;unfold WB;dsimp only;rw[jN b,jP rfl];omega
theorem qT{s:Sh}{t:Rn}(hd:t.done=false)(f:t.next=4)(h2:t.pages<=s.p)(j:t.at'<s.p)(l:t.head<=t.i):WB s (t.gone s)<=50*(s.p-t.at'-1)+(t.i-t.head)+8/\(t.gone s).c=t.c/\(t.gone s).pages=t.pages/\(t.gone s).strip=t.strip:=by
 unfold Rn.gone;have b:¬ t.done=true:=by rw[hd];decide
 split
 ·refine⟨?_,rfl,rfl,rfl⟩;unfold WB;rw[jN b,jN (by omega),jN (by omega),jN (by omega),jN (by omega),jP f];omega
 refine⟨?_,rfl,rfl,rfl⟩;unfold WB;dsimp only;simp only[decide_eq_true_eq,if_true];split<;>omega
theorem oQ{s:Sh}{t:Rn}(hd:t.done=false)(h2:t.pages<=s.p)(h4:t.head<=t.at')(b:t.at'<s.p):WB s (t.miss s)<=50*(s.p-t.at'-1)+(t.at'-t.head)+8/\(t.miss s).c=t.c/\(t.miss s).pages=t.pages/\(t.miss s).strip=t.strip:=
 qT (t:= {t with next:=4,i:=t.at'}) hd rfl h2 b h4
theorem pY{s:Sh}{cl n:Int}{t:Rn}{m:Mem}(h:rnIs s cl n t)(hd:t.done=false)(G:Fits s m):Acts cl m (VB s t m).2/\rnIs s cl n (VB s t m).1/\WB s (VB s t m).1+1<=WB s t:=by
 obtain⟨c1,c2,c3,c4,c5,c6,c7,c8,c9,H⟩:=h.ok.cl hd;have l:¬ t.done=true:=by rw[hd];decide
 have b:=z0v m h.ok
 have S:WB s t=if t.next=0 then 50*(s.p-t.at')+(t.at'-t.head)+8
  else if t.next=1 then 50*(s.p-t.at'-1)+(t.at'-t.head)+10
  else if t.next=2 then 50*(s.p-t.at'-1)+(match t.strip with|some x=>DD x|none=>0)+(t.at'-t.head)+25
  else if t.next=3 then 50*(s.p-t.at'-1)+(16-t.i)+(t.at'-t.head)+9
  else if t.next=4 then 50*(s.p-t.at'-1)+(t.i-t.head)+8
  else t.head+t.pages-t.i:=by unfold WB;rw[jN l]
 have o:∀ u:Rn,rnOk s u->u.c=t.c->u.pages=t.pages->(u.strip=t.strip\/∃ x,u.strip=some x/\x.c=t.c)->rnIs s cl n u:=fun u b N O I=>⟨b,N.trans h.c,O.trans h.n,fun x C=>by
  rcases I with I|⟨y,I,R⟩
  ·exact h.st x (I ▸ C)
  ·rw[I]at C;injection C with C;subst C;exact R.trans h.c⟩
 rw[S];unfold VB at b ⊢;dsimp only at b ⊢;rw[jN l]at b ⊢;by_cases F:t.next=0
 ·have c6:=c6 (by omega);have q:=G.ID (x:=t.at') (by omega);have j:=oQ (s:=s) hd (by omega) c4.1 (by omega);rw[jP F]at b ⊢;rw[jP F];dsimp only at b ⊢;refine⟨(Acts.load q).of h.c,?_⟩;split at b<;>rename_i h1
  ·rw[jP h1];refine⟨o _ b rfl rfl (.inl rfl),?_⟩;unfold WB;dsimp only;rw[jN l,jN (by decide),jP rfl];omega
  rw[jN h1];split at b<;>rename_i h2
  ·rw[jP h2];refine⟨o _ b rfl rfl (.inr ⟨_,rfl,rfl⟩),?_⟩;have:=(WT s t.c t.at' (nA (m.get (pA s.p s.c s.m t.at')) 0)).1;unfold WB;dsimp only;rw[jN l,jN (by decide),jN (by decide),jP rfl];omega
  rw[jN h2];exact⟨o _ b j.2.1 j.2.2.1 (.inl j.2.2.2),by omega⟩
 rw[jN F]at b ⊢;rw[jN F];by_cases n1:t.next=1
 ·have c6:=c6 (by omega);have q:=G.ID (x:=t.at') (by omega);have j:=oQ (s:=s) hd (by omega) c4.1 (by omega);have f:=PT (s:=s) hd c2 ⟨c4.1,c6⟩ c3.2;rw[jP n1]at b ⊢;rw[jP n1];dsimp only at b ⊢;refine⟨(Acts.swap q (sL _)).of h.c,?_⟩;split at b<;>rename_i h1
  ·rw[jP h1];exact⟨o _ b f.2.1 f.2.2.1 (.inl f.2.2.2),by omega⟩
  rw[jN h1];exact⟨o _ b j.2.1 j.2.2.1 (.inl j.2.2.2),by omega⟩
 rw[jN n1]at b ⊢;rw[jN n1];by_cases n2:t.next=2
 ·have c6:=c6 (by omega);obtain⟨x,C,J,M⟩:=c7 n2;have r:=TS J M G;have z:=h.st x C;have U:=zP (AP m J);have D:=h.c;rw[jP n2,C]at b ⊢;rw[jP n2];dsimp only at b ⊢;refine⟨r.1.of z,?_⟩;split at b<;>rename_i h1
  ·rw[jP h1];refine⟨o _ b rfl rfl (.inr ⟨_,rfl,by rw[r.2.1,z,D]⟩),?_⟩;unfold WB;dsimp only;rw[jN l,jN (by decide),jN (by decide),jN (by decide),jP rfl];omega
  rw[jN h1];split at b<;>rename_i h2
  ·rw[jP h2];have j:=oQ (s:=s) (t:= {t with strip:=some (LC s x m).1}) hd (by dsimp only;omega) c4.1 (by dsimp only;omega);dsimp only at j;refine⟨o _ b j.2.1 j.2.2.1 (.inr ⟨_,j.2.2.2,by rw[r.2.1,z,D]⟩),?_⟩;omega
  rw[jN h2];refine⟨o _ b rfl rfl (.inr ⟨_,rfl,by rw[r.2.1,z,D]⟩),?_⟩;unfold WB;dsimp only;rw[jN l,jN F,jN n1,jP n2];omega
 rw[jN n2]at b ⊢;rw[jN n2];by_cases n3:t.next=3
 ·have c6:=c6 (by omega);have c8:=c8 n3;have q:=G.ME (x:=t.at') (i:=t.i) (by omega) (by omega);rw[jP n3]at b ⊢;rw[jP n3];dsimp only at b ⊢;refine⟨(Acts.store q aG).of h.c,?_⟩;split at b<;>rename_i h1
  ·rw[jP h1];have f:=PT (s:=s) (t:= {t with i:=t.i+1}) hd c2 ⟨c4.1,c6⟩ c3.2;dsimp only at f;exact⟨o _ b f.2.1 f.2.2.1 (.inl f.2.2.2),by omega⟩
  rw[jN h1];refine⟨o _ b rfl rfl (.inl rfl),?_⟩;unfold WB;dsimp only;rw[jN l,jN F,jN n1,jN n2,jP n3];omega
 rw[jN n3]at b ⊢;rw[jN n3];by_cases n4:t.next=4
 ·have c6:=c6 (by omega);have c9:=c9 n4;have q:=G.ID (x:=t.i-1) (by omega);rw[jP n4]at b ⊢;rw[jP n4];dsimp only at b ⊢;have L:=qT (s:=s) (t:= {t with i:=t.i-1}) hd n4 (by dsimp only;omega) (by dsimp only;omega) (by dsimp only;omega);dsimp only at L;exact⟨(Acts.store q (eF _ _ _)).of h.c,o _ b L.2.1 L.2.2.1 (.inl L.2.2.2),by omega⟩
 rw[jN n4]at b ⊢;rw[jN n4];have n5:t.next=5:=by omega
 have H:=H n5;have q:=G.ID (x:=t.i) (by omega);dsimp only at b ⊢;refine⟨(Acts.store q (eF _ _ _)).of h.c,?_⟩;unfold Rn.written at b ⊢;split at b<;>rename_i h1
 ·rw[jP h1];refine⟨o _ b rfl rfl (.inl rfl),?_⟩;unfold WB;dsimp only;rw[jP rfl];omega
 rw[jN h1];refine⟨o _ b rfl rfl (.inl rfl),?_⟩;unfold WB;dsimp only;rw[jN l,jN F,jN n1,jN n2,jN n3,jN n4];omega
theorem yfb{s:Sh}(c n:Int)(b:mayB s.p s.c s.m=true):rnIs s c n (UC s c n)/\WB s (UC s c n)<=50*s.p+8:=by
 have hb:=LA.1 b;refine⟨⟨xX _ _ _,rfl,rfl,fun x f=>(by cases f)⟩,?_⟩;unfold WB UC;dsimp only;split
 ·omega
 rw[jP rfl];omega
theorem z2y{s:Sh}{t:Rn}(h:rnOk s t):0<=WB s t:=by
 rcases jB t.done with hd|hd
 ·unfold WB;rw[jP hd];omega
 have:=yev h hd;omega
structure rsIs (s:Sh) (cl:Int) (t:Rs):Prop where
 sk:∀ x,t.seeker=some x->skIs s cl t.k x/\eI x
 rn:∀ x,t.runner=some x->rnIs s cl t.pages x
def sG (s:Sh) (t:Rs):Int:=match t.seeker,t.runner with
 | some x,_=> SB s x
 | none,some x=> WB s x
 | none,none=> 0
theorem pI{s:Sh}{cl:Int}{t:Rs}(h:rsIs s cl t):0<=sG s t:=by
 obtain⟨k,pg,sk,rn⟩:=t;rcases sk with _|x
 ·rcases rn with _|y
  ·exact Int.le_refl _
  exact z2y (h.rn y rfl).ok
 exact z2i (h.sk x rfl).1.ok
theorem pQ{s:Sh}{cl:Int}{t:Rs}{m:Mem}(h:rsIs s cl t)(hd:t.done=false)(f:Fits s m):Acts cl m (yB s t m).2/\rsIs s cl (yB s t m).1/\sG s (yB s t m).1+1<=sG s t:=by
 obtain⟨k,pg,sk,rn⟩:=t;rcases sk with _|x
 ·rcases rn with _|y
  ·cases hd
  have h1:=pY (h.rn y rfl) hd f;exact⟨h1.1,⟨fun z b=>(by cases b),fun z b=>(by injection b with b;subst b;exact h1.2.1)⟩,h1.2.2⟩
 have h1:=WY (h.sk x rfl).1 (h.sk x rfl).2 hd f;exact⟨h1.1,⟨fun z b=>(by injection b with b;subst b;exact⟨h1.2.1,h1.2.2.1⟩),h.rn⟩,h1.2.2.2⟩
theorem bO{s:Sh}(c n f:Int)(i:mayB s.p s.c s.m=true):rsIs s c (CB s c n f)/\sG s (CB s c n f)<=67*s.p+s.m+33:=by
 have hb:=LA.1 i;unfold CB;split
 ·have h1:=UZ c (BB n) f i;exact⟨⟨fun x b=>(by injection b with b;subst b;exact⟨h1.1,h1.2.1⟩),fun x b=>(by cases b)⟩,h1.2.2⟩
 split
 ·have h1:=yfb c (runV n) i;refine⟨⟨fun x b=>(by cases b),fun x b=>(by injection b with b;subst b;exact h1.1)⟩,?_⟩;have:sG s ⟨0,runV n,none,some (UC s c (runV n))⟩=WB s (UC s c (runV n)):=rfl;omega
 exact⟨⟨fun x b=>(by cases b),fun x b=>(by cases b)⟩,by show (0:Int)<=_;omega⟩
theorem MG{s:Sh}{cl:Int}{t:Rs}{b:Blk}(h:rsIs s cl t)(j:mayB s.p s.c s.m=true)(hc:0<=cl/\cl<s.c)(f:t.got=some b):b.fits s cl=true/\t.done=true:=by
 obtain⟨k,pg,sk,rn⟩:=t;rcases sk with _|x
 ·rcases rn with _|y
  ·cases f
  have h1:=h.rn y rfl;unfold Rs.got at f;dsimp only at f;split at f
  ·rename_i i;injection f with f;subst f;have h2:=h1.ok.fd i;have h3:=h1.n;dsimp only at h3;refine⟨HE.2 ⟨j,hc,by dsimp only;omega,fun _=>by dsimp only;omega,fun e=>(by cases e)⟩,h2.1⟩
  cases f
 have h1:=(h.sk x rfl).1;unfold Rs.got at f;dsimp only at f;split at f
 ·rename_i i;injection f with f;subst f;have h2:=h1.ok.fd i;have h3:=h1.k;dsimp only at h3;refine⟨HE.2 ⟨j,hc,by dsimp only;omega,fun e=>(by cases e),fun _=>by dsimp only;rw[<-h3];omega⟩,h2.1⟩
 cases f
theorem rT{s:Sh}{t:Cm}{m:Mem}(h:t.b.fits s t.c=true)(hd:t.done=false)(f:Fits s m):Acts t.c m (zB s t m).2/\(zB s t m).1= {t with done:=true}:=by
 have h1:=HE.1 h;unfold zB;rw[jN (by rw[hd];decide)];refine⟨?_,rfl⟩;dsimp only;cases hl:t.b.large
 ·rw[jN (by decide)];have h2:=h1.2.2.2.2 hl;have h3:=MD (by omega:0<mA t.b.k);exact .store (f.ME h1.2.2.1 (by omega)) (zx7 _)
 rw[jP rfl];exact .store (f.ID h1.2.2.1) (eF _ _ _)
def CD (t:Un):Int:=if t.done=true then 0 else if t.b.large=true then t.b.pages - t.i else 1
theorem ET{s:Sh}{t:Un}(h:unOk s t)(hd:t.done=false):1<=CD t:=by
 have h1:=(h.cl hd).2;unfold CD;rw[jN (by rw[hd];decide)];split
 ·rename_i b;have:=h1 b;omega
 omega
theorem TY{s:Sh}{t:Un}{m:Mem}(h:unOk s t)(hd:t.done=false)(f:Fits s m):Acts t.c m (LB s t m).2/\(LB s t m).1.c=t.c/\(LB s t m).1.b=t.b/\CD (LB s t m).1+1<=CD t:=by
 obtain⟨j,hi⟩:=h.cl hd;have h1:=HE.1 j;have l:CD t=if t.b.large=true then t.b.pages-t.i else 1:=by unfold CD;rw[jN (by rw[hd];decide)]
 rw[l];unfold LB;rw[jN (by rw[hd];decide)];cases hl:t.b.large
 ·rw[jP rfl,jN (by decide)];have h2:=h1.2.2.2.2 hl;have h3:=MD (by omega:0<mA t.b.k);refine⟨.store (f.ME h1.2.2.1 (by omega)) (FL _),rfl,rfl,?_⟩;unfold CD;rw[jP rfl];omega
 rw[jN (by decide),jP rfl];have h2:=h1.2.2.2.1 hl;have hi:=hi hl;split
 ·refine⟨.store (f.ID h1.2.2.1) aG,rfl,rfl,?_⟩;unfold CD;rw[jP rfl];omega
 refine⟨.store (f.ID (by omega)) aG,rfl,rfl,?_⟩;unfold CD;dsimp only;rw[jN (by rw[hd];decide),jP hl];omega
theorem BZ{s:Sh}(c:Int)(b:Blk)(h:b.fits s c=true):CD (NC s c b)<=8/\(NC s c b).done=false:=by
 have h1:=HE.1 h;have hd:(NC s c b).done=false:=by simp[NC,h]
 refine⟨?_,hd⟩;unfold CD;rw[jN (by rw[hd];decide)];split
 ·rename_i f;have h2:=h1.2.2.2.1 f;simp only[NC];omega
 omega
structure feIs (s:Sh) (cl:Int) (t:Fe):Prop where
 ok:feOk s t
 c:t.c=cl
 put:∀ x,t.put=some x->x.c=cl
 gv:t.next<=1->t.gave=false
 gv2:2<=t.next->t.done=false->t.gave=true
def eC (s:Sh) (t:Fe):Int:=if t.done=true then 0 else if t.next=0 then s.m + 12 else if t.next=1 then s.m + 11
 else if t.next=2 then (match t.put with | some x=> UF s x | none=> 0) + 1 else if t.next=3 then 1 else t.pa - t.i
theorem ST{s:Sh}{t:Fe}(h:feOk s t)(l:0<=s.m)(hd:t.done=false):1<=eC s t:=by
 obtain⟨c1,c2,c3,c4,c5,c6,c7,c8,c9,b⟩:=h.cl hd;unfold eC;rw[jN (by rw[hd];decide)];split
 ·omega
 split
 ·omega
 split
 ·rename_i n2;obtain⟨_,x,i,f,j⟩:=c8 n2;have:=BW f;rw[i];dsimp only;omega
 split
 ·omega
 have:=b (by omega);omega
theorem mW{s:Sh}{t:Fe}(h:feOk s t)(b:0<=s.m):0<=eC s t:=by
 rcases jB t.done with hd|hd
 ·unfold eC;rw[jP hd];omega
 have:=ST h b hd;omega
theorem RT{s:Sh}(c a:Int)(b:mayB s.p s.c s.m=true):feIs s c (nB s c a)/\eC s (nB s c a)<=s.m+12:=by
 have hb:=LA.1 b;refine⟨⟨gX _ _ _,rfl,fun x f=>(by cases f),fun _=>rfl,fun e=>(by simp[nB]at e)⟩,?_⟩;unfold eC;split
 ·omega
 rw[jP (show (nB s c a).next=0 from rfl)];omega
theorem PS{s:Sh}{cl:Int}{t:Fe}{m:Mem}(h:feIs s cl t)(hd:t.done=false)(C:Fits s m)(G:m.fit):Acts cl m (KB s t m).2/\feIs s cl (KB s t m).1/\eC s (KB s t m).1+1<=eC s t/\(t.gave=true->(KB s t m).1.gave=true):=by
 obtain⟨c1,c2,c3,c4,c5,c6,c7,c8,c9,F⟩:=h.ok.cl hd;have hb:=C.bd;have l:¬ t.done=true:=by rw[hd];decide
 have b:=z1a m G h.ok
 have U:eC s t=if t.next=0 then s.m+12 else if t.next=1 then s.m+11
  else if t.next=2 then(match t.put with|some x=>UF s x|none=>0)+1 else if t.next=3 then 1 else t.pa-t.i:=by unfold eC;rw[jN l]
 have q:∀ u:Fe,u.done=true->eC s u=0:=fun u e=>by unfold eC;rw[jP e]
 have r:=C.ID c2;rw[U];unfold KB at b ⊢;rw[jN l]at b ⊢;by_cases D:t.next=0
 ·have j:=h.gv (by omega);rw[jP D]at b ⊢;rw[jP D];unfold Fe.look at b ⊢;dsimp only at b ⊢;refine⟨(Acts.load r).of h.c,?_⟩;split at b<;>rename_i h1
  ·rw[jP h1];refine⟨⟨b,h.c,h.put,fun _=>j,fun e=>(by dsimp only at e;omega)⟩,?_,fun e=>(by rw[j]at e;cases e)⟩;unfold eC;dsimp only;rw[jN l,jN (by decide),jP rfl];omega
  rw[jN h1];split at b<;>rename_i h2
  ·rw[jP h2];refine⟨⟨b,h.c,h.put,fun _=>j,fun e=>(by dsimp only at e;omega)⟩,?_,fun e=>(by rw[j]at e;cases e)⟩;unfold eC;dsimp only;rw[jN l,jN (by decide),jP rfl];omega
  rw[jN h2];refine⟨⟨b,h.c,h.put,fun _=>j,fun e=>(by dsimp only at e;omega)⟩,?_,fun e=>(by rw[j]at e;cases e)⟩;rw[q _ rfl];omega
 rw[jN D]at b ⊢;rw[jN D];by_cases n1:t.next=1
 ·have j:=h.gv (by omega);have c5:=c5 (by omega);have c6:=c6 (by omega);rw[jP n1]at b ⊢;rw[jP n1];unfold Fe.claim at b ⊢;dsimp only at b ⊢;by_cases N:t.pk=3
  ·have c6:1<=t.pa/\t.pa<=8/\t.pa<=s.p-t.page:=by rcases c6 with h|h<;>omega
   rw[jP N]at b ⊢;dsimp only at b ⊢;refine⟨(Acts.swap r (sL _)).of h.c,⟨b,h.c,h.put,fun e=>(by dsimp only at e;omega),fun _ e=>(by dsimp only at e ⊢;simpa using e)⟩,?_,fun e=>(by rw[j]at e;cases e)⟩;unfold eC;dsimp only;split
   ·omega
   rw[jN (by decide),jN (by decide),jN (by decide),jN (by decide)];omega
  have c6:t.pk=2/\0<mA t.pa/\(0<=t.slot/\t.slot<mA t.pa):=by rcases c6 with h|h;exact absurd h.1 N;exact h
  have O:=MD c6.2.1;have z:=C.ME (x:=t.page) (i:=t.slot) c2 (by omega);rw[jN N]at b ⊢;dsimp only at b ⊢;refine⟨(Acts.swap z (cM _)).of h.c,?_⟩;generalize X:decide (m.get (XA s.p s.c s.m t.page t.slot)=vE t.pa)=g at b ⊢;by_cases H:t.pb=t.c
  ·rw[jP H]at b ⊢;have I:=yfa s t.c t.page t.slot t.pa (by omega);rcases dH ({t with gave:=g,next:=2,put:=some (fD s t.c t.page t.slot t.pa)}:Fe) _ rfl with⟨h1,_⟩|⟨h1,h2,h3⟩|⟨h1,h2,h3⟩
   ·simp[fD]at h1
   ·rw[h3]at b ⊢;dsimp only at b ⊢;refine⟨⟨b,h.c,fun x n=>?_,fun e=>(by dsimp only at e;omega),fun _ e=>(by dsimp only at e ⊢;simpa using e)⟩,?_,fun e=>(by rw[j]at e;cases e)⟩
    ·have n:some (fD s t.c t.page t.slot t.pa)=some x:=n;injection n with n;subst n;exact I.2.trans h.c
    unfold eC;dsimp only;split
    ·omega
    rw[jN (by decide),jN (by decide),jN (by decide),jP rfl];omega
   rw[h3]at b ⊢;dsimp only at b ⊢;refine⟨⟨b,h.c,fun x n=>?_,fun e=>(by dsimp only at e;omega),fun _ e=>(by dsimp only at e ⊢;simpa using e)⟩,?_,fun e=>(by rw[j]at e;cases e)⟩
   ·have n:some (fD s t.c t.page t.slot t.pa)=some x:=n;injection n with n;subst n;exact I.2.trans h.c
   unfold eC;dsimp only;split
   ·omega
   rw[jN (by decide),jN (by decide),jP rfl];omega
  rw[jN H]at b ⊢;dsimp only at b ⊢;refine⟨⟨b,h.c,h.put,fun e=>(by dsimp only at e;omega),fun _ e=>(by dsimp only at e ⊢;simpa using e)⟩,?_,fun e=>(by rw[j]at e;cases e)⟩;unfold eC;dsimp only;split
  ·omega
  rw[jN (by decide),jN (by decide),jN (by decide),jP rfl];omega
 rw[jN n1]at b ⊢;rw[jN n1];have f:=h.gv2 (by omega) hd;have c6:=c6 (by omega);by_cases n2:t.next=2
 ·obtain⟨N,x,n,M,R⟩:=c8 n2;have J:=SY M R C;have L:=h.put x n;have V:=BW (GV m M);rw[jP n2,n]at b ⊢;rw[jP n2];dsimp only at b ⊢;refine⟨J.1.of L,?_⟩;have o:∀ y,some (TC s x m).1=some y->y.c=cl:=fun y S=>by injection S with S;subst S;exact J.2.1.trans L
  rcases dH ({t with put:=some (TC s x m).1}:Fe) _ rfl with⟨h1,h3⟩|⟨h1,h2,h3⟩|⟨h1,h2,h3⟩
  ·rw[h3]at b ⊢;exact⟨⟨b,h.c,o,fun e=>(by dsimp only at e;omega),fun _ _=>f⟩,by rw[q _ rfl];omega,fun _=>f⟩
  ·rw[h3]at b ⊢;refine⟨⟨b,h.c,o,fun e=>(by dsimp only at e;omega),fun _ _=>f⟩,?_,fun _=>f⟩;unfold eC;dsimp only;rw[jN l,jN (by decide),jN (by decide),jN (by decide),jP rfl];omega
  rw[h3]at b ⊢;refine⟨⟨b,h.c,o,fun e=>(by dsimp only at e;omega),fun _ _=>f⟩,?_,fun _=>f⟩;unfold eC;dsimp only;rw[jN l,jN D,jN n1,jP n2];omega
 rw[jN n2]at b ⊢;rw[jN n2];by_cases n3:t.next=3
 ·have c6:t.pk=2/\0<mA t.pa/\(0<=t.slot/\t.slot<mA t.pa):=by
   have:=c9 n3;rcases c6 with h|h
   ·omega
   exact h
  have O:=MD c6.2.1;have z:=C.ME (x:=t.page) (i:=t.slot) c2 (by omega);rw[jP n3]at b ⊢;rw[jP n3];exact⟨(Acts.store z (FL _)).of h.c,⟨b,h.c,h.put,fun e=>(by dsimp only at e;omega),fun _ _=>f⟩,by rw[q _ rfl];omega,fun _=>f⟩
 rw[jN n3]at b ⊢;rw[jN n3];have n4:t.next=4:=by omega
 have F:=F n4;have c6:1<=t.pa/\t.pa<=8/\t.pa<=s.p-t.page:=by rcases c6 with h|h<;>omega
 split at b<;>rename_i h1
 ·rw[jP h1];exact⟨(Acts.store r aG).of h.c,⟨b,h.c,h.put,fun e=>(by dsimp only at e;omega),fun _ _=>f⟩,by rw[q _ rfl];omega,fun _=>f⟩
 rw[jN h1];refine⟨(Acts.store (C.ID (by omega)) aG).of h.c,⟨b,h.c,h.put,fun e=>(by dsimp only at e;omega),fun _ _=>f⟩,?_,fun _=>f⟩;unfold eC;dsimp only;rw[jN l,jN D,jN n1,jN n2,jN n3];omega
end

section

open Go.RowKit

structure Fr where
 code:Int
 pc:Int
 regs:List Int
 deriving DecidableEq
def Fr.cells (f:Fr):List Value:= .int .i64 f.code:: .int .i64 f.pc::f.regs.map (.int .i64)
def flat (fs:List Fr):List Value:=fs.flatMap Fr.cells
def JG (fs:List Fr):Prop:=∀ f ∈ fs,f.regs.length=8
theorem KU{fs:List Fr}(h:JG fs):(flat fs).length=fs.length*10:=by
 induction fs with
 |nil=>rfl;|cons f fs i=>have h1:=h f (by simp);have h2:=i (fun g b=>h g (by simp[b]));simp only[flat,List.flatMap_cons,List.length_append]at h2 ⊢;simp only[Fr.cells,List.length_cons,List.length_map,h1,h2];omega
theorem HO(fs:List Fr)(f:Fr):flat (fs++[f])=flat fs++f.cells:=by simp[flat]
theorem flat_get{fs:List Fr}(h:JG fs)(i j:Nat)(hi:i<fs.length)(n:j<10):(flat fs)[i*10+j]?=(fs[i].cells)[j]?:=by
 induction fs generalizing i with
 |nil=>simp at hi
 |cons f fs m=>
  have h1:=h f (by simp)
  have l:f.cells.length=10:=by simp[Fr.cells,h1]
  have h2:JG fs:=fun g b=>h g (by simp[b])
  show (f.cells++flat fs)[i*10+j]?=_
  cases i with
  |zero=>rw[List.getElem?_append_left (by omega)];simp
  |succ i=>
   rw[List.getElem?_append_right (by omega),l,show (i+1)*10+j-10=i*10+j from by omega]
   simpa using m h2 i (by simpa using hi)
structure Stk (T E:TypeId) (B:Nat) (w:World) (s:Nat) (sl:Value) (most:Int) (fs:List Fr):Prop where
 lies:B<=s
 head:w.heap[s]?=some (.cells #[sl,most] T (0,0))
 owns:w.ownsRow B E 10 sl fs.length (flat fs)
 apart:sl.ownBlock≠some s
 regs:JG fs
def WV:Value:= .agg #[.int .i64 0,.int .i64 0,.int .i64 0,.int .i64 0,.int .i64 0,.int .i64 0,.int .i64 0,.int .i64 0,.int .i64 0,.int .i64 0]
def zZ:Fr:=⟨0,0, [0,0,0,0,0,0,0,0]⟩
def wG (fs:List Fr):Fr:=fs.getLast?.getD zZ
def Fr.put (f:Fr) (j:Nat) (x:Int):Fr:=if j=0 then { f with code:=x } else if j=1 then { f with pc:=x } else { f with regs:=f.regs.set (j - 2) x }
theorem Fr.z2m(f:Fr)(j:Nat)(x:Int):(f.put j x).cells=f.cells.set j (.int .i64 x):=by
 unfold Fr.put;match j with
 |0=>simp[Fr.cells]
 |1=>simp[Fr.cells]
 |j+2=>simp[Fr.cells,List.map_set]
theorem Fr.z5d(f:Fr)(j:Nat)(x:Int):(f.put j x).regs.length=f.regs.length:=by
 unfold Fr.put;split
 ·rfl
 split<;>simp
def qH (fs:List Fr) (j:Nat) (x:Int):List Fr:=fs.dropLast ++ [(wG fs).put j x]
theorem zod{fs:List Fr}(h:fs.length≠0)(j:Nat)(x:Int):(qH fs j x).length=fs.length:=by simp[qH];omega
theorem zx2{fs:List Fr}(h:fs.length≠0):fs=fs.dropLast++[wG fs]:=by
 have b:fs≠ []:=fun e=>h (by simp[e]);have:wG fs=fs.getLast b:=by simp[wG,List.getLast?_eq_some_getLast b]
 rw[this];exact(List.dropLast_concat_getLast b).symm
section

variable {T E:TypeId} {B:Nat} {w w':World} {s:Nat} {sl:Value} {most:Int} {fs:List Fr}

theorem Stk.lt(h:Stk T E B w s sl most fs):s<w.heap.size:=(jE h.head)
theorem Stk.lF(h:Stk T E B w s sl most fs):∀ k,sl.ownBlock=some k->B<=k/\k<w.heap.size:=h.owns.lt
theorem Stk.cell0(h:Stk T E B w s sl most fs):w.cell? ⟨s,0,.none⟩=some sl:=by simpa using cell_of_row w s 0 _ T (0,0) h.head
theorem Stk.cell1(h:Stk T E B w s sl most fs):w.cell? ⟨s,1,.none⟩=some (.int .i64 most):=by simpa using cell_of_row w s 1 _ T (0,0) h.head
theorem Stk.blocks(h:Stk T E B w s sl most fs)(hb:∀ k,foot s sl k->w'.heap[k]?=w.heap[k]?):Stk T E B w' s sl most fs:=
 ⟨h.lies,by rw[hb s (.inl rfl)];exact h.head,bC h.owns (fun k b=>hb k (.inr b)),h.apart,h.regs⟩
theorem Stk.below(h:Stk T E B w s sl most fs)(hb:Below w.heap.size w w'):Stk T E B w' s sl most fs:=
 h.blocks fun k b=>hb.block k (by rcases b with rfl|b;exact h.lt;exact(h.lF k b).2)
theorem Stk.form(h:Stk T E B w s sl most fs):(sl= .slice none 0 0/\fs= [])\/∃ g cap,sl= .slice (some ⟨g,0,.none⟩) fs.length cap/\fs.length<=cap/\g<w.heap.size/\g≠s/\B<=g/\(fs.length:Int)<=9223372036854775807/\
  ∀ i j,(hi:i<fs.length)->j<10->w.cell? ⟨g,i*10+j,.none⟩=(fs[i].cells)[j]?:=by
 rcases h.owns.2 with⟨h1,h2⟩|⟨g,cap,b,rfl,h1,h2,h3,h4,m,f⟩
 ·exact .inl ⟨h1,List.eq_nil_of_length_eq_zero h2⟩
 refine .inr ⟨g,cap,rfl,h3,(jE h2),fun e=>h.apart (by rw[e];rfl),h1,by simp only[maxLen]at h4;omega,fun i j hi l=>?_⟩;rw[cell_of_row w g _ b E (0,0) h2,<- flat_get h.regs i j hi l,<- f,List.getElem?_take,jP (by omega)];simp
theorem Only.stk{F:Nat->Prop}(i:Only F w w')(h:Stk T E B w s sl most fs)(f:∀ k,foot s sl k->¬ F k):Stk T E B w' s sl most fs:=
 h.blocks fun k b=>i.block k (by rcases b with rfl|b;exact h.lt;exact(h.lF k b).2) (f k b)
theorem zve{g cap j:Nat}{x:Int}(h:Stk T E B w s (.slice (some ⟨g,0,.none⟩) fs.length cap) most fs)(h0:fs.length≠0)(L:j<10):
  Stk T E B (w.setCell ⟨g,(fs.length-1)*10+j,.none⟩ (.int .i64 x)) s (.slice (some ⟨g,0,.none⟩) fs.length cap) most (qH fs j x):=by
 obtain⟨h1,h2,h3,h4,q⟩:=h;have r:s≠g:=fun e=>h4 (by rw[e];rfl);have e:=zx2 h0;have i:JG (qH fs j x):=by
  intro f l;rcases List.mem_append.1 l with l|l
  ·exact q f (List.dropLast_subset _ l)
  rw[List.mem_singleton.1 l,Fr.z5d];have z:wG fs ∈ fs.dropLast++[wG fs]:=by simp
  rw[<-e]at z;exact q _ z
 have t:JG fs.dropLast:=fun f l=>q f (List.dropLast_subset _ l);have y:=KU t;rw[List.length_dropLast]at y;have m:flat (qH fs j x)=(flat fs).set ((fs.length-1)*10+j) (.int .i64 x):=by
  have D:flat fs=flat fs.dropLast++(wG fs).cells:=by rw[<-HO,<- e]
  rw[qH,HO,Fr.z2m,D,List.set_append_right _ _ (by omega),y];congr 2;omega
 refine⟨h1,by rw[heap_setCell_other _ _ _ _ r];exact h2,⟨by rw[KU i],.inr ?_⟩,h4,i⟩;rcases h3.2 with⟨h,_⟩|⟨C,n,p,F,k1,G,M,H,I,J⟩
 ·cases h
 obtain⟨rfl,rfl⟩:g=C/\cap=n:=by injection F with a _ b;injection a with a;injection a with a;exact⟨a,b⟩
 have o:=zod h0 j x;refine⟨g,cap,_,by rw[o],k1,heap_setCell_same w g _ p E _ G,by omega,H,by simpa using I,?_⟩;rw[o,m,<- J,Array.toList_setIfInBounds,List.take_set]
end

end

section

open Go.RowKit

abbrev SK:=Stk 197 200
theorem zxv(m:Int)(w:World):
  Calls Tryz.prog 121 #[m] w fun e w'=>e= .returned (.pointer (some ⟨w.heap.size,0,.none⟩))/\w'=w.alloc (.cells #[.slice none 0 0,.int .i64 (if m<0\/16<m then 0 else m)] 197):=by
 go_in;go_wp2;all_goals go_ret
 all_goals exact⟨rfl,rfl⟩
theorem ZK{B:Nat}{w:World}{s:Nat}{sl:Value}{most:Int}{fs:List Fr}(h:SK B w s sl most fs):
  Calls Tryz.prog 108 #[some s] w fun e w'=>e= .returned (.int .i64 fs.length)/\w'=w:=by
 have c0:=h.cell0;have b:=h.form;rcases b with⟨rfl,rfl⟩|⟨g,cap,rfl,i,m,j,l,n,hc⟩
 ·clear h;go_in;go_wp2;all_goals go_ret
  all_goals exact⟨rfl,rfl⟩
 clear h hc;go_in;go_wp2;all_goals go_ret
 all_goals exact⟨rfl,rfl⟩
def JJ (sl:Value) (n:Nat):Option Addr:=match sl with
 | .slice (some a) _ _=> if n=0 then none else some ⟨a.block,(n - 1) * 10,.none⟩
 | _=> none
theorem zx5{B:Nat}{w:World}{s:Nat}{sl:Value}{most:Int}{fs:List Fr}(h:SK B w s sl most fs):
  Calls Tryz.prog 145 #[some s] w fun e w'=>e= .returned (.pointer (JJ sl fs.length))/\∃ n,w'=w.drewN n:=by
 have c0:=h.cell0;have b:=h.form;rcases b with⟨rfl,rfl⟩|⟨g,cap,rfl,i,p,l,o,q,hc⟩
 ·go_in;go_wp2_with (go_at_call 108;refine(ZK h).mono ?_;rintro e j ⟨rfl,rfl⟩);all_goals go_ret
  all_goals exact⟨rfl,0,rfl⟩
 by_cases h0:fs.length=0
 ·have m:((fs.length:Int)==0)=true:=by simp[h0]
  go_in;go_wp2_with (go_at_call 108;refine(ZK h).mono ?_;rintro e j ⟨rfl,rfl⟩);all_goals go_ret
  all_goals exact⟨by rw[JJ,jP h0];rfl,0,rfl⟩
 have m:((fs.length:Int)==0)=false:=by simpa using h0
 have r:(1:Int)<=(fs.length:Int):=by omega
 go_in;go_wp2_with (go_at_call 108;refine(ZK h).mono ?_;rintro e j ⟨rfl,rfl⟩);go_quiet (fail);go_wp2;all_goals go_ret
 exact⟨by rw[JJ,jN h0];rfl,nq,rfl⟩
theorem zy6{B:Nat}{w:World}{s:Nat}{sl:Value}{most:Int}{fs:List Fr}(h:SK B w s sl most fs)(h0:fs.length≠0):
  ∃ g cap code pc r0 r1 l m n o p q,sl= .slice (some ⟨g,0,.none⟩) fs.length cap/\JJ sl fs.length=some ⟨g,(fs.length-1)*10,.none⟩/\g<w.heap.size/\g≠s/\B<=g/\wG fs=⟨code,pc, [r0,r1,l,m,n,o,p,q]⟩/\
   w.cell? ⟨g,(fs.length-1)*10,.none⟩=some (.int .i64 code)/\w.cell? ⟨g,(fs.length-1)*10+1,.none⟩=some (.int .i64 pc)/\
   w.cell? ⟨g,(fs.length-1)*10+2,.none⟩=some (.int .i64 r0)/\w.cell? ⟨g,(fs.length-1)*10+3,.none⟩=some (.int .i64 r1)/\
   w.cell? ⟨g,(fs.length-1)*10+4,.none⟩=some (.int .i64 l)/\w.cell? ⟨g,(fs.length-1)*10+5,.none⟩=some (.int .i64 m)/\
   w.cell? ⟨g,(fs.length-1)*10+6,.none⟩=some (.int .i64 n)/\w.cell? ⟨g,(fs.length-1)*10+7,.none⟩=some (.int .i64 o)/\
   w.cell? ⟨g,(fs.length-1)*10+8,.none⟩=some (.int .i64 p)/\w.cell? ⟨g,(fs.length-1)*10+9,.none⟩=some (.int .i64 q)/\fs.length<=cap/\(fs.length:Int)<=9223372036854775807:=by
 rcases h.form with⟨rfl,rfl⟩|⟨g,cap,rfl,i,D,r,z,F,hc⟩
 ·simp at h0
 have t:fs.length-1<fs.length:=by omega
 have y:=h.regs _ (List.getElem_mem t);have G:wG fs=fs[fs.length-1]:=by simp[wG,List.getLast?_eq_getElem?,t]
 rw[G];generalize C:fs[fs.length-1]=f at y;have b:=fun j=>hc (fs.length-1) j t;rw[C]at b;obtain⟨code,pc,regs⟩:=f;match regs,y with
 | [r0,r1,l,m,n,o,p,q],_=>exact⟨g,cap,code,pc,r0,r1,l,m,n,o,p,q,rfl,by rw[JJ,jN h0],D,r,z,rfl,b 0 (by omega),b 1 (by omega),b 2 (by omega),b 3 (by omega),b 4 (by omega),b 5 (by omega),b 6 (by omega),b 7 (by omega),b 8 (by omega),b 9 (by omega),i,F⟩
theorem FO{w:World}{b:Nat}{cs:Array Value}{t:TypeId}(h:w.heap[b]?=some (.cells cs t (0,0)))(i:Nat):w.frozen? ⟨b,i,.none⟩=false:=by
 simp[World.frozen?,h]
theorem zqq{B:Nat}{w:World}{s:Nat}{g cap n:Nat}{most:Int}{fs:List Fr}(h:SK B w s (.slice (some ⟨g,0,.none⟩) n cap) most fs)(_h0:fs.length≠0)(i:Nat):w.frozen? ⟨g,i,.none⟩=false:=by
 rcases h.owns.2 with⟨h1,_⟩|⟨l,f,j,m,k1,o,_⟩
 ·cases h1
 obtain rfl:g=l:=by injection m with a _ b;injection a with a;injection a with a
 exact FO o i
theorem zz4{B:Nat}{w:World}{s:Nat}{sl:Value}{most pc':Int}{fs:List Fr}(h:SK B w s sl most fs)(h0:fs.length≠0):
  Calls Tryz.prog 124 #[some s,pc'] w fun e w'=>e= .returned (.bool true)/\Only (foot s sl) w w'/\SK B w' s sl most (qH fs 1 pc'):=by
 obtain⟨g,cap,code,pc,r0,r1,r,t,y,z,C,D,rfl,i,o,l,n,q,_,c1,_,_,_,_,_,_,_,_,j,p⟩:=zy6 h h0;have b:=zx5 h;rw[i]at b;have m:=zqq h h0;clear i;go_in;go_wp2_with (go_at_call 145;refine b.mono ?_;rintro e F ⟨rfl,nq,rfl⟩);go_ret;exact⟨rfl,Only.setCell (Only.drewN (Only.refl _ _) nq) (.inl (.inr rfl)) _,(zve h h0 (by decide)).blocks fun k _=>rfl⟩
theorem zq6{B:Nat}{w:World}{s:Nat}{sl:Value}{most:Int}{fs:List Fr}(h:SK B w s sl most fs):
  Calls Tryz.prog 127 #[some s] w fun e w'=>e= .returned (.tuple #[])/\Only (foot s sl) w w'/\SK B w' s (.slice none 0 0) most []:=by
 have i:=h.cell0;have j:=FO h.head;go_in;go_wp2;go_end0;refine⟨rfl,Only.setCell (Only.refl _ _) (.inl (.inl rfl)) _,h.lies,?_,World.ownsRow_nil _ _ _ _,by simp[Value.ownBlock],fun f b=>by cases b⟩;rw[heap_setCell_same w s 0 _ _ _ h.head];rfl
theorem z0j:(Tryz.prog.info? 200).map (fun i=>(i.zero,i.size,i.bytes))=some (some WV,10,80):=by kernel_rfl
theorem z3g{T E:TypeId}{B:Nat}{w Y:World}{s:Nat}{sl:Value}{most:Int}{fs:List Fr}(h:Stk T E B w s sl most fs)(hb:Below w.heap.size w Y):Y.ownsRow B E 10 sl fs.length (flat fs):=
 bC h.owns fun k b=>hb.block k (h.lF k b).2
def padded (zs:List Int):List Int:=zs ++ List.replicate (8 - zs.length) 0
theorem gU{zs:List Int}(h:zs.length<=8):(padded zs).length=8:=by simp[padded];omega
theorem zqx(code:Int){zs:List Int}(h:zs.length<=8):splice [.int .i64 code,.int .i64 0,.int .i64 0,.int .i64 0,.int .i64 0,.int .i64 0,.int .i64 0,.int .i64 0,.int .i64 0,.int .i64 0] 2 (zs.map (.int .i64))=(Fr.mk code 0 (padded zs)).cells:=by
 match zs,h with
 | [],_=>rfl
 | [_],_=>rfl
 | [_,_],_=>rfl
 | [_,_,_],_=>rfl
 | [_,_,_,_],_=>rfl
 | [_,_,_,_,_],_=>rfl
 | [_,_,_,_,_,_],_=>rfl
 | [_,_,_,_,_,_,_],_=>rfl
 | [_,_,_,_,_,_,_,_],_=>rfl
theorem ygr{l:List Int}(h:l.length=8):∃ a b c d e f g i,l= [a,b,c,d,e,f,g,i]:=by
 match l,h with
 | [a,b,c,d,e,f,g,i],_=>exact⟨a,b,c,d,e,f,g,i,rfl⟩
theorem zu5{fs:List Fr}{f:Fr}(h:JG fs)(i:f.regs.length=8):JG (fs++[f]):=by
 intro x b;rcases List.mem_append.1 b with b|b
 ·exact h x b
 rw[List.mem_singleton.1 b];exact i
theorem z0y{T E:TypeId}{B s g b K H:Nat}{w p Y i:World}{sl:Value}{most:Int}{fs:List Fr}{f:Fr}(h2:Stk T E B p s sl most fs)(n:i.ownsRow B E 10 (.slice (some ⟨g,0,.none⟩) (fs.length+1) b) (fs.length+1) (flat fs++f.cells)) (y:Y.grownBy i sl.ownBlock) (q:Below p.heap.size p Y)(C:Only (foot s sl) w p) (j:sl.ownBlock=some g\/g=K) (t:sl.ownBlock=some g\/g=K->sl.ownBlock=some g\/(H<=g/\p.heap.size<=g)) (D:JG (fs++[f])):
  Only (foot s sl) w (i.setCell ⟨s,0,.none⟩ (.slice (some ⟨g,0,.none⟩) (fs.length+1) b))/\∃ o,(∀ k,o.ownBlock=some k->sl.ownBlock=some k\/H<=k)/\
   Stk T E B (i.setCell ⟨s,0,.none⟩ (.slice (some ⟨g,0,.none⟩) (fs.length+1) b)) s o most (fs++[f]):=by
 have hs:=h2.lt;have r:some s≠sl.ownBlock:=fun e=>h2.apart e.symm;have z:i.heap[s]?=some (.cells #[sl,most] T (0,0)):=(y.block s (by have:=q.size;omega) r).trans ((q.block s hs).trans h2.head);have l:g≠s:=by
  rcases t j with h|⟨_,h⟩
  ·intro e;exact h2.apart (by rw[h,e])
  omega
 refine⟨Only.setCell (Only.grown (C.trans (Only.of_below (F:=fun _=>False) q) fun _ _ h=>h.elim) y fun k m=>.inl (.inr m)) (.inl (.inl rfl)) _,.slice (some ⟨g,0,.none⟩) (fs.length+1) b,?_,h2.lies,?_,?_,?_,D⟩
 ·intro k m;obtain rfl:g=k:=by injection m
  rcases t j with h|h
  ·exact .inl h
  exact .inr h.1
 ·rw[heap_setCell_same i s 0 _ T _ z];rfl
 ·have e:(fs++[f]).length=fs.length+1:=by simp
  rw[e,HO];exact bC n fun k m=>by
   obtain rfl:g=k:=by injection m
   exact heap_setCell_other _ _ _ _ l
 intro e;exact l (by injection e)
theorem zt0{B:Nat}{w:World}{s:Nat}{sl:Value}{most code:Int}{fs:List Fr}{ao:Option Addr}{zs:List Int}{cap:Nat}(h:SK B w s sl most fs)(h1:fs.length<most)(hz:zs.length<=8)(hB:B<=w.heap.size)(hm:most<=100000)(hc:∀ a,ao=some a->∀ j v,(zs.map (Value.int .i64))[j]?=some v->w.cell? (a.add j)=some v) (hn:ao=none->zs= []):
  Calls Tryz.prog 95 #[some s,code,.slice ao zs.length cap] w fun e w'=>e= .returned (.bool true)/\Only (foot s sl) w w'/\
   ∃ m,(∀ k,m.ownBlock=some k->sl.ownBlock=some k\/w.heap.size<=k)/\SK B w' s m most (fs++[⟨code,0,padded zs⟩]):=by
 have c0:=h.cell0;have c1:=h.cell1;have b8:∃ a c,sl= .slice a fs.length c:=by
  rcases h.form with⟨rfl,rfl⟩|⟨g,cap,rfl,_⟩
  ·exact⟨_,_,rfl⟩
  exact⟨_,_,rfl⟩
 obtain⟨a,c,rfl⟩:=b8;have h3:decide (most<=(fs.length:Int))=false:=by simp;omega
 have h4:decide ((8:Int)<(zs.length:Int))=false:=by simp;omega
 go_in;go_wp2_with fail;go_quiet (fail);have N:SK B (w.drewN nq) s (.slice a fs.length c) most fs:=h.blocks fun _ _=>rfl;have U:∀ a,ao=some a->∀ j v,(zs.map (Value.int .i64))[j]?=some v->(w.drewN nq).cell? (a.add j)=some v:=hc;have ho:Only (foot s (.slice a fs.length c)) w (w.drewN nq):=Only.drewN (Only.refl _ _) nq;have y:(w.drewN nq).heap.size=w.heap.size:=rfl;generalize w.drewN nq=W at *;clear c0 c1 hc h;have c0:=N.cell0;have bk:=N.lt;go_upto_region 4 with fail;have hu:=Tryz.underlying194;have k1:(W.alloc (.cells #[code,.int .i64 0,.int .i64 0,.int .i64 0,.int .i64 0,.int .i64 0,.int .i64 0,.int .i64 0,.int .i64 0,.int .i64 0] 200)).heap[w.heap.size]?=some (.cells #[code,.int .i64 0,.int .i64 0,.int .i64 0,.int .i64 0,.int .i64 0,.int .i64 0,.int .i64 0,.int .i64 0,.int .i64 0] 200 (0,0)):=by rw[<-y];exact jA W _
 have k2:(zs.map (Value.int .i64)).length=Nat.min zs.length 8:=by rw[List.length_map];exact(Nat.min_eq_left hz).symm
 have k3:0<(zs.map (Value.int .i64)).length->(some (⟨w.heap.size,2,.none⟩:Addr))=some ⟨w.heap.size,2,.none⟩/\∃ ad,ao=some ad/\∀ j v,(zs.map (Value.int .i64))[j]?=some v->(W.alloc (.cells #[code,.int .i64 0,.int .i64 0,.int .i64 0,.int .i64 0,.int .i64 0,.int .i64 0,.int .i64 0,.int .i64 0,.int .i64 0] 200)).cell? (ad.add j)=some v:=by
  intro hp
  refine⟨rfl,?_⟩
  cases ao with
  |none=>rw[hn rfl]at hp;simp at hp
  |some ad=>exact⟨ad,rfl,fun j v hv=>(World.grownBy_alloc W _ none).cell (U ad rfl j v hv) (by simp)⟩
 have k4:2+(zs.map (Value.int .i64)).length<=([Value.int .i64 code,.int .i64 0,.int .i64 0,.int .i64 0,.int .i64 0,.int .i64 0,.int .i64 0,.int .i64 0,.int .i64 0,.int .i64 0]:List Value).length:=by simp;omega
 have k5:∀ v ∈ zs.map (Value.int .i64),v.oneCell'=true:=by intro v hv;obtain⟨x,_,rfl⟩:=List.mem_map.1 hv;rfl
 have k6:Below W.heap.size W (W.alloc (.cells #[code,.int .i64 0,.int .i64 0,.int .i64 0,.int .i64 0,.int .i64 0,.int .i64 0,.int .i64 0,.int .i64 0,.int .i64 0] 200)):=br.alloc lr _;go_wp2_with (refine wpList_copy_splice rfl (.tmp 30) (.tmp 31) 194 194 rfl 2 hu (by kernel_rfl) (some ⟨w.heap.size,2,.none⟩) ao 8 8 zs.length cap rfl rfl w.heap.size 2 [.int .i64 code,.int .i64 0,.int .i64 0,.int .i64 0,.int .i64 0,.int .i64 0,.int .i64 0,.int .i64 0,.int .i64 0,.int .i64 0] 200 k1 (zs.map (.int .i64)) k2 k3 k4 k5 W.heap.size W k6 (Nat.le_of_eq y) ?_;intro q hH S);have o:=hH.out;rw[zqx code hz]at o;obtain⟨z,C,D,G,I,J,L,M,he⟩:=ygr (gU hz);rw[he]at o;have hh:=fun i=>cell_of_row q w.heap.size i _ _ (0,0) o;simp only[Fr.cells,List.map_cons,List.map_nil]at hh o;have h2:=N.below S;have b4:=ho.trans (Only.of_below (F:=fun _=>False) S) (fun _ _ h=>h.elim);have bm:s≠w.heap.size:=by omega
 have bj:W.heap.size<q.heap.size:=(jE (y ▸ o));clear k1 k2 k3 k4 k5 k6 hH U hn ho hu;have ba:=Tryz.underlying195;obtain⟨i0,hi,bb,bc,bf⟩:=info_parts z0j;have c2:=h2.cell0;have b0:=FO h2.head 0;have bi:=h2.lF;have b5:=N.lF;have Y:some s≠(Value.slice a fs.length c).ownBlock:=fun e=>h2.apart e.symm;have b:some w.heap.size≠(Value.slice a fs.length c).ownBlock:=fun e=>by have:=(b5 _ e.symm).2;omega
 have b1:B<=q.heap.size:=by omega
 have b6:s<q.heap.size:=h2.lt;have V:∀ u ∈ ([.int .i64 code,.int .i64 0,.int .i64 z,.int .i64 C,.int .i64 D,.int .i64 G,.int .i64 I,.int .i64 J,.int .i64 L,.int .i64 M]:List Value),u.oneCell'=true:=by intro u hu;simp at hu;rcases hu with rfl|rfl|rfl|rfl|rfl|rfl|rfl|rfl|rfl|rfl<;>rfl
 have b2:(fs.length+1)*80<=140737488355328:=by omega
 have b3:fs.length+1<=maxLen:=by simp only[maxLen];omega
 generalize hH:w.heap.size=H at *;have g0:∀ i,q.cell? ⟨H,i,.none⟩=(#[code,.int .i64 0,z,C,D,G,I,J,L,M]:Array Value)[i]?:=hh;clear hh N h3 h4;have hS:∀ w',jW q w'->w'.cell? ⟨s,0,.none⟩=some (.slice a fs.length c)/\w'.frozen? ⟨s,0,.none⟩=false/\w'.cell? ⟨H,0,.none⟩=some (.int .i64 code)/\w'.cell? ⟨H,1,.none⟩=some (.int .i64 0)/\w'.cell? ⟨H,2,.none⟩=some (.int .i64 z)/\w'.cell? ⟨H,3,.none⟩=some (.int .i64 C)/\w'.cell? ⟨H,4,.none⟩=some (.int .i64 D)/\w'.cell? ⟨H,5,.none⟩=some (.int .i64 G)/\w'.cell? ⟨H,6,.none⟩=some (.int .i64 I)/\w'.cell? ⟨H,7,.none⟩=some (.int .i64 J)/\w'.cell? ⟨H,8,.none⟩=some (.int .i64 L)/\w'.cell? ⟨H,9,.none⟩=some (.int .i64 M):=by intro w' hb;have kk:=iA hb;refine⟨kk _ _ _ c2,(hb.frozen (p:=⟨s,0,.none⟩) b6).trans b0,?_⟩;(repeat' apply And.intro)<;>exact kk _ _ _ (g0 _)
 have O:∀ Z w',jW q Z->Z.grownBy w' (Value.slice a fs.length c).ownBlock->w'.cell? ⟨s,0,.none⟩=some (.slice a fs.length c)/\w'.frozen? ⟨s,0,.none⟩=false/\w'.cell? ⟨H,0,.none⟩=some (.int .i64 code)/\w'.cell? ⟨H,1,.none⟩=some (.int .i64 0)/\w'.cell? ⟨H,2,.none⟩=some (.int .i64 z)/\w'.cell? ⟨H,3,.none⟩=some (.int .i64 C)/\w'.cell? ⟨H,4,.none⟩=some (.int .i64 D)/\w'.cell? ⟨H,5,.none⟩=some (.int .i64 G)/\w'.cell? ⟨H,6,.none⟩=some (.int .i64 I)/\w'.cell? ⟨H,7,.none⟩=some (.int .i64 J)/\w'.cell? ⟨H,8,.none⟩=some (.int .i64 L)/\w'.cell? ⟨H,9,.none⟩=some (.int .i64 M):=by
  intro Z w' hb n;have h:=hS Z hb;have b7:s<Z.heap.size:=by have:=hb.size;omega
  refine⟨n.cell h.1 Y,(World.frozen?_of_block (n.block s b7 Y)).trans h.2.1,?_⟩;obtain⟨_,_,h0,h1,h2,h3,h4,h5,h6,h7,h8,h9⟩:=h;exact⟨n.cell h0 b,n.cell h1 b,n.cell h2 b,n.cell h3 b,n.cell h4 b,n.cell h5 b,n.cell h6 b,n.cell h7 b,n.cell h8 b,n.cell h9 b⟩
 go_cut [] (fun wx=>Only (foot s (.slice a fs.length c)) w wx/\∃ m,(∀ k,m.ownBlock=some k->(Value.slice a fs.length c).ownBlock=some k\/H<=k)/\SK B wx s m most (fs++[⟨code,0,padded zs⟩]));case first=>
  go_region_law
   (first|(refine step_append_lies _ rfl (.tmp 37) (.tmp 39) 195 rfl B 200 i0 WV 10 80 ba hi bb bc bf rfl (by decide) (.slice a fs.length c) fs.length (flat fs) rfl (z3g h2 (by go_grown)) ⟨q.heap.size,0,.none⟩ 1 1 [.int .i64 code,.int .i64 0,.int .i64 z,.int .i64 C,.int .i64 D,.int .i64 G,.int .i64 I,.int .i64 J,.int .i64 L,.int .i64 M] rfl rfl (World.news_of_block (by exact jA q _)) V (by decide) b3 b2 (Nat.le_trans b1 (Below.size (B:=0) (by go_grown))) _ rfl ?_;intro g bg w3 r l R bh;have q1:=(O _ _ (by go_grown) l).1;have q2:=(O _ _ (by go_grown) l).2.1))
  all_goals go_wp2_with fail
  all_goals go_meet;case rel=>refine z0y h2 (he ▸ r) l ?_ b4 R (fun k=>by rcases k with k|k;exact .inl k;right;rw[k];simp;omega) (zu5 h2.regs (gU hz));go_grown
 case rest=>obtain⟨hw,m,X,b9⟩:=hcut;go_wp2_with fail;go_ret;exact⟨rfl,hw,m,by rw[hH];exact X,b9⟩
end

end Go.Proofs.YtkilokkopbajkaaGreat

/- Texts bound together: MchM MchS QLast QVar1 QLas2 EdgeW EdgeA EdgeS SchP. -/
import Derived.Laws.Externs

import Derived.IntWalk

import Derived.Test.YtedcnffebdpmmaaGreatBu7

set_option linter.all false
set_option maxHeartbeats 400000
namespace Go.Proofs.YtedcnffebdpmmaaGreat

section

def mcC:Mc->Int
 | .tk t=> t.c
 | .sc t=> t.c
 | .pc t=> t.c
 | .sp t=> t.c
 | .bn t=> t.c
def zf7 (s:Sh):Mc->Int
 | .tk t=> ziz s t
 | .sc t=> zee s t
 | .pc t=> zfg s t
 | .sp t=> zep t
 | .bn t=> zfx t
def zd4 (s:Sh) (t:Sk):Mc->Int
 | .tk _=> 67 * s.p + 32
 | .sc _=> 34 * s.p + 32
 | .pc _=> 32 * s.p + 32
 | .sp _=> 32 * (s.p - t.many - 1) + 32
 | .bn _=> 0
theorem yac{s:Sh}{x:Mc}{m:Mem}(h:mcOk s x)(hd:x.done=false)(b:Fits s m):Acts (mcC x) m (zbr s x m).2/\mcC (zbr s x m).1=mcC x/\zf7 s (zbr s x m).1+1<=zf7 s x:=by
 cases x with
 |tk t=>exact ybn h hd b
 |sc t=>exact yb3 h hd b
 |pc t=>exact z94 h hd b
 |sp t=>exact z1p h hd b
 |bn t=>exact ybe h hd b
theorem z9s(s:Sh)(t:Sk)(x:Mc)(m:Mem):zd4 s t (zbr s x m).1=zd4 s t x:=by cases x<;>rfl
theorem zry{s:Sh}{x:Mc}(h:mcOk s x):0<=zf7 s x:=by
 cases x with
 |tk t=>exact z1k h
 |sc t=>exact z1y h
 |pc t=>exact zz7 h
 |sp t=>exact znj h
 |bn t=>exact zz0 h
def zcm (s:Sh) (t:Sk):Int:=if t.done=true then 0 else match t.now with
 | none=> 32 * (s.p - t.many) + 32
 | some x=> zf7 s x + zd4 s t x
structure skIs (s:Sh) (cl k:Int) (t:Sk):Prop where
 ok:skOk s t
 c:t.c=cl
 k:t.k=k
 now:∀ x,t.now=some x->mcC x=cl
theorem zpk{s:Sh}{cl k:Int}{t:Sk}(h:skIs s cl k t){pg sl:Int}(h2:skOk s (t.fin pg sl)):skIs s cl k (t.fin pg sl):=⟨h2,h.c,h.k,h.now⟩
theorem z6t{s:Sh}{cl k:Int}{t:Sk}{x:Mc}(h:skIs s cl k t)(hd:t.done=false)(r:t.now=some x)(B:x.done=true)(q:1<=s.p):skIs s cl k (t.after s x)/\zcm s (t.after s x)<=zcm s t:=by
 have b:=zid h.ok hd r B q;obtain⟨c1,c2,c3,c4,c5⟩:=h.ok.cl hd;have o:=zry (c5 x r).1;have E:zcm s t=zf7 s x+zd4 s t x:=by unfold zcm;rw[if_neg (by rw[hd];decide),r]
 rw[E];have j:∀ pg sl,zcm s (t.fin pg sl)=0:=fun _ _=>rfl;have i:∀ p,zcm s (t.bind s p)<=32:=fun p=>by have:=(ydz s t.c p t.k).1;unfold zcm Sk.bind;dsimp only[zf7,zd4];rw[if_neg (by rw[hd];decide)];omega
 have f:∀ p,skOk s (t.bind s p)->skIs s cl k (t.bind s p):=fun p b=>⟨b,h.c,h.k,fun y D=>by
  simp only[Sk.bind,Option.some.injEq]at D
  subst D
  exact h.c⟩
 have C:zcm s (t.turn s)<=32*(s.p-t.many-1)+32:=by unfold zcm Sk.turn;dsimp only;simp only[decide_eq_true_eq];split<;>omega
 cases x with
 |tk y=>
  simp only[Sk.after]at b ⊢;split at b<;>rename_i m
  ·rw[if_pos m];refine⟨zpk h b,?_⟩;rw[j];have:zd4 s t (.tk y)=67*s.p+32:=rfl;omega
  rw[if_neg m];refine⟨⟨b,h.c,h.k,fun z n=>?_⟩,?_⟩
  ·simp only[Option.some.injEq]at n;subst n;exact h.c
  have:=(yem s t.c t.k t.first q).1;unfold zcm;dsimp only[zf7,zd4]at o ⊢;rw[if_neg (by rw[hd];decide)];omega
 |sc y=>
  simp only[Sk.after]at b ⊢;split at b<;>rename_i m
  ·rw[if_pos m];refine⟨zpk h b,?_⟩;rw[j];have:zd4 s t (.sc y)=34*s.p+32:=rfl;omega
  rw[if_neg m];refine⟨⟨b,h.c,h.k,fun z n=>?_⟩,?_⟩
  ·simp only[Option.some.injEq]at n;subst n;exact h.c
  have:=(ydt s t.c t.first q).1;unfold zcm;dsimp only[zf7,zd4]at o ⊢;rw[if_neg (by rw[hd];decide)];omega
 |pc y=>
  simp only[Sk.after]at b ⊢;split at b<;>rename_i m
  ·rw[if_pos m];refine⟨f _ b,?_⟩;have h1:=i (y.page s);have:zd4 s t (.pc y)=32*s.p+32:=rfl;omega
  rw[if_neg m];refine⟨⟨b,h.c,h.k,fun z n=>(by cases n)⟩,?_⟩;unfold zcm;dsimp only[zf7,zd4]at o ⊢;rw[if_neg (by rw[hd];decide)];omega
 |sp y=>
  simp only[Sk.after]at b ⊢;have F:zd4 s t (.sp y)=32*(s.p-t.many-1)+32:=rfl;split at b<;>rename_i m
  ·rw[if_pos m];refine⟨f _ b,?_⟩;have h1:=i (t.here s);omega
  rw[if_neg m];refine⟨⟨b,h.c,h.k,fun z n=>(by cases n)⟩,?_⟩;omega
 |bn y=>simp only[Sk.after]at b ⊢;refine⟨zpk h b,?_⟩;rw[j];have:zd4 s t (.bn y)=0:=rfl;omega
theorem ztn{s:Sh}{cl k:Int}(b:1<=s.p)(n:Nat):∀ {t:Sk},skIs s cl k t->skIs s cl k (za5 s n t)/\zcm s (za5 s n t)<=zcm s t:=by
 induction n with
 |zero=>intro t h;exact⟨h,Int.le_refl _⟩;|succ n i=>
  intro t h;unfold za5;split
  ·rename_i x f;split
   ·rename_i hc;have h1:=z6t h hc.1 f hc.2 b;have h2:=i h1.1;exact⟨h2.1,Int.le_trans h2.2 h1.2⟩
   exact⟨h,Int.le_refl _⟩
  exact⟨h,Int.le_refl _⟩
def zvw (t:Sk):Prop:=t.done=true\/t.now=none\/∃ x,t.now=some x/\x.done=false
theorem zzt{s:Sh}(n:Nat):∀ {t:Sk},zdj t<=n->zvw (za5 s n t):=by
 induction n with
 |zero=>
  intro t h;unfold zdj at h;unfold za5;split at h
  ·rename_i hd;exact .inl hd
  split at h<;>rename_i i<;>first|exact .inr (.inl i)|omega
 |succ n j=>
  intro t h;unfold za5;split
  ·rename_i x f;split
   ·rename_i hc;have:=ze1 (s:=s) hc.1 f;exact j (by omega)
   rename_i hc;rcases Bool.eq_false_or_eq_true t.done with hd|hd
   ·exact .inl hd
   rcases Bool.eq_false_or_eq_true x.done with b|b
   ·exact absurd ⟨hd,b⟩ hc
   exact .inr (.inr ⟨x,f,b⟩)
  rename_i f;exact .inr (.inl f)
theorem znq(s:Sh)(t:Sk):zvw (za5 s 5 t):=zzt 5 (Nat.le_trans (zrw t) (by decide))
theorem z2i{s:Sh}{t:Sk}(h:skOk s t):0<=zcm s t:=by
 unfold zcm;split
 ·omega
 rename_i hd;obtain⟨c1,c2,c3,c4,c5⟩:=h.cl (by simpa using hd);split
 ·omega
 rename_i x b;have h1:=zry (c5 x b).1;have:0<=zd4 s t x:=by cases x<;>dsimp only[zd4]<;>omega
 omega
theorem yek{s:Sh}(c k f:Int)(j:mayB s.p s.c s.m=true):skIs s c k (zhb s c k f)/\zvw (zhb s c k f)/\zcm s (zhb s c k f)<=67*s.p+s.m+33:=by
 have hb:=zar.1 j;have i:=zwd s c k f;unfold zhb at i ⊢;split at i
 ·rename_i h;rw[if_pos h];have h0:skIs s c k ⟨c,k,f,some (.tk (zg3 s c k)),0,0,0,false,false⟩:=by
   have h1:=zbe h.1;have h3:=zcs h.2.2;refine⟨⟨fun _=>⟨by dsimp only;omega,h.2.1,by dsimp only;omega,by dsimp only;omega,fun x b=>?_⟩,fun e=>(by cases e)⟩,rfl,rfl,fun x b=>?_⟩
   ·simp only[Option.some.injEq]at b;subst b;exact⟨zl1 _ _ _,rfl⟩
   simp only[Option.some.injEq]at b;subst b;rfl
  have h1:=ztn (by omega) 5 h0;refine⟨h1.1,znq _ _,Int.le_trans h1.2 ?_⟩;have:=(yde s c k (by omega)).1;unfold zcm;dsimp only[zf7,zd4];rw[if_neg (by decide)];omega
 rename_i h;rw[if_neg h];refine⟨⟨i,rfl,rfl,fun x b=>(by cases b)⟩,.inl rfl,?_⟩;unfold zcm;dsimp only;rw[if_pos rfl];omega
theorem ybz{s:Sh}{cl k:Int}{t:Sk}{m:Mem}(h:skIs s cl k t)(hs:zvw t)(hd:t.done=false)(o:Fits s m):Acts cl m (zbv s t m).2/\skIs s cl k (zbv s t m).1/\zvw (zbv s t m).1/\zcm s (zbv s t m).1+1<=zcm s t:=by
 have r:1<=s.p:=o.bd.1;obtain⟨c1,c2,c3,c4,c5⟩:=h.ok.cl hd;have q:=zb7 h.ok.fd hd
 have i:zcm s t=match t.now with
  |none=>32*(s.p-t.many)+32
  |some x=>zf7 s x+zd4 s t x:=by unfold zcm;rw[if_neg (by rw[hd];decide)]
 have f:=z2o m r h.ok;unfold zbv at f ⊢;rw[if_neg (by rw[hd];decide)]at f ⊢;rcases hs with hs|hs|⟨x,n,B⟩
 ·rw[hd]at hs;cases hs
 ·rw[hs]at f i ⊢;dsimp only at f i ⊢;have C:=t.zt4 r;refine⟨(Acts.load (o.zhu C)).of h.c,?_⟩;split at f<;>rename_i j
  ·rw[if_pos j];refine⟨⟨f,h.c,h.k,fun z b=>?_⟩,.inr (.inr ⟨_,rfl,?_⟩),?_⟩
   ·simp only[Option.some.injEq]at b;subst b;exact h.c
   ·have h1:=(zea.1 j.1).2.1;have h2:=zcs h1;have h3:=(zdq j.1 j.2).2.2;have h4:0<=zae s.p s.c s.m t.c:=by unfold zae;rw[if_pos ⟨h2.1,zbc.2 (by omega)⟩];exact c1.1
    simp[Mc.done,zfa,h1,h3,h4]
   rw[i];have:=(z9n s t.c (t.here s) (za2 (m.get (zak s.p s.c s.m (t.here s))) 0)).1;unfold zcm;dsimp only[zf7,zd4];rw[if_neg (by rw[hd];decide)];omega
  rw[if_neg j];refine⟨⟨f,h.c,h.k,fun z b=>(by cases b)⟩,.inr (.inl rfl),?_⟩;rw[i];unfold zcm Sk.turn;dsimp only;simp only[decide_eq_true_eq];split<;>omega
 rw[n]at f i ⊢;dsimp only at f i ⊢;have h1:=yac (c5 x n).1 B o;have hc:=h.now x n;have h0:skIs s cl k {t with now:=some (zbr s x m).1}:=by
  refine⟨⟨fun _=>⟨c1,c2,c3,c4,fun z b=>?_⟩,fun e=>(by have e:t.found=true:=e;rw[q]at e;cases e)⟩,h.c,h.k,fun z b=>?_⟩
  ·simp only[Option.some.injEq]at b;subst b;exact⟨zjq m (c5 x n).1,zg1 (t:=t) m (c5 x n).2⟩
  simp only[Option.some.injEq]at b;subst b;exact h1.2.1.trans hc
 have h2:=ztn r 5 h0;refine⟨h1.1.of hc,h2.1,znq _ _,?_⟩;have h3:zcm s {t with now:=some (zbr s x m).1}=zf7 s (zbr s x m).1+zd4 s t x:=by rw[<-z9s s t x m];unfold zcm;rw[if_neg (by rw[hd];decide)];cases (zbr s x m).1<;>rfl
 omega
def zct (s:Sh) (t:Rn):Int:=if t.done=true then 0
 else if t.next=0 then 50 * (s.p - t.at') + (t.at' - t.head) + 8
 else if t.next=1 then 50 * (s.p - t.at' - 1) + (t.at' - t.head) + 10
 else if t.next=2 then 50 * (s.p - t.at' - 1) + (match t.strip with | some x=> zep x | none=> 0) + (t.at' - t.head) + 25
 else if t.next=3 then 50 * (s.p - t.at' - 1) + (16 - t.i) + (t.at' - t.head) + 9
 else if t.next=4 then 50 * (s.p - t.at' - 1) + (t.i - t.head) + 8
 else t.head + t.pages - t.i
structure rnIs (s:Sh) (cl n:Int) (t:Rn):Prop where
 ok:rnOk s t
 c:t.c=cl
 n:t.pages=n
 st:∀ x,t.strip=some x->x.c=cl
theorem yev{s:Sh}{t:Rn}(h:rnOk s t)(hd:t.done=false):1<=zct s t:=by
 obtain⟨c1,c2,c3,c4,c5,c6,c7,c8,c9,b⟩:=h.cl hd;unfold zct;rw[if_neg (by rw[hd];decide)];split
 ·have:=c6 (by omega);omega
 split
 ·have:=c6 (by omega);omega
 split
 ·rename_i n2;have:=c6 (by omega);obtain⟨x,i,f,j⟩:=c7 n2;have:=znj f;rw[i];dsimp only;omega
 split
 ·rename_i n3;have:=c6 (by omega);have:=c8 n3;omega
 split
 ·rename_i n4;have:=c6 (by omega);have:=c9 n4;omega
 have:=b (by omega);omega
theorem z9e{s:Sh}{t:Rn}(hd:t.done=false)(h2:1<=t.pages/\t.pages<=8)(h4:t.head<=t.at'/\t.at'<t.head+t.pages)(f:t.head+t.pages<=s.p):zct s t.own<=50*(s.p-t.at'-1)+(t.at'+1-t.head)+8/\t.own.c=t.c/\t.own.pages=t.pages/\t.own.strip=t.strip:=by
 unfold Rn.own Rn.written;have b:¬ t.done=true:=by rw[hd];decide
 split
 ·dsimp only;split
  ·refine⟨?_,rfl,rfl,rfl⟩;unfold zct;dsimp only;rw[if_pos rfl];omega
  refine⟨?_,rfl,rfl,rfl⟩;unfold zct;dsimp only;rw[if_neg b,if_neg (by decide),if_neg (by decide),if_neg (by decide),if_neg (by decide),if_neg (by decide)];omega
 refine⟨?_,rfl,rfl,rfl⟩;unfold zct;dsimp only;rw[if_neg b,if_pos rfl];omega
theorem z3t{s:Sh}{t:Rn}(hd:t.done=false)(f:t.next=4)(h2:t.pages<=s.p)(j:t.at'<s.p)(m:t.head<=t.i):zct s (t.gone s)<=50*(s.p-t.at'-1)+(t.i-t.head)+8/\(t.gone s).c=t.c/\(t.gone s).pages=t.pages/\(t.gone s).strip=t.strip:=by
 unfold Rn.gone;have b:¬ t.done=true:=by rw[hd];decide
 split
 ·refine⟨?_,rfl,rfl,rfl⟩;unfold zct;rw[if_neg b,if_neg (by omega),if_neg (by omega),if_neg (by omega),if_neg (by omega),if_pos f];omega
 refine⟨?_,rfl,rfl,rfl⟩;unfold zct;dsimp only;simp only[decide_eq_true_eq,if_true];split<;>omega
theorem zvx{s:Sh}{t:Rn}(hd:t.done=false)(h2:t.pages<=s.p)(h4:t.head<=t.at')(b:t.at'<s.p):zct s (t.miss s)<=50*(s.p-t.at'-1)+(t.at'-t.head)+8/\(t.miss s).c=t.c/\(t.miss s).pages=t.pages/\(t.miss s).strip=t.strip:=
 z3t (t:= {t with next:=4,i:=t.at'}) hd rfl h2 b h4
theorem yat{s:Sh}{cl n:Int}{t:Rn}{m:Mem}(h:rnIs s cl n t)(hd:t.done=false)(F:Fits s m):Acts cl m (zcr s t m).2/\rnIs s cl n (zcr s t m).1/\zct s (zcr s t m).1+1<=zct s t:=by
 obtain⟨c1,c2,c3,c4,c5,c6,c7,c8,c9,G⟩:=h.ok.cl hd;have o:¬ t.done=true:=by rw[hd];decide
 have b:=z0v m h.ok
 have R:zct s t=if t.next=0 then 50*(s.p-t.at')+(t.at'-t.head)+8
  else if t.next=1 then 50*(s.p-t.at'-1)+(t.at'-t.head)+10
  else if t.next=2 then 50*(s.p-t.at'-1)+(match t.strip with|some x=>zep x|none=>0)+(t.at'-t.head)+25
  else if t.next=3 then 50*(s.p-t.at'-1)+(16-t.i)+(t.at'-t.head)+9
  else if t.next=4 then 50*(s.p-t.at'-1)+(t.i-t.head)+8
  else t.head+t.pages-t.i:=by unfold zct;rw[if_neg o]
 have q:∀ u:Rn,rnOk s u->u.c=t.c->u.pages=t.pages->(u.strip=t.strip\/∃ x,u.strip=some x/\x.c=t.c)->rnIs s cl n u:=fun u b M N H=>⟨b,M.trans h.c,N.trans h.n,fun x C=>by
  rcases H with H|⟨y,H,O⟩
  ·exact h.st x (H ▸ C)
  ·rw[H]at C;injection C with C;subst C;exact O.trans h.c⟩
 rw[R];unfold zcr at b ⊢;dsimp only at b ⊢;rw[if_neg o]at b ⊢;by_cases E:t.next=0
 ·have c6:=c6 (by omega);have r:=F.zhu (x:=t.at') (by omega);have j:=zvx (s:=s) hd (by omega) c4.1 (by omega);rw[if_pos E]at b ⊢;rw[if_pos E];dsimp only at b ⊢;refine⟨(Acts.load r).of h.c,?_⟩;split at b<;>rename_i h1
  ·rw[if_pos h1];refine⟨q _ b rfl rfl (.inl rfl),?_⟩;unfold zct;dsimp only;rw[if_neg o,if_neg (by decide),if_pos rfl];omega
  rw[if_neg h1];split at b<;>rename_i h2
  ·rw[if_pos h2];refine⟨q _ b rfl rfl (.inr ⟨_,rfl,rfl⟩),?_⟩;have:=(z9n s t.c t.at' (za2 (m.get (zak s.p s.c s.m t.at')) 0)).1;unfold zct;dsimp only;rw[if_neg o,if_neg (by decide),if_neg (by decide),if_pos rfl];omega
  rw[if_neg h2];exact⟨q _ b j.2.1 j.2.2.1 (.inl j.2.2.2),by omega⟩
 rw[if_neg E]at b ⊢;rw[if_neg E];by_cases n1:t.next=1
 ·have c6:=c6 (by omega);have r:=F.zhu (x:=t.at') (by omega);have j:=zvx (s:=s) hd (by omega) c4.1 (by omega);have f:=z9e (s:=s) hd c2 ⟨c4.1,c6⟩ c3.2;rw[if_pos n1]at b ⊢;rw[if_pos n1];dsimp only at b ⊢;refine⟨(Acts.swap r (zj1 _)).of h.c,?_⟩;split at b<;>rename_i h1
  ·rw[if_pos h1];exact⟨q _ b f.2.1 f.2.2.1 (.inl f.2.2.2),by omega⟩
  rw[if_neg h1];exact⟨q _ b j.2.1 j.2.2.1 (.inl j.2.2.2),by omega⟩
 rw[if_neg n1]at b ⊢;rw[if_neg n1];by_cases n2:t.next=2
 ·have c6:=c6 (by omega);obtain⟨x,C,I,L⟩:=c7 n2;have z:=z1p I L F;have B:=h.st x C;have S:=znj (znr m I);have D:=h.c;rw[if_pos n2,C]at b ⊢;rw[if_pos n2];dsimp only at b ⊢;refine⟨z.1.of B,?_⟩;split at b<;>rename_i h1
  ·rw[if_pos h1];refine⟨q _ b rfl rfl (.inr ⟨_,rfl,by rw[z.2.1,B,D]⟩),?_⟩;unfold zct;dsimp only;rw[if_neg o,if_neg (by decide),if_neg (by decide),if_neg (by decide),if_pos rfl];omega
  rw[if_neg h1];split at b<;>rename_i h2
  ·rw[if_pos h2];have j:=zvx (s:=s) (t:= {t with strip:=some (zdu s x m).1}) hd (by dsimp only;omega) c4.1 (by dsimp only;omega);dsimp only at j;refine⟨q _ b j.2.1 j.2.2.1 (.inr ⟨_,j.2.2.2,by rw[z.2.1,B,D]⟩),?_⟩;omega
  rw[if_neg h2];refine⟨q _ b rfl rfl (.inr ⟨_,rfl,by rw[z.2.1,B,D]⟩),?_⟩;unfold zct;dsimp only;rw[if_neg o,if_neg E,if_neg n1,if_pos n2];omega
 rw[if_neg n2]at b ⊢;rw[if_neg n2];by_cases n3:t.next=3
 ·have c6:=c6 (by omega);have c8:=c8 n3;have r:=F.zj0 (x:=t.at') (i:=t.i) (by omega) (by omega);rw[if_pos n3]at b ⊢;rw[if_pos n3];dsimp only at b ⊢;refine⟨(Acts.store r zms).of h.c,?_⟩;split at b<;>rename_i h1
  ·rw[if_pos h1];have f:=z9e (s:=s) (t:= {t with i:=t.i+1}) hd c2 ⟨c4.1,c6⟩ c3.2;dsimp only at f;exact⟨q _ b f.2.1 f.2.2.1 (.inl f.2.2.2),by omega⟩
  rw[if_neg h1];refine⟨q _ b rfl rfl (.inl rfl),?_⟩;unfold zct;dsimp only;rw[if_neg o,if_neg E,if_neg n1,if_neg n2,if_pos n3];omega
 rw[if_neg n3]at b ⊢;rw[if_neg n3];by_cases n4:t.next=4
 ·have c6:=c6 (by omega);have c9:=c9 n4;have r:=F.zhu (x:=t.i-1) (by omega);rw[if_pos n4]at b ⊢;rw[if_pos n4];dsimp only at b ⊢;have J:=z3t (s:=s) (t:= {t with i:=t.i-1}) hd n4 (by dsimp only;omega) (by dsimp only;omega) (by dsimp only;omega);dsimp only at J;exact⟨(Acts.store r (zc0 _ _ _)).of h.c,q _ b J.2.1 J.2.2.1 (.inl J.2.2.2),by omega⟩
 rw[if_neg n4]at b ⊢;rw[if_neg n4];have n5:t.next=5:=by omega
 have G:=G n5;have r:=F.zhu (x:=t.i) (by omega);dsimp only at b ⊢;refine⟨(Acts.store r (zc0 _ _ _)).of h.c,?_⟩;unfold Rn.written at b ⊢;split at b<;>rename_i h1
 ·rw[if_pos h1];refine⟨q _ b rfl rfl (.inl rfl),?_⟩;unfold zct;dsimp only;rw[if_pos rfl];omega
 rw[if_neg h1];refine⟨q _ b rfl rfl (.inl rfl),?_⟩;unfold zct;dsimp only;rw[if_neg o,if_neg E,if_neg n1,if_neg n2,if_neg n3,if_neg n4];omega
theorem yfb{s:Sh}(c n:Int)(b:mayB s.p s.c s.m=true):rnIs s c n (zf8 s c n)/\zct s (zf8 s c n)<=50*s.p+8:=by
 have hb:=zar.1 b;refine⟨⟨zwt _ _ _,rfl,rfl,fun x f=>(by cases f)⟩,?_⟩;unfold zct zf8;dsimp only;split
 ·omega
 rw[if_pos rfl];omega
theorem z2y{s:Sh}{t:Rn}(h:rnOk s t):0<=zct s t:=by
 rcases Bool.eq_false_or_eq_true t.done with hd|hd
 ·unfold zct;rw[if_pos hd];omega
 have:=yev h hd;omega
structure rsIs (s:Sh) (cl:Int) (t:Rs):Prop where
 sk:∀ x,t.seeker=some x->skIs s cl t.k x/\zvw x
 rn:∀ x,t.runner=some x->rnIs s cl t.pages x
def zi3 (s:Sh) (t:Rs):Int:=match t.seeker,t.runner with
 | some x,_=> zcm s x
 | none,some x=> zct s x
 | none,none=> 0
theorem zf6{s:Sh}{cl:Int}{t:Rs}(h:rsIs s cl t):0<=zi3 s t:=by
 obtain⟨k,pg,sk,rn⟩:=t;rcases sk with _|x
 ·rcases rn with _|y
  ·exact Int.le_refl _
  exact z2y (h.rn y rfl).ok
 exact z2i (h.sk x rfl).1.ok
theorem zvz{s:Sh}{cl:Int}{t:Rs}{m:Mem}(h:rsIs s cl t)(hd:t.done=false)(f:Fits s m):Acts cl m (zb0 s t m).2/\rsIs s cl (zb0 s t m).1/\zi3 s (zb0 s t m).1+1<=zi3 s t:=by
 obtain⟨k,pg,sk,rn⟩:=t;rcases sk with _|x
 ·rcases rn with _|y
  ·cases hd
  have h1:=yat (h.rn y rfl) hd f;exact⟨h1.1,⟨fun z b=>(by cases b),fun z b=>(by injection b with b;subst b;exact h1.2.1)⟩,h1.2.2⟩
 have h1:=ybz (h.sk x rfl).1 (h.sk x rfl).2 hd f;exact⟨h1.1,⟨fun z b=>(by injection b with b;subst b;exact⟨h1.2.1,h1.2.2.1⟩),h.rn⟩,h1.2.2.2⟩
theorem z0h{s:Sh}(c n f:Int)(i:mayB s.p s.c s.m=true):rsIs s c (zdh s c n f)/\zi3 s (zdh s c n f)<=67*s.p+s.m+33:=by
 have hb:=zar.1 i;unfold zdh;split
 ·have h1:=yek c (zcn n) f i;exact⟨⟨fun x b=>(by injection b with b;subst b;exact⟨h1.1,h1.2.1⟩),fun x b=>(by cases b)⟩,h1.2.2⟩
 split
 ·have h1:=yfb c (runV n) i;refine⟨⟨fun x b=>(by cases b),fun x b=>(by injection b with b;subst b;exact h1.1)⟩,?_⟩;have:zi3 s ⟨0,runV n,none,some (zf8 s c (runV n))⟩=zct s (zf8 s c (runV n)):=rfl;omega
 exact⟨⟨fun x b=>(by cases b),fun x b=>(by cases b)⟩,by show (0:Int)<=_;omega⟩
theorem zlb{s:Sh}{cl:Int}{t:Rs}{b:Blk}(h:rsIs s cl t)(j:mayB s.p s.c s.m=true)(hc:0<=cl/\cl<s.c)(f:t.got=some b):b.fits s cl=true/\t.done=true:=by
 obtain⟨k,pg,sk,rn⟩:=t;rcases sk with _|x
 ·rcases rn with _|y
  ·cases f
  have h1:=h.rn y rfl;unfold Rs.got at f;dsimp only at f;split at f
  ·rename_i i;injection f with f;subst f;have h2:=h1.ok.fd i;have h3:=h1.n;dsimp only at h3;refine⟨zdi.2 ⟨j,hc,by dsimp only;omega,fun _=>by dsimp only;omega,fun e=>(by cases e)⟩,h2.1⟩
  cases f
 have h1:=(h.sk x rfl).1;unfold Rs.got at f;dsimp only at f;split at f
 ·rename_i i;injection f with f;subst f;have h2:=h1.ok.fd i;have h3:=h1.k;dsimp only at h3;refine⟨zdi.2 ⟨j,hc,by dsimp only;omega,fun e=>(by cases e),fun _=>by dsimp only;rw[<-h3];omega⟩,h2.1⟩
 cases f
theorem z3w{s:Sh}{t:Cm}{m:Mem}(h:t.b.fits s t.c=true)(hd:t.done=false)(f:Fits s m):Acts t.c m (zb3 s t m).2/\(zb3 s t m).1= {t with done:=true}:=by
 have h1:=zdi.1 h;unfold zb3;rw[if_neg (by rw[hd];decide)];refine⟨?_,rfl⟩;dsimp only;cases hl:t.b.large
 ·rw[if_neg (by decide)];have h2:=h1.2.2.2.2 hl;have h3:=zb4 (by omega:0<zah t.b.k);exact .store (f.zj0 h1.2.2.1 (by omega)) (zx7 _)
 rw[if_pos rfl];exact .store (f.zhu h1.2.2.1) (zc0 _ _ _)
def ze0 (t:Un):Int:=if t.done=true then 0 else if t.b.large=true then t.b.pages - t.i else 1
theorem z8p{s:Sh}{t:Un}(h:unOk s t)(hd:t.done=false):1<=ze0 t:=by
 have h1:=(h.cl hd).2;unfold ze0;rw[if_neg (by rw[hd];decide)];split
 ·rename_i b;have:=h1 b;omega
 omega
theorem ybv{s:Sh}{t:Un}{m:Mem}(h:unOk s t)(hd:t.done=false)(f:Fits s m):Acts t.c m (zcf s t m).2/\(zcf s t m).1.c=t.c/\(zcf s t m).1.b=t.b/\ze0 (zcf s t m).1+1<=ze0 t:=by
 obtain⟨j,hi⟩:=h.cl hd;have h1:=zdi.1 j;have n:ze0 t=if t.b.large=true then t.b.pages-t.i else 1:=by unfold ze0;rw[if_neg (by rw[hd];decide)]
 rw[n];unfold zcf;rw[if_neg (by rw[hd];decide)];cases hl:t.b.large
 ·rw[if_pos rfl,if_neg (by decide)];have h2:=h1.2.2.2.2 hl;have h3:=zb4 (by omega:0<zah t.b.k);refine⟨.store (f.zj0 h1.2.2.1 (by omega)) (zkf _),rfl,rfl,?_⟩;unfold ze0;rw[if_pos rfl];omega
 rw[if_neg (by decide),if_pos rfl];have h2:=h1.2.2.2.1 hl;have hi:=hi hl;split
 ·refine⟨.store (f.zhu h1.2.2.1) zms,rfl,rfl,?_⟩;unfold ze0;rw[if_pos rfl];omega
 refine⟨.store (f.zhu (by omega)) zms,rfl,rfl,?_⟩;unfold ze0;dsimp only;rw[if_neg (by rw[hd];decide),if_pos hl];omega
theorem ydl{s:Sh}(c:Int)(b:Blk)(h:b.fits s c=true):ze0 (zf1 s c b)<=8/\(zf1 s c b).done=false:=by
 have h1:=zdi.1 h;have hd:(zf1 s c b).done=false:=by simp[zf1,h]
 refine⟨?_,hd⟩;unfold ze0;rw[if_neg (by rw[hd];decide)];split
 ·rename_i f;have h2:=h1.2.2.2.1 f;simp only[zf1];omega
 omega
structure feIs (s:Sh) (cl:Int) (t:Fe):Prop where
 ok:feOk s t
 c:t.c=cl
 put:∀ x,t.put=some x->x.c=cl
 gv:t.next<=1->t.gave=false
 gv2:2<=t.next->t.done=false->t.gave=true
def zcw (s:Sh) (t:Fe):Int:=if t.done=true then 0 else if t.next=0 then s.m + 12 else if t.next=1 then s.m + 11
 else if t.next=2 then (match t.put with | some x=> zh2 s x | none=> 0) + 1 else if t.next=3 then 1 else t.pa - t.i
theorem z9j{s:Sh}{t:Fe}(h:feOk s t)(n:0<=s.m)(hd:t.done=false):1<=zcw s t:=by
 obtain⟨c1,c2,c3,c4,c5,c6,c7,c8,c9,b⟩:=h.cl hd;unfold zcw;rw[if_neg (by rw[hd];decide)];split
 ·omega
 split
 ·omega
 split
 ·rename_i n2;obtain⟨_,x,i,f,j⟩:=c8 n2;have:=ztc f;rw[i];dsimp only;omega
 split
 ·omega
 have:=b (by omega);omega
theorem zsa{s:Sh}{t:Fe}(h:feOk s t)(b:0<=s.m):0<=zcw s t:=by
 rcases Bool.eq_false_or_eq_true t.done with hd|hd
 ·unfold zcw;rw[if_pos hd];omega
 have:=z9j h b hd;omega
theorem z9h{s:Sh}(c a:Int)(b:mayB s.p s.c s.m=true):feIs s c (zc2 s c a)/\zcw s (zc2 s c a)<=s.m+12:=by
 have hb:=zar.1 b;refine⟨⟨zwa _ _ _,rfl,fun x f=>(by cases f),fun _=>rfl,fun e=>(by simp[zc2]at e)⟩,?_⟩;unfold zcw;split
 ·omega
 rw[if_pos (show (zc2 s c a).next=0 from rfl)];omega
theorem z1e{s:Sh}{cl:Int}{t:Fe}{m:Mem}(h:feIs s cl t)(hd:t.done=false)(C:Fits s m)(F:m.fit):Acts cl m (zca s t m).2/\feIs s cl (zca s t m).1/\zcw s (zca s t m).1+1<=zcw s t/\(t.gave=true->(zca s t m).1.gave=true):=by
 obtain⟨c1,c2,c3,c4,c5,c6,c7,c8,c9,E⟩:=h.ok.cl hd;have hb:=C.bd;have n:¬ t.done=true:=by rw[hd];decide
 have b:=z1a m F h.ok
 have S:zcw s t=if t.next=0 then s.m+12 else if t.next=1 then s.m+11
  else if t.next=2 then(match t.put with|some x=>zh2 s x|none=>0)+1 else if t.next=3 then 1 else t.pa-t.i:=by unfold zcw;rw[if_neg n]
 have r:∀ u:Fe,u.done=true->zcw s u=0:=fun u e=>by unfold zcw;rw[if_pos e]
 have z:=C.zhu c2;rw[S];unfold zca at b ⊢;rw[if_neg n]at b ⊢;by_cases D:t.next=0
 ·have j:=h.gv (by omega);rw[if_pos D]at b ⊢;rw[if_pos D];unfold Fe.look at b ⊢;dsimp only at b ⊢;refine⟨(Acts.load z).of h.c,?_⟩;split at b<;>rename_i h1
  ·rw[if_pos h1];refine⟨⟨b,h.c,h.put,fun _=>j,fun e=>(by dsimp only at e;omega)⟩,?_,fun e=>(by rw[j]at e;cases e)⟩;unfold zcw;dsimp only;rw[if_neg n,if_neg (by decide),if_pos rfl];omega
  rw[if_neg h1];split at b<;>rename_i h2
  ·rw[if_pos h2];refine⟨⟨b,h.c,h.put,fun _=>j,fun e=>(by dsimp only at e;omega)⟩,?_,fun e=>(by rw[j]at e;cases e)⟩;unfold zcw;dsimp only;rw[if_neg n,if_neg (by decide),if_pos rfl];omega
  rw[if_neg h2];refine⟨⟨b,h.c,h.put,fun _=>j,fun e=>(by dsimp only at e;omega)⟩,?_,fun e=>(by rw[j]at e;cases e)⟩;rw[r _ rfl];omega
 rw[if_neg D]at b ⊢;rw[if_neg D];by_cases n1:t.next=1
 ·have j:=h.gv (by omega);have c5:=c5 (by omega);have c6:=c6 (by omega);rw[if_pos n1]at b ⊢;rw[if_pos n1];unfold Fe.claim at b ⊢;dsimp only at b ⊢;by_cases M:t.pk=3
  ·have c6:1<=t.pa/\t.pa<=8/\t.pa<=s.p-t.page:=by rcases c6 with h|h<;>omega
   rw[if_pos M]at b ⊢;dsimp only at b ⊢;refine⟨(Acts.swap z (zj1 _)).of h.c,⟨b,h.c,h.put,fun e=>(by dsimp only at e;omega),fun _ e=>(by dsimp only at e ⊢;simpa using e)⟩,?_,fun e=>(by rw[j]at e;cases e)⟩;unfold zcw;dsimp only;split
   ·omega
   rw[if_neg (by decide),if_neg (by decide),if_neg (by decide),if_neg (by decide)];omega
  have c6:t.pk=2/\0<zah t.pa/\(0<=t.slot/\t.slot<zah t.pa):=by rcases c6 with h|h;exact absurd h.1 M;exact h
  have N:=zb4 c6.2.1;have B:=C.zj0 (x:=t.page) (i:=t.slot) c2 (by omega);rw[if_neg M]at b ⊢;dsimp only at b ⊢;refine⟨(Acts.swap B (zmd _)).of h.c,?_⟩;generalize U:decide (m.get (zbk s.p s.c s.m t.page t.slot)=zfl t.pa)=g at b ⊢;by_cases G:t.pb=t.c
  ·rw[if_pos G]at b ⊢;have H:=yfa s t.c t.page t.slot t.pa (by omega);rcases zcv ({t with gave:=g,next:=2,put:=some (zg5 s t.c t.page t.slot t.pa)}:Fe) _ rfl with⟨h1,_⟩|⟨h1,h2,h3⟩|⟨h1,h2,h3⟩
   ·simp[zg5]at h1
   ·rw[h3]at b ⊢;dsimp only at b ⊢;refine⟨⟨b,h.c,fun x o=>?_,fun e=>(by dsimp only at e;omega),fun _ e=>(by dsimp only at e ⊢;simpa using e)⟩,?_,fun e=>(by rw[j]at e;cases e)⟩
    ·have o:some (zg5 s t.c t.page t.slot t.pa)=some x:=o;injection o with o;subst o;exact H.2.trans h.c
    unfold zcw;dsimp only;split
    ·omega
    rw[if_neg (by decide),if_neg (by decide),if_neg (by decide),if_pos rfl];omega
   rw[h3]at b ⊢;dsimp only at b ⊢;refine⟨⟨b,h.c,fun x o=>?_,fun e=>(by dsimp only at e;omega),fun _ e=>(by dsimp only at e ⊢;simpa using e)⟩,?_,fun e=>(by rw[j]at e;cases e)⟩
   ·have o:some (zg5 s t.c t.page t.slot t.pa)=some x:=o;injection o with o;subst o;exact H.2.trans h.c
   unfold zcw;dsimp only;split
   ·omega
   rw[if_neg (by decide),if_neg (by decide),if_pos rfl];omega
  rw[if_neg G]at b ⊢;dsimp only at b ⊢;refine⟨⟨b,h.c,h.put,fun e=>(by dsimp only at e;omega),fun _ e=>(by dsimp only at e ⊢;simpa using e)⟩,?_,fun e=>(by rw[j]at e;cases e)⟩;unfold zcw;dsimp only;split
  ·omega
  rw[if_neg (by decide),if_neg (by decide),if_neg (by decide),if_pos rfl];omega
 rw[if_neg n1]at b ⊢;rw[if_neg n1];have f:=h.gv2 (by omega) hd;have c6:=c6 (by omega);by_cases n2:t.next=2
 ·obtain⟨M,x,o,L,O⟩:=c8 n2;have I:=ybu L O C;have J:=h.put x o;have T:=ztc (zq5 m L);rw[if_pos n2,o]at b ⊢;rw[if_pos n2];dsimp only at b ⊢;refine⟨I.1.of J,?_⟩;have q:∀ y,some (zd3 s x m).1=some y->y.c=cl:=fun y R=>by injection R with R;subst R;exact I.2.1.trans J
  rcases zcv ({t with put:=some (zd3 s x m).1}:Fe) _ rfl with⟨h1,h3⟩|⟨h1,h2,h3⟩|⟨h1,h2,h3⟩
  ·rw[h3]at b ⊢;exact⟨⟨b,h.c,q,fun e=>(by dsimp only at e;omega),fun _ _=>f⟩,by rw[r _ rfl];omega,fun _=>f⟩
  ·rw[h3]at b ⊢;refine⟨⟨b,h.c,q,fun e=>(by dsimp only at e;omega),fun _ _=>f⟩,?_,fun _=>f⟩;unfold zcw;dsimp only;rw[if_neg n,if_neg (by decide),if_neg (by decide),if_neg (by decide),if_pos rfl];omega
  rw[h3]at b ⊢;refine⟨⟨b,h.c,q,fun e=>(by dsimp only at e;omega),fun _ _=>f⟩,?_,fun _=>f⟩;unfold zcw;dsimp only;rw[if_neg n,if_neg D,if_neg n1,if_pos n2];omega
 rw[if_neg n2]at b ⊢;rw[if_neg n2];by_cases n3:t.next=3
 ·have c6:t.pk=2/\0<zah t.pa/\(0<=t.slot/\t.slot<zah t.pa):=by
   have:=c9 n3;rcases c6 with h|h
   ·omega
   exact h
  have N:=zb4 c6.2.1;have B:=C.zj0 (x:=t.page) (i:=t.slot) c2 (by omega);rw[if_pos n3]at b ⊢;rw[if_pos n3];exact⟨(Acts.store B (zkf _)).of h.c,⟨b,h.c,h.put,fun e=>(by dsimp only at e;omega),fun _ _=>f⟩,by rw[r _ rfl];omega,fun _=>f⟩
 rw[if_neg n3]at b ⊢;rw[if_neg n3];have n4:t.next=4:=by omega
 have E:=E n4;have c6:1<=t.pa/\t.pa<=8/\t.pa<=s.p-t.page:=by rcases c6 with h|h<;>omega
 split at b<;>rename_i h1
 ·rw[if_pos h1];exact⟨(Acts.store z zms).of h.c,⟨b,h.c,h.put,fun e=>(by dsimp only at e;omega),fun _ _=>f⟩,by rw[r _ rfl];omega,fun _=>f⟩
 rw[if_neg h1];refine⟨(Acts.store (C.zhu (by omega)) zms).of h.c,⟨b,h.c,h.put,fun e=>(by dsimp only at e;omega),fun _ _=>f⟩,?_,fun _=>f⟩;unfold zcw;dsimp only;rw[if_neg n,if_neg D,if_neg n1,if_neg n2,if_neg n3];omega
end

section

open Go.RowKit

theorem zpf{P:Program}{o:Oper}{a:Act}{K:Act->World->Prop}{Q0 Q:Exit->Act->World->Prop}{r:Result Next}(h:o.upon P a K Q0 r)(j:∀ e a w,e≠ .normal->Q0 e a w->Q e a w):o.upon P a K Q r:=by
 match r,h with
 | .ok (.value v) w',h=>exact h
 | .ok .skip w',h=>exact h
 | .ok (.defer d) w',h=>exact h
 | .ok (.enter f args) w',h=>
  refine Calls.mono h fun e m i=>?_
  match e,i with
  | .returned v,i=>exact i
  | .panicked chain,i=>exact j _ _ _ (fun e=>by cases e) i
  | .outgrown,⟨b,u,hb⟩=>exact⟨b,u,j _ _ _ (fun e=>by cases e) hb⟩
 | .ok (.row row args) w',h=>exact h
 | .halt (.panic v) w',h=>exact j _ _ _ (fun e=>by cases e) h
def lastB (l0:List Oper) (last:Oper):Bool:=
 (l0.all fun o=> o.guard.isNone && o.after.all fun e=> !Region.binds .any e || decide (e.on < l0.length)) && ((List.range l0.length).all fun i=> match l0[i]? with | some o=> o.after.all fun e=> !Region.binds .any e || decide (e.on < i) | none=> true) &&
  ((List.range l0.length).all fun j=> (last.after.any fun e=> Region.binds .any e && e.on==j) || (List.range l0.length).any fun k=> decide (j < k) && match l0[k]? with | some o=> o.after.any fun e=> Region.binds .any e && e.on==j | none=> false) && (last.after.all fun e=> !Region.binds .any e || decide (e.on < l0.length))
section

variable {P:Program} {l0:List Oper} {last:Oper} {Q Q0:Exit->Act->World->Prop}

theorem zp6{i:Nat}(h:i<l0.length):(l0++[last]).toArray[i]?=l0.toArray[i]?:=by simp[h,List.getElem?_append_left]
theorem zhz:(l0++[last]).toArray[l0.length]?=some last:=by simp
theorem zgp{listed:Array Bool}{i:Nat}{d:Bool}(h:i<listed.size):(listed.push false).getD i d=listed.getD i d:=by
 have b:i<(listed.push false).size:=by simp;omega
 simp only[Array.getD_eq_getD_getElem?,Array.getElem?_eq_getElem h,Array.getElem?_eq_getElem b,Option.getD_some];rw[Array.getElem_push_lt h]
def z5j (l0:List Oper) (listed:Array Bool):Prop:=∀ k o,l0[k]?=some o->listed.getD k false=true->∀ e ∈ o.after,Region.binds .any e=true->listed.getD e.on false=true
theorem z4m{listed:Array Bool}{i:Nat}(hs:z5j l0 listed)(hi:i ∈ Region.ready .any l0.toArray listed):z5j l0 (listed.setIfInBounds i true):=by
 intro k o q f e p hb;have j:=zfh (mem_ready.1 hi).1;rw[gset j]at f ⊢;by_cases n:k=i
 ·subst n;obtain⟨_,r,m,b⟩:=mem_ready.1 hi;have:l0[k]?=some r:=by simpa using m
  rw[q]at this;obtain rfl:=Option.some.inj this;rw[b e p hb,Bool.or_true]
 rw[decide_eq_false n,Bool.false_or]at f;rw[hs k o q f e p hb,Bool.or_true]
theorem zgf(D:lastB l0 last=true){listed:Array Bool}(F:listed.size=l0.length)(C:z5j l0 listed)(i:Nat):
  i ∈ Region.ready .any (l0++[last]).toArray (listed.push false)↔(i ∈ Region.ready .any l0.toArray listed)\/(i=l0.length/\∀ j,j<l0.length->listed.getD j false=true):=by
 simp only[lastB,Bool.and_eq_true]at D;obtain⟨⟨⟨r,E⟩,z⟩,B⟩:=D;rw[mem_ready,mem_ready];constructor
 ·rintro⟨hu,o,m,b⟩;rcases Nat.lt_trichotomy i l0.length with hi|hi|hi
  ·rw[zp6 hi]at m;refine .inl ⟨by rw[zgp (by omega)]at hu;exact hu,o,m,fun e n hb=>?_⟩;have:=b e n hb;have p:o ∈ l0:=by
    have:l0[i]?=some o:=by simpa using m
    exact List.mem_of_getElem? this
   have h1:=List.all_eq_true.1 r o p;simp only[Bool.and_eq_true]at h1;have h2:=(Array.all_eq_true_iff_forall_mem.1 h1.2) e n;have h3:e.on<l0.length:=by simpa[hb] using h2
   rwa [zgp (by omega)]at this
  ·subst hi;rw[zhz]at m;obtain rfl:=Option.some.inj m;refine .inr ⟨rfl,?_⟩
   have key:∀ d j,j<l0.length->l0.length<=j+d->listed.getD j false=true:=by
    intro d
    induction d with
    |zero=>intro j t hd;omega
    |succ d G=>
     intro j t hd
     have h1:=List.all_eq_true.1 z j (List.mem_range.2 t)
     simp only[Bool.or_eq_true]at h1
     rcases h1 with h1|h1
     ·obtain⟨k,q,f⟩:=Array.any_eq_true.1 h1
      simp only[Bool.and_eq_true,beq_iff_eq]at f
      have:=b _ (Array.getElem_mem q) f.1
      rw[f.2,zgp (by omega)]at this
      exact this
     ·obtain⟨k,q,h2⟩:=List.any_eq_true.1 h1
      have q:=List.mem_range.1 q
      simp only[Bool.and_eq_true,decide_eq_true_eq]at h2
      have h3:=h2.2
      have s:l0[k]?=some l0[k]:=List.getElem?_eq_getElem q
      rw[s]at h3
      obtain⟨u,hu,f⟩:=Array.any_eq_true.1 h3
      simp only[Bool.and_eq_true,beq_iff_eq]at f
      have:=C k _ s (G k q (by omega)) _ (Array.getElem_mem hu) f.1
      rw[f.2]at this
      exact this
   exact fun j t=>key l0.length j t (by omega)
  have:(l0++[last]).toArray[i]?=none:=by simp;omega
  rw[this]at m;cases m
 rintro(⟨hu,o,m,b⟩|⟨rfl,b⟩)
 ·have hi:i<l0.length:=by have:=(Array.getElem?_eq_some_iff.1 m).1;simpa using this
  refine⟨by rw[zgp (by omega)];exact hu,o,by rw[zp6 hi];exact m,fun e n hb=>?_⟩;have p:o ∈ l0:=by
   have:l0[i]?=some o:=by simpa using m
   exact List.mem_of_getElem? this
  have h1:=List.all_eq_true.1 r o p;simp only[Bool.and_eq_true]at h1;have h2:=(Array.all_eq_true_iff_forall_mem.1 h1.2) e n;have h3:e.on<l0.length:=by simpa[hb] using h2
  rw[zgp (by omega)];exact b e n hb
 refine⟨?_,last,zhz,fun e n hb=>?_⟩
 ·rw[<-F,Array.getD_eq_getD_getElem?,Array.getElem?_push_size];rfl
 have h2:=(Array.all_eq_true_iff_forall_mem.1 B) e n;have h3:e.on<l0.length:=by simpa[hb] using h2
 rw[zgp (by omega)];exact b _ h3
theorem zje(q:lastB l0 last=true){listed:Array Bool}(E:listed.size=l0.length)(h:Region.ready .any l0.toArray listed= []):∀ n i,i<n->i<l0.length->listed.getD i false=true:=by
 simp only[lastB,Bool.and_eq_true]at q;obtain⟨⟨⟨t,m⟩,z⟩,B⟩:=q;intro n;induction n with
 |zero=>intro i hi;omega;|succ n D=>
  intro i hi b;rcases Bool.eq_false_or_eq_true (listed.getD i true) with e|e
  ·have o:i<listed.size:=by omega
   simp only[Array.getD_eq_getD_getElem?,Array.getElem?_eq_getElem o,Option.getD_some]at e ⊢;exact e
  have C:l0.toArray[i]?=some l0.toArray[i]:=Array.getElem?_eq_getElem (by rw[List.size_toArray];exact b)
  have r:i ∈ Region.ready .any l0.toArray listed:=mem_ready.2 ⟨e,_,C,fun f s j=>by
   have h1:=List.all_eq_true.1 m i (List.mem_range.2 b)
   have p:l0[i]?=some l0.toArray[i]:=by simp
   rw[p]at h1
   have h2:=(Array.all_eq_true_iff_forall_mem.1 h1) f s
   have h3:f.on<i:=by simpa[j] using h2
   exact D f.on (by omega) (by omega)⟩
  rw[h]at r;cases r
theorem z7e{listed:Array Bool}{i:Nat}(h:i<listed.size):(listed.push false).setIfInBounds i true=(listed.setIfInBounds i true).push false:=by
 apply Array.ext
 ·simp
 intro j h1 h2;simp only[Array.size_setIfInBounds,Array.size_push]at h1;rw[Array.getElem_setIfInBounds (by simpa using h1)];by_cases b:j<listed.size
 ·rw[Array.getElem_push_lt b,Array.getElem_push_lt (by simpa using b),Array.getElem_setIfInBounds b]
 have:j=listed.size:=by omega
 subst this;have f:¬ i=listed.size:=by omega
 rw[if_neg f,Array.getElem_push_eq];have:=Array.getElem_push_eq (xs:=listed.setIfInBounds i true) (x:=false);simp[Array.getElem_push]
theorem z01{listed:Array Bool}(s:listed.size=l0.length)(b:∀ j,j<l0.length->listed.getD j false=true):Region.ready .any (l0++[last]).toArray ((listed.push false).setIfInBounds l0.length true)= []:=by
 apply List.eq_nil_iff_forall_not_mem.2;intro i hi;obtain⟨hu,o,q,_⟩:=mem_ready.1 hi;have p:i<l0.length+1:=by have:=(Array.getElem?_eq_some_iff.1 q).1;simpa using this
 by_cases e:i=l0.length
 ·subst e;have r:l0.length<((listed.push false).setIfInBounds l0.length true).size:=by simp;omega
  simp only[Array.getD_eq_getD_getElem?,Array.getElem?_eq_getElem r,Option.getD_some]at hu;rw[Array.getElem_setIfInBounds_self]at hu;cases hu
 have f:i<l0.length:=by omega
 have h1:=b i f;have m:l0.length≠i:=fun n=>e n.symm;rw[Array.getD_eq_getD_getElem?,Array.getElem?_setIfInBounds_ne m,<- Array.getD_eq_getD_getElem?,zgp (by omega)]at hu;have:=getD_both hu;rw[h1]at this;cases this
theorem zkz(q:lastB l0 last=true)(G:∀ e a w,e≠ .normal->Q0 e a w->Q e a w)(M:∀ a w,Q0 .normal a w->wpOp P (l0++[last]).toArray Q l0.length (fun C w'=>Q .normal C w') a w)(m:Nat):
  ∀ (listed:Array Bool) (a:Act) (w:World),listed.size=l0.length->z5j l0 listed->wpAny P .any l0.toArray Q0 m listed a w->wpAny P .any (l0++[last]).toArray Q (m+1) (listed.push false) a w:=by
 have r:∀ (f:Nat) (listed:Array Bool) (a:Act) (w:World),listed.size=l0.length->Region.ready .any l0.toArray listed= []->Q0 .normal a w->
   wpOp P (l0++[last]).toArray Q l0.length (wpAny P .any (l0++[last]).toArray Q f ((listed.push false).setIfInBounds l0.length true)) a w:=fun f listed a w p h0 H=>by
  refine wpOp_mono (fun C w' B=>?_) (M a w H)
  have hd:=z01 (last:=last) p (fun j z=>zje q p h0 (j+1) j (by omega) z)
  cases f with
  |zero=>exact⟨hd,B⟩
  |succ f=>exact⟨fun _=>B,fun i hi=>by rw[hd]at hi;cases hi⟩
 induction m with
 |zero=>
  intro listed a w p n h;refine⟨fun h0=>?_,fun i hi=>?_⟩
  ·have:l0.length ∈ Region.ready .any (l0++[last]).toArray (listed.push false):=(zgf q p n _).2 (.inr ⟨rfl,fun j z=>zje q p h.1 (j+1) j (by omega) z⟩);rw[h0]at this;cases this
  rcases(zgf q p n i).1 hi with hi|⟨rfl,_⟩
  ·rw[h.1]at hi;cases hi
  exact r 0 listed a w p h.1 h.2
 |succ m O=>
  intro listed a w p n h;refine⟨fun h0=>?_,fun i hi=>?_⟩
  ·rcases hr:Region.ready .any l0.toArray listed with _|⟨j,R⟩
   ·have:l0.length ∈ Region.ready .any (l0++[last]).toArray (listed.push false):=(zgf q p n _).2 (.inr ⟨rfl,fun j z=>zje q p hr (j+1) j (by omega) z⟩);rw[h0]at this;cases this
   have:j ∈ Region.ready .any (l0++[last]).toArray (listed.push false):=(zgf q p n _).2 (.inl (by rw[hr];exact List.mem_cons_self ..));rw[h0]at this;cases this
  rcases(zgf q p n i).1 hi with hi|⟨rfl,t⟩
  ·have h1:=h.2 i hi;obtain⟨hu,o,s,_⟩:=mem_ready.1 hi;have D:i<l0.length:=by have:=(Array.getElem?_eq_some_iff.1 s).1;simpa using this
   have I:o.guard=none:=by simp only[lastB,Bool.and_eq_true]at q;have F:o ∈ l0:=List.mem_of_getElem? (by simpa using s:l0[i]?=some o);have:=List.all_eq_true.1 q.1.1.1 o F;simp only[Bool.and_eq_true,Option.isNone_iff_eq_none]at this;exact this.1
   have N:∀ k,Region.wanted o k=true:=fun k=>by unfold Region.wanted;rw[I]
   rw[z7e (by omega)];have h2:=wpOp_mono (fun C w' J=>O (listed.setIfInBounds i true) C w' (by simpa using p) (z4m n hi) J) h1;unfold wpOp at h2 ⊢;rw[s]at h2;rw[zp6 D,s];simp only[N,if_true]at h2 ⊢;rcases h2 with h2|⟨h2,b,u,h3⟩
   ·exact .inl (zpf h2 G)
   exact .inr ⟨h2,b,u,G _ _ _ (fun e=>by cases e) h3⟩
  have h0:Region.ready .any l0.toArray listed= []:=by
   apply List.eq_nil_iff_forall_not_mem.2;intro k L;obtain⟨hu,o,s,_⟩:=mem_ready.1 L;have E:k<l0.length:=by have:=(Array.getElem?_eq_some_iff.1 s).1;simpa using this
   have h1:=t k E;have:=getD_both hu;rw[h1]at this;cases this
  exact r (m+1) listed a w p h0 (h.1 h0)
theorem zcx{U:Nat}{a:Act}{W:World}{x:zd0}{ld:Nat}{v:Value}{K0 K1:World->Prop}{l l':List Oper}{ts:List Nat}(n:Nat)(L:P.follows .mixedOrders=true)(hd:l.drop n= [last])(m:lastB (l.take n) last=true)
  (I:zfq x ld v 0 (l.take n)=l') (G:Region.lexB .any l'.toArray=true) (H:zrg (l.take n).toArray x ld=true) (i:Region.noSelect (l.take n).toArray=true)
  (N:x.al≠x.st/\x.al≠ld/\x.st≠ld/\x.src≠x.d) (j:ld<(l.take n).toArray.size/\(x.al<(l.take n).toArray.size↔x.st<(l.take n).toArray.size)) (t:x.so≠x.al/\x.so≠x.st) (s:x.al<(l.take n).toArray.size->x.so≠ld) (R:zsq (l.take n).toArray x ld ts=true) (z:x.d ∉ ts) (f:x.d<a.tmps.size)
  (hc:zn6 W K0/\zn6 W K1) (h0:K0 W.drew)
  (b:∃ aF,(∀ B,K0 B\/K1 B->W.heap.size<=B.heap.size->wpQuiet P l'.toArray (fun w'=>∃ e:Ext B,w'=e.w) (fun D=>D=aF) l' a)/\(x.al<(l.take n).toArray.size->∀ Q0,ze2 P (l.take n) Q0 aF x)/\(∀ Q0,zij P (l.take n) Q0 aF W ld v ts K0 K1)/\
   ∀ a w M,zni W x K1 (l.take n).toArray.size aF a w M->wpList P l.toArray Q [last] a w):(Code.region U l.toArray true).wp P Q a W:=by
 have p:l=l.take n++[last]:=by rw[<-hd,List.take_append_drop]
 obtain⟨aF,h1,h2,h3,h4⟩:=b;generalize J:l.take n=l0 at *;subst p;have T:(l0++[last]).toArray.size=l0.toArray.size+1:=by simp
 have V:last.guard=none\/True:= .inr trivial;have E:=zqg (P:=P) (Q:=fun e a w=>match e with | .normal=>wpList P (l0++[last]).toArray Q [last] a w|e=>Q e a w) I G H i N j t s R z f hc h0 ⟨aF,h1,fun S=>h2 S _,h3 _,h4⟩;have F:=zkz (P:=P) (Q:=Q) m (fun e a w q r=>by cases e<;>first|exact absurd rfl q|exact r) (fun a w r=>?_) l0.toArray.size (Array.replicate l0.toArray.size false) a W.drew (by simp) (fun k o _ C=>by rw[getD_replicate_false]at C;cases C) E
 ·refine wp_region_any L ?_;rw[T];have O:(Array.replicate l0.toArray.size false).push false=Array.replicate (l0.toArray.size+1) false:=by rw[Array.replicate_succ]
  rw[<-O];exact F
 unfold wpOp;rw[zhz];exact r
end

end

section

open Go.RowKit

section

variable {P:Program} {l:List Oper} {md:Region.Mode} {aF:Act} {W:World} {Q:Exit->Act->World->Prop} {x y:zd0}

structure z1h (W:World) (x:zd0) (aF a:Act) (w:World) (M:Nat):Prop where
 state:a=aF.put (some x.d) (vptr M)
 below:Below W.heap.size W w
 new:W.heap.size<=M
 one:w.heap[M]?=some (.cells x.val x.t (0,0))
theorem yga(I:z2q l.toArray x y=true)(J:Region.noSelect l.toArray=true)(hp:zlh x y)(T:ze2 P l Q aF x)
  (t:x.al<l.toArray.size/\x.st<l.toArray.size/\l.toArray.size<=y.al/\l.toArray.size<=y.st)
  (b0:ownB x y x.so=false)
  (H:∀ a w M,z1h W x aF a w M->Q .normal a w) (f:Nat):∀ (listed:Array Bool) (aQ a:Act) (w:World),listed.size=l.toArray.size->zhy W x y listed aQ a w->
  (∀ B,Below W.heap.size W B->wpAnyQ P .any (nopL x y l).toArray (zhc B) (fun a=>a=aF) f listed aQ)->wpAny P .any l.toArray Q f listed a w:=by
 have fin:∀ (listed:Array Bool) (aQ a:Act) (w:World),listed.size=l.toArray.size->zhy W x y listed aQ a w->Region.ready .any l.toArray listed= []->aQ=aF->Q .normal a w:=by
  intro listed aQ a w q n h0 e;have j:∀ i,i<l.toArray.size->listed.getD i false=true:=fun i hi=>by
   have:=all_in I q h0 (i+1) i (by omega) hi;have m:i<listed.size:=by omega
   simp only[Array.getD_eq_getD_getElem?,Array.getElem?_eq_getElem m,Option.getD_some]at this ⊢;exact this
  have Z:listed.getD y.al false=false:=by
   have:listed.size<=y.al:=by omega
   simp[Array.getElem?_eq_none this]
  obtain⟨M,N,h1,h2,h3,h4⟩:=n.there;rw[j _ t.1,Z,e]at h1;obtain⟨k1,O⟩:=h2 (j _ t.1);rw[j _ t.2.1]at O;exact H a w M ⟨h1,n.below,k1,by simpa using O⟩
 induction f with
 |zero=>
  intro listed aQ a w q n h;have h1:=h W br;have h0:Region.ready .any l.toArray listed= []:=by rw[<-zne (x:=x) (y:=y)];exact h1.1
  exact⟨h0,fin listed aQ a w q n h0 h1.2⟩
 |succ f ih=>
  intro listed aQ a w q n h
  refine⟨fun h0=>fin listed aQ a w q n h0 ((h W br).1 (by rw[zne];exact h0)),fun i hi=>?_⟩
  have s:i ∈ Region.ready .any (nopL x y l).toArray listed:=by rw[zne];exact hi
  obtain⟨L,o,r,X⟩:=mem_ready.1 hi
  have m:=zfh L
  have b2:i<l.toArray.size:=(Array.getElem?_eq_some_iff.1 r).1
  have F:(listed.setIfInBounds i true).size=l.toArray.size:=by simpa using q
  cases hown:ownB x y i with
  |true=>
   have S:∀ B,Below W.heap.size W B->wpAnyQ P .any (nopL x y l).toArray (zhc B) (fun a=>a=aF) f (listed.setIfInBounds i true) aQ:=fun B U=>
    ycl hown ⟨o,r⟩ ((h B U).2 i s)
   have src:∀ z:zd0,ze2 P l Q aF z->ownB x y z.so=false->listed.getD z.so false=true->aQ.eval (.tmp z.src)=aF.eval (.tmp z.src):=fun z q r hl=>by
    obtain⟨oz,k1,O⟩:=q.src
    have h1:(nopL x y l).toArray[z.so]?=some oz:=by rw[zmy,k1];simp[r]
    have:=zph h1 O (zpl I k1 _ O) _ listed aQ hl (h W br)
    show aQ.tmps.getD z.src undef=aF.tmps.getD z.src undef
    rw[Array.getD_eq_getD_getElem?,Array.getD_eq_getD_getElem?,this]
   have hc:i=x.al\/i=x.st:=by
    simp only[ownB,Bool.or_eq_true,beq_iff_eq]at hown
    omega
   rcases hc with e|e<;>subst e
   ·exact wpOp_mono (fun R w' D=>ih _ _ _ _ F D S) (z7g hp T n L)
   ·exact wpOp_mono (fun R w' D=>ih _ _ _ _ F D S) (z6q hp T n hi (src x T b0 (T.waits _ hi).2))
  |false=>
   obtain⟨qg,qx,qy,lx,ly⟩:=(zm4 I r).quiet hown
   have h0:(nopL x y l).toArray[i]?=some o:=by rw[zmy,r];simp[hown]
   obtain⟨v,b1,V⟩:=yieldsIn_of_qOp h0 ((h w n.below).2 i s)
   have hv:=zqc h0 (zpl I r) m V
   have S:∀ B,Below W.heap.size W B->wpAnyQ P .any (nopL x y l).toArray (zhc B) (fun a=>a=aF) f (listed.setIfInBounds i true) (aQ.put o.dst v):=fun B U=>by
    obtain⟨u,_,G⟩:=yieldsIn_of_qOp h0 ((h B U).2 i s)
    have hu:=zqc h0 (zpl I r) m G
    rw[hv,<- hu];exact G
   have p:∀ k,Region.wanted o k=true:=fun k=>by unfold Region.wanted;rw[qg]
   have hq:∀ w',zhc w w'->o.quietAt P aQ (zhc w) w' v:=by
    rcases b1 with⟨_,h2⟩|⟨h2,_⟩
    ·exact h2
    ·rw[p]at h2;cases h2
   obtain⟨M,N,h1,_⟩:=n.there
   have Y:execOp a.eval o=execOp aQ.eval o:=execOp_congr o (fun cs b=>Region.noSelect_spec J i o cs b r) fun z q=>by
    rw[h1,zfk (zmk lx z q),zfk (zmk ly z q)]
   unfold wpOp
   rw[r]
   simp only[p,if_true]
   refine .inl (Oper.wp_of_quiet (C:=zhc w) (K:=fun R=>R=a.put o.dst v) br (fun R w' E e=>ih _ _ _ _ F (z1u m n hown qx qy E e) S) ⟨v,fun w' E=>?_,rfl⟩)
   have:=hq w' E
   unfold Oper.quietAt at *
   rw[Y];exact this
theorem zkt{E:Nat}{a:Act}{l':List Oper}(t:P.follows .mixedOrders=true)(s:nopF x y 0 l=l')(o:Region.lexB .any l'.toArray=true)(b:z2q l.toArray x y=true)(n:Region.noSelect l.toArray=true)(z:zlh x y)
  (p:x.al<l.toArray.size/\x.st<l.toArray.size/\l.toArray.size<=y.al/\l.toArray.size<=y.st) (q:ownB x y x.so=false) (j:x.d<a.tmps.size/\y.d<a.tmps.size)
  (f:∃ aF,(∀ B,Below W.heap.size W B->wpQuiet P l'.toArray (fun w'=>∃ e:Ext B,w'=e.w) (fun r=>r=aF) l' a)/\ze2 P l Q aF x/\
   ∀ a w M,z1h W x aF a w M->Q .normal a w):(Code.region E l.toArray true).wp P Q a W:=by
 subst s;obtain⟨aF,h,D,i⟩:=f;rw[<-ycp]at o h;simp only[Region.lexB,Bool.and_eq_true]at o;have m:(nopL x y l).length=l.toArray.size:=by simp[nopL]
 refine wp_region_any t (yga (W:=W.drew) b n z D p q (fun a w M b=>i a w M ⟨b.state,⟨b.below.os,b.below.tape,b.below.output,b.below.size,b.below.block⟩,b.new,b.one⟩) l.toArray.size _ a a _ (by simp) ⟨Below.refl _ _,j,⟨fun e=>?_,fun e=>?_⟩,⟨0,0,?_,fun e=>?_,fun e=>?_,fun e=>?_⟩⟩ fun B hb=>?_)
 ·rw[getD_replicate_false]at e;cases e
 ·rw[getD_replicate_false]at e;cases e
 ·rw[getD_replicate_false,getD_replicate_false];rfl
 ·rw[getD_replicate_false]at e;cases e
 ·rw[getD_replicate_false]at e;cases e
 ·rw[getD_replicate_false]at e;cases e
 have h3:=h B ⟨hb.os,hb.tape,hb.output,hb.size,hb.block⟩;rw[<-zsj]at h3
 have:=wpAnyQ_lex (C:=zhc B) (md:= .any) o.1 (nopL x y l) 0 (Array.replicate l.toArray.size false) a (by simp) (by
  have h2:=o.2
  simpa[nopL] using h2) h3
 rw[m]at this;exact this
end

end

section

open Go.RowKit

theorem ziv{P:Program}{Q:Exit->Act->World->Prop}{p q:Oper}{id:Nat}{a:Act}{W:World}{x:zd0}{ld:Nat}{v:Value}{K0 K1:World->Prop}{l l':List Oper}{ts:List Nat}(n:Nat)(Z:P.follows .mixedOrders=true)(hd:l.drop n= [p,q])(H:lastB (l.take n) p=true)(j:lastB (l.take n++[p]) q=true)
  (X:zfq x ld v 0 (l.take n)=l') (U:Region.lexB .any l'.toArray=true) (V:zrg (l.take n).toArray x ld=true) (z:Region.noSelect (l.take n).toArray=true)
  (hn:x.al≠x.st/\x.al≠ld/\x.st≠ld/\x.src≠x.d) (F:ld<(l.take n).toArray.size/\(x.al<(l.take n).toArray.size↔x.st<(l.take n).toArray.size)) (L:x.so≠x.al/\x.so≠x.st) (J:x.al<(l.take n).toArray.size->x.so≠ld) (hw:zsq (l.take n).toArray x ld ts=true) (N:x.d ∉ ts) (s:x.d<a.tmps.size)
  (hc:zn6 W K0/\zn6 W K1) (h0:K0 W.drew)
  (r:∃ aF,(∀ B,K0 B\/K1 B->W.heap.size<=B.heap.size->wpQuiet P l'.toArray (fun w'=>∃ e:Ext B,w'=e.w) (fun R=>R=aF) l' a)/\(x.al<(l.take n).toArray.size->∀ Q0,ze2 P (l.take n) Q0 aF x)/\(∀ Q0,zij P (l.take n) Q0 aF W ld v ts K0 K1)/\
   ∀ a w M,zni W x K1 (l.take n).toArray.size aF a w M->wpList P l.toArray Q [p,q] a w):(Code.region id l.toArray true).wp P Q a W:=by
 have G:l=(l.take n++[p])++[q]:=by have h:=(List.take_append_drop n l).symm;rw[hd]at h;simpa using h
 obtain⟨aF,h1,h2,h3,h4⟩:=r;generalize Y:l.take n=l0 at *;subst G;have E:p.guard=none:=by simp only[lastB,Bool.and_eq_true]at j;have:=List.all_eq_true.1 j.1.1.1 p (by simp);simp only[Bool.and_eq_true,Option.isNone_iff_eq_none]at this;exact this.1
 have C:∀ k,Region.wanted p k=true:=fun k=>by unfold Region.wanted;rw[E]
 have S:=zqg (P:=P) (Q:=fun e a w=>match e with | .normal=>wpList P ((l0++[p])++[q]).toArray Q [p,q] a w|e=>Q e a w) X U V z hn F L J hw N s hc h0 ⟨aF,h1,fun hx=>h2 hx _,h3 _,h4⟩;have D:=zkz (P:=P) (Q:=fun e a w=>match e with | .normal=>wpList P ((l0++[p])++[q]).toArray Q [q] a w|e=>Q e a w) H (fun e a w f i=>by cases e<;>first|exact absurd rfl f|exact i) (fun a w i=>?_) l0.toArray.size (Array.replicate l0.toArray.size false) a W.drew (by simp) (fun k o _ t=>by rw[getD_replicate_false]at t;cases t) S
 ·have hr:(Array.replicate l0.toArray.size false).push false=Array.replicate (l0++[p]).toArray.size false:=by simp[Array.replicate_succ]
  rw[hr]at D;have O:l0.toArray.size+1=(l0++[p]).toArray.size:=by simp
  rw[O]at D;have T:=zkz (P:=P) (Q:=Q) j (fun e a w f i=>by cases e<;>first|exact absurd rfl f|exact i) (fun a w i=>by unfold wpOp;rw[zhz];exact i) (l0++[p]).toArray.size (Array.replicate (l0++[p]).toArray.size false) a W.drew (by simp) (fun k o _ t=>by rw[getD_replicate_false]at t;cases t) D;refine wp_region_any Z ?_;have hz:((l0++[p])++[q]).toArray.size=(l0++[p]).toArray.size+1:=by simp
  rw[hz];have I:(Array.replicate (l0++[p]).toArray.size false).push false=Array.replicate ((l0++[p]).toArray.size+1) false:=by rw[Array.replicate_succ]
  rw[<-I];exact T
 unfold wpOp;rw[zhz];simp only[C,if_true];have m:wpList P ((l0++[p])++[q]).toArray Q [p,q] a w:=i;unfold wpList at m;simp only[C,if_true]at m;rcases m with h|⟨h2,b,u,h3⟩
 ·exact .inl (zpf h (fun e a w f i=>by cases e<;>first|exact absurd rfl f|exact i))
 exact .inr ⟨h2,b,u,h3⟩
end

section

open Go.RowKit Fl

theorem ye8(x y:Nat):FloatKind.f64.format.order x y=Ieee.double.order x y:=rfl
abbrev F64 (x:Nat):Value:= .float .f64 x
theorem z7u(x:Nat)(w:World):(Op.unary UnOp.neg (.float .f64 x)).run Tryz.prog w= .ok (.float .f64 (x ^^^ 2^63)) w:=rfl
theorem z2t(x:Nat)(w:World):Calls Tryz.prog 116 #[F64 x] w fun e w'=>e= .returned (.bool (nan x))/\w'=w:=by
 go_in;go_wp2;go_ret;refine⟨zg6 ?_,rfl⟩;rw[ye8,bne,zq7,Fl.yax,Bool.not_not]
theorem zp1(x:Nat)(w:World):Calls Tryz.prog 117 #[F64 x,.int .i64 (-1)] w fun e w'=>e= .returned (.bool (decide (zg4 x=1)))/\w'=w:=by
 have b:=z7u x;go_in;go_wp2;go_ret;refine⟨zg6 ?_,rfl⟩;rw[<-z18,<- zma];rfl
theorem zps(x:Nat)(w:World):Calls Tryz.prog 117 #[F64 x,.int .i64 1] w fun e w'=>e= .returned (.bool (decide (zg4 x=5)))/\w'=w:=by
 go_in;go_wp2;go_ret;refine⟨zg6 ?_,rfl⟩;rw[<-zsg,<- zma];rfl
theorem lt0(x:Nat):(FloatKind.f64.format.order x 0==some .lt)=(!nan x&&decide (iv x<0)):=(z5e x 0).trans (yce x)
theorem gt0(x:Nat):(FloatKind.f64.format.order x 0==some .gt)=(!nan x&&decide (0<iv x)):=(zma x 0).trans (z9v x)
theorem zhn(x:Nat)(w:World):Calls Tryz.prog 99 #[F64 x] w fun e w'=>e= .returned (.int .i64 (zg4 x))/\w'=w:=by
 have i:=lt0 x;have b:=gt0 x;go_in;go_wp2_with (first|(go_at_call 116;refine(z2t _ _).mono ?_;rintro e j ⟨rfl,rfl⟩)|(go_at_call 117;(with_reducible refine(zp1 _ _).mono ?_);rintro e j ⟨rfl,rfl⟩)|(go_at_call 117;(with_reducible refine(zps _ _).mono ?_);rintro e j ⟨rfl,rfl⟩));all_goals go_ret
 all_goals refine⟨zf5 ?_,rfl⟩
 all_goals clear i b
 all_goals first
  |exact(zst.2 (by assumption)).symm
  |(have h:=z4r (x:=x) (by assumption);have m:(0:Int)<(INF:Int):=(by decide);omega)
theorem gtxy(x y:Nat):(FloatKind.f64.format.order x y==some .gt)=gtB x y:=zma x y
theorem eqxy(x y:Nat):(FloatKind.f64.format.order x y==some .eq)=eqB x y:=zq7 x y
end

section

open Go.RowKit Fl

end

section

open Go.RowKit Fl

theorem yed(x:Nat):(FloatKind.f64.format.order x 4607182418800017408==some .gt||FloatKind.f64.format.order x 4607182418800017408==some .eq)=(!nan x&&decide ((ONE:Int)<=iv x)):=by
 have h1:=gtxy x ONE;have h2:=eqxy x ONE;unfold ONE at h1 h2;rw[h1,h2];show (gtB x ONE||eqB x ONE)=_;unfold gtB eqB;rw[yaf,yfe];cases nan x
 ·simp only[Bool.not_false,Bool.true_and];rw[Bool.eq_iff_iff];simp only[Bool.or_eq_true,decide_eq_true_eq];omega
 rfl
theorem z4a(x:Nat)(n:Int)(B: -9223372036854775808<=n)(z:n<=9223372036854775807)(w:World):Calls Tryz.prog 78 #[F64 x,n] w fun e w'=>e= .returned (.int .i64 (zdr x n))/\w'=w:=by
 have j:=lt0 x;have i:=yed x;have b:=zst (x:=x);unfold zdr;by_cases h1:n<1
 ·rw[if_pos (.inl h1)];clear j i b;go_in;go_wp2_with (go_at_call 99;refine(zhn _ _).mono ?_;rintro e q ⟨rfl,rfl⟩);go_ret;exact⟨rfl,rfl⟩
 cases h2:nan x
 ·have p:zg4 x≠0:=fun h=>by rw[b.1 h]at h2;cases h2
  have s:(zg4 x==0)=false:=by simpa using p
  rw[h2]at j i;by_cases h3:iv x<0
  ·rw[if_pos (.inr (.inr h3))];rw[decide_eq_true h3]at j;clear i b h3;go_in;go_wp2_with (go_at_call 99;refine(zhn _ _).mono ?_;rintro e q ⟨rfl,rfl⟩);go_ret;exact⟨rfl,rfl⟩
  rw[if_neg (by simp only[Bool.false_eq_true,false_or,not_or];exact⟨h1,h3⟩)];rw[decide_eq_false h3]at j;by_cases h4:(ONE:Int)<=iv x
  ·rw[if_pos h4];rw[decide_eq_true h4]at i;clear b h3 h4;go_in;go_wp2_with (go_at_call 99;refine(zhn _ _).mono ?_;rintro e q ⟨rfl,rfl⟩);go_ret;exact⟨rfl,rfl⟩
  rw[if_neg h4];rw[decide_eq_false h4]at i;obtain⟨r,o,m,D⟩:=zye (x:=x) (n:=n) (by omega) z (by omega) (by omega);generalize (T (zi8 (rung x) (R n.natAbs 0)):Int)=t at *;have C:=fun w:World=>run_float_arith (P:=Tryz.prog) w .mul 34 .f64 _ _ r o;have hc:=fun w:World=>run_convert_float_int (P:=Tryz.prog) w 34 3 .f64 .i64 r t (by kernel_rfl) Tryz.underlying3 m;clear b h3 h4 o m;go_in;go_wp2_with (go_at_call 99;refine(zhn _ _).mono ?_;rintro e q ⟨rfl,rfl⟩);all_goals go_ret
  all_goals refine⟨zf5 ?_,rfl⟩
  all_goals omega
 have p:zg4 x=0:=b.2 h2;have s:(zg4 x==0)=true:=by simpa using p
 rw[if_pos (.inr (.inl rfl))];clear j i b p;go_in;go_wp2_with (go_at_call 99;refine(zhn _ _).mono ?_;rintro e q ⟨rfl,rfl⟩);go_ret;exact⟨rfl,rfl⟩
end

section

open Go.RowKit Fl

structure Ch where
 kind:Int
 client:Int
 ok:Int
 oa:Int
 on:Int
 bias:Nat
 deriving DecidableEq
def Ch.cells (c:Ch):List Value:= [.int .i64 c.kind,.int .i64 c.client,.int .i64 c.ok,.int .i64 c.oa,.int .i64 c.on,.float .f64 c.bias]
def zdm (xs:List Ch):List Value:=xs.flatMap Ch.cells
theorem zmn(xs:List Ch)(i j:Nat)(hi:i<xs.length)(m:j<6):(zdm xs)[i*6+j]?=(xs[i].cells)[j]?:=by
 induction xs generalizing i with
 |nil=>simp at hi
 |cons x xs f=>
  have b:x.cells.length=6:=rfl
  show (x.cells++zdm xs)[i*6+j]?=_
  cases i with
  |zero=>rw[List.getElem?_append_left (by omega)];simp
  |succ i=>
   rw[List.getElem?_append_right (by omega),b,show (i+1)*6+j-6=i*6+j from by omega]
   simpa using f i (by simpa using hi)
def RdC (w:World) (v:Value) (xs:List Ch):Prop:=∃ ao cap,v= .slice ao xs.length cap/\xs.length<=cap/\(cap:Int)<=9223372036854775807/\
 (xs≠ []->∃ b off,ao=some ⟨b,off,.none⟩/\b < w.heap.size/\∀ i j,(hi:i < xs.length)->j < 6->w.cell? ⟨b,off + i * 6 + j,.none⟩=(xs[i].cells)[j]?)
theorem RdC.below{w w':World}{v:Value}{xs:List Ch}(h:RdC w v xs)(hb:Below w.heap.size w w'):RdC w' v xs:=
 let ⟨ao,cap,e,h1,h2,h3⟩:=h
 ⟨ao,cap,e,h1,h2,fun m=>let ⟨b,off,ea,hlt,hc⟩:=h3 m;⟨b,off,ea,Nat.lt_of_lt_of_le hlt hb.size,fun i j hi f=>(hb.cell (p:=⟨b,_,.none⟩) hlt).trans (hc i j hi f)⟩⟩
abbrev OwnC (E:TypeId) (B:Nat) (w:World) (v:Value) (xs:List Ch):Prop:=w.ownsRow B E 6 v xs.length (zdm xs)
theorem OwnC.rd{E:TypeId}{B:Nat}{w:World}{v:Value}{xs:List Ch}(h:OwnC E B w v xs):RdC w v xs:=by
 rcases h.2 with⟨h1,h2⟩|⟨g,cap,b,rfl,h1,h2,h3,h4,n,f⟩
 ·have:xs= []:=List.eq_nil_of_length_eq_zero h2;subst this;exact⟨none,0,h1,Nat.le_refl _,by omega,fun h=>absurd rfl h⟩
 refine⟨_,cap,rfl,h3,by simp only[maxLen]at h4;omega,fun _=>⟨g,0,rfl,(Array.getElem?_eq_some_iff.1 h2).1,fun i j hi m=>?_⟩⟩;rw[cell_of_row w g _ b E (0,0) h2,<- zmn xs i j hi m,<- f,List.getElem?_take,if_pos (by omega)];simp
theorem OwnC.nil(E:TypeId)(B:Nat)(w:World):OwnC E B w (.slice none 0 0) []:=⟨rfl,.inl ⟨rfl,rfl⟩⟩
end

end Go.Proofs.YtedcnffebdpmmaaGreat

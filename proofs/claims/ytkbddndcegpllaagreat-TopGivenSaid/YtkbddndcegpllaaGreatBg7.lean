/- Texts bound together: MchM InvF InvG. -/
import Derived.Test.YtkbddndcegpllaaGreatBg6

set_option linter.all false
namespace Go.Proofs.YtkbddndcegpllaaGreat

section

def mcC:Mc->Int
 | .tk t=> t.c
 | .sc t=> t.c
 | .pc t=> t.c
 | .sp t=> t.c
 | .bn t=> t.c
def zf7 (s:Sh):Mc->Int
 | .tk t=> ziz s t
 | .sc t=> zee s t
 | .pc t=> zfg s t
 | .sp t=> zep t
 | .bn t=> zfx t
def zd4 (s:Sh) (t:Sk):Mc->Int
 | .tk _=> 67 * s.p + 32
 | .sc _=> 34 * s.p + 32
 | .pc _=> 32 * s.p + 32
 | .sp _=> 32 * (s.p - t.many - 1) + 32
 | .bn _=> 0
theorem yac{s:Sh}{x:Mc}{m:Mem}(h:mcOk s x)(hd:x.done=false)(b:Fits s m):Acts (mcC x) m (zbr s x m).2/\mcC (zbr s x m).1=mcC x/\zf7 s (zbr s x m).1+1<=zf7 s x:=by
 cases x with
 |tk t=>exact ybn h hd b
 |sc t=>exact yb3 h hd b
 |pc t=>exact z94 h hd b
 |sp t=>exact z1p h hd b
 |bn t=>exact ybe h hd b
theorem z9s(s:Sh)(t:Sk)(x:Mc)(m:Mem):zd4 s t (zbr s x m).1=zd4 s t x:=by cases x<;>rfl
theorem zry{s:Sh}{x:Mc}(h:mcOk s x):0<=zf7 s x:=by
 cases x with
 |tk t=>exact z1k h
 |sc t=>exact z1y h
 |pc t=>exact zz7 h
 |sp t=>exact znj h
 |bn t=>exact zz0 h
def zcm (s:Sh) (t:Sk):Int:=if t.done=true then 0 else match t.now with
 | none=> 32 * (s.p - t.many) + 32
 | some x=> zf7 s x + zd4 s t x
structure skIs (s:Sh) (cl k:Int) (t:Sk):Prop where
 ok:skOk s t
 c:t.c=cl
 k:t.k=k
 now:∀ x,t.now=some x->mcC x=cl
theorem zpk{s:Sh}{cl k:Int}{t:Sk}(h:skIs s cl k t){pg sl:Int}(b:skOk s (t.fin pg sl)):skIs s cl k (t.fin pg sl):=⟨b,h.c,h.k,h.now⟩
theorem z6t{s:Sh}{cl k:Int}{t:Sk}{x:Mc}(h:skIs s cl k t)(hd:t.done=false)(q:t.now=some x)(r:x.done=true)(o:1<=s.p):skIs s cl k (t.after s x)/\zcm s (t.after s x)<=zcm s t:=by
 have b:=zid h.ok hd q r o;obtain⟨c1,c2,c3,G,D⟩:=h.ok.cl hd;have n:=zry (D x q).1;have F:zcm s t=zf7 s x+zd4 s t x:=by unfold zcm;rw[if_neg (by rw[hd];decide),q]
 rw[F];have j:∀ pg sl,zcm s (t.fin pg sl)=0:=fun _ _=>rfl;have i:∀ p,zcm s (t.bind s p)<=32:=fun p=>by have:=(ydz s t.c p t.k).1;unfold zcm Sk.bind;dsimp only[zf7,zd4];rw[if_neg (by rw[hd];decide)];omega
 have f:∀ p,skOk s (t.bind s p)->skIs s cl k (t.bind s p):=fun p b=>⟨b,h.c,h.k,fun y C=>by
  simp only[Sk.bind,Option.some.injEq]at C
  subst C
  exact h.c⟩
 have B:zcm s (t.turn s)<=32*(s.p-t.many-1)+32:=by unfold zcm Sk.turn;dsimp only;simp only[decide_eq_true_eq];split<;>omega
 cases x with
 |tk y=>
  simp only[Sk.after]at b ⊢;split at b<;>rename_i l
  ·rw[if_pos l];refine⟨zpk h b,?_⟩;rw[j];have:zd4 s t (.tk y)=67*s.p+32:=rfl;omega
  rw[if_neg l];refine⟨⟨b,h.c,h.k,fun z m=>?_⟩,?_⟩
  ·simp only[Option.some.injEq]at m;subst m;exact h.c
  have:=(yem s t.c t.k t.first o).1;unfold zcm;dsimp only[zf7,zd4]at n ⊢;rw[if_neg (by rw[hd];decide)];omega
 |sc y=>
  simp only[Sk.after]at b ⊢;split at b<;>rename_i l
  ·rw[if_pos l];refine⟨zpk h b,?_⟩;rw[j];have:zd4 s t (.sc y)=34*s.p+32:=rfl;omega
  rw[if_neg l];refine⟨⟨b,h.c,h.k,fun z m=>?_⟩,?_⟩
  ·simp only[Option.some.injEq]at m;subst m;exact h.c
  have:=(ydt s t.c t.first o).1;unfold zcm;dsimp only[zf7,zd4]at n ⊢;rw[if_neg (by rw[hd];decide)];omega
 |pc y=>
  simp only[Sk.after]at b ⊢;split at b<;>rename_i l
  ·rw[if_pos l];refine⟨f _ b,?_⟩;have E:=i (y.page s);have:zd4 s t (.pc y)=32*s.p+32:=rfl;omega
  rw[if_neg l];refine⟨⟨b,h.c,h.k,fun z m=>(by cases m)⟩,?_⟩;unfold zcm;dsimp only[zf7,zd4]at n ⊢;rw[if_neg (by rw[hd];decide)];omega
 |sp y=>
  simp only[Sk.after]at b ⊢;have H:zd4 s t (.sp y)=32*(s.p-t.many-1)+32:=rfl;split at b<;>rename_i l
  ·rw[if_pos l];refine⟨f _ b,?_⟩;have E:=i (t.here s);omega
  rw[if_neg l];refine⟨⟨b,h.c,h.k,fun z m=>(by cases m)⟩,?_⟩;omega
 |bn y=>simp only[Sk.after]at b ⊢;refine⟨zpk h b,?_⟩;rw[j];have:zd4 s t (.bn y)=0:=rfl;omega
theorem ztn{s:Sh}{cl k:Int}(i:1<=s.p)(n:Nat):∀ {t:Sk},skIs s cl k t->skIs s cl k (za5 s n t)/\zcm s (za5 s n t)<=zcm s t:=by
 induction n with
 |zero=>intro t h;exact⟨h,Int.le_refl _⟩;|succ n l=>
  intro t h;unfold za5;split
  ·rename_i x j;split
   ·rename_i hc;have b:=z6t h hc.1 j hc.2 i;have f:=l b.1;exact⟨f.1,Int.le_trans f.2 b.2⟩
   exact⟨h,Int.le_refl _⟩
  exact⟨h,Int.le_refl _⟩
def zvw (t:Sk):Prop:=t.done=true\/t.now=none\/∃ x,t.now=some x/\x.done=false
theorem zzt{s:Sh}(n:Nat):∀ {t:Sk},zdj t<=n->zvw (za5 s n t):=by
 induction n with
 |zero=>
  intro t h;unfold zdj at h;unfold za5;split at h
  ·rename_i hd;exact .inl hd
  split at h<;>rename_i i<;>first|exact .inr (.inl i)|omega
 |succ n j=>
  intro t h;unfold za5;split
  ·rename_i x f;split
   ·rename_i hc;have:=ze1 (s:=s) hc.1 f;exact j (by omega)
   rename_i hc;rcases Bool.eq_false_or_eq_true t.done with hd|hd
   ·exact .inl hd
   rcases Bool.eq_false_or_eq_true x.done with b|b
   ·exact absurd ⟨hd,b⟩ hc
   exact .inr (.inr ⟨x,f,b⟩)
  rename_i f;exact .inr (.inl f)
theorem znq(s:Sh)(t:Sk):zvw (za5 s 5 t):=zzt 5 (Nat.le_trans (zrw t) (by decide))
theorem z2i{s:Sh}{t:Sk}(h:skOk s t):0<=zcm s t:=by
 unfold zcm;split
 ·omega
 rename_i hd;obtain⟨c1,c2,c3,i,b⟩:=h.cl (by simpa using hd);split
 ·omega
 rename_i x f;have j:=zry (b x f).1;have:0<=zd4 s t x:=by cases x<;>dsimp only[zd4]<;>omega
 omega
theorem yek{s:Sh}(c k f:Int)(n:mayB s.p s.c s.m=true):skIs s c k (zhb s c k f)/\zvw (zhb s c k f)/\zcm s (zhb s c k f)<=67*s.p+s.m+33:=by
 have hb:=zar.1 n;have j:=zwd s c k f;unfold zhb at j ⊢;split at j
 ·rename_i h;rw[if_pos h];have l:skIs s c k ⟨c,k,f,some (.tk (zg3 s c k)),0,0,0,false,false⟩:=by
   have i:=zbe h.1;have o:=zcs h.2.2;refine⟨⟨fun _=>⟨by dsimp only;omega,h.2.1,by dsimp only;omega,by dsimp only;omega,fun x b=>?_⟩,fun e=>(by cases e)⟩,rfl,rfl,fun x b=>?_⟩
   ·simp only[Option.some.injEq]at b;subst b;exact⟨zl1 _ _ _,rfl⟩
   simp only[Option.some.injEq]at b;subst b;rfl
  have i:=ztn (by omega) 5 l;refine⟨i.1,znq _ _,Int.le_trans i.2 ?_⟩;have:=(yde s c k (by omega)).1;unfold zcm;dsimp only[zf7,zd4];rw[if_neg (by decide)];omega
 rename_i h;rw[if_neg h];refine⟨⟨j,rfl,rfl,fun x b=>(by cases b)⟩,.inl rfl,?_⟩;unfold zcm;dsimp only;rw[if_pos rfl];omega
theorem ybz{s:Sh}{cl k:Int}{t:Sk}{m:Mem}(h:skIs s cl k t)(hs:zvw t)(hd:t.done=false)(r:Fits s m):Acts cl m (zbv s t m).2/\skIs s cl k (zbv s t m).1/\zvw (zbv s t m).1/\zcm s (zbv s t m).1+1<=zcm s t:=by
 have B:1<=s.p:=r.bd.1;obtain⟨c1,c2,c3,E,o⟩:=h.ok.cl hd;have y:=zb7 h.ok.fd hd
 have i:zcm s t=match t.now with
  |none=>32*(s.p-t.many)+32
  |some x=>zf7 s x+zd4 s t x:=by unfold zcm;rw[if_neg (by rw[hd];decide)]
 have f:=z2o m B h.ok;unfold zbv at f ⊢;rw[if_neg (by rw[hd];decide)]at f ⊢;rcases hs with hs|hs|⟨x,n,C⟩
 ·rw[hd]at hs;cases hs
 ·rw[hs]at f i ⊢;dsimp only at f i ⊢;have H:=t.zt4 B;refine⟨(Acts.load (r.zhu H)).of h.c,?_⟩;split at f<;>rename_i l
  ·rw[if_pos l];refine⟨⟨f,h.c,h.k,fun z b=>?_⟩,.inr (.inr ⟨_,rfl,?_⟩),?_⟩
   ·simp only[Option.some.injEq]at b;subst b;exact h.c
   ·have j:=(zea.1 l.1).2.1;have q:=zcs j;have D:=(zdq l.1 l.2).2.2;have G:0<=zae s.p s.c s.m t.c:=by unfold zae;rw[if_pos ⟨q.1,zbc.2 (by omega)⟩];exact c1.1
    simp[Mc.done,zfa,j,D,G]
   rw[i];have:=(z9n s t.c (t.here s) (za2 (m.get (zak s.p s.c s.m (t.here s))) 0)).1;unfold zcm;dsimp only[zf7,zd4];rw[if_neg (by rw[hd];decide)];omega
  rw[if_neg l];refine⟨⟨f,h.c,h.k,fun z b=>(by cases b)⟩,.inr (.inl rfl),?_⟩;rw[i];unfold zcm Sk.turn;dsimp only;simp only[decide_eq_true_eq];split<;>omega
 rw[n]at f i ⊢;dsimp only at f i ⊢;have j:=yac (o x n).1 C r;have hc:=h.now x n;have F:skIs s cl k {t with now:=some (zbr s x m).1}:=by
  refine⟨⟨fun _=>⟨c1,c2,c3,E,fun z b=>?_⟩,fun e=>(by have e:t.found=true:=e;rw[y]at e;cases e)⟩,h.c,h.k,fun z b=>?_⟩
  ·simp only[Option.some.injEq]at b;subst b;exact⟨zjq m (o x n).1,zg1 (t:=t) m (o x n).2⟩
  simp only[Option.some.injEq]at b;subst b;exact j.2.1.trans hc
 have q:=ztn B 5 F;refine⟨j.1.of hc,q.1,znq _ _,?_⟩;have D:zcm s {t with now:=some (zbr s x m).1}=zf7 s (zbr s x m).1+zd4 s t x:=by rw[<-z9s s t x m];unfold zcm;rw[if_neg (by rw[hd];decide)];cases (zbr s x m).1<;>rfl
 omega
def zct (s:Sh) (t:Rn):Int:=if t.done=true then 0
 else if t.next=0 then 50 * (s.p - t.at') + (t.at' - t.head) + 8
 else if t.next=1 then 50 * (s.p - t.at' - 1) + (t.at' - t.head) + 10
 else if t.next=2 then 50 * (s.p - t.at' - 1) + (match t.strip with | some x=> zep x | none=> 0) + (t.at' - t.head) + 25
 else if t.next=3 then 50 * (s.p - t.at' - 1) + (16 - t.i) + (t.at' - t.head) + 9
 else if t.next=4 then 50 * (s.p - t.at' - 1) + (t.i - t.head) + 8
 else t.head + t.pages - t.i
structure rnIs (s:Sh) (cl n:Int) (t:Rn):Prop where
 ok:rnOk s t
 c:t.c=cl
 n:t.pages=n
 st:∀ x,t.strip=some x->x.c=cl
theorem yev{s:Sh}{t:Rn}(h:rnOk s t)(hd:t.done=false):1<=zct s t:=by
 obtain⟨c1,c2,c3,p,q,b,j,l,m,f⟩:=h.cl hd;unfold zct;rw[if_neg (by rw[hd];decide)];split
 ·have:=b (by omega);omega
 split
 ·have:=b (by omega);omega
 split
 ·rename_i n2;have:=b (by omega);obtain⟨x,n,i,o⟩:=j n2;have:=znj i;rw[n];dsimp only;omega
 split
 ·rename_i n3;have:=b (by omega);have:=l n3;omega
 split
 ·rename_i n4;have:=b (by omega);have:=m n4;omega
 have:=f (by omega);omega
theorem z9e{s:Sh}{t:Rn}(hd:t.done=false)(f:1<=t.pages/\t.pages<=8)(i:t.head<=t.at'/\t.at'<t.head+t.pages)(j:t.head+t.pages<=s.p):zct s t.own<=50*(s.p-t.at'-1)+(t.at'+1-t.head)+8/\t.own.c=t.c/\t.own.pages=t.pages/\t.own.strip=t.strip:=by
 unfold Rn.own Rn.written;have b:¬ t.done=true:=by rw[hd];decide
 split
 ·dsimp only;split
  ·refine⟨?_,rfl,rfl,rfl⟩;unfold zct;dsimp only;rw[if_pos rfl];omega
  refine⟨?_,rfl,rfl,rfl⟩;unfold zct;dsimp only;rw[if_neg b,if_neg (by decide),if_neg (by decide),if_neg (by decide),if_neg (by decide),if_neg (by decide)];omega
 refine⟨?_,rfl,rfl,rfl⟩;unfold zct;dsimp only;rw[if_neg b,if_pos rfl];omega
theorem z3t{s:Sh}{t:Rn}(hd:t.done=false)(f:t.next=4)(j:t.pages<=s.p)(l:t.at'<s.p)(m:t.head<=t.i):zct s (t.gone s)<=50*(s.p-t.at'-1)+(t.i-t.head)+8/\(t.gone s).c=t.c/\(t.gone s).pages=t.pages/\(t.gone s).strip=t.strip:=by
 unfold Rn.gone;have b:¬ t.done=true:=by rw[hd];decide
 split
 ·refine⟨?_,rfl,rfl,rfl⟩;unfold zct;rw[if_neg b,if_neg (by omega),if_neg (by omega),if_neg (by omega),if_neg (by omega),if_pos f];omega
 refine⟨?_,rfl,rfl,rfl⟩;unfold zct;dsimp only;simp only[decide_eq_true_eq,if_true];split<;>omega
theorem zvx{s:Sh}{t:Rn}(hd:t.done=false)(b:t.pages<=s.p)(f:t.head<=t.at')(j:t.at'<s.p):zct s (t.miss s)<=50*(s.p-t.at'-1)+(t.at'-t.head)+8/\(t.miss s).c=t.c/\(t.miss s).pages=t.pages/\(t.miss s).strip=t.strip:=
 z3t (t:= {t with next:=4,i:=t.at'}) hd rfl b j f
theorem yat{s:Sh}{cl n:Int}{t:Rn}{m:Mem}(h:rnIs s cl n t)(hd:t.done=false)(G:Fits s m):Acts cl m (zcr s t m).2/\rnIs s cl n (zcr s t m).1/\zct s (zcr s t m).1+1<=zct s t:=by
 obtain⟨c1,c2,c3,I,c5,r,T,R,S,H⟩:=h.ok.cl hd;have l:¬ t.done=true:=by rw[hd];decide
 have b:=z0v m h.ok
 have Y:zct s t=if t.next=0 then 50*(s.p-t.at')+(t.at'-t.head)+8
  else if t.next=1 then 50*(s.p-t.at'-1)+(t.at'-t.head)+10
  else if t.next=2 then 50*(s.p-t.at'-1)+(match t.strip with|some x=>zep x|none=>0)+(t.at'-t.head)+25
  else if t.next=3 then 50*(s.p-t.at'-1)+(16-t.i)+(t.at'-t.head)+9
  else if t.next=4 then 50*(s.p-t.at'-1)+(t.i-t.head)+8
  else t.head+t.pages-t.i:=by unfold zct;rw[if_neg l]
 have q:∀ u:Rn,rnOk s u->u.c=t.c->u.pages=t.pages->(u.strip=t.strip\/∃ x,u.strip=some x/\x.c=t.c)->rnIs s cl n u:=fun u b U V J=>⟨b,U.trans h.c,V.trans h.n,fun x D=>by
  rcases J with J|⟨y,J,X⟩
  ·exact h.st x (J ▸ D)
  ·rw[J]at D;injection D with D;subst D;exact X.trans h.c⟩
 rw[Y];unfold zcr at b ⊢;dsimp only at b ⊢;rw[if_neg l]at b ⊢;by_cases F:t.next=0
 ·have r:=r (by omega);have z:=G.zhu (x:=t.at') (by omega);have j:=zvx (s:=s) hd (by omega) I.1 (by omega);rw[if_pos F]at b ⊢;rw[if_pos F];dsimp only at b ⊢;refine⟨(Acts.load z).of h.c,?_⟩;split at b<;>rename_i o
  ·rw[if_pos o];refine⟨q _ b rfl rfl (.inl rfl),?_⟩;unfold zct;dsimp only;rw[if_neg l,if_neg (by decide),if_pos rfl];omega
  rw[if_neg o];split at b<;>rename_i L
  ·rw[if_pos L];refine⟨q _ b rfl rfl (.inr ⟨_,rfl,rfl⟩),?_⟩;have:=(z9n s t.c t.at' (za2 (m.get (zak s.p s.c s.m t.at')) 0)).1;unfold zct;dsimp only;rw[if_neg l,if_neg (by decide),if_neg (by decide),if_pos rfl];omega
  rw[if_neg L];exact⟨q _ b j.2.1 j.2.2.1 (.inl j.2.2.2),by omega⟩
 rw[if_neg F]at b ⊢;rw[if_neg F];by_cases n1:t.next=1
 ·have r:=r (by omega);have z:=G.zhu (x:=t.at') (by omega);have j:=zvx (s:=s) hd (by omega) I.1 (by omega);have f:=z9e (s:=s) hd c2 ⟨I.1,r⟩ c3.2;rw[if_pos n1]at b ⊢;rw[if_pos n1];dsimp only at b ⊢;refine⟨(Acts.swap z (zj1 _)).of h.c,?_⟩;split at b<;>rename_i o
  ·rw[if_pos o];exact⟨q _ b f.2.1 f.2.2.1 (.inl f.2.2.2),by omega⟩
  rw[if_neg o];exact⟨q _ b j.2.1 j.2.2.1 (.inl j.2.2.2),by omega⟩
 rw[if_neg n1]at b ⊢;rw[if_neg n1];by_cases n2:t.next=2
 ·have r:=r (by omega);obtain⟨x,D,M,O⟩:=T n2;have B:=z1p M O G;have C:=h.st x D;have Z:=znj (znr m M);have E:=h.c;rw[if_pos n2,D]at b ⊢;rw[if_pos n2];dsimp only at b ⊢;refine⟨B.1.of C,?_⟩;split at b<;>rename_i o
  ·rw[if_pos o];refine⟨q _ b rfl rfl (.inr ⟨_,rfl,by rw[B.2.1,C,E]⟩),?_⟩;unfold zct;dsimp only;rw[if_neg l,if_neg (by decide),if_neg (by decide),if_neg (by decide),if_pos rfl];omega
  rw[if_neg o];split at b<;>rename_i L
  ·rw[if_pos L];have j:=zvx (s:=s) (t:= {t with strip:=some (zdu s x m).1}) hd (by dsimp only;omega) I.1 (by dsimp only;omega);dsimp only at j;refine⟨q _ b j.2.1 j.2.2.1 (.inr ⟨_,j.2.2.2,by rw[B.2.1,C,E]⟩),?_⟩;omega
  rw[if_neg L];refine⟨q _ b rfl rfl (.inr ⟨_,rfl,by rw[B.2.1,C,E]⟩),?_⟩;unfold zct;dsimp only;rw[if_neg l,if_neg F,if_neg n1,if_pos n2];omega
 rw[if_neg n2]at b ⊢;rw[if_neg n2];by_cases n3:t.next=3
 ·have r:=r (by omega);have R:=R n3;have z:=G.zj0 (x:=t.at') (i:=t.i) (by omega) (by omega);rw[if_pos n3]at b ⊢;rw[if_pos n3];dsimp only at b ⊢;refine⟨(Acts.store z zms).of h.c,?_⟩;split at b<;>rename_i o
  ·rw[if_pos o];have f:=z9e (s:=s) (t:= {t with i:=t.i+1}) hd c2 ⟨I.1,r⟩ c3.2;dsimp only at f;exact⟨q _ b f.2.1 f.2.2.1 (.inl f.2.2.2),by omega⟩
  rw[if_neg o];refine⟨q _ b rfl rfl (.inl rfl),?_⟩;unfold zct;dsimp only;rw[if_neg l,if_neg F,if_neg n1,if_neg n2,if_pos n3];omega
 rw[if_neg n3]at b ⊢;rw[if_neg n3];by_cases n4:t.next=4
 ·have r:=r (by omega);have S:=S n4;have z:=G.zhu (x:=t.i-1) (by omega);rw[if_pos n4]at b ⊢;rw[if_pos n4];dsimp only at b ⊢;have N:=z3t (s:=s) (t:= {t with i:=t.i-1}) hd n4 (by dsimp only;omega) (by dsimp only;omega) (by dsimp only;omega);dsimp only at N;exact⟨(Acts.store z (zc0 _ _ _)).of h.c,q _ b N.2.1 N.2.2.1 (.inl N.2.2.2),by omega⟩
 rw[if_neg n4]at b ⊢;rw[if_neg n4];have n5:t.next=5:=by omega
 have H:=H n5;have z:=G.zhu (x:=t.i) (by omega);dsimp only at b ⊢;refine⟨(Acts.store z (zc0 _ _ _)).of h.c,?_⟩;unfold Rn.written at b ⊢;split at b<;>rename_i o
 ·rw[if_pos o];refine⟨q _ b rfl rfl (.inl rfl),?_⟩;unfold zct;dsimp only;rw[if_pos rfl];omega
 rw[if_neg o];refine⟨q _ b rfl rfl (.inl rfl),?_⟩;unfold zct;dsimp only;rw[if_neg l,if_neg F,if_neg n1,if_neg n2,if_neg n3,if_neg n4];omega
theorem yfb{s:Sh}(c n:Int)(b:mayB s.p s.c s.m=true):rnIs s c n (zf8 s c n)/\zct s (zf8 s c n)<=50*s.p+8:=by
 have hb:=zar.1 b;refine⟨⟨zwt _ _ _,rfl,rfl,fun x f=>(by cases f)⟩,?_⟩;unfold zct zf8;dsimp only;split
 ·omega
 rw[if_pos rfl];omega
theorem z2y{s:Sh}{t:Rn}(h:rnOk s t):0<=zct s t:=by
 rcases Bool.eq_false_or_eq_true t.done with hd|hd
 ·unfold zct;rw[if_pos hd];omega
 have:=yev h hd;omega
variable {s:Sh} {σ σ':Ab} {c:Int}

def zmo (s:Sh):Mc->Own
 | .tk t=> zlr t
 | .sc t=> zln s t
 | .pc t=> zls s t
 | .sp t=> zhd t
 | .bn t=> zhe t
def zzi (c:Int) (σ:Ab):Mc->Prop
 | .tk t=> zqu c σ t
 | .sc t=> t.c=c
 | .pc t=> t.c=c
 | .sp t=> z4y c t
 | .bn t=> zu0 c σ t
def z3x (s:Sh) (t:Sk):Mc->Prop
 | .sp x=> x.page=t.here s
 | .bn x=> x.page=t.page/\x.k=t.k
 | _=> True
theorem ya5{x:Mc}(j:GI s σ)(l:mcOk s x)(hd:x.done=false)(i:zaz σ c (Own.no.add (zmo s x)))(hi:zzi c σ x):
  Goes s c σ (mcA s x σ) .no (zmo s) (zzi c)/\Calm σ (mcA s x σ).2/\∀ t,z3x s t x->z3x s t (mcA s x σ).1:=by
 cases x with
 |tk t=>obtain⟨⟨a,b,d⟩,e⟩:=yba (t:=t) j l hd i hi;exact⟨⟨a,b,d⟩,e,fun _ _=>trivial⟩
 |sc t=>obtain⟨⟨a,b,d⟩,e⟩:=yb8 (t:=t) j l hd i hi;exact⟨⟨a,b,d⟩,e,fun _ _=>trivial⟩
 |pc t=>obtain⟨⟨a,b,d⟩,e⟩:=yb1 (t:=t) j l hd i hi;exact⟨⟨a,b,d⟩,e,fun _ _=>trivial⟩
 |sp t=>obtain⟨⟨a,b,d⟩,e,f⟩:=z4c (t:=t) j l hd (fun _ _ h=>h) i hi;exact⟨⟨a,b,d⟩,e,fun _ h=>f.trans h⟩
 |bn t=>obtain⟨⟨a,b,d⟩,e,f,g⟩:=yar (t:=t) j l hd id (fun _ h=>h) (fun _ _ h=>h) i hi;exact⟨⟨a,b,d⟩,e,fun _ h=>⟨f.trans h.1,g.trans h.2⟩⟩
theorem zzi.same{x:Mc}(b:zaz σ c (Own.no.add (zmo s x)))(h:zzi c σ x)(hs:Same c σ σ'):zzi c σ' x:=by
 cases x with
 |tk t=>exact zqu.same h hs
 |sc t=>exact h
 |pc t=>exact h
 |sp t=>exact h;|bn t=>
  refine zu0.same h (fun hb=>?_) hs;have f:zhe t= .page t.page:=by unfold zhe;rw[hb];rfl
  have b:zaz σ c (Own.no.add (zhe t)):=b;rw[f]at b;exact(b.h t.page).2 (.inr rfl)
def zey (s:Sh) (t:Sk):Own:=if t.found=true then .way t.page t.slot t.k else match t.now with
 | some x=> zmo s x
 | none=> .no
structure zir (s:Sh) (c:Int) (σ:Ab) (t:Sk):Prop where
 cl:t.c=c
 dn:t.done=true->t.found=false->t.now=none
 now:t.found=false->∀ x,t.now=some x->zzi c σ x/\z3x s t x
theorem zeq{t:Sk}{x:Mc}(b:t.found=false)(f:t.now=some x):zey s t=zmo s x:=by unfold zey;rw[b,f];rfl
theorem zga{t:Sk}(b:t.found=false)(f:t.now=none):zey s t= .no:=by unfold zey;rw[b,f];rfl
theorem zir.same{t:Sk}(i:zaz σ c (Own.no.add (zey s t)))(h:zir s c σ t)(hs:Same c σ σ'):zir s c σ' t:=by
 refine⟨h.cl,h.dn,fun b x f=>⟨?_,(h.now b x f).2⟩⟩;rw[zeq b f]at i;exact(h.now b x f).1.same i hs
theorem zy0{s:Sh}{c p k:Int}(hs:mayB s.p s.c s.m=true)(hc:0<=c/\c<s.c)(j:0<=p/\p<s.p)(i:0<zah k):(zfi s c p k).done=false:=by
 have hb:=zar.1 hs;have b:zae s.p s.c s.m c=c:=by unfold zae;rw[if_pos ⟨hs,zbc.2 (by omega)⟩]
 have f:zak s.p s.c s.m p=s.c+p:=by unfold zak;rw[if_pos ⟨hs,zbc.2 (by omega)⟩]
 simp only[zfi,b,f];simp;omega
theorem Own.z2j(p k:Int):(Own.ways p 0 k).Eqv .no:=by
 exact⟨fun _=>.rfl,fun _ _=>.rfl,fun q i f=>⟨fun h=>by have b:=h.2.1;omega,fun h=>h.elim⟩⟩
theorem Own.z8j(p k:Int):(Own.ways p 1 k).Eqv (Own.way p 0 k):=by
 refine⟨fun _=>.rfl,fun _ _=>.rfl,fun q i b=>?_⟩;simp only[Own.ways,Own.way];omega
theorem zia{t:Sp}(f:t.held=false)(b:t.i=0):(zhd t).Eqv .no:=by
 unfold zhd;rw[f,b];exact Own.z2j _ _
theorem zu3{t:Sk}{x:Mc}(hs:mayB s.p s.c s.m=true)(I:skOk s t)(hd:t.done=false)(G:t.now=some x)(D:x.done=true)(f:zaz σ c (Own.no.add (zey s t)))(hi:zir s c σ t):
  zaz σ c (Own.no.add (zey s (t.after s x)))/\zir s c σ (t.after s x):=by
 have r:t.found=false:=zb7 I.fd hd;obtain⟨c1,c2,c3,S,M⟩:=I.cl hd;obtain⟨m1,m2⟩:=M x G;obtain⟨J,L⟩:=hi.now r x G;rw[zeq r G]at f;have hc:=hi.cl;have hb:=zar.1 hs;have F:∀ y:Option Mc,(t.done=true->t.found=false->y=none):=fun y e=>by rw[hd]at e;cases e
 have l:∀ p:Int,(0<=p/\p<s.p)->zaz σ c (Own.no.add (.page p))->zaz σ c (Own.no.add (zey s (t.bind s p)))/\zir s c σ (t.bind s p):=fun p R f=>by
  refine⟨?_,⟨hc,F _,fun _ y H=>?_⟩⟩
  ·rw[zeq (t:=t.bind s p) (x:= .bn (zfi s t.c p t.k)) r rfl];exact f
  injection H with H;subst H;refine⟨⟨hc,fun _ j C E=>?_,fun e=>?_⟩,⟨rfl,rfl⟩⟩
  ·simp only[zfi]at E;omega
  rw[zy0 hs c1 R c2]at e;cases e
 cases x with
 |tk y=>
  simp only[Sk.after];have B:y.k=t.k:=m2;split
  ·rename_i b;have E:=(m1.en (m1.fd b).1).2.2;refine⟨?_,⟨hc,fun _ e=>(by cases e),fun e=>(by cases e)⟩⟩;have:zey s (t.fin y.ep y.es)=zlr y:=by unfold zey zlr;rw[if_pos b,E,B];rfl
   rw[this];exact f
  rename_i b;have q:zmo s (.tk y)= .no:=by show zlr y=_;unfold zlr;rw[if_neg b]
  rw[q]at f;refine⟨?_,⟨hc,F _,fun _ z n=>?_⟩⟩
  ·rw[zeq (t:= {t with now:=some (.sc (ziq s t.c t.k t.first))}) (x:= .sc (ziq s t.c t.k t.first)) r rfl];exact f
  injection n with n;subst n;exact⟨hc,trivial⟩
 |sc y=>
  simp only[Sk.after];have B:y.k=t.k:=m2;split
  ·rename_i b;refine⟨?_,⟨hc,fun _ e=>(by cases e),fun e=>(by cases e)⟩⟩;have:zey s (t.fin (y.page s) y.i)=zln s y:=by unfold zey zln;rw[if_pos b,B];rfl
   rw[this];exact f
  rename_i b;have q:zmo s (.sc y)= .no:=by show zln s y=_;unfold zln;rw[if_neg b]
  rw[q]at f;refine⟨?_,⟨hc,F _,fun _ z n=>?_⟩⟩
  ·rw[zeq (t:= {t with now:=some (.pc (zlu s t.c t.first))}) (x:= .pc (zlu s t.c t.first)) r rfl];exact f
  injection n with n;subst n;exact⟨hc,trivial⟩
 |pc y=>
  simp only[Sk.after];split
  ·rename_i b;have q:zmo s (.pc y)= .page (y.page s):=by show zls s y=_;unfold zls;rw[if_pos b]
   rw[q]at f;exact l _ (zpe (by omega)) f
  rename_i b;have q:zmo s (.pc y)= .no:=by show zls s y=_;unfold zls;rw[if_neg b]
  rw[q]at f;refine⟨?_,⟨hc,fun _ _=>rfl,fun _ z n=>by cases n⟩⟩;rw[zga (t:= {t with now:=none}) r rfl];exact f
 |sp y=>
  simp only[Sk.after];have o:y.page=t.here s:=L;split
  ·rename_i b;have q:zmo s (.sp y)= .page y.page:=by show zhd y=_;unfold zhd;rw[if_pos b]
   rw[q,o]at f;exact l _ (zpe (by omega)) f
  rename_i b;have C:=J.2 D (by simpa using b);refine⟨?_,⟨hc,fun _ _=>rfl,fun _ z n=>by cases n⟩⟩;rw[zga (t:=t.turn s) r rfl];exact f.eqv (.add _ (zia (by simpa using b) C))
 |bn y=>
  simp only[Sk.after];have o:y.page=t.page/\y.k=t.k:=L;have C:=J.2.2 D;refine⟨?_,⟨hc,fun _ e=>(by cases e),fun e=>(by cases e)⟩⟩;have N:zey s (t.fin t.page 0)= .way t.page 0 t.k:=rfl;have O:zmo s (.bn y)= .ways t.page 1 t.k:=by show zhe y=_;unfold zhe;rw[if_pos C.1,C.2,o.1,o.2];rfl
  rw[O]at f;rw[N];exact f.eqv (.add _ (Own.z8j _ _))
theorem zk9(hs:mayB s.p s.c s.m=true)(n:Nat):∀ {t:Sk},skOk s t->zaz σ c (Own.no.add (zey s t))->zir s c σ t->zaz σ c (Own.no.add (zey s (za5 s n t)))/\zir s c σ (za5 s n t):=by
 induction n with
 |zero=>intro t _ b hi;exact⟨b,hi⟩;|succ n l=>
  intro t i b hi;unfold za5;split
  ·rename_i x j;split
   ·rename_i hc;have f:=zu3 hs i hc.1 j hc.2 b hi;exact l (zid i hc.1 j hc.2 (zar.1 hs).1) f.1 f.2
   exact⟨b,hi⟩
  exact⟨b,hi⟩
theorem ya8{m:Mem}{t:Sk}(G:Rep s m σ)(q:GI s σ)(E:skOk s t)(o:zvw t)(hd:t.done=false)(n:zaz σ c (Own.no.add (zey s t)))(hi:zir s c σ t):
  Goes s c σ (skA s t σ) .no (zey s) (zir s c)/\Calm σ (skA s t σ).2:=by
 have hs:=G.may;have j:t.found=false:=zb7 E.fd hd;obtain⟨c1,c2,c3,H,p⟩:=E.cl hd;unfold skA;rw[if_neg (by rw[hd];decide)];cases hx:t.now with
 |some x=>
  have C:x.done=false:=by
   rcases o with e|e|⟨y,e,I⟩
   ·rw[hd]at e;cases e
   ·rw[hx]at e;cases e
   rw[hx]at e;injection e with e;subst e;exact I
  obtain⟨T,U⟩:=hi.now j x hx;rw[zeq j hx]at n;obtain⟨⟨J,L,M⟩,N,O⟩:=ya5 q (p x hx).1 C n T;have r:skOk s {t with now:=some (mcA s x σ).1}:=by refine⟨fun _=>⟨c1,c2,c3,H,fun z D=>?_⟩,fun e=>(by have e:t.found=true:=e;rw[j]at e;cases e)⟩;injection D with D;subst D;rw[<-(z9a G q (p x hx).1).1];exact⟨zjq m (p x hx).1,zg1 (t:=t) m (p x hx).2⟩
  have S:zaz (mcA s x σ).2 c (Own.no.add (zey s {t with now:=some (mcA s x σ).1})):=by rw[zeq (t:= {t with now:=some (mcA s x σ).1}) (x:=(mcA s x σ).1) j rfl];exact L
  have B:zir s c (mcA s x σ).2 {t with now:=some (mcA s x σ).1}:=⟨hi.cl,fun e=>(by have e:t.done=true:=e;rw[hd]at e;cases e),fun _ y f=>by
   injection f with f;subst f
   refine⟨M,?_⟩
   have:=O t U
   cases hm:(mcA s x σ).1<;>rw[hm]at this<;>exact this⟩
  have i:=zk9 hs 5 r S B;exact⟨⟨J,i.1,i.2⟩,N⟩
 |none=>
  rw[zga j hx]at n
  have F:∀ t':Sk,zey s t'= .no\/(zey s t').Eqv .no->zir s c σ t'->Goes s c σ (t',σ) .no (zey s) (zir s c)/\Calm σ σ:=fun t' i R=>by
   refine⟨⟨Kept.refl q,?_,R⟩,Calm.refl _⟩
   rcases i with i|i
   ·rw[i];exact n
   ·exact n.eqv (.add _ i.symm)
  have l:Goes s c σ (t.turn s,σ) .no (zey s) (zir s c)/\Calm σ σ:=F _ (.inl (zga (t:=t.turn s) j rfl)) ⟨hi.cl,fun _ _=>rfl,fun _ y f=>by cases f⟩
  dsimp only
  cases hp:σ.pg (t.here s) with
  |super k b=>
   refine F _ (.inr ?_) ⟨hi.cl,fun e=>(by have e:t.done=true:=e;rw[hd]at e;cases e),fun _ y f=>?_⟩
   ·rw[zeq (t:= {t with now:=some (.sp (zfa s t.c (t.here s) k))}) (x:= .sp (zfa s t.c (t.here s) k)) j rfl]
    exact zia rfl rfl
   ·injection f with f;subst f
    exact⟨⟨hi.cl,fun _ _=>rfl⟩,rfl⟩
  |_=>exact l
end

section

variable {s:Sh} {σ σ':Ab} {c:Int}

def Own.run (h lo hi:Int):Own:=((Own.page h).add (.bodies h (h + 1) lo)).add (.pages lo hi)
inductive RnPh
 | found
 | dead
 | strip (x:Sp)
 | clear
 | undo
 | write
 | look
def Rn.ph (t:Rn):RnPh:=
 if t.found=true then .found else if t.done=true then .dead else if t.next=2 then (match t.strip with | some x=> .strip x | none=> .look)
 else if t.next=3 then .clear else if t.next=4 then .undo else if t.next=5 then .write else .look
def zf2 (t:Rn):Own:=match t.ph with
 | .found=> .run t.head (t.head + t.pages) (t.head + t.pages)
 | .dead=> .no
 | .strip x=> (Own.pages t.head t.at').add (zhd x)
 | .clear=> .pages t.head (t.at' + 1)
 | .undo=> .pages t.head t.i
 | .write=> .run t.head t.i (t.head + t.pages)
 | .look=> .pages t.head t.at'
def zfr (σ:Ab) (lo hi:Int):Prop:=∀ p i,lo<=p->p < hi->σ.sl p i= .none
def zz8 (c:Int) (σ:Ab) (t:Rn):Prop:=t.c=c/\match t.ph with
 | .found=> zfr σ t.head (t.head + 1)
 | .dead=> True
 | .strip x=> zfr σ t.head t.at'/\x.page=t.at'/\z4y c x
 | .clear=> t.head<=t.at'/\zfr σ t.head t.at'/\∀ j,0<=j->j < t.i->σ.sl t.at' j= .none
 | .undo=> zfr σ t.head t.i
 | .write=> zfr σ t.head (t.head + 1)/\zfr σ t.i (t.head + t.pages)
 | .look=> zfr σ t.head t.at'
theorem Own.zi7{lo hi:Int}(h:hi<=lo):(Own.pages lo hi).Eqv .no:=by
 exact⟨fun p=>⟨fun h=>by have b:=h.1;have f:=h.2;omega,fun h=>h.elim⟩,fun _ _=>.rfl,fun _ _ _=>.rfl⟩
theorem Own.zks{lo hi:Int}(h:lo<=hi):((Own.pages lo hi).add (.page hi)).Eqv (.pages lo (hi+1)):=by
 refine⟨fun p=>?_,fun _ _=>or_iff_left id,fun _ _ _=>or_iff_left id⟩;simp only[Own.add,Own.page,Own.pages];omega
theorem Own.z2n{h hi:Int}(b:h<hi):(Own.pages h hi).Eqv (.run h (h+1) hi):=by
 refine⟨fun p=>?_,fun p g=>?_,fun _ _ _=>?_⟩<;>simp only[Own.run,Own.add,Own.page,Own.bodies,Own.pages,or_false,false_or,iff_false,false_iff]<;>(try omega)
theorem zfr.same{lo hi:Int}(h:zfr σ lo hi)(j:∀ p,lo<=p->p<hi->σ.pg p= .held c)(hs:Same c σ σ'):zfr σ' lo hi:=fun p i b f=>(hs.hs p i (j p b f)).trans (h p i b f)
theorem zz8.same{t:Rn}(f:zaz σ c (zf2 t))(h:zz8 c σ t)(hs:Same c σ σ'):zz8 c σ' t:=by
 obtain⟨i,b⟩:=h;refine⟨i,?_⟩;unfold zf2 at f;cases hp:t.ph with
 |found=>rw[hp]at f b;exact b.same (fun p l i=>(f.h p).2 (.inl (.inl (show p=t.head by omega)))) hs
 |dead=>trivial;|strip x=>rw[hp]at f b;exact⟨b.1.same (fun p l i=>(f.h p).2 (.inl ⟨l,i⟩)) hs,b.2⟩
 |clear=>rw[hp]at f b;exact⟨b.1,b.2.1.same (fun p l i=>(f.h p).2 ⟨l,by omega⟩) hs,fun j l i=>(hs.hs _ _ ((f.h _).2 ⟨b.1,by omega⟩)).trans (b.2.2 j l i)⟩
 |undo=>rw[hp]at f b;exact b.same (fun p l i=>(f.h p).2 ⟨l,i⟩) hs
 |write=>rw[hp]at f b;exact⟨b.1.same (fun p l i=>(f.h p).2 (.inl (.inl (show p=t.head by omega)))) hs,b.2.same (fun p l i=>(f.h p).2 (.inr ⟨l,i⟩)) hs⟩
 |look=>rw[hp]at f b;exact b.same (fun p l i=>(f.h p).2 ⟨l,i⟩) hs
def RnIn (c:Int) (σ:Ab) (t:Rn):Prop:=zaz σ c (zf2 t)/\zz8 c σ t
theorem zj2{t:Rn}(b:t.ph= .look)(hc:t.c=c)(f:zaz σ c (.pages t.head t.at'))(hb:zfr σ t.head t.at'):RnIn c σ t:=by
 refine⟨?_,hc,?_⟩
 ·unfold zf2;rw[b];exact f
 rw[b];exact hb
theorem zk6{t:Rn}(m:t.found=false)(hd:t.done=false)(n:t.next=5)(hc:t.c=c)(f:zaz σ c (.run t.head (t.i+1) (t.head+t.pages)))(j:zfr σ t.head (t.head+1))(l:zfr σ (t.i+1) (t.head+t.pages)):RnIn c σ t.written:=by
 unfold Rn.written;split
 ·rename_i e;have b:({t with i:=t.i+1,found:=true,done:=true}:Rn).ph= .found:=by unfold Rn.ph;rw[if_pos rfl]
  refine⟨?_,hc,?_⟩
  ·unfold zf2;rw[b];dsimp only;rw[e]at f;exact f
  rw[b];exact j
 have b:({t with i:=t.i+1}:Rn).ph= .write:=by unfold Rn.ph;dsimp only;rw[m,hd,n];rfl
 refine⟨?_,hc,?_⟩
 ·unfold zf2;rw[b];exact f
 rw[b];exact⟨j,l⟩
theorem zw9{t:Rn}(l:t.found=false)(hd:t.done=false)(hc:t.c=c)(n:1<=t.pages)(m:t.head<=t.at')(j:zaz σ c (.pages t.head (t.at'+1)))(hb:zfr σ t.head (t.at'+1)):RnIn c σ t.own:=by
 unfold Rn.own;split
 ·rename_i e;refine zk6 l hd rfl hc ?_ (fun p i b f=>hb p i b (by dsimp only at f;omega)) (fun p i b f=>hb p i (by dsimp only at b;omega) (by dsimp only at f;omega));dsimp only;rw[e]at j;exact j.eqv (Own.z2n (by omega))
 refine zj2 ?_ hc j hb;unfold Rn.ph;dsimp only;rw[l,hd];rfl
theorem ztf{t:Rn}(f:t.found=false)(hd:t.done=false)(q:t.next=4)(hc:t.c=c)(j:zaz σ c (.pages t.head t.i))(hb:zfr σ t.head t.i):RnIn c σ (t.gone s):=by
 unfold Rn.gone;split
 ·have l:t.ph= .undo:=by unfold Rn.ph;rw[f,hd,q];rfl
  refine⟨?_,hc,?_⟩
  ·unfold zf2;rw[l];exact j
  rw[l];exact hb
 rename_i o;have b:zaz σ c .no:=j.eqv (Own.zi7 (by omega));rcases Bool.eq_false_or_eq_true (decide (s.p-t.pages<t.at'+1)) with e|e
 ·rw[e];refine⟨?_,hc,?_⟩
  ·unfold zf2 Rn.ph;dsimp only;rw[f];exact b
  unfold Rn.ph;dsimp only;rw[f];trivial
 rw[e];refine zj2 ?_ hc (b.eqv (Own.zi7 (by dsimp only;omega)).symm) (fun p i m n=>by dsimp only at m n;omega);unfold Rn.ph;dsimp only;rw[f];rfl
theorem zmj{t:Rn}(f:t.found=false)(hd:t.done=false)(hc:t.c=c)(b:zaz σ c (.pages t.head t.at'))(hb:zfr σ t.head t.at'):RnIn c σ (t.miss s):=
 ztf (t:= {t with next:=4,i:=t.at'}) f hd rfl hc b hb
structure z8t (s:Sh) (c:Int) (σ:Ab) (r:Rn × Ab):Prop where
 kept:Kept s c σ r.2
 at':RnIn c r.2 r.1
 calm:Calm σ r.2
theorem ycn{t:Rn}(hs:mayB s.p s.c s.m=true)(G:GI s σ)(hk:rnOk s t)(hd:t.done=false)(h:RnIn c σ t):z8t s c σ (rnA s t σ):=by
 have r:t.found=false:=zb7 (fun e=>⟨(hk.fd e).1,trivial⟩) hd;obtain⟨c1,c2,c3,H,c5,Y,c7,c8,c9,X⟩:=hk.cl hd;obtain⟨o,hc,hi⟩:=h;rw[hc]at c1;unfold rnA;rw[if_neg (by rw[hd];decide)];have quiet:∀ t',RnIn c σ t'->z8t s c σ (t',σ):=fun t' h=>⟨Kept.refl G,h,Calm.refl _⟩;by_cases h0:t.next=0
 ·rw[if_pos h0];have E:t.ph= .look:=by unfold Rn.ph;rw[r,hd,h0];rfl
  unfold zf2 at o;rw[E]at o hi;have I:RnIn c σ (t.miss s):=zmj r hd hc o hi;cases F:σ.pg t.at' with
  |empty=>refine quiet _ (zj2 ?_ hc o hi);unfold Rn.ph;dsimp only;rw[r,hd];rfl
  |super k b=>
   refine quiet _ ⟨?_,hc,?_⟩
   ·have:({t with next:=2,strip:=some (zfa s t.c t.at' k)}:Rn).ph= .strip (zfa s t.c t.at' k):=by unfold Rn.ph;dsimp only;rw[r,hd];rfl
    unfold zf2;rw[this];exact(o.eqv (Own.Eqv.zeb _).symm).eqv (.add _ (zia rfl rfl).symm)
   have:({t with next:=2,strip:=some (zfa s t.c t.at' k)}:Rn).ph= .strip (zfa s t.c t.at' k):=by unfold Rn.ph;dsimp only;rw[r,hd];rfl
   rw[this];exact⟨hi,rfl,hc,fun _ _=>rfl⟩
  |_=>exact quiet _ I
 rw[if_neg h0];by_cases h1:t.next=1
 ·rw[if_pos h1];have E:t.ph= .look:=by unfold Rn.ph;rw[r,hd,h1];rfl
  unfold zf2 at o;rw[E]at o hi;have hr:=Y (by omega);by_cases F:σ.pg t.at'= .empty
  ·rw[if_pos F,hc];have l:=zm3 G (.inl F);refine⟨zi0 G F (by omega) c1,zw9 r hd hc c2.1 H.1 ((zh4 G o F).eqv (Own.zks H.1)) (fun p i a b=>?_),zdt (fun n e=>by cases e) (fun n e=>by rw[F]at e;cases e)⟩;show σ.sl p i= .none;by_cases e:p=t.at'
   ·rw[e];exact l i
   exact hi p i a (by omega)
  rw[if_neg F];exact quiet _ (zmj r hd hc o hi)
 rw[if_neg h1];by_cases J:t.next=2
 ·rw[if_pos J];obtain⟨x,F,b5,b3⟩:=c7 J;have hr:=Y (by omega);have E:t.ph= .strip x:=by unfold Rn.ph;rw[r,hd,J,F];rfl
  unfold zf2 at o;rw[E]at o hi;obtain⟨hb,U,b4⟩:=hi;rw[F];dsimp only;obtain⟨⟨g1,V,g3⟩,g4,g5⟩:=z4c G b5 b3 (R:=Own.pages t.head t.at') (fun _ _ e=>e) o b4;have B:zfr (spA s x σ).2 t.head t.at':=fun p i a b=>by
   have b7:σ.pg p= .held c:=(o.h p).2 (.inl ⟨a,b⟩);have T:p≠x.page:=by omega
   rw[<-hb p i a b];have b8:∀ q u,q≠p->(σ.page q u).sl p i=σ.sl p i:=fun q u _=>rfl;unfold spA;split
   ·rfl
   split
   ·exact zbq _ _ (fun e=>T e.1)
   split
   ·rfl
   split
   ·exact zbq _ _ (fun e=>T e.1)
   rfl
  rcases Bool.eq_false_or_eq_true (spA s x σ).1.held with e|e
  ·rw[if_pos e];have z:({t with strip:=some (spA s x σ).1,next:=3,i:=0}:Rn).ph= .clear:=by unfold Rn.ph;dsimp only;rw[r,hd];rfl
   refine⟨g1,⟨?_,hc,?_⟩,g4⟩
   ·unfold zf2;rw[z];have:zhd (spA s x σ).1= .page t.at':=by unfold zhd;rw[if_pos e,g5,U]
    rw[this]at V;exact V.eqv (Own.zks H.1)
   rw[z];exact⟨H.1,B,fun j a b=>by dsimp only at b;omega⟩
  rw[if_neg (by rw[e];decide)];rcases Bool.eq_false_or_eq_true (spA s x σ).1.done with C|C
  ·rw[if_pos C];have b0:=g3.2 C e;exact⟨g1,zmj (t:= {t with strip:=some (spA s x σ).1}) r hd hc ((V.eqv (.add _ (zia e b0))).eqv (.zeb _)) B,g4⟩
  rw[if_neg (by rw[C];decide)];have z:({t with strip:=some (spA s x σ).1}:Rn).ph= .strip (spA s x σ).1:=by unfold Rn.ph;dsimp only;rw[r,hd,J];rfl
  refine⟨g1,⟨?_,hc,?_⟩,g4⟩
  ·unfold zf2;rw[z];exact V
  rw[z];exact⟨B,g5.trans U,g3⟩
 rw[if_neg J];by_cases L:t.next=3
 ·rw[if_pos L];have hr:=Y (by omega);have h8:=c8 L;have E:t.ph= .clear:=by unfold Rn.ph;rw[r,hd,L];rfl
  unfold zf2 at o;rw[E]at o hi;have f:σ.pg t.at'= .held c:=(o.h _).2 ⟨H.1,by omega⟩;have S:=zgw G f (i:=t.i) (u:= .none) (.inl rfl);have N:=ziy (i:=t.i) (u:= .none) o f;have b1:Calm σ (σ.slot t.at' t.i .none):=zdn (fun n e=>by cases e) (fun n e=>by rcases zgg G f t.i with C|C;(rw[C]at e;cases e);(rw[C.1]at e;cases e));have B:zfr (σ.slot t.at' t.i .none) t.head t.at':=fun p i a b=>by rw[zbq _ _ (fun e=>by omega)];exact hi.2.1 p i a b
  have hj:∀ j,0<=j->j<t.i+1->(σ.slot t.at' t.i .none).sl t.at' j= .none:=fun j a b=>by
   by_cases e:j=t.i
   ·subst e;exact zbs _ _ _ _
   rw[zbq _ _ (fun C=>e C.2)];exact hi.2.2 j a (by omega)
  refine⟨S,?_,b1⟩;by_cases e:t.i+1=16
  ·rw[if_pos e];refine zw9 (t:= {t with i:=t.i+1}) r hd hc c2.1 H.1 N (fun p i a b=>?_);dsimp only at b;by_cases ep:p=t.at'
   ·subst ep;by_cases O:0<=i/\i<16
    ·exact hj i O.1 (by omega)
    have:(σ.slot t.at' t.i .none).pg t.at'= .held c:=f;rcases zgg S.1 this i with Z|Z
    ·exact Z
    exact absurd Z.2 O
   exact B p i a (by omega)
  rw[if_neg e];have z:({t with i:=t.i+1}:Rn).ph= .clear:=by unfold Rn.ph;dsimp only;rw[r,hd,L];rfl
  refine⟨?_,hc,?_⟩
  ·unfold zf2;rw[z];exact N
  rw[z];exact⟨H.1,B,hj⟩
 rw[if_neg L];by_cases M:t.next=4
 ·rw[if_pos M];have h9:=c9 M;have E:t.ph= .undo:=by unfold Rn.ph;rw[r,hd,M];rfl
  unfold zf2 at o;rw[E]at o hi
  have y:zaz σ c ((Own.pages t.head (t.i-1)).add (.page (t.i-1))):=o.eqv (by
   have:=Own.zks (lo:=t.head) (hi:=t.i-1) (by omega)
   rw[show t.i-1+1=t.i by omega]at this
   exact this.symm)
  have f:σ.pg (t.i-1)= .held c:=(y.h _).2 (.inr rfl);have D:∀ q,σ.pg q≠ .body (t.i-1):=fun q e=>by rcases(y.b q _).1 ⟨e,f⟩ with e|e<;>exact e
  have l:∀ i,σ.sl (t.i-1) i= .none:=fun i=>hi _ i (by omega) (by omega);refine⟨zg7 G f l D,ztf (t:= {t with i:=t.i-1}) r hd M hc (zi1 y (fun e=>by have C:t.i-1<t.i-1:=e.2;omega) D) (fun p i a b=>hi p i a (by have b:p<t.i-1:=b;omega)),zdt (fun n e=>by cases e) (fun n e=>by rw[f]at e;cases e)⟩
 rw[if_neg M];have h5:t.next=5:=by omega
 have b6:=X h5;have E:t.ph= .write:=by unfold Rn.ph;rw[r,hd,h5];rfl
 unfold zf2 at o;rw[E]at o hi
 have y:zaz σ c ((((Own.page t.head).add (.bodies t.head (t.head+1) t.i)).add (.pages (t.i+1) (t.head+t.pages))).add (.page t.i)):=o.eqv (by
  refine⟨fun p=>?_,fun p g=>?_,fun _ _ _=>?_⟩<;>simp only[Own.run,Own.add,Own.page,Own.bodies,Own.pages,or_false,false_or,iff_false,false_iff]<;>(try omega))
 have f:σ.pg t.i= .held c:=(y.h _).2 (.inr rfl);have b2:σ.pg t.head= .held c:=(y.h _).2 (.inl (.inl (.inl rfl)));have D:∀ q,σ.pg q≠ .body t.i:=fun q e=>by
  rcases(y.b q _).1 ⟨e,f⟩ with((e|e)|e)|e
  ·exact e
  ·have:=e.1;omega
  ·exact e
  exact e
 have l:∀ i,σ.sl t.i i= .none:=fun i=>hi.2 _ i (by omega) (by omega);refine⟨zqm G f l D b2 (by omega),zk6 r hd h5 hc ?_ hi.1 (fun p i a b=>hi.2 p i (by omega) b),zdt (fun n e=>by cases e) (fun n e=>by rw[f]at e;cases e)⟩;refine(zn5 y ?_ D (.inl (.inl rfl)) (by omega)).eqv ?_
 ·intro e;simp only[Own.add,Own.page,Own.bodies,Own.pages,or_false,false_or]at e;omega
 refine⟨fun p=>?_,fun p g=>?_,fun _ _ _=>?_⟩<;>simp only[Own.run,Own.add,Own.page,Own.bodies,Own.pages,or_false,false_or,iff_false,false_iff]<;>(try omega)
end

end Go.Proofs.YtkbddndcegpllaaGreat

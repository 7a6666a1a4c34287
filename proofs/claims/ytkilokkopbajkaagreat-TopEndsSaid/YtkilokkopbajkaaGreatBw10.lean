
import Derived.Test.YtkilokkopbajkaaGreatBw7

set_option linter.all false
namespace Go.Proofs.YtkilokkopbajkaaGreat

def mcC:Mc->Int
 |.tk t=>t.c
 |.sc t=>t.c
 |.pc t=>t.c
 |.sp t=>t.c
 |.bn t=>t.c
def eF (s:Sh):Mc->Int
 |.tk t=>DG s t
 |.sc t=>yD s t
 |.pc t=>BE s t
 |.sp t=>ID t
 |.bn t=>NE t
def iD (s:Sh) (t:Sk):Mc->Int
 |.tk _=>67*s.p+32
 |.sc _=>34*s.p+32
 |.pc _=>32*s.p+32
 |.sp _=>32*(s.p-t.many-1)+32
 |.bn _=>0
theorem uY{s:Sh}{x:Mc}{m:Mem}(h:mcOk s x)(hd:x.done=false)(b:Fits s m):Acts (mcC x) m (yB s x m).2/\mcC (yB s x m).1=mcC x/\eF s (yB s x m).1+1<=eF s x:=by
 cases x with
 |tk t=>exact dZ h hd b
 |sc t=>exact LY h hd b
 |pc t=>exact z94 h hd b
 |sp t=>exact CT h hd b
 |bn t=>exact WY h hd b
theorem z9s(s:Sh)(t:Sk)(x:Mc)(m:Mem):iD s t (yB s x m).1=iD s t x:=by cases x<;>rfl
theorem yW{s:Sh}{x:Mc}(h:mcOk s x):0<=eF s x:=by
 cases x with
 |tk t=>exact z1k h
 |sc t=>exact z1y h
 |pc t=>exact zz7 h
 |sp t=>exact TP h
 |bn t=>exact zz0 h
def YB (s:Sh) (t:Sk):Int:=if t.done=true then 0 else match t.now with
 |none=>32*(s.p-t.many)+32
 |some x=>eF s x+iD s t x
structure skIs (s:Sh) (cl k:Int) (t:Sk):Prop where
 ok:skOk s t
 c:t.c=cl
 k:t.k=k
 now:∀x,t.now=some x->mcC x=cl
theorem gQ{s:Sh}{cl k:Int}{t:Sk}(h:skIs s cl k t){pg sl:Int}(h2:skOk s (t.fin pg sl)):skIs s cl k (t.fin pg sl):=⟨h2,h.c,h.k,h.now⟩
theorem z6t{s:Sh}{cl k:Int}{t:Sk}{x:Mc}(h:skIs s cl k t)(hd:t.done=false)(q:t.now=some x)(r:x.done=true)(o:1<=s.p):skIs s cl k (t.after s x)/\YB s (t.after s x)<=YB s t:=by
 have b:=WL h.ok hd q r o;obtain⟨c1,c2,c3,c4,c5⟩:=h.ok.cl hd;have n:=yW (c5 x q).1;have D:YB s t=eF s x+iD s t x:=by unfold YB;rw[jN (by rw[hd];decide),q]
 rw[D];have j:∀pg sl,YB s (t.fin pg sl)=0:=λ_ _=>rfl;have i:∀p,YB s (t.bind s p)<=32:=λp=>by have:=(XZ s t.c p t.k).1;unfold YB Sk.bind;dsimp only[eF,iD];rw[jN (by rw[hd];decide)];omega
 have f:∀p,skOk s (t.bind s p)->skIs s cl k (t.bind s p):=λp b=>⟨b,h.c,h.k,λy C=>by
  simp only[Sk.bind,Option.some.injEq]at C
  subst C
  exact h.c⟩
 have B:YB s (t.turn s)<=32*(s.p-t.many-1)+32:=by unfold YB Sk.turn;dsimp only;simp only[decide_eq_true_eq];split<;>omega
 cases x with
 |tk y=>
  simp only[Sk.after]at b|-;split at b<;>rename_i l
  .rw[jP l];refine⟨gQ h b,?_⟩;rw[j];have:iD s t (.tk y)=67*s.p+32:=rfl;omega
  rw[jN l];refine⟨⟨b,h.c,h.k,λz m=>?_⟩,?_⟩
  .simp only[Option.some.injEq]at m;subst m;exact h.c
  have:=(yem s t.c t.k t.first o).1;unfold YB;dsimp only[eF,iD]at n|-;rw[jN (by rw[hd];decide)];omega
 |sc y=>
  simp only[Sk.after]at b|-;split at b<;>rename_i l
  .rw[jP l];refine⟨gQ h b,?_⟩;rw[j];have:iD s t (.sc y)=34*s.p+32:=rfl;omega
  rw[jN l];refine⟨⟨b,h.c,h.k,λz m=>?_⟩,?_⟩
  .simp only[Option.some.injEq]at m;subst m;exact h.c
  have:=(TZ s t.c t.first o).1;unfold YB;dsimp only[eF,iD]at n|-;rw[jN (by rw[hd];decide)];omega
 |pc y=>
  simp only[Sk.after]at b|-;split at b<;>rename_i l
  .rw[jP l];refine⟨f _ b,?_⟩;have h1:=i (y.page s);have:iD s t (.pc y)=32*s.p+32:=rfl;omega
  rw[jN l];refine⟨⟨b,h.c,h.k,λz m=>(by cases m)⟩,?_⟩;unfold YB;dsimp only[eF,iD]at n|-;rw[jN (by rw[hd];decide)];omega
 |sp y=>
  simp only[Sk.after]at b|-;have E:iD s t (.sp y)=32*(s.p-t.many-1)+32:=rfl;split at b<;>rename_i l
  .rw[jP l];refine⟨f _ b,?_⟩;have h1:=i (t.here s);omega
  rw[jN l];refine⟨⟨b,h.c,h.k,λz m=>(by cases m)⟩,?_⟩;omega
 |bn y=>simp only[Sk.after]at b|-;refine⟨gQ h b,?_⟩;rw[j];have:iD s t (.bn y)=0:=rfl;omega
theorem kX{s:Sh}{cl k:Int}(b:1<=s.p)(n:Nat):∀{t:Sk},skIs s cl k t->skIs s cl k (OA s n t)/\YB s (OA s n t)<=YB s t:=by
 induction n with
 |zero=>intro t h;exact⟨h,Int.le_refl _⟩;|succ n i=>
  intro t h;unfold OA;split
  .rename_i x f;split
   .rename_i hc;have h1:=z6t h hc.1 f hc.2 b;have h2:=i h1.1;exact⟨h2.1,Int.le_trans h2.2 h1.2⟩
   exact⟨h,Int.le_refl _⟩
  exact⟨h,Int.le_refl _⟩
def sI (t:Sk):Prop:=t.done=true\/t.now=none\/∃x,t.now=some x/\x.done=false
theorem zzt{s:Sh}(n:Nat):∀{t:Sk},KC t<=n->sI (OA s n t):=by
 induction n with
 |zero=>
  intro t h;unfold KC at h;unfold OA;split at h
  .rename_i hd;exact .inl hd
  split at h<;>rename_i i<;>first|exact .inr (.inl i)|omega
 |succ n j=>
  intro t h;unfold OA;split
  .rename_i x f;split
   .rename_i hc;have:=RJ (s:=s) hc.1 f;exact j (by omega)
   rename_i hc;rcases jB t.done with hd|hd
   .exact .inl hd
   rcases jB x.done with b|b
   .exact absurd ⟨hd,b⟩ hc
   exact .inr (.inr ⟨x,f,b⟩)
  rename_i f;exact .inr (.inl f)
theorem jV(s:Sh)(t:Sk):sI (OA s 5 t):=zzt 5 (Nat.le_trans (vW t) (by decide))
theorem z2i{s:Sh}{t:Sk}(h:skOk s t):0<=YB s t:=by
 unfold YB;split
 .omega
 rename_i hd;obtain⟨c1,c2,c3,c4,c5⟩:=h.cl (by simpa using hd);split
 .omega
 rename_i x b;have h1:=yW (c5 x b).1;have:0<=iD s t x:=by cases x<;>dsimp only[iD]<;>omega
 omega
theorem yek{s:Sh}(c k f:Int)(j:mayB s.p s.c s.m=true):skIs s c k (dD s c k f)/\sI (dD s c k f)/\YB s (dD s c k f)<=67*s.p+s.m+33:=by
 have hb:=JA.1 j;have i:=DX s c k f;unfold dD at i|-;split at i
 .rename_i h;rw[jP h];have h0:skIs s c k ⟨c,k,f,some (.tk (sC s c k)),0,0,0,false,false⟩:=by
   have h1:=sD h.1;have h3:=XE h.2.2;refine⟨⟨λ_=>⟨by dsimp only;omega,h.2.1,by dsimp only;omega,by dsimp only;omega,λx b=>?_⟩,λe=>(by cases e)⟩,rfl,rfl,λx b=>?_⟩
   .simp only[Option.some.injEq]at b;subst b;exact⟨uM _ _ _,rfl⟩
   simp only[Option.some.injEq]at b;subst b;rfl
  have h1:=kX (by omega) 5 h0;refine⟨h1.1,jV _ _,Int.le_trans h1.2 ?_⟩;have:=(MZ s c k (by omega)).1;unfold YB;dsimp only[eF,iD];rw[jN (by decide)];omega
 rename_i h;rw[jN h];refine⟨⟨i,rfl,rfl,λx b=>(by cases b)⟩,.inl rfl,?_⟩;unfold YB;dsimp only;rw[jP rfl];omega
theorem pZ{s:Sh}{cl k:Int}{t:Sk}{m:Mem}(h:skIs s cl k t)(hs:sI t)(hd:t.done=false)(n:Fits s m):Acts cl m (AB s t m).2/\skIs s cl k (AB s t m).1/\sI (AB s t m).1/\YB s (AB s t m).1+1<=YB s t:=by
 have q:1<=s.p:=n.bd.1;obtain⟨c1,c2,c3,c4,c5⟩:=h.ok.cl hd;have o:=VD h.ok.fd hd
 have i:YB s t=match t.now with
  |none=>32*(s.p-t.many)+32
  |some x=>eF s x+iD s t x:=by unfold YB;rw[jN (by rw[hd];decide)]
 have f:=z2o m q h.ok;unfold AB at f|-;rw[jN (by rw[hd];decide)]at f|-;rcases hs with hs|hs|⟨x,l,r⟩
 .rw[hd]at hs;cases hs
 .rw[hs]at f i|-;dsimp only at f i|-;have y:=t.uQ q;refine⟨(Acts.load (n.OD y)).of h.c,?_⟩;split at f<;>rename_i j
  .rw[jP j];refine⟨⟨f,h.c,h.k,λz b=>?_⟩,.inr (.inr ⟨_,rfl,?_⟩),?_⟩
   .simp only[Option.some.injEq]at b;subst b;exact h.c
   .have h1:=(SJ.1 j.1).2.1;have h2:=XE h1;have h3:=(QJ j.1 j.2).2.2;have h4:0<=uA s.p s.c s.m t.c:=by unfold uA;rw[jP ⟨h2.1,BA.2 (by omega)⟩];exact c1.1
    simp[Mc.done,VB,h1,h3,h4]
   rw[i];have:=(qU s t.c (t.here s) (nA (m.get (pA s.p s.c s.m (t.here s))) 0)).1;unfold YB;dsimp only[eF,iD];rw[jN (by rw[hd];decide)];omega
  rw[jN j];refine⟨⟨f,h.c,h.k,λz b=>(by cases b)⟩,.inr (.inl rfl),?_⟩;rw[i];unfold YB Sk.turn;dsimp only;simp only[decide_eq_true_eq];split<;>omega
 rw[l]at f i|-;dsimp only at f i|-;have h1:=uY (c5 x l).1 r n;have hc:=h.now x l;have h0:skIs s cl k {t with now:=some (yB s x m).1}:=by
  refine⟨⟨λ_=>⟨c1,c2,c3,c4,λz b=>?_⟩,λe=>(by have e:t.found=true:=e;rw[o]at e;cases e)⟩,h.c,h.k,λz b=>?_⟩
  .simp only[Option.some.injEq]at b;subst b;exact⟨jM m (c5 x l).1,QL (t:=t) m (c5 x l).2⟩
  simp only[Option.some.injEq]at b;subst b;exact h1.2.1.trans hc
 have h2:=kX q 5 h0;refine⟨h1.1.of hc,h2.1,jV _ _,?_⟩;have h3:YB s {t with now:=some (yB s x m).1}=eF s (yB s x m).1+iD s t x:=by rw[<-z9s s t x m];unfold YB;rw[jN (by rw[hd];decide)];cases (yB s x m).1<;>rfl
 omega
def bC (s:Sh) (t:Rn):Int:=if t.done=true then 0
 else if t.next=0 then 50*(s.p-t.at')+(t.at'-t.head)+8
 else if t.next=1 then 50*(s.p-t.at'-1)+(t.at'-t.head)+10
 else if t.next=2 then 50*(s.p-t.at'-1)+(match t.strip with|some x=>ID x|none=>0)+(t.at'-t.head)+25
 else if t.next=3 then 50*(s.p-t.at'-1)+(16-t.i)+(t.at'-t.head)+9
 else if t.next=4 then 50*(s.p-t.at'-1)+(t.i-t.head)+8
 else t.head+t.pages-t.i
structure rnIs (s:Sh) (cl n:Int) (t:Rn):Prop where
 ok:rnOk s t
 c:t.c=cl
 n:t.pages=n
 st:∀x,t.strip=some x->x.c=cl
theorem yev{s:Sh}{t:Rn}(h:rnOk s t)(hd:t.done=false):1<=bC s t:=by
 obtain⟨c1,c2,c3,c4,c5,c6,c7,c8,c9,b⟩:=h.cl hd;unfold bC;rw[jN (by rw[hd];decide)];split
 .have:=c6 (by omega);omega
 split
 .have:=c6 (by omega);omega
 split
 .rename_i n2;have:=c6 (by omega);obtain⟨x,i,f,j⟩:=c7 n2;have:=TP f;rw[i];dsimp only;omega
 split
 .rename_i n3;have:=c6 (by omega);have:=c8 n3;omega
 split
 .rename_i n4;have:=c6 (by omega);have:=c9 n4;omega
 have:=b (by omega);omega
theorem OJ{s:Sh}{t:Rn}(hd:t.done=false)(h2:1<=t.pages/\t.pages<=8)(h4:t.head<=t.at'/\t.at'<t.head+t.pages)(f:t.head+t.pages<=s.p):bC s t.own<=50*(s.p-t.at'-1)+(t.at'+1-t.head)+8/\t.own.c=t.c/\t.own.pages=t.pages/\t.own.strip=t.strip:=by
 unfold Rn.own Rn.written;have b:¬t.done=true:=by rw[hd];decide
 split
 .dsimp only;split
  .refine⟨?_,rfl,rfl,rfl⟩;unfold bC;dsimp only;rw[jP rfl];omega
  refine⟨?_,rfl,rfl,rfl⟩;unfold bC;dsimp only;rw[jN b,jN (by decide),jN (by decide),jN (by decide),jN (by decide),jN (by decide)];omega
 refine⟨?_,rfl,rfl,rfl⟩;unfold bC;dsimp only;rw[jN b,jP rfl];omega
theorem JJ{s:Sh}{t:Rn}(hd:t.done=false)(f:t.next=4)(h2:t.pages<=s.p)(j:t.at'<s.p)(l:t.head<=t.i):bC s (t.gone s)<=50*(s.p-t.at'-1)+(t.i-t.head)+8/\(t.gone s).c=t.c/\(t.gone s).pages=t.pages/\(t.gone s).strip=t.strip:=by
 unfold Rn.gone;have b:¬t.done=true:=by rw[hd];decide
 split
 .refine⟨?_,rfl,rfl,rfl⟩;unfold bC;rw[jN b,jN (by omega),jN (by omega),jN (by omega),jN (by omega),jP f];omega
 refine⟨?_,rfl,rfl,rfl⟩;unfold bC;dsimp only;simp only[decide_eq_true_eq,if_true];split<;>omega
theorem tI{s:Sh}{t:Rn}(hd:t.done=false)(h2:t.pages<=s.p)(h4:t.head<=t.at')(b:t.at'<s.p):bC s (t.miss s)<=50*(s.p-t.at'-1)+(t.at'-t.head)+8/\(t.miss s).c=t.c/\(t.miss s).pages=t.pages/\(t.miss s).strip=t.strip:=
 JJ (t:={t with next:=4,i:=t.at'}) hd rfl h2 b h4
theorem GY{s:Sh}{cl n:Int}{t:Rn}{m:Mem}(h:rnIs s cl n t)(hd:t.done=false)(E:Fits s m):Acts cl m (aC s t m).2/\rnIs s cl n (aC s t m).1/\bC s (aC s t m).1+1<=bC s t:=by
 obtain⟨c1,c2,c3,c4,c5,c6,c7,c8,c9,F⟩:=h.ok.cl hd;have l:¬t.done=true:=by rw[hd];decide
 have b:=z0v m h.ok
 have O:bC s t=if t.next=0 then 50*(s.p-t.at')+(t.at'-t.head)+8
  else if t.next=1 then 50*(s.p-t.at'-1)+(t.at'-t.head)+10
  else if t.next=2 then 50*(s.p-t.at'-1)+(match t.strip with|some x=>ID x|none=>0)+(t.at'-t.head)+25
  else if t.next=3 then 50*(s.p-t.at'-1)+(16-t.i)+(t.at'-t.head)+9
  else if t.next=4 then 50*(s.p-t.at'-1)+(t.i-t.head)+8
  else t.head+t.pages-t.i:=by unfold bC;rw[jN l]
 have o:∀u:Rn,rnOk s u->u.c=t.c->u.pages=t.pages->(u.strip=t.strip\/∃x,u.strip=some x/\x.c=t.c)->rnIs s cl n u:=λu b L M G=>⟨b,L.trans h.c,M.trans h.n,λx B=>by
  rcases G with G|⟨y,G,N⟩
  .exact h.st x (G▸B)
  .rw[G]at B;injection B with B;subst B;exact N.trans h.c⟩
 rw[O];unfold aC at b|-;dsimp only at b|-;rw[jN l]at b|-;by_cases D:t.next=0
 .have c6:=c6 (by omega);have q:=E.OD (x:=t.at') (by omega);have j:=tI (s:=s) hd (by omega) c4.1 (by omega);rw[jP D]at b|-;rw[jP D];dsimp only at b|-;refine⟨(Acts.load q).of h.c,?_⟩;split at b<;>rename_i h1
  .rw[jP h1];refine⟨o _ b rfl rfl (.inl rfl),?_⟩;unfold bC;dsimp only;rw[jN l,jN (by decide),jP rfl];omega
  rw[jN h1];split at b<;>rename_i h2
  .rw[jP h2];refine⟨o _ b rfl rfl (.inr ⟨_,rfl,rfl⟩),?_⟩;have:=(qU s t.c t.at' (nA (m.get (pA s.p s.c s.m t.at')) 0)).1;unfold bC;dsimp only;rw[jN l,jN (by decide),jN (by decide),jP rfl];omega
  rw[jN h2];exact⟨o _ b j.2.1 j.2.2.1 (.inl j.2.2.2),by omega⟩
 rw[jN D]at b|-;rw[jN D];by_cases n1:t.next=1
 .have c6:=c6 (by omega);have q:=E.OD (x:=t.at') (by omega);have j:=tI (s:=s) hd (by omega) c4.1 (by omega);have f:=OJ (s:=s) hd c2 ⟨c4.1,c6⟩ c3.2;rw[jP n1]at b|-;rw[jP n1];dsimp only at b|-;refine⟨(Acts.swap q (bM _)).of h.c,?_⟩;split at b<;>rename_i h1
  .rw[jP h1];exact⟨o _ b f.2.1 f.2.2.1 (.inl f.2.2.2),by omega⟩
  rw[jN h1];exact⟨o _ b j.2.1 j.2.2.1 (.inl j.2.2.2),by omega⟩
 rw[jN n1]at b|-;rw[jN n1];by_cases n2:t.next=2
 .have c6:=c6 (by omega);obtain⟨x,B,H,J⟩:=c7 n2;have r:=CT H J E;have z:=h.st x B;have R:=TP (VP m H);have C:=h.c;rw[jP n2,B]at b|-;rw[jP n2];dsimp only at b|-;refine⟨r.1.of z,?_⟩;split at b<;>rename_i h1
  .rw[jP h1];refine⟨o _ b rfl rfl (.inr ⟨_,rfl,by rw[r.2.1,z,C]⟩),?_⟩;unfold bC;dsimp only;rw[jN l,jN (by decide),jN (by decide),jN (by decide),jP rfl];omega
  rw[jN h1];split at b<;>rename_i h2
  .rw[jP h2];have j:=tI (s:=s) (t:={t with strip:=some (SC s x m).1}) hd (by dsimp only;omega) c4.1 (by dsimp only;omega);dsimp only at j;refine⟨o _ b j.2.1 j.2.2.1 (.inr ⟨_,j.2.2.2,by rw[r.2.1,z,C]⟩),?_⟩;omega
  rw[jN h2];refine⟨o _ b rfl rfl (.inr ⟨_,rfl,by rw[r.2.1,z,C]⟩),?_⟩;unfold bC;dsimp only;rw[jN l,jN D,jN n1,jP n2];omega
 rw[jN n2]at b|-;rw[jN n2];by_cases n3:t.next=3
 .have c6:=c6 (by omega);have c8:=c8 n3;have q:=E.RE (x:=t.at') (i:=t.i) (by omega) (by omega);rw[jP n3]at b|-;rw[jP n3];dsimp only at b|-;refine⟨(Acts.store q nG).of h.c,?_⟩;split at b<;>rename_i h1
  .rw[jP h1];have f:=OJ (s:=s) (t:={t with i:=t.i+1}) hd c2 ⟨c4.1,c6⟩ c3.2;dsimp only at f;exact⟨o _ b f.2.1 f.2.2.1 (.inl f.2.2.2),by omega⟩
  rw[jN h1];refine⟨o _ b rfl rfl (.inl rfl),?_⟩;unfold bC;dsimp only;rw[jN l,jN D,jN n1,jN n2,jP n3];omega
 rw[jN n3]at b|-;rw[jN n3];by_cases n4:t.next=4
 .have c6:=c6 (by omega);have c9:=c9 n4;have q:=E.OD (x:=t.i-1) (by omega);rw[jP n4]at b|-;rw[jP n4];dsimp only at b|-;have I:=JJ (s:=s) (t:={t with i:=t.i-1}) hd n4 (by dsimp only;omega) (by dsimp only;omega) (by dsimp only;omega);dsimp only at I;exact⟨(Acts.store q (sF _ _ _)).of h.c,o _ b I.2.1 I.2.2.1 (.inl I.2.2.2),by omega⟩
 rw[jN n4]at b|-;rw[jN n4];have n5:t.next=5:=by omega
 have F:=F n5;have q:=E.OD (x:=t.i) (by omega);dsimp only at b|-;refine⟨(Acts.store q (sF _ _ _)).of h.c,?_⟩;unfold Rn.written at b|-;split at b<;>rename_i h1
 .rw[jP h1];refine⟨o _ b rfl rfl (.inl rfl),?_⟩;unfold bC;dsimp only;rw[jP rfl];omega
 rw[jN h1];refine⟨o _ b rfl rfl (.inl rfl),?_⟩;unfold bC;dsimp only;rw[jN l,jN D,jN n1,jN n2,jN n3,jN n4];omega
theorem yfb{s:Sh}(c n:Int)(b:mayB s.p s.c s.m=true):rnIs s c n (FC s c n)/\bC s (FC s c n)<=50*s.p+8:=by
 have hb:=JA.1 b;refine⟨⟨QX _ _ _,rfl,rfl,λx f=>(by cases f)⟩,?_⟩;unfold bC FC;dsimp only;split
 .omega
 rw[jP rfl];omega
theorem z2y{s:Sh}{t:Rn}(h:rnOk s t):0<=bC s t:=by
 rcases jB t.done with hd|hd
 .unfold bC;rw[jP hd];omega
 have:=yev h hd;omega
structure rsIs (s:Sh) (cl:Int) (t:Rs):Prop where
 sk:∀x,t.seeker=some x->skIs s cl t.k x/\sI x
 rn:∀x,t.runner=some x->rnIs s cl t.pages x
def BG (s:Sh) (t:Rs):Int:=match t.seeker,t.runner with
 |some x,_=>YB s x
 |none,some x=>bC s x
 |none,none=>0
theorem MI{s:Sh}{cl:Int}{t:Rs}(h:rsIs s cl t):0<=BG s t:=by
 obtain⟨k,pg,sk,rn⟩:=t;rcases sk with _|x
 .rcases rn with _|y
  .exact Int.le_refl _
  exact z2y (h.rn y rfl).ok
 exact z2i (h.sk x rfl).1.ok
theorem HQ{s:Sh}{cl:Int}{t:Rs}{m:Mem}(h:rsIs s cl t)(hd:t.done=false)(f:Fits s m):Acts cl m (CB s t m).2/\rsIs s cl (CB s t m).1/\BG s (CB s t m).1+1<=BG s t:=by
 obtain⟨k,pg,sk,rn⟩:=t;rcases sk with _|x
 .rcases rn with _|y
  .cases hd
  have h1:=GY (h.rn y rfl) hd f;exact⟨h1.1,⟨λz b=>(by cases b),λz b=>(by injection b with b;subst b;exact h1.2.1)⟩,h1.2.2⟩
 have h1:=pZ (h.sk x rfl).1 (h.sk x rfl).2 hd f;exact⟨h1.1,⟨λz b=>(by injection b with b;subst b;exact⟨h1.2.1,h1.2.2.1⟩),h.rn⟩,h1.2.2.2⟩
theorem FO{s:Sh}(c n f:Int)(i:mayB s.p s.c s.m=true):rsIs s c (mB s c n f)/\BG s (mB s c n f)<=67*s.p+s.m+33:=by
 have hb:=JA.1 i;unfold mB;split
 .have h1:=yek c (pB n) f i;exact⟨⟨λx b=>(by injection b with b;subst b;exact⟨h1.1,h1.2.1⟩),λx b=>(by cases b)⟩,h1.2.2⟩
 split
 .have h1:=yfb c (runV n) i;refine⟨⟨λx b=>(by cases b),λx b=>(by injection b with b;subst b;exact h1.1)⟩,?_⟩;have:BG s ⟨0,runV n,none,some (FC s c (runV n))⟩=bC s (FC s c (runV n)):=rfl;omega
 exact⟨⟨λx b=>(by cases b),λx b=>(by cases b)⟩,by show (0:Int)<=_;omega⟩
theorem TG{s:Sh}{cl:Int}{t:Rs}{b:Blk}(h:rsIs s cl t)(j:mayB s.p s.c s.m=true)(hc:0<=cl/\cl<s.c)(f:t.got=some b):b.fits s cl=true/\t.done=true:=by
 obtain⟨k,pg,sk,rn⟩:=t;rcases sk with _|x
 .rcases rn with _|y
  .cases f
  have h1:=h.rn y rfl;unfold Rs.got at f;dsimp only at f;split at f
  .rename_i i;injection f with f;subst f;have h2:=h1.ok.fd i;have h3:=h1.n;dsimp only at h3;refine⟨LE.2 ⟨j,hc,by dsimp only;omega,λ_=>by dsimp only;omega,λe=>(by cases e)⟩,h2.1⟩
  cases f
 have h1:=(h.sk x rfl).1;unfold Rs.got at f;dsimp only at f;split at f
 .rename_i i;injection f with f;subst f;have h2:=h1.ok.fd i;have h3:=h1.k;dsimp only at h3;refine⟨LE.2 ⟨j,hc,by dsimp only;omega,λe=>(by cases e),λ_=>by dsimp only;rw[<-h3];omega⟩,h2.1⟩
 cases f
theorem OT{s:Sh}{t:Cm}{m:Mem}(h:t.b.fits s t.c=true)(hd:t.done=false)(f:Fits s m):Acts t.c m (GB s t m).2/\(GB s t m).1={t with done:=true}:=by
 have h1:=LE.1 h;unfold GB;rw[jN (by rw[hd];decide)];refine⟨?_,rfl⟩;dsimp only;cases hl:t.b.large
 .rw[jN (by decide)];have h2:=h1.2.2.2.2 hl;have h3:=UD (by omega:0<mA t.b.k);exact .store (f.RE h1.2.2.1 (by omega)) (zx7 _)
 rw[jP rfl];exact .store (f.OD h1.2.2.1) (sF _ _ _)
def HD (t:Un):Int:=if t.done=true then 0 else if t.b.large=true then t.b.pages-t.i else 1
theorem WT{s:Sh}{t:Un}(h:unOk s t)(hd:t.done=false):1<=HD t:=by
 have h1:=(h.cl hd).2;unfold HD;rw[jN (by rw[hd];decide)];split
 .rename_i b;have:=h1 b;omega
 omega
theorem mZ{s:Sh}{t:Un}{m:Mem}(h:unOk s t)(hd:t.done=false)(f:Fits s m):Acts t.c m (QB s t m).2/\(QB s t m).1.c=t.c/\(QB s t m).1.b=t.b/\HD (QB s t m).1+1<=HD t:=by
 obtain⟨j,hi⟩:=h.cl hd;have h1:=LE.1 j;have l:HD t=if t.b.large=true then t.b.pages-t.i else 1:=by unfold HD;rw[jN (by rw[hd];decide)]
 rw[l];unfold QB;rw[jN (by rw[hd];decide)];cases hl:t.b.large
 .rw[jP rfl,jN (by decide)];have h2:=h1.2.2.2.2 hl;have h3:=UD (by omega:0<mA t.b.k);refine⟨.store (f.RE h1.2.2.1 (by omega)) (pM _),rfl,rfl,?_⟩;unfold HD;rw[jP rfl];omega
 rw[jN (by decide),jP rfl];have h2:=h1.2.2.2.1 hl;have hi:=hi hl;split
 .refine⟨.store (f.OD h1.2.2.1) nG,rfl,rfl,?_⟩;unfold HD;rw[jP rfl];omega
 refine⟨.store (f.OD (by omega)) nG,rfl,rfl,?_⟩;unfold HD;dsimp only;rw[jN (by rw[hd];decide),jP hl];omega
theorem RZ{s:Sh}(c:Int)(b:Blk)(h:b.fits s c=true):HD (UC s c b)<=8/\(UC s c b).done=false:=by
 have h1:=LE.1 h;have hd:(UC s c b).done=false:=by simp[UC,h]
 refine⟨?_,hd⟩;unfold HD;rw[jN (by rw[hd];decide)];split
 .rename_i f;have h2:=h1.2.2.2.1 f;simp only[UC];omega
 omega
structure feIs (s:Sh) (cl:Int) (t:Fe):Prop where
 ok:feOk s t
 c:t.c=cl
 put:∀x,t.put=some x->x.c=cl
 gv:t.next<=1->t.gave=false
 gv2:2<=t.next->t.done=false->t.gave=true
def iC (s:Sh) (t:Fe):Int:=if t.done=true then 0 else if t.next=0 then s.m+12 else if t.next=1 then s.m+11
 else if t.next=2 then (match t.put with|some x=>eG s x|none=>0)+1 else if t.next=3 then 1 else t.pa-t.i
theorem mU{s:Sh}{t:Fe}(h:feOk s t)(l:0<=s.m)(hd:t.done=false):1<=iC s t:=by
 obtain⟨c1,c2,c3,c4,c5,c6,c7,c8,c9,b⟩:=h.cl hd;unfold iC;rw[jN (by rw[hd];decide)];split
 .omega
 split
 .omega
 split
 .rename_i n2;obtain⟨_,x,i,f,j⟩:=c8 n2;have:=YW f;rw[i];dsimp only;omega
 split
 .omega
 have:=b (by omega);omega
theorem IW{s:Sh}{t:Fe}(h:feOk s t)(b:0<=s.m):0<=iC s t:=by
 rcases jB t.done with hd|hd
 .unfold iC;rw[jP hd];omega
 have:=mU h b hd;omega
theorem kU{s:Sh}(c a:Int)(b:mayB s.p s.c s.m=true):feIs s c (uB s c a)/\iC s (uB s c a)<=s.m+12:=by
 have hb:=JA.1 b;refine⟨⟨BX _ _ _,rfl,λx f=>(by cases f),λ_=>rfl,λe=>(by simp[uB]at e)⟩,?_⟩;unfold iC;split
 .omega
 rw[jP (show (uB s c a).next=0 from rfl)];omega
theorem yT{s:Sh}{cl:Int}{t:Fe}{m:Mem}(h:feIs s cl t)(hd:t.done=false)(B:Fits s m)(E:m.fit):Acts cl m (NB s t m).2/\feIs s cl (NB s t m).1/\iC s (NB s t m).1+1<=iC s t/\(t.gave=true->(NB s t m).1.gave=true):=by
 obtain⟨c1,c2,c3,c4,c5,c6,c7,c8,c9,D⟩:=h.ok.cl hd;have hb:=B.bd;have l:¬t.done=true:=by rw[hd];decide
 have b:=z1a m E h.ok
 have R:iC s t=if t.next=0 then s.m+12 else if t.next=1 then s.m+11
  else if t.next=2 then(match t.put with|some x=>eG s x|none=>0)+1 else if t.next=3 then 1 else t.pa-t.i:=by unfold iC;rw[jN l]
 have q:∀u:Fe,u.done=true->iC s u=0:=λu e=>by unfold iC;rw[jP e]
 have r:=B.OD c2;rw[R];unfold NB at b|-;rw[jN l]at b|-;by_cases C:t.next=0
 .have j:=h.gv (by omega);rw[jP C]at b|-;rw[jP C];unfold Fe.look at b|-;dsimp only at b|-;refine⟨(Acts.load r).of h.c,?_⟩;split at b<;>rename_i h1
  .rw[jP h1];refine⟨⟨b,h.c,h.put,λ_=>j,λe=>(by dsimp only at e;omega)⟩,?_,λe=>(by rw[j]at e;cases e)⟩;unfold iC;dsimp only;rw[jN l,jN (by decide),jP rfl];omega
  rw[jN h1];split at b<;>rename_i h2
  .rw[jP h2];refine⟨⟨b,h.c,h.put,λ_=>j,λe=>(by dsimp only at e;omega)⟩,?_,λe=>(by rw[j]at e;cases e)⟩;unfold iC;dsimp only;rw[jN l,jN (by decide),jP rfl];omega
  rw[jN h2];refine⟨⟨b,h.c,h.put,λ_=>j,λe=>(by dsimp only at e;omega)⟩,?_,λe=>(by rw[j]at e;cases e)⟩;rw[q _ rfl];omega
 rw[jN C]at b|-;rw[jN C];by_cases n1:t.next=1
 .have j:=h.gv (by omega);have c5:=c5 (by omega);have c6:=c6 (by omega);rw[jP n1]at b|-;rw[jP n1];unfold Fe.claim at b|-;dsimp only at b|-;by_cases L:t.pk=3
  .have c6:1<=t.pa/\t.pa<=8/\t.pa<=s.p-t.page:=by rcases c6 with h|h<;>omega
   rw[jP L]at b|-;dsimp only at b|-;refine⟨(Acts.swap r (bM _)).of h.c,⟨b,h.c,h.put,λe=>(by dsimp only at e;omega),λ_ e=>(by dsimp only at e|-;simpa using e)⟩,?_,λe=>(by rw[j]at e;cases e)⟩;unfold iC;dsimp only;split
   .omega
   rw[jN (by decide),jN (by decide),jN (by decide),jN (by decide)];omega
  have c6:t.pk=2/\0<mA t.pa/\(0<=t.slot/\t.slot<mA t.pa):=by rcases c6 with h|h;exact absurd h.1 L;exact h
  have M:=UD c6.2.1;have z:=B.RE (x:=t.page) (i:=t.slot) c2 (by omega);rw[jN L]at b|-;dsimp only at b|-;refine⟨(Acts.swap z (LM _)).of h.c,?_⟩;generalize T:decide (m.get (bB s.p s.c s.m t.page t.slot)=CE t.pa)=g at b|-;by_cases F:t.pb=t.c
  .rw[jP F]at b|-;have G:=yfa s t.c t.page t.slot t.pa (by omega);rcases oH ({t with gave:=g,next:=2,put:=some (nD s t.c t.page t.slot t.pa)}:Fe) _ rfl with⟨h1,_⟩|⟨h1,h2,h3⟩|⟨h1,h2,h3⟩
   .simp[nD]at h1
   .rw[h3]at b|-;dsimp only at b|-;refine⟨⟨b,h.c,λx n=>?_,λe=>(by dsimp only at e;omega),λ_ e=>(by dsimp only at e|-;simpa using e)⟩,?_,λe=>(by rw[j]at e;cases e)⟩
    .have n:some (nD s t.c t.page t.slot t.pa)=some x:=n;injection n with n;subst n;exact G.2.trans h.c
    unfold iC;dsimp only;split
    .omega
    rw[jN (by decide),jN (by decide),jN (by decide),jP rfl];omega
   rw[h3]at b|-;dsimp only at b|-;refine⟨⟨b,h.c,λx n=>?_,λe=>(by dsimp only at e;omega),λ_ e=>(by dsimp only at e|-;simpa using e)⟩,?_,λe=>(by rw[j]at e;cases e)⟩
   .have n:some (nD s t.c t.page t.slot t.pa)=some x:=n;injection n with n;subst n;exact G.2.trans h.c
   unfold iC;dsimp only;split
   .omega
   rw[jN (by decide),jN (by decide),jP rfl];omega
  rw[jN F]at b|-;dsimp only at b|-;refine⟨⟨b,h.c,h.put,λe=>(by dsimp only at e;omega),λ_ e=>(by dsimp only at e|-;simpa using e)⟩,?_,λe=>(by rw[j]at e;cases e)⟩;unfold iC;dsimp only;split
  .omega
  rw[jN (by decide),jN (by decide),jN (by decide),jP rfl];omega
 rw[jN n1]at b|-;rw[jN n1];have f:=h.gv2 (by omega) hd;have c6:=c6 (by omega);by_cases n2:t.next=2
 .obtain⟨L,x,n,J,N⟩:=c8 n2;have H:=jZ J N B;have I:=h.put x n;have S:=YW (XV m J);rw[jP n2,n]at b|-;rw[jP n2];dsimp only at b|-;refine⟨H.1.of I,?_⟩;have o:∀y,some (YC s x m).1=some y->y.c=cl:=λy O=>by injection O with O;subst O;exact H.2.1.trans I
  rcases oH ({t with put:=some (YC s x m).1}:Fe) _ rfl with⟨h1,h3⟩|⟨h1,h2,h3⟩|⟨h1,h2,h3⟩
  .rw[h3]at b|-;exact⟨⟨b,h.c,o,λe=>(by dsimp only at e;omega),λ_ _=>f⟩,by rw[q _ rfl];omega,λ_=>f⟩
  .rw[h3]at b|-;refine⟨⟨b,h.c,o,λe=>(by dsimp only at e;omega),λ_ _=>f⟩,?_,λ_=>f⟩;unfold iC;dsimp only;rw[jN l,jN (by decide),jN (by decide),jN (by decide),jP rfl];omega
  rw[h3]at b|-;refine⟨⟨b,h.c,o,λe=>(by dsimp only at e;omega),λ_ _=>f⟩,?_,λ_=>f⟩;unfold iC;dsimp only;rw[jN l,jN C,jN n1,jP n2];omega
 rw[jN n2]at b|-;rw[jN n2];by_cases n3:t.next=3
 .have c6:t.pk=2/\0<mA t.pa/\(0<=t.slot/\t.slot<mA t.pa):=by
   have:=c9 n3;rcases c6 with h|h
   .omega
   exact h
  have M:=UD c6.2.1;have z:=B.RE (x:=t.page) (i:=t.slot) c2 (by omega);rw[jP n3]at b|-;rw[jP n3];exact⟨(Acts.store z (pM _)).of h.c,⟨b,h.c,h.put,λe=>(by dsimp only at e;omega),λ_ _=>f⟩,by rw[q _ rfl];omega,λ_=>f⟩
 rw[jN n3]at b|-;rw[jN n3];have n4:t.next=4:=by omega
 have D:=D n4;have c6:1<=t.pa/\t.pa<=8/\t.pa<=s.p-t.page:=by rcases c6 with h|h<;>omega
 split at b<;>rename_i h1
 .rw[jP h1];exact⟨(Acts.store r nG).of h.c,⟨b,h.c,h.put,λe=>(by dsimp only at e;omega),λ_ _=>f⟩,by rw[q _ rfl];omega,λ_=>f⟩
 rw[jN h1];refine⟨(Acts.store (B.OD (by omega)) nG).of h.c,⟨b,h.c,h.put,λe=>(by dsimp only at e;omega),λ_ _=>f⟩,?_,λ_=>f⟩;unfold iC;dsimp only;rw[jN l,jN C,jN n1,jN n2,jN n3];omega
end Go.Proofs.YtkilokkopbajkaaGreat

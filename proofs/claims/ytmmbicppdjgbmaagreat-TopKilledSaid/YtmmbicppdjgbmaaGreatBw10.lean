/- Lemmas for the claim. -/
import Derived.Test.YtmmbicppdjgbmaaGreatBw7

set_option linter.all false
namespace Go.Proofs.YtmmbicppdjgbmaaGreat

def mcC:Mc->Int
 | .tk t=> t.c
 | .sc t=> t.c
 | .pc t=> t.c
 | .sp t=> t.c
 | .bn t=> t.c
def QE (s:Sh):Mc->Int
 | .tk t=> qG s t
 | .sc t=> pD s t
 | .pc t=> qE s t
 | .sp t=> AD t
 | .bn t=> GE t
def XC (s:Sh) (t:Sk):Mc->Int
 | .tk _=> 67 * s.p + 32
 | .sc _=> 34 * s.p + 32
 | .pc _=> 32 * s.p + 32
 | .sp _=> 32 * (s.p - t.many - 1) + 32
 | .bn _=> 0
theorem PX{s:Sh}{x:Mc}{m:Mem}(h:mcOk s x)(hd:x.done=false)(b:Fits s m):Acts (mcC x) m (oB s x m).2/\mcC (oB s x m).1=mcC x/\QE s (oB s x m).1+1<=QE s x:=by
 cases x with
 |tk t=>exact LY h hd b
 |sc t=>exact qY h hd b
 |pc t=>exact z94 h hd b
 |sp t=>exact RS h hd b
 |bn t=>exact CY h hd b
theorem z9s(s:Sh)(t:Sk)(x:Mc)(m:Mem):XC s t (oB s x m).1=XC s t x:=by cases x<;>rfl
theorem VV{s:Sh}{x:Mc}(h:mcOk s x):0<=QE s x:=by
 cases x with
 |tk t=>exact z1k h
 |sc t=>exact z1y h
 |pc t=>exact zz7 h
 |sp t=>exact CP h
 |bn t=>exact zz0 h
def SB (s:Sh) (t:Sk):Int:=if t.done=true then 0 else match t.now with
 | none=> 32 * (s.p - t.many) + 32
 | some x=> QE s x + XC s t x
structure skIs (s:Sh) (cl k:Int) (t:Sk):Prop where
 ok:skOk s t
 c:t.c=cl
 k:t.k=k
 now:∀ x,t.now=some x->mcC x=cl
theorem LP{s:Sh}{cl k:Int}{t:Sk}(h:skIs s cl k t){pg sl:Int}(h2:skOk s (t.fin pg sl)):skIs s cl k (t.fin pg sl):=⟨h2,h.c,h.k,h.now⟩
theorem z6t{s:Sh}{cl k:Int}{t:Sk}{x:Mc}(h:skIs s cl k t)(hd:t.done=false)(q:t.now=some x)(r:x.done=true)(o:1<=s.p):skIs s cl k (t.after s x)/\SB s (t.after s x)<=SB s t:=by
 have b:=eL h.ok hd q r o;obtain⟨c1,c2,c3,c4,c5⟩:=h.ok.cl hd;have n:=VV (c5 x q).1;have D:SB s t=QE s x+XC s t x:=by unfold SB;rw[jN (by rw[hd];decide),q]
 rw[D];have j:∀ pg sl,SB s (t.fin pg sl)=0:=fun _ _=>rfl;have i:∀ p,SB s (t.bind s p)<=32:=fun p=>by have:=(KZ s t.c p t.k).1;unfold SB Sk.bind;dsimp only[QE,XC];rw[jN (by rw[hd];decide)];omega
 have f:∀ p,skOk s (t.bind s p)->skIs s cl k (t.bind s p):=fun p b=>⟨b,h.c,h.k,fun y C=>by
  simp only[Sk.bind,Option.some.injEq]at C
  subst C
  exact h.c⟩
 have B:SB s (t.turn s)<=32*(s.p-t.many-1)+32:=by unfold SB Sk.turn;dsimp only;simp only[decide_eq_true_eq];split<;>omega
 cases x with
 |tk y=>
  simp only[Sk.after]at b ⊢;split at b<;>rename_i l
  ·rw[jP l];refine⟨LP h b,?_⟩;rw[j];have:XC s t (.tk y)=67*s.p+32:=rfl;omega
  rw[jN l];refine⟨⟨b,h.c,h.k,fun z m=>?_⟩,?_⟩
  ·simp only[Option.some.injEq]at m;subst m;exact h.c
  have:=(yem s t.c t.k t.first o).1;unfold SB;dsimp only[QE,XC]at n ⊢;rw[jN (by rw[hd];decide)];omega
 |sc y=>
  simp only[Sk.after]at b ⊢;split at b<;>rename_i l
  ·rw[jP l];refine⟨LP h b,?_⟩;rw[j];have:XC s t (.sc y)=34*s.p+32:=rfl;omega
  rw[jN l];refine⟨⟨b,h.c,h.k,fun z m=>?_⟩,?_⟩
  ·simp only[Option.some.injEq]at m;subst m;exact h.c
  have:=(GZ s t.c t.first o).1;unfold SB;dsimp only[QE,XC]at n ⊢;rw[jN (by rw[hd];decide)];omega
 |pc y=>
  simp only[Sk.after]at b ⊢;split at b<;>rename_i l
  ·rw[jP l];refine⟨f _ b,?_⟩;have h1:=i (y.page s);have:XC s t (.pc y)=32*s.p+32:=rfl;omega
  rw[jN l];refine⟨⟨b,h.c,h.k,fun z m=>(by cases m)⟩,?_⟩;unfold SB;dsimp only[QE,XC]at n ⊢;rw[jN (by rw[hd];decide)];omega
 |sp y=>
  simp only[Sk.after]at b ⊢;have E:XC s t (.sp y)=32*(s.p-t.many-1)+32:=rfl;split at b<;>rename_i l
  ·rw[jP l];refine⟨f _ b,?_⟩;have h1:=i (t.here s);omega
  rw[jN l];refine⟨⟨b,h.c,h.k,fun z m=>(by cases m)⟩,?_⟩;omega
 |bn y=>simp only[Sk.after]at b ⊢;refine⟨LP h b,?_⟩;rw[j];have:XC s t (.bn y)=0:=rfl;omega
theorem FW{s:Sh}{cl k:Int}(b:1<=s.p)(n:Nat):∀ {t:Sk},skIs s cl k t->skIs s cl k (mB s n t)/\SB s (mB s n t)<=SB s t:=by
 induction n with
 |zero=>intro t h;exact⟨h,Int.le_refl _⟩;|succ n i=>
  intro t h;unfold mB;split
  ·rename_i x f;split
   ·rename_i hc;have h1:=z6t h hc.1 f hc.2 b;have h2:=i h1.1;exact⟨h2.1,Int.le_trans h2.2 h1.2⟩
   exact⟨h,Int.le_refl _⟩
  exact⟨h,Int.le_refl _⟩
def XH (t:Sk):Prop:=t.done=true\/t.now=none\/∃ x,t.now=some x/\x.done=false
theorem zzt{s:Sh}(n:Nat):∀ {t:Sk},zC t<=n->XH (mB s n t):=by
 induction n with
 |zero=>
  intro t h;unfold zC at h;unfold mB;split at h
  ·rename_i hd;exact .inl hd
  split at h<;>rename_i i<;>first|exact .inr (.inl i)|omega
 |succ n j=>
  intro t h;unfold mB;split
  ·rename_i x f;split
   ·rename_i hc;have:=mJ (s:=s) hc.1 f;exact j (by omega)
   rename_i hc;rcases jB t.done with hd|hd
   ·exact .inl hd
   rcases jB x.done with b|b
   ·exact absurd ⟨hd,b⟩ hc
   exact .inr (.inr ⟨x,f,b⟩)
  rename_i f;exact .inr (.inl f)
theorem MU(s:Sh)(t:Sk):XH (mB s 5 t):=zzt 5 (Nat.le_trans (TV t) (by decide))
theorem z2i{s:Sh}{t:Sk}(h:skOk s t):0<=SB s t:=by
 unfold SB;split
 ·omega
 rename_i hd;obtain⟨c1,c2,c3,c4,c5⟩:=h.cl (by simpa using hd);split
 ·omega
 rename_i x b;have h1:=VV (c5 x b).1;have:0<=XC s t x:=by cases x<;>dsimp only[XC]<;>omega
 omega
theorem ZZ{s:Sh}(c k f:Int)(j:mayB s.p s.c s.m=true):skIs s c k (qD s c k f)/\XH (qD s c k f)/\SB s (qD s c k f)<=67*s.p+s.m+33:=by
 have hb:=LA.1 j;have i:=aX s c k f;unfold qD at i ⊢;split at i
 ·rename_i h;rw[jP h];have h0:skIs s c k ⟨c,k,f,some (.tk (bD s c k)),0,0,0,false,false⟩:=by
   have h1:=lD h.1;have h3:=ME h.2.2;refine⟨⟨fun _=>⟨by dsimp only;omega,h.2.1,by dsimp only;omega,by dsimp only;omega,fun x b=>?_⟩,fun e=>(by cases e)⟩,rfl,rfl,fun x b=>?_⟩
   ·simp only[Option.some.injEq]at b;subst b;exact⟨EL _ _ _,rfl⟩
   simp only[Option.some.injEq]at b;subst b;rfl
  have h1:=FW (by omega) 5 h0;refine⟨h1.1,MU _ _,Int.le_trans h1.2 ?_⟩;have:=(vZ s c k (by omega)).1;unfold SB;dsimp only[QE,XC];rw[jN (by decide)];omega
 rename_i h;rw[jN h];refine⟨⟨i,rfl,rfl,fun x b=>(by cases b)⟩,.inl rfl,?_⟩;unfold SB;dsimp only;rw[jP rfl];omega
theorem TY{s:Sh}{cl k:Int}{t:Sk}{m:Mem}(h:skIs s cl k t)(hs:XH t)(hd:t.done=false)(n:Fits s m):Acts cl m (rB s t m).2/\skIs s cl k (rB s t m).1/\XH (rB s t m).1/\SB s (rB s t m).1+1<=SB s t:=by
 have q:1<=s.p:=n.bd.1;obtain⟨c1,c2,c3,c4,c5⟩:=h.ok.cl hd;have o:=KD h.ok.fd hd
 have i:SB s t=match t.now with
  |none=>32*(s.p-t.many)+32
  |some x=>QE s x+XC s t x:=by unfold SB;rw[jN (by rw[hd];decide)]
 have f:=z2o m q h.ok;unfold rB at f ⊢;rw[jN (by rw[hd];decide)]at f ⊢;rcases hs with hs|hs|⟨x,l,r⟩
 ·rw[hd]at hs;cases hs
 ·rw[hs]at f i ⊢;dsimp only at f i ⊢;have y:=t.XP q;refine⟨(Acts.load (n.FD y)).of h.c,?_⟩;split at f<;>rename_i j
  ·rw[jP j];refine⟨⟨f,h.c,h.k,fun z b=>?_⟩,.inr (.inr ⟨_,rfl,?_⟩),?_⟩
   ·simp only[Option.some.injEq]at b;subst b;exact h.c
   ·have h1:=(nJ.1 j.1).2.1;have h2:=ME h1;have h3:=(lJ j.1 j.2).2.2;have h4:0<=uA s.p s.c s.m t.c:=by unfold uA;rw[jP ⟨h2.1,IA.2 (by omega)⟩];exact c1.1
    simp[Mc.done,rC,h1,h3,h4]
   rw[i];have:=(UT s t.c (t.here s) (nA (m.get (pA s.p s.c s.m (t.here s))) 0)).1;unfold SB;dsimp only[QE,XC];rw[jN (by rw[hd];decide)];omega
  rw[jN j];refine⟨⟨f,h.c,h.k,fun z b=>(by cases b)⟩,.inr (.inl rfl),?_⟩;rw[i];unfold SB Sk.turn;dsimp only;simp only[decide_eq_true_eq];split<;>omega
 rw[l]at f i ⊢;dsimp only at f i ⊢;have h1:=PX (c5 x l).1 r n;have hc:=h.now x l;have h0:skIs s cl k {t with now:=some (oB s x m).1}:=by
  refine⟨⟨fun _=>⟨c1,c2,c3,c4,fun z b=>?_⟩,fun e=>(by have e:t.found=true:=e;rw[o]at e;cases e)⟩,h.c,h.k,fun z b=>?_⟩
  ·simp only[Option.some.injEq]at b;subst b;exact⟨sL m (c5 x l).1,UK (t:=t) m (c5 x l).2⟩
  simp only[Option.some.injEq]at b;subst b;exact h1.2.1.trans hc
 have h2:=FW q 5 h0;refine⟨h1.1.of hc,h2.1,MU _ _,?_⟩;have h3:SB s {t with now:=some (oB s x m).1}=QE s (oB s x m).1+XC s t x:=by rw[<-z9s s t x m];unfold SB;rw[jN (by rw[hd];decide)];cases (oB s x m).1<;>rfl
 omega
def VB (s:Sh) (t:Rn):Int:=if t.done=true then 0
 else if t.next=0 then 50 * (s.p - t.at') + (t.at' - t.head) + 8
 else if t.next=1 then 50 * (s.p - t.at' - 1) + (t.at' - t.head) + 10
 else if t.next=2 then 50 * (s.p - t.at' - 1) + (match t.strip with | some x=> AD x | none=> 0) + (t.at' - t.head) + 25
 else if t.next=3 then 50 * (s.p - t.at' - 1) + (16 - t.i) + (t.at' - t.head) + 9
 else if t.next=4 then 50 * (s.p - t.at' - 1) + (t.i - t.head) + 8
 else t.head + t.pages - t.i
structure rnIs (s:Sh) (cl n:Int) (t:Rn):Prop where
 ok:rnOk s t
 c:t.c=cl
 n:t.pages=n
 st:∀ x,t.strip=some x->x.c=cl
theorem yev{s:Sh}{t:Rn}(h:rnOk s t)(hd:t.done=false):1<=VB s t:=by
 obtain⟨c1,c2,c3,c4,c5,c6,c7,c8,c9,b⟩:=h.cl hd;unfold VB;rw[jN (by rw[hd];decide)];split
 ·have:=c6 (by omega);omega
 split
 ·have:=c6 (by omega);omega
 split
 ·rename_i n2;have:=c6 (by omega);obtain⟨x,i,f,j⟩:=c7 n2;have:=CP f;rw[i];dsimp only;omega
 split
 ·rename_i n3;have:=c6 (by omega);have:=c8 n3;omega
 split
 ·rename_i n4;have:=c6 (by omega);have:=c9 n4;omega
 have:=b (by omega);omega
theorem NT{s:Sh}{t:Rn}(hd:t.done=false)(h2:1<=t.pages/\t.pages<=8)(h4:t.head<=t.at'/\t.at'<t.head+t.pages)(f:t.head+t.pages<=s.p):VB s t.own<=50*(s.p-t.at'-1)+(t.at'+1-t.head)+8/\t.own.c=t.c/\t.own.pages=t.pages/\t.own.strip=t.strip:=by
 unfold Rn.own Rn.written;have b:¬ t.done=true:=by rw[hd];decide
 split
 ·dsimp only;split
  ·refine⟨?_,rfl,rfl,rfl⟩;unfold VB;dsimp only;rw[jP rfl];omega
  refine⟨?_,rfl,rfl,rfl⟩;unfold VB;dsimp only;rw[jN b,jN (by decide),jN (by decide),jN (by decide),jN (by decide),jN (by decide)];omega
 refine⟨?_,rfl,rfl,rfl⟩;unfold VB;dsimp only;rw[jN b,jP rfl];omega
theorem kT{s:Sh}{t:Rn}(hd:t.done=false)(f:t.next=4)(h2:t.pages<=s.p)(j:t.at'<s.p)(l:t.head<=t.i):VB s (t.gone s)<=50*(s.p-t.at'-1)+(t.i-t.head)+8/\(t.gone s).c=t.c/\(t.gone s).pages=t.pages/\(t.gone s).strip=t.strip:=by
 unfold Rn.gone;have b:¬ t.done=true:=by rw[hd];decide
 split
 ·refine⟨?_,rfl,rfl,rfl⟩;unfold VB;rw[jN b,jN (by omega),jN (by omega),jN (by omega),jN (by omega),jP f];omega
 refine⟨?_,rfl,rfl,rfl⟩;unfold VB;dsimp only;simp only[decide_eq_true_eq,if_true];split<;>omega
theorem qQ{s:Sh}{t:Rn}(hd:t.done=false)(h2:t.pages<=s.p)(h4:t.head<=t.at')(b:t.at'<s.p):VB s (t.miss s)<=50*(s.p-t.at'-1)+(t.at'-t.head)+8/\(t.miss s).c=t.c/\(t.miss s).pages=t.pages/\(t.miss s).strip=t.strip:=
 kT (t:= {t with next:=4,i:=t.at'}) hd rfl h2 b h4
theorem dY{s:Sh}{cl n:Int}{t:Rn}{m:Mem}(h:rnIs s cl n t)(hd:t.done=false)(E:Fits s m):Acts cl m (UB s t m).2/\rnIs s cl n (UB s t m).1/\VB s (UB s t m).1+1<=VB s t:=by
 obtain⟨c1,c2,c3,c4,c5,c6,c7,c8,c9,F⟩:=h.ok.cl hd;have l:¬ t.done=true:=by rw[hd];decide
 have b:=z0v m h.ok
 have O:VB s t=if t.next=0 then 50*(s.p-t.at')+(t.at'-t.head)+8
  else if t.next=1 then 50*(s.p-t.at'-1)+(t.at'-t.head)+10
  else if t.next=2 then 50*(s.p-t.at'-1)+(match t.strip with|some x=>AD x|none=>0)+(t.at'-t.head)+25
  else if t.next=3 then 50*(s.p-t.at'-1)+(16-t.i)+(t.at'-t.head)+9
  else if t.next=4 then 50*(s.p-t.at'-1)+(t.i-t.head)+8
  else t.head+t.pages-t.i:=by unfold VB;rw[jN l]
 have o:∀ u:Rn,rnOk s u->u.c=t.c->u.pages=t.pages->(u.strip=t.strip\/∃ x,u.strip=some x/\x.c=t.c)->rnIs s cl n u:=fun u b L M G=>⟨b,L.trans h.c,M.trans h.n,fun x B=>by
  rcases G with G|⟨y,G,N⟩
  ·exact h.st x (G ▸ B)
  ·rw[G]at B;injection B with B;subst B;exact N.trans h.c⟩
 rw[O];unfold UB at b ⊢;dsimp only at b ⊢;rw[jN l]at b ⊢;by_cases D:t.next=0
 ·have c6:=c6 (by omega);have q:=E.FD (x:=t.at') (by omega);have j:=qQ (s:=s) hd (by omega) c4.1 (by omega);rw[jP D]at b ⊢;rw[jP D];dsimp only at b ⊢;refine⟨(Acts.load q).of h.c,?_⟩;split at b<;>rename_i h1
  ·rw[jP h1];refine⟨o _ b rfl rfl (.inl rfl),?_⟩;unfold VB;dsimp only;rw[jN l,jN (by decide),jP rfl];omega
  rw[jN h1];split at b<;>rename_i h2
  ·rw[jP h2];refine⟨o _ b rfl rfl (.inr ⟨_,rfl,rfl⟩),?_⟩;have:=(UT s t.c t.at' (nA (m.get (pA s.p s.c s.m t.at')) 0)).1;unfold VB;dsimp only;rw[jN l,jN (by decide),jN (by decide),jP rfl];omega
  rw[jN h2];exact⟨o _ b j.2.1 j.2.2.1 (.inl j.2.2.2),by omega⟩
 rw[jN D]at b ⊢;rw[jN D];by_cases n1:t.next=1
 ·have c6:=c6 (by omega);have q:=E.FD (x:=t.at') (by omega);have j:=qQ (s:=s) hd (by omega) c4.1 (by omega);have f:=NT (s:=s) hd c2 ⟨c4.1,c6⟩ c3.2;rw[jP n1]at b ⊢;rw[jP n1];dsimp only at b ⊢;refine⟨(Acts.swap q (kL _)).of h.c,?_⟩;split at b<;>rename_i h1
  ·rw[jP h1];exact⟨o _ b f.2.1 f.2.2.1 (.inl f.2.2.2),by omega⟩
  rw[jN h1];exact⟨o _ b j.2.1 j.2.2.1 (.inl j.2.2.2),by omega⟩
 rw[jN n1]at b ⊢;rw[jN n1];by_cases n2:t.next=2
 ·have c6:=c6 (by omega);obtain⟨x,B,H,J⟩:=c7 n2;have r:=RS H J E;have z:=h.st x B;have R:=CP (EP m H);have C:=h.c;rw[jP n2,B]at b ⊢;rw[jP n2];dsimp only at b ⊢;refine⟨r.1.of z,?_⟩;split at b<;>rename_i h1
  ·rw[jP h1];refine⟨o _ b rfl rfl (.inr ⟨_,rfl,by rw[r.2.1,z,C]⟩),?_⟩;unfold VB;dsimp only;rw[jN l,jN (by decide),jN (by decide),jN (by decide),jP rfl];omega
  rw[jN h1];split at b<;>rename_i h2
  ·rw[jP h2];have j:=qQ (s:=s) (t:= {t with strip:=some (KC s x m).1}) hd (by dsimp only;omega) c4.1 (by dsimp only;omega);dsimp only at j;refine⟨o _ b j.2.1 j.2.2.1 (.inr ⟨_,j.2.2.2,by rw[r.2.1,z,C]⟩),?_⟩;omega
  rw[jN h2];refine⟨o _ b rfl rfl (.inr ⟨_,rfl,by rw[r.2.1,z,C]⟩),?_⟩;unfold VB;dsimp only;rw[jN l,jN D,jN n1,jP n2];omega
 rw[jN n2]at b ⊢;rw[jN n2];by_cases n3:t.next=3
 ·have c6:=c6 (by omega);have c8:=c8 n3;have q:=E.IE (x:=t.at') (i:=t.i) (by omega) (by omega);rw[jP n3]at b ⊢;rw[jP n3];dsimp only at b ⊢;refine⟨(Acts.store q XF).of h.c,?_⟩;split at b<;>rename_i h1
  ·rw[jP h1];have f:=NT (s:=s) (t:= {t with i:=t.i+1}) hd c2 ⟨c4.1,c6⟩ c3.2;dsimp only at f;exact⟨o _ b f.2.1 f.2.2.1 (.inl f.2.2.2),by omega⟩
  rw[jN h1];refine⟨o _ b rfl rfl (.inl rfl),?_⟩;unfold VB;dsimp only;rw[jN l,jN D,jN n1,jN n2,jP n3];omega
 rw[jN n3]at b ⊢;rw[jN n3];by_cases n4:t.next=4
 ·have c6:=c6 (by omega);have c9:=c9 n4;have q:=E.FD (x:=t.i-1) (by omega);rw[jP n4]at b ⊢;rw[jP n4];dsimp only at b ⊢;have I:=kT (s:=s) (t:= {t with i:=t.i-1}) hd n4 (by dsimp only;omega) (by dsimp only;omega) (by dsimp only;omega);dsimp only at I;exact⟨(Acts.store q (eF _ _ _)).of h.c,o _ b I.2.1 I.2.2.1 (.inl I.2.2.2),by omega⟩
 rw[jN n4]at b ⊢;rw[jN n4];have n5:t.next=5:=by omega
 have F:=F n5;have q:=E.FD (x:=t.i) (by omega);dsimp only at b ⊢;refine⟨(Acts.store q (eF _ _ _)).of h.c,?_⟩;unfold Rn.written at b ⊢;split at b<;>rename_i h1
 ·rw[jP h1];refine⟨o _ b rfl rfl (.inl rfl),?_⟩;unfold VB;dsimp only;rw[jP rfl];omega
 rw[jN h1];refine⟨o _ b rfl rfl (.inl rfl),?_⟩;unfold VB;dsimp only;rw[jN l,jN D,jN n1,jN n2,jN n3,jN n4];omega
theorem yfb{s:Sh}(c n:Int)(b:mayB s.p s.c s.m=true):rnIs s c n (UC s c n)/\VB s (UC s c n)<=50*s.p+8:=by
 have hb:=LA.1 b;refine⟨⟨qX _ _ _,rfl,rfl,fun x f=>(by cases f)⟩,?_⟩;unfold VB UC;dsimp only;split
 ·omega
 rw[jP rfl];omega
theorem z2y{s:Sh}{t:Rn}(h:rnOk s t):0<=VB s t:=by
 rcases jB t.done with hd|hd
 ·unfold VB;rw[jP hd];omega
 have:=yev h hd;omega
structure rsIs (s:Sh) (cl:Int) (t:Rs):Prop where
 sk:∀ x,t.seeker=some x->skIs s cl t.k x/\XH x
 rn:∀ x,t.runner=some x->rnIs s cl t.pages x
def oG (s:Sh) (t:Rs):Int:=match t.seeker,t.runner with
 | some x,_=> SB s x
 | none,some x=> VB s x
 | none,none=> 0
theorem kI{s:Sh}{cl:Int}{t:Rs}(h:rsIs s cl t):0<=oG s t:=by
 obtain⟨k,pg,sk,rn⟩:=t;rcases sk with _|x
 ·rcases rn with _|y
  ·exact Int.le_refl _
  exact z2y (h.rn y rfl).ok
 exact z2i (h.sk x rfl).1.ok
theorem rQ{s:Sh}{cl:Int}{t:Rs}{m:Mem}(h:rsIs s cl t)(hd:t.done=false)(f:Fits s m):Acts cl m (xB s t m).2/\rsIs s cl (xB s t m).1/\oG s (xB s t m).1+1<=oG s t:=by
 obtain⟨k,pg,sk,rn⟩:=t;rcases sk with _|x
 ·rcases rn with _|y
  ·cases hd
  have h1:=dY (h.rn y rfl) hd f;exact⟨h1.1,⟨fun z b=>(by cases b),fun z b=>(by injection b with b;subst b;exact h1.2.1)⟩,h1.2.2⟩
 have h1:=TY (h.sk x rfl).1 (h.sk x rfl).2 hd f;exact⟨h1.1,⟨fun z b=>(by injection b with b;subst b;exact⟨h1.2.1,h1.2.2.1⟩),h.rn⟩,h1.2.2.2⟩
theorem gO{s:Sh}(c n f:Int)(i:mayB s.p s.c s.m=true):rsIs s c (CB s c n f)/\oG s (CB s c n f)<=67*s.p+s.m+33:=by
 have hb:=LA.1 i;unfold CB;split
 ·have h1:=ZZ c (BB n) f i;exact⟨⟨fun x b=>(by injection b with b;subst b;exact⟨h1.1,h1.2.1⟩),fun x b=>(by cases b)⟩,h1.2.2⟩
 split
 ·have h1:=yfb c (runV n) i;refine⟨⟨fun x b=>(by cases b),fun x b=>(by injection b with b;subst b;exact h1.1)⟩,?_⟩;have:oG s ⟨0,runV n,none,some (UC s c (runV n))⟩=VB s (UC s c (runV n)):=rfl;omega
 exact⟨⟨fun x b=>(by cases b),fun x b=>(by cases b)⟩,by show (0:Int)<=_;omega⟩
theorem IG{s:Sh}{cl:Int}{t:Rs}{b:Blk}(h:rsIs s cl t)(j:mayB s.p s.c s.m=true)(hc:0<=cl/\cl<s.c)(f:t.got=some b):b.fits s cl=true/\t.done=true:=by
 obtain⟨k,pg,sk,rn⟩:=t;rcases sk with _|x
 ·rcases rn with _|y
  ·cases f
  have h1:=h.rn y rfl;unfold Rs.got at f;dsimp only at f;split at f
  ·rename_i i;injection f with f;subst f;have h2:=h1.ok.fd i;have h3:=h1.n;dsimp only at h3;refine⟨DE.2 ⟨j,hc,by dsimp only;omega,fun _=>by dsimp only;omega,fun e=>(by cases e)⟩,h2.1⟩
  cases f
 have h1:=(h.sk x rfl).1;unfold Rs.got at f;dsimp only at f;split at f
 ·rename_i i;injection f with f;subst f;have h2:=h1.ok.fd i;have h3:=h1.k;dsimp only at h3;refine⟨DE.2 ⟨j,hc,by dsimp only;omega,fun e=>(by cases e),fun _=>by dsimp only;rw[<-h3];omega⟩,h2.1⟩
 cases f
theorem mT{s:Sh}{t:Cm}{m:Mem}(h:t.b.fits s t.c=true)(hd:t.done=false)(f:Fits s m):Acts t.c m (zB s t m).2/\(zB s t m).1= {t with done:=true}:=by
 have h1:=DE.1 h;unfold zB;rw[jN (by rw[hd];decide)];refine⟨?_,rfl⟩;dsimp only;cases hl:t.b.large
 ·rw[jN (by decide)];have h2:=h1.2.2.2.2 hl;have h3:=JD (by omega:0<mA t.b.k);exact .store (f.IE h1.2.2.1 (by omega)) (zx7 _)
 rw[jP rfl];exact .store (f.FD h1.2.2.1) (eF _ _ _)
def zD (t:Un):Int:=if t.done=true then 0 else if t.b.large=true then t.b.pages - t.i else 1
theorem BT{s:Sh}{t:Un}(h:unOk s t)(hd:t.done=false):1<=zD t:=by
 have h1:=(h.cl hd).2;unfold zD;rw[jN (by rw[hd];decide)];split
 ·rename_i b;have:=h1 b;omega
 omega
theorem QY{s:Sh}{t:Un}{m:Mem}(h:unOk s t)(hd:t.done=false)(f:Fits s m):Acts t.c m (MB s t m).2/\(MB s t m).1.c=t.c/\(MB s t m).1.b=t.b/\zD (MB s t m).1+1<=zD t:=by
 obtain⟨j,hi⟩:=h.cl hd;have h1:=DE.1 j;have l:zD t=if t.b.large=true then t.b.pages-t.i else 1:=by unfold zD;rw[jN (by rw[hd];decide)]
 rw[l];unfold MB;rw[jN (by rw[hd];decide)];cases hl:t.b.large
 ·rw[jP rfl,jN (by decide)];have h2:=h1.2.2.2.2 hl;have h3:=JD (by omega:0<mA t.b.k);refine⟨.store (f.IE h1.2.2.1 (by omega)) (AL _),rfl,rfl,?_⟩;unfold zD;rw[jP rfl];omega
 rw[jN (by decide),jP rfl];have h2:=h1.2.2.2.1 hl;have hi:=hi hl;split
 ·refine⟨.store (f.FD h1.2.2.1) XF,rfl,rfl,?_⟩;unfold zD;rw[jP rfl];omega
 refine⟨.store (f.FD (by omega)) XF,rfl,rfl,?_⟩;unfold zD;dsimp only;rw[jN (by rw[hd];decide),jP hl];omega
theorem BZ{s:Sh}(c:Int)(b:Blk)(h:b.fits s c=true):zD (MC s c b)<=8/\(MC s c b).done=false:=by
 have h1:=DE.1 h;have hd:(MC s c b).done=false:=by simp[MC,h]
 refine⟨?_,hd⟩;unfold zD;rw[jN (by rw[hd];decide)];split
 ·rename_i f;have h2:=h1.2.2.2.1 f;simp only[MC];omega
 omega
structure feIs (s:Sh) (cl:Int) (t:Fe):Prop where
 ok:feOk s t
 c:t.c=cl
 put:∀ x,t.put=some x->x.c=cl
 gv:t.next<=1->t.gave=false
 gv2:2<=t.next->t.done=false->t.gave=true
def dC (s:Sh) (t:Fe):Int:=if t.done=true then 0 else if t.next=0 then s.m + 12 else if t.next=1 then s.m + 11
 else if t.next=2 then (match t.put with | some x=> SF s x | none=> 0) + 1 else if t.next=3 then 1 else t.pa - t.i
theorem QT{s:Sh}{t:Fe}(h:feOk s t)(l:0<=s.m)(hd:t.done=false):1<=dC s t:=by
 obtain⟨c1,c2,c3,c4,c5,c6,c7,c8,c9,b⟩:=h.cl hd;unfold dC;rw[jN (by rw[hd];decide)];split
 ·omega
 split
 ·omega
 split
 ·rename_i n2;obtain⟨_,x,i,f,j⟩:=c8 n2;have:=xW f;rw[i];dsimp only;omega
 split
 ·omega
 have:=b (by omega);omega
theorem fW{s:Sh}{t:Fe}(h:feOk s t)(b:0<=s.m):0<=dC s t:=by
 rcases jB t.done with hd|hd
 ·unfold dC;rw[jP hd];omega
 have:=QT h b hd;omega
theorem PT{s:Sh}(c a:Int)(b:mayB s.p s.c s.m=true):feIs s c (nB s c a)/\dC s (nB s c a)<=s.m+12:=by
 have hb:=LA.1 b;refine⟨⟨YW _ _ _,rfl,fun x f=>(by cases f),fun _=>rfl,fun e=>(by simp[nB]at e)⟩,?_⟩;unfold dC;split
 ·omega
 rw[jP (show (nB s c a).next=0 from rfl)];omega
theorem OS{s:Sh}{cl:Int}{t:Fe}{m:Mem}(h:feIs s cl t)(hd:t.done=false)(B:Fits s m)(E:m.fit):Acts cl m (KB s t m).2/\feIs s cl (KB s t m).1/\dC s (KB s t m).1+1<=dC s t/\(t.gave=true->(KB s t m).1.gave=true):=by
 obtain⟨c1,c2,c3,c4,c5,c6,c7,c8,c9,D⟩:=h.ok.cl hd;have hb:=B.bd;have l:¬ t.done=true:=by rw[hd];decide
 have b:=z1a m E h.ok
 have R:dC s t=if t.next=0 then s.m+12 else if t.next=1 then s.m+11
  else if t.next=2 then(match t.put with|some x=>SF s x|none=>0)+1 else if t.next=3 then 1 else t.pa-t.i:=by unfold dC;rw[jN l]
 have q:∀ u:Fe,u.done=true->dC s u=0:=fun u e=>by unfold dC;rw[jP e]
 have r:=B.FD c2;rw[R];unfold KB at b ⊢;rw[jN l]at b ⊢;by_cases C:t.next=0
 ·have j:=h.gv (by omega);rw[jP C]at b ⊢;rw[jP C];unfold Fe.look at b ⊢;dsimp only at b ⊢;refine⟨(Acts.load r).of h.c,?_⟩;split at b<;>rename_i h1
  ·rw[jP h1];refine⟨⟨b,h.c,h.put,fun _=>j,fun e=>(by dsimp only at e;omega)⟩,?_,fun e=>(by rw[j]at e;cases e)⟩;unfold dC;dsimp only;rw[jN l,jN (by decide),jP rfl];omega
  rw[jN h1];split at b<;>rename_i h2
  ·rw[jP h2];refine⟨⟨b,h.c,h.put,fun _=>j,fun e=>(by dsimp only at e;omega)⟩,?_,fun e=>(by rw[j]at e;cases e)⟩;unfold dC;dsimp only;rw[jN l,jN (by decide),jP rfl];omega
  rw[jN h2];refine⟨⟨b,h.c,h.put,fun _=>j,fun e=>(by dsimp only at e;omega)⟩,?_,fun e=>(by rw[j]at e;cases e)⟩;rw[q _ rfl];omega
 rw[jN C]at b ⊢;rw[jN C];by_cases n1:t.next=1
 ·have j:=h.gv (by omega);have c5:=c5 (by omega);have c6:=c6 (by omega);rw[jP n1]at b ⊢;rw[jP n1];unfold Fe.claim at b ⊢;dsimp only at b ⊢;by_cases L:t.pk=3
  ·have c6:1<=t.pa/\t.pa<=8/\t.pa<=s.p-t.page:=by rcases c6 with h|h<;>omega
   rw[jP L]at b ⊢;dsimp only at b ⊢;refine⟨(Acts.swap r (kL _)).of h.c,⟨b,h.c,h.put,fun e=>(by dsimp only at e;omega),fun _ e=>(by dsimp only at e ⊢;simpa using e)⟩,?_,fun e=>(by rw[j]at e;cases e)⟩;unfold dC;dsimp only;split
   ·omega
   rw[jN (by decide),jN (by decide),jN (by decide),jN (by decide)];omega
  have c6:t.pk=2/\0<mA t.pa/\(0<=t.slot/\t.slot<mA t.pa):=by rcases c6 with h|h;exact absurd h.1 L;exact h
  have M:=JD c6.2.1;have z:=B.IE (x:=t.page) (i:=t.slot) c2 (by omega);rw[jN L]at b ⊢;dsimp only at b ⊢;refine⟨(Acts.swap z (aM _)).of h.c,?_⟩;generalize T:decide (m.get (XA s.p s.c s.m t.page t.slot)=rE t.pa)=g at b ⊢;by_cases F:t.pb=t.c
  ·rw[jP F]at b ⊢;have G:=yfa s t.c t.page t.slot t.pa (by omega);rcases UG ({t with gave:=g,next:=2,put:=some (eD s t.c t.page t.slot t.pa)}:Fe) _ rfl with⟨h1,_⟩|⟨h1,h2,h3⟩|⟨h1,h2,h3⟩
   ·simp[eD]at h1
   ·rw[h3]at b ⊢;dsimp only at b ⊢;refine⟨⟨b,h.c,fun x n=>?_,fun e=>(by dsimp only at e;omega),fun _ e=>(by dsimp only at e ⊢;simpa using e)⟩,?_,fun e=>(by rw[j]at e;cases e)⟩
    ·have n:some (eD s t.c t.page t.slot t.pa)=some x:=n;injection n with n;subst n;exact G.2.trans h.c
    unfold dC;dsimp only;split
    ·omega
    rw[jN (by decide),jN (by decide),jN (by decide),jP rfl];omega
   rw[h3]at b ⊢;dsimp only at b ⊢;refine⟨⟨b,h.c,fun x n=>?_,fun e=>(by dsimp only at e;omega),fun _ e=>(by dsimp only at e ⊢;simpa using e)⟩,?_,fun e=>(by rw[j]at e;cases e)⟩
   ·have n:some (eD s t.c t.page t.slot t.pa)=some x:=n;injection n with n;subst n;exact G.2.trans h.c
   unfold dC;dsimp only;split
   ·omega
   rw[jN (by decide),jN (by decide),jP rfl];omega
  rw[jN F]at b ⊢;dsimp only at b ⊢;refine⟨⟨b,h.c,h.put,fun e=>(by dsimp only at e;omega),fun _ e=>(by dsimp only at e ⊢;simpa using e)⟩,?_,fun e=>(by rw[j]at e;cases e)⟩;unfold dC;dsimp only;split
  ·omega
  rw[jN (by decide),jN (by decide),jN (by decide),jP rfl];omega
 rw[jN n1]at b ⊢;rw[jN n1];have f:=h.gv2 (by omega) hd;have c6:=c6 (by omega);by_cases n2:t.next=2
 ·obtain⟨L,x,n,J,N⟩:=c8 n2;have H:=PY J N B;have I:=h.put x n;have S:=xW (BV m J);rw[jP n2,n]at b ⊢;rw[jP n2];dsimp only at b ⊢;refine⟨H.1.of I,?_⟩;have o:∀ y,some (SC s x m).1=some y->y.c=cl:=fun y O=>by injection O with O;subst O;exact H.2.1.trans I
  rcases UG ({t with put:=some (SC s x m).1}:Fe) _ rfl with⟨h1,h3⟩|⟨h1,h2,h3⟩|⟨h1,h2,h3⟩
  ·rw[h3]at b ⊢;exact⟨⟨b,h.c,o,fun e=>(by dsimp only at e;omega),fun _ _=>f⟩,by rw[q _ rfl];omega,fun _=>f⟩
  ·rw[h3]at b ⊢;refine⟨⟨b,h.c,o,fun e=>(by dsimp only at e;omega),fun _ _=>f⟩,?_,fun _=>f⟩;unfold dC;dsimp only;rw[jN l,jN (by decide),jN (by decide),jN (by decide),jP rfl];omega
  rw[h3]at b ⊢;refine⟨⟨b,h.c,o,fun e=>(by dsimp only at e;omega),fun _ _=>f⟩,?_,fun _=>f⟩;unfold dC;dsimp only;rw[jN l,jN C,jN n1,jP n2];omega
 rw[jN n2]at b ⊢;rw[jN n2];by_cases n3:t.next=3
 ·have c6:t.pk=2/\0<mA t.pa/\(0<=t.slot/\t.slot<mA t.pa):=by
   have:=c9 n3;rcases c6 with h|h
   ·omega
   exact h
  have M:=JD c6.2.1;have z:=B.IE (x:=t.page) (i:=t.slot) c2 (by omega);rw[jP n3]at b ⊢;rw[jP n3];exact⟨(Acts.store z (AL _)).of h.c,⟨b,h.c,h.put,fun e=>(by dsimp only at e;omega),fun _ _=>f⟩,by rw[q _ rfl];omega,fun _=>f⟩
 rw[jN n3]at b ⊢;rw[jN n3];have n4:t.next=4:=by omega
 have D:=D n4;have c6:1<=t.pa/\t.pa<=8/\t.pa<=s.p-t.page:=by rcases c6 with h|h<;>omega
 split at b<;>rename_i h1
 ·rw[jP h1];exact⟨(Acts.store r XF).of h.c,⟨b,h.c,h.put,fun e=>(by dsimp only at e;omega),fun _ _=>f⟩,by rw[q _ rfl];omega,fun _=>f⟩
 rw[jN h1];refine⟨(Acts.store (B.FD (by omega)) XF).of h.c,⟨b,h.c,h.put,fun e=>(by dsimp only at e;omega),fun _ _=>f⟩,?_,fun _=>f⟩;unfold dC;dsimp only;rw[jN l,jN C,jN n1,jN n2,jN n3];omega
end Go.Proofs.YtmmbicppdjgbmaaGreat

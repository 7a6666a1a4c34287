
import Derived.Test.YtkilokkopbajkaaGreatBw10

import Derived.Test.YtkilokkopbajkaaGreatBw21

import Derived.Test.YtkilokkopbajkaaGreatBw25

set_option linter.all false
namespace Go.Proofs.YtkilokkopbajkaaGreat

structure rrIs (s:Sh) (cl:Int) (t:Rr):Prop where
 ok:rrOk s t
 c:t.c=cl
 res:∀r,t.res=some r->rsIs s cl r
 fre:∀f,t.free=some f->feIs s cl f
 un:∀u,t.undo=some u->u.c=cl/\(t.done=false->u.done=false)
 cm:∀u,t.com=some u->u.c=cl/\(t.done=false->u.done=false/\u.b.fits s cl=true)
 mid:t.done=false->(t.undo≠none\/t.com≠none)->∃r f,t.res=some r/\r.done=true/\t.free=some f/\f.done=true
 fin:t.done=true->t.err=0->∃r b f,t.res=some r/\r.got=some b/\t.free=some f/\f.gave=true
 gv:∀u,t.com=some u->∃r f,t.res=some r/\r.got=some u.b/\t.free=some f/\f.gave=true
 ng:∀u,t.undo=some u->∃f,t.free=some f/\f.gave=false
theorem KL{s:Sh}(t:Rr)(r:Rs)(f:Fe)(h1:t.res=some r)(h2:t.free=some f):(t.settle s).free=t.free:=by
 rcases XF s t r f h1 h2 with⟨_,e⟩|⟨_,_,e⟩|⟨_,_,_,e⟩|⟨_,_,_,_,e⟩|⟨b,_,_,_,_,_,e⟩|⟨b,_,_,_,_,_,_,_,_,e⟩|⟨b,_,_,_,_,_,_,_,_,e⟩<;>rw[e]
def cG (t:Rr):Int:=match t.undo,t.com with
 |some u,_=>HD u
 |none,some _=>1
 |none,none=>8
def KD (s:Sh) (t:Rr):Int:=if t.done=true then 0 else match t.res,t.free with
 |some r,some f=>BG s r+iC s f+cG t
 |_,_=>0
theorem iK{s:Sh}{cl:Int}{t:Rr}{r:Rs}{f:Fe}(O:mayB s.p s.c s.m=true)(C:0<=cl/\cl<s.c)(z:t.done=false)(j:t.res=some r)(i:t.free=some f)(hc:t.c=cl)(G:rsIs s cl r)(S:feIs s cl f)(hu:∀u,t.undo=some u->u.c=cl/\unOk s u/\r.done=true/\f.done=true/\f.gave=false) (o:∀u,t.com=some u->u.c=cl/\cmOk s u/\u.b.fits s cl=true/\r.got=some u.b/\f.done=true/\f.gave=true) (T:t.undo=none\/t.com=none)(U:∀u,t.undo=some u->0<=HD u):
  rrIs s cl (t.settle s)/\KD s (t.settle s)<=BG s r+iC s f+(match t.undo,t.com with|some u,_=>HD u|none,some v=>(if v.done=true then 0 else 1)|none,none=>8)/\(t.settle s).free=some f/\(t.settle s).res=some r:=by
 have hb:=JA.1 O;have B:=ZU (t:=t) j i ⟨λx X=>(G.sk x X).1.ok,λx X=>(G.rn x X).ok⟩ S.ok (λu H=>(hu u H).2.1) (λu H=>(o u H).2.1) T;have n1:=MI G;have n2:=IW S.ok (by omega:0<=s.m);have D:∀u:Rr,u.done=true->KD s u=0:=λu e=>by unfold KD;rw[jP e]
 have Z:0<=(match t.undo,t.com with|some u,_=>HD u|none,some v=>(if v.done=true then 0 else 1)|none,none=>8:Int):=by
  rcases h1:t.undo with _|u
  .rcases h2:t.com with _|v
   .dsimp only;omega
   dsimp only;split<;>omega
  exact U u h1
 have n:∀(u:Rr),u.res=t.res->∀I,u.res=some I->rsIs s cl I:=λu e I h=>by rw[e,j]at h;injection h with h;subst h;exact G
 have l:∀(u:Rr),u.free=t.free->∀I,u.free=some I->feIs s cl I:=λu e I h=>by rw[e,i]at h;injection h with h;subst h;exact S
 have q:∀u,t.com=some u->∃r f,t.res=some r/\r.got=some u.b/\t.free=some f/\f.gave=true:=λu h=>⟨r,f,j,(o u h).2.2.2.1,i,(o u h).2.2.2.2.2⟩;have y:∀u,t.undo=some u->∃f,t.free=some f/\f.gave=false:=λu h=>⟨f,i,(hu u h).2.2.2.2⟩;rcases XF s t r f j i with⟨h1,e⟩|⟨h1,h2,e⟩|⟨h1,h2,h3,e⟩|⟨h1,h2,h3,h4,e⟩|⟨b,h1,h2,h3,h4,Y,e⟩|⟨b,h1,h2,h3,h4,L,M,J,R,e⟩|⟨b,h1,h2,h3,h4,L,M,J,R,e⟩;all_goals rw[e]at B|-
 .refine⟨⟨B,hc,n _ rfl,l _ rfl,λu h=>⟨(hu u h).1,λh=>(by cases h)⟩,λu h=>⟨(o u h).1,λh=>(by cases h)⟩,λh=>(by cases h),λ_ h=>(by cases h),q,y⟩,?_,i,j⟩;rw[D _ rfl];omega
 .refine⟨⟨B,hc,n _ rfl,l _ rfl,λu h=>⟨(hu u h).1,λh=>(by cases h)⟩,λu h=>⟨(o u h).1,λh=>(by cases h)⟩,λh=>(by cases h),λ_ _=>?_,q,y⟩,?_,i,j⟩
  .rcases h3:t.com with _|u
   .rw[h3]at h2;cases h2
   have:=o u h3;exact⟨r,u.b,f,j,this.2.2.2.1,i,this.2.2.2.2.2⟩
  rw[D _ rfl];omega
 .have E:t.undo=none:=by
   rcases h:t.undo with _|u
   .rfl
   have:=(hu u h).2.2.1;rw[h3]at this;cases this
  have F:t.com=none:=by
   rcases h:t.com with _|u
   .rfl
   have J:=(TG G O C (o u h).2.2.2.1).2;rw[h3]at J;cases J
  refine⟨⟨B,hc,n _ rfl,l _ rfl,λu h=>(by rw[E]at h;cases h),λu h=>(by rw[F]at h;cases h),λ_ h=>(by rcases h with h|h;exact absurd E h;exact absurd F h),λh=>(by rw[z]at h;cases h),q,y⟩,?_,i,j⟩;unfold KD cG;rw[jN (by rw[z];decide),j,i,E,F];dsimp only;omega
 .refine⟨⟨B,hc,n _ rfl,l _ rfl,λu h=>⟨(hu u h).1,λh=>(by cases h)⟩,λu h=>⟨(o u h).1,λh=>(by cases h)⟩,λh=>(by cases h),λ_ h=>(by cases h),q,y⟩,?_,i,j⟩;rw[D _ rfl];omega
 .refine⟨⟨B,hc,n _ rfl,l _ rfl,λu h=>⟨(hu u h).1,λ_=>(by rw[h]at h1;exact h1)⟩,λu h=>⟨(o u h).1,λ_=>⟨(by rw[h]at h2;exact h2),(o u h).2.2.1⟩⟩,λ_ h=>?_,λh=>(by rw[z]at h;cases h),q,y⟩,?_,i,j⟩
  .rcases h with h|h
   .rcases h':t.undo with _|u
    .exact absurd h' h
    exact⟨r,f,j,h3,i,(hu u h').2.2.2.1⟩
   rcases h':t.com with _|u
   .exact absurd h' h
   exact⟨r,f,j,h3,i,(o u h').2.2.2.2.1⟩
  unfold KD cG;rw[jN (by rw[z];decide),j,i];dsimp only;rcases h':t.undo with _|u
  .rcases h'':t.com with _|v
   .dsimp only;omega
   have:v.done=false:=by rw[h'']at h2;exact h2
   dsimp only;rw[jN (by rw[this];decide)];omega
  dsimp only;omega
 .have N:=TG G O C h4;refine⟨⟨B,hc,n _ rfl,l _ rfl,λu h=>⟨(hu u h).1,λ_=>(by have h:t.undo=some u:=h;rw[L]at h;cases h)⟩,λu h=>?_,λ_ _=>⟨r,f,j,h3,i,J⟩,λh=>(by have h:t.done=true:=h;rw[z]at h;cases h),λu h=>?_,y⟩,?_,i,j⟩
  .have h:some (zB s t.c b)=some u:=h;injection h with h;subst h;exact⟨hc,λ_=>⟨by simp[zB,hc,N.1],N.1⟩⟩
  .have h:some (zB s t.c b)=some u:=h;injection h with h;subst h;exact⟨r,f,j,h4,i,R⟩
  unfold KD cG;dsimp only;rw[jN (by rw[z];decide),j,i,L,M];dsimp only;omega
 have N:=TG G O C h4;have V:=RZ t.c b (by rw[hc];exact N.1);refine⟨⟨B,hc,n _ rfl,l _ rfl,λu h=>?_,λu h=>⟨(o u h).1,λ_=>(by have h:t.com=some u:=h;rw[M]at h;cases h)⟩,λ_ _=>⟨r,f,j,h3,i,J⟩,λh=>(by have h:t.done=true:=h;rw[z]at h;cases h),q,λu h=>⟨f,i,R⟩⟩,?_,i,j⟩
 .have h:some (UC s t.c b)=some u:=h;injection h with h;subst h;exact⟨hc,λ_=>V.2⟩
 unfold KD cG;dsimp only;rw[jN (by rw[z];decide),j,i,L,M];dsimp only;omega
theorem ZZ{s:Sh}(c a n first:Int)(b:mayB s.p s.c s.m=true)(f:0<=c/\c<s.c):rrIs s c (pD s c a n first)/\KD s (pD s c a n first)<=67*s.p+2*s.m+53:=by
 have hb:=JA.1 b;have i:=z4q s c a n first
 unfold pD at i|-;split at i<;>rename_i h
 .rw[jP h];have h1:=FO c n first b
  have h2:=kU c a b;have h3:=iK (t:=⟨c,some (mB s c n first),some (uB s c a),none,none,0,false⟩) b f rfl rfl rfl rfl h1.1 h2.1 (λu h=>(by cases h)) (λu h=>(by cases h)) (.inl rfl) (λu h=>(by cases h));refine⟨h3.1,Int.le_trans h3.2.1 ?_⟩;dsimp only;omega
 rw[jN h];refine⟨⟨i,rfl,λr h=>(by cases h),λr h=>(by cases h),λr h=>(by cases h),λr h=>(by cases h),λh=>(by cases h),λ_ h=>(by cases h),λu h=>(by cases h),λu h=>(by cases h)⟩,?_⟩;unfold KD;rw[jP rfl];omega
theorem aZ{s:Sh}{cl:Int}{t:Rr}{m:Mem}(h:rrIs s cl t)(C:0<=cl/\cl<s.c)(hd:t.done=false)(D:Fits s m)(L:m.fit):
  Acts cl m (LB s t m).2/\rrIs s cl (LB s t m).1/\KD s (LB s t m).1+1<=KD s t/\(∀f F,t.free=some f->(LB s t m).1.free=some F->f.gave=true->F.gave=true):=by
 have hb:=D.bd;obtain⟨r,f,j,b,Z,Y,M,X,I,J⟩:=h.ok.cl hd;have V:KD s t=BG s r+iC s f+cG t:=by unfold KD;rw[jN (by rw[hd];decide),j,b]
 have R:=h.res r j;have E:=h.fre f b;rw[V];rcases jB r.done with o|o;case inr=>
  have hs:LB s t m=(Rr.settle s {t with res:=some (CB s r m).1},(CB s r m).2):=by unfold LB;simp[hd,j,b,o]
  have q:t.undo=none/\t.com=none:=by
   refine⟨?_,?_⟩
   .rcases h1:t.undo with _|u
    .rfl
    obtain⟨S,F,i,l,_⟩:=h.mid hd (.inl (by rw[h1];exact λe=>by cases e));rw[j]at i;injection i with i;subst i;rw[o]at l;cases l
   rcases h1:t.com with _|u
   .rfl
   obtain⟨S,F,i,l,_⟩:=h.mid hd (.inr (by rw[h1];exact λe=>by cases e));rw[j]at i;injection i with i;subst i;rw[o]at l;cases l
  have h1:=HQ R o D;have h2:=iK (t:={t with res:=some (CB s r m).1}) D.may C hd rfl b h.c h1.2.1 E (λu e=>(by have e:t.undo=some u:=e;rw[q.1]at e;cases e)) (λu e=>(by have e:t.com=some u:=e;rw[q.2]at e;cases e)) I (λu e=>(by have e:t.undo=some u:=e;rw[q.1]at e;cases e));rw[hs];refine⟨h1.1,h2.1,?_,λf1 f2 i l H=>?_⟩
  .have h3:=h2.2.1;dsimp only at h3|-;rw[q.1,q.2]at h3;unfold cG;rw[q.1,q.2];dsimp only at h3|-;omega
  dsimp only at l;rw[h2.2.2.1]at l;rw[b]at i;injection i with i;injection l with l;rw[<-l,i];exact H
 rcases jB f.done with n|n;case inr=>
  have hs:LB s t m=(Rr.settle s {t with free:=some (NB s f m).1},(NB s f m).2):=by unfold LB;simp[hd,j,b,o,n]
  have q:t.undo=none/\t.com=none:=by
   refine⟨?_,?_⟩
   .rcases h1:t.undo with _|u
    .rfl
    obtain⟨S,F,_,_,i,l⟩:=h.mid hd (.inl (by rw[h1];exact λe=>by cases e));rw[b]at i;injection i with i;subst i;rw[n]at l;cases l
   rcases h1:t.com with _|u
   .rfl
   obtain⟨S,F,_,_,i,l⟩:=h.mid hd (.inr (by rw[h1];exact λe=>by cases e));rw[b]at i;injection i with i;subst i;rw[n]at l;cases l
  have h1:=yT E n D L;have h2:=iK (t:={t with free:=some (NB s f m).1}) D.may C hd j rfl h.c R h1.2.1 (λu e=>(by have e:t.undo=some u:=e;rw[q.1]at e;cases e)) (λu e=>(by have e:t.com=some u:=e;rw[q.2]at e;cases e)) I (λu e=>(by have e:t.undo=some u:=e;rw[q.1]at e;cases e));rw[hs];refine⟨h1.1,h2.1,?_,λf1 f2 i l H=>?_⟩
  .have h3:=h2.2.1;dsimp only at h3|-;rw[q.1,q.2]at h3;unfold cG;rw[q.1,q.2];dsimp only at h3|-;omega
  dsimp only at l;rw[h2.2.2.1]at l;rw[b]at i;injection i with i;injection l with l;subst i;rw[<-l];exact h1.2.2.2 H
 rcases hun:t.undo with _|u
 .rcases p:t.com with _|v
  .rcases J o n with e|e
   .exact absurd hun e
   exact absurd p e
  have hs:LB s t m=(Rr.settle s {t with com:=some (GB s v m).1},(GB s v m).2):=by unfold LB;simp[hd,j,b,o,n,hun,p]
  have hv:=h.cm v p;obtain⟨z,y⟩:=hv;obtain⟨y,N⟩:=y hd;obtain⟨S,F,O,U,B,T⟩:=h.gv v p;rw[j]at O;injection O with O;subst O;rw[b]at B;injection B with B;subst B;have h1:=OT (m:=m) (by rw[z];exact N) y D
  have h2:=iK (t:={t with com:=some (GB s v m).1}) D.may C hd j b h.c R E (λu e=>(by have e:t.undo=some u:=e;rw[hun]at e;cases e)) (λu e=>(by
   have e:some (GB s v m).1=some u:=e
   injection e with e;subst e
   rw[h1.2]
   exact⟨z,λe=>(by cases e),N,U,n,T⟩)) (.inl hun) (λu e=>(by have e:t.undo=some u:=e;rw[hun]at e;cases e))
  rw[hs];refine⟨h1.1.of z,h2.1,?_,λf1 f2 i l H=>?_⟩
  .have h3:=h2.2.1;dsimp only at h3|-;rw[hun,h1.2]at h3;unfold cG;rw[hun,p];dsimp only at h3|-;rw[jP rfl]at h3;rw[h1.2];omega
  dsimp only at l;rw[h2.2.2.1]at l;rw[b]at i;injection i with i;injection l with l;rw[<-l,i];exact H
 have p:t.com=none:=by
  rcases I with e|e
  .rw[hun]at e;cases e
  exact e
 have hs:LB s t m=(Rr.settle s {t with undo:=some (QB s u m).1},(QB s u m).2):=by unfold LB;simp[hd,j,b,o,n,hun,p]
 obtain⟨z,y⟩:=h.un u hun;have y:=y hd;obtain⟨F,B,T⟩:=h.ng u hun;rw[b]at B;injection B with B;subst B;have h1:=mZ (M u hun) y D;have G:=z0o m (M u hun);have nn:0<=HD (QB s u m).1:=by
  rcases jB (QB s u m).1.done with e|e
  .unfold HD;rw[jP e];omega
  have:=WT G e;omega
 have h2:=iK (t:={t with undo:=some (QB s u m).1}) D.may C hd j b h.c R E (λv e=>(by
   have e:some (QB s u m).1=some v:=e
   injection e with e;subst e
   exact⟨h1.2.1.trans z,G,o,n,T⟩)) (λu e=>(by have e:t.com=some u:=e;rw[p]at e;cases e)) (.inr p) (λv e=>(by
   have e:some (QB s u m).1=some v:=e
   injection e with e;subst e;exact nn))
 rw[hs];refine⟨h1.1.of z,h2.1,?_,λf1 f2 i l H=>?_⟩
 .have h3:=h2.2.1;dsimp only at h3|-;unfold cG;rw[hun];dsimp only;omega
 dsimp only at l;rw[h2.2.2.1]at l;rw[b]at i;injection i with i;injection l with l;rw[<-l,i];exact H
theorem HZ{s:Sh}{cl:Int}{t:Rr}(h:rrIs s cl t)(p:0<=s.m)(hd:t.done=false):1<=KD s t:=by
 obtain⟨r,f,i,b,y,o,l,n,q,j⟩:=h.ok.cl hd;have n1:=MI (h.res r i);have n2:=IW (h.fre f b).ok p;unfold KD cG;rw[jN (by rw[hd];decide),i,b];dsimp only;rcases hun:t.undo with _|u
 .rcases hcm:t.com with _|v<;>dsimp only<;>omega
 have:=WT (l u hun) ((h.un u hun).2 hd);dsimp only;omega
def adL (s:Sh) (n a i k:Int):Int:=
 if n=0 then 3+55*s.p+s.m+1
 else if n=1 then 2+55*s.p+s.m+1
 else if n=2 then 1+55*s.p+s.m+1
 else if n=3 then 3*(s.p-a)+52*s.p+s.m+1
 else if n=4 then 3*(s.p-a)-1+52*s.p+s.m+1
 else if n=5 then 3*(s.p-a)-2+52*s.p+s.m+1
 else if n=6 then 18*(s.p-a)+34*s.p+s.m+1
 else if n=7 then 18*(s.p-a-1)+(16-i)+1+34*s.p+s.m+1
 else if n=8 then 18*(s.p-a-1)+1+34*s.p+s.m+1
 else if n=9 then s.m-i+34*s.p+1
 else if n=10 then 34*(s.p-a)+1
 else if n=11 then 34*(s.p-a-1)+2*(k-i)+1
 else if n=12 then 34*(s.p-a-1)+2*(k-i)
 else 1
theorem GN(s:Sh)(a i k:Int):adL s 0 a i k=3+55*s.p+s.m+1:=by simp[adL]
theorem HN(s:Sh)(a i k:Int):adL s 1 a i k=2+55*s.p+s.m+1:=by simp[adL]
theorem CL(s:Sh)(a i k:Int):adL s 2 a i k=1+55*s.p+s.m+1:=by simp[adL]
theorem gL(s:Sh)(a i k:Int):adL s 3 a i k=3*(s.p-a)+52*s.p+s.m+1:=by simp[adL]
theorem EN(s:Sh)(a i k:Int):adL s 4 a i k=3*(s.p-a)-1+52*s.p+s.m+1:=by simp[adL]
theorem XO(s:Sh)(a i k:Int):adL s 5 a i k=3*(s.p-a)-2+52*s.p+s.m+1:=by simp[adL]
theorem rL(s:Sh)(a i k:Int):adL s 6 a i k=18*(s.p-a)+34*s.p+s.m+1:=by simp[adL]
theorem xL(s:Sh)(a i k:Int):adL s 7 a i k=18*(s.p-a-1)+(16-i)+1+34*s.p+s.m+1:=by simp[adL]
theorem WO(s:Sh)(a i k:Int):adL s 8 a i k=18*(s.p-a-1)+1+34*s.p+s.m+1:=by simp[adL]
theorem kL(s:Sh)(a i k:Int):adL s 9 a i k=s.m-i+34*s.p+1:=by simp[adL]
theorem yK(s:Sh)(a i k:Int):adL s 10 a i k=34*(s.p-a)+1:=by simp[adL]
theorem uN(s:Sh)(a i k:Int):adL s 11 a i k=34*(s.p-a-1)+2*(k-i)+1:=by simp[adL]
theorem EO(s:Sh)(a i k:Int):adL s 12 a i k=34*(s.p-a-1)+2*(k-i):=by simp[adL]
theorem GO(s:Sh)(a i k:Int):adL s 13 a i k=1:=by simp[adL]
def gC (s:Sh) (t:Ad):Int:=if t.done=true then 0 else adL s t.next t.at' t.i (mA t.pa)
theorem YZ{s:Sh}{t:Ad}(h:adOk s t)(hd:t.done=false):1<=gC s t:=by
 obtain⟨b,c1,c2,c3,c4,c5,c6,c7,c8,c9⟩:=h.cl hd;have hb:=JA.1 b;unfold gC;rw[jN (by rw[hd];decide)];have:t.next=0\/t.next=1\/t.next=2\/t.next=3\/t.next=4\/t.next=5\/t.next=6\/t.next=7\/t.next=8\/t.next=9\/t.next=10\/t.next=11\/t.next=12\/t.next=13:=by omega
 rcases this with e|e|e|e|e|e|e|e|e|e|e|e|e|e
 .rw[e,GN];omega
 .rw[e,HN];omega
 .rw[e,CL];omega
 .rw[e,gL];omega
 .rw[e,EN];omega
 .rw[e,XO];omega
 .rw[e,rL];omega
 .rw[e,xL];omega
 .rw[e,WO];omega
 .rw[e,kL];omega
 .rw[e,yK];omega
 .rw[e,uN];omega
 .rw[e,EO];omega
 rw[e,GO];omega
theorem QU{s:Sh}(t:Ad)(hd:t.done=false)(again next:Int)(o:1<=s.p)(n:0<=s.m)(h4:0<=t.at'/\t.at'<s.p)(l:(again=3/\next=6)\/(again=6/\next=9)\/(again=10/\next=13)):
  gC s (t.turn s again next)<=(if again=3 then 3*(s.p-t.at'-1)+52*s.p+s.m+1 else if again=6 then 18*(s.p-t.at'-1)+34*s.p+s.m+1 else 34*(s.p-t.at'-1)+1)/\(t.turn s again next).c=t.c/\(t.turn s again next).d=t.d:=by
 have j:=bQ s t again next
 simp only[beq_eq_false_iff_ne,ne_eq]at j;have f:¬t.done=true:=by rw[hd];decide
 rcases l with⟨rfl,rfl⟩|⟨rfl,rfl⟩|⟨rfl,rfl⟩
 .rw[jP rfl];rcases j with⟨k1,b,i,e⟩|⟨k1,b,i,e⟩|⟨k1,b,e⟩|⟨k1,b,i,e⟩|⟨k1,b,i,e⟩|⟨k1,b,e⟩
  .omega
  .omega
  .rw[e];refine⟨?_,rfl,rfl⟩;unfold gC;dsimp only;rw[jN f,rL];omega
  .omega
  .omega
  rw[e];refine⟨?_,rfl,rfl⟩;unfold gC;dsimp only;rw[jN f,gL];omega
 .rw[jN (by decide),jP rfl];rcases j with⟨k1,b,i,e⟩|⟨k1,b,i,e⟩|⟨k1,b,e⟩|⟨k1,b,i,e⟩|⟨k1,b,i,e⟩|⟨k1,b,e⟩
  .rw[e];refine⟨?_,rfl,rfl⟩;unfold gC;dsimp only;rw[jN f,yK];omega
  .rw[e];refine⟨?_,rfl,rfl⟩;unfold gC;dsimp only;rw[jN f,kL];omega
  .omega
  .omega
  .omega
  rw[e];refine⟨?_,rfl,rfl⟩;unfold gC;dsimp only;rw[jN f,rL];omega
 rw[jN (by decide),jN (by decide)];rcases j with⟨k1,b,i,e⟩|⟨k1,b,i,e⟩|⟨k1,b,e⟩|⟨k1,b,i,e⟩|⟨k1,b,i,e⟩|⟨k1,b,e⟩
 .omega
 .omega
 .rw[e];refine⟨?_,rfl,rfl⟩;unfold gC;dsimp only;rw[jN f,GO];omega
 .omega
 .omega
 rw[e];refine⟨?_,rfl,rfl⟩;unfold gC;dsimp only;rw[jN f,yK];omega
theorem FU{s:Sh}(t:Ad)(hd:t.done=false)(f:1<=s.p)(b:0<=s.m)(h4:0<=t.at'/\t.at'<s.p)(hi:0<=t.i/\t.i<mA t.pa):
  gC s (t.slot s)<=34*(s.p-t.at'-1)+2*(mA t.pa-t.i)-1/\(t.slot s).c=t.c/\(t.slot s).d=t.d:=by
 unfold Ad.slot;split
 .have:=QU (s:=s) {t with i:=0,next:=11} hd 10 13 f b h4 (.inr (.inr ⟨rfl,rfl⟩));rw[jN (by decide),jN (by decide)]at this;dsimp only at this;exact⟨by omega,this.2⟩
 refine⟨?_,rfl,rfl⟩;unfold gC;dsimp only;rw[jN (by rw[hd];decide),uN];omega
theorem WZ{s:Sh}(c d:Int)(b:mayB s.p s.c s.m=true):gC s (qD s c d)<=55*s.p+s.m+4/\(qD s c d).c=c/\(qD s c d).d=d:=by
 have hb:=JA.1 b;unfold qD;dsimp only;split
 .refine⟨?_,rfl,rfl⟩;unfold gC Ad.fin;rw[jP rfl];omega
 refine⟨?_,rfl,rfl⟩;unfold gC;dsimp only;rw[jN (by decide),GN];omega
theorem JY{s:Sh}{t:Ad}{m:Mem}(h:adOk s t)(hd:t.done=false)(n:Fits s m)(C:m.fit):Acts t.c m (EA s t m).2/\(EA s t m).1.c=t.c/\(EA s t m).1.d=t.d/\gC s (EA s t m).1+1<=gC s t:=by
 obtain⟨J,c1,c2,c3,c4,c5,c6,c7,c8,c9⟩:=h.cl hd;have hb:=n.bd;have z:¬t.done=true:=by rw[hd];decide
 have l:=n.OD c4;have o:=n.uD c2;have f:∀(u:Ad) e,gC s (u.fin e)=0:=λu e=>by unfold gC Ad.fin;rw[jP rfl]
 have y:∀a x,(t.keep s a x).c=t.c/\(t.keep s a x).d=t.d/\(t.keep s a x).done=t.done/\(t.keep s a x).at'=t.at':=λa x=>⟨rfl,rfl,rfl,rfl⟩
 have q:∀(u:Ad),u.done=t.done->u.at'=t.at'->u.c=t.c->u.d=t.d->∀b next,((b=3/\next=6)\/(b=6/\next=9)\/(b=10/\next=13))->
   gC s (u.turn s b next)<=(if b=3 then 3*(s.p-t.at'-1)+52*s.p+s.m+1 else if b=6 then 18*(s.p-t.at'-1)+34*s.p+s.m+1 else 34*(s.p-t.at'-1)+1)/\(u.turn s b next).c=t.c/\(u.turn s b next).d=t.d:=λu E F G H b next I=>by
  have:=QU (s:=s) u (E.trans hd) b next (by omega) (by omega) (by omega) I
  rw[F,G,H]at this
  exact this
 have r:t.next=0\/t.next=1\/t.next=2\/t.next=3\/t.next=4\/t.next=5\/t.next=6\/t.next=7\/t.next=8\/t.next=9\/t.next=10\/t.next=11\/t.next=12\/t.next=13:=by omega
 have j:gC s t=adL s t.next t.at' t.i (mA t.pa):=by unfold gC;rw[jN z]
 have hS:∀(u:Ad),u.done=false->gC s u=adL s u.next u.at' u.i (mA u.pa):=λu D=>by unfold gC;rw[jN (by rw[D];decide)]
 rcases r with e|e|e|e|e|e|e|e|e|e|e|e|e|e
 .rw[vM s t m hd e,j,e,GN];unfold Ad.asked;dsimp only;refine⟨.load o,?_⟩;split
  .exact⟨rfl,rfl,by rw[hS _ (by exact hd)];dsimp only;rw[CL];omega⟩
  split
  .exact⟨rfl,rfl,by rw[f];omega⟩
  split
  .exact⟨rfl,rfl,by rw[f];omega⟩
  exact⟨rfl,rfl,by rw[hS _ (by exact hd)];dsimp only;rw[HN];omega⟩
 .rw[NM s t m hd e,j,e,HN];dsimp only;refine⟨.load (n.uD (c5 e)),?_⟩;split
  .exact⟨rfl,rfl,by rw[f];omega⟩
  exact⟨rfl,rfl,by rw[hS _ (by exact hd)];dsimp only;rw[CL];omega⟩
 .rw[GM s t m hd e,j,e,CL];dsimp only;refine⟨.swap o (QH _ _),?_⟩;split
  .exact⟨rfl,rfl,by rw[hS _ (by exact hd)];dsimp only;rw[gL];omega⟩
  exact⟨rfl,rfl,by rw[f];omega⟩
 .rw[CM s t m hd e,j,e,gL];dsimp only;refine⟨.load l,?_⟩;split
  .exact⟨rfl,rfl,by rw[hS _ (by exact hd)];dsimp only[Ad.page];rw[EN];omega⟩
  have:=q (t.page s t.at' (m.get (pA s.p s.c s.m t.at'))) rfl rfl rfl rfl 3 6 (.inl ⟨rfl,rfl⟩);exact⟨this.2.1,this.2.2,by have:=this.1;simp at this;omega⟩
 .rw[KM s t m hd e,j,e,EN];dsimp only;refine⟨.load (n.OD (c6 e)),?_⟩;split
  .exact⟨rfl,rfl,by rw[hS _ (by exact hd)];dsimp only;rw[XO];omega⟩
  have:=q t rfl rfl rfl rfl 3 6 (.inl ⟨rfl,rfl⟩);exact⟨this.2.1,this.2.2,by have:=this.1;simp at this;omega⟩
 .rw[AM s t m hd e,j,e,XO];dsimp only;refine⟨.store l nG,?_⟩;have:=q t rfl rfl rfl rfl 3 6 (.inl ⟨rfl,rfl⟩);exact⟨this.2.1,this.2.2,by have:=this.1;simp at this;omega⟩
 .rw[OM s t m hd e,j,e,rL];dsimp only;refine⟨.load l,?_⟩;split
  .exact⟨rfl,rfl,by rw[hS _ (by exact hd)];dsimp only;rw[xL];omega⟩
  have:=q t rfl rfl rfl rfl 6 9 (.inr (.inl ⟨rfl,rfl⟩));exact⟨this.2.1,this.2.2,by have:=this.1;simp at this;omega⟩
 .rw[xM s t m hd e,j,e,xL];have c7:=c7 e;dsimp only;refine⟨.store (n.RE c4 (by omega)) nG,?_⟩;split
  .exact⟨rfl,rfl,by rw[hS _ (by exact hd)];dsimp only;rw[WO];omega⟩
  exact⟨rfl,rfl,by rw[hS _ (by exact hd)];dsimp only;rw[xL];omega⟩
 .rw[BM s t m hd e,j,e,WO];dsimp only;refine⟨.store l nG,?_⟩;have:=q t rfl rfl rfl rfl 6 9 (.inr (.inl ⟨rfl,rfl⟩));exact⟨this.2.1,this.2.2,by have:=this.1;simp at this;omega⟩
 .rw[DM s t m hd e,j,e,kL];have c8:=c8 e;dsimp only;refine⟨.store (n.magA c2 c8) nG,?_⟩;split
  .exact⟨rfl,rfl,by rw[hS _ (by exact hd)];dsimp only;rw[yK];omega⟩
  exact⟨rfl,rfl,by rw[hS _ (by exact hd)];dsimp only;rw[kL];omega⟩
 .rw[iM s t m hd e,j,e,yK];dsimp only;refine⟨.load l,?_⟩;split
  .refine⟨rfl,rfl,?_⟩;have:mA (pgP s t.at' (m.get (pA s.p s.c s.m t.at')) 0)<=16:=by
    by_cases h:0<mA (pgP s t.at' (m.get (pA s.p s.c s.m t.at')) 0)
    .exact(UD h).2.2.2
    omega
   rw[hS _ (by exact hd)];dsimp only[Ad.page];rw[uN];omega
  have:=q (t.page s t.at' (m.get (pA s.p s.c s.m t.at'))) rfl rfl rfl rfl 10 13 (.inr (.inr ⟨rfl,rfl⟩));exact⟨this.2.1,this.2.2,by have:=this.1;simp at this;omega⟩
 .rw[mM s t m hd e,j,e,uN];have c9:=c9 (.inl e);have B:=UD c9.1;dsimp only;refine⟨.load (n.RE c4 (by omega)),?_⟩;split
  .exact⟨rfl,rfl,by rw[hS _ (by exact hd)];dsimp only;rw[EO];omega⟩
  have:=FU (s:=s) t hd (by omega) (by omega) c4 c9.2;exact⟨this.2.1,this.2.2,by have:=this.1;omega⟩
 .rw[qM s t m hd e,j,e,EO];have c9:=c9 (.inr e);have B:=UD c9.1;dsimp only;refine⟨.store (n.RE c4 (by omega)) (IE _ _),?_⟩;have:=FU (s:=s) t hd (by omega) (by omega) c4 c9.2;exact⟨this.2.1,this.2.2,by have:=this.1;omega⟩
 rw[dM s t m hd e,j,e,GO];dsimp only;exact⟨.store o (QH _ _),rfl,rfl,by rw[f];omega⟩
def jbIs (s:Sh) (cl:Int):Jb->Prop
 |.mal r c=>rsIs s cl r/\∀x,c=some x->x.c=cl/\x.done=true/\r.done=true/\r.got=some x.b
 |.fre f=>feIs s cl f
 |.aga r=>rrIs s cl r
 |.hei a=>adOk s a/\a.c=cl
def CF (s:Sh) (j:Jb):Int:=match j with
 |.mal r c=>if j.done=true then 0 else BG s r+1
 |.fre f=>iC s f
 |.aga r=>KD s r
 |.hei a=>gC s a
theorem QZ{s:Sh}{cl:Int}{j:Jb}(h:jbIs s cl j)(b:0<=s.m)(hd:j.done=false):1<=CF s j:=by
 cases j with
 |mal r c=>have:=MI h.1;unfold CF;dsimp only;rw[jN (by rw[hd];decide)];omega
 |fre f=>exact mU h.ok b hd
 |aga r=>exact HZ h b hd
 |hei a=>exact YZ h.1 hd
theorem YQ{s:Sh}(cl first kind a n:Int)(b:mayB s.p s.c s.m=true)(f:0<=cl/\cl<s.c):jbIs s cl (ZB s cl first kind a n)/\CF s (ZB s cl first kind a n)<=110*s.p+4*s.m+60:=by
 have hb:=JA.1 b;unfold ZB;split
 .have h1:=FO cl n first b
  have h2:=MI h1.1;refine⟨⟨h1.1,λx i=>(by cases i)⟩,?_⟩;unfold CF;dsimp only;split<;>omega
 split
 .have h1:=kU cl a b;refine⟨h1.1,?_⟩;show iC s _<=_;omega
 split
 .have h1:=ZZ cl a n first b f
  refine⟨h1.1,?_⟩;show KD s _<=_;omega
 have h1:=WZ cl a b;refine⟨⟨z7f _ _ _,h1.2.1⟩,?_⟩;show gC s _<=_;omega
theorem xK{s:Sh}{cl:Int}{j:Jb}{m:Mem}(h:jbIs s cl j)(p:0<=cl/\cl<s.c)(hd:j.done=false)(o:Fits s m)(l:m.fit):
  Acts cl m (j.step s cl m).2/\jbIs s cl (j.step s cl m).1/\CF s (j.step s cl m).1+1<=CF s j/\(j.gave=true->(j.step s cl m).1.gave=true):=by
 have hb:=o.bd;cases j with
 |mal r c=>
  obtain⟨h1,h2⟩:=h;have E:CF s (.mal r c)=BG s r+1:=by unfold CF;dsimp only;rw[jN (by rw[hd];decide)]
  rw[E];unfold Jb.step;dsimp only;rcases jB r.done with i|i
  .rw[jN (by rw[i];decide)];have hd':(r.done&&(!r.got.isSome||RC c))=false:=hd;rw[i,Bool.true_and,Bool.or_eq_false_iff]at hd';obtain⟨z,n⟩:=hd';rcases hc:c with _|x
   .rcases hg:r.got with _|b
    .rw[hg]at z;cases z
    have q:=TG h1 o.may p hg;have B:FF s cl r none=some (zB s cl b):=by unfold FF;rw[hg]
    rw[B];dsimp only;have h3:=OT (t:=zB s cl b) (m:=m) q.1 (by simp[zB,q.1]) o;refine⟨h3.1,⟨h1,λx y=>?_⟩,?_,λe=>(by cases e)⟩
    .injection y with y;subst y;rw[h3.2];exact⟨rfl,rfl,i,hg⟩
    have h4:(Jb.mal r (some (GB s (zB s cl b) m).1)).done=true:=by show (r.done&&(!r.got.isSome||(GB s (zB s cl b) m).1.done))=true;rw[i,h3.2];simp
    have D:=MI h1;unfold CF;dsimp only;rw[jP h4];omega
   have:=h2 x hc;rw[hc]at n;have n:x.done=false:=n;rw[this.2.1]at n;cases n
  rw[jP i];have h3:=HQ h1 i o;refine⟨h3.1,⟨h3.2.1,λx y=>?_⟩,?_,λe=>(by cases e)⟩
  .have:=(h2 x y).2.2.1;rw[i]at this;cases this
  have D:=MI h3.2.1;unfold CF;dsimp only;split<;>omega
 |fre f=>have h1:=yT h hd o l;exact⟨h1.1,h1.2.1,h1.2.2.1,h1.2.2.2⟩
 |aga r=>
  have h1:=aZ h p hd o l;refine⟨h1.1,h1.2.1,h1.2.2.1,λe=>?_⟩;show (match (LB s r m).1.free with|some f=>f.gave|none=>false)=true;have e:(match r.free with|some f=>f.gave|none=>false)=true:=e;rcases hf1:r.free with _|f
  .rw[hf1]at e;cases e
  rw[hf1]at e;rcases hf2:(LB s r m).1.free with _|C
  .obtain⟨F,C,z,n,_⟩:=h.ok.cl hd;have:(LB s r m).1.free≠none:=by
    unfold LB;rw[jN (by rw[show r.done=false from hd];decide),z,n];dsimp only;split
    .dsimp only;rw[KL _ _ _ rfl rfl];exact λe=>by cases e
    split
    .dsimp only;rw[KL _ _ _ rfl rfl];exact λe=>by cases e
    split
    .dsimp only;rw[KL _ _ _ rfl rfl];exact λe=>by cases e
    .dsimp only;rw[KL _ _ _ rfl rfl];exact λe=>by cases e
    rw[n];exact λe=>by cases e
   exact absurd hf2 this
  exact h1.2.2.2 f C hf1 hf2 e
 |hei a=>have h1:=JY h.1 hd o l;exact⟨h1.1.of h.2,⟨z0s m h.1,h1.2.1.trans h.2⟩,h1.2.2.2,λe=>(by cases e)⟩
structure Op3 where
 k:Int
 a:Int
 n:Int
 deriving DecidableEq
def Op3.zero:Op3:=⟨0,0,0⟩
def ZC (s:Sh) (c k a n:Int):Bool:=(k==4&&(decide (uA s.p s.c s.m a<0)||a==c))||((k==1||k==3) && !lenB n)||((k==2||k==3) && !spB s a)
def kF (s:Sh) (k n:Int):Bool:=(k==1||k==3)&&wi n 33 512&&decide (s.p<runV n)
def yC (s:Sh) (c k a n:Int):Bool:=ZC s c k a n||kF s k n
def MC (s:Sh) (c k a n:Int):Int:=if ZC s c k a n=true then 1 else if kF s k n=true then 3 else 0
structure Kl where
 c:Int
 first:Int
 op:Op3
 job:Option Jb
 told:Bool
 steps:Int
 deriving DecidableEq
def DE (c first:Int):Kl:=⟨c,first,Op3.zero,none,false,0⟩
def Kl.rests (k:Kl):Bool:= !k.job.isSome
def NA (c:Int) (o:Op3):Ev:=⟨2,c,o.k,o.a,o.n,0,0,0⟩
def GE (c at' n:Int):Ev:=⟨3,c,0,0,0,at',n,0⟩
def VE (c at':Int):Ev:=⟨4,c,0,0,0,at',0,0⟩
def RA (c:Int) (o:Op3) (at' e:Int):Ev:=⟨5,c,o.k,o.a,o.n,at',0,e⟩
def Kl.invoke (s:Sh) (k:Kl) (o:Op3):Kl×List Ev×Int:=
 if k.rests=false then (k,[],4)
 else if o.k<1\/4<o.k then (k,[],1)
 else if yC s k.c o.k o.a o.n=true then ({k with op:=o,told:=false,steps:=0},[NA k.c o,RA k.c o 0 (MC s k.c o.k o.a o.n)],0)
 else ({k with op:=o,told:=false,steps:=0,job:=some (ZB s k.c k.first o.k o.a o.n)},[NA k.c o],0)
def DB:Option Blk->Int
 |some b=>b.at'
 |none=>0
def Kl.tells (k:Kl) (j:Jb):List Ev:=
 (if j.gave=true/\k.told=false then [VE k.c k.op.a] else []) ++
 (if j.done=true then (match j.took with|some b=>[GE k.c b.at' b.len]|none=>[]) ++ [RA k.c k.op (DB j.took) j.err] else [])
def Kl.after (k:Kl) (j:Jb):Kl:={k with job:=if j.done=true then none else some j,told:=k.told||j.gave,steps:=k.steps+1}
def Kl.step (s:Sh) (k:Kl) (m:Mem):Kl×Mem×List Ev×Int:=match k.job with
 |none=>(k,m,[],2)
 |some j=>(k.after (j.step s k.c m).1,(j.step s k.c m).2,k.tells (j.step s k.c m).1,0)
structure klOk (s:Sh) (k:Kl):Prop where
 cl:0<=k.c/\k.c<s.c
 fi:0<=k.first/\k.first<s.p
 jb:∀j,k.job=some j->jbIs s k.c j/\j.done=false/\(j.gave=true->k.told=true)/\(1<=k.op.k/\k.op.k<=4)
 st:0<=k.steps
 lf:∀j,k.job=some j->CF s j+k.steps<=110*s.p+4*s.m+60
theorem UH{s:Sh}{c:Int}(b:mayB s.p s.c s.m=true)(hc:0<=c/\c<s.c):uA s.p s.c s.m c=c:=by unfold uA;rw[jP ⟨b,BA.2 (by omega)⟩]
theorem gZ{s:Sh}{c:Int}(b:mayB s.p s.c s.m=true)(hc:0<=c/\c<s.p):pA s.p s.c s.m c=s.c+c:=by unfold pA;rw[jP ⟨b,BA.2 (by omega)⟩]
theorem nN{n:Int}(h:wi n 1 32=true):0<mA (pB n):=by
 have h1:=JQ n;have:pB n=0\/pB n=1\/pB n=2\/pB n=3:=by omega
 rcases this with e|e|e|e<;>rw[e]<;>decide
theorem zzs{s:Sh}{c k f:Int}(b:mayB s.p s.c s.m=true)(hc:0<=c/\c<s.c)(n:0<mA k)(l:0<=f/\f<s.p):(dD s c k f).done=false:=by
 have hb:=JA.1 b;have h1:=UH b hc;have h2:=gZ b l;unfold dD;rw[jP ⟨by omega,n,by omega⟩];rcases jB (sC s c k).done with hd|hd
 .have i:(eD s c k f).done=false:=by simp only[eD,Bool.not_eq_false',jC,decide_eq_true_eq];omega
  rw[XU (x:=.tk (sC s c k)) rfl rfl hd];have j:Sk.after s ⟨c,k,f,some (.tk (sC s c k)),0,0,0,false,false⟩ (.tk (sC s c k))=⟨c,k,f,some (.sc (eD s c k f)),0,0,0,false,false⟩:=by simp[Sk.after,sC]
  rw[j,kP (.inr (.inr ⟨.sc (eD s c k f),rfl,i⟩))]
 rw[kP (.inr (.inr ⟨.tk (sC s c k),rfl,hd⟩))]
theorem rV{s:Sh}{c n f:Int}(j:mayB s.p s.c s.m=true)(hc:0<=c/\c<s.c)(q:0<=f/\f<s.p)(r:lenB n=true)(t:wi n 33 512=true->runV n<=s.p):(mB s c n f).done=false:=by
 have hb:=JA.1 j;have h1:=UH j hc;unfold mB;split
 .rename_i b;exact zzs j hc (nN b) q
 split
 .rename_i _ b;have h2:=t b;have h3:=BA.1 b;have h4:runV n=(n-1)/64+1:=by unfold runV;rw[jP b]
  show (FC s c (runV n)).done=false;simp only[FC,Bool.not_eq_false',jC,decide_eq_true_eq];omega
 rename_i o i;have l:wi n 1 512=true:=r;have y:=BA.1 l;exfalso;by_cases z:n<=32
 .exact o (BA.2 (by omega))
 exact i (BA.2 (by omega))
theorem RV{s:Sh}{c f k a n:Int}(i:mayB s.p s.c s.m=true)(hc:0<=c/\c<s.c)(q:0<=f/\f<s.p)(r:1<=k/\k<=4)(l:yC s c k a n=false):(ZB s c f k a n).done=false/\(ZB s c f k a n).gave=false:=by
 have hb:=JA.1 i;have h1:=UH i hc;unfold yC at l;rw[Bool.or_eq_false_iff]at l;obtain⟨h2,h3⟩:=l;have:k=1\/k=2\/k=3\/k=4:=by omega
 rcases this with rfl|rfl|rfl|rfl
 .have b:lenB n=true:=by simpa[ZC] using h2
  have j:wi n 33 512=true->runV n<=s.p:=λe=>by simpa[kF,e] using h3
  refine⟨?_,rfl⟩;have o:=rV i hc q b j;show ((mB s c n f).done&&_)=false;rw[o];rfl
 .have b:spB s a=true:=by simpa[ZC] using h2
  refine⟨?_,rfl⟩;show (uB s c a).done=false;simp only[uB,b,Bool.not_true,Bool.false_or,decide_eq_false_iff_not];omega
 .have b:lenB n=true/\spB s a=true:=by simpa[ZC] using h2
  have j:wi n 33 512=true->runV n<=s.p:=λe=>by simpa[kF,e] using h3
  have o:=rV i hc q b.1 j;have e:pD s c a n f=⟨c,some (mB s c n f),some (uB s c a),none,none,0,false⟩:=by unfold pD;rw[jP ⟨b.2,b.1,by omega⟩];unfold Rr.settle;dsimp only;simp[o]
  show (pD s c a n f).done=false/\(Jb.aga (pD s c a n f)).gave=false;rw[e];exact⟨rfl,rfl⟩
 have b:0<=uA s.p s.c s.m a/\a≠c:=by have:=h2;simp only[ZC,beq_self_eq_true,Bool.true_and,Bool.or_eq_false_iff,decide_eq_false_iff_not,beq_eq_false_iff_ne]at this;exact⟨by omega,this.1.1.2⟩
 refine⟨?_,rfl⟩;show (qD s c a).done=false;unfold qD;dsimp only;rw[jN (by rintro(h|h|h);omega;omega;exact b.2 h.symm)]
theorem z6w{s:Sh}{c f:Int}(hc:0<=c/\c<s.c)(b:0<=f/\f<s.p):klOk s (DE c f):=⟨hc,b,λj h=>(by cases h),Int.le_refl _,λj h=>(by cases h)⟩
theorem GX{s:Sh}{k:Kl}(o:Op3)(l:mayB s.p s.c s.m=true)(h:klOk s k):klOk s (k.invoke s o).1:=by
 unfold Kl.invoke;split
 .exact h
 rename_i r;split
 .exact h
 rename_i t;have b:k.job=none:=by
  cases b:k.job
  .rfl
  simp[Kl.rests,b]at r
 split
 .refine⟨h.cl,h.fi,λj e=>?_,Int.le_refl _,λj e=>?_⟩
  .have e:k.job=some j:=e;rw[b]at e;cases e
  have e:k.job=some j:=e;rw[b]at e;cases e
 rename_i f;have f:yC s k.c o.k o.a o.n=false:=by simpa using f
 have q:=YQ (s:=s) k.c k.first o.k o.a o.n l h.cl;have i:=RV l h.cl h.fi (by omega) f;refine⟨h.cl,h.fi,λj e=>?_,Int.le_refl _,λj e=>?_⟩
 .have e:some (ZB s k.c k.first o.k o.a o.n)=some j:=e;injection e with e;subst e;exact⟨q.1,i.1,λe=>(by rw[i.2]at e;cases e),(by dsimp only;omega)⟩
 have e:some (ZB s k.c k.first o.k o.a o.n)=some j:=e;injection e with e;subst e;dsimp only;omega
theorem OW{s:Sh}{k:Kl}{m:Mem}{j:Jb}(h:klOk s k)(i:k.job=some j)(l:Fits s m)(f:m.fit):Acts k.c m (k.step s m).2.1/\klOk s (k.step s m).1:=by
 have hb:=l.bd;obtain⟨h1,h2,h3,h4⟩:=h.jb j i;have hs:=xK h1 h.cl h2 l f;have n:=h.lf j i;unfold Kl.step;rw[i];dsimp only;refine⟨hs.1,h.cl,h.fi,λx b=>?_,by have:=h.st;show 0<=k.steps+1;omega,λx b=>?_⟩
 .have b:(if (j.step s k.c m).1.done=true then none else some (j.step s k.c m).1)=some x:=b;split at b
  .cases b
  rename_i hd;injection b with b;subst b;refine⟨hs.2.1,by simpa using hd,λe=>?_,h4⟩;show (k.told||(j.step s k.c m).1.gave)=true;rw[e];simp
 have b:(if (j.step s k.c m).1.done=true then none else some (j.step s k.c m).1)=some x:=b;split at b
 .cases b
 injection b with b;subst b;have:=hs.2.2.1;show CF s _+(k.steps+1)<=_;omega
theorem z6l(s:Sh)(k:Kl)(m:Mem):(k.step s m).1.c=k.c/\(k.step s m).1.first=k.first/\(k.step s m).1.op=k.op:=by
 unfold Kl.step;split<;>exact⟨rfl,rfl,rfl⟩
theorem rY(s:Sh)(k:Kl)(o:Op3):(k.invoke s o).1.c=k.c/\(k.invoke s o).1.first=k.first:=by
 unfold Kl.invoke;split
 .exact⟨rfl,rfl⟩
 split
 .exact⟨rfl,rfl⟩
 split<;>exact⟨rfl,rfl⟩
theorem cU{s:Sh}{k:Kl}{j:Jb}(h:klOk s k)(f:0<=s.m)(b:k.job=some j):k.steps+1<=110*s.p+4*s.m+60:=by
 have h1:=h.lf j b;have h2:=QZ (h.jb j b).1 f (h.jb j b).2.1;omega
end Go.Proofs.YtkilokkopbajkaaGreat

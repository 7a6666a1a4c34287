/- Texts bound together: MchT CliP CliQ. -/
import Derived.Test.YtedcnffebdpmmaaGreatBu19

import Derived.Test.YtedcnffebdpmmaaGreatBu21

set_option linter.all false
namespace Go.Proofs.YtedcnffebdpmmaaGreat

structure rrIs (s:Sh) (cl:Int) (t:Rr):Prop where
 ok:rrOk s t
 c:t.c=cl
 res:∀ r,t.res=some r->rsIs s cl r
 fre:∀ f,t.free=some f->feIs s cl f
 un:∀ u,t.undo=some u->u.c=cl/\(t.done=false->u.done=false)
 cm:∀ u,t.com=some u->u.c=cl/\(t.done=false->u.done=false/\u.b.fits s cl=true)
 mid:t.done=false->(t.undo≠none\/t.com≠none)->∃ r f,t.res=some r/\r.done=true/\t.free=some f/\f.done=true
 fin:t.done=true->t.err=0->∃ r b f,t.res=some r/\r.got=some b/\t.free=some f/\f.gave=true
 gv:∀ u,t.com=some u->∃ r f,t.res=some r/\r.got=some u.b/\t.free=some f/\f.gave=true
 ng:∀ u,t.undo=some u->∃ f,t.free=some f/\f.gave=false
theorem zfb{s:Sh}(t:Rr)(r:Rs)(f:Fe)(h1:t.res=some r)(h2:t.free=some f):(t.settle s).free=t.free:=by
 rcases zcp s t r f h1 h2 with⟨_,e⟩|⟨_,_,e⟩|⟨_,_,_,e⟩|⟨_,_,_,_,e⟩|⟨b,_,_,_,_,_,e⟩|⟨b,_,_,_,_,_,_,_,_,e⟩|⟨b,_,_,_,_,_,_,_,_,e⟩<;>rw[e]
def zh0 (t:Rr):Int:=match t.undo,t.com with
 | some u,_=> ze0 u
 | none,some _=> 1
 | none,none=> 8
def zex (s:Sh) (t:Rr):Int:=if t.done=true then 0 else match t.res,t.free with
 | some r,some f=> zi3 s r + zcw s f + zh0 t
 | _,_=> 0
theorem zhv{s:Sh}{cl:Int}{t:Rr}{r:Rs}{f:Fe}(O:mayB s.p s.c s.m=true)(C:0<=cl/\cl<s.c)(z:t.done=false)(j:t.res=some r)(i:t.free=some f)(hc:t.c=cl)(G:rsIs s cl r)(S:feIs s cl f)
  (hu:∀ u,t.undo=some u->u.c=cl/\unOk s u/\r.done=true/\f.done=true/\f.gave=false) (o:∀ u,t.com=some u->u.c=cl/\cmOk s u/\u.b.fits s cl=true/\r.got=some u.b/\f.done=true/\f.gave=true) (T:t.undo=none\/t.com=none)
  (U:∀ u,t.undo=some u->0<=ze0 u):
  rrIs s cl (t.settle s)/\zex s (t.settle s)<=zi3 s r+zcw s f+(match t.undo,t.com with|some u,_=>ze0 u|none,some v=>(if v.done=true then 0 else 1)|none,none=>8)/\(t.settle s).free=some f/\(t.settle s).res=some r:=by
 have hb:=zar.1 O;have B:=zm9 (t:=t) j i ⟨fun x X=>(G.sk x X).1.ok,fun x X=>(G.rn x X).ok⟩ S.ok (fun u H=>(hu u H).2.1) (fun u H=>(o u H).2.1) T;have n1:=zf6 G;have n2:=zsa S.ok (by omega:0<=s.m);have D:∀ u:Rr,u.done=true->zex s u=0:=fun u e=>by unfold zex;rw[if_pos e]
 have Z:0<=(match t.undo,t.com with|some u,_=>ze0 u|none,some v=>(if v.done=true then 0 else 1)|none,none=>8:Int):=by
  rcases h1:t.undo with _|u
  ·rcases h2:t.com with _|v
   ·dsimp only;omega
   dsimp only;split<;>omega
  exact U u h1
 have n:∀ (u:Rr),u.res=t.res->∀ I,u.res=some I->rsIs s cl I:=fun u e I h=>by rw[e,j]at h;injection h with h;subst h;exact G
 have l:∀ (u:Rr),u.free=t.free->∀ I,u.free=some I->feIs s cl I:=fun u e I h=>by rw[e,i]at h;injection h with h;subst h;exact S
 have q:∀ u,t.com=some u->∃ r f,t.res=some r/\r.got=some u.b/\t.free=some f/\f.gave=true:=fun u h=>⟨r,f,j,(o u h).2.2.2.1,i,(o u h).2.2.2.2.2⟩;have y:∀ u,t.undo=some u->∃ f,t.free=some f/\f.gave=false:=fun u h=>⟨f,i,(hu u h).2.2.2.2⟩;rcases zcp s t r f j i with⟨h1,e⟩|⟨h1,h2,e⟩|⟨h1,h2,h3,e⟩|⟨h1,h2,h3,h4,e⟩|⟨b,h1,h2,h3,h4,Y,e⟩|⟨b,h1,h2,h3,h4,L,M,J,R,e⟩|⟨b,h1,h2,h3,h4,L,M,J,R,e⟩;all_goals rw[e]at B ⊢
 ·refine⟨⟨B,hc,n _ rfl,l _ rfl,fun u h=>⟨(hu u h).1,fun h=>(by cases h)⟩,fun u h=>⟨(o u h).1,fun h=>(by cases h)⟩,fun h=>(by cases h),fun _ h=>(by cases h),q,y⟩,?_,i,j⟩;rw[D _ rfl];omega
 ·refine⟨⟨B,hc,n _ rfl,l _ rfl,fun u h=>⟨(hu u h).1,fun h=>(by cases h)⟩,fun u h=>⟨(o u h).1,fun h=>(by cases h)⟩,fun h=>(by cases h),fun _ _=>?_,q,y⟩,?_,i,j⟩
  ·rcases h3:t.com with _|u
   ·rw[h3]at h2;cases h2
   have:=o u h3;exact⟨r,u.b,f,j,this.2.2.2.1,i,this.2.2.2.2.2⟩
  rw[D _ rfl];omega
 ·have E:t.undo=none:=by
   rcases h:t.undo with _|u
   ·rfl
   have:=(hu u h).2.2.1;rw[h3]at this;cases this
  have F:t.com=none:=by
   rcases h:t.com with _|u
   ·rfl
   have J:=(zlb G O C (o u h).2.2.2.1).2;rw[h3]at J;cases J
  refine⟨⟨B,hc,n _ rfl,l _ rfl,fun u h=>(by rw[E]at h;cases h),fun u h=>(by rw[F]at h;cases h),fun _ h=>(by rcases h with h|h;exact absurd E h;exact absurd F h),fun h=>(by rw[z]at h;cases h),q,y⟩,?_,i,j⟩;unfold zex zh0;rw[if_neg (by rw[z];decide),j,i,E,F];dsimp only;omega
 ·refine⟨⟨B,hc,n _ rfl,l _ rfl,fun u h=>⟨(hu u h).1,fun h=>(by cases h)⟩,fun u h=>⟨(o u h).1,fun h=>(by cases h)⟩,fun h=>(by cases h),fun _ h=>(by cases h),q,y⟩,?_,i,j⟩;rw[D _ rfl];omega
 ·refine⟨⟨B,hc,n _ rfl,l _ rfl,fun u h=>⟨(hu u h).1,fun _=>(by rw[h]at h1;exact h1)⟩,fun u h=>⟨(o u h).1,fun _=>⟨(by rw[h]at h2;exact h2),(o u h).2.2.1⟩⟩,fun _ h=>?_,fun h=>(by rw[z]at h;cases h),q,y⟩,?_,i,j⟩
  ·rcases h with h|h
   ·rcases h':t.undo with _|u
    ·exact absurd h' h
    exact⟨r,f,j,h3,i,(hu u h').2.2.2.1⟩
   rcases h':t.com with _|u
   ·exact absurd h' h
   exact⟨r,f,j,h3,i,(o u h').2.2.2.2.1⟩
  unfold zex zh0;rw[if_neg (by rw[z];decide),j,i];dsimp only;rcases h':t.undo with _|u
  ·rcases h'':t.com with _|v
   ·dsimp only;omega
   have:v.done=false:=by rw[h'']at h2;exact h2
   dsimp only;rw[if_neg (by rw[this];decide)];omega
  dsimp only;omega
 ·have N:=zlb G O C h4;refine⟨⟨B,hc,n _ rfl,l _ rfl,fun u h=>⟨(hu u h).1,fun _=>(by have h:t.undo=some u:=h;rw[L]at h;cases h)⟩,fun u h=>?_,fun _ _=>⟨r,f,j,h3,i,J⟩,fun h=>(by have h:t.done=true:=h;rw[z]at h;cases h),fun u h=>?_,y⟩,?_,i,j⟩
  ·have h:some (zc4 s t.c b)=some u:=h;injection h with h;subst h;exact⟨hc,fun _=>⟨by simp[zc4,hc,N.1],N.1⟩⟩
  ·have h:some (zc4 s t.c b)=some u:=h;injection h with h;subst h;exact⟨r,f,j,h4,i,R⟩
  unfold zex zh0;dsimp only;rw[if_neg (by rw[z];decide),j,i,L,M];dsimp only;omega
 have N:=zlb G O C h4;have V:=ydl t.c b (by rw[hc];exact N.1);refine⟨⟨B,hc,n _ rfl,l _ rfl,fun u h=>?_,fun u h=>⟨(o u h).1,fun _=>(by have h:t.com=some u:=h;rw[M]at h;cases h)⟩,fun _ _=>⟨r,f,j,h3,i,J⟩,fun h=>(by have h:t.done=true:=h;rw[z]at h;cases h),q,fun u h=>⟨f,i,R⟩⟩,?_,i,j⟩
 ·have h:some (zf1 s t.c b)=some u:=h;injection h with h;subst h;exact⟨hc,fun _=>V.2⟩
 unfold zex zh0;dsimp only;rw[if_neg (by rw[z];decide),j,i,L,M];dsimp only;omega
theorem ye2{s:Sh}(c a n first:Int)(b:mayB s.p s.c s.m=true)(f:0<=c/\c<s.c):rrIs s c (zhh s c a n first)/\zex s (zhh s c a n first)<=67*s.p+2*s.m+53:=by
 have hb:=zar.1 b;have i:=z4q s c a n first
 unfold zhh at i ⊢;split at i<;>rename_i h
 ·rw[if_pos h];have h1:=z0h c n first b
  have h2:=z9h c a b;have h3:=zhv (t:=⟨c,some (zdh s c n first),some (zc2 s c a),none,none,0,false⟩) b f rfl rfl rfl rfl h1.1 h2.1 (fun u h=>(by cases h)) (fun u h=>(by cases h)) (.inl rfl) (fun u h=>(by cases h));refine⟨h3.1,Int.le_trans h3.2.1 ?_⟩;dsimp only;omega
 rw[if_neg h];refine⟨⟨i,rfl,fun r h=>(by cases h),fun r h=>(by cases h),fun r h=>(by cases h),fun r h=>(by cases h),fun h=>(by cases h),fun _ h=>(by cases h),fun u h=>(by cases h),fun u h=>(by cases h)⟩,?_⟩;unfold zex;rw[if_pos rfl];omega
theorem ybk{s:Sh}{cl:Int}{t:Rr}{m:Mem}(h:rrIs s cl t)(C:0<=cl/\cl<s.c)(hd:t.done=false)(D:Fits s m)(L:m.fit):
  Acts cl m (zb9 s t m).2/\rrIs s cl (zb9 s t m).1/\zex s (zb9 s t m).1+1<=zex s t/\(∀ f F,t.free=some f->(zb9 s t m).1.free=some F->f.gave=true->F.gave=true):=by
 have hb:=D.bd;obtain⟨r,f,j,b,b1,b0,M,Z,I,J⟩:=h.ok.cl hd;have Y:zex s t=zi3 s r+zcw s f+zh0 t:=by unfold zex;rw[if_neg (by rw[hd];decide),j,b]
 have R:=h.res r j;have E:=h.fre f b;rw[Y];rcases Bool.eq_false_or_eq_true r.done with o|o;case inr=>
  have hs:zb9 s t m=(Rr.settle s {t with res:=some (zb0 s r m).1},(zb0 s r m).2):=by unfold zb9;simp[hd,j,b,o]
  have q:t.undo=none/\t.com=none:=by
   refine⟨?_,?_⟩
   ·rcases h1:t.undo with _|u
    ·rfl
    obtain⟨S,F,i,l,_⟩:=h.mid hd (.inl (by rw[h1];exact fun e=>by cases e));rw[j]at i;injection i with i;subst i;rw[o]at l;cases l
   rcases h1:t.com with _|u
   ·rfl
   obtain⟨S,F,i,l,_⟩:=h.mid hd (.inr (by rw[h1];exact fun e=>by cases e));rw[j]at i;injection i with i;subst i;rw[o]at l;cases l
  have h1:=zvz R o D;have h2:=zhv (t:= {t with res:=some (zb0 s r m).1}) D.may C hd rfl b h.c h1.2.1 E (fun u e=>(by have e:t.undo=some u:=e;rw[q.1]at e;cases e)) (fun u e=>(by have e:t.com=some u:=e;rw[q.2]at e;cases e)) I (fun u e=>(by have e:t.undo=some u:=e;rw[q.1]at e;cases e));rw[hs];refine⟨h1.1,h2.1,?_,fun T U i l H=>?_⟩
  ·have h3:=h2.2.1;dsimp only at h3 ⊢;rw[q.1,q.2]at h3;unfold zh0;rw[q.1,q.2];dsimp only at h3 ⊢;omega
  dsimp only at l;rw[h2.2.2.1]at l;rw[b]at i;injection i with i;injection l with l;rw[<-l,i];exact H
 rcases Bool.eq_false_or_eq_true f.done with n|n;case inr=>
  have hs:zb9 s t m=(Rr.settle s {t with free:=some (zca s f m).1},(zca s f m).2):=by unfold zb9;simp[hd,j,b,o,n]
  have q:t.undo=none/\t.com=none:=by
   refine⟨?_,?_⟩
   ·rcases h1:t.undo with _|u
    ·rfl
    obtain⟨S,F,_,_,i,l⟩:=h.mid hd (.inl (by rw[h1];exact fun e=>by cases e));rw[b]at i;injection i with i;subst i;rw[n]at l;cases l
   rcases h1:t.com with _|u
   ·rfl
   obtain⟨S,F,_,_,i,l⟩:=h.mid hd (.inr (by rw[h1];exact fun e=>by cases e));rw[b]at i;injection i with i;subst i;rw[n]at l;cases l
  have h1:=z1e E n D L;have h2:=zhv (t:= {t with free:=some (zca s f m).1}) D.may C hd j rfl h.c R h1.2.1 (fun u e=>(by have e:t.undo=some u:=e;rw[q.1]at e;cases e)) (fun u e=>(by have e:t.com=some u:=e;rw[q.2]at e;cases e)) I (fun u e=>(by have e:t.undo=some u:=e;rw[q.1]at e;cases e));rw[hs];refine⟨h1.1,h2.1,?_,fun T U i l H=>?_⟩
  ·have h3:=h2.2.1;dsimp only at h3 ⊢;rw[q.1,q.2]at h3;unfold zh0;rw[q.1,q.2];dsimp only at h3 ⊢;omega
  dsimp only at l;rw[h2.2.2.1]at l;rw[b]at i;injection i with i;injection l with l;subst i;rw[<-l];exact h1.2.2.2 H
 rcases hun:t.undo with _|u
 ·rcases p:t.com with _|v
  ·rcases J o n with e|e
   ·exact absurd hun e
   exact absurd p e
  have hs:zb9 s t m=(Rr.settle s {t with com:=some (zb3 s v m).1},(zb3 s v m).2):=by unfold zb9;simp[hd,j,b,o,n,hun,p]
  have hv:=h.cm v p;obtain⟨z,y⟩:=hv;obtain⟨y,N⟩:=y hd;obtain⟨S,F,O,X,B,V⟩:=h.gv v p;rw[j]at O;injection O with O;subst O;rw[b]at B;injection B with B;subst B;have h1:=z3w (m:=m) (by rw[z];exact N) y D
  have h2:=zhv (t:= {t with com:=some (zb3 s v m).1}) D.may C hd j b h.c R E (fun u e=>(by have e:t.undo=some u:=e;rw[hun]at e;cases e)) (fun u e=>(by
   have e:some (zb3 s v m).1=some u:=e
   injection e with e;subst e
   rw[h1.2]
   exact⟨z,fun e=>(by cases e),N,X,n,V⟩)) (.inl hun) (fun u e=>(by have e:t.undo=some u:=e;rw[hun]at e;cases e))
  rw[hs];refine⟨h1.1.of z,h2.1,?_,fun T U i l H=>?_⟩
  ·have h3:=h2.2.1;dsimp only at h3 ⊢;rw[hun,h1.2]at h3;unfold zh0;rw[hun,p];dsimp only at h3 ⊢;rw[if_pos rfl]at h3;rw[h1.2];omega
  dsimp only at l;rw[h2.2.2.1]at l;rw[b]at i;injection i with i;injection l with l;rw[<-l,i];exact H
 have p:t.com=none:=by
  rcases I with e|e
  ·rw[hun]at e;cases e
  exact e
 have hs:zb9 s t m=(Rr.settle s {t with undo:=some (zcf s u m).1},(zcf s u m).2):=by unfold zb9;simp[hd,j,b,o,n,hun,p]
 obtain⟨z,y⟩:=h.un u hun;have y:=y hd;obtain⟨F,B,V⟩:=h.ng u hun;rw[b]at B;injection B with B;subst B;have h1:=ybv (M u hun) y D;have G:=z0o m (M u hun);have nn:0<=ze0 (zcf s u m).1:=by
  rcases Bool.eq_false_or_eq_true (zcf s u m).1.done with e|e
  ·unfold ze0;rw[if_pos e];omega
  have:=z8p G e;omega
 have h2:=zhv (t:= {t with undo:=some (zcf s u m).1}) D.may C hd j b h.c R E (fun v e=>(by
   have e:some (zcf s u m).1=some v:=e
   injection e with e;subst e
   exact⟨h1.2.1.trans z,G,o,n,V⟩)) (fun u e=>(by have e:t.com=some u:=e;rw[p]at e;cases e)) (.inr p) (fun v e=>(by
   have e:some (zcf s u m).1=some v:=e
   injection e with e;subst e;exact nn))
 rw[hs];refine⟨h1.1.of z,h2.1,?_,fun T U i l H=>?_⟩
 ·have h3:=h2.2.1;dsimp only at h3 ⊢;unfold zh0;rw[hun];dsimp only;omega
 dsimp only at l;rw[h2.2.2.1]at l;rw[b]at i;injection i with i;injection l with l;rw[<-l,i];exact H
theorem yd8{s:Sh}{cl:Int}{t:Rr}(h:rrIs s cl t)(p:0<=s.m)(hd:t.done=false):1<=zex s t:=by
 obtain⟨r,f,i,b,y,o,l,n,q,j⟩:=h.ok.cl hd;have n1:=zf6 (h.res r i);have n2:=zsa (h.fre f b).ok p;unfold zex zh0;rw[if_neg (by rw[hd];decide),i,b];dsimp only;rcases hun:t.undo with _|u
 ·rcases hcm:t.com with _|v<;>dsimp only<;>omega
 have:=z8p (l u hun) ((h.un u hun).2 hd);dsimp only;omega
def adL (s:Sh) (n a i k:Int):Int:=
 if n=0 then 3 + 55 * s.p + s.m + 1
 else if n=1 then 2 + 55 * s.p + s.m + 1
 else if n=2 then 1 + 55 * s.p + s.m + 1
 else if n=3 then 3 * (s.p - a) + 52 * s.p + s.m + 1
 else if n=4 then 3 * (s.p - a) - 1 + 52 * s.p + s.m + 1
 else if n=5 then 3 * (s.p - a) - 2 + 52 * s.p + s.m + 1
 else if n=6 then 18 * (s.p - a) + 34 * s.p + s.m + 1
 else if n=7 then 18 * (s.p - a - 1) + (16 - i) + 1 + 34 * s.p + s.m + 1
 else if n=8 then 18 * (s.p - a - 1) + 1 + 34 * s.p + s.m + 1
 else if n=9 then s.m - i + 34 * s.p + 1
 else if n=10 then 34 * (s.p - a) + 1
 else if n=11 then 34 * (s.p - a - 1) + 2 * (k - i) + 1
 else if n=12 then 34 * (s.p - a - 1) + 2 * (k - i)
 else 1
theorem yaw(s:Sh)(a i k:Int):adL s 0 a i k=3+55*s.p+s.m+1:=by simp[adL]
theorem yb0(s:Sh)(a i k:Int):adL s 1 a i k=2+55*s.p+s.m+1:=by simp[adL]
theorem z8h(s:Sh)(a i k:Int):adL s 2 a i k=1+55*s.p+s.m+1:=by simp[adL]
theorem z4v(s:Sh)(a i k:Int):adL s 3 a i k=3*(s.p-a)+52*s.p+s.m+1:=by simp[adL]
theorem yaj(s:Sh)(a i k:Int):adL s 4 a i k=3*(s.p-a)-1+52*s.p+s.m+1:=by simp[adL]
theorem z99(s:Sh)(a i k:Int):adL s 5 a i k=3*(s.p-a)-2+52*s.p+s.m+1:=by simp[adL]
theorem z5w(s:Sh)(a i k:Int):adL s 6 a i k=18*(s.p-a)+34*s.p+s.m+1:=by simp[adL]
theorem z7n(s:Sh)(a i k:Int):adL s 7 a i k=18*(s.p-a-1)+(16-i)+1+34*s.p+s.m+1:=by simp[adL]
theorem z98(s:Sh)(a i k:Int):adL s 8 a i k=18*(s.p-a-1)+1+34*s.p+s.m+1:=by simp[adL]
theorem z5g(s:Sh)(a i k:Int):adL s 9 a i k=s.m-i+34*s.p+1:=by simp[adL]
theorem zr0(s:Sh)(a i k:Int):adL s 10 a i k=34*(s.p-a)+1:=by simp[adL]
theorem zxa(s:Sh)(a i k:Int):adL s 11 a i k=34*(s.p-a-1)+2*(k-i)+1:=by simp[adL]
theorem z0a(s:Sh)(a i k:Int):adL s 12 a i k=34*(s.p-a-1)+2*(k-i):=by simp[adL]
theorem z0m(s:Sh)(a i k:Int):adL s 13 a i k=1:=by simp[adL]
def zcu (s:Sh) (t:Ad):Int:=if t.done=true then 0 else adL s t.next t.at' t.i (zah t.pa)
theorem ye1{s:Sh}{t:Ad}(h:adOk s t)(hd:t.done=false):1<=zcu s t:=by
 obtain⟨b,c1,c2,c3,c4,c5,c6,c7,c8,c9⟩:=h.cl hd;have hb:=zar.1 b;unfold zcu;rw[if_neg (by rw[hd];decide)];have:t.next=0\/t.next=1\/t.next=2\/t.next=3\/t.next=4\/t.next=5\/t.next=6\/t.next=7\/t.next=8\/t.next=9\/t.next=10\/t.next=11\/t.next=12\/t.next=13:=by omega
 rcases this with e|e|e|e|e|e|e|e|e|e|e|e|e|e
 ·rw[e,yaw];omega
 ·rw[e,yb0];omega
 ·rw[e,z8h];omega
 ·rw[e,z4v];omega
 ·rw[e,yaj];omega
 ·rw[e,z99];omega
 ·rw[e,z5w];omega
 ·rw[e,z7n];omega
 ·rw[e,z98];omega
 ·rw[e,z5g];omega
 ·rw[e,zr0];omega
 ·rw[e,zxa];omega
 ·rw[e,z0a];omega
 rw[e,z0m];omega
theorem zle{s:Sh}(t:Ad)(hd:t.done=false)(again next:Int)(o:1<=s.p)(n:0<=s.m)(h4:0<=t.at'/\t.at'<s.p)(l:(again=3/\next=6)\/(again=6/\next=9)\/(again=10/\next=13)):
  zcu s (t.turn s again next)<=(if again=3 then 3*(s.p-t.at'-1)+52*s.p+s.m+1 else if again=6 then 18*(s.p-t.at'-1)+34*s.p+s.m+1 else 34*(s.p-t.at'-1)+1)/\(t.turn s again next).c=t.c/\(t.turn s again next).d=t.d:=by
 have j:=zp2 s t again next
 simp only[beq_eq_false_iff_ne,ne_eq]at j;have f:¬ t.done=true:=by rw[hd];decide
 rcases l with⟨rfl,rfl⟩|⟨rfl,rfl⟩|⟨rfl,rfl⟩
 ·rw[if_pos rfl];rcases j with⟨k1,b,i,e⟩|⟨k1,b,i,e⟩|⟨k1,b,e⟩|⟨k1,b,i,e⟩|⟨k1,b,i,e⟩|⟨k1,b,e⟩
  ·omega
  ·omega
  ·rw[e];refine⟨?_,rfl,rfl⟩;unfold zcu;dsimp only;rw[if_neg f,z5w];omega
  ·omega
  ·omega
  rw[e];refine⟨?_,rfl,rfl⟩;unfold zcu;dsimp only;rw[if_neg f,z4v];omega
 ·rw[if_neg (by decide),if_pos rfl];rcases j with⟨k1,b,i,e⟩|⟨k1,b,i,e⟩|⟨k1,b,e⟩|⟨k1,b,i,e⟩|⟨k1,b,i,e⟩|⟨k1,b,e⟩
  ·rw[e];refine⟨?_,rfl,rfl⟩;unfold zcu;dsimp only;rw[if_neg f,zr0];omega
  ·rw[e];refine⟨?_,rfl,rfl⟩;unfold zcu;dsimp only;rw[if_neg f,z5g];omega
  ·omega
  ·omega
  ·omega
  rw[e];refine⟨?_,rfl,rfl⟩;unfold zcu;dsimp only;rw[if_neg f,z5w];omega
 rw[if_neg (by decide),if_neg (by decide)];rcases j with⟨k1,b,i,e⟩|⟨k1,b,i,e⟩|⟨k1,b,e⟩|⟨k1,b,i,e⟩|⟨k1,b,i,e⟩|⟨k1,b,e⟩
 ·omega
 ·omega
 ·rw[e];refine⟨?_,rfl,rfl⟩;unfold zcu;dsimp only;rw[if_neg f,z0m];omega
 ·omega
 ·omega
 rw[e];refine⟨?_,rfl,rfl⟩;unfold zcu;dsimp only;rw[if_neg f,zr0];omega
theorem zk1{s:Sh}(t:Ad)(hd:t.done=false)(f:1<=s.p)(b:0<=s.m)(h4:0<=t.at'/\t.at'<s.p)(hi:0<=t.i/\t.i<zah t.pa):
  zcu s (t.slot s)<=34*(s.p-t.at'-1)+2*(zah t.pa-t.i)-1/\(t.slot s).c=t.c/\(t.slot s).d=t.d:=by
 unfold Ad.slot;split
 ·have:=zle (s:=s) {t with i:=0,next:=11} hd 10 13 f b h4 (.inr (.inr ⟨rfl,rfl⟩));rw[if_neg (by decide),if_neg (by decide)]at this;dsimp only at this;exact⟨by omega,this.2⟩
 refine⟨?_,rfl,rfl⟩;unfold zcu;dsimp only;rw[if_neg (by rw[hd];decide),zxa];omega
theorem ydx{s:Sh}(c d:Int)(b:mayB s.p s.c s.m=true):zcu s (zix s c d)<=55*s.p+s.m+4/\(zix s c d).c=c/\(zix s c d).d=d:=by
 have hb:=zar.1 b;unfold zix;dsimp only;split
 ·refine⟨?_,rfl,rfl⟩;unfold zcu Ad.fin;rw[if_pos rfl];omega
 refine⟨?_,rfl,rfl⟩;unfold zcu;dsimp only;rw[if_neg (by decide),yaw];omega
theorem yay{s:Sh}{t:Ad}{m:Mem}(h:adOk s t)(hd:t.done=false)(n:Fits s m)(C:m.fit):Acts t.c m (za0 s t m).2/\(za0 s t m).1.c=t.c/\(za0 s t m).1.d=t.d/\zcu s (za0 s t m).1+1<=zcu s t:=by
 obtain⟨J,c1,c2,c3,c4,c5,c6,c7,c8,c9⟩:=h.cl hd;have hb:=n.bd;have z:¬ t.done=true:=by rw[hd];decide
 have l:=n.zhu c4;have o:=n.zda c2;have f:∀ (u:Ad) e,zcu s (u.fin e)=0:=fun u e=>by unfold zcu Ad.fin;rw[if_pos rfl]
 have y:∀ a x,(t.keep s a x).c=t.c/\(t.keep s a x).d=t.d/\(t.keep s a x).done=t.done/\(t.keep s a x).at'=t.at':=fun a x=>⟨rfl,rfl,rfl,rfl⟩
 have q:∀ (u:Ad),u.done=t.done->u.at'=t.at'->u.c=t.c->u.d=t.d->∀ b next,((b=3/\next=6)\/(b=6/\next=9)\/(b=10/\next=13))->
   zcu s (u.turn s b next)<=(if b=3 then 3*(s.p-t.at'-1)+52*s.p+s.m+1 else if b=6 then 18*(s.p-t.at'-1)+34*s.p+s.m+1 else 34*(s.p-t.at'-1)+1)/\(u.turn s b next).c=t.c/\(u.turn s b next).d=t.d:=fun u E F G H b next I=>by
  have:=zle (s:=s) u (E.trans hd) b next (by omega) (by omega) (by omega) I
  rw[F,G,H]at this
  exact this
 have r:t.next=0\/t.next=1\/t.next=2\/t.next=3\/t.next=4\/t.next=5\/t.next=6\/t.next=7\/t.next=8\/t.next=9\/t.next=10\/t.next=11\/t.next=12\/t.next=13:=by omega
 have j:zcu s t=adL s t.next t.at' t.i (zah t.pa):=by unfold zcu;rw[if_neg z]
 have hS:∀ (u:Ad),u.done=false->zcu s u=adL s u.next u.at' u.i (zah u.pa):=fun u D=>by unfold zcu;rw[if_neg (by rw[D];decide)]
 rcases r with e|e|e|e|e|e|e|e|e|e|e|e|e|e
 ·rw[zl2 s t m hd e,j,e,yaw];unfold Ad.asked;dsimp only;refine⟨.load o,?_⟩;split
  ·exact⟨rfl,rfl,by rw[hS _ (by exact hd)];dsimp only;rw[z8h];omega⟩
  split
  ·exact⟨rfl,rfl,by rw[f];omega⟩
  split
  ·exact⟨rfl,rfl,by rw[f];omega⟩
  exact⟨rfl,rfl,by rw[hS _ (by exact hd)];dsimp only;rw[yb0];omega⟩
 ·rw[zmf s t m hd e,j,e,yb0];dsimp only;refine⟨.load (n.zda (c5 e)),?_⟩;split
  ·exact⟨rfl,rfl,by rw[f];omega⟩
  exact⟨rfl,rfl,by rw[hS _ (by exact hd)];dsimp only;rw[z8h];omega⟩
 ·rw[zlx s t m hd e,j,e,z8h];dsimp only;refine⟨.swap o (zdz _ _),?_⟩;split
  ·exact⟨rfl,rfl,by rw[hS _ (by exact hd)];dsimp only;rw[z4v];omega⟩
  exact⟨rfl,rfl,by rw[f];omega⟩
 ·rw[zl7 s t m hd e,j,e,z4v];dsimp only;refine⟨.load l,?_⟩;split
  ·exact⟨rfl,rfl,by rw[hS _ (by exact hd)];dsimp only[Ad.page];rw[yaj];omega⟩
  have:=q (t.page s t.at' (m.get (zak s.p s.c s.m t.at'))) rfl rfl rfl rfl 3 6 (.inl ⟨rfl,rfl⟩);exact⟨this.2.1,this.2.2,by have:=this.1;simp at this;omega⟩
 ·rw[zmc s t m hd e,j,e,yaj];dsimp only;refine⟨.load (n.zhu (c6 e)),?_⟩;split
  ·exact⟨rfl,rfl,by rw[hS _ (by exact hd)];dsimp only;rw[z99];omega⟩
  have:=q t rfl rfl rfl rfl 3 6 (.inl ⟨rfl,rfl⟩);exact⟨this.2.1,this.2.2,by have:=this.1;simp at this;omega⟩
 ·rw[zl5 s t m hd e,j,e,z99];dsimp only;refine⟨.store l zms,?_⟩;have:=q t rfl rfl rfl rfl 3 6 (.inl ⟨rfl,rfl⟩);exact⟨this.2.1,this.2.2,by have:=this.1;simp at this;omega⟩
 ·rw[zmg s t m hd e,j,e,z5w];dsimp only;refine⟨.load l,?_⟩;split
  ·exact⟨rfl,rfl,by rw[hS _ (by exact hd)];dsimp only;rw[z7n];omega⟩
  have:=q t rfl rfl rfl rfl 6 9 (.inr (.inl ⟨rfl,rfl⟩));exact⟨this.2.1,this.2.2,by have:=this.1;simp at this;omega⟩
 ·rw[zl3 s t m hd e,j,e,z7n];have c7:=c7 e;dsimp only;refine⟨.store (n.zj0 c4 (by omega)) zms,?_⟩;split
  ·exact⟨rfl,rfl,by rw[hS _ (by exact hd)];dsimp only;rw[z98];omega⟩
  exact⟨rfl,rfl,by rw[hS _ (by exact hd)];dsimp only;rw[z7n];omega⟩
 ·rw[zl6 s t m hd e,j,e,z98];dsimp only;refine⟨.store l zms,?_⟩;have:=q t rfl rfl rfl rfl 6 9 (.inr (.inl ⟨rfl,rfl⟩));exact⟨this.2.1,this.2.2,by have:=this.1;simp at this;omega⟩
 ·rw[zl8 s t m hd e,j,e,z5g];have c8:=c8 e;dsimp only;refine⟨.store (n.magA c2 c8) zms,?_⟩;split
  ·exact⟨rfl,rfl,by rw[hS _ (by exact hd)];dsimp only;rw[zr0];omega⟩
  exact⟨rfl,rfl,by rw[hS _ (by exact hd)];dsimp only;rw[z5g];omega⟩
 ·rw[zjn s t m hd e,j,e,zr0];dsimp only;refine⟨.load l,?_⟩;split
  ·refine⟨rfl,rfl,?_⟩;have:zah (pgP s t.at' (m.get (zak s.p s.c s.m t.at')) 0)<=16:=by
    by_cases h:0<zah (pgP s t.at' (m.get (zak s.p s.c s.m t.at')) 0)
    ·exact(zb4 h).2.2.2
    omega
   rw[hS _ (by exact hd)];dsimp only[Ad.page];rw[zxa];omega
  have:=q (t.page s t.at' (m.get (zak s.p s.c s.m t.at'))) rfl rfl rfl rfl 10 13 (.inr (.inr ⟨rfl,rfl⟩));exact⟨this.2.1,this.2.2,by have:=this.1;simp at this;omega⟩
 ·rw[zju s t m hd e,j,e,zxa];have c9:=c9 (.inl e);have B:=zb4 c9.1;dsimp only;refine⟨.load (n.zj0 c4 (by omega)),?_⟩;split
  ·exact⟨rfl,rfl,by rw[hS _ (by exact hd)];dsimp only;rw[z0a];omega⟩
  have:=zk1 (s:=s) t hd (by omega) (by omega) c4 c9.2;exact⟨this.2.1,this.2.2,by have:=this.1;omega⟩
 ·rw[zkg s t m hd e,j,e,z0a];have c9:=c9 (.inr e);have B:=zb4 c9.1;dsimp only;refine⟨.store (n.zj0 c4 (by omega)) (zch _ _),?_⟩;have:=zk1 (s:=s) t hd (by omega) (by omega) c4 c9.2;exact⟨this.2.1,this.2.2,by have:=this.1;omega⟩
 rw[zj8 s t m hd e,j,e,z0m];dsimp only;exact⟨.store o (zdz _ _),rfl,rfl,by rw[f];omega⟩
def jbIs (s:Sh) (cl:Int):Jb->Prop
 | .mal r c=> rsIs s cl r/\∀ x,c=some x->x.c=cl/\x.done=true/\r.done=true/\r.got=some x.b
 | .fre f=> feIs s cl f
 | .aga r=> rrIs s cl r
 | .hei a=> adOk s a/\a.c=cl
def zg8 (s:Sh) (j:Jb):Int:=match j with
 | .mal r c=> if j.done=true then 0 else zi3 s r + 1
 | .fre f=> zcw s f
 | .aga r=> zex s r
 | .hei a=> zcu s a
theorem ydi{s:Sh}{cl:Int}{j:Jb}(h:jbIs s cl j)(b:0<=s.m)(hd:j.done=false):1<=zg8 s j:=by
 cases j with
 |mal r c=>have:=zf6 h.1;unfold zg8;dsimp only;rw[if_neg (by rw[hd];decide)];omega
 |fre f=>exact z9j h.ok b hd
 |aga r=>exact yd8 h b hd
 |hei a=>exact ye1 h.1 hd
theorem yer{s:Sh}(cl first kind a n:Int)(b:mayB s.p s.c s.m=true)(f:0<=cl/\cl<s.c):jbIs s cl (zgl s cl first kind a n)/\zg8 s (zgl s cl first kind a n)<=110*s.p+4*s.m+60:=by
 have hb:=zar.1 b;unfold zgl;split
 ·have h1:=z0h cl n first b
  have h2:=zf6 h1.1;refine⟨⟨h1.1,fun x i=>(by cases i)⟩,?_⟩;unfold zg8;dsimp only;split<;>omega
 split
 ·have h1:=z9h cl a b;refine⟨h1.1,?_⟩;show zcw s _<=_;omega
 split
 ·have h1:=ye2 cl a n first b f
  refine⟨h1.1,?_⟩;show zex s _<=_;omega
 have h1:=ydx cl a b;refine⟨⟨z7f _ _ _,h1.2.1⟩,?_⟩;show zcu s _<=_;omega
theorem zqw{s:Sh}{cl:Int}{j:Jb}{m:Mem}(h:jbIs s cl j)(p:0<=cl/\cl<s.c)(hd:j.done=false)(o:Fits s m)(l:m.fit):
  Acts cl m (j.step s cl m).2/\jbIs s cl (j.step s cl m).1/\zg8 s (j.step s cl m).1+1<=zg8 s j/\(j.gave=true->(j.step s cl m).1.gave=true):=by
 have hb:=o.bd;cases j with
 |mal r c=>
  obtain⟨h1,h2⟩:=h;have E:zg8 s (.mal r c)=zi3 s r+1:=by unfold zg8;dsimp only;rw[if_neg (by rw[hd];decide)]
  rw[E];unfold Jb.step;dsimp only;rcases Bool.eq_false_or_eq_true r.done with i|i
  ·rw[if_neg (by rw[i];decide)];have hd':(r.done&&(!r.got.isSome||zck c))=false:=hd;rw[i,Bool.true_and,Bool.or_eq_false_iff]at hd';obtain⟨z,n⟩:=hd';rcases hc:c with _|x
   ·rcases hg:r.got with _|b
    ·rw[hg]at z;cases z
    have q:=zlb h1 o.may p hg;have B:zhp s cl r none=some (zc4 s cl b):=by unfold zhp;rw[hg]
    rw[B];dsimp only;have h3:=z3w (t:=zc4 s cl b) (m:=m) q.1 (by simp[zc4,q.1]) o;refine⟨h3.1,⟨h1,fun x y=>?_⟩,?_,fun e=>(by cases e)⟩
    ·injection y with y;subst y;rw[h3.2];exact⟨rfl,rfl,i,hg⟩
    have h4:(Jb.mal r (some (zb3 s (zc4 s cl b) m).1)).done=true:=by show (r.done&&(!r.got.isSome||(zb3 s (zc4 s cl b) m).1.done))=true;rw[i,h3.2];simp
    have D:=zf6 h1;unfold zg8;dsimp only;rw[if_pos h4];omega
   have:=h2 x hc;rw[hc]at n;have n:x.done=false:=n;rw[this.2.1]at n;cases n
  rw[if_pos i];have h3:=zvz h1 i o;refine⟨h3.1,⟨h3.2.1,fun x y=>?_⟩,?_,fun e=>(by cases e)⟩
  ·have:=(h2 x y).2.2.1;rw[i]at this;cases this
  have D:=zf6 h3.2.1;unfold zg8;dsimp only;split<;>omega
 |fre f=>have h1:=z1e h hd o l;exact⟨h1.1,h1.2.1,h1.2.2.1,h1.2.2.2⟩
 |aga r=>
  have h1:=ybk h p hd o l;refine⟨h1.1,h1.2.1,h1.2.2.1,fun e=>?_⟩;show (match (zb9 s r m).1.free with|some f=>f.gave|none=>false)=true;have e:(match r.free with|some f=>f.gave|none=>false)=true:=e;rcases hf1:r.free with _|f
  ·rw[hf1]at e;cases e
  rw[hf1]at e;rcases hf2:(zb9 s r m).1.free with _|C
  ·obtain⟨F,C,z,n,_⟩:=h.ok.cl hd;have:(zb9 s r m).1.free≠none:=by
    unfold zb9;rw[if_neg (by rw[show r.done=false from hd];decide),z,n];dsimp only;split
    ·dsimp only;rw[zfb _ _ _ rfl rfl];exact fun e=>by cases e
    split
    ·dsimp only;rw[zfb _ _ _ rfl rfl];exact fun e=>by cases e
    split
    ·dsimp only;rw[zfb _ _ _ rfl rfl];exact fun e=>by cases e
    ·dsimp only;rw[zfb _ _ _ rfl rfl];exact fun e=>by cases e
    rw[n];exact fun e=>by cases e
   exact absurd hf2 this
  exact h1.2.2.2 f C hf1 hf2 e
 |hei a=>have h1:=yay h.1 hd o l;exact⟨h1.1.of h.2,⟨z0s m h.1,h1.2.1.trans h.2⟩,h1.2.2.2,fun e=>(by cases e)⟩
structure Op3 where
 k:Int
 a:Int
 n:Int
 deriving DecidableEq
def Op3.zero:Op3:=⟨0,0,0⟩
def zdl (s:Sh) (c k a n:Int):Bool:=(k==4 && (decide (zae s.p s.c s.m a < 0) || a==c)) || ((k==1 || k==3) && !lenB n) || ((k==2 || k==3) && !spB s a)
def zk8 (s:Sh) (k n:Int):Bool:=(k==1 || k==3) && wi n 33 512 && decide (s.p < runV n)
def ziu (s:Sh) (c k a n:Int):Bool:=zdl s c k a n || zk8 s k n
def zjw (s:Sh) (c k a n:Int):Int:=if zdl s c k a n=true then 1 else if zk8 s k n=true then 3 else 0
structure Kl where
 c:Int
 first:Int
 op:Op3
 job:Option Jb
 told:Bool
 steps:Int
 deriving DecidableEq
def zht (c first:Int):Kl:=⟨c,first,Op3.zero,none,false,0⟩
def Kl.rests (k:Kl):Bool:= !k.job.isSome
def zbh (c:Int) (o:Op3):Ev:=⟨2,c,o.k,o.a,o.n,0,0,0⟩
def zb5 (c at' n:Int):Ev:=⟨3,c,0,0,0,at',n,0⟩
def zbw (c at':Int):Ev:=⟨4,c,0,0,0,at',0,0⟩
def zaf (c:Int) (o:Op3) (at' e:Int):Ev:=⟨5,c,o.k,o.a,o.n,at',0,e⟩
def Kl.invoke (s:Sh) (k:Kl) (o:Op3):Kl × List Ev × Int:=
 if k.rests=false then (k, [],4)
 else if o.k < 1\/4 < o.k then (k, [],1)
 else if ziu s k.c o.k o.a o.n=true then ({ k with op:=o,told:=false,steps:=0 }, [zbh k.c o,zaf k.c o 0 (zjw s k.c o.k o.a o.n)],0)
 else ({ k with op:=o,told:=false,steps:=0,job:=some (zgl s k.c k.first o.k o.a o.n) }, [zbh k.c o],0)
def zb1:Option Blk->Int
 | some b=> b.at'
 | none=> 0
def Kl.tells (k:Kl) (j:Jb):List Ev:=
 (if j.gave=true/\k.told=false then [zbw k.c k.op.a] else []) ++
 (if j.done=true then (match j.took with | some b=> [zb5 k.c b.at' b.len] | none=> []) ++ [zaf k.c k.op (zb1 j.took) j.err] else [])
def Kl.after (k:Kl) (j:Jb):Kl:= { k with job:=if j.done=true then none else some j,told:=k.told || j.gave,steps:=k.steps + 1 }
def Kl.step (s:Sh) (k:Kl) (m:Mem):Kl × Mem × List Ev × Int:=match k.job with
 | none=> (k,m, [],2)
 | some j=> (k.after (j.step s k.c m).1,(j.step s k.c m).2,k.tells (j.step s k.c m).1,0)
structure klOk (s:Sh) (k:Kl):Prop where
 cl:0<=k.c/\k.c < s.c
 fi:0<=k.first/\k.first < s.p
 jb:∀ j,k.job=some j->jbIs s k.c j/\j.done=false/\(j.gave=true->k.told=true)/\(1<=k.op.k/\k.op.k<=4)
 st:0<=k.steps
 lf:∀ j,k.job=some j->zg8 s j + k.steps<=110 * s.p + 4 * s.m + 60
theorem zeu{s:Sh}{c:Int}(b:mayB s.p s.c s.m=true)(hc:0<=c/\c<s.c):zae s.p s.c s.m c=c:=by unfold zae;rw[if_pos ⟨b,zbc.2 (by omega)⟩]
theorem ybp{s:Sh}{c:Int}(b:mayB s.p s.c s.m=true)(hc:0<=c/\c<s.p):zak s.p s.c s.m c=s.c+c:=by unfold zak;rw[if_pos ⟨b,zbc.2 (by omega)⟩]
theorem zvk{n:Int}(h:wi n 1 32=true):0<zah (zcn n):=by
 have h1:=zwh n;have:zcn n=0\/zcn n=1\/zcn n=2\/zcn n=3:=by omega
 rcases this with e|e|e|e<;>rw[e]<;>decide
theorem zzs{s:Sh}{c k f:Int}(b:mayB s.p s.c s.m=true)(hc:0<=c/\c<s.c)(n:0<zah k)(l:0<=f/\f<s.p):(zhb s c k f).done=false:=by
 have hb:=zar.1 b;have h1:=zeu b hc;have h2:=ybp b l;unfold zhb;rw[if_pos ⟨by omega,n,by omega⟩];rcases Bool.eq_false_or_eq_true (zg3 s c k).done with hd|hd
 ·have i:(ziq s c k f).done=false:=by simp only[ziq,Bool.not_eq_false',Bool.and_eq_true,decide_eq_true_eq];omega
  rw[zm5 (x:= .tk (zg3 s c k)) rfl rfl hd];have j:Sk.after s ⟨c,k,f,some (.tk (zg3 s c k)),0,0,0,false,false⟩ (.tk (zg3 s c k))=⟨c,k,f,some (.sc (ziq s c k f)),0,0,0,false,false⟩:=by simp[Sk.after,zg3]
  rw[j,zgs (.inr (.inr ⟨.sc (ziq s c k f),rfl,i⟩))]
 rw[zgs (.inr (.inr ⟨.tk (zg3 s c k),rfl,hd⟩))]
theorem zo7{s:Sh}{c n f:Int}(j:mayB s.p s.c s.m=true)(hc:0<=c/\c<s.c)(q:0<=f/\f<s.p)(r:lenB n=true)(t:wi n 33 512=true->runV n<=s.p):(zdh s c n f).done=false:=by
 have hb:=zar.1 j;have h1:=zeu j hc;unfold zdh;split
 ·rename_i b;exact zzs j hc (zvk b) q
 split
 ·rename_i _ b;have h2:=t b;have h3:=zbc.1 b;have h4:runV n=(n-1)/64+1:=by unfold runV;rw[if_pos b]
  show (zf8 s c (runV n)).done=false;simp only[zf8,Bool.not_eq_false',Bool.and_eq_true,decide_eq_true_eq];omega
 rename_i o i;have l:wi n 1 512=true:=r;have y:=zbc.1 l;exfalso;by_cases z:n<=32
 ·exact o (zbc.2 (by omega))
 exact i (zbc.2 (by omega))
theorem zpc{s:Sh}{c f k a n:Int}(i:mayB s.p s.c s.m=true)(hc:0<=c/\c<s.c)(q:0<=f/\f<s.p)(r:1<=k/\k<=4)(l:ziu s c k a n=false):(zgl s c f k a n).done=false/\(zgl s c f k a n).gave=false:=by
 have hb:=zar.1 i;have h1:=zeu i hc;unfold ziu at l;rw[Bool.or_eq_false_iff]at l;obtain⟨h2,h3⟩:=l;have:k=1\/k=2\/k=3\/k=4:=by omega
 rcases this with rfl|rfl|rfl|rfl
 ·have b:lenB n=true:=by simpa[zdl] using h2
  have j:wi n 33 512=true->runV n<=s.p:=fun e=>by simpa[zk8,e] using h3
  refine⟨?_,rfl⟩;have o:=zo7 i hc q b j;show ((zdh s c n f).done&&_)=false;rw[o];rfl
 ·have b:spB s a=true:=by simpa[zdl] using h2
  refine⟨?_,rfl⟩;show (zc2 s c a).done=false;simp only[zc2,b,Bool.not_true,Bool.false_or,decide_eq_false_iff_not];omega
 ·have b:lenB n=true/\spB s a=true:=by simpa[zdl] using h2
  have j:wi n 33 512=true->runV n<=s.p:=fun e=>by simpa[zk8,e] using h3
  have o:=zo7 i hc q b.1 j;have e:zhh s c a n f=⟨c,some (zdh s c n f),some (zc2 s c a),none,none,0,false⟩:=by unfold zhh;rw[if_pos ⟨b.2,b.1,by omega⟩];unfold Rr.settle;dsimp only;simp[o]
  show (zhh s c a n f).done=false/\(Jb.aga (zhh s c a n f)).gave=false;rw[e];exact⟨rfl,rfl⟩
 have b:0<=zae s.p s.c s.m a/\a≠c:=by have:=h2;simp only[zdl,beq_self_eq_true,Bool.true_and,Bool.or_eq_false_iff,decide_eq_false_iff_not,beq_eq_false_iff_ne]at this;exact⟨by omega,this.1.1.2⟩
 refine⟨?_,rfl⟩;show (zix s c a).done=false;unfold zix;dsimp only;rw[if_neg (by rintro(h|h|h);omega;omega;exact b.2 h.symm)]
theorem z6w{s:Sh}{c f:Int}(hc:0<=c/\c<s.c)(b:0<=f/\f<s.p):klOk s (zht c f):=⟨hc,b,fun j h=>(by cases h),Int.le_refl _,fun j h=>(by cases h)⟩
theorem zwi{s:Sh}{k:Kl}(o:Op3)(l:mayB s.p s.c s.m=true)(h:klOk s k):klOk s (k.invoke s o).1:=by
 unfold Kl.invoke;split
 ·exact h
 rename_i r;split
 ·exact h
 rename_i t;have b:k.job=none:=by
  cases b:k.job
  ·rfl
  simp[Kl.rests,b]at r
 split
 ·refine⟨h.cl,h.fi,fun j e=>?_,Int.le_refl _,fun j e=>?_⟩
  ·have e:k.job=some j:=e;rw[b]at e;cases e
  have e:k.job=some j:=e;rw[b]at e;cases e
 rename_i f;have f:ziu s k.c o.k o.a o.n=false:=by simpa using f
 have q:=yer (s:=s) k.c k.first o.k o.a o.n l h.cl;have i:=zpc l h.cl h.fi (by omega) f;refine⟨h.cl,h.fi,fun j e=>?_,Int.le_refl _,fun j e=>?_⟩
 ·have e:some (zgl s k.c k.first o.k o.a o.n)=some j:=e;injection e with e;subst e;exact⟨q.1,i.1,fun e=>(by rw[i.2]at e;cases e),(by dsimp only;omega)⟩
 have e:some (zgl s k.c k.first o.k o.a o.n)=some j:=e;injection e with e;subst e;dsimp only;omega
theorem zsh{s:Sh}{k:Kl}{m:Mem}{j:Jb}(h:klOk s k)(i:k.job=some j)(l:Fits s m)(f:m.fit):Acts k.c m (k.step s m).2.1/\klOk s (k.step s m).1:=by
 have hb:=l.bd;obtain⟨h1,h2,h3,h4⟩:=h.jb j i;have hs:=zqw h1 h.cl h2 l f;have n:=h.lf j i;unfold Kl.step;rw[i];dsimp only;refine⟨hs.1,h.cl,h.fi,fun x b=>?_,by have:=h.st;show 0<=k.steps+1;omega,fun x b=>?_⟩
 ·have b:(if (j.step s k.c m).1.done=true then none else some (j.step s k.c m).1)=some x:=b;split at b
  ·cases b
  rename_i hd;injection b with b;subst b;refine⟨hs.2.1,by simpa using hd,fun e=>?_,h4⟩;show (k.told||(j.step s k.c m).1.gave)=true;rw[e];simp
 have b:(if (j.step s k.c m).1.done=true then none else some (j.step s k.c m).1)=some x:=b;split at b
 ·cases b
 injection b with b;subst b;have:=hs.2.2.1;show zg8 s _+(k.steps+1)<=_;omega
theorem z6l(s:Sh)(k:Kl)(m:Mem):(k.step s m).1.c=k.c/\(k.step s m).1.first=k.first/\(k.step s m).1.op=k.op:=by
 unfold Kl.step;split<;>exact⟨rfl,rfl,rfl⟩
theorem yaa(s:Sh)(k:Kl)(o:Op3):(k.invoke s o).1.c=k.c/\(k.invoke s o).1.first=k.first:=by
 unfold Kl.invoke;split
 ·exact⟨rfl,rfl⟩
 split
 ·exact⟨rfl,rfl⟩
 split<;>exact⟨rfl,rfl⟩
theorem z8x{s:Sh}{k:Kl}{j:Jb}(h:klOk s k)(f:0<=s.m)(b:k.job=some j):k.steps+1<=110*s.p+4*s.m+60:=by
 have h1:=h.lf j b;have h2:=ydi (h.jb j b).1 f (h.jb j b).2.1;omega
end Go.Proofs.YtedcnffebdpmmaaGreat

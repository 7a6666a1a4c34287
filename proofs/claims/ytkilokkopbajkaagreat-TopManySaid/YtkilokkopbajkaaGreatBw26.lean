/- Lemmas for the claim. -/
import Derived.Test.YtkilokkopbajkaaGreatBw10

import Derived.Test.YtkilokkopbajkaaGreatBw22

import Derived.Test.YtkilokkopbajkaaGreatBw25

set_option linter.all false
namespace Go.Proofs.YtkilokkopbajkaaGreat

structure rrIs (s:Sh) (cl:Int) (t:Rr):Prop where
 ok:rrOk s t
 c:t.c=cl
 res:∀ r,t.res=some r->rsIs s cl r
 fre:∀ f,t.free=some f->feIs s cl f
 un:∀ u,t.undo=some u->u.c=cl/\(t.done=false->u.done=false)
 cm:∀ u,t.com=some u->u.c=cl/\(t.done=false->u.done=false/\u.b.fits s cl=true)
 mid:t.done=false->(t.undo≠none\/t.com≠none)->∃ r f,t.res=some r/\r.done=true/\t.free=some f/\f.done=true
 fin:t.done=true->t.err=0->∃ r b f,t.res=some r/\r.got=some b/\t.free=some f/\f.gave=true
 gv:∀ u,t.com=some u->∃ r f,t.res=some r/\r.got=some u.b/\t.free=some f/\f.gave=true
 ng:∀ u,t.undo=some u->∃ f,t.free=some f/\f.gave=false
theorem WK{s:Sh}(t:Rr)(r:Rs)(f:Fe)(h1:t.res=some r)(h2:t.free=some f):(t.settle s).free=t.free:=by
 rcases LF s t r f h1 h2 with⟨_,e⟩|⟨_,_,e⟩|⟨_,_,_,e⟩|⟨_,_,_,_,e⟩|⟨b,_,_,_,_,_,e⟩|⟨b,_,_,_,_,_,_,_,_,e⟩|⟨b,_,_,_,_,_,_,_,_,e⟩<;>rw[e]
def SF (t:Rr):Int:=match t.undo,t.com with
 | some u,_=> CD u
 | none,some _=> 1
 | none,none=> 8
def FD (s:Sh) (t:Rr):Int:=if t.done=true then 0 else match t.res,t.free with
 | some r,some f=> sG s r + eC s f + SF t
 | _,_=> 0
theorem DJ{s:Sh}{cl:Int}{t:Rr}{r:Rs}{f:Fe}(O:mayB s.p s.c s.m=true)(C:0<=cl/\cl<s.c)(z:t.done=false)(j:t.res=some r)(i:t.free=some f)(hc:t.c=cl)(G:rsIs s cl r)(S:feIs s cl f)(hu:∀ u,t.undo=some u->u.c=cl/\unOk s u/\r.done=true/\f.done=true/\f.gave=false) (o:∀ u,t.com=some u->u.c=cl/\cmOk s u/\u.b.fits s cl=true/\r.got=some u.b/\f.done=true/\f.gave=true) (T:t.undo=none\/t.com=none)(U:∀ u,t.undo=some u->0<=CD u):
  rrIs s cl (t.settle s)/\FD s (t.settle s)<=sG s r+eC s f+(match t.undo,t.com with|some u,_=>CD u|none,some v=>(if v.done=true then 0 else 1)|none,none=>8)/\(t.settle s).free=some f/\(t.settle s).res=some r:=by
 have hb:=LA.1 O;have B:=FU (t:=t) j i ⟨fun x X=>(G.sk x X).1.ok,fun x X=>(G.rn x X).ok⟩ S.ok (fun u H=>(hu u H).2.1) (fun u H=>(o u H).2.1) T;have n1:=pI G;have n2:=mW S.ok (by omega:0<=s.m);have D:∀ u:Rr,u.done=true->FD s u=0:=fun u e=>by unfold FD;rw[jP e]
 have Z:0<=(match t.undo,t.com with|some u,_=>CD u|none,some v=>(if v.done=true then 0 else 1)|none,none=>8:Int):=by
  rcases h1:t.undo with _|u
  ·rcases h2:t.com with _|v
   ·dsimp only;omega
   dsimp only;split<;>omega
  exact U u h1
 have n:∀ (u:Rr),u.res=t.res->∀ I,u.res=some I->rsIs s cl I:=fun u e I h=>by rw[e,j]at h;injection h with h;subst h;exact G
 have l:∀ (u:Rr),u.free=t.free->∀ I,u.free=some I->feIs s cl I:=fun u e I h=>by rw[e,i]at h;injection h with h;subst h;exact S
 have q:∀ u,t.com=some u->∃ r f,t.res=some r/\r.got=some u.b/\t.free=some f/\f.gave=true:=fun u h=>⟨r,f,j,(o u h).2.2.2.1,i,(o u h).2.2.2.2.2⟩;have y:∀ u,t.undo=some u->∃ f,t.free=some f/\f.gave=false:=fun u h=>⟨f,i,(hu u h).2.2.2.2⟩;rcases LF s t r f j i with⟨h1,e⟩|⟨h1,h2,e⟩|⟨h1,h2,h3,e⟩|⟨h1,h2,h3,h4,e⟩|⟨b,h1,h2,h3,h4,Y,e⟩|⟨b,h1,h2,h3,h4,L,M,J,R,e⟩|⟨b,h1,h2,h3,h4,L,M,J,R,e⟩;all_goals rw[e]at B ⊢
 ·refine⟨⟨B,hc,n _ rfl,l _ rfl,fun u h=>⟨(hu u h).1,fun h=>(by cases h)⟩,fun u h=>⟨(o u h).1,fun h=>(by cases h)⟩,fun h=>(by cases h),fun _ h=>(by cases h),q,y⟩,?_,i,j⟩;rw[D _ rfl];omega
 ·refine⟨⟨B,hc,n _ rfl,l _ rfl,fun u h=>⟨(hu u h).1,fun h=>(by cases h)⟩,fun u h=>⟨(o u h).1,fun h=>(by cases h)⟩,fun h=>(by cases h),fun _ _=>?_,q,y⟩,?_,i,j⟩
  ·rcases h3:t.com with _|u
   ·rw[h3]at h2;cases h2
   have:=o u h3;exact⟨r,u.b,f,j,this.2.2.2.1,i,this.2.2.2.2.2⟩
  rw[D _ rfl];omega
 ·have E:t.undo=none:=by
   rcases h:t.undo with _|u
   ·rfl
   have:=(hu u h).2.2.1;rw[h3]at this;cases this
  have F:t.com=none:=by
   rcases h:t.com with _|u
   ·rfl
   have J:=(MG G O C (o u h).2.2.2.1).2;rw[h3]at J;cases J
  refine⟨⟨B,hc,n _ rfl,l _ rfl,fun u h=>(by rw[E]at h;cases h),fun u h=>(by rw[F]at h;cases h),fun _ h=>(by rcases h with h|h;exact absurd E h;exact absurd F h),fun h=>(by rw[z]at h;cases h),q,y⟩,?_,i,j⟩;unfold FD SF;rw[jN (by rw[z];decide),j,i,E,F];dsimp only;omega
 ·refine⟨⟨B,hc,n _ rfl,l _ rfl,fun u h=>⟨(hu u h).1,fun h=>(by cases h)⟩,fun u h=>⟨(o u h).1,fun h=>(by cases h)⟩,fun h=>(by cases h),fun _ h=>(by cases h),q,y⟩,?_,i,j⟩;rw[D _ rfl];omega
 ·refine⟨⟨B,hc,n _ rfl,l _ rfl,fun u h=>⟨(hu u h).1,fun _=>(by rw[h]at h1;exact h1)⟩,fun u h=>⟨(o u h).1,fun _=>⟨(by rw[h]at h2;exact h2),(o u h).2.2.1⟩⟩,fun _ h=>?_,fun h=>(by rw[z]at h;cases h),q,y⟩,?_,i,j⟩
  ·rcases h with h|h
   ·rcases h':t.undo with _|u
    ·exact absurd h' h
    exact⟨r,f,j,h3,i,(hu u h').2.2.2.1⟩
   rcases h':t.com with _|u
   ·exact absurd h' h
   exact⟨r,f,j,h3,i,(o u h').2.2.2.2.1⟩
  unfold FD SF;rw[jN (by rw[z];decide),j,i];dsimp only;rcases h':t.undo with _|u
  ·rcases h'':t.com with _|v
   ·dsimp only;omega
   have:v.done=false:=by rw[h'']at h2;exact h2
   dsimp only;rw[jN (by rw[this];decide)];omega
  dsimp only;omega
 ·have N:=MG G O C h4;refine⟨⟨B,hc,n _ rfl,l _ rfl,fun u h=>⟨(hu u h).1,fun _=>(by have h:t.undo=some u:=h;rw[L]at h;cases h)⟩,fun u h=>?_,fun _ _=>⟨r,f,j,h3,i,J⟩,fun h=>(by have h:t.done=true:=h;rw[z]at h;cases h),fun u h=>?_,y⟩,?_,i,j⟩
  ·have h:some (rB s t.c b)=some u:=h;injection h with h;subst h;exact⟨hc,fun _=>⟨by simp[rB,hc,N.1],N.1⟩⟩
  ·have h:some (rB s t.c b)=some u:=h;injection h with h;subst h;exact⟨r,f,j,h4,i,R⟩
  unfold FD SF;dsimp only;rw[jN (by rw[z];decide),j,i,L,M];dsimp only;omega
 have N:=MG G O C h4;have V:=BZ t.c b (by rw[hc];exact N.1);refine⟨⟨B,hc,n _ rfl,l _ rfl,fun u h=>?_,fun u h=>⟨(o u h).1,fun _=>(by have h:t.com=some u:=h;rw[M]at h;cases h)⟩,fun _ _=>⟨r,f,j,h3,i,J⟩,fun h=>(by have h:t.done=true:=h;rw[z]at h;cases h),q,fun u h=>⟨f,i,R⟩⟩,?_,i,j⟩
 ·have h:some (NC s t.c b)=some u:=h;injection h with h;subst h;exact⟨hc,fun _=>V.2⟩
 unfold FD SF;dsimp only;rw[jN (by rw[z];decide),j,i,L,M];dsimp only;omega
theorem JZ{s:Sh}(c a n first:Int)(b:mayB s.p s.c s.m=true)(f:0<=c/\c<s.c):rrIs s c (iD s c a n first)/\FD s (iD s c a n first)<=67*s.p+2*s.m+53:=by
 have hb:=LA.1 b;have i:=z4q s c a n first
 unfold iD at i ⊢;split at i<;>rename_i h
 ·rw[jP h];have h1:=bO c n first b
  have h2:=RT c a b;have h3:=DJ (t:=⟨c,some (CB s c n first),some (nB s c a),none,none,0,false⟩) b f rfl rfl rfl rfl h1.1 h2.1 (fun u h=>(by cases h)) (fun u h=>(by cases h)) (.inl rfl) (fun u h=>(by cases h));refine⟨h3.1,Int.le_trans h3.2.1 ?_⟩;dsimp only;omega
 rw[jN h];refine⟨⟨i,rfl,fun r h=>(by cases h),fun r h=>(by cases h),fun r h=>(by cases h),fun r h=>(by cases h),fun h=>(by cases h),fun _ h=>(by cases h),fun u h=>(by cases h),fun u h=>(by cases h)⟩,?_⟩;unfold FD;rw[jP rfl];omega
theorem LY{s:Sh}{cl:Int}{t:Rr}{m:Mem}(h:rrIs s cl t)(C:0<=cl/\cl<s.c)(hd:t.done=false)(D:Fits s m)(L:m.fit):
  Acts cl m (GB s t m).2/\rrIs s cl (GB s t m).1/\FD s (GB s t m).1+1<=FD s t/\(∀ f F,t.free=some f->(GB s t m).1.free=some F->f.gave=true->F.gave=true):=by
 have hb:=D.bd;obtain⟨r,f,j,b,Z,Y,M,X,I,J⟩:=h.ok.cl hd;have V:FD s t=sG s r+eC s f+SF t:=by unfold FD;rw[jN (by rw[hd];decide),j,b]
 have R:=h.res r j;have E:=h.fre f b;rw[V];rcases jB r.done with o|o;case inr=>
  have hs:GB s t m=(Rr.settle s {t with res:=some (yB s r m).1},(yB s r m).2):=by unfold GB;simp[hd,j,b,o]
  have q:t.undo=none/\t.com=none:=by
   refine⟨?_,?_⟩
   ·rcases h1:t.undo with _|u
    ·rfl
    obtain⟨S,F,i,l,_⟩:=h.mid hd (.inl (by rw[h1];exact fun e=>by cases e));rw[j]at i;injection i with i;subst i;rw[o]at l;cases l
   rcases h1:t.com with _|u
   ·rfl
   obtain⟨S,F,i,l,_⟩:=h.mid hd (.inr (by rw[h1];exact fun e=>by cases e));rw[j]at i;injection i with i;subst i;rw[o]at l;cases l
  have h1:=pQ R o D;have h2:=DJ (t:= {t with res:=some (yB s r m).1}) D.may C hd rfl b h.c h1.2.1 E (fun u e=>(by have e:t.undo=some u:=e;rw[q.1]at e;cases e)) (fun u e=>(by have e:t.com=some u:=e;rw[q.2]at e;cases e)) I (fun u e=>(by have e:t.undo=some u:=e;rw[q.1]at e;cases e));rw[hs];refine⟨h1.1,h2.1,?_,fun f1 f2 i l H=>?_⟩
  ·have h3:=h2.2.1;dsimp only at h3 ⊢;rw[q.1,q.2]at h3;unfold SF;rw[q.1,q.2];dsimp only at h3 ⊢;omega
  dsimp only at l;rw[h2.2.2.1]at l;rw[b]at i;injection i with i;injection l with l;rw[<-l,i];exact H
 rcases jB f.done with n|n;case inr=>
  have hs:GB s t m=(Rr.settle s {t with free:=some (KB s f m).1},(KB s f m).2):=by unfold GB;simp[hd,j,b,o,n]
  have q:t.undo=none/\t.com=none:=by
   refine⟨?_,?_⟩
   ·rcases h1:t.undo with _|u
    ·rfl
    obtain⟨S,F,_,_,i,l⟩:=h.mid hd (.inl (by rw[h1];exact fun e=>by cases e));rw[b]at i;injection i with i;subst i;rw[n]at l;cases l
   rcases h1:t.com with _|u
   ·rfl
   obtain⟨S,F,_,_,i,l⟩:=h.mid hd (.inr (by rw[h1];exact fun e=>by cases e));rw[b]at i;injection i with i;subst i;rw[n]at l;cases l
  have h1:=PS E n D L;have h2:=DJ (t:= {t with free:=some (KB s f m).1}) D.may C hd j rfl h.c R h1.2.1 (fun u e=>(by have e:t.undo=some u:=e;rw[q.1]at e;cases e)) (fun u e=>(by have e:t.com=some u:=e;rw[q.2]at e;cases e)) I (fun u e=>(by have e:t.undo=some u:=e;rw[q.1]at e;cases e));rw[hs];refine⟨h1.1,h2.1,?_,fun f1 f2 i l H=>?_⟩
  ·have h3:=h2.2.1;dsimp only at h3 ⊢;rw[q.1,q.2]at h3;unfold SF;rw[q.1,q.2];dsimp only at h3 ⊢;omega
  dsimp only at l;rw[h2.2.2.1]at l;rw[b]at i;injection i with i;injection l with l;subst i;rw[<-l];exact h1.2.2.2 H
 rcases hun:t.undo with _|u
 ·rcases p:t.com with _|v
  ·rcases J o n with e|e
   ·exact absurd hun e
   exact absurd p e
  have hs:GB s t m=(Rr.settle s {t with com:=some (zB s v m).1},(zB s v m).2):=by unfold GB;simp[hd,j,b,o,n,hun,p]
  have hv:=h.cm v p;obtain⟨z,y⟩:=hv;obtain⟨y,N⟩:=y hd;obtain⟨S,F,O,U,B,T⟩:=h.gv v p;rw[j]at O;injection O with O;subst O;rw[b]at B;injection B with B;subst B;have h1:=rT (m:=m) (by rw[z];exact N) y D
  have h2:=DJ (t:= {t with com:=some (zB s v m).1}) D.may C hd j b h.c R E (fun u e=>(by have e:t.undo=some u:=e;rw[hun]at e;cases e)) (fun u e=>(by
   have e:some (zB s v m).1=some u:=e
   injection e with e;subst e
   rw[h1.2]
   exact⟨z,fun e=>(by cases e),N,U,n,T⟩)) (.inl hun) (fun u e=>(by have e:t.undo=some u:=e;rw[hun]at e;cases e))
  rw[hs];refine⟨h1.1.of z,h2.1,?_,fun f1 f2 i l H=>?_⟩
  ·have h3:=h2.2.1;dsimp only at h3 ⊢;rw[hun,h1.2]at h3;unfold SF;rw[hun,p];dsimp only at h3 ⊢;rw[jP rfl]at h3;rw[h1.2];omega
  dsimp only at l;rw[h2.2.2.1]at l;rw[b]at i;injection i with i;injection l with l;rw[<-l,i];exact H
 have p:t.com=none:=by
  rcases I with e|e
  ·rw[hun]at e;cases e
  exact e
 have hs:GB s t m=(Rr.settle s {t with undo:=some (LB s u m).1},(LB s u m).2):=by unfold GB;simp[hd,j,b,o,n,hun,p]
 obtain⟨z,y⟩:=h.un u hun;have y:=y hd;obtain⟨F,B,T⟩:=h.ng u hun;rw[b]at B;injection B with B;subst B;have h1:=TY (M u hun) y D;have G:=z0o m (M u hun);have nn:0<=CD (LB s u m).1:=by
  rcases jB (LB s u m).1.done with e|e
  ·unfold CD;rw[jP e];omega
  have:=ET G e;omega
 have h2:=DJ (t:= {t with undo:=some (LB s u m).1}) D.may C hd j b h.c R E (fun v e=>(by
   have e:some (LB s u m).1=some v:=e
   injection e with e;subst e
   exact⟨h1.2.1.trans z,G,o,n,T⟩)) (fun u e=>(by have e:t.com=some u:=e;rw[p]at e;cases e)) (.inr p) (fun v e=>(by
   have e:some (LB s u m).1=some v:=e
   injection e with e;subst e;exact nn))
 rw[hs];refine⟨h1.1.of z,h2.1,?_,fun f1 f2 i l H=>?_⟩
 ·have h3:=h2.2.1;dsimp only at h3 ⊢;unfold SF;rw[hun];dsimp only;omega
 dsimp only at l;rw[h2.2.2.1]at l;rw[b]at i;injection i with i;injection l with l;rw[<-l,i];exact H
theorem pZ{s:Sh}{cl:Int}{t:Rr}(h:rrIs s cl t)(p:0<=s.m)(hd:t.done=false):1<=FD s t:=by
 obtain⟨r,f,i,b,y,o,l,n,q,j⟩:=h.ok.cl hd;have n1:=pI (h.res r i);have n2:=mW (h.fre f b).ok p;unfold FD SF;rw[jN (by rw[hd];decide),i,b];dsimp only;rcases hun:t.undo with _|u
 ·rcases hcm:t.com with _|v<;>dsimp only<;>omega
 have:=ET (l u hun) ((h.un u hun).2 hd);dsimp only;omega
def adL (s:Sh) (n a i k:Int):Int:=
 if n=0 then 3 + 55 * s.p + s.m + 1
 else if n=1 then 2 + 55 * s.p + s.m + 1
 else if n=2 then 1 + 55 * s.p + s.m + 1
 else if n=3 then 3 * (s.p - a) + 52 * s.p + s.m + 1
 else if n=4 then 3 * (s.p - a) - 1 + 52 * s.p + s.m + 1
 else if n=5 then 3 * (s.p - a) - 2 + 52 * s.p + s.m + 1
 else if n=6 then 18 * (s.p - a) + 34 * s.p + s.m + 1
 else if n=7 then 18 * (s.p - a - 1) + (16 - i) + 1 + 34 * s.p + s.m + 1
 else if n=8 then 18 * (s.p - a - 1) + 1 + 34 * s.p + s.m + 1
 else if n=9 then s.m - i + 34 * s.p + 1
 else if n=10 then 34 * (s.p - a) + 1
 else if n=11 then 34 * (s.p - a - 1) + 2 * (k - i) + 1
 else if n=12 then 34 * (s.p - a - 1) + 2 * (k - i)
 else 1
theorem SM(s:Sh)(a i k:Int):adL s 0 a i k=3+55*s.p+s.m+1:=by simp[adL]
theorem TM(s:Sh)(a i k:Int):adL s 1 a i k=2+55*s.p+s.m+1:=by simp[adL]
theorem PK(s:Sh)(a i k:Int):adL s 2 a i k=1+55*s.p+s.m+1:=by simp[adL]
theorem AK(s:Sh)(a i k:Int):adL s 3 a i k=3*(s.p-a)+52*s.p+s.m+1:=by simp[adL]
theorem OM(s:Sh)(a i k:Int):adL s 4 a i k=3*(s.p-a)-1+52*s.p+s.m+1:=by simp[adL]
theorem uO(s:Sh)(a i k:Int):adL s 5 a i k=3*(s.p-a)-2+52*s.p+s.m+1:=by simp[adL]
theorem GK(s:Sh)(a i k:Int):adL s 6 a i k=18*(s.p-a)+34*s.p+s.m+1:=by simp[adL]
theorem KK(s:Sh)(a i k:Int):adL s 7 a i k=18*(s.p-a-1)+(16-i)+1+34*s.p+s.m+1:=by simp[adL]
theorem sO(s:Sh)(a i k:Int):adL s 8 a i k=18*(s.p-a-1)+1+34*s.p+s.m+1:=by simp[adL]
theorem DK(s:Sh)(a i k:Int):adL s 9 a i k=s.m-i+34*s.p+1:=by simp[adL]
theorem NJ(s:Sh)(a i k:Int):adL s 10 a i k=34*(s.p-a)+1:=by simp[adL]
theorem IM(s:Sh)(a i k:Int):adL s 11 a i k=34*(s.p-a-1)+2*(k-i)+1:=by simp[adL]
theorem ZN(s:Sh)(a i k:Int):adL s 12 a i k=34*(s.p-a-1)+2*(k-i):=by simp[adL]
theorem cO(s:Sh)(a i k:Int):adL s 13 a i k=1:=by simp[adL]
def dC (s:Sh) (t:Ad):Int:=if t.done=true then 0 else adL s t.next t.at' t.i (mA t.pa)
theorem IZ{s:Sh}{t:Ad}(h:adOk s t)(hd:t.done=false):1<=dC s t:=by
 obtain⟨b,c1,c2,c3,c4,c5,c6,c7,c8,c9⟩:=h.cl hd;have hb:=LA.1 b;unfold dC;rw[jN (by rw[hd];decide)];have:t.next=0\/t.next=1\/t.next=2\/t.next=3\/t.next=4\/t.next=5\/t.next=6\/t.next=7\/t.next=8\/t.next=9\/t.next=10\/t.next=11\/t.next=12\/t.next=13:=by omega
 rcases this with e|e|e|e|e|e|e|e|e|e|e|e|e|e
 ·rw[e,SM];omega
 ·rw[e,TM];omega
 ·rw[e,PK];omega
 ·rw[e,AK];omega
 ·rw[e,OM];omega
 ·rw[e,uO];omega
 ·rw[e,GK];omega
 ·rw[e,KK];omega
 ·rw[e,sO];omega
 ·rw[e,DK];omega
 ·rw[e,NJ];omega
 ·rw[e,IM];omega
 ·rw[e,ZN];omega
 rw[e,cO];omega
theorem yU{s:Sh}(t:Ad)(hd:t.done=false)(again next:Int)(o:1<=s.p)(n:0<=s.m)(h4:0<=t.at'/\t.at'<s.p)(l:(again=3/\next=6)\/(again=6/\next=9)\/(again=10/\next=13)):
  dC s (t.turn s again next)<=(if again=3 then 3*(s.p-t.at'-1)+52*s.p+s.m+1 else if again=6 then 18*(s.p-t.at'-1)+34*s.p+s.m+1 else 34*(s.p-t.at'-1)+1)/\(t.turn s again next).c=t.c/\(t.turn s again next).d=t.d:=by
 have j:=FP s t again next
 simp only[beq_eq_false_iff_ne,ne_eq]at j;have f:¬ t.done=true:=by rw[hd];decide
 rcases l with⟨rfl,rfl⟩|⟨rfl,rfl⟩|⟨rfl,rfl⟩
 ·rw[jP rfl];rcases j with⟨k1,b,i,e⟩|⟨k1,b,i,e⟩|⟨k1,b,e⟩|⟨k1,b,i,e⟩|⟨k1,b,i,e⟩|⟨k1,b,e⟩
  ·omega
  ·omega
  ·rw[e];refine⟨?_,rfl,rfl⟩;unfold dC;dsimp only;rw[jN f,GK];omega
  ·omega
  ·omega
  rw[e];refine⟨?_,rfl,rfl⟩;unfold dC;dsimp only;rw[jN f,AK];omega
 ·rw[jN (by decide),jP rfl];rcases j with⟨k1,b,i,e⟩|⟨k1,b,i,e⟩|⟨k1,b,e⟩|⟨k1,b,i,e⟩|⟨k1,b,i,e⟩|⟨k1,b,e⟩
  ·rw[e];refine⟨?_,rfl,rfl⟩;unfold dC;dsimp only;rw[jN f,NJ];omega
  ·rw[e];refine⟨?_,rfl,rfl⟩;unfold dC;dsimp only;rw[jN f,DK];omega
  ·omega
  ·omega
  ·omega
  rw[e];refine⟨?_,rfl,rfl⟩;unfold dC;dsimp only;rw[jN f,GK];omega
 rw[jN (by decide),jN (by decide)];rcases j with⟨k1,b,i,e⟩|⟨k1,b,i,e⟩|⟨k1,b,e⟩|⟨k1,b,i,e⟩|⟨k1,b,i,e⟩|⟨k1,b,e⟩
 ·omega
 ·omega
 ·rw[e];refine⟨?_,rfl,rfl⟩;unfold dC;dsimp only;rw[jN f,cO];omega
 ·omega
 ·omega
 rw[e];refine⟨?_,rfl,rfl⟩;unfold dC;dsimp only;rw[jN f,NJ];omega
theorem nU{s:Sh}(t:Ad)(hd:t.done=false)(f:1<=s.p)(b:0<=s.m)(h4:0<=t.at'/\t.at'<s.p)(hi:0<=t.i/\t.i<mA t.pa):
  dC s (t.slot s)<=34*(s.p-t.at'-1)+2*(mA t.pa-t.i)-1/\(t.slot s).c=t.c/\(t.slot s).d=t.d:=by
 unfold Ad.slot;split
 ·have:=yU (s:=s) {t with i:=0,next:=11} hd 10 13 f b h4 (.inr (.inr ⟨rfl,rfl⟩));rw[jN (by decide),jN (by decide)]at this;dsimp only at this;exact⟨by omega,this.2⟩
 refine⟨?_,rfl,rfl⟩;unfold dC;dsimp only;rw[jN (by rw[hd];decide),IM];omega
theorem GZ{s:Sh}(c d:Int)(b:mayB s.p s.c s.m=true):dC s (jD s c d)<=55*s.p+s.m+4/\(jD s c d).c=c/\(jD s c d).d=d:=by
 have hb:=LA.1 b;unfold jD;dsimp only;split
 ·refine⟨?_,rfl,rfl⟩;unfold dC Ad.fin;rw[jP rfl];omega
 refine⟨?_,rfl,rfl⟩;unfold dC;dsimp only;rw[jN (by decide),SM];omega
theorem sY{s:Sh}{t:Ad}{m:Mem}(h:adOk s t)(hd:t.done=false)(n:Fits s m)(C:m.fit):Acts t.c m (EA s t m).2/\(EA s t m).1.c=t.c/\(EA s t m).1.d=t.d/\dC s (EA s t m).1+1<=dC s t:=by
 obtain⟨J,c1,c2,c3,c4,c5,c6,c7,c8,c9⟩:=h.cl hd;have hb:=n.bd;have z:¬ t.done=true:=by rw[hd];decide
 have l:=n.ID c4;have o:=n.oD c2;have f:∀ (u:Ad) e,dC s (u.fin e)=0:=fun u e=>by unfold dC Ad.fin;rw[jP rfl]
 have y:∀ a x,(t.keep s a x).c=t.c/\(t.keep s a x).d=t.d/\(t.keep s a x).done=t.done/\(t.keep s a x).at'=t.at':=fun a x=>⟨rfl,rfl,rfl,rfl⟩
 have q:∀ (u:Ad),u.done=t.done->u.at'=t.at'->u.c=t.c->u.d=t.d->∀ b next,((b=3/\next=6)\/(b=6/\next=9)\/(b=10/\next=13))->
   dC s (u.turn s b next)<=(if b=3 then 3*(s.p-t.at'-1)+52*s.p+s.m+1 else if b=6 then 18*(s.p-t.at'-1)+34*s.p+s.m+1 else 34*(s.p-t.at'-1)+1)/\(u.turn s b next).c=t.c/\(u.turn s b next).d=t.d:=fun u E F G H b next I=>by
  have:=yU (s:=s) u (E.trans hd) b next (by omega) (by omega) (by omega) I
  rw[F,G,H]at this
  exact this
 have r:t.next=0\/t.next=1\/t.next=2\/t.next=3\/t.next=4\/t.next=5\/t.next=6\/t.next=7\/t.next=8\/t.next=9\/t.next=10\/t.next=11\/t.next=12\/t.next=13:=by omega
 have j:dC s t=adL s t.next t.at' t.i (mA t.pa):=by unfold dC;rw[jN z]
 have hS:∀ (u:Ad),u.done=false->dC s u=adL s u.next u.at' u.i (mA u.pa):=fun u D=>by unfold dC;rw[jN (by rw[D];decide)]
 rcases r with e|e|e|e|e|e|e|e|e|e|e|e|e|e
 ·rw[KL s t m hd e,j,e,SM];unfold Ad.asked;dsimp only;refine⟨.load o,?_⟩;split
  ·exact⟨rfl,rfl,by rw[hS _ (by exact hd)];dsimp only;rw[PK];omega⟩
  split
  ·exact⟨rfl,rfl,by rw[f];omega⟩
  split
  ·exact⟨rfl,rfl,by rw[f];omega⟩
  exact⟨rfl,rfl,by rw[hS _ (by exact hd)];dsimp only;rw[TM];omega⟩
 ·rw[gM s t m hd e,j,e,TM];dsimp only;refine⟨.load (n.oD (c5 e)),?_⟩;split
  ·exact⟨rfl,rfl,by rw[f];omega⟩
  exact⟨rfl,rfl,by rw[hS _ (by exact hd)];dsimp only;rw[PK];omega⟩
 ·rw[WL s t m hd e,j,e,PK];dsimp only;refine⟨.swap o (HH _ _),?_⟩;split
  ·exact⟨rfl,rfl,by rw[hS _ (by exact hd)];dsimp only;rw[AK];omega⟩
  exact⟨rfl,rfl,by rw[f];omega⟩
 ·rw[RL s t m hd e,j,e,AK];dsimp only;refine⟨.load l,?_⟩;split
  ·exact⟨rfl,rfl,by rw[hS _ (by exact hd)];dsimp only[Ad.page];rw[OM];omega⟩
  have:=q (t.page s t.at' (m.get (pA s.p s.c s.m t.at'))) rfl rfl rfl rfl 3 6 (.inl ⟨rfl,rfl⟩);exact⟨this.2.1,this.2.2,by have:=this.1;simp at this;omega⟩
 ·rw[bM s t m hd e,j,e,OM];dsimp only;refine⟨.load (n.ID (c6 e)),?_⟩;split
  ·exact⟨rfl,rfl,by rw[hS _ (by exact hd)];dsimp only;rw[uO];omega⟩
  have:=q t rfl rfl rfl rfl 3 6 (.inl ⟨rfl,rfl⟩);exact⟨this.2.1,this.2.2,by have:=this.1;simp at this;omega⟩
 ·rw[OL s t m hd e,j,e,uO];dsimp only;refine⟨.store l aG,?_⟩;have:=q t rfl rfl rfl rfl 3 6 (.inl ⟨rfl,rfl⟩);exact⟨this.2.1,this.2.2,by have:=this.1;simp at this;omega⟩
 ·rw[iM s t m hd e,j,e,GK];dsimp only;refine⟨.load l,?_⟩;split
  ·exact⟨rfl,rfl,by rw[hS _ (by exact hd)];dsimp only;rw[KK];omega⟩
  have:=q t rfl rfl rfl rfl 6 9 (.inr (.inl ⟨rfl,rfl⟩));exact⟨this.2.1,this.2.2,by have:=this.1;simp at this;omega⟩
 ·rw[ML s t m hd e,j,e,KK];have c7:=c7 e;dsimp only;refine⟨.store (n.ME c4 (by omega)) aG,?_⟩;split
  ·exact⟨rfl,rfl,by rw[hS _ (by exact hd)];dsimp only;rw[sO];omega⟩
  exact⟨rfl,rfl,by rw[hS _ (by exact hd)];dsimp only;rw[KK];omega⟩
 ·rw[QL s t m hd e,j,e,sO];dsimp only;refine⟨.store l aG,?_⟩;have:=q t rfl rfl rfl rfl 6 9 (.inr (.inl ⟨rfl,rfl⟩));exact⟨this.2.1,this.2.2,by have:=this.1;simp at this;omega⟩
 ·rw[SL s t m hd e,j,e,DK];have c8:=c8 e;dsimp only;refine⟨.store (n.magA c2 c8) aG,?_⟩;split
  ·exact⟨rfl,rfl,by rw[hS _ (by exact hd)];dsimp only;rw[NJ];omega⟩
  exact⟨rfl,rfl,by rw[hS _ (by exact hd)];dsimp only;rw[DK];omega⟩
 ·rw[zL s t m hd e,j,e,NJ];dsimp only;refine⟨.load l,?_⟩;split
  ·refine⟨rfl,rfl,?_⟩;have:mA (pgP s t.at' (m.get (pA s.p s.c s.m t.at')) 0)<=16:=by
    by_cases h:0<mA (pgP s t.at' (m.get (pA s.p s.c s.m t.at')) 0)
    ·exact(MD h).2.2.2
    omega
   rw[hS _ (by exact hd)];dsimp only[Ad.page];rw[IM];omega
  have:=q (t.page s t.at' (m.get (pA s.p s.c s.m t.at'))) rfl rfl rfl rfl 10 13 (.inr (.inr ⟨rfl,rfl⟩));exact⟨this.2.1,this.2.2,by have:=this.1;simp at this;omega⟩
 ·rw[BL s t m hd e,j,e,IM];have c9:=c9 (.inl e);have B:=MD c9.1;dsimp only;refine⟨.load (n.ME c4 (by omega)),?_⟩;split
  ·exact⟨rfl,rfl,by rw[hS _ (by exact hd)];dsimp only;rw[ZN];omega⟩
  have:=nU (s:=s) t hd (by omega) (by omega) c4 c9.2;exact⟨this.2.1,this.2.2,by have:=this.1;omega⟩
 ·rw[GL s t m hd e,j,e,ZN];have c9:=c9 (.inr e);have B:=MD c9.1;dsimp only;refine⟨.store (n.ME c4 (by omega)) (EE _ _),?_⟩;have:=nU (s:=s) t hd (by omega) (by omega) c4 c9.2;exact⟨this.2.1,this.2.2,by have:=this.1;omega⟩
 rw[uL s t m hd e,j,e,cO];dsimp only;exact⟨.store o (HH _ _),rfl,rfl,by rw[f];omega⟩
def jbIs (s:Sh) (cl:Int):Jb->Prop
 | .mal r c=> rsIs s cl r/\∀ x,c=some x->x.c=cl/\x.done=true/\r.done=true/\r.got=some x.b
 | .fre f=> feIs s cl f
 | .aga r=> rrIs s cl r
 | .hei a=> adOk s a/\a.c=cl
def mF (s:Sh) (j:Jb):Int:=match j with
 | .mal r c=> if j.done=true then 0 else sG s r + 1
 | .fre f=> eC s f
 | .aga r=> FD s r
 | .hei a=> dC s a
theorem AZ{s:Sh}{cl:Int}{j:Jb}(h:jbIs s cl j)(b:0<=s.m)(hd:j.done=false):1<=mF s j:=by
 cases j with
 |mal r c=>have:=pI h.1;unfold mF;dsimp only;rw[jN (by rw[hd];decide)];omega
 |fre f=>exact ST h.ok b hd
 |aga r=>exact pZ h b hd
 |hei a=>exact IZ h.1 hd
theorem GQ{s:Sh}(cl first kind a n:Int)(b:mayB s.p s.c s.m=true)(f:0<=cl/\cl<s.c):jbIs s cl (UB s cl first kind a n)/\mF s (UB s cl first kind a n)<=110*s.p+4*s.m+60:=by
 have hb:=LA.1 b;unfold UB;split
 ·have h1:=bO cl n first b
  have h2:=pI h1.1;refine⟨⟨h1.1,fun x i=>(by cases i)⟩,?_⟩;unfold mF;dsimp only;split<;>omega
 split
 ·have h1:=RT cl a b;refine⟨h1.1,?_⟩;show eC s _<=_;omega
 split
 ·have h1:=JZ cl a n first b f
  refine⟨h1.1,?_⟩;show FD s _<=_;omega
 have h1:=GZ cl a b;refine⟨⟨z7f _ _ _,h1.2.1⟩,?_⟩;show dC s _<=_;omega
theorem MJ{s:Sh}{cl:Int}{j:Jb}{m:Mem}(h:jbIs s cl j)(p:0<=cl/\cl<s.c)(hd:j.done=false)(o:Fits s m)(l:m.fit):
  Acts cl m (j.step s cl m).2/\jbIs s cl (j.step s cl m).1/\mF s (j.step s cl m).1+1<=mF s j/\(j.gave=true->(j.step s cl m).1.gave=true):=by
 have hb:=o.bd;cases j with
 |mal r c=>
  obtain⟨h1,h2⟩:=h;have E:mF s (.mal r c)=sG s r+1:=by unfold mF;dsimp only;rw[jN (by rw[hd];decide)]
  rw[E];unfold Jb.step;dsimp only;rcases jB r.done with i|i
  ·rw[jN (by rw[i];decide)];have hd':(r.done&&(!r.got.isSome||KC c))=false:=hd;rw[i,Bool.true_and,Bool.or_eq_false_iff]at hd';obtain⟨z,n⟩:=hd';rcases hc:c with _|x
   ·rcases hg:r.got with _|b
    ·rw[hg]at z;cases z
    have q:=MG h1 o.may p hg;have B:VF s cl r none=some (rB s cl b):=by unfold VF;rw[hg]
    rw[B];dsimp only;have h3:=rT (t:=rB s cl b) (m:=m) q.1 (by simp[rB,q.1]) o;refine⟨h3.1,⟨h1,fun x y=>?_⟩,?_,fun e=>(by cases e)⟩
    ·injection y with y;subst y;rw[h3.2];exact⟨rfl,rfl,i,hg⟩
    have h4:(Jb.mal r (some (zB s (rB s cl b) m).1)).done=true:=by show (r.done&&(!r.got.isSome||(zB s (rB s cl b) m).1.done))=true;rw[i,h3.2];simp
    have D:=pI h1;unfold mF;dsimp only;rw[jP h4];omega
   have:=h2 x hc;rw[hc]at n;have n:x.done=false:=n;rw[this.2.1]at n;cases n
  rw[jP i];have h3:=pQ h1 i o;refine⟨h3.1,⟨h3.2.1,fun x y=>?_⟩,?_,fun e=>(by cases e)⟩
  ·have:=(h2 x y).2.2.1;rw[i]at this;cases this
  have D:=pI h3.2.1;unfold mF;dsimp only;split<;>omega
 |fre f=>have h1:=PS h hd o l;exact⟨h1.1,h1.2.1,h1.2.2.1,h1.2.2.2⟩
 |aga r=>
  have h1:=LY h p hd o l;refine⟨h1.1,h1.2.1,h1.2.2.1,fun e=>?_⟩;show (match (GB s r m).1.free with|some f=>f.gave|none=>false)=true;have e:(match r.free with|some f=>f.gave|none=>false)=true:=e;rcases hf1:r.free with _|f
  ·rw[hf1]at e;cases e
  rw[hf1]at e;rcases hf2:(GB s r m).1.free with _|C
  ·obtain⟨F,C,z,n,_⟩:=h.ok.cl hd;have:(GB s r m).1.free≠none:=by
    unfold GB;rw[jN (by rw[show r.done=false from hd];decide),z,n];dsimp only;split
    ·dsimp only;rw[WK _ _ _ rfl rfl];exact fun e=>by cases e
    split
    ·dsimp only;rw[WK _ _ _ rfl rfl];exact fun e=>by cases e
    split
    ·dsimp only;rw[WK _ _ _ rfl rfl];exact fun e=>by cases e
    ·dsimp only;rw[WK _ _ _ rfl rfl];exact fun e=>by cases e
    rw[n];exact fun e=>by cases e
   exact absurd hf2 this
  exact h1.2.2.2 f C hf1 hf2 e
 |hei a=>have h1:=sY h.1 hd o l;exact⟨h1.1.of h.2,⟨z0s m h.1,h1.2.1.trans h.2⟩,h1.2.2.2,fun e=>(by cases e)⟩
structure Op3 where
 k:Int
 a:Int
 n:Int
 deriving DecidableEq
def Op3.zero:Op3:=⟨0,0,0⟩
def RD (s:Sh) (c k a n:Int):Bool:=(k==4 && (decide (zA s.p s.c s.m a < 0) || a==c)) || ((k==1 || k==3) && !lenB n) || ((k==2 || k==3) && !spB s a)
def LG (s:Sh) (k n:Int):Bool:=(k==1 || k==3) && wi n 33 512 && decide (s.p < runV n)
def zD (s:Sh) (c k a n:Int):Bool:=RD s c k a n || LG s k n
def WC (s:Sh) (c k a n:Int):Int:=if RD s c k a n=true then 1 else if LG s k n=true then 3 else 0
structure Kl where
 c:Int
 first:Int
 op:Op3
 job:Option Jb
 told:Bool
 steps:Int
 deriving DecidableEq
def xE (c first:Int):Kl:=⟨c,first,Op3.zero,none,false,0⟩
def Kl.rests (k:Kl):Bool:= !k.job.isSome
def NA (c:Int) (o:Op3):Ev:=⟨2,c,o.k,o.a,o.n,0,0,0⟩
def kE (c at' n:Int):Ev:=⟨3,c,0,0,0,at',n,0⟩
def pE (c at':Int):Ev:=⟨4,c,0,0,0,at',0,0⟩
def OA (c:Int) (o:Op3) (at' e:Int):Ev:=⟨5,c,o.k,o.a,o.n,at',0,e⟩
def Kl.invoke (s:Sh) (k:Kl) (o:Op3):Kl × List Ev × Int:=
 if k.rests=false then (k, [],4)
 else if o.k < 1\/4 < o.k then (k, [],1)
 else if zD s k.c o.k o.a o.n=true then ({ k with op:=o,told:=false,steps:=0 }, [NA k.c o,OA k.c o 0 (WC s k.c o.k o.a o.n)],0)
 else ({ k with op:=o,told:=false,steps:=0,job:=some (UB s k.c k.first o.k o.a o.n) }, [NA k.c o],0)
def sB:Option Blk->Int
 | some b=> b.at'
 | none=> 0
def Kl.tells (k:Kl) (j:Jb):List Ev:=
 (if j.gave=true/\k.told=false then [pE k.c k.op.a] else []) ++
 (if j.done=true then (match j.took with | some b=> [kE k.c b.at' b.len] | none=> []) ++ [OA k.c k.op (sB j.took) j.err] else [])
def Kl.after (k:Kl) (j:Jb):Kl:= { k with job:=if j.done=true then none else some j,told:=k.told || j.gave,steps:=k.steps + 1 }
def Kl.step (s:Sh) (k:Kl) (m:Mem):Kl × Mem × List Ev × Int:=match k.job with
 | none=> (k,m, [],2)
 | some j=> (k.after (j.step s k.c m).1,(j.step s k.c m).2,k.tells (j.step s k.c m).1,0)
structure klOk (s:Sh) (k:Kl):Prop where
 cl:0<=k.c/\k.c < s.c
 fi:0<=k.first/\k.first < s.p
 jb:∀ j,k.job=some j->jbIs s k.c j/\j.done=false/\(j.gave=true->k.told=true)/\(1<=k.op.k/\k.op.k<=4)
 st:0<=k.steps
 lf:∀ j,k.job=some j->mF s j + k.steps<=110 * s.p + 4 * s.m + 60
theorem LH{s:Sh}{c:Int}(b:mayB s.p s.c s.m=true)(hc:0<=c/\c<s.c):zA s.p s.c s.m c=c:=by unfold zA;rw[jP ⟨b,IA.2 (by omega)⟩]
theorem QY{s:Sh}{c:Int}(b:mayB s.p s.c s.m=true)(hc:0<=c/\c<s.p):pA s.p s.c s.m c=s.c+c:=by unfold pA;rw[jP ⟨b,IA.2 (by omega)⟩]
theorem zvk{n:Int}(h:wi n 1 32=true):0<mA (BB n):=by
 have h1:=rQ n;have:BB n=0\/BB n=1\/BB n=2\/BB n=3:=by omega
 rcases this with e|e|e|e<;>rw[e]<;>decide
theorem zzs{s:Sh}{c k f:Int}(b:mayB s.p s.c s.m=true)(hc:0<=c/\c<s.c)(n:0<mA k)(l:0<=f/\f<s.p):(sD s c k f).done=false:=by
 have hb:=LA.1 b;have h1:=LH b hc;have h2:=QY b l;unfold sD;rw[jP ⟨by omega,n,by omega⟩];rcases jB (dD s c k).done with hd|hd
 ·have i:(WD s c k f).done=false:=by simp only[WD,Bool.not_eq_false',jC,decide_eq_true_eq];omega
  rw[EU (x:= .tk (dD s c k)) rfl rfl hd];have j:Sk.after s ⟨c,k,f,some (.tk (dD s c k)),0,0,0,false,false⟩ (.tk (dD s c k))=⟨c,k,f,some (.sc (WD s c k f)),0,0,0,false,false⟩:=by simp[Sk.after,dD]
  rw[j,CO (.inr (.inr ⟨.sc (WD s c k f),rfl,i⟩))]
 rw[CO (.inr (.inr ⟨.tk (dD s c k),rfl,hd⟩))]
theorem WU{s:Sh}{c n f:Int}(j:mayB s.p s.c s.m=true)(hc:0<=c/\c<s.c)(q:0<=f/\f<s.p)(r:lenB n=true)(t:wi n 33 512=true->runV n<=s.p):(CB s c n f).done=false:=by
 have hb:=LA.1 j;have h1:=LH j hc;unfold CB;split
 ·rename_i b;exact zzs j hc (zvk b) q
 split
 ·rename_i _ b;have h2:=t b;have h3:=IA.1 b;have h4:runV n=(n-1)/64+1:=by unfold runV;rw[jP b]
  show (UC s c (runV n)).done=false;simp only[UC,Bool.not_eq_false',jC,decide_eq_true_eq];omega
 rename_i o i;have l:wi n 1 512=true:=r;have y:=IA.1 l;exfalso;by_cases z:n<=32
 ·exact o (IA.2 (by omega))
 exact i (IA.2 (by omega))
theorem AV{s:Sh}{c f k a n:Int}(i:mayB s.p s.c s.m=true)(hc:0<=c/\c<s.c)(q:0<=f/\f<s.p)(r:1<=k/\k<=4)(l:zD s c k a n=false):(UB s c f k a n).done=false/\(UB s c f k a n).gave=false:=by
 have hb:=LA.1 i;have h1:=LH i hc;unfold zD at l;rw[Bool.or_eq_false_iff]at l;obtain⟨h2,h3⟩:=l;have:k=1\/k=2\/k=3\/k=4:=by omega
 rcases this with rfl|rfl|rfl|rfl
 ·have b:lenB n=true:=by simpa[RD] using h2
  have j:wi n 33 512=true->runV n<=s.p:=fun e=>by simpa[LG,e] using h3
  refine⟨?_,rfl⟩;have o:=WU i hc q b j;show ((CB s c n f).done&&_)=false;rw[o];rfl
 ·have b:spB s a=true:=by simpa[RD] using h2
  refine⟨?_,rfl⟩;show (nB s c a).done=false;simp only[nB,b,Bool.not_true,Bool.false_or,decide_eq_false_iff_not];omega
 ·have b:lenB n=true/\spB s a=true:=by simpa[RD] using h2
  have j:wi n 33 512=true->runV n<=s.p:=fun e=>by simpa[LG,e] using h3
  have o:=WU i hc q b.1 j;have e:iD s c a n f=⟨c,some (CB s c n f),some (nB s c a),none,none,0,false⟩:=by unfold iD;rw[jP ⟨b.2,b.1,by omega⟩];unfold Rr.settle;dsimp only;simp[o]
  show (iD s c a n f).done=false/\(Jb.aga (iD s c a n f)).gave=false;rw[e];exact⟨rfl,rfl⟩
 have b:0<=zA s.p s.c s.m a/\a≠c:=by have:=h2;simp only[RD,beq_self_eq_true,Bool.true_and,Bool.or_eq_false_iff,decide_eq_false_iff_not,beq_eq_false_iff_ne]at this;exact⟨by omega,this.1.1.2⟩
 refine⟨?_,rfl⟩;show (jD s c a).done=false;unfold jD;dsimp only;rw[jN (by rintro(h|h|h);omega;omega;exact b.2 h.symm)]
theorem z6w{s:Sh}{c f:Int}(hc:0<=c/\c<s.c)(b:0<=f/\f<s.p):klOk s (xE c f):=⟨hc,b,fun j h=>(by cases h),Int.le_refl _,fun j h=>(by cases h)⟩
theorem mX{s:Sh}{k:Kl}(o:Op3)(l:mayB s.p s.c s.m=true)(h:klOk s k):klOk s (k.invoke s o).1:=by
 unfold Kl.invoke;split
 ·exact h
 rename_i r;split
 ·exact h
 rename_i t;have b:k.job=none:=by
  cases b:k.job
  ·rfl
  simp[Kl.rests,b]at r
 split
 ·refine⟨h.cl,h.fi,fun j e=>?_,Int.le_refl _,fun j e=>?_⟩
  ·have e:k.job=some j:=e;rw[b]at e;cases e
  have e:k.job=some j:=e;rw[b]at e;cases e
 rename_i f;have f:zD s k.c o.k o.a o.n=false:=by simpa using f
 have q:=GQ (s:=s) k.c k.first o.k o.a o.n l h.cl;have i:=AV l h.cl h.fi (by omega) f;refine⟨h.cl,h.fi,fun j e=>?_,Int.le_refl _,fun j e=>?_⟩
 ·have e:some (UB s k.c k.first o.k o.a o.n)=some j:=e;injection e with e;subst e;exact⟨q.1,i.1,fun e=>(by rw[i.2]at e;cases e),(by dsimp only;omega)⟩
 have e:some (UB s k.c k.first o.k o.a o.n)=some j:=e;injection e with e;subst e;dsimp only;omega
theorem rW{s:Sh}{k:Kl}{m:Mem}{j:Jb}(h:klOk s k)(i:k.job=some j)(l:Fits s m)(f:m.fit):Acts k.c m (k.step s m).2.1/\klOk s (k.step s m).1:=by
 have hb:=l.bd;obtain⟨h1,h2,h3,h4⟩:=h.jb j i;have hs:=MJ h1 h.cl h2 l f;have n:=h.lf j i;unfold Kl.step;rw[i];dsimp only;refine⟨hs.1,h.cl,h.fi,fun x b=>?_,by have:=h.st;show 0<=k.steps+1;omega,fun x b=>?_⟩
 ·have b:(if (j.step s k.c m).1.done=true then none else some (j.step s k.c m).1)=some x:=b;split at b
  ·cases b
  rename_i hd;injection b with b;subst b;refine⟨hs.2.1,by simpa using hd,fun e=>?_,h4⟩;show (k.told||(j.step s k.c m).1.gave)=true;rw[e];simp
 have b:(if (j.step s k.c m).1.done=true then none else some (j.step s k.c m).1)=some x:=b;split at b
 ·cases b
 injection b with b;subst b;have:=hs.2.2.1;show mF s _+(k.steps+1)<=_;omega
theorem z6l(s:Sh)(k:Kl)(m:Mem):(k.step s m).1.c=k.c/\(k.step s m).1.first=k.first/\(k.step s m).1.op=k.op:=by
 unfold Kl.step;split<;>exact⟨rfl,rfl,rfl⟩
theorem SX(s:Sh)(k:Kl)(o:Op3):(k.invoke s o).1.c=k.c/\(k.invoke s o).1.first=k.first:=by
 unfold Kl.invoke;split
 ·exact⟨rfl,rfl⟩
 split
 ·exact⟨rfl,rfl⟩
 split<;>exact⟨rfl,rfl⟩
theorem KT{s:Sh}{k:Kl}{j:Jb}(h:klOk s k)(f:0<=s.m)(b:k.job=some j):k.steps+1<=110*s.p+4*s.m+60:=by
 have h1:=h.lf j b;have h2:=AZ (h.jb j b).1 f (h.jb j b).2.1;omega
end Go.Proofs.YtkilokkopbajkaaGreat

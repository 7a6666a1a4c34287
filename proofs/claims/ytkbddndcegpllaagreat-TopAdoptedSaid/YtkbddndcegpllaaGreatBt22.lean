/- Texts bound together: MchT CliP CliQ CapW. -/
import Derived.Test.YtkbddndcegpllaaGreatBt19

import Derived.Test.YtkbddndcegpllaaGreatBt21

set_option linter.all false
set_option maxHeartbeats 4000000
set_option maxRecDepth 100000
namespace Go.Proofs.YtkbddndcegpllaaGreat

section

structure rrIs (s:Sh) (cl:Int) (t:Rr):Prop where
 ok:rrOk s t
 c:t.c=cl
 res:∀ r,t.res=some r->rsIs s cl r
 fre:∀ f,t.free=some f->feIs s cl f
 un:∀ u,t.undo=some u->u.c=cl/\(t.done=false->u.done=false)
 cm:∀ u,t.com=some u->u.c=cl/\(t.done=false->u.done=false/\u.b.fits s cl=true)
 mid:t.done=false->(t.undo≠none\/t.com≠none)->∃ r f,t.res=some r/\r.done=true/\t.free=some f/\f.done=true
 fin:t.done=true->t.err=0->∃ r b f,t.res=some r/\r.got=some b/\t.free=some f/\f.gave=true
 gv:∀ u,t.com=some u->∃ r f,t.res=some r/\r.got=some u.b/\t.free=some f/\f.gave=true
 ng:∀ u,t.undo=some u->∃ f,t.free=some f/\f.gave=false
theorem zfb{s:Sh}(t:Rr)(r:Rs)(f:Fe)(i:t.res=some r)(j:t.free=some f):(t.settle s).free=t.free:=by
 rcases zcp s t r f i j with⟨_,e⟩|⟨_,_,e⟩|⟨_,_,_,e⟩|⟨_,_,_,_,e⟩|⟨b,_,_,_,_,_,e⟩|⟨b,_,_,_,_,_,_,_,_,e⟩|⟨b,_,_,_,_,_,_,_,_,e⟩<;>rw[e]
def zh0 (t:Rr):Int:=match t.undo,t.com with
 | some u,_=> ze0 u
 | none,some _=> 1
 | none,none=> 8
def zex (s:Sh) (t:Rr):Int:=if t.done=true then 0 else match t.res,t.free with
 | some r,some f=> zi3 s r + zcw s f + zh0 t
 | _,_=> 0
theorem zhv{s:Sh}{cl:Int}{t:Rr}{r:Rs}{f:Fe}(U:mayB s.p s.c s.m=true)(F:0<=cl/\cl<s.c)(z:t.done=false)(j:t.res=some r)(i:t.free=some f)(hc:t.c=cl)(J:rsIs s cl r)(X:feIs s cl f)
  (hu:∀ u,t.undo=some u->u.c=cl/\unOk s u/\r.done=true/\f.done=true/\f.gave=false) (o:∀ u,t.com=some u->u.c=cl/\cmOk s u/\u.b.fits s cl=true/\r.got=some u.b/\f.done=true/\f.gave=true) (Y:t.undo=none\/t.com=none)
  (Z:∀ u,t.undo=some u->0<=ze0 u):
  rrIs s cl (t.settle s)/\zex s (t.settle s)<=zi3 s r+zcw s f+(match t.undo,t.com with|some u,_=>ze0 u|none,some v=>(if v.done=true then 0 else 1)|none,none=>8)/\(t.settle s).free=some f/\(t.settle s).res=some r:=by
 have hb:=zar.1 U;have B:=zm9 (t:=t) j i ⟨fun x hx=>(J.sk x hx).1.ok,fun x hx=>(J.rn x hx).ok⟩ X.ok (fun u L=>(hu u L).2.1) (fun u L=>(o u L).2.1) Y;have n1:=zf6 J;have n2:=zsa X.ok (by omega:0<=s.m);have G:∀ u:Rr,u.done=true->zex s u=0:=fun u e=>by unfold zex;rw[if_pos e]
 have tl:0<=(match t.undo,t.com with|some u,_=>ze0 u|none,some v=>(if v.done=true then 0 else 1)|none,none=>8:Int):=by
  rcases E:t.undo with _|u
  ·rcases D:t.com with _|v
   ·dsimp only;omega
   dsimp only;split<;>omega
  exact Z u E
 have n:∀ (u:Rr),u.res=t.res->∀ M,u.res=some M->rsIs s cl M:=fun u e M h=>by rw[e,j]at h;injection h with h;subst h;exact J
 have l:∀ (u:Rr),u.free=t.free->∀ M,u.free=some M->feIs s cl M:=fun u e M h=>by rw[e,i]at h;injection h with h;subst h;exact X
 have q:∀ u,t.com=some u->∃ r f,t.res=some r/\r.got=some u.b/\t.free=some f/\f.gave=true:=fun u h=>⟨r,f,j,(o u h).2.2.2.1,i,(o u h).2.2.2.2.2⟩;have y:∀ u,t.undo=some u->∃ f,t.free=some f/\f.gave=false:=fun u h=>⟨f,i,(hu u h).2.2.2.2⟩;rcases zcp s t r f j i with⟨E,e⟩|⟨E,D,e⟩|⟨E,D,C,e⟩|⟨E,D,C,N,e⟩|⟨b,E,D,C,N,hw,e⟩|⟨b,E,D,C,N,R,S,O,V,e⟩|⟨b,E,D,C,N,R,S,O,V,e⟩;all_goals rw[e]at B ⊢
 ·refine⟨⟨B,hc,n _ rfl,l _ rfl,fun u h=>⟨(hu u h).1,fun h=>(by cases h)⟩,fun u h=>⟨(o u h).1,fun h=>(by cases h)⟩,fun h=>(by cases h),fun _ h=>(by cases h),q,y⟩,?_,i,j⟩;rw[G _ rfl];omega
 ·refine⟨⟨B,hc,n _ rfl,l _ rfl,fun u h=>⟨(hu u h).1,fun h=>(by cases h)⟩,fun u h=>⟨(o u h).1,fun h=>(by cases h)⟩,fun h=>(by cases h),fun _ _=>?_,q,y⟩,?_,i,j⟩
  ·rcases C:t.com with _|u
   ·rw[C]at D;cases D
   have:=o u C;exact⟨r,u.b,f,j,this.2.2.2.1,i,this.2.2.2.2.2⟩
  rw[G _ rfl];omega
 ·have H:t.undo=none:=by
   rcases h:t.undo with _|u
   ·rfl
   have:=(hu u h).2.2.1;rw[C]at this;cases this
  have I:t.com=none:=by
   rcases h:t.com with _|u
   ·rfl
   have O:=(zlb J U F (o u h).2.2.2.1).2;rw[C]at O;cases O
  refine⟨⟨B,hc,n _ rfl,l _ rfl,fun u h=>(by rw[H]at h;cases h),fun u h=>(by rw[I]at h;cases h),fun _ h=>(by rcases h with h|h;exact absurd H h;exact absurd I h),fun h=>(by rw[z]at h;cases h),q,y⟩,?_,i,j⟩;unfold zex zh0;rw[if_neg (by rw[z];decide),j,i,H,I];dsimp only;omega
 ·refine⟨⟨B,hc,n _ rfl,l _ rfl,fun u h=>⟨(hu u h).1,fun h=>(by cases h)⟩,fun u h=>⟨(o u h).1,fun h=>(by cases h)⟩,fun h=>(by cases h),fun _ h=>(by cases h),q,y⟩,?_,i,j⟩;rw[G _ rfl];omega
 ·refine⟨⟨B,hc,n _ rfl,l _ rfl,fun u h=>⟨(hu u h).1,fun _=>(by rw[h]at E;exact E)⟩,fun u h=>⟨(o u h).1,fun _=>⟨(by rw[h]at D;exact D),(o u h).2.2.1⟩⟩,fun _ h=>?_,fun h=>(by rw[z]at h;cases h),q,y⟩,?_,i,j⟩
  ·rcases h with h|h
   ·rcases h':t.undo with _|u
    ·exact absurd h' h
    exact⟨r,f,j,C,i,(hu u h').2.2.2.1⟩
   rcases h':t.com with _|u
   ·exact absurd h' h
   exact⟨r,f,j,C,i,(o u h').2.2.2.2.1⟩
  unfold zex zh0;rw[if_neg (by rw[z];decide),j,i];dsimp only;rcases h':t.undo with _|u
  ·rcases h'':t.com with _|v
   ·dsimp only;omega
   have:v.done=false:=by rw[h'']at D;exact D
   dsimp only;rw[if_neg (by rw[this];decide)];omega
  dsimp only;omega
 ·have T:=zlb J U F N;refine⟨⟨B,hc,n _ rfl,l _ rfl,fun u h=>⟨(hu u h).1,fun _=>(by have h:t.undo=some u:=h;rw[R]at h;cases h)⟩,fun u h=>?_,fun _ _=>⟨r,f,j,C,i,O⟩,fun h=>(by have h:t.done=true:=h;rw[z]at h;cases h),fun u h=>?_,y⟩,?_,i,j⟩
  ·have h:some (zc4 s t.c b)=some u:=h;injection h with h;subst h;exact⟨hc,fun _=>⟨by simp[zc4,hc,T.1],T.1⟩⟩
  ·have h:some (zc4 s t.c b)=some u:=h;injection h with h;subst h;exact⟨r,f,j,N,i,V⟩
  unfold zex zh0;dsimp only;rw[if_neg (by rw[z];decide),j,i,R,S];dsimp only;omega
 have T:=zlb J U F N;have b0:=ydl t.c b (by rw[hc];exact T.1);refine⟨⟨B,hc,n _ rfl,l _ rfl,fun u h=>?_,fun u h=>⟨(o u h).1,fun _=>(by have h:t.com=some u:=h;rw[S]at h;cases h)⟩,fun _ _=>⟨r,f,j,C,i,O⟩,fun h=>(by have h:t.done=true:=h;rw[z]at h;cases h),q,fun u h=>⟨f,i,V⟩⟩,?_,i,j⟩
 ·have h:some (zf1 s t.c b)=some u:=h;injection h with h;subst h;exact⟨hc,fun _=>b0.2⟩
 unfold zex zh0;dsimp only;rw[if_neg (by rw[z];decide),j,i,R,S];dsimp only;omega
theorem ye2{s:Sh}(c a n first:Int)(b:mayB s.p s.c s.m=true)(f:0<=c/\c<s.c):rrIs s c (zhh s c a n first)/\zex s (zhh s c a n first)<=67*s.p+2*s.m+53:=by
 have hb:=zar.1 b;have i:=z4q s c a n first
 unfold zhh at i ⊢;split at i<;>rename_i h
 ·rw[if_pos h];have l:=z0h c n first b
  have o:=z9h c a b;have j:=zhv (t:=⟨c,some (zdh s c n first),some (zc2 s c a),none,none,0,false⟩) b f rfl rfl rfl rfl l.1 o.1 (fun u h=>(by cases h)) (fun u h=>(by cases h)) (.inl rfl) (fun u h=>(by cases h));refine⟨j.1,Int.le_trans j.2.1 ?_⟩;dsimp only;omega
 rw[if_neg h];refine⟨⟨i,rfl,fun r h=>(by cases h),fun r h=>(by cases h),fun r h=>(by cases h),fun r h=>(by cases h),fun h=>(by cases h),fun _ h=>(by cases h),fun u h=>(by cases h),fun u h=>(by cases h)⟩,?_⟩;unfold zex;rw[if_pos rfl];omega
theorem ybk{s:Sh}{cl:Int}{t:Rr}{m:Mem}(h:rrIs s cl t)(F:0<=cl/\cl<s.c)(hd:t.done=false)(G:Fits s m)(O:m.fit):
  Acts cl m (zb9 s t m).2/\rrIs s cl (zb9 s t m).1/\zex s (zb9 s t m).1+1<=zex s t/\(∀ f I,t.free=some f->(zb9 s t m).1.free=some I->f.gave=true->I.gave=true):=by
 have hb:=G.bd;obtain⟨r,f,j,b,b2,b1,R,b0,M,N⟩:=h.ok.cl hd;have Z:zex s t=zi3 s r+zcw s f+zh0 t:=by unfold zex;rw[if_neg (by rw[hd];decide),j,b]
 have U:=h.res r j;have H:=h.fre f b;rw[Z];rcases Bool.eq_false_or_eq_true r.done with p|p;case inr=>
  have hs:zb9 s t m=(Rr.settle s {t with res:=some (zb0 s r m).1},(zb0 s r m).2):=by unfold zb9;simp[hd,j,b,p]
  have z:t.undo=none/\t.com=none:=by
   refine⟨?_,?_⟩
   ·rcases n:t.undo with _|u
    ·rfl
    obtain⟨V,I,i,l,_⟩:=h.mid hd (.inl (by rw[n];exact fun e=>by cases e));rw[j]at i;injection i with i;subst i;rw[p]at l;cases l
   rcases n:t.com with _|u
   ·rfl
   obtain⟨V,I,i,l,_⟩:=h.mid hd (.inr (by rw[n];exact fun e=>by cases e));rw[j]at i;injection i with i;subst i;rw[p]at l;cases l
  have n:=zvz U p G;have y:=zhv (t:= {t with res:=some (zb0 s r m).1}) G.may F hd rfl b h.c n.2.1 H (fun u e=>(by have e:t.undo=some u:=e;rw[z.1]at e;cases e)) (fun u e=>(by have e:t.com=some u:=e;rw[z.2]at e;cases e)) M (fun u e=>(by have e:t.undo=some u:=e;rw[z.1]at e;cases e));rw[hs];refine⟨n.1,y.1,?_,fun f1 f2 i l L=>?_⟩
  ·have C:=y.2.1;dsimp only at C ⊢;rw[z.1,z.2]at C;unfold zh0;rw[z.1,z.2];dsimp only at C ⊢;omega
  dsimp only at l;rw[y.2.2.1]at l;rw[b]at i;injection i with i;injection l with l;rw[<-l,i];exact L
 rcases Bool.eq_false_or_eq_true f.done with o|o;case inr=>
  have hs:zb9 s t m=(Rr.settle s {t with free:=some (zca s f m).1},(zca s f m).2):=by unfold zb9;simp[hd,j,b,p,o]
  have z:t.undo=none/\t.com=none:=by
   refine⟨?_,?_⟩
   ·rcases n:t.undo with _|u
    ·rfl
    obtain⟨V,I,_,_,i,l⟩:=h.mid hd (.inl (by rw[n];exact fun e=>by cases e));rw[b]at i;injection i with i;subst i;rw[o]at l;cases l
   rcases n:t.com with _|u
   ·rfl
   obtain⟨V,I,_,_,i,l⟩:=h.mid hd (.inr (by rw[n];exact fun e=>by cases e));rw[b]at i;injection i with i;subst i;rw[o]at l;cases l
  have n:=z1e H o G O;have y:=zhv (t:= {t with free:=some (zca s f m).1}) G.may F hd j rfl h.c U n.2.1 (fun u e=>(by have e:t.undo=some u:=e;rw[z.1]at e;cases e)) (fun u e=>(by have e:t.com=some u:=e;rw[z.2]at e;cases e)) M (fun u e=>(by have e:t.undo=some u:=e;rw[z.1]at e;cases e));rw[hs];refine⟨n.1,y.1,?_,fun f1 f2 i l L=>?_⟩
  ·have C:=y.2.1;dsimp only at C ⊢;rw[z.1,z.2]at C;unfold zh0;rw[z.1,z.2];dsimp only at C ⊢;omega
  dsimp only at l;rw[y.2.2.1]at l;rw[b]at i;injection i with i;injection l with l;subst i;rw[<-l];exact n.2.2.2 L
 rcases hun:t.undo with _|u
 ·rcases q:t.com with _|v
  ·rcases N p o with e|e
   ·exact absurd hun e
   exact absurd q e
  have hs:zb9 s t m=(Rr.settle s {t with com:=some (zb3 s v m).1},(zb3 s v m).2):=by unfold zb9;simp[hd,j,b,p,o,hun,q]
  have hv:=h.cm v q;obtain⟨D,B⟩:=hv;obtain⟨B,S⟩:=B hd;obtain⟨V,I,T,Y,E,X⟩:=h.gv v q;rw[j]at T;injection T with T;subst T;rw[b]at E;injection E with E;subst E;have n:=z3w (m:=m) (by rw[D];exact S) B G
  have y:=zhv (t:= {t with com:=some (zb3 s v m).1}) G.may F hd j b h.c U H (fun u e=>(by have e:t.undo=some u:=e;rw[hun]at e;cases e)) (fun u e=>(by
   have e:some (zb3 s v m).1=some u:=e
   injection e with e;subst e
   rw[n.2]
   exact⟨D,fun e=>(by cases e),S,Y,o,X⟩)) (.inl hun) (fun u e=>(by have e:t.undo=some u:=e;rw[hun]at e;cases e))
  rw[hs];refine⟨n.1.of D,y.1,?_,fun f1 f2 i l L=>?_⟩
  ·have C:=y.2.1;dsimp only at C ⊢;rw[hun,n.2]at C;unfold zh0;rw[hun,q];dsimp only at C ⊢;rw[if_pos rfl]at C;rw[n.2];omega
  dsimp only at l;rw[y.2.2.1]at l;rw[b]at i;injection i with i;injection l with l;rw[<-l,i];exact L
 have q:t.com=none:=by
  rcases M with e|e
  ·rw[hun]at e;cases e
  exact e
 have hs:zb9 s t m=(Rr.settle s {t with undo:=some (zcf s u m).1},(zcf s u m).2):=by unfold zb9;simp[hd,j,b,p,o,hun,q]
 obtain⟨D,B⟩:=h.un u hun;have B:=B hd;obtain⟨I,E,X⟩:=h.ng u hun;rw[b]at E;injection E with E;subst E;have n:=ybv (R u hun) B G;have J:=z0o m (R u hun);have nn:0<=ze0 (zcf s u m).1:=by
  rcases Bool.eq_false_or_eq_true (zcf s u m).1.done with e|e
  ·unfold ze0;rw[if_pos e];omega
  have:=z8p J e;omega
 have y:=zhv (t:= {t with undo:=some (zcf s u m).1}) G.may F hd j b h.c U H (fun v e=>(by
   have e:some (zcf s u m).1=some v:=e
   injection e with e;subst e
   exact⟨n.2.1.trans D,J,p,o,X⟩)) (fun u e=>(by have e:t.com=some u:=e;rw[q]at e;cases e)) (.inr q) (fun v e=>(by
   have e:some (zcf s u m).1=some v:=e
   injection e with e;subst e;exact nn))
 rw[hs];refine⟨n.1.of D,y.1,?_,fun f1 f2 i l L=>?_⟩
 ·have C:=y.2.1;dsimp only at C ⊢;unfold zh0;rw[hun];dsimp only;omega
 dsimp only at l;rw[y.2.2.1]at l;rw[b]at i;injection i with i;injection l with l;rw[<-l,i];exact L
theorem yd8{s:Sh}{cl:Int}{t:Rr}(h:rrIs s cl t)(p:0<=s.m)(hd:t.done=false):1<=zex s t:=by
 obtain⟨r,f,i,b,y,o,l,n,q,j⟩:=h.ok.cl hd;have n1:=zf6 (h.res r i);have n2:=zsa (h.fre f b).ok p;unfold zex zh0;rw[if_neg (by rw[hd];decide),i,b];dsimp only;rcases hun:t.undo with _|u
 ·rcases hcm:t.com with _|v<;>dsimp only<;>omega
 have:=z8p (l u hun) ((h.un u hun).2 hd);dsimp only;omega
def adL (s:Sh) (n a i k:Int):Int:=
 if n=0 then 3 + 55 * s.p + s.m + 1
 else if n=1 then 2 + 55 * s.p + s.m + 1
 else if n=2 then 1 + 55 * s.p + s.m + 1
 else if n=3 then 3 * (s.p - a) + 52 * s.p + s.m + 1
 else if n=4 then 3 * (s.p - a) - 1 + 52 * s.p + s.m + 1
 else if n=5 then 3 * (s.p - a) - 2 + 52 * s.p + s.m + 1
 else if n=6 then 18 * (s.p - a) + 34 * s.p + s.m + 1
 else if n=7 then 18 * (s.p - a - 1) + (16 - i) + 1 + 34 * s.p + s.m + 1
 else if n=8 then 18 * (s.p - a - 1) + 1 + 34 * s.p + s.m + 1
 else if n=9 then s.m - i + 34 * s.p + 1
 else if n=10 then 34 * (s.p - a) + 1
 else if n=11 then 34 * (s.p - a - 1) + 2 * (k - i) + 1
 else if n=12 then 34 * (s.p - a - 1) + 2 * (k - i)
 else 1
theorem yaw(s:Sh)(a i k:Int):adL s 0 a i k=3+55*s.p+s.m+1:=by simp[adL]
theorem yb0(s:Sh)(a i k:Int):adL s 1 a i k=2+55*s.p+s.m+1:=by simp[adL]
theorem z8h(s:Sh)(a i k:Int):adL s 2 a i k=1+55*s.p+s.m+1:=by simp[adL]
theorem z4v(s:Sh)(a i k:Int):adL s 3 a i k=3*(s.p-a)+52*s.p+s.m+1:=by simp[adL]
theorem yaj(s:Sh)(a i k:Int):adL s 4 a i k=3*(s.p-a)-1+52*s.p+s.m+1:=by simp[adL]
theorem z99(s:Sh)(a i k:Int):adL s 5 a i k=3*(s.p-a)-2+52*s.p+s.m+1:=by simp[adL]
theorem z5w(s:Sh)(a i k:Int):adL s 6 a i k=18*(s.p-a)+34*s.p+s.m+1:=by simp[adL]
theorem z7n(s:Sh)(a i k:Int):adL s 7 a i k=18*(s.p-a-1)+(16-i)+1+34*s.p+s.m+1:=by simp[adL]
theorem z98(s:Sh)(a i k:Int):adL s 8 a i k=18*(s.p-a-1)+1+34*s.p+s.m+1:=by simp[adL]
theorem z5g(s:Sh)(a i k:Int):adL s 9 a i k=s.m-i+34*s.p+1:=by simp[adL]
theorem zr0(s:Sh)(a i k:Int):adL s 10 a i k=34*(s.p-a)+1:=by simp[adL]
theorem zxa(s:Sh)(a i k:Int):adL s 11 a i k=34*(s.p-a-1)+2*(k-i)+1:=by simp[adL]
theorem z0a(s:Sh)(a i k:Int):adL s 12 a i k=34*(s.p-a-1)+2*(k-i):=by simp[adL]
theorem z0m(s:Sh)(a i k:Int):adL s 13 a i k=1:=by simp[adL]
def zcu (s:Sh) (t:Ad):Int:=if t.done=true then 0 else adL s t.next t.at' t.i (zah t.pa)
theorem ye1{s:Sh}{t:Ad}(h:adOk s t)(hd:t.done=false):1<=zcu s t:=by
 obtain⟨b,c1,c2,c3,f,i,j,l,m,n⟩:=h.cl hd;have hb:=zar.1 b;unfold zcu;rw[if_neg (by rw[hd];decide)];have:t.next=0\/t.next=1\/t.next=2\/t.next=3\/t.next=4\/t.next=5\/t.next=6\/t.next=7\/t.next=8\/t.next=9\/t.next=10\/t.next=11\/t.next=12\/t.next=13:=by omega
 rcases this with e|e|e|e|e|e|e|e|e|e|e|e|e|e
 ·rw[e,yaw];omega
 ·rw[e,yb0];omega
 ·rw[e,z8h];omega
 ·rw[e,z4v];omega
 ·rw[e,yaj];omega
 ·rw[e,z99];omega
 ·rw[e,z5w];omega
 ·rw[e,z7n];omega
 ·rw[e,z98];omega
 ·rw[e,z5g];omega
 ·rw[e,zr0];omega
 ·rw[e,zxa];omega
 ·rw[e,z0a];omega
 rw[e,z0m];omega
theorem zle{s:Sh}(t:Ad)(hd:t.done=false)(again next:Int)(q:1<=s.p)(o:0<=s.m)(n:0<=t.at'/\t.at'<s.p)(l:(again=3/\next=6)\/(again=6/\next=9)\/(again=10/\next=13)):
  zcu s (t.turn s again next)<=(if again=3 then 3*(s.p-t.at'-1)+52*s.p+s.m+1 else if again=6 then 18*(s.p-t.at'-1)+34*s.p+s.m+1 else 34*(s.p-t.at'-1)+1)/\(t.turn s again next).c=t.c/\(t.turn s again next).d=t.d:=by
 have j:=zp2 s t again next
 simp only[beq_eq_false_iff_ne,ne_eq]at j;have f:¬ t.done=true:=by rw[hd];decide
 rcases l with⟨rfl,rfl⟩|⟨rfl,rfl⟩|⟨rfl,rfl⟩
 ·rw[if_pos rfl];rcases j with⟨k1,b,i,e⟩|⟨k1,b,i,e⟩|⟨k1,b,e⟩|⟨k1,b,i,e⟩|⟨k1,b,i,e⟩|⟨k1,b,e⟩
  ·omega
  ·omega
  ·rw[e];refine⟨?_,rfl,rfl⟩;unfold zcu;dsimp only;rw[if_neg f,z5w];omega
  ·omega
  ·omega
  rw[e];refine⟨?_,rfl,rfl⟩;unfold zcu;dsimp only;rw[if_neg f,z4v];omega
 ·rw[if_neg (by decide),if_pos rfl];rcases j with⟨k1,b,i,e⟩|⟨k1,b,i,e⟩|⟨k1,b,e⟩|⟨k1,b,i,e⟩|⟨k1,b,i,e⟩|⟨k1,b,e⟩
  ·rw[e];refine⟨?_,rfl,rfl⟩;unfold zcu;dsimp only;rw[if_neg f,zr0];omega
  ·rw[e];refine⟨?_,rfl,rfl⟩;unfold zcu;dsimp only;rw[if_neg f,z5g];omega
  ·omega
  ·omega
  ·omega
  rw[e];refine⟨?_,rfl,rfl⟩;unfold zcu;dsimp only;rw[if_neg f,z5w];omega
 rw[if_neg (by decide),if_neg (by decide)];rcases j with⟨k1,b,i,e⟩|⟨k1,b,i,e⟩|⟨k1,b,e⟩|⟨k1,b,i,e⟩|⟨k1,b,i,e⟩|⟨k1,b,e⟩
 ·omega
 ·omega
 ·rw[e];refine⟨?_,rfl,rfl⟩;unfold zcu;dsimp only;rw[if_neg f,z0m];omega
 ·omega
 ·omega
 rw[e];refine⟨?_,rfl,rfl⟩;unfold zcu;dsimp only;rw[if_neg f,zr0];omega
theorem zk1{s:Sh}(t:Ad)(hd:t.done=false)(j:1<=s.p)(f:0<=s.m)(b:0<=t.at'/\t.at'<s.p)(hi:0<=t.i/\t.i<zah t.pa):
  zcu s (t.slot s)<=34*(s.p-t.at'-1)+2*(zah t.pa-t.i)-1/\(t.slot s).c=t.c/\(t.slot s).d=t.d:=by
 unfold Ad.slot;split
 ·have:=zle (s:=s) {t with i:=0,next:=11} hd 10 13 j f b (.inr (.inr ⟨rfl,rfl⟩));rw[if_neg (by decide),if_neg (by decide)]at this;dsimp only at this;exact⟨by omega,this.2⟩
 refine⟨?_,rfl,rfl⟩;unfold zcu;dsimp only;rw[if_neg (by rw[hd];decide),zxa];omega
theorem ydx{s:Sh}(c d:Int)(b:mayB s.p s.c s.m=true):zcu s (zix s c d)<=55*s.p+s.m+4/\(zix s c d).c=c/\(zix s c d).d=d:=by
 have hb:=zar.1 b;unfold zix;dsimp only;split
 ·refine⟨?_,rfl,rfl⟩;unfold zcu Ad.fin;rw[if_pos rfl];omega
 refine⟨?_,rfl,rfl⟩;unfold zcu;dsimp only;rw[if_neg (by decide),yaw];omega
theorem yay{s:Sh}{t:Ad}{m:Mem}(h:adOk s t)(hd:t.done=false)(n:Fits s m)(G:m.fit):Acts t.c m (za0 s t m).2/\(za0 s t m).1.c=t.c/\(za0 s t m).1.d=t.d/\zcu s (za0 s t m).1+1<=zcu s t:=by
 obtain⟨S,c1,c2,c3,r,H,I,F,z,o⟩:=h.cl hd;have hb:=n.bd;have D:¬ t.done=true:=by rw[hd];decide
 have l:=n.zhu r;have q:=n.zda c2;have f:∀ (u:Ad) e,zcu s (u.fin e)=0:=fun u e=>by unfold zcu Ad.fin;rw[if_pos rfl]
 have C:∀ a x,(t.keep s a x).c=t.c/\(t.keep s a x).d=t.d/\(t.keep s a x).done=t.done/\(t.keep s a x).at'=t.at':=fun a x=>⟨rfl,rfl,rfl,rfl⟩
 have y:∀ (u:Ad),u.done=t.done->u.at'=t.at'->u.c=t.c->u.d=t.d->∀ b next,((b=3/\next=6)\/(b=6/\next=9)\/(b=10/\next=13))->
   zcu s (u.turn s b next)<=(if b=3 then 3*(s.p-t.at'-1)+52*s.p+s.m+1 else if b=6 then 18*(s.p-t.at'-1)+34*s.p+s.m+1 else 34*(s.p-t.at'-1)+1)/\(u.turn s b next).c=t.c/\(u.turn s b next).d=t.d:=fun u L M N O b next R=>by
  have:=zle (s:=s) u (L.trans hd) b next (by omega) (by omega) (by omega) R
  rw[M,N,O]at this
  exact this
 have B:t.next=0\/t.next=1\/t.next=2\/t.next=3\/t.next=4\/t.next=5\/t.next=6\/t.next=7\/t.next=8\/t.next=9\/t.next=10\/t.next=11\/t.next=12\/t.next=13:=by omega
 have j:zcu s t=adL s t.next t.at' t.i (zah t.pa):=by unfold zcu;rw[if_neg D]
 have hS:∀ (u:Ad),u.done=false->zcu s u=adL s u.next u.at' u.i (zah u.pa):=fun u J=>by unfold zcu;rw[if_neg (by rw[J];decide)]
 rcases B with e|e|e|e|e|e|e|e|e|e|e|e|e|e
 ·rw[zl2 s t m hd e,j,e,yaw];unfold Ad.asked;dsimp only;refine⟨.load q,?_⟩;split
  ·exact⟨rfl,rfl,by rw[hS _ (by exact hd)];dsimp only;rw[z8h];omega⟩
  split
  ·exact⟨rfl,rfl,by rw[f];omega⟩
  split
  ·exact⟨rfl,rfl,by rw[f];omega⟩
  exact⟨rfl,rfl,by rw[hS _ (by exact hd)];dsimp only;rw[yb0];omega⟩
 ·rw[zmf s t m hd e,j,e,yb0];dsimp only;refine⟨.load (n.zda (H e)),?_⟩;split
  ·exact⟨rfl,rfl,by rw[f];omega⟩
  exact⟨rfl,rfl,by rw[hS _ (by exact hd)];dsimp only;rw[z8h];omega⟩
 ·rw[zlx s t m hd e,j,e,z8h];dsimp only;refine⟨.swap q (zdz _ _),?_⟩;split
  ·exact⟨rfl,rfl,by rw[hS _ (by exact hd)];dsimp only;rw[z4v];omega⟩
  exact⟨rfl,rfl,by rw[f];omega⟩
 ·rw[zl7 s t m hd e,j,e,z4v];dsimp only;refine⟨.load l,?_⟩;split
  ·exact⟨rfl,rfl,by rw[hS _ (by exact hd)];dsimp only[Ad.page];rw[yaj];omega⟩
  have:=y (t.page s t.at' (m.get (zak s.p s.c s.m t.at'))) rfl rfl rfl rfl 3 6 (.inl ⟨rfl,rfl⟩);exact⟨this.2.1,this.2.2,by have:=this.1;simp at this;omega⟩
 ·rw[zmc s t m hd e,j,e,yaj];dsimp only;refine⟨.load (n.zhu (I e)),?_⟩;split
  ·exact⟨rfl,rfl,by rw[hS _ (by exact hd)];dsimp only;rw[z99];omega⟩
  have:=y t rfl rfl rfl rfl 3 6 (.inl ⟨rfl,rfl⟩);exact⟨this.2.1,this.2.2,by have:=this.1;simp at this;omega⟩
 ·rw[zl5 s t m hd e,j,e,z99];dsimp only;refine⟨.store l zms,?_⟩;have:=y t rfl rfl rfl rfl 3 6 (.inl ⟨rfl,rfl⟩);exact⟨this.2.1,this.2.2,by have:=this.1;simp at this;omega⟩
 ·rw[zmg s t m hd e,j,e,z5w];dsimp only;refine⟨.load l,?_⟩;split
  ·exact⟨rfl,rfl,by rw[hS _ (by exact hd)];dsimp only;rw[z7n];omega⟩
  have:=y t rfl rfl rfl rfl 6 9 (.inr (.inl ⟨rfl,rfl⟩));exact⟨this.2.1,this.2.2,by have:=this.1;simp at this;omega⟩
 ·rw[zl3 s t m hd e,j,e,z7n];have F:=F e;dsimp only;refine⟨.store (n.zj0 r (by omega)) zms,?_⟩;split
  ·exact⟨rfl,rfl,by rw[hS _ (by exact hd)];dsimp only;rw[z98];omega⟩
  exact⟨rfl,rfl,by rw[hS _ (by exact hd)];dsimp only;rw[z7n];omega⟩
 ·rw[zl6 s t m hd e,j,e,z98];dsimp only;refine⟨.store l zms,?_⟩;have:=y t rfl rfl rfl rfl 6 9 (.inr (.inl ⟨rfl,rfl⟩));exact⟨this.2.1,this.2.2,by have:=this.1;simp at this;omega⟩
 ·rw[zl8 s t m hd e,j,e,z5g];have z:=z e;dsimp only;refine⟨.store (n.magA c2 z) zms,?_⟩;split
  ·exact⟨rfl,rfl,by rw[hS _ (by exact hd)];dsimp only;rw[zr0];omega⟩
  exact⟨rfl,rfl,by rw[hS _ (by exact hd)];dsimp only;rw[z5g];omega⟩
 ·rw[zjn s t m hd e,j,e,zr0];dsimp only;refine⟨.load l,?_⟩;split
  ·refine⟨rfl,rfl,?_⟩;have:zah (pgP s t.at' (m.get (zak s.p s.c s.m t.at')) 0)<=16:=by
    by_cases h:0<zah (pgP s t.at' (m.get (zak s.p s.c s.m t.at')) 0)
    ·exact(zb4 h).2.2.2
    omega
   rw[hS _ (by exact hd)];dsimp only[Ad.page];rw[zxa];omega
  have:=y (t.page s t.at' (m.get (zak s.p s.c s.m t.at'))) rfl rfl rfl rfl 10 13 (.inr (.inr ⟨rfl,rfl⟩));exact⟨this.2.1,this.2.2,by have:=this.1;simp at this;omega⟩
 ·rw[zju s t m hd e,j,e,zxa];have o:=o (.inl e);have E:=zb4 o.1;dsimp only;refine⟨.load (n.zj0 r (by omega)),?_⟩;split
  ·exact⟨rfl,rfl,by rw[hS _ (by exact hd)];dsimp only;rw[z0a];omega⟩
  have:=zk1 (s:=s) t hd (by omega) (by omega) r o.2;exact⟨this.2.1,this.2.2,by have:=this.1;omega⟩
 ·rw[zkg s t m hd e,j,e,z0a];have o:=o (.inr e);have E:=zb4 o.1;dsimp only;refine⟨.store (n.zj0 r (by omega)) (zch _ _),?_⟩;have:=zk1 (s:=s) t hd (by omega) (by omega) r o.2;exact⟨this.2.1,this.2.2,by have:=this.1;omega⟩
 rw[zj8 s t m hd e,j,e,z0m];dsimp only;exact⟨.store q (zdz _ _),rfl,rfl,by rw[f];omega⟩
def jbIs (s:Sh) (cl:Int):Jb->Prop
 | .mal r c=> rsIs s cl r/\∀ x,c=some x->x.c=cl/\x.done=true/\r.done=true/\r.got=some x.b
 | .fre f=> feIs s cl f
 | .aga r=> rrIs s cl r
 | .hei a=> adOk s a/\a.c=cl
def zg8 (s:Sh) (j:Jb):Int:=match j with
 | .mal r c=> if j.done=true then 0 else zi3 s r + 1
 | .fre f=> zcw s f
 | .aga r=> zex s r
 | .hei a=> zcu s a
theorem ydi{s:Sh}{cl:Int}{j:Jb}(h:jbIs s cl j)(b:0<=s.m)(hd:j.done=false):1<=zg8 s j:=by
 cases j with
 |mal r c=>have:=zf6 h.1;unfold zg8;dsimp only;rw[if_neg (by rw[hd];decide)];omega
 |fre f=>exact z9j h.ok b hd
 |aga r=>exact yd8 h b hd
 |hei a=>exact ye1 h.1 hd
theorem yer{s:Sh}(cl first kind a n:Int)(f:mayB s.p s.c s.m=true)(i:0<=cl/\cl<s.c):jbIs s cl (zgl s cl first kind a n)/\zg8 s (zgl s cl first kind a n)<=110*s.p+4*s.m+60:=by
 have hb:=zar.1 f;unfold zgl;split
 ·have b:=z0h cl n first f
  have l:=zf6 b.1;refine⟨⟨b.1,fun x j=>(by cases j)⟩,?_⟩;unfold zg8;dsimp only;split<;>omega
 split
 ·have b:=z9h cl a f;refine⟨b.1,?_⟩;show zcw s _<=_;omega
 split
 ·have b:=ye2 cl a n first f i
  refine⟨b.1,?_⟩;show zex s _<=_;omega
 have b:=ydx cl a f;refine⟨⟨z7f _ _ _,b.2.1⟩,?_⟩;show zcu s _<=_;omega
theorem zqw{s:Sh}{cl:Int}{j:Jb}{m:Mem}(h:jbIs s cl j)(y:0<=cl/\cl<s.c)(hd:j.done=false)(q:Fits s m)(n:m.fit):
  Acts cl m (j.step s cl m).2/\jbIs s cl (j.step s cl m).1/\zg8 s (j.step s cl m).1+1<=zg8 s j/\(j.gave=true->(j.step s cl m).1.gave=true):=by
 have hb:=q.bd;cases j with
 |mal r c=>
  obtain⟨i,F⟩:=h;have I:zg8 s (.mal r c)=zi3 s r+1:=by unfold zg8;dsimp only;rw[if_neg (by rw[hd];decide)]
  rw[I];unfold Jb.step;dsimp only;rcases Bool.eq_false_or_eq_true r.done with l|l
  ·rw[if_neg (by rw[l];decide)];have hd':(r.done&&(!r.got.isSome||zck c))=false:=hd;rw[l,Bool.true_and,Bool.or_eq_false_iff]at hd';obtain⟨C,o⟩:=hd';rcases hc:c with _|x
   ·rcases hg:r.got with _|b
    ·rw[hg]at C;cases C
    have z:=zlb i q.may y hg;have D:zhp s cl r none=some (zc4 s cl b):=by unfold zhp;rw[hg]
    rw[D];dsimp only;have p:=z3w (t:=zc4 s cl b) (m:=m) z.1 (by simp[zc4,z.1]) q;refine⟨p.1,⟨i,fun x B=>?_⟩,?_,fun e=>(by cases e)⟩
    ·injection B with B;subst B;rw[p.2];exact⟨rfl,rfl,l,hg⟩
    have G:(Jb.mal r (some (zb3 s (zc4 s cl b) m).1)).done=true:=by show (r.done&&(!r.got.isSome||(zb3 s (zc4 s cl b) m).1.done))=true;rw[l,p.2];simp
    have H:=zf6 i;unfold zg8;dsimp only;rw[if_pos G];omega
   have:=F x hc;rw[hc]at o;have o:x.done=false:=o;rw[this.2.1]at o;cases o
  rw[if_pos l];have p:=zvz i l q;refine⟨p.1,⟨p.2.1,fun x B=>?_⟩,?_,fun e=>(by cases e)⟩
  ·have:=(F x B).2.2.1;rw[l]at this;cases this
  have H:=zf6 p.2.1;unfold zg8;dsimp only;split<;>omega
 |fre f=>have i:=z1e h hd q n;exact⟨i.1,i.2.1,i.2.2.1,i.2.2.2⟩
 |aga r=>
  have i:=ybk h y hd q n;refine⟨i.1,i.2.1,i.2.2.1,fun e=>?_⟩;show (match (zb9 s r m).1.free with|some f=>f.gave|none=>false)=true;have e:(match r.free with|some f=>f.gave|none=>false)=true:=e;rcases hf1:r.free with _|f
  ·rw[hf1]at e;cases e
  rw[hf1]at e;rcases hf2:(zb9 s r m).1.free with _|E
  ·obtain⟨J,E,C,o,_⟩:=h.ok.cl hd;have:(zb9 s r m).1.free≠none:=by
    unfold zb9;rw[if_neg (by rw[show r.done=false from hd];decide),C,o];dsimp only;split
    ·dsimp only;rw[zfb _ _ _ rfl rfl];exact fun e=>by cases e
    split
    ·dsimp only;rw[zfb _ _ _ rfl rfl];exact fun e=>by cases e
    split
    ·dsimp only;rw[zfb _ _ _ rfl rfl];exact fun e=>by cases e
    ·dsimp only;rw[zfb _ _ _ rfl rfl];exact fun e=>by cases e
    rw[o];exact fun e=>by cases e
   exact absurd hf2 this
  exact i.2.2.2 f E hf1 hf2 e
 |hei a=>have i:=yay h.1 hd q n;exact⟨i.1.of h.2,⟨z0s m h.1,i.2.1.trans h.2⟩,i.2.2.2,fun e=>(by cases e)⟩
structure Op3 where
 k:Int
 a:Int
 n:Int
 deriving DecidableEq
def Op3.zero:Op3:=⟨0,0,0⟩
def zdl (s:Sh) (c k a n:Int):Bool:=(k==4 && (decide (zae s.p s.c s.m a < 0) || a==c)) || ((k==1 || k==3) && !lenB n) || ((k==2 || k==3) && !spB s a)
def zk8 (s:Sh) (k n:Int):Bool:=(k==1 || k==3) && wi n 33 512 && decide (s.p < runV n)
def ziu (s:Sh) (c k a n:Int):Bool:=zdl s c k a n || zk8 s k n
def zjw (s:Sh) (c k a n:Int):Int:=if zdl s c k a n=true then 1 else if zk8 s k n=true then 3 else 0
structure Kl where
 c:Int
 first:Int
 op:Op3
 job:Option Jb
 told:Bool
 steps:Int
 deriving DecidableEq
def zht (c first:Int):Kl:=⟨c,first,Op3.zero,none,false,0⟩
def Kl.rests (k:Kl):Bool:= !k.job.isSome
def zbh (c:Int) (o:Op3):Ev:=⟨2,c,o.k,o.a,o.n,0,0,0⟩
def zb5 (c at' n:Int):Ev:=⟨3,c,0,0,0,at',n,0⟩
def zbw (c at':Int):Ev:=⟨4,c,0,0,0,at',0,0⟩
def zaf (c:Int) (o:Op3) (at' e:Int):Ev:=⟨5,c,o.k,o.a,o.n,at',0,e⟩
def Kl.invoke (s:Sh) (k:Kl) (o:Op3):Kl × List Ev × Int:=
 if k.rests=false then (k, [],4)
 else if o.k < 1\/4 < o.k then (k, [],1)
 else if ziu s k.c o.k o.a o.n=true then ({ k with op:=o,told:=false,steps:=0 }, [zbh k.c o,zaf k.c o 0 (zjw s k.c o.k o.a o.n)],0)
 else ({ k with op:=o,told:=false,steps:=0,job:=some (zgl s k.c k.first o.k o.a o.n) }, [zbh k.c o],0)
def zb1:Option Blk->Int
 | some b=> b.at'
 | none=> 0
def Kl.tells (k:Kl) (j:Jb):List Ev:=
 (if j.gave=true/\k.told=false then [zbw k.c k.op.a] else []) ++
 (if j.done=true then (match j.took with | some b=> [zb5 k.c b.at' b.len] | none=> []) ++ [zaf k.c k.op (zb1 j.took) j.err] else [])
def Kl.after (k:Kl) (j:Jb):Kl:= { k with job:=if j.done=true then none else some j,told:=k.told || j.gave,steps:=k.steps + 1 }
def Kl.step (s:Sh) (k:Kl) (m:Mem):Kl × Mem × List Ev × Int:=match k.job with
 | none=> (k,m, [],2)
 | some j=> (k.after (j.step s k.c m).1,(j.step s k.c m).2,k.tells (j.step s k.c m).1,0)
structure klOk (s:Sh) (k:Kl):Prop where
 cl:0<=k.c/\k.c < s.c
 fi:0<=k.first/\k.first < s.p
 jb:∀ j,k.job=some j->jbIs s k.c j/\j.done=false/\(j.gave=true->k.told=true)/\(1<=k.op.k/\k.op.k<=4)
 st:0<=k.steps
 lf:∀ j,k.job=some j->zg8 s j + k.steps<=110 * s.p + 4 * s.m + 60
theorem zeu{s:Sh}{c:Int}(b:mayB s.p s.c s.m=true)(hc:0<=c/\c<s.c):zae s.p s.c s.m c=c:=by unfold zae;rw[if_pos ⟨b,zbc.2 (by omega)⟩]
theorem ybp{s:Sh}{c:Int}(b:mayB s.p s.c s.m=true)(hc:0<=c/\c<s.p):zak s.p s.c s.m c=s.c+c:=by unfold zak;rw[if_pos ⟨b,zbc.2 (by omega)⟩]
theorem zvk{n:Int}(h:wi n 1 32=true):0<zah (zcn n):=by
 have b:=zwh n;have:zcn n=0\/zcn n=1\/zcn n=2\/zcn n=3:=by omega
 rcases this with e|e|e|e<;>rw[e]<;>decide
theorem zzs{s:Sh}{c k f:Int}(b:mayB s.p s.c s.m=true)(hc:0<=c/\c<s.c)(n:0<zah k)(l:0<=f/\f<s.p):(zhb s c k f).done=false:=by
 have hb:=zar.1 b;have o:=zeu b hc;have q:=ybp b l;unfold zhb;rw[if_pos ⟨by omega,n,by omega⟩];rcases Bool.eq_false_or_eq_true (zg3 s c k).done with hd|hd
 ·have i:(ziq s c k f).done=false:=by simp only[ziq,Bool.not_eq_false',Bool.and_eq_true,decide_eq_true_eq];omega
  rw[zm5 (x:= .tk (zg3 s c k)) rfl rfl hd];have j:Sk.after s ⟨c,k,f,some (.tk (zg3 s c k)),0,0,0,false,false⟩ (.tk (zg3 s c k))=⟨c,k,f,some (.sc (ziq s c k f)),0,0,0,false,false⟩:=by simp[Sk.after,zg3]
  rw[j,zgs (.inr (.inr ⟨.sc (ziq s c k f),rfl,i⟩))]
 rw[zgs (.inr (.inr ⟨.tk (zg3 s c k),rfl,hd⟩))]
theorem zo7{s:Sh}{c n f:Int}(j:mayB s.p s.c s.m=true)(hc:0<=c/\c<s.c)(q:0<=f/\f<s.p)(r:lenB n=true)(t:wi n 33 512=true->runV n<=s.p):(zdh s c n f).done=false:=by
 have hb:=zar.1 j;have y:=zeu j hc;unfold zdh;split
 ·rename_i b;exact zzs j hc (zvk b) q
 split
 ·rename_i _ b;have z:=t b;have B:=zbc.1 b;have C:runV n=(n-1)/64+1:=by unfold runV;rw[if_pos b]
  show (zf8 s c (runV n)).done=false;simp only[zf8,Bool.not_eq_false',Bool.and_eq_true,decide_eq_true_eq];omega
 rename_i o i;have l:wi n 1 512=true:=r;have D:=zbc.1 l;exfalso;by_cases E:n<=32
 ·exact o (zbc.2 (by omega))
 exact i (zbc.2 (by omega))
theorem zpc{s:Sh}{c f k a n:Int}(j:mayB s.p s.c s.m=true)(hc:0<=c/\c<s.c)(t:0<=f/\f<s.p)(z:1<=k/\k<=4)(o:ziu s c k a n=false):(zgl s c f k a n).done=false/\(zgl s c f k a n).gave=false:=by
 have hb:=zar.1 j;have y:=zeu j hc;unfold ziu at o;rw[Bool.or_eq_false_iff]at o;obtain⟨i,r⟩:=o;have:k=1\/k=2\/k=3\/k=4:=by omega
 rcases this with rfl|rfl|rfl|rfl
 ·have b:lenB n=true:=by simpa[zdl] using i
  have l:wi n 33 512=true->runV n<=s.p:=fun e=>by simpa[zk8,e] using r
  refine⟨?_,rfl⟩;have q:=zo7 j hc t b l;show ((zdh s c n f).done&&_)=false;rw[q];rfl
 ·have b:spB s a=true:=by simpa[zdl] using i
  refine⟨?_,rfl⟩;show (zc2 s c a).done=false;simp only[zc2,b,Bool.not_true,Bool.false_or,decide_eq_false_iff_not];omega
 ·have b:lenB n=true/\spB s a=true:=by simpa[zdl] using i
  have l:wi n 33 512=true->runV n<=s.p:=fun e=>by simpa[zk8,e] using r
  have q:=zo7 j hc t b.1 l;have e:zhh s c a n f=⟨c,some (zdh s c n f),some (zc2 s c a),none,none,0,false⟩:=by unfold zhh;rw[if_pos ⟨b.2,b.1,by omega⟩];unfold Rr.settle;dsimp only;simp[q]
  show (zhh s c a n f).done=false/\(Jb.aga (zhh s c a n f)).gave=false;rw[e];exact⟨rfl,rfl⟩
 have b:0<=zae s.p s.c s.m a/\a≠c:=by have:=i;simp only[zdl,beq_self_eq_true,Bool.true_and,Bool.or_eq_false_iff,decide_eq_false_iff_not,beq_eq_false_iff_ne]at this;exact⟨by omega,this.1.1.2⟩
 refine⟨?_,rfl⟩;show (zix s c a).done=false;unfold zix;dsimp only;rw[if_neg (by rintro(h|h|h);omega;omega;exact b.2 h.symm)]
theorem z6w{s:Sh}{c f:Int}(hc:0<=c/\c<s.c)(b:0<=f/\f<s.p):klOk s (zht c f):=⟨hc,b,fun j h=>(by cases h),Int.le_refl _,fun j h=>(by cases h)⟩
theorem zwi{s:Sh}{k:Kl}(o:Op3)(l:mayB s.p s.c s.m=true)(h:klOk s k):klOk s (k.invoke s o).1:=by
 unfold Kl.invoke;split
 ·exact h
 rename_i r;split
 ·exact h
 rename_i t;have b:k.job=none:=by
  cases b:k.job
  ·rfl
  simp[Kl.rests,b]at r
 split
 ·refine⟨h.cl,h.fi,fun j e=>?_,Int.le_refl _,fun j e=>?_⟩
  ·have e:k.job=some j:=e;rw[b]at e;cases e
  have e:k.job=some j:=e;rw[b]at e;cases e
 rename_i f;have f:ziu s k.c o.k o.a o.n=false:=by simpa using f
 have q:=yer (s:=s) k.c k.first o.k o.a o.n l h.cl;have i:=zpc l h.cl h.fi (by omega) f;refine⟨h.cl,h.fi,fun j e=>?_,Int.le_refl _,fun j e=>?_⟩
 ·have e:some (zgl s k.c k.first o.k o.a o.n)=some j:=e;injection e with e;subst e;exact⟨q.1,i.1,fun e=>(by rw[i.2]at e;cases e),(by dsimp only;omega)⟩
 have e:some (zgl s k.c k.first o.k o.a o.n)=some j:=e;injection e with e;subst e;dsimp only;omega
theorem zsh{s:Sh}{k:Kl}{m:Mem}{j:Jb}(h:klOk s k)(i:k.job=some j)(l:Fits s m)(f:m.fit):Acts k.c m (k.step s m).2.1/\klOk s (k.step s m).1:=by
 have hb:=l.bd;obtain⟨n,o,q,p⟩:=h.jb j i;have hs:=zqw n h.cl o l f;have r:=h.lf j i;unfold Kl.step;rw[i];dsimp only;refine⟨hs.1,h.cl,h.fi,fun x b=>?_,by have:=h.st;show 0<=k.steps+1;omega,fun x b=>?_⟩
 ·have b:(if (j.step s k.c m).1.done=true then none else some (j.step s k.c m).1)=some x:=b;split at b
  ·cases b
  rename_i hd;injection b with b;subst b;refine⟨hs.2.1,by simpa using hd,fun e=>?_,p⟩;show (k.told||(j.step s k.c m).1.gave)=true;rw[e];simp
 have b:(if (j.step s k.c m).1.done=true then none else some (j.step s k.c m).1)=some x:=b;split at b
 ·cases b
 injection b with b;subst b;have:=hs.2.2.1;show zg8 s _+(k.steps+1)<=_;omega
theorem z6l(s:Sh)(k:Kl)(m:Mem):(k.step s m).1.c=k.c/\(k.step s m).1.first=k.first/\(k.step s m).1.op=k.op:=by
 unfold Kl.step;split<;>exact⟨rfl,rfl,rfl⟩
theorem yaa(s:Sh)(k:Kl)(o:Op3):(k.invoke s o).1.c=k.c/\(k.invoke s o).1.first=k.first:=by
 unfold Kl.invoke;split
 ·exact⟨rfl,rfl⟩
 split
 ·exact⟨rfl,rfl⟩
 split<;>exact⟨rfl,rfl⟩
theorem z8x{s:Sh}{k:Kl}{j:Jb}(h:klOk s k)(f:0<=s.m)(b:k.job=some j):k.steps+1<=110*s.p+4*s.m+60:=by
 have i:=h.lf j b;have l:=ydi (h.jb j b).1 f (h.jb j b).2.1;omega
end

section

open Go.RowKit

attribute [local go_sem ↓] Go.wp_at_zero Go.wp_at_succ

theorem zyq(s:Sh)(c k a n:Int)(w:World)(hk:1<=k/\k<=4):
  Calls Tryz.prog 113 #[.agg #[s.p,s.c,s.m],c,.agg #[k,a,n]] w fun e w'=>e= .returned (.tuple #[.int .i64 (zjw s c k a n),.bool (ziu s c k a n)])/\Below w.heap.size w w':=by
 have B:=fun W=>zxk s a W;have J:=fun W=>zo1 n W;have y:=fun W=>zau s.p s.c s.m a W;have q:=fun W=>zur n W;obtain⟨z,l,F⟩:=hidv (zdl s c k a n);obtain⟨D,b,I⟩:=hidv (zk8 s k n);unfold zjw ziu;rw[<-F,<- I];clear F I;unfold zdl at l;unfold zk8 at b;generalize zae s.p s.c s.m a=sx at *;generalize spB s a=there at *;generalize lenB n=E at *;generalize wi n 33 512=large at *;generalize lenV n=ln at *;generalize runV n=pages at *;generalize (if there=true then a/64 else 0)=pg at *;generalize (if there=true then a%64 else 0)=b7 at *;obtain⟨sp,M,N⟩:=s;dsimp only at B y l b ⊢;replace B:=hd' B;replace J:=hd' J;replace y:=hd' y;replace q:=hd' q;have U:=((Below.refl w.heap.size w).alloc lr (.cells #[sp,M,N] 23)).alloc (by simp) (.cells #[k,a,n] 32);have t0:zaa ((w.alloc (.cells #[sp,M,N] 23)).alloc (.cells #[k,a,n] 32)) w.heap.size #[sp,M,N] 23:=zaa.alloc (heap_alloc_new _ _) _;have t1:zaa ((w.alloc (.cells #[sp,M,N] 23)).alloc (.cells #[k,a,n] 32)) (w.heap.size+1) #[k,a,n] 32:=by have h:=heap_alloc_new (w.alloc (.cells #[sp,M,N] 23)) (.cells #[k,a,n] 32);rw[show (w.alloc (.cells #[sp,M,N] 23)).heap.size=w.heap.size+1 by simp]at h;exact h
 go_in;go_upto_region 1 with fail;generalize (w.alloc (.cells #[sp,M,N] 23)).alloc (.cells #[k,a,n] 32)=X at *;obtain⟨G,hG,O⟩:∃ G,Hid (G=w.heap.size+1)/\G=w.heap.size+1:=⟨_,hd' rfl,rfl⟩;simp only[<-O]at t1 ⊢;clear O;obtain⟨H,hH,R⟩:=hidv w.heap.size;rw[<-R]at t0 ⊢;clear R;have Y:=t0.cell;obtain⟨V,d1,d2⟩:=ci3 k a n t1.cell;have lH:=t0.lt;have lG:=t1.lt;go_upto_region 3 with(first|(go_at_call 72;(with_reducible refine(J.out _).mono ?_);rintro r w1 ⟨rfl,b3⟩;obtain rfl:=b3.symm)|(go_at_call 147;(with_reducible refine(B.out _).mono ?_);rintro r w2 ⟨rfl,b⟩));have s0:=t0.below b;have s1:=t1.below b;have i:=zab U b;clear Y V d1 d2 lH lG U b t0 t1;have b5:=s0.cell;obtain⟨V,d1,d2⟩:=ci3 k a n s1.cell;have lH:=s0.lt;have lG:=s1.lt;have Z:k=1\/k=2\/k=3\/k=4:=by omega
 clear hk;rcases Z with rfl|rfl|rfl|rfl;case inl=>
  cases E;case false=>obtain rfl:z=true:=l.out.trans (by simp);go_wp2_with fail;go_returns;exact⟨rfl,i⟩
  case true=>
   obtain rfl:z=false:=l.out.trans (by simp);cases large;case false=>obtain rfl:D=false:=b.out.trans (by simp);go_wp2_with (go_at_call 73;(with_reducible refine(q.out _).mono ?_);rintro r C ⟨rfl,j⟩;obtain rfl:=j.symm);go_returns;exact⟨rfl,i⟩
   case true=>
    by_cases L:sp<pages
    ·obtain rfl:D=true:=b.out.trans (by simp[L]);go_wp2_with (go_at_call 73;(with_reducible refine(q.out _).mono ?_);rintro r C ⟨rfl,j⟩;obtain rfl:=j.symm);go_returns;exact⟨rfl,i⟩
    obtain rfl:D=false:=b.out.trans (by simp[L]);have b0:decide (sp<pages)=false:=decide_eq_false L;go_wp2_with (go_at_call 73;(with_reducible refine(q.out _).mono ?_);rintro r C ⟨rfl,j⟩;obtain rfl:=j.symm);go_returns;exact⟨rfl,i⟩
 case inr.inl=>
  obtain rfl:D=false:=b.out.trans (by simp);cases there;case false=>obtain rfl:z=true:=l.out.trans (by simp);go_wp2_with fail;go_returns;exact⟨rfl,i⟩
  case true=>obtain rfl:z=false:=l.out.trans (by simp);go_wp2_with (go_at_call 73;(with_reducible refine(q.out _).mono ?_);rintro r C ⟨rfl,j⟩;obtain rfl:=j.symm);go_returns;exact⟨rfl,i⟩
 case inr.inr.inl=>
  cases E;case false=>obtain rfl:z=true:=l.out.trans (by simp);go_wp2_with fail;go_returns;exact⟨rfl,i⟩
  case true=>
   cases there;case false=>obtain rfl:z=true:=l.out.trans (by simp);go_wp2_with fail;go_returns;exact⟨rfl,i⟩
   case true=>
    obtain rfl:z=false:=l.out.trans (by simp);cases large;case false=>obtain rfl:D=false:=b.out.trans (by simp);go_wp2_with (go_at_call 73;(with_reducible refine(q.out _).mono ?_);rintro r C ⟨rfl,j⟩;obtain rfl:=j.symm);go_returns;exact⟨rfl,i⟩
    case true=>
     by_cases L:sp<pages
     ·obtain rfl:D=true:=b.out.trans (by simp[L]);go_wp2_with (go_at_call 73;(with_reducible refine(q.out _).mono ?_);rintro r C ⟨rfl,j⟩;obtain rfl:=j.symm);go_returns;exact⟨rfl,i⟩
     obtain rfl:D=false:=b.out.trans (by simp[L]);have b0:decide (sp<pages)=false:=decide_eq_false L;go_wp2_with (go_at_call 73;(with_reducible refine(q.out _).mono ?_);rintro r C ⟨rfl,j⟩;obtain rfl:=j.symm);go_returns;exact⟨rfl,i⟩
 case inr.inr.inr=>
  obtain rfl:D=false:=b.out.trans (by simp);by_cases hs:sx<0
  ·obtain rfl:z=true:=l.out.trans (by simp[hs]);go_wp2_with (go_at_call 57;(with_reducible refine(y.out _).mono ?_);rintro r C ⟨rfl,o⟩);go_returns;exact⟨rfl,zab i o⟩
  have b6:decide (sx<0)=false:=decide_eq_false hs;by_cases S:a=c
  ·subst S;obtain rfl:z=true:=l.out.trans (by simp);go_wp2_with (go_at_call 57;(with_reducible refine(y.out _).mono ?_);rintro r C ⟨rfl,o⟩;have e1:=zai o _ _ _ d1;have e0:=zai o _ _ _ V);go_returns;exact⟨rfl,zab i o⟩
  have T:(a==c)=false:=by simpa using S
  obtain rfl:z=false:=l.out.trans (by simp[hs,T]);go_wp2_with (first|(go_at_call 57;(with_reducible refine(y.out _).mono ?_);rintro r C ⟨rfl,o⟩;have e1:=zai o _ _ _ d1;have e0:=zai o _ _ _ V;have e2:=zai o _ _ _ d2)|(go_at_call 73;(with_reducible refine(q.out _).mono ?_);rintro r w4 ⟨rfl,b4⟩;obtain rfl:=b4.symm));go_returns;exact⟨rfl,zab i o⟩
end

end Go.Proofs.YtkbddndcegpllaaGreat

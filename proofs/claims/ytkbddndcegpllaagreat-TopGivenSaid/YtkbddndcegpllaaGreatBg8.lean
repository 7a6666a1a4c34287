/- Texts bound together: MchS PlnS PlnX QTail. -/
import Derived.StillTail

import Derived.Test.YtkbddndcegpllaaGreatBg7

set_option linter.all false
set_option maxHeartbeats 1000000
namespace Go.Proofs.YtkbddndcegpllaaGreat

section

structure rsIs (s:Sh) (cl:Int) (t:Rs):Prop where
 sk:∀ x,t.seeker=some x->skIs s cl t.k x/\zvw x
 rn:∀ x,t.runner=some x->rnIs s cl t.pages x
def zi3 (s:Sh) (t:Rs):Int:=match t.seeker,t.runner with
 | some x,_=> zcm s x
 | none,some x=> zct s x
 | none,none=> 0
theorem zf6{s:Sh}{cl:Int}{t:Rs}(h:rsIs s cl t):0<=zi3 s t:=by
 obtain⟨k,pg,sk,rn⟩:=t;rcases sk with _|x
 ·rcases rn with _|y
  ·exact Int.le_refl _
  exact z2y (h.rn y rfl).ok
 exact z2i (h.sk x rfl).1.ok
theorem zvz{s:Sh}{cl:Int}{t:Rs}{m:Mem}(h:rsIs s cl t)(hd:t.done=false)(i:Fits s m):Acts cl m (zb0 s t m).2/\rsIs s cl (zb0 s t m).1/\zi3 s (zb0 s t m).1+1<=zi3 s t:=by
 obtain⟨k,pg,sk,rn⟩:=t;rcases sk with _|x
 ·rcases rn with _|y
  ·cases hd
  have f:=yat (h.rn y rfl) hd i;exact⟨f.1,⟨fun z b=>(by cases b),fun z b=>(by injection b with b;subst b;exact f.2.1)⟩,f.2.2⟩
 have f:=ybz (h.sk x rfl).1 (h.sk x rfl).2 hd i;exact⟨f.1,⟨fun z b=>(by injection b with b;subst b;exact⟨f.2.1,f.2.2.1⟩),h.rn⟩,f.2.2.2⟩
theorem z0h{s:Sh}(c n f:Int)(j:mayB s.p s.c s.m=true):rsIs s c (zdh s c n f)/\zi3 s (zdh s c n f)<=67*s.p+s.m+33:=by
 have hb:=zar.1 j;unfold zdh;split
 ·have i:=yek c (zcn n) f j;exact⟨⟨fun x b=>(by injection b with b;subst b;exact⟨i.1,i.2.1⟩),fun x b=>(by cases b)⟩,i.2.2⟩
 split
 ·have i:=yfb c (runV n) j;refine⟨⟨fun x b=>(by cases b),fun x b=>(by injection b with b;subst b;exact i.1)⟩,?_⟩;have:zi3 s ⟨0,runV n,none,some (zf8 s c (runV n))⟩=zct s (zf8 s c (runV n)):=rfl;omega
 exact⟨⟨fun x b=>(by cases b),fun x b=>(by cases b)⟩,by show (0:Int)<=_;omega⟩
theorem zlb{s:Sh}{cl:Int}{t:Rs}{b:Blk}(h:rsIs s cl t)(q:mayB s.p s.c s.m=true)(hc:0<=cl/\cl<s.c)(f:t.got=some b):b.fits s cl=true/\t.done=true:=by
 obtain⟨k,pg,sk,rn⟩:=t;rcases sk with _|x
 ·rcases rn with _|y
  ·cases f
  have i:=h.rn y rfl;unfold Rs.got at f;dsimp only at f;split at f
  ·rename_i o;injection f with f;subst f;have l:=i.ok.fd o;have j:=i.n;dsimp only at j;refine⟨zdi.2 ⟨q,hc,by dsimp only;omega,fun _=>by dsimp only;omega,fun e=>(by cases e)⟩,l.1⟩
  cases f
 have i:=(h.sk x rfl).1;unfold Rs.got at f;dsimp only at f;split at f
 ·rename_i o;injection f with f;subst f;have l:=i.ok.fd o;have j:=i.k;dsimp only at j;refine⟨zdi.2 ⟨q,hc,by dsimp only;omega,fun e=>(by cases e),fun _=>by dsimp only;rw[<-j];omega⟩,l.1⟩
 cases f
theorem z3w{s:Sh}{t:Cm}{m:Mem}(h:t.b.fits s t.c=true)(hd:t.done=false)(i:Fits s m):Acts t.c m (zb3 s t m).2/\(zb3 s t m).1= {t with done:=true}:=by
 have f:=zdi.1 h;unfold zb3;rw[if_neg (by rw[hd];decide)];refine⟨?_,rfl⟩;dsimp only;cases hl:t.b.large
 ·rw[if_neg (by decide)];have j:=f.2.2.2.2 hl;have l:=zb4 (by omega:0<zah t.b.k);exact .store (i.zj0 f.2.2.1 (by omega)) (zx7 _)
 rw[if_pos rfl];exact .store (i.zhu f.2.2.1) (zc0 _ _ _)
def ze0 (t:Un):Int:=if t.done=true then 0 else if t.b.large=true then t.b.pages - t.i else 1
theorem z8p{s:Sh}{t:Un}(h:unOk s t)(hd:t.done=false):1<=ze0 t:=by
 have b:=(h.cl hd).2;unfold ze0;rw[if_neg (by rw[hd];decide)];split
 ·rename_i f;have:=b f;omega
 omega
theorem ybv{s:Sh}{t:Un}{m:Mem}(h:unOk s t)(hd:t.done=false)(j:Fits s m):Acts t.c m (zcf s t m).2/\(zcf s t m).1.c=t.c/\(zcf s t m).1.b=t.b/\ze0 (zcf s t m).1+1<=ze0 t:=by
 obtain⟨l,hi⟩:=h.cl hd;have f:=zdi.1 l;have o:ze0 t=if t.b.large=true then t.b.pages-t.i else 1:=by unfold ze0;rw[if_neg (by rw[hd];decide)]
 rw[o];unfold zcf;rw[if_neg (by rw[hd];decide)];cases hl:t.b.large
 ·rw[if_pos rfl,if_neg (by decide)];have n:=f.2.2.2.2 hl;have p:=zb4 (by omega:0<zah t.b.k);refine⟨.store (j.zj0 f.2.2.1 (by omega)) (zkf _),rfl,rfl,?_⟩;unfold ze0;rw[if_pos rfl];omega
 rw[if_neg (by decide),if_pos rfl];have n:=f.2.2.2.1 hl;have hi:=hi hl;split
 ·refine⟨.store (j.zhu f.2.2.1) zms,rfl,rfl,?_⟩;unfold ze0;rw[if_pos rfl];omega
 refine⟨.store (j.zhu (by omega)) zms,rfl,rfl,?_⟩;unfold ze0;dsimp only;rw[if_neg (by rw[hd];decide),if_pos hl];omega
theorem ydl{s:Sh}(c:Int)(b:Blk)(h:b.fits s c=true):ze0 (zf1 s c b)<=8/\(zf1 s c b).done=false:=by
 have f:=zdi.1 h;have hd:(zf1 s c b).done=false:=by simp[zf1,h]
 refine⟨?_,hd⟩;unfold ze0;rw[if_neg (by rw[hd];decide)];split
 ·rename_i i;have j:=f.2.2.2.1 i;simp only[zf1];omega
 omega
structure feIs (s:Sh) (cl:Int) (t:Fe):Prop where
 ok:feOk s t
 c:t.c=cl
 put:∀ x,t.put=some x->x.c=cl
 gv:t.next<=1->t.gave=false
 gv2:2<=t.next->t.done=false->t.gave=true
def zcw (s:Sh) (t:Fe):Int:=if t.done=true then 0 else if t.next=0 then s.m + 12 else if t.next=1 then s.m + 11
 else if t.next=2 then (match t.put with | some x=> zh2 s x | none=> 0) + 1 else if t.next=3 then 1 else t.pa - t.i
theorem z9j{s:Sh}{t:Fe}(h:feOk s t)(y:0<=s.m)(hd:t.done=false):1<=zcw s t:=by
 obtain⟨c1,c2,c3,n,o,p,q,i,r,b⟩:=h.cl hd;unfold zcw;rw[if_neg (by rw[hd];decide)];split
 ·omega
 split
 ·omega
 split
 ·rename_i n2;obtain⟨_,x,j,f,l⟩:=i n2;have:=ztc f;rw[j];dsimp only;omega
 split
 ·omega
 have:=b (by omega);omega
theorem zsa{s:Sh}{t:Fe}(h:feOk s t)(b:0<=s.m):0<=zcw s t:=by
 rcases Bool.eq_false_or_eq_true t.done with hd|hd
 ·unfold zcw;rw[if_pos hd];omega
 have:=z9j h b hd;omega
theorem z9h{s:Sh}(c a:Int)(b:mayB s.p s.c s.m=true):feIs s c (zc2 s c a)/\zcw s (zc2 s c a)<=s.m+12:=by
 have hb:=zar.1 b;refine⟨⟨zwa _ _ _,rfl,fun x f=>(by cases f),fun _=>rfl,fun e=>(by simp[zc2]at e)⟩,?_⟩;unfold zcw;split
 ·omega
 rw[if_pos (show (zc2 s c a).next=0 from rfl)];omega
theorem z1e{s:Sh}{cl:Int}{t:Fe}{m:Mem}(h:feIs s cl t)(hd:t.done=false)(F:Fits s m)(I:m.fit):Acts cl m (zca s t m).2/\feIs s cl (zca s t m).1/\zcw s (zca s t m).1+1<=zcw s t/\(t.gave=true->(zca s t m).1.gave=true):=by
 obtain⟨c1,c2,c3,c4,V,n,c7,X,Y,H⟩:=h.ok.cl hd;have hb:=F.bd;have l:¬ t.done=true:=by rw[hd];decide
 have b:=z1a m I h.ok
 have Z:zcw s t=if t.next=0 then s.m+12 else if t.next=1 then s.m+11
  else if t.next=2 then(match t.put with|some x=>zh2 s x|none=>0)+1 else if t.next=3 then 1 else t.pa-t.i:=by unfold zcw;rw[if_neg l]
 have z:∀ u:Fe,u.done=true->zcw s u=0:=fun u e=>by unfold zcw;rw[if_pos e]
 have B:=F.zhu c2;rw[Z];unfold zca at b ⊢;rw[if_neg l]at b ⊢;by_cases G:t.next=0
 ·have j:=h.gv (by omega);rw[if_pos G]at b ⊢;rw[if_pos G];unfold Fe.look at b ⊢;dsimp only at b ⊢;refine⟨(Acts.load B).of h.c,?_⟩;split at b<;>rename_i q
  ·rw[if_pos q];refine⟨⟨b,h.c,h.put,fun _=>j,fun e=>(by dsimp only at e;omega)⟩,?_,fun e=>(by rw[j]at e;cases e)⟩;unfold zcw;dsimp only;rw[if_neg l,if_neg (by decide),if_pos rfl];omega
  rw[if_neg q];split at b<;>rename_i E
  ·rw[if_pos E];refine⟨⟨b,h.c,h.put,fun _=>j,fun e=>(by dsimp only at e;omega)⟩,?_,fun e=>(by rw[j]at e;cases e)⟩;unfold zcw;dsimp only;rw[if_neg l,if_neg (by decide),if_pos rfl];omega
  rw[if_neg E];refine⟨⟨b,h.c,h.put,fun _=>j,fun e=>(by dsimp only at e;omega)⟩,?_,fun e=>(by rw[j]at e;cases e)⟩;rw[z _ rfl];omega
 rw[if_neg G]at b ⊢;rw[if_neg G];by_cases n1:t.next=1
 ·have j:=h.gv (by omega);have V:=V (by omega);have n:=n (by omega);rw[if_pos n1]at b ⊢;rw[if_pos n1];unfold Fe.claim at b ⊢;dsimp only at b ⊢;by_cases R:t.pk=3
  ·have n:1<=t.pa/\t.pa<=8/\t.pa<=s.p-t.page:=by rcases n with h|h<;>omega
   rw[if_pos R]at b ⊢;dsimp only at b ⊢;refine⟨(Acts.swap B (zj1 _)).of h.c,⟨b,h.c,h.put,fun e=>(by dsimp only at e;omega),fun _ e=>(by dsimp only at e ⊢;simpa using e)⟩,?_,fun e=>(by rw[j]at e;cases e)⟩;unfold zcw;dsimp only;split
   ·omega
   rw[if_neg (by decide),if_neg (by decide),if_neg (by decide),if_neg (by decide)];omega
  have n:t.pk=2/\0<zah t.pa/\(0<=t.slot/\t.slot<zah t.pa):=by rcases n with h|h;exact absurd h.1 R;exact h
  have S:=zb4 n.2.1;have D:=F.zj0 (x:=t.page) (i:=t.slot) c2 (by omega);rw[if_neg R]at b ⊢;dsimp only at b ⊢;refine⟨(Acts.swap D (zmd _)).of h.c,?_⟩;generalize hg:decide (m.get (zbk s.p s.c s.m t.page t.slot)=zfl t.pa)=g at b ⊢;by_cases J:t.pb=t.c
  ·rw[if_pos J]at b ⊢;have L:=yfa s t.c t.page t.slot t.pa (by omega);rcases zcv ({t with gave:=g,next:=2,put:=some (zg5 s t.c t.page t.slot t.pa)}:Fe) _ rfl with⟨q,_⟩|⟨q,E,h3⟩|⟨q,E,h3⟩
   ·simp[zg5]at q
   ·rw[h3]at b ⊢;dsimp only at b ⊢;refine⟨⟨b,h.c,fun x o=>?_,fun e=>(by dsimp only at e;omega),fun _ e=>(by dsimp only at e ⊢;simpa using e)⟩,?_,fun e=>(by rw[j]at e;cases e)⟩
    ·have o:some (zg5 s t.c t.page t.slot t.pa)=some x:=o;injection o with o;subst o;exact L.2.trans h.c
    unfold zcw;dsimp only;split
    ·omega
    rw[if_neg (by decide),if_neg (by decide),if_neg (by decide),if_pos rfl];omega
   rw[h3]at b ⊢;dsimp only at b ⊢;refine⟨⟨b,h.c,fun x o=>?_,fun e=>(by dsimp only at e;omega),fun _ e=>(by dsimp only at e ⊢;simpa using e)⟩,?_,fun e=>(by rw[j]at e;cases e)⟩
   ·have o:some (zg5 s t.c t.page t.slot t.pa)=some x:=o;injection o with o;subst o;exact L.2.trans h.c
   unfold zcw;dsimp only;split
   ·omega
   rw[if_neg (by decide),if_neg (by decide),if_pos rfl];omega
  rw[if_neg J]at b ⊢;dsimp only at b ⊢;refine⟨⟨b,h.c,h.put,fun e=>(by dsimp only at e;omega),fun _ e=>(by dsimp only at e ⊢;simpa using e)⟩,?_,fun e=>(by rw[j]at e;cases e)⟩;unfold zcw;dsimp only;split
  ·omega
  rw[if_neg (by decide),if_neg (by decide),if_neg (by decide),if_pos rfl];omega
 rw[if_neg n1]at b ⊢;rw[if_neg n1];have f:=h.gv2 (by omega) hd;have n:=n (by omega);by_cases n2:t.next=2
 ·obtain⟨R,x,o,O,T⟩:=X n2;have M:=ybu O T F;have N:=h.put x o;have b0:=ztc (zq5 m O);rw[if_pos n2,o]at b ⊢;rw[if_pos n2];dsimp only at b ⊢;refine⟨M.1.of N,?_⟩;have r:∀ y,some (zd3 s x m).1=some y->y.c=cl:=fun y U=>by injection U with U;subst U;exact M.2.1.trans N
  rcases zcv ({t with put:=some (zd3 s x m).1}:Fe) _ rfl with⟨q,h3⟩|⟨q,E,h3⟩|⟨q,E,h3⟩
  ·rw[h3]at b ⊢;exact⟨⟨b,h.c,r,fun e=>(by dsimp only at e;omega),fun _ _=>f⟩,by rw[z _ rfl];omega,fun _=>f⟩
  ·rw[h3]at b ⊢;refine⟨⟨b,h.c,r,fun e=>(by dsimp only at e;omega),fun _ _=>f⟩,?_,fun _=>f⟩;unfold zcw;dsimp only;rw[if_neg l,if_neg (by decide),if_neg (by decide),if_neg (by decide),if_pos rfl];omega
  rw[h3]at b ⊢;refine⟨⟨b,h.c,r,fun e=>(by dsimp only at e;omega),fun _ _=>f⟩,?_,fun _=>f⟩;unfold zcw;dsimp only;rw[if_neg l,if_neg G,if_neg n1,if_pos n2];omega
 rw[if_neg n2]at b ⊢;rw[if_neg n2];by_cases n3:t.next=3
 ·have n:t.pk=2/\0<zah t.pa/\(0<=t.slot/\t.slot<zah t.pa):=by
   have:=Y n3;rcases n with h|h
   ·omega
   exact h
  have S:=zb4 n.2.1;have D:=F.zj0 (x:=t.page) (i:=t.slot) c2 (by omega);rw[if_pos n3]at b ⊢;rw[if_pos n3];exact⟨(Acts.store D (zkf _)).of h.c,⟨b,h.c,h.put,fun e=>(by dsimp only at e;omega),fun _ _=>f⟩,by rw[z _ rfl];omega,fun _=>f⟩
 rw[if_neg n3]at b ⊢;rw[if_neg n3];have n4:t.next=4:=by omega
 have H:=H n4;have n:1<=t.pa/\t.pa<=8/\t.pa<=s.p-t.page:=by rcases n with h|h<;>omega
 split at b<;>rename_i q
 ·rw[if_pos q];exact⟨(Acts.store B zms).of h.c,⟨b,h.c,h.put,fun e=>(by dsimp only at e;omega),fun _ _=>f⟩,by rw[z _ rfl];omega,fun _=>f⟩
 rw[if_neg q];refine⟨(Acts.store (F.zhu (by omega)) zms).of h.c,⟨b,h.c,h.put,fun e=>(by dsimp only at e;omega),fun _ _=>f⟩,?_,fun _=>f⟩;unfold zcw;dsimp only;rw[if_neg l,if_neg G,if_neg n1,if_neg n2,if_neg n3];omega
end

section

open Go.RowKit

attribute [local go_sem ↓] Go.wp_at_zero Go.wp_at_succ

theorem zgq(k:Int)(w:World):
  Calls Tryz.prog 68 #[.int .i64 k] w fun e w'=>e= .returned (.int .i64 (zbj k))/\w'=w:=by
 by_cases h:0<=k/\k<=3
 ·have b:wi k 0 3=true:=zbc.2 h;have:k=0\/k=1\/k=2\/k=3:=by omega
  rcases this with rfl|rfl|rfl|rfl <;>
  ·go_in;go_wp2_with (go_at_call 107;refine(za9 _ _ _ _).mono ?_;rintro e w' ⟨rfl,rfl⟩);go_ret;exact⟨rfl,rfl⟩
 have b:wi k 0 3=false:=zgo.2 h;go_in;go_wp2_with (go_at_call 107;refine(za9 _ _ _ _).mono ?_;rintro e w' ⟨rfl,rfl⟩);go_ret;exact⟨zf5 (by rw[zbj,if_neg (by omega),if_neg (by omega),if_neg (by omega),if_neg (by omega)]),rfl⟩
theorem zmu(n:Int)(w:World):
  Calls Tryz.prog 123 #[.int .i64 n] w fun e w'=>e= .returned (.tuple #[.int .i64 (zcn n),.bool (wi n 1 32)])/\w'=w:=by
 by_cases h:1<=n/\n<=32
 ·have j:wi n 1 32=true:=zbc.2 h;have m:=zwh n;have b:=fun k r=>zxo (k:=k) h r;obtain⟨c,hc⟩:∃ c:Nat,zcn n=c:=⟨(zcn n).toNat,by omega⟩;rw[j,hc];rw[hc]at m;simp only[hc]at b;clear hc;go_in;go_wp2_with (go_at_call 107;refine(za9 _ _ _ _).mono ?_;rintro e w' ⟨rfl,i⟩;obtain rfl:=i.symm);go_loopw [4] (fun q wr=>∃ k:Nat,k<=c/\q= .int .i64 k/\wr=w) (fun q _=>c-(intOf q).toNat);case atStart=>exact⟨0,Nat.zero_le _,rfl,by first|rfl|trivial⟩
  case round=>
   obtain⟨k,y,rfl,p⟩:=hrel;obtain rfl:=p.symm;have l:=b k (by omega) (by omega);clear b;by_cases t:k<c
   ·have hs:zbj k<n:=l.2 (by omega);clear l;go_wp2_with (go_at_call 68;refine(zgq _ _).mono ?_;rintro e w' ⟨rfl,i⟩;obtain rfl:=i.symm);exact⟨⟨k+1,by omega,by go_num,by first|rfl|trivial⟩,by simp[intOf];omega⟩
   have hs:¬ zbj k<n:=fun h=>by have:=l.1 h;omega
   have o:k=c:=by omega
   subst o;clear l;go_wp2_with (go_at_call 68;refine(zgq _ _).mono ?_;rintro e w' ⟨rfl,i⟩;obtain rfl:=i.symm);go_ret2;exact⟨rfl,rfl⟩
 have j:wi n 1 32=false:=zgo.2 h;have s:zcn n=0:=by unfold zcn;rw[if_neg (by rw[j];simp)]
 rw[j,s];go_in;go_wp2_with (go_at_call 107;refine(za9 _ _ _ _).mono ?_;rintro e w' ⟨rfl,rfl⟩);go_ret2;exact⟨rfl,rfl⟩
theorem zur(n:Int)(w:World):
  Calls Tryz.prog 73 #[.int .i64 n] w fun e w'=>e= .returned (.tuple #[.int .i64 (runV n),.bool (wi n 33 512)])/\w'=w:=by
 by_cases h:33<=n/\n<=512
 ·have b:wi n 33 512=true:=zbc.2 h;have i:runV n=(n-1)/64+1:=by unfold runV;rw[if_pos b]
  have j:=wrp (n-1);have l:=wrp ((n-1)/64+1);rw[b,i];clear i;go_in;go_wp2_with (go_at_call 107;refine(za9 _ _ _ _).mono ?_;rintro e w' ⟨rfl,rfl⟩);go_ret2;exact⟨rfl,rfl⟩
 have b:wi n 33 512=false:=zgo.2 h;have i:runV n=0:=by unfold runV;rw[if_neg (by rw[b];simp)]
 rw[b,i];go_in;go_wp2_with (go_at_call 107;refine(za9 _ _ _ _).mono ?_;rintro e w' ⟨rfl,rfl⟩);go_ret2;exact⟨rfl,rfl⟩
theorem zo1(n:Int)(w:World):
  Calls Tryz.prog 72 #[.int .i64 n] w fun e w'=>e= .returned (.tuple #[.int .i64 (lenV n),.bool (lenB n)])/\w'=w:=by
 by_cases h:1<=n/\n<=32
 ·have j:wi n 1 32=true:=zbc.2 h;have b:lenV n=zbj (zcn n):=by unfold lenV;rw[if_pos j]
  have i:lenB n=true:=zbc.2 (by omega);rw[b,i];clear b;go_in;go_wp2_with (first|(go_at_call 123;refine(zmu _ _).mono ?_;rintro e w' ⟨rfl,rfl⟩)|(go_at_call 68;refine(zgq _ _).mono ?_;rintro e w' ⟨rfl,rfl⟩));go_ret2;exact⟨rfl,rfl⟩
 have j:wi n 1 32=false:=zgo.2 h;have b:lenV n=runV n*64:=by unfold lenV;rw[if_neg (by rw[j];simp)]
 have i:lenB n=wi n 33 512:=by rw[Bool.eq_iff_iff];unfold lenB;rw[zbc,zbc];omega
 have hb:=yc6 n;have l:=wrp (runV n*64);rw[b,i];clear b i;go_in;go_wp2_with (first|(go_at_call 123;refine(zmu _ _).mono ?_;rintro e w' ⟨rfl,rfl⟩)|(go_at_call 73;refine(zur _ _).mono ?_;rintro e w' ⟨rfl,rfl⟩));go_ret2;exact⟨rfl,rfl⟩
end

section

open Go.RowKit

theorem zro(p c m:Int)(w:World):
  Calls Tryz.prog 105 #[.agg #[.int .i64 p,.int .i64 c,.int .i64 m]] w fun e w'=>e= .returned (.int .i64 (zb6 p c m))/\Below w.heap.size w w':=by
 by_cases b:mayB p c m=true
 ·have hb:=zar.1 b;have n:=zk3 (c:=c) (m:=m) (C:=12) (M:=8) (by omega) (by omega);have i:zb6 p c m=c+p+p*16+c*m:=by unfold zb6;rw[if_pos b]
  rw[i];clear i;have j:=wrp (c+p);have o:=wrp (p*16);have q:=wrp (c+p+p*16);have r:=wrp (c*m);have s:=wrp (c+p+p*16+c*m);go_in;go_wp2_with (go_at_call 96;refine(zcc _ _ _ _).mono ?_;rintro e j ⟨rfl,rfl⟩);go_ret;exact⟨rfl,by go_grown⟩
 have l:mayB p c m=false:=by simpa using b
 have i:zb6 p c m=0:=by unfold zb6;rw[if_neg b]
 rw[i];clear b i;go_in;go_wp2_with (go_at_call 96;refine(zcc _ _ _ _).mono ?_;rintro e j ⟨rfl,rfl⟩);go_ret;exact⟨rfl,by go_grown⟩
theorem zau(p c m x:Int)(w:World):
  Calls Tryz.prog 57 #[.agg #[.int .i64 p,.int .i64 c,.int .i64 m],.int .i64 x] w fun e w'=>e= .returned (.int .i64 (zae p c m x))/\Below w.heap.size w w':=by
 by_cases i:mayB p c m=true;case neg=>
  have n:mayB p c m=false:=by simpa using i
  have b:zae p c m x= -1:=by unfold zae;rw[if_neg (fun h=>i h.1)]
  rw[b];clear i b;go_in;go_wp2_with (first|(go_at_call 96;refine(zcc _ _ _ _).mono ?_;rintro e l ⟨rfl,rfl⟩)|(go_at_call 107;refine(za9 _ _ _ _).mono ?_;rintro e w' ⟨rfl,rfl⟩));go_ret;exact⟨rfl,by go_grown⟩
 case pos=>
  have hb:=zar.1 i;have wc:wrap64 (c-1)=c-1:=IntWalk.wrap64_in _ ⟨by omega,by omega⟩;by_cases j:wi x 0 (c-1)=true;case neg=>
   have q:wi x 0 (c-1)=false:=by simpa using j
   have b:zae p c m x= -1:=by unfold zae;rw[if_neg (fun h=>j h.2)]
   rw[b];clear j b;go_in;go_wp2_with (first|(go_at_call 96;refine(zcc _ _ _ _).mono ?_;rintro e l ⟨rfl,rfl⟩)|(go_at_call 107;refine(za9 _ _ _ _).mono ?_;rintro e w' ⟨rfl,rfl⟩));go_ret;exact⟨rfl,by go_grown⟩
  have o:=zbc.1 j;have b:zae p c m x=x:=by unfold zae;rw[if_pos ⟨i,j⟩]
  rw[b];clear b;go_in;go_wp2_with (first|(go_at_call 96;refine(zcc _ _ _ _).mono ?_;rintro e l ⟨rfl,rfl⟩)|(go_at_call 107;refine(za9 _ _ _ _).mono ?_;rintro e w' ⟨rfl,rfl⟩));go_ret;exact⟨rfl,by go_grown⟩
theorem zbm(p c m a i:Int)(w:World):
  Calls Tryz.prog 121 #[.agg #[.int .i64 p,.int .i64 c,.int .i64 m],.int .i64 a,.int .i64 i] w fun e w'=>e= .returned (.int .i64 (zbk p c m a i))/\Below w.heap.size w w':=by
 by_cases j:mayB p c m=true;case neg=>
  have o:mayB p c m=false:=by simpa using j
  have b:zbk p c m a i= -1:=by unfold zbk;rw[if_neg (fun h=>j h.1)]
  rw[b];clear j b;go_in;go_wp2_with (first|(go_at_call 96;refine(zcc _ _ _ _).mono ?_;rintro e n ⟨rfl,rfl⟩)|(go_at_call 107;refine(za9 _ _ _ _).mono ?_;rintro e w' ⟨rfl,rfl⟩));go_ret;exact⟨rfl,by go_grown⟩
 case pos=>
  have hb:=zar.1 j;have wc:wrap64 (p-1)=p-1:=IntWalk.wrap64_in _ ⟨by omega,by omega⟩;by_cases l:wi a 0 (p-1)=true;case neg=>
   have q:wi a 0 (p-1)=false:=by simpa using l
   have b:zbk p c m a i= -1:=by unfold zbk;rw[if_neg (fun h=>l h.2.1)]
   rw[b];clear l b;go_in;go_wp2_with (first|(go_at_call 96;refine(zcc _ _ _ _).mono ?_;rintro e n ⟨rfl,rfl⟩)|(go_at_call 107;refine(za9 _ _ _ _).mono ?_;rintro e w' ⟨rfl,rfl⟩));go_ret;exact⟨rfl,by go_grown⟩
  have r:=zbc.1 l;by_cases q1:wi i 0 15=true;case neg=>
   have q:wi i 0 15=false:=by simpa using q1
   have b:zbk p c m a i= -1:=by unfold zbk;rw[if_neg (fun h=>q1 h.2.2)]
   rw[b];clear q1 b;go_in;go_wp2_with (first|(go_at_call 96;refine(zcc _ _ _ _).mono ?_;rintro e n ⟨rfl,rfl⟩)|(go_at_call 107;refine(za9 _ _ _ _).mono ?_;rintro e w' ⟨rfl,rfl⟩));go_ret;exact⟨rfl,by go_grown⟩
  have s:=zbc.1 q1;have b:zbk p c m a i=c+p+a*16+i:=by unfold zbk;rw[if_pos ⟨j,l,q1⟩]
  rw[b];clear b;have n:=wrp (c+p);have t:=wrp (a*16);have y:=wrp (c+p+a*16);have z:=wrp (c+p+a*16+i);go_in;go_wp2_with (first|(go_at_call 96;refine(zcc _ _ _ _).mono ?_;rintro e n ⟨rfl,rfl⟩)|(go_at_call 107;refine(za9 _ _ _ _).mono ?_;rintro e w' ⟨rfl,rfl⟩));go_ret;exact⟨rfl,by go_grown⟩
theorem zjh(p c m x i:Int)(w:World):
  Calls Tryz.prog 136 #[.agg #[.int .i64 p,.int .i64 c,.int .i64 m],.int .i64 x,.int .i64 i] w fun e w'=>e= .returned (.int .i64 (ze9 p c m x i))/\Below w.heap.size w w':=by
 by_cases j:mayB p c m=true;case neg=>
  have o:mayB p c m=false:=by simpa using j
  have b:ze9 p c m x i= -1:=by unfold ze9;rw[if_neg (fun h=>j h.1)]
  rw[b];clear j b;go_in;go_wp2_with (first|(go_at_call 96;refine(zcc _ _ _ _).mono ?_;rintro e n ⟨rfl,rfl⟩)|(go_at_call 107;refine(za9 _ _ _ _).mono ?_;rintro e w' ⟨rfl,rfl⟩));go_ret;exact⟨rfl,by go_grown⟩
 case pos=>
  have hb:=zar.1 j;have wc:wrap64 (c-1)=c-1:=IntWalk.wrap64_in _ ⟨by omega,by omega⟩;have wd:wrap64 (m-1)=m-1:=IntWalk.wrap64_in _ ⟨by omega,by omega⟩;by_cases l:wi x 0 (c-1)=true;case neg=>
   have q:wi x 0 (c-1)=false:=by simpa using l
   have b:ze9 p c m x i= -1:=by unfold ze9;rw[if_neg (fun h=>l h.2.1)]
   rw[b];clear l b;go_in;go_wp2_with (first|(go_at_call 96;refine(zcc _ _ _ _).mono ?_;rintro e n ⟨rfl,rfl⟩)|(go_at_call 107;refine(za9 _ _ _ _).mono ?_;rintro e w' ⟨rfl,rfl⟩));go_ret;exact⟨rfl,by go_grown⟩
  have r:=zbc.1 l;by_cases q1:wi i 0 (m-1)=true;case neg=>
   have q:wi i 0 (m-1)=false:=by simpa using q1
   have b:ze9 p c m x i= -1:=by unfold ze9;rw[if_neg (fun h=>q1 h.2.2)]
   rw[b];clear q1 b;go_in;go_wp2_with (first|(go_at_call 96;refine(zcc _ _ _ _).mono ?_;rintro e n ⟨rfl,rfl⟩)|(go_at_call 107;refine(za9 _ _ _ _).mono ?_;rintro e w' ⟨rfl,rfl⟩));go_ret;exact⟨rfl,by go_grown⟩
  have s:=zbc.1 q1;have b:ze9 p c m x i=c+p+p*16+x*m+i:=by unfold ze9;rw[if_pos ⟨j,l,q1⟩]
  rw[b];clear b;have t:=zk3 (c:=x) (m:=m) (C:=11) (M:=8) (by omega) (by omega);have n:=wrp (c+p);have y:=wrp (p*16);have z:=wrp (c+p+p*16);have B:=wrp (x*m);have D:=wrp (c+p+p*16+x*m);have E:=wrp (c+p+p*16+x*m+i);go_in;go_wp2_with (first|(go_at_call 96;refine(zcc _ _ _ _).mono ?_;rintro e n ⟨rfl,rfl⟩)|(go_at_call 107;refine(za9 _ _ _ _).mono ?_;rintro e w' ⟨rfl,rfl⟩));go_ret;exact⟨rfl,by go_grown⟩
def splitB (p c m a:Int):Bool:=mayB p c m && wi a 0 (p * 64 - 1)
theorem ygw(x:Int)(f:0<=x)(i:x<9223372036854775808):bits .and .i64 x 63=x%64:=
 bits_mask .i64 63 (by decide) (fun n a b=>IntWalk.i64_in _ ⟨by omega,by omega⟩) 6 (by decide) x f i
theorem z0r(p c m a:Int)(w:World):
  Calls Tryz.prog 147 #[.agg #[.int .i64 p,.int .i64 c,.int .i64 m],.int .i64 a] w fun e w'=>e= .returned (.tuple (if splitB p c m a=true then #[.int .i64 (a/64),.int .i64 (a%64),.bool true] else #[.int .i64 0,.int .i64 0,.bool false]))/\Below w.heap.size w w':=by
 by_cases i:mayB p c m=true;case neg=>
  have l:mayB p c m=false:=by simpa using i
  have b:splitB p c m a=false:=by unfold splitB;rw[l];rfl
  rw[b,if_neg Bool.false_ne_true];clear i b;go_in;go_wp2_with (first|(go_at_call 96;refine(zcc _ _ _ _).mono ?_;rintro e n ⟨rfl,rfl⟩)|(go_at_call 107;refine(za9 _ _ _ _).mono ?_;rintro e w' ⟨rfl,rfl⟩));go_ret3;exact⟨rfl,by go_grown⟩
 case pos=>
  have hb:=zar.1 i;have n:=wrp (p*64);have s:=wrp (p*64-1);by_cases j:wi a 0 (p*64-1)=true;case neg=>
   have q:wi a 0 (p*64-1)=false:=by simpa using j
   have b:splitB p c m a=false:=by unfold splitB;rw[q,Bool.and_false]
   rw[b,if_neg Bool.false_ne_true];clear j b;go_in;go_wp2_with (first|(go_at_call 96;refine(zcc _ _ _ _).mono ?_;rintro e n ⟨rfl,rfl⟩)|(go_at_call 107;refine(za9 _ _ _ _).mono ?_;rintro e w' ⟨rfl,rfl⟩));go_ret3;exact⟨rfl,by go_grown⟩
  have r:=zbc.1 j;have b:splitB p c m a=true:=by unfold splitB;rw[i,j];rfl
  rw[b,if_pos rfl];clear b;have o:=ygw a (by omega) (by omega);go_in;go_wp2_with (first|(go_at_call 96;refine(zcc _ _ _ _).mono ?_;rintro e n ⟨rfl,rfl⟩)|(go_at_call 107;refine(za9 _ _ _ _).mono ?_;rintro e w' ⟨rfl,rfl⟩));go_ret3;exact⟨rfl,by go_grown⟩
theorem zug(p i k:Int)(w:World)(j:0<=p/\p<=64)(hi:0<=i/\i<=16):
  Calls Tryz.prog 67 #[.int .i64 p,.int .i64 i,.int .i64 k] w fun e w'=>e= .returned (.int .i64 (p*64+i*zbj k))/\w'=w:=by
 have hs:=znt k;have b:=zk3 (c:=i) (m:=zbj k) (C:=16) (M:=32) (by omega) (by omega);have l:=wrp (p*64);have n:=wrp (i*zbj k);have o:=wrp (p*64+i*zbj k);go_in;go_wp2_with (go_at_call 68;refine(zgq _ _).mono ?_;rintro e w' ⟨rfl,rfl⟩);go_ret;exact⟨rfl,rfl⟩
section

variable {P:Program} {ops:Array Oper} {md:Region.Mode} {C:World->Prop}

def z3n (P:Program) (md:Region.Mode) (ops:Array Oper) (C:World->Prop) (n:Nat) (L:Array Bool->Act->Prop):Nat->Array Bool->Act->Prop
 | 0,listed,a=> L listed a
 | f + 1,listed,a=> Region.ready md ops listed≠ []/\∀ i ∈ Region.ready md ops listed,i < n/\qOp P ops C i (z3n P md ops C n L f (listed.setIfInBounds i true)) a
theorem z3r{n g:Nat}{L:Array Bool->Act->Prop}{Q':Exit->Act->World->Prop}(p:∀ listed a w,C w->L listed a->wpAny P md ops Q' g listed a w)(f:Nat):
  ∀ (listed:Array Bool) (a:Act) (w:World),C w->z3n P md ops C n L f listed a->wpAny P md ops Q' (f+g) listed a w:=by
 induction f with
 |zero=>intro listed a w b h;rw[Nat.zero_add];exact p _ _ _ b h;|succ f q=>intro listed a w b h;rw[show f+1+g=(f+g)+1 by omega];exact⟨fun o=>absurd o h.1,fun i hi=>wpOp_of_qOp b (fun l w' j m=>q _ l w' j m) (h.2 i hi).2⟩
theorem zvv{n i:Nat}{I:Oper}{v:Value}{L:Array Bool->Act->Prop}(hi:ops[i]?=some I)(t:∀ (j:Nat) (o:Oper) cs b,ops[j]?=some o->o.op≠ .select cs b)
  (hs:Region.sinkB md ops n=true) (hc:Region.chainB md ops n=true) (Z:n<ops.size) (O:i<n)
  (y:∀ listed a,L listed a->∀ j ∈ Region.ready md ops listed,n<=j) (f:Nat):
  ∀ (listed:Array Bool) (a:Act),HeadInv md ops n listed->
   (∀ j B,ops[j]?=some B->j≠i->listed.getD j true=false->(∀ e ∈ B.after,Region.binds md e=true->e.on≠i)->I.apart ops B=true)->
   i ∈ Region.ready md ops listed->YieldsIn P ops C I v a->z3n P md ops C n L f (listed.setIfInBounds i true) (a.put I.dst v)->z3n P md ops C n L (f+1) listed a:=by
 have small:∀ listed:Array Bool,HeadInv md ops n listed->i ∈ Region.ready md ops listed->∀ j ∈ Region.ready md ops listed,j<n:=fun listed inv p j q=>by
  rcases Nat.lt_or_ge j n with h|h
  ·exact h
  exact absurd q (tail_waits hs hc Z inv _ i rfl O (mem_ready.1 p).1 j h)
 induction f with
 |zero=>
  intro listed a inv _ p M H;refine⟨fun h=>(by rw[h]at p;cases p),fun j q=>?_⟩;have r:=small listed inv p j q;by_cases l:j=i
  ·subst l;exact⟨r,M.qOp hi H⟩
  have:=y _ _ H j (ready_mono q l);omega
 |succ f ih=>
  intro listed a inv m p M H;refine⟨fun h=>(by rw[h]at p;cases p),fun j q=>?_⟩;have r:=small listed inv p j q;refine⟨r,?_⟩;by_cases l:j=i
  ·subst l;exact M.qOp hi H
  have J:=(H.2 j (ready_mono q l)).2;obtain⟨s,B,z,D⟩:=mem_ready.1 q;have F:∀ e ∈ B.after,Region.binds md e=true->e.on≠i:=fun e X hb N=>by have J:=D e X hb;rw[N,getD_both (mem_ready.1 p).1]at J;cases J
  have V:=qOp_put z (m j B z l s F) (fun cs b=>t i I cs b hi) (fun cs b=>t j B cs b z) M J;refine qOp_mono (fun U T=>ih (listed.setIfInBounds j true) U (inv.set q r) (fun k ok Y R G S=>?_) (ready_mono p (Ne.symm l)) T.1 ?_) V
  ·refine m k ok Y R ?_ S;by_cases E:j=k
   ·subst E;exact s
   rw[getD_set_ne true E]at G;exact G
  rw[Array.setIfInBounds_comm _ _ l];exact T.2
theorem z3y{n g:Nat}{s:Act->Prop}(m:Region.noSelect ops=true)(hs:Region.sinkB md ops n=true)(hc:Region.chainB md ops n=true)(G:n<ops.size)(l:List Oper):
  ∀ (k:Nat) (listed:Array Bool) (a:Act),(∀ j,j<l.length->l[j]?=ops[k+j]?)->k+l.length=n->HeadInv md ops n listed->
  Region.lexHead md ops g l.length k listed=true->wpQuiet P ops C s l a->z3n P md ops C n (fun b z=>Region.seqB md ops g n b=true/\s z) l.length listed a:=by
 induction l with
 |nil=>
  intro k listed a _ r _ q h;have:k=n:=by simpa using r
  subst this;exact⟨by simpa[Region.lexHead] using q,h⟩
 |cons o l J=>
  intro k listed a B r inv q h;have p:ops[k]?=some o:=by simpa using(B 0 (by simp)).symm
  simp only[List.length_cons,Region.lexHead,Bool.and_eq_true]at q;obtain⟨⟨H,F⟩,t⟩:=q;have f:k<n:=by simp only[List.length_cons]at r;omega
  have i:k ∈ Region.ready md ops listed:=by simpa using H
  have y:qOp P ops C k (wpQuiet P ops C s l) a:=by unfold qOp;simp only[p];exact h
  obtain⟨v,I,D⟩:=yieldsIn_of_qOp p y
  exact zvv p (Region.noSelect_spec m) hs hc G f (fun b z E=>seqB_ready E.1) l.length listed a inv (Region.free_spec p F) i I
   (J (k+1) _ _ (fun j L=>by have:=B (j+1) (by simp;omega);simpa[Nat.add_assoc,Nat.add_comm 1 j] using this) (by simp only[List.length_cons]at r;omega) (inv.set i f) t D)
theorem zit{J:Nat}{Q:Exit->Act->World->Prop}{a:Act}{w:World}{l:List Oper}(n:Nat)(F:P.follows .mixedOrders=true)(s:Region.lexTailB .any l.toArray n=true)(E:C {w with drawn:=w.drawn+1})
  (h:wpQuiet P l.toArray C (fun p=>∀ w',C w'->wpList P l.toArray Q (l.drop n) p w') (l.take n) a):(Code.region J l.toArray true).wp P Q a w:=by
 simp only[Region.lexTailB,Bool.and_eq_true,decide_eq_true_eq]at s;obtain⟨⟨⟨⟨m,D⟩,hs⟩,hc⟩,i⟩:=s;have G:n<l.length:=by simpa using D
 have b:(l.take n).length=n:=by simp;omega
 have f:(l.drop n).length=l.toArray.size-n:=by simp
 have o:HeadInv .any l.toArray n (Array.replicate l.toArray.size false):=
  ⟨by simp,fun j L _ B=>(by rw[getD_replicate_false]at B;cases B),fun t _ I=>getD_in (by simpa using I) (getD_replicate_false _ _)⟩
 have H:=z3y (md:= .any) (g:=l.toArray.size-n) m hs hc D (l.take n) 0 _ a (fun j z=>by
  have q:j<n:=by rw[b]at z;exact z
  simp[q]) (by simpa using b) o (by rw[b];exact i) h
 refine wp_region_any F ?_
 have:=z3r (Q':=Q) (g:=l.toArray.size-n) (fun listed p w' r y=>by
  have:=wpAny_of_seq (md:= .any) (Q':=Q) (l.drop n) n listed p w' (fun j=>by simp[List.getElem?_drop]) (by rw[f];exact y.1) (y.2 w' r)
  rwa [f]at this) _ _ _ _ E H
 rw[b,show n+(l.toArray.size-n)=l.toArray.size by omega]at this;exact this
end

theorem zad{P:Program}{j:Nat}{Q:Exit->Act->World->Prop}{a:Act}{w:World}{l:List Oper}(n:Nat)(i:P.follows .mixedOrders=true)(f:Region.lexTailB .any l.toArray n=true)
  (h:wpQuiet P l.toArray (fun w'=>∃ e:Ext w,w'=e.w) (fun b=>∀ w',(∃ e:Ext w,w'=e.w)->wpList P l.toArray Q (l.drop n) b w') (l.take n) a):(Code.region j l.toArray true).wp P Q a w:=
 zit n i f ⟨⟨_,br.drew⟩,rfl⟩ h
end

end Go.Proofs.YtkbddndcegpllaaGreat

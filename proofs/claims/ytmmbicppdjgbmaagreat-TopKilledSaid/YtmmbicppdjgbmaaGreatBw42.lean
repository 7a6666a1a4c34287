/- Lemmas for the claim. -/
import Derived.Test.YtmmbicppdjgbmaaGreatBw38

import Derived.Test.YtmmbicppdjgbmaaGreatBw41

set_option linter.all false
set_option maxHeartbeats 8000000
set_option maxRecDepth 100000
namespace Go.Proofs.YtmmbicppdjgbmaaGreat

section

open Go.RowKit

attribute [local go_sem ↓] Go.wp_at_zero Go.wp_at_succ

def tA0:Wd:=uB sT
def tA1:Wd:=(tA0.act sT ⟨1,0,0,0,0,0⟩).1
def tA2:Wd:=askW sT tA1 0 ⟨1,0,100⟩
def tA3:Wd:=askW sT tA2 0 ⟨1,0,1⟩
def tA4:Wd:=askW sT tA3 0 ⟨2,0,0⟩
theorem tE1:(tA0.act sT ⟨1,0,0,0,0,0⟩).2=0:=by decide +kernel
theorem tE2:(tA1.act sT ⟨2,0,1,0,100,0⟩).2=0:=by decide +kernel
theorem tL2:YD tA2=0:=by decide +kernel
theorem tE3:(tA2.act sT ⟨2,0,1,0,1,0⟩).2=0:=by decide +kernel
theorem tL3:YD tA3=3:=by decide +kernel
theorem tE4:(tA3.act sT ⟨2,0,2,0,0,0⟩).2=0:=by decide +kernel
theorem tL4:YD tA4=0:=by decide +kernel
theorem tF4:(⟨2,1,1,tA4.m.ws⟩:Hp).count.f=128:=by decide +kernel
theorem audT(ws:List Int)(hc:(⟨2,1,1,ws⟩:Hp).count.f=128)(j:∀ x ∈ ws,0<=x/\x<18446744073709551616)(v:Value)(Y:World)(h:RdZ .u64 Y v ws):
  Calls Tryz.prog 41 #[.agg #[.int .i64 2,.int .i64 1,.int .i64 1],v] Y fun e w'=>(∃ a b c:Value,e= .returned (.agg #[.int .i64 128,a,b,c]))/\Below Y.heap.size Y w':=by
 refine(yQ ⟨2,1,1,ws⟩ v Y h j).mono fun e w' i=>?_;have h1:=i.1;rw[hc]at h1;exact⟨⟨_,_,_,h1⟩,i.2⟩
theorem yjk{s:Sh}{d:Wd}{n:Nat}(h:wdOk s d n):∀ x ∈ d.m.ws,0<=x/\x<18446744073709551616:=h.fit
attribute [local go_sem ↓] MQ

theorem sN(W:World):Calls Tryz.prog 15 #[] W fun e w'=>e= .returned (.bool true)/\Below W.heap.size W w':=by
 have o0:=OL (s:=sT) (by decide);have o1:wdOk sT tA1 1:=KF o0 _;have o2:wdOk sT tA2 286:=by have h:=rN (c:=0) (o:=⟨1,0,100⟩) o1;rw[tM]at h;exact h
 have o3:wdOk sT tA3 571:=by have h:=rN (c:=0) (o:=⟨1,0,1⟩) o2;rw[tM]at h;exact h
 have o4:wdOk sT tA4 856:=by have h:=rN (c:=0) (o:=⟨2,0,0⟩) o3;rw[tM]at h;exact h
 have l:∀ Y,jK 8 #[.agg #[.int .i64 2,.int .i64 1,.int .i64 1]] Y fun e w'=>Below Y.heap.size Y w'/\∃ g v x,e= .returned (.tuple #[.pointer (some ⟨g,0,.none⟩),.pointer (some ⟨v,0,.none⟩)])/\WdP Y.heap.size (fun i=>Y.heap.size<=i/\i<w'.heap.size) w' g sT tA0 x:=fun Y=>DP sT Y (by decide);have bj:∀ (p:Nat) (W:World),(binOp .eql 27 (.pointer (some ⟨p,0,.none⟩)) (.pointer none)).run Tryz.prog W= .ok (.bool false) W:=fun p W=>by kernel_rfl
 have I:∀ (B:Nat) (F:Nat->Prop) X g x,WdP B F X g sT tA0 x->B<=X.heap.size->jK 9 #[some g,.agg #[.int .i64 1,.int .i64 0,.int .i64 0,.int .i64 0,.int .i64 0,.float .f64 0]] X fun e w'=>e= .returned (.int .i64 0)/\WdTo B F X w' g sT tA1:=fun B F X g x C E=>by have h:=qI C E o0 (by omega) ⟨1,0,0,0,0,0⟩;rw[tE1]at h;exact h
 have J:∀ (B:Nat) (F:Nat->Prop) X g x,WdP B F X g sT tA1 x->B<=X.heap.size->jK 21 #[some g,.agg #[.int .i64 2,.int .i64 1,.int .i64 1],.int .i64 0,.agg #[.int .i64 1,.int .i64 0,.int .i64 100]] X fun e w'=>e= .returned (.tuple #[.int .i64 0,.bool true])/\WdTo B F X w' g sT tA2:=fun B F X g x C E=>by refine(ZJ C E o1 (by rw[tM];omega) 0 ⟨1,0,100⟩).mono fun e w' q=>?_;dsimp only at q;rw[jP tE2]at q;rw[<-tL2];exact q
 have L:∀ (B:Nat) (F:Nat->Prop) X g x,WdP B F X g sT tA2 x->B<=X.heap.size->jK 21 #[some g,.agg #[.int .i64 2,.int .i64 1,.int .i64 1],.int .i64 0,.agg #[.int .i64 1,.int .i64 0,.int .i64 1]] X fun e w'=>e= .returned (.tuple #[.int .i64 3,.bool true])/\WdTo B F X w' g sT tA3:=fun B F X g x C E=>by refine(ZJ C E o2 (by rw[tM];omega) 0 ⟨1,0,1⟩).mono fun e w' q=>?_;dsimp only at q;rw[jP tE3]at q;rw[<-tL3];exact q
 have M:∀ (B:Nat) (F:Nat->Prop) X g x,WdP B F X g sT tA3 x->B<=X.heap.size->jK 21 #[some g,.agg #[.int .i64 2,.int .i64 1,.int .i64 1],.int .i64 0,.agg #[.int .i64 2,.int .i64 0,.int .i64 0]] X fun e w'=>e= .returned (.tuple #[.int .i64 0,.bool true])/\WdTo B F X w' g sT tA4:=fun B F X g x C E=>by refine(ZJ C E o3 (by rw[tM];omega) 0 ⟨2,0,0⟩).mono fun e w' q=>?_;dsimp only at q;rw[jP tE4]at q;rw[<-tL4];exact q
 have N:∀ (B:Nat) (F:Nat->Prop) X g x,WdP B F X g sT tA4 x->jK 24 #[some g] X fun e w'=>∃ v',e= .returned v'/\Below X.heap.size X w'/\RdZ .u64 w' v' tA4.m.ws:=fun B F X g x C=>(zQ C).mono fun e w' ⟨v,h1,h2,h3⟩=>⟨v,h1,h2,RdS.AC h3⟩
 have j:∀ Y v,RdZ .u64 Y v tA4.m.ws->jK 41 #[.agg #[.int .i64 2,.int .i64 1,.int .i64 1],v] Y fun e w'=>(∃ a b c:Value,e= .returned (.agg #[.int .i64 128,a,b,c]))/\Below Y.heap.size Y w':=fun Y v h=>audT _ tF4 (yjk o4) v Y h;have b0:=(Below.refl W.heap.size W).alloc lr (.cells #[.int .i64 2,.int .i64 1,.int .i64 1] 23);have t0:aA (W.alloc (.cells #[.int .i64 2,.int .i64 1,.int .i64 1] 23)) W.heap.size #[.int .i64 2,.int .i64 1,.int .i64 1] 23:=jA _ _;replace l:=hd' l;replace I:=hd' I;replace J:=hd' J;replace L:=hd' L;replace M:=hd' M;replace N:=hd' N;replace j:=hd' j;clear o0 o1 o2 o3 o4;go_in;go_upto_region 2 with fail;generalize W.alloc (.cells #[.int .i64 2,.int .i64 1,.int .i64 1] 23)=X at *;obtain⟨H,hH,V⟩:=hidv W.heap.size;rw[<-V]at t0 ⊢;clear V;have D:=t0.lt;obtain⟨c0,c1,c2⟩:=ci3 2 1 1 t0.cell;go_upto_region 6 with(first|(go_at_call 8;refine(l _).mono ?_;rintro r w1 ⟨G,g,vv,x0,rfl,b7⟩;have R:=G.size)|(go_at_call 9;(with_reducible refine(I _ _ _ _ _ b7 R).mono ?_);rintro r w2 ⟨rfl,⟨x1,b8⟩,b3,S⟩));have t1:=t0.below G;have bb:¬ (X.heap.size<=H/\H<w1.heap.size):=fun e=>by omega
 have t2:=t1.only b3 bb;have bc:=gH (F:=fun i=>X.heap.size<=i/\i<w1.heap.size) (W':=w2) bb t1.lt;clear c0 c1 c2 D;have D:=t2.lt;obtain⟨c0,c1,c2⟩:=ci3 2 1 1 t2.cell;go_upto_region 7 with(first|(go_at_call 21;refine(J _ _ _ _ _ b8 S).mono ?_;rintro r w3 ⟨rfl,⟨x2,b9⟩,b4,T⟩));have t3:=t2.only b4 bc;have bf:=gH (W':=w3) bc t2.lt;clear c0 c1 c2 D;have D:=t3.lt;obtain⟨c0,c1,c2⟩:=ci3 2 1 1 t3.cell;go_upto_region 8 with(first|(go_at_call 21;refine(L _ _ _ _ _ b9 T).mono ?_;rintro r w4 ⟨rfl,⟨x3,ba⟩,b5,U⟩));have t4:=t3.only b5 bf;have bi:=gH (W':=w4) bf t3.lt;clear c0 c1 c2 D;have D:=t4.lt;obtain⟨c0,c1,c2⟩:=ci3 2 1 1 t4.cell;go_upto_region 9 with(first|(go_at_call 21;refine(M _ _ _ _ _ ba U).mono ?_;rintro r O ⟨rfl,⟨x4,bh⟩,b6,bk⟩));have t5:=t4.only b6 bi;clear c0 c1 c2 D;have D:=t5.lt;obtain⟨c0,c1,c2⟩:=ci3 2 1 1 t5.cell;have b2:Below W.heap.size W O:=b0.trans ((G.trans ((b3.below R (fun i hi=>(b7.lt i hi).1)).trans ((b4.below S (fun i hi=>(b8.lt i hi).1)).trans ((b5.below T (fun i hi=>(b9.lt i hi).1)).trans (b6.below U (fun i hi=>(ba.lt i hi).1)))))).mono b0.size);have bg:=b2.size;have y:∀ Z,jW O Z->jK 24 #[some g] Z fun e w'=>∃ v',e= .returned v'/\Below Z.heap.size Z w'/\RdZ .u64 w' v' tA4.m.ws:=fun Z hZ=>N _ _ _ _ _ (bh.below hZ);have hk:∀ Z,jW O Z->Z.cell? ⟨H,0,.none⟩=some (.int .i64 2)/\Z.cell? ⟨H,1,.none⟩=some (.int .i64 1)/\Z.cell? ⟨H,2,.none⟩=some (.int .i64 1):=fun Z hZ=>⟨kA hZ _ _ _ c0,kA hZ _ _ _ c1,kA hZ _ _ _ c2⟩;replace y:=hd' y;replace hk:=hd' hk;have dd:=hd' (Below.refl O.heap.size O).drew
 go_region_held3 (fun Y=>Y.cell? ⟨H,0,.none⟩=some (.int .i64 2)/\Y.cell? ⟨H,1,.none⟩=some (.int .i64 1)/\Y.cell? ⟨H,2,.none⟩=some (.int .i64 1))
  (first|exact hk _ dd.out|exact hk _ (dd.out.trans (z.mono dd.out.size))|exact hk _ ((dd.out.trans (z.mono dd.out.size)).trans (b1.mono (by have:=dd.out.size;have:=z.size;omega))))
  (first|(go_at_call 24;(with_reducible refine(y _ dd.out).mono ?_);rintro r w6 ⟨v,rfl,z,hv⟩)|(go_at_call 41;refine(j _ _ hv).mono ?_;rintro r w7 ⟨⟨a,b,c,rfl⟩,b1⟩))
 go_wp2_with fail;go_returns;have h6:=dd.out.trans (z.mono dd.out.size);exact⟨rfl,b2.trans ((h6.trans (b1.mono h6.size)).mono bg)⟩
end

section

open Go.RowKit

theorem pR(a b:Int)(w:World):(Instr.field 41 (.agg #[a,b]) 1).run Tryz.prog w= .ok (.int .i64 b) w:=by kernel_rfl
section

variable {W0 W W':World} {g:Nat} {s:Sh} {Kp Kq:Nat->Obj->Prop} {d d':Wd} {n:Nat}

theorem ON(h:KA W0 g s Kp d W):
  Calls Tryz.prog 24 #[some g] W fun e w'=>∃ v',e= .returned v'/\Below W.heap.size W w'/\RdZ .u64 w' v' d.m.ws:=by
 obtain⟨⟨F,x,h1,h2⟩,h3⟩:=h;exact(zQ h1).mono fun e w' ⟨v,k1,b,i⟩=>⟨v,k1,b,RdS.AC i⟩
theorem mS(h:KA W0 g s Kp d W)(i:wdOk s d n)(b:n+1+WA s<=10000000)(c k a m:Int):
  Calls Tryz.prog 21 #[some g,.agg #[s.p,s.c,s.m],c,.agg #[k,a,m]] W fun e w'=>
   (if (d.act s ⟨2,c,k,a,m,0⟩).2=0 then e= .returned (.tuple #[.int .i64 (YD (askW s d c ⟨k,a,m⟩)),.bool true])/\KA W0 g s Kp (askW s d c ⟨k,a,m⟩) w'
    else e= .returned (.tuple #[.int .i64 0,.bool false])/\KA W0 g s Kp (d.act s ⟨2,c,k,a,m,0⟩).1 w'):=by
 obtain⟨⟨F,x,h1,h2⟩,h3⟩:=h;refine(ZJ h1 h3.size i b c ⟨k,a,m⟩).mono fun e w' h=>?_;dsimp only at h;split at h
 ·rename_i h0;rw[jP h0];exact⟨h.1,KA.to h3 h1 h2 h.2⟩
 rename_i h0;rw[jN h0];exact⟨h.1,KA.to h3 h1 h2 h.2⟩
end

end

section

open Go.RowKit

attribute [local go_sem ↓] Go.wp_at_zero Go.wp_at_succ

theorem Hp.yh9(h:Hp)(a:Int){i j:Nat}(b:i<=j)(f:h.FF a i=false):h.FF a j=false:=by
 induction b with
 |refl=>exact f
 |step _ l=>show (_&&_)=false;rw[l];rfl
theorem Hp.yip(h:Hp)(a k:Int){i j:Nat}(b:i<=j)(f:h.supT a k i=false):h.supT a k j=false:=by
 induction b with
 |refl=>exact f
 |step _ l=>show (_&&_)=false;rw[l];rfl
theorem Hp.yid(h:Hp)(a:Int){i j:Nat}(b:i<=j)(f:h.rowT a i=false):h.rowT a j=false:=by
 induction b with
 |refl=>exact f
 |step _ l=>show (_&&_)=false;rw[l];rfl
theorem yiz(h:Hp)(v:Value)(a:Int)(w:World)(b:Bok w v h)(ha:0<=a/\a<h.p):
  Calls Tryz.prog 88 #[DF h v,a] w fun e w'=>e= .returned (.bool (h.bare a))/\Below w.heap.size w w':=by
 obtain⟨b1,b2,b3,b4⟩:=b.bd;have X:=WE (c:=h.c) (m:=h.m) (C:=12) (M:=8) (by omega) (by omega);have b6:0<h.xs.length:=by omega
 obtain⟨g,off,cap,k0,hv,b5,hg,_,_,_⟩:=b.word 0 (by omega) (by omega);have D:Hid (∀ i:Nat,i<16->∃ k:Nat,XA h.p h.c h.m a i=(k:Int)/\k<h.xs.length/\w.cell? ⟨g,off+k,.none⟩=some (.int .u64 (h.sw a i))):=hd' fun i hi=>by obtain⟨g',b7,b0,k,O,_,_,R,J,hc⟩:=b.word (h.c+h.p+a*16+i) (by omega) (by omega);rw[hv]at O;injection O with F _ _;injection F with F;injection F with F e2;subst F e2;refine⟨k,?_,J,hc⟩;unfold XA;rw[jP ⟨b.may,IA.2 (by omega),IA.2 (by omega)⟩,R]
 subst hv;have B:=fun i=>iE h.p h.c h.m a i;have S:Hid (h.FF a 0=true):=hd' rfl;have V:Hid (∀ i,h.FF a (i+1)=(h.FF a i&&h.sw a i==0)):=hd' fun _=>rfl;have U:Hid (∀ i,i<=16->h.FF a i=false->h.bare a=false):=hd' fun i hi=>h.yh9 a hi;have T:Hid (h.FF a 16=h.bare a):=hd' rfl;generalize hn:h.xs.length=n at *;replace hn:=hd' hn;replace B:=hd' B;clear b b4 X;go_in;have g0:=jA w (.cells #[h.p,h.c,h.m,.slice (some ⟨g,off,.none⟩) n cap] 107);have y:Below w.heap.size w (w.alloc (.cells #[h.p,h.c,h.m,.slice (some ⟨g,off,.none⟩) n cap] 107)):=br.alloc lr _;go_upto_region 1 with fail;obtain⟨H,hH,G⟩:=hidv w.heap.size;rw[<-G]at g0 ⊢;clear G;generalize w.alloc (.cells #[h.p,h.c,h.m,.slice (some ⟨g,off,.none⟩) n cap] 107)=W at *;have c0:W.cell? ⟨H,0,.none⟩=some (.int .i64 h.p):=iA g0 0;have c1:W.cell? ⟨H,1,.none⟩=some (.int .i64 h.c):=iA g0 1;have c2:W.cell? ⟨H,2,.none⟩=some (.int .i64 h.m):=iA g0 2;have c3:W.cell? ⟨H,3,.none⟩=some (.slice (some ⟨g,off,.none⟩) n cap):=iA g0 3;have lH:=(jE g0);have lg:g<W.heap.size:=by have:=y.size;omega
 clear g0;go_wp2_with fail;go_loopw [6] (fun Z wr=>∃ i:Nat,i<=16/\Z= .int .i64 i/\Hid (h.FF a i=true)/\Below W.heap.size W wr) (fun Z _=>16-(intOf Z).toNat);case atStart=>exact⟨0,Nat.zero_le _,rfl,S,Below.refl _ _⟩
 case round=>
  obtain⟨i,hi,rfl,N,l⟩:=hrel;have d0:=kA l _ _ _ c0;have d1:=kA l _ _ _ c1;have d2:=kA l _ _ _ c2;have d3:=kA l _ _ _ c3;have r:=y.trans (l.mono y.size);have bb:H<wr.heap.size:=by have:=l.size;omega
  have bc:g<wr.heap.size:=by have:=l.size;omega
  by_cases L:i<16
  ·obtain⟨k,R,J,hc⟩:=D i L;replace hc:=kA r _ _ _ hc;have o:=B i;rw[R]at o;have j:=V i;rw[N,Bool.true_and]at j;have z:=U (i+1) (by omega);generalize h.sw a i=x at *;replace o:=hd' o;have b9:(0:Int)<=(k:Int):=by omega
   have ba:(k:Int)<(n:Int):=by omega
   have b8:(i:Int)<16:=by omega
   clear R;by_cases E:x=0
   ·have q:(x==0)=true:=by rw[beq_iff_eq];exact E
    rw[q]at j;have hd:(x !=0)=false:=by simp[E]
    replace j:=hd' j;clear z q E;go_upto_region 4 with fail;refine wre ?_;repeat (go_big_quiet_step ((go_at_call 122;exact xA (o _))))
    refine wpQuiet_nil ?_;rintro _ ⟨e,rfl⟩;go_wp2;exact⟨⟨i+1,by omega,by go_num,j,l.trans (e.below.mono l.size)⟩,by simp[intOf];omega⟩
   have q:(x==0)=false:=by rw[beq_eq_false_iff_ne];exact E
   rw[q]at j;have hd:(x !=0)=true:=by simpa using E
   have I:=hd' (z j);clear z q E j;go_upto_region 4 with fail;refine wre ?_;repeat (go_big_quiet_step ((go_at_call 122;exact xA (o _))))
   refine wpQuiet_nil ?_;rintro _ ⟨e,rfl⟩;go_wp2;go_ret;exact⟨by rw[I];rfl,r.trans (e.below.mono r.size)⟩
  have Y:i=16:=by omega
  subst Y;clear L;go_wp2;go_ret;exact⟨by rw[<-T,N];rfl,r⟩
theorem Bok.slots{w:World}{v:Value}{h:Hp}(b:Bok w v h){a:Int}(J:0<=a/\a<h.p):∃ g off cap,v= .slice (some ⟨g,off,.none⟩) h.xs.length cap/\g<w.heap.size/\
  ∀ i:Nat,i<16->∃ k:Nat,XA h.p h.c h.m a i=(k:Int)/\k<h.xs.length/\w.cell? ⟨g,off+k,.none⟩=some (.int .u64 (h.sw a i)):=by
 obtain⟨E,F,G,H⟩:=b.bd;have z:=WE (c:=h.c) (m:=h.m) (C:=12) (M:=8) (by omega) (by omega);obtain⟨g,off,cap,k0,r,q,B,_,_,_⟩:=b.word 0 (by omega) (by omega);refine⟨g,off,cap,r,B,fun i hi=>?_⟩;obtain⟨I,t,o,k,j,_,_,D,l,hc⟩:=b.word (h.c+h.p+a*16+i) (by omega) (by omega);rw[r]at j;injection j with f _ _;injection f with f;injection f with f y;subst f y;refine⟨k,?_,l,hc⟩;unfold XA;rw[jP ⟨b.may,IA.2 (by omega),IA.2 (by omega)⟩,D]
theorem yii(h:Hp)(v:Value)(a k:Int)(w:World)(b:Bok w v h)(ha:0<=a/\a<h.p):
  Calls Tryz.prog 87 #[DF h v,a,k] w fun e w'=>e= .returned (.bool (h.sup a k))/\Below w.heap.size w w':=by
 obtain⟨g,off,cap,hv,hg,y⟩:=b.slots ha;replace y:=hd' y;have I:=fun i=>iE h.p h.c h.m a i;have J:=fun i X (hX:Below w.heap.size w X) hi=>FK h v a i X (b.below hX) ha hi;subst hv;have L:=kD k;have bb:=JC k;have b1:Hid (h.supT a k 0=true):=hd' rfl;have b5:Hid (∀ i,h.supT a k (i+1)=(h.supT a k i&&h.okS a k i)):=hd' fun _=>rfl;have b3:Hid (∀ i,i<=16->h.supT a k i=false->h.sup a k=false):=hd' fun i hi=>h.yip a k hi;have b2:Hid (h.supT a k 16=h.sup a k):=hd' rfl;have b4:Hid (∀ i,h.okS a k i=if i<mA k then(h.sk a i==2&&decide (h.sa a i<h.c))||((h.sk a i==1||h.sk a i==3)&&h.sa a i==k) else h.sw a i==0):=hd' fun _=>rfl;generalize mA k=q at *;generalize hn:h.xs.length=n at *;replace hn:=hd' hn;replace I:=hd' I;replace J:=hd' J;replace L:=hd' L;clear b;go_in;have g0:=jA w (.cells #[h.p,h.c,h.m,.slice (some ⟨g,off,.none⟩) n cap] 107);have r:Below w.heap.size w (w.alloc (.cells #[h.p,h.c,h.m,.slice (some ⟨g,off,.none⟩) n cap] 107)):=br.alloc lr _;go_upto_region 1 with fail;obtain⟨H,hH,O⟩:=hidv w.heap.size;rw[<-O]at g0 ⊢;clear O;generalize w.alloc (.cells #[h.p,h.c,h.m,.slice (some ⟨g,off,.none⟩) n cap] 107)=W at *;have c0:W.cell? ⟨H,0,.none⟩=some (.int .i64 h.p):=iA g0 0;have c1:W.cell? ⟨H,1,.none⟩=some (.int .i64 h.c):=iA g0 1;have c2:W.cell? ⟨H,2,.none⟩=some (.int .i64 h.m):=iA g0 2;have c3:W.cell? ⟨H,3,.none⟩=some (.slice (some ⟨g,off,.none⟩) n cap):=iA g0 3;have lH:=(jE g0);have lg:g<W.heap.size:=by have:=r.size;omega
 clear g0;go_wp2_with fail;go_loopw [10] (fun vi wr=>∃ i:Nat,i<=16/\vi= .int .i64 i/\Hid (h.supT a k i=true)/\Below W.heap.size W wr) (fun vi _=>16-(intOf vi).toNat);case atStart=>exact⟨0,Nat.zero_le _,rfl,b1,Below.refl _ _⟩
 case round=>
  obtain⟨i,hi,rfl,Z,o⟩:=hrel;have d0:=kA o _ _ _ c0;have d1:=kA o _ _ _ c1;have d2:=kA o _ _ _ c2;have d3:=kA o _ _ _ c3;have D:=r.trans (o.mono r.size);by_cases Y:i<16
  ·obtain⟨z,hk,ba,hc⟩:=y i Y;have B:=I i;rw[hk]at B;have C:=J i wr D (by omega);have j:=b5 i;rw[Z,Bool.true_and,b4 i]at j;have S:=b3 (i+1) (by omega);generalize h.sw a i=x at *;generalize h.sk a i=k4 at *;generalize h.sa a i=k5 at *;replace B:=hd' B;replace C:=hd' C;have b8:(0:Int)<=(z:Int):=by omega
   have b9:(z:Int)<(n:Int):=by omega
   have b7:(i:Int)<16:=by omega
   clear hk;go_wp2_with fail;refine C.out.mono ?_;rintro e w3 ⟨rfl,E⟩;have l:=(o.trans (E.mono o.size)).alloc (Nat.le_trans o.size E.size) (.cells #[k4,k5] 168);have M:=jA w3 (.cells #[k4,k5] 168);go_upto_region 5 with fail;generalize w3.heap.size=G at M ⊢;generalize w3.alloc (.cells #[k4,k5] 168)=V at *;have lG:=(jE M);have p0:V.cell? ⟨G,0,.none⟩=some (.int .i64 k4):=iA M 0;have p1:V.cell? ⟨G,1,.none⟩=some (.int .i64 k5):=iA M 1;have d0:=kA l _ _ _ c0;have d1:=kA l _ _ _ c1;have d2:=kA l _ _ _ c2;have d3:=kA l _ _ _ c3;have N:=r.trans (l.mono r.size);replace hc:=kA N _ _ _ hc;have bc:H<V.heap.size:=by have:=l.size;omega
   have bf:g<V.heap.size:=by have:=l.size;omega
   refine wre ?_;repeat (go_big_quiet_step ((go_at_call 122;exact xA (B _))))
   refine wpQuiet_nil ?_;rintro _ ⟨e,rfl⟩;have p0:=kA e.below _ _ _ p0;have p1:=kA e.below _ _ _ p1;have d1:=kA e.below _ _ _ d1;have R:=l.trans (e.below.mono l.size);have b0:=r.trans (R.mono r.size);clear E M lG N hc l C B o D;generalize e.w=U at *;clear e;go_wp2_with fail;refine(L _).mono ?_;rintro e w4 ⟨rfl,hw⟩;obtain rfl:=hw.symm;clear hw;go_upto_if 30 with fail;obtain⟨ok,F⟩:∃ ok:Bool,Hid (h.supT a k (i+1)=ok):=⟨_,hd' rfl⟩;rw[F]at j;replace j:=hd' j;go_cut [9] (fun s wx=>s= .bool ok/\wx=U);case first=>
    by_cases hq:(i:Int)<q
    ·have h1:=j.out;rw[jP hq]at h1;replace h1:=hd' h1;go_wp2_with fail;all_goals (go_meet;refine⟨?_,rfl⟩;rw[h1];congr 1)
     all_goals (clear h1;first|(simp[*];done)|(simp_all;done))
    have h1:=j.out;rw[jN hq]at h1;replace h1:=hd' h1;go_wp2_with fail;go_meet;case rel=>exact⟨by rw[h1],rfl⟩
   case rest=>
    obtain⟨rfl,hw⟩:=hcut;obtain rfl:=hw.symm;clear hw;rcases jB ok with ho|ho
    ·subst ho;go_wp2;exact⟨⟨i+1,by omega,by go_num,F,R⟩,by simp[intOf];omega⟩
    subst ho;have T:=hd' (S F.out);clear S;go_wp2;go_ret;exact⟨by rw[T];rfl,b0⟩
  have b6:i=16:=by omega
  subst b6;clear Y;go_wp2;go_ret;exact⟨by rw[<-b2,Z];rfl,D⟩
theorem yjb(h:Hp)(v:Value)(a n:Int)(w:World)(b:Bok w v h)(ha:0<=a/\a<h.p)(hn:1<=n/\n<=8/\n<=h.p-a):
  Calls Tryz.prog 89 #[DF h v,a,n] w fun e w'=>e= .returned (.bool (h.rowB a n))/\Below w.heap.size w w':=by
 obtain⟨b1,_,_,_⟩:=b.bd;obtain⟨ao,cap,hv,_,_,_⟩:=b.rd.cells;generalize h.xs.length=m at hv;subst hv;have F:=fun q X (V:Below w.heap.size w X) hq=>mH h (.slice ao m cap) q X (b.below V) hq;obtain⟨N,J⟩:∃ N:Nat,n-1=N:=⟨(n-1).toNat,by omega⟩;have R:Hid (h.rowT a 0=true):=hd' rfl;have U:Hid (∀ i:Nat,h.rowT a (i+1)=(h.rowT a i&&(h.pk (a+1+i)==4&&h.pa (a+1+i)==a))):=hd' fun _=>rfl;have T:Hid (∀ i,i<=N->h.rowT a i=false->h.rowB a n=false):=hd' fun i hi hf=>by unfold Hp.rowB;exact h.yid a (by omega) hf
 have S:Hid (h.rowT a N=h.rowB a n):=hd' (by unfold Hp.rowB;rw[J,Int.toNat_natCast]);replace J:=hd' J;replace F:=hd' F;have wa:=wrp (a+1);have wn:=wrp (a+n);clear b;go_in;have g0:=jA w (.cells #[h.p,h.c,h.m,.slice ao m cap] 107);have G:Below w.heap.size w (w.alloc (.cells #[h.p,h.c,h.m,.slice ao m cap] 107)):=br.alloc lr _;go_upto_region 1 with fail;obtain⟨H,hH,I⟩:=hidv w.heap.size;rw[<-I]at g0 ⊢;clear I;generalize w.alloc (.cells #[h.p,h.c,h.m,.slice ao m cap] 107)=W at *;have c0:W.cell? ⟨H,0,.none⟩=some (.int .i64 h.p):=iA g0 0;have c1:W.cell? ⟨H,1,.none⟩=some (.int .i64 h.c):=iA g0 1;have c2:W.cell? ⟨H,2,.none⟩=some (.int .i64 h.m):=iA g0 2;have c3:W.cell? ⟨H,3,.none⟩=some (.slice ao m cap):=iA g0 3;clear g0;go_wp2_with fail;go_loopw [7] (fun vi wr=>∃ i:Nat,i<=N/\vi= .int .i64 (a+1+i)/\Hid (h.rowT a i=true)/\Below W.heap.size W wr) (fun vi _=>(a+n-intOf vi).toNat);case atStart=>exact⟨0,Nat.zero_le _,by simp,R,Below.refl _ _⟩
 case round=>
  obtain⟨i,hi,rfl,O,y⟩:=hrel;have d0:=kA y _ _ _ c0;have d1:=kA y _ _ _ c1;have d2:=kA y _ _ _ c2;have d3:=kA y _ _ _ c3;have o:=G.trans (y.mono G.size);by_cases b2:i<N
  ·have hq:a+1+(i:Int)<a+n:=by have:=J.out;omega
   have D:=F (a+1+i) wr o (by omega);have l:=U i;rw[O,Bool.true_and]at l;have B:=T (i+1) (by omega);have wq:IntKind.i64.wrap (a+1+(i:Int)+1)=a+1+(i:Int)+1:=IntWalk.i64_in _ ⟨by omega,by omega⟩;generalize h.pk (a+1+i)=k1 at *;generalize h.pa (a+1+i)=k2 at *;generalize h.pn (a+1+i)=k3 at *;generalize h.pb (a+1+i)=k4 at *;replace D:=hd' D
   have fin:Hid (∀ X,jW W X->h.rowT a (i+1)=true->(∃ j:Nat,j<=N/\Value.int .i64 (a+1+(i:Int)+1)= .int .i64 (a+1+j)/\Hid (h.rowT a j=true)/\Below W.heap.size W X)/\(a+n-(a+1+(i:Int)+1)).toNat<(a+n-(a+1+(i:Int))).toNat):=
    hd' fun X V z=>⟨⟨i+1,by omega,by congr 1;omega,hd' z,V⟩,by omega⟩
   by_cases C:k1=4
   ·by_cases E:k2=a
    ·have z:h.rowT a (i+1)=true:=by rw[l,C,E];simp
     subst C E;replace z:=hd' z;clear l B;go_wp2_with fail;refine D.out.mono ?_;rintro e w3 ⟨rfl,r⟩;go_wp2;exact fin _ ((y.trans (r.mono y.size)).alloc (Nat.le_trans y.size r.size) _) z.out
    have M:(k2==a)=false:=by rw[beq_eq_false_iff_ne];exact E
    have z:=B (by rw[l,M,Bool.and_false]);have b0:(k2 !=a)=true:=by simpa using E
    subst C;replace z:=hd' z;clear l B fin;go_wp2_with fail;refine D.out.mono ?_;rintro e w3 ⟨rfl,r⟩;go_wp2;go_ret;exact⟨by rw[z];rfl,(o.trans (r.mono o.size)).alloc (Nat.le_trans o.size r.size) _⟩
   have L:(k1==4)=false:=by rw[beq_eq_false_iff_ne];exact C
   have z:=B (by rw[l,L,Bool.false_and]);have Z:(k1 !=4)=true:=by simpa using C
   replace z:=hd' z;clear l B fin;go_wp2_with fail;refine D.out.mono ?_;rintro e w3 ⟨rfl,r⟩;go_wp2;go_ret;exact⟨by rw[z];rfl,(o.trans (r.mono o.size)).alloc (Nat.le_trans o.size r.size) _⟩
  have Y:i=N:=by omega
  subst Y;clear b2;have hq:¬ (a+1+(i:Int)<a+n):=by have:=J.out;omega
  go_wp2;go_ret;exact⟨by rw[<-S,O];rfl,o⟩
theorem yik(h:Hp)(v:Value)(a:Int)(w:World)(b:Bok w v h)(ha:0<=a/\a<h.p):
  Calls Tryz.prog 51 #[DF h v,a] w fun e w'=>e= .returned (.bool (h.snd a))/\Below w.heap.size w w':=by
 obtain⟨b1,_,_,_⟩:=b.bd;obtain⟨ao,cap,hv,_,_,_⟩:=b.rd.cells;generalize h.xs.length=m at hv;subst hv;have J:=fun X (M:Below w.heap.size w X)=>mH h (.slice ao m cap) a X (b.below M) ha;have b2:=fun q X (M:Below w.heap.size w X) hq=>mH h (.slice ao m cap) q X (b.below M) hq;have b4:=fun k X (M:Below w.heap.size w X)=>yii h (.slice ao m cap) a k X (b.below M) ha;have S:=fun X (M:Below w.heap.size w X)=>yiz h (.slice ao m cap) a X (b.below M) ha;have b3:=fun n X (M:Below w.heap.size w X) hn=>yjb h (.slice ao m cap) a n X (b.below M) ha hn;have N:=Hp.zN (h:=h) (a:=a);have O:=Hp.KQ (h:=h) (a:=a);have b9:=h.aJ a
 have hs:h.snd a=if h.pb a=true then
  (if h.pk a=2 then h.sup a (h.pa a)
   else if h.pk a=3 then h.bare a&&h.rowB a (h.pa a)
   else if h.pk a=4 then h.bare a&&(h.pk (h.pa a)==1||(h.pk (h.pa a)==3&&decide (a<h.pa a+h.pa (h.pa a))))
   else if h.pk a=0 then h.bare a
   else true)
 else false:=rfl;generalize h.pk a=k1 at *;generalize h.pa a=r at *;generalize h.pn a=E at *;generalize h.pb a=kb at *;generalize h.bare a=bb at *;rw[hs];clear hs b;replace J:=hd' J;replace b2:=hd' b2;replace b4:=hd' b4;replace S:=hd' S;replace b3:=hd' b3;rcases jB kb with b0|b0;case inr=>subst b0;rw[jN Bool.false_ne_true];clear N O;go_in;go_wp2_with fail;refine(J _ (br.alloc lr _)).mono ?_;rintro e i ⟨rfl,l⟩;have j:Below w.heap.size w i:=((Below.refl w.heap.size w).alloc lr _).trans (l.mono (by simp));go_wp2;go_ret;exact⟨rfl,j.alloc j.size _⟩
 case inl=>
  subst b0;rw[jP rfl];by_cases q2:k1=2
  ·rw[jP q2];subst q2;clear N O;go_in;go_wp2_with fail;refine(J _ (br.alloc lr _)).mono ?_;rintro e i ⟨rfl,l⟩;have j:Below w.heap.size w i:=((Below.refl w.heap.size w).alloc lr _).trans (l.mono (by simp));have g0:=(l.block _ (by simp)).trans (jA w (.cells #[h.p,h.c,h.m,.slice ao m cap] 107));have C:=jA i (.cells #[.int .i64 2,r,E] 158);have o:Below i.heap.size i (i.alloc (.cells #[.int .i64 2,r,E] 158)):=br.alloc lr _;have g0:=(o.block _ (jE g0)).trans g0;have y:Below w.heap.size w (i.alloc (.cells #[.int .i64 2,r,E] 158)):=j.trans (o.mono j.size);go_upto_region 2 with fail;obtain⟨H,hH,B⟩:=hidv w.heap.size;rw[<-B]at g0 ⊢;clear B o j l;generalize i.heap.size=G at C ⊢;generalize i.alloc (.cells #[.int .i64 2,r,E] 158)=W at *;have c0:W.cell? ⟨H,0,.none⟩=some (.int .i64 h.p):=iA g0 0;have c1:W.cell? ⟨H,1,.none⟩=some (.int .i64 h.c):=iA g0 1;have c2:W.cell? ⟨H,2,.none⟩=some (.int .i64 h.m):=iA g0 2;have c3:W.cell? ⟨H,3,.none⟩=some (.slice ao m cap):=iA g0 3;have Y:W.cell? ⟨G,0,.none⟩=some (.int .i64 2):=iA C 0;have Z:W.cell? ⟨G,1,.none⟩=some (.int .i64 r):=iA C 1;clear g0 C;go_wp2_with fail;refine(b4 r _ y).mono ?_;rintro e w2 ⟨rfl,z⟩;go_wp2;go_ret;exact⟨rfl,y.trans (z.mono y.size)⟩
  rw[jN q2];by_cases q3:k1=3
  ·rw[jP q3];subst q3;have hk:=N (by simp);clear N O q2;have U:=fun X M=>b3 r X M hk;generalize h.rowB a r=rb at *;replace U:=hd' U;go_in;go_wp2_with fail;refine(J _ (br.alloc lr _)).mono ?_;rintro e i ⟨rfl,l⟩;have j:Below w.heap.size w i:=((Below.refl w.heap.size w).alloc lr _).trans (l.mono (by simp));have g0:=(l.block _ (by simp)).trans (jA w (.cells #[h.p,h.c,h.m,.slice ao m cap] 107));have C:=jA i (.cells #[.int .i64 3,r,E] 158);have o:Below i.heap.size i (i.alloc (.cells #[.int .i64 3,r,E] 158)):=br.alloc lr _;have g0:=(o.block _ (jE g0)).trans g0;have y:Below w.heap.size w (i.alloc (.cells #[.int .i64 3,r,E] 158)):=j.trans (o.mono j.size);go_upto_region 2 with fail;obtain⟨H,hH,B⟩:=hidv w.heap.size;rw[<-B]at g0 ⊢;clear B o j l;generalize i.heap.size=G at C ⊢;generalize i.alloc (.cells #[.int .i64 3,r,E] 158)=W at *;have c0:W.cell? ⟨H,0,.none⟩=some (.int .i64 h.p):=iA g0 0;have c1:W.cell? ⟨H,1,.none⟩=some (.int .i64 h.c):=iA g0 1;have c2:W.cell? ⟨H,2,.none⟩=some (.int .i64 h.m):=iA g0 2;have c3:W.cell? ⟨H,3,.none⟩=some (.slice ao m cap):=iA g0 3;have Y:W.cell? ⟨G,0,.none⟩=some (.int .i64 3):=iA C 0;have Z:W.cell? ⟨G,1,.none⟩=some (.int .i64 r):=iA C 1;clear g0 C;go_wp2_with fail;refine(S _ y).mono ?_;rintro e w2 ⟨rfl,z⟩;have I:=y.trans (z.mono y.size);have c0:=kA z _ _ _ c0;have c1:=kA z _ _ _ c1;have c2:=kA z _ _ _ c2;have c3:=kA z _ _ _ c3;have Y:=kA z _ _ _ Y;have Z:=kA z _ _ _ Z;rcases jB bb with L|L
   ·subst L;go_wp2_with fail;refine(U _ I).mono ?_;rintro e w3 ⟨rfl,D⟩;go_wp2;go_ret;exact⟨rfl,I.trans (D.mono I.size)⟩
   subst L;go_wp2;go_ret;exact⟨rfl,I⟩
  rw[jN q3];by_cases q4:k1=4
  ·rw[jP q4];subst q4;have hk:=O (by simp);clear N O q2 q3;have T:=fun X M=>b2 r X M (by omega);have b8:=h.aJ r;generalize h.pk r=j1 at *;generalize h.pa r=j2 at *;generalize h.pn r=j3 at *;generalize h.pb r=jb at *;replace T:=hd' T;have wj:=wrp (r+j2);go_in;go_wp2_with fail;refine(J _ (br.alloc lr _)).mono ?_;rintro e i ⟨rfl,l⟩;have j:Below w.heap.size w i:=((Below.refl w.heap.size w).alloc lr _).trans (l.mono (by simp));have g0:=(l.block _ (by simp)).trans (jA w (.cells #[h.p,h.c,h.m,.slice ao m cap] 107));have C:=jA i (.cells #[.int .i64 4,r,E] 158);have o:Below i.heap.size i (i.alloc (.cells #[.int .i64 4,r,E] 158)):=br.alloc lr _;have g0:=(o.block _ (jE g0)).trans g0;have y:Below w.heap.size w (i.alloc (.cells #[.int .i64 4,r,E] 158)):=j.trans (o.mono j.size);go_upto_region 2 with fail;obtain⟨H,hH,B⟩:=hidv w.heap.size;rw[<-B]at g0 ⊢;clear B o j l;generalize i.heap.size=G at C ⊢;generalize i.alloc (.cells #[.int .i64 4,r,E] 158)=W at *;have c0:W.cell? ⟨H,0,.none⟩=some (.int .i64 h.p):=iA g0 0;have c1:W.cell? ⟨H,1,.none⟩=some (.int .i64 h.c):=iA g0 1;have c2:W.cell? ⟨H,2,.none⟩=some (.int .i64 h.m):=iA g0 2;have c3:W.cell? ⟨H,3,.none⟩=some (.slice ao m cap):=iA g0 3;have Y:W.cell? ⟨G,0,.none⟩=some (.int .i64 4):=iA C 0;have Z:W.cell? ⟨G,1,.none⟩=some (.int .i64 r):=iA C 1;clear g0 C;go_wp2_with fail;refine(T _ y).mono ?_;rintro e w2 ⟨rfl,z⟩;have D:=z.alloc z.size (.cells #[j1,j2,j3] 158);have g2:=jA w2 (.cells #[j1,j2,j3] 158);have I:=y.trans (D.mono y.size);have c0:=kA D _ _ _ c0;have c1:=kA D _ _ _ c1;have c2:=kA D _ _ _ c2;have c3:=kA D _ _ _ c3;have Y:=kA D _ _ _ Y;have Z:=kA D _ _ _ Z;go_upto_region 11 with fail;generalize w2.heap.size=K at g2 ⊢;generalize w2.alloc (.cells #[j1,j2,j3] 158)=V at *;have r0:V.cell? ⟨K,0,.none⟩=some (.int .i64 j1):=iA g2 0;have r1:V.cell? ⟨K,1,.none⟩=some (.int .i64 j2):=iA g2 1;clear g2 D z;go_wp2_with fail;refine(S _ I).mono ?_;rintro e w3 ⟨rfl,F⟩;have R:=I.trans (F.mono I.size);have c0:=kA F _ _ _ c0;have c1:=kA F _ _ _ c1;have c2:=kA F _ _ _ c2;have c3:=kA F _ _ _ c3;have Y:=kA F _ _ _ Y;have Z:=kA F _ _ _ Z;have r0:=kA F _ _ _ r0;have r1:=kA F _ _ _ r1;rcases jB bb with L|L
   ·subst L;by_cases x1:j1=1
    ·subst x1;go_wp2;go_ret;exact⟨by rfl,R⟩
    have b6:(j1==1)=false:=by rw[beq_eq_false_iff_ne];exact x1
    by_cases x3:j1=3
    ·subst x3;by_cases x4:a<r+j2
     ·have b5:decide (a<r+j2)=true:=jT x4;go_wp2;go_ret;exact⟨by rw[b5];rfl,R⟩
     have b5:decide (a<r+j2)=false:=jF x4;go_wp2;go_ret;exact⟨by rw[b5];rfl,R⟩
    have b7:(j1==3)=false:=by rw[beq_eq_false_iff_ne];exact x3
    go_wp2;go_ret;exact⟨by rw[b6,b7];rfl,R⟩
   subst L;go_wp2;go_ret;exact⟨by rfl,R⟩
  rw[jN q4];clear N O;have y2:(k1==2)=false:=by rw[beq_eq_false_iff_ne];exact q2
  have y3:(k1==3)=false:=by rw[beq_eq_false_iff_ne];exact q3
  have y4:(k1==4)=false:=by rw[beq_eq_false_iff_ne];exact q4
  by_cases q0:k1=0
  ·rw[jP q0];subst q0;go_in;go_wp2_with fail;refine(J _ (br.alloc lr _)).mono ?_;rintro e i ⟨rfl,l⟩;have j:Below w.heap.size w i:=((Below.refl w.heap.size w).alloc lr _).trans (l.mono (by simp));have g0:=(l.block _ (by simp)).trans (jA w (.cells #[h.p,h.c,h.m,.slice ao m cap] 107));have C:=jA i (.cells #[.int .i64 0,r,E] 158);have o:Below i.heap.size i (i.alloc (.cells #[.int .i64 0,r,E] 158)):=br.alloc lr _;have g0:=(o.block _ (jE g0)).trans g0;have y:Below w.heap.size w (i.alloc (.cells #[.int .i64 0,r,E] 158)):=j.trans (o.mono j.size);go_upto_region 2 with fail;obtain⟨H,hH,B⟩:=hidv w.heap.size;rw[<-B]at g0 ⊢;clear B o j l;generalize i.heap.size=G at C ⊢;generalize i.alloc (.cells #[.int .i64 0,r,E] 158)=W at *;have c0:W.cell? ⟨H,0,.none⟩=some (.int .i64 h.p):=iA g0 0;have c1:W.cell? ⟨H,1,.none⟩=some (.int .i64 h.c):=iA g0 1;have c2:W.cell? ⟨H,2,.none⟩=some (.int .i64 h.m):=iA g0 2;have c3:W.cell? ⟨H,3,.none⟩=some (.slice ao m cap):=iA g0 3;have Y:W.cell? ⟨G,0,.none⟩=some (.int .i64 0):=iA C 0;have Z:W.cell? ⟨G,1,.none⟩=some (.int .i64 r):=iA C 1;clear g0 C;go_wp2_with fail;refine(S _ y).mono ?_;rintro e w2 ⟨rfl,z⟩;go_wp2;go_ret;exact⟨rfl,y.trans (z.mono y.size)⟩
  rw[jN q0];have y0:(k1==0)=false:=by rw[beq_eq_false_iff_ne];exact q0
  go_in;go_wp2_with fail;refine(J _ (br.alloc lr _)).mono ?_;rintro e i ⟨rfl,l⟩;have j:Below w.heap.size w i:=((Below.refl w.heap.size w).alloc lr _).trans (l.mono (by simp));have g0:=(l.block _ (by simp)).trans (jA w (.cells #[h.p,h.c,h.m,.slice ao m cap] 107));have C:=jA i (.cells #[k1,r,E] 158);have o:Below i.heap.size i (i.alloc (.cells #[k1,r,E] 158)):=br.alloc lr _;have g0:=(o.block _ (jE g0)).trans g0;have y:Below w.heap.size w (i.alloc (.cells #[k1,r,E] 158)):=j.trans (o.mono j.size);go_upto_region 2 with fail;obtain⟨H,hH,B⟩:=hidv w.heap.size;rw[<-B]at g0 ⊢;clear B o j l;generalize i.heap.size=G at C ⊢;generalize i.alloc (.cells #[k1,r,E] 158)=W at *;have c0:W.cell? ⟨H,0,.none⟩=some (.int .i64 h.p):=iA g0 0;have c1:W.cell? ⟨H,1,.none⟩=some (.int .i64 h.c):=iA g0 1;have c2:W.cell? ⟨H,2,.none⟩=some (.int .i64 h.m):=iA g0 2;have c3:W.cell? ⟨H,3,.none⟩=some (.slice ao m cap):=iA g0 3;have Y:W.cell? ⟨G,0,.none⟩=some (.int .i64 k1):=iA C 0;have Z:W.cell? ⟨G,1,.none⟩=some (.int .i64 r):=iA C 1;clear g0 C;go_wp2;go_ret;exact⟨rfl,y⟩
end

section

variable {s:Sh} {m:Mem} {σ:Ab}

theorem yr3(b:Rep s m σ){c i:Int}(hc:0<=c/\c<s.c)(hi:0<=i/\i<s.m):(hpOf s m).mx c i=(σ.mg c i).enc:=by
 have:=b.mg c i hc hi;rw[(ixs b.fi).2.2.1 c i hc hi]at this;exact this
theorem ZN(b:Rep s m σ){c i:Int}(hc:0<=c/\c<s.c)(hi:0<=i/\i<s.m)(h0:(hpOf s m).mx c i≠0):∃ p q k,σ.mg c i= .entry p q k/\(hpOf s m).mx c i=(MW.entry p q k).enc:=by
 rw[yr3 b hc hi]at h0 ⊢;cases e:σ.mg c i with
 |none=>rw[e]at h0;exact absurd rfl h0
 |entry p q k=>exact⟨p,q,k,rfl,rfl⟩
theorem rS(j:Rep s m σ)(f:GI s σ):(hpOf s m).pK:=by
 refine⟨fun c i hc hi h0=>?_,fun c i c' i' hc hi G I h0 F L M=>?_⟩
 ·obtain⟨p,q,k,r,B⟩:=ZN j (c:=c) (i:=i) ⟨by omega,hc⟩ ⟨by omega,hi⟩ h0;have o:=f.mf c i;rw[r]at o;obtain⟨a1,D,S⟩:=MW.read j.may o;rw[B,a1,D,S];obtain⟨⟨b,J⟩,R⟩:=f.mv c i p q k r;obtain⟨_,Y,Z,b3,b4,_⟩:=MW.HE j.may o;have z:=f.pf p;rw[J]at z;have N:0<=p/\p<s.p:=z.1;obtain⟨_,T,U⟩:=zG j f N;obtain⟨V,X⟩:=SI j f N (i:=q) (by omega);exact⟨MW.rH j.may o,by rw[T,J];rfl,by rw[U,J];rfl,by rw[V,R];rfl,by rw[X,R];rfl⟩
 obtain⟨p,q,k,r,B⟩:=ZN j (c:=c) (i:=i) ⟨by omega,hc⟩ ⟨by omega,hi⟩ h0;obtain⟨p',q',O,l,t⟩:=ZN j (c:=c') (i:=i') ⟨by omega,G⟩ ⟨by omega,I⟩ F;have o:=f.mf c i;have y:=f.mf c' i';rw[r]at o;rw[l]at y;obtain⟨a1,D,_⟩:=MW.read j.may o;obtain⟨C,E,_⟩:=MW.read j.may y;rw[B,t,a1,C]at L;rw[B,t,D,E]at M;subst L M;have v:=(f.mv c i p q k r).2;have v':=(f.mv c' i' p q O l).2;rw[v]at v';injection v' with v';have H:c=c':=by omega
 subst H;have:=f.mi c i i' p q k O r l;exact⟨rfl,by omega⟩
end

section

open Go.RowKit

attribute [local go_sem ↓] Go.wp_at_zero Go.wp_at_succ

theorem XR(h:Hp)(v:Value)(w:World)(Y:RdZ .u64 w v h.xs)(hf:h.fit)(O:h.sound=true)(N:h.pK):
  Calls Tryz.prog 23 #[shV h,v] w fun e w'=>e= .returned (.bool true)/\Below w.heap.size w w':=by
 obtain⟨ao,cap,hv,_,_,_⟩:=Y.cells;generalize h.xs.length=m at hv;subst hv;have r:=fun X L=>vO h (.slice ao m cap) X (Y.below (w':=X) L);have R:=(Below.refl w.heap.size w).alloc lr (.cells #[h.p,h.c,h.m] 23);have l:h.sound=(h.ok&&h.sndT h.p.toNat):=rfl;rw[O,eq_comm,jC]at l;obtain⟨D,l⟩:=l;have b:Bok w (.slice ao m cap) h:=⟨D,Y,hf⟩;obtain⟨bp,_,_,_⟩:=b.bd;rw[D]at r;have E:=fun a X (L:Below w.heap.size w X) ha=>yik h (.slice ao m cap) a X (b.below L) ha;have C:=fun X (L:Below w.heap.size w X)=>yog h (.slice ao m cap) X (b.below L) N;obtain⟨P,S⟩:∃ P:Nat,Hid (h.p=P):=⟨h.p.toNat,hd' (by omega)⟩;have J:h.p.toNat=P:=by have:=S.out;omega
 rw[J]at l;have T:Hid (∀ i:Nat,i<P->h.snd i=true):=hd' fun i hi=>h.jR l i hi;replace r:=hd' r;replace E:=hd' E;replace C:=hd' C;clear D J b l O N;go_in;go_wp2_with fail;refine(r _ R).mono ?_;rintro e w1 ⟨rfl,q⟩;have z:=R.trans (q.mono R.size);have hB:=z.alloc z.size (.cells #[h.p,h.c,h.m,.slice ao m cap] 107);have M:=q.alloc q.size (.cells #[h.p,h.c,h.m,.slice ao m cap] 107);have r0:=(M.block _ (by simp)).trans (jA w (.cells #[h.p,h.c,h.m] 23));have F:=jA w1 (.cells #[h.p,h.c,h.m,.slice ao m cap] 107);go_upto_region 2 with fail;obtain⟨H,hH,G⟩:=hidv w.heap.size;obtain⟨K,hK,I⟩:=hidv w1.heap.size;rw[<-I]at F ⊢;rw[<-G]at r0 ⊢;clear I G q M z;generalize w1.alloc (.cells #[h.p,h.c,h.m,.slice ao m cap] 107)=W at *;have b0:=iA r0;have k0:W.cell? ⟨K,0,.none⟩=some (.int .i64 h.p):=iA F 0;have k1:W.cell? ⟨K,1,.none⟩=some (.int .i64 h.c):=iA F 1;have k2:W.cell? ⟨K,2,.none⟩=some (.int .i64 h.m):=iA F 2;have k3:W.cell? ⟨K,3,.none⟩=some (.slice ao m cap):=iA F 3;clear r0 F;go_wp2_with fail;go_loopw [18] (fun Z wr=>∃ i:Nat,i<=P/\Z= .int .i64 i/\Below W.heap.size W wr) (fun Z _=>P-(intOf Z).toNat);case atStart=>exact⟨0,Nat.zero_le _,rfl,Below.refl _ _⟩
 case round=>
  obtain⟨i,hi,rfl,j⟩:=hrel;have d0:=kA j _ _ _ k0;have d1:=kA j _ _ _ k1;have d2:=kA j _ _ _ k2;have d3:=kA j _ _ _ k3;have o:=hB.trans (j.mono hB.size);by_cases b2:(i:Int)<h.p
  ·have U:i<P:=by have:=S.out;omega
   have y:=E i wr o (by omega);rw[T i U]at y;replace y:=hd' y;go_wp2_with fail;refine y.out.mono ?_;rintro e w3 ⟨rfl,B⟩;go_wp2;exact⟨⟨i+1,by omega,by go_num,j.trans (B.mono j.size)⟩,by simp[intOf];omega⟩
  have V:i=P:=by have:=S.out;omega
  subst V;go_wp2_with fail;refine(C _ o).mono ?_;rintro e w3 ⟨rfl,B⟩;go_wp2;go_ret;exact⟨rfl,o.trans (B.mono o.size)⟩
end

end Go.Proofs.YtmmbicppdjgbmaaGreat

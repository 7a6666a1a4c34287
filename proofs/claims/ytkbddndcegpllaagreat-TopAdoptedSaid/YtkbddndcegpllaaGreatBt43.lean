/- Texts bound together: EntG AudE AudF AudM MagG HpM SndG PaiW. -/
import Derived.ChangeKeysEq

import Derived.Maps.Own

import Derived.Test.YtkbddndcegpllaaGreatBt40

set_option linter.all false
set_option maxHeartbeats 8000000
set_option maxRecDepth 100000
namespace Go.Proofs.YtkbddndcegpllaaGreat

section

open Go.RowKit

attribute [local go_sem ↓] Go.wp_at_zero Go.wp_at_succ

theorem entG_any(h:Hp)(v:Value)(c x:Int)(w:World)(b:Bok w v h)(b8:0<=x)(b9:x<18446744073709551616)(hr:zbi h.p h.c h.m x=true)(gk:h.pk (za2 x 0)=2)(ga:h.pa (za2 x 0)=za2 x 2)(gs:h.sk (za2 x 0) (za2 x 1)=2)(gc:h.sa (za2 x 0) (za2 x 1)=c):
  Calls Tryz.prog 137 #[zzu h v,c,.int .u64 x] w fun e w'=>e= .returned (.tuple #[.agg #[.int .i64 (za2 x 0),.int .i64 (za2 x 1),.int .i64 (za2 x 2)],.bool true])/\Below w.heap.size w w':=by
 obtain⟨b1,_,_,_⟩:=b.bd;obtain⟨ao,cap,hv,_,_,_⟩:=b.rd.cells;generalize h.xs.length=m at hv;subst hv;have o:=fun X=>zp3 h.p h.c h.m x X b8 b9;have I:=fun q X (M:Below w.heap.size w X) hq=>zpo h (.slice ao m cap) q X (b.below M) hq;have J:=fun q i X (M:Below w.heap.size w X) hq hi=>z7y h (.slice ao m cap) q i X (b.below M) hq hi;have b7:(0<=za2 x 0/\za2 x 0<h.p)/\(0<=za2 x 1/\za2 x 1<16):=by unfold zbi at hr;simp only[Bool.and_eq_true,decide_eq_true_eq]at hr;have h1:=zbc.1 (zjr hr.1.2).2;have h2:=zcy (za2 x 2);have h3:=zgv x 1;omega
 rw[hr]at o;clear hr;generalize za2 x 0=z at *;generalize za2 x 1=L at *;generalize za2 x 2=r at *;replace I:=hd' I;replace J:=hd' J;clear b;obtain⟨t1,t2,t3,t4⟩:=zc5 w (.cells #[h.p,h.c,h.m,.slice ao m cap] 124) (.cells #[.int .i64 0,.int .i64 0,.int .i64 0] 207);replace o:∀ X,Calls Tryz.prog 166 #[.agg #[h.p,h.c,h.m],.int .u64 x] X fun e w'=>Below X.heap.size X w'/\e= .returned (.tuple #[.agg #[z,L,r],.bool true]):=o;replace o:=hd' o;obtain⟨N,b6⟩:=b7;have B:=fun X M=>I.out z X M N;have C:=fun X M=>J.out z L X M N b6;rw[gk,ga]at B;rw[gs,gc]at C;clear gk ga gs gc;generalize h.pn z=pn at *;generalize h.pb z=pb at *;replace B:=hd' B;replace C:=hd' C;go_in;go_wp2_with fail;refine(o.out _).mono ?_;rintro e w1 ⟨F,rfl⟩;have l:=F.alloc F.size (.cells #[z,L,r] 207);have S:=(l.block _ (by rw[t3];omega)).trans t1;have y:=(l.block _ (by rw[t3];omega)).trans t2;have Z:=t4.trans (l.mono t4.size);have O:=heap_alloc_new w1 (.cells #[z,L,r] 207);go_upto_region 2 with fail;obtain⟨H,hH,b2⟩:=hidv w.heap.size;rw[<-b2]at S y ⊢;have hR:w.heap.size<=H+1:=by omega
 have b4:H+1<w1.heap.size:=by have:=F.size;omega
 clear b2 t1 t2 t3 t4 F l;generalize w1.heap.size=E at O b4 ⊢;generalize w1.alloc (.cells #[z,L,r] 207)=W at *;generalize H+1=R at *;have lR:=(Array.getElem?_eq_some_iff.1 y).1;have lE:=(Array.getElem?_eq_some_iff.1 O).1;have c0:W.cell? ⟨H,0,.none⟩=some (.int .i64 h.p):=zac S 0;have c1:W.cell? ⟨H,1,.none⟩=some (.int .i64 h.c):=zac S 1;have c2:W.cell? ⟨H,2,.none⟩=some (.int .i64 h.m):=zac S 2;have c3:W.cell? ⟨H,3,.none⟩=some (.slice ao m cap):=zac S 3;have E0:W.cell? ⟨E,0,.none⟩=some (.int .i64 z):=zac O 0;have E1:W.cell? ⟨E,1,.none⟩=some (.int .i64 L):=zac O 1;have E2:W.cell? ⟨E,2,.none⟩=some (.int .i64 r):=zac O 2;clear S O;go_wp2_with fail;refine(B.out _ Z).mono ?_;rintro e w2 ⟨rfl,l⟩;have j:=l.alloc l.size (.cells #[.int .i64 2,r,pn] 128);have T:=heap_alloc_new w2 (.cells #[.int .i64 2,r,pn] 128);have D:=Z.trans (j.mono Z.size);have y:=(j.block _ lR).trans y;have b3:R<w2.heap.size/\E<w2.heap.size:=by have:=l.size;omega
 have c0:=zai j _ _ _ c0;have c1:=zai j _ _ _ c1;have c2:=zai j _ _ _ c2;have c3:=zai j _ _ _ c3;have E0:=zai j _ _ _ E0;have E1:=zai j _ _ _ E1;have E2:=zai j _ _ _ E2;go_upto_region 5 with fail;generalize w2.heap.size=P at T b3 ⊢;generalize w2.alloc (.cells #[.int .i64 2,r,pn] 128)=V at *;have P0:V.cell? ⟨P,0,.none⟩=some (.int .i64 2):=zac T 0;have P1:V.cell? ⟨P,1,.none⟩=some (.int .i64 r):=zac T 1;have lP:=(Array.getElem?_eq_some_iff.1 T).1;clear l j T;go_wp2_with fail;refine(C.out _ D).mono ?_;rintro e w3 ⟨rfl,G⟩;have n:=G.alloc G.size (.cells #[.int .i64 2,c] 132);have g3:=heap_alloc_new w3 (.cells #[.int .i64 2,c] 132);have b0:=D.trans (n.mono D.size);have y:=(n.block _ (Array.getElem?_eq_some_iff.1 y).1).trans y;have b5:R<w3.heap.size:=by have:=G.size;have:=(Array.getElem?_eq_some_iff.1 ‹V.heap[R]?=_›).1;omega
 have E0:=zai n _ _ _ E0;have E1:=zai n _ _ _ E1;have E2:=zai n _ _ _ E2;have P0:=zai n _ _ _ P0;have P1:=zai n _ _ _ P1;go_upto_region 6 with fail;generalize w3.heap.size=Y at g3 b5 ⊢;generalize w3.alloc (.cells #[.int .i64 2,c] 132)=U at *;have ba:=zac g3;have r0:U.cell? ⟨R,0,.none⟩=some (.int .i64 0):=zac y 0;have r1:U.cell? ⟨R,1,.none⟩=some (.int .i64 0):=zac y 1;have r2:U.cell? ⟨R,2,.none⟩=some (.int .i64 0):=zac y 2;have fR:=zax y;have nE:R≠E:=by omega
 have nP:R≠P:=by omega
 have nY:R≠Y:=by omega
 have Z:=b0;clear G n g3 y D b0 lR lE lP b4 b3 b5 c0 c1 c2 c3 I J B C o N b6;go_region_held3 (fun X=>X.cell? ⟨E,0,.none⟩=some (.int .i64 z)/\X.cell? ⟨E,1,.none⟩=some (.int .i64 L)/\X.cell? ⟨E,2,.none⟩=some (.int .i64 r)/\X.cell? ⟨P,0,.none⟩=some (.int .i64 2)/\X.cell? ⟨P,1,.none⟩=some (.int .i64 r)/\X.cell? ⟨Y,0,.none⟩=some (.int .i64 2)/\X.cell? ⟨Y,1,.none⟩=some (.int .i64 c)) (go_keep) (fail);go_wp2;exact bodyPost_ret (v:= .tuple #[.agg #[z,L,r],.bool true]) (by simp[results,Tryz.results137,go_sem,r0,r1,r2]) rfl ⟨rfl,(((Z.setCell hR _).setCell hR _).setCell hR _).drew⟩
theorem Hp.yh9(h:Hp)(a:Int){i j:Nat}(b:i<=j)(f:h.yht a i=false):h.yht a j=false:=by
 induction b with
 |refl=>exact f
 |step _ l=>show (_&&_)=false;rw[l];rfl
theorem Hp.yip(h:Hp)(a k:Int){i j:Nat}(b:i<=j)(f:h.supT a k i=false):h.supT a k j=false:=by
 induction b with
 |refl=>exact f
 |step _ l=>show (_&&_)=false;rw[l];rfl
theorem Hp.yid(h:Hp)(a:Int){i j:Nat}(b:i<=j)(f:h.rowT a i=false):h.rowT a j=false:=by
 induction b with
 |refl=>exact f
 |step _ l=>show (_&&_)=false;rw[l];rfl
theorem yiz(h:Hp)(v:Value)(a:Int)(w:World)(b:Bok w v h)(ha:0<=a/\a<h.p):
  Calls Tryz.prog 134 #[zzu h v,a] w fun e w'=>e= .returned (.bool (h.bare a))/\Below w.heap.size w w':=by
 obtain⟨b1,b2,b3,b4⟩:=b.bd;have Y:=zk3 (c:=h.c) (m:=h.m) (C:=12) (M:=8) (by omega) (by omega);have b6:0<h.xs.length:=by omega
 obtain⟨g,r,cap,k0,hv,b5,hg,_,_,_⟩:=b.word 0 (by omega) (by omega);have E:Hid (∀ i:Nat,i<16->∃ k:Nat,zbk h.p h.c h.m a i=(k:Int)/\k<h.xs.length/\w.cell? ⟨g,r+k,.none⟩=some (.int .u64 (h.sw a i))):=hd' fun i hi=>by obtain⟨g',b7,b0,k,R,_,_,S,L,hc⟩:=b.word (h.c+h.p+a*16+i) (by omega) (by omega);rw[hv]at R;injection R with G _ _;injection G with G;injection G with G e2;subst G e2;refine⟨k,?_,L,hc⟩;unfold zbk;rw[if_pos ⟨b.may,zbc.2 (by omega),zbc.2 (by omega)⟩,S]
 subst hv;have D:=fun i=>zbm h.p h.c h.m a i;have T:Hid (h.yht a 0=true):=hd' rfl;have X:Hid (∀ i,h.yht a (i+1)=(h.yht a i&&h.sw a i==0)):=hd' fun _=>rfl;have V:Hid (∀ i,i<=16->h.yht a i=false->h.bare a=false):=hd' fun i hi=>h.yh9 a hi;have U:Hid (h.yht a 16=h.bare a):=hd' rfl;generalize hn:h.xs.length=n at *;replace hn:=hd' hn;replace D:=hd' D;clear b b4 Y;go_in;have g0:=heap_alloc_new w (.cells #[h.p,h.c,h.m,.slice (some ⟨g,r,.none⟩) n cap] 124);have z:Below w.heap.size w (w.alloc (.cells #[h.p,h.c,h.m,.slice (some ⟨g,r,.none⟩) n cap] 124)):=br.alloc lr _;go_upto_region 1 with fail;obtain⟨H,hH,I⟩:=hidv w.heap.size;rw[<-I]at g0 ⊢;clear I;generalize w.alloc (.cells #[h.p,h.c,h.m,.slice (some ⟨g,r,.none⟩) n cap] 124)=W at *;have c0:W.cell? ⟨H,0,.none⟩=some (.int .i64 h.p):=zac g0 0;have c1:W.cell? ⟨H,1,.none⟩=some (.int .i64 h.c):=zac g0 1;have c2:W.cell? ⟨H,2,.none⟩=some (.int .i64 h.m):=zac g0 2;have c3:W.cell? ⟨H,3,.none⟩=some (.slice (some ⟨g,r,.none⟩) n cap):=zac g0 3;have lH:=(Array.getElem?_eq_some_iff.1 g0).1;have lg:g<W.heap.size:=by have:=z.size;omega
 clear g0;go_wp2_with fail;go_loopw [6] (fun vi wr=>∃ i:Nat,i<=16/\vi= .int .i64 i/\Hid (h.yht a i=true)/\Below W.heap.size W wr) (fun vi _=>16-(intOf vi).toNat);case atStart=>exact⟨0,Nat.zero_le _,rfl,T,Below.refl _ _⟩
 case round=>
  obtain⟨i,hi,rfl,O,l⟩:=hrel;have d0:=zai l _ _ _ c0;have d1:=zai l _ _ _ c1;have d2:=zai l _ _ _ c2;have d3:=zai l _ _ _ c3;have y:=z.trans (l.mono z.size);have bb:H<wr.heap.size:=by have:=l.size;omega
  have bc:g<wr.heap.size:=by have:=l.size;omega
  by_cases N:i<16
  ·obtain⟨k,S,L,hc⟩:=E.out i N;replace hc:=zai y _ _ _ hc;have o:=D.out i;rw[S]at o;have j:=X.out i;rw[O.out,Bool.true_and]at j;have B:=V.out (i+1) (by omega);generalize h.sw a i=x at *;replace o:=hd' o;have b9:(0:Int)<=(k:Int):=by omega
   have ba:(k:Int)<(n:Int):=by omega
   have b8:(i:Int)<16:=by omega
   clear S;by_cases F:x=0
   ·have q:(x==0)=true:=by rw[beq_iff_eq];exact F
    rw[q]at j;have hd:(x !=0)=false:=by simp[F]
    replace j:=hd' j;clear B q F;go_upto_region 4 with fail;refine zaj (by kernel_rfl) (by kernel_rfl) ?_;repeat (go_big_quiet_step ((go_at_call 121;exact zam (o.out _))))
    refine wpQuiet_nil ?_;rintro _ ⟨e,rfl⟩;go_wp2;exact⟨⟨i+1,by omega,by go_num,j,l.trans (e.below.mono l.size)⟩,by simp[intOf];omega⟩
   have q:(x==0)=false:=by rw[beq_eq_false_iff_ne];exact F
   rw[q]at j;have hd:(x !=0)=true:=by simpa using F
   have J:=hd' (B j);clear B q F j;go_upto_region 4 with fail;refine zaj (by kernel_rfl) (by kernel_rfl) ?_;repeat (go_big_quiet_step ((go_at_call 121;exact zam (o.out _))))
   refine wpQuiet_nil ?_;rintro _ ⟨e,rfl⟩;go_wp2;go_ret;exact⟨by rw[J.out];rfl,y.trans (e.below.mono y.size)⟩
  have Z:i=16:=by omega
  subst Z;clear N;go_wp2;go_ret;exact⟨by rw[<-U.out,O.out];rfl,y⟩
theorem Bok.slots{w:World}{v:Value}{h:Hp}(b:Bok w v h){a:Int}(J:0<=a/\a<h.p):∃ g f cap,v= .slice (some ⟨g,f,.none⟩) h.xs.length cap/\g<w.heap.size/\
  ∀ i:Nat,i<16->∃ k:Nat,zbk h.p h.c h.m a i=(k:Int)/\k<h.xs.length/\w.cell? ⟨g,f+k,.none⟩=some (.int .u64 (h.sw a i)):=by
 obtain⟨E,F,G,H⟩:=b.bd;have z:=zk3 (c:=h.c) (m:=h.m) (C:=12) (M:=8) (by omega) (by omega);obtain⟨g,f,cap,k0,r,q,B,_,_,_⟩:=b.word 0 (by omega) (by omega);refine⟨g,f,cap,r,B,fun i hi=>?_⟩;obtain⟨I,t,o,k,l,_,_,D,n,hc⟩:=b.word (h.c+h.p+a*16+i) (by omega) (by omega);rw[r]at l;injection l with j _ _;injection j with j;injection j with j y;subst j y;refine⟨k,?_,n,hc⟩;unfold zbk;rw[if_pos ⟨b.may,zbc.2 (by omega),zbc.2 (by omega)⟩,D]
theorem yii(h:Hp)(v:Value)(a k:Int)(w:World)(b:Bok w v h)(ha:0<=a/\a<h.p):
  Calls Tryz.prog 133 #[zzu h v,a,k] w fun e w'=>e= .returned (.bool (h.sup a k))/\Below w.heap.size w w':=by
 obtain⟨g,E,cap,hv,hg,y⟩:=b.slots ha;replace y:=hd' y;have L:=fun i=>zbm h.p h.c h.m a i;have M:=fun i X (hX:Below w.heap.size w X) hi=>z7y h v a i X (b.below hX) ha hi;subst hv;have N:=slots_any k;have bf:=zcy k;have b3:Hid (h.supT a k 0=true):=hd' rfl;have b7:Hid (∀ i,h.supT a k (i+1)=(h.supT a k i&&h.okS a k i)):=hd' fun _=>rfl;have b5:Hid (∀ i,i<=16->h.supT a k i=false->h.sup a k=false):=hd' fun i hi=>h.yip a k hi;have b4:Hid (h.supT a k 16=h.sup a k):=hd' rfl;have b6:Hid (∀ i,h.okS a k i=if i<zah k then(h.sk a i==2&&decide (h.sa a i<h.c))||((h.sk a i==1||h.sk a i==3)&&h.sa a i==k) else h.sw a i==0):=hd' fun _=>rfl;generalize zah k=q at *;generalize hn:h.xs.length=n at *;replace hn:=hd' hn;replace L:=hd' L;replace M:=hd' M;replace N:=hd' N;clear b;go_in;have g0:=heap_alloc_new w (.cells #[h.p,h.c,h.m,.slice (some ⟨g,E,.none⟩) n cap] 124);have r:Below w.heap.size w (w.alloc (.cells #[h.p,h.c,h.m,.slice (some ⟨g,E,.none⟩) n cap] 124)):=br.alloc lr _;go_upto_region 1 with fail;obtain⟨H,hH,S⟩:=hidv w.heap.size;rw[<-S]at g0 ⊢;clear S;generalize w.alloc (.cells #[h.p,h.c,h.m,.slice (some ⟨g,E,.none⟩) n cap] 124)=W at *;have c0:W.cell? ⟨H,0,.none⟩=some (.int .i64 h.p):=zac g0 0;have c1:W.cell? ⟨H,1,.none⟩=some (.int .i64 h.c):=zac g0 1;have c2:W.cell? ⟨H,2,.none⟩=some (.int .i64 h.m):=zac g0 2;have c3:W.cell? ⟨H,3,.none⟩=some (.slice (some ⟨g,E,.none⟩) n cap):=zac g0 3;have lH:=(Array.getElem?_eq_some_iff.1 g0).1;have lg:g<W.heap.size:=by have:=r.size;omega
 clear g0;go_wp2_with fail;go_loopw [10] (fun vi wr=>∃ i:Nat,i<=16/\vi= .int .i64 i/\Hid (h.supT a k i=true)/\Below W.heap.size W wr) (fun vi _=>16-(intOf vi).toNat);case atStart=>exact⟨0,Nat.zero_le _,rfl,b3,Below.refl _ _⟩
 case round=>
  obtain⟨i,hi,rfl,b1,o⟩:=hrel;have d0:=zai o _ _ _ c0;have d1:=zai o _ _ _ c1;have d2:=zai o _ _ _ c2;have d3:=zai o _ _ _ c3;have F:=r.trans (o.mono r.size);by_cases b0:i<16
  ·obtain⟨z,hk,bc,hc⟩:=y.out i b0;have B:=L.out i;rw[hk]at B;have D:=M.out i wr F (by omega);have j:=b7.out i;rw[b1.out,Bool.true_and,b6.out i]at j;have Y:=b5.out (i+1) (by omega);generalize h.sw a i=x at *;generalize h.sk a i=k4 at *;generalize h.sa a i=k5 at *;replace B:=hd' B;replace D:=hd' D;have ba:(0:Int)<=(z:Int):=by omega
   have bb:(z:Int)<(n:Int):=by omega
   have b9:(i:Int)<16:=by omega
   clear hk;go_wp2_with fail;refine D.out.mono ?_;rintro e w3 ⟨rfl,I⟩;have l:=(o.trans (I.mono o.size)).alloc (Nat.le_trans o.size I.size) (.cells #[k4,k5] 132);have O:=heap_alloc_new w3 (.cells #[k4,k5] 132);go_upto_region 5 with fail;generalize w3.heap.size=G at O ⊢;generalize w3.alloc (.cells #[k4,k5] 132)=V at *;have lG:=(Array.getElem?_eq_some_iff.1 O).1;have p0:V.cell? ⟨G,0,.none⟩=some (.int .i64 k4):=zac O 0;have p1:V.cell? ⟨G,1,.none⟩=some (.int .i64 k5):=zac O 1;have d0:=zai l _ _ _ c0;have d1:=zai l _ _ _ c1;have d2:=zai l _ _ _ c2;have d3:=zai l _ _ _ c3;have R:=r.trans (l.mono r.size);replace hc:=zai R _ _ _ hc;have bg:H<V.heap.size:=by have:=l.size;omega
   have bh:g<V.heap.size:=by have:=l.size;omega
   refine zaj (by kernel_rfl) (by kernel_rfl) ?_;repeat (go_big_quiet_step ((go_at_call 121;exact zam (B.out _))))
   refine wpQuiet_nil ?_;rintro _ ⟨e,rfl⟩;have p0:=zai e.below _ _ _ p0;have p1:=zai e.below _ _ _ p1;have d1:=zai e.below _ _ _ d1;have T:=l.trans (e.below.mono l.size);have b2:=r.trans (T.mono r.size);clear I O lG R hc l D B o F;generalize e.w=U at *;clear e;go_wp2_with fail;refine(N.out _).mono ?_;rintro e w4 ⟨rfl,hw⟩;obtain rfl:=hw.symm;clear hw;go_upto_if 30 with fail;obtain⟨ok,J⟩:∃ ok:Bool,Hid (h.supT a k (i+1)=ok):=⟨_,hd' rfl⟩;rw[J.out]at j;replace j:=hd' j;go_cut [9] (fun s wx=>s= .bool ok/\wx=U);case first=>
    by_cases hq:(i:Int)<q
    ·have C:=j.out;rw[if_pos hq]at C;replace C:=hd' C;go_wp2_with fail;all_goals (go_meet;refine⟨?_,rfl⟩;rw[C.out];congr 1)
     all_goals (clear C;first|(simp[*];done)|(simp_all;done))
    have C:=j.out;rw[if_neg hq]at C;replace C:=hd' C;go_wp2_with fail;go_meet;case rel=>exact⟨by rw[C.out],rfl⟩
   case rest=>
    obtain⟨rfl,hw⟩:=hcut;obtain rfl:=hw.symm;clear hw;rcases Bool.eq_false_or_eq_true ok with ho|ho
    ·subst ho;go_wp2;exact⟨⟨i+1,by omega,by go_num,J,T⟩,by simp[intOf];omega⟩
    subst ho;have Z:=hd' (Y J.out);clear Y;go_wp2;go_ret;exact⟨by rw[Z.out];rfl,b2⟩
  have b8:i=16:=by omega
  subst b8;clear b0;go_wp2;go_ret;exact⟨by rw[<-b4.out,b1.out];rfl,F⟩
theorem yjb(h:Hp)(v:Value)(a n:Int)(w:World)(b:Bok w v h)(ha:0<=a/\a<h.p)(hn:1<=n/\n<=8/\n<=h.p-a):
  Calls Tryz.prog 135 #[zzu h v,a,n] w fun e w'=>e= .returned (.bool (h.rowB a n))/\Below w.heap.size w w':=by
 obtain⟨b1,_,_,_⟩:=b.bd;obtain⟨ao,cap,hv,_,_,_⟩:=b.rd.cells;generalize h.xs.length=m at hv;subst hv;have F:=fun q X (V:Below w.heap.size w X) hq=>zpo h (.slice ao m cap) q X (b.below V) hq;obtain⟨N,J⟩:∃ N:Nat,n-1=N:=⟨(n-1).toNat,by omega⟩;have R:Hid (h.rowT a 0=true):=hd' rfl;have U:Hid (∀ i:Nat,h.rowT a (i+1)=(h.rowT a i&&(h.pk (a+1+i)==4&&h.pa (a+1+i)==a))):=hd' fun _=>rfl;have T:Hid (∀ i,i<=N->h.rowT a i=false->h.rowB a n=false):=hd' fun i hi hf=>by unfold Hp.rowB;exact h.yid a (by omega) hf
 have S:Hid (h.rowT a N=h.rowB a n):=hd' (by unfold Hp.rowB;rw[J,Int.toNat_natCast]);replace J:=hd' J;replace F:=hd' F;have wa:=wrp (a+1);have wn:=wrp (a+n);clear b;go_in;have g0:=heap_alloc_new w (.cells #[h.p,h.c,h.m,.slice ao m cap] 124);have G:Below w.heap.size w (w.alloc (.cells #[h.p,h.c,h.m,.slice ao m cap] 124)):=br.alloc lr _;go_upto_region 1 with fail;obtain⟨H,hH,I⟩:=hidv w.heap.size;rw[<-I]at g0 ⊢;clear I;generalize w.alloc (.cells #[h.p,h.c,h.m,.slice ao m cap] 124)=W at *;have c0:W.cell? ⟨H,0,.none⟩=some (.int .i64 h.p):=zac g0 0;have c1:W.cell? ⟨H,1,.none⟩=some (.int .i64 h.c):=zac g0 1;have c2:W.cell? ⟨H,2,.none⟩=some (.int .i64 h.m):=zac g0 2;have c3:W.cell? ⟨H,3,.none⟩=some (.slice ao m cap):=zac g0 3;clear g0;go_wp2_with fail;go_loopw [7] (fun vi wr=>∃ i:Nat,i<=N/\vi= .int .i64 (a+1+i)/\Hid (h.rowT a i=true)/\Below W.heap.size W wr) (fun vi _=>(a+n-intOf vi).toNat);case atStart=>exact⟨0,Nat.zero_le _,by simp,R,Below.refl _ _⟩
 case round=>
  obtain⟨i,hi,rfl,O,y⟩:=hrel;have d0:=zai y _ _ _ c0;have d1:=zai y _ _ _ c1;have d2:=zai y _ _ _ c2;have d3:=zai y _ _ _ c3;have o:=G.trans (y.mono G.size);by_cases b2:i<N
  ·have hq:a+1+(i:Int)<a+n:=by have:=J.out;omega
   have D:=F.out (a+1+i) wr o (by omega);have l:=U.out i;rw[O.out,Bool.true_and]at l;have B:=T.out (i+1) (by omega);have wq:IntKind.i64.wrap (a+1+(i:Int)+1)=a+1+(i:Int)+1:=IntWalk.i64_in _ ⟨by omega,by omega⟩;generalize h.pk (a+1+i)=k1 at *;generalize h.pa (a+1+i)=k2 at *;generalize h.pn (a+1+i)=k3 at *;generalize h.pb (a+1+i)=k4 at *;replace D:=hd' D
   have fin:Hid (∀ X,Below W.heap.size W X->h.rowT a (i+1)=true->(∃ j:Nat,j<=N/\Value.int .i64 (a+1+(i:Int)+1)= .int .i64 (a+1+j)/\Hid (h.rowT a j=true)/\Below W.heap.size W X)/\(a+n-(a+1+(i:Int)+1)).toNat<(a+n-(a+1+(i:Int))).toNat):=
    hd' fun X V z=>⟨⟨i+1,by omega,by congr 1;omega,hd' z,V⟩,by omega⟩
   by_cases C:k1=4
   ·by_cases E:k2=a
    ·have z:h.rowT a (i+1)=true:=by rw[l,C,E];simp
     subst C E;replace z:=hd' z;clear l B;go_wp2_with fail;refine D.out.mono ?_;rintro e w3 ⟨rfl,r⟩;go_wp2;exact fin.out _ ((y.trans (r.mono y.size)).alloc (Nat.le_trans y.size r.size) _) z.out
    have M:(k2==a)=false:=by rw[beq_eq_false_iff_ne];exact E
    have z:=B (by rw[l,M,Bool.and_false]);have b0:(k2 !=a)=true:=by simpa using E
    subst C;replace z:=hd' z;clear l B fin;go_wp2_with fail;refine D.out.mono ?_;rintro e w3 ⟨rfl,r⟩;go_wp2;go_ret;exact⟨by rw[z.out];rfl,(o.trans (r.mono o.size)).alloc (Nat.le_trans o.size r.size) _⟩
   have L:(k1==4)=false:=by rw[beq_eq_false_iff_ne];exact C
   have z:=B (by rw[l,L,Bool.false_and]);have Z:(k1 !=4)=true:=by simpa using C
   replace z:=hd' z;clear l B fin;go_wp2_with fail;refine D.out.mono ?_;rintro e w3 ⟨rfl,r⟩;go_wp2;go_ret;exact⟨by rw[z.out];rfl,(o.trans (r.mono o.size)).alloc (Nat.le_trans o.size r.size) _⟩
  have Y:i=N:=by omega
  subst Y;clear b2;have hq:¬ (a+1+(i:Int)<a+n):=by have:=J.out;omega
  go_wp2;go_ret;exact⟨by rw[<-S.out,O.out];rfl,o⟩
theorem yik(h:Hp)(v:Value)(a:Int)(w:World)(b:Bok w v h)(ha:0<=a/\a<h.p):
  Calls Tryz.prog 94 #[zzu h v,a] w fun e w'=>e= .returned (.bool (h.snd a))/\Below w.heap.size w w':=by
 obtain⟨b1,_,_,_⟩:=b.bd;obtain⟨ao,cap,hv,_,_,_⟩:=b.rd.cells;generalize h.xs.length=m at hv;subst hv;have J:=fun X (M:Below w.heap.size w X)=>zpo h (.slice ao m cap) a X (b.below M) ha;have b2:=fun q X (M:Below w.heap.size w X) hq=>zpo h (.slice ao m cap) q X (b.below M) hq;have b4:=fun k X (M:Below w.heap.size w X)=>yii h (.slice ao m cap) a k X (b.below M) ha;have S:=fun X (M:Below w.heap.size w X)=>yiz h (.slice ao m cap) a X (b.below M) ha;have b3:=fun n X (M:Below w.heap.size w X) hn=>yjb h (.slice ao m cap) a n X (b.below M) ha hn;have N:=Hp.yji (h:=h) (a:=a);have O:=Hp.ygu (h:=h) (a:=a);have b9:=h.z1z a
 have hs:h.snd a=if h.pb a=true then
  (if h.pk a=2 then h.sup a (h.pa a)
   else if h.pk a=3 then h.bare a&&h.rowB a (h.pa a)
   else if h.pk a=4 then h.bare a&&(h.pk (h.pa a)==1||(h.pk (h.pa a)==3&&decide (a<h.pa a+h.pa (h.pa a))))
   else if h.pk a=0 then h.bare a
   else true)
 else false:=rfl;generalize h.pk a=k1 at *;generalize h.pa a=r at *;generalize h.pn a=E at *;generalize h.pb a=kb at *;generalize h.bare a=bb at *;rw[hs];clear hs b;replace J:=hd' J;replace b2:=hd' b2;replace b4:=hd' b4;replace S:=hd' S;replace b3:=hd' b3;rcases Bool.eq_false_or_eq_true kb with b0|b0;case inr=>subst b0;rw[if_neg Bool.false_ne_true];clear N O;go_in;go_wp2_with fail;refine(J.out _ (br.alloc lr _)).mono ?_;rintro e i ⟨rfl,l⟩;have j:Below w.heap.size w i:=((Below.refl w.heap.size w).alloc lr _).trans (l.mono (by simp));go_wp2;go_ret;exact⟨rfl,j.alloc j.size _⟩
 case inl=>
  subst b0;rw[if_pos rfl];by_cases q2:k1=2
  ·rw[if_pos q2];subst q2;clear N O;go_in;go_wp2_with fail;refine(J.out _ (br.alloc lr _)).mono ?_;rintro e i ⟨rfl,l⟩;have j:Below w.heap.size w i:=((Below.refl w.heap.size w).alloc lr _).trans (l.mono (by simp));have g0:=(l.block _ (by simp)).trans (heap_alloc_new w (.cells #[h.p,h.c,h.m,.slice ao m cap] 124));have C:=heap_alloc_new i (.cells #[.int .i64 2,r,E] 128);have o:Below i.heap.size i (i.alloc (.cells #[.int .i64 2,r,E] 128)):=br.alloc lr _;have g0:=(o.block _ (Array.getElem?_eq_some_iff.1 g0).1).trans g0;have y:Below w.heap.size w (i.alloc (.cells #[.int .i64 2,r,E] 128)):=j.trans (o.mono j.size);go_upto_region 2 with fail;obtain⟨H,hH,B⟩:=hidv w.heap.size;rw[<-B]at g0 ⊢;clear B o j l;generalize i.heap.size=G at C ⊢;generalize i.alloc (.cells #[.int .i64 2,r,E] 128)=W at *;have c0:W.cell? ⟨H,0,.none⟩=some (.int .i64 h.p):=zac g0 0;have c1:W.cell? ⟨H,1,.none⟩=some (.int .i64 h.c):=zac g0 1;have c2:W.cell? ⟨H,2,.none⟩=some (.int .i64 h.m):=zac g0 2;have c3:W.cell? ⟨H,3,.none⟩=some (.slice ao m cap):=zac g0 3;have Y:W.cell? ⟨G,0,.none⟩=some (.int .i64 2):=zac C 0;have Z:W.cell? ⟨G,1,.none⟩=some (.int .i64 r):=zac C 1;clear g0 C;go_wp2_with fail;refine(b4.out r _ y).mono ?_;rintro e w2 ⟨rfl,z⟩;go_wp2;go_ret;exact⟨rfl,y.trans (z.mono y.size)⟩
  rw[if_neg q2];by_cases q3:k1=3
  ·rw[if_pos q3];subst q3;have hk:=N (by simp);clear N O q2;have U:=fun X M=>b3.out r X M hk;generalize h.rowB a r=rb at *;replace U:=hd' U;go_in;go_wp2_with fail;refine(J.out _ (br.alloc lr _)).mono ?_;rintro e i ⟨rfl,l⟩;have j:Below w.heap.size w i:=((Below.refl w.heap.size w).alloc lr _).trans (l.mono (by simp));have g0:=(l.block _ (by simp)).trans (heap_alloc_new w (.cells #[h.p,h.c,h.m,.slice ao m cap] 124));have C:=heap_alloc_new i (.cells #[.int .i64 3,r,E] 128);have o:Below i.heap.size i (i.alloc (.cells #[.int .i64 3,r,E] 128)):=br.alloc lr _;have g0:=(o.block _ (Array.getElem?_eq_some_iff.1 g0).1).trans g0;have y:Below w.heap.size w (i.alloc (.cells #[.int .i64 3,r,E] 128)):=j.trans (o.mono j.size);go_upto_region 2 with fail;obtain⟨H,hH,B⟩:=hidv w.heap.size;rw[<-B]at g0 ⊢;clear B o j l;generalize i.heap.size=G at C ⊢;generalize i.alloc (.cells #[.int .i64 3,r,E] 128)=W at *;have c0:W.cell? ⟨H,0,.none⟩=some (.int .i64 h.p):=zac g0 0;have c1:W.cell? ⟨H,1,.none⟩=some (.int .i64 h.c):=zac g0 1;have c2:W.cell? ⟨H,2,.none⟩=some (.int .i64 h.m):=zac g0 2;have c3:W.cell? ⟨H,3,.none⟩=some (.slice ao m cap):=zac g0 3;have Y:W.cell? ⟨G,0,.none⟩=some (.int .i64 3):=zac C 0;have Z:W.cell? ⟨G,1,.none⟩=some (.int .i64 r):=zac C 1;clear g0 C;go_wp2_with fail;refine(S.out _ y).mono ?_;rintro e w2 ⟨rfl,z⟩;have I:=y.trans (z.mono y.size);have c0:=zai z _ _ _ c0;have c1:=zai z _ _ _ c1;have c2:=zai z _ _ _ c2;have c3:=zai z _ _ _ c3;have Y:=zai z _ _ _ Y;have Z:=zai z _ _ _ Z;rcases Bool.eq_false_or_eq_true bb with L|L
   ·subst L;go_wp2_with fail;refine(U.out _ I).mono ?_;rintro e w3 ⟨rfl,D⟩;go_wp2;go_ret;exact⟨rfl,I.trans (D.mono I.size)⟩
   subst L;go_wp2;go_ret;exact⟨rfl,I⟩
  rw[if_neg q3];by_cases q4:k1=4
  ·rw[if_pos q4];subst q4;have hk:=O (by simp);clear N O q2 q3;have T:=fun X M=>b2.out r X M (by omega);have b8:=h.z1z r;generalize h.pk r=j1 at *;generalize h.pa r=j2 at *;generalize h.pn r=j3 at *;generalize h.pb r=jb at *;replace T:=hd' T;have wj:=wrp (r+j2);go_in;go_wp2_with fail;refine(J.out _ (br.alloc lr _)).mono ?_;rintro e i ⟨rfl,l⟩;have j:Below w.heap.size w i:=((Below.refl w.heap.size w).alloc lr _).trans (l.mono (by simp));have g0:=(l.block _ (by simp)).trans (heap_alloc_new w (.cells #[h.p,h.c,h.m,.slice ao m cap] 124));have C:=heap_alloc_new i (.cells #[.int .i64 4,r,E] 128);have o:Below i.heap.size i (i.alloc (.cells #[.int .i64 4,r,E] 128)):=br.alloc lr _;have g0:=(o.block _ (Array.getElem?_eq_some_iff.1 g0).1).trans g0;have y:Below w.heap.size w (i.alloc (.cells #[.int .i64 4,r,E] 128)):=j.trans (o.mono j.size);go_upto_region 2 with fail;obtain⟨H,hH,B⟩:=hidv w.heap.size;rw[<-B]at g0 ⊢;clear B o j l;generalize i.heap.size=G at C ⊢;generalize i.alloc (.cells #[.int .i64 4,r,E] 128)=W at *;have c0:W.cell? ⟨H,0,.none⟩=some (.int .i64 h.p):=zac g0 0;have c1:W.cell? ⟨H,1,.none⟩=some (.int .i64 h.c):=zac g0 1;have c2:W.cell? ⟨H,2,.none⟩=some (.int .i64 h.m):=zac g0 2;have c3:W.cell? ⟨H,3,.none⟩=some (.slice ao m cap):=zac g0 3;have Y:W.cell? ⟨G,0,.none⟩=some (.int .i64 4):=zac C 0;have Z:W.cell? ⟨G,1,.none⟩=some (.int .i64 r):=zac C 1;clear g0 C;go_wp2_with fail;refine(T.out _ y).mono ?_;rintro e w2 ⟨rfl,z⟩;have D:=z.alloc z.size (.cells #[j1,j2,j3] 128);have g2:=heap_alloc_new w2 (.cells #[j1,j2,j3] 128);have I:=y.trans (D.mono y.size);have c0:=zai D _ _ _ c0;have c1:=zai D _ _ _ c1;have c2:=zai D _ _ _ c2;have c3:=zai D _ _ _ c3;have Y:=zai D _ _ _ Y;have Z:=zai D _ _ _ Z;go_upto_region 11 with fail;generalize w2.heap.size=K at g2 ⊢;generalize w2.alloc (.cells #[j1,j2,j3] 128)=V at *;have r0:V.cell? ⟨K,0,.none⟩=some (.int .i64 j1):=zac g2 0;have r1:V.cell? ⟨K,1,.none⟩=some (.int .i64 j2):=zac g2 1;clear g2 D z;go_wp2_with fail;refine(S.out _ I).mono ?_;rintro e w3 ⟨rfl,F⟩;have R:=I.trans (F.mono I.size);have c0:=zai F _ _ _ c0;have c1:=zai F _ _ _ c1;have c2:=zai F _ _ _ c2;have c3:=zai F _ _ _ c3;have Y:=zai F _ _ _ Y;have Z:=zai F _ _ _ Z;have r0:=zai F _ _ _ r0;have r1:=zai F _ _ _ r1;rcases Bool.eq_false_or_eq_true bb with L|L
   ·subst L;by_cases x1:j1=1
    ·subst x1;go_wp2;go_ret;exact⟨by rfl,R⟩
    have b6:(j1==1)=false:=by rw[beq_eq_false_iff_ne];exact x1
    by_cases x3:j1=3
    ·subst x3;by_cases x4:a<r+j2
     ·have b5:decide (a<r+j2)=true:=decide_eq_true x4;go_wp2;go_ret;exact⟨by rw[b5];rfl,R⟩
     have b5:decide (a<r+j2)=false:=decide_eq_false x4;go_wp2;go_ret;exact⟨by rw[b5];rfl,R⟩
    have b7:(j1==3)=false:=by rw[beq_eq_false_iff_ne];exact x3
    go_wp2;go_ret;exact⟨by rw[b6,b7];rfl,R⟩
   subst L;go_wp2;go_ret;exact⟨by rfl,R⟩
  rw[if_neg q4];clear N O;have y2:(k1==2)=false:=by rw[beq_eq_false_iff_ne];exact q2
  have y3:(k1==3)=false:=by rw[beq_eq_false_iff_ne];exact q3
  have y4:(k1==4)=false:=by rw[beq_eq_false_iff_ne];exact q4
  by_cases q0:k1=0
  ·rw[if_pos q0];subst q0;go_in;go_wp2_with fail;refine(J.out _ (br.alloc lr _)).mono ?_;rintro e i ⟨rfl,l⟩;have j:Below w.heap.size w i:=((Below.refl w.heap.size w).alloc lr _).trans (l.mono (by simp));have g0:=(l.block _ (by simp)).trans (heap_alloc_new w (.cells #[h.p,h.c,h.m,.slice ao m cap] 124));have C:=heap_alloc_new i (.cells #[.int .i64 0,r,E] 128);have o:Below i.heap.size i (i.alloc (.cells #[.int .i64 0,r,E] 128)):=br.alloc lr _;have g0:=(o.block _ (Array.getElem?_eq_some_iff.1 g0).1).trans g0;have y:Below w.heap.size w (i.alloc (.cells #[.int .i64 0,r,E] 128)):=j.trans (o.mono j.size);go_upto_region 2 with fail;obtain⟨H,hH,B⟩:=hidv w.heap.size;rw[<-B]at g0 ⊢;clear B o j l;generalize i.heap.size=G at C ⊢;generalize i.alloc (.cells #[.int .i64 0,r,E] 128)=W at *;have c0:W.cell? ⟨H,0,.none⟩=some (.int .i64 h.p):=zac g0 0;have c1:W.cell? ⟨H,1,.none⟩=some (.int .i64 h.c):=zac g0 1;have c2:W.cell? ⟨H,2,.none⟩=some (.int .i64 h.m):=zac g0 2;have c3:W.cell? ⟨H,3,.none⟩=some (.slice ao m cap):=zac g0 3;have Y:W.cell? ⟨G,0,.none⟩=some (.int .i64 0):=zac C 0;have Z:W.cell? ⟨G,1,.none⟩=some (.int .i64 r):=zac C 1;clear g0 C;go_wp2_with fail;refine(S.out _ y).mono ?_;rintro e w2 ⟨rfl,z⟩;go_wp2;go_ret;exact⟨rfl,y.trans (z.mono y.size)⟩
  rw[if_neg q0];have y0:(k1==0)=false:=by rw[beq_eq_false_iff_ne];exact q0
  go_in;go_wp2_with fail;refine(J.out _ (br.alloc lr _)).mono ?_;rintro e i ⟨rfl,l⟩;have j:Below w.heap.size w i:=((Below.refl w.heap.size w).alloc lr _).trans (l.mono (by simp));have g0:=(l.block _ (by simp)).trans (heap_alloc_new w (.cells #[h.p,h.c,h.m,.slice ao m cap] 124));have C:=heap_alloc_new i (.cells #[k1,r,E] 128);have o:Below i.heap.size i (i.alloc (.cells #[k1,r,E] 128)):=br.alloc lr _;have g0:=(o.block _ (Array.getElem?_eq_some_iff.1 g0).1).trans g0;have y:Below w.heap.size w (i.alloc (.cells #[k1,r,E] 128)):=j.trans (o.mono j.size);go_upto_region 2 with fail;obtain⟨H,hH,B⟩:=hidv w.heap.size;rw[<-B]at g0 ⊢;clear B o j l;generalize i.heap.size=G at C ⊢;generalize i.alloc (.cells #[k1,r,E] 128)=W at *;have c0:W.cell? ⟨H,0,.none⟩=some (.int .i64 h.p):=zac g0 0;have c1:W.cell? ⟨H,1,.none⟩=some (.int .i64 h.c):=zac g0 1;have c2:W.cell? ⟨H,2,.none⟩=some (.int .i64 h.m):=zac g0 2;have c3:W.cell? ⟨H,3,.none⟩=some (.slice ao m cap):=zac g0 3;have Y:W.cell? ⟨G,0,.none⟩=some (.int .i64 k1):=zac C 0;have Z:W.cell? ⟨G,1,.none⟩=some (.int .i64 r):=zac C 1;clear g0 C;go_wp2;go_ret;exact⟨rfl,y⟩
end

section

open Go.RowKit

theorem yh6:(Tryz.prog.info? 3).isSome=true:=by kernel_rfl
theorem yiv:Tryz.prog.cellsOf 3=1:=by kernel_rfl
theorem yhi(w:World)(d:Nat)(f b:List Int):∀ (l:List Nat),(∀ i ∈ l,i<f.length/\i<b.length)->
  (Op.eqItems (d+1) 3 1 (f.map (Value.int .i64)).toArray (b.map (Value.int .i64)).toArray l).run Tryz.prog w= .ok (l.all fun i=>f.getD i 0==b.getD i 0) w
 | [],_=>by simp[Op.eqItems]
 |i::l,h=>by
  have hi:=h i (by simp)
  have p:=yhi w d f b l fun j o=>h j (by simp[o])
  have n:=Tryz.underlying3
  have q:(part 3 (f.map (Value.int .i64)).toArray (i*1)).run Tryz.prog w= .ok (.int .i64 (f.getD i 0)) w:=by
   simp[part,isAgg,run_underlying n,List.getD,List.getElem?_eq_getElem hi.1]
  have r:(part 3 (b.map (Value.int .i64)).toArray (i*1)).run Tryz.prog w= .ok (.int .i64 (b.getD i 0)) w:=by
   simp[part,isAgg,run_underlying n,List.getD,List.getElem?_eq_getElem hi.2]
  simp only[Op.eqItems,Sem.run_bind,q,r,run_equalIn_int w d _ .i64 .i64 _ _ n,Result.andThen_ok,List.all_cons]
  cases hb:(f.getD i 0==b.getD i 0)
  ·simp
  ·simpa using p
theorem yjm(a b c d:Int)(w:World):∃ r:Bool,(Op.equal 47 (.agg #[a,b]) (.agg #[c,d])).run Tryz.prog w= .ok r w/\r=([0,1].all fun i=>[a,b].getD i 0== [c,d].getD i 0):=by
 obtain⟨f,hi⟩:=Option.isSome_iff_exists.1 yh6;refine⟨_,?_,rfl⟩;show (Op.equalIn (9998+2) 47 (.agg ([a,b].map (Value.int .i64)).toArray) (.agg ([c,d].map (Value.int .i64)).toArray)).run Tryz.prog w=_;rw[run_equalIn_array w (9998+1) _ _ Tryz.underlying47 hi,yiv,yhi w 9998 [a,b] [c,d] _ (fun i hi=>by have:=List.mem_range.1 hi;simp;omega)];rfl
theorem yi3(e:Bool)(a b:Int)(w:World):(Instr.checkKey e 10000 47 (.agg #[a,b])).run Tryz.prog w= .ok () w:=by
 kernel_rfl
def yhx (es:Array MapEntry):Prop:=∀ e ∈ es.toList,(∃ a b:Int,e.key= .agg #[a,b])/\e.val= .agg #[]
theorem yhx.nil:yhx #[]:=fun e b=>by simp at b
theorem yhx.push{es:Array MapEntry}(h:yhx es)(a b:Int)(n:Nat):yhx (es.push ⟨.agg #[a,b],.agg #[],n⟩):=fun e f=>by
 simp only[Array.toList_push,List.mem_append,List.mem_singleton]at f
 rcases f with f|f
 ·exact h e f
 ·subst f;exact⟨⟨a,b,rfl⟩,rfl⟩
theorem yih(a b:Int):∀ (es:List MapEntry) (i:Nat),(∀ e ∈ es,(∃ a b:Int,e.key= .agg #[a,b])/\e.val= .agg #[])->
  ∃ r:Option Nat,(∀ w:World,(Instr.findAsking 47 (.agg #[a,b]) es i).run Tryz.prog w= .ok (r.map fun j=>(j,.agg #[])) w)/\((∀ e ∈ es,e.key≠ .agg #[a,b])->r=none)
 | [],i,_=>⟨none,fun w=>rfl,fun _=>rfl⟩
 |e::es,i,h=>by
  obtain⟨⟨c,d,n⟩,C⟩:=h e (by simp)
  obtain⟨r,B,z⟩:=yih a b es (i+1) fun e p=>h e (by simp[p])
  have l:=fun w=>yjm a b c d w
  cases hb:([0,1].all fun i=>[a,b].getD i 0== [c,d].getD i 0)
  ·refine⟨r,fun w=>?_,fun n=>z fun e p=>n e (by simp[p])⟩
   obtain⟨q,o,f⟩:=l w
   rw[hb]at f;subst f
   simp only[Instr.findAsking,Sem.run_bind,n,o,Result.andThen_ok]
   exact B w
  ·refine⟨some i,fun w=>?_,fun y=>(y e (by simp) ?_).elim⟩
   rotate_left
   ·simp only[List.all_cons,List.all_nil,Bool.and_true,Bool.and_eq_true,List.getD_cons_zero,List.getD_cons_succ,beq_iff_eq]at hb
    rw[n,hb.1,hb.2]
   obtain⟨q,o,f⟩:=l w
   rw[hb]at f;subst f
   simp only[Instr.findAsking,Sem.run_bind,n,o,Result.andThen_ok]
   simp[C]
theorem yjs(a b:Int)(es:Array MapEntry)(h:yhx es):∃ r:Option Nat,(∀ w:World,(Instr.findKey 47 (.agg #[a,b]) es.toList).run Tryz.prog w= .ok (r.map fun j=>(j,.agg #[])) w)/\((∀ e ∈ es.toList,e.key≠ .agg #[a,b])->r=none):=by
 obtain⟨r,o,i⟩:=yih a b es.toList 0 h;have hu:=Tryz.underlying47;cases hes:es.toList with
 |nil=>refine⟨none,fun w=>?_,fun _=>rfl⟩;simp[Instr.findKey,Instr.findNow,run_underlying hu]
 |cons e l=>
  refine⟨r,fun w=>?_,fun f=>i (hes ▸ f)⟩;rw[<-hes];have n:∀ d:TypeDesc,(∀ k,d≠ .int k)->d≠ .string->d≠ .bool->Instr.findNow d (.agg #[a,b]) es.toList 0=none:=fun d p q y=>by rw[hes];obtain⟨⟨c,d',f⟩,_⟩:=h e (by rw[hes];simp);simp only[Instr.findNow,f];cases d<;>simp_all [Instr.sameNow]
  simp only[Instr.findKey,Sem.run_bind,run_underlying hu,Result.andThen_ok];rw[n _ (fun k=>by simp) (by simp) (by simp)];exact o w
theorem yju(w:World):(zeroValue 210).run Tryz.prog w= .ok (.agg #[]) w:=by kernel_rfl
def yhm (w:World) (M:Nat) (es:Array MapEntry) (c:Nat):World:= { w with heap:=w.heap.setIfInBounds M (.map es c) }
theorem yij{w:World}{M:Nat}(es:Array MapEntry)(c:Nat)(h:M<w.heap.size):(yhm w M es c).heap[M]?=some (.map es c):=by
 unfold yhm;simp[h]
theorem yh4(w:World)(M:Nat)(es:Array MapEntry)(c:Nat):(yhm w M es c).heap.size=w.heap.size:=by simp[yhm]
theorem map2(a b:Int)(es:Array MapEntry)(h:yhx es):∃ r:Bool,
  (∀ (w:World) (M c:Nat),w.heap[M]?=some (.map es c)->(Instr.lookup 206 (.map (some M)) (.agg #[a,b]) true).run Tryz.prog w= .ok (.tuple #[.agg #[],r]) w)/\
  (r=false->∀ (w:World) (M c:Nat),w.heap[M]?=some (.map es c)->(Instr.mapUpdate 206 (.map (some M)) (.agg #[a,b]) (.agg #[])).run Tryz.prog w= .ok () (yhm w M (es.push ⟨.agg #[a,b],.agg #[],c⟩) (c+1)))/\
  ((∀ e ∈ es.toList,e.key≠ .agg #[a,b])->r=false):=by
 obtain⟨r,p,n⟩:=yjs a b es h;have hu:=Tryz.underlying206;refine⟨r.isSome,fun w M c f=>?_,fun y w M c f=>?_,fun q=>by rw[n q];rfl⟩
 ·have l:(getObj M).run Tryz.prog w= .ok (.map es c) w:=by simp[getObj,Sem.run,f]
  have z:=yju w;have hc:=yi3 es.isEmpty a b w;have i:=p w;cases r with
  |none=>simp[Instr.lookup,run_underlying hu,l,hc,i,z]
  |some j=>simp[Instr.lookup,run_underlying hu,l,hc,i]
 have l:(getObj M).run Tryz.prog w= .ok (.map es c) w:=by simp[getObj,Sem.run,f]
 have hc:=yi3 false a b w;have i:=p w;cases r with
 |some j=>cases y;|none=>
  have hs:∀ o,(setObj M o).run Tryz.prog w= .ok () {w with heap:=w.heap.setIfInBounds M o}:=fun o=>by simp[setObj,Sem.run,f]
  simp[Instr.mapUpdate,run_underlying hu,l,hc,i,hs,yhm]
end

section

open Go.RowKit

attribute [local go_sem ↓] Go.wp_at_zero Go.wp_at_succ

def Hp.mx (h:Hp) (c i:Int):Int:=wd h.xs (h.c + h.p + h.p * 16 + c * h.m + i)
structure Hp.magOk (h:Hp):Prop where
 en:∀ c i:Nat,(c:Int) < h.c->(i:Int) < h.m->h.mx c i≠0->zbi h.p h.c h.m (h.mx c i)=true/\h.pk (za2 (h.mx c i) 0)=2/\h.pa (za2 (h.mx c i) 0)=za2 (h.mx c i) 2/\h.sk (za2 (h.mx c i) 0) (za2 (h.mx c i) 1)=2/\h.sa (za2 (h.mx c i) 0) (za2 (h.mx c i) 1)=c
 on:∀ c i c' i':Nat,(c:Int) < h.c->(i:Int) < h.m->(c':Int) < h.c->(i':Int) < h.m->h.mx c i≠0->h.mx c' i'≠0->za2 (h.mx c i) 0=za2 (h.mx c' i') 0->za2 (h.mx c i) 1=za2 (h.mx c' i') 1->c=c'/\i=i'
theorem Bok.magsG{w:World}{v:Value}{h:Hp}(b:Bok w v h):∃ ao cap,v= .slice ao h.xs.length cap/\
  ∀ c i:Nat,(c:Int)<h.c->(i:Int)<h.m->∃ (g f:Nat) (k:Nat),ao=some ⟨g,f,.none⟩/\g<w.heap.size/\ze9 h.p h.c h.m c i=(k:Int)/\k<h.xs.length/\w.cell? ⟨g,f+k,.none⟩=some (.int .u64 (h.mx c i))/\0<=h.mx c i/\h.mx c i<18446744073709551616:=by
 obtain⟨D,E,F,G⟩:=b.bd;obtain⟨ao,cap,o,_,_,_⟩:=b.rd.cells;refine⟨ao,cap,o,fun c i hc hi=>?_⟩;have r:=zk3 (c:=(c:Int)) (m:=h.m) (C:=h.c-1) (M:=h.m) (by omega) (by omega);have z:(h.c-1)*h.m=h.c*h.m-h.m:=by rw[Int.sub_mul,Int.one_mul]
 have H:=zk3 (c:=h.c) (m:=h.m) (C:=12) (M:=8) (by omega) (by omega);obtain⟨g,f,n,k,j,_,t,y,l,B⟩:=b.word (h.c+h.p+h.p*16+c*h.m+i) (by omega) (by omega);rw[o]at j;injection j with q _ _;refine⟨g,f,k,q,t,?_,l,B,h.z95 b.fit _⟩;unfold ze9;rw[if_pos ⟨b.may,zbc.2 (by omega),zbc.2 (by omega)⟩,y]
def MapG (w:World) (M:Nat) (h:Hp) (c i:Nat):Prop:=∃ es n,yhx es/\(∀ e ∈ es.toList,∃ d j:Nat,(d < c/\(j:Int) < h.m\/d=c/\j < i)/\h.mx d j≠0/\e.key= .agg #[.int .i64 (za2 (h.mx d j) 0),.int .i64 (za2 (h.mx d j) 1)])/\w.heap[M]?=some (.map es n)
theorem MapG.below{w w':World}{M:Nat}{h:Hp}{c i:Nat}(g:MapG w M h c i)(hb:Below w.heap.size w w'):MapG w' M h c i:=by
 obtain⟨es,n,j,f,b⟩:=g;exact⟨es,n,j,f,(hb.block M (Array.getElem?_eq_some_iff.1 b).1).trans b⟩
theorem MapG.skip{w:World}{M:Nat}{h:Hp}{c i:Nat}(g:MapG w M h c i):MapG w M h c (i+1):=by
 obtain⟨es,n,q,o,p⟩:=g;refine⟨es,n,q,fun e l=>?_,p⟩;obtain⟨d,j,r,b,f⟩:=o e l;exact⟨d,j,by omega,b,f⟩
theorem MapG.next{w:World}{M:Nat}{h:Hp}{c q:Nat}(g:MapG w M h c q)(t:h.m=q):MapG w M h (c+1) 0:=by
 obtain⟨es,n,p,l,o⟩:=g;refine⟨es,n,p,fun e i=>?_,o⟩;obtain⟨d,j,r,b,f⟩:=l e i;exact⟨d,j,by omega,b,f⟩
theorem MapG.new{w:World}{M:Nat}{h:Hp}{c i:Nat}(o:h.magOk)(g:MapG w M h c i)(hc:(c:Int)<h.c)(hi:(i:Int)<h.m)(q:h.mx c i≠0):∃ es n,w.heap[M]?=some (.map es n)/\
  (∀ (w:World) (M n:Nat),w.heap[M]?=some (.map es n)->(Instr.lookup 206 (.map (some M)) (.agg #[.int .i64 (za2 (h.mx c i) 0),.int .i64 (za2 (h.mx c i) 1)]) true).run Tryz.prog w= .ok (.tuple #[.agg #[],.bool false]) w)/\
  (∀ (w:World) (M n:Nat),w.heap[M]?=some (.map es n)->(Instr.mapUpdate 206 (.map (some M)) (.agg #[.int .i64 (za2 (h.mx c i) 0),.int .i64 (za2 (h.mx c i) 1)]) (.agg #[])).run Tryz.prog w= .ok () (yhm w M (es.push ⟨.agg #[.int .i64 (za2 (h.mx c i) 0),.int .i64 (za2 (h.mx c i) 1)],.agg #[],n⟩) (n+1)))/\
  (∀ (w:World) (M n:Nat),w.heap[M]?=some (.map es n)->MapG (yhm w M (es.push ⟨.agg #[.int .i64 (za2 (h.mx c i) 0),.int .i64 (za2 (h.mx c i) 1)],.agg #[],n⟩) (n+1)) M h c (i+1)):=by
 obtain⟨es,n,z,y,F⟩:=g;obtain⟨r,B,C,D⟩:=map2 (za2 (h.mx c i) 0) (za2 (h.mx c i) 1) es z;have G:r=false:=D fun e f b=>by obtain⟨d,j,k1,l,p⟩:=y e f;rw[p]at b;simp only[Value.agg.injEq,Array.mk.injEq,List.cons.injEq,Value.int.injEq,and_true,true_and]at b;have:=o.on d j c i (by omega) (by omega) hc hi l q b.1 b.2;omega
 subst G;refine⟨es,n,F,B,C rfl,fun w M n E=>⟨_,_,z.push _ _ n,fun e f=>?_,yij _ _ (Array.getElem?_eq_some_iff.1 E).1⟩⟩;simp only[Array.toList_push,List.mem_append,List.mem_singleton]at f;rcases f with f|rfl
 ·obtain⟨d,j,k1,l,p⟩:=y e f;exact⟨d,j,by omega,l,p⟩
 exact⟨c,i,by omega,q,rfl⟩
theorem magsG_any(h:Hp)(v:Value)(w:World)(b:Bok w v h)(o:h.magOk):
  Calls Tryz.prog 95 #[zzu h v] w fun e w'=>e= .returned (.bool true)/\Below w.heap.size w w':=by
 obtain⟨b1,b2,b3,b4⟩:=b.bd;obtain⟨ao,cap,hv,l⟩:=b.magsG;have b7:=fun x i=>zjh h.p h.c h.m x i;have Z:=fun (c i:Nat) X (hX:Below w.heap.size w X) h0 h1 (k0:(c:Int)<h.c) (k1:(i:Int)<h.m) (k2:h.mx c i≠0)=>entG_any h v c (h.mx c i) X (b.below hX) h0 h1 (o.en c i k0 k1 k2).1 (o.en c i k0 k1 k2).2.1 (o.en c i k0 k1 k2).2.2.1 (o.en c i k0 k1 k2).2.2.2.1 (o.en c i k0 k1 k2).2.2.2.2;generalize h.xs.length=n at hv l;subst hv;obtain⟨C,hC⟩:∃ C:Nat,Hid (h.c=C):=⟨h.c.toNat,hd' (by omega)⟩;obtain⟨Q,hQ⟩:∃ Q:Nat,Hid (h.m=Q):=⟨h.m.toNat,hd' (by omega)⟩;replace l:=hd' l;replace b7:=hd' b7;replace Z:=hd' Z;have bx:=hd' o;clear b o;have bv:∀ u:World,(Instr.makeMap 206 none).run Tryz.prog u= .ok (.map (some u.heap.size)) (u.alloc (.map #[] 0)):=fun u=>by rfl
 obtain⟨t1,t2,t3,t4⟩:=zc5 w (.cells #[h.p,h.c,h.m,.slice ao n cap] 124) (.map #[] 0);go_in;go_upto_region 2 with fail;obtain⟨H,hH,S⟩:=hidv w.heap.size;generalize (w.alloc (.cells #[h.p,h.c,h.m,.slice ao n cap] 124)).alloc (.map #[] 0)=W at *;rw[<-S]at t1 t2 t3 t4 ⊢;have c4:w.heap.size<=H+1:=by omega
 have I:H≠H+1:=by omega
 have lH:H<W.heap.size:=by omega
 have lM:H+1<W.heap.size:=by omega
 rw[S]at t4;clear S t3;generalize H+1=M at *;have bu:MapG W M h 0 0:=⟨_,_,yhx.nil,fun e he=>by simp at he,t2⟩;have c0:W.cell? ⟨H,0,.none⟩=some (.int .i64 h.p):=zac t1 0;have c1:W.cell? ⟨H,1,.none⟩=some (.int .i64 h.c):=zac t1 1;have c2:W.cell? ⟨H,2,.none⟩=some (.int .i64 h.m):=zac t1 2;have c3:W.cell? ⟨H,3,.none⟩=some (.slice ao n cap):=zac t1 3;have C1:W.cell? ⟨H,1,.none⟩=some (.int .i64 C):=by rw[c1,hC.out]
 replace C1:=hd' C1;clear t1 t2 bv;have lz:∀ X,Only (atN M) W X->X.cell? ⟨H,0,.none⟩=some (.int .i64 h.p)/\X.cell? ⟨H,1,.none⟩=some (.int .i64 h.c)/\X.cell? ⟨H,2,.none⟩=some (.int .i64 h.m)/\X.cell? ⟨H,3,.none⟩=some (.slice ao n cap)/\Below w.heap.size w X:=fun X ho=>⟨(ho.zgk lH I 0).trans c0,(ho.zgk lH I 1).trans c1,(ho.zgk lH I 2).trans c2,(ho.zgk lH I 3).trans c3,Only.zs3 t4 ho t4.size c4⟩
 replace lz:=hd' lz;clear C1;go_wp2_with fail;go_loopw [16] (fun vi wr=>∃ i:Nat,i<=C/\vi= .int .i64 i/\Only (atN M) W wr/\MapG wr M h i 0) (fun vi _=>C-(intOf vi).toNat);case atStart=>exact⟨0,Nat.zero_le _,rfl,Only.refl _ _,bu⟩
 case round=>
  obtain⟨i,hi,rfl,bj,bw⟩:=hrel;obtain⟨d0,d1,d2,d3,bp⟩:=lz.out _ bj;by_cases b6:(i:Int)<h.c
  ·have c9:i<C:=by have:=hC.out;omega
   go_wp2_with fail;obtain⟨Wr,rfl⟩:∃ V:World,V=wr:=⟨_,rfl⟩;go_loopw [22] (fun vj wr=>∃ j:Nat,j<=Q/\vj= .int .i64 j/\Only (atN M) W wr/\MapG wr M h i j) (fun vj _=>Q-(intOf vj).toNat);case atStart=>exact⟨0,Nat.zero_le _,rfl,bj,bw⟩
   case round=>
    obtain⟨j,hj,rfl,O,b9⟩:=hrel;obtain⟨f0,f1,f2,f3,bf⟩:=lz.out _ O;by_cases b0:(j:Int)<h.m
    ·have cb:j<Q:=by have:=hQ.out;omega
     obtain⟨g,cg,k,rfl,hg,bh,cf,hx,bk,bm⟩:=l.out i j b6 b0;have N:=b7.out i j;rw[bh]at N;replace hx:=zai bf _ _ _ hx;have c6:H<wr.heap.size:=zqe f0;have c7:g<wr.heap.size:=zqe hx;have cc:(0:Int)<=(k:Int):=by omega
     have cd:(k:Int)<(n:Int):=by omega
     have c8:(0:Int)<=(i:Int):=by omega
     have ca:(0:Int)<=(j:Int):=by omega
     have D:=fun X hX R=>Z.out i j X hX bk bm b6 b0 R;have y:=fun X (hX:MapG X M h i j) R=>MapG.new bx.out hX b6 b0 R;generalize c5:h.mx i j=x at hx bk bm D y;replace N:=hd' N;replace D:=hd' D;replace y:=hd' y;clear bh d0 d1 d2 d3 c5;go_upto_region 8 with fail;refine zaj (by kernel_rfl) (by kernel_rfl) ?_;repeat (go_big_quiet_step ((go_at_call 136;exact zam (N.out _))))
     refine wpQuiet_nil ?_;rintro _ ⟨e,rfl⟩;have ba:=O.trans (Only.of_below e.below) (fun _ _ h=>h);have bi:=b9.below e.below;clear b9 O f0 f1 f2 f3 hx c6 c7 bf;generalize e.w=V at *;clear e;obtain⟨f0,f1,f2,f3,bn⟩:=lz.out _ ba;by_cases R:x=0
     ·have bc:(x==0)=true:=by rw[beq_iff_eq];exact R
      go_wp2;exact⟨⟨j+1,by omega,by go_num,ba,bi.skip⟩,by simp[intOf];omega⟩
     have bc:(x==0)=false:=by rw[beq_eq_false_iff_ne];exact R
     go_wp2_with fail;have E:=y.out;have r:=D.out _ bn R;generalize za2 x 0=z at r E;generalize za2 x 1=B at r E;generalize za2 x 2=e2 at r;replace E:=hd' E;clear R;refine r.mono ?_;rintro e w3 ⟨rfl,Y⟩;have o3:=(ba.trans (Only.of_below Y) (fun _ _ h=>h)).alloc (.cells #[z,B,e2] 207);have m3:=(bi.below Y).below (br.alloc lr (.cells #[z,B,e2] 207));have o4:=o3.alloc (.cells #[z,B] 47);have m4:=m3.below (br.alloc lr (.cells #[z,B] 47));have g4:=heap_alloc_new (w3.alloc (.cells #[z,B,e2] 207)) (.cells #[z,B] 47);go_upto_region 12 with fail;rw[show (w3.alloc (.cells #[z,B,e2] 207)).heap.size=w3.heap.size+1 from by simp]at g4;generalize w3.heap.size+1=A at g4 ⊢;generalize (w3.alloc (.cells #[z,B,e2] 207)).alloc (.cells #[z,B] 47)=U at *;have a0:U.cell? ⟨A,0,.none⟩=some (.int .i64 z):=zac g4 0;have a1:U.cell? ⟨A,1,.none⟩=some (.int .i64 B):=zac g4 1;clear o3 m3 Y D r;obtain⟨es,cl,J,b5,bb,b8⟩:=E.out U m4 (fun h0=>by rw[h0]at bc;cases bc);have hl:=b5 U M cl J;replace b5:=hd' b5;replace bb:=hd' bb;replace b8:=hd' b8;have o5:=o4.alloc (.cells #[] 210);have L:Below U.heap.size U (U.alloc (.cells #[] 210)):=br.alloc lr _;have a0:=zai L _ _ _ a0;have a1:=zai L _ _ _ a1;have bg:=(L.block M (Array.getElem?_eq_some_iff.1 J).1).trans J;go_upto_region 13 with fail;clear hl J g4 L o4;generalize U.alloc (.cells #[] 210)=T at *;have hu:=bb.out T M cl bg
     have o6:Only (atN M) W (yhm T M (es.push ⟨.agg #[z,B],.agg #[],cl⟩) (cl+1)):=o5.trans (F:=atN M) (G:=atN M) ⟨rfl,rfl,rfl,by rw[yh4];exact Nat.le_refl _,fun q hq bz=>by
      unfold yhm
      simp only
      rw[Array.getElem?_setIfInBounds_ne (fun e=>bz e.symm)]⟩ (fun _ _ h=>h)
     have m6:=b8.out T M cl bg;go_wp2;exact⟨⟨j+1,by omega,by go_num,o6,m6⟩,by simp[intOf];omega⟩
    have bs:j=Q:=by have:=hQ.out;omega
    subst bs;go_wp2;exact⟨⟨i+1,by omega,by go_num,O,b9.next hQ.out⟩,by simp[intOf];omega⟩
  have bq:i=C:=by have:=hC.out;omega
  subst bq;go_wp2;go_ret;exact⟨rfl,bp⟩
end

section

variable {s:Sh} {m:Mem} {σ:Ab}

theorem hp_mx(b:Rep s m σ){c i:Int}(hc:0<=c/\c<s.c)(hi:0<=i/\i<s.m):(hpOf s m).mx c i=(σ.mg c i).enc:=by
 have:=b.mg c i hc hi;rw[(ixs b.fi).2.2.1 c i hc hi]at this;exact this
theorem hp_ent(f:Rep s m σ){c i:Int}(hc:0<=c/\c<s.c)(hi:0<=i/\i<s.m)(b:(hpOf s m).mx c i≠0):∃ p q k,σ.mg c i= .entry p q k/\(hpOf s m).mx c i=(MW.entry p q k).enc:=by
 rw[hp_mx f hc hi]at b ⊢;cases e:σ.mg c i with
 |none=>rw[e]at b;exact absurd rfl b
 |entry p q k=>exact⟨p,q,k,rfl,rfl⟩
theorem hp_mag(j:Rep s m σ)(f:GI s σ):(hpOf s m).magOk:=by
 refine⟨fun c i hc hi E=>?_,fun c i c' i' hc hi G I E F L M=>?_⟩
 ·obtain⟨p,q,k,o,z⟩:=hp_ent j (c:=c) (i:=i) ⟨by omega,hc⟩ ⟨by omega,hi⟩ E;have n:=f.mf c i;rw[o]at n;obtain⟨a1,C,S⟩:=MW.read j.may n;rw[z,a1,C,S];obtain⟨⟨b,J⟩,R⟩:=f.mv c i p q k o;obtain⟨_,Y,Z,b3,b4,_⟩:=MW.zg9 j.may n;have y:=f.pf p;rw[J]at y;have N:0<=p/\p<s.p:=y.1;obtain⟨_,T,U⟩:=hp_pg j f N;obtain⟨V,X⟩:=hp_sl j f N (i:=q) (by omega);exact⟨MW.ya4 j.may n,by rw[T,J];rfl,by rw[U,J];rfl,by rw[V,R];rfl,by rw[X,R];rfl⟩
 obtain⟨p,q,k,o,z⟩:=hp_ent j (c:=c) (i:=i) ⟨by omega,hc⟩ ⟨by omega,hi⟩ E;obtain⟨p',q',O,l,r⟩:=hp_ent j (c:=c') (i:=i') ⟨by omega,G⟩ ⟨by omega,I⟩ F;have n:=f.mf c i;have t:=f.mf c' i';rw[o]at n;rw[l]at t;obtain⟨a1,C,_⟩:=MW.read j.may n;obtain⟨B,D,_⟩:=MW.read j.may t;rw[z,r,a1,B]at L;rw[z,r,C,D]at M;subst L M;have v:=(f.mv c i p q k o).2;have v':=(f.mv c' i' p q O l).2;rw[v]at v';injection v' with v';have H:c=c':=by omega
 subst H;have:=f.mi c i i' p q k O o l;exact⟨rfl,by omega⟩
def Bare (s:Sh) (σ:Ab):Prop:=∀ c,0<=c/\c < s.c->zaz σ c .no/\∀ i,σ.mg c i= .none
theorem Bare.held(h:Bare s σ)(f:GI s σ){p o:Int}(e:σ.pg p= .held o):False:=by
 have b:=f.pf p;rw[e]at b;exact((h o b.2).1.h p).1 e
theorem Bare.way(h:Bare s σ)(q:GI s σ){p i k b o:Int}(e:σ.pg p= .super k b)(n:σ.sl p i= .way o):False:=by
 have l:=q.sf p i;rw[n]at l;rcases((h o l).1.w p i k).1 ⟨⟨b,e⟩,n⟩ with f|⟨j,f⟩
 ·exact f
 rw[(h o l).2 j]at f;cases f
theorem Cn.add_lo{a b:Cn}(f:a.l=0/\a.o=0)(hb:b.l=0/\b.o=0):(a.add b).l=0/\(a.add b).o=0:=by
 unfold Cn.add;dsimp only;omega
theorem hp_pgC(B:Rep s m σ)(j:GI s σ)(h:Bare s σ){a:Int}(E:0<=a/\a<s.p):((hpOf s m).pgC a).l=0/\((hpOf s m).pgC a).o=0:=by
 obtain⟨C,r,D⟩:=hp_pg B j E
 have hb:(hpOf s m).hb a=false:=by
  unfold Hp.hb Hp.hd
  rw[C,r,D,Bool.true_and]
  cases e:σ.pg a with
  |held o=>exact(h.held j e).elim
  |body q=>
   rw[if_pos (by simp[PW.kind])]
   have F:=j.pf a
   rw[e]at F
   obtain⟨_,t,J,L⟩:=F
   obtain⟨_,H,_⟩:=hp_pg B j (a:=q) ⟨t,by omega⟩
   show (_&&_)=false
   rw[show PW.pa (.body q)=q from rfl,H]
   rcases j.bd a q e with⟨o,f⟩|⟨n,f,_⟩
   ·exact(h.held j f).elim
   ·rw[f];simp[PW.kind]
  |empty=>rw[if_neg (by simp[PW.kind]),r,e];simp[PW.kind]
  |super k b=>rw[if_neg (by simp[PW.kind]),r,e];simp[PW.kind]
  |large n=>rw[if_neg (by simp[PW.kind]),r,e];simp[PW.kind]
 unfold Hp.pgC;rw[hb,C,if_neg (by simp)];split
 ·exact⟨rfl,rfl⟩
 split
 ·rename_i _ y
  have e:∃ k b,σ.pg a= .super k b:=by
   rw[r]at y
   cases e:σ.pg a with
   |super k b=>exact⟨k,b,rfl⟩
   |_=>rw[e]at y;simp[PW.kind]at y
  obtain⟨k,b,e⟩:=e;have z:(hpOf s m).pa a=k:=by rw[D,e];rfl
  have I:=zcy k;rw[z]
  have key:∀ n:Nat,(n:Int)<=zah k->((hpOf s m).slS a (zbj k) n).l=0/\((hpOf s m).slS a (zbj k) n).o=0:=by
   intro n
   induction n with
   |zero=>intro _;exact⟨rfl,rfl⟩
   |succ n M=>
    intro N
    refine Cn.add_lo (M (by omega)) ?_
    obtain⟨G,_⟩:=hp_sl B j E (i:=n) (by omega)
    have hs:=j.sk a n
    rw[e]at hs
    unfold zhi at hs
    dsimp only at hs
    rw[if_pos ⟨by omega,by omega⟩]at hs
    unfold Hp.slC
    rw[G]
    rcases hs with f|f|⟨o,f⟩
    ·rw[f,if_pos (by simp[SW.kind])];exact⟨rfl,rfl⟩
    ·rw[f,if_neg (by simp[SW.kind]),if_pos (by simp[SW.kind])];exact⟨rfl,rfl⟩
    ·exact(h.way j e f).elim
  exact key _ (by omega)
 exact⟨rfl,rfl⟩
theorem hp_count(b:Rep s m σ)(f:GI s σ)(h:Bare s σ):(hpOf s m).count.l=0/\(hpOf s m).count.o=0:=by
 unfold Hp.count;rw[if_pos (hp_ok b)];have hb:=b.fi.bd
 have key:∀ n:Nat,(n:Int)<=s.p->((hpOf s m).cn n).l=0/\((hpOf s m).cn n).o=0:=by
  intro n
  induction n with
  |zero=>intro _;exact⟨rfl,rfl⟩
  |succ n i=>intro j;exact Cn.add_lo (i (by omega)) (hp_pgC b f h ⟨by omega,by omega⟩)
 exact key (hpOf s m).p.toNat (by show ((s.p.toNat:Nat):Int)<=s.p;omega)
end

section

open Go.RowKit

attribute [local go_sem ↓] Go.wp_at_zero Go.wp_at_succ

theorem sndG_any(h:Hp)(v:Value)(w:World)(V:RdZ .u64 w v h.xs)(hf:h.fit)(N:h.sound=true)(M:h.magOk):
  Calls Tryz.prog 44 #[shV h,v] w fun e w'=>e= .returned (.bool true)/\Below w.heap.size w w':=by
 obtain⟨ao,cap,hv,_,_,_⟩:=V.cells;generalize h.xs.length=m at hv;subst hv;have q:=fun X J=>z5c h (.slice ao m cap) X (V.below (w':=X) J);have O:=(Below.refl w.heap.size w).alloc lr (.cells #[h.p,h.c,h.m] 23);have l:h.sound=(h.ok&&h.sndT h.p.toNat):=rfl;rw[N,eq_comm,Bool.and_eq_true]at l;obtain⟨C,l⟩:=l;have b:Bok w (.slice ao m cap) h:=⟨C,V,hf⟩;obtain⟨bp,_,_,_⟩:=b.bd;rw[C]at q;have D:=fun a X (J:Below w.heap.size w X) ha=>yik h (.slice ao m cap) a X (b.below J) ha;have B:=fun X (J:Below w.heap.size w X)=>magsG_any h (.slice ao m cap) X (b.below J) M;obtain⟨P,R⟩:∃ P:Nat,Hid (h.p=P):=⟨h.p.toNat,hd' (by omega)⟩;have I:h.p.toNat=P:=by have:=R.out;omega
 rw[I]at l;have S:Hid (∀ i:Nat,i<P->h.snd i=true):=hd' fun i hi=>h.yjo l i hi;replace q:=hd' q;replace D:=hd' D;replace B:=hd' B;clear C I b l N M;go_in;go_wp2_with fail;refine(q.out _ O).mono ?_;rintro e Z ⟨rfl,o⟩;have y:=O.trans (o.mono O.size);have hB:=y.alloc y.size (.cells #[h.p,h.c,h.m,.slice ao m cap] 124);have L:=o.alloc o.size (.cells #[h.p,h.c,h.m,.slice ao m cap] 124);have r0:=(L.block _ (by simp)).trans (heap_alloc_new w (.cells #[h.p,h.c,h.m] 23));have E:=heap_alloc_new Z (.cells #[h.p,h.c,h.m,.slice ao m cap] 124);go_upto_region 2 with fail;obtain⟨H,hH,F⟩:=hidv w.heap.size;obtain⟨K,hK,G⟩:=hidv Z.heap.size;rw[<-G]at E ⊢;rw[<-F]at r0 ⊢;clear G F o L y;generalize Z.alloc (.cells #[h.p,h.c,h.m,.slice ao m cap] 124)=W at *;have b0:=zac r0;have k0:W.cell? ⟨K,0,.none⟩=some (.int .i64 h.p):=zac E 0;have k1:W.cell? ⟨K,1,.none⟩=some (.int .i64 h.c):=zac E 1;have k2:W.cell? ⟨K,2,.none⟩=some (.int .i64 h.m):=zac E 2;have k3:W.cell? ⟨K,3,.none⟩=some (.slice ao m cap):=zac E 3;clear r0 E;go_wp2_with fail;go_loopw [18] (fun Y wr=>∃ i:Nat,i<=P/\Y= .int .i64 i/\Below W.heap.size W wr) (fun Y _=>P-(intOf Y).toNat);case atStart=>exact⟨0,Nat.zero_le _,rfl,Below.refl _ _⟩
 case round=>
  obtain⟨i,hi,rfl,j⟩:=hrel;have d0:=zai j _ _ _ k0;have d1:=zai j _ _ _ k1;have d2:=zai j _ _ _ k2;have d3:=zai j _ _ _ k3;have n:=hB.trans (j.mono hB.size);by_cases b2:(i:Int)<h.p
  ·have T:i<P:=by have:=R.out;omega
   have r:=D.out i wr n (by omega);rw[S.out i T]at r;replace r:=hd' r;go_wp2_with fail;refine r.out.mono ?_;rintro e w3 ⟨rfl,z⟩;go_wp2;exact⟨⟨i+1,by omega,by go_num,j.trans (z.mono j.size)⟩,by simp[intOf];omega⟩
  have U:i=P:=by have:=R.out;omega
  subst U;go_wp2_with fail;refine(B.out _ n).mono ?_;rintro e w3 ⟨rfl,z⟩;go_wp2;go_ret;exact⟨rfl,n.trans (z.mono n.size)⟩
theorem run_neq_pair(a b:Int)(w:World):(binOp .neq 47 (.agg #[a,b]) (.agg #[a,b])).run Tryz.prog w= .ok (.bool false) w:=by
 obtain⟨r,f,i⟩:=yjm a b a b w;have j:r=true:=by rw[i];simp
 subst j;simp[binOp,f]
def PairAt (W:World) (ao:Option Addr) (L:List Bk):Prop:=∀ k (hk:k < L.length),∃ b off,ao=some ⟨b,off,.none⟩/\b < W.heap.size/\W.cell? ⟨b,off + k * 2,.none⟩=some (.int .i64 (L[k]).a)/\W.cell? ⟨b,off + k * 2 + 1,.none⟩=some (.int .i64 (L[k]).n)
theorem PairAt.below{W W':World}{ao:Option Addr}{L:List Bk}(h:PairAt W ao L)(hb:Below W.heap.size W W'):PairAt W' ao L:=fun k n=>by
 obtain⟨b,f,i,o,j,l⟩:=h k n
 have:=hb.size
 exact⟨b,f,i,by omega,zai hb _ _ _ j,zai hb _ _ _ l⟩
attribute [local go_sem ↓] run_neq_pair

theorem pairs_any(L:List Bk)(n:Nat)(F:Hid (n=L.length))(a1 q:Option Addr)(c1 c2:Nat)(W:World)(t:n<=c1)(y:n<=c2)(D:(c1:Int)<=9223372036854775807)(E:(c2:Int)<=9223372036854775807)(l:PairAt W a1 L)(o:PairAt W q L):
  Calls Tryz.prog 52 #[.slice a1 n c1,.slice q n c2] W fun e w'=>e= .returned (.bool true)/\Below W.heap.size W w':=by
 replace l:=hd' l;replace o:=hd' o;go_in;go_wp2_with fail;go_loopw [5] (fun p wr=>∃ i:Nat,i<=n/\p= .int .i64 i/\Below W.heap.size W wr) (fun p _=>n-(intOf p).toNat);case atStart=>exact⟨0,Nat.zero_le _,rfl,Below.refl _ _⟩
 case round=>
  obtain⟨i,hi,rfl,hb⟩:=hrel;by_cases C:i<n
  ·have r:(i:Int)<(n:Int):=by omega
   have B:(0:Int)<=(i:Int):=by omega
   have J:IntKind.i64.wrap ((i:Int)+1)=(i:Int)+1:=IntWalk.i64_in _ ⟨by omega,by omega⟩;have j:i<L.length:=by have:=F.out;omega
   obtain⟨b,I,rfl,lb,M,N⟩:=l.out.below hb i j;obtain⟨g,H,rfl,lg,O,R⟩:=o.out.below hb i j;generalize (L[i]).a=a at *;generalize (L[i]).n=z at *;go_wp2_with fail;go_quiet (fail);go_wp2_with fail;exact⟨⟨i+1,by omega,by go_num,below_drewN hb _⟩,by simp only[intOf];omega⟩
  have G:¬ (i:Int)<(n:Int):=by omega
  go_wp2_with fail;go_returns;exact⟨rfl,hb⟩
end

end Go.Proofs.YtkbddndcegpllaaGreat

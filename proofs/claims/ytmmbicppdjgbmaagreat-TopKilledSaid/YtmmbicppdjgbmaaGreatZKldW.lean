/- One is killed at any of its steps, and adopted by another: the walk of the law. -/
import Derived.Test.YtmmbicppdjgbmaaGreatZKldQ

import Derived.Test.YtmmbicppdjgbmaaGreatZOpsO

set_option linter.all false
set_option maxHeartbeats 8000000
set_option maxRecDepth 100000
namespace Go.Proofs.YtmmbicppdjgbmaaGreat

open Go.RowKit

attribute [local go_sem ↓] Go.wp_at_zero Go.wp_at_succ

attribute [local go_sem ↓] pR

theorem bl_len{s:Sh}{d:Wd}{n:Nat}(h:AI s d n):(jdOf s d).l.length<=1024:=by
 rw[<-yrw h];unfold Hp.bl;have hb:=h.1.fi.bd;split
 ·have h1:=Hp.yjd (hpOf s d.m) (hpOf s d.m).p.toNat;have h2:(hpOf s d.m).p=s.p:=rfl;rw[h2]at h1 ⊢;omega
 simp
theorem ym8(s:Sh)(xs:List Op3)(v:Value)(at':Int)(b:0<=at'/\at'<=65535)(W:World)(hr:RdS W 3 v xs.length (xs.flatMap Op3.cells)):
  Calls Tryz.prog 16 #[.agg #[s.p,s.c,s.m],v,at'] W fun e w'=>e= .returned (.bool true)/\Below W.heap.size W w':=by
 obtain⟨ao,cap,rfl,fw,ij,_,_⟩:=id hr;obtain⟨n,hn,g2⟩:=hidv xs.length;rw[<-g2]at fw hr ⊢;clear g2;have e5:=hd' (fun i (hi:i<xs.length)=>opAt hn hr hi);clear hr;have el:=hd' (fun Y=>sN Y);have b4:Hid (∀ Y,jK 42 #[.agg #[s.p,s.c,s.m]] Y fun e w'=>e= .returned (.bool (mayB s.p s.c s.m))/\Below Y.heap.size Y w'):=hd' fun Y=>(fI s.p s.c s.m Y).mono fun e w' h=>⟨h.1,by rw[h.2];exact br.alloc lr _⟩;have fn:=(Below.refl W.heap.size W).alloc lr (.cells #[s.p,s.c,s.m] 23);have t0:aA (W.alloc (.cells #[s.p,s.c,s.m] 23)) W.heap.size #[s.p,s.c,s.m] 23:=jA _ _;go_in;go_upto_region 1 with fail;generalize W.alloc (.cells #[s.p,s.c,s.m] 23)=w1 at *;obtain⟨H,hH,f8⟩:=hidv W.heap.size;rw[<-f8]at t0 ⊢;clear f8;have lH:=t0.lt;obtain⟨c0,c1,c2⟩:=ci3 s.p s.c s.m t0.cell;obtain⟨bad,b2⟩:∃ bad:Bool,Hid (bad=true↔n=0\/12<n\/mayB s.p s.c s.m=false\/s.c<2):=⟨decide (n=0\/12<n\/mayB s.p s.c s.m=false\/s.c<2),hd' (by simp)⟩;go_cut [42] from 25 to 42 (fun i0 wx=>i0= .bool bad/\Below w1.heap.size w1 wx);case first=>
  have bw:(n=0\/12<n\/mayB s.p s.c s.m=false\/s.c<2)->bad=true:=b2.out.2
  have ep:¬ (n=0\/12<n\/mayB s.p s.c s.m=false\/s.c<2)->bad=false:=fun h=>by
   cases hb:bad with
   |false=>rfl
   |true=>exact absurd (b2.out.1 hb) h
  replace bw:=hd' bw;replace ep:=hd' ep;have gi:=hd' t0;clear t0;by_cases q1:n=0
  ·obtain rfl:=bw (.inl q1);have f1:((n:Int)==0)=true:=by rw[q1];rfl
   clear q1;go_wp2_with fail;go_meet;exact⟨rfl,Below.refl _ _⟩
  have f1:((n:Int)==0)=false:=by simpa using q1
  by_cases q2:12<n
  ·obtain rfl:=bw (.inr (.inl q2));have hs:(12:Int)<(n:Int):=by omega
   clear q1 q2;go_wp2_with fail;go_meet;exact⟨rfl,Below.refl _ _⟩
  have hs:¬ (12:Int)<(n:Int):=by omega
  by_cases q3:mayB s.p s.c s.m=false
  ·obtain rfl:=bw (.inr (.inr (.inl q3)));rw[q3]at b4;clear q1 q2 q3;go_wp2_with (first|(go_at_call 42;refine(b4 _).mono ?_;rintro r I ⟨rfl,b1⟩));go_meet;exact⟨rfl,b1⟩
  have f2:mayB s.p s.c s.m=true:=by cases h:mayB s.p s.c s.m with|true=>rfl|false=>exact absurd h q3
  rw[f2]at b4;by_cases q4:s.c<2
  ·obtain rfl:=bw (.inr (.inr (.inr q4)));clear q1 q2 q3 f2;go_wp2_with (first|(go_at_call 42;refine(b4 _).mono ?_;rintro r I ⟨rfl,b1⟩;have d1:I.cell? ⟨H,1,.none⟩=some (.int .i64 s.c):=(gi.out.below b1).cell 1));go_meet;exact⟨rfl,b1⟩
  obtain rfl:=ep (fun h=>by rcases h with h|h|h|h;exact q1 h;exact q2 h;exact q3 h;exact q4 h);have j0:decide (s.c<2)=false:=jF q4;clear q1 q2 q3 f2 q4;go_wp2_with (first|(go_at_call 42;refine(b4 _).mono ?_;rintro r I ⟨rfl,b1⟩;have d1:I.cell? ⟨H,1,.none⟩=some (.int .i64 s.c):=(gi.out.below b1).cell 1));go_meet;exact⟨rfl,b1⟩
 obtain⟨rfl,b1⟩:=hcut;obtain⟨I,rfl⟩:∃ V:World,V=wc:=⟨_,rfl⟩;have t2:=t0.below b1;have c9:=zA fn b1;clear t0 fn b1 c0 c1 c2 lH b4;cases bad with
 |true=>clear b2 e5;go_wp2_with (first|(go_at_call 15;refine(el _).mono ?_;rintro r w3 ⟨rfl,b9⟩));go_returns;exact⟨rfl,zA c9 b9⟩
 |false=>
 have cp:¬ (n=0\/12<n\/mayB s.p s.c s.m=false\/s.c<2):=fun h=>by cases b2.out.2 h
 have is:1<=n:=by omega
 have i5:n<=12:=by omega
 have fv:2<=s.c:=by omega
 have bj:mayB s.p s.c s.m=true:=by cases h:mayB s.p s.c s.m with|true=>rfl|false=>exact absurd (.inr (.inr (.inl h))) cp
 clear cp b2;have lH:=t2.lt;obtain⟨c0,c1,c2⟩:=ci3 s.p s.c s.m t2.cell;have ic:=LA.1 bj;have gs:=WR bj;have fu:=hd' (QN (W0:=W) (Kp:=kp1 H (.cells #[s.p,s.c,s.m] 23 (0,0))) bj c9 (fun k v hk=>by obtain⟨rfl,rfl⟩:=hk;exact t2));go_upto_region 6 with(first|(go_at_call 8;(with_reducible refine fu.out.mono ?_);rintro r w3 ⟨g,vv,rfl,fc,b9⟩));generalize fb:kp1 H (.cells #[s.p,s.c,s.m] 23 (0,0))=Kp at *;have bz:Hid (∀ (X:World) (d:Wd),KA W g s Kp d X->X.cell? ⟨H,0,.none⟩=some (.int .i64 s.p)/\X.cell? ⟨H,1,.none⟩=some (.int .i64 s.c)/\X.cell? ⟨H,2,.none⟩=some (.int .i64 s.m)/\H<X.heap.size):=hd' fun X d L=>by have h1:=L.keep (k:=H) (v:= .cells #[s.p,s.c,s.m] 23 (0,0)) (by rw[<-fb];exact⟨rfl,rfl⟩);exact⟨iA h1 0,iA h1 1,iA h1 2,(jE h1)⟩
 have c8:=oK bj;have bg:=kC c8 ⟨1,0,0,0,0,0⟩;have ea:=hd' (bG fc c8.1 (by omega) 1 0 0 0 0 0);have eb:=hd' fun X (L:KA W g s Kp ((uB s).act s ⟨1,0,0,0,0,0⟩).1 X)=>bG L bg.1 (by omega) 1 1 0 0 0 0;have f9:=kd_0 bj fv;clear fb c0 c1 c2 t2 c9 b9 lH fu c8 bg fc;go_upto_region 8 with(first|(go_at_call 9;(with_reducible refine ea.out.mono ?_);rintro r w7 ⟨rfl,E⟩)|(go_at_call 9;(with_reducible refine(eb _ E).mono ?_);rintro r w8 ⟨rfl,fd⟩));clear ea eb E;generalize (((uB s).act s ⟨1,0,0,0,0,0⟩).1.act s ⟨1,1,0,0,0,0⟩).1=d0 at *
 have ex:=hd' (fun i=>fS (yqn f9 (xs.take i)) (show 2+(xs.take i).length*(1+WA s)<=100000 by
  have:(xs.take i).length*(1+WA s)<=12*8001:=Nat.mul_le_mul (by rw[List.length_take,<- hn];omega) (by omega)
  omega))
 have gw:Hid (opsL s d0 (xs.take 0)=d0):=hd' rfl;clear f9;obtain⟨nl,h8,bu⟩:∃ nl,Hid (n=nl+1)/\n=nl+1:=⟨n-1,hd' (by omega),by omega⟩;have iy:IntKind.i64.wrap ((n:Int)-1)=(nl:Int):=by rw[IntWalk.i64_in _ ⟨by omega,by omega⟩];omega
 clear bu;go_wp2;go_loopw [9] (fun v9 wr=>∃ i:Nat,i<=nl/\v9= .int .i64 i/\KA W g s Kp (opsL s d0 (xs.take i)) wr) (fun v9 _=>nl-(intOf v9).toNat);case atStart=>exact⟨0,Nat.zero_le _,rfl,by rw[gw];exact fd⟩
 case round=>
  clear fd;obtain⟨i,ip,rfl,hL⟩:=hrel;have G:=ex i;have ik:(0:Int)<=(i:Int):=by omega
  have bu:=h8.out;have j3:IntKind.i64.wrap ((i:Int)+1)=(i:Int)+1:=IntWalk.i64_in _ ⟨by omega,by omega⟩;have ew:i<xs.length:=by rw[<-hn];omega
  by_cases hi:i<nl
  ·have im:(i:Int)+1<(n:Int):=by omega
   have i3:(i:Int)<(n:Int):=by omega
   clear bu;have b:=ynk (s:=s) (d:=d0) ew;obtain⟨gb,J,rfl,z⟩:=e5 i ew;obtain⟨hq,zl⟩:=z wr hL.ab;have es:Hid (∀ X,jW wr X->(∀ k,k<3->X.cell? ⟨gb,J+i*3+k,.none⟩=xs[i].cells[k]?)/\gb<X.heap.size):=hd' fun X L=>z X (hL.below L).ab;generalize iz:xs[i]=xc at *;obtain⟨B,R,cn⟩:=xc;have z0:wr.cell? ⟨gb,J+i*3,.none⟩=some (.int .i64 B):=hq 0 (by omega);unfold opS at b;dsimp only at b;by_cases hk:B<1\/4<B
   ·rw[jP hk]at b;replace b:=hd' b;have bp:Hid (∃ j:Nat,j<=nl/\Value.int .i64 ((i:Int)+1)= .int .i64 j/\KA W g s Kp (opsL s d0 (xs.take j)) wr):=hd' ⟨i+1,by omega,by go_num,by rw[b];exact hL⟩;clear b hL G hq z es;by_cases e3:B<1
    ·clear hk;go_wp2_with fail;exact⟨bp.out,by simp only[intOf];omega⟩
    have fz:4<B:=by rcases hk with h|h;exact absurd h e3;exact h
    clear hk;go_wp2_with fail;exact⟨bp.out,by simp only[intOf];omega⟩
   rw[jN hk]at b;replace b:=hd' b;have e3:¬ B<1:=fun e=>hk (.inl e);have fz:¬ 4<B:=fun e=>hk (.inr e);generalize opsL s d0 (xs.take i)=d at *;have fl:=QI (o:=⟨B,R,cn⟩) G.ai.1 G.r0 ⟨show (1:Int)<=B by omega,show B<=4 by omega⟩;have b8:=hd' fun X (L:Below wr.heap.size wr X)=>DR (hL.below L) G.ai.1 (by omega) 0 B R cn fl;have bp:Hid (∀ X,KA W g s Kp (askW s d 0 ⟨B,R,cn⟩) X->∃ j:Nat,j<=nl/\Value.int .i64 ((i:Int)+1)= .int .i64 j/\KA W g s Kp (opsL s d0 (xs.take j)) X):=hd' fun X L=>⟨i+1,by omega,by go_num,by rw[b];exact L⟩;have fg:Hid (∀ X,jW wr X->X.cell? ⟨H,0,.none⟩=some (.int .i64 s.p)/\X.cell? ⟨H,1,.none⟩=some (.int .i64 s.c)/\X.cell? ⟨H,2,.none⟩=some (.int .i64 s.m)/\X.cell? ⟨gb,J+i*3,.none⟩=some (.int .i64 B)/\X.cell? ⟨gb,J+i*3+1,.none⟩=some (.int .i64 R)/\X.cell? ⟨gb,J+i*3+2,.none⟩=some (.int .i64 cn)/\H<X.heap.size/\gb<X.heap.size):=hd' fun X L=>by obtain⟨k0,k1,k2,k3⟩:=bz _ _ (hL.below L);obtain⟨e1,e2⟩:=es X L;exact⟨k0,k1,k2,e1 0 (by omega),e1 1 (by omega),e1 2 (by omega),k3,e2⟩
   have gx:Hid (∀ X,KA W g s Kp (askW s d 0 ⟨B,R,cn⟩) X->X.cell? ⟨H,0,.none⟩=some (.int .i64 s.p)/\X.cell? ⟨H,1,.none⟩=some (.int .i64 s.c)/\X.cell? ⟨H,2,.none⟩=some (.int .i64 s.m)/\X.cell? ⟨gb,J+i*3,.none⟩=some (.int .i64 B)/\X.cell? ⟨gb,J+i*3+1,.none⟩=some (.int .i64 R)/\X.cell? ⟨gb,J+i*3+2,.none⟩=some (.int .i64 cn)/\H<X.heap.size/\gb<X.heap.size):=hd' fun X L=>by obtain⟨k0,k1,k2,k3⟩:=bz _ _ L;obtain⟨e1,e2⟩:=z X L.ab;exact⟨k0,k1,k2,e1 0 (by omega),e1 1 (by omega),e1 2 (by omega),k3,e2⟩
   have y:Hid (Below wr.heap.size wr wr.drew):=hd' br.drew;clear b hL G hq z es hk fl;go_upto_region 12 with fail;obtain⟨c0,c1,c2,z0,z1,z2,lH,lG⟩:=fg _ br
   go_region_held3 (fun X=>X.cell? ⟨H,0,.none⟩=some (.int .i64 s.p)/\X.cell? ⟨H,1,.none⟩=some (.int .i64 s.c)/\X.cell? ⟨H,2,.none⟩=some (.int .i64 s.m)/\X.cell? ⟨gb,J+i*3,.none⟩=some (.int .i64 B)/\X.cell? ⟨gb,J+i*3+1,.none⟩=some (.int .i64 R)/\X.cell? ⟨gb,J+i*3+2,.none⟩=some (.int .i64 cn)/\H<X.heap.size/\gb<X.heap.size)
    (first|exact fg _ y.out|exact gx _ E)
    (first|(go_at_call 21;refine(b8 _ y.out).mono ?_;rintro r w7 ⟨rfl,E⟩))
   go_wp2_with fail;exact⟨bp _ E,by simp only[intOf];omega⟩
  obtain rfl:i=nl:=by omega
  have g3:¬ (i:Int)+1<(n:Int):=by omega
  obtain⟨V,rfl⟩:∃ V:World,V=wr:=⟨_,rfl⟩;obtain⟨c0,c1,c2,lH⟩:=bz _ _ hL;have il:(i:Int)<(n:Int):=by omega
  clear bu;go_upto_region 15 with fail;generalize opsL s d0 (xs.take i)=d at *;have bk:Hid (∀ Z,jW V Z->jK 24 #[some g] Z fun e w'=>∃ v',e= .returned v'/\Below Z.heap.size Z w'/\RdZ .u64 w' v' d.m.ws):=hd' fun Z hZ=>ON (hL.below hZ);have fp:=bl_len G.ai;obtain⟨nb,cp,bs⟩:∃ nb,Hid ((jdOf s d).l.length=nb)/\(jdOf s d).l.length=nb:=⟨_,hd' rfl,rfl⟩;have cd:Hid (∀ Z v,RdZ .u64 Z v d.m.ws->jK 43 #[.agg #[s.p,s.c,s.m],v] Z fun e w'=>∃ ao cap,e= .returned (.slice ao nb cap)/\nb<=cap/\(cap:Int)<=9223372036854775807/\Below Z.heap.size Z w'):=hd' fun Z v hv=>(BR G.ai v Z hv).mono fun e w' ⟨h1,ao,cap,h2,h3,h4,_⟩=>⟨ao,cap,by rw[<-bs];exact h2,by rw[<-bs];exact h3,h4,h1⟩;rw[bs]at fp;clear bs;have y:Hid (Below V.heap.size V V.drew):=hd' br.drew;have hK:Hid (∀ Z,jW V Z->Z.cell? ⟨H,0,.none⟩=some (.int .i64 s.p)/\Z.cell? ⟨H,1,.none⟩=some (.int .i64 s.c)/\Z.cell? ⟨H,2,.none⟩=some (.int .i64 s.m)/\H<Z.heap.size):=hd' fun Z hZ=>bz _ _ (hL.below hZ)
  go_region_held3 (fun X=>X.cell? ⟨H,0,.none⟩=some (.int .i64 s.p)/\X.cell? ⟨H,1,.none⟩=some (.int .i64 s.c)/\X.cell? ⟨H,2,.none⟩=some (.int .i64 s.m)/\H<X.heap.size)
   (first|exact hK _ y.out|exact hK _ b7|exact hK _ C)
   (first|(go_at_call 24;(with_reducible refine(bk _ y.out).mono ?_);rintro r wA ⟨vA,rfl,b5,b6⟩;have C:=y.out.trans (b5.mono y.out.size))|(go_at_call 43;refine(cd _ _ b6).mono ?_;rintro r wB ⟨ab,cb,rfl,ii,i2,cz⟩;have b7:=C.trans (cz.mono C.size)))
  have eg:=hL.below b7;clear bk cd hK y b5 b6 C cz b7 hL c0 c1 c2 lH;obtain⟨gb,J,rfl,z⟩:=e5 i ew;obtain⟨hq,zl⟩:=z wB eg.ab;clear e5 z;generalize xs[i]=xc at *;obtain⟨B,R,cn⟩:=xc;have z0:wB.cell? ⟨gb,J+i*3,.none⟩=some (.int .i64 B):=hq 0 (by omega);have z1:wB.cell? ⟨gb,J+i*3+1,.none⟩=some (.int .i64 R):=hq 1 (by omega);have z2:wB.cell? ⟨gb,J+i*3+2,.none⟩=some (.int .i64 cn):=hq 2 (by omega);clear hq;have ga:=(Below.refl wB.heap.size wB).alloc lr (.cells #[B,R,cn] 34);have tA:=jA wB (.cells #[B,R,cn] 34);obtain⟨P,hP,ei⟩:=hidv wB.heap.size;go_upto_region 17 with fail;generalize wB.alloc (.cells #[B,R,cn] 34)=wP at *;have eh:=eg.add (k:=P) ga (by omega) (by rw[ei];exact tA);rw[<-ei]at tA ⊢;clear ei ga z0 z1 z2 zl eg;have bi:Hid (∀ (X:World) (d:Wd),KA W g s (kpM Kp P (.cells #[B,R,cn] 34 (0,0))) d X->(X.cell? ⟨H,0,.none⟩=some (.int .i64 s.p)/\X.cell? ⟨H,1,.none⟩=some (.int .i64 s.c)/\X.cell? ⟨H,2,.none⟩=some (.int .i64 s.m)/\H<X.heap.size)/\aA X P #[B,R,cn] 34):=hd' fun X d L=>⟨bz X d (L.imp fun k v h=>.inl h),L.keep (.inr ⟨rfl,rfl⟩)⟩;generalize kpM Kp P (.cells #[B,R,cn] 34 (0,0))=Kq at *;have tP:aA wP P #[B,R,cn] 34:=tA;obtain⟨z0,z1,z2⟩:=ci3 B R cn tP.cell;have lP:=tP.lt;clear tA tP bz;have bc:=hd' (bG eh G.ai.1 (by omega) 2 0 B R cn 0);by_cases h0:¬ (d.act s ⟨2,0,B,R,cn,0⟩).2=0
  ·have b2:B<1\/4<B:=by refine Classical.byContradiction fun hb=>h0 ?_;exact QI (o:=⟨B,R,cn⟩) G.ai.1 G.r0 ⟨show (1:Int)<=B by omega,show B<=4 by omega⟩
   have f5:((d.act s ⟨2,0,B,R,cn,0⟩).2 !=0)=true:=by simpa using h0
   generalize (d.act s ⟨2,0,B,R,cn,0⟩).2=er at *;generalize (d.act s ⟨2,0,B,R,cn,0⟩).1=d1 at *;clear G ex h0 eh;have h7:=hd' fun X (L:KA W g s Kq d1 X)=>(bi X d1 L).2;clear bi;rcases b2 with e3|fz;case' inr=>have e3:¬ B<1:=by omega
   all_goals go_wp2_with (first|(go_at_call 9;(with_reducible refine bc.out.mono ?_);rintro r w7 ⟨rfl,E⟩)|(go_at_call 15;refine(el _).mono ?_;rintro r w8 ⟨rfl,y⟩;have k0:w8.cell? ⟨P,0,.none⟩=some (.int .i64 B):=(h7 _ (E.below y)).cell 0));go_returns;exact⟨rfl,(E.below y).ab⟩
  replace h0:=Decidable.not_not.1 h0;have fa:=hd' (fun j=>yrb fv G h0 j);have bg:=kC G.ai ⟨2,0,B,R,cn,0⟩;have ej:=yq1 G.ai h0;rw[cp]at ej;obtain⟨_,_,ec⟩:=NI (x:=⟨2,0,B,R,cn,0⟩) G.ai.1 rfl h0;have f5:((d.act s ⟨2,0,B,R,cn,0⟩).2 !=0)=false:=by simpa using h0
  clear G ex h0 eh cp;generalize (d.act s ⟨2,0,B,R,cn,0⟩).2=er at *;generalize (d.act s ⟨2,0,B,R,cn,0⟩).1=d1 at *;have ev:=hd' (fun Y=>nN s bj Y);obtain⟨M,gu,e6⟩:∃ M,Hid (WA s=M)/\WA s=M:=⟨_,hd' rfl,rfl⟩;rw[e6]at ev gs;clear e6;go_upto_region 19 with(first|(go_at_call 9;(with_reducible refine bc.out.mono ?_);rintro r w7 ⟨rfl,E⟩));clear f5 bc z0 z1 z2 lP;obtain⟨⟨c0,c1,c2,lH⟩,_⟩:=bi _ _ E
  obtain⟨F,hF⟩:∃ F:Nat,Hid (at'.tmod ((M:Int)+1)=(F:Int)/\F<=M):=⟨at'.toNat%(M+1),hd' ⟨by
   have e1:((at'.toNat%(M+1):Nat):Int)=at'%((M:Int)+1):=by rw[Int.natCast_emod,Int.toNat_of_nonneg b.1];rfl
   rw[Int.tmod_eq_emod_of_nonneg b.1]
   exact e1.symm,Nat.le_of_lt_succ (Nat.mod_lt _ (by omega))⟩⟩
  have gp:=hF.out.1;have i8:=hF.out.2;have wM:IntKind.i64.wrap ((M:Int)+1)=(M:Int)+1:=IntWalk.i64_in _ ⟨by omega,by omega⟩;have wF:IntKind.i64.wrap (F:Int)=(F:Int):=IntWalk.i64_in _ ⟨by omega,by omega⟩;have gr:((M:Int)+1==0)=false:=by simpa using(show ¬ (M:Int)+1=0 by omega)
  go_upto_region 20 with(first|(go_at_call 20;refine(ev _).mono ?_;rintro r w9 ⟨rfl,ba⟩));have bf:=E.below ba;clear E ba c0 c1 c2 lH gp wM wF gr ev b;have fm:Hid (∀ k,∃ kc,(d1.goN s 0 k).kl 0=some kc):=hd' fun k=>by obtain⟨k',e,_⟩:=MI bg.1 ec k;exact⟨k',e⟩
  have f7:Hid (d1.goN s 0 0=d1):=hd' rfl;have fk:=hd' fun k=>QG (c:=0) bg k;have fi:=hd' fun k=>yrd bg ej k;have i9:WA s<=8000:=by have:=gu.out;omega
  clear ej ec bg;go_wp2;go_loopw [15] (fun cv wr=>∃ k:Nat,k<=F/\cv= .int .i64 k/\KA W g s Kq (d1.goN s 0 k) wr) (fun cv _=>F-(intOf cv).toNat);case atStart=>exact⟨0,Nat.zero_le _,rfl,by rw[f7];exact bf⟩
  case round=>
   clear bf
   obtain⟨k,hk,rfl,hL⟩:=hrel
   obtain⟨kc,cl⟩:=fm k
   have U:=fk k
   obtain⟨q,ch,cj⟩:=ym4 hL U.1 cl
   have iq:(0:Int)<=(k:Int):=by omega
   have j5:IntKind.i64.wrap ((k:Int)+1)=(k:Int)+1:=IntWalk.i64_in _ ⟨by omega,by omega⟩
   replace ch:=hd' ch
   obtain⟨go,bx⟩:∃ go:Bool,Hid (go=true↔(k:Int)<(F:Int)/\kc.rests=false):=⟨decide ((k:Int)<(F:Int)/\kc.rests=false),hd' (by simp)⟩
   go_upto_region 21 with fail
   obtain⟨Y,rfl⟩:∃ V:World,V=wr:=⟨_,rfl⟩
   go_cut [134] from 121 to 134 (fun gj wx=>gj= .bool go/\Below Y.heap.size Y wx)
   case first=>
    by_cases q1:(k:Int)<(F:Int)
    ·rcases jB kc.rests with hr|hr
     case' inl=>obtain rfl:go=false:=by cases go with|false=>rfl|true=>exact absurd (bx.out.1 rfl).2 (by rw[hr];decide)
     case' inr=>obtain rfl:go=true:=bx.out.2 ⟨q1,hr⟩
     all_goals
      rw[hr]at cj
      replace cj:=hd' cj
      go_wp2_with (first|(go_at_call 44;(with_reducible refine(ch _ bh).mono ?_);rintro r w7 ⟨rfl,cc⟩;have e8:=bh.trans (cc.mono bh.size))|(go_at_call 44;(with_reducible refine(ch _ br).mono ?_);rintro r w6 ⟨rfl,bh⟩)|(go_at_call 45;(with_reducible refine(cj _ e8).mono ?_);rintro r w8 ⟨rfl,hh⟩;obtain rfl:=hh.symm))
      go_meet
      exact⟨rfl,e8⟩
    ·obtain rfl:go=false:=by cases go with|false=>rfl|true=>exact absurd (bx.out.1 rfl).1 q1
     go_wp2_with fail
     go_meet
     exact⟨rfl,Below.refl _ _⟩
   obtain⟨rfl,fs⟩:=hcut
   obtain⟨Y2,rfl⟩:∃ V:World,V=wc:=⟨_,rfl⟩
   have c7:=hL.below fs
   clear ch cj hL fs
   cases go with
   |true=>
    obtain⟨ir,e4⟩:=bx.out.1 rfl
    have fx:kc.job≠none:=fun e=>by unfold Kl.rests at e4;rw[e]at e4;cases e4
    have f0:=iJ (s:=s) cl fx
    have bc:=hd' (bG c7 U.1 (by omega) 3 0 0 0 0 0)
    replace f0:Hid (∀ X,KA W g s Kq ((d1.goN s 0 k).act s ⟨3,0,0,0,0,0⟩).1 X->KA W g s Kq (d1.goN s 0 (k+1)) X):=hd' fun X L=>by
     show KA W g s Kq ((d1.goN s 0 k).goS s 0) X
     rw[f0];exact L
    clear U cl fx e4 c7 bx
    go_wp2_with (first|(go_at_call 9;(with_reducible refine bc.out.mono ?_);rintro r w9 ⟨rfl,bf⟩))
    exact⟨⟨k+1,by omega,by go_num,f0 _ bf⟩,by simp only[intOf];omega⟩
   |false=>
    have ek:=fi k
    have gq:=fa k
    have ey:=yr2 U cl
    clear bx fi fa fk fm cl f7
    generalize d1.goN s 0 k=d2 at *
    have g8:d2.tr.length<=100000000:=by have:=U.1.tr;omega
    have cs:=hd' (kK c7 g8)
    go_upto_region 25 with(first|(go_at_call 12;(with_reducible refine cs.out.mono ?_);rintro r w9 ⟨v9,rfl,ba,cu⟩))
    obtain⟨ta,tc,rfl,hf,i6,ed⟩:=cu.nth
    obtain⟨tb,f3,rfl,ix,z⟩:=ed ey
    have bf:=c7.below ba
    clear cs c7 ba cu ed
    obtain⟨T,hT,fh⟩:=hidv d2.tr.length
    rw[<-fh]at hf g8 ⊢
    obtain⟨tl,g9⟩:∃ tl,T=tl+1:=⟨T-1,by have:=List.length_pos_iff.2 ey;omega⟩
    have hm:IntKind.i64.wrap ((T:Int)-1)=(tl:Int):=by rw[IntWalk.i64_in _ ⟨by omega,by omega⟩];omega
    have cr:tl<d2.tr.length:=by omega
    have iw:(tl:Int)<(T:Int):=by omega
    have i7:(0:Int)<=(tl:Int):=by omega
    have cm:∀ l e,d2.tr=l++[e]->d2.tr[tl]=e:=fun l e h=>by
     have hl:tl=l.length:=by
      have:=congrArg List.length h
      rw[List.length_append,List.length_singleton]at this
      omega
     subst hl
     simp[h]
    have e0:w9.cell? ⟨tb,f3+tl*8,.none⟩=some (.int .i64 (d2.tr[tl]).k):=z tl cr 0 (by omega)
    have e1:w9.cell? ⟨tb,f3+tl*8+1,.none⟩=some (.int .i64 (d2.tr[tl]).c):=z tl cr 1 (by omega)
    have b3:0<(tgL d2.tr).1->(d2.tr[tl]).k=5/\(d2.tr[tl]).c=0:=fun h=>by
     obtain⟨l,e,h1,h2,h3⟩:=ek.tk h
     rw[cm l e h1];exact⟨h2,h3⟩
    generalize d2.tr[tl]=le at *
    obtain⟨an,cy⟩:∃ an:Bool,Hid (an=true↔le.k=5/\le.c=0):=⟨decide (le.k=5/\le.c=0),hd' (by simp)⟩
    have bn:Hid (∀ i (hi:i<d2.tr.length),w9.cell? ⟨tb,f3+i*8,.none⟩=some (.int .i64 (d2.tr[i]).k)):=hd' fun i hi=>z i hi 0 (by omega)
    clear z cm ey fh g9 cr
    go_cut [17] from 142 to 159 (fun hw wx=>hw= .bool an/\wx=w9)
    case first=>
     by_cases q1:le.k=5
     ·have f1:(le.k==5)=true:=by simpa using q1
      have q2:(le.c==0)=an:=by
       have h1:=cy.out
       cases an with
       |true=>simpa using(h1.1 rfl).2
       |false=>simpa using fun e=>absurd (h1.2 ⟨q1,e⟩) (by decide)
      clear q1 b3
      go_wp2_with fail
      go_meet
      exact⟨rfl,rfl⟩
     ·have f1:(le.k==5)=false:=by simpa using q1
      obtain rfl:an=false:=by cases an with|false=>rfl|true=>exact absurd (cy.out.1 rfl).1 q1
      clear q1 b3
      go_wp2_with fail
      go_meet
      exact⟨rfl,rfl⟩
    obtain⟨rfl,gc⟩:=hcut
    obtain rfl:=gc.symm
    clear gc e0 e1 hm
    replace b3:Hid (0<(tgL d2.tr).1->an=true):=hd' fun h=>cy.out.2 (b3 h)
    clear cy
    have e9:=hd' fun i=>yro (d2.tr.take i)
    have g0:=hd' fun i=>show (d2.tr.take i).length<=100000000 by rw[List.length_take,<- hT];omega
    have g7:=hd' fun i (hi:i<d2.tr.length)=>yo5 hi
    have e7:Hid (d2.tr.take T=d2.tr):=hd' (by rw[hT];exact List.take_length)
    have ez:Hid (tgL (d2.tr.take 0)=(0,0)):=hd' rfl
    go_upto_region 27 with fail
    go_wp2
    go_loopw [18,19,20] (fun hx hy f4 wr=>∃ i:Nat,i<=T/\f4= .int .i64 i/\hx= .int .i64 (tgL (d2.tr.take i)).1/\hy= .int .i64 (tgL (d2.tr.take i)).2/\wr=w9) (fun _ _ f4 _=>T-(intOf f4).toNat)
    case atStart=>exact⟨0,Nat.zero_le _,rfl,by rw[ez],by rw[ez],rfl⟩
    case round=>
     obtain⟨j,hj,rfl,rfl,rfl,gd⟩:=hrel
     obtain rfl:=gd.symm
     clear gd
     have h6:(0:Int)<=(j:Int):=by omega
     have bb:=e9 j
     have c4:=g0 j
     by_cases g1:j<T
     ·have i4:(j:Int)<(T:Int):=by omega
      have j4:IntKind.i64.wrap ((j:Int)+1)=(j:Int)+1:=IntWalk.i64_in _ ⟨by omega,by omega⟩
      have fy:j<d2.tr.length:=by rw[<-hT];exact g1
      have x0:=bn j fy
      have b:=g7 j fy
      generalize d2.tr[j]=xe at *
      generalize tgL (d2.tr.take j)=pp at *
      obtain⟨p1,p2⟩:=pp
      dsimp only at bb
      have j6:=wrp (p1+1)
      have j7:=wrp (p2+1)
      unfold tgS at b
      generalize xe.k=xk at *
      by_cases h2:xk=2
      ·subst h2
       rw[jP rfl]at b
       replace b:=hd' b
       clear bb c4
       go_wp2_with fail
       exact⟨⟨j+1,by omega,by go_num,by rw[b],by rw[b],trivial⟩,by simp only[intOf];omega⟩
      rw[jN h2]at b
      by_cases h3:xk=3
      ·subst h3
       rw[jP rfl]at b
       replace b:=hd' b
       clear bb c4 h2
       go_wp2_with fail
       exact⟨⟨j+1,by omega,by go_num,by rw[b],by rw[b],trivial⟩,by simp only[intOf];omega⟩
      rw[jN h3]at b
      by_cases h4:xk=4
      ·subst h4
       rw[jP rfl]at b
       replace b:=hd' b
       clear bb c4 h2 h3
       go_wp2_with fail
       exact⟨⟨j+1,by omega,by go_num,by rw[b],by rw[b],trivial⟩,by simp only[intOf];omega⟩
      rw[jN h4]at b
      replace b:=hd' b
      have k2:(xk==2)=false:=by simpa using h2
      have k3:(xk==3)=false:=by simpa using h3
      have k4:(xk==4)=false:=by simpa using h4
      clear bb c4 h2 h3 h4
      go_wp2_with fail
      exact⟨⟨j+1,by omega,by go_num,by rw[b],by rw[b],trivial⟩,by simp only[intOf];omega⟩
     ·obtain rfl:j=T:=by omega
      have g3:¬ (j:Int)<(j:Int):=by omega
      have cg:=ek.bl
      rw[e7]at bb c4 ⊢
      clear e9 g0 g7 ez e7 bn ek
      generalize tgL d2.tr=pp at *
      obtain⟨tk,gv⟩:=pp
      dsimp only at bb cg b3 ⊢
      obtain⟨bm,gh,gg,⟨σ,kR,kG,kB⟩,gf⟩:=gq
      rw[<-gf]at cg
      have fj:=kC U ⟨4,0,0,0,0,0⟩
      have bc:=hd' (bG bf U.1 (by omega) 4 0 0 0 0 0)
      have b8:=hd' fun X L=>DR (W:=X) (Kp:=Kq) (W0:=W) (g:=g) L fj.1 (by omega) 1 4 0 0 gh
      rw[gg]at b8
      clear gg gh gf U fj bf
      generalize askW s (d2.act s ⟨4,0,0,0,0,0⟩).1 1 ⟨4,0,0⟩=dE at *
      generalize (d2.act s ⟨4,0,0,0,0,0⟩).1=d3 at *
      go_upto_region 37 with(first|(go_at_call 9;(with_reducible refine bc.out.mono ?_);rintro r w7 ⟨rfl,E⟩))
      obtain⟨⟨c0,c1,c2,lH⟩,_⟩:=bi _ _ E
      go_upto_region 38 with(first|(go_at_call 21;refine(b8 _ E).mono ?_;rintro r V2 ⟨rfl,bv⟩))
      clear bc b8 E c0 c1 c2 lH
      have bk:Hid (∀ Z,jW V2 Z->jK 24 #[some g] Z fun e w'=>∃ v',e= .returned v'/\Below Z.heap.size Z w'/\RdZ .u64 w' v' dE.m.ws):=hd' fun Z hZ=>ON (bv.below hZ)
      have c5:Hid (∃ f t:Int,∀ v X,RdZ .u64 X v dE.m.ws->jK 41 #[.agg #[s.p,s.c,s.m],v] X fun e w'=>e= .returned (.agg #[f,t,.int .i64 0,.int .i64 0])/\Below X.heap.size X w'):=hd' ⟨(hpOf s dE.m).count.f,(hpOf s dE.m).count.t,fun v X hv=>by
       have h1:=yQ (hpOf s dE.m) v X hv bm.1.fit
       obtain⟨q1,q2⟩:=yo2 kR kG kB
       rw[q1,q2]at h1
       exact h1⟩
      have g6:Hid (∀ v X,RdZ .u64 X v dE.m.ws->jK 23 #[.agg #[s.p,s.c,s.m],v] X fun e w'=>e= .returned (.bool true)/\Below X.heap.size X w'):=hd' fun v X hv=>XR (hpOf s dE.m) v X hv bm.1.fit (SN kR kG) (rS kR kG)
      have fq:=bl_len bm
      obtain⟨nE,iu,bq⟩:∃ nE,Hid ((jdOf s dE).l.length=nE)/\(jdOf s dE).l.length=nE:=⟨_,hd' rfl,rfl⟩
      have cd:Hid (∀ Z v,RdZ .u64 Z v dE.m.ws->jK 43 #[.agg #[s.p,s.c,s.m],v] Z fun e w'=>∃ ao cap,e= .returned (.slice ao nE cap)/\nE<=cap/\(cap:Int)<=9223372036854775807/\Below Z.heap.size Z w'):=hd' fun Z v hv=>(BR bm v Z hv).mono fun e w' ⟨h1,ao,cap,h2,h3,h4,_⟩=>⟨ao,cap,by rw[<-bq];exact h2,by rw[<-bq];exact h3,h4,h1⟩
      rw[bq]at cg fq
      clear bq
      have cq:dE.tr.length<=100000000:=by have:=bm.1.tr;omega
      have cs:Hid (∀ Z,jW V2 Z->jK 12 #[some g] Z fun e w'=>∃ v',e= .returned v'/\Below Z.heap.size Z w'/\RdE w' v' dE.tr):=hd' fun Z hZ=>kK (bv.below hZ) cq
      have g4:Hid (∀ v X,RdE X v dE.tr->jK 11 #[.agg #[s.p,s.c,s.m],v] X fun e w'=>e= .returned (.agg #[.int .i64 (-1),.int .i64 0])/\Below X.heap.size X w'):=hd' fun v X hv=>CN bj v dE.tr X hv cq (yG bm)
      have hE:=hd' fun X (hb:Below V2.heap.size V2 X)=>(bv.below hb).ab
      have hK:Hid (∀ Z,jW V2 Z->Z.cell? ⟨H,0,.none⟩=some (.int .i64 s.p)/\Z.cell? ⟨H,1,.none⟩=some (.int .i64 s.c)/\Z.cell? ⟨H,2,.none⟩=some (.int .i64 s.m)):=hd' fun Z hZ=>by
       obtain⟨⟨k0,k1,k2,_⟩,_⟩:=bi _ _ (bv.below hZ)
       exact⟨k0,k1,k2⟩
      have lH:=(bi _ _ bv).1.2.2.2
      obtain⟨c0,c1,c2⟩:=hK _ br
      obtain⟨cf,ct,c5⟩:=c5.out
      replace c5:=hd' c5
      have j1:IntKind.i64.wrap ((nb:Int)+tk)=(nb:Int)+tk:=IntWalk.i64_in _ ⟨by omega,by omega⟩
      have j2:IntKind.i64.wrap ((nb:Int)+tk-gv)=(nb:Int)+tk-gv:=IntWalk.i64_in _ ⟨by omega,by omega⟩
      have ig:((nE:Int)==(nb:Int)+tk-gv)=true:=by simpa using cg
      clear cg kB kG kR cq bm bv bi g3 g1 hj h6 bb c4
      go_cut [23] from 198 to 201 (fun cv wx=>∃ p:Nat,cv= .pointer (some ⟨p,0,.none⟩)/\p<wx.heap.size/\Below V2.heap.size V2 wx/\wx.cell? ⟨p,2,.none⟩=some (.int .i64 0)/\wx.cell? ⟨p,3,.none⟩=some (.int .i64 0))
      case first=>
       go_region_held3 (fun X=>X.cell? ⟨H,0,.none⟩=some (.int .i64 s.p)/\X.cell? ⟨H,1,.none⟩=some (.int .i64 s.c)/\X.cell? ⟨H,2,.none⟩=some (.int .i64 s.m))
        (first|exact hK _ (by go_grown))
        (first|(go_at_call 24;(with_reducible refine(bk _ (by go_grown)).mono ?_);rintro r w9 ⟨v9,rfl,ba,cu⟩;have gn:=zA (w:=V2) (by go_grown) ba;have ib:=gn.size;try (have hz:=aB.below (N:=V2.heap.size) (c:=Cn.zero) (jA V2.drew (.cells #[.int .i64 0,.int .i64 0,.int .i64 0,.int .i64 0] 98)) ba;have O:=hz.c0;have q1:=hz.c1;have q2:=hz.c2;have q3:=hz.c3;have qF:=hz.fr))|(go_at_call 41;refine(c5 _ _ (by first|exact cu|exact cu.below (br.alloc lr _))).mono ?_;rintro r w7 ⟨rfl,cc⟩;have gm:=zA (w:=V2) (by go_grown) cc;have ia:=gm.size;try (first|(have hz:=hz.below cc;have O:=hz.c0;have q1:=hz.c1;have q2:=hz.c2;have q3:=hz.c3;have qF:=hz.fr)|(have hz:=aB.below (N:=w9.heap.size) (c:=Cn.zero) (jA w9 (.cells #[.int .i64 0,.int .i64 0,.int .i64 0,.int .i64 0] 98)) cc;have O:=hz.c0;have q1:=hz.c1;have q2:=hz.c2;have q3:=hz.c3;have qF:=hz.fr))))
       all_goals (go_wp2_with fail;go_meet)
       all_goals refine⟨_,rfl,?_,by go_grown,?_,?_⟩
       all_goals first|go_cell|go_size|(simp;done)|(simp;exact hz.lt)
      case rest=>
       obtain⟨p,rfl,hp,b9,n2,n3⟩:=hcut
       obtain⟨V3,rfl⟩:∃ V:World,V=wc:=⟨_,rfl⟩
       have g5:=b9.size
       have b0:Hid (∀ Y:World,jW V3 Y->(Y.cell? ⟨H,0,.none⟩=some (.int .i64 s.p)/\Y.cell? ⟨H,1,.none⟩=some (.int .i64 s.c)/\Y.cell? ⟨H,2,.none⟩=some (.int .i64 s.m)/\Y.cell? ⟨p,2,.none⟩=some (.int .i64 0)/\Y.cell? ⟨p,3,.none⟩=some (.int .i64 0))):=hd' fun Y hY=>by
        obtain⟨k0,k1,k2⟩:=hK Y (b9.trans (hY.mono g5))
        exact⟨k0,k1,k2,kA hY _ _ _ n2,kA hY _ _ _ n3⟩
       have y:Hid (Below V3.heap.size V3 V3.drew):=hd' br.drew
       obtain⟨c0,c1,c2,n2,n3⟩:=b0 V3 br
       have q3:Hid (∀ X:World,jW V3 X->Below V2.heap.size V2 X):=hd' fun X L=>b9.trans (L.mono g5)
       clear b9
       go_upto_region 39 with fail
       go_region_held3 (fun Y=>Y.cell? ⟨H,0,.none⟩=some (.int .i64 s.p)/\Y.cell? ⟨H,1,.none⟩=some (.int .i64 s.c)/\Y.cell? ⟨H,2,.none⟩=some (.int .i64 s.m)/\Y.cell? ⟨p,2,.none⟩=some (.int .i64 0)/\Y.cell? ⟨p,3,.none⟩=some (.int .i64 0))
        (first|exact b0 _ y.out|exact b0 _ b7|exact b0 _ C)
        (first|(go_at_call 24;(with_reducible refine(bk _ (q3 _ y.out)).mono ?_);rintro r wA ⟨vA,rfl,b5,b6⟩;have C:=y.out.trans (b5.mono y.out.size))|(go_at_call 43;refine(cd _ _ b6).mono ?_;rintro r V4 ⟨aE,cE,rfl,ih,i1,cz⟩;have b7:=C.trans (cz.mono C.size)))
       clear cd b5 b6 C y
       have h9:=b7.size
       have q4:Hid (∀ X:World,jW V4 X->Below V3.heap.size V3 X):=hd' fun X L=>b7.trans (L.mono h9)
       have y:Hid (Below V4.heap.size V4 V4.drew):=hd' br.drew
       obtain⟨c0,c1,c2,n2,n3⟩:=b0 V4 (q4 _ br)
       clear b7
       go_upto_region 40 with fail
       go_cut [236] from 206 to 236 (fun gl wx=>gl= .bool false/\Below V4.heap.size V4 wx)
       case first=>
        have eu:(decide (0<tk)=true/\an=true)\/decide (0<tk)=false:=by
         by_cases h:0<tk
         ·exact .inl ⟨jT h,b3 h⟩
         ·exact .inr (jF h)
        rcases eu with⟨q1,rfl⟩|q1
        ·go_region_held3 (fun Y=>Y.cell? ⟨H,0,.none⟩=some (.int .i64 s.p)/\Y.cell? ⟨H,1,.none⟩=some (.int .i64 s.c)/\Y.cell? ⟨H,2,.none⟩=some (.int .i64 s.m)/\Y.cell? ⟨p,2,.none⟩=some (.int .i64 0)/\Y.cell? ⟨p,3,.none⟩=some (.int .i64 0))
          (first|exact b0 _ (q4 _ y.out)|exact b0 _ (q4 _ c6)|exact b0 _ (q4 _ C))
          (first|(go_at_call 24;(with_reducible refine(bk _ (q3 _ (q4 _ y.out))).mono ?_);rintro r wA ⟨vA,rfl,b5,b6⟩;have C:=y.out.trans (b5.mono y.out.size))|(go_at_call 23;refine(g6 _ _ b6).mono ?_;rintro r wS ⟨rfl,em⟩;have c6:=C.trans (em.mono C.size)))
         go_wp2_with fail
         go_meet
         exact⟨rfl,c6⟩
        ·clear c5 g4 cs hE
         refine wp_region_held_drew (S:=fun Y=>Y.cell? ⟨H,0,.none⟩=some (.int .i64 s.p)/\Y.cell? ⟨H,1,.none⟩=some (.int .i64 s.c)/\Y.cell? ⟨H,2,.none⟩=some (.int .i64 s.m)/\Y.cell? ⟨p,2,.none⟩=some (.int .i64 0)/\Y.cell? ⟨p,3,.none⟩=some (.int .i64 0)) (by kernel_rfl) ⟨c0,c1,c2,n2,n3⟩ (fun hHeld=>?_)
         refine wpAnyH_take (i:=0) (v:= .bool true) rfl (by kernel_rfl) (by kernel_rfl) (by kernel_rfl) (fun _ _ _ h=>h) (Or.inl ⟨by rfl,fun I ⟨O,q2,q3,q4,D⟩=>by go_simp⟩) (by assumption) ?_
         dsimp only[Act.put,List.getElem_toArray,List.getElem_cons_succ,List.getElem_cons_zero]
         refine wpAnyH_take (i:=1) (v:= .bool false) rfl (by kernel_rfl) (by kernel_rfl) (by kernel_rfl) (fun _ _ _ h=>h) (Or.inl ⟨by rfl,fun I ⟨O,q2,q3,q4,D⟩=>by go_simp⟩) (by assumption) ?_
         dsimp only[Act.put,List.getElem_toArray,List.getElem_cons_succ,List.getElem_cons_zero]
         refine wpAnyH_take (i:=2) (v:= .bool false) rfl (by kernel_rfl) (by kernel_rfl) (by kernel_rfl) (fun _ _ _ h=>h) (Or.inl ⟨by rfl,fun I ⟨O,q2,q3,q4,D⟩=>by go_simp⟩) (by assumption) ?_
         dsimp only[Act.put,List.getElem_toArray,List.getElem_cons_succ,List.getElem_cons_zero]
         refine wpAnyH_take (i:=3) (v:= .int .i64 0) rfl (by kernel_rfl) (by kernel_rfl) (by kernel_rfl) (fun _ _ _ h=>h) (Or.inl ⟨by rfl,fun I ⟨O,q2,q3,q4,D⟩=>by go_simp⟩) (by assumption) ?_
         dsimp only[Act.put,List.getElem_toArray,List.getElem_cons_succ,List.getElem_cons_zero]
         refine wpAnyH_take (i:=4) (v:= .bool false) rfl (by kernel_rfl) (by kernel_rfl) (by kernel_rfl) (fun _ _ _ h=>h) (Or.inl ⟨by rfl,fun I ⟨O,q2,q3,q4,D⟩=>by go_simp⟩) (by assumption) ?_
         dsimp only[Act.put,List.getElem_toArray,List.getElem_cons_succ,List.getElem_cons_zero]
         refine wpAnyH_take (i:=5) (v:= .bool false) rfl (by kernel_rfl) (by kernel_rfl) (by kernel_rfl) (fun _ _ _ h=>h) (Or.inl ⟨by rfl,fun I ⟨O,q2,q3,q4,D⟩=>by go_simp⟩) (by assumption) ?_
         dsimp only[Act.put,List.getElem_toArray,List.getElem_cons_succ,List.getElem_cons_zero]
         simp only[List.setIfInBounds_toArray,List.set_cons_zero,List.set_cons_succ]
         refine wpAnyH_take (i:=6) (v:= .bool false) rfl (by kernel_rfl) (by kernel_rfl) (by kernel_rfl) (fun _ _ _ h=>h) (Or.inl ⟨by rfl,fun I ⟨O,q2,q3,q4,D⟩=>by go_simp⟩) (by assumption) ?_
         dsimp only[Act.put,List.getElem_toArray,List.getElem_cons_succ,List.getElem_cons_zero]
         refine wpAnyH_take (i:=7) (v:= .pointer (some ⟨p,3,.none⟩)) rfl (by kernel_rfl) (by kernel_rfl) (by kernel_rfl) (fun _ _ _ h=>h) (Or.inl ⟨by rfl,fun I ⟨O,q2,q3,q4,D⟩=>by go_simp⟩) (by assumption) ?_
         dsimp only[Act.put,List.getElem_toArray,List.getElem_cons_succ,List.getElem_cons_zero]
         refine wpAnyH_take (i:=8) (v:= .int .i64 0) rfl (by kernel_rfl) (by kernel_rfl) (by kernel_rfl) (fun _ _ _ h=>h) (Or.inl ⟨by rfl,fun I ⟨O,q2,q3,q4,D⟩=>by go_simp⟩) (by assumption) ?_
         dsimp only[Act.put,List.getElem_toArray,List.getElem_cons_succ,List.getElem_cons_zero]
         refine wpAnyH_take (i:=9) (v:= .bool false) rfl (by kernel_rfl) (by kernel_rfl) (by kernel_rfl) (fun _ _ _ h=>h) (Or.inl ⟨by rfl,fun I ⟨O,q2,q3,q4,D⟩=>by go_simp⟩) (by assumption) ?_
         dsimp only[Act.put,List.getElem_toArray,List.getElem_cons_succ,List.getElem_cons_zero]
         refine wpAnyH_take (i:=10) (v:= .bool false) rfl (by kernel_rfl) (by kernel_rfl) (by kernel_rfl) (fun _ _ _ h=>h) (Or.inl ⟨by rfl,fun I ⟨O,q2,q3,q4,D⟩=>by go_simp⟩) (by assumption) ?_
         dsimp only[Act.put,List.getElem_toArray,List.getElem_cons_succ,List.getElem_cons_zero]
         simp only[List.setIfInBounds_toArray,List.set_cons_zero,List.set_cons_succ]
         refine wpAnyH_take (i:=11) (v:= .bool false) rfl (by kernel_rfl) (by kernel_rfl) (by kernel_rfl) (fun _ _ _ h=>h) (Or.inl ⟨by rfl,fun I ⟨O,q2,q3,q4,D⟩=>by go_simp⟩) (by assumption) ?_
         dsimp only[Act.put,List.getElem_toArray,List.getElem_cons_succ,List.getElem_cons_zero]
         refine wpAnyH_take (i:=12) (v:= .pointer (some ⟨p,2,.none⟩)) rfl (by kernel_rfl) (by kernel_rfl) (by kernel_rfl) (fun _ _ _ h=>h) (Or.inl ⟨by rfl,fun I ⟨O,q2,q3,q4,D⟩=>by go_simp⟩) (by assumption) ?_
         dsimp only[Act.put,List.getElem_toArray,List.getElem_cons_succ,List.getElem_cons_zero]
         refine wpAnyH_take (i:=13) (v:= .int .i64 0) rfl (by kernel_rfl) (by kernel_rfl) (by kernel_rfl) (fun _ _ _ h=>h) (Or.inl ⟨by rfl,fun I ⟨O,q2,q3,q4,D⟩=>by go_simp⟩) (by assumption) ?_
         dsimp only[Act.put,List.getElem_toArray,List.getElem_cons_succ,List.getElem_cons_zero]
         refine wpAnyH_take (i:=14) (v:= .bool false) rfl (by kernel_rfl) (by kernel_rfl) (by kernel_rfl) (fun _ _ _ h=>h) (Or.inl ⟨by rfl,fun I ⟨O,q2,q3,q4,D⟩=>by go_simp⟩) (by assumption) ?_
         dsimp only[Act.put,List.getElem_toArray,List.getElem_cons_succ,List.getElem_cons_zero]
         refine wpAnyH_take (i:=15) (v:= .bool false) rfl (by kernel_rfl) (by kernel_rfl) (by kernel_rfl) (fun _ _ _ h=>h) (Or.inl ⟨by rfl,fun I ⟨O,q2,q3,q4,D⟩=>by go_simp⟩) (by assumption) ?_
         dsimp only[Act.put,List.getElem_toArray,List.getElem_cons_succ,List.getElem_cons_zero]
         simp only[List.setIfInBounds_toArray,List.set_cons_zero,List.set_cons_succ]
         refine wpAnyH_take (i:=16) (v:= .bool false) rfl (by kernel_rfl) (by kernel_rfl) (by kernel_rfl) (fun _ _ _ h=>h) (Or.inl ⟨by rfl,fun I ⟨O,q2,q3,q4,D⟩=>by go_simp⟩) (by assumption) ?_
         dsimp only[Act.put,List.getElem_toArray,List.getElem_cons_succ,List.getElem_cons_zero]
         refine wpAnyH_take (i:=17) (v:= .agg #[s.p,s.c,s.m]) rfl (by kernel_rfl) (by kernel_rfl) (by kernel_rfl) (fun _ _ _ h=>h) (Or.inl ⟨by rfl,fun I ⟨O,q2,q3,q4,D⟩=>by go_simp⟩) (by assumption) ?_
         dsimp only[Act.put,List.getElem_toArray,List.getElem_cons_succ,List.getElem_cons_zero]
         refine wpAnyH_take (i:=18) (v:= .pointer (some ⟨g,0,.none⟩)) rfl (by kernel_rfl) (by kernel_rfl) (by kernel_rfl) (fun _ _ _ h=>h) (Or.inl ⟨by rfl,fun I ⟨O,q2,q3,q4,D⟩=>by go_simp⟩) (by assumption) ?_
         dsimp only[Act.put,List.getElem_toArray,List.getElem_cons_succ,List.getElem_cons_zero]
         simp only[List.setIfInBounds_toArray,List.set_cons_zero,List.set_cons_succ]
         refine wpAnyH_ready (rs:= [19]) (by kernel_rfl) (by simp) ?_
         refine AllReadyH.cons rfl (fun K hK=>?_) AllReadyH.nil
         rw[jP (by rfl)]
         go_simp
         refine(bk _ (q3 _ (q4 _ y.out))).mono ?_
         rintro r wA ⟨vA,rfl,b5,b6⟩
         dsimp only
         have C:=y.out.trans (b5.mono y.out.size)
         refine hK _ _ (b0 _ (q4 _ C)) (fun hHeld=>?_)
         clear hK K
         refine wpAnyH_ready (rs:= [20]) (by kernel_rfl) (by simp) ?_
         refine AllReadyH.cons rfl (fun K hK=>?_) AllReadyH.nil
         rw[jP (by rfl)]
         go_simp
         refine(g6 _ _ b6).mono ?_
         rintro r wS ⟨rfl,em⟩
         dsimp only
         have c6:=C.trans (em.mono C.size)
         refine hK _ _ (b0 _ (q4 _ c6)) (fun hHeld=>?_)
         clear hK K
         refine wpAnyH_take (i:=21) (v:= .bool false) rfl (by kernel_rfl) (by kernel_rfl) (by kernel_rfl) (fun _ _ _ h=>h) (Or.inl ⟨by rfl,fun I ⟨O,q2,q3,q4,D⟩=>by go_simp⟩) (by assumption) ?_
         dsimp only[Act.put,List.getElem_toArray,List.getElem_cons_succ,List.getElem_cons_zero]
         refine wpAnyH_take (i:=22) (v:= .bool false) rfl (by kernel_rfl) (by kernel_rfl) (by kernel_rfl) (fun _ _ _ h=>h) (Or.inl ⟨by rfl,fun I ⟨O,q2,q3,q4,D⟩=>by go_simp⟩) (by assumption) ?_
         dsimp only[Act.put,List.getElem_toArray,List.getElem_cons_succ,List.getElem_cons_zero]
         refine wpAnyH_take (i:=23) (v:= .bool false) rfl (by kernel_rfl) (by kernel_rfl) (by kernel_rfl) (fun _ _ _ h=>h) (Or.inl ⟨by rfl,fun I ⟨O,q2,q3,q4,D⟩=>by go_simp⟩) (by assumption) ?_
         dsimp only[Act.put,List.getElem_toArray,List.getElem_cons_succ,List.getElem_cons_zero]
         simp only[List.setIfInBounds_toArray,List.set_cons_zero,List.set_cons_succ]
         refine wpAnyH_take (i:=24) (v:= .int .i64 tk) rfl (by kernel_rfl) (by kernel_rfl) (by kernel_rfl) (fun _ _ _ h=>h) (Or.inl ⟨by rfl,fun I ⟨O,q2,q3,q4,D⟩=>by go_simp⟩) (by assumption) ?_
         dsimp only[Act.put,List.getElem_toArray,List.getElem_cons_succ,List.getElem_cons_zero]
         refine wpAnyH_take (i:=25) (v:= .bool false) rfl (by kernel_rfl) (by kernel_rfl) (by kernel_rfl) (fun _ _ _ h=>h) (Or.inl ⟨by rfl,fun I ⟨O,q2,q3,q4,D⟩=>by go_simp⟩) (by assumption) ?_
         dsimp only[Act.put,List.getElem_toArray,List.getElem_cons_succ,List.getElem_cons_zero]
         refine wpAnyH_take (i:=26) (v:= .bool false) rfl (by kernel_rfl) (by kernel_rfl) (by kernel_rfl) (fun _ _ _ h=>h) (Or.inl ⟨by rfl,fun I ⟨O,q2,q3,q4,D⟩=>by go_simp⟩) (by assumption) ?_
         dsimp only[Act.put,List.getElem_toArray,List.getElem_cons_succ,List.getElem_cons_zero]
         refine wpAnyH_take (i:=27) (v:=undef) rfl (by kernel_rfl) (by kernel_rfl) (by kernel_rfl) (fun _ _ _ h=>h) (Or.inr ⟨by rfl,rfl⟩) (by assumption) ?_
         dsimp only[Act.put,List.getElem_toArray,List.getElem_cons_succ,List.getElem_cons_zero]
         refine wpAnyH_take (i:=28) (v:=undef) rfl (by kernel_rfl) (by kernel_rfl) (by kernel_rfl) (fun _ _ _ h=>h) (Or.inr ⟨by rfl,rfl⟩) (by assumption) ?_
         dsimp only[Act.put,List.getElem_toArray,List.getElem_cons_succ,List.getElem_cons_zero]
         refine wpAnyH_take (i:=29) (v:= .bool false) rfl (by kernel_rfl) (by kernel_rfl) (by kernel_rfl) (fun _ _ _ h=>h) (Or.inl ⟨by rfl,fun I ⟨O,q2,q3,q4,D⟩=>by go_simp⟩) (by assumption) ?_
         dsimp only[Act.put,List.getElem_toArray,List.getElem_cons_succ,List.getElem_cons_zero]
         refine wpAnyH_take (i:=30) (v:= .bool false) rfl (by kernel_rfl) (by kernel_rfl) (by kernel_rfl) (fun _ _ _ h=>h) (Or.inl ⟨by rfl,fun I ⟨O,q2,q3,q4,D⟩=>by go_simp⟩) (by assumption) ?_
         dsimp only[Act.put,List.getElem_toArray,List.getElem_cons_succ,List.getElem_cons_zero]
         simp only[List.setIfInBounds_toArray,List.set_cons_zero,List.set_cons_succ]
         refine wpAnyH_done (by kernel_rfl) ?_ _
         go_wp2_with fail
         go_meet
         exact⟨rfl,c6⟩
       obtain⟨rfl,bh⟩:=hcut
       obtain⟨V5,rfl⟩:∃ V:World,V=wc:=⟨_,rfl⟩
       have ha:=bh.size
       have D:Hid (∀ X:World,jW V5 X->Below V2.heap.size V2 X):=hd' fun X L=>q3 _ (q4 _ (bh.trans (L.mono ha)))
       have y:Hid (Below V5.heap.size V5 V5.drew):=hd' br.drew
       obtain⟨c0,c1,c2⟩:=hK V5 (D _ br)
       clear b0 bh n2 n3
       go_upto_region 42 with fail
       go_region_held3 (fun Y=>Y.cell? ⟨H,0,.none⟩=some (.int .i64 s.p)/\Y.cell? ⟨H,1,.none⟩=some (.int .i64 s.c)/\Y.cell? ⟨H,2,.none⟩=some (.int .i64 s.m))
        (first|exact hK _ (D _ y.out)|exact hK _ (D _ f6)|exact hK _ (D _ ef)|exact hK _ (D _ cx))
        (first|(go_at_call 15;refine(el _).mono ?_;rintro r wW ⟨rfl,h5⟩;have cx:=y.out.trans (h5.mono y.out.size))|(go_at_call 12;(with_reducible refine(cs _ (D _ cx)).mono ?_);rintro r wT ⟨vT,rfl,gz,hg⟩;have ef:=cx.trans (gz.mono cx.size))|(go_at_call 11;refine(g4 _ _ hg).mono ?_;rintro r wR ⟨rfl,gy⟩;have f6:=ef.trans (gy.mono ef.size)))
       go_wp2_with fail
       go_returns
       exact⟨rfl,hE _ (D _ f6)⟩
theorem ymd(s:Sh)(xs:List Op3)(v:Value)(at':Int)(j:0<=at'/\at'<=65535)(W:World)(y:RdS W 3 v xs.length (xs.flatMap Op3.cells)):
  Calls Tryz.prog 4 #[.agg #[s.p,s.c,s.m],v,.int .u16 at'] W fun e w'=>e= .returned (.bool true)/\Below W.heap.size W w':=by
 have n:=hd' (fun Y=>sN Y);have l:=(Below.refl W.heap.size W).alloc lr (.cells #[s.p,s.c,s.m] 23);have t0:aA (W.alloc (.cells #[s.p,s.c,s.m] 23)) W.heap.size #[s.p,s.c,s.m] 23:=jA _ _;have E:IntKind.i64.wrap at'=at':=IntWalk.i64_in _ ⟨by omega,by omega⟩;have q:=hd' (fun X (B:Below W.heap.size W X)=>ym8 s xs v at' j X (y.below B));clear y j;go_in;go_upto_region 3 with(first|(go_at_call 15;refine(n _).mono ?_;rintro r C ⟨rfl,i⟩));have t1:=t0.below i;have b:=zA l i;have z:=t1.cell;clear t0 t1 l i;go_wp2_with (first|(go_at_call 16;refine(q _ b).mono ?_;rintro r D ⟨rfl,o⟩));go_returns;exact⟨rfl,zA b o⟩
end Go.Proofs.YtmmbicppdjgbmaaGreat

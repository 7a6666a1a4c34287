/- Many ask for a block each, however they take turns: the walk of the law. -/
import Derived.Test.YtkilokkopbajkaaGreatZLawM

import Derived.Test.YtkilokkopbajkaaGreatZManQ

set_option linter.all false
set_option maxHeartbeats 8000000
set_option maxRecDepth 100000
namespace Go.Proofs.YtkilokkopbajkaaGreat

open Go.RowKit

attribute [local go_sem ↓] Go.wp_at_zero Go.wp_at_succ

theorem yk4(a b c e:Int)(w:World):(Instr.field 87 (.agg #[a,b,c,e]) 1).run Tryz.prog w= .ok (.int .i64 b) w:=by kernel_rfl
attribute [local go_sem ↓] yk4

theorem ypk{i:Nat}(h:i<12)(w:World):(binOp .quo 33 (.float .f64 (floatOfInt .f64 (i:Int))) (.float .f64 4616189618054758400)).run Tryz.prog w= .ok (.float .f64 (GF i)) w:=run_float_arith w .quo 33 .f64 _ _ _ (yoq i h)
theorem yom(s:Sh)(zs us:List Int)(v u:Value)(W:World)(hz:RdZ .u16 W v zs)(hu:RdZ .u8 W u us)(b6:∀ a ∈ zs,0<=a/\a<=65535)(bb:∀ a ∈ us,0<=a/\a<=255):
  Calls Tryz.prog 7 #[.agg #[s.p,s.c,s.m],v,u] W fun e w'=>e= .returned (.bool true)/\Below W.heap.size W w':=by
 obtain⟨zo,il,rfl,em,ij,_,_⟩:=id hz;obtain⟨uo,ik,rfl,ek,ig,_,_⟩:=id hu;have ca:=hd' (fun j (hj:j<zs.length)=>uAt hz hj);have c8:=hd' (fun j (hj:j<us.length)=>uAt hu hj);replace b6:=hd' fun j (hj:j<zs.length)=>b6 zs[j] (List.getElem_mem hj);replace bb:=hd' fun j (hj:j<us.length)=>bb us[j] (List.getElem_mem hj);clear hu hz;have gm:=hd' (fun Y=>PQ Y);have E:∀ Y,jK 21 #[.agg #[s.p,s.c,s.m]] Y fun e w'=>e= .returned (.bool (mayB s.p s.c s.m))/\Below Y.heap.size Y w':=fun Y=>(UG s.p s.c s.m Y).mono fun e w' h=>⟨h.1,by rw[h.2];exact br.alloc lr _⟩;have fd:=(Below.refl W.heap.size W).alloc lr (.cells #[s.p,s.c,s.m] 23);have t0:aA (W.alloc (.cells #[s.p,s.c,s.m] 23)) W.heap.size #[s.p,s.c,s.m] 23:=jA _ _;obtain⟨n,hn,fy⟩:=hidv zs.length;obtain⟨m,hm,fq⟩:=hidv us.length;rw[<-fq]at ek ⊢;rw[<-fy]at em ⊢;clear fq fy;go_in;go_upto_region 3 with(first|(go_at_call 8;refine(gm _).mono ?_;rintro r w1 ⟨rfl,e7⟩));have t1:=t0.below e7;have b7:=xA fd e7;clear t0 fd e7;obtain⟨H,hH,ey⟩:=hidv W.heap.size;rw[<-ey]at t1 ⊢;clear ey;have lH:=t1.lt;obtain⟨c0,c1,c2⟩:=ci3 s.p s.c s.m t1.cell;by_cases S:¬ mayB s.p s.c s.m=true
 ·rw[Bool.eq_false_iff.2 S]at E;replace E:=hd' E;clear S ca c8 b6 bb;go_wp2_with (first|(go_at_call 21;refine(E _).mono ?_;rintro r w2 ⟨rfl,b3⟩));go_returns;exact⟨rfl,xA b7 b3⟩
 replace S:=Decidable.not_not.1 S;rw[S]at E;replace E:=hd' E;by_cases fz:n=0
 ·subst fz;clear ca c8 b6 bb;go_wp2_with (first|(go_at_call 21;refine(E _).mono ?_;rintro r w2 ⟨rfl,b3⟩));go_returns;exact⟨rfl,xA b7 b3⟩
 have hf:0<n:=by omega
 have i7:((n:Int)==0)=false:=by simpa using fz
 by_cases iz:3000<m
 ·have fs:(3000:Int)<(m:Int):=by omega
  clear ca c8 b6 bb;go_wp2_with (first|(go_at_call 21;refine(E _).mono ?_;rintro r w2 ⟨rfl,b3⟩));go_returns;exact⟨rfl,xA b7 b3⟩
 have fs:¬ (3000:Int)<(m:Int):=by omega
 have is:=LA.1 S;have gd:=QN S;go_upto_region 5 with(first|(go_at_call 21;refine(E _).mono ?_;rintro r w2 ⟨rfl,b3⟩));have t2:=t1.below b3;have cq:=xA b7 b3;clear c0 c1 c2 lH t1 b7 b3 E;have lH:=t2.lt;obtain⟨c0,c1,c2⟩:=ci3 s.p s.c s.m t2.cell;have gx:=hd' (HN (W0:=W) (Kp:=kp1 H (.cells #[s.p,s.c,s.m] 23 (0,0))) S cq (fun k v hk=>by obtain⟨rfl,rfl⟩:=hk;exact t2));go_upto_region 8 with(first|(go_at_call 10;(with_reducible refine gx.out.mono ?_);rintro r w3 ⟨g,vv,rfl,f0,gn⟩));generalize ez:kp1 H (.cells #[s.p,s.c,s.m] 23 (0,0))=Kp at *;have bn:Hid (∀ (X:World) (d:Wd),BA W g s Kp d X->X.cell? ⟨H,0,.none⟩=some (.int .i64 s.p)/\X.cell? ⟨H,1,.none⟩=some (.int .i64 s.c)/\X.cell? ⟨H,2,.none⟩=some (.int .i64 s.m)/\H<X.heap.size):=hd' fun X d F=>by have h1:=F.keep (k:=H) (v:= .cells #[s.p,s.c,s.m] 23 (0,0)) (by rw[<-ez];exact⟨rfl,rfl⟩);exact⟨kA h1 0,kA h1 1,kA h1 2,(jE h1)⟩
 clear ez c0 c1 c2 t2 cq gn lH;obtain⟨C,hC,g8⟩:∃ C:Nat,Hid ((C:Int)=s.c)/\(C:Int)=s.c:=⟨s.c.toNat,hd' (by omega),by omega⟩;have i4:C<=12:=by omega
 have ip:1<=C:=by omega
 clear g8;have f9:=hd' fun i=>yq0 S zs i;have ew:Hid (bgN s zs 0=ZA s):=hd' rfl;have b8:Hid (∀ i:Nat,bgN s zs (i+1)=((((bgN s zs i).act s ⟨1,i,0,0,0,GF i⟩).1).act s ⟨2,i,1,0,DH zs i,0⟩).1):=hd' fun i=>rfl;go_wp2;go_loopw [9] (fun v9 wr=>∃ i:Nat,i<=C/\v9= .int .i64 i/\BA W g s Kp (bgN s zs i) wr) (fun v9 _=>C-(intOf v9).toNat);case atStart=>exact⟨0,Nat.zero_le _,rfl,by rw[ew];exact f0⟩
 case round=>
  clear f0;obtain⟨i,hi,rfl,B⟩:=hrel;obtain⟨D,cu⟩:=f9 i;have h7:(0:Int)<=(i:Int):=by omega
  obtain⟨c0,c1,c2,lH⟩:=bn _ _ B;by_cases bx:i<C
  ·have bg:(i:Int)<s.c:=by have:=hC.out;omega
   have ja:IntKind.i64.wrap ((i:Int)+1)=(i:Int)+1:=IntWalk.i64_in _ ⟨by omega,by omega⟩;have hq:=b8 i;have bj:=mC D ⟨1,i,0,0,0,GF i⟩;have gy:=fun w=>ypk (i:=i) (by omega) w;have cr:=hd' (fG B D.1 (by omega) 1 i 0 0 0 (GF i));have bf:=hd' fun X (F:BA W g s Kp ((bgN s zs i).act s ⟨1,i,0,0,0,GF i⟩).1 X)=>fG F bj.1 (by omega) 2 i 1 0 (DH zs i) 0;rw[<-hq]at bf;have fn:=hd' fun X (F:BA W g s Kp ((bgN s zs i).act s ⟨1,i,0,0,0,GF i⟩).1 X)=>F.ab;obtain⟨r,hr,c6⟩:∃ r:Nat,Hid (r=i%n)/\i%n=r:=⟨_,hd' rfl,rfl⟩;have j4:r<n:=by rw[<-c6];exact Nat.mod_lt _ hf
   have ei:r<zs.length:=by have:=hn.out;omega
   have i6:(i:Int).tmod (n:Int)=(r:Int):=by rw[<-c6,Int.tmod_eq_emod_of_nonneg h7,Int.natCast_emod]
   have ha:(i:Int)%(n:Int)=(r:Int):=by rw[<-c6,Int.natCast_emod]
   have j3:(0:Int)<=(r:Int):=by omega
   have i9:(r:Int)<(n:Int):=by omega
   have jd:IntKind.i64.wrap (r:Int)=(r:Int):=IntWalk.i64_in _ ⟨by omega,by omega⟩;obtain⟨zb,ZU,rfl,g5⟩:=ca r ei;have i2:=b6 r ei;have g3:DH zs i=1+zs[r]%512:=by unfold DH;rw[<-hn,c6,List.getD_eq_getElem?_getD,List.getElem?_eq_getElem ei];rfl
   rw[g3]at bf;generalize zs[r]=z at *;obtain⟨q,j1,c5⟩:∃ q:Int,Hid (q=z%512)/\z%512=q:=⟨_,hd' rfl,rfl⟩;have j2:0<=q/\q<=511:=by omega
   rw[c5]at bf;have j7:z.tmod 512=q:=by rw[Int.tmod_eq_emod_of_nonneg i2.1];exact c5
   have wz:IntKind.i64.wrap z=z:=IntWalk.i64_in _ ⟨by omega,by omega⟩;have wq:IntKind.i64.wrap q=q:=IntWalk.i64_in _ ⟨by omega,by omega⟩;have g7:=wrp (1+q);have U:Hid (∀ X,BA W g s Kp (bgN s zs (i+1)) X->∃ j:Nat,j<=C/\Value.int .i64 ((i:Int)+1)= .int .i64 j/\BA W g s Kp (bgN s zs j) X):=hd' fun X F=>⟨i+1,by omega,by go_num,F⟩;generalize bgN s zs (i+1)=d2 at *;generalize (bgN s zs i)=d0 at *;generalize (d0.act s ⟨1,(i:Int),0,0,0,GF i⟩).1=d1 at *;clear hq g3 c6 c5 D cu B bj;go_upto_region 12 with(first|(go_at_call 11;(with_reducible refine cr.out.mono ?_);rintro r1 w4 ⟨rfl,f1⟩));obtain⟨zc,zl⟩:=g5 _ (fn _ f1);clear g5 c0 c1 c2 lH fn cr gy;go_wp2_with (first|(go_at_call 11;(with_reducible refine(bf _ f1).mono ?_);rintro r2 w5 ⟨rfl,ga⟩));exact⟨U _ ga,by simp only[intOf];omega⟩
  obtain rfl:i=C:=by omega
  have c4:¬ (i:Int)<s.c:=by have:=hC.out;omega
  clear ew b8 f9 ca b6;have bj:=sC D (show 2*i<=24 by omega);generalize bgN s zs i=d1 at *;go_upto_region 13 with fail;clear c0 c1 c2 lH c4 D;obtain⟨TL,ir,bu⟩:=hidv (modL s us);have b9:TL.length=m:=by rw[bu,hm];unfold modL;rw[List.length_map]
  have f7:Hid (∀ j (hj:j<TL.length),∃ hu:j<us.length,TL[j]=us[j]%s.c):=hd' fun j hj=>by
   have:j<us.length:=by rw[<-hm];omega
   refine⟨this,?_⟩;have h1:TL[j]?=some (us[j]%s.c):=by rw[bu];unfold modL;rw[List.getElem?_map,List.getElem?_eq_getElem this];rfl
   rw[List.getElem?_eq_getElem hj]at h1;injection h1
  clear bu;have fb:=hd' fun j=>sC (uK bj (TL.take j)) (show 24+(TL.take j).length<=4000 by rw[List.length_take];omega);have fv:=TR bj cu TL;have f6:Hid (yC s d1 (TL.take 0)=d1):=hd' rfl;have bv:Hid (yC s d1 (TL.take m)=yC s d1 TL):=hd' (by rw[<-b9,List.take_length]);have cj:=sC (uK bj TL) (show 24+TL.length<=4000 by omega);have ia:(s.c==0)=false:=by simpa using(show ¬ s.c=0 by omega)
  have ib:¬ s.c=0:=by omega
  have ic:1<=s.c:=by omega
  replace b9:=hd' b9;go_wp2;go_loopw [10] (fun ep wr=>∃ j:Nat,j<=m/\ep= .int .i64 j/\BA W g s Kp (yC s d1 (TL.take j)) wr) (fun ep _=>m-(intOf ep).toNat);case atStart=>exact⟨0,Nat.zero_le _,rfl,by rw[f6];exact B⟩
  case round=>
   clear B;obtain⟨j,hj,rfl,B⟩:=hrel;have D:=fb j;have h8:(0:Int)<=(j:Int):=by omega
   by_cases bx:j<m
   ·have bg:(j:Int)<(m:Int):=by omega
    have jb:IntKind.i64.wrap ((j:Int)+1)=(j:Int)+1:=IntWalk.i64_in _ ⟨by omega,by omega⟩;have fk:j<TL.length:=by have:=b9.out;omega
    obtain⟨fl,f8⟩:=f7 j fk;have bk:=tR (s:=s) (d:=d1) fk;rw[f8]at bk;obtain⟨ub,g6,hl,g4⟩:=c8 j fl;have b6:=bb j fl;have e6:Hid (∀ X d,BA W g s Kp d X->X.cell? ⟨H,0,.none⟩=some (.int .i64 s.p)/\X.cell? ⟨H,1,.none⟩=some (.int .i64 s.c)/\X.cell? ⟨H,2,.none⟩=some (.int .i64 s.m)/\X.cell? ⟨ub,g6+j,.none⟩=some (.int .u8 us[j])/\H<X.heap.size/\ub<X.heap.size):=hd' fun X d F=>by obtain⟨k0,k1,k2,k3⟩:=bn _ _ F;obtain⟨e2,e3⟩:=g4 _ F.ab;exact⟨k0,k1,k2,e2,k3,e3⟩
    subst hl;generalize us[j]=z at *;obtain⟨y,hy,ck⟩:∃ y:Int,Hid (y=z%s.c)/\z%s.c=y:=⟨_,hd' rfl,rfl⟩;rw[ck]at bk;have j5:0<=y/\y<s.c:=by rw[<-ck];exact⟨Int.emod_nonneg _ (by omega),Int.emod_lt_of_pos _ (by omega)⟩
    have j6:z.tmod s.c=y:=by rw[Int.tmod_eq_emod_of_nonneg b6.1];exact ck
    have wz:IntKind.i64.wrap z=z:=IntWalk.i64_in _ ⟨by omega,by omega⟩;have wy:IntKind.i64.wrap y=y:=IntWalk.i64_in _ ⟨by omega,by omega⟩;have ec:Hid (∀ X,jW wr X->jK 11 #[some g,.agg #[.int .i64 3,y,.int .i64 0,.int .i64 0,.int .i64 0,.float .f64 0]] X fun e w'=>∃ er,e= .returned (.int .i64 er)/\BA W g s Kp (yC s d1 (TL.take (j+1))) w'):=hd' fun X F=>by rw[bk];exact(fG (B.below F) D.1 (by omega) 3 y 0 0 0 0).mono fun e w' h=>⟨_,h.1,h.2⟩
    have J:Hid (Below wr.heap.size wr wr.drew):=hd' br.drew;have g9:=B.below J.out;obtain⟨c0,c1,c2,z0,lH,lL⟩:=e6 _ _ B;clear D bk B g4 ck f8;generalize yC s d1 (TL.take j)=dx at *;go_upto_region 16 with fail
    go_region_held3 (fun X=>X.cell? ⟨H,0,.none⟩=some (.int .i64 s.p)/\X.cell? ⟨H,1,.none⟩=some (.int .i64 s.c)/\X.cell? ⟨H,2,.none⟩=some (.int .i64 s.m)/\X.cell? ⟨ub,g6+j,.none⟩=some (.int .u8 z)/\H<X.heap.size/\ub<X.heap.size)
     (first|exact e6 _ _ g9|exact e6 _ _ cg)
     (first|(go_at_call 11;(with_reducible refine(ec _ J.out).mono ?_);rintro r w7 ⟨er,rfl,cg⟩))
    go_wp2_with fail;exact⟨⟨j+1,by omega,by go_num,cg⟩,by simp only[intOf];omega⟩
   obtain rfl:j=m:=by omega
   have c4:¬ (j:Int)<(j:Int):=by omega
   rw[bv]at B;obtain⟨M,gf,cm⟩:∃ M,Hid (JA s=M)/\JA s=M:=⟨_,hd' rfl,rfl⟩;have bm:=hd' (fun Y=>pN s S Y);rw[cm]at bm gd;clear cm fb f6 bv f7 c8 bb D;generalize yC s d1 TL=dT at *;have bw:=hd' fun q (hq:q<=M)=>sC (vK cj q) (show 4000+q*12<=200000 by omega);have fu:=hd' fun q=>yq9 cj fv q;have f5:=hd' (yn8 cj (i:=M) (by rw[gf];exact Nat.le_refl _))
   have cp:=hd' fun q k (hq:q<=M)=>sC (uK (bw q hq) ((rdyL (rdN s dT q)).take k)) (show 200000+((rdyL (rdN s dT q)).take k).length<=300000 by
    have h1:=ON (rdN s dT q)
    have h2:=(bw q hq).1.len
    rw[List.length_take];omega)
   have b1:=hd' fun q (hq:q<=M)=>(show (rdN s dT q).l.length<=12 by have:=(bw q hq).1.len;omega);have f3:Hid (rdN s dT 0=dT):=hd' rfl;have f4:Hid (∀ q,rdN s dT (q+1)=yC s (rdN s dT q) (rdyL (rdN s dT q))):=hd' fun q=>rfl;go_upto_region 17 with fail;clear c4 h8 hj;go_wp2;go_loopw [11] (fun es wr=>∃ q:Nat,q<=M/\es= .int .i64 q/\BA W g s Kp (rdN s dT q) wr) (fun es _=>M-(intOf es).toNat);case atStart=>exact⟨0,Nat.zero_le _,rfl,by rw[f3];exact B⟩
   case round=>
    clear B;obtain⟨q,hq,rfl,B⟩:=hrel;obtain⟨V3,rfl⟩:∃ V:World,V=wr:=⟨_,rfl⟩;obtain⟨c0,c1,c2,lH⟩:=bn _ _ B;have j0:(0:Int)<=(q:Int):=by omega
    have g7:IntKind.i64.wrap ((q:Int)+1)=(q:Int)+1:=IntWalk.i64_in _ ⟨by omega,by omega⟩;by_cases bx:q<M
    ·have bg:(q:Int)<(M:Int):=by omega
     have R:=hd' fun X (F:Below V3.heap.size V3 X)=>NR (B.below F) (by have:=b1 q hq;omega);go_upto_region 20 with(first|(go_at_call 39;refine(bm _).mono ?_;rintro r w9 ⟨rfl,ba⟩));go_upto_region 21 with(first|(go_at_call 14;(with_reducible refine(R _ ba).mono ?_);rintro r w8 ⟨v8,rfl,J,I⟩));have bi:=(B.below ba).news J;have I:w8.ownsRow w9.heap.size 3 1 v8 (rdyL (rdN s dT q)).length ((rdyL (rdN s dT q)).map (Value.int .i64)):=I;have gg:=hd' (f4 q);have fa:=hd' fun k=>cp q k hq;have g1:=ON (rdN s dT q);have g2:=b1 q hq;clear B c0 c1 c2 lH R;generalize rdyL (rdN s dT q)=LL at *;obtain⟨al,cl,rfl,ea,fh,_,O⟩:=RdS.GC I;have h9:Hid (∀ X d,BA W g s (kpN Kp w9 w8) d X->∀ i (hi:i<LL.length),∃ lb lo,al=some ⟨lb,lo,.none⟩/\X.cell? ⟨lb,lo+i,.none⟩=some (.int .i64 LL[i])/\lb<X.heap.size):=hd' fun X d F i hi=>by obtain⟨b,cb,h1,h2,h3⟩:=O (by omega);have h4:=(I.lt b (by rw[h1];rfl)).1;obtain⟨h5,h6⟩:=F.EH (o:=cb+i) h4 h2;refine⟨b,cb,h1,h5.trans ((h3 i (by omega)).trans ?_),h6⟩;rw[List.getElem?_map,List.getElem?_eq_getElem hi];rfl
     have e8:Hid (∀ X d,BA W g s (kpN Kp w9 w8) d X->BA W g s Kp d X):=hd' fun X d F=>F.imp fun k v h=>.inl h;clear I O ba J;generalize kpN Kp w9 w8=Kq at *;obtain⟨nL,g0,cx⟩:=hidv LL.length;rw[<-cx]at ea g1 ⊢;clear cx;have i8:nL<=12:=by omega
     have fc:Hid (LL.take nL=LL):=hd' (by rw[g0];exact List.take_length);have gh:Hid (∀ d,yC s d (LL.take 0)=d):=hd' fun d=>rfl;clear g1 g2;generalize rdN s dT q=dq at *;go_wp2;go_loopw [13] (fun eu wr=>∃ k:Nat,k<=nL/\eu= .int .i64 k/\BA W g s Kq (yC s dq (LL.take k)) wr) (fun eu _=>nL-(intOf eu).toNat);case atStart=>exact⟨0,Nat.zero_le _,rfl,by rw[gh];exact bi⟩
     case round=>
      clear bi;obtain⟨k,hk,rfl,B⟩:=hrel;have D:=fa k;have ix:(0:Int)<=(k:Int):=by omega
      by_cases iy:k<nL
      ·have i5:(k:Int)<(nL:Int):=by omega
       have jc:IntKind.i64.wrap ((k:Int)+1)=(k:Int)+1:=IntWalk.i64_in _ ⟨by omega,by omega⟩;have fj:k<LL.length:=by have:=g0.out;omega
       have bk:=hd' (tR (s:=s) (d:=dq) fj);obtain⟨lb,lo,rfl,z0,zl⟩:=h9 _ _ B k fj;generalize LL[k]=y at *;have ec:=hd' (fG B D.1 (by omega) 3 y 0 0 0 0);generalize yC s dq (LL.take k)=dx at *;clear D B;go_wp2_with (first|(go_at_call 11;(with_reducible refine ec.out.mono ?_);rintro r w7 ⟨rfl,cg⟩));exact⟨⟨k+1,by omega,by go_num,by rw[bk];exact cg⟩,by simp only[intOf];omega⟩
      obtain rfl:k=nL:=by omega
      have c4:¬ (k:Int)<(k:Int):=by omega
      rw[fc,<- gg]at B;have gc:=e8 _ _ B;clear D B;go_wp2_with fail;exact⟨⟨q+1,by omega,by go_num,gc⟩,by simp only[intOf];omega⟩
    obtain rfl:q=M:=by omega
    have bg:¬ (q:Int)<(q:Int):=by omega
    have G:=bw q hq;have bs:=f5.out;have eg:=fu q;have ef:=yqt G eg bs;have R:=hd' fun X (F:Below V3.heap.size V3 X)=>NR (B.below F) (by have:=b1 q hq;omega);rw[ym1 bs]at R;replace R:Hid (∀ X,jW V3 X->jK 14 #[some g] X fun e w'=>∃ ao cap,e= .returned (.slice ao 0 cap)/\Below X.heap.size X w'):=hd' fun X F=>(R X F).mono fun e w' ⟨v,h1,h2,h3⟩=>by obtain⟨ao,cap,rfl,_⟩:=RdS.GC h3;exact⟨ao,cap,h1,h2⟩
    clear bw cp b1 f4 f3 f5 fu bs g7 bx cj fv;generalize rdN s dT q=dE at *;have ii:=wrp (s.p*64);go_upto_region 25 with(first|(go_at_call 39;refine(bm _).mono ?_;rintro r w9 ⟨rfl,ba⟩));go_upto_region 27 with(first|(go_at_call 14;(with_reducible refine(R _ ba).mono ?_);rintro r w8 ⟨aR,cR,rfl,J⟩));have bi:=(B.below ba).below J;clear c0 c1 c2 lH B ba J R bm;obtain⟨c0,c1,c2,lH⟩:=bn _ _ bi;have bz:=yoi bi (s.p*64);rw[show capW (s.p*64)=s.p*64 by unfold capW;rw[jN (by omega)]]at bz;replace bz:=hd' bz;go_upto_region 28 with(first|(go_at_call 22;(with_reducible refine bz.out.mono ?_);rintro r w5 ⟨ms,rfl,e5⟩));clear c0 c1 c2 lH bi bz;obtain⟨T,hT,ch⟩:∃ T,Hid (T=dE.tr)/\dE.tr=T:=⟨_,hd' rfl,rfl⟩;have gj:T.length<=1000000:=by have:=G.1.tr;rw[ch]at this;omega
    have ej:=eg.tk;have O:=WR e5.law (by rw[ch];omega);rw[ch]at O ej ef;replace O:=hd' O;go_upto_region 29 with(first|(go_at_call 26;(with_reducible refine O.out.mono ?_);rintro r w6 ⟨v6,rfl,fg,I⟩));have f2:=e5.news fg;have R:RdE w6 v6 T:=RdS.GC I;obtain⟨al,cl,rfl,ea,fh,bc⟩:=R.nth;have fp:=I.lt;obtain⟨mt,eh,cv⟩:=hidv T.length;rw[<-cv]at ea gj ⊢;have fi:Hid (∀ X d l,LawM W g s (kpN Kp w5 w6) d ms (s.p*64) l X->∀ h (hh:h<T.length),∃ eb eo,al=some ⟨eb,eo,.none⟩/\eb<X.heap.size/\∀ k,k<8->X.cell? ⟨eb,eo+h*8+k,.none⟩=(T[h]).cells.toList[k]?):=hd' fun X d l F h hh=>by obtain⟨b,cb,h1,h2,h3⟩:=bc (fun e=>by rw[e]at hh;exact absurd hh (Nat.not_lt_zero _));have h4:=(fp b (by rw[h1];rfl)).1;exact⟨b,cb,h1,(F.law.EH (o:=0) h4 h2).2,fun k hk=>(F.law.EH (o:=cb+h*8+k) h4 h2).1.trans (h3 h hh k hk)⟩
    have fm:Hid (∀ (X:World) (d:Wd),BA W g s (kpN Kp w5 w6) d X->X.cell? ⟨H,0,.none⟩=some (.int .i64 s.p)/\X.cell? ⟨H,1,.none⟩=some (.int .i64 s.c)/\X.cell? ⟨H,2,.none⟩=some (.int .i64 s.m)/\H<X.heap.size):=hd' fun X d F=>bn X d (F.imp fun k v h=>.inl h);have e4:Hid (manL (T.take 0)= []):=hd' rfl;have cy:Hid (∀ h (hh:h<T.length),(T[h]).k=5->(T[h]).er=0->AB (s.p*64) (manL (T.take h)) (T[h]).at' (lenV (T[h]).on)=true):=hd' ej
    have fw:Hid (∀ h,h<=T.length->(manL (T.take h)).length<=h):=hd' fun h=>by
     induction h with
     |zero=>intro _;exact Nat.le_refl _
     |succ h ih=>
      intro hh
      rw[HR (by omega),YR]
      have:=ih (by omega)
      split<;>omega
    have b1:=hd' fun n Y=>xN n Y;clear cv bc fp I R e5 fg O ch ej bn eg;generalize kpN Kp w5 w6=Kq at *;go_wp2;go_loopw [16,17] (fun i3 ev wr=>∃ h:Nat,h<=mt/\i3= .int .i64 ((manL (T.take h)).length:Nat)/\ev= .int .i64 h/\LawM W g s Kq dE ms (s.p*64) (manL (T.take h)) wr) (fun _ ev _=>mt-(intOf ev).toNat);case atStart=>exact⟨0,Nat.zero_le _,by rw[e4];rfl,rfl,by rw[e4];exact f2⟩
    case round=>
     clear f2;obtain⟨h,hh,rfl,rfl,B⟩:=hrel;have iw:(0:Int)<=(h:Int):=by omega
     by_cases bx:h<mt
     ·have bg:(h:Int)<(mt:Int):=by omega
      have j9:IntKind.i64.wrap ((h:Int)+1)=(h:Int)+1:=IntWalk.i64_in _ ⟨by omega,by omega⟩;have ed:h<T.length:=eh.out ▸ bx;obtain⟨eb,eo,rfl,lE,hc⟩:=fi _ _ _ B h ed;have bh:=cy h ed;have fx:=fw h (by have:=eh.out;omega);have bp:=HR ed;obtain⟨e,he⟩:∃ e,T[h]=e:=⟨_,rfl⟩;rw[he]at hc bh bp;have x0:wr.cell? ⟨eb,eo+h*8,.none⟩=some (.int .i64 e.k):=hc 0 (by omega);have x4:wr.cell? ⟨eb,eo+h*8+2+2,.none⟩=some (.int .i64 e.on):=hc 4 (by omega);have jf:wr.cell? ⟨eb,eo+h*8+4,.none⟩=some (.int .i64 e.on):=hc 4 (by omega);have x5:wr.cell? ⟨eb,eo+h*8+5,.none⟩=some (.int .i64 e.at'):=hc 5 (by omega);have x7:wr.cell? ⟨eb,eo+h*8+7,.none⟩=some (.int .i64 e.er):=hc 7 (by omega);have N:=YR (manL (T.take h)) e;rw[<-bp]at N;by_cases b4:e.k=5/\e.er=0
      ·have b2:manL (T.take (h+1))=putB (manL (T.take h)) e.at' (lenV e.on):=by rw[bp];unfold manM;rw[jP b4]
       rw[jP b4]at N;have c7:=hd' (yob B e.at' (lenV e.on) (bh b4.1 b4.2));rw[<-b2]at c7;have b5:(e.k !=5)=false:=by rw[bne_eq_false_iff_eq];exact b4.1
       have b0:(e.er !=0)=false:=by rw[bne_eq_false_iff_eq];exact b4.2
       obtain⟨gl,iu,cs⟩:∃ gl,Hid (gl=(manL (T.take h)).length)/\(manL (T.take h)).length=gl:=⟨_,hd' rfl,rfl⟩;rw[cs]at N fx ⊢;have j8:IntKind.i64.wrap ((gl:Int)+1)=(gl:Int)+1:=IntWalk.i64_in _ ⟨by omega,by omega⟩;have U:Hid (∀ X,LawM W g s Kq dE ms (s.p*64) (manL (T.take (h+1))) X->∃ j:Nat,j<=mt/\Value.int .i64 ((gl:Int)+1)= .int .i64 ((manL (T.take j)).length:Nat)/\Value.int .i64 ((h:Int)+1)= .int .i64 j/\LawM W g s Kq dE ms (s.p*64) (manL (T.take j)) X):=hd' fun X F=>⟨h+1,by omega,by rw[N];go_num,by go_num,F⟩;clear cs N b2 bp bh hc he B b4;go_wp2_with (first|(go_at_call 19;refine(b1 _ _).mono ?_;rintro r wL ⟨rfl,i1⟩;obtain rfl:=i1.symm)|(go_at_call 28;(with_reducible refine c7.out.mono ?_);rintro r wT ⟨rfl,gb⟩));exact⟨U _ gb,by simp only[intOf];omega⟩
      have b2:manL (T.take (h+1))=manL (T.take h):=by rw[bp];unfold manM;rw[jN b4]
      have bm:¬ e.k=5\/(e.k=5/\¬ e.er=0):=by omega
      have U:Hid (∃ j:Nat,j<=mt/\Value.int .i64 ((manL (T.take h)).length:Nat)= .int .i64 ((manL (T.take j)).length:Nat)/\Value.int .i64 ((h:Int)+1)= .int .i64 j/\LawM W g s Kq dE ms (s.p*64) (manL (T.take j)) wr):=hd' ⟨h+1,by omega,by rw[b2],by go_num,by rw[b2];exact B⟩;generalize (manL (T.take h)).length=gl at *;clear N b2 bp bh hc he B b4;rcases bm with h5|⟨h5,h6⟩
      ·have b5:(e.k !=5)=true:=by rw[bne_iff_ne];exact h5
       go_wp2_with fail;exact⟨U.out,by simp only[intOf];omega⟩
      have b5:(e.k !=5)=false:=by rw[bne_eq_false_iff_eq];exact h5
      have b0:(e.er !=0)=true:=by rw[bne_iff_ne];exact h6
      replace h5:=hd' h5;go_wp2_with fail;exact⟨U.out,by simp only[intOf];omega⟩
     obtain rfl:h=mt:=by omega
     have c4:¬ (h:Int)<(h:Int):=by omega
     have b9:T.take h=T:=by rw[eh,List.take_length]
     rw[b9,<- ef]at B ⊢;clear b9 fw cy fi e4 ef;obtain⟨V2,rfl⟩:∃ V:World,V=wr:=⟨_,rfl⟩;obtain⟨L,iq,bq⟩:∃ L,Hid (L=(jdOf s dE).l)/\(jdOf s dE).l=L:=⟨_,hd' rfl,rfl⟩;have e9:=yK G;have gz:Hid (∀ v Z,RdZ .u64 Z v dE.m.ws->jK 34 #[.agg #[s.p,s.c,s.m],v] Z fun e w'=>∃ ao cap,e= .returned (.slice ao L.length cap)/\Below Z.heap.size Z w'):=hd' fun v Z hv=>by have h1:=qK G v Z hv;rw[bq]at h1;exact h1.mono fun e w' ⟨q1,ao,cap,q2,_⟩=>⟨ao,cap,q2,q1⟩
     rw[bq]at B e9 ⊢;have el:Hid (∀ Z,jW V2 Z->jK 15 #[some g] Z fun e w'=>∃ v',e= .returned v'/\Below Z.heap.size Z w'/\RdZ .u64 w' v' dE.m.ws):=hd' fun Z hZ=>SI (B.law.below hZ)
     have c9:Hid (∃ f l o:Int,∀ v X,RdZ .u64 X v dE.m.ws->jK 37 #[.agg #[s.p,s.c,s.m],v] X fun e w'=>e= .returned (.agg #[f,.int .i64 (MB L),l,o])/\Below X.heap.size X w'):=hd' (by
      obtain⟨_,σ,hw,_⟩:=id G
      have h2:=Hp.yoy (TI hw.rep hw.gi)
      refine⟨(hpOf s dE.m).count.f,(hpOf s dE.m).count.l,(hpOf s dE.m).count.o,fun v X hv=>?_⟩
      have h1:=fK (hpOf s dE.m) v X hv G.1.fit
      rw[<-h2,e9]at h1
      exact h1)
     have hg:Hid (∀ v X,RdZ .u64 X v dE.m.ws->jK 35 #[.agg #[s.p,s.c,s.m],v] X fun e w'=>e= .returned (.bool true)/\Below X.heap.size X w'):=hd' fun v X hv=>by obtain⟨_,σ,hw,_⟩:=id G;exact LN (hpOf s dE.m) v X hv G.1.fit (TI hw.rep hw.gi) (UN hw.rep hw.gi)
     have hp:=hd' fun Z (hZ:Below V2.heap.size V2 Z)=>ynw (B.below hZ);have hK:Hid (∀ Z,jW V2 Z->Z.cell? ⟨H,0,.none⟩=some (.int .i64 s.p)/\Z.cell? ⟨H,1,.none⟩=some (.int .i64 s.c)/\Z.cell? ⟨H,2,.none⟩=some (.int .i64 s.m)/\H<Z.heap.size):=hd' fun Z hZ=>fm _ _ (B.law.below hZ);have hE:=hd' B.law.ab;obtain⟨cf,im,co,c9⟩:=c9.out;replace c9:=hd' c9;have J:Hid (Below V2.heap.size V2 V2.drew):=hd' br.drew;obtain⟨c0,c1,c2,lH⟩:=hK _ br;clear B fm bq e9 G;generalize MB L=ub at *;generalize L.length=nl at *;go_upto_region 38 with fail
     go_region_held3 (fun Y=>Y.cell? ⟨H,0,.none⟩=some (.int .i64 s.p)/\Y.cell? ⟨H,1,.none⟩=some (.int .i64 s.c)/\Y.cell? ⟨H,2,.none⟩=some (.int .i64 s.m)/\H<Y.heap.size)
      (first|exact hK _ J.out|exact hK _ ex|exact hK _ cd|exact hK _ e1|exact hK _ b8|exact hK _ e0|exact hK _ cc|exact hK _ cz)
      (first|(go_at_call 15;(with_reducible refine(el _ b8).mono ?_);rintro r wD ⟨vD,rfl,gs,i0⟩;have e1:=b8.trans (gs.mono b8.size))|(go_at_call 15;(with_reducible refine(el _ cc).mono ?_);rintro r wC ⟨vC,rfl,gr,hx⟩;have e0:=cc.trans (gr.mono cc.size))|(go_at_call 15;(with_reducible refine(el _ J.out).mono ?_);rintro r wA ⟨vA,rfl,gp,hs⟩;have cz:=J.out.trans (gp.mono J.out.size))|(go_at_call 34;refine(gz _ _ hs).mono ?_;rintro r wB ⟨aB,cB,rfl,gq⟩;have cc:=cz.trans (gq.mono cz.size))|(go_at_call 35;refine(hg _ _ hx).mono ?_;rintro r wS ⟨rfl,gv⟩;have b8:=e0.trans (gv.mono e0.size))|(go_at_call 37;refine(c9 _ _ i0).mono ?_;rintro r wN ⟨rfl,gu⟩;have cd:=e1.trans (gu.mono e1.size))|(go_at_call 40;(with_reducible refine(hp _ cd).mono ?_);rintro r wU ⟨rfl,gw⟩;have ex:=cd.trans (gw.mono cd.size)))
     go_wp2_with fail;go_returns;exact⟨rfl,hE.out.trans (ex.mono hE.out.size)⟩
end Go.Proofs.YtkilokkopbajkaaGreat
